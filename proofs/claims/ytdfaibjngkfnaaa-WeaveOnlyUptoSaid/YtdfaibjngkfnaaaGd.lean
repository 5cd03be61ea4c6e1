/- Contracts. -/
import Derived.Test.YtdfaibjngkfnaaaGc
import Derived.Test.YtdfaibjngkfnaaaGb
set_option linter.unusedVariables false
set_option linter.unusedSimpArgs false
set_option linter.defProp false
namespace Go.Sx
open Go.Dx Go.Proofs
theorem _root_.Go.Dx.St.addLast {m0 m : M} {σ : List (Nat × List Value)} (h : St m0 m σ) {B1 B2 : Nat} {l1 l2 : List Value} (h1 : Arr m B1 l1) (h2 : Arr m B2 l2) (k1 : ∀ p ∈ σ, p.1 < B1) (k2 : ∀ p ∈ σ, p.1 < B2) (a1 : m0.n ≤ B1) (b1 : B1 < m.n) (a2 : m0.n ≤ B2) (b2 : B2 < m.n) (hlt : B1 < B2) : St m0 m (σ ++ [(B1, l1), (B2, l2)]) := by
 refine ⟨h.ext, h.base, fun p hp => ?_, ?_⟩
 ·rcases qax.1 hp with hp | hp
  ·exact h.arr p hp
  ·rcases List.mem_cons.1 hp with rfl | hp
   ·exact ⟨a1, b1, h1⟩
   ·rw [qah.1 hp]; exact ⟨a2, b2, h2⟩
 ·rw [List.map_append, List.nodup_append]
  refine ⟨h.nd, by simp; omega, fun a ha b hb => ?_⟩
  obtain ⟨p, hp, rfl⟩ := List.mem_map.1 ha
  have := k1 p hp
  have := k2 p hp
  simp at hb
  omega
theorem _root_.Go.Dx.St.restTo {m0 m m' : M} {σ : List (Nat × List Value)} (h : St m0 m σ) (k : Nat) {b : Nat} {l l' : List Value} (hk : σ[k]? = some (b, l)) (hr : Dx.Rest m.n [b] m m') (ha : Arr m' b l') : St m0 m' (σ.set k (b, l')) := by
 obtain ⟨hk', hke⟩ := qac.1 hk
 obtain ⟨hb0, hb1, _⟩ := h.get k hk
 have hn := h.ext.n
 refine ⟨⟨qam hn hr.n, fun X hX => by rw [hr.obj X (by omega) (by simp; omega)]; exact h.ext.obj X hX, by rw [hr.base, h.ext.base], by rw [hr.log, h.ext.log]⟩, h.base, fun p hp => ?_, ?_⟩
 ·obtain ⟨j, hj, rfl⟩ := List.getElem_of_mem hp
  rw [List.getElem_set]
  rw [List.length_set] at hj
  split
  ·exact ⟨hb0, qaf hb1 hr.n, ha⟩
  ·rename_i hne
   obtain ⟨h1, h2, h3⟩ := h.arr _ (List.getElem_mem hj)
   exact ⟨h1, qaf h2 hr.n, h3.congr (hr.obj _ h2 (by simp; exact fun e => hne (xj h.nd (qaa hj) hk e).symm))⟩
 ·have : (σ.set k (b, l')).map (·.1) = σ.map (·.1) := by
   rw [List.map_set]
   show (σ.map (·.1)).set k b = _
   refine List.ext_getElem (by simp) fun i h1 h2 => ?_
   rw [List.getElem_set]
   split
   ·subst_vars; simp [hke]
   ·rfl
  rw [this]; exact h.nd
theorem Vp (es : List (Int × Int)) (n N k : Nat) (s : LS) (i : Nat) (h : s.th.length = n ∧ s.ce.length = n ∧ s.wr.length = N ∧ s.t ≤ k ∧ s.c ≤ k ∧ ∀ x ∈ s.wr, x ≤ k) :
  (wF es N s i).th.length = n ∧ (wF es N s i).ce.length = n ∧ (wF es N s i).wr.length = N ∧ (wF es N s i).t ≤ k + 1 ∧ (wF es N s i).c ≤ k + 1 ∧ ∀ x ∈ (wF es N s i).wr, x ≤ k + 1 := by
 obtain ⟨h1, h2, h3, h4, h5, h6⟩ := h
 have hget : s.wr.getD (s.c % N) 0 ≤ k := by
  rw [List.getD_eq_getElem?_getD]
  cases hg : s.wr[s.c % N]? with
  | none => simp
  | some x => exact h6 x (qab hg)
 refine ⟨by simp [wF, h1], by simp [wF, h2], by unfold wF; split <;> simp [h3], by show (if qx es i then s.t + 1 else s.t) ≤ k + 1; split <;> omega, by show (if qx es i then s.c else s.c + 1) ≤ k + 1; split <;> omega, fun x hx => ?_⟩
 unfold wF at hx
 simp only at hx
 split at hx
 ·rcases List.mem_or_eq_of_mem_set hx with h | rfl
  ·have := h6 x h; omega
  ·omega
 ·have := h6 x hx; omega
theorem Qi (es : List (Int × Int)) (n N : Nat) : ∀ (l : List Nat) (k : Nat) (s : LS), (s.th.length = n ∧ s.ce.length = n ∧ s.wr.length = N ∧ s.t ≤ k ∧ s.c ≤ k ∧ ∀ x ∈ s.wr, x ≤ k) →
  (l.foldl (wF es N) s).th.length = n ∧ (l.foldl (wF es N) s).ce.length = n ∧ (l.foldl (wF es N) s).wr.length = N ∧ (l.foldl (wF es N) s).t ≤ k + l.length ∧ (l.foldl (wF es N) s).c ≤ k + l.length ∧ ∀ x ∈ (l.foldl (wF es N) s).wr, x ≤ k + l.length
 | [], k, s, h => h
 | i :: l, k, s, h => by
  have := Qi es n N l (k + 1) _ (Vp es n N k s i h)
  rw [List.foldl_cons, List.length_cons, show k + (l.length + 1) = k + 1 + l.length by omega]
  exact this
set_option maxHeartbeats 1000000 in
theorem lay_c (n : Nat) (ed md : Value) (es : List (Int × Int)) (ms : List Int) (m : M) (hm : m.base ≤ m.n) (hl : es.length < 9223372036854775807) (hed : Rd m ed 2 edgeRow es) (hmd : Rd m md 1 modeRow ms) (ch : Nat → List Nat)
  (hch : (wn es ms).2 = 0 → ∀ c, c < es.length - cnt es → km es (zY es (es.length - cnt es) (qF es (qM es))).ce (qM es) c (ch c)) :
  Dx.Call (ex Try.prog (n + 8)) 38 [.agg #[ed, md]] m (layQ es ms (za es ch (List.replicate es.length 0) (es.length - cnt es))) := by
 refine qE da8_ok (by simp) ?_
 obtain ⟨va, hva⟩ := qay (za es ch (List.replicate es.length 0) (es.length - cnt es))
 rw [← hva]
 have st0 : St m m [] := St.nil hm (Ext.refl m)
 have st1 := (((st0.row [ed, md]).row [.pointer none]).row [.int .i64 0]).row [.int .i64 0]
 simp only [qn] at st1
 obtain ⟨m1, hm1⟩ := qay (Dx.newRow (Dx.newRow (Dx.newRow (Dx.newRow m [ed, md]) [.pointer none]) [.int .i64 0]) [.int .i64 0])
 rw [← hm1] at st1
 have lb : ∀ m', St m m' [(m.n + 3, [.int .i64 0]), (m.n + 2, [.int .i64 0]), (m.n + 1, [.pointer none]), (m.n, [ed, md])] → loads m' ⟨m.n, 0, none⟩ 2 = some [ed, md] := fun m' h => (h.get 3 rfl).2.2.loads (by simp)
 obtain ⟨v2, m2, p1, p2, rfl⟩ := Dj (n + 2) ed md es ms m1 st1.sees.base hl (hed.sees st1.sees) (hmd.sees st1.sees)
 obtain ⟨q1, hq1⟩ := qay ((wb es ms).1)
 obtain ⟨q2, hq2⟩ := qay ((wb es ms).2)
 rw [← hq1, ← hq2] at p1
 have st2 := st1.step p2
 have lb1 := lb m1 st1
 simp
 rw [← hm1]
 by_cases z : q2 = 0
 rotate_left
 ·obtain ⟨m3, s1, s2, s3, s4⟩ := st2.store 2 rfl (o := 0) (v := .pointer none) (by simp) rfl
  obtain ⟨m4, r1, r2, r3, r4⟩ := s2.store 1 rfl (o := 0) (v := iv q1) (by simp) rfl
  obtain ⟨m5, u1, u2, u3, u4⟩ := r2.store 0 rfl (o := 0) (v := iv q2) (by simp) rfl
  simp [lb1, ql, p1, z, s1, r1, u1]
  have ld := u2.loads
  simp [vk] at ld
  refine fF (by simp) (by simp) (by simp) (ld.2.2.1 0 none) (ld.2.1 0 none) (ld.1 0 none) u2.ext (.inl ?_)
  have : wn es ms = (q1, q2) := by unfold wn; rw [if_pos (by rw [← hq2]; exact z), hq1, hq2]
  rw [this]; exact ⟨z, rfl⟩
 subst z
 obtain ⟨hl16, hml⟩ := kT hq2.symm
 have hok := vY hq2.symm
 have hel := hed.len
 have ld2 := st2.loads
 simp [vk] at ld2
 obtain ⟨v1, m3', c1, c2, c3, c4⟩ := Yi (n + 6) ed es (by unfold most; omega) (qh m2) (by simp [wI]) (hed.sees (dw st2.sees))
 have st3 := st2.behind c2
 obtain ⟨M3, hM3⟩ := qay (behind m2 m3')
 rw [← hM3] at st3
 obtain ⟨v2, m4', d1, d2, d3, d4⟩ := Yj (n + 6) md ms (by unfold most; omega) (qh M3) (by simp [wI]) (hmd.sees (dw st3.sees))
 have st4 := st3.behind d2
 obtain ⟨M4, hM4⟩ := qay (behind M3 m4')
 rw [← hM4] at st4
 obtain ⟨a1, k1, b1, hv1⟩ : ∃ a k b, v1 = .slice a k b := by
  have := c3.len
  cases v1 with
  | slice a k b => exact ⟨_, _, _, rfl⟩
  | _ => cases this
 obtain ⟨a2, k2, b2, hv2⟩ : ∃ a k b, v2 = .slice a k b := by
  have := d3.len
  cases v2 with
  | slice a k b => exact ⟨_, _, _, rfl⟩
  | _ => cases this
 have hR1 : Rd M4 v1 2 edgeRow es := by
  have h3 : Rd M3 v1 2 edgeRow es := c3.congr (by rw [hM3, qV]; exact qad _) (fun B _ => by rw [hM3, qA])
  have : Ext M3 M4 := by rw [hM4]; exact d2.behind
  exact h3.congr this.n fun B hB => this.obj B (h3.lt B hB)
 have hR2 : Rd M4 v2 1 modeRow ms := d3.congr (by rw [hM4, qV]; exact qad _) (fun B _ => by rw [hM4, qA])
 have ld3 := st3.loads
 simp [vk] at ld3
 have mk := fun m' => be (n := es.length) (by omega) m'
 have hb1 : ko [.slice none 0 0, .slice none 0 0] [(0, 1, v1), (1, 1, v2)] = some (.agg ⟨[v1, v2]⟩) := by rw [hv1, hv2]; rfl
 have hb2 : ∀ A, ko [.slice none 0 0, .slice none 0 0, .int .i64 0, .int .i64 0, .int .i64 0, .slice none 0 0, .slice none 0 0, .slice none 0 0, .slice none 0 0]
   [(0, 2, .agg ⟨[v1, v2]⟩), (5, 1, .slice (some ⟨A, 0, some 3⟩) es.length es.length), (6, 1, .slice (some ⟨A + 1, 0, some 3⟩) es.length es.length), (7, 1, .slice (some ⟨A + 1 + 1, 0, some 3⟩) es.length es.length)] =
   some (.agg ⟨[v1, v2, .int .i64 0, .int .i64 0, .int .i64 0, .slice (some ⟨A, 0, some 3⟩) es.length es.length, .slice (some ⟨A + 1, 0, some 3⟩) es.length es.length, .slice (some ⟨A + 1 + 1, 0, some 3⟩) es.length es.length, .slice none 0 0]⟩) := fun A => rfl
 obtain ⟨rest, hrest, str⟩ : ∃ rest : List (Nat × List Value), (rest = [] ∧ es = [] ∨ ∃ B1 B2, rest = [(B1, es.flatMap edgeRow), (B2, ms.flatMap modeRow)] ∧ v1 = .slice (some ⟨B1, 0, some (code 2 false)⟩) es.length es.length ∧ v2 = .slice (some ⟨B2, 0, some (code 1 false)⟩) ms.length ms.length) ∧
   St m M4 ([(m.n + 1 + 1 + 1, [.int .i64 0]), (m.n + 1 + 1, [.int .i64 0]), (m.n + 1, [.pointer none]), (m.n, [ed, md])] ++ rest) := by
  by_cases hne : es = []
  ·exact ⟨[], .inl ⟨rfl, hne⟩, by simpa using st4⟩
  ·have hnm : ms ≠ [] := by rintro rfl; exact hne (List.length_eq_zero_iff.1 (by simpa using hml.symm))
   obtain ⟨B1, e1⟩ := c4.2 hne
   obtain ⟨B2, e2⟩ := d4.2 hnm
   have hB1 := c4.1 B1 (by rw [e1]; rfl)
   have hB2 := d4.1 B2 (by rw [e2]; rfl)
   rw [qz] at hB1 hB2
   have lB1 := c3.lt B1 (by rw [e1]; rfl)
   have lB2 := d3.lt B2 (by rw [e2]; rfl)
   have nM3 : M3.n = m3'.n := by rw [hM3, qV]
   have nM4 : M4.n = m4'.n := by rw [hM4, qV]
   have EM : Ext M3 M4 := by rw [hM4]; exact d2.behind
   have hA1 : Arr M4 B1 (es.flatMap edgeRow) := by
    have : Arr M3 B1 (es.flatMap edgeRow) := hB1.2.congr (by rw [hM3, qA])
    exact this.ext EM (by omega)
   have hA2 : Arr M4 B2 (ms.flatMap modeRow) := hB2.2.congr (by rw [hM4, qA])
   have hk2 := st2.arr
   refine ⟨_, .inr ⟨B1, B2, rfl, e1, e2⟩, st4.addLast hA1 hA2 ?_ ?_ (by have := st2.ext.n; omega) (by have := EM.n; omega) (by have := st3.ext.n; omega) (by omega) (by omega)⟩
   ·intro p hp; have := (hk2 p hp).2.1; omega
   ·intro p hp; have := (hk2 p hp).2.1; have := c2.n; rw [qz] at this; omega
 have st5 := ((((str.row (nums (List.replicate es.length 0))).row (nums (List.replicate es.length 0))).row (nums (List.replicate es.length 0))).row [v1, v2, .int .i64 0, .int .i64 0, .int .i64 0, .slice (some ⟨M4.n, 0, some 3⟩) es.length es.length, .slice (some ⟨M4.n + 1, 0, some 3⟩) es.length es.length, .slice (some ⟨M4.n + 1 + 1, 0, some 3⟩) es.length es.length, .slice none 0 0]).row [.pointer none]
 simp only [qn] at st5
 obtain ⟨m6', s1, s2, s3, s4, s5⟩ := st5.storeAny 0 rfl (o := 0) (v := .pointer (some ⟨M4.n + 1 + 1 + 1, 0, none⟩)) (by simp) rfl
 obtain ⟨M6, hM6⟩ := qay (behind (Dx.newRow (Dx.newRow (Dx.newRow (Dx.newRow (Dx.newRow M4 (nums (List.replicate es.length 0))) (nums (List.replicate es.length 0))) (nums (List.replicate es.length 0))) [v1, v2, .int .i64 0, .int .i64 0, .int .i64 0, .slice (some ⟨M4.n, 0, some 3⟩) es.length es.length, .slice (some ⟨M4.n + 1, 0, some 3⟩) es.length es.length, .slice (some ⟨M4.n + 1 + 1, 0, some 3⟩) es.length es.length, .slice none 0 0]) [.pointer none]) m6')
 rw [← hM6] at s3 s4 s5
 obtain ⟨u, hu⟩ : ∃ u : LB, u = ⟨m.n, m.n + 1, m.n + 1 + 1, m.n + 1 + 1 + 1, M4.n, M4.n + 1, M4.n + 1 + 1, M4.n + 1 + 1 + 1, M4.n + 1 + 1 + 1 + 1, ed, md, v1, v2, es.length, rest⟩ := ⟨_, rfl⟩
 have st6 : St m M6 (u.σ 0 0 0) := by rw [hu]; exact s3
 have ld6 := (st6.get 8 rfl).2.2.load1
 have e0 : u.c0 = m.n := by rw [hu]
 have eed : u.ed = ed := by rw [hu]
 rw [e0, eed] at ld6
 simp [lb1, ql, p1, ld2, hel, c1, ← hM3, ld3, d1, ← hM4, hb1, mk, hb2, s1, c2.quietLog, d2.quietLog, ← hM6, ld6]
 refine Vk (n + 6) u es hl16 m M6 (by rw [eed]; exact hed) (Ret m _) _ _ _ _ ?_ ?_ ?_ ?_ st6 (fun t7 M7 hT7 st7 => ?_)
 ·rw [hu]; exact ⟨by simp, by simp, by simp, by simp, by simp⟩
 ·rw [eed]; simp
 ·simp
 ·simp
 obtain ⟨h1, h2, h3, h4, h8⟩ := hT7
 obtain ⟨A, hA⟩ := qay (cnt es)
 obtain ⟨N, hN⟩ := qay (es.length - cnt es)
 rw [← hN, ← hA] at st7
 have ld7 := st7.loads
 simp [vk, LB.σ, LB.pl] at ld7
 have egr : (A < 2 ∨ N < 1) → wn es ms = (0, 4) := fun h => by unfold wn; rw [if_neg (by rw [← hq2]; simp), if_pos (by rw [← hN, ← hA]; exact h)]
 by_cases a1 : A < 2 ∨ N < 1
 ·obtain ⟨m8, w1, w2, w3, w4⟩ := st7.store 7 rfl (o := 0) (v := .pointer none) (by simp) rfl
  obtain ⟨m9, x1, x2, x3, x4⟩ := w2.store 6 rfl (o := 0) (v := iv 0) (by simp) rfl
  obtain ⟨m10, y1, y2, y3, y4⟩ := x2.store 5 rfl (o := 0) (v := iv 4) (by simp) rfl
  have fin : ∀ t, Tm.get 2 t = .pointer (some ⟨u.r2, 0, none⟩) → Tm.get 3 t = .pointer (some ⟨u.r3, 0, none⟩) → Tm.get 4 t = .pointer (some ⟨u.r4, 0, none⟩) → Ret m (layQ es ms va) (zV [.one 2, .one 3, .one 4] t m10) := fun t g2 g3 g4 => by
   refine fF g2 g3 g4 (by rw [(y2.get 7 rfl).2.2.load1]; rfl) (by rw [(y2.get 6 rfl).2.2.load1]; rfl) (by rw [(y2.get 5 rfl).2.2.load1]; rfl) y2.ext (.inl ?_)
   rw [egr a1]; exact ⟨by simp, rfl⟩
  by_cases a2 : A < 2
  ·have d1 : ((A : Int) < 2) = True := eq_true (by omega)
   simp [h2, h3, h4, h8, ld7, d1, a2, w1, x1, y1]
   exact fin _ (by simp [h2]) (by simp [h3]) (by simp [h4])
  ·have d1 : ((A : Int) < 2) = False := eq_false (by omega)
   have d2 : ((N : Int) < 1) = True := eq_true (by omega)
   simp [h2, h3, h4, h8, ld7, d1, d2, a2, w1, x1, y1]
   exact fin _ (by simp [h2]) (by simp [h3]) (by simp [h4])
 have d1 : ((A : Int) < 2) = False := eq_false (by omega)
 have d2' : ((N : Int) < 1) = False := eq_false (by omega)
 have hlA : wn es ms = match gn es N (qF es (qM es)) (zI es.length N) with
  | some i => (i, 2)
  | none => (0, 0) := by unfold wn; rw [if_neg (by rw [← hq2]; simp), if_neg (by rw [← hN, ← hA]; exact a1), ← hN] <;> rfl
 simp [h2, h3, h4, h8, ld7, d1, d2']
 have hcl : A ≤ es.length := by rw [hA]; unfold cnt; exact List.countP_le_length
 have hne : es ≠ [] := by rintro rfl; simp [cnt] at hA; omega
 obtain ⟨B1, B2, hr, hv1e, hv2e⟩ : ∃ B1 B2, rest = [(B1, es.flatMap edgeRow), (B2, ms.flatMap modeRow)] ∧ v1 = .slice (some ⟨B1, 0, some (code 2 false)⟩) es.length es.length ∧ v2 = .slice (some ⟨B2, 0, some (code 1 false)⟩) ms.length ms.length := by
  rcases hrest with ⟨_, h⟩ | h
  ·exact absurd h hne
  ·exact h
 have euv1 : u.v1 = .slice (some ⟨B1, 0, some (code 2 false)⟩) es.length es.length := by rw [hu]; exact hv1e
 have euv2 : u.v2 = .slice (some ⟨B2, 0, some (code 1 false)⟩) ms.length ms.length := by rw [hu]; exact hv2e
 have eun : u.n = es.length := by rw [hu]
 have eur : u.rest = [(B1, es.flatMap edgeRow), (B2, ms.flatMap modeRow)] := by rw [hu]; exact hr
 have hb := gX (es := es) (by omega)
 obtain ⟨b, hbe⟩ := qay (qM es)
 rw [← hbe] at hb hlA
 have hbl : b < es.length := by unfold first at hb; rw [List.find?_range_eq_some] at hb; simpa using hb.2.1
 refine Vj (n + 6) u es hl16 m M7 (by rw [eed]; exact hed) (fun _ _ => trivial) (fun _ _ _ _ _ => by rw [euv1]; rfl) A N b hb (Ret m _) _ _ _ _ ?_ st7 (fun t9 M9 hT9 st9 => ?_)
 ·exact ⟨by simp [h1], by simp [h2], by simp [h3], by simp [h4], by simp [h8]⟩
 obtain ⟨h1, h2, h3, h4, h8⟩ := hT9
 have ld9 := st9.loads
 simp [vk, LB.σ, LB.pl] at ld9
 have mkN := be (n := N) (by omega) M9
 have st10 := st9.row (nums (List.replicate N 0))
 obtain ⟨m11', w1, w2, w3, w4, w5⟩ := st10.storeAny 2 rfl (o := 8) (v := .slice (some ⟨M9.n, 0, some 3⟩) N N) (by simp [LB.pl]) rfl
 obtain ⟨M11, hM11⟩ := qay (behind (Dx.newRow M9 (nums (List.replicate N 0))) m11')
 rw [← hM11] at w3 w4 w5
 have st12 := (w3.row [.int .i64 0]).row [.int .i64 0]
 rw [qn] at st12
 obtain ⟨M13, x1, x2, x3, x4⟩ := st12.store 1 rfl (o := 0) (v := iv 0) (by simp) rfl
 obtain ⟨M14, y1, y2, y3, y4⟩ := x2.store 0 rfl (o := 0) (v := iv 0) (by simp) rfl
 have lq : ∀ s, load1 M14 ⟨u.q8, 0, s⟩ = some (.pointer (some ⟨u.PB, 0, none⟩)) := fun s => by rw [(y2.get 3 rfl).2.2.load1]; rfl
 have hwk := dD (n + 6) ⟨u.PB, 0, none⟩ M14
 simp [h1, h2, h3, h4, h8, ld9, mkN, w1, w2, ← hM11, x1, y1, lq, hwk]
 obtain ⟨M15, hM15⟩ := qay (Dx.newRow M14 [.pointer (some ⟨u.PB, 0, none⟩)])
 have st15 := y2.row [.pointer (some ⟨u.PB, 0, none⟩)]
 rw [← hM15] at st15 ⊢
 have n15 : M15.n = M14.n + 1 := by rw [hM15, qn]
 obtain ⟨v, hv⟩ : ∃ v : LC, v = { u with A8 := M9.n, k11 := M11.n, k12 := M11.n + 1, W := M14.n, N := N, b := b } := ⟨_, rfl⟩
 have evu : v.toLB = u := by rw [hv]
 have evN : v.N = N := by rw [hv]
 have stv : St m M15 (v.σ2 (zI es.length N) (.pointer none) (iv 0) (iv 0)) := by
  have e : u.n - N = A := by omega
  have : v.σ2 (zI es.length N) (.pointer none) (iv 0) (iv 0) = [(M14.n, [.pointer (some ⟨u.PB, 0, none⟩)]), (M11.n + 1, [iv 0]), (M11.n, [iv 0]), (M9.n, nums (List.replicate N 0)), (u.q8, [.pointer (some ⟨u.PB, 0, none⟩)]), (u.PB, u.pl b A N (.slice (some ⟨M9.n, 0, some 3⟩) N N)),
    (u.A7, nums (List.replicate u.n 0)), (u.A6, nums (List.replicate u.n 0)), (u.A5, nums (List.replicate u.n 0)), (u.r4, [iv 0]), (u.r3, [iv 0]), (u.r2, [.pointer none]), (u.c0, [u.ed, u.md])] ++ u.rest := by
   rw [hv]; unfold LC.σ2 zI; rw [← eun]; simp only [e]; rfl
  rw [this]; exact st15
 generalize hT0 : Tm.set 105 _ _ = T0
 have T0' : LT v.toLB T0 := by rw [evu, ← hT0]; exact ⟨by simp [h1], by simp [h2], by simp [h3], by simp [h4], by simp [h8]⟩
 have t11 : Tm.get 11 T0 = .pointer (some ⟨v.k11, 0, none⟩) := by rw [← hT0, hv]; simp
 have t12 : Tm.get 12 T0 = .pointer (some ⟨v.k12, 0, none⟩) := by rw [← hT0, hv]; simp
 have t105 : Tm.get 105 T0 = .func (.func 71) #[] #[.pointer (some ⟨v.W, 0, none⟩)] := by rw [← hT0, hv]; simp
 clear hT0
 obtain ⟨T, hT⟩ := qay (zr [12, 11, 8, 4, 3, 2, 1] T0)
 have kp : ∀ i, i ∈ [12, 11, 8, 4, 3, 2, 1] → Tm.get i T = Tm.get i T0 := fun i hi => by
  rw [hT]; exact jw i (by simp at hi; omega) T0 _ (by simp) hi
 have T' : LT v.toLB T := ⟨(kp 1 (by simp)).trans T0'.t1, (kp 2 (by simp)).trans T0'.t2, (kp 3 (by simp)).trans T0'.t3, (kp 4 (by simp)).trans T0'.t4, (kp 8 (by simp)).trans T0'.t8⟩
 have T11 := (kp 11 (by simp)).trans t11
 have T12 := (kp 12 (by simp)).trans t12
 obtain ⟨ca, hca⟩ : ∃ ca : Code, ca = (cL (cL (cR (cL (cR (cR (cR (cR (cR (cR (cR (cR (cR (qN Try.f38)))))))))))))) := ⟨_, rfl⟩
 obtain ⟨cb, hcb⟩ : ∃ cb : Code, cb = (cR (cL (cR (cL (cR (cR (cR (cR (cR (cR (cR (cR (cR (qN Try.f38)))))))))))))) := ⟨_, rfl⟩
 have ha := VV
 have hbb := Yc
 rw [← hca] at ha; rw [← hcb] at hbb
 obtain ⟨mE, hmE⟩ := qay (M15.alloc (.loop 0 T 173 #[106] ca cb none))
 have nE : mE.n = M15.n + 1 := by rw [hmE, M.n_alloc]
 have EE : Ext M15 mE := by rw [hmE]; exact ⟨by rw [M.n_alloc]; omega, fun X hX => by rw [M.obj_alloc, if_neg (by omega)], M.base_alloc _ _, M.log_alloc _ _⟩
 have stE := stv.step EE
 have obE : mE.obj M15.n = some (.loop 0 T 173 #[106] ca cb none) := by rw [hmE, M.obj_alloc, if_pos rfl]
 have hkeys : ∀ s' (x y z : Value), ∀ p ∈ v.σ2 s' x y z, p.1 ≠ M15.n := fun s' x y z p hp => by
  have h2 : (v.σ2 s' x y z).map (·.1) = (v.σ2 (zI es.length N) (.pointer none) (iv 0) (iv 0)).map (·.1) := rfl
  have hb : p.1 ∈ (v.σ2 s' x y z).map (·.1) := List.mem_map.2 ⟨_, hp, rfl⟩
  rw [h2] at hb
  obtain ⟨p', hp', e⟩ := List.mem_map.1 hb
  have := (stv.arr p' hp').2.1
  omega
 have hm15 : m.n ≤ M15.n := stv.ext.n
 let S : Nat → LS := fun k => ((qF es b).take k).foldl (wF es N) (zI es.length N)
 have hol : (qF es b).length = es.length := by unfold qF; simp
 have hSi : ∀ k, k ≤ es.length → (S k).th.length = es.length ∧ (S k).ce.length = es.length ∧ (S k).wr.length = N ∧ (S k).t ≤ 1000 ∧ (S k).c ≤ 1000 ∧ ∀ x ∈ (S k).wr, x ≤ 1000 := fun k hk => by
  have := Qi es es.length N ((qF es b).take k) 0 (zI es.length N) ⟨by simp [zI], by simp [zI], by simp [zI], by simp [zI], by simp [zI], fun x hx => by simp [zI] at hx; omega⟩
  rw [List.length_take, hol, Nat.min_eq_left hk] at this
  obtain ⟨i1, i2, i3, i4, i5, i6⟩ := this
  exact ⟨i1, i2, i3, by simp only [S]; omega, by simp only [S]; omega, fun x hx => by have := i6 x hx; omega⟩
 have hedv : Rd m v.ed 2 edgeRow es := by rw [evu, eed]; exact hed
 have hwalk := bu (n + 6) (.func (.yield M15.n) #[] #[]) v.PB v.W b es.length (by omega) (by omega) hbl
  (fun k m' => St m m' (v.σ2 (S k) (.pointer none) (iv 0) (iv 0)) ∧ m'.obj M15.n = some (.loop 0 T 173 #[106] ca cb none) ∧ M15.n < m'.n ∧ gn es N (qF es b) (zI es.length N) = gn es N ((qF es b).drop k) (S k))
  (fun m' => ∃ (s' : LS) (i : Nat), St m m' (v.σ2 s' (.pointer none) (iv i) (iv 2)) ∧ m'.obj M15.n = some (.loop 2 T 173 #[106] ca cb (some .ret)) ∧ gn es N (qF es b) (zI es.length N) = some i)
  (fun k m' _ h => ⟨by rw [(h.1.get 0 rfl).2.2.load1]; rfl, ⟨v.v1, by rw [(h.1.get 5 rfl).2.2.load1]; rfl, by rw [evu, euv1]; rfl⟩, by rw [(h.1.get 5 rfl).2.2.load1, hv]; rfl⟩)
  (fun k m' hk h => by
   obtain ⟨st, hob, hLn, hE⟩ := h
   obtain ⟨i, hi⟩ := qay ((b + k) % es.length)
   have hil : i < es.length := by rw [hi]; exact Nat.mod_lt _ (by omega)
   rw [← hi]
   have hki : (qF es b)[k]? = some i := by
    rw [hi]; unfold qF; rw [qaq, List.getElem?_range hk]; rfl
   have hdrop : (qF es b).drop k = i :: (qF es b).drop (k + 1) := by
    obtain ⟨h, e⟩ := qac.1 hki
    rw [List.drop_eq_getElem_cons h, e]
   have hSk : S (k + 1) = wF es N (S k) i := by
    obtain ⟨h, e⟩ := qac.1 hki
    simp only [S]
    rw [List.take_succ_eq_append_getElem h, List.foldl_append, e]; rfl
   rw [hdrop, gn] at hE
   obtain ⟨i1, i2, i3, i4, i5, i6⟩ := hSi k (by omega)
   have hrd := xq (P := Try.prog) (n := n + 5) (L := M15.n) (args := [iv i]) (t' := Tm.set 106 (iv i) T) (t'' := Tm.set 13 (iv i) (Tm.set 106 (iv i) T)) (m := m')
    (R := fun e m2 => m'.n ≤ m2.n ∧ ((e = none ∧ ¬ (qy es i = true ∧ 2 < (S k).wr.getD ((S k).c % v.N) 0 + 1) ∧ St m m2 (v.σ2 (wF es v.N (S k) i) (.pointer none) (iv 0) (iv 0))) ∨
     (e = some .ret ∧ (qy es i = true ∧ 2 < (S k).wr.getD ((S k).c % v.N) 0 + 1) ∧ ∃ s', St m m2 (v.σ2 s' (.pointer none) (iv i) (iv 2))))) hob ha hbb rfl (by omega) (fun k => by unfold Bu; simp) (by
     have hst1 := st.putL (hkeys _ _ _ _) hm15 (.loop 1 T 173 #[106] ca cb none)
     have := Vl (n + 3) v es hl16 hok m (m'.put M15.n (.loop 1 T 173 #[106] ca cb none)) hedv B1 [(B2, ms.flatMap modeRow)] (by rw [evu]; exact euv1) (by rw [evu]; exact eur) hne (by rw [evu]; exact eun) (by rw [evN]; omega) (by rw [evN]; omega) (S k) i1 i2 (by rw [evN]; exact i3) i4 i5 i6 i hil M15.n T ca cb T' T11 T12
      hst1 (hkeys _ _ _ _) (by rw [M.n_put]; exact hLn) (by rw [M.obj_put, if_pos rfl])
     rw [M.n_put] at this
     exact this)
   obtain ⟨e, m2, ho2, ⟨hn2, hcase⟩, hrun⟩ := hrd
   rcases hcase with ⟨rfl, hno, st2⟩ | ⟨rfl, hyes, s', st2⟩
   ·rw [evN] at hno st2
    rw [if_neg hno, ← hSk] at hE
    rw [← hSk] at st2
    exact .inl ⟨_, hrun, st2.putL (hkeys _ _ _ _) hm15 _, by rw [M.obj_put, if_pos rfl], by rw [M.n_put]; omega, hE⟩
   ·rw [evN] at hyes
    rw [if_pos hyes] at hE
    exact .inr ⟨_, hrun, s', i, st2.putL (hkeys _ _ _ _) hm15 _, by rw [M.obj_put, if_pos rfl], hE⟩)
  mE ⟨by simpa [S] using stE, obE, by omega, by simp [S]⟩
 obtain ⟨m5, hw, hend⟩ := hwalk
 rcases hend with ⟨st5', ob5, hL5, hE5⟩ | ⟨s', i, st5', ob5, hE5⟩
 ·-- laid out: the values
  rw [List.drop_eq_nil_of_le (by omega), gn] at hE5
  have hlz : wn es ms = (0, 0) := by rw [hlA, hE5]
  refine yL (c := ZM) rfl (g := 71) (u := []) (v := [.pointer (some ⟨v.W, 0, none⟩)]) t105 (r := .tuple #[]) (m1 := m5) (st := 0) (by rw [← hT, ← hca, ← hcb, ← hmE]; exact hw) (by rw [hca, hcb] at ob5; exact ob5) (by omega) ?_
  unfold ju
  obtain ⟨m16, hm16⟩ := qay (m5.put M15.n (.loop 3 T 173 #[106] (cL (cL (cR (cL (cR (cR (cR (cR (cR (cR (cR (cR (cR (qN Try.f38)))))))))))))) (cR (cL (cR (cL (cR (cR (cR (cR (cR (cR (cR (cR (cR (qN Try.f38)))))))))))))) none))
  rw [← hm16]
  have st16 := st5'.putL (hkeys _ _ _ _) hm15 (.loop 3 T 173 #[106] (cL (cL (cR (cL (cR (cR (cR (cR (cR (cR (cR (cR (cR (qN Try.f38)))))))))))))) (cR (cL (cR (cL (cR (cR (cR (cR (cR (cR (cR (cR (cR (qN Try.f38)))))))))))))) none)
  rw [← hm16] at st16
  have l8v : v.q8 = u.q8 := by rw [hv]
  have lPv : v.PB = u.PB := by rw [hv]
  have hPl : Pl m16 v.PB v.v1 (.slice (some ⟨v.A6, 0, some 3⟩) es.length es.length) es (S es.length).ce b := by
   have g5 := st16.get 5 rfl
   have g7 := st16.get 7 rfl
   have g13 := st16.get (b := B1) (l := es.flatMap edgeRow) 13 (by unfold LC.σ2; rw [evu, eur]; rfl)
   have e6 : (S es.length).ce.length = es.length := (hSi es.length (qad _)).2.1
   refine ⟨g5.2.1, fun s => by rw [g5.2.2.load1]; rfl, fun s => by rw [g5.2.2.load1, hv]; rfl, fun s => by rw [g5.2.2.load1, hv]; show some (Value.slice (some ⟨u.A6, 0, some 3⟩) u.n u.n) = _; rw [eun], ?_, ?_⟩
   ·have hG : Grown m m16 v.v1 2 edgeRow es := .inr ⟨B1, g13.1, g13.2.1, hne, by rw [evu]; exact euv1, g13.2.2⟩
    exact hG.rd jJ
   ·have := Xm g7.2.2 g7.2.1
    rw [e6] at this
    exact this
  obtain ⟨m17, hvr, hvR, hvA⟩ := Bn n v.PB v.A7 v.v1 (.slice (some ⟨v.A6, 0, some 3⟩) es.length es.length) es (S es.length).ce b N ch (List.replicate es.length 0) hl16 hbl (by omega) hok (by simp) m16 st16.sees.base hPl
   (fun s => by rw [(st16.get 5 rfl).2.2.load1, hv]; rfl) (fun s => by rw [(st16.get 5 rfl).2.2.load1, hv]; show some (Value.slice (some ⟨u.A7, 0, some 3⟩) u.n u.n) = _; rw [eun]) (by have := (st16.get 6 rfl).2.2; rwa [show v.toLB.n = es.length by rw [evu, eun]] at this) (st16.get 6 rfl).2.1
   (by rw [st16.ext.base]; have := (st16.get 6 rfl).1; omega) (fun h => absurd (xj st16.nd (i := 5) (j := 6) rfl rfl h) (by omega))
   (fun C hC => by
    rw [evu, euv1] at hC; cases hC
    exact fun h => absurd (xj st16.nd (i := 13) (j := 6) (p := (B1, es.flatMap edgeRow)) (by unfold LC.σ2; rw [evu, eur]; rfl) rfl h) (by omega))
   (fun C hC => by cases hC; exact fun h => absurd (xj st16.nd (i := 7) (j := 6) rfl rfl h) (by omega))
   (fun c hc => by
    have := hch (by rw [hlz]) c (by omega)
    rw [← hN, ← hbe] at this
    simp only [S]
    rw [List.take_of_length_le (by omega)]
    exact this)
  have st17 := st16.restTo 6 rfl hvR hvA
  obtain ⟨m18, c1', c2', c3', c4'⟩ := st17.store 11 rfl (o := 0) (v := .pointer (some ⟨u.PB, 0, none⟩)) (by simp) rfl
  obtain ⟨m19, d1', d2', d3', d4'⟩ := c2'.store 10 rfl (o := 0) (v := iv 0) (by simp) rfl
  obtain ⟨m20, f1', f2', f3', f4'⟩ := d2'.store 9 rfl (o := 0) (v := iv 0) (by simp) rfl
  have lq16 : ∀ s, load1 m16 ⟨u.q8, 0, s⟩ = some (.pointer (some ⟨u.PB, 0, none⟩)) := fun s => by rw [← l8v, (st16.get 4 rfl).2.2.load1]; show some (Value.pointer (some ⟨v.PB, 0, none⟩)) = _; rw [lPv]
  have lq17 : ∀ s, load1 m17 ⟨u.q8, 0, s⟩ = some (.pointer (some ⟨u.PB, 0, none⟩)) := fun s => by rw [← l8v, (st17.get 4 rfl).2.2.load1]; show some (Value.pointer (some ⟨v.PB, 0, none⟩)) = _; rw [lPv]
  obtain ⟨g1, g2, g3, g4, g8⟩ := T0'
  rw [evu] at g1 g2 g3 g4 g8
  have er2 : v.r2 = u.r2 := by rw [evu]
  have er3 : v.r3 = u.r3 := by rw [evu]
  have er4 : v.r4 = u.r4 := by rw [evu]
  rw [er2] at c1'
  rw [er3] at d1'
  rw [er4] at f1'
  rw [lPv] at hvr
  simp [g1, g2, g3, g4, g8, lq16, hvr, lq17, c1', d1', f1']
  refine fF (a := ⟨u.r2, 0, none⟩) (b := ⟨u.r3, 0, none⟩) (c := ⟨u.r4, 0, none⟩) (by simp [g2]) (by simp [g3]) (by simp [g4]) (by rw [← er2, (f2'.get 11 rfl).2.2.load1]; rfl) (by rw [← er3, (f2'.get 10 rfl).2.2.load1]; rfl) (by rw [← er4, (f2'.get 9 rfl).2.2.load1]; rfl) f2'.ext (.inr ⟨by rw [hlz], v.PB, by rw [lPv], ?_⟩)
  have hSf : S es.length = zY es N (qF es b) := by simp only [S, zY]; rw [List.take_of_length_le (by omega)]
  rw [← hN, ← hbe, ← hSf]
  have g5 := f2'.get 5 rfl
  have q3 := f2'.get 3 rfl
  have q6 := f2'.get 6 rfl
  have q7 := f2'.get 7 rfl
  have q8' := f2'.get 8 rfl
  have g13 := f2'.get (b := B1) (l := es.flatMap edgeRow) 13 (by unfold LC.σ2; rw [evu, eur]; rfl)
  have g14 := f2'.get (b := B2) (l := ms.flatMap modeRow) 14 (by unfold LC.σ2; rw [evu, eur]; rfl)
  have e6 : (S es.length).ce.length = es.length := (hSi es.length (qad _)).2.1
  have hnm : ms ≠ [] := by rintro rfl; exact hne (List.length_eq_zero_iff.1 (by simpa using hml.symm))
  refine ⟨v.v1, v.v2, v.A5, v.A6, v.A7, v.A8, ⟨g5.2.1, fun s => by rw [g5.2.2.load1]; rfl, fun s => by rw [g5.2.2.load1, hv]; rfl, fun s => by rw [g5.2.2.load1, hv]; show some (Value.slice (some ⟨u.A6, 0, some 3⟩) u.n u.n) = _; rw [eun], ?_, ?_⟩, ?_, fun s => by rw [g5.2.2.load1]; rfl,
   fun s => by rw [g5.2.2.load1, hv]; show some (iv (u.n - N : Nat)) = _; rw [eun], fun s => by rw [g5.2.2.load1, hv]; rfl, fun s => by rw [g5.2.2.load1, hv]; show some (Value.slice (some ⟨u.A5, 0, some 3⟩) u.n u.n) = _; rw [eun], fun s => by rw [g5.2.2.load1, hv]; show some (Value.slice (some ⟨u.A7, 0, some 3⟩) u.n u.n) = _; rw [eun],
   fun s => by rw [g5.2.2.load1, hv]; rfl, q8'.2.2, q7.2.2, ?_, q3.2.2, q8'.2.1, q7.2.1, q6.2.1, q3.2.1⟩
  ·have hG : Grown m m20 v.v1 2 edgeRow es := .inr ⟨B1, g13.1, g13.2.1, hne, by rw [evu]; exact euv1, g13.2.2⟩
   exact hG.rd jJ
  ·have := Xm q7.2.2 q7.2.1
   rw [e6] at this
   exact this
  ·have hG : Grown m m20 v.v2 1 modeRow ms := .inr ⟨B2, g14.1, g14.2.1, hnm, by rw [evu]; exact euv2, g14.2.2⟩
   exact hG.rd gN
  ·have := q6.2.2
   rw [hva, ← hN]; exact this
 ·have hli : wn es ms = (i, 2) := by rw [hlA, hE5]
  refine yL (c := ZM) rfl (g := 71) (u := []) (v := [.pointer (some ⟨v.W, 0, none⟩)]) t105 (r := .tuple #[]) (m1 := m5) (st := 2) (by rw [← hT, ← hca, ← hcb, ← hmE]; exact hw) (by rw [hca, hcb] at ob5; exact ob5) (by omega) ?_
  unfold ju
  have st16 := st5'.putL (hkeys _ _ _ _) hm15 (.loop 3 T 173 #[106] (cL (cL (cR (cL (cR (cR (cR (cR (cR (cR (cR (cR (cR (qN Try.f38)))))))))))))) (cR (cL (cR (cL (cR (cR (cR (cR (cR (cR (cR (cR (cR (qN Try.f38)))))))))))))) (some .ret))
  obtain ⟨g1, g2, g3, g4, g8⟩ := T0'
  refine fF g2 g3 g4 (by rw [(st16.get 11 rfl).2.2.load1]; rfl) (by rw [(st16.get 10 rfl).2.2.load1]; rfl) (by rw [(st16.get 9 rfl).2.2.load1]; rfl) st16.ext (.inl ?_)
  rw [hli]; exact ⟨by simp, rfl⟩
end Go.Sx
namespace Go.Sx
open Go.Dx Go.Proofs
def pos (es : List (Int × Int)) (b k : Nat) : Nat := (b + k) % es.length
def ic (es : List (Int × Int)) (b : Nat) : Nat → Nat
 | 0 => 0
 | k + 1 => ic es b k + if qx es (pos es b k) then 0 else 1
section
variable {es : List (Int × Int)} {b : Nat}
theorem Jw (h : 0 < es.length) (k : Nat) : pos es b k < es.length := Nat.mod_lt _ h
theorem fQ (h : 0 < es.length) (k : Nat) : ahN es.length (pos es b (k + 1)) = pos es b k := by
 unfold pos ahN
 have hl := Nat.mod_lt (b + k) h
 by_cases e : (b + k) % es.length + 1 = es.length
 ·have : (b + (k + 1)) % es.length = 0 := by rw [← Nat.add_assoc, ← Nat.mod_add_mod, e, Nat.mod_self]
  rw [this, if_pos rfl]; omega
 ·have : (b + (k + 1)) % es.length = (b + k) % es.length + 1 := by rw [← Nat.add_assoc, ← Nat.mod_add_mod, Nat.mod_eq_of_lt (by omega)]
  rw [this, if_neg (by omega)]; omega
theorem zG (k : Nat) : pos es b (k + es.length) = pos es b k := by unfold pos; rw [← Nat.add_assoc, Nat.add_mod_right]
theorem bm (hb : b < es.length) {i j : Nat} (hi : i < es.length) (hj : j < es.length) (h : pos es b i = pos es b j) : i = j := by
 unfold pos at h
 have key : ∀ k, k < es.length → (b + k) % es.length = if b + k < es.length then b + k else b + k - es.length := fun k hk => by
  split
  ·exact Nat.mod_eq_of_lt ‹_›
  ·rw [Nat.mod_eq_sub_mod (by omega), Nat.mod_eq_of_lt (by omega)]
 rw [key i hi, key j hj] at h
 split at h <;> split at h <;> omega
theorem vD {k : Nat} (hk : k < es.length) : (qF es b)[k]? = some (pos es b k) := by
 unfold qF pos; rw [qaq, List.getElem?_range hk]; rfl
theorem vE : (qF es b).length = es.length := by unfold qF; simp
theorem jj {k : Nat} (hk : k < es.length) : (qF es b).drop k = pos es b k :: (qF es b).drop (k + 1) := by
 obtain ⟨h, e⟩ := qac.1 (vD (b := b) hk)
 rw [List.drop_eq_getElem_cons h, e]
theorem ba (k : Nat) : ic es b k ≤ ic es b (k + 1) ∧ ic es b (k + 1) ≤ ic es b k + 1 := by show _ ≤ ic es b k + _ ∧ ic es b k + _ ≤ _; split <;> omega
theorem jK {i j : Nat} (h : i ≤ j) : ic es b i ≤ ic es b j := by
 induction j with
 | zero =>
  have : i = 0 := by omega
  subst this; exact qad _
 | succ j ih =>
  rcases Nat.lt_or_ge i (j + 1) with h' | h'
  ·exact qam (ih (by omega)) (ba j).1
  ·have : i = j + 1 := by omega
   subst this; exact qad _
theorem fh : ∀ (m c : Nat), c ≤ ic es b m → ∃ s, s ≤ m ∧ ic es b s = c ∧ ∀ j, j < s → ic es b j < c
 | 0, c, h => ⟨0, qad _, by have : ic es b 0 = 0 := rfl; omega, fun j hj => by omega⟩
 | m + 1, c, h => by
  by_cases h1 : c ≤ ic es b m
  ·obtain ⟨s, a, b', c'⟩ := fh m c h1
   exact ⟨s, by omega, b', c'⟩
  ·have := (ba (es := es) (b := b) m).2
   exact ⟨m + 1, qad _, by omega, fun j hj => by have := jK (es := es) (b := b) (show j ≤ m by omega); omega⟩
theorem xJ {i j k : Nat} (h : ic es b i = ic es b k) (h1 : i ≤ j) (h2 : j < k) : qx es (pos es b j) = true := by
 have a := jK (es := es) (b := b) h1
 have c := jK (es := es) (b := b) (show j + 1 ≤ k by omega)
 have e : ic es b (j + 1) = ic es b j + if qx es (pos es b j) then 0 else 1 := rfl
 cases ho : qx es (pos es b j) with
 | true => rfl
 | false => rw [ho] at e; simp at e; omega
theorem Wa {j : Nat} (h : ic es b j < ic es b (j + 1)) : qx es (pos es b j) = false := by
 have e : ic es b (j + 1) = ic es b j + if qx es (pos es b j) then 0 else 1 := rfl
 cases ho : qx es (pos es b j) with
 | true => rw [ho] at e; simp at e; omega
 | false => rfl
theorem FJ (k : Nat) (hk : k ≤ es.length) : ic es b k = ((qF es b).take k).countP fun i => !qx es i := by
 induction k with
 | zero => rfl
 | succ k ih =>
  obtain ⟨h, e⟩ := qac.1 (vD (es := es) (b := b) (show k < es.length by omega))
  rw [List.take_succ_eq_append_getElem h, List.countP_append, ← ih (by omega), e]
  show ic es b k + _ = _
  cases ho : qx es (pos es b k) <;> simp [ho]
theorem KV : (List.range es.length).countP (fun i => qx es i) = cnt es := by
 unfold cnt
 have : es = (List.range es.length).map (eAt es) := by
  apply List.ext_getElem?
  intro i
  rw [qaq]
  by_cases h : i < es.length
  ·rw [List.getElem?_range h, qaa h]
   show _ = some (eAt es i)
   rw [kE (qaa h)]
  ·rw [qav (l := List.range es.length) (by rw [List.length_range]; omega), qav (l := es) (by omega)]; rfl
 conv => rhs; rw [this]
 rw [List.countP_map]
 rfl
theorem vV (hb : b < es.length) : (qF es b).Perm (List.range es.length) := by
 have h1 : qF es b = List.range' b (es.length - b) ++ List.range b := by
  apply List.ext_getElem?
  intro k
  by_cases h : k < es.length
  ·rw [vD h]
   unfold pos
   by_cases h2 : k < es.length - b
   ·rw [qao (by simpa using h2), List.getElem?_range' (by simpa using h2), Nat.mod_eq_of_lt (by omega)]; simp
   ·rw [qap (by simp; omega), List.length_range', List.getElem?_range (by omega), Nat.mod_eq_sub_mod (by omega), Nat.mod_eq_of_lt (by omega)]
    congr 1; omega
  ·rw [qav (by rw [vE]; omega), qav (by simp; omega)]
 rw [h1]
 refine List.perm_append_comm.trans ?_
 have h2 : List.range es.length = List.range b ++ List.range' b (es.length - b) := by
  rw [List.range_eq_range', List.range_eq_range']
  have := List.range'_append_1 (s := 0) (m := b) (n := es.length - b)
  rw [Nat.zero_add, show b + (es.length - b) = es.length by omega] at this
  exact this.symm
 rw [h2]
theorem gk (hb : b < es.length) : ic es b es.length = es.length - cnt es := by
 rw [FJ _ (qad _), List.take_of_length_le (by rw [vE]; omega), (vV hb).countP_eq]
 have h1 := KV (es := es)
 have h2 := List.length_eq_countP_add_countP (fun i => qx es i) (l := List.range es.length)
 rw [List.length_range] at h2
 have h3 : (List.range es.length).countP (fun i => !qx es i) = (List.range es.length).countP (fun a => decide (¬ qx es a = true)) := by
  congr 1; funext a; cases qx es a <;> rfl
 omega
theorem fH (h : 0 < es.length) (o : Bool) : ∀ (m j s : Nat), s ≤ j → j - s ≤ m → 0 < s → qx es (pos es b (s - 1)) ≠ o → (∀ i, s ≤ i → i < j → qx es (pos es b i) = o) → XC es o m (pos es b j) = pos es b s
 | 0, j, s, h1, h2, h3, h4, h5 => by
  have : j = s := by omega
  subst this; rfl
 | m + 1, j, s, h1, h2, h3, h4, h5 => by
  unfold XC
  obtain ⟨i, rfl⟩ : ∃ i, j = i + 1 := ⟨j - 1, by omega⟩
  rw [fQ h]
  by_cases e : i + 1 = s
  ·subst e
   rw [Nat.add_sub_cancel] at h4
   rw [if_neg h4]
  ·rw [if_pos (h5 i (by omega) (by omega))]
   exact fH h o m i s (by omega) (by omega) h3 h4 fun i' a1 a2 => h5 i' a1 (by omega)
end
end Go.Sx
namespace Go.Sx
open Go.Dx Go.Proofs
section
variable {es : List (Int × Int)} {b : Nat}
theorem Jy {N : Nat} (R ρ : Nat → Nat) (hR : ∀ k, k < es.length → R (pos es b k) = ρ (ic es b k % N)) (hρ : ∀ c d, c < N → d < N → ρ c = ρ d → c = d) {c s : Nat} (hc0 : 0 < c) (hcN : c < N) (hsn : s < es.length) (hs : ic es b s = c) (hsf : ∀ j, j < s → ic es b j < c) :
  ∀ (d j : Nat), j + d = s → vd R (ρ c) ((qF es b).drop j) ((List.range (if j = 0 then 0 else ic es b (j - 1) + 1)).map ρ) = some c := by
 intro d
 induction d with
 | zero =>
  intro j hj
  have : j = s := by omega
  subst this
  have h0 : j ≠ 0 := by rintro rfl; have : ic es b 0 = 0 := rfl; omega
  rw [jj hsn, vd, if_pos (by rw [hR _ hsn, hs, Nat.mod_eq_of_lt hcN]), if_neg h0]
  have h1 := hsf (j - 1) (by omega)
  have h2 := (ba (es := es) (b := b) (j - 1)).2
  rw [show j - 1 + 1 = j by omega] at h2
  simp; omega
 | succ d ih =>
  intro j hj
  have hjn : j < es.length := by omega
  have hjc := hsf j (by omega)
  have hRj : R (pos es b j) = ρ (ic es b j) := by rw [hR _ hjn, Nat.mod_eq_of_lt (by omega)]
  rw [jj hjn, vd, if_neg (by rw [hRj]; intro h; have := hρ _ _ (by omega) hcN h; omega), hRj]
  have hnext := ih (j + 1) (by omega)
  rw [if_neg (by omega), Nat.add_sub_cancel] at hnext
  have key : (if ((List.range (if j = 0 then 0 else ic es b (j - 1) + 1)).map ρ).contains (ρ (ic es b j)) then (List.range (if j = 0 then 0 else ic es b (j - 1) + 1)).map ρ else (List.range (if j = 0 then 0 else ic es b (j - 1) + 1)).map ρ ++ [ρ (ic es b j)]) = (List.range (ic es b j + 1)).map ρ := by
   by_cases h0 : j = 0
   ·subst h0
    have : ic es b 0 = 0 := rfl
    simp [this]
   ·rw [if_neg h0]
    have h2 := ba (es := es) (b := b) (j - 1)
    rw [show j - 1 + 1 = j by omega] at h2
    by_cases he : ic es b j = ic es b (j - 1)
    ·rw [if_pos (by simp; exact ⟨ic es b j, by omega, rfl⟩), he]
    ·have e : ic es b j = ic es b (j - 1) + 1 := by omega
     rw [if_neg, e, List.range_succ (n := ic es b (j - 1) + 1), List.map_append]
     ·rfl
     ·simp
      intro x hx h
      have := hρ _ _ (by omega) (by omega) h
      omega
  rw [key]; exact hnext
theorem vP (hb : b < es.length) (hlast : qx es (pos es b (es.length - 1)) = true) (hN : 0 < es.length - cnt es) {k : Nat} (hk : k < es.length) : wE es b true (pos es b k) = ic es b k % (es.length - cnt es) := by
 obtain ⟨N, hNe⟩ := qay (es.length - cnt es)
 rw [← hNe] at hN ⊢
 have hn : 0 < es.length := by omega
 have hall : ic es b es.length = N := by rw [gk hb, hNe]
 have hlastN : ic es b (es.length - 1) = N := by
  have e : ic es b (es.length - 1 + 1) = ic es b (es.length - 1) + if qx es (pos es b (es.length - 1)) then 0 else 1 := rfl
  rw [hlast, show es.length - 1 + 1 = es.length by omega, hall] at e
  simpa using e.symm
 have hex : ∀ c, ∃ s, c ≤ N → s ≤ es.length - 1 ∧ ic es b s = c ∧ ∀ j, j < s → ic es b j < c := fun c => by
  by_cases h : c ≤ N
  ·obtain ⟨s, h1⟩ := fh (es := es) (b := b) (es.length - 1) c (by omega)
   exact ⟨s, fun _ => h1⟩
  ·exact ⟨0, fun h' => absurd h' h⟩
 obtain ⟨sC, hsC⟩ : ∃ sC : Nat → Nat, ∀ c, c ≤ N → sC c ≤ es.length - 1 ∧ ic es b (sC c) = c ∧ ∀ j, j < sC c → ic es b j < c := ⟨fun c => (hex c).choose, fun c => (hex c).choose_spec⟩
 have hpos : ∀ c, 1 ≤ c → c ≤ N → 0 < sC c := fun c h1 h2 => by
  rcases Nat.eq_zero_or_pos (sC c) with h | h
  ·have := (hsC c h2).2.1; rw [h] at this; have e : ic es b 0 = 0 := rfl; omega
  ·exact h
 have hback : ∀ c, 1 ≤ c → c ≤ N → qx es (pos es b (sC c - 1)) ≠ true := fun c h1 h2 => by
  have hp := hpos c h1 h2
  have := (hsC c h2).2.2 (sC c - 1) (by omega)
  have h3 := Wa (es := es) (b := b) (j := sC c - 1) (by rw [show sC c - 1 + 1 = sC c by omega, (hsC c h2).2.1]; exact this)
  rw [h3]; simp
 let ρ : Nat → Nat := fun c => if c = 0 then pos es b (sC N) else pos es b (sC c)
 have hR : ∀ k, k < es.length → ve es true (pos es b k) = ρ (ic es b k % N) := fun k hk => by
  have hkN : ic es b k ≤ N := by have := jK (es := es) (b := b) (show k ≤ es.length by omega); omega
  unfold ve
  by_cases h0 : ic es b k = 0
  ·have hsN := hsC N (qad _)
   have hp := hpos N (by omega) (qad _)
   have hks : k < sC N := by
    rcases Nat.lt_or_ge k (sC N) with h | h
    ·exact h
    ·have := jK (es := es) (b := b) h; omega
   have e : ρ (ic es b k % N) = pos es b (sC N) := by simp only [ρ]; rw [h0, Nat.zero_mod, if_pos rfl]
   rw [e, ← zG (es := es) (b := b) k]
   refine fH hn true es.length (k + es.length) (sC N) (by omega) (by omega) hp (hback N (by omega) (qad _)) fun i h1 h2 => ?_
   by_cases hi : i < es.length
   ·exact xJ (es := es) (b := b) (i := sC N) (j := i) (k := es.length) (by rw [hsN.2.1, hall]) h1 hi
   ·have : i = (i - es.length) + es.length := by omega
    rw [this, zG]
    exact xJ (es := es) (b := b) (i := 0) (j := i - es.length) (k := k) (by rw [h0]; rfl) (by omega) (by omega)
  ·have hs := hsC (ic es b k) hkN
   have hp := hpos _ (by omega) hkN
   have hsk : sC (ic es b k) ≤ k := by
    rcases Nat.lt_or_ge k (sC (ic es b k)) with h | h
    ·have := hs.2.2 k h; omega
    ·exact h
   have e : ρ (ic es b k % N) = pos es b (sC (ic es b k)) := by
    simp only [ρ]
    rcases Nat.lt_or_ge (ic es b k) N with h | h
    ·rw [Nat.mod_eq_of_lt h, if_neg h0]
    ·have : ic es b k = N := by omega
     rw [this, Nat.mod_self, if_pos rfl]
   rw [e]
   exact fH hn true es.length k _ hsk (by omega) hp (hback _ (by omega) hkN) fun i h1 h2 => xJ (by rw [hs.2.1]) h1 h2
 have hinj : ∀ c d, c < N → d < N → ρ c = ρ d → c = d := fun c d hc hd h => by
  have key : ∀ c, c < N → ∃ c', c' ≤ N ∧ ρ c = pos es b (sC c') ∧ c' % N = c := fun c hc => by
   simp only [ρ]
   by_cases h : c = 0
   ·exact ⟨N, qad _, by rw [if_pos h], by rw [Nat.mod_self, h]⟩
   ·exact ⟨c, by omega, by rw [if_neg h], Nat.mod_eq_of_lt hc⟩
  obtain ⟨c', h1, h2, h3⟩ := key c hc
  obtain ⟨d', g1, g2, g3⟩ := key d hd
  rw [h2, g2] at h
  have := bm hb (by have := (hsC c' h1).1; omega) (by have := (hsC d' g1).1; omega) h
  have e : c' = d' := by rw [← (hsC c' h1).2.1, ← (hsC d' g1).2.1, this]
  rw [← h3, ← g3, e]
 have main : vd (ve es true) (ve es true (pos es b k)) (qF es b) [] = some (ic es b k % N) := by
  rw [hR k hk]
  have hclt : ic es b k % N < N := Nat.mod_lt _ hN
  by_cases hc0 : ic es b k % N = 0
  ·rw [hc0]
   have hd := jj (b := b) hn
   rw [List.drop_zero] at hd
   rw [hd, vd, if_pos (by rw [hR 0 hn]; show ρ (0 % N) = _; rw [Nat.zero_mod])]
   rfl
  ·have hs := hsC (ic es b k % N) (by omega)
   have := Jy (es := es) (b := b) (N := N) (ve es true) ρ hR hinj (c := ic es b k % N) (s := sC (ic es b k % N)) (by omega) hclt (by omega) hs.2.1 hs.2.2 (sC (ic es b k % N)) 0 (by omega)
   simpa using this
 unfold wE
 rw [main]; rfl
end
theorem bH {es : List (Int × Int)} (h : 0 < cnt es) : qM es < es.length ∧ qx es (pos es (qM es) (es.length - 1)) = true := by
 have hb := gX h
 unfold first at hb
 rw [List.find?_range_eq_some] at hb
 have hbl : qM es < es.length := by simpa using hb.2.1
 refine ⟨hbl, ?_⟩
 have h1 := hb.1
 unfold gS at h1
 have e : pos es (qM es) (es.length - 1 + 1) = qM es := by
  unfold pos; rw [show qM es + (es.length - 1 + 1) = qM es + es.length by omega, Nat.add_mod_right, Nat.mod_eq_of_lt hbl]
 have := fQ (es := es) (b := qM es) (by omega) (es.length - 1)
 rw [e] at this
 rw [this] at h1
 exact h1
end Go.Sx
namespace Go.Sx
open Go.Dx Go.Proofs
section
variable {es : List (Int × Int)} {b : Nat}
def stt (es : List (Int × Int)) (b N k : Nat) : LS := ((qF es b).take k).foldl (wF es N) (zI es.length N)
theorem vK {N k : Nat} (hk : k < es.length) : stt es b N (k + 1) = wF es N (stt es b N k) (pos es b k) := by
 obtain ⟨h, e⟩ := qac.1 (vD (es := es) (b := b) hk)
 unfold stt
 rw [List.take_succ_eq_append_getElem h, List.foldl_append, e]; rfl
theorem Bd {N : Nat} : ∀ {k : Nat}, k ≤ es.length → (stt es b N k).c = ic es b k
 | 0, _ => rfl
 | k + 1, h => by
  rw [vK (by omega)]
  show (if qx es (pos es b k) then _ else _) = ic es b k + _
  rw [Bd (by omega)]; split <;> rfl
theorem JD {N k : Nat} : (stt es b N k).ce.length = es.length := by
 have key : ∀ (l : List Nat) (s : LS), (l.foldl (wF es N) s).ce.length = s.ce.length := by
  intro l
  induction l with
  | nil => intro s; rfl
  | cons i l ih => intro s; rw [List.foldl_cons, ih]; simp [wF]
 unfold stt; rw [key]; simp [zI]
theorem Be (hb : b < es.length) {N : Nat} : ∀ {k : Nat}, k ≤ es.length → ∀ j, j < k → (stt es b N k).ce[pos es b j]? = some (ic es b j % N)
 | 0, _, j, h => by omega
 | k + 1, hk, j, hj => by
  rw [vK (by omega)]
  show ((stt es b N k).ce.set (pos es b k) ((stt es b N k).c % N))[pos es b j]? = _
  by_cases e : j = k
  ·subst e
   rw [qat (by rw [JD]; exact Jw (by omega) _), Bd (by omega)]
  ·rw [qaw (fun h => e (bm hb (by omega) (by omega) h).symm)]
   exact Be hb (by omega) j (by omega)
theorem fm (hb : b < es.length) {N j : Nat} (hj : j < es.length) : (zY es N (qF es b)).ce[pos es b j]? = some (ic es b j % N) := by
 have := Be hb (N := N) (qad es.length) j hj
 unfold stt at this
 rwa [List.take_of_length_le (by rw [vE]; omega)] at this
theorem Ku (hb : b < es.length) (hN : 0 < es.length - cnt es) (k : Nat) (hk : k < es.length) : ∃ d, d < es.length ∧ qx es (pos es b (k + d)) = false ∧ ∀ j, j < d → qx es (pos es b (k + j)) = true := by
 have hall := gk (es := es) hb
 obtain ⟨s, hs1, hs2, hs3⟩ := fh (es := es) (b := b) es.length 1 (by omega)
 have hs0 : 0 < s := by
  rcases Nat.eq_zero_or_pos s with h | h
  ·subst h; have : ic es b 0 = 0 := rfl; omega
  ·exact h
 have hi : qx es (pos es b (s - 1)) = false := Wa (by have := hs3 (s - 1) (by omega); rw [show s - 1 + 1 = s by omega, hs2]; exact this)
 have hex : ∃ d, d < es.length ∧ qx es (pos es b (k + d)) = false := by
  by_cases h : k ≤ s - 1
  ·exact ⟨s - 1 - k, by omega, by rw [show k + (s - 1 - k) = s - 1 by omega]; exact hi⟩
  ·exact ⟨s - 1 + es.length - k, by omega, by rw [show k + (s - 1 + es.length - k) = (s - 1) + es.length by omega, zG]; exact hi⟩
 have key : ∀ d, d < es.length → qx es (pos es b (k + d)) = false → ∃ d', d' ≤ d ∧ qx es (pos es b (k + d')) = false ∧ ∀ j, j < d' → qx es (pos es b (k + j)) = true := by
  intro d
  induction d using Nat.strongRecOn with
  | _ d ih =>
   intro h1 h2
   by_cases h : ∃ j, j < d ∧ qx es (pos es b (k + j)) = false
   ·obtain ⟨j, hj, h3⟩ := h
    obtain ⟨d', g1, g2⟩ := ih j hj (by omega) h3
    exact ⟨d', by omega, g2⟩
   ·refine ⟨d, qad _, h2, fun j hj => ?_⟩
    cases ho : qx es (pos es b (k + j)) with
    | true => rfl
    | false => exact absurd ⟨j, hj, ho⟩ h
 obtain ⟨d, h1, h2⟩ := hex
 obtain ⟨d', g1, g2⟩ := key d h1 h2
 exact ⟨d', by omega, g2⟩
theorem Ff (hes : es.length ≤ 16) (hb : b < es.length) (hlast : qx es (pos es b (es.length - 1)) = true) (hN : 0 < es.length - cnt es) (c : Nat) (hc : c < es.length - cnt es) :
  ∃ l, km es (zY es (es.length - cnt es) (qF es b)).ce b c l := by
 obtain ⟨N, hNe⟩ := qay (es.length - cnt es)
 rw [← hNe] at hN hc ⊢
 have hn : 0 < es.length := by omega
 have hall : ic es b es.length = N := by rw [gk hb, hNe]
 have hlastN : ic es b (es.length - 1) = N := by
  have e : ic es b (es.length - 1 + 1) = ic es b (es.length - 1) + if qx es (pos es b (es.length - 1)) then 0 else 1 := rfl
  rw [hlast, show es.length - 1 + 1 = es.length by omega, hall] at e
  simpa using e.symm
 obtain ⟨C, hC1, hCN, hCc⟩ : ∃ C, 1 ≤ C ∧ C ≤ N ∧ C % N = c := by
  by_cases h : c = 0
  ·exact ⟨N, hN, qad _, by rw [Nat.mod_self, h]⟩
  ·exact ⟨c, by omega, by omega, Nat.mod_eq_of_lt hc⟩
 obtain ⟨s, hs1, hs2, hs3⟩ := fh (es := es) (b := b) (es.length - 1) C (by omega)
 have hs0 : 0 < s := by
  rcases Nat.eq_zero_or_pos s with h | h
  ·subst h; have : ic es b 0 = 0 := rfl; omega
  ·exact h
 have hah : ∀ k, 0 < k → ahN es.length (pos es b k) = pos es b (k - 1) := fun k h => by
  have := fQ (es := es) (b := b) hn (k - 1); rwa [show k - 1 + 1 = k by omega] at this
 have hjump : qx es (pos es b (s - 1)) = false := Wa (by have := hs3 (s - 1) (by omega); rw [show s - 1 + 1 = s by omega, hs2]; exact this)
 obtain ⟨d, hd1, hd2, hd3⟩ := Ku hb (by omega) s (by omega)
 refine ⟨(List.range (d + 1)).map fun j => pos es b (s + j), ⟨s, by omega, ?_, ?_, fun k hk => ⟨ic es b k % N, fm hb (by omega), fun h => ?_⟩, ?_⟩, ⟨fun x hx => ?_, fun j x y hx hy => ?_, fun x hx => ?_⟩, by simp; omega⟩
 ·have := fm (es := es) hb (N := N) (j := s) (by omega)
  rw [hs2, hCc] at this; exact this
 ·show qx es (ahN es.length (pos es b s)) = false
  rw [hah s hs0]; exact hjump
 ·-- an event of the cell ahead of its beginning: cell 0, where the walk begins
  show qx es (ahN es.length (pos es b k)) = true
  have hkc := hs3 k hk
  have hk0 : ic es b k = 0 := by
   rw [Nat.mod_eq_of_lt (by omega)] at h
   by_cases hcz : c = 0
   ·omega
   ·have : C = c := by
     rcases Nat.lt_or_ge C N with h' | h'
     ·rw [Nat.mod_eq_of_lt h'] at hCc; exact hCc
     ·have : C = N := by omega
      rw [this, Nat.mod_self] at hCc; omega
    omega
  by_cases hkz : k = 0
  ·subst hkz
   have := fQ (es := es) (b := b) hn (es.length - 1)
   rw [show es.length - 1 + 1 = 0 + es.length by omega, zG] at this
   rw [this]; exact hlast
  ·rw [hah k (by omega)]
   exact xJ (es := es) (b := b) (i := 0) (j := k - 1) (k := k) (by rw [hk0]; rfl) (by omega) (by omega)
 ·rw [qaq, List.getElem?_range (by omega)]; rfl
 ·obtain ⟨j, -, rfl⟩ := List.mem_map.1 hx
  exact Jw hn _
 ·rw [qaq] at hx hy
  have hj : j + 1 < d + 1 := by
   rcases Nat.lt_or_ge (j + 1) (d + 1) with h | h
   ·exact h
   ·rw [qav (l := List.range (d + 1)) (by simpa using h)] at hy; cases hy
  rw [List.getElem?_range (by omega)] at hx
  rw [List.getElem?_range hj] at hy
  cases hx; cases hy
  refine ⟨?_, hd3 j (by omega)⟩
  show (b + (s + (j + 1))) % es.length = ((b + (s + j)) % es.length + 1) % es.length
  rw [show b + (s + (j + 1)) = (b + (s + j)) + 1 by omega, ← Nat.mod_add_mod]
 ·rw [qaq] at hx
  simp only [List.length_map, List.length_range, Nat.add_sub_cancel] at hx
  rw [List.getElem?_range (by omega)] at hx
  cases hx
  exact hd2
end
theorem XX (es : List (Int × Int)) (ms : List Int) : ∃ ch : Nat → List Nat, (wn es ms).2 = 0 → ∀ c, c < es.length - cnt es → km es (zY es (es.length - cnt es) (qF es (qM es))).ce (qM es) c (ch c) := by
 by_cases h : (wn es ms).2 = 0
 ·have hp : (wb es ms).2 = 0 ∧ ¬ (cnt es < 2 ∨ es.length - cnt es < 1) := by
   unfold wn at h
   by_cases h1 : (wb es ms).2 ≠ 0
   ·rw [if_pos h1] at h; exact absurd h h1
   ·rw [if_neg h1] at h
    refine ⟨by omega, fun h2 => ?_⟩
    rw [if_pos h2] at h; simp at h
  obtain ⟨hb, hlast⟩ := bH (es := es) (by omega)
  have hex : ∀ c, ∃ l, c < es.length - cnt es → km es (zY es (es.length - cnt es) (qF es (qM es))).ce (qM es) c l := fun c => by
   by_cases hc : c < es.length - cnt es
   ·obtain ⟨l, hl⟩ := Ff (kT hp.1).1 hb hlast (by omega) c hc
    exact ⟨l, fun _ => hl⟩
   ·exact ⟨[], fun h => absurd h hc⟩
  exact ⟨fun c => (hex c).choose, fun _ c hc => (hex c).choose_spec hc⟩
 ·exact ⟨fun _ => [], fun h' => absurd h' h⟩
end Go.Sx
namespace Go.Dx
section
variable {m0 m m' : M} {σ : List (Nat × List Value)} {k b : Nat} {l : List Value}
theorem St.keepOn (h : St m0 m σ) (e : Ext m0 m') (hn : m.n ≤ m'.n) (ho : ∀ p ∈ σ, m'.obj p.1 = m.obj p.1) : St m0 m' σ :=
 ⟨e, h.base, fun p hp => let ⟨h1, h2, h3⟩ := h.arr p hp; ⟨h1, by omega, h3.congr (ho p hp)⟩, h.nd⟩
theorem St.fill (h : St m0 m σ) (k : Nat) (hk : σ[k]? = some (b, l)) {n : Nat} {l' : List Value} (hl : l.length = n) (hl' : l'.length = n) (hv : ∀ v ∈ l', okC v = true) :
  ∃ m', qO n (.pointer (some ⟨b, 0, none⟩)) (.agg ⟨l'⟩) m = some (undef, m') ∧ St m0 m' (σ.set k (b, l')) ∧ m'.n = m.n ∧ ∀ X, X ≠ b → m'.obj X = m.obj X := by
 obtain ⟨h1, h2, h3⟩ := h.get k hk
 have e := zn (n := n) (o := 0) (v := .agg ⟨l'⟩) (l := l') h3 rfl hl' (by omega) hv
 obtain ⟨_, s2, s3, s4, s5, s6⟩ := ki (o := 0) (l := l') h3 (by omega) hv
 rw [gy (by omega)] at s2
 exact ⟨_, e, h.put' k hk s3 s4 (s6 (by have := h.ext.base; have := h.base; omega)) s5 s2, s3, s5⟩
end
theorem Grown.okC {α : Type} {m0 m : M} {v : Value} {e : Nat} {f : α → List Value} {es : List α} (h : Grown m0 m v e f es) : Dx.okC v = true := by
 rcases h with ⟨_, rfl⟩ | ⟨B, _, _, _, rfl, _⟩ <;> rfl
@[simp] theorem DS (a b : Int) : ko [.int .i64 0, .int .i64 0] [(0, 1, .int .i64 a), (1, 1, .int .i64 b)] = some (.agg ⟨[.int .i64 a, .int .i64 b]⟩) := _root_.id rfl
end Go.Dx
namespace Go.Sx
open Go.Dx Go.Proofs
end Go.Sx
namespace Go.Sx
open Go.Dx Go.Proofs
theorem KQ (n : Nat) (PB : Nat) (ed : Value) (es : List (Int × Int)) (i : Nat) (hi : i < es.length) (hl : es.length ≤ 1000) (m : M) (hm : m.base ≤ m.n) (hPB : PB < m.n) (hp : load1 m ⟨PB, 0, none⟩ = some ed) (hed : Rd m ed 2 edgeRow es) :
  CallV (ex Try.prog (n + 2)) 40 [.pointer (some ⟨PB, 0, none⟩), iv i] m (iv (eAt es (ahN es.length i)).2) := by
 refine qE db0_ok (by simp) ?_
 obtain ⟨e, he⟩ : ∃ e, es[ahN es.length i]? = some e := ⟨_, qaa (yu hi)⟩
 have ⟨a1, a2, a3⟩ := hed.at he
 have c1 := Call.use (m0 := m) fun m'' h => xm n PB ed es.length i hi hl m'' (by rw [qv h hPB]; exact hp) hed.len
 have hS := Sees.refl hm
 have a4 : ∀ m'', Sees m m'' → load1 m'' ⟨(adr 2 ed (ahN es.length i)).block, (adr 2 ed (ahN es.length i)).off + 1, none⟩ = some (iv e.2) := fun m'' h => a3 m'' 1 none h (by simp [edgeRow])
 have a5 : (eAt es (ahN es.length i)).2 = e.2 := by rw [kE he]
 simp (maxDischargeDepth := 30) [hp, a1, c1, hS, a4, a5]
 exact qX (by simp (maxDischargeDepth := 30) [c1, hS]) (by simp)
def wrR (es : List (Int × Int)) (b c : Nat) : Nat := (List.range es.length).countP fun i => qy es i && decide (wE es b true i = c)
end Go.Sx
namespace Go.Sx
open Go.Dx Go.Proofs
def back (len : Nat) : Nat → Nat → Nat
 | 0, i => i
 | k + 1, i => ahN len (back len k i)
structure Stop (es : List (Int × Int)) (i d : Nat) : Prop where
 out : ∀ j, j < d → qx es (ahN es.length (back es.length j i)) = true
 inn : qx es (ahN es.length (back es.length d i)) = false
 le : d ≤ 1000
def bw (es : List (Int × Int)) (i d : Nat) : Nat := (List.range d).countP fun t => qy es (back es.length (t + 1) i)
theorem bw_le (es : List (Int × Int)) (i d : Nat) : bw es i d ≤ d := by
 unfold bw; have := List.countP_le_length (p := fun t => qy es (back es.length (t + 1) i)) (l := List.range d); simpa using this
def jV (es : List (Int × Int)) (V : Nat → Nat) (i : Nat) : Nat := if qy es i then V i else if (eAt es (ahN es.length i)).1 = 1 then V (ahN es.length i) else 0
end Go.Sx
namespace Go.Dx
def upN {α : Type} (f : Nat → α) (j : Nat) (v : α) : Nat → α := fun k => if k = j then v else f k
theorem qK {α : Type} (f : Nat → α) (j : Nat) (v : α) : upN f j v j = v := by unfold upN; rw [if_pos rfl]
theorem wz {α : Type} (f : Nat → α) {j k : Nat} (v : α) (h : k ≠ j) : upN f j v k = f k := by unfold upN; rw [if_neg h]
theorem jt {e n : Nat} {f : Nat → List Value} (h : ∀ j, (f j).length = e) : ((List.range n).flatMap f).length = n * e := by
 have := wY h (List.range n); simpa using this
theorem vu {e : Nat} {f g : Nat → List Value} {j o : Nat} {v : Value} (hf : ∀ k, (f k).length = e) (ho : o < e) (hne : ∀ k, k ≠ j → g k = f k) (hj : g j = (f j).set o v) : ∀ n, j < n → ((List.range n).flatMap f).set (j * e + o) v = (List.range n).flatMap g := by
 intro n
 induction n with
 | zero => intro h; omega
 | succ n ih =>
  intro h
  rw [List.range_succ, List.flatMap_append, List.flatMap_append]
  have hl := jt (n := n) hf
  by_cases e' : j = n
  ·subst e'
   have key : ∀ m, m ≤ j → (List.range m).flatMap g = (List.range m).flatMap f := by
    intro m
    induction m with
    | zero => intro _; rfl
    | succ m im => intro hm; rw [List.range_succ, List.flatMap_append, List.flatMap_append, im (by omega)]; simp [hne m (by omega)]
   rw [key j (qad _), List.set_append_right _ _ (by omega), hl, show j * e + o - j * e = o by omega]
   simp [hj]
  ·have hjn : j < n := by omega
   have := qau e (Nat.succ_le_of_lt hjn)
   rw [Nat.succ_mul] at this
   rw [List.set_append_left _ _ (by omega), ih hjn]
   simp [hne n (by omega)]
theorem GC (n : Nat) (l : List Value) : rep n l = (List.range n).flatMap fun _ => l := by
 induction n with
 | zero => rfl
 | succ n ih =>
  rw [List.range_succ_eq_map, List.flatMap_cons, List.flatMap_map]
  show l ++ rep n l = _
  rw [ih]
theorem zX {e c : Nat} (B n i : Nat) (h : i < n) : kN e (.slice (some ⟨B, 0, some c⟩) n n) (.int .i64 i) = some (.pointer (some ⟨B, i * e, none⟩)) := by
 show (bif Nat.blt i n then fP (i * e) ⟨B, 0, some c⟩ else none) = _
 rw [show Nat.blt i n = true from qai h]
 show some (Value.pointer (some ⟨B, 0 + i * e, none⟩)) = _
 rw [Nat.zero_add]
theorem jd {α : Type} {m : M} {B c e : Nat} {f : α → List Value} (hf : ∀ x, (f x).length = e) {l : List α} (h : Arr m B (l.flatMap f)) (hB : B < m.n) : Rd m (.slice (some ⟨B, 0, some c⟩) l.length l.length) e f l := by
 have hlen := wY hf l
 refine ⟨rfl, fun i r hr => ?_, ?_, fun C hC => by cases hC; exact hB⟩
 ·have hi := (qac.1 hr).1
  refine ⟨?_, hB, ?_⟩
  ·rw [zX B _ i hi]
   show _ = some (Value.pointer (some ⟨B, 0 + i * e, none⟩))
   rw [Nat.zero_add]
  ·show loads m ⟨B, 0 + i * e, none⟩ e = _
   have := qau e (Nat.succ_le_of_lt hi)
   rw [Nat.succ_mul] at this
   rw [Nat.zero_add, h.loads (by omega), zT hf l i r hr]
 ·show loads m _ (l.length * e) = _
  rw [h.loads (by omega), List.drop_zero, ← hlen, List.take_length]
theorem vt {e : Nat} {f : Nat → List Value} (hf : ∀ j, (f j).length = e) {n j o : Nat} (hj : j < n) (ho : o < e) : ((List.range n).flatMap f)[j * e + o]? = (f j)[o]? := by
 have := zT hf (List.range n) j j (by rw [List.getElem?_range hj])
 have h2 := congrArg (fun l => l[o]?) this
 simp only [List.getElem?_take, ho, if_true, List.getElem?_drop] at h2
 exact h2
theorem bf {n e bytes : Nat} {zs : List Value} (hz : zs.length = e) (h : n ≤ 1000) (hb : bytes ≤ 1000) (he : e ≤ 100) (m : M) : vA e bytes zs (.int .i64 (n : Int)) (.int .i64 (n : Int)) m = some (.slice (some ⟨m.n, 0, some (code e true)⟩) n n, newRow m ((List.range n).flatMap fun _ => zs)) := by
 show (bif Nat.ble n n && Nat.ble (n * bytes) most && Nat.ble n 4611686018427387904 && Nat.ble (n * e) 1048576 then some (Value.slice (some ⟨m.n, 0, some (code e true)⟩) n n, newRow m (rep n zs)) else none) = _
 have h1 : n * bytes ≤ 1000 * 1000 := Nat.mul_le_mul h hb
 have h2 : n * e ≤ 1000 * 100 := Nat.mul_le_mul h he
 rw [qai (qad n), qai (by unfold most; omega), qai (by omega), qai (by omega), GC]
 rfl
@[simp] theorem pConvI_ap (k : IntKind) (a : V) (t : Tm) : xQ k a t = Fm k (a t) := _root_.id rfl
@[simp] theorem vQ (x : Nat) (h : x < 1000000) : Fm .u64 (.int .i64 (x : Int)) = some (.int .u64 (x : Int)) := by
 show some (Value.int .u64 (yq .u64 (x : Int))) = _
 rw [jH]
 have : IntKind.u64.wrap (x : Int) = (x : Int) := by
  unfold IntKind.wrap; simp [IntKind.bits, IntKind.signed]; omega
 rw [this]
end Go.Dx
namespace Go.Dx
section
variable {m0 m m' : M} {σ σ' : List (Nat × List Value)} {k b : Nat} {l : List Value}
theorem St.sub (h : St m0 m σ) (hs : ∀ p ∈ σ', p ∈ σ) (hn : (σ'.map (·.1)).Nodup) : St m0 m σ' := ⟨h.ext, h.base, fun p hp => h.arr p (hs p hp), hn⟩
theorem Grown.low {α : Type} {m0 m0' m : M} {v : Value} {e : Nat} {f : α → List Value} {es : List α} (h : Grown m0 m v e f es) (hn : m0'.n ≤ m0.n) : Grown m0' m v e f es := by
 rcases h with h | ⟨B, h1, h2⟩
 ·exact .inl h
 ·exact .inr ⟨B, by omega, h2⟩
theorem St.fillAny (h : St m0 m σ) (k : Nat) (hk : σ[k]? = some (b, l)) {n : Nat} {l' : List Value} (hn0 : 0 < n) (hl : l.length = n) (hl' : l'.length = n) (hv : ∀ v ∈ l', okC v = true) :
  ∃ m', qO n (.pointer (some ⟨b, 0, none⟩)) (.agg ⟨l'⟩) (qh m) = some (undef, m') ∧ m'.log = [b] ∧ St m0 (Dx.behind m m') (σ.set k (b, l')) ∧ (Dx.behind m m').n = m.n ∧ (∀ X, X ≠ b → (Dx.behind m m').obj X = m.obj X) := by
 obtain ⟨h1, h2, h3⟩ := h.get k hk
 have h3' : Arr (qh m) b l := h3.congr (qw m b)
 have e := zn (n := n) (o := 0) (v := .agg ⟨l'⟩) (l := l') h3' rfl hl' (by omega) hv
 obtain ⟨s1, s2, s3, s4, s5, s6⟩ := ki (o := 0) (l := l') h3' (by omega) hv
 rw [gy (by omega)] at s2
 have hlog : (jB (qh m) b 0 l').log = [b] := by
  obtain ⟨c, hc, hcl⟩ := h3'
  obtain ⟨v0, vs, rfl⟩ : ∃ v0 vs, l' = v0 :: vs := by
   cases l' with
   | nil => simp at hl'; omega
   | cons a b => exact ⟨a, b, rfl⟩
  have : ∃ c', wk (qh m) ⟨b, 0, none⟩ (v0 :: vs) = some ((qh m).put b (.cells c')) := by
   have hs : wk (qh m) ⟨b, 0, none⟩ (v0 :: vs) = ob (vC ((qh m).obj b)) fun c => ob (stn c 0 (v0 :: vs)) fun c' => some ((qh m).put b (.cells c')) := rfl
   rw [hs, hc]
   obtain ⟨c', e', _⟩ := dy (vs := v0 :: vs) (o := 0) hcl (by omega) hv
   exact ⟨c', by show ob (stn c 0 (v0 :: vs)) _ = _; rw [e']; rfl⟩
  obtain ⟨c', e'⟩ := this
  have hp : jB (qh m) b 0 (v0 :: vs) = (qh m).put b (.cells c') := by unfold jB; rw [e']; rfl
  rw [hp]
  cases m with | mk a nx bs wl =>
  show note nx b [] = [b]
  have h2' : b < nx := h2
  unfold note
  have : Nat.ble nx b = false := by
   cases q : Nat.ble nx b with
   | false => rfl
   | true => exact absurd (qaj q) (by omega)
  rw [this]; rfl
 refine ⟨_, e, hlog, h.put' k hk (by rw [qV, s3, qz]) (kw _ _) ?_ (fun X hX => by rw [qA, s5 X hX, qw]) (s2.congr (qA _ _ _)), by rw [qV, s3, qz], fun X hX => by rw [qA, s5 X hX, qw]⟩
 rw [kI, hlog]
 refine fx fun B hB => ?_
 rw [qah.1 hB, h.ext.base]
 have := h.base
 omega
end
end Go.Dx
namespace Go.Dx
@[simp] theorem eqFV_ap (neg : Bool) (ks : List Nat) (a b : List Value) : eqFV neg ks (.agg ⟨a⟩) (.agg ⟨b⟩) = ob (wT ks a b) fun r => some (.bool (bif neg then !r else r)) := _root_.id rfl
theorem zl (ks : List Nat) (k : IntKind) (x : Int) (l r : List Value) : wT (1 :: ks) (.int k x :: l) (.int k x :: r) = wT ks l r := by
 have h : eqK 1 (.int k x) (.int k x) = some true := by
  show (bif Nat.beq (ik k) (ik k) then some (eqI x x) else none) = _
  rw [Nat.beq_refl, xH]; simp
 show ob (eqK 1 (.int k x) (.int k x)) _ = _
 rw [h]; rfl
theorem bU (l r : List Value) : wT [] l r = some true := rfl
end Go.Dx
namespace Go.Sx
open Go.Dx Go.Proofs
theorem grown_low {α : Type} {m0 m : M} {v : Value} {e : Nat} {f : α → List Value} {es : List α} (h : Grown m0 m v e f es) : ∀ B, blk v = some B → m0.n ≤ B ∧ B < m.n := by
 rcases h with ⟨_, rfl⟩ | ⟨B', h1, h2, _, rfl, _⟩
 ·intro B hB; cases hB
 ·intro B hB; cases hB; exact ⟨h1, h2⟩
structure LF (m1 : M) (PB A5 A6 A7 c1 : Nat) (ed ec md : Value) (es : List (Int × Int)) (ms : List Int) (TH CE VA : Nat → Nat) : Prop where
 lP : PB < m1.n
 l5 : A5 < m1.n
 l6 : A6 < m1.n
 l7 : A7 < m1.n
 lc : c1 < m1.n
 p0 : load1 m1 ⟨PB, 0, none⟩ = some ed
 p5 : load1 m1 ⟨PB, 5, none⟩ = some (.slice (some ⟨A5, 0, some 3⟩) es.length es.length)
 p6 : load1 m1 ⟨PB, 6, none⟩ = some (.slice (some ⟨A6, 0, some 3⟩) es.length es.length)
 p7 : load1 m1 ⟨PB, 7, none⟩ = some (.slice (some ⟨A7, 0, some 3⟩) es.length es.length)
 a5 : ∀ i, i < es.length → load1 m1 ⟨A5, i, none⟩ = some (iv (TH i))
 a6 : ∀ i, i < es.length → load1 m1 ⟨A6, i, none⟩ = some (iv (CE i))
 a7 : ∀ i, i < es.length → load1 m1 ⟨A7, i, none⟩ = some (iv (VA i))
 hed : Rd m1 ed 2 edgeRow es
 c1m : load1 m1 ⟨c1, 1, none⟩ = some md
 hmd : Rd m1 md 1 modeRow ms
 small : ∀ i, VA i < 1000000
theorem LF.sees {m1 m : M} {PB A5 A6 A7 c1 : Nat} {ed ec md : Value} {es : List (Int × Int)} {ms : List Int} {TH CE VA : Nat → Nat} (h : LF m1 PB A5 A6 A7 c1 ed ec md es ms TH CE VA) (k : Sees m1 m) : LF m PB A5 A6 A7 c1 ed ec md es ms TH CE VA := by
 have hn := k.n
 exact ⟨qaf h.lP hn, qaf h.l5 hn, qaf h.l6 hn, qaf h.l7 hn, qaf h.lc hn, (qv k h.lP).trans h.p0, (qv k h.lP).trans h.p5, (qv k h.lP).trans h.p6, (qv k h.lP).trans h.p7,
  fun i hi => (qv k h.l5).trans (h.a5 i hi), fun i hi => (qv k h.l6).trans (h.a6 i hi), fun i hi => (qv k h.l7).trans (h.a7 i hi), h.hed.sees k, (qv k h.lc).trans h.c1m, h.hmd.sees k, h.small⟩
def fc (es : List (Int × Int)) (i : Nat) : Int := (eAt es (ahN es.length i)).2
structure fL (es : List (Int × Int)) (va : List Nat) (TH CE VA WR : Nat → Nat) : Prop where
 th : ∀ i, i < es.length → (zY es (es.length - cnt es) (qF es (qM es))).th[i]? = some (TH i)
 tl : ∀ i, i < es.length → TH i < cnt es
 ce : ∀ i, i < es.length → (zY es (es.length - cnt es) (qF es (qM es))).ce[i]? = some (CE i)
 va : ∀ i, i < es.length → va[i]? = some (VA i)
 wr : ∀ x, x < es.length - cnt es → (zY es (es.length - cnt es) (qF es (qM es))).wr[x]? = some (WR x)
 vs : ∀ i, VA i < 1000000
 ws : ∀ i, WR i < 1000000
theorem _root_.Go.Dx.Rd.okV {α : Type} {m : M} {v : Value} {e : Nat} {f : α → List Value} {es : List α} (h : Rd m v e f es) : Dx.okC v = true := by
 have := h.len
 cases v with
 | slice a n c => rfl
 | _ => cases this
end Go.Sx
namespace Go.Dx
noncomputable section
structure GS {α : Type} (m0 m1 m : M) (P2 P3 : Nat) (σ : List (Nat × List Value)) (g : Value) (e : Nat) (f : α → List Value) (rows : List α) : Prop where
 st : St m0 m σ
 rest : Go.Dx.Rest m1.n [P2, P3] m1 m
 low : ∀ p ∈ σ, p.1 = P2 ∨ p.1 = P3 ∨ m1.n ≤ p.1
 m01 : m0.n ≤ m1.n
 m1b : m1.base ≤ m1.n
 gr : Grown m1 m g e f rows
 sep : ∀ B, blk g = some B → m1.n ≤ B ∧ B < m.n ∧ ∀ p ∈ σ, p.1 ≠ B
section
variable {α : Type} {m0 m1 m m' : M} {P2 P3 : Nat} {σ σ' : List (Nat × List Value)} {g : Value} {e : Nat} {f : α → List Value} {rows : List α}
theorem GS.step (h : GS m0 m1 m P2 P3 σ g e f rows) (k : Ext m m') : GS m0 m1 m' P2 P3 σ g e f rows :=
 ⟨h.st.step k, ⟨qam h.rest.n k.n, fun B hB hx => (k.obj B (qaf hB h.rest.n)).trans (h.rest.obj B hB hx), k.base.trans h.rest.base, k.log.trans h.rest.log⟩, h.low, h.m01, h.m1b, h.gr.ext k, fun B hB => let ⟨a, b, c⟩ := h.sep B hB; ⟨a, qaf b k.n, c⟩⟩
theorem GS.sub (h : GS m0 m1 m P2 P3 σ g e f rows) (hs : ∀ p ∈ σ', p ∈ σ) (hn : (σ'.map (·.1)).Nodup) : GS m0 m1 m P2 P3 σ' g e f rows :=
 ⟨h.st.sub hs hn, h.rest, fun p hp => h.low p (hs p hp), h.m01, h.m1b, h.gr, fun B hB => let ⟨a, b, c⟩ := h.sep B hB; ⟨a, b, fun p hp => c p (hs p hp)⟩⟩
theorem GS.row (h : GS m0 m1 m P2 P3 σ g e f rows) (l : List Value) : GS m0 m1 (newRow m l) P2 P3 ((m.n, l) :: σ) g e f rows := by
 have h' := h.step (Ext.row m l)
 refine ⟨h.st.row l, h'.rest, fun p hp => ?_, h.m01, h.m1b, h'.gr, fun B hB => ?_⟩
 ·rcases List.mem_cons.1 hp with rfl | hp
  ·exact .inr (.inr h.rest.n)
  ·exact h.low p hp
 ·obtain ⟨a, b, c⟩ := h.sep B hB
  refine ⟨a, by rw [qn]; omega, fun p hp => ?_⟩
  rcases List.mem_cons.1 hp with rfl | hp
  ·simp; omega
  ·exact c p hp
theorem FL {k b : Nat} {l l' : List Value} (hk : σ[k]? = some (b, l)) : (σ.set k (b, l')).map (·.1) = σ.map (·.1) := by
 obtain ⟨hk', hke⟩ := qac.1 hk
 rw [List.map_set]
 show (σ.map (·.1)).set k b = _
 refine List.ext_getElem (by simp) fun i h1 h2 => ?_
 rw [List.getElem_set]
 split
 ·subst_vars; simp [hke]
 ·rfl
theorem Xi {k b : Nat} {l l' : List Value} (hk : σ[k]? = some (b, l)) {p : Nat × List Value} (hp : p ∈ σ.set k (b, l')) : ∃ q ∈ σ, q.1 = p.1 := by
 have : p.1 ∈ (σ.set k (b, l')).map (·.1) := List.mem_map.2 ⟨p, hp, rfl⟩
 rw [FL hk] at this
 obtain ⟨q, hq, e⟩ := List.mem_map.1 this
 exact ⟨q, hq, e⟩
theorem GS.put (h : GS m0 m1 m P2 P3 σ g e f rows) {k b : Nat} {l l' : List Value} (hk : σ[k]? = some (b, l)) (s2 : St m0 m' (σ.set k (b, l'))) (s3 : m'.n = m.n) (s4 : ∀ X, X ≠ b → m'.obj X = m.obj X) : GS m0 m1 m' P2 P3 (σ.set k (b, l')) g e f rows := by
 have hb := qab hk
 refine ⟨s2, ⟨by rw [s3]; exact h.rest.n, fun B hB hx => ?_, by rw [s2.ext.base, ← h.st.ext.base]; exact h.rest.base, by rw [s2.ext.log, ← h.st.ext.log]; exact h.rest.log⟩, fun p hp => ?_, h.m01, h.m1b, ?_, fun B hB => ?_⟩
 ·rw [s4 B ?_]; exact h.rest.obj B hB hx
  rintro rfl
  rcases h.low _ hb with e | e | e
  ·simp at hx e; omega
  ·simp at hx e; omega
  ·simp at e; omega
 ·obtain ⟨q, hq, e⟩ := Xi hk hp
  rw [← e]; exact h.low q hq
 ·exact h.gr.keep (by rw [s3]; exact qad _) fun B hB hg => s4 B fun e => (h.sep B hg).2.2 _ hb e.symm
 ·obtain ⟨a, b', c⟩ := h.sep B hB
  refine ⟨a, by rw [s3]; exact b', fun p hp => ?_⟩
  obtain ⟨q, hq, e⟩ := Xi hk hp
  rw [← e]; exact c q hq
theorem GS.store (h : GS m0 m1 m P2 P3 σ g e f rows) (k : Nat) {b o : Nat} {l : List Value} {v : Value} (hk : σ[k]? = some (b, l)) (ho : o < l.length) (hv : okC v = true) :
  ∃ m', qO 1 (.pointer (some ⟨b, o, none⟩)) v m = some (undef, m') ∧ GS m0 m1 m' P2 P3 (σ.set k (b, l.set o v)) g e f rows ∧ m'.n = m.n ∧ ∀ X, X ≠ b → m'.obj X = m.obj X := by
 obtain ⟨m', s1, s2, s3, s4⟩ := h.st.store k hk ho hv
 exact ⟨m', s1, h.put hk s2 s3 s4, s3, s4⟩
theorem GS.storeAny (h : GS m0 m1 m P2 P3 σ g e f rows) (k : Nat) {b o : Nat} {l : List Value} {v : Value} (hk : σ[k]? = some (b, l)) (ho : o < l.length) (hv : okC v = true) :
  ∃ m', qO 1 (.pointer (some ⟨b, o, none⟩)) v (qh m) = some (undef, m') ∧ m'.log = [b] ∧ GS m0 m1 (behind m m') P2 P3 (σ.set k (b, l.set o v)) g e f rows ∧ (behind m m').n = m.n ∧ ∀ X, X ≠ b → (behind m m').obj X = m.obj X := by
 obtain ⟨m', s1, s1', s2, s3, s4⟩ := h.st.storeAny k hk ho hv
 exact ⟨m', s1, s1', h.put hk s2 s3 s4, s3, s4⟩
theorem GS.grow (h : GS m0 m1 m P2 P3 σ g e f rows) {M1 : M} (hM : Ext m M1) {g' : Value} {rows' : List α} (n2 : M1.n ≤ m'.n) (g2 : Grown m1 m' g' e f rows') (eb : m'.base = m.base) (el : m'.log = m.log) (k2 : ∀ B, B < M1.n → blk g ≠ some B → m'.obj B = M1.obj B) (b2 : ∀ B, blk g' = some B → M1.n ≤ B) : GS m0 m1 m' P2 P3 σ g' e f rows' := by
 have hMn := hM.n
 have keep : ∀ B, B < m.n → blk g ≠ some B → m'.obj B = m.obj B := fun B hB hg => (k2 B (by omega) hg).trans (hM.obj B hB)
 have h01 := h.m01
 have low : ∀ B, B < m1.n → blk g ≠ some B := fun B hB hg => by have := (h.sep B hg).1; omega
 have hr := h.rest.n
 refine ⟨⟨⟨by have := h.st.ext.n; omega, fun B hB => ?_, by rw [eb, h.st.ext.base], by rw [el, h.st.ext.log]⟩, h.st.base, fun p hp => ?_, h.st.nd⟩, ⟨by omega, fun B hB hx => ?_, by rw [eb, h.rest.base], by rw [el, h.rest.log]⟩, h.low, h.m01, h.m1b, g2, fun B hB => ?_⟩
 ·rw [keep B (by omega) (low B (by omega))]; exact h.st.ext.obj B hB
 ·obtain ⟨a, b, c⟩ := h.st.arr p hp
  exact ⟨a, by omega, c.congr (keep p.1 b fun hg => (h.sep _ hg).2.2 p hp rfl)⟩
 ·rw [keep B (by omega) (low B hB)]; exact h.rest.obj B hB hx
 ·have h1 := b2 B hB
  have h2 := (Go.Sx.grown_low g2 B hB).2
  exact ⟨by omega, h2, fun p hp => by have := (h.st.arr p hp).2.1; omega⟩
theorem GS.app (h : GS m0 m1 m P2 P3 σ g e f rows) (he : 0 < e) (hf : ∀ x, (f x).length = e) (hok : ∀ x, ∀ v ∈ f x, okC v = true) {x : α} {M1 : M} (hM : Ext m M1) {X : Nat} {sp : Option Nat} (hx : loads M1 ⟨X, 0, sp⟩ e = some (f x)) {bytes : Nat} (hm : (rows.length + 1) * bytes ≤ most) (hn : rows.length + 1 ≤ 4611686018427387904) :
  ∃ v' m2, qZ M1 e bytes g (.slice (some ⟨X, 0, sp⟩) 1 1) = some (v', m2) ∧ GS m0 m1 m2 P2 P3 σ v' e f (rows ++ [x]) ∧ M1.n ≤ m2.n ∧ (∀ B, B < m.n → blk g ≠ some B → m2.obj B = m.obj B) ∧ (∀ B, blk v' = some B → M1.n ≤ B) := by
 have hMn := hM.n
 have hr := h.rest.n
 obtain ⟨v', m2, h1, h2, h3, h4, h5, h6, h7⟩ := (h.gr.ext hM).core he hf hok hx (by omega) hm hn
 refine ⟨v', m2, h1, h.grow hM (by omega) h2 (by rw [h4, hM.base]) ?_ h6 h7, by omega, fun B hB hg => (h6 B (by omega) hg).trans (hM.obj B hB), h7⟩
 rcases h5 with h5 | ⟨B, _, hB, h5⟩
 ·rw [h5, hM.log]
 ·have hb := h.st.ext.base
  have hb2 := h.st.base
  have hb3 := h.st.ext.n
  have hb4 := h.rest.base
  rw [h5, bi (by rw [hM.base]; have := h.m1b; omega), hM.log]
theorem GS.appAny (h : GS m0 m1 m P2 P3 σ g e f rows) (he : 0 < e) (hf : ∀ x, (f x).length = e) (hok : ∀ x, ∀ v ∈ f x, okC v = true) {x : α} {M1 : M} (hM : Ext m M1) {X : Nat} {sp : Option Nat} (hx : loads M1 ⟨X, 0, sp⟩ e = some (f x)) {bytes : Nat} (hm : (rows.length + 1) * bytes ≤ most) (hn : rows.length + 1 ≤ 4611686018427387904) :
  ∃ v' m2, qZ (qh M1) e bytes g (.slice (some ⟨X, 0, sp⟩) 1 1) = some (v', m2) ∧ (m2.log = [] ∨ ∃ B, blk g = some B ∧ m2.log = [B]) ∧ GS m0 m1 (behind M1 m2) P2 P3 σ v' e f (rows ++ [x]) ∧ M1.n ≤ (behind M1 m2).n ∧ (∀ B, B < m.n → blk g ≠ some B → (behind M1 m2).obj B = m.obj B) ∧ (∀ B, blk v' = some B → M1.n ≤ B) := by
 have hMn := hM.n
 have hr := h.rest.n
 have hA : Grown m1 (qh M1) g e f rows := (h.gr.ext hM).keep (by rw [qz]; exact qad _) fun B _ _ => qw _ _
 have hx' : loads (qh M1) ⟨X, 0, sp⟩ e = some (f x) := by rw [Vn]; exact hx
 obtain ⟨v', m2, h1, h2, h3, h4, h5, h6, h7⟩ := hA.core he hf hok hx' (by rw [qz]; omega) hm hn
 rw [qz] at h3 h6 h7
 have hlog : m2.log = [] ∨ ∃ B, blk g = some B ∧ m2.log = [B] := by
  rcases h5 with h5 | ⟨B, hB, _, h5⟩
  ·exact .inl (by rw [h5, qY])
  ·refine .inr ⟨B, hB, ?_⟩
   rw [h5, wI, qY]
   have := (h.sep B hB).2.1
   unfold note
   have h' : Nat.ble M1.n B = false := by
    cases q : Nat.ble M1.n B with
    | false => rfl
    | true => exact absurd (qaj q) (by omega)
   rw [h']; rfl
 have k6 : ∀ B, B < M1.n → blk g ≠ some B → (behind M1 m2).obj B = M1.obj B := fun B hB hg => by rw [qA, h6 B hB hg, qw]
 refine ⟨v', m2, h1, hlog, h.grow hM (by rw [qV]; omega) (h2.keep (by rw [qV]; exact qad _) fun B _ _ => qA _ _ _) (by rw [kw, hM.base]) ?_ k6 h7, by rw [qV]; omega, fun B hB hg => (k6 B (by omega) hg).trans (hM.obj B hB), h7⟩
 rw [kI, ← hM.log]
 rcases hlog with h' | ⟨B, hB, h'⟩
 ·rw [h']; rfl
 ·rw [h']
  have := (h.sep B hB).1
  have hb4 := h.rest.base
  show notes M1.base (note M1.base B M1.log) [] = M1.log
  rw [bi (by rw [hM.base, hb4]; have := h.m1b; omega)]; rfl
theorem GS.putL (h : GS m0 m1 m P2 P3 σ g e f rows) {L : Nat} (hL : ∀ p ∈ σ, p.1 ≠ L) (h1 : m1.n ≤ L) (hg : blk g ≠ some L) (o : zw) : GS m0 m1 (m.put L o) P2 P3 σ g e f rows := by
 have h0 := h.st.ext.n
 have hr := h.rest
 have hb := h.m1b
 refine ⟨h.st.putL hL (qam h.m01 h1) o, ⟨by rw [M.n_put]; exact hr.n, fun B hB hx => by rw [M.obj_put, if_neg (by omega)]; exact hr.obj B hB hx, by rw [M.base_put]; exact hr.base, by rw [zm (by rw [hr.base]; omega)]; exact hr.log⟩, h.low, h.m01, h.m1b, h.gr.keep (by rw [M.n_put]; exact qad _) fun B _ hB => by rw [M.obj_put, if_neg (by rintro rfl; exact hg hB)], fun B hB => by rw [M.n_put]; exact h.sep B hB⟩
theorem GS.done (h : GS m0 m1 m P2 P3 σ g e f rows) (hne : rows ≠ []) {β : Type} (e' : Nat) (f' : β → List Value) : ∃ B, g = .slice (some ⟨B, 0, some (code e false)⟩) rows.length rows.length ∧ m1.n ≤ B ∧ GS m0 m1 m P2 P3 ((B, rows.flatMap f) :: σ) (.slice none 0 0) e' f' [] := by
 rcases h.gr with ⟨h1, _⟩ | ⟨B, h1, h2, h3, h4, h5⟩
 ·exact absurd h1 hne
 ·have hs := (h.sep B (by rw [h4]; rfl)).2.2
  refine ⟨B, h4, h1, ⟨h.st.ext, h.st.base, fun p hp => ?_, ?_⟩, h.rest, fun p hp => ?_, h.m01, h.m1b, .nil, fun C hC => by cases hC⟩
  ·rcases List.mem_cons.1 hp with rfl | hp
   ·exact ⟨by have := h.m01; omega, h2, h5⟩
   ·exact h.st.arr p hp
  ·rw [List.map_cons, List.nodup_cons]
   refine ⟨fun hm => ?_, h.st.nd⟩
   obtain ⟨p, hp, e⟩ := List.mem_map.1 hm
   exact hs p hp e
  ·rcases List.mem_cons.1 hp with rfl | hp
   ·exact .inr (.inr h1)
   ·exact h.low p hp
end
end
end Go.Dx
namespace Go.Dx
@[simp] theorem bslice_ev (m : M) (a b c d e : Value) : kQ 5 1 (rep 1 [.int .i64 0, .int .i64 0, .int .i64 0, .int .u64 0, .int .i64 0]) [(0, 5, .agg ⟨[a, b, c, d, e]⟩)] m = some (.slice (some ⟨m.n, 0, some 11⟩) 1 1, newRow m [a, b, c, d, e]) := _root_.id rfl
@[simp] theorem build_ev0 (a b c d : Int) : ko [.int .i64 0, .int .i64 0, .int .i64 0, .int .u64 0, .int .i64 0] [(0, 1, .int .i64 a), (1, 1, .int .i64 b), (2, 1, .int .i64 c), (4, 1, .int .i64 d)] = some (.agg ⟨[.int .i64 a, .int .i64 b, .int .i64 c, .int .u64 0, .int .i64 d]⟩) := _root_.id rfl
@[simp] theorem build_ev (a b c d e : Int) : ko [.int .i64 0, .int .i64 0, .int .i64 0, .int .u64 0, .int .i64 0] [(0, 1, .int .i64 a), (1, 1, .int .i64 b), (2, 1, .int .i64 c), (3, 1, .int .u64 d), (4, 1, .int .i64 e)] = some (.agg ⟨[.int .i64 a, .int .i64 b, .int .i64 c, .int .u64 d, .int .i64 e]⟩) := _root_.id rfl
@[simp] theorem DE (m : M) (a b c : Int) : kQ 1 3 (rep 3 [.int .i64 0]) [(0, 1, .int .i64 a), (1, 1, .int .i64 b), (2, 1, .int .i64 c)] m = some (.slice (some ⟨m.n, 0, some 3⟩) 3 3, newRow m [.int .i64 a, .int .i64 b, .int .i64 c]) := _root_.id rfl
@[simp] theorem bslice_sl (m : M) (a : Option Addr) (x y : Nat) : kQ 1 1 (rep 1 [.slice none 0 0]) [(0, 1, .slice a x y)] m = some (.slice (some ⟨m.n, 0, some 3⟩) 1 1, newRow m [.slice a x y]) := _root_.id rfl
noncomputable section
variable {α : Type} {m0 m1 m m' : M} {P2 P3 : Nat} {σ σ' : List (Nat × List Value)} {g : Value} {e : Nat} {f : α → List Value} {rows : List α}
theorem GS.rowLast (h : GS m0 m1 m P2 P3 σ g e f rows) (l : List Value) : GS m0 m1 (newRow m l) P2 P3 (σ ++ [(m.n, l)]) g e f rows := by
 have h' := h.row l
 refine h'.sub (fun p hp => by simp at hp ⊢; exact hp.symm) ?_
 have := h'.st.nd
 rw [List.map_append]
 exact ((List.perm_append_singleton _ _).nodup_iff).2 this
theorem GS.doneLast (h : GS m0 m1 m P2 P3 σ g e f rows) {β : Type} (e' : Nat) (f' : β → List Value) (hf : ∀ x, (f x).length = e) : ∃ ex, GS m0 m1 m P2 P3 (σ ++ ex) (.slice none 0 0) e' f' [] ∧ (∀ m', St m0 m' ex → Rd m' g e f rows) ∧ ∀ p ∈ ex, m1.n ≤ p.1 := by
 by_cases hne : rows = []
 ·subst hne
  rcases h.gr with ⟨_, rfl⟩ | ⟨B, _, _, h3, _⟩
  ·refine ⟨[], ⟨by simpa using h.st, h.rest, by simpa using h.low, h.m01, h.m1b, .nil, fun C hC => by cases hC⟩, fun m' _ => ⟨rfl, fun i r hr => by simp at hr, rfl, fun B hB => by cases hB⟩, by simp⟩
  ·exact absurd rfl h3
 ·obtain ⟨B, e1, e2, h'⟩ := h.done hne e' f'
  refine ⟨[(B, rows.flatMap f)], h'.sub (fun p hp => by simp at hp ⊢; exact hp.symm) ?_, fun m' hs => ?_, by simpa using e2⟩
  ·have := h'.st.nd
   rw [List.map_append]
   exact ((List.perm_append_singleton _ _).nodup_iff).2 this
  ·obtain ⟨a, b, c⟩ := hs.arr (B, rows.flatMap f) (by simp)
   rw [e1]
   exact jd hf c b
end
end Go.Dx
namespace Go.Sx
open Go.Dx Go.Proofs
structure EvR where
 th : Int
 kind : Int
 loc : Int
 val : Nat
 mode : Int
def qp (x : EvR) : List Value := [iv x.th, iv x.kind, iv x.loc, .int .u64 x.val, iv x.mode]
theorem wM (x : EvR) : (qp x).length = 5 := rfl
theorem kS (x : EvR) : ∀ v ∈ qp x, okC v = true := by simp [qp, okC]
def qq (x : Nat × Nat) : List Value := [iv x.1, iv x.2]
theorem wy (x : Nat × Nat) : (qq x).length = 2 := rfl
theorem xU (x : Nat × Nat) : ∀ v ∈ qq x, okC v = true := by simp [qq, okC]
def yk (f : Nat → Nat) : List Value := [iv (f 0), iv (f 1), iv (f 2)]
structure GB where
 FB : Nat
 q7 : Nat
 P3 : Nat
 P2 : Nat
 q5 : Nat
 PB : Nat
def qc (N : Nat) (ev rf co : Value) : List Value := [iv N, ev, rf, co, .slice none 0 0, .slice none 0 0, .slice none 0 0, .slice none 0 0]
def fbV (rb : Nat → Nat) (c : Nat) : Value := .slice (some ⟨rb c, 0, some 3⟩) 3 3
def GB.σ (u : GB) (N : Nat) (rb : Nat → Nat) (cells : List Value) (tov : Value) (fb : Nat → Value) (c : Nat) (fr : Nat → Nat → Nat) : List (Nat × List Value) :=
 [(u.FB, (List.range N).flatMap fun c => [fb c]), (u.q7, [.slice (some ⟨u.FB, 0, some 3⟩) N N]), (u.P3, [tov]), (u.P2, cells), (u.q5, [.pointer (some ⟨u.PB, 0, none⟩)])] ++ (List.range c).map fun c => (rb c, yk (fr c))
def ev0 (c : Nat) : EvR := ⟨-1, 2, c, 0, 1⟩
def fr0 (c v : Nat) : Nat := if v = 0 then c else 0
theorem BQ (n : Nat) {m0 m1 : M} {u : GB} {N : Nat} (hN : N ≤ 16) (Q : Option Out → Prop) (kn0 kn kr : K) (ke : Nat → K) (t : Tm) (m : M) (I : Tm → Prop) (hIk : ∀ t i v, I t → i ∉ [1, 2, 3, 4, 5, 7, 37] → I (Tm.set i v t)) (hI : I t) (I2 : ∀ t, I t → Tm.get 2 t = .pointer (some ⟨u.P2, 0, none⟩) ∧ Tm.get 7 t = .pointer (some ⟨u.q7, 0, none⟩) ∧ Tm.get 37 t = iv N) (t38 : Tm.get 38 t = iv 0)
  (h : GS m0 m1 m u.P2 u.P3 (u.σ N (fun _ => 0) (qc N (.slice none 0 0) (.slice none 0 0) (.slice none 0 0)) (.slice none 0 0) (fun _ => .slice none 0 0) 0 fr0) (.slice none 0 0) 5 qp [])
  (hq : ∀ t m rb ev, I t → GS m0 m1 m u.P2 u.P3 (u.σ N rb (qc N ev (.slice none 0 0) (.slice none 0 0)) (.slice none 0 0) (fbV rb) N fr0) ev 5 qp ((List.range N).map ev0) → Q (kn t m)) :
  Q (Zv (ex Try.prog n) kn0 (zu 0 kn ke) kr t m) := by
 refine qu (c := Zv) rfl Q (fun c t m' => I t ∧ Tm.get 38 t = iv c ∧ ∃ rb ev fb, (∀ c', c' < c → fb c' = fbV rb c') ∧ GS m0 m1 m' u.P2 u.P3 (u.σ N rb (qc N ev (.slice none 0 0) (.slice none 0 0)) (.slice none 0 0) fb c fr0) ev 5 qp ((List.range c).map ev0)) N (by omega)
  ⟨hI, t38, _, _, _, fun c' h => by omega, h⟩ (fun c t m' k hc hJ hk => ?_)
 obtain ⟨hI, t38, rb, ev, fb, hfb, hG⟩ := hJ
 obtain ⟨t2, t7, t37⟩ := I2 t hI
 by_cases hcl : c < N
 ·have hd := dlt hcl
  have w1 := qS (i := c) (by omega)
  have lev : load1 m' ⟨u.P2, 1, none⟩ = some ev := by rw [(hG.st.get 3 rfl).2.2.load1]; rfl
  obtain ⟨M1, hM1⟩ := qay (Dx.newRow m' [iv (-1), iv 2, iv c, .int .u64 0, iv 1])
  have E1 : Ext m' M1 := by rw [hM1]; exact Ext.row _ _
  have hlen : ((List.range c).map ev0).length = c := by simp
  obtain ⟨ev', m2, p1, p2, p3, p4, p5⟩ := hG.app (by omega) wM kS (x := ev0 c) E1 (X := m'.n) (sp := some 11) (by rw [hM1]; exact (Arr.row m' _).loads (by simp)) (bytes := 40) (by rw [hlen]; unfold most; omega) (by rw [hlen]; omega)
  obtain ⟨m3, q1, q2, q3, q4⟩ := p2.store 3 rfl (o := 1) (v := ev') (by simp [qc]) p2.gr.okC
  have l7 : load1 m3 ⟨u.q7, 0, none⟩ = some (.slice (some ⟨u.FB, 0, some 3⟩) N N) := by rw [(q2.st.get 1 rfl).2.2.load1]; rfl
  obtain ⟨M4, hM4⟩ := qay (Dx.newRow m3 [iv c, iv 0, iv 0])
  have r2 := q2.rowLast [iv c, iv 0, iv 0]
  rw [← hM4] at r2
  have n4 : M4.n = m3.n + 1 := by rw [hM4, qn]
  have xF := zX (e := 1) (c := 3) u.FB N c hcl
  rw [Nat.mul_one] at xF
  have hFl : ((List.range N).flatMap fun c => [fb c]).length = N * 1 := jt fun _ => rfl
  obtain ⟨m5, s1, s2, s3, s4⟩ := r2.store 0 rfl (o := c) (v := .slice (some ⟨m3.n, 0, some 3⟩) 3 3) (by rw [hFl]; omega) rfl
  simp [t2, t7, t37, t38, hd, lev, ← hM1, p1, q1, l7, ← hM4, xF, s1, w1]
  refine hk hcl _ _ ⟨?_, by simp, upN rb c m3.n, ev', upN fb c (.slice (some ⟨m3.n, 0, some 3⟩) 3 3), fun c' hc' => ?_, ?_⟩
  ·repeat' (first | exact hI | refine hIk _ _ _ ?_ (by simp))
  ·by_cases e : c' = c
   ·subst e; rw [qK]; unfold fbV; rw [qK]
   ·rw [wz _ _ e, hfb c' (by omega)]; unfold fbV; rw [wz _ _ e]
  ·have hset : ((List.range N).flatMap fun c => [fb c]).set c (.slice (some ⟨m3.n, 0, some 3⟩) 3 3) = (List.range N).flatMap fun c' => [upN fb c (.slice (some ⟨m3.n, 0, some 3⟩) 3 3) c'] := by
    have := vu (e := 1) (o := 0) (j := c) (v := .slice (some ⟨m3.n, 0, some 3⟩) 3 3) (f := fun c => [fb c]) (g := fun c' => [upN fb c (.slice (some ⟨m3.n, 0, some 3⟩) 3 3) c']) (fun k => rfl) (by omega) (fun k hk => by rw [wz _ _ hk]) (by rw [qK]; rfl) N hcl
    rwa [Nat.mul_one, Nat.add_zero] at this
   have e1 : (List.range (c + 1)).map ev0 = (List.range c).map ev0 ++ [ev0 c] := by rw [List.range_succ, List.map_append]; rfl
   have e2 : (List.range (c + 1)).map (fun c' => (upN rb c m3.n c', yk (fr0 c'))) = (List.range c).map (fun c => (rb c, yk (fr0 c))) ++ [(m3.n, [iv c, iv 0, iv 0])] := by
    rw [List.range_succ, List.map_append]
    congr 1
    ·refine List.map_congr_left fun c' hc' => ?_
     rw [wz _ _ (by simp at hc'; omega)]
    ·simp only [List.map_cons, List.map_nil, qK]; rfl
   rw [e1]
   have e3 : u.σ N (upN rb c m3.n) (qc N ev' (.slice none 0 0) (.slice none 0 0)) (.slice none 0 0) (upN fb c (.slice (some ⟨m3.n, 0, some 3⟩) 3 3)) (c + 1) fr0 = (((u.σ N rb (qc N ev (.slice none 0 0) (.slice none 0 0)) (.slice none 0 0) fb c fr0).set 3 (u.P2, (qc N ev (.slice none 0 0) (.slice none 0 0)).set 1 ev')) ++ [(m3.n, [iv c, iv 0, iv 0])]).set 0 (u.FB, ((List.range N).flatMap fun c => [fb c]).set c (.slice (some ⟨m3.n, 0, some 3⟩) 3 3)) := by
    unfold GB.σ
    rw [e2, hset]
    simp [qc]
   rw [e3]; exact s2
 ·obtain rfl : c = N := by omega
  have hd : ((c : Int) < (c : Int)) = False := eq_false (by omega)
  simp [t37, t38, hd]
  refine hq _ _ rb ev ?_ ?_
  ·repeat' (first | exact hI | refine hIk _ _ _ ?_ (by simp))
  ·have e : u.σ c rb (qc c ev (.slice none 0 0) (.slice none 0 0)) (.slice none 0 0) (fbV rb) c fr0 = u.σ c rb (qc c ev (.slice none 0 0) (.slice none 0 0)) (.slice none 0 0) fb c fr0 := by
    have key : (List.range c).flatMap (fun c => [fbV rb c]) = (List.range c).flatMap fun c => [fb c] := by
     simp only [List.flatMap]
     congr 1
     exact List.map_congr_left fun c' hc' => by rw [hfb c' (by simpa using hc')]
    unfold GB.σ; rw [key]
   rw [e]; exact hG
end Go.Sx
namespace Go.Sx
open Go.Dx Go.Proofs
theorem QH {c : SC} {o : V} {nt p : Nat} {a b : Code} {ks : List Nat} (hc : c = sRf o nt #[p] a b ks) {sa sb : SC} (ha : cCode Try.prog nt a = some sa) (hb : cCode Try.prog nt b = some sb) (hnt : nt ≤ 512) (n : Nat) {kn kr : K} {ke : Nat → K} {t : Tm} {m : M} {Q : Option Out → Prop} {W PB bg len : Nat}
  (hlen : 0 < len) (hl : len ≤ 1000) (hbl : bg < len) (ho : o t = .func (.func 71) #[] #[.pointer (some ⟨W, 0, none⟩)]) {T : Tm} (hT : zr ks t = T) (t1 t2 : Nat → Tm) (hput : ∀ i : Nat, jc nt T [p] [iv i] = some (t1 i)) (hsa : ∀ (i : Nat) (x : Ex) (k : K) (m : M), sa x k noK (fun _ _ => none) (t1 i) m = k (t2 i) m)
  (J : Nat → M → Prop) (hJ : ∀ k m', k ≤ len → J k m' → load1 m' ⟨W, 0, none⟩ = some (.pointer (some ⟨PB, 0, none⟩)) ∧ (∃ ed, load1 m' ⟨PB, 0, none⟩ = some ed ∧ zZ ed = some (iv len)) ∧ load1 m' ⟨PB, 2, none⟩ = some (iv bg))
  (hE : ∀ m', Ext m m' → J 0 m') (hL : ∀ k m' O, J k m' → m.n < m'.n → J k (m'.put m.n O))
  (round : ∀ k m', k < len → J k m' → m.n < m'.n → Rnd (fun e m2 => e = none ∧ m2.obj m.n = m'.obj m.n ∧ m'.n ≤ m2.n ∧ J (k + 1) m2) (sb (ex Try.prog n) (wR none) zf (wR (some E.ret)) (t2 ((bg + k) % len)) m'))
  (hq : ∀ m', J len m' → Q (kn t m')) : Q (c (ex Try.prog (n + 2)) kn ke kr t m) := by
 obtain ⟨mE, hmE⟩ := qay (m.alloc (.loop 0 T nt #[p] a b none))
 have nE : mE.n = m.n + 1 := by rw [hmE, M.n_alloc]
 have EE : Ext m mE := by rw [hmE]; exact ⟨by rw [M.n_alloc]; omega, fun X hX => by rw [M.obj_alloc, if_neg (by omega)], M.base_alloc _ _, M.log_alloc _ _⟩
 have obE : mE.obj m.n = some (.loop 0 T nt #[p] a b none) := by rw [hmE, M.obj_alloc, if_pos rfl]
 have hwalk := bu (n + 1) (.func (.yield m.n) #[] #[]) PB W bg len hlen hl hbl
  (fun k m' => J k m' ∧ m'.obj m.n = some (.loop 0 T nt #[p] a b none) ∧ m.n < m'.n) (fun _ => False)
  (fun k m' hk h => hJ k m' hk h.1)
  (fun k m' hk h => by
   obtain ⟨w, hob, hLn⟩ := h
   have hrd := xq (P := Try.prog) (n := n) (L := m.n) (args := [iv ((bg + k) % len : Nat)]) (t' := t1 ((bg + k) % len)) (t'' := t2 ((bg + k) % len)) (m := m')
    (R := fun e m2 => e = none ∧ m'.n ≤ m2.n ∧ J (k + 1) m2) hob ha hb (hput _) hnt (fun k => hsa _ _ k _) (by
     have := round k _ hk (hL k m' (.loop 1 T nt #[p] a b none) w hLn) (by rw [M.n_put]; exact hLn)
     obtain ⟨e, m2, r1, r2, r3, r4, r5⟩ := this
     rw [M.n_put] at r4
     rw [M.obj_put, if_pos rfl] at r3
     exact ⟨e, m2, r1, r3, r2, r4, r5⟩)
   obtain ⟨e, m2, ho2, ⟨rfl, hn2, hw2⟩, hrun⟩ := hrd
   exact .inl ⟨_, hrun, hL _ _ _ hw2 (by omega), by rw [M.obj_put, if_pos rfl], by rw [M.n_put]; omega⟩)
  mE ⟨hE mE EE, obE, by omega⟩
 obtain ⟨m6, hw, hend⟩ := hwalk
 rcases hend with ⟨w6, ob6, hL6⟩ | hF
 rotate_left
 ·exact hF.elim
 refine yL (c := c) hc (g := 71) (u := []) (v := [.pointer (some ⟨W, 0, none⟩)]) ho (r := .tuple #[]) (m1 := m6) (st := 0) (by rw [hT, ← hmE]; exact hw) ob6 (by omega) ?_
 unfold ju
 exact hq _ (hL _ _ _ w6 hL6)
end Go.Sx
namespace Go.Sx
open Go.Dx Go.Proofs
structure GT where
 ev : List EvR
 to : Nat → Nat
 fr : Nat → Nat → Nat
def wX (es : List (Int × Int)) (TH : Nat → Nat) (i : Nat) : List EvR := if fc es i = 0 then [] else [⟨TH i, 3, -1, 0, fc es i⟩]
def evA (es : List (Int × Int)) (ms : List Int) (TH CE VA : Nat → Nat) (i : Nat) : EvR := ⟨TH i, if qy es i then 2 else 1, CE i, VA i, mAt ms i⟩
def kf (es : List (Int × Int)) (ms : List Int) (TH CE VA : Nat → Nat) (s : GT) (i : Nat) : GT :=
 ⟨s.ev ++ wX es TH i ++ [evA es ms TH CE VA i], upN s.to i (s.ev ++ wX es TH i).length, if qy es i then upN s.fr (CE i) (upN (s.fr (CE i)) (VA i) (s.ev ++ wX es TH i).length) else s.fr⟩
def GB.σ1 (u : GB) (W T N n : Nat) (rb : Nat → Nat) (cells : List Value) (to : Nat → Nat) (fr : Nat → Nat → Nat) : List (Nat × List Value) :=
 (W, [.pointer (some ⟨u.PB, 0, none⟩)]) :: (T, (List.range n).flatMap fun j => [iv (to j)]) :: u.σ N rb cells (.slice (some ⟨T, 0, some 3⟩) n n) (fbV rb) N fr
theorem GB.sg_row {u : GB} {W T N n : Nat} {rb : Nat → Nat} {cells : List Value} {to : Nat → Nat} {fr : Nat → Nat → Nat} {c : Nat} (h : c < N) : (u.σ1 W T N n rb cells to fr)[7 + c]? = some (rb c, yk (fr c)) := by
 unfold GB.σ1 GB.σ
 rw [show 7 + c = c + 5 + 1 + 1 by omega, List.getElem?_cons_succ, List.getElem?_cons_succ, qap (by simp)]
 simp [List.getElem?_range h]
theorem GM {rb : Nat → Nat} {fr : Nat → Nat → Nat} {c : Nat} {g : Nat → Nat} (N : Nat) (h : c < N) : ((List.range N).map fun c => (rb c, yk (fr c))).set c (rb c, yk g) = (List.range N).map fun c' => (rb c', yk (upN fr c g c')) := by
 refine List.ext_getElem (by simp) fun i h1 h2 => ?_
 simp only [List.getElem_set, List.getElem_map, List.getElem_range]
 by_cases e : c = i
 ·subst e; rw [if_pos rfl, qK]
 ·rw [if_neg e, wz _ _ (Ne.symm e)]
theorem GB.sg_set {u : GB} {W T N n : Nat} {rb : Nat → Nat} {cells : List Value} {to : Nat → Nat} {fr : Nat → Nat → Nat} {c : Nat} {g : Nat → Nat} (h : c < N) : (u.σ1 W T N n rb cells to fr).set (7 + c) (rb c, yk g) = u.σ1 W T N n rb cells to (upN fr c g) := by
 unfold GB.σ1 GB.σ
 rw [show 7 + c = c + 5 + 1 + 1 by omega, List.set_cons_succ, List.set_cons_succ, List.set_append_right _ _ (by simp)]
 simp only [List.length_cons, List.length_nil]
 rw [show c + 5 - (0 + 1 + 1 + 1 + 1 + 1) = c by omega, GM N h]
theorem GK (f : Nat → Nat) {v : Nat} (h : v ≤ 2) (x : Nat) : (yk f).set v (iv x) = yk (upN f v x) := by
 rcases (by omega : v = 0 ∨ v = 1 ∨ v = 2) with rfl | rfl | rfl <;> rfl
theorem GI (f : Nat → Nat) {v : Nat} (h : v ≤ 2) : (yk f)[v]? = some (iv (f v)) := by
 rcases (by omega : v = 0 ∨ v = 1 ∨ v = 2) with rfl | rfl | rfl <;> rfl
section
variable {m0 m1 m : M} {u : GB} {W T N n : Nat} {rb : Nat → Nat} {ev rf co : Value} {to : Nat → Nat} {fr : Nat → Nat → Nat} {ex : List (Nat × List Value)}
theorem zb (h : St m0 m (u.σ1 W T N n rb (qc N ev rf co) to fr ++ ex)) : load1 m ⟨u.P2, 1, none⟩ = some ev ∧ load1 m ⟨u.P2, 2, none⟩ = some rf ∧ load1 m ⟨u.P2, 3, none⟩ = some co ∧ load1 m ⟨u.q7, 0, none⟩ = some (.slice (some ⟨u.FB, 0, some 3⟩) N N) ∧ load1 m ⟨u.P3, 0, none⟩ = some (.slice (some ⟨T, 0, some 3⟩) n n) ∧ load1 m ⟨u.q5, 0, none⟩ = some (.pointer (some ⟨u.PB, 0, none⟩)) ∧ load1 m ⟨W, 0, none⟩ = some (.pointer (some ⟨u.PB, 0, none⟩)) := by
 refine ⟨?_, ?_, ?_, ?_, ?_, ?_, ?_⟩
 ·rw [(h.get 5 rfl).2.2.load1]; rfl
 ·rw [(h.get 5 rfl).2.2.load1]; rfl
 ·rw [(h.get 5 rfl).2.2.load1]; rfl
 ·rw [(h.get 3 rfl).2.2.load1]; rfl
 ·rw [(h.get 4 rfl).2.2.load1]; rfl
 ·rw [(h.get 6 rfl).2.2.load1]; rfl
 ·rw [(h.get 0 rfl).2.2.load1]; rfl
theorem GQ (h : St m0 m (u.σ1 W T N n rb (qc N ev rf co) to fr ++ ex)) {i : Nat} (hi : i < n) : load1 m ⟨T, i, none⟩ = some (iv (to i)) := by
 rw [(h.get 1 rfl).2.2.load1]
 have := vt (e := 1) (f := fun j => [iv (to j)]) (o := 0) (fun _ => rfl) hi (by omega)
 rwa [Nat.add_zero, Nat.mul_one] at this
theorem JC (h : St m0 m (u.σ1 W T N n rb (qc N ev rf co) to fr ++ ex)) {c : Nat} (hc : c < N) : load1 m ⟨u.FB, c, none⟩ = some (fbV rb c) := by
 rw [(h.get 2 rfl).2.2.load1]
 have := vt (e := 1) (f := fun c => [fbV rb c]) (o := 0) (fun _ => rfl) hc (by omega)
 rwa [Nat.add_zero, Nat.mul_one] at this
theorem sg_lfr (h : St m0 m (u.σ1 W T N n rb (qc N ev rf co) to fr ++ ex)) {c v : Nat} (hc : c < N) (hv : v ≤ 2) : load1 m ⟨rb c, v, none⟩ = some (iv (fr c v)) := by
 have hk : (u.σ1 W T N n rb (qc N ev rf co) to fr ++ ex)[7 + c]? = some (rb c, yk (fr c)) := by
  rw [qao (by have := GB.sg_row (u := u) (W := W) (T := T) (n := n) (rb := rb) (cells := qc N ev rf co) (to := to) (fr := fr) hc; exact (qac.1 this).1)]
  exact GB.sg_row hc
 rw [(h.get _ hk).2.2.load1]
 exact GI _ hv
end
def LR (m1 : M) (P2 P3 PB A5 A6 A7 c1 : Nat) (ed ec md : Value) (es : List (Int × Int)) (ms : List Int) (TH CE VA : Nat → Nat) : Prop := ∀ m, Go.Dx.Rest m1.n [P2, P3] m1 m → LF m PB A5 A6 A7 c1 ed ec md es ms TH CE VA
theorem Xg (nf : Nat) {m0 m1 m : M} {u : GB} {W T N : Nat} {rb : Nat → Nat} {ev : Value} {A5 A6 A7 c1 : Nat} {ed ec md : Value} {es : List (Int × Int)} {ms : List Int} {TH CE VA : Nat → Nat} {rows : List EvR} {to : Nat → Nat} {fr : Nat → Nat → Nat} (hl : es.length ≤ 16) (hLR : LR m1 u.P2 u.P3 u.PB A5 A6 A7 c1 ed ec md es ms TH CE VA) (hok : ∀ (i : Nat) e, es[i]? = some e → kV e = false)
  {i : Nat} (hi : i < es.length) (hml : ms.length = es.length) (hCE : CE i < N) (hN : N ≤ 16) (hVA : VA i ≤ 2) (h : GS m0 m1 m u.P2 u.P3 (u.σ1 W T N es.length rb (qc N ev (.slice none 0 0) (.slice none 0 0)) to fr) ev 5 qp rows) (hrl : rows.length ≤ 1000) {t : Tm} (t1 : Tm.get 1 t = .pointer (some ⟨c1, 0, none⟩)) (t2 : Tm.get 2 t = .pointer (some ⟨u.P2, 0, none⟩)) (t3 : Tm.get 3 t = .pointer (some ⟨u.P3, 0, none⟩)) (t5 : Tm.get 5 t = .pointer (some ⟨u.q5, 0, none⟩)) (t7 : Tm.get 7 t = .pointer (some ⟨u.q7, 0, none⟩))
  (t9 : Tm.get 9 t = iv i) {L : Nat} (hL : ∀ p ∈ u.σ1 W T N es.length rb (qc N ev (.slice none 0 0) (.slice none 0 0)) to fr, p.1 ≠ L) (hLe : blk ev ≠ some L) (hLm : L < m.n) (P : Option E → M → Prop)
  (hP : ∀ m2 ev', GS m0 m1 m2 u.P2 u.P3 (u.σ1 W T N es.length rb (qc N ev' (.slice none 0 0) (.slice none 0 0)) (upN to i rows.length) (if qy es i then upN fr (CE i) (upN (fr (CE i)) (VA i) rows.length) else fr)) ev' 5 qp (rows ++ [evA es ms TH CE VA i]) → m.n ≤ m2.n → m2.obj L = m.obj L → blk ev' ≠ some L → P none m2) :
  Rnd P (Zw (Go.Dx.ex Try.prog (nf + 2)) (wR none) (zu 3 (wR none) zf) (wR (some E.ret)) t m) := by
 obtain ⟨e, he⟩ : ∃ e, es[i]? = some e := ⟨_, qaa hi⟩
 obtain ⟨md', hmd'⟩ : ∃ e, ms[i]? = some e := ⟨_, qaa (by omega)⟩
 have hmi : mAt ms i = md' := Jb hmd'
 have hfe : qy es i = wZ e.1 := by unfold qy; rw [kE he]
 have hbk := ku (hok i e he)
 have hLT : T ≠ L := hL _ (qab (i := 1) rfl)
 have hLP2 : u.P2 ≠ L := hL _ (qab (i := 5) rfl)
 obtain ⟨d1, d2, d3, d4, d5, d6, d7⟩ := zb (ex := []) (by rw [List.append_nil]; exact h.st)
 have hlens := h.gr.lens
 have xT := zX (e := 1) (c := 3) T es.length i hi
 rw [Nat.mul_one] at xT
 obtain ⟨q, hq⟩ := qay (rows.length)
 rw [← hq] at hlens hP
 have hTl : ((List.range es.length).flatMap fun j => [iv (to j)]).length = es.length * 1 := jt fun _ => rfl
 obtain ⟨m2, s1, s2, s3, s4⟩ := h.store 1 rfl (o := i) (v := iv q) (by rw [hTl]; omega) rfl
 have hset : ((List.range es.length).flatMap fun j => [iv (to j)]).set i (iv q) = (List.range es.length).flatMap fun j => [iv ((upN to i q j : Nat) : Int)] := by
  have := vu (e := 1) (o := 0) (j := i) (v := iv q) (f := fun j => [iv (to j)]) (g := fun j => [iv ((upN to i q j : Nat) : Int)]) (fun k => rfl) (by omega) (fun k hk => by rw [wz _ _ hk]) (by rw [qK]; rfl) es.length hi
  rwa [Nat.mul_one, Nat.add_zero] at this
 have e2 : (u.σ1 W T N es.length rb (qc N ev (.slice none 0 0) (.slice none 0 0)) to fr).set 1 (T, ((List.range es.length).flatMap fun j => [iv (to j)]).set i (iv q)) = u.σ1 W T N es.length rb (qc N ev (.slice none 0 0) (.slice none 0 0)) (upN to i q) fr := by rw [hset]; rfl
 rw [e2] at s2
 obtain ⟨d21, -, -, -, -, d26, -⟩ := zb (ex := []) (by rw [List.append_nil]; exact s2.st)
 have lf2 := hLR m2 s2.rest
 have hS2 : Sees m2 m2 := s2.st.sees.self
 obtain ⟨v3, m3', g1, g2, rfl⟩ := yF nf u.PB ed es e i he hbk.1 hbk.2 (qh m2) (by rw [qz, wI]; exact qad _) (by rw [Vm]; exact lf2.p0) (lf2.hed.sees (dw hS2))
 have g3 : m3'.log = [] := by rw [g2.log, qY]
 obtain ⟨m3, hm3⟩ := qay (behind m2 m3')
 have E3 : Ext m2 m3 := by rw [hm3]; exact g2.behind
 have h3 := s2.step E3
 have lf3 := hLR m3 h3.rest
 obtain ⟨d31, -, -, -, -, d36, -⟩ := zb (ex := []) (by rw [List.append_nil]; exact h3.st)
 have ⟨u1, u2⟩ := Rd.at1 (g := fun (x : Int) => iv x) lf3.hmd hmd'
 have u2' := u2 m3 h3.st.sees.self
 have x6 := zX (e := 1) (c := 3) A6 es.length i hi
 have x7 := zX (e := 1) (c := 3) A7 es.length i hi
 have x5 := zX (e := 1) (c := 3) A5 es.length i hi
 rw [Nat.mul_one] at x5 x6 x7
 have y5 := lf2.a5 i hi
 have y6 := lf3.a6 i hi
 have y7 := lf3.a7 i hi
 obtain ⟨V, hV⟩ := qay (VA i)
 obtain ⟨C, hC⟩ := qay (CE i)
 obtain ⟨H, hH⟩ := qay (TH i)
 have cvv := vQ V (by omega)
 have hev : evA es ms TH CE VA i = ⟨H, if wZ e.1 then 2 else 1, C, V, md'⟩ := by unfold evA; rw [hH, hC, hV, hmi, hfe]
 rw [hev, ← hV, ← hC, hfe] at hP
 rw [← hV] at y7
 rw [← hC] at y6
 rw [← hH] at y5
 have hCN : C < N := by omega
 have hV2 : V ≤ 2 := by omega
 obtain ⟨M4, hM4⟩ := qay (Dx.newRow m3 (qp ⟨H, if wZ e.1 then 2 else 1, C, V, md'⟩))
 have E4 : Ext m3 M4 := by rw [hM4]; exact Ext.row _ _
 have hkV : zB (wZ e.1) = iv (if wZ e.1 then 2 else 1) := by cases wZ e.1 <;> rfl
 obtain ⟨ev', m5', p1, p2, p3, p4, p5, p6⟩ := h3.appAny (by omega) wM kS E4 (X := m3.n) (sp := some 11) (by rw [hM4]; exact (Arr.row m3 _).loads (by simp [wM])) (bytes := 40) (by rw [← hq]; unfold most; omega) (by rw [← hq]; omega)
 obtain ⟨m5, hm5⟩ := qay (behind M4 m5')
 rw [← hm5] at p3 p4 p5
 obtain ⟨m6', r1, r2, r3, r4, r5⟩ := p3.storeAny 5 rfl (o := 1) (v := ev') (by simp [qc]) p3.gr.okC
 obtain ⟨m6, hm6⟩ := qay (behind m5 m6')
 rw [← hm6] at r3 r4 r5
 have e6 : (u.σ1 W T N es.length rb (qc N ev (.slice none 0 0) (.slice none 0 0)) (upN to i q) fr).set 5 (u.P2, (qc N ev (.slice none 0 0) (.slice none 0 0)).set 1 ev') = u.σ1 W T N es.length rb (qc N ev' (.slice none 0 0) (.slice none 0 0)) (upN to i q) fr := rfl
 rw [e6] at r3
 have hM4' : Dx.newRow m3 [iv H, iv (if wZ e.1 then 2 else 1), iv C, .int .u64 V, iv md'] = M4 := hM4.symm
 have hne : ∀ B, blk ev = some B → ¬ u.P2 = B := fun B hB hc => (s2.sep B hB).2.2 _ (qab (i := 5) rfl) hc
 have P26 : ∃ d, d = m6 := ⟨_, rfl⟩
 rw [hkV] at g1
 simp [t1, t2, t3, t5, t9, d5, d1, hlens, xT, s1, d21, d26, lf2.p5, x5, y5, g1, g3, ← hm3, d36, lf3.p6, lf3.p7, lf3.c1m, x6, x7, y6, y7, u1, u2', cvv, hM4', p1, ← hm5, r1, ← hm6, -XR]
 generalize hT0 : Tm.set 124 _ _ = T0
 have k2 : Tm.get 2 T0 = .pointer (some ⟨u.P2, 0, none⟩) := by rw [← hT0]; simp [t2]
 have k3 : Tm.get 3 T0 = .pointer (some ⟨u.P3, 0, none⟩) := by rw [← hT0]; simp [t3]
 have k5 : Tm.get 5 T0 = .pointer (some ⟨u.q5, 0, none⟩) := by rw [← hT0]; simp [t5]
 have k7 : Tm.get 7 T0 = .pointer (some ⟨u.q7, 0, none⟩) := by rw [← hT0]; simp [t7]
 have k9 : Tm.get 9 T0 = iv i := by rw [← hT0]; simp [t9]
 clear hT0
 have lf6 := hLR m6 r3.rest
 obtain ⟨d61, -, -, -, -, d66, -⟩ := zb (ex := []) (by rw [List.append_nil]; exact r3.st)
 obtain ⟨v7, m7, f1, f2, rfl⟩ := yF nf u.PB ed es e i he hbk.1 hbk.2 m6 r3.st.sees.base lf6.p0 lf6.hed
 have h7 := r3.step f2
 have lf7 := hLR m7 h7.rest
 have hst7 := h7.st
 rw [← List.append_nil (u.σ1 _ _ _ _ _ _ _ _)] at hst7
 obtain ⟨-, -, -, d74, d75, d76, -⟩ := zb hst7
 have d7T := GQ hst7 hi
 rw [qK] at d7T
 have d7F := JC hst7 hCN
 have z6 := lf7.a6 i hi
 have z7 := lf7.a7 i hi
 rw [← hV] at z7
 rw [← hC] at z6
 have xF := zX (e := 1) (c := 3) u.FB N C hCN
 have xV := zX (e := 1) (c := 3) (rb C) 3 V (by omega)
 rw [Nat.mul_one] at xF xV
 have n6 : m.n ≤ m6.n := by have := E3.n; have := E4.n; omega
 have o6 : m6.obj L = m.obj L := by
  rw [r5 L (Ne.symm hLP2), p5 L (by have := E3.n; omega) hLe, E3.obj L (by omega), s4 L (Ne.symm hLT)]
 have b6 : blk ev' ≠ some L := fun hc => by have := p6 L hc; have := E3.n; have := E4.n; omega
 have o7 : m7.obj L = m.obj L := (f2.obj L (by omega)).trans o6
 simp [k5, k9, d66, f1, zO]
 cases hf : wZ e.1 with
 | false =>
  simp only [hf] at hP h7
  simp
  exact wW (hP _ _ h7 (by have := f2.n; omega) o7 b6)
 | true =>
  simp only [hf] at hP h7
  have hrow : (u.σ1 W T N es.length rb (qc N ev' (.slice none 0 0) (.slice none 0 0)) (upN to i q) fr)[7 + C]? = some (rb C, yk (fr C)) := GB.sg_row hCN
  have hrbL : rb C ≠ L := hL _ (qab (i := 7 + C) (GB.sg_row hCN))
  obtain ⟨m8', w1, w2, w3, w4, w5⟩ := h7.storeAny (7 + C) hrow (o := V) (v := iv q) (by show V < 3; omega) rfl
  obtain ⟨m8, hm8⟩ := qay (behind m7 m8')
  rw [← hm8] at w3 w4 w5
  rw [GK _ hV2, GB.sg_set hCN] at w3
  have hfb : fbV rb C = .slice (some ⟨rb C, 0, some 3⟩) 3 3 := rfl
  rw [hfb] at d7F
  have xV' : kN 1 (.slice (some ⟨rb C, 0, some 3⟩) 3 3) (iv V) = some (.pointer (some ⟨rb C, V, none⟩)) := xV
  simp [k3, k5, k7, k9, d74, d75, d76, d7T, d7F, lf7.p6, lf7.p7, x6, x7, z6, z7, xF, xV', xT, w1, ← hm8]
  exact wW (hP _ _ w3 (by have := f2.n; omega) (by rw [w5 L (Ne.symm hrbL)]; exact o7) b6)
end Go.Sx
namespace Go.Sx
open Go.Dx Go.Proofs
def GB.keys (u : GB) (W T N : Nat) (rb : Nat → Nat) : List Nat := [W, T, u.FB, u.q7, u.P3, u.P2, u.q5] ++ (List.range N).map rb
theorem GB.sg_keys {u : GB} {W T N n : Nat} {rb : Nat → Nat} {cells : List Value} {to : Nat → Nat} {fr : Nat → Nat → Nat} : (u.σ1 W T N n rb cells to fr).map (·.1) = u.keys W T N rb := by
 unfold GB.σ1 GB.σ GB.keys; simp
def GJ (m0 m1 m : M) (u : GB) (W T N n : Nat) (rb : Nat → Nat) (s : GT) (L : Nat) : Prop := ∃ ev, GS m0 m1 m u.P2 u.P3 (u.σ1 W T N n rb (qc N ev (.slice none 0 0) (.slice none 0 0)) s.to s.fr) ev 5 qp s.ev ∧ blk ev ≠ some L
theorem Ve (nf : Nat) {m0 m1 m : M} {u : GB} {W T N : Nat} {rb : Nat → Nat} {A5 A6 A7 c1 : Nat} {ed ec md : Value} {es : List (Int × Int)} {ms : List Int} {TH CE VA : Nat → Nat} {s : GT} (hl : es.length ≤ 16) (hLR : LR m1 u.P2 u.P3 u.PB A5 A6 A7 c1 ed ec md es ms TH CE VA) (hok : ∀ (i : Nat) e, es[i]? = some e → kV e = false)
  {i : Nat} (hi : i < es.length) (hml : ms.length = es.length) (hCE : CE i < N) (hN : N ≤ 16) (hVA : VA i ≤ 2) {L : Nat} (h : GJ m0 m1 m u W T N es.length rb s L) (hrl : s.ev.length ≤ 900) {T0 : Tm} (t1 : Tm.get 1 T0 = .pointer (some ⟨c1, 0, none⟩)) (t2 : Tm.get 2 T0 = .pointer (some ⟨u.P2, 0, none⟩)) (t3 : Tm.get 3 T0 = .pointer (some ⟨u.P3, 0, none⟩)) (t5 : Tm.get 5 T0 = .pointer (some ⟨u.q5, 0, none⟩)) (t7 : Tm.get 7 T0 = .pointer (some ⟨u.q7, 0, none⟩))
  (hL : ∀ b ∈ u.keys W T N rb, b ≠ L) (hLm : L < m.n) :
  Rnd (fun e m2 => e = none ∧ m2.obj L = m.obj L ∧ m.n ≤ m2.n ∧ GJ m0 m1 m2 u W T N es.length rb (kf es ms TH CE VA s i) L) (WP (Go.Dx.ex Try.prog (nf + 2)) (wR none) zf (wR (some E.ret)) (Tm.set 9 (iv i) (Tm.set 63 (iv i) T0)) m) := by
 suffices H : ∀ P : Option E → M → Prop, (∀ m2, m2.obj L = m.obj L → m.n ≤ m2.n → GJ m0 m1 m2 u W T N es.length rb (kf es ms TH CE VA s i) L → P none m2) → Rnd P (WP (Go.Dx.ex Try.prog (nf + 2)) (wR none) zf (wR (some E.ret)) (Tm.set 9 (iv i) (Tm.set 63 (iv i) T0)) m) from H _ fun m2 a b c => ⟨rfl, a, b, c⟩
 intro P hP
 obtain ⟨ev, h, hLe⟩ := h
 have hL' : ∀ {cells to fr}, ∀ p ∈ u.σ1 W T N es.length rb cells to fr, p.1 ≠ L := fun p hp => hL _ (by rw [← GB.sg_keys]; exact List.mem_map.2 ⟨p, hp, rfl⟩)
 obtain ⟨d1, -, -, -, -, d6, -⟩ := zb (ex := []) (by rw [List.append_nil]; exact h.st)
 have lf := hLR m h.rest
 have hLP2 : u.P2 ≠ L := hL _ (by unfold GB.keys; simp)
 obtain ⟨v2, m2, g1, g2, rfl⟩ := KQ nf u.PB ed es i hi (by omega) m h.st.sees.base lf.lP lf.p0 lf.hed
 obtain ⟨f, hf⟩ := qay (fc es i)
 have hf' : (eAt es (ahN es.length i)).2 = f := by rw [hf]; rfl
 rw [hf'] at g1
 have h2 := h.step g2
 have o2 : m2.obj L = m.obj L := g2.obj L hLm
 unfold WP
 by_cases hz : f = 0
 ·have hfe : wX es TH i = [] := by unfold wX; rw [← hf, if_pos hz]
  rw [hz] at g1
  simp [t5, d6, g1, -dY]
  refine Xg nf hl hLR hok hi hml hCE hN hVA h2 (by omega) ?_ ?_ ?_ ?_ ?_ ?_ hL' hLe (by have := g2.n; omega) P (fun m3 ev' k1 k2 k3 k4 => hP m3 (k3.trans o2) (by have := g2.n; omega) ⟨ev', ?_, k4⟩)
  ·simp [t1]
  ·simp [t2]
  ·simp [t3]
  ·simp [t5]
  ·simp [t7]
  ·simp
  ·unfold kf; rw [hfe, List.append_nil]; exact k1
 ·have hfe : wX es TH i = [⟨TH i, 3, -1, 0, f⟩] := by unfold wX; rw [← hf, if_neg hz]
  obtain ⟨d21, -, -, -, -, d26, -⟩ := zb (ex := []) (by rw [List.append_nil]; exact h2.st)
  have lf2 := hLR m2 h2.rest
  have x5 := zX (e := 1) (c := 3) A5 es.length i hi
  rw [Nat.mul_one] at x5
  obtain ⟨H, hH⟩ := qay (TH i)
  have y5 := lf2.a5 i hi
  rw [← hH] at y5 hfe
  obtain ⟨M4, hM4⟩ := qay (Dx.newRow m2 (qp ⟨H, 3, -1, 0, f⟩))
  have E4 : Ext m2 M4 := by rw [hM4]; exact Ext.row _ _
  obtain ⟨ev', m5', p1, p2, p3, p4, p5, p6⟩ := h2.appAny (by omega) wM kS E4 (X := m2.n) (sp := some 11) (by rw [hM4]; exact (Arr.row m2 _).loads (by simp [wM])) (bytes := 40) (by unfold most; omega) (by omega)
  obtain ⟨m5, hm5⟩ := qay (behind M4 m5')
  rw [← hm5] at p3 p4 p5
  obtain ⟨m6', r1, r2, r3, r4, r5⟩ := p3.storeAny 5 rfl (o := 1) (v := ev') (by simp [qc]) p3.gr.okC
  obtain ⟨m6, hm6⟩ := qay (behind m5 m6')
  rw [← hm6] at r3 r4 r5
  have e6 : (u.σ1 W T N es.length rb (qc N ev (.slice none 0 0) (.slice none 0 0)) s.to s.fr).set 5 (u.P2, (qc N ev (.slice none 0 0) (.slice none 0 0)).set 1 ev') = u.σ1 W T N es.length rb (qc N ev' (.slice none 0 0) (.slice none 0 0)) s.to s.fr := rfl
  rw [e6] at r3
  have hM4' : Dx.newRow m2 [iv H, iv 3, iv (-1), .int .u64 0, iv f] = M4 := hM4.symm
  have n6 : m.n ≤ m6.n := by have := g2.n; have := E4.n; omega
  have o6 : m6.obj L = m.obj L := by
   rw [r5 L (Ne.symm hLP2), p5 L (by have := g2.n; omega) hLe, o2]
  have b6 : blk ev' ≠ some L := fun hc => by have := p6 L hc; have := g2.n; have := E4.n; omega
  simp [t2, t5, d6, g1, hz, d21, d26, lf2.p5, x5, y5, hM4', p1, ← hm5, r1, ← hm6, -dY]
  refine Xg nf hl hLR hok hi hml hCE hN hVA r3 (by simp; omega) ?_ ?_ ?_ ?_ ?_ ?_ hL' b6 (by omega) P (fun m3 ev3 k1 k2 k3 k4 => hP m3 (k3.trans o6) (by omega) ⟨ev3, ?_, k4⟩)
  ·simp [t1]
  ·simp [t2]
  ·simp [t3]
  ·simp [t5]
  ·simp [t7]
  ·simp
  ·unfold kf; rw [hfe]; exact k1
end Go.Sx
namespace Go.Sx
open Go.Dx Go.Proofs
def LX (m1 : M) (P2 P3 PB A8 bg N : Nat) (WR : Nat → Nat) : Prop := ∀ m, Go.Dx.Rest m1.n [P2, P3] m1 m → load1 m ⟨PB, 2, none⟩ = some (iv bg) ∧ load1 m ⟨PB, 4, none⟩ = some (iv N) ∧ load1 m ⟨PB, 8, none⟩ = some (.slice (some ⟨A8, 0, some 3⟩) N N) ∧ ∀ x, x < N → load1 m ⟨A8, x, none⟩ = some (iv (WR x))
theorem Qe (es : List (Int × Int)) (ms : List Int) (TH CE VA : Nat → Nat) : ∀ (l : List Nat) (s : GT), (l.foldl (kf es ms TH CE VA) s).ev.length ≤ s.ev.length + 2 * l.length
 | [], s => by simp
 | i :: l, s => by
  have := Qe es ms TH CE VA l (kf es ms TH CE VA s i)
  have h1 : (wX es TH i).length ≤ 1 := by unfold wX; split <;> simp
  have h2 : (kf es ms TH CE VA s i).ev.length ≤ s.ev.length + 2 := by unfold kf; simp only [qak, List.length_singleton]; omega
  rw [List.foldl_cons, List.length_cons]; omega
theorem GJ.step {m0 m1 m m' : M} {u : GB} {W T N n : Nat} {rb : Nat → Nat} {s : GT} {L : Nat} (h : GJ m0 m1 m u W T N n rb s L) (e : Ext m m') : GJ m0 m1 m' u W T N n rb s L := let ⟨ev, a, b⟩ := h; ⟨ev, a.step e, b⟩
theorem FE (nf : Nat) {m0 m1 m : M} {u : GB} {W T N : Nat} {rb : Nat → Nat} {ev : Value} {A5 A6 A7 A8 c1 bg : Nat} {ed ec md : Value} {es : List (Int × Int)} {ms : List Int} {TH CE VA WR : Nat → Nat} {s : GT} (hl : es.length ≤ 16) (hLR : LR m1 u.P2 u.P3 u.PB A5 A6 A7 c1 ed ec md es ms TH CE VA) (hLX : LX m1 u.P2 u.P3 u.PB A8 bg N WR) (hbg : bg < es.length) (hok : ∀ (i : Nat) e, es[i]? = some e → kV e = false)
  (hml : ms.length = es.length) (hCE : ∀ i, i < es.length → CE i < N) (hN : N ≤ 16) (hVA : ∀ i, i < es.length → VA i ≤ 2) (h : GS m0 m1 m u.P2 u.P3 (u.σ1 W T N es.length rb (qc N ev (.slice none 0 0) (.slice none 0 0)) s.to s.fr) ev 5 qp s.ev) (hrl : s.ev.length ≤ 16) {t : Tm} (t1 : Tm.get 1 t = .pointer (some ⟨c1, 0, none⟩)) (t2 : Tm.get 2 t = .pointer (some ⟨u.P2, 0, none⟩)) (t3 : Tm.get 3 t = .pointer (some ⟨u.P3, 0, none⟩)) (t5 : Tm.get 5 t = .pointer (some ⟨u.q5, 0, none⟩)) (t7 : Tm.get 7 t = .pointer (some ⟨u.q7, 0, none⟩))
  (t62 : Tm.get 62 t = .func (.func 71) #[] #[.pointer (some ⟨W, 0, none⟩)]) (Q : Option Out → Prop) (kn kr : K) (ke : Nat → K)
  (hq : ∀ m' ev', GS m0 m1 m' u.P2 u.P3 (u.σ1 W T N es.length rb (qc N ev' (.slice none 0 0) (.slice none 0 0)) ((qF es bg).foldl (kf es ms TH CE VA) s).to ((qF es bg).foldl (kf es ms TH CE VA) s).fr) ev' 5 qp ((qF es bg).foldl (kf es ms TH CE VA) s).ev → Q (kn t m')) :
  Q (Zx (Go.Dx.ex Try.prog (nf + 4)) kn ke kr t m) := by
 have hkeys : ∀ b ∈ u.keys W T N rb, m0.n ≤ b ∧ b < m.n := fun b hb => by
  rw [← GB.sg_keys (u := u) (n := es.length) (cells := qc N ev (.slice none 0 0) (.slice none 0 0)) (to := s.to) (fr := s.fr)] at hb
  obtain ⟨p, hp, rfl⟩ := List.mem_map.1 hb
  exact ⟨(h.st.arr p hp).1, (h.st.arr p hp).2.1⟩
 have hLk : ∀ b ∈ u.keys W T N rb, b ≠ m.n := fun b hb e => by have := (hkeys b hb).2; omega
 have hm1 : m1.n ≤ m.n := h.rest.n
 obtain ⟨TT, hTT⟩ := qay (zr [7, 5, 3, 2, 1] t)
 have kp : ∀ i, i ∈ [7, 5, 3, 2, 1] → Tm.get i TT = Tm.get i t := fun i hi => by
  rw [hTT]; exact jw i (by simp at hi; omega) t _ (by simp) hi
 let S : Nat → GT := fun k => ((qF es bg).take k).foldl (kf es ms TH CE VA) s
 have hol : (qF es bg).length = es.length := by unfold qF; simp
 have hSb : ∀ k, (S k).ev.length ≤ 48 := fun k => by
  have := Qe es ms TH CE VA ((qF es bg).take k) s
  rw [List.length_take, hol] at this
  have h2 : min k es.length ≤ 16 := by omega
  simp only [S]
  omega
 have ha := VT
 have hb := Ya
 refine QH (c := Zx) rfl ha hb (by omega) (nf + 2) (W := W) (PB := u.PB) (bg := bg) (len := es.length) (by omega) (by omega) hbg t62 hTT.symm (fun i => Tm.set 63 (iv i) TT) (fun i => Tm.set 9 (iv i) (Tm.set 63 (iv i) TT)) (fun i => rfl) (fun i x k m => by unfold Bs; simp)
  (fun k m' => GJ m0 m1 m' u W T N es.length rb (S k) m.n) (fun k m' _ hJ => ?_) (fun m' e => ?_) (fun k m' O hJ hn => ?_) (fun k m' hk hJ hn => ?_) (fun m' hJ => ?_)
 ·obtain ⟨ev', g, -⟩ := hJ
  obtain ⟨-, -, -, -, -, -, d7⟩ := zb (ex := []) (by rw [List.append_nil]; exact g.st)
  have lf := hLR m' g.rest
  exact ⟨d7, ⟨ed, lf.p0, lf.hed.len⟩, (hLX m' g.rest).1⟩
 ·refine ⟨ev, ?_, fun hc => ?_⟩
  ·have : S 0 = s := by simp [S]
   rw [this]; exact h.step e
  ·have := (h.sep _ hc).2.1; omega
 ·obtain ⟨ev', g, b⟩ := hJ
  exact ⟨ev', g.putL (fun p hp => hLk _ (by rw [← GB.sg_keys]; exact List.mem_map.2 ⟨p, hp, rfl⟩)) hm1 b O, b⟩
 ·have hil : (bg + k) % es.length < es.length := Nat.mod_lt _ (by omega)
  have hki : (qF es bg)[k]? = some ((bg + k) % es.length) := by
   unfold qF; rw [qaq, List.getElem?_range hk]; rfl
  have hSk : S (k + 1) = kf es ms TH CE VA (S k) ((bg + k) % es.length) := by
   obtain ⟨h, e⟩ := qac.1 hki
   simp only [S]
   rw [List.take_succ_eq_append_getElem h, List.foldl_append, e]; rfl
  show Rnd (fun e m2 => e = none ∧ m2.obj m.n = m'.obj m.n ∧ m'.n ≤ m2.n ∧ GJ m0 m1 m2 u W T N es.length rb (S (k + 1)) m.n) _
  rw [hSk]
  exact Ve nf hl hLR hok hil hml (hCE _ hil) hN (hVA _ hil) hJ (by have := hSb k; omega) ((kp 1 (by simp)).trans t1) ((kp 2 (by simp)).trans t2) ((kp 3 (by simp)).trans t3) ((kp 5 (by simp)).trans t5) ((kp 7 (by simp)).trans t7) hLk hn
 ·obtain ⟨ev', g, -⟩ := hJ
  have hSn : S es.length = (qF es bg).foldl (kf es ms TH CE VA) s := by simp only [S]; rw [List.take_of_length_le (by omega)]
  rw [hSn] at g
  exact hq m' ev' g
end Go.Sx
namespace Go.Dx
@[simp] theorem BI (m : M) (a b : Value) : kQ 2 1 (rep 1 [.int .i64 0, .int .i64 0]) [(0, 2, .agg ⟨[a, b]⟩)] m = some (.slice (some ⟨m.n, 0, some 5⟩) 1 1, newRow m [a, b]) := _root_.id rfl
end Go.Dx
namespace Go.Sx
open Go.Dx Go.Proofs
def zF (es : List (Int × Int)) (CE VA : Nat → Nat) (fr : Nat → Nat → Nat) (to : Nat → Nat) (rows : List (Nat × Nat)) (i : Nat) : List (Nat × Nat) := if qy es i then rows else rows ++ [(fr (CE i) (VA i), to i)]
def GJ2 (m0 m1 m : M) (u : GB) (W T N n : Nat) (rb : Nat → Nat) (evd : Value) (ex : List (Nat × List Value)) (fr : Nat → Nat → Nat) (to : Nat → Nat) (rows : List (Nat × Nat)) (L : Nat) : Prop := ∃ rf, GS m0 m1 m u.P2 u.P3 (u.σ1 W T N n rb (qc N evd rf (.slice none 0 0)) to fr ++ ex) rf 2 qq rows ∧ blk rf ≠ some L
theorem Vf (nf : Nat) {m0 m1 m : M} {u : GB} {W T N : Nat} {rb : Nat → Nat} {evd : Value} {ex : List (Nat × List Value)} {fr : Nat → Nat → Nat} {to : Nat → Nat} {A5 A6 A7 c1 : Nat} {ed ec md : Value} {es : List (Int × Int)} {ms : List Int} {TH CE VA : Nat → Nat} {rows : List (Nat × Nat)} (hl : es.length ≤ 16) (hLR : LR m1 u.P2 u.P3 u.PB A5 A6 A7 c1 ed ec md es ms TH CE VA) (hok : ∀ (i : Nat) e, es[i]? = some e → kV e = false)
  {i : Nat} (hi : i < es.length) (hCE : CE i < N) (hN : N ≤ 16) (hVA : VA i ≤ 2) {L : Nat} (h : GJ2 m0 m1 m u W T N es.length rb evd ex fr to rows L) (hrl : rows.length ≤ 900) {T0 : Tm} (t2 : Tm.get 2 T0 = .pointer (some ⟨u.P2, 0, none⟩)) (t3 : Tm.get 3 T0 = .pointer (some ⟨u.P3, 0, none⟩)) (t5 : Tm.get 5 T0 = .pointer (some ⟨u.q5, 0, none⟩)) (t7 : Tm.get 7 T0 = .pointer (some ⟨u.q7, 0, none⟩))
  (hL : u.P2 ≠ L) (hLm : L < m.n) :
  Rnd (fun e m2 => e = none ∧ m2.obj L = m.obj L ∧ m.n ≤ m2.n ∧ GJ2 m0 m1 m2 u W T N es.length rb evd ex fr to (zF es CE VA fr to rows i) L) (WQ (Go.Dx.ex Try.prog (nf + 2)) (wR none) zf (wR (some E.ret)) (Tm.set 11 (iv i) (Tm.set 153 (iv i) T0)) m) := by
 suffices H : ∀ P : Option E → M → Prop, (∀ m2, m2.obj L = m.obj L → m.n ≤ m2.n → GJ2 m0 m1 m2 u W T N es.length rb evd ex fr to (zF es CE VA fr to rows i) L → P none m2) → Rnd P (WQ (Go.Dx.ex Try.prog (nf + 2)) (wR none) zf (wR (some E.ret)) (Tm.set 11 (iv i) (Tm.set 153 (iv i) T0)) m) from H _ fun m2 a b c => ⟨rfl, a, b, c⟩
 intro P hP
 obtain ⟨e, he⟩ : ∃ e, es[i]? = some e := ⟨_, qaa hi⟩
 have hfe : qy es i = wZ e.1 := by unfold qy; rw [kE he]
 have hbk := ku (hok i e he)
 obtain ⟨rf, h, hLe⟩ := h
 obtain ⟨-, -, -, -, -, d6, -⟩ := zb h.st
 have lf := hLR m h.rest
 obtain ⟨v2, m2, g1, g2, rfl⟩ := yF nf u.PB ed es e i he hbk.1 hbk.2 m h.st.sees.base lf.p0 lf.hed
 have h2 := h.step g2
 have o2 : m2.obj L = m.obj L := g2.obj L hLm
 unfold WQ
 cases hf : wZ e.1 with
 | true =>
  have hk : zB true = iv 2 := rfl
  rw [hf, hk] at g1
  simp [t5, d6, g1]
  refine wW (hP _ o2 g2.n ⟨rf, ?_, hLe⟩)
  unfold zF; rw [hfe, hf]; exact h2
 | false =>
  have hk : zB false = iv 1 := rfl
  rw [hf, hk] at g1
  obtain ⟨-, d22, -, d24, d25, d26, -⟩ := zb h2.st
  have lf2 := hLR m2 h2.rest
  have x6 := zX (e := 1) (c := 3) A6 es.length i hi
  have x7 := zX (e := 1) (c := 3) A7 es.length i hi
  have xT := zX (e := 1) (c := 3) T es.length i hi
  have y6 := lf2.a6 i hi
  have y7 := lf2.a7 i hi
  have dT := GQ h2.st hi
  have dF := JC h2.st hCE
  have dR := sg_lfr h2.st hCE hVA
  have xF := zX (e := 1) (c := 3) u.FB N (CE i) hCE
  have xV : kN 1 (fbV rb (CE i)) (iv (VA i)) = some (.pointer (some ⟨rb (CE i), VA i * 1, none⟩)) := zX (e := 1) (c := 3) (rb (CE i)) 3 (VA i) (by omega)
  rw [Nat.mul_one] at x6 x7 xT xF xV
  obtain ⟨V, hV⟩ := qay (VA i)
  obtain ⟨C, hC⟩ := qay (CE i)
  rw [← hV] at y7 dR xV
  rw [← hC] at y6 dF dR xF xV
  obtain ⟨a, ha⟩ := qay (fr C V)
  obtain ⟨b, hb⟩ := qay (to i)
  obtain ⟨FV, hFV⟩ := qay (fbV rb C)
  rw [← ha] at dR
  rw [← hb] at dT
  rw [← hFV] at dF xV
  have hps : zF es CE VA fr to rows i = rows ++ [(a, b)] := by unfold zF; rw [hfe, hf, ha, hb, hC, hV]; rfl
  rw [hps] at hP
  obtain ⟨M4, hM4⟩ := qay (Dx.newRow m2 (qq (a, b)))
  have E4 : Ext m2 M4 := by rw [hM4]; exact Ext.row _ _
  obtain ⟨ev', m5', p1, p2, p3, p4, p5, p6⟩ := h2.appAny (by omega) wy xU E4 (X := m2.n) (sp := some 5) (by rw [hM4]; exact (Arr.row m2 _).loads (by simp [wy])) (bytes := 16) (by unfold most; omega) (by omega)
  obtain ⟨m5, hm5⟩ := qay (behind M4 m5')
  rw [← hm5] at p3 p4 p5
  obtain ⟨m6', r1, r2, r3, r4, r5⟩ := p3.storeAny 5 rfl (o := 2) (v := ev') (by simp [qc]) p3.gr.okC
  obtain ⟨m6, hm6⟩ := qay (behind m5 m6')
  rw [← hm6] at r3 r4 r5
  have e6 : (u.σ1 W T N es.length rb (qc N evd rf (.slice none 0 0)) to fr ++ ex).set 5 (u.P2, (qc N evd rf (.slice none 0 0)).set 2 ev') = u.σ1 W T N es.length rb (qc N evd ev' (.slice none 0 0)) to fr ++ ex := rfl
  rw [e6] at r3
  have hM4' : Dx.newRow m2 [iv a, iv b] = M4 := hM4.symm
  have n6 : m.n ≤ m6.n := by have := g2.n; have := E4.n; omega
  have o6 : m6.obj L = m.obj L := by
   rw [r5 L (Ne.symm hL), p5 L (by have := g2.n; omega) hLe, o2]
  have b6 : blk ev' ≠ some L := fun hc => by have := p6 L hc; have := g2.n; have := E4.n; omega
  simp [t2, t3, t5, t7, d6, g1, d22, d24, d25, d26, lf2.p6, lf2.p7, x6, x7, xT, y6, y7, xF, dF, xV, dR, dT, hM4', p1, ← hm5, r1, ← hm6]
  exact wW (hP _ o6 n6 ⟨ev', r3, b6⟩)
theorem Qw (es : List (Int × Int)) (CE VA : Nat → Nat) (fr : Nat → Nat → Nat) (to : Nat → Nat) : ∀ (l : List Nat) (s : List (Nat × Nat)), (l.foldl (zF es CE VA fr to) s).length ≤ s.length + l.length
 | [], s => by simp
 | i :: l, s => by
  have := Qw es CE VA fr to l (zF es CE VA fr to s i)
  have h2 : (zF es CE VA fr to s i).length ≤ s.length + 1 := by unfold zF; split <;> simp
  rw [List.foldl_cons, List.length_cons]; omega
theorem FF (nf : Nat) {m0 m1 m : M} {u : GB} {W T N : Nat} {rb : Nat → Nat} {evd : Value} {ex : List (Nat × List Value)} {fr : Nat → Nat → Nat} {to : Nat → Nat} {A5 A6 A7 A8 c1 bg : Nat} {ed ec md : Value} {es : List (Int × Int)} {ms : List Int} {TH CE VA WR : Nat → Nat} (hl : es.length ≤ 16) (hLR : LR m1 u.P2 u.P3 u.PB A5 A6 A7 c1 ed ec md es ms TH CE VA) (hLX : LX m1 u.P2 u.P3 u.PB A8 bg N WR) (hbg : bg < es.length) (hok : ∀ (i : Nat) e, es[i]? = some e → kV e = false)
  (hCE : ∀ i, i < es.length → CE i < N) (hN : N ≤ 16) (hVA : ∀ i, i < es.length → VA i ≤ 2) (h : GS m0 m1 m u.P2 u.P3 (u.σ1 W T N es.length rb (qc N evd (.slice none 0 0) (.slice none 0 0)) to fr ++ ex) (.slice none 0 0) 2 qq []) {t : Tm} (t2 : Tm.get 2 t = .pointer (some ⟨u.P2, 0, none⟩)) (t3 : Tm.get 3 t = .pointer (some ⟨u.P3, 0, none⟩)) (t5 : Tm.get 5 t = .pointer (some ⟨u.q5, 0, none⟩)) (t7 : Tm.get 7 t = .pointer (some ⟨u.q7, 0, none⟩))
  (t152 : Tm.get 152 t = .func (.func 71) #[] #[.pointer (some ⟨W, 0, none⟩)]) (Q : Option Out → Prop) (kn kr : K) (ke : Nat → K)
  (hq : ∀ m' rf, GS m0 m1 m' u.P2 u.P3 (u.σ1 W T N es.length rb (qc N evd rf (.slice none 0 0)) to fr ++ ex) rf 2 qq ((qF es bg).foldl (zF es CE VA fr to) []) → Q (kn t m')) :
  Q (Zy (Go.Dx.ex Try.prog (nf + 4)) kn ke kr t m) := by
 have hkeys : ∀ p ∈ u.σ1 W T N es.length rb (qc N evd (.slice none 0 0) (.slice none 0 0)) to fr ++ ex, p.1 < m.n := fun p hp => (h.st.arr p hp).2.1
 have hLk : ∀ rf, ∀ p ∈ u.σ1 W T N es.length rb (qc N evd rf (.slice none 0 0)) to fr ++ ex, p.1 ≠ m.n := fun rf p hp e => by
  have hk : p.1 ∈ (u.σ1 W T N es.length rb (qc N evd rf (.slice none 0 0)) to fr ++ ex).map (·.1) := List.mem_map.2 ⟨p, hp, rfl⟩
  have e2 : (u.σ1 W T N es.length rb (qc N evd rf (.slice none 0 0)) to fr ++ ex).map (·.1) = (u.σ1 W T N es.length rb (qc N evd (.slice none 0 0) (.slice none 0 0)) to fr ++ ex).map (·.1) := rfl
  rw [e2] at hk
  obtain ⟨q, hq, e3⟩ := List.mem_map.1 hk
  have := hkeys q hq
  omega
 have hP2 : u.P2 ≠ m.n := hLk (.slice none 0 0) _ (qab (i := 5) rfl)
 have hm1 : m1.n ≤ m.n := h.rest.n
 obtain ⟨TT, hTT⟩ := qay (zr [7, 5, 3, 2] t)
 have kp : ∀ i, i ∈ [7, 5, 3, 2] → Tm.get i TT = Tm.get i t := fun i hi => by
  rw [hTT]; exact jw i (by simp at hi; omega) t _ (by simp) hi
 let S : Nat → List (Nat × Nat) := fun k => ((qF es bg).take k).foldl (zF es CE VA fr to) []
 have hol : (qF es bg).length = es.length := by unfold qF; simp
 have hSb : ∀ k, (S k).length ≤ 16 := fun k => by
  have := Qw es CE VA fr to ((qF es bg).take k) []
  rw [List.length_take, hol] at this
  have h2 : min k es.length ≤ 16 := by omega
  simp only [S]
  simp at this
  omega
 have ha := VU
 have hb := Yb
 refine QH (c := Zy) rfl ha hb (by omega) (nf + 2) (W := W) (PB := u.PB) (bg := bg) (len := es.length) (by omega) (by omega) hbg t152 hTT.symm (fun i => Tm.set 153 (iv i) TT) (fun i => Tm.set 11 (iv i) (Tm.set 153 (iv i) TT)) (fun i => rfl) (fun i x k m => by unfold Bt; simp)
  (fun k m' => GJ2 m0 m1 m' u W T N es.length rb evd ex fr to (S k) m.n) (fun k m' _ hJ => ?_) (fun m' e => ?_) (fun k m' O hJ hn => ?_) (fun k m' hk hJ hn => ?_) (fun m' hJ => ?_)
 ·obtain ⟨ev', g, -⟩ := hJ
  obtain ⟨-, -, -, -, -, -, d7⟩ := zb g.st
  have lf := hLR m' g.rest
  exact ⟨d7, ⟨ed, lf.p0, lf.hed.len⟩, (hLX m' g.rest).1⟩
 ·refine ⟨.slice none 0 0, ?_, fun hc => by cases hc⟩
  have : S 0 = [] := by simp [S]
  rw [this]; exact h.step e
 ·obtain ⟨ev', g, b⟩ := hJ
  exact ⟨ev', g.putL (hLk ev') hm1 b O, b⟩
 ·have hil : (bg + k) % es.length < es.length := Nat.mod_lt _ (by omega)
  have hki : (qF es bg)[k]? = some ((bg + k) % es.length) := by
   unfold qF; rw [qaq, List.getElem?_range hk]; rfl
  have hSk : S (k + 1) = zF es CE VA fr to (S k) ((bg + k) % es.length) := by
   obtain ⟨h, e⟩ := qac.1 hki
   simp only [S]
   rw [List.take_succ_eq_append_getElem h, List.foldl_append, e]; rfl
  show Rnd (fun e m2 => e = none ∧ m2.obj m.n = m'.obj m.n ∧ m'.n ≤ m2.n ∧ GJ2 m0 m1 m2 u W T N es.length rb evd ex fr to (S (k + 1)) m.n) _
  rw [hSk]
  exact Vf nf hl hLR hok hil (hCE _ hil) hN (hVA _ hil) hJ (by have := hSb k; omega) ((kp 2 (by simp)).trans t2) ((kp 3 (by simp)).trans t3) ((kp 5 (by simp)).trans t5) ((kp 7 (by simp)).trans t7) hP2 hn
 ·obtain ⟨ev', g, -⟩ := hJ
  have hSn : S es.length = (qF es bg).foldl (zF es CE VA fr to) [] := by simp only [S]; rw [List.take_of_length_le (by omega)]
  rw [hSn] at g
  exact hq m' ev' g
end Go.Sx
namespace Go.Dx
@[simp] theorem pSlice_m (e : Nat) (x a b : V) (t : Tm) : xR e x none (some a) (some b) t = slV e none (some (a t)) (some (b t)) (x t) := by
 unfold xR WG slV
 cases x t with
 | slice a l c => cases a <;> rfl
 | _ => rfl
end Go.Dx
namespace Go.Sx
open Go.Dx Go.Proofs
def yX (p : Nat × Nat) : List Value := [.slice (some ⟨p.1, 0, some 3⟩) p.2 p.2]
theorem fX (x : Nat × Nat) : (yX x).length = 1 := rfl
theorem Fl (x : Nat × Nat) : ∀ v ∈ yX x, okC v = true := by simp [yX, okC]
theorem gr_co (n : Nat) {m0 m1 m : M} {u : GB} {W T N nn : Nat} {rb : Nat → Nat} {evd rfd : Value} {ex : List (Nat × List Value)} {fr : Nat → Nat → Nat} {to : Nat → Nat} {A8 bg : Nat} {WR : Nat → Nat} (hN : N ≤ 16) (hLX : LX m1 u.P2 u.P3 u.PB A8 bg N WR) (hWR : ∀ x, x < N → WR x ≤ 2) (h : GS m0 m1 m u.P2 u.P3 (u.σ1 W T N nn rb (qc N evd rfd (.slice none 0 0)) to fr ++ ex) (.slice none 0 0) 1 yX []) (Q : Option Out → Prop) (kn0 kn kr : K) (ke : Nat → K) (t : Tm)
  (t2 : Tm.get 2 t = .pointer (some ⟨u.P2, 0, none⟩)) (t3 : Tm.get 3 t = .pointer (some ⟨u.P3, 0, none⟩)) (t5 : Tm.get 5 t = .pointer (some ⟨u.q5, 0, none⟩)) (t187 : Tm.get 187 t = .slice (some ⟨u.FB, 0, some 3⟩) N N) (t188 : Tm.get 188 t = iv N) (t189 : Tm.get 189 t = iv 0)
  (hq : ∀ t m' co, Tm.get 2 t = .pointer (some ⟨u.P2, 0, none⟩) → Tm.get 3 t = .pointer (some ⟨u.P3, 0, none⟩) → GS m0 m1 m' u.P2 u.P3 (u.σ1 W T N nn rb (qc N evd rfd co) to fr ++ ex) co 1 yX ((List.range N).map fun c => (rb c, 1 + WR c)) → Q (kn t m')) :
  Q (Zz (Go.Dx.ex Try.prog n) kn0 (zu 6 kn ke) kr t m) := by
 refine qu (c := Zz) rfl Q (fun i t m' => (Tm.get 2 t = .pointer (some ⟨u.P2, 0, none⟩) ∧ Tm.get 3 t = .pointer (some ⟨u.P3, 0, none⟩) ∧ Tm.get 5 t = .pointer (some ⟨u.q5, 0, none⟩) ∧ Tm.get 187 t = .slice (some ⟨u.FB, 0, some 3⟩) N N ∧ Tm.get 188 t = iv N) ∧ Tm.get 189 t = iv i ∧
   ∃ co, GS m0 m1 m' u.P2 u.P3 (u.σ1 W T N nn rb (qc N evd rfd co) to fr ++ ex) co 1 yX ((List.range i).map fun c => (rb c, 1 + WR c))) N (by omega)
  ⟨⟨t2, t3, t5, t187, t188⟩, t189, _, h⟩ (fun i t m' k hi hJ hk => ?_)
 obtain ⟨⟨t2, t3, t5, t187, t188⟩, t189, co, hG⟩ := hJ
 by_cases hil : i < N
 ·have hd := dlt hil
  have w1 := qS (i := i) (by omega)
  obtain ⟨-, -, d3, -, -, d6, -⟩ := zb hG.st
  obtain ⟨-, -, p8, a8⟩ := hLX m' hG.rest
  have y8 := a8 i hil
  have dF := JC hG.st hil
  have xF := zX (e := 1) (c := 3) u.FB N i hil
  have x8 := zX (e := 1) (c := 3) A8 N i hil
  rw [Nat.mul_one] at xF x8
  have hw2 := hWR i hil
  obtain ⟨w, hw⟩ := qay (WR i)
  rw [← hw] at y8 hw2
  obtain ⟨q, hq1⟩ := qay (1 + w)
  have wq : zx .add (iv 1) (iv w) = some (iv q) := by rw [hq1]; rcases (by omega : w = 0 ∨ w = 1 ∨ w = 2) with rfl | rfl | rfl <;> rfl
  have wq' : IntKind.i64.wrap (1 + (w : Int)) = (q : Int) := by rw [wrap64 _ (by omega) (by omega)]; omega
  have hfb : fbV rb i = .slice (some ⟨rb i, 0, some 3⟩) 3 3 := rfl
  rw [hfb] at dF
  have xS : slV 1 none (some (iv q)) (some (iv q)) (.slice (some ⟨rb i, 0, some 3⟩) 3 3) = some (.slice (some ⟨rb i, 0, some 3⟩) q q) := by
   rw [hq1]; rcases (by omega : w = 0 ∨ w = 1 ∨ w = 2) with rfl | rfl | rfl <;> rfl
  obtain ⟨B, hB⟩ := qay (rb i)
  rw [← hB] at dF xS
  obtain ⟨M4, hM4⟩ := qay (Dx.newRow m' (yX (B, q)))
  have E4 : Ext m' M4 := by rw [hM4]; exact Ext.row _ _
  have hM4' : Dx.newRow m' [.slice (some ⟨B, 0, some 3⟩) q q] = M4 := hM4.symm
  have hlen : ((List.range i).map fun c => (rb c, 1 + WR c)).length = i := by simp
  obtain ⟨ev', m5', p1, p2, p3, p4, p5, p6⟩ := hG.appAny (by omega) fX Fl E4 (X := m'.n) (sp := some 3) (by rw [hM4]; exact (Arr.row m' _).loads (by simp [fX])) (bytes := 24) (by rw [hlen]; unfold most; omega) (by rw [hlen]; omega)
  obtain ⟨m5, hm5⟩ := qay (behind M4 m5')
  rw [← hm5] at p3 p4 p5
  obtain ⟨m6', r1, r2, r3, r4, r5⟩ := p3.storeAny 5 rfl (o := 3) (v := ev') (by simp [qc]) p3.gr.okC
  obtain ⟨m6, hm6⟩ := qay (behind m5 m6')
  rw [← hm6] at r3 r4 r5
  have e6 : (u.σ1 W T N nn rb (qc N evd rfd co) to fr ++ ex).set 5 (u.P2, (qc N evd rfd co).set 3 ev') = u.σ1 W T N nn rb (qc N evd rfd ev') to fr ++ ex := rfl
  rw [e6] at r3
  simp [t2, t3, t5, t187, t188, t189, hd, xF, dF, d3, d6, p8, x8, y8, wq', xS, hM4', p1, ← hm5, r1, ← hm6, w1]
  refine hk hil _ _ ⟨⟨by simp [t2], by simp [t3], by simp [t5], by simp [t187], by simp [t188]⟩, by simp, ev', ?_⟩
  have e : (List.range (i + 1)).map (fun c => (rb c, 1 + WR c)) = ((List.range i).map fun c => (rb c, 1 + WR c)) ++ [(B, q)] := by rw [List.range_succ, List.map_append, hB, hq1, hw]; rfl
  rw [e]; exact r3
 ·obtain rfl : i = N := by omega
  have hd : ((i : Int) < (i : Int)) = False := eq_false (by omega)
  simp [t188, t189, hd]
  exact hq _ _ co (by simp [t2]) (by simp [t3]) hG
end Go.Sx
namespace Go.Dx
theorem wN {N : Nat} {ex : List Nat} {m m' : M} (h : Rest N ex m m') {B o : Nat} {s : Option Nat} (hB : B < N) (hx : B ∉ ex) : load1 m' ⟨B, o, s⟩ = load1 m ⟨B, o, s⟩ := by
 unfold load1 cellsOf; rw [h.obj B hB hx]
theorem Rd.rest {α : Type} {m m' : M} {v : Value} {e : Nat} {f : α → List Value} {es : List α} {ex : List Nat} (h : Rd m v e f es) (k : Rest m.n ex m m') (hx : ∀ B, blk v = some B → B ∉ ex) : Rd m' v e f es :=
 h.congr k.n fun B hB => k.obj B (h.lt B hB) (hx B hB)
theorem Rd.adr_blk {α : Type} {m : M} {v : Value} {e : Nat} {f : α → List Value} {es : List α} (h : Rd m v e f es) {B : Nat} (hB : blk v = some B) (i : Nat) : (adr e v i).block = B := by
 cases v with
 | slice a n c =>
  cases a with
  | none => cases hB
  | some a => cases hB; rfl
 | _ => cases hB
section
variable {m0 m1 m : M} {P2 P3 : Nat} {α : Type} {σ : List (Nat × List Value)} {g : Value} {e : Nat} {f : α → List Value} {rows : List α}
theorem GS.fillAny (h : GS m0 m1 m P2 P3 σ g e f rows) (k : Nat) {b : Nat} {l : List Value} (hk : σ[k]? = some (b, l)) {n : Nat} {l' : List Value} (hn0 : 0 < n) (hl : l.length = n) (hl' : l'.length = n) (hv : ∀ v ∈ l', okC v = true) :
  ∃ m', qO n (.pointer (some ⟨b, 0, none⟩)) (.agg ⟨l'⟩) (qh m) = some (undef, m') ∧ m'.log = [b] ∧ GS m0 m1 (Dx.behind m m') P2 P3 (σ.set k (b, l')) g e f rows ∧ (Dx.behind m m').n = m.n ∧ (∀ X, X ≠ b → (Dx.behind m m').obj X = m.obj X) := by
 obtain ⟨m', s1, s1', s2, s3, s4⟩ := h.st.fillAny k hk hn0 hl hl' hv
 exact ⟨m', s1, s1', h.put hk s2 s3 s4, s3, s4⟩
end
theorem XA {m0 m : M} {Q : Value → M → Prop} {t : Tm} {p n q r : Nat} {a b : Addr} {l1 : List Value} {v : Value} (h1 : Tm.get p t = .pointer (some a)) (h2 : loads m a n = some l1) (h3 : Tm.get q t = .pointer (some b)) (h4 : load1 m b = some v) (he : Ext m0 m) (hq : Q (.tuple #[.agg ⟨l1⟩, v, Tm.get r t]) m) :
  Ret m0 Q (zV [.cell p n, .one q, .t r] t m) := by
 refine jU (l := [.agg ⟨l1⟩, v, Tm.get r t]) ?_ he hq
 simp only [vG, jT, h1, h3, dA, qI, h2, h4]
@[simp] theorem BJ : ko [.int .i64 0, .slice none 0 0, .slice none 0 0, .slice none 0 0, .slice none 0 0, .slice none 0 0, .slice none 0 0, .slice none 0 0] [] = some (.agg ⟨[.int .i64 0, .slice none 0 0, .slice none 0 0, .slice none 0 0, .slice none 0 0, .slice none 0 0, .slice none 0 0, .slice none 0 0]⟩) := _root_.id rfl
end Go.Dx
namespace Go.Sx
open Go.Dx Go.Proofs
def wD : List Value := [.int .i64 0, .slice none 0 0, .slice none 0 0, .slice none 0 0, .slice none 0 0, .slice none 0 0, .slice none 0 0, .slice none 0 0]
theorem bj {m1 : M} {P2 P3 A : Nat} {l : List Nat} (hP2 : Arr m1 P2 wD) (hP3 : Arr m1 P3 [.slice none 0 0]) (h : Arr m1 A (nums l)) (hl : 0 < l.length) : A ∉ [P2, P3] := by
 intro hc
 simp only [List.mem_cons, List.not_mem_nil, or_false] at hc
 have hi : ∀ i v, (nums l)[i]? = some v → ∃ x : Nat, v = iv x := fun i v hv => by
  unfold nums at hv
  rw [qaq] at hv
  cases hx : l[i]? with
  | none => rw [hx] at hv; cases hv
  | some x => rw [hx] at hv; cases hv; exact ⟨x, rfl⟩
 rcases hc with rfl | rfl
 ·have h1 := hP2.load1 1 none
  rw [h.load1 1 none] at h1
  obtain ⟨x, hx⟩ := hi 1 (.slice none 0 0) h1
  cases hx
 ·have h1 := hP3.load1 0 none
  rw [h.load1 0 none] at h1
  obtain ⟨x, hx⟩ := hi 0 (.slice none 0 0) h1
  cases hx
theorem ed_ne {m1 : M} {P2 P3 : Nat} {ed : Value} {es : List (Int × Int)} (hP2 : Arr m1 P2 wD) (hP3 : Arr m1 P3 [.slice none 0 0]) (h : Rd m1 ed 2 edgeRow es) (hl : 0 < es.length) (hm : m1.base ≤ m1.n) : ∀ B, blk ed = some B → B ∉ [P2, P3] := by
 intro B hB hc
 obtain ⟨e, he⟩ : ∃ e, es[0]? = some e := ⟨_, qaa hl⟩
 have ⟨_, _, h3⟩ := h.at he
 have hb := h.adr_blk hB 0
 have k1 := h3 m1 1 none (Sees.refl hm) (by simp [edgeRow])
 have k0 := h3 m1 0 none (Sees.refl hm) (by simp [edgeRow])
 rw [hb] at k1 k0
 simp only [List.mem_cons, List.not_mem_nil, or_false] at hc
 rcases hc with rfl | rfl
 ·rw [hP2.load1] at k1
  have : wD[(adr 2 ed 0).off + 1]? = some (.int .i64 e.2) := k1
  unfold wD at this
  rw [List.getElem?_cons_succ] at this
  have := qab this
  simp at this
 ·rw [hP3.load1] at k0
  have : [Value.slice none 0 0][(adr 2 ed 0).off + 0]? = some (.int .i64 e.1) := k0
  have := qab this
  simp at this
theorem LR_of {m1 : M} {P2 P3 PB A5 A6 A7 c1 : Nat} {ed ec md : Value} {es : List (Int × Int)} {ms : List Int} {TH CE VA : Nat → Nat} (h : LF m1 PB A5 A6 A7 c1 ed ec md es ms TH CE VA) (hPB : PB ∉ [P2, P3]) (h5 : A5 ∉ [P2, P3]) (h6 : A6 ∉ [P2, P3]) (h7 : A7 ∉ [P2, P3]) (hc : c1 ∉ [P2, P3]) (he : ∀ B, blk ed = some B → B ∉ [P2, P3]) (hm : ∀ B, blk md = some B → B ∉ [P2, P3]) : LR m1 P2 P3 PB A5 A6 A7 c1 ed ec md es ms TH CE VA := by
 intro m k
 have hn := k.n
 exact ⟨qaf h.lP hn, qaf h.l5 hn, qaf h.l6 hn, qaf h.l7 hn, qaf h.lc hn, (wN k h.lP hPB).trans h.p0, (wN k h.lP hPB).trans h.p5, (wN k h.lP hPB).trans h.p6, (wN k h.lP hPB).trans h.p7,
  fun i hi => (wN k h.l5 h5).trans (h.a5 i hi), fun i hi => (wN k h.l6 h6).trans (h.a6 i hi), fun i hi => (wN k h.l7 h7).trans (h.a7 i hi), h.hed.rest k he, (wN k h.lc hc).trans h.c1m, h.hmd.rest k hm, h.small⟩
structure GX where
 EV : List EvR
 RF : List (Nat × Nat)
 TO : List Nat
 CO : List (List Nat)
def Graphed (m0 m : M) (v : Value) (N : Nat) (x : GX) : Prop := ∃ (evd rfd cod tov : Value) (sv : Nat → Value), v = .tuple #[.agg #[iv N, evd, rfd, cod, .slice none 0 0, .slice none 0 0, .slice none 0 0, .slice none 0 0], tov, iv 0] ∧
 Rd m evd 5 qp x.EV ∧ Rd m rfd 2 qq x.RF ∧ Rd m tov 1 wa x.TO ∧ x.CO.length = N ∧ Rd m cod 1 (fun v => [v]) ((List.range N).map sv) ∧ (∀ c l, x.CO[c]? = some l → Rd m (sv c) 1 wa l) ∧
 (∀ B, blk evd = some B → m0.n ≤ B) ∧ (∀ B, blk rfd = some B → m0.n ≤ B) ∧ (∀ B, blk cod = some B → m0.n ≤ B) ∧ (∀ B, blk tov = some B → m0.n ≤ B) ∧ (∀ c, c < N → ∀ B, blk (sv c) = some B → m0.n ≤ B) ∧ (∀ c, c < N → ∃ X n, sv c = .slice (some ⟨X, 0, some 3⟩) (1 + n) (1 + n) ∧ n ≤ 2) ∧ Sp 1 cod
end Go.Sx
