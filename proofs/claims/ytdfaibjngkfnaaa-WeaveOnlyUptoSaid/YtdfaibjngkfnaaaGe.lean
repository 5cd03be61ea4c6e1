/- Contracts. -/
import Derived.Test.YtdfaibjngkfnaaaGd
import Derived.Test.YtdfaibjngkfnaaaGb
set_option linter.unusedVariables false
set_option linter.unusedSimpArgs false
set_option linter.defProp false
namespace Go.Sx
open Go.Dx Go.Proofs
def vv (es : List (Int × Int)) (ms : List Int) (TH CE VA : Nat → Nat) (N bg : Nat) : GT := (qF es bg).foldl (kf es ms TH CE VA) ⟨(List.range N).map ev0, fun _ => 0, fr0⟩
def jQ (es : List (Int × Int)) (ms : List Int) (TH CE VA WR : Nat → Nat) (N bg : Nat) : GX :=
 ⟨(vv es ms TH CE VA N bg).ev, (qF es bg).foldl (zF es CE VA (vv es ms TH CE VA N bg).fr (vv es ms TH CE VA N bg).to) [], (List.range es.length).map (vv es ms TH CE VA N bg).to, (List.range N).map fun c => (List.range (1 + WR c)).map ((vv es ms TH CE VA N bg).fr c)⟩
theorem FI {α : Type} {m0 m : M} {v : Value} {e : Nat} {f : α → List Value} {es : List α} (h : Grown m0 m v e f es) : Sp e v := by
 rcases h with ⟨_, h⟩ | ⟨B, _, _, _, h, _⟩
 ·exact .inl h
 ·exact .inr ⟨B, 0, _, _, false, h, qad _⟩
theorem Dl {m : M} (B : Nat) (f : Nat → Nat) (q : Nat) (hq : q ≤ 3) (h : Arr m B (yk f)) (hB : B < m.n) : Rd m (.slice (some ⟨B, 0, some 3⟩) q q) 1 wa ((List.range q).map f) := by
 refine ⟨by rw [List.length_map, List.length_range]; rfl, fun i r hr => ?_, ?_, fun C hC => by cases hC; exact hB⟩
 ·rw [qaq] at hr
  by_cases hi : i < q
  ·rw [List.getElem?_range hi] at hr
   cases hr
   refine ⟨?_, hB, ?_⟩
   ·rw [zX B _ i hi]
    show _ = some (Value.pointer (some ⟨B, 0 + i * 1, none⟩))
    rw [Nat.zero_add]
   ·show loads m ⟨B, 0 + i * 1, none⟩ 1 = _
    rw [h.loads (by show 0 + i * 1 + 1 ≤ 3; omega)]
    rcases (by omega : i = 0 ∨ i = 1 ∨ i = 2) with rfl | rfl | rfl <;> rfl
  ·rw [qav (by simpa using hi)] at hr; cases hr
 ·show loads m ⟨B, 0, some 3⟩ (((List.range q).map f).length * 1) = _
  rw [List.length_map, List.length_range, h.loads (by show 0 + q * 1 ≤ 3; omega)]
  rcases (by omega : q = 0 ∨ q = 1 ∨ q = 2 ∨ q = 3) with rfl | rfl | rfl | rfl <;> rfl
set_option maxHeartbeats 1000000 in
theorem BA (n : Nat) (ed md : Value) (es : List (Int × Int)) (ms : List Int) (m : M) (hm : m.base ≤ m.n) (hl : es.length < 9223372036854775807) (hed : Rd m ed 2 edgeRow es) (hmd : Rd m md 1 modeRow ms) (ch : Nat → List Nat)
  (hch : (wn es ms).2 = 0 → ∀ c, c < es.length - cnt es → km es (zY es (es.length - cnt es) (qF es (qM es))).ce (qM es) c (ch c)) (TH CE VA WR : Nat → Nat)
  (hlaw : (wn es ms).2 = 0 → fL es (za es ch (List.replicate es.length 0) (es.length - cnt es)) TH CE VA WR) (hlaw2 : (wn es ms).2 = 0 → (∀ i, i < es.length → CE i < es.length - cnt es ∧ VA i ≤ 2) ∧ ∀ x, x < es.length - cnt es → WR x ≤ 2) :
  Dx.Call (Go.Dx.ex Try.prog (n + 9)) 23 [.agg #[ed, md]] m fun v m' => ((wn es ms).2 ≠ 0 ∧ v = .tuple #[.agg #[iv 0, .slice none 0 0, .slice none 0 0, .slice none 0 0, .slice none 0 0, .slice none 0 0, .slice none 0 0, .slice none 0 0], .slice none 0 0, iv (wn es ms).2]) ∨
   ((wn es ms).2 = 0 ∧ Graphed m m' v (es.length - cnt es) (jQ es ms TH CE VA WR (es.length - cnt es) (qM es))) := by
 suffices H : ∀ Q : Value → M → Prop, (∀ v m', (((wn es ms).2 ≠ 0 ∧ v = .tuple #[.agg #[iv 0, .slice none 0 0, .slice none 0 0, .slice none 0 0, .slice none 0 0, .slice none 0 0, .slice none 0 0, .slice none 0 0], .slice none 0 0, iv (wn es ms).2]) ∨
   ((wn es ms).2 = 0 ∧ Graphed m m' v (es.length - cnt es) (jQ es ms TH CE VA WR (es.length - cnt es) (qM es)))) → Q v m') → Dx.Call (Go.Dx.ex Try.prog (n + 9)) 23 [.agg #[ed, md]] m Q from H _ fun _ _ h => h
 intro Q hQ
 refine qE da2_ok (by simp) ?_
 have st0 : St m m [] := St.nil hm (Ext.refl m)
 have stA := ((st0.row [ed, md]).row wD).row [.slice none 0 0]
 simp only [qn] at stA
 obtain ⟨mA, hmA⟩ := qay (Dx.newRow (Dx.newRow (Dx.newRow m [ed, md]) wD) [.slice none 0 0])
 have hmA' : Dx.newRow (Dx.newRow (Dx.newRow m [ed, md]) [.int .i64 0, .slice none 0 0, .slice none 0 0, .slice none 0 0, .slice none 0 0, .slice none 0 0, .slice none 0 0, .slice none 0 0]) [.slice none 0 0] = mA := hmA.symm
 rw [← hmA] at stA
 have lbA : loads mA ⟨m.n, 0, none⟩ 2 = some [ed, md] := (stA.get 2 rfl).2.2.loads (by simp)
 obtain ⟨v1, m1, c1, c2, c3⟩ := lay_c n ed md es ms mA stA.sees.base hl (hed.sees stA.sees) (hmd.sees stA.sees) ch hch
 have st1 := stA.step c2
 have hb1 : m1.base ≤ m1.n := st1.sees.base
 simp [hmA', lbA, ql, c1]
 rcases c3 with ⟨hz, rfl⟩ | ⟨hz, PB, rfl, hLaid⟩
 ·obtain ⟨q1, hq1⟩ := qay ((wn es ms).1)
  obtain ⟨q2, hq2⟩ := qay ((wn es ms).2)
  rw [← hq2] at hz hQ ⊢
  rw [← hq1]
  have s1' := st1.row [.pointer none]
  obtain ⟨m2, a1, a2, a3, a4⟩ := s1'.store 0 rfl (o := 0) (v := .pointer none) (by simp) rfl
  obtain ⟨m3, b1, b2, b3, b4⟩ := a2.fill 2 rfl (n := 8) (l' := wD) rfl rfl (by simp [okC, wD])
  obtain ⟨m4, d1, d2, d3, d4⟩ := b2.store 1 rfl (o := 0) (v := .slice none 0 0) (by simp) rfl
  have b1' : qO 8 (.pointer (some ⟨m.n + 1, 0, none⟩)) (.agg ⟨[.int .i64 0, .slice none 0 0, .slice none 0 0, .slice none 0 0, .slice none 0 0, .slice none 0 0, .slice none 0 0, .slice none 0 0]⟩) m2 = some (undef, m3) := b1
  simp [a1, hz, b1', d1]
  refine XA (a := ⟨m.n + 1, 0, none⟩) (b := ⟨m.n + 1 + 1, 0, none⟩) (by simp) ((d2.get 2 rfl).2.2.loads (n := 8) (by simp [wD])) (by simp) (by rw [(d2.get 1 rfl).2.2.load1]; rfl) d2.ext (hQ _ _ (.inl ⟨hz, by simp [wD]⟩))
 ·obtain ⟨law1, law2, law3, law4, law5, law6, law7⟩ := hlaw hz
  obtain ⟨law8, law9⟩ := hlaw2 hz
  obtain ⟨hl16, hml, hA2, hN1, hok⟩ : es.length ≤ 16 ∧ ms.length = es.length ∧ 2 ≤ cnt es ∧ 1 ≤ es.length - cnt es ∧ ∀ (i : Nat) e, es[i]? = some e → kV e = false := by
   unfold wn at hz
   by_cases h1 : (wb es ms).2 ≠ 0
   ·rw [if_pos h1] at hz; exact absurd hz h1
   ·rw [if_neg h1] at hz
    have h1' : (wb es ms).2 = 0 := by omega
    by_cases h2 : cnt es < 2 ∨ es.length - cnt es < 1
    ·rw [if_pos h2] at hz; simp at hz
    ·exact ⟨(kT h1').1, (kT h1').2, by omega, by omega, vY h1'⟩
  obtain ⟨N, hNe⟩ := qay (es.length - cnt es)
  have hcl : cnt es ≤ es.length := by unfold cnt; exact List.countP_le_length
  obtain ⟨b, hbe⟩ := qay (qM es)
  have hb := gX (es := es) (by omega)
  rw [← hbe] at hb
  have hbl : b < es.length := by unfold first at hb; rw [List.find?_range_eq_some] at hb; simpa using hb.2.1
  obtain ⟨ed', md', A5, A6, A7, A8, hPl, hmd', p1, p3, p4, p5, p7, p8, r5, r6, r7, r8, k5, k6, k7, k8⟩ := hLaid.ex
  rw [← hNe] at law1 law3 law4 law5 law8 law9 hPl p3 p4 p8 r5 r6 r7 r8 hQ hN1
  rw [← hbe] at law1 law3 law5 hPl r5 r6 r8 hQ
  have hl0 : 0 < es.length := by omega
  have hN16 : N ≤ 16 := by omega
  have aP2 := (st1.get 1 rfl).2.2
  have aP3 := (st1.get 0 rfl).2.2
  have hc1n : m.n ∉ [m.n + 1, m.n + 1 + 1] := by simp; omega
  have hmdn : ∀ B, blk md = some B → B ∉ [m.n + 1, m.n + 1 + 1] := fun B hB => by
   have := hmd.lt B hB
   simp; omega
  have pos : ∀ {l : List Nat} {x : Nat}, l[0]? = some x → 0 < l.length := fun h => (qac.1 h).1
  have hPBn : PB ∉ [m.n + 1, m.n + 1 + 1] := by
   intro hc
   have hed0 := hPl.p0 none
   have hlen := hPl.hed.len
   simp only [List.mem_cons, List.not_mem_nil, or_false] at hc
   rcases hc with rfl | rfl
   ·rw [aP2.load1] at hed0
    have : some (Value.int .i64 0) = some ed' := hed0
    cases this
    cases hlen
   ·rw [aP3.load1] at hed0
    have : some (Value.slice none 0 0) = some ed' := hed0
    cases this
    have : some (iv 0) = some (iv es.length) := hlen
    simp at this
    omega
  have hLF : LF m1 PB A5 A6 A7 m.n ed' ed md es ms TH CE VA := by
   refine ⟨hPl.lt, k5, k6, k7, by have := (st1.get 2 rfl).2.1; exact this, hPl.p0 none, p5 none, hPl.p6 none, p7 none, fun i hi => ?_, fun i hi => ?_, fun i hi => ?_, hPl.hed, ?_, hmd.sees st1.sees, law6⟩
   ·rw [r5.load1]; exact wj _ _ _ (law1 i hi)
   ·rw [r6.load1]; exact wj _ _ _ (law3 i hi)
   ·rw [r7.load1]; exact wj _ _ _ (law4 i hi)
   ·rw [(st1.get 2 rfl).2.2.load1]; rfl
  have hLR : LR m1 (m.n + 1) (m.n + 1 + 1) PB A5 A6 A7 m.n ed' ed md es ms TH CE VA :=
   LR_of hLF hPBn (bj aP2 aP3 r5 (pos (law1 0 hl0))) (bj aP2 aP3 r6 (pos (law3 0 hl0))) (bj aP2 aP3 r7 (pos (law4 0 hl0))) hc1n (ed_ne aP2 aP3 hPl.hed hl0 hb1) hmdn
  have h8n := bj aP2 aP3 r8 (pos (law5 0 hN1))
  have hLX : LX m1 (m.n + 1) (m.n + 1 + 1) PB A8 b N WR := fun m' k =>
   ⟨(wN k hPl.lt hPBn).trans (hPl.p2 none), (wN k hPl.lt hPBn).trans (p4 none), (wN k hPl.lt hPBn).trans (p8 none), fun x hx => (wN k k8 h8n).trans (by rw [r8.load1]; exact wj _ _ _ (law5 x hx))⟩
  have hm1n : m.n + 3 ≤ m1.n := by
   have := (st1.get 0 rfl).2.1; omega
  have G0 : GS m m1 m1 (m.n + 1) (m.n + 1 + 1) [(m.n + 1 + 1, [.slice none 0 0]), (m.n + 1, wD)] (.slice none 0 0) 5 qp [] :=
   ⟨st1.sub (fun p hp => by simp at hp ⊢; rcases hp with rfl | rfl <;> simp) (by simp), Dx.Rest.refl, fun p hp => by simp at hp; rcases hp with rfl | rfl <;> simp, by omega, hb1, .nil, fun B hB => by cases hB⟩
  have G1 := G0.row [.pointer none]
  obtain ⟨m2, a1, a2, a3, a4⟩ := G1.store 0 rfl (o := 0) (v := .pointer (some ⟨PB, 0, none⟩)) (by simp) rfl
  have a2' : GS m m1 m2 (m.n + 1) (m.n + 1 + 1) [(m1.n, [.pointer (some ⟨PB, 0, none⟩)]), (m.n + 1 + 1, [.slice none 0 0]), (m.n + 1, wD)] (.slice none 0 0) 5 qp [] := a2
  have n2 : m2.n = m1.n + 1 := by rw [a3, qn]
  have lq2 : load1 m2 ⟨m1.n, 0, none⟩ = some (.pointer (some ⟨PB, 0, none⟩)) := by rw [(a2'.st.get 0 rfl).2.2.load1]; rfl
  have l42 := (hLX m2 a2'.rest).2.1
  obtain ⟨m3, b1, b2, b3, b4⟩ := a2'.store 2 rfl (o := 0) (v := iv N) (by simp [wD]) rfl
  have b2' : GS m m1 m3 (m.n + 1) (m.n + 1 + 1) [(m1.n, [.pointer (some ⟨PB, 0, none⟩)]), (m.n + 1 + 1, [.slice none 0 0]), (m.n + 1, qc N (.slice none 0 0) (.slice none 0 0) (.slice none 0 0))] (.slice none 0 0) 5 qp [] := b2
  have lq3 : load1 m3 ⟨m1.n, 0, none⟩ = some (.pointer (some ⟨PB, 0, none⟩)) := by rw [(b2'.st.get 0 rfl).2.2.load1]; rfl
  have l43 := (hLX m3 b2'.rest).2.1
  have mk1 := bf (n := N) (e := 1) (bytes := 24) (zs := [.slice none 0 0]) rfl (by omega) (by omega) (by omega) m3
  have code1 : code 1 true = 3 := rfl
  rw [code1] at mk1
  have G4 := (b2'.row ((List.range N).flatMap fun _ => [.slice none 0 0])).row [.slice none 0 0]
  simp only [qn] at G4
  obtain ⟨m4, e1, e2, e3, e4⟩ := G4.store 0 rfl (o := 0) (v := .slice (some ⟨m3.n, 0, some 3⟩) N N) (by simp) rfl
  have e2' : GS m m1 m4 (m.n + 1) (m.n + 1 + 1) [(m3.n + 1, [.slice (some ⟨m3.n, 0, some 3⟩) N N]), (m3.n, (List.range N).flatMap fun _ => [.slice none 0 0]), (m1.n, [.pointer (some ⟨PB, 0, none⟩)]), (m.n + 1 + 1, [.slice none 0 0]), (m.n + 1, qc N (.slice none 0 0) (.slice none 0 0) (.slice none 0 0))] (.slice none 0 0) 5 qp [] := e2
  have lq4 : load1 m4 ⟨m1.n, 0, none⟩ = some (.pointer (some ⟨PB, 0, none⟩)) := by rw [(e2'.st.get 2 rfl).2.2.load1]; rfl
  have l44 := (hLX m4 e2'.rest).2.1
  obtain ⟨u, hu⟩ : ∃ u : GB, u = ⟨m3.n, m3.n + 1, m.n + 1 + 1, m.n + 1, m1.n, PB⟩ := ⟨_, rfl⟩
  have uF : u.FB = m3.n := by rw [hu]
  have u7 : u.q7 = m3.n + 1 := by rw [hu]
  have u3 : u.P3 = m.n + 1 + 1 := by rw [hu]
  have u2 : u.P2 = m.n + 1 := by rw [hu]
  have u5 : u.q5 = m1.n := by rw [hu]
  have uP : u.PB = PB := by rw [hu]
  have G5 : GS m m1 m4 u.P2 u.P3 (u.σ N (fun _ => 0) (qc N (.slice none 0 0) (.slice none 0 0) (.slice none 0 0)) (.slice none 0 0) (fun _ => .slice none 0 0) 0 fr0) (.slice none 0 0) 5 qp [] := by
   rw [hu]
   refine e2'.sub (fun p hp => ?_) ?_
   ·simp only [GB.σ, List.range_zero, List.map_nil, List.append_nil, List.mem_cons, List.not_mem_nil, or_false] at hp
    rcases hp with rfl | rfl | rfl | rfl | rfl
    ·exact qab (i := 1) rfl
    ·exact qab (i := 0) rfl
    ·exact qab (i := 3) rfl
    ·exact qab (i := 4) rfl
    ·exact qab (i := 2) rfl
   ·simp only [GB.σ, List.range_zero, List.map_nil, List.append_nil, List.map_cons, List.nodup_cons, List.mem_cons, List.not_mem_nil, or_false, not_false_eq_true, List.nodup_nil, and_true]; omega
  simp [a1, lq2, l42, b1, lq3, l43, mk1, e1, lq4, l44]
  refine BQ (n + 8) (u := u) hN16 (Ret m Q) _ _ _ _ _ _ (fun t => Tm.get 1 t = .pointer (some ⟨m.n, 0, none⟩) ∧ Tm.get 2 t = .pointer (some ⟨u.P2, 0, none⟩) ∧ Tm.get 3 t = .pointer (some ⟨u.P3, 0, none⟩) ∧ Tm.get 5 t = .pointer (some ⟨u.q5, 0, none⟩) ∧ Tm.get 7 t = .pointer (some ⟨u.q7, 0, none⟩) ∧ Tm.get 37 t = iv N)
   (fun t i v h hm => ?_) ?_ (fun t h => ⟨h.2.1, h.2.2.2.2.1, h.2.2.2.2.2⟩) ?_ G5 (fun t m5 rb ev hI G6 => ?_)
  ·simp only [List.mem_cons, List.not_mem_nil, or_false, not_or] at hm
   obtain ⟨a1, a2, a3, a4, a5, a6, a7⟩ := hm
   simp only [vS]
   rw [if_neg (Ne.symm a1), if_neg (Ne.symm a2), if_neg (Ne.symm a3), if_neg (Ne.symm a5), if_neg (Ne.symm a6), if_neg (Ne.symm a7)]
   exact h
  ·refine ⟨?_, ?_, ?_, ?_, ?_, ?_⟩
   ·simp
   ·simp [u2]
   ·simp [u3]
   ·simp [u5]
   ·simp [u7]
   ·simp
  ·simp
  obtain ⟨t1, t2, t3, t5, t7, -⟩ := hI
  have hlens : zZ ed' = some (iv es.length) := hPl.hed.len
  rw [← u3, ← u2, ← uP] at hLR hLX
  have lf5 := hLR m5 G6.rest
  have lq5 : load1 m5 ⟨u.q5, 0, none⟩ = some (.pointer (some ⟨u.PB, 0, none⟩)) := by rw [(G6.st.get 4 rfl).2.2.load1]; rfl
  have mkT := bf (n := es.length) (e := 1) (bytes := 8) (zs := [.int .i64 0]) rfl (by omega) (by omega) (by omega) m5
  rw [code1] at mkT
  have G7 := G6.row ((List.range es.length).flatMap fun _ => [.int .i64 0])
  obtain ⟨m6, f1, f2, f3, f4⟩ := G7.store 3 rfl (o := 0) (v := .slice (some ⟨m5.n, 0, some 3⟩) es.length es.length) (by simp) rfl
  have G8 := f2.row [.pointer (some ⟨u.PB, 0, none⟩)]
  obtain ⟨M7, hM7⟩ := qay (Dx.newRow m6 [.pointer (some ⟨u.PB, 0, none⟩)])
  rw [← hM7] at G8
  have G9 : GS m m1 M7 u.P2 u.P3 (u.σ1 m6.n m5.n N es.length rb (qc N ev (.slice none 0 0) (.slice none 0 0)) (fun _ => 0) fr0) ev 5 qp ((List.range N).map ev0) := G8
  have lq6 : load1 m6 ⟨u.q5, 0, none⟩ = some (.pointer (some ⟨u.PB, 0, none⟩)) := by rw [(f2.st.get 5 rfl).2.2.load1]; rfl
  have hwk := dD (n + 7) ⟨u.PB, 0, none⟩ m6
  simp [t2, t3, t5, lq5, lf5.p0, hlens, mkT, f1, lq6, hwk, ← hM7]
  generalize hT0 : Tm.set 62 _ _ = T0
  have k1 : Tm.get 1 T0 = .pointer (some ⟨m.n, 0, none⟩) := by rw [← hT0]; simp [t1]
  have k2 : Tm.get 2 T0 = .pointer (some ⟨u.P2, 0, none⟩) := by rw [← hT0]; simp [t2]
  have k3 : Tm.get 3 T0 = .pointer (some ⟨u.P3, 0, none⟩) := by rw [← hT0]; simp [t3]
  have k5 : Tm.get 5 T0 = .pointer (some ⟨u.q5, 0, none⟩) := by rw [← hT0]; simp [t5]
  have k7 : Tm.get 7 T0 = .pointer (some ⟨u.q7, 0, none⟩) := by rw [← hT0]; simp [t7]
  have k62 : Tm.get 62 T0 = .func (.func 71) #[] #[.pointer (some ⟨m6.n, 0, none⟩)] := by rw [← hT0]; simp
  clear hT0
  obtain ⟨s0, hs0⟩ : ∃ s0 : GT, s0 = ⟨(List.range N).map ev0, fun _ => 0, fr0⟩ := ⟨_, rfl⟩
  have G9' : GS m m1 M7 u.P2 u.P3 (u.σ1 m6.n m5.n N es.length rb (qc N ev (.slice none 0 0) (.slice none 0 0)) s0.to s0.fr) ev 5 qp s0.ev := by rw [hs0]; exact G9
  refine FE (n + 4) (u := u) (s := s0) hl16 hLR hLX hbl hok hml (fun i hi => (law8 i hi).1) hN16 (fun i hi => (law8 i hi).2) G9' (by rw [hs0]; simp; omega) k1 k2 k3 k5 k7 k62 (Ret m Q) _ _ _ (fun m8 ev8 G10 => ?_)
  have hgS : (qF es b).foldl (kf es ms TH CE VA) s0 = vv es ms TH CE VA N b := by rw [hs0]; rfl
  rw [hgS] at G10
  obtain ⟨s, hs⟩ : ∃ s : GT, s = vv es ms TH CE VA N b := ⟨_, rfl⟩
  rw [← hs] at G10
  obtain ⟨ex1, G11, hex1, -⟩ := G10.doneLast 2 qq wM
  have lq8 : load1 m8 ⟨u.q5, 0, none⟩ = some (.pointer (some ⟨u.PB, 0, none⟩)) := (zb G11.st).2.2.2.2.2.1
  have hwk2 := dD (n + 7) ⟨u.PB, 0, none⟩ m8
  have G12 := G11.row [.pointer (some ⟨u.PB, 0, none⟩)]
  obtain ⟨M9, hM9⟩ := qay (Dx.newRow m8 [.pointer (some ⟨u.PB, 0, none⟩)])
  rw [← hM9] at G12
  have G13 : GS m m1 M9 u.P2 u.P3 (u.σ1 m8.n m5.n N es.length rb (qc N ev8 (.slice none 0 0) (.slice none 0 0)) s.to s.fr ++ ex1) (.slice none 0 0) 2 qq [] := by
   have hsub : List.Sublist (u.σ1 m8.n m5.n N es.length rb (qc N ev8 (.slice none 0 0) (.slice none 0 0)) s.to s.fr ++ ex1) ((m8.n, [.pointer (some ⟨u.PB, 0, none⟩)]) :: (u.σ1 m6.n m5.n N es.length rb (qc N ev8 (.slice none 0 0) (.slice none 0 0)) s.to s.fr ++ ex1)) :=
    List.Sublist.cons_cons _ (List.Sublist.cons _ (List.Sublist.refl _))
   exact G12.sub (fun p hp => hsub.subset hp) ((hsub.map _).nodup G12.st.nd)
  simp [k5, lq8, hwk2, ← hM9]
  refine FF (n + 4) (u := u) hl16 hLR hLX hbl hok (fun i hi => (law8 i hi).1) hN16 (fun i hi => (law8 i hi).2) G13 ?_ ?_ ?_ ?_ ?_ (Ret m Q) _ _ _ (fun m10 rf G14 => ?_)
  ·simp [k2]
  ·simp [k3]
  ·simp [k5]
  ·simp [k7]
  ·simp
  obtain ⟨ex2, G15, hex2, -⟩ := G14.doneLast 1 yX wy
  rw [List.append_assoc] at G15
  have l7 : load1 m10 ⟨u.q7, 0, none⟩ = some (.slice (some ⟨u.FB, 0, some 3⟩) N N) := (zb G15.st).2.2.2.1
  have hlenN : zZ (.slice (some ⟨u.FB, 0, some 3⟩) N N) = some (iv N) := rfl
  simp [k7, l7, hlenN]
  refine gr_co (n + 8) (u := u) hN16 hLX law9 G15 (Ret m Q) _ _ _ _ _ ?_ ?_ ?_ ?_ ?_ ?_ (fun t11 m11 co x2 x3 G16 => ?_)
  ·simp [k2]
  ·simp [k3]
  ·simp [k5]
  ·simp
  ·simp
  ·simp
  have hcells : ∀ v ∈ qc N ev8 rf co, okC v = true := by
   have h1 : okC ev8 = true := (hex1 m10 (G14.st.sub (fun p hp => by simp [hp]) (by
    have := G14.st.nd
    rw [List.map_append, List.nodup_append] at this; exact this.2.1))).okV
   have h2 : okC rf = true := G14.gr.okC
   have h3 : okC co = true := G16.gr.okC
   intro v hv
   simp only [qc, List.mem_cons, List.not_mem_nil, or_false] at hv
   rcases hv with e | e | e | e | e | e | e | e <;> rw [e]
   ·rfl
   ·exact h1
   ·exact h2
   ·exact h3
   ·rfl
   ·rfl
   ·rfl
   ·rfl
  have lC : loads m11 ⟨u.P2, 0, none⟩ 8 = some (qc N ev8 rf co) := (G16.st.get 5 rfl).2.2.loads (n := 8) (by simp [qc])
  have l3 : load1 m11 ⟨u.P3, 0, none⟩ = some (.slice (some ⟨m5.n, 0, some 3⟩) es.length es.length) := (zb G16.st).2.2.2.2.1
  obtain ⟨m12', i1, i2, i3, i4, i5⟩ := G16.fillAny 5 rfl (n := 8) (l' := qc N ev8 rf co) (by omega) rfl rfl hcells
  obtain ⟨m12, hm12⟩ := qay (behind m11 m12')
  rw [← hm12] at i3 i4 i5
  obtain ⟨m13', j1, j2, j3, j4, j5⟩ := i3.storeAny 4 rfl (o := 0) (v := .slice (some ⟨m5.n, 0, some 3⟩) es.length es.length) (by simp) rfl
  obtain ⟨m13, hm13⟩ := qay (behind m12 m13')
  rw [← hm13] at j3 j4 j5
  have G17 : GS m m1 m13 u.P2 u.P3 (u.σ1 m8.n m5.n N es.length rb (qc N ev8 rf co) s.to s.fr ++ (ex1 ++ ex2)) co 1 yX ((List.range N).map fun c => (rb c, 1 + WR c)) := j3
  have hne23 : ¬ (u.P3 = u.P2) := by rw [u2, u3]; omega
  simp [x2, x3, lC, l3, ql, i1, i2, ← hm12, hne23, j1, ← hm13]
  have st17 := G17.st
  have ste : St m m13 (ex1 ++ ex2) := st17.sub (fun p hp => List.mem_append_right _ hp) (by
   have := st17.nd
   rw [List.map_append, List.nodup_append] at this; exact this.2.1)
  have ste1 : St m m13 ex1 := ste.sub (fun p hp => List.mem_append_left _ hp) (by
   have := ste.nd
   rw [List.map_append, List.nodup_append] at this; exact this.1)
  have ste2 : St m m13 ex2 := ste.sub (fun p hp => List.mem_append_right _ hp) (by
   have := ste.nd
   rw [List.map_append, List.nodup_append] at this; exact this.2.1)
  have lC' : loads m13 ⟨u.P2, 0, none⟩ 8 = some (qc N ev8 rf co) := (st17.get 5 rfl).2.2.loads (n := 8) (by simp [qc])
  have l3' : load1 m13 ⟨u.P3, 0, none⟩ = some (.slice (some ⟨m5.n, 0, some 3⟩) es.length es.length) := (zb st17).2.2.2.2.1
  refine XA (a := ⟨u.P2, 0, none⟩) (b := ⟨u.P3, 0, none⟩) (by simp [x2]) lC' (by simp [x3]) l3' st17.ext (hQ _ _ (.inr ⟨hz, ev8, rf, co, .slice (some ⟨m5.n, 0, some 3⟩) es.length es.length, fun c => .slice (some ⟨rb c, 0, some 3⟩) (1 + WR c) (1 + WR c), by simp [qc], ?_, ?_, ?_, ?_, ?_, fun c l hcl => ?_, fun B hB => ?_, fun B hB => ?_, fun B hB => ?_, fun B hB => ?_, fun c hc B hB => ?_, fun c hc => ⟨rb c, WR c, rfl, law9 c hc⟩, FI G17.gr⟩))
  ·have := hex1 m13 ste1
   rw [hs] at this; exact this
  ·have := hex2 m13 ste2
   rw [hs] at this; exact this
  ·have hA := (st17.get 1 rfl).2.2
   have hlt := (st17.get 1 rfl).2.1
   have hA' : Arr m13 m5.n (((List.range es.length).map s.to).flatMap wa) := by
    rw [List.flatMap_map]; exact hA
   have := jd (m := m13) (c := 3) (e := 1) (f := wa) (fun _ => rfl) hA' hlt
   rw [List.length_map, List.length_range, hs] at this
   exact this
  ·simp [jQ]
  ·have := G17.gr.rd fX
   refine ⟨by have := this.len; simpa using this, fun i r hr => ?_, ?_, this.lt⟩
   ·rw [qaq] at hr
    by_cases hi : i < N
    ·rw [List.getElem?_range hi] at hr
     cases hr
     have := this.row i (rb i, 1 + WR i) (by rw [qaq, List.getElem?_range hi]; rfl)
     exact this
    ·rw [qav (by simpa using hi)] at hr; cases hr
   ·have h := this.all
    rw [List.flatMap_map] at h ⊢
    simp only [List.length_map] at h ⊢
    exact h
  ·unfold jQ at hcl
   simp only at hcl
   rw [qaq] at hcl
   by_cases hc : c < N
   ·rw [List.getElem?_range hc, ← hs] at hcl
    cases hcl
    have hrow : (u.σ1 m8.n m5.n N es.length rb (qc N ev8 rf co) s.to s.fr ++ (ex1 ++ ex2))[7 + c]? = some (rb c, yk (s.fr c)) := by
     rw [qao (by have := GB.sg_row (u := u) (W := m8.n) (T := m5.n) (n := es.length) (rb := rb) (cells := qc N ev8 rf co) (to := s.to) (fr := s.fr) hc; exact (qac.1 this).1)]
     exact GB.sg_row hc
    obtain ⟨-, g2, g3⟩ := st17.get _ hrow
    exact Dl (rb c) (s.fr c) (1 + WR c) (by have := law9 c hc; omega) g3 g2
   ·rw [qav (by simpa using hc)] at hcl; cases hcl
  ·exact qam st1.ext.n (grown_low G10.gr B hB).1
  ·exact qam st1.ext.n (grown_low G14.gr B hB).1
  ·exact qam st1.ext.n (grown_low G17.gr B hB).1
  ·cases hB
   exact (st17.get 1 rfl).1
  ·have hrow : (u.σ1 m8.n m5.n N es.length rb (qc N ev8 rf co) s.to s.fr ++ (ex1 ++ ex2))[7 + c]? = some (rb c, yk (s.fr c)) := by
    rw [qao (by have := GB.sg_row (u := u) (W := m8.n) (T := m5.n) (n := es.length) (rb := rb) (cells := qc N ev8 rf co) (to := s.to) (fr := s.fr) hc; exact (qac.1 this).1)]
    exact GB.sg_row hc
   cases hB
   exact (st17.get _ hrow).1
end Go.Sx
namespace Go.Dx
theorem Kf (x : Value) (h : okC x = true) : ko [.slice none 0 0, .slice none 0 0, .slice none 0 0, .slice none 0 0, .slice none 0 0] [(0, 1, x), (1, 1, .slice none 0 0), (2, 1, .slice none 0 0), (3, 1, .slice none 0 0), (4, 1, .slice none 0 0)] = some (.agg ⟨[x, .slice none 0 0, .slice none 0 0, .slice none 0 0, .slice none 0 0]⟩) := by
 cases x <;> first | rfl | (simp [okC] at h)
end Go.Dx
namespace Go.Sx
open Go.Dx Go.Proofs
theorem QJ (n : Nat) (N : Nat) (ev rf co : Value) (m : M) (hm : m.base ≤ m.n) (h : okC rf = true) : CallV (ex Try.prog (n + 1)) 52 [.agg ⟨qc N ev rf co⟩] m (.agg ⟨[rf, .slice none 0 0, .slice none 0 0, .slice none 0 0, .slice none 0 0]⟩) := by
 refine qE db2_ok (by simp) ?_
 have st0 : St m m [] := St.nil hm (Ext.refl m)
 have st1 := (st0.row (qc N ev rf co)).row [.slice none 0 0, .slice none 0 0, .slice none 0 0, .slice none 0 0, .slice none 0 0]
 simp only [qn] at st1
 obtain ⟨m1, hm1⟩ := qay (Dx.newRow (Dx.newRow m (qc N ev rf co)) [.slice none 0 0, .slice none 0 0, .slice none 0 0, .slice none 0 0, .slice none 0 0])
 rw [← hm1] at st1
 have l1 : ∀ o s, load1 m1 ⟨m.n, o, s⟩ = (qc N ev rf co)[o]? := fun o s => (st1.get 1 rfl).2.2.load1 o s
 obtain ⟨m2, s1, s2, s3, s4⟩ := st1.fill 0 rfl (n := 5) (l' := [rf, .slice none 0 0, .slice none 0 0, .slice none 0 0, .slice none 0 0]) rfl rfl (by
  intro v hv
  simp only [List.mem_cons, List.not_mem_nil, or_false] at hv
  rcases hv with e | e | e | e | e <;> rw [e]
  ·exact h
  all_goals rfl)
 have hb := Kf rf h
 have g2 : (qc N ev rf co)[2]? = some rf := rfl
 have g4 : (qc N ev rf co)[4]? = some (.slice none 0 0) := rfl
 have g5 : (qc N ev rf co)[5]? = some (.slice none 0 0) := rfl
 have g6 : (qc N ev rf co)[6]? = some (.slice none 0 0) := rfl
 have g7 : (qc N ev rf co)[7]? = some (.slice none 0 0) := rfl
 simp [← hm1, l1, g2, g4, g5, g6, g7, hb, s1]
 have hl : loads m2 ⟨m.n + 1, 0, none⟩ 5 = some [rf, .slice none 0 0, .slice none 0 0, .slice none 0 0, .slice none 0 0] := (s2.get 0 rfl).2.2.loads (n := 5) (by simp)
 refine jU (Q := fun u _ => u = .agg ⟨[rf, .slice none 0 0, .slice none 0 0, .slice none 0 0, .slice none 0 0]⟩) (l := [.agg ⟨[rf, .slice none 0 0, .slice none 0 0, .slice none 0 0, .slice none 0 0]⟩]) ?_ s2.ext rfl
 simp [vG, jT, hl]
structure GV (m : M) (N : Nat) (x : GX) (ev rf co : Value) : Prop where
 ev : Rd m ev 5 qp x.EV
 rf : Rd m rf 2 qq x.RF
 co : ∃ sv : Nat → Value, Rd m co 1 (fun v => [v]) ((List.range x.CO.length).map sv) ∧ ∀ c l, x.CO[c]? = some l → Rd m (sv c) 1 wa l
theorem GV.sees {m m' : M} {N : Nat} {x : GX} {ev rf co : Value} (h : GV m N x ev rf co) (k : Sees m m') : GV m' N x ev rf co := by
 obtain ⟨sv, h1, h2⟩ := h.co
 exact ⟨h.ev.sees k, h.rf.sees k, sv, h1.sees k, fun c l hc => (h2 c l hc).sees k⟩
theorem eq_ev (r : EvR) : wT [1, 1, 1, 1, 1] (qp r) (qp r) = some true := by
 unfold qp; rw [zl, zl, zl, zl, zl, bU]
theorem BO (r : Nat × Nat) : wT [1, 1] (qq r) (qq r) = some true := by
 unfold qq; rw [zl, zl, bU]
end Go.Sx
namespace Go.Dx
noncomputable section
def Je (m : M) : Option (Value × M) := some (.map (some m.n), m.alloc (.map []))
def lkS (z : Value) (ok : Bool) (x k : Value) (m : M) : Option (Value × M) := bif isInt k then ob (mapOf m x) fun es => ob (jb k es) fun r => some (found z ok r, m) else none
def mupS (x k v : Value) (m : M) : Option (Value × M) := ob (vMap x) fun B => ob (gU (m.obj B)) fun es => ob (jz k v es) fun es' => some (undef, m.put B (.map es'))
@[simp] theorem mMkmap_ap (X : Ex) (t : Tm) (m : M) : yH X t m = Je m := _root_.id rfl
@[simp] theorem qa5 (z : Value) (ok : Bool) (x k : V) (X : Ex) (t : Tm) (m : M) : ja z ok x k X t m = lkS z ok (x t) (k t) m := _root_.id rfl
@[simp] theorem mMapup_ap (x k v : V) (X : Ex) (t : Tm) (m : M) : yG x k v X t m = mupS (x t) (k t) (v t) m := _root_.id rfl
theorem Ext.allocO (m : M) (o : zw) : Ext m (m.alloc o) := ⟨by rw [M.n_alloc]; omega, fun B hB => by rw [M.obj_alloc, if_neg (by omega)], M.base_alloc _ _, M.log_alloc _ _⟩
theorem Ext.putO {m0 m : M} (h : Ext m0 m) (hb : m0.base ≤ m0.n) {B : Nat} (hB : m0.n ≤ B) (o : zw) : Ext m0 (m.put B o) :=
 ⟨by rw [M.n_put]; exact h.n, fun X hX => by rw [M.obj_put, if_neg (by omega)]; exact h.obj X hX, by rw [M.base_put, h.base], by rw [zm (by rw [h.base]; omega), h.log]⟩
theorem Kw (a b : Int) : dj (.int .i64 a) (.int .i64 b) = some (decide (a = b)) := by
 show (bif Nat.beq (ik .i64) (ik .i64) then some (eqI a b) else none) = _
 rw [Nat.beq_refl, cond_true, xH]
 by_cases h : a = b <;> simp [h]
def mz (l : List (Int × Int)) : List (Value × Value) := l.map fun p => (.int .i64 p.1, .int .i64 p.2)
def fdL (k : Int) : List (Int × Int) → Option Int
 | [] => none
 | p :: l => if k = p.1 then some p.2 else fdL k l
def ptL (k v : Int) : List (Int × Int) → List (Int × Int)
 | [] => [(k, v)]
 | p :: l => if k = p.1 then (p.1, v) :: l else p :: ptL k v l
theorem Wk (k : Int) : ∀ l, jb (.int .i64 k) (mz l) = some ((fdL k l).map fun v => Value.int .i64 v)
 | [] => rfl
 | p :: l => by
  show ob (dj (.int .i64 k) (.int .i64 p.1)) _ = _
  rw [Kw, qI]
  by_cases h : k = p.1
  ·simp [fdL, h]
  ·simp only [decide_eq_false h, cond_false]
   show jb _ (mz l) = _
   rw [Wk k l]; simp [fdL, h]
theorem FZ (k v : Int) : ∀ l, jz (.int .i64 k) (.int .i64 v) (mz l) = some (mz (ptL k v l))
 | [] => rfl
 | p :: l => by
  show ob (dj (.int .i64 k) (.int .i64 p.1)) _ = _
  rw [Kw, qI]
  by_cases h : k = p.1
  ·simp [ptL, h, mz]
  ·simp only [decide_eq_false h, cond_false]
   show ob (jz _ _ (mz l)) _ = _
   rw [FZ k v l, qI]
   simp [ptL, h, mz]
theorem lk_mz {m : M} {B : Nat} {l : List (Int × Int)} (h : m.obj B = some (.map (mz l))) (k : Int) : lkS (.int .i64 0) false (.map (some B)) (.int .i64 k) m = some (.int .i64 ((fdL k l).getD 0), m) := by
 show ob (gU (m.obj B)) _ = _
 rw [h]
 show ob (jb (.int .i64 k) (mz l)) _ = _
 rw [Wk, qI]
 cases fdL k l <;> rfl
theorem lk_mz2 {m : M} {B : Nat} {l : List (Int × Int)} (h : m.obj B = some (.map (mz l))) (k : Int) : lkS (.int .i64 0) true (.map (some B)) (.int .i64 k) m = some (.tuple #[.int .i64 ((fdL k l).getD 0), .bool (fdL k l).isSome], m) := by
 show ob (gU (m.obj B)) _ = _
 rw [h]
 show ob (jb (.int .i64 k) (mz l)) _ = _
 rw [Wk, qI]
 cases fdL k l <;> rfl
theorem Wh {m : M} {B : Nat} {l : List (Int × Int)} (h : m.obj B = some (.map (mz l))) (k v : Int) : mupS (.map (some B)) (.int .i64 k) (.int .i64 v) m = some (undef, m.put B (.map (mz (ptL k v l)))) := by
 show ob (gU (m.obj B)) _ = _
 rw [h]
 show ob (jz (.int .i64 k) (.int .i64 v) (mz l)) _ = _
 rw [FZ, qI]
def rgL (k : Nat) (L : Nat → Int) : List (Int × Int) := (List.range k).map fun c : Nat => ((c : Int), L c)
theorem Xa (L : Nat → Int) (c : Nat) : ∀ (n a : Nat), fdL (c : Int) ((List.range' a n).map fun c : Nat => ((c : Int), L c)) = if a ≤ c ∧ c < a + n then some (L c) else none
 | 0, a => by rw [if_neg (by omega)]; rfl
 | n + 1, a => by
  rw [List.range'_succ, List.map_cons, fdL, Xa L c n (a + 1)]
  by_cases h : c = a
  ·subst h; simp
  ·rw [if_neg (by simp; omega)]
   by_cases h2 : a + 1 ≤ c ∧ c < a + 1 + n
   ·rw [if_pos h2, if_pos (by omega)]
   ·rw [if_neg h2, if_neg (by omega)]
theorem fd_rg (L : Nat → Int) (c k : Nat) : fdL (c : Int) (rgL k L) = if c < k then some (L c) else none := by
 unfold rgL
 rw [List.range_eq_range', Xa]
 simp
theorem Xv (L : Nat → Int) (c : Nat) (v : Int) : ∀ (n a : Nat), a ≤ c → c < a + n → ptL (c : Int) v ((List.range' a n).map fun c : Nat => ((c : Int), L c)) = (List.range' a n).map fun x : Nat => ((x : Int), if x = c then v else L x)
 | 0, a, h1, h2 => by omega
 | n + 1, a, h1, h2 => by
  rw [List.range'_succ, List.map_cons, ptL, List.map_cons]
  by_cases h : c = a
  ·subst h
   rw [if_pos (by simp)]
   simp only [if_true]
   congr 1
   refine List.map_congr_left fun x hx => ?_
   rw [List.mem_range'] at hx
   obtain ⟨i, hi, rfl⟩ := hx
   rw [if_neg (by omega)]
  ·rw [if_neg (by simp; omega), Xv L c v n (a + 1) (by omega) (by omega), if_neg (by omega)]
theorem Gz (L : Nat → Int) (v : Int) : ∀ (n a : Nat), ptL ((a + n : Nat) : Int) v ((List.range' a n).map fun c : Nat => ((c : Int), L c)) = ((List.range' a n).map fun c : Nat => ((c : Int), L c)) ++ [(((a + n : Nat) : Int), v)]
 | 0, a => rfl
 | n + 1, a => by
  rw [List.range'_succ, List.map_cons, ptL, if_neg (by simp; omega), show a + (n + 1) = a + 1 + n by omega, Gz L v n (a + 1)]
  rfl
theorem pt_rg (L : Nat → Int) {c k : Nat} (v : Int) (h : c < k) : ptL (c : Int) v (rgL k L) = rgL k fun x => if x = c then v else L x := by
 unfold rgL
 rw [List.range_eq_range', Xv L c v k 0 (Nat.zero_le _) (by omega)]
theorem VE (L : Nat → Int) (k : Nat) (v : Int) : ptL (k : Int) v (rgL k L) = rgL (k + 1) fun x => if x = k then v else L x := by
 unfold rgL
 rw [List.range_succ, List.map_append, List.map_singleton, List.range_eq_range']
 simp only [if_true]
 have := Gz L v k 0
 rw [Nat.zero_add] at this
 rw [this]
 congr 1
 refine List.map_congr_left fun x hx => ?_
 rw [List.mem_range'] at hx
 obtain ⟨i, hi, rfl⟩ := hx
 rw [if_neg (by omega)]
theorem fG {k : Nat} {L L' : Nat → Int} (h : ∀ c, c < k → L c = L' c) : rgL k L = rgL k L' := by
 unfold rgL
 refine List.map_congr_left fun x hx => ?_
 rw [h x (by simpa using hx)]
end
end Go.Dx
namespace Go.Sx
open Go.Dx Go.Proofs
set_option maxRecDepth 10000
theorem iver_i (n : Nat) (l : Value) (es : List Int) (hl : es.length ≤ 1000) (x : Int) (m : M) (hm : m.base ≤ m.n) (hed : Rd m l 1 modeRow es) :
  Dx.Call (ex Try.prog (n + 1)) 107 [l, iv x] m fun v m' => m' = m ∧ ∃ r : Int, v = iv r ∧ decide (r ≥ 0) = decide (x ∈ es) := by
 refine qE de0_ok (by simp) ?_
 have hel := hed.len
 simp [hel]
 refine qu (c := Fc) rfl (Ret m _) (fun i t m' => Tm.get 0 t = l ∧ Tm.get 1 t = iv x ∧ Tm.get 7 t = iv es.length ∧ Tm.get 8 t = iv i ∧ m' = m ∧ ∀ j, j < i → es[j]? ≠ some x) es.length (by omega)
  ⟨by simp, by simp, by simp, by simp, by simp, by simp⟩ (fun i t m' k hi hI hk => ?_)
 obtain ⟨h0, h1, h7, h8, rfl, hne⟩ := hI
 by_cases hil : i < es.length
 ·obtain ⟨e, he⟩ : ∃ e, es[i]? = some e := ⟨_, qaa hil⟩
  have ⟨a1, a2⟩ := Rd.at1 (g := fun (x : Int) => iv x) hed he
  have hd := dlt hil
  have w1 := qS (i := i) (by omega)
  by_cases hx : x = e
  ·subst hx
   simp [h0, h1, h7, h8, hd, a1, a2, Sees.refl hm]
   refine qX (Ext.refl _) ⟨rfl, i, by simp, ?_⟩
   simp [qab he]
  ·simp [h0, h1, h7, h8, hd, a1, a2, Sees.refl hm, hx, w1]
   refine hk hil _ _ ⟨by simp [h0], by simp [h1], by simp [h7], by simp, rfl, fun j hj => ?_⟩
   rcases Nat.lt_succ_iff_lt_or_eq.1 hj with h | rfl
   ·exact hne j h
   ·rw [he]; intro e2; cases e2; exact hx rfl
 obtain rfl : i = es.length := by omega
 simp [h7, h8]
 refine qX (Ext.refl _) ⟨rfl, -1, by simp, ?_⟩
 have : x ∉ es := fun hc => by
  obtain ⟨j, hj, e⟩ := List.getElem_of_mem hc
  exact hne j hj (by rw [qaa hj, e])
 simp [this]
theorem Zk (n : Nat) (l : Value) (es : List Int) (hl : es.length ≤ 1000) (x : Int) (m : M) (hm : m.base ≤ m.n) (hed : Rd m l 1 modeRow es) :
  CallV (ex Try.prog (n + 2)) 103 [l, iv x] m (.bool (decide (x ∈ es))) := by
 refine qE dd7_ok (by simp) ?_
 obtain ⟨v, m1, h1, h2, rfl, r, rfl, hr⟩ := iver_i n l es hl x m hm hed
 simp [h1]
 refine qX (Ext.refl _) ?_
 simp [← hr]
def vB (kind : Int) : List Int := if kind = 1 then [1, 2, 5] else if kind = 2 then [1, 3, 5] else if kind = 3 then [2, 3, 4, 5] else []
theorem rdB3 (m : M) (l : List Int) (n : Nat) (hn : l.length = n) : Rd (Dx.newRow m (l.map iv)) (.slice (some ⟨m.n, 0, some 3⟩) n n) 1 modeRow l := by
 have := jd (m := Dx.newRow m (l.flatMap modeRow)) (B := m.n) (c := 3) (f := modeRow) (fun _ => rfl) (l := l) (Arr.row m _) (by rw [qn]; omega)
 have e : l.flatMap modeRow = l.map iv := by
  clear this hn
  induction l with
  | nil => rfl
  | cons x l ih => rw [List.flatMap_cons, ih]; rfl
 rw [e, hn] at this
 exact this
@[simp] theorem bslice4 (m : M) (a b c d : Int) : kQ 1 4 (rep 4 [.int .i64 0]) [(0, 1, .int .i64 a), (1, 1, .int .i64 b), (2, 1, .int .i64 c), (3, 1, .int .i64 d)] m = some (.slice (some ⟨m.n, 0, some 3⟩) 4 4, Dx.newRow m [iv a, iv b, iv c, iv d]) := _root_.id rfl
theorem BU (n : Nat) (kind : Int) (hk : kind = 1 ∨ kind = 2 ∨ kind = 3) (m : M) (hm : m.base ≤ m.n) :
  Dx.Call (ex Try.prog (n + 1)) 104 [iv kind, .bool false] m fun v m' => Rd m' v 1 modeRow (vB kind) := by
 refine qE dd8_ok (by simp) ?_
 rcases hk with rfl | rfl | rfl
 ·simp
  exact qX (Ext.row m _) (by simp; exact rdB3 m [1, 2, 5] 3 rfl)
 ·simp
  exact qX (Ext.row m _) (by simp; exact rdB3 m [1, 3, 5] 3 rfl)
 ·simp
  exact qX (Ext.row m _) (by simp; exact rdB3 m [2, 3, 4, 5] 4 rfl)
def zP (N : Nat) (ev rf co nx : Value) : List Value := qc N ev rf co ++ [.bool false, nx]
structure LK (m : M) (L N : Nat) (ev rf co nx : Value) : Prop where
 lt : L < m.n
 ld : ∀ o s, load1 m ⟨L, o, s⟩ = (zP N ev rf co nx)[o]?
theorem LK.sees {m m' : M} {L N : Nat} {ev rf co nx : Value} (h : LK m L N ev rf co nx) (k : Sees m m') : LK m' L N ev rf co nx :=
 ⟨qaf h.lt k.n, fun o s => by rw [qv k h.lt]; exact h.ld o s⟩
def isK (EV : List EvR) (w : Nat) (kd : Int) : Bool := match EV[w]? with
 | some e => decide (e.kind = kd)
 | none => false
theorem is_c (n : Nat) {m : M} (hm : m.base ≤ m.n) {L N : Nat} {ev rf co nx : Value} {EV : List EvR} (h : LK m L N ev rf co nx) (hev : Rd m ev 5 qp EV) (hl : EV.length ≤ 1000) (w : Nat) (hw : w ≤ 100000) (kd : Int) :
  CallV (ex Try.prog (n + 1)) 105 [.pointer (some ⟨L, 0, none⟩), iv w, iv kd] m (.bool (isK EV w kd)) := by
 refine qE dd9_ok (by simp) ?_
 have hel := hev.len
 have l1 : load1 m ⟨L, 1, none⟩ = some ev := h.ld 1 none
 by_cases hil : w < EV.length
 ·obtain ⟨e, he⟩ : ∃ e, EV[w]? = some e := ⟨_, qaa hil⟩
  have ⟨a1, a2, a3⟩ := hev.at he
  have a3' : load1 m ⟨(adr 5 ev w).block, (adr 5 ev w).off + 1, none⟩ = some (iv e.kind) := by rw [a3 m 1 none (Sees.refl hm) (by simp [qp])]; rfl
  have hd := dlt hil
  simp [l1, hel, hd, a1, a3']
  exact qX (Ext.refl _) (by simp [isK, he])
 ·have hd : ((w : Int) < EV.length) = False := eq_false (by omega)
  have : EV[w]? = none := qav (by omega)
  simp [l1, hel, hd]
  exact qX (Ext.refl _) (by simp [isK, this])
end Go.Sx
namespace Go.Sx
open Go.Dx Go.Proofs
set_option maxRecDepth 10000
def nR (EV : List EvR) (i : Nat) : Nat := (EV.take i).countP fun e => decide (e.kind = 1)
def nW (EV : List EvR) (c : Nat) (i : Nat) : Nat := (EV.take i).countP fun e => decide (e.kind = 2 ∧ e.loc = (c : Int))
theorem take_at {α : Type} {l : List α} {i : Nat} {e : α} (h : l[i]? = some e) : l.take (i + 1) = l.take i ++ [e] := by
 rw [List.take_add_one, h]; rfl
theorem bh {EV : List EvR} {i : Nat} {e : EvR} (h : EV[i]? = some e) : nR EV (i + 1) = nR EV i + (if e.kind = 1 then 1 else 0) := by
 unfold nR
 rw [take_at h, List.countP_append, List.countP_singleton]
 simp
theorem fw {EV : List EvR} {c i : Nat} {e : EvR} (h : EV[i]? = some e) : nW EV c (i + 1) = nW EV c i + (if e.kind = 2 ∧ e.loc = (c : Int) then 1 else 0) := by
 unfold nW
 rw [take_at h, List.countP_append, List.countP_singleton]
 simp
theorem Ga (EV : List EvR) (i : Nat) : nR EV i ≤ i := by
 unfold nR
 exact qam List.countP_le_length (by simp; omega)
theorem KH (EV : List EvR) (c i : Nat) : nW EV c i ≤ i := by
 unfold nW
 exact qam List.countP_le_length (by simp; omega)
structure WFg (N : Nat) (EV : List EvR) (RF : List (Nat × Nat)) (CO : List (List Nat)) : Prop where
 n1 : N ≤ EV.length
 n2 : EV.length ≤ 256
 ini : ∀ i, i < N → EV[i]? = some ⟨-1, 2, (i : Int), 0, 1⟩
 evs : ∀ i e, N ≤ i → EV[i]? = some e → 0 ≤ e.th ∧ e.th < 64 ∧ (e.kind = 1 ∨ e.kind = 2 ∨ e.kind = 3) ∧ e.mode ∈ vB e.kind ∧ (e.kind = 3 → e.loc = -1 ∧ e.val = 0) ∧ (e.kind ≠ 3 → ∃ l : Nat, e.loc = (l : Int) ∧ l < N)
 rfs : ∀ i e, EV[i]? = some e → e.kind = 1 → ∃ w ew, RF[nR EV i]? = some (w, i) ∧ EV[w]? = some ew ∧ ew.kind = 2 ∧ ew.loc = e.loc ∧ ew.val = e.val
 rfn : RF.length = nR EV EV.length
 con : CO.length = N
 coh : ∀ (c : Nat) (l : List Nat), CO[c]? = some l → l[0]? = some c ∧ l.Nodup ∧ (∀ w ∈ l, ∃ e, EV[w]? = some e ∧ e.kind = 2 ∧ e.loc = (c : Int)) ∧ l.length = nW EV c EV.length
section
variable {m : M} {L N : Nat} {ev rf co nx : Value} {EV : List EvR} {RF : List (Nat × Nat)} {CO : List (List Nat)}
theorem rmw_c (n : Nat) (hm : m.base ≤ m.n) (h : LK m L N ev rf co nx) : CallV (ex Try.prog (n + 1)) 99 [.pointer (some ⟨L, 0, none⟩)] m (iv (-1)) := by
 refine qE dd3_ok (by simp) ?_
 have l4 : load1 m ⟨L, 4, none⟩ = some (.slice none 0 0) := h.ld 4 none
 have hln : zZ (.slice none 0 0) = some (iv 0) := rfl
 simp [l4, hln]
 refine qu (c := YY) rfl (Ret m _) (fun i t m' => Tm.get 10 t = iv 0 ∧ Tm.get 11 t = iv 0 ∧ m' = m) 0 (by omega) ⟨by simp, by simp, rfl⟩ (fun i t m' k hi hI hk => ?_)
 obtain ⟨h0, h1, rfl⟩ := hI
 simp [h0, h1]
 exact qX (Ext.refl _) (by simp)
theorem ZR (n : Nat) (kv : Value) (hm : m.base ≤ m.n) (h : LK m L N ev rf co nx) : CallV (ex Try.prog (n + 1)) 100 [.pointer (some ⟨L, 0, none⟩), .slice none 0 0, kv] m (iv (-1)) := by
 refine qE dd4_ok (by simp) ?_
 have hln : zZ (.slice none 0 0) = some (iv 0) := rfl
 simp [hln]
 refine qu (c := YZ) rfl (Ret m _) (fun i t m' => Tm.get 10 t = iv 0 ∧ Tm.get 11 t = iv 0 ∧ m' = m) 0 (by omega) ⟨by simp, by simp, rfl⟩ (fun i t m' k hi hI hk => ?_)
 obtain ⟨h0, h1, rfl⟩ := hI
 simp [h0, h1]
 exact qX (Ext.refl _) (by simp)
abbrev Vc : List Value := [.int .i64 0, .int .i64 0, .int .i64 0, .int .u64 0, .int .i64 0]
theorem rf_c (n : Nat) (hm : m.base ≤ m.n) (h : LK m L N ev rf co nx) (hev : Rd m ev 5 qp EV) (hrf : Rd m rf 2 qq RF) (wf : WFg N EV RF CO) : CallV (ex Try.prog (n + 2)) 97 [.pointer (some ⟨L, 0, none⟩)] m (iv (-1)) := by
 refine qE dd1_ok (by simp) ?_
 have l1 : load1 m ⟨L, 1, none⟩ = some ev := h.ld 1 none
 have hel := hev.len
 have hrl := hrf.len
 have hn2 := wf.n2
 simp [l1, hel]
 refine qu (c := YV) rfl (Ret m _) (fun i t m' => Tm.get 0 t = .pointer (some ⟨L, 0, none⟩) ∧ Tm.get 3 t = iv (nR EV i) ∧ Tm.get 11 t = ev ∧ Tm.get 12 t = iv EV.length ∧ Tm.get 13 t = iv i ∧ Ext m m') EV.length (by omega)
  ⟨by simp, by simp [nR], by simp, by simp, by simp, Ext.refl _⟩ (fun i t m' k hi hI hk => ?_)
 obtain ⟨h0, h3, h11, h12, h13, hE⟩ := hI
 have hS := (Sees.refl hm).ext hE
 have L' := h.sees hS
 have k2 : load1 m' ⟨L, 2, none⟩ = some rf := L'.ld 2 none
 have hnr := Ga EV i
 by_cases hil : i < EV.length
 ·obtain ⟨e, he⟩ : ∃ e, EV[i]? = some e := ⟨_, qaa hil⟩
  have ⟨a1, a2, a3⟩ := (hev.sees hS).at he
  have a2' : loads m' (adr 5 ev i) 5 = some (qp e) := a2 m' hS.self
  have hd := dlt hil
  have w1 := qS (i := i) (by omega)
  obtain ⟨m2, s1, s2, s3, s4, s5⟩ := wJ (m := m') hS.base (zs := Vc) (l := qp e) (v := .agg ⟨qp e⟩) (n := 5) rfl rfl rfl (kS e)
  have s1' : qO 5 (.pointer (some ⟨m'.n, 0, none⟩)) (.agg ⟨qp e⟩) (Dx.newRow m' [.int .i64 0, .int .i64 0, .int .i64 0, .int .u64 0, .int .i64 0]) = some (undef, m2) := s1
  have b1 : load1 m2 ⟨m'.n, 1, none⟩ = some (iv e.kind) := by rw [s2]; rfl
  have hns := bh he
  by_cases hk1 : e.kind = 1
  ·rw [if_pos hk1] at hns
   obtain ⟨w, ew, q1, q2, q3, q4, q5⟩ := wf.rfs i e he hk1
   have hrlt := (qac.1 q1).1
   have hE2 : Ext m m2 := hE.trans s4
   have hS2 := (Sees.refl hm).ext hE2
   have L2 := h.sees hS2
   have r2 : load1 m2 ⟨L, 2, none⟩ = some rf := L2.ld 2 none
   have r1 : load1 m2 ⟨L, 1, none⟩ = some ev := L2.ld 1 none
   have ⟨p1, p2, p3⟩ := (hrf.sees hS2).at q1
   have p30 : load1 m2 ⟨(adr 2 rf (nR EV i)).block, (adr 2 rf (nR EV i)).off, none⟩ = some (iv w) := by have := p3 m2 0 none hS2.self (by simp [qq]); exact this
   have p31 : load1 m2 ⟨(adr 2 rf (nR EV i)).block, (adr 2 rf (nR EV i)).off + 1, none⟩ = some (iv i) := by rw [p3 m2 1 none hS2.self (by simp [qq])]; rfl
   have hd2 : ((nR EV i : Int) = RF.length) = False := eq_false (by omega)
   have hwl := (qac.1 q2).1
   have c1 := is_c n hS2.base L2 (hev.sees hS2) (by omega) w (by omega) 2
   have hik : isK EV w 2 = true := by simp [isK, q2, q3]
   rw [hik] at c1
   obtain ⟨v3, m3, c2, c3, rfl⟩ := c1
   have hE3 : Ext m m3 := hE2.trans c3
   have hS3 := (Sees.refl hm).ext hE3
   have L3 := h.sees hS3
   have u2 : load1 m3 ⟨L, 2, none⟩ = some rf := L3.ld 2 none
   have u1 : load1 m3 ⟨L, 1, none⟩ = some ev := L3.ld 1 none
   have p30' : load1 m3 ⟨(adr 2 rf (nR EV i)).block, (adr 2 rf (nR EV i)).off, none⟩ = some (iv w) := by have := ((hrf.sees hS3).at q1).2.2 m3 0 none hS3.self (by simp [qq]); exact this
   have ⟨g1, g2, g3⟩ := (hev.sees hS3).at q2
   have g2' : loads m3 (adr 5 ev w) 5 = some (qp ew) := g2 m3 hS3.self
   have st3 := (St.nil hS3.base (Ext.refl m3)).row Vc
   obtain ⟨m4, t1, t2, t3, t4, t5⟩ := st3.fillAny 0 rfl (n := 5) (l' := qp ew) (by omega) rfl rfl (kS ew)
   have t1' : qO 5 (.pointer (some ⟨m3.n, 0, none⟩)) (.agg ⟨qp ew⟩) (qh (Dx.newRow m3 [.int .i64 0, .int .i64 0, .int .i64 0, .int .u64 0, .int .i64 0])) = some (undef, m4) := t1
   simp [h0, h3, h11, h12, h13, hd, a1, ql, a2', s1', b1, hk1, r2, r1, hrl, hd2, p1, p31, p30, c2, u1, u2, p30', g1, g2', t1', t2, FP.meet, Jd, -fq]
   obtain ⟨m5, hm5⟩ := qay (behind (Dx.newRow m3 Vc) m4)
   have t3' : St m3 m5 [(m3.n, qp ew)] := by rw [hm5]; exact t3
   have E5 : Ext m m5 := hE3.trans t3'.ext
   have S25 : Sees m2 m5 := (Sees.refl hS2.base).ext (c3.trans t3'.ext)
   have v2 : load1 m5 ⟨m3.n, 2, none⟩ = some (iv ew.loc) := (t3'.get 0 rfl).2.2.load1 2 none
   have v3 : load1 m5 ⟨m3.n, 3, none⟩ = some (.int .u64 ew.val) := (t3'.get 0 rfl).2.2.load1 3 none
   have v4 : load1 m5 ⟨m'.n, 2, none⟩ = some (iv e.loc) := by rw [qv S25 s5, s2]; rfl
   have v5 : load1 m5 ⟨m'.n, 3, none⟩ = some (.int .u64 e.val) := by rw [qv S25 s5, s2]; rfl
   rw [← hm5]
   have w2 := qS (i := nR EV i) (by omega)
   simp [v2, v3, v4, v5, q4, q5, h3, w2, h13, w1, meets, FP.meet]
   exact hk hil _ _ ⟨by simp [h0], by simp [hns], by simp [h11], by simp [h12], by simp, E5⟩
  ·rw [if_neg hk1, Nat.add_zero] at hns
   simp [h0, h3, h11, h12, h13, hd, a1, ql, a2', s1', b1, hk1, w1]
   exact hk hil _ _ ⟨by simp [h0], by simp [hns, h3], by simp [h11], by simp [h12], by simp, hE.trans s4⟩
 obtain rfl : i = EV.length := by omega
 have hd2 : ((nR EV EV.length : Int) < RF.length) = False := eq_false (by have := wf.rfn; omega)
 simp [h0, h3, h11, h12, h13, k2, hrl, hd2]
 exact qX hE (by simp)
theorem Fv (n : Nat) (hm : m.base ≤ m.n) (h : LK m L N ev rf co nx) (hev : Rd m ev 5 qp EV) (wf : WFg N EV RF CO) : CallV (ex Try.prog (n + 3)) 96 [.pointer (some ⟨L, 0, none⟩)] m (iv (-1)) := by
 refine qE dd0_ok (by simp) ?_
 have l0 : load1 m ⟨L, 0, none⟩ = some (iv N) := h.ld 0 none
 have hel := hev.len
 have hn2 := wf.n2
 have hn1 := wf.n1
 simp [l0]
 refine qu (c := YU) rfl (Ret m _) (fun i t m' => Tm.get 0 t = .pointer (some ⟨L, 0, none⟩) ∧ Tm.get 3 t = iv (N + i : Nat) ∧ Ext m m') (EV.length - N) (by omega)
  ⟨by simp, by simp, Ext.refl _⟩ (fun i t m' k hi hI hk => ?_)
 obtain ⟨h0, h3, hE⟩ := hI
 obtain ⟨z, hz⟩ := qay (N + i)
 rw [← hz] at h3
 have hS := (Sees.refl hm).ext hE
 have L' := h.sees hS
 have k1 : load1 m' ⟨L, 1, none⟩ = some ev := L'.ld 1 none
 by_cases hil : z < EV.length
 ·obtain ⟨e, he⟩ : ∃ e, EV[z]? = some e := ⟨_, qaa hil⟩
  obtain ⟨o1, o2, o3, o4, o5, o6⟩ := wf.evs z e (by omega) he
  have ⟨a1, a2, a3⟩ := (hev.sees hS).at he
  have a2' : loads m' (adr 5 ev z) 5 = some (qp e) := a2 m' hS.self
  have hd := dlt hil
  have w1 := qS (i := z) (by omega)
  obtain ⟨m2, s1, s2, s3, s4, s5⟩ := wJ (m := m') hS.base (zs := Vc) (l := qp e) (v := .agg ⟨qp e⟩) (n := 5) rfl rfl rfl (kS e)
  have hE2 : Ext m m2 := hE.trans s4
  have hS2 := (Sees.refl hm).ext hE2
  have L2 := h.sees hS2
  have b0 : load1 m2 ⟨m'.n, 0, none⟩ = some (iv e.th) := by rw [s2]; rfl
  have b1 : load1 m2 ⟨m'.n, 1, none⟩ = some (iv e.kind) := by rw [s2]; rfl
  have b8 : load1 m2 ⟨L, 8, none⟩ = some (.bool false) := L2.ld 8 none
  obtain ⟨v3, m3, c1, c2, c3⟩ := BU (n + 1) e.kind o3 (qh m2) (by simp; rw [wI]; exact qad _)
  have c4 : Ext m2 (behind m2 m3) := c2.behind
  obtain ⟨M3, hM3⟩ := qay (behind m2 m3)
  have hS3 : Sees m2 M3 := (Sees.refl hS2.base).ext (by rw [hM3]; exact c4)
  have d4 : load1 M3 ⟨m'.n, 4, none⟩ = some (iv e.mode) := by rw [qv hS3 s5, s2]; rfl
  have d4' : load1 m3 ⟨m'.n, 4, none⟩ = some (iv e.mode) := by rw [hM3] at d4; simpa using d4
  simp [h0, h3, k1, hel, hd, a1, ql, a2', s1, b0, b1, b8, o1, o2, c1, d4', c2.log, meets, FP.meet, FP.clear]
  have hb4 : (qh (behind m2 m3)).base ≤ (qh (behind m2 m3)).n := by rw [wI, qz]; exact qad _
  have r4 : Rd (qh (behind m2 m3)) v3 1 modeRow (vB e.kind) := c3.congr (by rw [qz, qV]; exact qad _) fun X _ => by rw [qw, qA]
  obtain ⟨v4, m4, f1, f2, rfl⟩ := Zk n v3 (vB e.kind) (by unfold vB; split <;> (try split) <;> (try split) <;> simp) e.mode _ hb4 r4
  rw [decide_eq_true o4] at f1
  obtain ⟨m6, hm6⟩ := qay (behind (behind m2 m3) m4)
  have E6 : Ext m2 m6 := by rw [hm6]; exact c4.trans f2.behind
  have hS6 : Sees m2 m6 := (Sees.refl hS2.base).ext E6
  have HE6 : Ext m m6 := hE2.trans E6
  have L6 := h.sees ((Sees.refl hm).ext HE6)
  have y0 : load1 m6 ⟨L, 0, none⟩ = some (iv N) := L6.ld 0 none
  have y1 : load1 m6 ⟨m'.n, 1, none⟩ = some (iv e.kind) := by rw [qv hS6 s5, s2]; rfl
  have y2 : load1 m6 ⟨m'.n, 2, none⟩ = some (iv e.loc) := by rw [qv hS6 s5, s2]; rfl
  have y3 : load1 m6 ⟨m'.n, 3, none⟩ = some (.int .u64 e.val) := by rw [qv hS6 s5, s2]; rfl
  have y1' : load1 m4 ⟨m'.n, 1, none⟩ = some (iv e.kind) := by rw [hm6] at y1; simpa using y1
  simp [f1, f2.log, meets]
  rw [← hm6]
  have hlt : i < EV.length - N := by rw [hz] at hil; omega
  have w3 : ((z : Int) + 1) = ((N + (i + 1) : Nat) : Int) := by rw [hz]; omega
  by_cases hk3 : e.kind = 3
  ·obtain ⟨g1, g2⟩ := o5 hk3
   simp [y1', hk3, y2, y3, g1, g2, h3, w1]
   refine hk hlt _ _ ?_
   exact ⟨by simp [h0], by simp; exact w3, HE6⟩
  ·obtain ⟨l, g1, g2⟩ := o6 hk3
   have g3 : ((l : Int) < N) = True := eq_true (Int.ofNat_lt.2 g2)
   simp [y1', hk3, y2, y3, g1, g3, h0, y0, h3, w1, meets, FP.meet, FP.clear]
   refine hk hlt _ _ ?_
   exact ⟨by simp [h0], by simp; exact w3, HE6⟩
 have : z = EV.length := by omega
 simp [h0, h3, k1, hel, this]
 exact qX hE (by simp)
end
end Go.Sx
namespace Go.Dx
@[simp] theorem pSlice_h (e : Nat) (x b : V) (t : Tm) : xR e x none (some b) none t = slV e none (some (b t)) none (x t) := by
 unfold xR WG slV
 cases x t with
 | slice a l c => cases a <;> rfl
 | _ => rfl
section
variable {α : Type} {m0 m : M} {σ : List (Nat × List Value)} {v : Value} {e : Nat} {f : α → List Value} {es : List α}
end
end Go.Dx
namespace Go.Sx
open Go.Dx Go.Proofs
end Go.Sx
namespace Go.Dx
theorem Qh {c : C} : ∀ {a b o : Nat} {l : List Value}, ldn c o (a + b) = some l → ldn c o a = some (l.take a) ∧ ldn c (o + a) b = some (l.drop a)
 | 0, b, o, l, h => by rw [Nat.zero_add] at h; exact ⟨rfl, h⟩
 | a + 1, b, o, l, h => by
  rw [show a + 1 + b = a + b + 1 by omega, jx] at h
  obtain ⟨v, hv, h⟩ := qa h
  obtain ⟨t, ht, h⟩ := qa h
  have hl : l = v :: t := by unfold JV at h; cases h; rfl
  subst hl
  obtain ⟨h1, h2⟩ := Qh ht
  refine ⟨?_, ?_⟩
  ·rw [jx, hv]; show ob (ldn c (o + 1) a) _ = _; rw [h1]; rfl
  ·rw [show o + (a + 1) = o + 1 + a by omega, h2]; rfl
theorem gL {m : M} {B o a b : Nat} {s : Option Nat} {l : List Value} (h : loads m ⟨B, o, s⟩ (a + b) = some l) : loads m ⟨B, o, s⟩ a = some (l.take a) ∧ loads m ⟨B, o + a, s⟩ b = some (l.drop a) := by
 unfold loads at h ⊢
 obtain ⟨c, hc, h⟩ := qa h
 simp only at hc
 rw [hc]
 exact Qh h
section
variable {α : Type} {m : M} {v : Value} {e : Nat} {f : α → List Value} {l : List α}
theorem Rd.drop (h : Rd m v e f l) (hs : Sp e v) (hf : ∀ x, (f x).length = e) {k : Nat} (hk : k ≤ l.length) : ∃ a n c, slV e (some (.int .i64 (k : Int))) none none v = some (.slice a n c) ∧ Rd m (.slice a n c) e f (l.drop k) := by
 rcases hs with rfl | ⟨B, o, n, c, x, rfl, hnc⟩
 ·have hl : l.length = 0 := by have := h.len; simp [zZ] at this; omega
  have hk0 : k = 0 := by omega
  have hl' : l = [] := qar hl
  subst hk0; subst hl'
  exact ⟨none, 0, 0, rfl, h⟩
 ·have hn : n = l.length := by have := h.len; simp [zZ] at this; omega
  have hdl : (l.drop k).length = n - k := by rw [List.length_drop, hn]
  have hfl := wY hf l
  have hall : loads m ⟨B, o, some (code e x)⟩ (l.length * e) = some (l.flatMap f) := h.all
  have hsplit : l.length * e = k * e + (l.drop k).length * e := by rw [hdl, hn, ← Nat.add_mul]; congr 1; omega
  have hdrop : (l.flatMap f).drop (k * e) = (l.drop k).flatMap f := by
   have hl2 : l = l.take k ++ l.drop k := (List.take_append_drop k l).symm
   have hlt := wY hf (l.take k)
   rw [List.length_take, Nat.min_eq_left hk] at hlt
   conv => lhs; rw [hl2, List.flatMap_append]
   rw [List.drop_append_of_le_length (by omega), ← hlt, List.drop_length, List.nil_append]
  rw [hsplit] at hall
  obtain ⟨h1, h2⟩ := gL hall
  rw [hdrop] at h2
  have hb : gY n c (some (.int .i64 (k : Int))) none none = some (k, n, c) := by
   show ob (bL (some (.int .i64 (k : Int))) 0 n) _ = _
   show ob (bif Nat.ble k n then some k else none) _ = _
   rw [qai (by omega)]; rfl
  have hcd : Nat.beq (code e x / 2) e = true := by
   have : code e x / 2 = e := by
    cases x
    ·show (2 * e) / 2 = e; omega
    ·show (2 * e + 1) / 2 = e; omega
   rw [this, Nat.beq_refl]
  have hex : vh (code e x) = x := by
   cases x
   ·show Nat.beq ((2 * e) % 2) 1 = false
    rw [show (2 * e) % 2 = 0 by omega]; rfl
   ·show Nat.beq ((2 * e + 1) % 2) 1 = true
    rw [show (2 * e + 1) % 2 = 1 by omega]; rfl
  have hsl : slV e (some (.int .i64 (k : Int))) none none (.slice (some ⟨B, o, some (code e x)⟩) n c) = some (.slice (some ⟨B, bif x && Nat.beq c k then o else o + k * e, some (code e x)⟩) (n - k) (c - k)) := by
   unfold slV
   simp only [qI, hb, hcd, hex, Option.isSome_none, Bool.or_false]
   rfl
  refine ⟨_, _, _, hsl, ⟨by rw [hdl]; rfl, fun i r hr => ?_, ?_, fun C hC => by cases hC; exact h.lt _ rfl⟩⟩
  ·have hi : i < (l.drop k).length := (qac.1 hr).1
   rw [List.getElem?_drop] at hr
   have hck : (x && Nat.beq c k) = false := by
    cases q : Nat.beq c k with
    | false => simp
    | true => have := qan q; omega
   rw [hck]
   obtain ⟨g1, g2, g3⟩ := h.row (k + i) r hr
   refine ⟨?_, g2, ?_⟩
   ·show (bif Nat.blt i (n - k) then fP (i * e) _ else none) = _
    rw [show Nat.blt i (n - k) = true from qai (by omega)]; rfl
   ·have e1 : adr e (.slice (some ⟨B, o, some (code e x)⟩) n c) (k + i) = ⟨B, o + (k + i) * e, none⟩ := rfl
    have e2 : adr e (.slice (some ⟨B, bif false then o else o + k * e, some (code e x)⟩) (n - k) (c - k)) i = ⟨B, o + k * e + i * e, none⟩ := rfl
    rw [e1] at g3
    rw [e2, ← g3, Nat.add_mul, Nat.add_assoc]
  ·show loads m ⟨B, bif x && Nat.beq c k then o else o + k * e, some (code e x)⟩ ((l.drop k).length * e) = _
   cases q : (x && Nat.beq c k) with
   | false => exact h2
   | true =>
    rw [qag] at q
    have := qan q.2
    have h0 : l.drop k = [] := List.drop_eq_nil_of_le (by omega)
    rw [h0] at h2 ⊢
    unfold loads at h1 ⊢
    obtain ⟨cc, hcc, _⟩ := qa h1
    simp only at hcc
    show ob (cellsOf m B) _ = _
    rw [hcc]
    show ldn cc _ (0 * e) = _
    rw [Nat.zero_mul]; rfl
theorem Rd.take (h : Rd m v e f l) (hs : Sp e v) (hf : ∀ x, (f x).length = e) {k : Nat} (hk : k ≤ l.length) : ∃ a n c, slV e none (some (.int .i64 (k : Int))) none v = some (.slice a n c) ∧ Rd m (.slice a n c) e f (l.take k) := by
 rcases hs with rfl | ⟨B, o, n, c, x, rfl, hnc⟩
 ·have hl : l.length = 0 := by have := h.len; simp [zZ] at this; omega
  have hk0 : k = 0 := by omega
  have hl' : l = [] := qar hl
  subst hk0; subst hl'
  exact ⟨none, 0, 0, rfl, h⟩
 ·have hn : n = l.length := by have := h.len; simp [zZ] at this; omega
  have htl : (l.take k).length = k := by rw [List.length_take, Nat.min_eq_left hk]
  have hall : loads m ⟨B, o, some (code e x)⟩ (l.length * e) = some (l.flatMap f) := h.all
  have hsplit : l.length * e = k * e + (l.length - k) * e := by rw [← Nat.add_mul]; congr 1; omega
  have htake : (l.flatMap f).take (k * e) = (l.take k).flatMap f := by
   have hl2 : l = l.take k ++ l.drop k := (List.take_append_drop k l).symm
   have hlt := wY hf (l.take k)
   rw [htl] at hlt
   conv => lhs; rw [hl2, List.flatMap_append]
   rw [List.take_append_of_le_length (by omega), ← hlt, List.take_length]
  rw [hsplit] at hall
  obtain ⟨h1, h2⟩ := gL hall
  rw [htake] at h1
  have hcd : Nat.beq (code e x / 2) e = true := by
   have : code e x / 2 = e := by
    cases x
    ·show (2 * e) / 2 = e; omega
    ·show (2 * e + 1) / 2 = e; omega
   rw [this, Nat.beq_refl]
  have hex : vh (code e x) = x := by
   cases x
   ·show Nat.beq ((2 * e) % 2) 1 = false
    rw [show (2 * e) % 2 = 0 by omega]; rfl
   ·show Nat.beq ((2 * e + 1) % 2) 1 = true
    rw [show (2 * e + 1) % 2 = 1 by omega]; rfl
  have hb : gY n c none (some (.int .i64 (k : Int))) none = some (0, k, c) := by
   show ob (bL (some (.int .i64 (k : Int))) n c) _ = _
   show ob (bif Nat.ble k c then some k else none) _ = _
   rw [qai (by omega)]; rfl
  have hoff : (bif x && Nat.beq c 0 then o else o + 0 * e) = o := by cases (x && Nat.beq c 0) <;> simp
  have hsl : slV e none (some (.int .i64 (k : Int))) none (.slice (some ⟨B, o, some (code e x)⟩) n c) = some (.slice (some ⟨B, o, some (code e x)⟩) k c) := by
   unfold slV
   simp only [qI, hb, hcd, hex, Option.isSome_none, Bool.or_false]
   show some (Value.slice (some ⟨B, bif x && Nat.beq c 0 then o else o + 0 * e, some (code e x)⟩) (k - 0) (c - 0)) = _
   rw [hoff]; rfl
  refine ⟨_, _, _, hsl, ⟨by rw [htl]; rfl, fun i r hr => ?_, ?_, fun C hC => by cases hC; exact h.lt _ rfl⟩⟩
  ·have hi : i < (l.take k).length := (qac.1 hr).1
   rw [htl] at hi
   rw [List.getElem?_take, if_pos hi] at hr
   obtain ⟨g1, g2, g3⟩ := h.row i r hr
   refine ⟨?_, g2, g3⟩
   show (bif Nat.blt i k then fP (i * e) _ else none) = _
   rw [show Nat.blt i k = true from qai hi]; rfl
  ·show loads m ⟨B, o, some (code e x)⟩ ((l.take k).length * e) = _
   rw [htl]; exact h1
end
end Go.Dx
namespace Go.Sx
open Go.Dx Go.Proofs
end Go.Sx
namespace Go.Sx
open Go.Dx Go.Proofs
set_option maxRecDepth 10000
def vm (l : List Bool) : List Value := l.map Value.bool
theorem FX {n : Nat} (h : n ≤ 1000) (m : M) : vA 1 1 [.bool false] (.int .i64 (n : Int)) (.int .i64 (n : Int)) m = some (.slice (some ⟨m.n, 0, some 3⟩) n n, Dx.newRow m (vm (List.replicate n false))) := by
 have hr : ∀ n, rep n [Value.bool false] = vm (List.replicate n false) := by
  intro n
  unfold vm
  induction n with
  | zero => rfl
  | succ n ih => unfold rep; rw [ih, List.replicate_succ]; rfl
 show (bif Nat.ble n n && Nat.ble (n * 1) most && Nat.ble n 4611686018427387904 && Nat.ble (n * 1) 1048576 then some (Value.slice (some ⟨m.n, 0, some (code 1 true)⟩) n n, Dx.newRow m (rep n [.bool false])) else none) = _
 rw [qai (qad n), qai (by unfold most; omega), qai (by omega), qai (by omega), hr]
 rfl
structure CoI (m m' : M) (MB SB N : Nat) (Lm : Nat → Int) (bl : List Bool) : Prop where
 st : St m m' [(SB, vm bl)]
 mb : m.n ≤ MB
 lt : MB < m'.n
 ne : MB ≠ SB
 mp : m'.obj MB = some (.map (mz (rgL N Lm)))
section
variable {m m' : M} {MB SB N : Nat} {Lm : Nat → Int} {bl : List Bool}
theorem CoI.step (h : CoI m m' MB SB N Lm bl) {m2 : M} (e : Ext m' m2) : CoI m m2 MB SB N Lm bl :=
 ⟨h.st.step e, h.mb, qaf h.lt e.n, h.ne, by rw [e.obj MB h.lt]; exact h.mp⟩
theorem CoI.mset (h : CoI m m' MB SB N Lm bl) {c : Nat} (hc : c < N) (v : Int) : CoI m (m'.put MB (.map (mz (ptL (c : Int) v (rgL N Lm))))) MB SB N (fun x => if x = c then v else Lm x) bl := by
 refine ⟨⟨h.st.ext.putO h.st.base h.mb _, h.st.base, fun p hp => ?_, h.st.nd⟩, h.mb, by rw [M.n_put]; exact h.lt, h.ne, by rw [M.obj_put, if_pos rfl, pt_rg Lm v hc]⟩
 obtain ⟨h1, h2, h3⟩ := h.st.arr p hp
 refine ⟨h1, by rw [M.n_put]; exact h2, h3.congr ?_⟩
 rw [M.obj_put, if_neg]
 simp at hp
 rw [hp]
 exact fun e => h.ne e.symm
theorem CoI.sset (h : CoI m m' MB SB N Lm bl) {i : Nat} (hi : i < bl.length) : ∃ m2, qO 1 (.pointer (some ⟨SB, i, none⟩)) (.bool true) m' = some (undef, m2) ∧ CoI m m2 MB SB N Lm (bl.set i true) := by
 obtain ⟨m2, h1, h2, h3, h4⟩ := h.st.store 0 rfl (o := i) (v := .bool true) (by simp [vm]; exact hi) rfl
 have e : (vm bl).set i (.bool true) = vm (bl.set i true) := by unfold vm; rw [List.map_set]
 rw [e] at h2
 exact ⟨m2, h1, h2, h.mb, by rw [h3]; exact h.lt, h.ne, by rw [h4 MB h.ne]; exact h.mp⟩
theorem CoI.sget (h : CoI m m' MB SB N Lm bl) {i : Nat} {b : Bool} (hi : bl[i]? = some b) (s : Option Nat) : load1 m' ⟨SB, i, s⟩ = some (.bool b) := by
 rw [(h.st.get 0 rfl).2.2.load1 i s]
 unfold vm
 rw [qaq, hi]; rfl
end
section
variable {m : M} {L N : Nat} {ev rf co nx : Value} {EV : List EvR} {RF : List (Nat × Nat)} {CO : List (List Nat)}
structure CoT (t : Tm) (L MB SB n N c k : Nat) (cv : Value) : Prop where
 h0 : Tm.get 0 t = .pointer (some ⟨L, 0, none⟩)
 h3 : Tm.get 3 t = .map (some MB)
 h6 : Tm.get 6 t = .slice (some ⟨SB, 0, some 3⟩) n n
 h7 : Tm.get 7 t = iv N
 h8 : Tm.get 8 t = iv N
 h9 : Tm.get 9 t = iv c
 h62 : Tm.get 62 t = cv
 h63 : Tm.get 63 t = iv N
 h64 : Tm.get 64 t = iv k
theorem co_in (n : Nat) (hm : m.base ≤ m.n) (h : LK m L N ev rf co nx) (hev : Rd m ev 5 qp EV) (wf : WFg N EV RF CO) {c : Nat} {l : List Nat} (hc : CO[c]? = some l) (hcN : c < N) {sc : Value} (hsc : Rd m sc 1 wa l) {MB SB : Nat} {m' : M} {Lm : Nat → Int} {bl : List Bool}
  (hI : CoI m m' MB SB N Lm bl) (hbl : bl.length = EV.length) (hnl : Lm c = (l.length : Int)) (hfr : ∀ w ∈ l, bl[w]? = some false) {t : Tm} {k0 : Nat} {cv : Value} (hT : CoT t L MB SB EV.length N c k0 cv) (h10 : Tm.get 10 t = sc) (h11 : Tm.get 11 t = .bool true) {kn kr : K} {ke : Nat → K} {Q : Option Out → Prop}
  (H : ∀ t' m2 bl', CoI m m2 MB SB N (fun x => if x = c then 0 else Lm x) bl' → bl'.length = EV.length → (∀ w, w ∉ l → bl'[w]? = bl[w]?) → CoT t' L MB SB EV.length N c k0 cv → Tm.get 11 t' = .bool true → Q (kn t' m2)) : Q (ZO (ex Try.prog (n + 1)) kn ke kr t m') := by
 have hn2 := wf.n2
 obtain ⟨w1, w2, w3, w4⟩ := wf.coh c l hc
 have hll : l.length ≤ 256 := by rw [w4]; exact qam (KH _ _ _) hn2
 have hlen := hsc.len
 simp [h10, hlen]
 refine qu (c := YW) rfl Q (fun i t m2 => ∃ bl', CoI m m2 MB SB N (fun x => if x = c then (l.length : Int) - i else Lm x) bl' ∧ bl'.length = EV.length ∧ (∀ w, w ∉ l.take i → bl'[w]? = bl[w]?) ∧ CoT t L MB SB EV.length N c k0 cv ∧ Tm.get 11 t = .bool true ∧ Tm.get 79 t = sc ∧ Tm.get 80 t = iv l.length ∧ Tm.get 81 t = iv i) l.length (by omega) ?_ (fun i t m2 k hi hJ hk => ?_)
 ·refine ⟨bl, ?_, hbl, fun _ _ => rfl, ⟨by simp [hT.h0], by simp [hT.h3], by simp [hT.h6], by simp [hT.h7], by simp [hT.h8], by simp [hT.h9], by simp [hT.h62], by simp [hT.h63], by simp [hT.h64]⟩, by simp [h11], by simp, by simp, by simp⟩
  have : (fun x => if x = c then (l.length : Int) - ((0 : Nat) : Int) else Lm x) = Lm := by
   funext x
   by_cases e : x = c
   ·subst e; simp [hnl]
   ·simp [e]
  rw [this]; exact hI
 obtain ⟨bl', g1, g2, g3, g4, g5, g6, g7, g8⟩ := hJ
 have hE := g1.st.ext
 have hS := (Sees.refl hm).ext hE
 by_cases hil : i < l.length
 ·obtain ⟨w, hw⟩ : ∃ w, l[i]? = some w := ⟨_, qaa hil⟩
  obtain ⟨e, he, hk2, hloc⟩ := w3 w (qab hw)
  have hwl := (qac.1 he).1
  have hnot : w ∉ l.take i := fun hc => by
   obtain ⟨hi', rfl⟩ := qac.1 hw
   obtain ⟨j, hj, e2⟩ := List.getElem_of_mem hc
   rw [List.getElem_take] at e2
   simp at hj
   have := (List.getElem_inj w2).1 e2
   omega
  have hbw : bl'[w]? = some false := by rw [g3 w hnot]; exact hfr w (qab hw)
  have ⟨a1, a2⟩ := Rd.at1 (g := fun (x : Nat) => iv x) (hsc.sees hS) hw
  have hd := dlt hil
  have v1 := qS (i := i) (by omega)
  obtain ⟨u3, m3, c1, c2, rfl⟩ := is_c n hS.base (h.sees hS) (hev.sees hS) (by omega) w (by omega) 2
  rw [show isK EV w 2 = true by simp [isK, he, hk2]] at c1
  have G3 := g1.step c2
  have hS3 := (Sees.refl hm).ext G3.st.ext
  have L3 := h.sees hS3
  have k1 : load1 m3 ⟨L, 1, none⟩ = some ev := L3.ld 1 none
  have ⟨p1, p2, p3⟩ := (hev.sees hS3).at he
  have p32 : load1 m3 ⟨(adr 5 ev w).block, (adr 5 ev w).off + 2, none⟩ = some (iv e.loc) := by rw [p3 m3 2 none hS3.self (by simp [qp])]; rfl
  have sw := G3.sget hbw none
  have hix := kO SB EV.length w hwl
  obtain ⟨m4, s1, G4⟩ := G3.sset (i := w) (by omega)
  have lk := lk_mz G4.mp (c : Int)
  rw [fd_rg, if_pos hcN] at lk
  simp only [if_true, Option.getD_some] at lk
  obtain ⟨q, hq⟩ : ∃ q : Int, q = (l.length : Int) - ((i + 1 : Nat) : Int) := ⟨_, rfl⟩
  have v2 : IntKind.i64.wrap ((l.length : Int) - i - 1) = q := by rw [wrap64 _ (by omega) (by omega)]; omega
  have mu := Wh G4.mp (c : Int) q
  have G5 := G4.mset hcN q
  have g0 := g4.h0
  have g6' := g4.h6
  have g9 := g4.h9
  have g30 := g4.h3
  simp [g0, g5, g6, g7, g8, hd, a1, a2, hS.self, c1, k1, p1, p32, hloc, g9, g6', hix, sw, s1, g30, lk, v2, mu, v1]
  refine hk hil _ _ ?_
  refine ⟨bl'.set w true, ?_, by rw [List.length_set]; exact g2, fun x hx => ?_, ⟨by simp [g0], by simp [g30], by simp [g6'], by simp [g4.h7], by simp [g4.h8], by simp [g9], by simp [g4.h62], by simp [g4.h63], by simp [g4.h64]⟩, by simp, by simp [g6], by simp [g7], by simp⟩
  ·have : (fun x => if x = c then (l.length : Int) - ((i + 1 : Nat) : Int) else Lm x) = fun x => if x = c then q else (if x = c then (l.length : Int) - i else Lm x) := by
    funext x
    by_cases e : x = c
    ·simp only [if_pos e, hq]
    ·simp only [if_neg e]
   rw [this]
   exact G5
  ·rw [take_at hw, qax, not_or] at hx
   rw [qaw (fun e => hx.2 (by simp [e])), g3 x hx.1]
 obtain rfl : i = l.length := by omega
 simp [g7, g8]
 refine H _ m2 bl' ?_ g2 (fun w hw => g3 w (by rw [List.take_length]; exact hw)) ⟨by simp [g4.h0], by simp [g4.h3], by simp [g4.h6], by simp [g4.h7], by simp [g4.h8], by simp [g4.h9], by simp [g4.h62], by simp [g4.h63], by simp [g4.h64]⟩ (by simp [g5])
 have : (fun x => if x = c then (l.length : Int) - (l.length : Int) else Lm x) = fun x => if x = c then 0 else Lm x := by
  funext x
  by_cases e : x = c <;> simp [e]
 rw [← this]; exact g1
theorem co_out (n : Nat) (hm : m.base ≤ m.n) (h : LK m L N ev rf co nx) (hev : Rd m ev 5 qp EV) (wf : WFg N EV RF CO) {cv : Value} {sv : Nat → Value} (hcv : Rd m cv 1 (fun v : Value => [v]) ((List.range N).map sv)) (hsv : ∀ c l, CO[c]? = some l → Rd m (sv c) 1 wa l) {MB SB : Nat} {m' : M}
  (hI : CoI m m' MB SB N (fun x => nW EV x EV.length) (List.replicate EV.length false)) {t : Tm} {kn kr : K} {ke : Nat → K} {Q : Option Out → Prop}
  (h0 : Tm.get 0 t = .pointer (some ⟨L, 0, none⟩)) (h3 : Tm.get 3 t = .map (some MB)) (h6 : Tm.get 6 t = .slice (some ⟨SB, 0, some 3⟩) EV.length EV.length) (h7 : Tm.get 7 t = iv N) (h8 : Tm.get 8 t = iv N) (h62 : Tm.get 62 t = cv) (h63 : Tm.get 63 t = iv N) (h64 : Tm.get 64 t = iv 0)
  (H : ∀ t' m2 bl', CoI m m2 MB SB N (fun _ => 0) bl' → Tm.get 0 t' = .pointer (some ⟨L, 0, none⟩) → Tm.get 3 t' = .map (some MB) → Tm.get 7 t' = iv N → Tm.get 8 t' = iv N → Q (ke 2 t' m2)) : Q (ZP (ex Try.prog (n + 1)) kn ke kr t m') := by
 have hn2 := wf.n2
 have hn1 := wf.n1
 refine qu (c := ZP) rfl Q (fun c t m2 => ∃ bl, CoI m m2 MB SB N (fun x => if x < c then 0 else nW EV x EV.length) bl ∧ bl.length = EV.length ∧ (∀ (w : Nat) (e : EvR) (x : Nat), EV[w]? = some e → e.loc = (x : Int) → c ≤ x → bl[w]? = some false) ∧
   Tm.get 0 t = .pointer (some ⟨L, 0, none⟩) ∧ Tm.get 3 t = .map (some MB) ∧ Tm.get 6 t = .slice (some ⟨SB, 0, some 3⟩) EV.length EV.length ∧ Tm.get 7 t = iv N ∧ Tm.get 8 t = iv N ∧ Tm.get 62 t = cv ∧ Tm.get 63 t = iv N ∧ Tm.get 64 t = iv c) N (by omega)
  ⟨_, by simpa using hI, by simp, fun w e x he _ _ => by rw [List.getElem?_replicate, if_pos (qac.1 he).1], h0, h3, h6, h7, h8, h62, h63, h64⟩ (fun c t m2 k hi hJ hk => ?_)
 obtain ⟨bl, g1, g2, g3, a0, a3, a6, a7, a8, a62, a63, a64⟩ := hJ
 have hS := (Sees.refl hm).ext g1.st.ext
 by_cases hil : c < N
 ·obtain ⟨l, hl⟩ : ∃ l, CO[c]? = some l := ⟨_, qaa (by rw [wf.con]; exact hil)⟩
  obtain ⟨w1, w2, w3, w4⟩ := wf.coh c l hl
  have hsc := hsv c l hl
  have hcc : ((List.range N).map sv)[c]? = some (sv c) := by simp [hil]
  have ⟨p1, p2⟩ := Rd.at1 (g := fun (x : Value) => x) (hcv.sees hS) hcc
  have ⟨r1, r2⟩ := Rd.at1 (g := fun (x : Nat) => iv x) (hsc.sees hS) w1
  have r1' : kN 1 (sv c) (.int .i64 0) = some (.pointer (some (adr 1 (sv c) 0))) := r1
  have hlen := hsc.len
  have hlp : (0 < l.length) = True := eq_true (by have := (qac.1 w1).1; omega)
  have hd := dlt hil
  have v1 := qS (i := c) (by omega)
  simp [a0, a3, a6, a7, a8, a62, a63, a64, hd, p1, p2, hS.self, hlen, hlp, r1', r2, -XW]
  refine co_in n hm h hev wf hl hil hsc g1 g2 (by simp [w4]) (fun w hw => by
   obtain ⟨e, q1, q2, q3⟩ := w3 w hw
   exact g3 w e c q1 q3 (qad _)) (k0 := c) (cv := cv) ?_ ?_ ?_ fun t' m3 bl' G3 G4 G5 T h11 => ?_
  ·exact ⟨by simp [a0], by simp [a3], by simp [a6], by simp [a7], by simp [a8], by simp, by simp [a62], by simp [a63], by simp [a64]⟩
  ·simp
  ·simp
  have b7 := T.h7
  have b8 := T.h8
  have b9 := T.h9
  have b64 := T.h64
  simp [h11, b64, v1]
  refine hk hil _ _ ?_
  refine ⟨bl', ?_, G4, fun w e x he hx hcx => ?_, by simp [T.h0], by simp [T.h3], by simp [T.h6], by simp [b7], by simp [b8], by simp [T.h62], by simp [T.h63], by simp⟩
  ·have : (fun x => if x < c + 1 then (0 : Int) else ((nW EV x EV.length : Nat) : Int)) = fun x => if x = c then (0 : Int) else (if x < c then (0 : Int) else ((nW EV x EV.length : Nat) : Int)) := by
    funext x
    by_cases e : x = c
    ·subst e; simp
    ·by_cases e2 : x < c
     ·rw [if_pos (by omega), if_neg e, if_pos e2]
     ·rw [if_neg (by omega), if_neg e, if_neg e2]
   rw [this]; exact G3
  ·rw [G5 w ?_]
   ·exact g3 w e x he hx (by omega)
   ·intro hw
    obtain ⟨e', q1, q2, q3⟩ := w3 w hw
    rw [he] at q1; cases q1
    rw [hx] at q3
    omega
 obtain rfl : c = N := by omega
 simp [a63, a64]
 refine H _ m2 bl ?_ (by simp [a0]) (by simp [a3]) (by simp [a7]) (by simp [a8])
 refine ⟨g1.st, g1.mb, g1.lt, g1.ne, ?_⟩
 rw [g1.mp]
 congr 3
 exact fG fun x hx => by rw [if_pos hx]
theorem BS (a : Nat) : mmL false [iv a, iv a] = some (iv a) := by
 show (match (bif Nat.beq (ik .i64) (ik .i64) then some (Value.int .i64 (bif ltI (a : Int) (a : Int) then (a : Int) else (a : Int))) else none) with | some u => some u | none => none) = _
 rw [Nat.beq_refl, cond_true]
 cases ltI (a : Int) (a : Int) <;> rfl
@[simp] theorem pMm_ap (mx : Bool) (xs : List V) (t : Tm) : pMm mx xs t = mmL mx (evs t xs) := _root_.id rfl
theorem Xp (wf : WFg N EV RF CO) : ∀ (i : Nat), i ≤ N → ∀ c, i ≤ c → nW EV c i = 0
 | 0, _, c, _ => by simp [nW]
 | i + 1, hi, c, hc => by
  rw [fw (wf.ini i (by omega)), Xp wf i (by omega) c (by omega), if_neg]
  intro h
  have := h.2
  simp at this
  omega
set_option maxHeartbeats 1000000 in
theorem co_c (n : Nat) (hm : m.base ≤ m.n) (h : LK m L N ev rf co nx) (hev : Rd m ev 5 qp EV) (wf : WFg N EV RF CO) {sv : Nat → Value} (hco : Rd m co 1 (fun v : Value => [v]) ((List.range N).map sv)) (hsp : Sp 1 co) (hsv : ∀ c l, CO[c]? = some l → Rd m (sv c) 1 wa l) :
  CallV (ex Try.prog (n + 2)) 98 [.pointer (some ⟨L, 0, none⟩)] m (iv (-1)) := by
 refine qE dd2_ok (by simp) ?_
 have l1 : ∀ m'', Sees m m'' → load1 m'' ⟨L, 1, none⟩ = some ev := fun m'' k => (h.sees k).ld 1 none
 have hel := hev.len
 have hn2 := wf.n2
 have hn1 := wf.n1
 have E0 := Ext.allocO m (.map [])
 have S0 := (Sees.refl hm).ext E0
 simp [Je, l1, S0, hel]
 refine qu (c := cd2_9) rfl (Ret m _) (fun i t m' => Ext (m.alloc (.map [])) m' ∨ True → (Ext m m' ∧ m.n < m'.n ∧ m'.obj m.n = some (.map (mz (rgL (min i N) fun c => nW EV c i)))) ∧ Tm.get 0 t = .pointer (some ⟨L, 0, none⟩) ∧ Tm.get 3 t = .map (some m.n) ∧ Tm.get 21 t = ev ∧ Tm.get 22 t = iv EV.length ∧ Tm.get 23 t = iv i) EV.length (by omega)
  (fun _ => ⟨⟨E0, by rw [M.n_alloc]; omega, by rw [M.obj_alloc, if_pos rfl]; simp [rgL, mz]⟩, by simp, by simp, by simp, by simp, by simp⟩) (fun i t m' k hi hI hk => ?_)
 obtain ⟨⟨hE, hlt, hmp⟩, h0, h3, h21, h22, h23⟩ := hI (.inr trivial)
 have hS := (Sees.refl hm).ext hE
 by_cases hil : i < EV.length
 ·obtain ⟨e, he⟩ : ∃ e, EV[i]? = some e := ⟨_, qaa hil⟩
  have ⟨a1, a2, a3⟩ := (hev.sees hS).at he
  have a2' : loads m' (adr 5 ev i) 5 = some (qp e) := a2 m' hS.self
  have hd := dlt hil
  have w1 := qS (i := i) (by omega)
  obtain ⟨m2, s1, s2, s3, s4, s5⟩ := wJ (m := m') hS.base (zs := Vc) (l := qp e) (v := .agg ⟨qp e⟩) (n := 5) rfl rfl rfl (kS e)
  have b1 : load1 m2 ⟨m'.n, 1, none⟩ = some (iv e.kind) := by rw [s2]; rfl
  have b2 : load1 m2 ⟨m'.n, 2, none⟩ = some (iv e.loc) := by rw [s2]; rfl
  have hE2 : Ext m m2 := hE.trans s4
  have hlt2 : m.n < m2.n := qaf hlt s4.n
  have hmp2 : m2.obj m.n = some (.map (mz (rgL (min i N) fun c => nW EV c i))) := by rw [s4.obj _ hlt]; exact hmp
  by_cases hk2 : e.kind = 2
  ·-- a write
   obtain ⟨l, hl, hlN, hli⟩ : ∃ l : Nat, e.loc = (l : Int) ∧ l < N ∧ (i < N → l = i) := by
    by_cases hiN : i < N
    ·have := wf.ini i hiN
     rw [he] at this; cases this
     exact ⟨i, rfl, hiN, fun _ => rfl⟩
    ·obtain ⟨-, -, -, -, -, o6⟩ := wf.evs i e (by omega) he
     obtain ⟨l, g1, g2⟩ := o6 (by rw [hk2]; decide)
     exact ⟨l, g1, g2, fun h => absurd h hiN⟩
   have lk := lk_mz hmp2 (l : Int)
   rw [fd_rg] at lk
   have hv : (((if l < min i N then some (nW EV l i : Int) else none) : Option Int).getD 0) = (nW EV l i : Int) := by
    split
    ·rfl
    ·rename_i hx
     have : i < N := by omega
     have := hli this
     rw [Xp wf i (by omega) l (by omega)]; rfl
   rw [hv] at lk
   have hnw := KH EV l i
   obtain ⟨q, hq⟩ : ∃ q : Nat, q = nW EV l i + 1 := ⟨_, rfl⟩
   have v2 : IntKind.i64.wrap ((nW EV l i : Int) + 1) = (q : Int) := by rw [wrap64 _ (by omega) (by omega)]; omega
   have mu := Wh hmp2 (l : Int) (q : Int)
   have hpt : ptL (l : Int) (q : Int) (rgL (min i N) fun c => nW EV c i) = rgL (min (i + 1) N) fun c => nW EV c (i + 1) := by
    by_cases hiN : i < N
    ·have hl2 := hli hiN
     subst hl2
     rw [show min l N = l by omega, VE, show min (l + 1) N = l + 1 by omega]
     refine fG fun x hx => ?_
     rw [fw he]
     by_cases e2 : x = l
     ·subst e2; rw [if_pos rfl, if_pos ⟨hk2, hl⟩, hq]
     ·rw [if_neg e2, if_neg (fun h => e2 (by have := h.2; rw [hl] at this; omega))]; rfl
    ·rw [pt_rg _ _ (by omega), show min (i + 1) N = min i N by omega]
     refine fG fun x hx => ?_
     rw [fw he]
     by_cases e2 : x = l
     ·subst e2; rw [if_pos rfl, if_pos ⟨hk2, hl⟩, hq]
     ·rw [if_neg e2, if_neg (fun h => e2 (by have := h.2; rw [hl] at this; omega))]; rfl
   rw [hpt] at mu
   simp [h0, h3, h21, h22, h23, hd, a1, ql, a2', s1, b1, b2, hk2, hl, lk, v2, mu, w1]
   refine hk hil _ _ fun _ => ?_
   exact ⟨⟨hE2.putO hm (qad _) _, by rw [M.n_put]; exact hlt2, by rw [M.obj_put, if_pos rfl]⟩, by simp [h0], by simp [h3], by simp [h21], by simp [h22], by simp⟩
  ·simp [h0, h3, h21, h22, h23, hd, a1, ql, a2', s1, b1, hk2, w1]
   refine hk hil _ _ fun _ => ?_
   have hiN : ¬ i < N := fun hiN => by
    have := wf.ini i hiN
    rw [he] at this; cases this
    exact hk2 rfl
   refine ⟨⟨hE2, hlt2, ?_⟩, by simp [h0], by simp [h3], by simp [h21], by simp [h22], by simp⟩
   rw [hmp2, show min (i + 1) N = min i N by omega]
   congr 3
   refine fG fun x hx => ?_
   rw [fw he, if_neg (fun h => hk2 h.1)]; rfl
 obtain rfl : i = EV.length := by omega
 rw [Nat.min_eq_right hn1] at hmp
 have k1 := l1 m' hS
 have L' := h.sees hS
 have k3 : load1 m' ⟨L, 3, none⟩ = some co := L'.ld 3 none
 have k0 : load1 m' ⟨L, 0, none⟩ = some (iv N) := L'.ld 0 none
 have hmk := FX (n := EV.length) (by omega) m'
 have st2 := (St.nil hm hE).row (vm (List.replicate EV.length false))
 obtain ⟨m2, hm2⟩ := qay (Dx.newRow m' (vm (List.replicate EV.length false)))
 rw [← hm2] at hmk st2
 have HE : Ext m' m2 := by rw [hm2]; exact Ext.row _ _
 have S2 : Sees m m2 := (Sees.refl hm).ext (hE.trans HE)
 have L2 := h.sees S2
 have r3 : load1 m2 ⟨L, 3, none⟩ = some co := L2.ld 3 none
 have r0 : load1 m2 ⟨L, 0, none⟩ = some (iv N) := L2.ld 0 none
 have hcl := hco.len
 simp only [List.length_map, List.length_range] at hcl
 obtain ⟨ca, cn, cc, q1, q2⟩ := hco.take hsp (fun _ => rfl) (k := N) (by simp)
 rw [List.take_of_length_le (by simp)] at q2
 have q3 := q2.len
 simp only [List.length_map, List.length_range] at q3
 have hmm := BS N
 simp [h0, h3, h21, h22, h23, k1, hel, hmk, r3, r0, hcl, hmm, q1, q3]
 have hC : CoI m m2 m.n m'.n N (fun x => nW EV x EV.length) (List.replicate EV.length false) :=
  ⟨st2, qad _, qaf hlt HE.n, by omega, by rw [HE.obj _ hlt]; exact hmp⟩
 refine co_out n hm h hev wf q2 hsv hC ?_ ?_ ?_ ?_ ?_ ?_ ?_ ?_ fun t' m3 bl' G g0 g3 g7 g8 => ?_
 ·simp [h0]
 ·simp [h3]
 ·simp
 ·simp
 ·simp
 ·simp
 ·simp
 ·simp
 simp [g3]
 have hes : VF (.map (some m.n)) m3 = some (mz (rgL N fun _ => 0)) := Dq G.mp (by unfold mz rgL; simp; intro a _; rfl)
 refine rm_run (by omega) (p := wu) (es := mz (rgL N fun _ => 0)) (by simp [wu, g3]; exact hes) none m3 [(0, .pointer (some ⟨L, 0, none⟩)), (7, iv N), (8, iv N)] (fun _ t => Tm.get 0 t = .pointer (some ⟨L, 0, none⟩) ∧ Tm.get 7 t = iv N ∧ Tm.get 8 t = iv N) ?_ ?_ ?_ ?_ (by decide) (by decide) ?_
 ·simp [wu, g0, g7, g8]
 ·intro seen t j k v hj hs hI
  obtain ⟨hI0, hI7, hI8⟩ := hI
  have hkv : k = iv j ∧ v = iv 0 := by
   have hjN : j < N := by
    have := (qac.1 hj).1
    simpa [mz, rgL] using this
   unfold mz rgL at hj
   rw [qaq, qaq, List.getElem?_range hjN] at hj
   cases hj
   exact ⟨rfl, rfl⟩
  obtain ⟨rfl, rfl⟩ := hkv
  simp
  refine rm_end ?_
  exact .inl ⟨rfl, rfl, by simp [hI0], by simp [hI7], by simp [hI8]⟩
 ·intro seen t _ hI
  refine ⟨rfl, rfl, fun q hq => ?_⟩
  simp at hq
  rcases hq with rfl | rfl | rfl
  ·exact hI.1
  ·exact hI.2.1
  ·exact hI.2.2
 ·intro q hq
  simp at hq
  rcases hq with rfl | rfl | rfl <;> simp [wu]
 ·intro t2 ht2
  have t0 : Tm.get 0 t2 = .pointer (some ⟨L, 0, none⟩) := ht2 (0, _) (by simp)
  have t7 : Tm.get 7 t2 = iv N := ht2 (7, _) (by simp)
  have t8 : Tm.get 8 t2 = iv N := ht2 (8, _) (by simp)
  have S3 : Sees m m3 := (Sees.refl hm).ext G.st.ext
  have L3 := h.sees S3
  have z3 : load1 m3 ⟨L, 3, none⟩ = some co := L3.ld 3 none
  have z0 : load1 m3 ⟨L, 0, none⟩ = some (iv N) := L3.ld 0 none
  simp [ju, t0, t7, t8, z3, z0, hcl, meets, FP.meet, FP.clear]
  exact qX G.st.ext (by simp)
end
end Go.Sx
namespace Go.Dx
noncomputable section
theorem JM {P : Program} {n L : Nat} {t : Tm} {nt : Nat} {ps : Array Tmp} {a b : Code} {sa sb : SC} {args : List Value} {t' t'' : Tm} {m m1 : M} {R : Option E → M → Prop} (hobj : m.obj L = some (.loop 0 t nt ps a b none)) (ha : cCode P nt a = some sa) (hb : cCode P nt b = some sb)
  (hp : jc nt t ps.toList args = some t') (hnt : nt ≤ 512) (hsa : ∀ k : K, sa (ex P n) k noK (fun _ _ => none) t' m = k t'' m1) (hobj1 : m1.obj L = some (.loop 0 t nt ps a b none))
  (hrun : Rnd (fun e m2 => m2.obj L = some (.loop 1 t nt ps a b none) ∧ R e m2) (sb (ex P n) (wR none) zf (wR (some .ret)) t'' (m1.put L (.loop 1 t nt ps a b none)))) :
  ∃ e m2, m2.obj L = some (.loop 1 t nt ps a b none) ∧ R e m2 ∧ (ex P (n + 1)).y L args m = some (Value.bool e.isNone, m2.put L (.loop (match e with | none => 0 | some _ => 2) t nt ps a b e)) := by
 obtain ⟨e, m2, h1, h2, h3⟩ := hrun
 refine ⟨e, m2, h2, h3, ?_⟩
 show WT P (ex P n) L args m = _
 unfold WT
 rw [hobj]
 show ob (cCode P nt a) _ = _
 rw [ha, qI, hb, qI, hp, qI, qai hnt, cond_true, hsa]
 show ob (vH (ex P n) L sb t'' m1) _ = _
 unfold vH
 rw [hobj1]
 show ob (sb (ex P n) (wR none) zf (wR (some .ret)) t'' (m1.put L (.loop 1 t nt ps a b none))) (y3 L) = _
 rw [h1, qI]
 cases e with
 | none => show (match m2.obj L with | some (.loop _ t nt ps a b _) => some (Value.bool true, m2.put L (.loop 0 t nt ps a b none)) | _ => none) = _; rw [h2]; rfl
 | some e => show (match m2.obj L with | some (.loop _ t nt ps a b _) => some (Value.bool false, m2.put L (.loop 2 t nt ps a b (some e))) | _ => none) = _; rw [h2]; rfl
end
end Go.Dx
namespace Go.Sx
open Go.Dx Go.Proofs
set_option maxRecDepth 10000
theorem BH (n : Nat) (y : Value) (W : Nat) (ev : Value) (EV : List EvR) (hl : EV.length ≤ 1000) (J : Nat → M → Prop)
  (hJ : ∀ k m, k ≤ EV.length → J k m → load1 m ⟨W, 0, none⟩ = some ev ∧ Rd m ev 5 qp EV ∧ m.base ≤ m.n)
  (hy : ∀ k i e m, k < EV.length → i = EV.length - 1 - k → EV[i]? = some e → J k m → ∃ m', xC (ex Try.prog n) [iv (i : Nat), .agg ⟨qp e⟩] m y = some (.bool true, m') ∧ J (k + 1) m')
  (m : M) (h0 : J 0 m) : ∃ m', (ex Try.prog (n + 1)).f 102 [y, .pointer (some ⟨W, 0, none⟩)] m = some (.tuple #[], m') ∧ J EV.length m' := by
 have : ∃ v m', (ex Try.prog (n + 1)).f 102 [y, .pointer (some ⟨W, 0, none⟩)] m = some (v, m') ∧ (v = .tuple #[] ∧ J EV.length m') := by
  refine vO dd6_ok (by simp) ?_
  obtain ⟨q1, q2, q3⟩ := hJ 0 m (Nat.zero_le _) h0
  have hel := q2.len
  have w0 : IntKind.i64.wrap ((EV.length : Int) - 1) = (EV.length : Int) - 1 := wrap64 _ (by omega) (by omega)
  simp [q1, hel, w0]
  refine qu (c := cd6_8) rfl (Ends _) (fun k t m' => Tm.get 0 t = y ∧ Tm.get 1 t = .pointer (some ⟨W, 0, none⟩) ∧ Tm.get 3 t = iv ((EV.length : Int) - 1 - k) ∧ J k m') EV.length (by omega)
   ⟨by simp, by simp, by simp, h0⟩ (fun k t m' kk hi hI hk => ?_)
  obtain ⟨h0, h1, h3, hj⟩ := hI
  obtain ⟨q1, q2, q3⟩ := hJ k m' hi hj
  by_cases hil : k < EV.length
  ·obtain ⟨i, hi⟩ := qay (EV.length - 1 - k)
   have hin : ((EV.length : Int) - 1 - k) = (i : Int) := by omega
   rw [hin] at h3
   obtain ⟨e, he⟩ : ∃ e, EV[i]? = some e := ⟨_, qaa (by omega)⟩
   have ⟨a1, a2, a3⟩ := q2.at he
   have a2' : loads m' (adr 5 ev i) 5 = some (qp e) := a2 m' (Sees.refl q3)
   obtain ⟨m2, e2, hj2⟩ := hy k i e m' hil hi he hj
   have hge : ((0 : Int) ≤ i) = True := eq_true (by omega)
   have w1 : IntKind.i64.wrap ((i : Int) - 1) = (EV.length : Int) - 1 - ((k + 1 : Nat) : Int) := by rw [wrap64 _ (by omega) (by omega)]; omega
   obtain ⟨z, hz⟩ : ∃ z : Int, z = (EV.length : Int) - 1 - ((k + 1 : Nat) : Int) := ⟨_, rfl⟩
   rw [← hz] at w1
   simp [h0, h1, h3, q1, a1, a2', ql, e2, w1]
   refine hk hil _ _ ?_
   exact ⟨by simp [h0], by simp [h1], by rw [← hz]; simp, hj2⟩
  obtain rfl : k = EV.length := by omega
  have hlt : ((0 : Int) ≤ (EV.length : Int) - 1 - EV.length) = False := eq_false (by omega)
  obtain ⟨z, hz⟩ : ∃ z : Int, z = (EV.length : Int) - 1 - EV.length := ⟨_, rfl⟩
  rw [← hz] at h3 hlt
  simp [h3, hlt]
  exact bT ⟨rfl, hj⟩
 obtain ⟨v, m', e, rfl, h⟩ := this
 exact ⟨m', e, h⟩
theorem XK {c : SC} {o : V} {nt p q : Nat} {a b : Code} {ks : List Nat} (hc : c = sRf o nt #[p, q] a b ks) {sa sb : SC} (ha : cCode Try.prog nt a = some sa) (hb : cCode Try.prog nt b = some sb) (hnt : nt ≤ 512) (n : Nat) {kn kr : K} {ke : Nat → K} {t : Tm} {m : M} {Q : Option Out → Prop} {W : Nat} {ev : Value} {EV : List EvR}
  (hl : EV.length ≤ 1000) (ho : o t = .func (.func 102) #[] #[.pointer (some ⟨W, 0, none⟩)]) {T : Tm} (hT : zr ks t = T) (t1 : Nat → EvR → Tm) (hput : ∀ (i : Nat) (e : EvR), jc nt T [p, q] [iv i, .agg ⟨qp e⟩] = some (t1 i e))
  (J : Nat → M → Prop) (hJ : ∀ k m', k ≤ EV.length → J k m' → load1 m' ⟨W, 0, none⟩ = some ev ∧ Rd m' ev 5 qp EV ∧ m'.base ≤ m'.n)
  (hE : ∀ m', Ext m m' → J 0 m') (hL : ∀ k m' O, J k m' → m.n < m'.n → J k (m'.put m.n O))
  (round : ∀ k i e m', k < EV.length → i = EV.length - 1 - k → EV[i]? = some e → J k m' → m.n < m'.n → ∃ t2 m1, (∀ (kk : K), sa (ex Try.prog n) kk noK (fun _ _ => none) (t1 i e) m' = kk t2 m1) ∧ m1.obj m.n = m'.obj m.n ∧ m'.n ≤ m1.n ∧
   ∀ O, Rnd (fun e m2 => e = none ∧ m2.obj m.n = some O ∧ m'.n ≤ m2.n ∧ J (k + 1) m2) (sb (ex Try.prog n) (wR none) zf (wR (some E.ret)) t2 (m1.put m.n O)))
  (hq : ∀ m', J EV.length m' → m.n < m'.n → Q (kn t m')) : Q (c (ex Try.prog (n + 2)) kn ke kr t m) := by
 obtain ⟨mE, hmE⟩ := qay (m.alloc (.loop 0 T nt #[p, q] a b none))
 have nE : mE.n = m.n + 1 := by rw [hmE, M.n_alloc]
 have EE : Ext m mE := by rw [hmE]; exact ⟨by rw [M.n_alloc]; omega, fun X hX => by rw [M.obj_alloc, if_neg (by omega)], M.base_alloc _ _, M.log_alloc _ _⟩
 have obE : mE.obj m.n = some (.loop 0 T nt #[p, q] a b none) := by rw [hmE, M.obj_alloc, if_pos rfl]
 have hwalk := BH (n + 1) (.func (.yield m.n) #[] #[]) W ev EV hl (fun k m' => J k m' ∧ m'.obj m.n = some (.loop 0 T nt #[p, q] a b none) ∧ m.n < m'.n)
  (fun k m' hk h => hJ k m' hk h.1)
  (fun k i e m' hk hi he h => by
   obtain ⟨w, hob, hLn⟩ := h
   obtain ⟨t2, m1, g1, g2, g3, g4⟩ := round k i e m' hk hi he w hLn
   have hrd := JM (P := Try.prog) (n := n) (L := m.n) (args := [iv (i : Nat), .agg ⟨qp e⟩]) (t' := t1 i e) (t'' := t2) (m := m') (m1 := m1)
    (R := fun e m2 => e = none ∧ m'.n ≤ m2.n ∧ J (k + 1) m2) hob ha hb (hput _ _) hnt g1 (g2.trans hob) (by
     obtain ⟨e, m2, r1, r2, r3, r4, r5⟩ := g4 (.loop 1 T nt #[p, q] a b none)
     exact ⟨e, m2, r1, r3, r2, r4, r5⟩)
   obtain ⟨e, m2, ho2, ⟨rfl, hn2, hw2⟩, hrun⟩ := hrd
   exact ⟨_, hrun, hL _ _ _ hw2 (by omega), by rw [M.obj_put, if_pos rfl], by rw [M.n_put]; omega⟩)
  mE ⟨hE mE EE, obE, by omega⟩
 obtain ⟨m6, hw, w6, ob6, hL6⟩ := hwalk
 refine yL (c := c) hc (g := 102) (u := []) (v := [.pointer (some ⟨W, 0, none⟩)]) ho (r := .tuple #[]) (m1 := m6) (st := 0) (by rw [hT, ← hmE]; exact hw) ob6 (by omega) ?_
 unfold ju
 exact hq _ (hL _ _ _ w6 hL6) (by rw [M.n_put]; exact hL6)
theorem Zj (n : Nat) (ev : Value) (hev : okC ev = true) (m : M) : Dx.Call (ex Try.prog (n + 1)) 95 [ev] m fun v m' => v = .func (.func 102) #[] #[.pointer (some ⟨m.n, 0, none⟩)] ∧ m' = Dx.newRow m [ev] := by
 refine qE dc9_ok (by simp) ?_
 have : dK ev m = some (.pointer (some ⟨m.n, 0, none⟩), Dx.newRow m [ev]) := by
  unfold dK
  have : kJ ev = some [ev] := by cases ev <;> first | rfl | simp [okC] at hev
  rw [this]; rfl
 simp [this]
 exact qX (Ext.row m _) ⟨by simp, rfl⟩
end Go.Sx
namespace Go.Sx
open Go.Dx Go.Proofs
set_option maxRecDepth 10000
section
variable {m : M} {L N : Nat} {ev rf co nx : Value} {EV : List EvR} {RF : List (Nat × Nat)} {CO : List (List Nat)}
def r6c (c : Nat) : List Value := [iv (-1), iv 2, iv c, .int .u64 0, iv 1]
theorem xg (h1 : okC ev = true) (h2 : okC rf = true) (h3 : okC co = true) : ∀ v ∈ qc N ev rf co, okC v = true := by
 intro v hv
 simp [qc] at hv
 rcases hv with rfl | rfl | rfl | rfl | rfl <;> first | assumption | rfl
@[simp] theorem Yu (l : List Value) (m : M) : dK (.agg ⟨l⟩) m = some (.pointer (some ⟨m.n, 0, none⟩), Dx.newRow m l) := _root_.id rfl
@[simp] theorem DH : ko [.int .i64 0, .int .i64 0, .int .i64 0, .int .u64 0, .int .i64 0] [(0, 1, .int .i64 (-1)), (1, 1, .int .i64 2), (4, 1, .int .i64 1)] = some (.agg ⟨[.int .i64 (-1), .int .i64 2, .int .i64 0, .int .u64 0, .int .i64 1]⟩) := _root_.id rfl
theorem chkA (n : Nat) (hm : m.base ≤ m.n) (hev : Rd m ev 5 qp EV) (o2 : okC rf = true) (o3 : okC co = true) (wf : WFg N EV RF CO) {kn : K} {ke : Nat → K} {kr : K} {Q : Option Out → Prop} {t : Tm} (t0 : Tm.get 0 t = .agg ⟨qc N ev rf co⟩) (t1 : Tm.get 1 t = .bool false)
  (H : ∀ t' m' B2 B6 c, St m m' [(B6, r6c c), (B2, qc N ev rf co)] → Tm.get 2 t' = .pointer (some ⟨B2, 0, none⟩) → Tm.get 1 t' = .bool false → Q (QV (ex Try.prog n) kn ke kr t' m')) : Q (ZN (ex Try.prog n) kn ke kr t m) := by
 have hel := hev.len
 have hn2 := wf.n2
 have hn1 := wf.n1
 have st0 := (St.nil hm (Ext.refl m)).row (qc N ev rf co)
 obtain ⟨m1, hm1⟩ := qay (Dx.newRow m (qc N ev rf co))
 rw [← hm1] at st0
 have l0 : load1 m1 ⟨m.n, 0, none⟩ = some (iv N) := (st0.get 0 rfl).2.2.load1 0 none
 have l1 : load1 m1 ⟨m.n, 1, none⟩ = some ev := (st0.get 0 rfl).2.2.load1 1 none
 have c1 : ((N : Int) < 0) = False := eq_false (by omega)
 have c2 : ((4096 : Int) < N) = False := eq_false (by omega)
 have c3 : (EV.length < N) = False := eq_false (by omega)
 have c4 : ((256 : Int) < EV.length) = False := eq_false (by omega)
 obtain ⟨m2, s1, s2, s3, s4⟩ := (st0.row [.int .i64 0, .int .i64 0, .int .i64 0, .int .u64 0, .int .i64 0]).fill 0 rfl (n := 5) (l' := r6c 0) rfl rfl (by simp [r6c, okC])
 have s1' : qO 5 (.pointer (some ⟨m1.n, 0, none⟩)) (.agg ⟨[.int .i64 (-1), .int .i64 2, .int .i64 0, .int .u64 0, .int .i64 1]⟩) (Dx.newRow m1 [.int .i64 0, .int .i64 0, .int .i64 0, .int .u64 0, .int .i64 0]) = some (undef, m2) := s1
 have st2 : St m m2 [(m1.n, r6c 0), (m.n, qc N ev rf co)] := s2
 have k0 : load1 m2 ⟨m.n, 0, none⟩ = some (iv N) := (st2.get 1 rfl).2.2.load1 0 none
 simp [t0, t1, ← hm1, l0, l1, hel, c1, c2, c3, c4, s1', k0, -Qa]
 refine qu (c := YS) rfl Q (fun i t m' => ∃ c, St m m' [(m1.n, r6c c), (m.n, qc N ev rf co)] ∧ Tm.get 1 t = .bool false ∧ Tm.get 2 t = .pointer (some ⟨m.n, 0, none⟩) ∧ Tm.get 6 t = .pointer (some ⟨m1.n, 0, none⟩) ∧ Tm.get 47 t = iv N ∧ Tm.get 48 t = iv i) N (by omega)
  ⟨0, st2, by simp [t1], by simp, by simp, by simp, by simp⟩ (fun i t m' k hi hI hk => ?_)
 obtain ⟨c, st, h1, h2, h6, h47, h48⟩ := hI
 by_cases hil : i < N
 ·have hd := dlt hil
  have w1 := qS (i := i) (by omega)
  obtain ⟨m3, u1, u2, u3, u4⟩ := st.store 0 rfl (o := 2) (v := iv i) (by simp [r6c]) rfl
  have u2' : St m m3 [(m1.n, r6c i), (m.n, qc N ev rf co)] := u2
  have hS := u2'.sees
  have q1 : load1 m3 ⟨m.n, 1, none⟩ = some ev := (u2'.get 1 rfl).2.2.load1 1 none
  have q6 : loads m3 ⟨m1.n, 0, none⟩ 5 = some (r6c i) := (u2'.get 0 rfl).2.2.loads (n := 5) (by simp [r6c])
  have he := wf.ini i hil
  have ⟨a1, a2, a3⟩ := (hev.sees hS).at he
  have a2' : loads m3 (adr 5 ev i) 5 = some (r6c i) := a2 m3 hS.self
  have hq : wT [1, 1, 1, 1, 1] (r6c i) (r6c i) = some true := eq_ev ⟨-1, 2, (i : Int), 0, 1⟩
  simp [h1, h2, h6, h47, h48, hd, u1, q1, a1, ql, a2', q6, hq, w1, meets, FP.meet, FP.clear]
  refine hk hil _ _ ?_
  exact ⟨i, u2', by simp [h1], by simp [h2], by simp [h6], by simp [h47], by simp⟩
 obtain rfl : i = N := by omega
 simp [h47, h48, -Qa]
 exact H _ _ _ _ _ st (by simp [h2]) (by simp [h1])
def jL (l : List Int) : List Value := l.map iv
structure CkJ (m m' : M) (N : Nat) (ev rf co : Value) (EV : List EvR) (B2 B6 NB LB B8 B9 MB c : Nat) (x : List (Nat × List Value)) : Prop where
 st : ∃ nl : List Int, nl.length = EV.length ∧ St m m' (x ++ [(B9, [.map (some MB)]), (B8, [.pointer (some ⟨LB, 0, none⟩)]), (LB, zP N ev rf co (.slice (some ⟨NB, 0, some 3⟩) EV.length EV.length)), (NB, jL nl), (B6, r6c c), (B2, qc N ev rf co)])
 mb : m.n ≤ MB
 mlt : MB < m'.n
 mne : MB ∉ x.map (·.1) ++ [B9, B8, LB, NB, B6, B2]
 mp : ∃ l, m'.obj MB = some (.map (mz l))
theorem Zp (N : Nat) (ev rf co nx : Value) (h1 : okC ev = true) (h2 : okC rf = true) (h3 : okC co = true) (h4 : okC nx = true) :
  ko [.int .i64 0, .slice none 0 0, .slice none 0 0, .slice none 0 0, .slice none 0 0, .slice none 0 0, .slice none 0 0, .slice none 0 0, .bool false, .slice none 0 0] [(0, 8, .agg ⟨qc N ev rf co⟩), (8, 1, .bool false), (9, 1, nx)] = some (.agg ⟨zP N ev rf co nx⟩) := by
 have c4 : kJ nx = some [nx] := by cases nx <;> first | rfl | simp [okC] at h4
 unfold ko
 show ob (ob (some (qc N ev rf co)) fun cs => bif Nat.beq cs.length 8 && Nat.ble (0 + 8) 10 then bY [(8, 1, .bool false), (9, 1, nx)] _ else none) _ = _
 rw [qI]
 show ob (ob (some [Value.bool false]) fun cs => bif Nat.beq cs.length 1 && Nat.ble (8 + 1) 10 then bY [(9, 1, nx)] _ else none) _ = _
 rw [qI]
 show ob (ob (kJ nx) fun cs => bif Nat.beq cs.length 1 && Nat.ble (9 + 1) 10 then bY [] _ else none) _ = _
 rw [c4]
 rfl
theorem chkB (n : Nat) (hm : m.base ≤ m.n) (hev : Rd m ev 5 qp EV) (o2 : okC rf = true) (o3 : okC co = true) (wf : WFg N EV RF CO) {kn : K} {ke : Nat → K} {kr : K} {Q : Option Out → Prop} {t : Tm} {m' : M} {B2 B6 c : Nat} (st : St m m' [(B6, r6c c), (B2, qc N ev rf co)]) (t2 : Tm.get 2 t = .pointer (some ⟨B2, 0, none⟩)) (t1 : Tm.get 1 t = .bool false)
  (H : ∀ t' m2 NB LB B8 B9 MB, CkJ m m2 N ev rf co EV B2 B6 NB LB B8 B9 MB c [] → Tm.get 2 t' = .pointer (some ⟨B2, 0, none⟩) → Tm.get 8 t' = .pointer (some ⟨B8, 0, none⟩) → Tm.get 9 t' = .pointer (some ⟨B9, 0, none⟩) → Q (QU (ex Try.prog n) kn ke kr t' m2)) : Q (QV (ex Try.prog n) kn ke kr t m') := by
 have hel := hev.len
 have hn2 := wf.n2
 have o1 := hev.okV
 have q8 : loads m' ⟨B2, 0, none⟩ 8 = some (qc N ev rf co) := (st.get 1 rfl).2.2.loads (n := 8) (by simp [qc])
 have q1 : load1 m' ⟨B2, 1, none⟩ = some ev := (st.get 1 rfl).2.2.load1 1 none
 have hmk := be (n := EV.length) (by omega) m'
 obtain ⟨nx, hnx⟩ := qay (Value.slice (some ⟨m'.n, 0, some 3⟩) EV.length EV.length)
 have hbl := Zp N ev rf co nx o1 o2 o3 (by rw [hnx]; rfl)
 have hn0 : nums (List.replicate EV.length 0) = jL (List.replicate EV.length 0) := by unfold nums jL; simp
 rw [hn0] at hmk
 have st1 := ((st.row (jL (List.replicate EV.length 0))).row (zP N ev rf co nx)).row [.pointer none]
 obtain ⟨ma, hma⟩ := qay (Dx.newRow m' (jL (List.replicate EV.length 0)))
 rw [← hma] at st1 hmk
 obtain ⟨mb, hmb⟩ := qay (Dx.newRow ma (zP N ev rf co nx))
 rw [← hmb] at st1
 obtain ⟨m3, u1, u2, u3, u4, u5⟩ := st1.storeAny 0 rfl (o := 0) (v := .pointer (some ⟨ma.n, 0, none⟩)) (by simp) rfl
 rw [← hnx] at hmk
 simp [t1, t2, ql, q8, q1, hel, hmk, hbl, ← hmb, u1, meets, FP.meet, FP.clear, -dZ, Je]
 obtain ⟨m4, hm4⟩ := qay (behind (Dx.newRow mb [Value.pointer none]) m3)
 have hmn : m3.n = m4.n := by rw [hm4, qV]
 have u3' : St m m4 [(mb.n, [.pointer (some ⟨ma.n, 0, none⟩)]), (ma.n, zP N ev rf co nx), (m'.n, jL (List.replicate EV.length 0)), (B6, r6c c), (B2, qc N ev rf co)] := by rw [hm4]; exact u3
 rw [← hm4, hmn]
 obtain ⟨m5, hm5⟩ := qay (m4.alloc (.map []))
 rw [← hm5]
 have E5 : Ext m4 m5 := by rw [hm5]; exact Ext.allocO _ _
 have n5 : m5.n = m4.n + 1 := by rw [hm5, M.n_alloc]
 have ob5 : m5.obj m4.n = some (.map (mz [])) := by rw [hm5, M.obj_alloc, if_pos rfl]; rfl
 have st5 := (u3'.step E5).row [.map none]
 obtain ⟨m6, v1, v2, v3, v4⟩ := st5.store 0 rfl (o := 0) (v := .map (some m4.n)) (by simp) rfl
 simp [v1, -dZ]
 have low := fun p hp => (u3'.arr p hp).2.1
 refine H _ m6 m'.n ma.n mb.n m5.n m4.n ⟨⟨List.replicate EV.length 0, by simp, by rw [← hnx]; exact v2⟩, u3'.ext.n, by rw [v3, qn]; omega, ?_, [], ?_⟩ (by simp [t2]) (by simp) (by simp)
 ·have l1 := low _ (qas ..)
  have l2 := low (ma.n, zP N ev rf co nx) (by simp)
  have l3 := low (m'.n, jL (List.replicate EV.length 0)) (by simp)
  have l4 := low (B6, r6c c) (by simp)
  have l5 := low (B2, qc N ev rf co) (by simp)
  simp only at l1 l2 l3 l4 l5
  simp
  omega
 ·rw [v4 m4.n (by omega), (Ext.row m5 _).obj _ (by omega), ob5]
end
end Go.Sx
namespace Go.Sx
open Go.Dx Go.Proofs
set_option maxRecDepth 10000
section
variable {m m' m2 : M} {N : Nat} {ev rf co : Value} {EV : List EvR} {B2 B6 NB LB B8 B9 MB c : Nat} {x : List (Nat × List Value)} {RF : List (Nat × Nat)} {CO : List (List Nat)}
theorem _root_.Go.Dx.St.keepC {m0 m m' : M} {σ : List (Nat × List Value)} (h : St m0 m σ) (e : Ext m0 m') (hn : m.n ≤ m'.n) (ho : ∀ p ∈ σ, m'.obj p.1 = m.obj p.1) : St m0 m' σ :=
 ⟨e, h.base, fun p hp => let ⟨h1, h2, h3⟩ := h.arr p hp; ⟨h1, by omega, h3.congr (ho p hp)⟩, h.nd⟩
theorem CkJ.low (h : CkJ m m' N ev rf co EV B2 B6 NB LB B8 B9 MB c x) : ∀ X ∈ x.map (·.1) ++ [B9, B8, LB, NB, B6, B2], m.n ≤ X ∧ X < m'.n := by
 obtain ⟨nl, _, st⟩ := h.st
 intro X hX
 have : X ∈ (x ++ [(B9, [Value.map (some MB)]), (B8, [.pointer (some ⟨LB, 0, none⟩)]), (LB, zP N ev rf co (.slice (some ⟨NB, 0, some 3⟩) EV.length EV.length)), (NB, jL nl), (B6, r6c c), (B2, qc N ev rf co)]).map (·.1) := by simpa using hX
 obtain ⟨p, hp, rfl⟩ := List.mem_map.1 this
 obtain ⟨h1, h2, _⟩ := st.arr p hp
 exact ⟨h1, h2⟩
theorem CkJ.step (h : CkJ m m' N ev rf co EV B2 B6 NB LB B8 B9 MB c x) (e : Ext m' m2) : CkJ m m2 N ev rf co EV B2 B6 NB LB B8 B9 MB c x := by
 obtain ⟨nl, h1, st⟩ := h.st
 obtain ⟨l, hl⟩ := h.mp
 exact ⟨⟨nl, h1, st.step e⟩, h.mb, qaf h.mlt e.n, h.mne, l, by rw [e.obj MB h.mlt]; exact hl⟩
theorem CkJ.row (h : CkJ m m' N ev rf co EV B2 B6 NB LB B8 B9 MB c x) (r : List Value) : CkJ m (Dx.newRow m' r) N ev rf co EV B2 B6 NB LB B8 B9 MB c ((m'.n, r) :: x) := by
 obtain ⟨nl, h1, st⟩ := h.st
 obtain ⟨l, hl⟩ := h.mp
 have hlt := h.mlt
 refine ⟨⟨nl, h1, st.row r⟩, h.mb, by rw [qn]; omega, ?_, l, by rw [(Ext.row m' r).obj MB hlt]; exact hl⟩
 have := h.mne
 simp at this ⊢
 exact ⟨by omega, this⟩
theorem CkJ.drop {p : Nat × List Value} (h : CkJ m m' N ev rf co EV B2 B6 NB LB B8 B9 MB c (p :: x)) : CkJ m m' N ev rf co EV B2 B6 NB LB B8 B9 MB c x := by
 obtain ⟨nl, h1, st⟩ := h.st
 obtain ⟨l, hl⟩ := h.mp
 have := h.mne
 refine ⟨⟨nl, h1, st.sub (fun q hq => by simp at hq ⊢; exact .inr hq) ?_⟩, h.mb, h.mlt, ?_, l, hl⟩
 ·have := st.nd
  simp only [List.cons_append, List.map_cons, List.nodup_cons] at this
  exact this.2
 ·simp at this ⊢
  exact this.2
theorem CkJ.put (h : CkJ m m' N ev rf co EV B2 B6 NB LB B8 B9 MB c x) {L : Nat} (hL : m.n ≤ L) (h1 : L ∉ x.map (·.1) ++ [B9, B8, LB, NB, B6, B2]) (h2 : L ≠ MB) (O : zw) : CkJ m (m'.put L O) N ev rf co EV B2 B6 NB LB B8 B9 MB c x := by
 obtain ⟨nl, g1, st⟩ := h.st
 obtain ⟨l, hl⟩ := h.mp
 refine ⟨⟨nl, g1, st.keepC (st.ext.putO st.base hL O) (by rw [M.n_put]; exact qad _) fun p hp => ?_⟩, h.mb, by rw [M.n_put]; exact h.mlt, h.mne, l, by rw [M.obj_put, if_neg (fun e => h2 e.symm)]; exact hl⟩
 rw [M.obj_put, if_neg]
 intro e
 apply h1
 rw [← e]
 have := List.mem_map_of_mem (f := (·.1)) hp
 simpa using this
theorem CkJ.mput (h : CkJ m m' N ev rf co EV B2 B6 NB LB B8 B9 MB c x) (l : List (Int × Int)) : CkJ m (m'.put MB (.map (mz l))) N ev rf co EV B2 B6 NB LB B8 B9 MB c x := by
 obtain ⟨nl, g1, st⟩ := h.st
 refine ⟨⟨nl, g1, st.keepC (st.ext.putO st.base h.mb _) (by rw [M.n_put]; exact qad _) fun p hp => ?_⟩, h.mb, by rw [M.n_put]; exact h.mlt, h.mne, l, by rw [M.obj_put, if_pos rfl]⟩
 rw [M.obj_put, if_neg]
 intro e
 apply h.mne
 rw [← e]
 have := List.mem_map_of_mem (f := (·.1)) hp
 simpa using this
theorem CkJ.nset (h : CkJ m m' N ev rf co EV B2 B6 NB LB B8 B9 MB c x) {i : Nat} (hi : i < EV.length) (v : Int) : ∃ m2, qO 1 (.pointer (some ⟨NB, i, none⟩)) (iv v) m' = some (undef, m2) ∧ CkJ m m2 N ev rf co EV B2 B6 NB LB B8 B9 MB c x ∧ m2.n = m'.n ∧ ∀ X, X ≠ NB → m2.obj X = m'.obj X := by
 obtain ⟨nl, g1, st⟩ := h.st
 obtain ⟨l, hl⟩ := h.mp
 have hk : (x ++ [(B9, [Value.map (some MB)]), (B8, [.pointer (some ⟨LB, 0, none⟩)]), (LB, zP N ev rf co (.slice (some ⟨NB, 0, some 3⟩) EV.length EV.length)), (NB, jL nl), (B6, r6c c), (B2, qc N ev rf co)])[x.length + 3]? = some (NB, jL nl) := by
  rw [qap (by omega)]
  simp
 obtain ⟨m2, s1, s2, s3, s4⟩ := st.store (x.length + 3) hk (o := i) (v := iv v) (by simp [jL]; omega) rfl
 have hne : MB ≠ NB := fun e => h.mne (by rw [e]; simp)
 refine ⟨m2, s1, ⟨⟨nl.set i v, by simpa using g1, ?_⟩, h.mb, by rw [s3]; exact h.mlt, h.mne, l, by rw [s4 MB hne]; exact hl⟩, s3, s4⟩
 have e : (jL nl).set i (iv v) = jL (nl.set i v) := by unfold jL; rw [List.map_set]
 rw [e, List.set_append_right _ _ (by omega)] at s2
 simpa using s2
theorem CkJ.at (h : CkJ m m' N ev rf co EV B2 B6 NB LB B8 B9 MB c x) : load1 m' ⟨B9, 0, none⟩ = some (.map (some MB)) ∧ load1 m' ⟨B8, 0, none⟩ = some (.pointer (some ⟨LB, 0, none⟩)) ∧ load1 m' ⟨LB, 9, none⟩ = some (.slice (some ⟨NB, 0, some 3⟩) EV.length EV.length) ∧
  (∀ o s, load1 m' ⟨B2, o, s⟩ = (qc N ev rf co)[o]?) ∧ LK m' LB N ev rf co (.slice (some ⟨NB, 0, some 3⟩) EV.length EV.length) := by
 obtain ⟨nl, g1, st⟩ := h.st
 have a9 := (st.arr (B9, [.map (some MB)]) (by simp)).2.2
 have a8 := (st.arr (B8, [.pointer (some ⟨LB, 0, none⟩)]) (by simp)).2.2
 have al := (st.arr (LB, zP N ev rf co (.slice (some ⟨NB, 0, some 3⟩) EV.length EV.length)) (by simp)).2
 have a2 := (st.arr (B2, qc N ev rf co) (by simp)).2.2
 exact ⟨a9.load1 0 none, a8.load1 0 none, al.2.load1 9 none, fun o s => a2.load1 o s, al.1, fun o s => al.2.load1 o s⟩
theorem CkJ.sees (h : CkJ m m' N ev rf co EV B2 B6 NB LB B8 B9 MB c x) : Sees m m' := by
 obtain ⟨nl, g1, st⟩ := h.st
 exact st.sees
set_option maxHeartbeats 1000000 in
theorem chkC (n : Nat) (hm : m.base ≤ m.n) (hev : Rd m ev 5 qp EV) (hl : EV.length ≤ 256) {kn : K} {ke : Nat → K} {kr : K} {Q : Option Out → Prop} {t : Tm} (h : CkJ m m' N ev rf co EV B2 B6 NB LB B8 B9 MB c []) (t2 : Tm.get 2 t = .pointer (some ⟨B2, 0, none⟩)) (t8 : Tm.get 8 t = .pointer (some ⟨B8, 0, none⟩)) (t9 : Tm.get 9 t = .pointer (some ⟨B9, 0, none⟩))
  (H : ∀ t' m2, CkJ m m2 N ev rf co EV B2 B6 NB LB B8 B9 MB c [] → Tm.get 2 t' = .pointer (some ⟨B2, 0, none⟩) → Tm.get 8 t' = .pointer (some ⟨B8, 0, none⟩) → Q (QT (ex Try.prog (n + 2)) kn ke kr t' m2)) : Q (QU (ex Try.prog (n + 2)) kn ke kr t m') := by
 have hel := hev.len
 have o1 := hev.okV
 have q1 : load1 m' ⟨B2, 1, none⟩ = some ev := h.at.2.2.2.1 1 none
 obtain ⟨v1, m3, c1, c2, rfl, c3⟩ := Zj (n + 1) ev o1 m'
 simp [t2, q1, c1, -XV]
 have h3 : CkJ m m3 N ev rf co EV B2 B6 NB LB B8 B9 MB c [(m'.n, [ev])] := by rw [c3]; exact h.row [ev]
 have n3 : m3.n = m'.n + 1 := by rw [c3, qn]
 have low3 := h3.low
 have hL1 : m3.n ∉ [(m'.n, [ev])].map (·.1) ++ [B9, B8, LB, NB, B6, B2] := fun hx => by have := (low3 _ hx).2; omega
 have hL2 : m3.n ≠ MB := fun e => by have := h3.mlt; omega
 have hL0 : m.n ≤ m3.n := h3.sees.n
 obtain ⟨W, hW⟩ := qay (m'.n)
 rw [← hW] at h3 hL1 ⊢
 obtain ⟨T, hT⟩ := qay (Tm.set 9 (.pointer (some ⟨B9, 0, none⟩)) (Tm.set 8 (.pointer (some ⟨B8, 0, none⟩)) Tm.junk))
 refine XK (c := YT) rfl (sa := JJ) (sb := JL) VX Ye (by omega) n (W := W) (ev := ev) (EV := EV) (by omega) ?_ (T := T) ?_ (fun i e => Tm.set 75 (.agg ⟨qp e⟩) (Tm.set 74 (iv i) T)) (fun i e => rfl)
  (fun k m' => CkJ m m' N ev rf co EV B2 B6 NB LB B8 B9 MB c [(W, [ev])]) (fun k m' _ hj => ?_) (fun m' e => h3.step e) (fun k m' O hj hlt => hj.put hL0 hL1 hL2 O) ?_ (fun m' hj _ => ?_)
 ·simp
 ·rw [hT]; simp [zr, t8, t9]
 ·obtain ⟨nl, g1, st⟩ := hj.st
  have aw := (st.arr (W, [ev]) (by simp)).2.2
  exact ⟨aw.load1 0 none, hev.sees hj.sees, hj.sees.base⟩
 ·intro k i e m1 hk hi he hj hlt
  have hil : i < EV.length := by omega
  obtain ⟨m2, s1, s2, s3, s4, s5⟩ := wJ (m := m1) hj.sees.base (zs := Vc) (l := qp e) (v := .agg ⟨qp e⟩) (n := 5) rfl rfl rfl (kS e)
  have J2 : CkJ m m2 N ev rf co EV B2 B6 NB LB B8 B9 MB c [(W, [ev])] := hj.step s4
  refine ⟨Tm.set 11 (.pointer (some ⟨m1.n, 0, none⟩)) (Tm.set 10 (iv i) (Tm.set 75 (.agg ⟨qp e⟩) (Tm.set 74 (iv i) T))), m2, fun kk => ?_, s4.obj _ hlt, s4.n, fun O => ?_⟩
  ·unfold JJ
   simp [s1]
  ·unfold JL
   obtain ⟨mp, hmp⟩ := qay (m2.put m3.n O)
   rw [← hmp]
   have hlt2 : m3.n < m2.n := qaf hlt s4.n
   have Jp : CkJ m mp N ev rf co EV B2 B6 NB LB B8 B9 MB c [(W, [ev])] := by rw [hmp]; exact J2.put hL0 hL1 hL2 O
   have op : mp.obj m3.n = some O := by rw [hmp, M.obj_put, if_pos rfl]
   have np : mp.n = m2.n := by rw [hmp, M.n_put]
   have hne11 : m1.n ≠ m3.n := by omega
   have b11 : ∀ o s, load1 mp ⟨m1.n, o, s⟩ = (qp e)[o]? := fun o s => by
    rw [hmp]
    have : load1 (m2.put m3.n O) ⟨m1.n, o, s⟩ = load1 m2 ⟨m1.n, o, s⟩ := by unfold load1 cellsOf; rw [M.obj_put, if_neg hne11]
    rw [this, s2]
   obtain ⟨k9, k8, kL, kB, kK⟩ := Jp.at
   have hix := kO NB EV.length i hil
   have low := Jp.low
   have hNB : m1.n ≠ NB := fun e => by have := (hj.low NB (by simp)).2; omega
   have hMB : m1.n ≠ MB := fun e => by have := hj.mlt; omega
   have hLN : m3.n ≠ NB := fun e => hL1 (by rw [e]; simp)
   have keep : ∀ {ma mb : M} (X : Nat), mb.obj X = ma.obj X → ∀ o s, load1 mb ⟨X, o, s⟩ = load1 ma ⟨X, o, s⟩ := fun X hX o s => by unfold load1 cellsOf; rw [hX]
   obtain ⟨m4, u1, J4, u3, u4⟩ := Jp.nset hil (-1)
   obtain ⟨r9, r8, rL, rB, rK⟩ := J4.at
   have b4 : ∀ o s, load1 m4 ⟨m1.n, o, s⟩ = (qp e)[o]? := fun o s => by rw [keep _ (u4 _ hNB)]; exact b11 o s
   have b40 : load1 m4 ⟨m1.n, 0, none⟩ = some (iv e.th) := b4 0 none
   have o4 : m4.obj m3.n = some O := by rw [u4 _ hLN]; exact op
   obtain ⟨l, hml⟩ := J4.mp
   have lk := lk_mz2 hml e.th
   by_cases hcond : (fdL e.th l).isSome = true ∧ 0 ≤ e.th
   ·obtain ⟨hs, hge⟩ := hcond
    rw [hs] at lk
    obtain ⟨v, hv⟩ := qay ((fdL e.th l).getD 0)
    rw [← hv] at lk
    obtain ⟨m5, w1, J5, w3, w4⟩ := J4.nset hil v
    obtain ⟨x9, x8, xL, xB, xK⟩ := J5.at
    have b50 : load1 m5 ⟨m1.n, 0, none⟩ = some (iv e.th) := by rw [keep _ (w4 _ hNB)]; exact b40
    have o5 : m5.obj m3.n = some O := by rw [w4 _ hLN]; exact o4
    obtain ⟨l5, hml5⟩ := J5.mp
    have mu := Wh hml5 e.th (i : Int)
    simp [hT, k8, kL, hix, u1, r9, b40, lk, hge, r8, rL, w1, x9, b50, mu]
    exact wW ⟨rfl, by rw [M.obj_put, if_neg hL2]; exact o5, by rw [M.n_put]; have := s4.n; omega, J5.mput _⟩
   ·have mu := Wh hml e.th (i : Int)
    have hx : ((fdL e.th l).isSome = true → ¬ 0 ≤ e.th) := fun h1 h2 => hcond ⟨h1, h2⟩
    obtain ⟨bs, hbs⟩ := qay ((fdL e.th l).isSome)
    obtain ⟨v, hv⟩ := qay ((fdL e.th l).getD 0)
    rw [← hbs, ← hv] at lk
    rw [← hbs] at hx
    have fin : CkJ m (m4.put MB (.map (mz (ptL e.th (i : Int) l)))) N ev rf co EV B2 B6 NB LB B8 B9 MB c [(W, [ev])] := J4.mput _
    cases bs with
    | false =>
     simp [hT, k8, kL, hix, u1, r9, b40, lk, mu]
     exact wW ⟨rfl, by rw [M.obj_put, if_neg hL2]; exact o4, by rw [M.n_put]; have := s4.n; omega, fin⟩
    | true =>
     have hlt0 : (0 ≤ e.th) = False := eq_false (hx rfl)
     simp [hT, k8, kL, hix, u1, r9, b40, lk, mu, hlt0]
     exact wW ⟨rfl, by rw [M.obj_put, if_neg hL2]; exact o4, by rw [M.n_put]; have := s4.n; omega, fin⟩
 ·exact H _ m' hj.drop (by simp [t2]) (by simp [t8])
end
end Go.Sx
namespace Go.Sx
open Go.Dx Go.Proofs
structure AR where
 op : Int
 dst : Int
 base : Int
 mode : Int
 e : Option (Nat × Int × Nat)
def eV : Option (Nat × Int × Nat) → Value
 | none => .slice none 0 0
 | some (B, _) => .slice (some ⟨B, 0, some 9⟩) 1 1
def zj (r : AR) : List Value := [iv r.op, iv r.dst, iv r.base, iv 0, .slice none 0 0, eV r.e, .slice none 0 0, iv r.mode, iv 0, iv 0, iv 0]
def zi (op : Int) (v : Nat) : List Value := [iv op, .int .u64 v, iv 0, iv 0]
def kA (x : Nat) : List Value := [.int .u64 x]
theorem eV_ok (e : Option (Nat × Int × Nat)) : okC (eV e) = true := by cases e <;> rfl
theorem yt (r : AR) : (zj r).length = 11 := rfl
theorem fO (r : AR) : ∀ v ∈ zj r, okC v = true := by simp [zj, okC]; exact eV_ok _
theorem xO (r : Nat) : (kA r).length = 1 := rfl
theorem Qt (r : Nat) : ∀ v ∈ kA r, okC v = true := by simp [kA, okC]
structure WB where
 q5 : Nat
 W : Nat
 P8 : Nat
 TB : Nat
 P9 : Nat
 OB : Nat
 PB : Nat
def xZ (loc : Nat → Nat) (va : Nat → Value) (j : Nat) : List Value := [iv (loc j), va j]
def dq (vo : Nat → Value) (j : Nat) : List Value := [vo j]
def WB.σ (u : WB) (N nt : Nat) (fv : Value) (loc : Nat → Nat) (va vo : Nat → Value) : List (Nat × List Value) :=
 [(u.W, [.pointer (some ⟨u.PB, 0, none⟩)]), (u.TB, (List.range nt).flatMap (xZ loc va)), (u.OB, (List.range nt).flatMap (dq vo)), (u.P9, [fv, .slice (some ⟨u.OB, 0, some 3⟩) nt nt]), (u.P8, [iv N, .slice (some ⟨u.TB, 0, some 5⟩) nt nt]), (u.q5, [.pointer (some ⟨u.PB, 0, none⟩)])]
structure WI (m1 m : M) (u : WB) (N nt : Nat) (fv : Value) (loc : Nat → Nat) (va vo : Nat → Value) (A : Nat → List AR) (O : Nat → List Nat) (tag : Nat → Nat) : Prop where
 st : St m1 m (u.σ N nt fv loc va vo)
 t0 : ∀ p ∈ u.σ N nt fv loc va vo, tag p.1 = 0
 ga : ∀ j, j < nt → Grown m1 m (va j) 11 zj (A j) ∧ ∀ B, blk (va j) = some B → tag B = 2 + 2 * j
 go : ∀ j, j < nt → Grown m1 m (vo j) 1 kA (O j) ∧ ∀ B, blk (vo j) = some B → tag B = 3 + 2 * j
 ge : ∀ j, j < nt → ∀ r, r ∈ A j → ∀ B op v, r.e = some (B, op, v) → m1.n ≤ B ∧ B < m.n ∧ Arr m B (zi op v) ∧ tag B = 1
section
variable {m1 m : M} {u : WB} {N nt : Nat} {fv : Value} {loc : Nat → Nat} {va vo : Nat → Value} {A : Nat → List AR} {O : Nat → List Nat} {tag : Nat → Nat}
theorem WI.step (h : WI m1 m u N nt fv loc va vo A O tag) {m' : M} (e : Ext m m') : WI m1 m' u N nt fv loc va vo A O tag :=
 ⟨h.st.step e, h.t0, fun j hj => ⟨(h.ga j hj).1.ext e, (h.ga j hj).2⟩, fun j hj => ⟨(h.go j hj).1.ext e, (h.go j hj).2⟩, fun j hj r hr B op v hB => let ⟨a, b, c, d⟩ := h.ge j hj r hr B op v hB; ⟨a, qaf b e.n, c.ext e b, d⟩⟩
theorem WI.putL (h : WI m1 m u N nt fv loc va vo A O tag) {L : Nat} (hL : ∀ p ∈ u.σ N nt fv loc va vo, p.1 ≠ L) (h0 : m1.n ≤ L) (ht : tag L = 0) (o : zw) : WI m1 (m.put L o) u N nt fv loc va vo A O tag := by
 have ne : ∀ B, tag B ≠ 0 → (m.put L o).obj B = m.obj B := fun B hB => by rw [M.obj_put, if_neg (by rintro rfl; exact hB ht)]
 refine ⟨h.st.putL hL h0 o, h.t0, fun j hj => ⟨(h.ga j hj).1.keep (by rw [M.n_put]; exact qad _) fun B _ hB => ne B ?_, (h.ga j hj).2⟩, fun j hj => ⟨(h.go j hj).1.keep (by rw [M.n_put]; exact qad _) fun B _ hB => ne B ?_, (h.go j hj).2⟩, fun j hj r hr B op v hB => ?_⟩
 ·rw [(h.ga j hj).2 B hB]; omega
 ·rw [(h.go j hj).2 B hB]; omega
 ·obtain ⟨a, b, c, d⟩ := h.ge j hj r hr B op v hB
  exact ⟨a, by rw [M.n_put]; exact b, c.congr (ne B (by rw [d]; omega)), d⟩
theorem WI.act' (h : WI m1 m u N nt fv loc va vo A O tag) {j : Nat} (hj : j < nt) (r : AR) {M1 : M} (hM : Ext m M1) (hE : ∀ B op v, r.e = some (B, op, v) → m.n ≤ B ∧ B < M1.n ∧ Arr M1 B (zi op v))
  {v' : Value} {m2 m3 : M} (e2 : Ext m1 m2) (g2 : Grown m1 m2 v' 11 zj (A j ++ [r])) (n2 : M1.n ≤ m2.n) (k2 : ∀ B, B < M1.n → blk (va j) ≠ some B → m2.obj B = M1.obj B) (b2 : ∀ B, blk v' = some B → M1.n ≤ B)
  (s3 : St m1 m2 (u.σ N nt fv loc va vo) → St m1 m3 ((u.σ N nt fv loc va vo).set 1 (u.TB, ((List.range nt).flatMap (xZ loc va)).set (j * 2 + 1) v')) ∧ m3.n = m2.n ∧ ∀ X, X ≠ u.TB → m3.obj X = m2.obj X) :
  ∃ tag', WI m1 m3 u N nt fv loc (upN va j v') vo (upN A j (A j ++ [r])) O tag' ∧ M1.n ≤ m3.n ∧ ∀ L, L < m.n → tag L = 0 → tag' L = 0 ∧ (L ≠ u.TB → m3.obj L = m.obj L) := by
 have hvj := (h.ga j hj).2
 have low := grown_low (h.ga j hj).1
 have ne0 : ∀ B, tag B ≠ 2 + 2 * j → blk (va j) ≠ some B := fun B hB hc => hB (hvj B hc)
 have keep2 : ∀ B, B < m.n → tag B ≠ 2 + 2 * j → m2.obj B = m.obj B := fun B hB ht => (k2 B (by have := hM.n; omega) (ne0 B ht)).trans (hM.obj B hB)
 have st2 : St m1 m2 (u.σ N nt fv loc va vo) := h.st.keepOn e2 (by have := hM.n; omega) fun p hp => keep2 p.1 (h.st.arr p hp).2.1 (by rw [h.t0 p hp]; omega)
 obtain ⟨q1, q2, q3⟩ := s3 st2
 have hTB : tag u.TB = 0 := h.t0 (u.TB, (List.range nt).flatMap (xZ loc va)) (by unfold WB.σ; simp)
 have hset : ((List.range nt).flatMap (xZ loc va)).set (j * 2 + 1) v' = (List.range nt).flatMap (xZ loc (upN va j v')) :=
  vu (e := 2) (fun k => rfl) (by omega) (fun k hk => by unfold xZ; rw [wz _ _ hk]) (by unfold xZ; rw [qK]; rfl) nt hj
 have st3 : St m1 m3 (u.σ N nt fv loc (upN va j v') vo) := by
  have e : (u.σ N nt fv loc va vo).set 1 (u.TB, ((List.range nt).flatMap (xZ loc va)).set (j * 2 + 1) v') = u.σ N nt fv loc (upN va j v') vo := by rw [hset]; rfl
  rw [← e]; exact q1
 have hTBm : u.TB < m.n := (h.st.get 1 rfl).2.1
 obtain ⟨tag', htag⟩ : ∃ tag' : Nat → Nat, tag' = fun B => if B < m.n then tag B else if blk v' = some B then 2 + 2 * j else 1 := ⟨_, rfl⟩
 have told : ∀ B, B < m.n → tag' B = tag B := fun B hB => by rw [htag]; simp [hB]
 have tnew : ∀ B, blk v' = some B → tag' B = 2 + 2 * j := fun B hB => by
  have h1 := b2 B hB; have h2 := hM.n
  rw [htag]; simp only; rw [if_neg (by omega), if_pos hB]
 have keep3 : ∀ B, B < m.n → tag B ≠ 2 + 2 * j → B ≠ u.TB → m3.obj B = m.obj B := fun B hB ht hne => (q3 B hne).trans (keep2 B hB ht)
 refine ⟨tag', ⟨st3, fun p hp => ?_, fun k hk => ?_, fun k hk => ?_, fun k hk x hx B op v hB => ?_⟩, by omega, fun L hL ht => ⟨by rw [told L hL]; exact ht, fun hne => keep3 L hL (by omega) hne⟩⟩
 ·have hk : p.1 ∈ (u.σ N nt fv loc va vo).map (·.1) := by
   have e : (u.σ N nt fv loc va vo).map (·.1) = (u.σ N nt fv loc (upN va j v') vo).map (·.1) := rfl
   rw [e]; exact List.mem_map.2 ⟨_, hp, rfl⟩
  obtain ⟨p', hp', e⟩ := List.mem_map.1 hk
  rw [← e, told _ (h.st.arr p' hp').2.1]; exact h.t0 p' hp'
 ·by_cases e : k = j
  ·subst e
   rw [qK, qK]
   refine ⟨g2.keep (by omega) fun B hB hb => q3 B (by have := b2 B hb; have := hM.n; omega), tnew⟩
  ·rw [wz _ _ e, wz _ _ e]
   obtain ⟨g, t⟩ := h.ga k hk
   have lk := grown_low g
   refine ⟨g.keep (by have := hM.n; omega) fun B hB hb => keep3 B hB (by rw [t B hb]; omega) (by rintro rfl; have := t _ hb; omega), fun B hB => by rw [told _ (lk B hB).2]; exact t B hB⟩
 ·obtain ⟨g, t⟩ := h.go k hk
  have lk := grown_low g
  refine ⟨g.keep (by have := hM.n; omega) fun B hB hb => keep3 B hB (by rw [t B hb]; omega) (by rintro rfl; have := t _ hb; omega), fun B hB => by rw [told _ (lk B hB).2]; exact t B hB⟩
 ·have old : x ∈ A k → m1.n ≤ B ∧ B < m3.n ∧ Arr m3 B (zi op v) ∧ tag' B = 1 := fun hx => by
   obtain ⟨a, b, c, d⟩ := h.ge k hk x hx B op v hB
   refine ⟨a, by have := hM.n; omega, c.congr (keep3 B b (by omega) (by rintro rfl; omega)), by rw [told B b]; exact d⟩
  by_cases e : k = j
  ·subst e
   rw [qK] at hx
   rcases qax.1 hx with hx | hx
   ·exact old hx
   ·rw [qah.1 hx] at hB
    obtain ⟨a, b, c⟩ := hE B op v hB
    have hm1 := h.st.ext.n
    have hnb : blk v' ≠ some B := fun hc => by have := b2 B hc; omega
    refine ⟨by omega, by omega, c.congr ?_, ?_⟩
    ·rw [q3 B (by omega)]
     exact k2 B b fun hc => by have := (low B hc).2; omega
    ·rw [htag]; simp only; rw [if_neg (by omega), if_neg hnb]
  ·rw [wz _ _ e] at hx; exact old hx
theorem WI.act (h : WI m1 m u N nt fv loc va vo A O tag) (hb1 : m1.base ≤ m1.n) {j : Nat} (hj : j < nt) (r : AR) {M1 : M} (hM : Ext m M1) (hE : ∀ B op v, r.e = some (B, op, v) → m.n ≤ B ∧ B < M1.n ∧ Arr M1 B (zi op v)) {X : Nat} {sp : Option Nat}
  (hx : loads M1 ⟨X, 0, sp⟩ 11 = some (zj r)) (hl : (A j).length ≤ 1000) : ∃ v' m2 m3, qZ M1 11 136 (va j) (.slice (some ⟨X, 0, sp⟩) 1 1) = some (v', m2) ∧ qO 1 (.pointer (some ⟨u.TB, j * 2 + 1, none⟩)) v' m2 = some (undef, m3) ∧
   ∃ tag', WI m1 m3 u N nt fv loc (upN va j v') vo (upN A j (A j ++ [r])) O tag' ∧ M1.n ≤ m3.n ∧ ∀ L, L < m.n → tag L = 0 → tag' L = 0 ∧ (L ≠ u.TB → m3.obj L = m.obj L) := by
 obtain ⟨v', m2, p1, p2, p3, p4, p5, p6⟩ := ((h.ga j hj).1.ext hM).append (h.st.ext.trans hM) hb1 (by omega) yt fO hx (bytes := 136) (by unfold most; omega) (by omega)
 have hst2 : St m1 m2 (u.σ N nt fv loc va vo) := h.st.keepOn p2 (by have := hM.n; omega) fun p hp => by
  have hp2 := (h.st.arr p hp).2.1
  rw [p5 p.1 (by have := hM.n; omega) (fun hc => by have := (h.ga j hj).2 _ hc; rw [h.t0 p hp] at this; omega)]
  exact hM.obj _ hp2
 have hlen : ((List.range nt).flatMap (xZ loc va)).length = nt * 2 := jt fun _ => rfl
 obtain ⟨m3, s1, s2, s3, s4⟩ := hst2.store 1 rfl (o := j * 2 + 1) (v := v') (by rw [hlen]; omega) p3.okC
 exact ⟨v', m2, m3, p1, s1, h.act' hj r hM hE p2 p3 p4 p5 p6 fun _ => ⟨s2, s3, s4⟩⟩
theorem WI.actAny (h : WI m1 m u N nt fv loc va vo A O tag) (hb1 : m1.base ≤ m1.n) {j : Nat} (hj : j < nt) (r : AR) {M1 : M} (hM : Ext m M1) (hE : ∀ B op v, r.e = some (B, op, v) → m.n ≤ B ∧ B < M1.n ∧ Arr M1 B (zi op v)) {X : Nat} {sp : Option Nat}
  (hx : loads M1 ⟨X, 0, sp⟩ 11 = some (zj r)) (hl : (A j).length ≤ 1000) : ∃ v' m2 m3, qZ (qh M1) 11 136 (va j) (.slice (some ⟨X, 0, sp⟩) 1 1) = some (v', m2) ∧ qO 1 (.pointer (some ⟨u.TB, j * 2 + 1, none⟩)) v' (qh (behind M1 m2)) = some (undef, m3) ∧
   ∃ tag', WI m1 (behind (behind M1 m2) m3) u N nt fv loc (upN va j v') vo (upN A j (A j ++ [r])) O tag' ∧ M1.n ≤ (behind (behind M1 m2) m3).n ∧ ∀ L, L < m.n → tag L = 0 → tag' L = 0 ∧ (L ≠ u.TB → (behind (behind M1 m2) m3).obj L = m.obj L) := by
 obtain ⟨v', m2', p1, p1', p2, p3, p4, p5, p6⟩ := ((h.ga j hj).1.ext hM).appendAny (h.st.ext.trans hM) hb1 (by omega) yt fO hx (bytes := 136) (by unfold most; omega) (by omega)
 obtain ⟨m2, hm2⟩ := qay (behind M1 m2')
 rw [← hm2] at p2 p3 p4 p5
 have hst2 : St m1 m2 (u.σ N nt fv loc va vo) := h.st.keepOn p2 (by have := hM.n; omega) fun p hp => by
  have hp2 := (h.st.arr p hp).2.1
  rw [p5 p.1 (by have := hM.n; omega) (fun hc => by have := (h.ga j hj).2 _ hc; rw [h.t0 p hp] at this; omega)]
  exact hM.obj _ hp2
 have hlen : ((List.range nt).flatMap (xZ loc va)).length = nt * 2 := jt fun _ => rfl
 obtain ⟨m3, s1, s1', s2, s3, s4⟩ := hst2.storeAny 1 rfl (o := j * 2 + 1) (v := v') (by rw [hlen]; omega) p3.okC
 refine ⟨v', m2', m3, p1, by rw [← hm2]; exact s1, ?_⟩
 rw [← hm2]
 exact h.act' hj r hM hE p2 p3 p4 p5 p6 fun _ => ⟨s2, s3, s4⟩
theorem WI.local (h : WI m1 m u N nt fv loc va vo A O tag) {j : Nat} (hj : j < nt) (x : Nat) : ∃ m3, qO 1 (.pointer (some ⟨u.TB, j * 2, none⟩)) (iv x) m = some (undef, m3) ∧ WI m1 m3 u N nt fv (upN loc j x) va vo A O tag ∧ m.n ≤ m3.n ∧ ∀ X, X ≠ u.TB → m3.obj X = m.obj X := by
 have hlen : ((List.range nt).flatMap (xZ loc va)).length = nt * 2 := jt fun _ => rfl
 obtain ⟨m3, s1, s2, s3, s4⟩ := h.st.store 1 rfl (o := j * 2) (v := iv x) (by rw [hlen]; omega) rfl
 have hset : ((List.range nt).flatMap (xZ loc va)).set (j * 2) (iv x) = (List.range nt).flatMap (xZ (upN loc j x) va) :=
  vu (e := 2) (o := 0) (fun k => rfl) (by omega) (fun k hk => by unfold xZ; rw [wz _ _ hk]) (by unfold xZ; rw [qK]; rfl) nt hj
 have st3 : St m1 m3 (u.σ N nt fv (upN loc j x) va vo) := by
  have e : (u.σ N nt fv loc va vo).set 1 (u.TB, ((List.range nt).flatMap (xZ loc va)).set (j * 2) (iv x)) = u.σ N nt fv (upN loc j x) va vo := by rw [hset]; rfl
  rw [← e]; exact s2
 have hTB : tag u.TB = 0 := h.t0 (u.TB, (List.range nt).flatMap (xZ loc va)) (by unfold WB.σ; simp)
 refine ⟨m3, s1, ⟨st3, fun p hp => ?_, fun k hk => ?_, fun k hk => ?_, fun k hk y hy B op v hB => ?_⟩, by omega, s4⟩
 ·have hk : p.1 ∈ (u.σ N nt fv loc va vo).map (·.1) := by
   have e : (u.σ N nt fv loc va vo).map (·.1) = (u.σ N nt fv (upN loc j x) va vo).map (·.1) := rfl
   rw [e]; exact List.mem_map.2 ⟨_, hp, rfl⟩
  obtain ⟨p', hp', e⟩ := List.mem_map.1 hk
  rw [← e]; exact h.t0 p' hp'
 ·obtain ⟨g, t⟩ := h.ga k hk
  exact ⟨g.keep (by omega) fun B hB hb => s4 B (by rintro rfl; have := t _ hb; omega), t⟩
 ·obtain ⟨g, t⟩ := h.go k hk
  exact ⟨g.keep (by omega) fun B hB hb => s4 B (by rintro rfl; have := t _ hb; omega), t⟩
 ·obtain ⟨a, b, c, d⟩ := h.ge k hk y hy B op v hB
  exact ⟨a, by omega, c.congr (s4 B (by rintro rfl; omega)), d⟩
theorem WI.out (h : WI m1 m u N nt fv loc va vo A O tag) (hb1 : m1.base ≤ m1.n) {j : Nat} (hj : j < nt) (x : Nat) {M1 : M} (hM : Ext m M1) {X : Nat} {sp : Option Nat}
  (hx : loads M1 ⟨X, 0, sp⟩ 1 = some (kA x)) (hl : (O j).length ≤ 1000) : ∃ v' m2 m3, qZ (qh M1) 1 8 (vo j) (.slice (some ⟨X, 0, sp⟩) 1 1) = some (v', m2) ∧ (m2.log = [] ∨ ∃ B, blk (vo j) = some B ∧ m2.log = [B]) ∧ qO 1 (.pointer (some ⟨u.OB, j, none⟩)) v' (qh (behind M1 m2)) = some (undef, m3) ∧
   ∃ tag', WI m1 (behind (behind M1 m2) m3) u N nt fv loc va (upN vo j v') A (upN O j (O j ++ [x])) tag' ∧ M1.n ≤ (behind (behind M1 m2) m3).n ∧ ∀ L, L < m.n → tag L = 0 → tag' L = 0 ∧ (L ≠ u.OB → (behind (behind M1 m2) m3).obj L = m.obj L) := by
 obtain ⟨v', m2', p1, p1', p2, g2, n2, k2, b2⟩ := ((h.go j hj).1.ext hM).appendAny (h.st.ext.trans hM) hb1 (by omega) xO Qt hx (bytes := 8) (by unfold most; omega) (by omega)
 obtain ⟨m2, hm2⟩ := qay (behind M1 m2')
 rw [← hm2] at p2 g2 n2 k2
 have hvj := (h.go j hj).2
 have low := grown_low (h.go j hj).1
 have keep2 : ∀ B, B < m.n → tag B ≠ 3 + 2 * j → m2.obj B = m.obj B := fun B hB ht => (k2 B (by have := hM.n; omega) (fun hc => ht (hvj B hc))).trans (hM.obj B hB)
 have st2 : St m1 m2 (u.σ N nt fv loc va vo) := h.st.keepOn p2 (by have := hM.n; omega) fun p hp => keep2 p.1 (h.st.arr p hp).2.1 (by rw [h.t0 p hp]; omega)
 have hlen : ((List.range nt).flatMap (dq vo)).length = nt * 1 := jt fun _ => rfl
 obtain ⟨m3', s1, s1', s2, s3, s4⟩ := st2.storeAny 2 rfl (o := j) (v := v') (by rw [hlen]; omega) g2.okC
 refine ⟨v', m2', m3', p1, p1', by rw [← hm2]; exact s1, ?_⟩
 rw [← hm2]
 obtain ⟨m3, hm3⟩ := qay (behind m2 m3')
 rw [← hm3] at s2 s3 s4 ⊢
 have hOB : tag u.OB = 0 := h.t0 (u.OB, (List.range nt).flatMap (dq vo)) (by unfold WB.σ; simp)
 have hset : ((List.range nt).flatMap (dq vo)).set j v' = (List.range nt).flatMap (dq (upN vo j v')) := by
  have := vu (e := 1) (o := 0) (j := j) (v := v') (f := dq vo) (g := dq (upN vo j v')) (fun k => rfl) (by omega) (fun k hk => by unfold dq; rw [wz _ _ hk]) (by unfold dq; rw [qK]; rfl) nt hj
  rwa [Nat.mul_one, Nat.add_zero] at this
 have st3 : St m1 m3 (u.σ N nt fv loc va (upN vo j v')) := by
  have e : (u.σ N nt fv loc va vo).set 2 (u.OB, ((List.range nt).flatMap (dq vo)).set j v') = u.σ N nt fv loc va (upN vo j v') := by rw [hset]; rfl
  rw [← e]; exact s2
 have hOBm : u.OB < m.n := (h.st.get 2 rfl).2.1
 obtain ⟨tag', htag⟩ : ∃ tag' : Nat → Nat, tag' = fun B => if B < m.n then tag B else 3 + 2 * j := ⟨_, rfl⟩
 have told : ∀ B, B < m.n → tag' B = tag B := fun B hB => by rw [htag]; simp [hB]
 have tnew : ∀ B, blk v' = some B → tag' B = 3 + 2 * j := fun B hB => by
  have h1 := b2 B hB; have h2 := hM.n
  rw [htag]; simp only; rw [if_neg (by omega)]
 have keep3 : ∀ B, B < m.n → tag B ≠ 3 + 2 * j → B ≠ u.OB → m3.obj B = m.obj B := fun B hB ht hne => (s4 B hne).trans (keep2 B hB ht)
 have hMn := hM.n
 refine ⟨tag', ⟨st3, fun p hp => ?_, fun k hk => ?_, fun k hk => ?_, fun k hk y hy B op v hB => ?_⟩, by omega, fun L hL ht => ⟨by rw [told L hL]; exact ht, fun hne => keep3 L hL (by omega) hne⟩⟩
 ·have hk : p.1 ∈ (u.σ N nt fv loc va vo).map (·.1) := by
   have e : (u.σ N nt fv loc va vo).map (·.1) = (u.σ N nt fv loc va (upN vo j v')).map (·.1) := rfl
   rw [e]; exact List.mem_map.2 ⟨_, hp, rfl⟩
  obtain ⟨p', hp', e⟩ := List.mem_map.1 hk
  rw [← e, told _ (h.st.arr p' hp').2.1]; exact h.t0 p' hp'
 ·obtain ⟨g, t⟩ := h.ga k hk
  have lk := grown_low g
  exact ⟨g.keep (by omega) fun B hB hb => keep3 B hB (by rw [t B hb]; omega) (by rintro rfl; have := t _ hb; omega), fun B hB => by rw [told _ (lk B hB).2]; exact t B hB⟩
 ·by_cases e : k = j
  ·subst e
   rw [qK, qK]
   exact ⟨g2.keep (by omega) fun B hB hb => s4 B (by have := b2 B hb; omega), tnew⟩
  ·rw [wz _ _ e, wz _ _ e]
   obtain ⟨g, t⟩ := h.go k hk
   have lk := grown_low g
   exact ⟨g.keep (by omega) fun B hB hb => keep3 B hB (by rw [t B hb]; omega) (by rintro rfl; have := t _ hb; omega), fun B hB => by rw [told _ (lk B hB).2]; exact t B hB⟩
 ·obtain ⟨a, b, c, d⟩ := h.ge k hk y hy B op v hB
  exact ⟨a, by omega, c.congr (keep3 B b (by omega) (by rintro rfl; omega)), by rw [told B b]; exact d⟩
end
end Go.Sx
namespace Go.Sx
open Go.Dx Go.Proofs
set_option maxRecDepth 10000
section
variable {m m' m2 : M} {N : Nat} {ev rf co : Value} {EV : List EvR} {B2 B6 NB LB B8 B9 MB c : Nat} {RF : List (Nat × Nat)} {CO : List (List Nat)}
@[simp] theorem bslice2i (m : M) (a b : Int) : kQ 1 2 (rep 2 [.int .i64 0]) [(0, 1, .int .i64 a), (1, 1, .int .i64 b)] m = some (.slice (some ⟨m.n, 0, some 3⟩) 2 2, Dx.newRow m [iv a, iv b]) := _root_.id rfl
theorem chkD (n : Nat) (hm : m.base ≤ m.n) (hev : Rd m ev 5 qp EV) (hrf : Rd m rf 2 qq RF) {sv : Nat → Value} (hco : Rd m co 1 (fun v : Value => [v]) ((List.range N).map sv)) (hsp : Sp 1 co) (hsv : ∀ c l, CO[c]? = some l → Rd m (sv c) 1 wa l) (wf : WFg N EV RF CO)
  {kn : K} {ke : Nat → K} {t : Tm} (h : CkJ m m' N ev rf co EV B2 B6 NB LB B8 B9 MB c []) (t2 : Tm.get 2 t = .pointer (some ⟨B2, 0, none⟩)) (t8 : Tm.get 8 t = .pointer (some ⟨B8, 0, none⟩)) :
  Ret m (fun v _ => v = .tuple #[iv 0, iv 0]) (QT (ex Try.prog (n + 3)) kn ke (zV [.t 4, .t 5]) t m') := by
 have hS := h.sees
 obtain ⟨v1, m1, c1, c2, rfl⟩ := Fv n hS.base h.at.2.2.2.2 (hev.sees hS) wf
 have h1 := h.step c2
 have hS1 := h1.sees
 obtain ⟨v2, m2, d1, d2, rfl⟩ := rf_c (n + 1) hS1.base h1.at.2.2.2.2 (hev.sees hS1) (hrf.sees hS1) wf
 have h2 := h1.step d2
 have hS2 := h2.sees
 obtain ⟨v3, m3, e1, e2, rfl⟩ := co_c (n + 1) hS2.base h2.at.2.2.2.2 (hev.sees hS2) wf (hco.sees hS2) hsp (fun c l hc => (hsv c l hc).sees hS2)
 have h3 := h2.step e2
 have hS3 := h3.sees
 obtain ⟨v4, m4, f1, f2, rfl⟩ := rmw_c (n + 2) hS3.base h3.at.2.2.2.2
 have h4 := h3.step f2
 have a8 := h.at.2.1
 have a81 := h1.at.2.1
 have a82 := h2.at.2.1
 have a83 := h3.at.2.1
 have a84 := h4.at.2.1
 have b45 : load1 m4 ⟨B2, 5, none⟩ = some (.slice none 0 0) := h4.at.2.2.2.1 5 none
 have h5 := h4.step (Ext.row m4 [iv 1, iv 2])
 obtain ⟨v5, m5, g1, g2, rfl⟩ := ZR (n + 2) (.slice (some ⟨m4.n, 0, some 3⟩) 2 2) h5.sees.base h5.at.2.2.2.2
 have h6 := h5.step g2
 have a85 := h6.at.2.1
 have b55 : load1 m5 ⟨B2, 6, none⟩ = some (.slice none 0 0) := h6.at.2.2.2.1 6 none
 have h7 := h6.step (Ext.row m5 [iv 2])
 obtain ⟨v6, m6, i1, i2, rfl⟩ := ZR (n + 2) (.slice (some ⟨m5.n, 0, some 3⟩) 1 1) h7.sees.base h7.at.2.2.2.2
 have h8 := h7.step i2
 have a86 := h8.at.2.1
 have b65 : load1 m6 ⟨B2, 7, none⟩ = some (.slice none 0 0) := h8.at.2.2.2.1 7 none
 have h9 := h8.step (Ext.row m6 [iv 1, iv 2, iv 3])
 obtain ⟨v7, m7, j1, j2, rfl⟩ := ZR (n + 2) (.slice (some ⟨m6.n, 0, some 3⟩) 3 3) h9.sees.base h9.at.2.2.2.2
 have h10 := h9.step j2
 obtain ⟨nl, _, st⟩ := h10.st
 simp [t2, t8, a8, c1, a81, d1, a82, e1, a83, f1, a84, b45, g1, a85, b55, i1, a86, b65, j1]
 exact fE st.ext (by simp)
structure GrV (m : M) (N : Nat) (EV : List EvR) (RF : List (Nat × Nat)) (CO : List (List Nat)) (ev rf co : Value) (sv : Nat → Value) : Prop where
 sp : Sp 1 co
 svs : ∀ c l, CO[c]? = some l → Rd m (sv c) 1 wa l
 ev : Rd m ev 5 qp EV
 rf : Rd m rf 2 qq RF
 co : Rd m co 1 (fun v : Value => [v]) ((List.range N).map sv)
theorem GrV.sees {m m' : M} {sv : Nat → Value} (h : GrV m N EV RF CO ev rf co sv) (k : Sees m m') : GrV m' N EV RF CO ev rf co sv :=
 ⟨h.sp, fun c l hc => (h.svs c l hc).sees k, h.ev.sees k, h.rf.sees k, h.co.sees k⟩
variable {sv : Nat → Value}
theorem Chk_c (n : Nat) (hm : m.base ≤ m.n) (h : GrV m N EV RF CO ev rf co sv) (wf : WFg N EV RF CO) : CallV (ex Try.prog (n + 4)) 84 [.agg ⟨qc N ev rf co⟩, .bool false] m (.tuple #[iv 0, iv 0]) := by
 refine qE dc4_ok (by simp) ?_
 refine chkA (n + 3) hm h.ev h.rf.okV h.co.okV wf (by simp) (by simp) fun t' m' B2 B6 c st t2 t1 => ?_
 refine chkB (n + 3) hm h.ev h.rf.okV h.co.okV wf st t2 t1 fun t' m2 NB LB B8 B9 MB hj t2 t8 t9 => ?_
 refine chkC (n + 1) hm h.ev wf.n2 hj t2 t8 t9 fun t' m3 hj t2 t8 => ?_
 exact chkD n hm h.ev h.rf h.co h.sp h.svs wf hj t2 t8
theorem good_c (n : Nat) (hm : m.base ≤ m.n) (h : GrV m N EV RF CO ev rf co sv) (wf : WFg N EV RF CO) : CallV (ex Try.prog (n + 5)) 65 [.agg ⟨qc N ev rf co⟩] m (.bool true) := by
 refine qE db5_ok (by simp) ?_
 have st0 := (St.nil hm (Ext.refl m)).row (qc N ev rf co)
 obtain ⟨m1, hm1⟩ := qay (Dx.newRow m (qc N ev rf co))
 rw [← hm1] at st0
 have l8 : loads m1 ⟨m.n, 0, none⟩ 8 = some (qc N ev rf co) := (st0.get 0 rfl).2.2.loads (n := 8) (by simp [qc])
 obtain ⟨v2, m2, c1, c2, rfl⟩ := Chk_c n st0.sees.base (h.sees st0.sees) wf
 simp [← hm1, l8, ql, c1]
 exact qX (st0.ext.trans c2) (by simp)
def QZ (EV : List EvR) (l : List Nat) : Nat := match EV[l.getD (l.length - 1) 0]? with
 | some e => e.val
 | none => 0
def QY (EV : List EvR) (CO : List (List Nat)) : List Nat := CO.map (QZ EV)
def uns (l : List Nat) : List Value := l.map fun (n : Nat) => Value.int .u64 (n : Int)
theorem mk_uns {n : Nat} (h : n ≤ 1000) (m : M) : vA 1 8 [.int .u64 0] (.int .i64 (n : Int)) (.int .i64 (n : Int)) m = some (.slice (some ⟨m.n, 0, some 3⟩) n n, Dx.newRow m (uns (List.replicate n 0))) := by
 have hr : ∀ n, rep n [Value.int .u64 0] = uns (List.replicate n 0) := by
  intro n
  unfold uns
  induction n with
  | zero => rfl
  | succ n ih => unfold rep; rw [ih, List.replicate_succ]; rfl
 show (bif Nat.ble n n && Nat.ble (n * 8) most && Nat.ble n 4611686018427387904 && Nat.ble (n * 1) 1048576 then some (Value.slice (some ⟨m.n, 0, some (code 1 true)⟩) n n, Dx.newRow m (rep n [.int .u64 0])) else none) = _
 rw [qai (qad n), qai (by unfold most; omega), qai (by omega), qai (by omega), hr]
 rfl
theorem uns_rd {m : M} {B : Nat} {l : List Nat} (h : Arr m B (uns l)) (hB : B < m.n) : Rd m (.slice (some ⟨B, 0, some 3⟩) l.length l.length) 1 kA l := by
 refine jd (f := kA) (fun _ => rfl) ?_ hB
 have e : l.flatMap kA = uns l := by
  clear h
  induction l with
  | nil => rfl
  | cons x l ih => rw [List.flatMap_cons, ih]; rfl
 rw [e]; exact h
theorem Bz (n : Nat) (hm : m.base ≤ m.n) (h : GrV m N EV RF CO ev rf co sv) (wf : WFg N EV RF CO) : Dx.Call (ex Try.prog (n + 6)) 35 [.agg ⟨qc N ev rf co⟩] m fun v m' => ∃ fv, v = .tuple #[fv, iv 0] ∧ Rd m' fv 1 kA (QY EV CO) := by
 refine qE da5_ok (by simp) ?_
 have hn2 := wf.n2
 have hn1 := wf.n1
 have hcn := wf.con
 have st0 := (St.nil hm (Ext.refl m)).row (qc N ev rf co)
 obtain ⟨m1, hm1⟩ := qay (Dx.newRow m (qc N ev rf co))
 rw [← hm1] at st0
 have l8 : loads m1 ⟨m.n, 0, none⟩ 8 = some (qc N ev rf co) := (st0.get 0 rfl).2.2.loads (n := 8) (by simp [qc])
 obtain ⟨v2, m2, c1, c2, rfl⟩ := good_c n st0.sees.base (h.sees st0.sees) wf
 have st2 := st0.step c2
 have q0 : load1 m2 ⟨m.n, 0, none⟩ = some (iv N) := (st2.get 0 rfl).2.2.load1 0 none
 have hmk := mk_uns (n := N) (by omega) m2
 have st3 := st2.row (uns (List.replicate N 0))
 obtain ⟨m3, hm3⟩ := qay (Dx.newRow m2 (uns (List.replicate N 0)))
 rw [← hm3] at st3 hmk
 have q3 : load1 m3 ⟨m.n, 3, none⟩ = some co := (st3.get 1 rfl).2.2.load1 3 none
 have hcl := h.co.len
 simp only [List.length_map, List.length_range] at hcl
 simp [← hm1, l8, ql, c1, q0, hmk, q3, hcl]
 refine qu (c := YG) rfl (Ret m _) (fun i t m' => ∃ w : List Nat, w.length = N ∧ (∀ j l, j < i → CO[j]? = some l → w[j]? = some (QZ EV l)) ∧ St m m' [(m2.n, uns w), (m.n, qc N ev rf co)] ∧ Tm.get 1 t = .pointer (some ⟨m.n, 0, none⟩) ∧ Tm.get 4 t = .slice (some ⟨m2.n, 0, some 3⟩) N N ∧ Tm.get 14 t = co ∧ Tm.get 15 t = iv N ∧ Tm.get 16 t = iv i) N (by omega)
  ⟨List.replicate N 0, by simp, fun j l hj => by omega, st3, by simp, by simp, by simp, by simp, by simp⟩ (fun i t m' k hi hI hk => ?_)
 obtain ⟨w, hw1, hw2, st, h1, h4, h14, h15, h16⟩ := hI
 by_cases hil : i < N
 ·have hd := dlt hil
  have w1 := qS (i := i) (by omega)
  have hS := st.sees
  obtain ⟨l, hl⟩ : ∃ l, CO[i]? = some l := ⟨_, qaa (by omega)⟩
  obtain ⟨p1, p2, p3, p4⟩ := wf.coh i l hl
  have hlpos : 0 < l.length := (qac.1 p1).1
  have hll : l.length ≤ 256 := by rw [p4]; exact qam (KH _ _ _) hn2
  have hcc : ((List.range N).map sv)[i]? = some (sv i) := by simp [hil]
  have ⟨a1, a2⟩ := Rd.at1 (g := fun (x : Value) => x) (h.co.sees hS) hcc
  have hsl := (h.svs i l hl).len
  obtain ⟨q, hq⟩ := qay (l.length - 1)
  obtain ⟨z, hz⟩ : ∃ z, l[q]? = some z := ⟨_, qaa (by omega)⟩
  have ⟨b1, b2⟩ := Rd.at1 (g := fun (x : Nat) => iv x) ((h.svs i l hl).sees hS) hz
  obtain ⟨e, he, hk2, hloc⟩ := p3 z (qab hz)
  have ⟨d1, d2, d3⟩ := (h.ev.sees hS).at he
  have d33 : load1 m' ⟨(adr 5 ev z).block, (adr 5 ev z).off + 3, none⟩ = some (.int .u64 e.val) := by rw [d3 m' 3 none hS.self (by simp [qp])]; rfl
  have q1 : load1 m' ⟨m.n, 1, none⟩ = some ev := (st.get 1 rfl).2.2.load1 1 none
  have w2 : IntKind.i64.wrap ((l.length : Int) - 1) = (q : Int) := by rw [wrap64 _ (by omega) (by omega)]; omega
  have hix := kO m2.n N i hil
  obtain ⟨m4, u1, u2, u3, u4, u5⟩ := st.storeAny 0 rfl (o := i) (v := .int .u64 e.val) (by simp [uns]; omega) rfl
  have hfin : QZ EV l = e.val := by
   unfold QZ
   rw [← hq, List.getD_eq_getElem?_getD, hz]
   simp [he]
  simp [h1, h4, h14, h15, h16, hd, a1, a2, hS.self, hsl, q1, w2, b1, b2, d1, d33, hix, u1, w1, meets, FP.meet, FP.clear]
  refine hk hil _ _ ?_
  refine ⟨w.set i e.val, by simpa using hw1, fun j l' hj hl' => ?_, ?_, by simp [h1], by simp [h4], by simp [h14], by simp [h15], by simp⟩
  ·by_cases e2 : j = i
   ·subst e2
    rw [hl] at hl'; cases hl'
    rw [qat (by omega), hfin]
   ·rw [qaw (fun h => e2 h.symm)]
    exact hw2 j l' (by omega) hl'
  ·have e2 : (uns w).set i (.int .u64 (e.val : Int)) = uns (w.set i e.val) := by unfold uns; rw [List.map_set]
   rw [← e2]; exact u3
 obtain rfl : i = N := by omega
 simp [h1, h4, h14, h15, h16]
 refine fE st.ext ⟨_, by simp; rfl, ?_⟩
 have hwe : w = QY EV CO := by
  refine List.ext_getElem? fun j => ?_
  unfold QY
  by_cases hj : j < i
  ·obtain ⟨l, hl⟩ : ∃ l, CO[j]? = some l := ⟨_, qaa (by omega)⟩
   rw [hw2 j l hj hl, qaq, hl]; rfl
  ·rw [qav (by omega), qav (by simp; omega)]
 rw [← hwe]
 have := uns_rd (st.get 0 rfl).2.2 (st.get 0 rfl).2.1
 rw [hw1] at this
 exact this
end
end Go.Sx
