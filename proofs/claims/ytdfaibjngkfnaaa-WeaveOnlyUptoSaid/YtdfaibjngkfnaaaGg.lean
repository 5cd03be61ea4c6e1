/- Contracts. -/
import Derived.Test.YtdfaibjngkfnaaaGf
import Derived.Test.YtdfaibjngkfnaaaGd
set_option linter.unusedVariables false
set_option linter.unusedSimpArgs false
set_option linter.defProp false
namespace Go.Dx
theorem XB {m0 m : M} {Q : Value → M → Prop} {t : Tm} {p q r : Nat} {a b : Addr} {l1 l2 : List Value} (h1 : Tm.get p t = .pointer (some a)) (h2 : loads m a 2 = some l1) (h3 : Tm.get q t = .pointer (some b)) (h4 : loads m b 2 = some l2) (he : Ext m0 m) (hq : Q (.tuple #[.agg ⟨l1⟩, .agg ⟨l2⟩, Tm.get r t]) m) :
  Ret m0 Q (zV [.cell p 2, .cell q 2, .t r] t m) := by
 refine jU (l := [.agg ⟨l1⟩, .agg ⟨l2⟩, Tm.get r t]) ?_ he hq
 simp only [vG, jT, h1, h3, dA, qI, h2, h4]
@[simp] theorem DI : ko [.int .i64 0, .slice none 0 0] [] = some (.agg ⟨[.int .i64 0, .slice none 0 0]⟩) := _root_.id rfl
@[simp] theorem build_sl0 : ko [.slice none 0 0, .slice none 0 0] [] = some (.agg ⟨[.slice none 0 0, .slice none 0 0]⟩) := _root_.id rfl
@[simp] theorem DW (a : Int) (x : Option Addr) (y z : Nat) : ko [.int .i64 0, .slice none 0 0] [(0, 1, .int .i64 a), (1, 1, .slice x y z)] = some (.agg ⟨[.int .i64 a, .slice x y z]⟩) := _root_.id rfl
@[simp] theorem DV (x : Option Addr) (y z : Nat) : ko [.slice none 0 0, .slice none 0 0] [(1, 1, .slice x y z)] = some (.agg ⟨[.slice none 0 0, .slice x y z]⟩) := _root_.id rfl
end Go.Dx
namespace Go.Sx
open Go.Dx Go.Proofs
def TS0 : Nat → TS := fun _ => ⟨0, [], []⟩
def Woven (m0 m : M) (v : Value) (N nt : Nat) (S : Nat → TS) (W : List Nat) : Prop :=
 ∃ (tsl osl fsl : Value) (loc : Nat → Nat) (va vo : Nat → Value) (A : Nat → List AR), v = .tuple #[.agg #[iv N, tsl], .agg #[fsl, osl], iv 0] ∧ Rd m fsl 1 kA W ∧ Rd m tsl 2 (fun p : Int × Value => [iv p.1, p.2]) ((List.range nt).map fun (j : Nat) => (((loc j : Nat) : Int), (va j : Value))) ∧ Rd m osl 1 (fun v => [v]) ((List.range nt).map vo) ∧
  (∀ j, j < nt → loc j = (S j).loc ∧ (A j).map AR.era = (S j).acts ∧ Rd m (va j) 11 zj (A j) ∧ Rd m (vo j) 1 kA (S j).outs ∧ (∀ r, r ∈ A j → ∀ B op v, r.e = some (B, op, v) → B < m.n ∧ Arr m B (zi op v))) ∧
  (∀ B, blk fsl = some B → m0.n ≤ B) ∧ (∀ B, blk tsl = some B → m0.n ≤ B) ∧ (∀ B, blk osl = some B → m0.n ≤ B) ∧ ∀ j, j < nt → (∀ B, blk (va j) = some B → m0.n ≤ B) ∧ (∀ B, blk (vo j) = some B → m0.n ≤ B) ∧ ∀ r, r ∈ A j → ∀ B op v, r.e = some (B, op, v) → m0.n ≤ B
theorem dG (es : List (Int × Int)) (ms : List Int) (TH CE VA : Nat → Nat) : ∀ (l : List Nat) (k : Nat) (S : Nat → TS), (∀ j, (S j).loc ≤ k ∧ (S j).acts.length ≤ 2 * k ∧ (S j).outs.length ≤ k) →
  ∀ j, (l.foldl (wG es ms TH CE VA) S j).loc ≤ k + l.length ∧ (l.foldl (wG es ms TH CE VA) S j).acts.length ≤ 2 * (k + l.length) ∧ (l.foldl (wG es ms TH CE VA) S j).outs.length ≤ k + l.length
 | [], k, S, h => h
 | i :: l, k, S, h => by
  have := dG es ms TH CE VA l (k + 1) (wG es ms TH CE VA S i) fun j => by
   unfold wG
   by_cases e : j = TH i
   ·subst e
    rw [qK]
    obtain ⟨h1, h2, h3⟩ := h (TH i)
    have hf : (evF (fc es i)).length ≤ 1 := by unfold evF; split <;> simp
    unfold zo
    split
    ·refine ⟨by simp only; omega, by simp only [qak, List.length_singleton]; omega, by simp only; omega⟩
    ·refine ⟨by simp only; omega, by simp only [qak, List.length_singleton]; omega, by simp only [qak, List.length_singleton]; omega⟩
   ·rw [wz _ _ e]
    obtain ⟨h1, h2, h3⟩ := h j
    exact ⟨by omega, by omega, by omega⟩
  rw [List.foldl_cons, List.length_cons, show k + (l.length + 1) = k + 1 + l.length by omega]
  exact this
set_option maxHeartbeats 1000000 in
theorem BC (n : Nat) (ed md : Value) (es : List (Int × Int)) (ms : List Int) (m : M) (hm : m.base ≤ m.n) (hl : es.length < 9223372036854775807) (hed : Rd m ed 2 edgeRow es) (hmd : Rd m md 1 modeRow ms) (ch : Nat → List Nat)
  (hch : (wn es ms).2 = 0 → ∀ c, c < es.length - cnt es → km es (zY es (es.length - cnt es) (qF es (qM es))).ce (qM es) c (ch c)) (TH CE VA WR : Nat → Nat)
  (hlaw : (wn es ms).2 = 0 → fL es (za es ch (List.replicate es.length 0) (es.length - cnt es)) TH CE VA WR) :
  Dx.Call (ex Try.prog (n + 9)) 12 [.agg #[ed, md]] m fun v m' => ((wn es ms).2 ≠ 0 ∧ v = .tuple #[.agg #[iv 0, .slice none 0 0], .agg #[.slice none 0 0, .slice none 0 0], iv (wn es ms).2]) ∨
   ((wn es ms).2 = 0 ∧ Woven m m' v (es.length - cnt es) (cnt es) (fun j => ((qF es (qM es)).foldl (wG es ms TH CE VA) TS0 j).fin) ((List.range (es.length - cnt es)).map WR)) := by
 suffices H : ∀ Q : Value → M → Prop, (∀ v m', (((wn es ms).2 ≠ 0 ∧ v = .tuple #[.agg #[iv 0, .slice none 0 0], .agg #[.slice none 0 0, .slice none 0 0], iv (wn es ms).2]) ∨
   ((wn es ms).2 = 0 ∧ Woven m m' v (es.length - cnt es) (cnt es) (fun j => ((qF es (qM es)).foldl (wG es ms TH CE VA) TS0 j).fin) ((List.range (es.length - cnt es)).map WR))) → Q v m') → Dx.Call (ex Try.prog (n + 9)) 12 [.agg #[ed, md]] m Q from H _ fun _ _ h => h
 intro Q hQ
 refine qE da1_ok (by simp) ?_
 have st0 : St m m [] := St.nil hm (Ext.refl m)
 have stA := ((st0.row [ed, md]).row [.int .i64 0, .slice none 0 0]).row [.slice none 0 0, .slice none 0 0]
 simp only [qn] at stA
 obtain ⟨mA, hmA⟩ := qay (Dx.newRow (Dx.newRow (Dx.newRow m [ed, md]) [.int .i64 0, .slice none 0 0]) [.slice none 0 0, .slice none 0 0])
 rw [← hmA] at stA
 have lbA : loads mA ⟨m.n, 0, none⟩ 2 = some [ed, md] := (stA.get 2 rfl).2.2.loads (by simp)
 obtain ⟨v1, m1, c1, c2, c3⟩ := lay_c n ed md es ms mA stA.sees.base hl (hed.sees stA.sees) (hmd.sees stA.sees) ch hch
 have st1 := stA.step c2
 have hb1 : m1.base ≤ m1.n := st1.sees.base
 have s0 : St m1 m1 [] := St.nil hb1 (Ext.refl m1)
 have s1 := s0.row [.pointer none]
 simp [← hmA, lbA, ql, c1]
 rcases c3 with ⟨hz, rfl⟩ | ⟨hz, PB, rfl, hLaid⟩
 ·obtain ⟨q1, hq1⟩ := qay ((wn es ms).1)
  obtain ⟨q2, hq2⟩ := qay ((wn es ms).2)
  rw [← hq2] at hz hQ ⊢
  rw [← hq1]
  have s1' := st1.row [.pointer none]
  obtain ⟨m2, a1, a2, a3, a4⟩ := s1'.store 0 rfl (o := 0) (v := .pointer none) (by simp) rfl
  obtain ⟨m3, b1, b2, b3, b4⟩ := a2.fill 2 rfl (n := 2) (l' := [iv 0, .slice none 0 0]) rfl rfl (by simp [okC])
  obtain ⟨m4, d1, d2, d3, d4⟩ := b2.fill 1 rfl (n := 2) (l' := [.slice none 0 0, .slice none 0 0]) rfl rfl (by simp [okC])
  simp [a1, hz, b1, d1]
  refine XB (a := ⟨m.n + 1, 0, none⟩) (b := ⟨m.n + 1 + 1, 0, none⟩) (by simp) ((d2.get 2 rfl).2.2.loads (by simp)) (by simp) ((d2.get 1 rfl).2.2.loads (by simp)) d2.ext (hQ _ _ (.inl ⟨hz, by simp⟩))
 ·obtain ⟨law1, law2, law3, law4, law5, law6, law7⟩ := hlaw hz
  obtain ⟨hl16, hml, hA2, hN1, hok⟩ : es.length ≤ 16 ∧ ms.length = es.length ∧ 2 ≤ cnt es ∧ 1 ≤ es.length - cnt es ∧ ∀ (i : Nat) e, es[i]? = some e → kV e = false := by
   unfold wn at hz
   by_cases h1 : (wb es ms).2 ≠ 0
   ·rw [if_pos h1] at hz; exact absurd hz h1
   ·rw [if_neg h1] at hz
    have h1' : (wb es ms).2 = 0 := by omega
    by_cases h2 : cnt es < 2 ∨ es.length - cnt es < 1
    ·rw [if_pos h2] at hz; simp at hz
    ·exact ⟨(kT h1').1, (kT h1').2, by omega, by omega, vY h1'⟩
  obtain ⟨N, hNe⟩ := qay (es.length - cnt es)
  obtain ⟨nt, hnt⟩ := qay (cnt es)
  have hcl : cnt es ≤ es.length := by unfold cnt; exact List.countP_le_length
  obtain ⟨b, hbe⟩ := qay (qM es)
  have hb := gX (es := es) (by omega)
  rw [← hbe] at hb
  have hbl : b < es.length := by unfold first at hb; rw [List.find?_range_eq_some] at hb; simpa using hb.2.1
  obtain ⟨ed', md', A5, A6, A7, A8, hPl, hmd', p1, p3, p4, p5, p7, p8, r5, r6, r7, r8, k5, k6, k7, k8⟩ := hLaid.ex
  rw [← hNe] at law1 law3 law4 law5 hPl p3 p4 p8 r5 r6 r7 r8 hQ hN1
  rw [← hbe] at law1 law3 law5 hPl r5 r6 r8 hQ
  rw [← hnt] at law2 hQ hA2
  have hp3 : es.length - N = nt := by omega
  rw [hp3] at p3
  have hLF : LF m1 PB A5 A6 A7 m.n ed' ed md es ms TH CE VA := by
   refine ⟨hPl.lt, k5, k6, k7, by have := (st1.get 2 rfl).2.1; exact this, hPl.p0 none, p5 none, hPl.p6 none, p7 none, fun i hi => ?_, fun i hi => ?_, fun i hi => ?_, hPl.hed, ?_, hmd.sees st1.sees, law6⟩
   ·rw [r5.load1]; exact wj _ _ _ (law1 i hi)
   ·rw [r6.load1]; exact wj _ _ _ (law3 i hi)
   ·rw [r7.load1]; exact wj _ _ _ (law4 i hi)
   ·rw [(st1.get 2 rfl).2.2.load1]; rfl
  obtain ⟨m2, a1, a2, a3, a4⟩ := s1.store 0 rfl (o := 0) (v := .pointer (some ⟨PB, 0, none⟩)) (by simp) rfl
  have a2' : St m1 m2 [(m1.n, [.pointer (some ⟨PB, 0, none⟩)])] := a2
  have n2 : m2.n = m1.n + 1 := by rw [a3, qn]
  have lq : load1 m2 ⟨m1.n, 0, none⟩ = some (.pointer (some ⟨PB, 0, none⟩)) := by rw [(a2'.get 0 rfl).2.2.load1]; rfl
  have lP4 : load1 m2 ⟨PB, 4, none⟩ = some (iv N) := (qv a2'.sees hPl.lt).trans (p4 none)
  have lP3 : load1 m2 ⟨PB, 3, none⟩ = some (iv nt) := (qv a2'.sees hPl.lt).trans (p3 none)
  have mk2 := bf (n := nt) (e := 2) (bytes := 32) (zs := [.int .i64 0, .slice none 0 0]) rfl (by omega) (by omega) (by omega) m2
  have b1' := a2'.row ((List.range nt).flatMap fun _ => [.int .i64 0, .slice none 0 0])
  have b2' := b1'.row [.int .i64 0, .slice none 0 0]
  simp only [qn] at b2'
  obtain ⟨m3', d1, d1l, d2, d3, d4⟩ := b2'.fillAny 0 rfl (n := 2) (l' := [iv N, .slice (some ⟨m2.n, 0, some 5⟩) nt nt]) (by omega) rfl rfl (by simp [okC])
  obtain ⟨M3, hM3⟩ := qay (behind (Dx.newRow (Dx.newRow m2 ((List.range nt).flatMap fun _ => [.int .i64 0, .slice none 0 0])) [.int .i64 0, .slice none 0 0]) m3')
  rw [← hM3] at d2 d3 d4
  simp only [qn] at d3
  have d2' : St m1 M3 [(m2.n + 1, [iv N, .slice (some ⟨m2.n, 0, some 5⟩) nt nt]), (m2.n, (List.range nt).flatMap fun _ => [.int .i64 0, .slice none 0 0]), (m1.n, [.pointer (some ⟨PB, 0, none⟩)])] := d2
  have lq3 : load1 M3 ⟨m1.n, 0, none⟩ = some (.pointer (some ⟨PB, 0, none⟩)) := by rw [(d2'.get 2 rfl).2.2.load1]; rfl
  have lP33 : load1 M3 ⟨PB, 3, none⟩ = some (iv nt) := (qv d2'.sees hPl.lt).trans (p3 none)
  have mk1 := bf (n := nt) (e := 1) (bytes := 24) (zs := [.slice none 0 0]) rfl (by omega) (by omega) (by omega) M3
  have e1' := d2'.row ((List.range nt).flatMap fun _ => [.slice none 0 0])
  have e2' := e1'.row [.slice none 0 0, .slice none 0 0]
  simp only [qn] at e2'
  obtain ⟨M4, f1, f2, f3, f4⟩ := e2'.fill 0 rfl (n := 2) (l' := [.slice none 0 0, .slice (some ⟨M3.n, 0, some 3⟩) nt nt]) rfl rfl (by simp [okC])
  simp only [qn] at f3
  have lq4 : load1 M4 ⟨m1.n, 0, none⟩ = some (.pointer (some ⟨PB, 0, none⟩)) := by rw [(f2.get 4 rfl).2.2.load1]; rfl
  have hwk := dD (n + 7) ⟨PB, 0, none⟩ M4
  have stW := f2.row [.pointer (some ⟨PB, 0, none⟩)]
  obtain ⟨M5, hM5⟩ := qay (Dx.newRow M4 [.pointer (some ⟨PB, 0, none⟩)])
  rw [← hM5] at stW
  have n5 : M5.n = M4.n + 1 := by rw [hM5, qn]
  have code2 : code 2 true = 5 := rfl
  have code1 : code 1 true = 3 := rfl
  rw [code2] at mk2
  rw [code1] at mk1
  simp [a1, lq, lP4, lP3, mk2, d1, ← hM3, lq3, lP33, mk1, f1, lq4, hwk, ← hM5]
  generalize hT0 : Tm.set 46 _ _ = T0
  have g1 : Tm.get 1 T0 = .pointer (some ⟨m.n, 0, none⟩) := by rw [← hT0]; simp
  have g2 : Tm.get 2 T0 = .pointer (some ⟨m.n + 1, 0, none⟩) := by rw [← hT0]; simp
  have g3 : Tm.get 3 T0 = .pointer (some ⟨m.n + 1 + 1, 0, none⟩) := by rw [← hT0]; simp
  have g5 : Tm.get 5 T0 = .pointer (some ⟨m1.n, 0, none⟩) := by rw [← hT0]; simp
  have g8 : Tm.get 8 T0 = .pointer (some ⟨m2.n + 1, 0, none⟩) := by rw [← hT0]; simp
  have g9 : Tm.get 9 T0 = .pointer (some ⟨M3.n + 1, 0, none⟩) := by rw [← hT0]; simp
  have g46 : Tm.get 46 T0 = .func (.func 71) #[] #[.pointer (some ⟨M4.n, 0, none⟩)] := by rw [← hT0]; simp
  clear hT0
  obtain ⟨T, hT⟩ := qay (zr [9, 8, 5, 1] T0)
  have kp : ∀ i, i ∈ [9, 8, 5, 1] → Tm.get i T = Tm.get i T0 := fun i hi => by
   rw [hT]; exact jw i (by simp at hi; omega) T0 _ (by simp) hi
  have T1 := (kp 1 (by simp)).trans g1
  have T5 := (kp 5 (by simp)).trans g5
  have T8 := (kp 8 (by simp)).trans g8
  have T9 := (kp 9 (by simp)).trans g9
  obtain ⟨u, hu⟩ : ∃ u : WB, u = ⟨m1.n, M4.n, m2.n + 1, m2.n, M3.n + 1, M3.n, PB⟩ := ⟨_, rfl⟩
  have u5 : u.q5 = m1.n := by rw [hu]
  have uW : u.W = M4.n := by rw [hu]
  have u8 : u.P8 = m2.n + 1 := by rw [hu]
  have uT : u.TB = m2.n := by rw [hu]
  have u9 : u.P9 = M3.n + 1 := by rw [hu]
  have uO : u.OB = M3.n := by rw [hu]
  have uP : u.PB = PB := by rw [hu]
  have stu : St m1 M5 (u.σ N nt (.slice none 0 0) (fun _ => 0) (fun _ => .slice none 0 0) (fun _ => .slice none 0 0)) := by
   refine stW.sub (fun p hp => ?_) ?_
   ·rw [hu] at hp
    simp only [WB.σ, List.mem_cons, List.not_mem_nil, or_false] at hp
    rcases hp with rfl | rfl | rfl | rfl | rfl | rfl
    ·exact qab (i := 0) rfl
    ·exact qab (i := 4) rfl
    ·exact qab (i := 2) rfl
    ·exact qab (i := 1) rfl
    ·exact qab (i := 3) rfl
    ·exact qab (i := 5) rfl
   ·rw [hu]; simp only [WB.σ, List.map_cons, List.map_nil, List.nodup_cons, List.mem_cons, List.not_mem_nil, or_false, not_false_eq_true, List.nodup_nil, and_true]; omega
  have wi0 : WI m1 M5 u N nt (.slice none 0 0) (fun _ => 0) (fun _ => .slice none 0 0) (fun _ => .slice none 0 0) (fun _ => []) (fun _ => []) (fun _ => 0) :=
   ⟨stu, fun _ _ => rfl, fun j _ => ⟨.nil, fun B hB => by cases hB⟩, fun j _ => ⟨.nil, fun B hB => by cases hB⟩, fun j _ r hr => by cases hr⟩
  obtain ⟨L, hLe⟩ := qay (M5.n)
  have wj0 : WJ m1 M5 u N nt (.slice none 0 0) TS0 L := ⟨_, _, _, _, _, _, wi0, rfl, fun j _ => ⟨rfl, rfl, rfl⟩⟩
  have hLb : ∀ b ∈ [u.W, u.TB, u.OB, u.P9, u.P8, u.q5], b ≠ L := by
   intro x hx
   simp only [List.mem_cons, List.not_mem_nil, or_false] at hx
   omega
  have hm1L : m1.n ≤ L := by omega
  obtain ⟨ca, hca⟩ : ∃ ca : Code, ca = (cL (cL (cR (cL (cR (cR (cR (cR (cR (qN Try.f12)))))))))) := ⟨_, rfl⟩
  obtain ⟨cb, hcb⟩ : ∃ cb : Code, cb = (cR (cL (cR (cL (cR (cR (cR (cR (cR (qN Try.f12)))))))))) := ⟨_, rfl⟩
  have ha := VS
  have hbb := VZ
  rw [← hca] at ha; rw [← hcb] at hbb
  obtain ⟨mE, hmE⟩ := qay (M5.alloc (.loop 0 T 226 #[47] ca cb none))
  have nE : mE.n = M5.n + 1 := by rw [hmE, M.n_alloc]
  have EE : Ext M5 mE := by rw [hmE]; exact ⟨by rw [M.n_alloc]; omega, fun X hX => by rw [M.obj_alloc, if_neg (by omega)], M.base_alloc _ _, M.log_alloc _ _⟩
  have obE : mE.obj L = some (.loop 0 T 226 #[47] ca cb none) := by rw [hmE, M.obj_alloc, if_pos hLe]
  let S : Nat → Nat → TS := fun k => ((qF es b).take k).foldl (wG es ms TH CE VA) TS0
  have hol : (qF es b).length = es.length := by unfold qF; simp
  have hSb : ∀ k j, (S k j).loc ≤ 16 ∧ (S k j).acts.length ≤ 32 ∧ (S k j).outs.length ≤ 16 := fun k j => by
   have := dG es ms TH CE VA ((qF es b).take k) 0 TS0 (fun j => by simp [TS0]) j
   rw [List.length_take, hol] at this
   have h2 : min k es.length ≤ 16 := by omega
   simp only [S]
   omega
  have hwalk := bu (n + 7) (.func (.yield L) #[] #[]) PB u.W b es.length (by omega) (by omega) hbl
   (fun k m' => WJ m1 m' u N nt (.slice none 0 0) (S k) L ∧ m'.obj L = some (.loop 0 T 226 #[47] ca cb none) ∧ L < m'.n) (fun _ => False)
   (fun k m' _ h => by
    obtain ⟨⟨loc, va, vo, A, O, tag, w, -, -⟩, -, -⟩ := h
    have lf := hLF.sees w.st.sees
    have hPl' := hPl.sees w.st.sees
    refine ⟨by rw [(w.st.get 0 rfl).2.2.load1]; show some (Value.pointer (some ⟨u.PB, 0, none⟩)) = _; rw [uP], ⟨ed', hPl'.p0 none, hPl'.hed.len⟩, hPl'.p2 none⟩)
   (fun k m' hk h => by
    obtain ⟨w, hob, hLn⟩ := h
    obtain ⟨i, hi⟩ := qay ((b + k) % es.length)
    have hil : i < es.length := by rw [hi]; exact Nat.mod_lt _ (by omega)
    rw [← hi]
    have hki : (qF es b)[k]? = some i := by
     rw [hi]; unfold qF; rw [qaq, List.getElem?_range hk]; rfl
    have hSk : S (k + 1) = wG es ms TH CE VA (S k) i := by
     obtain ⟨h, e⟩ := qac.1 hki
     simp only [S]
     rw [List.take_succ_eq_append_getElem h, List.foldl_append, e]; rfl
    have hrd := xq (P := Try.prog) (n := n + 6) (L := L) (args := [iv i]) (t' := Tm.set 47 (iv i) T) (t'' := Tm.set 10 (iv i) (Tm.set 47 (iv i) T)) (m := m')
     (R := fun e m2 => e = none ∧ m'.n ≤ m2.n ∧ WJ m1 m2 u N nt (.slice none 0 0) (wG es ms TH CE VA (S k) i) L) hob ha hbb rfl (by omega) (fun k => by unfold Br; simp) (by
      have w1 := w.putL hLb hm1L (.loop 1 T 226 #[47] ca cb none)
      have := Bq (n + 4) hl16 hb1 hLF hok uP hil hml (law2 i hil) w1 (fun j => by have := hSb k j; omega) T1 (by rw [u5]; exact T5) (by rw [u8]; exact T8) (by rw [u9]; exact T9) (by rw [M.n_put]; exact hLn) hLb
      obtain ⟨e, m2, r1, r2, r3, r4, r5⟩ := this
      rw [M.n_put] at r4
      rw [M.obj_put, if_pos rfl] at r3
      exact ⟨e, m2, r1, r3, r2, r4, r5⟩)
    obtain ⟨e, m2, ho2, ⟨rfl, hn2, hw2⟩, hrun⟩ := hrd
    rw [← hSk] at hw2
    exact .inl ⟨_, hrun, hw2.putL hLb hm1L _, by rw [M.obj_put, if_pos rfl], by rw [M.n_put]; omega⟩)
   mE ⟨by simpa [S] using wj0.step EE, obE, by omega⟩
  obtain ⟨m6, hw, hend⟩ := hwalk
  rcases hend with ⟨w6, ob6, hL6⟩ | hF
  rotate_left
  ·exact hF.elim
  rw [uW] at hw
  rw [hLe] at hw ob6
  refine yL (c := Yw) rfl (g := 71) (u := []) (v := [.pointer (some ⟨M4.n, 0, none⟩)]) g46 (r := .tuple #[]) (m1 := m6) (st := 0) (by rw [← hT, ← hca, ← hcb, ← hmE]; exact hw) (by rw [hca, hcb] at ob6; exact ob6) (by omega) ?_
  unfold ju
  rw [← hLe]
  have w7 := (w6.putL hLb hm1L (.loop 3 T 226 #[47] (cL (cL (cR (cL (cR (cR (cR (cR (cR (qN Try.f12)))))))))) (cR (cL (cR (cL (cR (cR (cR (cR (cR (qN Try.f12)))))))))) none)).toK
  obtain ⟨m7, hm7⟩ := qay (m6.put L (.loop 3 T 226 #[47] (cL (cL (cR (cL (cR (cR (cR (cR (cR (qN Try.f12)))))))))) (cR (cL (cR (cL (cR (cR (cR (cR (cR (qN Try.f12)))))))))) none))
  rw [← hm7] at w7 ⊢
  have l8 : load1 m7 ⟨u.P8, 1, none⟩ = some (.slice (some ⟨u.TB, 0, some 5⟩) nt nt) := by
   obtain ⟨loc, va, vo, A, O, tag, w, -⟩ := w7; exact w.lt8
  have hlenS : zZ (.slice (some ⟨u.TB, 0, some 5⟩) nt nt) = some (iv nt) := rfl
  rw [← u8] at g8
  rw [← u9] at g9
  rw [← u5] at g5
  simp [g8, l8, hlenS]
  have hSn : S es.length = (qF es b).foldl (wG es ms TH CE VA) TS0 := by simp only [S]; rw [List.take_of_length_le (by omega)]
  refine VR (n + 8) (by omega) hb1 (S := S es.length) (fun j => by have := hSb es.length j; omega) (Ret m Q) _ _ _ _ _ _ (P2 := m.n + 1) (P3 := m.n + 1 + 1) ?_ ?_ ?_ ?_ ?_ ?_ ?_ w7 (fun t8 m8 x2 x3 x5 x9 x8 w8 => ?_)
  ·simp [g2]
  ·simp [g3]
  ·simp [g5]
  ·simp [g8]
  ·simp [g9]
  ·simp
  ·simp
  obtain ⟨loc, va, vo, A, O, tag, w, hS⟩ := w8
  have lq8 := w.lq
  rw [uP] at lq8
  have lP8 : load1 m8 ⟨PB, 8, none⟩ = some (.slice (some ⟨A8, 0, some 3⟩) N N) := (qv w.st.sees hPl.lt).trans (p8 none)
  have hlenN : zZ (.slice (some ⟨A8, 0, some 3⟩) N N) = some (iv N) := rfl
  simp [x5, lq8, lP8, hlenN]
  refine Bo (n + 8) (by omega) hb1 (A8 := A8) k8 (WR := WR) law7 (fun x hx => ?_) w.st (Ret m Q) _ _ _ _ _ (P2 := m.n + 1) (P3 := m.n + 1 + 1) ?_ ?_ ?_ ?_ ?_ ?_ ?_ (fun t9 m9 fv y2 y3 y8 y9 st9 hG hfv hn9 ho9 => ?_)
  ·rw [r8.load1]; exact wj _ _ _ (law5 x hx)
  ·simp [x2]
  ·simp [x3]
  ·simp [x8]
  ·simp [x9]
  ·simp
  ·simp
  ·simp
  have st10 := st1.step st9.ext
  have lT : loads m9 ⟨u.P8, 0, none⟩ 2 = some [iv N, .slice (some ⟨u.TB, 0, some 5⟩) nt nt] := (st9.get 4 rfl).2.2.loads (by simp)
  have lO : loads m9 ⟨u.P9, 0, none⟩ 2 = some [fv, .slice (some ⟨u.OB, 0, some 3⟩) nt nt] := (st9.get 3 rfl).2.2.loads (by simp)
  obtain ⟨m10', i1, i2, i3, i4, i5⟩ := st10.fillAny 1 rfl (n := 2) (l' := [iv N, .slice (some ⟨u.TB, 0, some 5⟩) nt nt]) (by omega) rfl rfl (by simp [okC])
  obtain ⟨m10, hm10⟩ := qay (behind m9 m10')
  rw [← hm10] at i3 i4 i5
  obtain ⟨m11', j1, j2, j3, j4, j5⟩ := i3.fillAny 0 rfl (n := 2) (l' := [fv, .slice (some ⟨u.OB, 0, some 3⟩) nt nt]) (by omega) rfl rfl (by simp [okC]; exact hG.okC)
  obtain ⟨m11, hm11⟩ := qay (behind m10 m11')
  rw [← hm11] at j3 j4 j5
  have hP3 : m.n + 1 + 1 < m1.n := (st1.get 0 rfl).2.1
  have hne9 : ¬ (u.P9 = m.n + 1) := by rw [u9]; omega
  simp [y2, y3, y8, y9, lT, lO, ql, i1, i2, ← hm10, hne9, j1, j2, ← hm11]
  have keep : ∀ B, m1.n ≤ B → m11.obj B = m9.obj B := fun B hB => by
   have e1 := j5 B (by omega)
   have e2 := i5 B (by omega)
   rw [e1, e2]
  have n11 : m11.n = m9.n := by rw [j4, i4]
  have keep8 : ∀ B, m1.n ≤ B → B < m8.n → B ≠ u.P9 → m11.obj B = m8.obj B := fun B h1 h2 h3 => (keep B h1).trans (ho9 B h2 h3)
  have t9z : tag u.P9 = 0 := w.t0 (u.P9, [.slice none 0 0, .slice (some ⟨u.OB, 0, some 3⟩) nt nt]) (by unfold WB.σ; simp)
  refine XB (a := ⟨m.n + 1, 0, none⟩) (b := ⟨m.n + 1 + 1, 0, none⟩) (by simp [y2]) ((j3.get 1 rfl).2.2.loads (by simp)) (by simp [y3]) ((j3.get 0 rfl).2.2.loads (by simp)) j3.ext (hQ _ _ (.inr ⟨hz, .slice (some ⟨u.TB, 0, some 5⟩) nt nt, .slice (some ⟨u.OB, 0, some 3⟩) nt nt, fv, loc, va, vo, A, by simp, ?_, ?_, ?_, fun j hj => ?_, fun B hB => ?_, fun B hB => ?_, fun B hB => ?_, fun j hj => ?_⟩))
  ·have h5 : Grown m1 m11 fv 1 kA ((List.range N).map WR) := hG.keep (by omega) fun B hB hb => keep B (grown_low hG B hb).1
   exact h5.rd xO
  ·have hA := (st9.get 1 rfl).2.2
   have hm1 := (st9.get 1 rfl).1
   have hlt := (st9.get 1 rfl).2.1
   have hA' : Arr m11 u.TB (((List.range nt).map fun (j : Nat) => (((loc j : Nat) : Int), (va j : Value))).flatMap fun p : Int × Value => [iv p.1, p.2]) := by
    rw [List.flatMap_map]; exact hA.congr (keep _ hm1)
   have := jd (m := m11) (c := 5) (e := 2) (f := fun p : Int × Value => [iv p.1, p.2]) (fun _ => rfl) hA' (by omega)
   rwa [List.length_map, List.length_range] at this
  ·have hA := (st9.get 2 rfl).2.2
   have hm1 := (st9.get 2 rfl).1
   have hlt := (st9.get 2 rfl).2.1
   have hA' : Arr m11 u.OB (((List.range nt).map vo).flatMap fun v => [v]) := by
    rw [List.flatMap_map]; exact hA.congr (keep _ hm1)
   have := jd (m := m11) (c := 3) (e := 1) (f := fun v : Value => [v]) (fun _ => rfl) hA' (by omega)
   rwa [List.length_map, List.length_range] at this
  ·obtain ⟨e1, e2, e3⟩ := hS j hj
   rw [← hSn]
   obtain ⟨ga, gt⟩ := w.ga j hj
   obtain ⟨go, ot⟩ := w.go j hj
   refine ⟨e1, e2, ?_, ?_, fun r hr B op v hB => ?_⟩
   ·have : Grown m1 m11 (va j) 11 zj (A j) := ga.keep (by omega) fun B hB hb => keep8 B (grown_low ga B hb).1 hB (by rintro rfl; have := gt _ hb; omega)
    exact this.rd yt
   ·have : Grown m1 m11 (vo j) 1 kA (O j) := go.keep (by omega) fun B hB hb => keep8 B (grown_low go B hb).1 hB (by rintro rfl; have := ot _ hb; omega)
    rw [e3] at this
    exact this.rd xO
   ·obtain ⟨k1, k2, k3, k4⟩ := w.ge j hj r hr B op v hB
    exact ⟨by omega, k3.congr (keep8 B k1 k2 (by rintro rfl; omega))⟩
  ·have h5 := (grown_low hG B hB).1
   have h6 := st1.ext.n
   omega
  ·cases hB
   have h5 := (st9.get 1 rfl).1
   have h6 := st1.ext.n
   show m.n ≤ u.TB
   omega
  ·cases hB
   have h5 := (st9.get 2 rfl).1
   have h6 := st1.ext.n
   show m.n ≤ u.OB
   omega
  ·have h6 := st1.ext.n
   refine ⟨fun B hB => ?_, fun B hB => ?_, fun r hr B op v hB => ?_⟩
   ·have := (grown_low (w.ga j hj).1 B hB).1; omega
   ·have := (grown_low (w.go j hj).1 B hB).1; omega
   ·have := (w.ge j hj r hr B op v hB).1; omega
end Go.Sx
namespace Go.Sx
open Go.Dx Go.Proofs
def zW (EV : List EvR) (i : Nat) : EvR := EV.getD i ⟨0, 0, 0, 0, 0⟩
theorem xc {EV : List EvR} {i : Nat} (h : i < EV.length) : EV[i]? = some (zW EV i) := by
 unfold zW; rw [List.getD_eq_getElem?_getD, qaa h]; rfl
def isW (EV : List EvR) (c : Int) (v a : Nat) : Bool := decide ((zW EV a).kind = 2) && decide ((zW EV a).loc = c) && decide ((zW EV a).val = v)
def yK (EV : List EvR) (b : Nat) : List (Nat × Nat) := if (zW EV b).kind = 1 then ((List.range EV.length).filter (isW EV (zW EV b).loc (zW EV b).val)).map fun a => (a, b) else []
def GH (EV : List EvR) (N : Nat) : List (Nat × Nat) := (List.range (EV.length - N)).flatMap fun k => yK EV (N + k)
def pre (EV : List EvR) (b a : Nat) : List (Nat × Nat) := ((List.range a).filter (isW EV (zW EV b).loc (zW EV b).val)).map fun a => (a, b)
section
variable {m0 m : M} {P4 : Nat} {N : Nat} {evd co : Value} {σr : List (Nat × List Value)} {EV : List EvR}
end
end Go.Sx
namespace Go.Dx
section
variable {α β : Type} {m0 m1 m m' : M} {P2 P3 : Nat} {σ : List (Nat × List Value)} {g : Value} {e e' : Nat} {f : α → List Value} {f' : β → List Value} {rows : List α}
theorem GS.back {ec ei : List (Nat × List Value)} (h : GS m0 m1 m P2 P3 (σ ++ ec ++ ei) (.slice none 0 0) e' f' []) (hc : ∀ m', St m0 m' ec → Grown m1 m' g e f rows) (hk : ∀ B, blk g = some B → ∃ l, (B, l) ∈ ec) (hm : ∀ p ∈ ec, m1.n ≤ p.1) : GS m0 m1 m P2 P3 (σ ++ ei) g e f rows := by
 have hsub : List.Sublist (σ ++ ei) (σ ++ ec ++ ei) := (List.sublist_append_left σ ec).append (List.Sublist.refl ei)
 have hsub2 : List.Sublist ec (σ ++ ec ++ ei) := (List.sublist_append_right σ ec).trans (List.sublist_append_left _ ei)
 refine ⟨h.st.sub (fun p hp => hsub.subset hp) ((hsub.map _).nodup h.st.nd), h.rest, fun p hp => h.low p (hsub.subset hp), h.m01, h.m1b, hc m (h.st.sub (fun p hp => hsub2.subset hp) ((hsub2.map _).nodup h.st.nd)), fun B hB => ?_⟩
 obtain ⟨l, hl⟩ := hk B hB
 refine ⟨hm _ hl, (h.st.arr _ (hsub2.subset hl)).2.1, fun p hp heq => ?_⟩
 have hnd := h.st.nd
 rw [List.map_append, List.map_append, List.nodup_append, List.nodup_append] at hnd
 obtain ⟨⟨_, _, h12⟩, _, h3⟩ := hnd
 rcases qax.1 hp with hp | hp
 ·exact h12 p.1 (List.mem_map.2 ⟨p, hp, rfl⟩) B (List.mem_map.2 ⟨_, hl, rfl⟩) heq
 ·exact h3 B (List.mem_append_right _ (List.mem_map.2 ⟨_, hl, rfl⟩)) p.1 (List.mem_map.2 ⟨p, hp, rfl⟩) heq.symm
end
end Go.Dx
namespace Go.Sx
open Go.Dx Go.Proofs
def coV (EV : List EvR) (c v : Nat) : List Nat := (List.range EV.length).filter (isW EV c v)
def coX (EV : List EvR) (c : Nat) : List Nat := coV EV c 0 ++ coV EV c 1 ++ coV EV c 2
section
variable {m0 m : M} {P4 : Nat} {N : Nat} {evd rfd co : Value} {σr : List (Nat × List Value)} {EV : List EvR}
end
end Go.Sx
namespace Go.Sx
open Go.Dx Go.Proofs
def aw : Dx.Pre := ⟨15, [], .bool true, []⟩
noncomputable def xA (N : Nat) : Ex := ⟨fun g args m => bif Nat.beq g 15 then (exg Try.prog [aw] 1).f g args m else (ex Try.prog N).f g args m, (ex Try.prog N).y⟩
theorem xA_f (N g : Nat) (args : List Value) (m : M) (h : g ≠ 15) : (xA N).f g args m = (ex Try.prog N).f g args m := by
 show (bif Nat.beq g 15 then _ else _) = _
 rw [fR h]; rfl
theorem xA_aw (N : Nat) (m : M) : (xA N).f 15 [] m = some (.bool true, m) := rfl
theorem xA_ok (hP : Try.prog.follows .mixedOrders = true) (haw : PreOK Try.prog aw) (N : Nat) : zR Try.prog (xA N) := by
 refine ⟨fun g args m v m' h => ?_, (JY hP N).y⟩
 change (bif Nat.beq g 15 then (exg Try.prog [aw] 1).f g args m else (ex Try.prog N).f g args m) = some (v, m') at h
 cases hb : Nat.beq g 15 with
 | true => rw [hb] at h; exact (exg_ok hP (l := [aw]) (fun p hp => by rw [qah.1 hp]; exact haw) 1).f g args m v m' h
 | false => rw [hb] at h; exact (JY hP N).f g args m v m' h
theorem step_ret {P : Program} {x : Ex} {g : Nat} {c : SC} {nt : Nat} {res : List RV} {args : List Value} {m : M} {Q : Value → M → Prop} (hd : wH P g = some ⟨c, nt, res⟩) (ha : args.length ≤ nt)
  (h : Ret m Q (c x (zV res) noK (zV res) (jv .blank 0 args) m)) : Dx.Call (Ex.step P x) g args m Q := by
 obtain ⟨v, m', e, h1, h2⟩ := h
 refine ⟨v, m', ?_, h1, h2⟩
 show ob (wH P g) (yW x args m) = _
 rw [hd, qI, bO _ _ _ _ _ _ ha]; exact e
end Go.Sx
namespace Go.Sx
open Go.Dx Go.Proofs
set_option maxRecDepth 10000
structure Box (S : Nat → Prop) (B : M) (P : Nat) (l : List Value) : Prop where
 lt : P < B.n
 ns : ¬ S P
 ar : Arr B P l
section
variable {S : Nat → Prop} {B m' : M} {P : Nat} {l : List Value}
theorem Box.arr (h : Box S B P l) (hJ : SpJ S B m') : Arr m' P l := h.ar.congr (hJ.same P h.lt h.ns)
theorem Box.load (h : Box S B P l) (hJ : SpJ S B m') (o : Nat) (s : Option Nat) : load1 m' ⟨P, o, s⟩ = l[o]? := (h.arr hJ).load1 o s
theorem Box.loads (h : Box S B P l) (hJ : SpJ S B m') (s : Option Nat) : Dx.loads m' ⟨P, 0, s⟩ l.length = some l := by
 have := (h.arr hJ).loads (o := 0) (n := l.length) (s := s) (by simp)
 simpa using this
theorem yp {α : Type} {v : Value} {e : Nat} {f : α → List Value} {es : List α} (h : Rd B v e f es) (hS : ∀ X, blk v = some X → ¬ S X) (hJ : SpJ S B m') : Rd m' v e f es :=
 h.congr hJ.n fun X hX => hJ.same X (h.lt X hX) (hS X hX)
end
def In (lo hi X : Nat) : Prop := lo ≤ X ∧ X < hi
structure WV (B : M) (lo hi N nt : Nat) (tsl osl fsl : Value) (loc : Nat → Nat) (va vo : Nat → Value) (A : Nat → List AR) (G : Nat → TS) (W : List Nat) : Prop where
 fs : Rd B fsl 1 kA W
 ts : Rd B tsl 2 (fun p : Int × Value => [iv p.1, p.2]) ((List.range nt).map fun (j : Nat) => (((loc j : Nat) : Int), (va j : Value)))
 os : Rd B osl 1 (fun v : Value => [v]) ((List.range nt).map vo)
 th : ∀ j, j < nt → loc j = (G j).loc ∧ (A j).map AR.era = (G j).acts ∧ Rd B (va j) 11 zj (A j) ∧ Rd B (vo j) 1 kA (G j).outs ∧ ∀ r, r ∈ A j → ∀ X op v, r.e = some (X, op, v) → X < B.n ∧ Arr B X (zi op v)
 rf : ∀ X, blk fsl = some X → In lo hi X
 rt : ∀ X, blk tsl = some X → In lo hi X
 ro : ∀ X, blk osl = some X → In lo hi X
 rj : ∀ j, j < nt → (∀ X, blk (va j) = some X → In lo hi X) ∧ (∀ X, blk (vo j) = some X → In lo hi X) ∧ ∀ r, r ∈ A j → ∀ X op v, r.e = some (X, op, v) → In lo hi X
theorem WV.keep {B m' : M} {S : Nat → Prop} {lo hi N nt : Nat} {tsl osl fsl : Value} {loc : Nat → Nat} {va vo : Nat → Value} {A : Nat → List AR} {G : Nat → TS} {W : List Nat} (h : WV B lo hi N nt tsl osl fsl loc va vo A G W) (hS : ∀ X, In lo hi X → ¬ S X) (hJ : SpJ S B m') : WV m' lo hi N nt tsl osl fsl loc va vo A G W :=
 ⟨yp h.fs (fun X hX => hS X (h.rf X hX)) hJ, yp h.ts (fun X hX => hS X (h.rt X hX)) hJ, yp h.os (fun X hX => hS X (h.ro X hX)) hJ, fun j hj => by
  obtain ⟨a1, a2, a3, a4, a5⟩ := h.th j hj
  obtain ⟨b1, b2, b3⟩ := h.rj j hj
  exact ⟨a1, a2, yp a3 (fun X hX => hS X (b1 X hX)) hJ, yp a4 (fun X hX => hS X (b2 X hX)) hJ, fun r hr X op v hX => by
   obtain ⟨c1, c2⟩ := a5 r hr X op v hX
   exact ⟨qaf c1 hJ.n, c2.congr (hJ.same X c1 (hS X (b3 r hr X op v hX)))⟩⟩, h.rf, h.rt, h.ro, h.rj⟩
structure GW (B : M) (lo hi N : Nat) (x : GX) (evd rfd cod tov : Value) (sv : Nat → Value) : Prop where
 ev : Rd B evd 5 qp x.EV
 rf : Rd B rfd 2 qq x.RF
 to : Rd B tov 1 wa x.TO
 con : x.CO.length = N
 co : Rd B cod 1 (fun v : Value => [v]) ((List.range N).map sv)
 cc : ∀ c l, x.CO[c]? = some l → Rd B (sv c) 1 wa l
 re : ∀ X, blk evd = some X → In lo hi X
 rr : ∀ X, blk rfd = some X → In lo hi X
 rc : ∀ X, blk cod = some X → In lo hi X
 rt : ∀ X, blk tov = some X → In lo hi X
 rs : ∀ c, c < N → ∀ X, blk (sv c) = some X → In lo hi X
 ex : ∀ c, c < N → ∃ X n, sv c = .slice (some ⟨X, 0, some 3⟩) (1 + n) (1 + n) ∧ n ≤ 2
 sp : Sp 1 cod
theorem GW.keep {B m' : M} {S : Nat → Prop} {lo hi N : Nat} {x : GX} {evd rfd cod tov : Value} {sv : Nat → Value} (h : GW B lo hi N x evd rfd cod tov sv) (hS : ∀ X, In lo hi X → ¬ S X) (hJ : SpJ S B m') : GW m' lo hi N x evd rfd cod tov sv :=
 ⟨yp h.ev (fun X hX => hS X (h.re X hX)) hJ, yp h.rf (fun X hX => hS X (h.rr X hX)) hJ, yp h.to (fun X hX => hS X (h.rt X hX)) hJ, h.con, yp h.co (fun X hX => hS X (h.rc X hX)) hJ, fun c l hc => yp (h.cc c l hc) (fun X hX => hS X (h.rs c (by have := (qac.1 hc).1; rw [h.con] at this; exact this) X hX)) hJ,
  h.re, h.rr, h.rc, h.rt, h.rs, h.ex, h.sp⟩
end Go.Sx
namespace Go.Sx
open Go.Dx Go.Proofs
set_option maxRecDepth 10000
theorem _root_.Go.Dx.SpJ.ext' {S : Nat → Prop} {a b c : M} (h : SpJ S a b) (e : Ext b c) : SpJ S a c := h.more e.n e.base e.log fun X hX => e.obj X (qaf hX h.n)
end Go.Sx
namespace Go.Sx
open Go.Dx Go.Proofs
set_option maxRecDepth 10000
section
variable {B m' : M} {lo hi N nt : Nat}
theorem WV.ext {tsl osl fsl : Value} {loc : Nat → Nat} {va vo : Nat → Value} {A : Nat → List AR} {G : Nat → TS} {W : List Nat} (h : WV B lo hi N nt tsl osl fsl loc va vo A G W) (e : Ext B m') : WV m' lo hi N nt tsl osl fsl loc va vo A G W :=
 h.keep (S := fun _ => False) (fun _ _ h => h) ((SpJ.refl _ B).ext' e)
theorem GW.ext {x : GX} {evd rfd cod tov : Value} {sv : Nat → Value} (h : GW B lo hi N x evd rfd cod tov sv) (e : Ext B m') : GW m' lo hi N x evd rfd cod tov sv :=
 h.keep (S := fun _ => False) (fun _ _ h => h) ((SpJ.refl _ B).ext' e)
end
theorem Woven.wv {m0 m : M} {v : Value} {N nt : Nat} {S : Nat → TS} {W : List Nat} (h : Woven m0 m v N nt S W) : ∃ (tsl osl fsl : Value) (loc : Nat → Nat) (va vo : Nat → Value) (A : Nat → List AR), v = .tuple #[.agg #[iv N, tsl], .agg #[fsl, osl], iv 0] ∧ WV m m0.n m.n N nt tsl osl fsl loc va vo A S W := by
 obtain ⟨tsl, osl, fsl, loc, va, vo, A, e, h1, h2, h3, h4, h5, h6, h7, h8⟩ := h
 exact ⟨tsl, osl, fsl, loc, va, vo, A, e, h1, h2, h3, h4, fun X hX => ⟨h5 X hX, h1.lt X hX⟩, fun X hX => ⟨h6 X hX, h2.lt X hX⟩, fun X hX => ⟨h7 X hX, h3.lt X hX⟩, fun j hj => by
  obtain ⟨a1, a2, a3, a4, a5⟩ := h4 j hj
  obtain ⟨b1, b2, b3⟩ := h8 j hj
  exact ⟨fun X hX => ⟨b1 X hX, a3.lt X hX⟩, fun X hX => ⟨b2 X hX, a4.lt X hX⟩, fun r hr X op v hX => ⟨b3 r hr X op v hX, (a5 r hr X op v hX).1⟩⟩⟩
theorem Graphed.gw {m0 m : M} {v : Value} {N : Nat} {x : GX} (h : Graphed m0 m v N x) : ∃ (evd rfd cod tov : Value) (sv : Nat → Value), v = .tuple #[.agg ⟨qc N evd rfd cod⟩, tov, iv 0] ∧ GW m m0.n m.n N x evd rfd cod tov sv := by
 obtain ⟨evd, rfd, cod, tov, sv, e, h1, h2, h3, h4, h5, h6, h7, h8, h9, h10, h11, h12, h13⟩ := h
 exact ⟨evd, rfd, cod, tov, sv, e, h1, h2, h3, h4, h5, h6, fun X hX => ⟨h7 X hX, h1.lt X hX⟩, fun X hX => ⟨h8 X hX, h2.lt X hX⟩, fun X hX => ⟨h9 X hX, h5.lt X hX⟩, fun X hX => ⟨h10 X hX, h3.lt X hX⟩, fun c hc X hX => ⟨h11 c hc X hX, by
  obtain ⟨l, hl⟩ : ∃ l, x.CO[c]? = some l := ⟨_, qaa (by rw [h4]; exact hc)⟩
  exact (h6 c l hl).lt X hX⟩, h12, h13⟩
theorem _root_.Go.Dx.St.call2 {m0 M : Dx.M} {σ : List (Nat × List Value)} (st : St m0 M σ) {M' : Dx.M} (e : Ext M M') {z l : List Value} (hz : z.length = l.length) (hl : ∀ v ∈ l, okC v = true) : ∃ M2, qO l.length (.pointer (some ⟨M'.n, 0, none⟩)) (.agg ⟨l⟩) (Dx.newRow M' z) = some (undef, M2) ∧ St m0 M2 ((M'.n, l) :: σ) ∧ Ext M' M2 ∧ M2.n = M'.n + 1 := by
 have st2 := (st.step e).row z
 obtain ⟨M2, d1, d2, d3, d4⟩ := st2.fill 0 rfl (n := l.length) (l' := l) hz rfl hl
 exact ⟨M2, d1, d2, ⟨by rw [d3, qn]; omega, fun B hB => by rw [d4 B (by omega)]; exact (Ext.row M' _).obj B hB, by rw [d2.ext.base, (st.step e).ext.base], by rw [d2.ext.log, (st.step e).ext.log]⟩, by rw [d3, qn]⟩
def WO (B : M) (lo hi : Nat) (es : List (Int × Int)) (ms : List Int) (TH CE VA WR : Nat → Nat) (l10 l11 : List Value) : Prop := (wn es ms).2 = 0 → ∃ (tsl osl fsl : Value) (loc : Nat → Nat) (va vo : Nat → Value) (A : Nat → List AR), l10 = [iv (es.length - cnt es : Nat), tsl] ∧ l11 = [fsl, osl] ∧
 WV B lo hi (es.length - cnt es) (cnt es) tsl osl fsl loc va vo A (fun j => ((qF es (qM es)).foldl (wG es ms TH CE VA) TS0 j).fin) ((List.range (es.length - cnt es)).map WR)
theorem WO.ext {B m' : M} {lo hi : Nat} {es : List (Int × Int)} {ms : List Int} {TH CE VA WR : Nat → Nat} {l10 l11 : List Value} (h : WO B lo hi es ms TH CE VA WR l10 l11) (e : Ext B m') : WO m' lo hi es ms TH CE VA WR l10 l11 := fun hz => by
 obtain ⟨tsl, osl, fsl, loc, va, vo, A, h1, h2, h3⟩ := h hz
 exact ⟨tsl, osl, fsl, loc, va, vo, A, h1, h2, h3.ext e⟩
theorem BD (n : Nat) (ed md : Value) (es : List (Int × Int)) (ms : List Int) (m : M) (hm : m.base ≤ m.n) (hl : es.length < 9223372036854775807) (hed : Rd m ed 2 edgeRow es) (hmd : Rd m md 1 modeRow ms) (ch : Nat → List Nat)
  (hch : (wn es ms).2 = 0 → ∀ c, c < es.length - cnt es → km es (zY es (es.length - cnt es) (qF es (qM es))).ce (qM es) c (ch c)) (TH CE VA WR : Nat → Nat)
  (hlaw : (wn es ms).2 = 0 → fL es (za es ch (List.replicate es.length 0) (es.length - cnt es)) TH CE VA WR) :
  ∃ m' x1 x2 y1 y2, (Go.Dx.ex Try.prog (n + 9)).f 12 [.agg #[ed, md]] m = some (.tuple #[.agg #[x1, x2], .agg #[y1, y2], iv (wn es ms).2], m') ∧ Ext m m' ∧ okC x1 = true ∧ okC x2 = true ∧ okC y1 = true ∧ okC y2 = true ∧ WO m' m.n m'.n es ms TH CE VA WR [x1, x2] [y1, y2] := by
 obtain ⟨v1, m1, p1, p2, pQ⟩ := BC n ed md es ms m hm hl hed hmd ch hch TH CE VA WR hlaw
 rcases pQ with ⟨hz, rfl⟩ | ⟨hz, hw⟩
 ·exact ⟨m1, _, _, _, _, p1, p2, rfl, rfl, rfl, rfl, fun h => absurd h hz⟩
 ·obtain ⟨tsl, osl, fsl, loc, va, vo, A, rfl, hq⟩ := hw.wv
  rw [hz]
  exact ⟨m1, _, _, _, _, p1, p2, rfl, hq.ts.okV, hq.fs.okV, hq.os.okV, fun _ => ⟨tsl, osl, fsl, loc, va, vo, A, rfl, rfl, hq⟩⟩
theorem _root_.Go.Dx.St.call22 {m0 M : Dx.M} {σ : List (Nat × List Value)} (st : St m0 M σ) {M' : Dx.M} (e : Ext M M') {z1 z2 l1 l2 : List Value} (hz1 : z1.length = l1.length) (hz2 : z2.length = l2.length) (hl1 : ∀ v ∈ l1, okC v = true) (hl2 : ∀ v ∈ l2, okC v = true) :
  ∃ M2 M3, qO l1.length (.pointer (some ⟨M'.n, 0, none⟩)) (.agg ⟨l1⟩) (Dx.newRow (Dx.newRow M' z1) z2) = some (undef, M2) ∧ qO l2.length (.pointer (some ⟨M'.n + 1, 0, none⟩)) (.agg ⟨l2⟩) M2 = some (undef, M3) ∧ St m0 M3 ((M'.n + 1, l2) :: (M'.n, l1) :: σ) ∧ Ext M' M3 ∧ M3.n = M'.n + 2 := by
 have st2 := ((st.step e).row z1).row z2
 rw [qn] at st2
 obtain ⟨M2, d1, d2, d3, d4⟩ := st2.fill 1 rfl (n := l1.length) (l' := l1) hz1 rfl hl1
 obtain ⟨M3, e1, e2, e3, e4⟩ := d2.fill 0 rfl (n := l2.length) (l' := l2) hz2 rfl hl2
 exact ⟨M2, M3, d1, e1, e2, ⟨by rw [e3, d3, qn, qn]; omega, fun B hB => by rw [e4 B (by omega), d4 B (by omega)]; exact ((Ext.row M' z1).trans (Ext.row _ z2)).obj B hB, by rw [e2.ext.base, (st.step e).ext.base], by rw [e2.ext.log, (st.step e).ext.log]⟩, by rw [e3, d3, qn, qn]⟩
end Go.Sx
namespace Go.Sx
open Go.Dx Go.Proofs
set_option maxRecDepth 10000
def GO (B : M) (lo hi : Nat) (es : List (Int × Int)) (ms : List Int) (TH CE VA WR : Nat → Nat) (l16 : List Value) (tov : Value) : Prop := (wn es ms).2 = 0 → ∃ (evd rfd cod : Value) (sv : Nat → Value), l16 = qc (es.length - cnt es) evd rfd cod ∧
 GW B lo hi (es.length - cnt es) (jQ es ms TH CE VA WR (es.length - cnt es) (qM es)) evd rfd cod tov sv
theorem GO.ext {B m' : M} {lo hi : Nat} {es : List (Int × Int)} {ms : List Int} {TH CE VA WR : Nat → Nat} {l16 : List Value} {tov : Value} (h : GO B lo hi es ms TH CE VA WR l16 tov) (e : Ext B m') : GO m' lo hi es ms TH CE VA WR l16 tov := fun hz => by
 obtain ⟨evd, rfd, cod, sv, h1, h3⟩ := h hz
 exact ⟨evd, rfd, cod, sv, h1, h3.ext e⟩
theorem gok {N : Nat} {ev rf co : Value} (h1 : okC ev = true) (h2 : okC rf = true) (h3 : okC co = true) : ∀ v ∈ qc N ev rf co, okC v = true := by
 intro v hv
 simp only [qc, List.mem_cons, List.not_mem_nil, or_false] at hv
 rcases hv with e | e | e | e | e | e | e | e <;> rw [e] <;> first | rfl | assumption
theorem BB (n : Nat) (ed md : Value) (es : List (Int × Int)) (ms : List Int) (m : M) (hm : m.base ≤ m.n) (hl : es.length < 9223372036854775807) (hed : Rd m ed 2 edgeRow es) (hmd : Rd m md 1 modeRow ms) (ch : Nat → List Nat)
  (hch : (wn es ms).2 = 0 → ∀ c, c < es.length - cnt es → km es (zY es (es.length - cnt es) (qF es (qM es))).ce (qM es) c (ch c)) (TH CE VA WR : Nat → Nat)
  (hlaw : (wn es ms).2 = 0 → fL es (za es ch (List.replicate es.length 0) (es.length - cnt es)) TH CE VA WR) (hlaw2 : (wn es ms).2 = 0 → (∀ i, i < es.length → CE i < es.length - cnt es ∧ VA i ≤ 2) ∧ ∀ x, x < es.length - cnt es → WR x ≤ 2) :
  ∃ m' N0 ev rf co tov, (Go.Dx.ex Try.prog (n + 9)).f 23 [.agg #[ed, md]] m = some (.tuple #[.agg ⟨qc N0 ev rf co⟩, tov, iv (wn es ms).2], m') ∧ Ext m m' ∧ (∀ v ∈ qc N0 ev rf co, okC v = true) ∧ GO m' m.n m'.n es ms TH CE VA WR (qc N0 ev rf co) tov := by
 obtain ⟨v1, m1, p1, p2, pQ⟩ := BA n ed md es ms m hm hl hed hmd ch hch TH CE VA WR hlaw hlaw2
 rcases pQ with ⟨hz, rfl⟩ | ⟨hz, hw⟩
 ·exact ⟨m1, 0, .slice none 0 0, .slice none 0 0, .slice none 0 0, _, p1, p2, gok rfl rfl rfl, fun h => absurd h hz⟩
 ·obtain ⟨evd, rfd, cod, tov, sv, rfl, hq⟩ := hw.gw
  rw [hz]
  exact ⟨m1, _, _, _, _, _, p1, p2, gok hq.ev.okV hq.rf.okV hq.co.okV, fun _ => ⟨evd, rfd, cod, sv, rfl, hq⟩⟩
end Go.Sx
namespace Go.Sx
open Go.Dx Go.Proofs
set_option maxRecDepth 10000
structure Yk (N nt : Nat) (x : GX) (acts : Nat → List AB) (outs : Nat → List Nat) (W : List Nat) : Prop where
 ev : vL acts outs N nt = x.EV
 nl : nt ≤ 100
 al : ∀ j, j < nt → (acts j).length ≤ 1000
 nd : ∀ j, j < nt → ∀ a ∈ acts j, a.1 = 3 → a.2.2.2.2 ≠ none
 ld : ∀ j, j < nt → ∀ k a, (acts j)[k]? = some a → a.1 = 2 → (((acts j).take k).foldl (aEv j (outs j)) (0, [])).1 < (outs j).length
 cand : ∀ b e, x.EV[b]? = some e → e.kind = 1 → ∃ w, (List.range x.EV.length).filter (jo x.EV e) = [w] ∧ x.RF[nR x.EV b]? = some (w, b)
 rfn : x.RF.length = nR x.EV x.EV.length
 rin : ∀ p ∈ x.RF, p.1 < x.EV.length ∧ p.2 < x.EV.length
 wf : ∀ co, WFg N x.EV x.RF (coF x.EV N N co).1
 wl : W.length ≤ 256
 T : ∃ T, T < 256 ∧ (coF x.EV N N T).1 = x.CO ∧ ∀ co, ((coF x.EV N N co).2 = 0 ∧ QY x.EV (coF x.EV N N co).1 = W) ↔ co = T
section
variable {m m' : M} {N nt : Nat} {tsl osl fsl : Value} {loc : Nat → Nat} {va vo : Nat → Value} {A : Nat → List AR} {O : Nat → List Nat}
theorem PO.sees (h : PO m nt tsl osl fsl loc va vo A O) (k : Sees m m') : PO m' nt tsl osl fsl loc va vo A O :=
 ⟨h.ts.sees k, h.os.sees k, h.fs, fun j hj => (h.ac j hj).sees k, fun j hj => (h.ou j hj).sees k, fun j hj r hr => ⟨fun X op v hX => by
  obtain ⟨h1, h2⟩ := (h.nd j hj r hr).1 X op v hX
  exact ⟨qaf h1 k.n, h2.congr (k.obj X h1)⟩, (h.nd j hj r hr).2⟩, h.ld, h.al, h.nl⟩
theorem dz {A A' : Nat → List AB} {O O' : Nat → List Nat} (N : Nat) : ∀ nt, (∀ j, j < nt → A j = A' j ∧ O j = O' j) → vL A O N nt = vL A' O' N nt
 | 0, _ => rfl
 | nt + 1, h => by
  have ih := dz N nt fun j hj => h j (by omega)
  unfold vL at ih ⊢
  rw [qL, qL, ih, (h nt (by omega)).1, (h nt (by omega)).2]
def fnd (T pick co : Nat) : Nat := if pick = 0 then (if T < co then 1 else 0) else 1
set_option maxHeartbeats 2000000 in
theorem onlyL {x : GX} {acts : Nat → List AB} {outs : Nat → List Nat} {W : List Nat} (hm : m.base ≤ m.n) (hE : Ext m m') (H : Yk N nt x acts outs W) (hp : PO m' nt tsl osl fsl loc va vo A O) (hA : ∀ j, j < nt → (A j).map AR.era = acts j ∧ O j = outs j) (hfs : Rd m' fsl 1 kA W)
  {evd rfd cod : Value} {sv : Nat → Value} (hg : GrV m' N x.EV x.RF x.CO evd rfd cod sv) {P3 P4 P6 : Nat} (l3 : loads m' ⟨P3, 0, none⟩ 2 = some [iv N, tsl]) (l4 : loads m' ⟨P4, 0, none⟩ 2 = some [fsl, osl]) (l6 : loads m' ⟨P6, 0, none⟩ 8 = some (qc N evd rfd cod)) (n3 : P3 < m'.n) (n4 : P4 < m'.n) (n6 : P6 < m'.n)
  {t : Tm} (t3 : Tm.get 3 t = .pointer (some ⟨P3, 0, none⟩)) (t4 : Tm.get 4 t = .pointer (some ⟨P4, 0, none⟩)) (t6 : Tm.get 6 t = .pointer (some ⟨P6, 0, none⟩)) (t9 : Tm.get 9 t = iv 0) (t10 : Tm.get 10 t = iv 0) {kn : K} {ke : Nat → K}
  (hk : ∀ t' m2, Ext m m2 → Tm.get 9 t' = iv 1 → Ret m (fun v _ => v = .bool true) (ke 0 t' m2)) : Ret m (fun v _ => v = .bool true) (Zr (xA 9) kn ke (zV [.t 2]) t m') := by
 obtain ⟨T, hT, hTx, hTi⟩ := H.T
 have hb0 : m'.base ≤ m'.n := by have := hE.n; rw [hE.base]; omega
 have S0 := Sees.refl hb0
 have hEV : vL (fun j => (A j).map AR.era) O N nt = x.EV := by rw [← H.ev]; exact dz N nt hA
 have wf0 := H.wf 0
 have hl := wf0.n2
 have hN := wf0.n1
 have hwg : WFg N x.EV x.RF x.CO := by rw [← hTx]; exact H.wf T
 have hrl : x.RF.length ≤ 300 := by rw [H.rfn]; exact qam (Ga _ _) (by omega)
 refine qu (c := Zr) rfl (Ret m _) (fun p t m2 => Ext m' m2 ∧ Tm.get 3 t = .pointer (some ⟨P3, 0, none⟩) ∧ Tm.get 4 t = .pointer (some ⟨P4, 0, none⟩) ∧ Tm.get 6 t = .pointer (some ⟨P6, 0, none⟩) ∧ Tm.get 9 t = iv (fnd T p 0) ∧ Tm.get 10 t = iv p) 16 (by omega)
  ⟨Ext.refl _, t3, t4, t6, by rw [t9]; rfl, t10⟩ (fun p t m2 k hi hI hk1 => ?_)
 obtain ⟨E2, t3, t4, t6, t9, t10⟩ := hI
 by_cases hil : p < 16
 ·have hd : ((p : Int) < 16) = True := eq_true (by omega)
  simp [t10, hd]
  refine qu (c := Yv) rfl (Ret m _) (fun c t m2 => Ext m' m2 ∧ Tm.get 3 t = .pointer (some ⟨P3, 0, none⟩) ∧ Tm.get 4 t = .pointer (some ⟨P4, 0, none⟩) ∧ Tm.get 6 t = .pointer (some ⟨P6, 0, none⟩) ∧ Tm.get 9 t = iv (fnd T p c) ∧ Tm.get 10 t = iv p ∧ Tm.get 11 t = iv c) 256 (by omega)
   ⟨E2, by simp [t3], by simp [t4], by simp [t6], by simp [t9], by simp [t10], by simp⟩ (fun c t m2 k2 hi2 hI2 hk2 => ?_)
  obtain ⟨E2, t3, t4, t6, t9, t10, t11⟩ := hI2
  by_cases hil2 : c < 256
  ·have hd2 : ((c : Int) < 256) = True := eq_true (by omega)
   have S2 := S0.ext E2
   have w1 := qS (i := c) (by omega)
   have k3 : loads m2 ⟨P3, 0, none⟩ 2 = some [iv N, tsl] := by rw [ky S2 n3]; exact l3
   have k4 : loads m2 ⟨P4, 0, none⟩ 2 = some [fsl, osl] := by rw [ky S2 n4]; exact l4
   obtain ⟨v1, m3, a1, a2, ev, rf, cov, sv1, hv1, gr1⟩ := FA 8 S2.base (hp.sees S2) hEV hl hN H.cand H.rfn p c (by omega) (by omega)
   obtain ⟨b, hb⟩ := qay (decide (p = 0 ∧ (coF x.EV N N c).2 = 0))
   rw [← hb] at hv1
   subst hv1
   have S3 := S2.ext a2
   have hok := xg (N := N) gr1.ev.okV gr1.rf.okV gr1.co.okV
   obtain ⟨m4, s1, s2, s3, s4, s5⟩ := wJ (m := m3) S3.base (zs := wD) (l := qc N ev rf cov) (v := .agg ⟨qc N ev rf cov⟩) (n := 8) rfl rfl rfl hok
   have s1' : qO 8 (.pointer (some ⟨m3.n, 0, none⟩)) (.agg ⟨qc N ev rf cov⟩) (Dx.newRow m3 [.int .i64 0, .slice none 0 0, .slice none 0 0, .slice none 0 0, .slice none 0 0, .slice none 0 0, .slice none 0 0, .slice none 0 0]) = some (undef, m4) := s1
   have E4 := (E2.trans a2).trans s4
   have S34 : Sees m3 m4 := S3.self.ext s4
   have S4 := S0.ext E4
   have hk2' : fnd T p (c + 1) = fnd T p c → ∀ t' m'', Ext m' m'' → Tm.get 3 t' = .pointer (some ⟨P3, 0, none⟩) → Tm.get 4 t' = .pointer (some ⟨P4, 0, none⟩) → Tm.get 6 t' = .pointer (some ⟨P6, 0, none⟩) → Tm.get 9 t' = iv (fnd T p c) → Tm.get 10 t' = iv p → Tm.get 11 t' = iv (c + 1 : Nat) → Ret m (fun v _ => v = .bool true) (k2 t' m'') := fun hf t' m'' e1 e2 e3 e4 e5 e6 e7 => hk2 hil2 _ _ ⟨e1, e2, e3, e4, by rw [hf]; exact e5, e6, e7⟩
   by_cases hcond : p = 0 ∧ (coF x.EV N N c).2 = 0
   ·rw [decide_eq_true hcond] at hb
    subst hb
    obtain ⟨hp0, hc0⟩ := hcond
    have l12 : loads m4 ⟨m3.n, 0, none⟩ 8 = some (qc N ev rf cov) := s3 none
    obtain ⟨v2, m5, d1, d2, fv, rfl, d3⟩ := Bz 3 S34.base (gr1.sees S34) (H.wf c)
    have S5 := S4.ext d2
    have E5 := E4.trans d2
    have hfs5 := hfs.sees S5
    have k45 : load1 m5 ⟨P4, 0, none⟩ = some fsl := by rw [qv S5 n4]; exact jy l4 (o := 0) rfl
    obtain ⟨v3, m6, e1, e2, rfl⟩ := XJ 8 fv fsl (QY x.EV (coF x.EV N N c).1) W (by unfold QY; rw [List.length_map, (xE _ _ _ _).1]; omega) (by have := H.wl; omega) m5 S5.base d3 hfs5
    have E6 := E5.trans e2
    have S6 := S5.ext e2
    by_cases hW : QY x.EV (coF x.EV N N c).1 = W
    ·rw [decide_eq_true hW] at e1
     have hcT : c = T := (hTi c).1 ⟨hc0, hW⟩
     have hco : (coF x.EV N N c).1 = x.CO := by rw [hcT]; exact hTx
     have S36 : Sees m3 m6 := (S34.ext d2).ext e2
     have l12' : loads m6 ⟨m3.n, 0, none⟩ 8 = some (qc N ev rf cov) := by rw [ky ((S34.self.ext d2).ext e2) s5]; exact l12
     obtain ⟨v4, m7, f1, f2, ev4, rf4, co4, rfl, gv4⟩ := Ym 7 S6.base (gr1.sees S36) (H.wf c) hrl H.rin
     have S7 := S6.ext f2
     have hok4 := xg (N := N) gv4.ev.okV gv4.rf.okV (by obtain ⟨_, h, _⟩ := gv4.co; exact h.okV)
     obtain ⟨m8, u1, u2, u3, u4, u5⟩ := wJ (m := m7) S7.base (zs := wD) (l := qc N ev4 rf4 co4) (v := .agg ⟨qc N ev4 rf4 co4⟩) (n := 8) rfl rfl rfl hok4
     have u1' : qO 8 (.pointer (some ⟨m7.n, 0, none⟩)) (.agg ⟨qc N ev4 rf4 co4⟩) (Dx.newRow m7 [.int .i64 0, .slice none 0 0, .slice none 0 0, .slice none 0 0, .slice none 0 0, .slice none 0 0, .slice none 0 0, .slice none 0 0]) = some (undef, m8) := u1
     have S8 := S7.ext u4
     have E8 := (E6.trans f2).trans u4
     have k6 : loads m8 ⟨P6, 0, none⟩ 8 = some (qc N evd rfd cod) := by rw [ky S8 n6]; exact l6
     obtain ⟨v5, m9, g1, g2, ev5, rf5, co5, rfl, gv5⟩ := Ym 7 S8.base (hg.sees S8) hwg hrl H.rin
     have S9 := S8.ext g2
     have hok5 := xg (N := N) gv5.ev.okV gv5.rf.okV (by obtain ⟨_, h, _⟩ := gv5.co; exact h.okV)
     obtain ⟨m10, x1, x2, x3, x4, x5⟩ := wJ (m := m9) S9.base (zs := wD) (l := qc N ev5 rf5 co5) (v := .agg ⟨qc N ev5 rf5 co5⟩) (n := 8) rfl rfl rfl hok5
     have x1' : qO 8 (.pointer (some ⟨m9.n, 0, none⟩)) (.agg ⟨qc N ev5 rf5 co5⟩) (Dx.newRow m9 [.int .i64 0, .slice none 0 0, .slice none 0 0, .slice none 0 0, .slice none 0 0, .slice none 0 0, .slice none 0 0, .slice none 0 0]) = some (undef, m10) := x1
     have S10 := S9.ext x4
     have E10 := (E8.trans g2).trans x4
     have S810 : Sees m8 m10 := (S8.self.ext g2).ext x4
     have S710 : Sees m7 m10 := (S7.self.ext u4).trans S810
     have S910 : Sees m9 m10 := S9.self.ext x4
     have k16 : loads m10 ⟨m7.n, 0, none⟩ 8 = some (qc N ev4 rf4 co4) := by rw [ky S810 u5]; exact u3 none
     have k17 : loads m10 ⟨m9.n, 0, none⟩ 8 = some (qc N ev5 rf5 co5) := x3 none
     have gvA : GV m10 N (dL x.EV x.RF x.CO) ev4 rf4 co4 := by rw [← hco]; exact gv4.sees S710
     have gvB : GV m10 N (dL x.EV x.RF x.CO) ev5 rf5 co5 := gv5.sees S910
     have hcl := ji x.EV 65
     obtain ⟨v6, m11, y1, y2, rfl⟩ := Same_m 7 N (dL x.EV x.RF x.CO) ev4 rf4 co4 ev5 rf5 co5 m10 S10.base (by unfold dL; simp only; have : 65 * x.EV.length ≤ 65 * 256 := Nat.mul_le_mul_left _ hl; omega)
      (by
       unfold dL
       simp only
       have h1 := Za (x.RF.map (dp (kD x.EV 65).1)) x.EV.length true x.EV.length 0 [] (by simp)
       rw [List.length_map] at h1
       have h2 : x.EV.length * x.RF.length ≤ 256 * 300 := Nat.mul_le_mul hl hrl
       omega) (by unfold dL; simp only [List.length_map]; rw [hwg.con]; omega) (fun l hl' => by
       unfold dL at hl'
       simp only [List.mem_map] at hl'
       obtain ⟨l0, h0, rfl⟩ := hl'
       obtain ⟨c0, hc0', rfl⟩ := List.getElem_of_mem h0
       rw [List.length_map, (hwg.coh c0 _ (qaa hc0')).2.2.2]
       exact qam (KH _ _ _) (by omega)) gvA gvB
     have hfn : fnd T p c = 0 ∧ fnd T p (c + 1) = 1 := by
      unfold fnd
      rw [if_pos hp0, if_pos hp0, if_neg (by omega), if_pos (by omega)]
      exact ⟨rfl, rfl⟩
     rw [hfn.1] at t9
     have t9' : Tm.get 9 t = iv 0 := t9
     simp [t3, t4, t6, t9', t10, t11, hd2, k3, k4, ql, xA_f, a1, s1', l12, d1, k45, e1, l12', f1, u1', k6, g1, x1', k16, k17, y1, w1]
     refine hk2 hil2 _ _ ⟨E10.trans y2, by simp [t3], by simp [t4], by simp [t6], by rw [hfn.2]; simp; exact wrap64 _ (by omega) (by omega), by simp [t10], by simp⟩
    ·rw [decide_eq_false hW] at e1
     have hcT : c ≠ T := fun e => hW ((hTi c).2 e).2
     simp [t3, t4, t6, t9, t10, t11, hd2, k3, k4, ql, xA_f, a1, s1', l12, d1, k45, e1, w1]
     refine hk2' ?_ _ _ E6 (by simp [t3]) (by simp [t4]) (by simp [t6]) (by simp [t9]) (by simp [t10]) (by simp)
     unfold fnd
     rw [if_pos hp0, if_pos hp0]
     by_cases h : T < c
     ·rw [if_pos h, if_pos (by omega)]
     ·rw [if_neg h, if_neg (by omega)]
   ·rw [decide_eq_false hcond] at hb
    subst hb
    simp [t3, t4, t6, t9, t10, t11, hd2, k3, k4, ql, xA_f, a1, s1', w1]
    refine hk2' ?_ _ _ E4 (by simp [t3]) (by simp [t4]) (by simp [t6]) (by simp [t9]) (by simp [t10]) (by simp)
    unfold fnd
    by_cases hp0 : p = 0
    ·rw [if_pos hp0, if_pos hp0]
     have hcT : c ≠ T := fun e => hcond ⟨hp0, ((hTi c).2 e).1⟩
     by_cases h : T < c
     ·rw [if_pos h, if_pos (by omega)]
     ·rw [if_neg h, if_neg (by omega)]
    ·rw [if_neg hp0, if_neg hp0]
  obtain rfl : c = 256 := by omega
  have t11' : Tm.get 11 t = iv 256 := t11
  have w2 := qS (i := p) (by omega)
  simp [t11', t10, w2]
  refine hk1 hil _ _ ⟨E2, by simp [t3], by simp [t4], by simp [t6], ?_, by simp⟩
  have : fnd T (p + 1) 0 = fnd T p 256 := by
   unfold fnd
   by_cases hp0 : p = 0
   ·rw [if_neg (by omega), if_pos hp0, if_pos hT]
   ·rw [if_neg (by omega), if_neg hp0]
  rw [this]; simp [t9]
 obtain rfl : p = 16 := by omega
 have t10' : Tm.get 10 t = iv 16 := t10
 simp [t10']
 exact hk _ _ (hE.trans E2) (by simp [t9, fnd])
end
end Go.Sx
namespace Go.Sx
open Go.Dx Go.Proofs
set_option maxRecDepth 10000
theorem WV.po {m : M} {lo hi N nt : Nat} {tsl osl fsl : Value} {loc : Nat → Nat} {va vo : Nat → Value} {A : Nat → List AR} {G : Nat → TS} {W : List Nat} (h : WV m lo hi N nt tsl osl fsl loc va vo A G W) {x : GX} (H : Yk N nt x (fun j => (G j).acts) (fun j => (G j).outs) W) : PO m nt tsl osl fsl loc va vo A (fun j => (G j).outs) := by
 have era : ∀ j, j < nt → (A j).map AR.era = (G j).acts := fun j hj => (h.th j hj).2.1
 refine ⟨h.ts, h.os, h.fs.okV, fun j hj => (h.th j hj).2.2.1, fun j hj => (h.th j hj).2.2.2.1, fun j hj r hr => ⟨fun X op v hX => (h.th j hj).2.2.2.2 r hr X op v hX, fun h3 => ?_⟩, fun j hj k r hr h2 => ?_, fun j hj => ?_, H.nl⟩
 ·have hm : r.era ∈ (G j).acts := by rw [← era j hj]; exact List.mem_map.2 ⟨r, hr, rfl⟩
  have := H.nd j hj _ hm h3
  cases he : r.e with
  | none => unfold AR.era at this; rw [he] at this; exact absurd rfl this
  | some p => exact ⟨p.1, p.2.1, p.2.2, rfl⟩
 ·have hk : (G j).acts[k]? = some r.era := by rw [← era j hj, qaq, hr]; rfl
  have := H.ld j hj k _ hk h2
  rw [List.map_take, era j hj]
  exact this
 ·have := H.al j hj
  rw [← era j hj, List.length_map] at this
  exact this
set_option maxHeartbeats 1000000 in
theorem WX (ed md : Value) (es : List (Int × Int)) (ms : List Int) (m : M) (hm : m.base ≤ m.n) (hl : es.length < 9223372036854775807) (hed : Rd m ed 2 edgeRow es) (hmd : Rd m md 1 modeRow ms) (ch : Nat → List Nat)
  (hch : (wn es ms).2 = 0 → ∀ c, c < es.length - cnt es → km es (zY es (es.length - cnt es) (qF es (qM es))).ce (qM es) c (ch c)) (TH CE VA WR : Nat → Nat)
  (hlaw : (wn es ms).2 = 0 → fL es (za es ch (List.replicate es.length 0) (es.length - cnt es)) TH CE VA WR) (hlaw2 : (wn es ms).2 = 0 → (∀ i, i < es.length → CE i < es.length - cnt es ∧ VA i ≤ 2) ∧ ∀ x, x < es.length - cnt es → WR x ≤ 2)
  (H : (wn es ms).2 = 0 → Yk (es.length - cnt es) (cnt es) (jQ es ms TH CE VA WR (es.length - cnt es) (qM es)) (fun j => ((qF es (qM es)).foldl (wG es ms TH CE VA) TS0 j).fin.acts) (fun j => ((qF es (qM es)).foldl (wG es ms TH CE VA) TS0 j).fin.outs) ((List.range (es.length - cnt es)).map WR)) :
  CallV (Ex.step Try.prog (xA 9)) 11 [.agg #[ed, md]] m (.bool true) := by
 refine step_ret da0_ok (by simp) ?_
 have st0 : St m m [] := St.nil hm (Ext.refl m)
 have st1 := st0.row [ed, md]
 have hb : loads (Dx.newRow m [ed, md]) ⟨m.n, 0, none⟩ 2 = some [ed, md] := vU m _ 0 2 (by simp)
 have x1 := hed.sees st1.sees
 have x2 := hmd.sees st1.sees
 obtain ⟨M1, u1, u2, u3, u4, a1, a2, a3, a4, a5, a6, a7⟩ := BD 0 ed md es ms (Dx.newRow m [ed, md]) st1.sees.base hl x1 x2 ch hch TH CE VA WR hlaw
 obtain ⟨Ma, M2, b1, b2, b3, b4, b5⟩ := st1.call22 a2 (z1 := [.int .i64 0, .slice none 0 0]) (z2 := [.slice none 0 0, .slice none 0 0]) (l1 := [u1, u2]) (l2 := [u3, u4]) rfl rfl (by simp [a3, a4]) (by simp [a5, a6])
 have E02 := a2.trans b4
 have S02 := st1.sees.self.ext E02
 have l72 : loads M2 ⟨m.n, 0, none⟩ 2 = some [ed, md] := (b3.get 2 (b := m.n) (l := [ed, md]) rfl).2.2.loads (n := 2) (by simp)
 obtain ⟨M3, N0, ev, rf, co, tov, c1, c2, c3, c4⟩ := BB 0 ed md es ms M2 S02.base hl (x1.sees S02) (x2.sees S02) ch hch TH CE VA WR hlaw hlaw2
 obtain ⟨M4, d1, d3, d4, d5⟩ := b3.call2 c2 (z := wD) (l := qc N0 ev rf co) rfl c3
 have b1' : qO 2 (.pointer (some ⟨M1.n, 0, none⟩)) (.agg ⟨[u1, u2]⟩) (Dx.newRow (Dx.newRow M1 [.int .i64 0, .slice none 0 0]) [.slice none 0 0, .slice none 0 0]) = some (undef, Ma) := b1
 have b2' : qO 2 (.pointer (some ⟨M1.n + 1, 0, none⟩)) (.agg ⟨[u3, u4]⟩) Ma = some (undef, M2) := b2
 have d1' : qO 8 (.pointer (some ⟨M3.n, 0, none⟩)) (.agg ⟨qc N0 ev rf co⟩) (Dx.newRow M3 [.int .i64 0, .slice none 0 0, .slice none 0 0, .slice none 0 0, .slice none 0 0, .slice none 0 0, .slice none 0 0, .slice none 0 0]) = some (undef, M4) := d1
 have E24 := c2.trans d4
 have wo := a7.ext (b4.trans E24)
 have go := c4.ext d4
 have b3' : St m M2 [(M1.n + 1, [u3, u4]), (M1.n, [u1, u2]), (m.n, [ed, md])] := b3
 have d3' : St m M4 [(M3.n, qc N0 ev rf co), (M1.n + 1, [u3, u4]), (M1.n, [u1, u2]), (m.n, [ed, md])] := d3
 obtain ⟨ee, hee⟩ := qay ((wn es ms).2)
 rw [← hee] at a1 c1
 have l3 := (d3'.get 2 rfl).2.2.loads (o := 0) (n := 2) (s := none) (by simp)
 have l4 := (d3'.get 1 rfl).2.2.loads (o := 0) (n := 2) (s := none) (by simp)
 have l6 := (d3'.get 0 rfl).2.2.loads (o := 0) (n := 8) (s := none) (by simp [qc])
 by_cases hz : ee = 0
 ·subst hz
  have hz0 : (wn es ms).2 = 0 := hee.symm
  obtain ⟨tsl, osl, fsl, loc, va, vo, A, e10, e11, hw⟩ := wo hz0
  obtain ⟨evd, rfd, cod, sv, e16, hg⟩ := go hz0
  cases e10
  cases e11
  rw [e16] at l6
  have hH := H hz0
  have hp := hw.po hH
  have grv : GrV M4 (es.length - cnt es) (jQ es ms TH CE VA WR (es.length - cnt es) (qM es)).EV (jQ es ms TH CE VA WR (es.length - cnt es) (qM es)).RF (jQ es ms TH CE VA WR (es.length - cnt es) (qM es)).CO evd rfd cod sv := ⟨hg.sp, hg.cc, hg.ev, hg.rf, hg.co⟩
  simp [hb, ql, xA_f, xA_aw, a1, b1', b2', l72, c1, d1']
  refine onlyL hm d3'.ext hH hp (fun j hj => ⟨(hw.th j hj).2.1, rfl⟩) hw.fs grv l3 l4 l6 (d3'.get 2 rfl).2.1 (d3'.get 1 rfl).2.1 (d3'.get 0 rfl).2.1 (by simp) (by simp) (by simp) (by simp) (by simp) fun t' m2 e2 t9 => ?_
  simp [t9]
  exact qX e2 (by simp)
 ·have hz' : ¬ ((ee : Int) = 0) := by omega
  simp [hb, ql, xA_f, xA_aw, a1, b1', b2', l72, c1, d1', hz, hz']
  exact qX d3'.ext (by simp)
end Go.Sx
namespace Go.Sx
open Go.Dx Go.Proofs
structure GL (es : List (Int × Int)) (N : Nat) (l : List Nat) (CE VA WR : Nat → Nat) : Prop where
 nd : l.Nodup
 ce : ∀ i ∈ l, CE i < N
 pos : ∀ i ∈ l, qy es i = true → 1 ≤ VA i ∧ VA i ≤ WR (CE i)
 inj : ∀ i ∈ l, ∀ j ∈ l, qy es i = true → qy es j = true → CE i = CE j → VA i = VA j → i = j
 rd : ∀ i ∈ l, qy es i = false → VA i = 0 ∨ ∃ j ∈ l, qy es j = true ∧ CE j = CE i ∧ VA j = VA i
 full : ∀ c v, c < N → 1 ≤ v → v ≤ WR c → ∃ i ∈ l, qy es i = true ∧ CE i = c ∧ VA i = v
 wr2 : ∀ c, c < N → WR c ≤ 2
section
variable {es : List (Int × Int)} {ms : List Int} {TH CE VA WR : Nat → Nat} {N : Nat}
def wB (es : List (Int × Int)) (ms : List Int) (TH CE VA : Nat → Nat) (i : Nat) : List EvR := wX es TH i ++ [evA es ms TH CE VA i]
def plc (es : List (Int × Int)) (TH : Nat → Nat) : Nat → List Nat → List (Nat × Nat)
 | _, [] => []
 | off, i :: l => (i, off + (wX es TH i).length) :: plc es TH (off + (wX es TH i).length + 1) l
theorem bk : ∀ (l : List Nat) (off : Nat), (plc es TH off l).map (·.1) = l
 | [], _ => rfl
 | i :: l, off => by rw [plc, List.map_cons, bk l]
theorem vZ {l : List Nat} {off : Nat} {p : Nat × Nat} (h : p ∈ plc es TH off l) : p.1 ∈ l := by
 have : p.1 ∈ (plc es TH off l).map (·.1) := List.mem_map.2 ⟨p, h, rfl⟩
 rwa [bk] at this
theorem plc_of {l : List Nat} {off i : Nat} (h : i ∈ l) : ∃ x, (i, x) ∈ plc es TH off l := by
 rw [← bk (es := es) (TH := TH) l off] at h
 obtain ⟨p, hp, rfl⟩ := List.mem_map.1 h
 exact ⟨p.2, hp⟩
theorem Kq : ∀ (l : List Nat) (s : GT), (l.foldl (kf es ms TH CE VA) s).ev = s.ev ++ l.flatMap (wB es ms TH CE VA)
 | [], s => by simp
 | i :: l, s => by
  rw [List.foldl_cons, Kq l, List.flatMap_cons]
  unfold kf wB; simp
theorem Qf : ∀ (l : List Nat) (s : GT) (j : Nat), j ∉ l → (l.foldl (kf es ms TH CE VA) s).to j = s.to j
 | [], s, j, h => rfl
 | i :: l, s, j, h => by
  rw [List.foldl_cons, Qf l _ j (fun h' => h (qal _ h'))]
  unfold kf
  exact wz _ _ (fun e => h (by rw [e]; exact qas))
theorem Ks : ∀ (l : List Nat) (s : GT), l.Nodup → ∀ p ∈ plc es TH s.ev.length l, (l.foldl (kf es ms TH CE VA) s).to p.1 = p.2
 | [], s, _, p, hp => by cases hp
 | i :: l, s, hn, p, hp => by
  rw [List.nodup_cons] at hn
  rw [plc] at hp
  have hlen : (kf es ms TH CE VA s i).ev.length = s.ev.length + (wX es TH i).length + 1 := by unfold kf; simp; omega
  rcases List.mem_cons.1 hp with rfl | hp
  ·rw [List.foldl_cons, Qf l _ _ hn.1]
   unfold kf
   simp only [qK, qak]
  ·rw [List.foldl_cons]
   exact Ks l _ hn.2 p (by rw [hlen]; exact hp)
theorem gj (c v : Nat) : ∀ (l : List Nat) (s : GT), (∀ i ∈ l, qy es i = true → ¬ (CE i = c ∧ VA i = v)) → (l.foldl (kf es ms TH CE VA) s).fr c v = s.fr c v
 | [], s, _ => rfl
 | i :: l, s, h => by
  rw [List.foldl_cons, gj c v l _ (fun j hj => h j (qal _ hj))]
  unfold kf
  simp only
  by_cases hf : qy es i = true
  ·rw [if_pos hf]
   have hi := h i qas hf
   by_cases e : c = CE i
   ·rw [e, qK, wz _ _ (fun e2 => hi ⟨e.symm, e2.symm⟩)]
   ·rw [wz _ _ e]
  ·rw [if_neg hf]
theorem Kr : ∀ (l : List Nat) (s : GT), l.Nodup → (∀ i ∈ l, ∀ j ∈ l, qy es i = true → qy es j = true → CE i = CE j → VA i = VA j → i = j) → ∀ p ∈ plc es TH s.ev.length l, qy es p.1 = true → (l.foldl (kf es ms TH CE VA) s).fr (CE p.1) (VA p.1) = p.2
 | [], s, _, _, p, hp, _ => by cases hp
 | i :: l, s, hn, hinj, p, hp, hf => by
  rw [List.nodup_cons] at hn
  rw [plc] at hp
  have hlen : (kf es ms TH CE VA s i).ev.length = s.ev.length + (wX es TH i).length + 1 := by unfold kf; simp; omega
  rcases List.mem_cons.1 hp with rfl | hp
  ·simp only at hf ⊢
   rw [List.foldl_cons, gj _ _ l _ (fun j hj hfj hc => ?_)]
   ·unfold kf
    simp only
    rw [if_pos hf, qK, qK, qak]
   ·have := hinj j (qal _ hj) i qas hfj hf hc.1 hc.2
    rw [this] at hj; exact hn.1 hj
  ·rw [List.foldl_cons]
   exact Kr l _ hn.2 (fun a ha b hb => hinj a (qal _ ha) b (qal _ hb)) p (by rw [hlen]; exact hp) hf
theorem Xt : ∀ (l : List Nat) (off : Nat), ∀ p ∈ plc es TH off l, off ≤ p.2 ∧ (l.flatMap (wB es ms TH CE VA))[p.2 - off]? = some (evA es ms TH CE VA p.1)
 | [], off, p, hp => by cases hp
 | i :: l, off, p, hp => by
  rw [plc] at hp
  rw [List.flatMap_cons]
  rcases List.mem_cons.1 hp with rfl | hp
  ·refine ⟨by simp, ?_⟩
   simp only [Nat.add_sub_cancel_left]
   unfold wB
   rw [List.append_assoc, qap (qad _)]; simp
  ·obtain ⟨h1, h2⟩ := Xt l _ p hp
   refine ⟨by omega, ?_⟩
   have hlen : (wB es ms TH CE VA i).length = (wX es TH i).length + 1 := by unfold wB; simp
   rw [qap (by rw [hlen]; omega), hlen, ← h2]
   congr 1; omega
theorem Jv : ∀ (l : List Nat) (off : Nat), ∀ p ∈ plc es TH off l, off ≤ p.2
 | [], off, p, hp => by cases hp
 | i :: l, off, p, hp => by
  rw [plc] at hp
  rcases List.mem_cons.1 hp with rfl | hp
  ·simp
  ·have := Jv l _ p hp; omega
theorem Xu : ∀ (l : List Nat) (off : Nat) {i j x : Nat}, (i, x) ∈ plc es TH off l → (j, x) ∈ plc es TH off l → i = j
 | [], off, i, j, x, h, _ => by cases h
 | y :: l, off, i, j, x, h1, h2 => by
  rw [plc] at h1 h2
  rcases List.mem_cons.1 h1 with e1 | g1
  ·rcases List.mem_cons.1 h2 with e2 | g2
   ·cases e1; cases e2; rfl
   ·have := Jv l _ _ g2; cases e1; simp at this; omega
  ·rcases List.mem_cons.1 h2 with e2 | g2
   ·have := Jv l _ _ g1; cases e2; simp at this; omega
   ·exact Xu l _ g1 g2
theorem Gy : ∀ (l : List Nat) (off k : Nat), k < (l.flatMap (wB es ms TH CE VA)).length → (∃ i, (i, off + k) ∈ plc es TH off l) ∨ ∃ e, (l.flatMap (wB es ms TH CE VA))[k]? = some e ∧ e.kind = 3
 | [], off, k, h => by simp at h
 | i :: l, off, k, h => by
  rw [List.flatMap_cons] at h ⊢
  have hlen : (wB es ms TH CE VA i).length = (wX es TH i).length + 1 := by unfold wB; simp
  rw [qak, hlen] at h
  rw [plc]
  rcases Nat.lt_trichotomy k (wX es TH i).length with hk | hk | hk
  ·refine .inr ?_
   have hfe : wX es TH i = [⟨TH i, 3, -1, 0, fc es i⟩] := by
    unfold wX at hk ⊢
    split
    ·rename_i hz; rw [if_pos hz] at hk; simp at hk
    ·rfl
   have hk0 : k = 0 := by rw [hfe] at hk; simpa using hk
   refine ⟨⟨TH i, 3, -1, 0, fc es i⟩, ?_, rfl⟩
   unfold wB
   rw [hfe, hk0]; rfl
  ·refine .inl ⟨i, ?_⟩
   rw [hk]; exact qas
  ·rcases Gy l (off + (wX es TH i).length + 1) (k - ((wX es TH i).length + 1)) (by omega) with ⟨j, hj⟩ | ⟨e, he, h3⟩
   ·refine .inl ⟨j, qal _ ?_⟩
    have e : off + (wX es TH i).length + 1 + (k - ((wX es TH i).length + 1)) = off + k := by omega
    rw [e] at hj; exact hj
   ·refine .inr ⟨e, ?_, h3⟩
    rw [qap (by rw [hlen]; omega), hlen]; exact he
theorem QI (F : EvR → Nat → List (Nat × Nat)) (d : EvR) : ∀ (L : List EvR) (off : Nat), ((List.range L.length).flatMap fun k => F (L.getD k d) (off + k)) = (L.zipIdx off).flatMap fun p => F p.1 p.2
 | [], off => rfl
 | e :: L, off => by
  rw [List.length_cons, List.range_succ_eq_map, List.flatMap_cons, List.flatMap_map, List.zipIdx_cons, List.flatMap_cons, ← QI F d L (off + 1)]
  congr 1
  have : (fun k => F ((e :: L).getD (Nat.succ k) d) (off + Nat.succ k)) = fun k => F (L.getD k d) (off + 1 + k) := by
   funext k
   rw [show off + Nat.succ k = off + 1 + k by omega]; rfl
  exact congrArg (fun f => (List.range L.length).flatMap f) this
theorem XI (F : EvR → Nat → List (Nat × Nat)) (hF : ∀ e b, e.kind = 3 → F e b = []) : ∀ (l : List Nat) (off : Nat), ((l.flatMap (wB es ms TH CE VA)).zipIdx off).flatMap (fun p => F p.1 p.2) = (plc es TH off l).flatMap fun p => F (evA es ms TH CE VA p.1) p.2
 | [], off => rfl
 | i :: l, off => by
  rw [List.flatMap_cons, plc, List.flatMap_cons, List.zipIdx_append, List.flatMap_append]
  have hlen : (wB es ms TH CE VA i).length = (wX es TH i).length + 1 := by unfold wB; simp
  rw [hlen, show off + ((wX es TH i).length + 1) = off + (wX es TH i).length + 1 by omega, XI F hF l]
  congr 1
  unfold wB
  rw [List.zipIdx_append, List.flatMap_append]
  have h1 : ((wX es TH i).zipIdx off).flatMap (fun p => F p.1 p.2) = [] := by
   unfold wX
   split
   ·rfl
   ·simp [hF]
  rw [h1]; simp
theorem filter_one {p : Nat → Bool} {x : Nat} : ∀ {L : Nat}, x < L → (∀ a, a < L → (p a = true ↔ a = x)) → (List.range L).filter p = [x]
 | 0, h, _ => by omega
 | L + 1, h, hp => by
  rw [List.range_succ, List.filter_append]
  by_cases e : x = L
  ·subst e
   have h1 : (List.range x).filter p = [] := by
    rw [List.filter_eq_nil_iff]
    intro a ha hpa
    have := (hp a (by simp at ha; omega)).1 hpa
    simp at ha; omega
   rw [h1]; simp [(hp x (by omega)).2 rfl]
  ·rw [filter_one (by omega) fun a ha => hp a (by omega)]
   have : p L = false := by
    cases h' : p L with
    | false => rfl
    | true => have := (hp L (by omega)).1 h'; omega
   simp [this]
theorem KR (fr : Nat → Nat → Nat) (to : Nat → Nat) : ∀ (l : List Nat) (s : List (Nat × Nat)), l.foldl (zF es CE VA fr to) s = s ++ l.flatMap fun i => if qy es i then [] else [(fr (CE i) (VA i), to i)]
 | [], s => by simp
 | i :: l, s => by
  rw [List.foldl_cons, KR fr to l, List.flatMap_cons]
  unfold zF
  by_cases h : qy es i = true
  ·simp [h]
  ·simp [h]
structure GF (es : List (Int × Int)) (ms : List Int) (TH CE VA WR : Nat → Nat) (N : Nat) (l : List Nat) (s : GT) : Prop where
 hev : s.ev = (List.range N).map ev0 ++ l.flatMap (wB es ms TH CE VA)
 hto : ∀ p ∈ plc es TH N l, s.to p.1 = p.2
 hfr : ∀ p ∈ plc es TH N l, qy es p.1 = true → s.fr (CE p.1) (VA p.1) = p.2
 hfr0 : ∀ c, s.fr c 0 = c
 e0 : ∀ a, a < N → zW s.ev a = ev0 a
 e1 : ∀ p ∈ plc es TH N l, N ≤ p.2 ∧ p.2 < s.ev.length ∧ zW s.ev p.2 = evA es ms TH CE VA p.1
 e2 : ∀ a, N ≤ a → a < s.ev.length → (∃ i, (i, a) ∈ plc es TH N l) ∨ (zW s.ev a).kind = 3
 iw : ∀ (c v a : Nat), a < s.ev.length → (isW s.ev c v a = true ↔ (a < N ∧ a = c ∧ v = 0) ∨ ∃ i, (i, a) ∈ plc es TH N l ∧ qy es i = true ∧ CE i = c ∧ VA i = v)
 w0 : ∀ c, c < N → coV s.ev c 0 = [s.fr c 0]
 w1 : ∀ i ∈ l, qy es i = true → coV s.ev (CE i) (VA i) = [s.fr (CE i) (VA i)]
 w2 : ∀ c v, c < N → v ≤ WR c → coV s.ev c v = [s.fr c v]
 w3 : ∀ c v, c < N → WR c < v → coV s.ev c v = []
theorem gK {l : List Nat} (h : GL es N l CE VA WR) (s : GT) (hs : s = l.foldl (kf es ms TH CE VA) ⟨(List.range N).map ev0, fun _ => 0, fr0⟩) : GF es ms TH CE VA WR N l s := by
 have hev : s.ev = (List.range N).map ev0 ++ l.flatMap (wB es ms TH CE VA) := by rw [hs, Kq]
 have hlen : s.ev.length = N + (l.flatMap (wB es ms TH CE VA)).length := by rw [hev]; simp
 have hto : ∀ p ∈ plc es TH N l, s.to p.1 = p.2 := fun p hp => by
  rw [hs]; exact Ks l _ h.nd p (by simpa using hp)
 have hfr : ∀ p ∈ plc es TH N l, qy es p.1 = true → s.fr (CE p.1) (VA p.1) = p.2 := fun p hp hf => by
  rw [hs]; exact Kr l _ h.nd h.inj p (by simpa using hp) hf
 have hfr0 : ∀ c, s.fr c 0 = c := fun c => by
  rw [hs, gj c 0 l _ (fun i hi hf hc => by have := (h.pos i hi hf).1; omega)]; rfl
 have e0 : ∀ a, a < N → zW s.ev a = ev0 a := fun a ha => by
  unfold zW
  rw [List.getD_eq_getElem?_getD, hev, qao (by simpa using ha), qaq, List.getElem?_range ha]; rfl
 have e1 : ∀ p ∈ plc es TH N l, N ≤ p.2 ∧ p.2 < s.ev.length ∧ zW s.ev p.2 = evA es ms TH CE VA p.1 := fun p hp => by
  obtain ⟨h1, h2⟩ := Xt (ms := ms) (CE := CE) (VA := VA) l N p hp
  have h3 := (qac.1 h2).1
  refine ⟨h1, by rw [hlen]; omega, ?_⟩
  unfold zW
  rw [List.getD_eq_getElem?_getD, hev, qap (by simpa using h1)]
  simp only [List.length_map, List.length_range]
  rw [h2]; rfl
 have e2 : ∀ a, N ≤ a → a < s.ev.length → (∃ i, (i, a) ∈ plc es TH N l) ∨ (zW s.ev a).kind = 3 := fun a h1 h2 => by
  rcases Gy (es := es) (ms := ms) (TH := TH) (CE := CE) (VA := VA) l N (a - N) (by omega) with ⟨i, hi⟩ | ⟨e, he, h3⟩
  ·rw [show N + (a - N) = a by omega] at hi; exact .inl ⟨i, hi⟩
  ·refine .inr ?_
   unfold zW
   rw [List.getD_eq_getElem?_getD, hev, qap (by simpa using h1)]
   simp only [List.length_map, List.length_range]
   rw [he]; exact h3
 have isW_iff : ∀ (c v a : Nat), a < s.ev.length → (isW s.ev c v a = true ↔ (a < N ∧ a = c ∧ v = 0) ∨ ∃ i, (i, a) ∈ plc es TH N l ∧ qy es i = true ∧ CE i = c ∧ VA i = v) := fun c v a ha => by
  unfold isW
  simp only [qag, decide_eq_true_eq]
  by_cases haN : a < N
  ·rw [e0 a haN]
   constructor
   ·rintro ⟨⟨_, h2⟩, h3⟩
    refine .inl ⟨haN, ?_, ?_⟩
    ·have : (a : Int) = (c : Int) := h2
     omega
    ·have : 0 = v := h3
     omega
   ·rintro (⟨_, h1, h2⟩ | ⟨i, hi, _⟩)
    ·exact ⟨⟨rfl, by rw [h1]; rfl⟩, by rw [h2]; rfl⟩
    ·have := (e1 _ hi).1; simp at this; omega
  ·rcases e2 a (by omega) ha with ⟨i, hi⟩ | h3
   ·obtain ⟨_, _, h5⟩ := e1 _ hi
    simp only at h5
    rw [h5]
    constructor
    ·rintro ⟨⟨h1, h2⟩, h3⟩
     refine .inr ⟨i, hi, ?_, ?_, ?_⟩
     ·cases hf : qy es i with
      | true => rfl
      | false => unfold evA at h1; rw [hf] at h1; simp at h1
     ·have : (CE i : Int) = (c : Int) := h2
      omega
     ·exact h3
    ·rintro (⟨h1, _⟩ | ⟨j, hj, h1, h2, h3⟩)
     ·exact absurd h1 haN
     ·obtain ⟨_, _, h6⟩ := e1 _ hj
      simp only at h6
      have hij : i = j := by
       exact Xu l N hi hj
      subst hij
      refine ⟨⟨?_, ?_⟩, ?_⟩
      ·unfold evA; rw [h1]; rfl
      ·show (CE i : Int) = c; rw [h2]
      ·exact h3
   ·constructor
    ·rintro ⟨⟨h1, _⟩, _⟩
     rw [h3] at h1; simp at h1
    ·rintro (⟨h1, _⟩ | ⟨j, hj, h1, h2, h3'⟩)
     ·exact absurd h1 haN
     ·obtain ⟨_, _, h6⟩ := e1 _ hj
      simp only at h6
      rw [h6] at h3
      unfold evA at h3; rw [h1] at h3; simp at h3
 have w0 : ∀ c, c < N → coV s.ev c 0 = [s.fr c 0] := fun c hc => by
  unfold coV
  rw [hfr0]
  refine filter_one (by omega) fun a ha => ?_
  rw [isW_iff c 0 a ha]
  constructor
  ·rintro (⟨_, h1, _⟩ | ⟨i, hi, h1, h2, h3⟩)
   ·exact h1
   ·have := (h.pos i (vZ hi) h1).1; omega
  ·rintro rfl; exact .inl ⟨hc, rfl, rfl⟩
 have w1 : ∀ i ∈ l, qy es i = true → coV s.ev (CE i) (VA i) = [s.fr (CE i) (VA i)] := fun i hi hf => by
  obtain ⟨x, hx⟩ := plc_of (es := es) (TH := TH) (off := N) hi
  have := hfr _ hx hf
  simp only at this
  rw [this]
  unfold coV
  obtain ⟨g1, g2, g3⟩ := e1 _ hx
  refine filter_one g2 fun a ha => ?_
  rw [isW_iff _ _ a ha]
  constructor
  ·rintro (⟨_, _, h1⟩ | ⟨j, hj, h1, h2, h3⟩)
   ·have := (h.pos i hi hf).1; omega
   ·have hji := h.inj j (vZ hj) i hi h1 hf h2 h3
    subst hji
    have := hto _ hj
    have h' := hto _ hx
    simp only at this h'
    rw [← this, ← h']
  ·rintro rfl; exact .inr ⟨i, hx, hf, rfl, rfl⟩
 have w2 : ∀ c v, c < N → v ≤ WR c → coV s.ev c v = [s.fr c v] := fun c v hc hv => by
  by_cases hv0 : v = 0
  ·rw [hv0]; exact w0 c hc
  ·obtain ⟨i, hi, h1, h2, h3⟩ := h.full c v hc (by omega) hv
   rw [← h2, ← h3]; exact w1 i hi h1
 have w3 : ∀ c v, c < N → WR c < v → coV s.ev c v = [] := fun c v hc hv => by
  unfold coV
  rw [List.filter_eq_nil_iff]
  intro a ha hw
  rcases (isW_iff c v a (by simpa using ha)).1 hw with ⟨_, _, h1⟩ | ⟨i, hi, h1, h2, h3⟩
  ·omega
  ·have := (h.pos i (vZ hi) h1).2; rw [h2, h3] at this; omega
 exact ⟨hev, hto, hfr, hfr0, e0, e1, e2, isW_iff, w0, w1, w2, w3⟩
theorem FH {l : List Nat} (h : GL es N l CE VA WR) (s : GT) (hs : s = l.foldl (kf es ms TH CE VA) ⟨(List.range N).map ev0, fun _ => 0, fr0⟩) :
  l.foldl (zF es CE VA s.fr s.to) [] = GH s.ev N ∧ ∀ c, c < N → (List.range (1 + WR c)).map (s.fr c) = coX s.ev c := by
 obtain ⟨hev, hto, hfr, hfr0, e0, e1, e2, isW_iff, w0, w1, w2, w3⟩ := gK h s hs
 have hlen : s.ev.length = N + (l.flatMap (wB es ms TH CE VA)).length := by rw [hev]; simp
 refine ⟨?_, fun c hc => ?_⟩
 ·rw [KR, List.nil_append]
  unfold GH
  have hL : s.ev.length - N = (l.flatMap (wB es ms TH CE VA)).length := by omega
  rw [hL]
  obtain ⟨F, hF⟩ : ∃ F : EvR → Nat → List (Nat × Nat), F = fun e b => if e.kind = 1 then ((List.range s.ev.length).filter (isW s.ev e.loc e.val)).map (fun a => (a, b)) else [] := ⟨_, rfl⟩
  have hrf : ∀ k, k < (l.flatMap (wB es ms TH CE VA)).length → yK s.ev (N + k) = F ((l.flatMap (wB es ms TH CE VA)).getD k ⟨0, 0, 0, 0, 0⟩) (N + k) := fun k hk => by
   have : zW s.ev (N + k) = (l.flatMap (wB es ms TH CE VA)).getD k ⟨0, 0, 0, 0, 0⟩ := by
    unfold zW
    rw [List.getD_eq_getElem?_getD, hev, qap (by simp)]
    simp
   unfold yK
   rw [this, hF]
  have hc1 : ((List.range (l.flatMap (wB es ms TH CE VA)).length).flatMap fun k => yK s.ev (N + k)) = (List.range (l.flatMap (wB es ms TH CE VA)).length).flatMap fun k => F ((l.flatMap (wB es ms TH CE VA)).getD k ⟨0, 0, 0, 0, 0⟩) (N + k) := by
   simp only [List.flatMap]
   congr 1
   exact List.map_congr_left fun k hk => hrf k (List.mem_range.1 hk)
  rw [hc1, QI F, XI F (fun e b h3 => by rw [hF]; simp [h3])]
  have hc2 : ((plc es TH N l).flatMap fun p => F (evA es ms TH CE VA p.1) p.2) = (plc es TH N l).flatMap fun p => if qy es p.1 then [] else [(s.fr (CE p.1) (VA p.1), s.to p.1)] := by
   simp only [List.flatMap]
   congr 1
   refine List.map_congr_left fun p hp => ?_
   rw [hto p hp, hF]
   simp only
   cases hf : qy es p.1 with
   | true => unfold evA; rw [hf]; simp
   | false =>
    have hm : (List.range s.ev.length).filter (isW s.ev (CE p.1) (VA p.1)) = [s.fr (CE p.1) (VA p.1)] := by
     rcases h.rd p.1 (vZ hp) hf with h0 | ⟨j, hj, h1, h2, h3⟩
     ·rw [h0]; exact w0 _ (h.ce _ (vZ hp))
     ·rw [← h2, ← h3]; exact w1 j hj h1
    unfold evA; rw [hf]
    simp only [Bool.false_eq_true, if_false, if_true]
    rw [hm]; rfl
  rw [hc2]
  have := bk (es := es) (TH := TH) l N
  conv => lhs; rw [← this]
  rw [List.flatMap_map]
 ·unfold coX
  have hw := h.wr2 c hc
  rcases (by omega : WR c = 0 ∨ WR c = 1 ∨ WR c = 2) with e | e | e
  ·rw [e, w2 c 0 hc (by omega), w3 c 1 hc (by omega), w3 c 2 hc (by omega)]; rfl
  ·rw [e, w2 c 0 hc (by omega), w2 c 1 hc (by omega), w3 c 2 hc (by omega)]; rfl
  ·rw [e, w2 c 0 hc (by omega), w2 c 1 hc (by omega), w2 c 2 hc (by omega)]; rfl
end
end Go.Sx
namespace Go.Sx
open Go.Dx Go.Proofs
section
variable {es : List (Int × Int)} {b : Nat}
theorem KW {N : Nat} (cl : Nat → Nat) (hcl0 : cl 0 = 0) (hst : ∀ k, cl k ≤ cl (k + 1) ∧ cl (k + 1) ≤ cl k + 1) (R ρ : Nat → Nat) (hR : ∀ k, k < es.length → R (pos es b k) = ρ (cl k)) (hρ : ∀ c d, c < N → d < N → ρ c = ρ d → c = d) {c s : Nat} (hc0 : 0 < c) (hcN : c < N) (hsn : s < es.length) (hs : cl s = c) (hsf : ∀ j, j < s → cl j < c) :
  ∀ (d j : Nat), j + d = s → vd R (ρ c) ((qF es b).drop j) ((List.range (if j = 0 then 0 else cl (j - 1) + 1)).map ρ) = some c := by
 intro d
 induction d with
 | zero =>
  intro j hj
  have : j = s := by omega
  subst this
  have h0 : j ≠ 0 := by rintro rfl; omega
  rw [jj hsn, vd, if_pos (by rw [hR _ hsn, hs]), if_neg h0]
  have h1 := hsf (j - 1) (by omega)
  have h2 := (hst (j - 1)).2
  rw [show j - 1 + 1 = j by omega] at h2
  simp; omega
 | succ d ih =>
  intro j hj
  have hjn : j < es.length := by omega
  have hjc := hsf j (by omega)
  have hRj : R (pos es b j) = ρ (cl j) := hR _ hjn
  rw [jj hjn, vd, if_neg (by rw [hRj]; intro h; have := hρ _ _ (by omega) hcN h; omega), hRj]
  have hnext := ih (j + 1) (by omega)
  rw [if_neg (by omega), Nat.add_sub_cancel] at hnext
  have key : (if ((List.range (if j = 0 then 0 else cl (j - 1) + 1)).map ρ).contains (ρ (cl j)) then (List.range (if j = 0 then 0 else cl (j - 1) + 1)).map ρ else (List.range (if j = 0 then 0 else cl (j - 1) + 1)).map ρ ++ [ρ (cl j)]) = (List.range (cl j + 1)).map ρ := by
   by_cases h0 : j = 0
   ·subst h0
    simp [hcl0]
   ·rw [if_neg h0]
    have h2 := hst (j - 1)
    rw [show j - 1 + 1 = j by omega] at h2
    by_cases he : cl j = cl (j - 1)
    ·rw [if_pos (by simp; exact ⟨cl j, by omega, rfl⟩), he]
    ·have e : cl j = cl (j - 1) + 1 := by omega
     rw [if_neg, e, List.range_succ (n := cl (j - 1) + 1), List.map_append]
     ·rfl
     ·simp
      intro x hx h
      have := hρ _ _ (by omega) (by omega) h
      omega
  rw [key]; exact hnext
def oc (es : List (Int × Int)) (b : Nat) : Nat → Nat
 | 0 => 0
 | k + 1 => oc es b k + if qx es (pos es b k) then 1 else 0
theorem Wn (k : Nat) : oc es b k ≤ oc es b (k + 1) ∧ oc es b (k + 1) ≤ oc es b k + 1 := by show _ ≤ oc es b k + _ ∧ oc es b k + _ ≤ _; split <;> omega
theorem oc_ic (k : Nat) : oc es b k + ic es b k = k := by
 induction k with
 | zero => rfl
 | succ k ih =>
  have e1 : oc es b (k + 1) = oc es b k + if qx es (pos es b k) then 1 else 0 := rfl
  have e2 : ic es b (k + 1) = ic es b k + if qx es (pos es b k) then 0 else 1 := rfl
  rw [e1, e2]; split <;> omega
theorem fy {i j : Nat} (h : i ≤ j) : oc es b i ≤ oc es b j := by
 induction j with
 | zero =>
  have : i = 0 := by omega
  subst this; exact qad _
 | succ j ih =>
  rcases Nat.lt_or_ge i (j + 1) with h' | h'
  ·exact qam (ih (by omega)) (Wn j).1
  ·have : i = j + 1 := by omega
   subst this; exact qad _
theorem KI : ∀ (m c : Nat), c ≤ oc es b m → ∃ s, s ≤ m ∧ oc es b s = c ∧ ∀ j, j < s → oc es b j < c
 | 0, c, h => ⟨0, qad _, by have : oc es b 0 = 0 := rfl; omega, fun j hj => by omega⟩
 | m + 1, c, h => by
  by_cases h1 : c ≤ oc es b m
  ·obtain ⟨s, a, b', c'⟩ := KI m c h1
   exact ⟨s, by omega, b', c'⟩
  ·have := (Wn (es := es) (b := b) m).2
   exact ⟨m + 1, qad _, by omega, fun j hj => by have := fy (es := es) (b := b) (show j ≤ m by omega); omega⟩
theorem Xr {i j k : Nat} (h : oc es b i = oc es b k) (h1 : i ≤ j) (h2 : j < k) : qx es (pos es b j) = false := by
 have a := fy (es := es) (b := b) h1
 have c := fy (es := es) (b := b) (show j + 1 ≤ k by omega)
 have e : oc es b (j + 1) = oc es b j + if qx es (pos es b j) then 1 else 0 := rfl
 cases ho : qx es (pos es b j) with
 | false => rfl
 | true => rw [ho] at e; simp at e; omega
theorem Da {j : Nat} (h : oc es b j < oc es b (j + 1)) : qx es (pos es b j) = true := by
 have e : oc es b (j + 1) = oc es b j + if qx es (pos es b j) then 1 else 0 := rfl
 cases ho : qx es (pos es b j) with
 | false => rw [ho] at e; simp at e; omega
 | true => rfl
theorem yd (hb : b < es.length) (hlast : qx es (pos es b (es.length - 1)) = true) {k : Nat} (hk : k < es.length) : wE es b false (pos es b k) = oc es b k ∧ oc es b k < cnt es := by
 have hn : 0 < es.length := by omega
 have hcl : cnt es ≤ es.length := by unfold cnt; exact List.countP_le_length
 have hall : oc es b es.length = cnt es := by have := oc_ic (es := es) (b := b) es.length; rw [gk hb] at this; omega
 have hlastN : oc es b (es.length - 1) + 1 = cnt es := by
  have e : oc es b (es.length - 1 + 1) = oc es b (es.length - 1) + if qx es (pos es b (es.length - 1)) then 1 else 0 := rfl
  rw [hlast, show es.length - 1 + 1 = es.length by omega, hall] at e
  simpa using e.symm
 have hlt : ∀ j, j < es.length → oc es b j < cnt es := fun j hj => by have := fy (es := es) (b := b) (show j ≤ es.length - 1 by omega); omega
 refine ⟨?_, hlt k hk⟩
 have hex : ∀ c, ∃ s, c < cnt es → s ≤ es.length - 1 ∧ oc es b s = c ∧ ∀ j, j < s → oc es b j < c := fun c => by
  by_cases h : c < cnt es
  ·obtain ⟨s, h1⟩ := KI (es := es) (b := b) (es.length - 1) c (by omega)
   exact ⟨s, fun _ => h1⟩
  ·exact ⟨0, fun h' => absurd h' h⟩
 obtain ⟨sC, hsC⟩ : ∃ sC : Nat → Nat, ∀ c, c < cnt es → sC c ≤ es.length - 1 ∧ oc es b (sC c) = c ∧ ∀ j, j < sC c → oc es b j < c := ⟨fun c => (hex c).choose, fun c => (hex c).choose_spec⟩
 let ρ : Nat → Nat := fun c => pos es b (sC c)
 have hR : ∀ k, k < es.length → ve es false (pos es b k) = ρ (oc es b k) := fun k hk => by
  have hs := hsC _ (hlt k hk)
  have hsk : sC (oc es b k) ≤ k := by
   rcases Nat.lt_or_ge k (sC (oc es b k)) with h | h
   ·have := hs.2.2 k h; omega
   ·exact h
  unfold ve
  by_cases hs0 : sC (oc es b k) = 0
  ·have h0 : oc es b k = 0 := by rw [← hs.2.1, hs0]; rfl
   have e : ρ (oc es b k) = pos es b es.length := by
    show pos es b (sC (oc es b k)) = _
    rw [hs0]
    have := zG (es := es) (b := b) 0
    rw [Nat.zero_add] at this; exact this.symm
   rw [e, ← zG (es := es) (b := b) k]
   refine fH hn false es.length (k + es.length) es.length (by omega) (by omega) hn (by rw [hlast]; simp) fun i h1 h2 => ?_
   have : i = (i - es.length) + es.length := by omega
   rw [this, zG]
   exact Xr (es := es) (b := b) (i := 0) (j := i - es.length) (k := k) (by rw [h0]; rfl) (by omega) (by omega)
  ·refine fH hn false es.length k _ hsk (by omega) (by omega) ?_ fun i h1 h2 => Xr (by rw [hs.2.1]) h1 h2
   have h3 := Da (es := es) (b := b) (j := sC (oc es b k) - 1) (by rw [show sC (oc es b k) - 1 + 1 = sC (oc es b k) by omega, hs.2.1]; exact hs.2.2 _ (by omega))
   rw [h3]; simp
 have hinj : ∀ c d, c < cnt es → d < cnt es → ρ c = ρ d → c = d := fun c d hc hd h => by
  have := bm hb (by have := (hsC c hc).1; omega) (by have := (hsC d hd).1; omega) h
  rw [← (hsC c hc).2.1, ← (hsC d hd).2.1, this]
 have main : vd (ve es false) (ve es false (pos es b k)) (qF es b) [] = some (oc es b k) := by
  rw [hR k hk]
  have hclt := hlt k hk
  by_cases hc0 : oc es b k = 0
  ·rw [hc0]
   have hd := jj (b := b) hn
   rw [List.drop_zero] at hd
   rw [hd, vd, if_pos (by rw [hR 0 hn]; rfl)]
   rfl
  ·have hs := hsC _ hclt
   have := KW (es := es) (b := b) (N := cnt es) (oc es b) rfl Wn (ve es false) ρ hR hinj (c := oc es b k) (s := sC (oc es b k)) (by omega) hclt (by omega) hs.2.1 hs.2.2 (sC (oc es b k)) 0 (by omega)
   simpa using this
 unfold wE
 rw [main]; rfl
theorem stt_t {N : Nat} : ∀ {k : Nat}, k ≤ es.length → (stt es b N k).t = oc es b k
 | 0, _ => rfl
 | k + 1, h => by
  rw [vK (by omega)]
  show (if qx es (pos es b k) then _ else _) = oc es b k + _
  rw [stt_t (by omega)]; split <;> rfl
theorem JE {N k : Nat} : (stt es b N k).th.length = es.length := by
 have key : ∀ (l : List Nat) (s : LS), (l.foldl (wF es N) s).th.length = s.th.length := by
  intro l
  induction l with
  | nil => intro s; rfl
  | cons i l ih => intro s; rw [List.foldl_cons, ih]; simp [wF]
 unfold stt; rw [key]; simp [zI]
theorem Bf (hb : b < es.length) {N : Nat} : ∀ {k : Nat}, k ≤ es.length → ∀ j, j < k → (stt es b N k).th[pos es b j]? = some (oc es b j)
 | 0, _, j, h => by omega
 | k + 1, hk, j, hj => by
  rw [vK (by omega)]
  show ((stt es b N k).th.set (pos es b k) ((stt es b N k).t))[pos es b j]? = _
  by_cases e : j = k
  ·subst e
   rw [qat (by rw [JE]; exact Jw (by omega) _), stt_t (by omega)]
  ·rw [qaw (fun h => e (bm hb (by omega) (by omega) h).symm)]
   exact Bf hb (by omega) j (by omega)
theorem Zd {N : Nat} : stt es b N es.length = zY es N (qF es b) := by
 unfold stt zY; rw [List.take_of_length_le (by rw [vE]; omega)]
theorem dt (hb : b < es.length) {i : Nat} (hi : i < es.length) : ∃ k, k < es.length ∧ pos es b k = i := by
 have := FU (es := es) (b := b) hi
 unfold qF at this
 obtain ⟨k, hk, e⟩ := List.mem_map.1 this
 exact ⟨k, by simpa using hk, e⟩
theorem Bg (hb : b < es.length) (hlast : qx es (pos es b (es.length - 1)) = true) (hN : 0 < es.length - cnt es) : ∀ {k : Nat}, k ≤ es.length → (stt es b (es.length - cnt es) k).wr.length = es.length - cnt es ∧ ∀ x, x < es.length - cnt es →
  (stt es b (es.length - cnt es) k).wr.getD x 0 = ((qF es b).take k).countP fun i => qy es i && decide (wE es b true i = x)
 | 0, _ => by
  refine ⟨by simp [stt, zI], fun x hx => ?_⟩
  simp only [stt, List.take_zero, List.foldl_nil, zI, List.countP_nil]
  rw [List.getD_eq_getElem?_getD, List.getElem?_replicate]; split <;> rfl
 | k + 1, hk => by
  obtain ⟨h1, h2⟩ := Bg hb hlast hN (k := k) (by omega)
  obtain ⟨h, e⟩ := qac.1 (vD (es := es) (b := b) (show k < es.length by omega))
  rw [vK (by omega), List.take_succ_eq_append_getElem h, e]
  have hc : (stt es b (es.length - cnt es) k).c % (es.length - cnt es) = wE es b true (pos es b k) := by rw [Bd (by omega), vP hb hlast hN (by omega)]
  have hclt : wE es b true (pos es b k) < es.length - cnt es := by rw [← hc]; exact Nat.mod_lt _ hN
  refine ⟨?_, fun x hx => ?_⟩
  ·show (if qy es (pos es b k) then _ else _ : List Nat).length = _
   split
   ·rw [List.length_set]; exact h1
   ·exact h1
  ·rw [List.countP_append, ← h2 x hx]
   show (if qy es (pos es b k) then (stt es b (es.length - cnt es) k).wr.set ((stt es b (es.length - cnt es) k).c % (es.length - cnt es)) ((stt es b (es.length - cnt es) k).wr.getD ((stt es b (es.length - cnt es) k).c % (es.length - cnt es)) 0 + 1) else (stt es b (es.length - cnt es) k).wr : List Nat).getD x 0 = _
   rw [hc]
   cases hf : qy es (pos es b k) with
   | false => simp [hf]
   | true =>
    simp only [if_true]
    by_cases ex : wE es b true (pos es b k) = x
    ·subst ex
     rw [List.getD_eq_getElem?_getD, qat (by omega)]
     simp [hf]
    ·rw [List.getD_eq_getElem?_getD, qaw ex, ← List.getD_eq_getElem?_getD]
     simp [hf, ex]
end
end Go.Sx
namespace Go.Sx
open Go.Dx Go.Proofs
theorem gW (len i : Nat) : ∀ k, back len (k + 1) i = back len k (ahN len i)
 | 0 => rfl
 | k + 1 => by show ahN len (back len (k + 1) i) = ahN len (back len k (ahN len i)); rw [gW len i k]
theorem JO {len x : Nat} (h : x < len) : ahN len ((x + 1) % len) = x := by
 unfold ahN
 by_cases e : x + 1 = len
 ·rw [e, Nat.mod_self, if_pos rfl]; omega
 ·rw [Nat.mod_eq_of_lt (by omega), if_neg (by omega)]; rfl
theorem BK (es : List (Int × Int)) (i d : Nat) : bw es i (d + 1) = bw es (ahN es.length i) d + if qy es (ahN es.length i) then 1 else 0 := by
 unfold bw
 rw [List.range_succ_eq_map, List.countP_cons, List.countP_map]
 have e : (List.range d).countP ((fun t => qy es (back es.length (t + 1) i)) ∘ Nat.succ) = (List.range d).countP fun t => qy es (back es.length (t + 1) (ahN es.length i)) := by
  refine List.countP_congr fun t _ => ?_
  show qy es (back es.length (t + 1 + 1) i) = true ↔ _
  rw [gW]
 rw [e]; rfl
theorem VN {es : List (Int × Int)} {i d : Nat} (h : Stop es (ahN es.length i) d) (ho : qx es (ahN es.length i) = true) (hd : d + 1 ≤ 1000) : Stop es i (d + 1) := by
 refine ⟨fun j hj => ?_, ?_, hd⟩
 ·cases j with
  | zero => exact ho
  | succ j => rw [gW]; exact h.out j (by omega)
 ·rw [gW]; exact h.inn
theorem QD {es : List (Int × Int)} {i d d' : Nat} (h : Stop es i d) (h' : Stop es i d') : d = d' := by
 rcases Nat.lt_trichotomy d d' with g | g | g
 ·have := h'.out d g; rw [h.inn] at this; cases this
 ·exact g
 ·have := h.out d' g; rw [h'.inn] at this; cases this
section
variable {es : List (Int × Int)} {ce : List Nat} {b c : Nat} {l : List Nat}
theorem kM (h : km es ce b c l) : ∀ (j i : Nat), l[j]? = some i → i < es.length ∧ Stop es i j ∧ bw es i j = (l.take j).countP (qy es)
 | 0, i, hi => by
  obtain ⟨k0, h1, h2, h3, h4, h5⟩ := h.ex
  rw [h5] at hi
  cases hi
  exact ⟨Nat.mod_lt _ (by omega), ⟨fun j hj => by omega, h3, by omega⟩, rfl⟩
 | j + 1, i, hi => by
  have hjl : j + 1 < l.length := (qac.1 hi).1
  obtain ⟨x, hx⟩ : ∃ x, l[j]? = some x := ⟨_, qaa (by omega)⟩
  obtain ⟨h1, h2, h3⟩ := kM h j x hx
  obtain ⟨g1, g2⟩ := h.ch.next j x i hx hi
  have ha : ahN es.length i = x := by rw [g1]; exact JO h1
  have hl := h.len
  refine ⟨h.ch.lt i (qab hi), VN (by rw [ha]; exact h2) (by rw [ha]; exact g2) (by omega), ?_⟩
  rw [BK, ha, h3]
  obtain ⟨hh, e⟩ := qac.1 hx
  rw [List.take_succ_eq_append_getElem hh, List.countP_append, e]; simp
structure OKv (es : List (Int × Int)) (V : Nat → Nat) (va : List Nat) (done : Nat → Prop) : Prop where
 len : va.length = es.length
 all : ∀ i, i < es.length → va[i]? = some 0 ∨ va[i]? = some (jV es V i)
 don : ∀ i, i < es.length → done i → va[i]? = some (jV es V i)
theorem OKv.set {V : Nat → Nat} {va : List Nat} {done : Nat → Prop} (h : OKv es V va done) {x v : Nat} (hx : x < es.length) (hv : v = jV es V x) : OKv es V (va.set x v) (fun i => done i ∨ i = x) := by
 refine ⟨by rw [List.length_set]; exact h.len, fun i hi => ?_, fun i hi hd => ?_⟩
 ·by_cases e : i = x
  ·subst e; rw [qat (by rw [h.len]; exact hi), hv]; exact .inr rfl
  ·rw [qaw (fun h => e h.symm)]; exact h.all i hi
 ·by_cases e : i = x
  ·subst e; rw [qat (by rw [h.len]; exact hi), hv]
  ·rw [qaw (fun h => e h.symm)]
   exact h.don i hi (hd.resolve_right e)
theorem bP {V : Nat → Nat} (hV : ∀ i d, i < es.length → Stop es i d → V i = 1 + bw es i d) (h : km es ce b c l) : ∀ (rest pre : List Nat) (va : List Nat) (done : Nat → Prop), l = pre ++ rest → OKv es V va done → (∀ x, x ∈ pre → done x) →
  OKv es V (rest.foldl (we es) (va, pre.countP (qy es))).1 (fun i => done i ∨ i ∈ rest)
 | [], pre, va, done, hl, ho, hd => ⟨ho.len, ho.all, fun i hi hd => ho.don i hi (hd.resolve_right (by simp))⟩
 | x :: rest, pre, va, done, hl, ho, hd => by
  have hx : l[pre.length]? = some x := by rw [hl, qap (qad _), Nat.sub_self]; rfl
  obtain ⟨hxl, hst, hbw⟩ := kM h _ _ hx
  have htake : l.take pre.length = pre := by rw [hl]; simp
  rw [htake] at hbw
  rw [List.foldl_cons]
  have hl' : l = (pre ++ [x]) ++ rest := by rw [hl]; simp
  have step : ∀ va' last', we es (va, pre.countP (qy es)) x = (va', last') → last' = (pre ++ [x]).countP (qy es) → OKv es V va' (fun i => done i ∨ i = x) → OKv es V (rest.foldl (we es) (we es (va, pre.countP (qy es)) x)).1 (fun i => done i ∨ i ∈ x :: rest) := by
   intro va' last' e1 e2 ho'
   rw [e1, e2]
   have := bP hV h rest (pre ++ [x]) va' _ hl' ho' (fun y hy => by
    rcases qax.1 hy with hy | hy
    ·exact .inl (hd y hy)
    ·exact .inr (qah.1 hy))
   exact ⟨this.len, this.all, fun i hi hd => this.don i hi (by
    rcases hd with hd | hd
    ·exact .inl (.inl hd)
    ·rcases List.mem_cons.1 hd with rfl | hd
     ·exact .inl (.inr rfl)
     ·exact .inr hd)⟩
  have hVx := hV x _ hxl hst
  rw [hbw] at hVx
  cases hf : qy es x with
  | true =>
   refine step _ _ (by unfold we; rw [if_pos hf]) (by rw [List.countP_append]; simp [hf]) (ho.set hxl ?_)
   unfold jV; rw [if_pos hf, hVx]; omega
  | false =>
   by_cases hk : (eAt es (ahN es.length x)).1 = 1
   ·have hout : qx es (ahN es.length x) = true := by unfold qx xP; rw [hk]; rfl
    obtain ⟨j', hj'⟩ : ∃ j', pre.length = j' + 1 := by
     cases hp : pre.length with
     | zero => rw [hp] at hst; have := hst.inn; rw [show back es.length 0 x = x from rfl, hout] at this; cases this
     | succ j => exact ⟨j, rfl⟩
    obtain ⟨y, hy⟩ : ∃ y, l[j']? = some y := ⟨_, qaa (by have := (qac.1 hx).1; omega)⟩
    rw [hj'] at hx
    obtain ⟨hyl, -, -⟩ := kM h _ _ hy
    obtain ⟨g1, g2⟩ := h.ch.next j' y x hy hx
    have ha : ahN es.length x = y := by rw [g1]; exact JO hyl
    have hyp : y ∈ pre := by
     have : pre[j']? = some y := by rw [hl, qao (by omega)] at hy; exact hy
     exact qab this
    have hfy : qy es y = true := by unfold qy; rw [← ha, hk]; rfl
    have hvy := ho.don y hyl (hd y hyp)
    have hgy : va.getD y 0 = V y := by rw [List.getD_eq_getElem?_getD, hvy]; unfold jV; rw [if_pos hfy]; rfl
    refine step _ _ (by unfold we; rw [if_neg (by simp [hf]), if_pos hk]) (by rw [List.countP_append]; simp [hf]) (ho.set hxl ?_)
    show va.getD (ahN es.length x) 0 = _
    unfold jV; rw [if_neg (by simp [hf]), if_pos hk, ha, hgy]
   ·refine step _ _ (by unfold we; rw [if_neg (by simp [hf]), if_neg hk]) (by rw [List.countP_append]; simp [hf]) ⟨ho.len, ho.all, fun i hi hd' => ?_⟩
    rcases hd' with hd' | rfl
    ·exact ho.don i hi hd'
    ·have hz : jV es V i = 0 := by unfold jV; rw [if_neg (by simp [hf]), if_neg hk]
     have := ho.all i hi
     rw [hz] at this ⊢
     exact this.elim id id
theorem XH {V : Nat → Nat} (hV : ∀ i d, i < es.length → Stop es i d → V i = 1 + bw es i d) {ch : Nat → List Nat} {N : Nat} (hch : ∀ c, c < N → km es ce b c (ch c)) : ∀ c, c ≤ N → OKv es V (za es ch (List.replicate es.length 0) c) (fun i => ∃ c', c' < c ∧ i ∈ ch c')
 | 0, _ => ⟨by simp [za], fun i hi => .inl (by simp [za, hi]), fun i hi ⟨c', h, _⟩ => by omega⟩
 | c + 1, hc => by
  have ih := XH hV hch c (by omega)
  rw [yN]
  have := bP hV (hch c (by omega)) (ch c) [] _ _ (by simp) ih (fun x hx => by simp at hx)
  refine ⟨this.len, this.all, fun i hi ⟨c', h1, h2⟩ => this.don i hi ?_⟩
  rcases Nat.lt_succ_iff_lt_or_eq.1 h1 with h | rfl
  ·exact .inl ⟨c', h, h2⟩
  ·exact .inr h2
end
theorem vn {es : List (Int × Int)} {b : Nat} {ch : Nat → List Nat} (hb : b < es.length) (hlast : qx es (pos es b (es.length - 1)) = true) (hN : 0 < es.length - cnt es)
  (hch : ∀ c, c < es.length - cnt es → km es (zY es (es.length - cnt es) (qF es b)).ce b c (ch c)) {i : Nat} (hi : i < es.length) : ∃ c, c < es.length - cnt es ∧ i ∈ ch c := by
 obtain ⟨k, hk, rfl⟩ := dt hb hi
 obtain ⟨N, hNe⟩ := qay (es.length - cnt es)
 rw [← hNe] at hN hch ⊢
 have hn : 0 < es.length := by omega
 have hall : ic es b es.length = N := by rw [gk hb, hNe]
 have hc : ic es b k % N < N := Nat.mod_lt _ hN
 refine ⟨_, hc, ?_⟩
 have hC := hch _ hc
 obtain ⟨k0, h1, h2, h3, h4, h5⟩ := hC.ex
 have hce := fm (es := es) (b := b) hb (N := N) (j := k0) h1
 have hce' : ic es b k0 % N = ic es b k % N := by
  have : (zY es N (qF es b)).ce[pos es b k0]? = some (ic es b k % N) := h2
  rw [hce] at this; exact Option.some.inj this
 have hah : ∀ k, 0 < k → ahN es.length (pos es b k) = pos es b (k - 1) := fun k h => by
  have := fQ (es := es) (b := b) hn (k - 1); rwa [show k - 1 + 1 = k by omega] at this
 have hk0 : 0 < k0 := by
  rcases Nat.eq_zero_or_pos k0 with h | h
  ·subst h
   have := fQ (es := es) (b := b) hn (es.length - 1)
   rw [show es.length - 1 + 1 = 0 + es.length by omega, zG] at this
   have h3' : qx es (ahN es.length (pos es b 0)) = false := h3
   rw [this, hlast] at h3'; cases h3'
  ·exact h
 have hj0 : qx es (pos es b (k0 - 1)) = false := by
  have h3' : qx es (ahN es.length (pos es b k0)) = false := h3
  rwa [hah k0 hk0] at h3'
 have hic0 : ic es b k0 = ic es b (k0 - 1) + 1 := by
  have e : ic es b (k0 - 1 + 1) = ic es b (k0 - 1) + if qx es (pos es b (k0 - 1)) then 0 else 1 := rfl
  rw [hj0, show k0 - 1 + 1 = k0 by omega] at e; simpa using e
 have along : ∀ d, (∀ j, j < d → qx es (pos es b (k0 + j)) = true) → (ch (ic es b k % N))[d]? = some (pos es b (k0 + d)) := by
  intro d
  induction d with
  | zero => intro _; exact h5
  | succ d ih =>
   intro ho
   have hd := ih fun j hj => ho j (by omega)
   have hod := ho d (by omega)
   have hdl := (qac.1 hd).1
   have hlt : d + 1 < (ch (ic es b k % N)).length := by
    rcases Nat.lt_or_ge (d + 1) (ch (ic es b k % N)).length with h | h
    ·exact h
    ·have e : (ch (ic es b k % N)).length - 1 = d := by omega
     have := hC.ch.last (pos es b (k0 + d)) (by rw [e]; exact hd)
     rw [hod] at this; cases this
   obtain ⟨y, hy⟩ : ∃ y, (ch (ic es b k % N))[d + 1]? = some y := ⟨_, qaa hlt⟩
   have := (hC.ch.next d _ y hd hy).1
   rw [hy, this]
   show some (((b + (k0 + d)) % es.length + 1) % es.length) = some ((b + (k0 + (d + 1))) % es.length)
   rw [Nat.mod_add_mod]; rfl
 have hic0N : ic es b k0 ≤ N := by have := jK (es := es) (b := b) (show k0 ≤ es.length by omega); omega
 have hickN : ic es b k ≤ N := by have := jK (es := es) (b := b) (show k ≤ es.length by omega); omega
 by_cases hz : ic es b k = 0
 ·-- around the end
  have e0 : ic es b k0 = N := by
   rw [hz, Nat.zero_mod] at hce'
   rcases Nat.lt_or_ge (ic es b k0) N with h | h
   ·rw [Nat.mod_eq_of_lt h] at hce'; omega
   ·omega
  have := along (es.length - k0 + k) fun j hj => by
   by_cases hjn : k0 + j < es.length
   ·exact xJ (es := es) (b := b) (i := k0) (j := k0 + j) (k := es.length) (by rw [e0, hall]) (by omega) hjn
   ·rw [show k0 + j = (k0 + j - es.length) + es.length by omega, zG]
    exact xJ (es := es) (b := b) (i := 0) (j := k0 + j - es.length) (k := k) (by rw [hz]; rfl) (by omega) (by omega)
  rw [show k0 + (es.length - k0 + k) = k + es.length by omega, zG] at this
  exact qab this
 ·have e0 : ic es b k0 = ic es b k := by
   rcases Nat.lt_or_ge (ic es b k0) N with h | h
   ·rcases Nat.lt_or_ge (ic es b k) N with h' | h'
    ·rwa [Nat.mod_eq_of_lt h, Nat.mod_eq_of_lt h'] at hce'
    ·have : ic es b k = N := by omega
     rw [this, Nat.mod_self, Nat.mod_eq_of_lt h] at hce'; omega
   ·have e1 : ic es b k0 = N := by omega
    rcases Nat.lt_or_ge (ic es b k) N with h' | h'
    ·rw [e1, Nat.mod_self, Nat.mod_eq_of_lt h'] at hce'; omega
    ·omega
  have hle : k0 ≤ k := by
   rcases Nat.lt_or_ge k k0 with h | h
   ·have := jK (es := es) (b := b) (show k ≤ k0 - 1 by omega); omega
   ·exact h
  have := along (k - k0) fun j hj => xJ (es := es) (b := b) (i := k0) (j := k0 + j) (k := k) e0 (by omega) (by omega)
  rw [show k0 + (k - k0) = k by omega] at this
  exact qab this
noncomputable def vj (es : List (Int × Int)) (i : Nat) : Nat := open Classical in if h : i < es.length ∧ ∃ d, Stop es i d then 1 + bw es i h.2.choose else 0
theorem WM {es : List (Int × Int)} {i d : Nat} (hi : i < es.length) (h : Stop es i d) : vj es i = 1 + bw es i d := by
 unfold vj
 have hx : i < es.length ∧ ∃ d, Stop es i d := ⟨hi, d, h⟩
 rw [dif_pos hx, QD hx.2.choose_spec h]
theorem XG (es : List (Int × Int)) (i : Nat) : vj es i ≤ 1001 := by
 unfold vj
 split
 ·rename_i h
  have := bw_le es i h.2.choose
  have := h.2.choose_spec.le
  omega
 ·omega
theorem We (es : List (Int × Int)) (ms : List Int) (ch : Nat → List Nat) (h0 : (wn es ms).2 = 0) (hch : ∀ c, c < es.length - cnt es → km es (zY es (es.length - cnt es) (qF es (qM es))).ce (qM es) c (ch c)) :
  (∀ i, i < es.length → ∃ d, Stop es i d ∧ vj es i = 1 + bw es i d) ∧ fL es (za es ch (List.replicate es.length 0) (es.length - cnt es)) (wE es (qM es) false) (wE es (qM es) true) (jV es (vj es)) (wrR es (qM es)) := by
 have hp : (wb es ms).2 = 0 ∧ ¬ (cnt es < 2 ∨ es.length - cnt es < 1) := by
  unfold wn at h0
  by_cases h1 : (wb es ms).2 ≠ 0
  ·rw [if_pos h1] at h0; exact absurd h0 h1
  ·rw [if_neg h1] at h0
   refine ⟨by omega, fun h2 => ?_⟩
   rw [if_pos h2] at h0; simp at h0
 obtain ⟨hb, hlast⟩ := bH (es := es) (by omega)
 have hl16 := (kT hp.1).1
 have hN : 0 < es.length - cnt es := by omega
 obtain ⟨b, hbe⟩ := qay (qM es)
 rw [← hbe] at hb hlast hch ⊢
 have hV : ∀ i d, i < es.length → Stop es i d → vj es i = 1 + bw es i d := fun i d hi h => WM hi h
 have hstop : ∀ i, i < es.length → ∃ d, Stop es i d := fun i hi => by
  obtain ⟨c, hc, hm⟩ := vn hb hlast hN hch hi
  obtain ⟨j, hj, e⟩ := List.getElem_of_mem hm
  exact ⟨j, (kM (hch c hc) j i (by rw [qaa hj, e])).2.1⟩
 have hvals := XH hV hch (es.length - cnt es) (qad _)
 have hvr : ∀ i, jV es (vj es) i < 1000000 := fun i => by
  unfold jV
  have h1 := XG es i
  have h2 := XG es (ahN es.length i)
  split
  ·omega
  ·split <;> omega
 refine ⟨fun i hi => ?_, ?_, ?_, ?_, ?_, ?_, hvr, ?_⟩
 ·obtain ⟨d, hd⟩ := hstop i hi
  exact ⟨d, hd, hV i d hi hd⟩
 ·intro i hi
  rw [← hbe]
  obtain ⟨k, hk, rfl⟩ := dt hb hi
  rw [← Zd, Bf hb (qad _) k hk, (yd hb hlast hk).1]
 ·intro i hi
  obtain ⟨k, hk, rfl⟩ := dt hb hi
  have := yd hb hlast hk
  omega
 ·intro i hi
  rw [← hbe]
  obtain ⟨k, hk, rfl⟩ := dt hb hi
  rw [fm hb hk, vP hb hlast hN hk]
 ·exact fun i hi => hvals.don i hi (vn hb hlast hN hch hi)
 ·intro x hx
  rw [← hbe, ← Zd]
  obtain ⟨h1, h2⟩ := Bg hb hlast hN (qad es.length)
  have := h2 x hx
  rw [List.getD_eq_getElem?_getD, qaa (by omega)] at this
  rw [qaa (by omega)]
  simp only [Option.getD_some] at this
  rw [this, List.take_of_length_le (by rw [vE]; omega)]
  unfold wrR
  rw [(vV hb).countP_eq]
 ·intro x
  unfold wrR
  have := List.countP_le_length (p := fun i => qy es i && decide (wE es b true i = x)) (l := List.range es.length)
  rw [List.length_range] at this
  omega
end Go.Sx
namespace Go.Sx
open Go.Dx Go.Proofs
theorem fI {f : Nat → Nat} {n : Nat} : ∀ {l : List Nat}, l.Pairwise (fun a b => f a ≤ f b) → (∀ i ∈ l, f i < n + 1) → l = (l.filter fun i => decide (f i < n)) ++ l.filter fun i => decide (f i = n)
 | [], _, _ => rfl
 | a :: l, hp, hb => by
  rw [List.pairwise_cons] at hp
  have ih := fI hp.2 fun i hi => hb i (qal _ hi)
  by_cases h : f a < n
  ·have h2 : ¬ f a = n := by omega
   rw [List.filter_cons, List.filter_cons]
   simp only [h, h2, decide_true, decide_false, if_true, if_false, Bool.false_eq_true, List.cons_append]
   rw [← ih]
  ·have ha := hb a qas
   have h2 : f a = n := by omega
   have h3 : l.filter (fun i => decide (f i < n)) = [] := by
    rw [List.filter_eq_nil_iff]
    intro i hi
    have := hp.1 i hi
    simp; omega
   rw [h3, List.nil_append] at ih
   rw [List.filter_cons, List.filter_cons]
   simp only [h, h2, decide_true, decide_false, if_true, if_false, Bool.false_eq_true]
   rw [h3, ← ih]; simp
theorem gR {f : Nat → Nat} : ∀ (n : Nat) {l : List Nat}, l.Pairwise (fun a b => f a ≤ f b) → (∀ i ∈ l, f i < n) → ((List.range n).flatMap fun t => l.filter fun i => decide (f i = t)) = l
 | 0, l, _, hb => by
  cases l with
  | nil => rfl
  | cons a l => have := hb a qas; omega
 | n + 1, l, hp, hb => by
  rw [List.range_succ, List.flatMap_append]
  have hs := fI hp hb
  have ih := gR n (l := l.filter fun i => decide (f i < n)) (hp.sublist List.filter_sublist) fun i hi => by simpa using (List.mem_filter.1 hi).2
  have hc : ((List.range n).flatMap fun t => l.filter fun i => decide (f i = t)) = (List.range n).flatMap fun t => (l.filter fun i => decide (f i < n)).filter fun i => decide (f i = t) := by
   simp only [List.flatMap]
   congr 1
   refine List.map_congr_left fun t ht => ?_
   have htn : t < n := by simpa using ht
   rw [List.filter_filter]
   refine List.filter_congr fun i _ => ?_
   by_cases e : f i = t
   ·simp [e, htn]
   ·simp [e]
  rw [hc, ih]
  simp only [List.flatMap_cons, List.flatMap_nil, List.append_nil]
  exact hs.symm
section
variable {es : List (Int × Int)} {b : Nat}
theorem Jr (hb : b < es.length) : (qF es b).Nodup := (vV hb).symm.nodup List.nodup_range
theorem zD (hb : b < es.length) {i : Nat} : i ∈ qF es b ↔ i < es.length := by rw [(vV hb).mem_iff]; simp
theorem KN (hb : b < es.length) (hlast : qx es (pos es b (es.length - 1)) = true) : (qF es b).Pairwise fun i j => wE es b false i ≤ wE es b false j := by
 have e : qF es b = (List.range es.length).map (pos es b) := rfl
 rw [e, List.pairwise_map]
 refine List.Pairwise.imp_of_mem (R := (· < ·)) (fun {k j} hk hj hkj => ?_) List.pairwise_lt_range
 rw [(yd hb hlast (by simpa using hk)).1, (yd hb hlast (by simpa using hj)).1]
 exact fy (Nat.le_of_lt hkj)
variable {ch : Nat → List Nat}
theorem Kj (hb : b < es.length) (hlast : qx es (pos es b (es.length - 1)) = true) (hN : 0 < es.length - cnt es) {i : Nat} (hi : i < es.length) (ho : qx es i = true) : wE es b true ((i + 1) % es.length) = wE es b true i := by
 obtain ⟨k, hk, rfl⟩ := dt hb hi
 have hn : 0 < es.length := by omega
 have hnext : (pos es b k + 1) % es.length = pos es b (k + 1) := by unfold pos; rw [Nat.mod_add_mod]; rfl
 rw [hnext, vP hb hlast hN hk]
 have e : ic es b (k + 1) = ic es b k + if qx es (pos es b k) then 0 else 1 := rfl
 rw [ho] at e
 simp at e
 by_cases hk1 : k + 1 < es.length
 ·rw [vP hb hlast hN hk1, e]
 ·have hkn : k + 1 = es.length := by omega
  have h0 : pos es b (k + 1) = pos es b 0 := by rw [hkn]; have := zG (es := es) (b := b) 0; rwa [Nat.zero_add] at this
  rw [h0, vP hb hlast hN hn, ← e, hkn, gk hb, Nat.mod_self]
  rfl
theorem yx (hb : b < es.length) (hlast : qx es (pos es b (es.length - 1)) = true) (hN : 0 < es.length - cnt es) {c : Nat} {l : List Nat} (h : km es (zY es (es.length - cnt es) (qF es b)).ce b c l) : ∀ (j i : Nat), l[j]? = some i → wE es b true i = c
 | 0, i, hi => by
  obtain ⟨k0, h1, h2, h3, h4, h5⟩ := h.ex
  rw [h5] at hi
  cases hi
  have h2' : (zY es (es.length - cnt es) (qF es b)).ce[pos es b k0]? = some c := h2
  rw [fm hb h1] at h2'
  show wE es b true (pos es b k0) = c
  rw [vP hb hlast hN h1]
  exact Option.some.inj h2'
 | j + 1, i, hi => by
  obtain ⟨x, hx⟩ : ∃ x, l[j]? = some x := ⟨_, qaa (by have := (qac.1 hi).1; omega)⟩
  obtain ⟨g1, g2⟩ := h.ch.next j x i hx hi
  rw [g1, Kj hb hlast hN (h.ch.lt x (qab hx)) g2]
  exact yx hb hlast hN h j x hx
theorem Kk {ce : List Nat} {c : Nat} {l : List Nat} (h : km es ce b c l) : l.Nodup := by
 unfold List.Nodup
 rw [List.pairwise_iff_getElem]
 intro i j hi hj hij he
 obtain ⟨x, hx⟩ : ∃ x, l[j]? = some x := ⟨_, qaa hj⟩
 have hx' : l[i]? = some x := by rw [qaa hi, he, ← qaa hj, hx]
 obtain ⟨_, s1, _⟩ := kM h _ _ hx'
 obtain ⟨_, s2, _⟩ := kM h _ _ hx
 have := QD s1 s2; omega
theorem yy {p : Nat → Bool} : ∀ {l : List Nat} {i j x : Nat}, l[i]? = some x → i < j → p x = true → (l.take i).countP p + 1 ≤ (l.take j).countP p := by
 intro l i j x hx hij hp
 obtain ⟨h, e⟩ := qac.1 hx
 have h1 : (l.take (i + 1)).countP p = (l.take i).countP p + 1 := by
  rw [List.take_succ_eq_append_getElem h, List.countP_append, e]; simp [hp]
 have h2 : (l.take (i + 1)).countP p ≤ (l.take j).countP p := by
  have : l.take (i + 1) = (l.take j).take (i + 1) := by rw [List.take_take, Nat.min_eq_left (by omega)]
  rw [this]
  exact (List.take_sublist _ _).countP_le
 omega
theorem vp {p : Nat → Bool} : ∀ {l : List Nat} {v : Nat}, v < l.countP p → ∃ i x, l[i]? = some x ∧ p x = true ∧ (l.take i).countP p = v
 | [], v, h => by simp at h
 | a :: l, v, h => by
  cases hp : p a with
  | true =>
   cases v with
   | zero => exact ⟨0, a, rfl, hp, rfl⟩
   | succ v =>
    rw [List.countP_cons, hp] at h
    simp at h
    obtain ⟨i, x, h1, h2, h3⟩ := vp (l := l) (v := v) h
    exact ⟨i + 1, x, h1, h2, by rw [List.take_succ_cons, List.countP_cons, hp, h3]; rfl⟩
  | false =>
   rw [List.countP_cons, hp] at h
   simp at h
   obtain ⟨i, x, h1, h2, h3⟩ := vp (l := l) (v := v) h
   exact ⟨i + 1, x, h1, h2, by rw [List.take_succ_cons, List.countP_cons, hp, h3]; rfl⟩
end
theorem Xj {es : List (Int × Int)} {N : Nat} (hN : 0 < N) : ∀ (l : List Nat) (s : LS), s.wr.length = N → (∀ x, x < N → s.wr.getD x 0 ≤ 2) → gn es N l s = none → ∀ x, x < N → (l.foldl (wF es N) s).wr.getD x 0 ≤ 2
 | [], s, _, h, _ => h
 | i :: l, s, hl, h, he => by
  rw [gn] at he
  by_cases hc : qy es i = true ∧ 2 < s.wr.getD (s.c % N) 0 + 1
  ·rw [if_pos hc] at he; cases he
  ·rw [if_neg hc] at he
   rw [List.foldl_cons]
   have hcN : s.c % N < N := Nat.mod_lt _ hN
   refine Xj hN l _ ?_ (fun x hx => ?_) he
   ·unfold wF; simp only; split
    ·rw [List.length_set]; exact hl
    ·exact hl
   ·unfold wF; simp only
    by_cases hf : qy es i = true
    ·rw [if_pos hf]
     have h2 : ¬ 2 < s.wr.getD (s.c % N) 0 + 1 := fun h' => hc ⟨hf, h'⟩
     by_cases e : s.c % N = x
     ·rw [e, List.getD_eq_getElem?_getD, qat (by omega)]
      rw [e] at h2
      simp only [Option.getD_some]; omega
     ·rw [List.getD_eq_getElem?_getD, qaw e, ← List.getD_eq_getElem?_getD]; exact h x hx
    ·rw [if_neg hf]; exact h x hx
end Go.Sx
namespace Go.Sx
open Go.Dx Go.Proofs
theorem FD (es : List (Int × Int)) (ms : List Int) (ch : Nat → List Nat) (h0 : (wn es ms).2 = 0) (hch : ∀ c, c < es.length - cnt es → km es (zY es (es.length - cnt es) (qF es (qM es))).ce (qM es) c (ch c)) :
  qM es < es.length ∧ qx es (pos es (qM es) (es.length - 1)) = true ∧ GL es (es.length - cnt es) (qF es (qM es)) (wE es (qM es) true) (jV es (vj es)) (wrR es (qM es)) := by
 have hp : (wb es ms).2 = 0 ∧ ¬ (cnt es < 2 ∨ es.length - cnt es < 1) ∧ gn es (es.length - cnt es) (qF es (qM es)) (zI es.length (es.length - cnt es)) = none := by
  unfold wn at h0
  by_cases h1 : (wb es ms).2 ≠ 0
  ·rw [if_pos h1] at h0; exact absurd h0 h1
  ·rw [if_neg h1] at h0
   by_cases h2 : cnt es < 2 ∨ es.length - cnt es < 1
   ·rw [if_pos h2] at h0; simp at h0
   ·rw [if_neg h2] at h0
    refine ⟨by omega, h2, ?_⟩
    cases hl : gn es (es.length - cnt es) (qF es (qM es)) (zI es.length (es.length - cnt es)) with
    | none => rfl
    | some i => rw [hl] at h0; simp at h0
 obtain ⟨hb, hlast⟩ := bH (es := es) (by omega)
 have hN : 0 < es.length - cnt es := by omega
 refine ⟨hb, hlast, ?_⟩
 have hLaw := (We es ms ch h0 hch).2
 obtain ⟨hlay⟩ : Nonempty (gn es (es.length - cnt es) (qF es (qM es)) (zI es.length (es.length - cnt es)) = none) := ⟨hp.2.2⟩
 obtain ⟨b, hbe⟩ := qay (qM es)
 rw [← hbe] at hb hlast hch hLaw hlay ⊢
 obtain ⟨N, hNe⟩ := qay (es.length - cnt es)
 have hmem : ∀ i, i < es.length → ∃ c j, c < N ∧ (ch c)[j]? = some i ∧ wE es b true i = c ∧ vj es i = 1 + ((ch c).take j).countP (qy es) := fun i hi => by
  obtain ⟨c, hc, hm⟩ := vn hb hlast hN hch hi
  obtain ⟨j, hj, e⟩ := List.getElem_of_mem hm
  have hj' : (ch c)[j]? = some i := by rw [qaa hj, e]
  obtain ⟨_, s2, s3⟩ := kM (hch c hc) j i hj'
  exact ⟨c, j, by omega, hj', yx hb hlast hN (hch c hc) j i hj', by rw [WM hi s2, s3]⟩
 have hmem2 : ∀ c, c < N → ∀ i, i ∈ ch c ↔ i < es.length ∧ wE es b true i = c := fun c hc i => by
  constructor
  ·intro hm
   obtain ⟨j, hj, e⟩ := List.getElem_of_mem hm
   have hj' : (ch c)[j]? = some i := by rw [qaa hj, e]
   exact ⟨(kM (hch c (by omega)) j i hj').1, yx hb hlast hN (hch c (by omega)) j i hj'⟩
  ·rintro ⟨hi, hcell⟩
   obtain ⟨c', j, h1, h2, h3, _⟩ := hmem i hi
   rw [hcell] at h3
   rw [h3]; exact qab h2
 have hcount : ∀ c, c < N → wrR es b c = (ch c).countP (qy es) := fun c hc => by
  unfold wrR
  have hperm : (ch c).Perm ((List.range es.length).filter fun i => decide (wE es b true i = c)) := by
   rw [List.perm_ext_iff_of_nodup (Kk (hch c (by omega))) (List.filter_sublist.nodup List.nodup_range)]
   intro i
   rw [hmem2 c hc i, List.mem_filter]
   simp
  rw [hperm.countP_eq, List.countP_filter]
 have hval : ∀ i, qy es i = true → jV es (vj es) i = vj es i := fun i hf => by unfold jV; rw [if_pos hf]
 refine ⟨Jr hb, fun i hi => ?_, fun i hi hf => ?_, fun i hi j hj hfi hfj hc hv => ?_, fun i hi hf => ?_, fun c v hc hv1 hv2 => ?_, fun c hc => ?_⟩
 ·obtain ⟨c, j, h1, _, h3, _⟩ := hmem i ((zD hb).1 hi)
  omega
 ·obtain ⟨c, j, h1, h2, h3, h4⟩ := hmem i ((zD hb).1 hi)
  rw [hval i hf, h4, h3, hcount c h1]
  refine ⟨by omega, ?_⟩
  have hj := (qac.1 h2).1
  have := yy (p := qy es) h2 hj hf
  rw [List.take_length] at this; omega
 ·obtain ⟨c, k, h1, h2, h3, h4⟩ := hmem i ((zD hb).1 hi)
  obtain ⟨c', k', h1', h2', h3', h4'⟩ := hmem j ((zD hb).1 hj)
  have hcc : c = c' := by rw [← h3, ← h3', hc]
  subst hcc
  rw [hval i hfi, hval j hfj, h4, h4'] at hv
  rcases Nat.lt_trichotomy k k' with g | g | g
  ·have := yy (p := qy es) h2 g hfi; omega
  ·subst g; rw [h2] at h2'; exact Option.some.inj h2'
  ·have := yy (p := qy es) h2' g hfj; omega
 ·have hil := (zD hb).1 hi
  unfold jV
  rw [if_neg (by simp [hf])]
  by_cases hk : (eAt es (ahN es.length i)).1 = 1
  ·rw [if_pos hk]
   have hal : ahN es.length i < es.length := yu hil
   have hfa : qy es (ahN es.length i) = true := by unfold qy; rw [hk]; rfl
   have hoa : qx es (ahN es.length i) = true := by unfold qx xP; rw [hk]; rfl
   refine .inr ⟨ahN es.length i, (zD hb).2 hal, hfa, ?_, by rw [if_pos hfa]⟩
   have hnx : (ahN es.length i + 1) % es.length = i := by
    unfold ahN
    by_cases e : i = 0
    ·subst e; rw [if_pos rfl]; rw [show es.length - 1 + 1 = es.length by omega, Nat.mod_self]
    ·rw [if_neg e, show i - 1 + 1 = i by omega, Nat.mod_eq_of_lt hil]
   have := Kj hb hlast hN hal hoa
   rw [hnx] at this; exact this.symm
  ·rw [if_neg hk]; exact .inl rfl
 ·rw [← hNe] at hc
  rw [hcount c hc] at hv2
  obtain ⟨k, x, h1, h2, h3⟩ := vp (p := qy es) (l := ch c) (v := v - 1) (by omega)
  have hx := (hmem2 c hc x).1 (qab h1)
  refine ⟨x, (zD hb).2 hx.1, h2, hx.2, ?_⟩
  obtain ⟨_, s2, s3⟩ := kM (hch c (by omega)) k x h1
  rw [hval x h2, WM hx.1 s2, s3, h3]; omega
 ·have hw := hLaw.wr c hc
  rw [← hbe] at hw
  have h2 := Xj hN (qF es b) (zI es.length (es.length - cnt es)) (by simp [zI]) (fun x hx => by simp [zI, List.getD_eq_getElem?_getD, List.getElem?_replicate, hx]) hlay c hc
  have h3 : (zY es (es.length - cnt es) (qF es b)).wr.getD c 0 ≤ 2 := h2
  rw [List.getD_eq_getElem?_getD, hw] at h3
  exact h3
end Go.Sx
namespace Go.Sx
open Go.Dx Go.Proofs
section
variable {es : List (Int × Int)} {ms : List Int} {TH CE VA : Nat → Nat}
abbrev tsF (es : List (Int × Int)) (ms : List Int) (CE VA : Nat → Nat) (s : TS) (i : Nat) : TS := zo es ms CE VA i s
theorem dE (j : Nat) : ∀ (l : List Nat) (S : Nat → TS), l.foldl (wG es ms TH CE VA) S j = (l.filter fun i => decide (TH i = j)).foldl (tsF es ms CE VA) (S j)
 | [], S => rfl
 | i :: l, S => by
  rw [List.foldl_cons, dE j l, List.filter_cons]
  unfold wG
  by_cases h : TH i = j
  ·subst h; simp [qK]
  ·rw [wz _ _ (Ne.symm h)]; simp [h]
theorem Bi : ∀ (l : List Nat) (s : TS), s.outs <+: (l.foldl (tsF es ms CE VA) s).outs
 | [], s => List.prefix_rfl
 | i :: l, s => by
  rw [List.foldl_cons]
  refine List.IsPrefix.trans ?_ (Bi l _)
  show s.outs <+: (zo es ms CE VA i s).outs
  unfold zo
  split
  ·exact List.prefix_rfl
  ·exact List.prefix_append _ _
theorem ts_one (j : Nat) (O : List Nat) (ev : List EvR) (s : TS) (i : Nat) (hi : TH i = j) (hO : (zo es ms CE VA i s).outs <+: O) (h0 : (s.acts.foldl (aEv j O) (0, ev)).1 = s.outs.length) :
  (zo es ms CE VA i s).acts.foldl (aEv j O) (0, ev) = ((zo es ms CE VA i s).outs.length, (s.acts.foldl (aEv j O) (0, ev)).2 ++ wB es ms TH CE VA i) := by
 obtain ⟨r, hr⟩ := qay (s.acts.foldl (aEv j O) (0, ev))
 have hf : (evF (fc es i)).foldl (aEv j O) r = (r.1, r.2 ++ wX es TH i) := by
  unfold evF wX
  by_cases h : fc es i = 0
  ·simp [h]
  ·simp [h, aEv, hi]
 unfold zo at hO ⊢
 unfold wB evA
 by_cases hfr : qy es i = true
 ·simp only [hfr, if_true, List.foldl_append, List.foldl_cons, List.foldl_nil]
  rw [← hr] at h0 ⊢
  rw [hf, h0]
  simp [aEv, hi]
 ·have hfr' : qy es i = false := by simpa using hfr
  simp only [hfr', if_false, List.foldl_append, List.foldl_cons, List.foldl_nil, Bool.false_eq_true] at hO ⊢
  rw [← hr] at h0 ⊢
  rw [hf, h0]
  have hg : O[s.outs.length]?.getD 0 = VA i := by
   obtain ⟨t, ht⟩ := hO
   rw [← ht]; simp
  simp [aEv, hi, hg]
theorem Bh (j : Nat) (O : List Nat) (ev : List EvR) : ∀ (l : List Nat) (s : TS), (∀ i ∈ l, TH i = j) → (l.foldl (tsF es ms CE VA) s).outs <+: O → (s.acts.foldl (aEv j O) (0, ev)).1 = s.outs.length →
  (l.foldl (tsF es ms CE VA) s).acts.foldl (aEv j O) (0, ev) = ((l.foldl (tsF es ms CE VA) s).outs.length, (s.acts.foldl (aEv j O) (0, ev)).2 ++ l.flatMap (wB es ms TH CE VA))
 | [], s, _, _, h0 => by
  simp only [List.foldl_nil, List.flatMap_nil, List.append_nil]
  rw [← h0]
 | i :: l, s, hl, hO, h0 => by
  rw [List.foldl_cons] at hO ⊢
  have h1 := ts_one (es := es) (ms := ms) (TH := TH) (CE := CE) (VA := VA) j O ev s i (hl i qas) (List.IsPrefix.trans (Bi l _) hO) h0
  have h2 := Bh j O ev l (zo es ms CE VA i s) (fun k hk => hl k (qal _ hk)) hO (by rw [h1])
  show (l.foldl (tsF es ms CE VA) (zo es ms CE VA i s)).acts.foldl (aEv j O) (0, ev) = _
  rw [h2, h1, List.flatMap_cons, List.append_assoc]
theorem Qx (j : Nat) (O : List Nat) : ∀ (q : Nat) (s : Nat × List EvR), (xW q).foldl (aEv j O) s = s
 | 0, s => rfl
 | q + 1, s => by rw [gO, List.foldl_append, Qx j O q]; simp [aEv]
theorem ts_nd : ∀ (l : List Nat) (s : TS), (∀ a ∈ s.acts, a.1 = 3 → a.2.2.2.2 ≠ none) → ∀ a ∈ (l.foldl (tsF es ms CE VA) s).acts, a.1 = 3 → a.2.2.2.2 ≠ none
 | [], s, h => h
 | i :: l, s, h => by
  rw [List.foldl_cons]
  refine ts_nd l _ ?_
  show ∀ a ∈ (zo es ms CE VA i s).acts, _
  have hev : ∀ a ∈ evF (fc es i), a.1 = 3 → a.2.2.2.2 ≠ none := by
   intro a ha h3
   unfold evF at ha
   split at ha
   ·cases ha
   ·simp at ha; subst ha; simp at h3
  unfold zo
  split
  all_goals
   intro a ha h3
   simp only [qax, qah] at ha
   rcases ha with (ha | ha) | ha
   ·exact h a ha h3
   ·exact hev a ha h3
   ·subst ha; simp at h3 ⊢
theorem WY (j : Nat) (O : List Nat) : ∀ (l : List AB) (s : Nat × List EvR), s.1 ≤ (l.foldl (aEv j O) s).1
 | [], s => qad _
 | a :: l, s => by
  rw [List.foldl_cons]
  refine qam ?_ (WY j O l _)
  unfold aEv
  repeat' split
  all_goals simp
theorem Xb (l : List Nat) (j : Nat) (ev : List EvR) : WZ j ((l.foldl (wG es ms TH CE VA) TS0 j).fin.outs) ((l.foldl (wG es ms TH CE VA) TS0 j).fin.acts) ev =
  ((l.foldl (wG es ms TH CE VA) TS0 j).fin.outs.length, ev ++ (l.filter fun i => decide (TH i = j)).flatMap (wB es ms TH CE VA)) := by
 unfold WZ TS.fin TS.pr
 simp only
 rw [List.foldl_append, Qx, dE]
 rw [Bh (TH := TH) j _ ev (l.filter fun i => decide (TH i = j)) (TS0 j) (fun i hi => by simpa using (List.mem_filter.1 hi).2) List.prefix_rfl rfl]
 rfl
theorem fin_nd (l : List Nat) (j : Nat) : ∀ a ∈ (l.foldl (wG es ms TH CE VA) TS0 j).fin.acts, a.1 = 3 → a.2.2.2.2 ≠ none := by
 unfold TS.fin TS.pr
 simp only
 rw [dE]
 intro a ha h3
 rcases qax.1 ha with h | h
 ·exact ts_nd _ (TS0 j) (fun a ha => by cases ha) a h h3
 ·unfold xW at h
  obtain ⟨k, _, rfl⟩ := List.mem_map.1 h
  simp at h3
theorem fin_ld (l : List Nat) (j : Nat) (k : Nat) (a : AB) (ha : (l.foldl (wG es ms TH CE VA) TS0 j).fin.acts[k]? = some a) (h2 : a.1 = 2) : (((l.foldl (wG es ms TH CE VA) TS0 j).fin.acts.take k).foldl (aEv j (l.foldl (wG es ms TH CE VA) TS0 j).fin.outs) (0, [])).1 < (l.foldl (wG es ms TH CE VA) TS0 j).fin.outs.length := by
 have h := congrArg Prod.fst (Xb (es := es) (ms := ms) (TH := TH) (CE := CE) (VA := VA) l j [])
 unfold WZ at h
 simp only at h
 obtain ⟨L, hL⟩ := qay ((l.foldl (wG es ms TH CE VA) TS0 j).fin.acts)
 obtain ⟨O, hO⟩ := qay ((l.foldl (wG es ms TH CE VA) TS0 j).fin.outs)
 rw [← hL] at ha h ⊢
 rw [← hO] at h ⊢
 rw [← h]
 have e : L = L.take (k + 1) ++ L.drop (k + 1) := (List.take_append_drop _ _).symm
 have e2 : L.take (k + 1) = L.take k ++ [a] := by rw [List.take_add_one, ha]; rfl
 conv => rhs; rw [e, List.foldl_append, e2, List.foldl_append]
 refine qaf ?_ (WY j O _ _)
 simp [aEv, h2]
theorem Ze (l : List Nat) (N : Nat) : ∀ nt, vL (fun j => (l.foldl (wG es ms TH CE VA) TS0 j).fin.acts) (fun j => (l.foldl (wG es ms TH CE VA) TS0 j).fin.outs) N nt = (List.range N).map ev0 ++ (List.range nt).flatMap fun j => (l.filter fun i => decide (TH i = j)).flatMap (wB es ms TH CE VA)
 | 0 => by simp [vL]
 | nt + 1 => by
  have ih := Ze l N nt
  unfold vL at ih ⊢
  rw [qL, ih, Xb, List.range_succ, List.flatMap_append]
  simp
theorem Dw {l : List Nat} {N nt : Nat} (hp : l.Pairwise fun a b => TH a ≤ TH b) (hb : ∀ i ∈ l, TH i < nt) :
  vL (fun j => (l.foldl (wG es ms TH CE VA) TS0 j).fin.acts) (fun j => (l.foldl (wG es ms TH CE VA) TS0 j).fin.outs) N nt = (List.range N).map ev0 ++ l.flatMap (wB es ms TH CE VA) := by
 rw [Ze]
 have h := gR nt hp hb
 conv => rhs; rw [← h]
 rw [List.flatMap_assoc]
end
end Go.Sx
