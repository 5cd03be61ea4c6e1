/- Contracts. -/
import Derived.Test.YtdfaibjngkfnaaaGd
set_option linter.unusedVariables false
set_option linter.unusedSimpArgs false
set_option linter.defProp false
namespace Go.Dx
@[simp] theorem bslice_i3 (m : M) (a b c : Int) : ko 1 3 (rep 3 [.int .i64 0]) [(0, 1, .int .i64 a), (1, 1, .int .i64 b), (2, 1, .int .i64 c)] m = some (.slice (some ⟨m.n, 0, some 3⟩) 3 3, newRow m [.int .i64 a, .int .i64 b, .int .i64 c]) := _root_.id rfl
end Go.Dx
namespace Go.Sx
open Go.Dx Go.Proofs
def kW (a b : Int) : Int := if a < b then -1 else if b < a then 1 else 0
theorem Xo (n : Nat) (a : Int) (m : M) : CallV (ex Try.prog (n + 1)) 92 [iv a] m (.bool false) := by
 refine qv dg7_ok (by simp) ?_
 simp
 exact qH (by simp) (by simp)
theorem fF (n : Nat) (a b : Int) (m : M) (hm : m.base ≤ m.n) : CallV (ex Try.prog (n + 2)) 82 [iv a, iv b] m (iv (kW a b)) := by
 refine qv df9_ok (by simp) ?_
 obtain ⟨v1, m1, g1, g2, rfl⟩ := Xo n a m
 obtain ⟨v2, m2, f1, f2, rfl⟩ := Xo n b m1
 have E := g2.trans f2
 simp [g1, f1]
 by_cases h1 : a < b
 ·simp [h1]
  exact qH E (by simp [kW, h1])
 ·by_cases h2 : b < a
  ·simp [h1, h2]
   exact qH E (by simp [kW, h1, h2])
  ·simp [h1, h2]
   exact qH E (by simp [kW, h1, h2])
def orL (l : List Int) : Int := (l.find? fun x => decide (x ≠ 0)).getD 0
theorem Or_c (n : Nat) (v : Value) (l : List Int) (m : M) (hm : m.base ≤ m.n) (hl : l.length ≤ 1000) (h : Rd m v 1 modeRow l) : CallV (ex Try.prog (n + 1)) 81 [v] m (iv (orL l)) := by
 refine qv df8_ok (by simp) ?_
 have hel := h.len
 obtain ⟨q, hq⟩ := qaj (l.length)
 rw [← hq] at hel hl
 simp [hel]
 refine qm (c := YX) rfl (Ret m _) (fun i t m' => Tm.get 3 t = iv 0 ∧ Tm.get 6 t = v ∧ Tm.get 7 t = iv q ∧ Tm.get 8 t = iv i ∧ Ext m m' ∧ (l.drop i).find? (fun x => decide (x ≠ 0)) = l.find? fun x => decide (x ≠ 0)) q (by omega)
  ⟨by simp, by simp, by simp, by simp, Ext.refl _, by simp⟩ (fun i t m' k hi hI hk => ?_)
 obtain ⟨t3, t6, t7, t8, hE, hf⟩ := hI
 have S' := (Sees.refl hm).ext hE
 by_cases hil : i < q
 ·have hd := dlt hil
  have w1 := qJ (i := i) (by omega)
  obtain ⟨r, hr⟩ : ∃ r, l[i]? = some r := ⟨_, DW (by omega)⟩
  have ⟨a1, a2⟩ := Rd.at1 (g := fun (x : Int) => iv x) h hr
  have a2' := a2 m' S'
  have hdrop : l.drop i = r :: l.drop (i + 1) := by
   obtain ⟨hh, e⟩ := DY.1 hr
   rw [List.drop_eq_getElem_cons hh, e]
  rw [hdrop] at hf
  by_cases hz : r = 0
  ·subst hz
   simp [t3, t6, t7, t8, hd, a1, a2', w1]
   refine hk hil _ _ ⟨by simp [t3], by simp [t6], by simp [t7], by simp, hE, ?_⟩
   rw [← hf, List.find?_cons]; simp
  ·simp [t3, t6, t7, t8, hd, a1, a2', hz]
   refine qH hE ?_
   have : orL l = r := by unfold orL; rw [← hf, List.find?_cons]; simp [hz]
   simp [this]
 ·obtain rfl : i = q := by omega
  have hd : ((i : Int) < (i : Int)) = False := eq_false (by omega)
  simp [t3, t6, t7, t8, hd]
  refine qH hE ?_
  rw [hq, List.drop_length] at hf
  have : orL l = 0 := by unfold orL; rw [← hf]; rfl
  simp [this]
def jT (x y : List (Int × Int) × List Int) (i : Nat) : Int := orL [kW (eAt x.1 i).1 (eAt y.1 i).1, kW (eAt x.1 i).2 (eAt y.1 i).2, kW (mAt x.2 i) (mAt y.2 i)]
def dL (x y : List (Int × Int) × List Int) : Option Nat := first x.1.length fun i => decide (jT x y i ≠ 0)
def gp (x y : List (Int × Int) × List Int) : Int := match dL x y with
 | some i => jT x y i
 | none => 0
theorem BU (n : Nat) (ed md ed' md' : Value) (es es' : List (Int × Int)) (ms ms' : List Int) (m : M) (hm : m.base ≤ m.n) (hl : es.length < 4611686018427387904) (hle : es'.length = es.length) (hlm : ms.length = es.length) (hlm' : ms'.length = es.length) (hed : Rd m ed 2 edgeRow es) (hmd : Rd m md 1 modeRow ms) (hed' : Rd m ed' 2 edgeRow es') (hmd' : Rd m md' 1 modeRow ms') :
  CallV (ex Try.prog (n + 3)) 59 [.agg #[ed, md], .agg #[ed', md']] m (iv (gp (es, ms) (es', ms'))) := by
 refine qv de0_ok (by simp) ?_
 have st0 : St m m [] := St.nil hm (Ext.refl m)
 have st1 := (st0.row [ed, md]).row [ed', md']
 simp only [qk] at st1
 obtain ⟨m1, hm1⟩ := qaj (Dx.newRow (Dx.newRow m [ed, md]) [ed', md'])
 rw [← hm1] at st1
 have l1 : ∀ m'', Sees m1 m'' → ∀ o s, load1 m'' ⟨m.n, o, s⟩ = [ed, md][o]? := fun m'' k o s => by rw [qy k (st1.get 1 rfl).2.1]; exact (st1.get 1 rfl).2.2.load1 o s
 have l2 : ∀ m'', Sees m1 m'' → ∀ o s, load1 m'' ⟨m.n + 1, o, s⟩ = [ed', md'][o]? := fun m'' k o s => by rw [qy k (st1.get 0 rfl).2.1]; exact (st1.get 0 rfl).2.2.load1 o s
 have S1 := st1.sees.self
 have hel := hed.len
 obtain ⟨q, hq⟩ := qaj (es.length)
 rw [← hq] at hel hl hle hlm hlm'
 simp (maxDischargeDepth := 30) [← hm1, l1, S1, hel]
 refine qm (c := YO) rfl (Ret m _) (fun i t m' => Tm.get 2 t = .pointer (some ⟨m.n, 0, none⟩) ∧ Tm.get 3 t = .pointer (some ⟨m.n + 1, 0, none⟩) ∧ Tm.get 9 t = iv q ∧ Tm.get 10 t = iv i ∧ Ext m1 m' ∧ ∀ j, j < i → jT (es, ms) (es', ms') j = 0) q (by omega)
  ⟨by simp, by simp, by simp, by simp, Ext.refl _, fun j hj => by omega⟩ (fun i t m' k hi hI hk => ?_)
 obtain ⟨t2, t3, t9, t10, hE, hz⟩ := hI
 have S' := S1.ext hE
 have E' := st1.ext.trans hE
 by_cases hil : i < q
 ·have hd := dlt hil
  have w1 := qJ (i := i) (by omega)
  obtain ⟨e, he⟩ : ∃ r, es[i]? = some r := ⟨_, DW (by omega)⟩
  obtain ⟨e', he'⟩ : ∃ r, es'[i]? = some r := ⟨_, DW (by omega)⟩
  obtain ⟨x, hx⟩ : ∃ r, ms[i]? = some r := ⟨_, DW (by omega)⟩
  obtain ⟨x', hx'⟩ : ∃ r, ms'[i]? = some r := ⟨_, DW (by omega)⟩
  have S0' : Sees m m' := (Sees.refl hm).ext E'
  have ⟨a1, _, a3⟩ := (hed.sees S0').at he
  have ⟨b1, _, b3⟩ := (hed'.sees S0').at he'
  have ⟨c1, c2⟩ := Rd.at1 (g := fun (x : Int) => iv x) (hmd.sees S0') hx
  have ⟨d1, d2⟩ := Rd.at1 (g := fun (x : Int) => iv x) (hmd'.sees S0') hx'
  have a30 : ∀ m'', Sees m' m'' → load1 m'' ⟨(adr 2 ed i).block, (adr 2 ed i).off, none⟩ = some (iv e.1) := fun m'' k => a3 m'' 0 none k (by simp [edgeRow])
  have a31 : ∀ m'', Sees m' m'' → load1 m'' ⟨(adr 2 ed i).block, (adr 2 ed i).off + 1, none⟩ = some (iv e.2) := fun m'' k => a3 m'' 1 none k (by simp [edgeRow])
  have b30 : ∀ m'', Sees m' m'' → load1 m'' ⟨(adr 2 ed' i).block, (adr 2 ed' i).off, none⟩ = some (iv e'.1) := fun m'' k => b3 m'' 0 none k (by simp [edgeRow])
  have b31 : ∀ m'', Sees m' m'' → load1 m'' ⟨(adr 2 ed' i).block, (adr 2 ed' i).off + 1, none⟩ = some (iv e'.2) := fun m'' k => b3 m'' 1 none k (by simp [edgeRow])
  have l1' : ∀ m'', Sees m' m'' → ∀ o s, load1 m'' ⟨m.n, o, s⟩ = [ed, md][o]? := fun m'' k => l1 m'' (S'.trans k)
  have l2' : ∀ m'', Sees m' m'' → ∀ o s, load1 m'' ⟨m.n + 1, o, s⟩ = [ed', md'][o]? := fun m'' k => l2 m'' (S'.trans k)
  have SS := S'.self
  obtain ⟨v2, m2', g1, g2, rfl⟩ := fF n e.1 e'.1 (qi m') (qA SS).base
  have g3 : m2'.log = [] := by rw [g2.log, qE]
  obtain ⟨m2, hm2⟩ := qaj (behind m' m2')
  have E2 : Ext m' m2 := by rw [hm2]; exact g2.behind
  have S2 := SS.ext E2
  obtain ⟨v3, m3', g4, g5, rfl⟩ := fF n e.2 e'.2 (qi m2) (qA S2).base
  have g6 : m3'.log = [] := by rw [g5.log, qE]
  obtain ⟨m3, hm3⟩ := qaj (behind m2 m3')
  have E3 : Ext m2 m3 := by rw [hm3]; exact g5.behind
  have S3 := S2.ext E3
  obtain ⟨v4, m4', g7, g8, rfl⟩ := fF n x x' (qi m3) (qA S3).base
  have g9 : m4'.log = [] := by rw [g8.log, qE]
  obtain ⟨m4, hm4⟩ := qaj (behind m3 m4')
  have E4 : Ext m3 m4 := by rw [hm4]; exact g8.behind
  have S4 := S3.ext E4
  obtain ⟨M5, hM5⟩ := qaj (Dx.newRow m4 [iv (kW e.1 e'.1), iv (kW e.2 e'.2), iv (kW x x')])
  have E5 : Ext m4 M5 := by rw [hM5]; exact Ext.row _ _
  have S5 := S4.ext E5
  have hA5 : Arr M5 m4.n ([kW e.1 e'.1, kW e.2 e'.2, kW x x'].flatMap modeRow) := by rw [hM5]; exact Arr.row m4 _
  have hB5 : m4.n < M5.n := by rw [hM5, qk]; omega
  have hR5 : Rd M5 (.slice (some ⟨m4.n, 0, some 3⟩) 3 3) 1 modeRow [kW e.1 e'.1, kW e.2 e'.2, kW x x'] := zl (l := [kW e.1 e'.1, kW e.2 e'.2, kW x x']) (f := modeRow) (e := 1) (c := 3) (fun _ => rfl) hA5 hB5
  obtain ⟨v6, m6', h1, h2, rfl⟩ := Or_c (n + 1) _ _ (qi M5) (qA S5).base (by simp) (hR5.sees (qA S5.self))
  have h3 : m6'.log = [] := by rw [h2.log, qE]
  obtain ⟨m6, hm6⟩ := qaj (behind M5 m6')
  have E6 : Ext M5 m6 := by rw [hm6]; exact h2.behind
  have EE : Ext m' m6 := E2.trans (E3.trans (E4.trans (E5.trans E6)))
  have hoa : jT (es, ms) (es', ms') i = orL [kW e.1 e'.1, kW e.2 e'.2, kW x x'] := by
   unfold jT; simp only; rw [wt he, wt he', vc hx, vc hx']
  rw [← hoa] at h1
  obtain ⟨O, hO⟩ := qaj (jT (es, ms) (es', ms') i)
  rw [← hO] at h1
  have c2' := c2 m3 S3
  have d2' := d2 m3 S3
  simp (maxDischargeDepth := 30) [t2, t3, t9, t10, hd, SS, l1', l2', a1, a30, b1, b30, g1, g3, ← hm2, S2, a31, b31, g4, g6, ← hm3, S3, c1, c2', d1, d2', g7, g9, ← hm4, ← hM5, h1, h3, ← hm6]
  by_cases ho : O = 0
  ·simp [ho, t10, w1]
   refine hk hil _ _ ⟨by simp [t2], by simp [t3], by simp [t9], by simp, hE.trans EE, fun j hj => ?_⟩
   rcases Nat.lt_succ_iff_lt_or_eq.1 hj with h | h
   ·exact hz j h
   ·rw [h, ← hO]; exact ho
  ·simp [ho]
   refine qH (E'.trans EE) ?_
   have : gp (es, ms) (es', ms') = O := by
    unfold gp dL
    rw [jO (i := i) (by show i < es.length; omega) (by rw [← hO]; simp [ho]) (fun j hj => by rw [hz j hj]; rfl)]
    exact hO.symm
   simp [this]
 ·obtain rfl : i = q := by omega
  have hd : ((i : Int) < (i : Int)) = False := eq_false (by omega)
  simp [t9, t10, hd]
  refine qH E' ?_
  have : gp (es, ms) (es', ms') = 0 := by
   unfold gp dL
   rw [zU (fun j hj => by have := hz j (by have hj' : j < es.length := hj; omega); simp [this])]
  simp [this]
end Go.Sx
namespace Go.Dx
@[simp] theorem pSlice_h (e : Nat) (x b : V) (t : Tm) : kH e x none (some b) none t = slV e none (some (b t)) none (x t) := by
 unfold kH dA slV
 cases x t with
 | slice a l c => cases a <;> rfl
 | _ => rfl
@[simp] theorem pSlice_l (e : Nat) (x a : V) (t : Tm) : kH e x (some a) none none t = slV e (some (a t)) none none (x t) := by
 unfold kH dA slV
 cases x t with
 | slice a l c => cases a <;> rfl
 | _ => rfl
@[simp] theorem pCap_ap (a : V) (t : Tm) : KN a t = capV (a t) := _root_.id rfl
theorem dq : ∀ (l zs p : List Value), l.length ≤ zs.length → over (p ++ zs) p.length l = p ++ l ++ zs.drop l.length
 | [], zs, p, h => by simp [over]
 | v :: l, zs, p, h => by
  cases zs with
  | nil => simp at h
  | cons z zs =>
   unfold over
   have := dq l zs (p ++ [v]) (by simpa using h)
   simp at this ⊢
   exact this
section
variable {α : Type} {m0 m : M} {σ : List (Nat × List Value)} {v : Value} {e : Nat} {f : α → List Value} {es : List α}
theorem yM (st : St m0 m σ) (k : Nat) {N : Nat} {l0 : List Value} (hk : σ[k]? = some (N, l0)) {c : Option Nat} {len n bytes : Nat} (h : Rd m v e f es) (hf : ∀ x, (f x).length = e) (hok : ∀ x, ∀ v ∈ f x, okC v = true) (hn : len + es.length ≤ n) (hl : l0.length = n * e) :
  ∃ m', qX m e bytes (.slice (some ⟨N, 0, c⟩) len n) v = some (.slice (some ⟨N, 0, c⟩) (len + es.length) n, m') ∧ St m0 m' (σ.set k (N, over l0 (len * e) (es.flatMap f))) ∧ m'.n = m.n := by
 obtain ⟨h1, h2, h3⟩ := st.get k hk
 have hfl := wi hf es
 have hmul : (len + es.length) * e ≤ n * e := qag _ hn
 rw [Nat.add_mul] at hmul
 have hoks : ∀ v ∈ es.flatMap f, okC v = true := fun v hv => by
  obtain ⟨x, hx, hv⟩ := List.mem_flatMap.1 hv
  exact hok x v hv
 obtain ⟨s1, s2, s3, s4, s5, s6⟩ := wV (o := len * e) (l := es.flatMap f) h3 (by omega) hoks
 refine ⟨js m N (len * e) (es.flatMap f), ?_, st.put' k hk s3 s4 (s6 (by have := st.base; have := st.ext.base; have := st.ext.n; omega)) s5 s2, s3⟩
 show ob (lenV v) _ = _
 rw [h.lenV, qD]
 show ob (wG m e es.length v) _ = _
 rw [h.all, qD]
 unfold yt
 rw [qa4 hn]
 show ob (wF m ⟨N, 0 + len * e, none⟩ (es.flatMap f)) _ = _
 rw [Nat.zero_add, s1]; rfl
end
end Go.Dx
namespace Go.Sx
open Go.Dx Go.Proofs
theorem Bp (n : Nat) (q : Nat) (m : M) (hq : q * 16 ≤ most) : (ex Try.prog (n + 1)).f 90 [.slice none 0 0, iv q] m = if q = 0 then some (.slice none 0 0, m) else some (.slice (some ⟨m.n, 0, some 4⟩) 0 q, Dx.newRow m (rep q [.int .i64 0, .int .i64 0])) := by
 have hq2 : q ≤ 4611686018427387904 := by unfold most at hq; omega
 have H : Dx.Call (ex Try.prog (n + 1)) 90 [.slice none 0 0, iv q] m fun v m' => (v, m') = if q = 0 then (.slice none 0 0, m) else (.slice (some ⟨m.n, 0, some 4⟩) 0 q, Dx.newRow m (rep q [.int .i64 0, .int .i64 0])) := by
  refine qv dg5_ok (by simp) ?_
  have hn0 : ((q : Int) < 0) = False := eq_false (by omega)
  have w0 : IntKind.i64.wrap 0 = 0 := rfl
  have wq : IntKind.i64.wrap ((q : Int) - 0) = (q : Int) := by rw [Int.sub_zero]; exact wrap64 _ (by omega) (by omega)
  have wq' : IntKind.i64.wrap (q : Int) = (q : Int) := wrap64 _ (by omega) (by omega)
  have hcap : capV (.slice none 0 0) = some (iv 0) := rfl
  have hlen : kG (.slice none 0 0) = some (iv 0) := rfl
  have hsl : slV 2 none (some (iv 0)) none (.slice none 0 0) = some (.slice none 0 0) := rfl
  by_cases hz : q = 0
  ·subst hz
   simp [hcap, hlen, w0]
   exact qH (Ext.refl m) (by simp)
  ·have hpos : (0 < (q : Int)) = True := eq_true (by omega)
   have hpos' : (0 < q) = True := eq_true (by omega)
   have hap : xp m 2 16 [.int .i64 0, .int .i64 0] (.slice none 0 0) (.int .i64 (q : Int)) = some (.slice (some ⟨m.n, 0, some 4⟩) q q, Dx.newRow m (rep q [.int .i64 0, .int .i64 0])) := by
    show (bif Nat.blt 0 q && Nat.ble (q * 16) most && Nat.ble q 4611686018427387904 then some (Value.slice (some ⟨m.n, 0, some (code 2 false)⟩) q q, Dx.newRow m (rep q [.int .i64 0, .int .i64 0])) else none) = _
    have h1 : Nat.blt 0 q = true := by rw [Nat.blt_eq]; omega
    rw [h1, qa4 hq, qa4 hq2]; rfl
   have hs2 : slV 2 none (some (iv 0)) none (.slice (some ⟨m.n, 0, some 4⟩) q q) = some (.slice (some ⟨m.n, 0, some 4⟩) 0 q) := rfl
   simp [hn0, hcap, hlen, w0, wq, wq', hpos, hpos', hsl, hap, hs2]
   refine qH (Ext.row _ _) ?_
   simp [hz]
 obtain ⟨v, m', h1, _, h3⟩ := H
 rw [h1]
 by_cases hz : q = 0
 ·rw [if_pos hz] at h3 ⊢; rw [h3]
 ·rw [if_neg hz] at h3 ⊢; rw [h3]
theorem XQ (n : Nat) (arg v1 v2 : Value) (l1 l2 : List (Int × Int)) (m : M) (hm : m.base ≤ m.n) (hb : (l1.length + l2.length) * 16 ≤ most) (harg : Rd m arg 1 (fun v : Value => [v]) [v1, v2]) (h1 : Rd m v1 2 edgeRow l1) (h2 : Rd m v2 2 edgeRow l2) :
  Dx.Call (ex Try.prog (n + 2)) 79 [arg] m fun v m' => Grown m m' v 2 edgeRow (l1 ++ l2) := by
 suffices H : ∀ Q : Value → M → Prop, (∀ v m', Grown m m' v 2 edgeRow (l1 ++ l2) → Q v m') → Dx.Call (ex Try.prog (n + 2)) 79 [arg] m Q from H _ fun _ _ h => h
 intro Q hQ
 refine qv df6_ok (by simp) ?_
 have hq2 : l1.length + l2.length ≤ 4611686018427387904 := by unfold most at hb; omega
 have hal : kG arg = some (iv 2) := harg.len
 have S0 := Sees.refl hm
 have ⟨x0, y0⟩ := Rd.at1 (g := fun (v : Value) => v) (i := 0) (r := v1) harg rfl
 have ⟨x1, y1⟩ := Rd.at1 (g := fun (v : Value) => v) (i := 1) (r := v2) harg rfl
 have x0' : wX 1 arg (.int .i64 0) = some (.pointer (some (adr 1 arg 0))) := x0
 have x1' : wX 1 arg (.int .i64 1) = some (.pointer (some (adr 1 arg 1))) := x1
 have k1 := h1.len
 have k2 := h2.len
 obtain ⟨a, ha⟩ := qaj (l1.length)
 obtain ⟨b, hb'⟩ := qaj (l2.length)
 rw [← ha] at k1 hb hq2
 rw [← hb'] at k2 hb hq2
 have wa : IntKind.i64.wrap (a : Int) = (a : Int) := wrap64 _ (by omega) (by omega)
 have wab : IntKind.i64.wrap ((a : Int) + (b : Int)) = ((a + b : Nat) : Int) := by rw [wrap64 _ (by omega) (by omega)]; omega
 have na : ((a : Int) < 0) = False := eq_false (by omega)
 have nab : (((a + b : Nat) : Int) < 0) = False := eq_false (by omega)
 obtain ⟨s, hs⟩ := qaj (a + b)
 rw [← hs] at wab nab
 have w01 : IntKind.i64.wrap 1 = 1 := rfl
 have w11 : IntKind.i64.wrap 2 = 2 := rfl
 simp [hal]
 refine qm (c := YV) rfl (Ret m Q) (fun i t m' => m' = m ∧ Tm.get 0 t = arg ∧ Tm.get 9 t = arg ∧ Tm.get 10 t = iv 2 ∧ Tm.get 11 t = iv i ∧ Tm.get 3 t = iv ((if i = 0 then 0 else if i = 1 then a else s : Nat) : Int)) 2 (by omega)
  ⟨rfl, by simp, by simp, by simp, by simp, by simp⟩ (fun i t m' k hi hI hk => ?_)
 obtain ⟨rfl, t0, t9, t10, t11, t3⟩ := hI
 have y0' := y0 m' S0
 have y1' := y1 m' S0
 by_cases h0 : i = 0
 ·subst h0
  have t3' : Tm.get 3 t = iv 0 := t3
  have t11' : Tm.get 11 t = iv 0 := t11
  simp [t0, t3', t9, t10, t11', x0', y0', k1, wa, na, w01]
  exact hk (by omega) _ _ ⟨rfl, by simp [t0], by simp [t9], by simp [t10], by simp, by simp⟩
 by_cases h1' : i = 1
 ·subst h1'
  have t3' : Tm.get 3 t = iv a := t3
  have t11' : Tm.get 11 t = iv 1 := t11
  simp [t0, t3', t9, t10, t11', x1', y1', k2, wab, nab, w11]
  exact hk (by omega) _ _ ⟨rfl, by simp [t0], by simp [t9], by simp [t10], by simp, by simp⟩
 obtain rfl : i = 2 := by omega
 have t3' : Tm.get 3 t = iv s := t3
 have t11' : Tm.get 11 t = iv 2 := t11
 have hg := Bp n s m' (by rw [hs]; exact hb)
 by_cases hz : s = 0
 ·rw [if_pos hz] at hg
  have ha0 : a = 0 := by omega
  have hb0 : b = 0 := by omega
  have e1 : l1 = [] := qad (by omega)
  have e2 : l2 = [] := qad (by omega)
  have p1 : qX m' 2 16 (.slice none 0 0) v1 = some (.slice none 0 0, m') := by
   show ob (lenV v1) _ = _
   rw [h1.lenV, qD, e1]
   show ob (wG m' 2 0 v1) _ = _
   have := h1.all
   rw [e1] at this
   rw [show (0 : Nat) = ([] : List (Int × Int)).length from rfl, this]; rfl
  have p2 : qX m' 2 16 (.slice none 0 0) v2 = some (.slice none 0 0, m') := by
   show ob (lenV v2) _ = _
   rw [h2.lenV, qD, e2]
   show ob (wG m' 2 0 v2) _ = _
   have := h2.all
   rw [e2] at this
   rw [show (0 : Nat) = ([] : List (Int × Int)).length from rfl, this]; rfl
  simp [t0, t3', t9, t10, t11', hal, hg]
  refine qm (c := ZT) rfl (Ret m' Q) (fun i t m'' => m'' = m' ∧ Tm.get 6 t = .slice none 0 0 ∧ Tm.get 25 t = arg ∧ Tm.get 26 t = iv 2 ∧ Tm.get 27 t = iv i) 2 (by omega)
   ⟨rfl, by simp, by simp [t0], by simp, by simp⟩ (fun i t m'' k hi hI hk => ?_)
  obtain ⟨rfl, t6, t25, t26, t27⟩ := hI
  by_cases h0 : i = 0
  ·subst h0
   have t27' : Tm.get 27 t = iv 0 := t27
   simp [t6, t25, t26, t27', x0', y0', p1, w01]
   exact hk (by omega) _ _ ⟨rfl, by simp, by simp [t25], by simp [t26], by simp⟩
  by_cases h1' : i = 1
  ·subst h1'
   have t27' : Tm.get 27 t = iv 1 := t27
   simp [t6, t25, t26, t27', x1', y1', p2, w11]
   exact hk (by omega) _ _ ⟨rfl, by simp, by simp [t25], by simp [t26], by simp⟩
  obtain rfl : i = 2 := by omega
  have t27' : Tm.get 27 t = iv 2 := t27
  simp [t6, t25, t26, t27']
  refine qH (Ext.refl _) (hQ _ _ ?_)
  rw [e1, e2]
  simp
  exact .nil
 ·rw [if_neg hz] at hg
  obtain ⟨m1, hm1⟩ := qaj (Dx.newRow m' (rep s [.int .i64 0, .int .i64 0]))
  rw [← hm1] at hg
  have st0 : St m' m1 [(m'.n, rep s [.int .i64 0, .int .i64 0])] := by
   have := (St.nil hm (Ext.refl m')).row (rep s [.int .i64 0, .int .i64 0])
   rw [← hm1] at this; exact this
  have hrl : (rep s [.int .i64 0, .int .i64 0]).length = s * 2 := by
   rw [dy]; exact zj fun _ => rfl
  have hok : ∀ x, ∀ v ∈ edgeRow x, okC v = true := by simp [edgeRow, okC]
  have hR1 := h1.sees st0.sees
  obtain ⟨m2, p1, st1, p3⟩ := yM st0 0 rfl (c := some 4) (len := 0) (n := s) (bytes := 16) hR1 (fun _ => rfl) hok (by omega) hrl
  have hR2 := h2.sees st1.sees
  have hfl1 : (l1.flatMap edgeRow).length = a * 2 := by rw [ha]; exact wi (f := edgeRow) (e := 2) (fun _ => rfl) l1
  have hov1 : over (rep s [.int .i64 0, .int .i64 0]) (0 * 2) (l1.flatMap edgeRow) = l1.flatMap edgeRow ++ (rep s [.int .i64 0, .int .i64 0]).drop (a * 2) := by
   have := dq (l1.flatMap edgeRow) (rep s [.int .i64 0, .int .i64 0]) [] (by rw [hfl1, hrl]; exact qag _ (by omega))
   rw [hfl1] at this
   simpa using this
  rw [hov1] at st1
  have hst1l : (l1.flatMap edgeRow ++ (rep s [.int .i64 0, .int .i64 0]).drop (a * 2)).length = s * 2 := by
   rw [qa6, hfl1, List.length_drop, hrl]
   have := qag 2 (show a ≤ s by omega)
   omega
  rw [← ha, Nat.zero_add] at p1
  obtain ⟨m3, p4, st2, p6⟩ := yM st1 0 rfl (c := some 4) (len := a) (n := s) (bytes := 16) hR2 (fun _ => rfl) hok (by omega) hst1l
  have hfl2 : (l2.flatMap edgeRow).length = b * 2 := by rw [hb']; exact wi (f := edgeRow) (e := 2) (fun _ => rfl) l2
  have hov2 : over (l1.flatMap edgeRow ++ (rep s [.int .i64 0, .int .i64 0]).drop (a * 2)) (a * 2) (l2.flatMap edgeRow) = (l1 ++ l2).flatMap edgeRow := by
   have hdl : ((rep s [.int .i64 0, .int .i64 0]).drop (a * 2)).length = b * 2 := by rw [List.length_drop, hrl, hs, Nat.add_mul]; omega
   have := fq (l2.flatMap edgeRow) ((rep s [.int .i64 0, .int .i64 0]).drop (a * 2)) (l1.flatMap edgeRow) (by rw [hdl, hfl2])
   rw [hfl1] at this
   rw [this, List.flatMap_append]
  rw [hov2] at st2
  rw [← hb', ← hs] at p4
  have y0'' := y0 m1 st0.sees
  have y1'' := y1 m2 st1.sees
  simp [t0, t3', t9, t10, t11', hal, hg]
  refine qm (c := ZT) rfl (Ret m' Q) (fun i t m'' => Tm.get 25 t = arg ∧ Tm.get 26 t = iv 2 ∧ Tm.get 27 t = iv i ∧ ((i = 0 ∧ m'' = m1 ∧ Tm.get 6 t = .slice (some ⟨m'.n, 0, some 4⟩) 0 s) ∨ (i = 1 ∧ m'' = m2 ∧ Tm.get 6 t = .slice (some ⟨m'.n, 0, some 4⟩) a s) ∨ (i = 2 ∧ m'' = m3 ∧ Tm.get 6 t = .slice (some ⟨m'.n, 0, some 4⟩) s s))) 2 (by omega)
   ⟨by simp [t0], by simp, by simp, .inl ⟨rfl, rfl, by simp⟩⟩ (fun i t m'' k hi hI hk => ?_)
  obtain ⟨t25, t26, t27, hc⟩ := hI
  rcases hc with ⟨rfl, rfl, t6⟩ | ⟨rfl, rfl, t6⟩ | ⟨rfl, rfl, t6⟩
  ·have t27' : Tm.get 27 t = iv 0 := t27
   simp [t6, t25, t26, t27', x0', y0'', p1, w01]
   exact hk (by omega) _ _ ⟨by simp [t25], by simp [t26], by simp, .inr (.inl ⟨rfl, rfl, by simp⟩)⟩
  ·have t27' : Tm.get 27 t = iv 1 := t27
   simp [t6, t25, t26, t27', x1', y1'', p4, w11]
   exact hk (by omega) _ _ ⟨by simp [t25], by simp [t26], by simp, .inr (.inr ⟨rfl, rfl, by simp⟩)⟩
  ·have t27' : Tm.get 27 t = iv 2 := t27
   simp [t6, t25, t26, t27']
   refine qH st2.ext (hQ _ _ ?_)
   obtain ⟨q1, q2, q3⟩ := st2.get 0 rfl
   refine .inr ⟨m'.n, q1, q2, ?_, ?_, q3⟩
   ·intro hnil
    have h5 : (l1 ++ l2).length = s := by rw [qa6, ← ha, ← hb', hs]
    rw [hnil] at h5
    exact hz h5.symm
   ·simp [ha, hb', hs, code]
theorem Bq (n : Nat) (q : Nat) (m : M) (hq : q * 8 ≤ most) : (ex Try.prog (n + 1)).f 91 [.slice none 0 0, iv q] m = if q = 0 then some (.slice none 0 0, m) else some (.slice (some ⟨m.n, 0, some 2⟩) 0 q, Dx.newRow m (rep q [.int .i64 0])) := by
 have hq2 : q ≤ 4611686018427387904 := by unfold most at hq; omega
 have H : Dx.Call (ex Try.prog (n + 1)) 91 [.slice none 0 0, iv q] m fun v m' => (v, m') = if q = 0 then (.slice none 0 0, m) else (.slice (some ⟨m.n, 0, some 2⟩) 0 q, Dx.newRow m (rep q [.int .i64 0])) := by
  refine qv dg6_ok (by simp) ?_
  have hn0 : ((q : Int) < 0) = False := eq_false (by omega)
  have w0 : IntKind.i64.wrap 0 = 0 := rfl
  have wq : IntKind.i64.wrap ((q : Int) - 0) = (q : Int) := by rw [Int.sub_zero]; exact wrap64 _ (by omega) (by omega)
  have wq' : IntKind.i64.wrap (q : Int) = (q : Int) := wrap64 _ (by omega) (by omega)
  have hcap : capV (.slice none 0 0) = some (iv 0) := rfl
  have hlen : kG (.slice none 0 0) = some (iv 0) := rfl
  have hsl : slV 1 none (some (iv 0)) none (.slice none 0 0) = some (.slice none 0 0) := rfl
  by_cases hz : q = 0
  ·subst hz
   simp [hcap, hlen, w0]
   exact qH (Ext.refl m) (by simp)
  ·have hpos : (0 < (q : Int)) = True := eq_true (by omega)
   have hpos' : (0 < q) = True := eq_true (by omega)
   have hap : xp m 1 8 [.int .i64 0] (.slice none 0 0) (.int .i64 (q : Int)) = some (.slice (some ⟨m.n, 0, some 2⟩) q q, Dx.newRow m (rep q [.int .i64 0])) := by
    show (bif Nat.blt 0 q && Nat.ble (q * 8) most && Nat.ble q 4611686018427387904 then some (Value.slice (some ⟨m.n, 0, some (code 1 false)⟩) q q, Dx.newRow m (rep q [.int .i64 0])) else none) = _
    have h1 : Nat.blt 0 q = true := by rw [Nat.blt_eq]; omega
    rw [h1, qa4 hq, qa4 hq2]; rfl
   have hs2 : slV 1 none (some (iv 0)) none (.slice (some ⟨m.n, 0, some 2⟩) q q) = some (.slice (some ⟨m.n, 0, some 2⟩) 0 q) := rfl
   simp [hn0, hcap, hlen, w0, wq, wq', hpos, hpos', hsl, hap, hs2]
   refine qH (Ext.row _ _) ?_
   simp [hz]
 obtain ⟨v, m', h1, _, h3⟩ := H
 rw [h1]
 by_cases hz : q = 0
 ·rw [if_pos hz] at h3 ⊢; rw [h3]
 ·rw [if_neg hz] at h3 ⊢; rw [h3]
theorem XR (n : Nat) (arg v1 v2 : Value) (l1 l2 : List Int) (m : M) (hm : m.base ≤ m.n) (hb : (l1.length + l2.length) * 8 ≤ most) (harg : Rd m arg 1 (fun v : Value => [v]) [v1, v2]) (h1 : Rd m v1 1 modeRow l1) (h2 : Rd m v2 1 modeRow l2) :
  Dx.Call (ex Try.prog (n + 2)) 80 [arg] m fun v m' => Grown m m' v 1 modeRow (l1 ++ l2) := by
 suffices H : ∀ Q : Value → M → Prop, (∀ v m', Grown m m' v 1 modeRow (l1 ++ l2) → Q v m') → Dx.Call (ex Try.prog (n + 2)) 80 [arg] m Q from H _ fun _ _ h => h
 intro Q hQ
 refine qv df7_ok (by simp) ?_
 have hq2 : l1.length + l2.length ≤ 4611686018427387904 := by unfold most at hb; omega
 have hal : kG arg = some (iv 2) := harg.len
 have S0 := Sees.refl hm
 have ⟨x0, y0⟩ := Rd.at1 (g := fun (v : Value) => v) (i := 0) (r := v1) harg rfl
 have ⟨x1, y1⟩ := Rd.at1 (g := fun (v : Value) => v) (i := 1) (r := v2) harg rfl
 have x0' : wX 1 arg (.int .i64 0) = some (.pointer (some (adr 1 arg 0))) := x0
 have x1' : wX 1 arg (.int .i64 1) = some (.pointer (some (adr 1 arg 1))) := x1
 have k1 := h1.len
 have k2 := h2.len
 obtain ⟨a, ha⟩ := qaj (l1.length)
 obtain ⟨b, hb'⟩ := qaj (l2.length)
 rw [← ha] at k1 hb hq2
 rw [← hb'] at k2 hb hq2
 have wa : IntKind.i64.wrap (a : Int) = (a : Int) := wrap64 _ (by omega) (by omega)
 have wab : IntKind.i64.wrap ((a : Int) + (b : Int)) = ((a + b : Nat) : Int) := by rw [wrap64 _ (by omega) (by omega)]; omega
 have na : ((a : Int) < 0) = False := eq_false (by omega)
 have nab : (((a + b : Nat) : Int) < 0) = False := eq_false (by omega)
 obtain ⟨s, hs⟩ := qaj (a + b)
 rw [← hs] at wab nab
 have w01 : IntKind.i64.wrap 1 = 1 := rfl
 have w11 : IntKind.i64.wrap 2 = 2 := rfl
 simp [hal]
 refine qm (c := YW) rfl (Ret m Q) (fun i t m' => m' = m ∧ Tm.get 0 t = arg ∧ Tm.get 9 t = arg ∧ Tm.get 10 t = iv 2 ∧ Tm.get 11 t = iv i ∧ Tm.get 3 t = iv ((if i = 0 then 0 else if i = 1 then a else s : Nat) : Int)) 2 (by omega)
  ⟨rfl, by simp, by simp, by simp, by simp, by simp⟩ (fun i t m' k hi hI hk => ?_)
 obtain ⟨rfl, t0, t9, t10, t11, t3⟩ := hI
 have y0' := y0 m' S0
 have y1' := y1 m' S0
 by_cases h0 : i = 0
 ·subst h0
  have t3' : Tm.get 3 t = iv 0 := t3
  have t11' : Tm.get 11 t = iv 0 := t11
  simp [t0, t3', t9, t10, t11', x0', y0', k1, wa, na, w01]
  exact hk (by omega) _ _ ⟨rfl, by simp [t0], by simp [t9], by simp [t10], by simp, by simp⟩
 by_cases h1' : i = 1
 ·subst h1'
  have t3' : Tm.get 3 t = iv a := t3
  have t11' : Tm.get 11 t = iv 1 := t11
  simp [t0, t3', t9, t10, t11', x1', y1', k2, wab, nab, w11]
  exact hk (by omega) _ _ ⟨rfl, by simp [t0], by simp [t9], by simp [t10], by simp, by simp⟩
 obtain rfl : i = 2 := by omega
 have t3' : Tm.get 3 t = iv s := t3
 have t11' : Tm.get 11 t = iv 2 := t11
 have hg := Bq n s m' (by rw [hs]; exact hb)
 by_cases hz : s = 0
 ·rw [if_pos hz] at hg
  have ha0 : a = 0 := by omega
  have hb0 : b = 0 := by omega
  have e1 : l1 = [] := qad (by omega)
  have e2 : l2 = [] := qad (by omega)
  have p1 : qX m' 1 8 (.slice none 0 0) v1 = some (.slice none 0 0, m') := by
   show ob (lenV v1) _ = _
   rw [h1.lenV, qD, e1]
   show ob (wG m' 1 0 v1) _ = _
   have := h1.all
   rw [e1] at this
   rw [show (0 : Nat) = ([] : List Int).length from rfl, this]; rfl
  have p2 : qX m' 1 8 (.slice none 0 0) v2 = some (.slice none 0 0, m') := by
   show ob (lenV v2) _ = _
   rw [h2.lenV, qD, e2]
   show ob (wG m' 1 0 v2) _ = _
   have := h2.all
   rw [e2] at this
   rw [show (0 : Nat) = ([] : List Int).length from rfl, this]; rfl
  simp [t0, t3', t9, t10, t11', hal, hg]
  refine qm (c := ZU) rfl (Ret m' Q) (fun i t m'' => m'' = m' ∧ Tm.get 6 t = .slice none 0 0 ∧ Tm.get 25 t = arg ∧ Tm.get 26 t = iv 2 ∧ Tm.get 27 t = iv i) 2 (by omega)
   ⟨rfl, by simp, by simp [t0], by simp, by simp⟩ (fun i t m'' k hi hI hk => ?_)
  obtain ⟨rfl, t6, t25, t26, t27⟩ := hI
  by_cases h0 : i = 0
  ·subst h0
   have t27' : Tm.get 27 t = iv 0 := t27
   simp [t6, t25, t26, t27', x0', y0', p1, w01]
   exact hk (by omega) _ _ ⟨rfl, by simp, by simp [t25], by simp [t26], by simp⟩
  by_cases h1' : i = 1
  ·subst h1'
   have t27' : Tm.get 27 t = iv 1 := t27
   simp [t6, t25, t26, t27', x1', y1', p2, w11]
   exact hk (by omega) _ _ ⟨rfl, by simp, by simp [t25], by simp [t26], by simp⟩
  obtain rfl : i = 2 := by omega
  have t27' : Tm.get 27 t = iv 2 := t27
  simp [t6, t25, t26, t27']
  refine qH (Ext.refl _) (hQ _ _ ?_)
  rw [e1, e2]
  simp
  exact .nil
 ·rw [if_neg hz] at hg
  obtain ⟨m1, hm1⟩ := qaj (Dx.newRow m' (rep s [.int .i64 0]))
  rw [← hm1] at hg
  have st0 : St m' m1 [(m'.n, rep s [.int .i64 0])] := by
   have := (St.nil hm (Ext.refl m')).row (rep s [.int .i64 0])
   rw [← hm1] at this; exact this
  have hrl : (rep s [.int .i64 0]).length = s * 1 := by
   rw [dy]; exact zj fun _ => rfl
  have hok : ∀ x, ∀ v ∈ modeRow x, okC v = true := by simp [modeRow, okC]
  have hR1 := h1.sees st0.sees
  obtain ⟨m2, p1, st1, p3⟩ := yM st0 0 rfl (c := some 2) (len := 0) (n := s) (bytes := 8) hR1 (fun _ => rfl) hok (by omega) hrl
  have hR2 := h2.sees st1.sees
  have hfl1 : (l1.flatMap modeRow).length = a * 1 := by rw [ha]; exact wi (f := modeRow) (e := 1) (fun _ => rfl) l1
  have hov1 : over (rep s [.int .i64 0]) (0 * 1) (l1.flatMap modeRow) = l1.flatMap modeRow ++ (rep s [.int .i64 0]).drop (a * 1) := by
   have := dq (l1.flatMap modeRow) (rep s [.int .i64 0]) [] (by rw [hfl1, hrl]; exact qag _ (by omega))
   rw [hfl1] at this
   simpa using this
  rw [hov1] at st1
  have hst1l : (l1.flatMap modeRow ++ (rep s [.int .i64 0]).drop (a * 1)).length = s * 1 := by
   rw [qa6, hfl1, List.length_drop, hrl]
   have := qag 1 (show a ≤ s by omega)
   omega
  rw [← ha, Nat.zero_add] at p1
  obtain ⟨m3, p4, st2, p6⟩ := yM st1 0 rfl (c := some 2) (len := a) (n := s) (bytes := 8) hR2 (fun _ => rfl) hok (by omega) hst1l
  have hfl2 : (l2.flatMap modeRow).length = b * 1 := by rw [hb']; exact wi (f := modeRow) (e := 1) (fun _ => rfl) l2
  have hov2 : over (l1.flatMap modeRow ++ (rep s [.int .i64 0]).drop (a * 1)) (a * 1) (l2.flatMap modeRow) = (l1 ++ l2).flatMap modeRow := by
   have hdl : ((rep s [.int .i64 0]).drop (a * 1)).length = b * 1 := by rw [List.length_drop, hrl, hs, Nat.add_mul]; omega
   have := fq (l2.flatMap modeRow) ((rep s [.int .i64 0]).drop (a * 1)) (l1.flatMap modeRow) (by rw [hdl, hfl2])
   rw [hfl1] at this
   rw [this, List.flatMap_append]
  rw [hov2] at st2
  rw [← hb', ← hs] at p4
  have y0'' := y0 m1 st0.sees
  have y1'' := y1 m2 st1.sees
  simp [t0, t3', t9, t10, t11', hal, hg]
  refine qm (c := ZU) rfl (Ret m' Q) (fun i t m'' => Tm.get 25 t = arg ∧ Tm.get 26 t = iv 2 ∧ Tm.get 27 t = iv i ∧ ((i = 0 ∧ m'' = m1 ∧ Tm.get 6 t = .slice (some ⟨m'.n, 0, some 2⟩) 0 s) ∨ (i = 1 ∧ m'' = m2 ∧ Tm.get 6 t = .slice (some ⟨m'.n, 0, some 2⟩) a s) ∨ (i = 2 ∧ m'' = m3 ∧ Tm.get 6 t = .slice (some ⟨m'.n, 0, some 2⟩) s s))) 2 (by omega)
   ⟨by simp [t0], by simp, by simp, .inl ⟨rfl, rfl, by simp⟩⟩ (fun i t m'' k hi hI hk => ?_)
  obtain ⟨t25, t26, t27, hc⟩ := hI
  rcases hc with ⟨rfl, rfl, t6⟩ | ⟨rfl, rfl, t6⟩ | ⟨rfl, rfl, t6⟩
  ·have t27' : Tm.get 27 t = iv 0 := t27
   simp [t6, t25, t26, t27', x0', y0'', p1, w01]
   exact hk (by omega) _ _ ⟨by simp [t25], by simp [t26], by simp, .inr (.inl ⟨rfl, rfl, by simp⟩)⟩
  ·have t27' : Tm.get 27 t = iv 1 := t27
   simp [t6, t25, t26, t27', x1', y1'', p4, w11]
   exact hk (by omega) _ _ ⟨by simp [t25], by simp [t26], by simp, .inr (.inr ⟨rfl, rfl, by simp⟩)⟩
  ·have t27' : Tm.get 27 t = iv 2 := t27
   simp [t6, t25, t26, t27']
   refine qH st2.ext (hQ _ _ ?_)
   obtain ⟨q1, q2, q3⟩ := st2.get 0 rfl
   refine .inr ⟨m'.n, q1, q2, ?_, ?_, q3⟩
   ·intro hnil
    have h5 : (l1 ++ l2).length = s := by rw [qa6, ← ha, ← hb', hs]
    rw [hnil] at h5
    exact hz h5.symm
   ·simp [ha, hb', hs, code]
end Go.Sx
namespace Go.Dx
theorem Qm {c : C} : ∀ {a b o : Nat} {l : List Value}, ldn c o (a + b) = some l → ldn c o a = some (l.take a) ∧ ldn c (o + a) b = some (l.drop a)
 | 0, b, o, l, h => by rw [Nat.zero_add] at h; exact ⟨rfl, h⟩
 | a + 1, b, o, l, h => by
  rw [show a + 1 + b = a + b + 1 by omega, jS] at h
  obtain ⟨v, hv, h⟩ := qb h
  obtain ⟨t, ht, h⟩ := qb h
  have hl : l = v :: t := by unfold Xb at h; cases h; rfl
  subst hl
  obtain ⟨h1, h2⟩ := Qm ht
  refine ⟨?_, ?_⟩
  ·rw [jS, hv]; show ob (ldn c (o + 1) a) _ = _; rw [h1]; rfl
  ·rw [show o + (a + 1) = o + 1 + a by omega, h2]; rfl
theorem gN {m : M} {B o a b : Nat} {s : Option Nat} {l : List Value} (h : loads m ⟨B, o, s⟩ (a + b) = some l) : loads m ⟨B, o, s⟩ a = some (l.take a) ∧ loads m ⟨B, o + a, s⟩ b = some (l.drop a) := by
 unfold loads at h ⊢
 obtain ⟨c, hc, h⟩ := qb h
 simp only at hc
 rw [hc]
 exact Qm h
section
variable {α : Type} {m : M} {v : Value} {e : Nat} {f : α → List Value} {l : List α}
theorem Rd.drop (h : Rd m v e f l) (hs : Sp e v) (hf : ∀ x, (f x).length = e) {k : Nat} (hk : k ≤ l.length) : ∃ a n c, slV e (some (.int .i64 (k : Int))) none none v = some (.slice a n c) ∧ Rd m (.slice a n c) e f (l.drop k) := by
 rcases hs with rfl | ⟨B, o, n, c, x, rfl, hnc⟩
 ·have hl : l.length = 0 := by have := h.len; simp [kG] at this; omega
  have hk0 : k = 0 := by omega
  have hl' : l = [] := qad hl
  subst hk0; subst hl'
  exact ⟨none, 0, 0, rfl, h⟩
 ·have hn : n = l.length := by have := h.len; simp [kG] at this; omega
  have hdl : (l.drop k).length = n - k := by rw [List.length_drop, hn]
  have hfl := wi hf l
  have hall : loads m ⟨B, o, some (code e x)⟩ (l.length * e) = some (l.flatMap f) := h.all
  have hsplit : l.length * e = k * e + (l.drop k).length * e := by rw [hdl, hn, ← Nat.add_mul]; congr 1; omega
  have hdrop : (l.flatMap f).drop (k * e) = (l.drop k).flatMap f := by
   have hl2 : l = l.take k ++ l.drop k := (List.take_append_drop k l).symm
   have hlt := wi hf (l.take k)
   rw [List.length_take, Nat.min_eq_left hk] at hlt
   conv => lhs; rw [hl2, List.flatMap_append]
   rw [List.drop_append_of_le_length (by omega), ← hlt, List.drop_length, List.nil_append]
  rw [hsplit] at hall
  obtain ⟨h1, h2⟩ := gN hall
  rw [hdrop] at h2
  have hb : yP n c (some (.int .i64 (k : Int))) none none = some (k, n, c) := by
   show ob (fO (some (.int .i64 (k : Int))) 0 n) _ = _
   show ob (bif Nat.ble k n then some k else none) _ = _
   rw [qa4 (by omega)]; rfl
  have hcd : Nat.beq (code e x / 2) e = true := by
   have : code e x / 2 = e := by
    cases x
    ·show (2 * e) / 2 = e; omega
    ·show (2 * e + 1) / 2 = e; omega
   rw [this, Nat.beq_refl]
  have hex : xB (code e x) = x := by
   cases x
   ·show Nat.beq ((2 * e) % 2) 1 = false
    rw [show (2 * e) % 2 = 0 by omega]; rfl
   ·show Nat.beq ((2 * e + 1) % 2) 1 = true
    rw [show (2 * e + 1) % 2 = 1 by omega]; rfl
  have hsl : slV e (some (.int .i64 (k : Int))) none none (.slice (some ⟨B, o, some (code e x)⟩) n c) = some (.slice (some ⟨B, bif x && Nat.beq c k then o else o + k * e, some (code e x)⟩) (n - k) (c - k)) := by
   unfold slV
   simp only [qD, hb, hcd, hex, Option.isSome_none, Bool.or_false]
   rfl
  refine ⟨_, _, _, hsl, ⟨by rw [hdl]; rfl, fun i r hr => ?_, ?_, fun C hC => by cases hC; exact h.lt _ rfl⟩⟩
  ·have hi : i < (l.drop k).length := (DY.1 hr).1
   rw [List.getElem?_drop] at hr
   have hck : (x && Nat.beq c k) = false := by
    cases q : Nat.beq c k with
    | false => simp
    | true => have := qa9 q; omega
   rw [hck]
   obtain ⟨g1, g2, g3⟩ := h.row (k + i) r hr
   refine ⟨?_, g2, ?_⟩
   ·show (bif Nat.blt i (n - k) then fK (i * e) _ else none) = _
    rw [show Nat.blt i (n - k) = true from qa4 (by omega)]; rfl
   ·have e1 : adr e (.slice (some ⟨B, o, some (code e x)⟩) n c) (k + i) = ⟨B, o + (k + i) * e, none⟩ := rfl
    have e2 : adr e (.slice (some ⟨B, bif false then o else o + k * e, some (code e x)⟩) (n - k) (c - k)) i = ⟨B, o + k * e + i * e, none⟩ := rfl
    rw [e1] at g3
    rw [e2, ← g3, Nat.add_mul, Nat.add_assoc]
  ·show loads m ⟨B, bif x && Nat.beq c k then o else o + k * e, some (code e x)⟩ ((l.drop k).length * e) = _
   cases q : (x && Nat.beq c k) with
   | false => exact h2
   | true =>
    rw [qa2] at q
    have := qa9 q.2
    have h0 : l.drop k = [] := List.drop_eq_nil_of_le (by omega)
    rw [h0] at h2 ⊢
    unfold loads at h1 ⊢
    obtain ⟨cc, hcc, _⟩ := qb h1
    simp only at hcc
    show ob (cellsOf m B) _ = _
    rw [hcc]
    show ldn cc _ (0 * e) = _
    rw [Nat.zero_mul]; rfl
theorem Rd.take (h : Rd m v e f l) (hs : Sp e v) (hf : ∀ x, (f x).length = e) {k : Nat} (hk : k ≤ l.length) : ∃ a n c, slV e none (some (.int .i64 (k : Int))) none v = some (.slice a n c) ∧ Rd m (.slice a n c) e f (l.take k) := by
 rcases hs with rfl | ⟨B, o, n, c, x, rfl, hnc⟩
 ·have hl : l.length = 0 := by have := h.len; simp [kG] at this; omega
  have hk0 : k = 0 := by omega
  have hl' : l = [] := qad hl
  subst hk0; subst hl'
  exact ⟨none, 0, 0, rfl, h⟩
 ·have hn : n = l.length := by have := h.len; simp [kG] at this; omega
  have htl : (l.take k).length = k := by rw [List.length_take, Nat.min_eq_left hk]
  have hall : loads m ⟨B, o, some (code e x)⟩ (l.length * e) = some (l.flatMap f) := h.all
  have hsplit : l.length * e = k * e + (l.length - k) * e := by rw [← Nat.add_mul]; congr 1; omega
  have htake : (l.flatMap f).take (k * e) = (l.take k).flatMap f := by
   have hl2 : l = l.take k ++ l.drop k := (List.take_append_drop k l).symm
   have hlt := wi hf (l.take k)
   rw [htl] at hlt
   conv => lhs; rw [hl2, List.flatMap_append]
   rw [List.take_append_of_le_length (by omega), ← hlt, List.take_length]
  rw [hsplit] at hall
  obtain ⟨h1, h2⟩ := gN hall
  rw [htake] at h1
  have hcd : Nat.beq (code e x / 2) e = true := by
   have : code e x / 2 = e := by
    cases x
    ·show (2 * e) / 2 = e; omega
    ·show (2 * e + 1) / 2 = e; omega
   rw [this, Nat.beq_refl]
  have hex : xB (code e x) = x := by
   cases x
   ·show Nat.beq ((2 * e) % 2) 1 = false
    rw [show (2 * e) % 2 = 0 by omega]; rfl
   ·show Nat.beq ((2 * e + 1) % 2) 1 = true
    rw [show (2 * e + 1) % 2 = 1 by omega]; rfl
  have hb : yP n c none (some (.int .i64 (k : Int))) none = some (0, k, c) := by
   show ob (fO (some (.int .i64 (k : Int))) n c) _ = _
   show ob (bif Nat.ble k c then some k else none) _ = _
   rw [qa4 (by omega)]; rfl
  have hoff : (bif x && Nat.beq c 0 then o else o + 0 * e) = o := by cases (x && Nat.beq c 0) <;> simp
  have hsl : slV e none (some (.int .i64 (k : Int))) none (.slice (some ⟨B, o, some (code e x)⟩) n c) = some (.slice (some ⟨B, o, some (code e x)⟩) k c) := by
   unfold slV
   simp only [qD, hb, hcd, hex, Option.isSome_none, Bool.or_false]
   show some (Value.slice (some ⟨B, bif x && Nat.beq c 0 then o else o + 0 * e, some (code e x)⟩) (k - 0) (c - 0)) = _
   rw [hoff]; rfl
  refine ⟨_, _, _, hsl, ⟨by rw [htl]; rfl, fun i r hr => ?_, ?_, fun C hC => by cases hC; exact h.lt _ rfl⟩⟩
  ·have hi : i < (l.take k).length := (DY.1 hr).1
   rw [htl] at hi
   rw [List.getElem?_take, if_pos hi] at hr
   obtain ⟨g1, g2, g3⟩ := h.row i r hr
   refine ⟨?_, g2, g3⟩
   show (bif Nat.blt i k then fK (i * e) _ else none) = _
   rw [show Nat.blt i k = true from qa4 hi]; rfl
  ·show loads m ⟨B, o, some (code e x)⟩ ((l.take k).length * e) = _
   rw [htl]; exact h1
end
@[simp] theorem DD (m : M) (a b : Option Addr) (x y z w : Nat) : ko 1 2 (rep 2 [.slice none 0 0]) [(0, 1, .slice a x y), (1, 1, .slice b z w)] m = some (.slice (some ⟨m.n, 0, some 3⟩) 2 2, newRow m [.slice a x y, .slice b z w]) := _root_.id rfl
theorem dQ (x y : Value) (hx : okC x = true) (hy : okC y = true) : km [.slice none 0 0, .slice none 0 0] [(0, 1, x), (1, 1, y)] = some (.agg ⟨[x, y]⟩) := by
 cases x <;> first | (simp [okC] at hx; done) | (cases y <;> first | rfl | (simp [okC] at hy))
theorem QD {m0 m : M} {Q : Value → M → Prop} {t : Tm} {p n : Nat} {a : Addr} {l1 : List Value} (h1 : Tm.get p t = .pointer (some a)) (h2 : loads m a n = some l1) (he : Ext m0 m) (hq : Q (.agg ⟨l1⟩) m) :
  Ret m0 Q (zq [.cell p n] t m) := by
 refine vk (l := [.agg ⟨l1⟩]) ?_ he hq
 simp only [yj, vj, h1, xK, qD, h2]
end Go.Dx
namespace Go.Sx
open Go.Dx Go.Proofs
def wJ {α : Type} (k : Nat) (l : List α) : List α := l.drop k ++ l.take k
theorem GN (n : Nat) (ed md : Value) (es : List (Int × Int)) (ms : List Int) (m : M) (hm : m.base ≤ m.n) (hb16 : es.length * 16 ≤ most) (hb8 : ms.length * 8 ≤ most) (hed : Rd m ed 2 edgeRow es) (hmd : Rd m md 1 modeRow ms) (hse : Sp 2 ed) (hsm : Sp 1 md) (k : Nat) (hk : k ≤ es.length) (hk' : k ≤ ms.length) :
  Dx.Call (ex Try.prog (n + 3)) 58 [.agg #[ed, md], iv k] m fun v m' => ∃ v1 v2, v = .agg #[v1, v2] ∧ Grown m m' v1 2 edgeRow (wJ k es) ∧ Grown m m' v2 1 modeRow (wJ k ms) := by
 refine qv dd9_ok (by simp) ?_
 have st0 : St m m [] := St.nil hm (Ext.refl m)
 have st1 := (st0.row [ed, md]).row [.slice none 0 0, .slice none 0 0]
 simp only [qk] at st1
 obtain ⟨m1, hm1⟩ := qaj (Dx.newRow (Dx.newRow m [ed, md]) [.slice none 0 0, .slice none 0 0])
 rw [← hm1] at st1
 have l1 : ∀ o s, load1 m1 ⟨m.n, o, s⟩ = [ed, md][o]? := fun o s => (st1.get 1 rfl).2.2.load1 o s
 obtain ⟨a1, n1, c1, s1, r1⟩ := (hed.sees st1.sees).drop hse (fun _ => rfl) hk
 obtain ⟨a2, n2, c2, s2, r2⟩ := (hed.sees st1.sees).take hse (fun _ => rfl) hk
 have st2 := st1.row [.slice a1 n1 c1, .slice a2 n2 c2]
 obtain ⟨M2, hM2⟩ := qaj (Dx.newRow m1 [.slice a1 n1 c1, .slice a2 n2 c2])
 rw [← hM2] at st2
 have S12 : Sees m1 M2 := by rw [hM2]; exact st1.sees.self.ext (Ext.row _ _)
 have hA2 := (st2.get 0 rfl).2.2
 have hR2 : Rd M2 (.slice (some ⟨m1.n, 0, some 3⟩) 2 2) 1 (fun v : Value => [v]) [.slice a1 n1 c1, .slice a2 n2 c2] := zl (l := [Value.slice a1 n1 c1, .slice a2 n2 c2]) (f := fun v : Value => [v]) (e := 1) (c := 3) (fun _ => rfl) hA2 (st2.get 0 rfl).2.1
 obtain ⟨v3, m3', p1, p2, p3⟩ := XQ n _ _ _ (es.drop k) (es.take k) (qi M2) (qA st2.sees).base (by simp only [List.length_drop, List.length_take, Nat.min_eq_left hk]; rw [show es.length - k + k = es.length by omega]; exact hb16) (hR2.sees (qA st2.sees.self)) ((r1.sees S12).sees (qA st2.sees.self)) ((r2.sees S12).sees (qA st2.sees.self))
 have p4 : m3'.log = [] := by rw [p2.log, qE]
 obtain ⟨m3, hm3⟩ := qaj (behind M2 m3')
 have E3 : Ext M2 m3 := by rw [hm3]; exact p2.behind
 have st3 := st2.step E3
 have l3 : ∀ o s, load1 m3 ⟨m.n, o, s⟩ = [ed, md][o]? := fun o s => (st3.get 2 rfl).2.2.load1 o s
 have g3 : Grown M2 m3 v3 2 edgeRow (wJ k es) := by
  have : Grown M2 m3' v3 2 edgeRow (wJ k es) := p3.low (by rw [qw]; exact DZ _)
  rw [hm3]; exact this.keep (by rw [qY]; exact DZ _) fun B _ _ => qC _ _ _
 obtain ⟨a4, n4, c4, s4, r4⟩ := (hmd.sees st3.sees).drop hsm (fun _ => rfl) hk'
 obtain ⟨a5, n5, c5, s5, r5⟩ := (hmd.sees st3.sees).take hsm (fun _ => rfl) hk'
 have st4 := st3.row [.slice a4 n4 c4, .slice a5 n5 c5]
 obtain ⟨M4, hM4⟩ := qaj (Dx.newRow m3 [.slice a4 n4 c4, .slice a5 n5 c5])
 rw [← hM4] at st4
 have E34 : Ext m3 M4 := by rw [hM4]; exact Ext.row _ _
 have S34 : Sees m3 M4 := st3.sees.self.ext E34
 have hA4 := (st4.get 0 rfl).2.2
 have hR4 : Rd M4 (.slice (some ⟨m3.n, 0, some 3⟩) 2 2) 1 (fun v : Value => [v]) [.slice a4 n4 c4, .slice a5 n5 c5] := zl (l := [Value.slice a4 n4 c4, .slice a5 n5 c5]) (f := fun v : Value => [v]) (e := 1) (c := 3) (fun _ => rfl) hA4 (st4.get 0 rfl).2.1
 obtain ⟨v5, m5', q1, q2, q3⟩ := XR n _ _ _ (ms.drop k) (ms.take k) (qi M4) (qA st4.sees).base (by simp only [List.length_drop, List.length_take, Nat.min_eq_left hk']; rw [show ms.length - k + k = ms.length by omega]; exact hb8) (hR4.sees (qA st4.sees.self)) ((r4.sees S34).sees (qA st4.sees.self)) ((r5.sees S34).sees (qA st4.sees.self))
 have q4 : m5'.log = [] := by rw [q2.log, qE]
 obtain ⟨m5, hm5⟩ := qaj (behind M4 m5')
 have E5 : Ext M4 m5 := by rw [hm5]; exact q2.behind
 have st5 := st4.step E5
 have g5 : Grown M4 m5 v5 1 modeRow (wJ k ms) := by
  have : Grown M4 m5' v5 1 modeRow (wJ k ms) := q3.low (by rw [qw]; exact DZ _)
  rw [hm5]; exact this.keep (by rw [qY]; exact DZ _) fun B _ _ => qC _ _ _
 have hbc := dQ v3 v5 g3.okC g5.okC
 obtain ⟨m6', i1, i2, i3, i4, i5⟩ := st5.fillAny 2 rfl (n := 2) (l' := [v3, v5]) (by omega) rfl rfl (by simp [g3.okC, g5.okC])
 obtain ⟨m6, hm6⟩ := qaj (behind m5 m6')
 rw [← hm6] at i3 i4 i5
 simp [← hm1, l1, s1, s2, ← hM2, p1, p4, ← hm3, l3, s4, s5, ← hM4, q1, q4, ← hm5, hbc, i1]
 rw [← hm6]
 have hn := st1.ext.n
 refine QD (a := ⟨m.n + 1, 0, none⟩) (by simp) ((i3.get 2 rfl).2.2.loads (n := 2) (by simp)) i3.ext ⟨v3, v5, by simp, ?_, ?_⟩
 ·have hM2n : m.n + 2 ≤ M2.n := by have : m.n + 1 < M2.n := (st2.get 1 rfl).2.1; omega
  refine ((g3.ext (E34.trans E5)).keep (by rw [i4]; exact DZ _) fun B hB hb => i5 B ?_).low (by omega)
  have := (grown_low g3 B hb).1
  omega
 ·have hM4n : m.n + 2 ≤ M4.n := by have : m.n + 1 < M4.n := (st4.get 2 rfl).2.1; omega
  refine (g5.keep (by rw [i4]; exact DZ _) fun B hB hb => i5 B ?_).low (by omega)
  have := (grown_low g5 B hb).1
  omega
end Go.Sx
namespace Go.Sx
open Go.Dx Go.Proofs
abbrev Cyc := List (Int × Int) × List Int
def vS (x : Cyc) (k : Nat) : Cyc := (wJ k x.1, wJ k x.2)
def kx (x b : Cyc) (k : Nat) : Cyc := if gp (vS x k) b < 0 then vS x k else b
def zo (x : Cyc) : Cyc := if x.1.length ≠ x.2.length then x else (List.range x.1.length).foldl (kx x) x
theorem wO {α : Type} (k : Nat) (l : List α) : (wJ k l).length = l.length := by unfold wJ; rw [qa6, List.length_drop, List.length_take]; omega
theorem bj (x : Cyc) : ∀ (l : List Nat) (b : Cyc), b.1.length = x.1.length → b.2.length = x.2.length → (l.foldl (kx x) b).1.length = x.1.length ∧ (l.foldl (kx x) b).2.length = x.2.length
 | [], b, h1, h2 => ⟨h1, h2⟩
 | k :: l, b, h1, h2 => by
  rw [List.foldl_cons]
  refine bj x l _ ?_ ?_
  ·unfold kx; split
   ·exact wO _ _
   ·exact h1
  ·unfold kx; split
   ·exact wO _ _
   ·exact h2
theorem JI (n : Nat) (ed md : Value) (es : List (Int × Int)) (ms : List Int) (m : M) (hm : m.base ≤ m.n) (hb16 : es.length * 16 ≤ most) (hb8 : ms.length * 8 ≤ most) (hed : Rd m ed 2 edgeRow es) (hmd : Rd m md 1 modeRow ms) (hse : Sp 2 ed) (hsm : Sp 1 md) :
  Dx.Call (ex Try.prog (n + 4)) 28 [.agg #[ed, md]] m fun v m' => ∃ v1 v2, v = .agg #[v1, v2] ∧ Rd m' v1 2 edgeRow (zo (es, ms)).1 ∧ Rd m' v2 1 modeRow (zo (es, ms)).2 ∧ (∀ B, blk v1 = some B → m.n ≤ B) ∧ ∀ B, blk v2 = some B → m.n ≤ B := by
 suffices H : ∀ Q : Value → M → Prop, (∀ v m', (∃ v1 v2, v = .agg #[v1, v2] ∧ Rd m' v1 2 edgeRow (zo (es, ms)).1 ∧ Rd m' v2 1 modeRow (zo (es, ms)).2 ∧ (∀ B, blk v1 = some B → m.n ≤ B) ∧ ∀ B, blk v2 = some B → m.n ≤ B) → Q v m') → Dx.Call (ex Try.prog (n + 4)) 28 [.agg #[ed, md]] m Q from H _ fun _ _ h => h
 intro Q hQ
 refine qv db5_ok (by simp) ?_
 have st0 : St m m [] := St.nil hm (Ext.refl m)
 have st1 := (st0.row [ed, md]).row [.slice none 0 0, .slice none 0 0]
 simp only [qk] at st1
 obtain ⟨m1, hm1⟩ := qaj (Dx.newRow (Dx.newRow m [ed, md]) [.slice none 0 0, .slice none 0 0])
 rw [← hm1] at st1
 have l1 : ∀ o s, load1 m1 ⟨m.n, o, s⟩ = [ed, md][o]? := fun o s => (st1.get 1 rfl).2.2.load1 o s
 obtain ⟨v2, m2', p1, p2, p3, p3', -⟩ := WW (n + 2) ed es hb16 (qi m1) (qA st1.sees).base (hed.sees (qA st1.sees))
 have p4 : m2'.log = [] := by rw [p2.log, qE]
 obtain ⟨m2, hm2⟩ := qaj (behind m1 m2')
 have E2 : Ext m1 m2 := by rw [hm2]; exact p2.behind
 have st2 := st1.step E2
 have l2 : ∀ o s, load1 m2 ⟨m.n, o, s⟩ = [ed, md][o]? := fun o s => (st2.get 1 rfl).2.2.load1 o s
 have r2 : Rd m2 v2 2 edgeRow es := by rw [hm2]; exact p3.congr (by rw [qY]; exact DZ _) fun B _ => qC _ _ _
 obtain ⟨v3, m3', q1, q2, q3, q3', -⟩ := WX (n + 2) md ms hb8 (qi m2) (qA st2.sees).base (hmd.sees (qA st2.sees))
 have q4 : m3'.log = [] := by rw [q2.log, qE]
 obtain ⟨m3, hm3⟩ := qaj (behind m2 m3')
 have E3 : Ext m2 m3 := by rw [hm3]; exact q2.behind
 have st3 := st2.step E3
 have r3 : Rd m3 v3 1 modeRow ms := by rw [hm3]; exact q3.congr (by rw [qY]; exact DZ _) fun B _ => qC _ _ _
 have r2' : Rd m3 v2 2 edgeRow es := r2.sees (st2.sees.self.ext E3)
 have hbc := dQ v2 v3 r2.okV r3.okV
 have st4 := st3.row [.slice none 0 0, .slice none 0 0]
 obtain ⟨m4', i1, i2, i3, i4, i5⟩ := st4.fillAny 0 rfl (n := 2) (l' := [v2, v3]) (by omega) rfl rfl (by simp [r2.okV, r3.okV])
 obtain ⟨m4, hm4⟩ := qaj (behind (Dx.newRow m3 [.slice none 0 0, .slice none 0 0]) m4')
 rw [← hm4] at i3 i4 i5
 have l4 : ∀ o s, load1 m4 ⟨m.n, o, s⟩ = [ed, md][o]? := fun o s => (i3.get 2 rfl).2.2.load1 o s
 have keep34 : ∀ B, B < m3.n → m4.obj B = m3.obj B := fun B hB => by rw [i5 B (by omega)]; exact (Ext.row m3 _).obj B hB
 have n34 : m3.n ≤ m4.n := by rw [i4, qk]; omega
 have r24 : Rd m4 v2 2 edgeRow es := r2'.congr n34 fun B hB => keep34 B (r2'.lt B hB)
 have r34 : Rd m4 v3 1 modeRow ms := r3.congr n34 fun B hB => keep34 B (r3.lt B hB)
 have hel : kG ed = some (iv es.length) := hed.len
 have hml : kG md = some (iv ms.length) := hmd.len
 obtain ⟨q, hq⟩ := qaj (es.length)
 obtain ⟨q', hq'⟩ := qaj (ms.length)
 rw [← hq] at hel
 rw [← hq'] at hml
 have hq63 : q < 4611686018427387904 := by unfold most at hb16; omega
 obtain ⟨P3, hP3⟩ := qaj (m3.n)
 have hf2 : ∀ B, blk v2 = some B → m.n ≤ B ∧ B ≠ P3 := fun B hB => by
  have h1 := (p3' B hB).1
  rw [qw] at h1
  have h2 := r2'.lt B hB
  have h3 := st1.ext.n
  omega
 have hf3 : ∀ B, blk v3 = some B → m.n ≤ B ∧ B ≠ P3 := fun B hB => by
  have h1 := (q3' B hB).1
  rw [qw] at h1
  have h2 := r3.lt B hB
  have h3 := st2.ext.n
  omega
 have i3' : St m m4 [(P3, [v2, v3]), (m.n + 1, [.slice none 0 0, .slice none 0 0]), (m.n, [ed, md])] := by rw [hP3]; exact i3
 simp [← hm1, l1, p1, p4, ← hm2, l2, q1, q4, ← hm3, hbc, i1, ← hm4, l4, hel, hml]
 by_cases hqq : q = q'
 rotate_left
 ·have hd : ((q : Int) = (q' : Int)) = False := eq_false (by omega)
  have lP : loads m4 ⟨P3, 0, none⟩ 2 = some [v2, v3] := (i3'.get 0 rfl).2.2.loads (n := 2) (by simp)
  obtain ⟨m5, j1, j2, j3, j4⟩ := i3'.fill 1 rfl (n := 2) (l' := [v2, v3]) rfl rfl (by simp [r2.okV, r3.okV])
  rw [hP3] at lP
  simp [hqq, hd, lP, qf, j1]
  have hc : zo (es, ms) = (es, ms) := by unfold zo; rw [if_pos (by show es.length ≠ ms.length; omega)]
  refine QD (a := ⟨m.n + 1, 0, none⟩) (by simp) ((j2.get 1 rfl).2.2.loads (n := 2) (by simp)) j2.ext (hQ _ _ ⟨v2, v3, by simp, ?_, ?_, fun B hB => (hf2 B hB).1, fun B hB => (hf3 B hB).1⟩)
  ·rw [hc]; exact r24.congr (by rw [j3]; exact DZ _) fun B hB => j4 B (by have h1 := (p3' B hB).1; rw [qw] at h1; have : m.n + 1 < m1.n := (st1.get 0 rfl).2.1; omega)
  ·rw [hc]; exact r34.congr (by rw [j3]; exact DZ _) fun B hB => j4 B (by have h1 := (q3' B hB).1; rw [qw] at h1; have : m.n + 1 < m2.n := (st2.get 0 rfl).2.1; omega)
 subst hqq
 simp [hel, l4]
 have hP2n : m.n + 1 < m1.n := (st1.get 0 rfl).2.1
 let S : Nat → Cyc := fun k => (List.range k).foldl (kx (es, ms)) (es, ms)
 have hSl : ∀ k, (S k).1.length = es.length ∧ (S k).2.length = ms.length := fun k => bj (es, ms) (List.range k) (es, ms) rfl rfl
 refine qm (c := YJ) rfl (Ret m Q) (fun i t m' => (Tm.get 1 t = .pointer (some ⟨m.n, 0, none⟩) ∧ Tm.get 2 t = .pointer (some ⟨m.n + 1, 0, none⟩) ∧ Tm.get 3 t = .pointer (some ⟨P3, 0, none⟩) ∧ Tm.get 23 t = iv q) ∧ Tm.get 24 t = iv i ∧
   ∃ w1 w2, St m m' [(P3, [w1, w2]), (m.n + 1, [.slice none 0 0, .slice none 0 0]), (m.n, [ed, md])] ∧ Rd m' w1 2 edgeRow (S i).1 ∧ Rd m' w2 1 modeRow (S i).2 ∧ (∀ B, blk w1 = some B → m.n + 1 < B ∧ B ≠ P3) ∧ ∀ B, blk w2 = some B → m.n + 1 < B ∧ B ≠ P3) q (by omega)
  ⟨⟨by simp, by simp, by simp [hP3], by simp⟩, by simp, v2, v3, i3', r24, r34, fun B hB => ⟨by have h1 := (p3' B hB).1; rw [qw] at h1; omega, (hf2 B hB).2⟩, fun B hB => ⟨by have h1 := (q3' B hB).1; rw [qw] at h1; have := st2.ext.n; have := E2.n; omega, (hf3 B hB).2⟩⟩ (fun i t m' k hi hI hk => ?_)
 obtain ⟨⟨t1, t2, t3, t23⟩, t24, w1, w2, st, rw1, rw2, fw1, fw2⟩ := hI
 have lP : loads m' ⟨P3, 0, none⟩ 2 = some [w1, w2] := (st.get 0 rfl).2.2.loads (n := 2) (by simp)
 have hP3m : P3 < m'.n := (st.get 0 rfl).2.1
 by_cases hil : i < q
 ·have hd := dlt hil
  have w1' := qJ (i := i) (by omega)
  have lc : loads m' ⟨m.n, 0, none⟩ 2 = some [ed, md] := (st.get 2 rfl).2.2.loads (n := 2) (by simp)
  obtain ⟨v5, m5, g1, g2, u1, u2, rfl, gu1, gu2⟩ := GN n ed md es ms m' st.sees.base hb16 hb8 (hed.sees st.sees) (hmd.sees st.sees) hse hsm i (by omega) (by omega)
  have stA := (st.step g2).row [.slice none 0 0, .slice none 0 0]
  obtain ⟨m6, j1, j2, j3, j4⟩ := stA.fill 0 rfl (n := 2) (l' := [u1, u2]) rfl rfl (by simp [gu1.okC, gu2.okC])
  have n5 := g2.n
  have keep56 : ∀ B, B < m5.n → m6.obj B = m5.obj B := fun B hB => by rw [j4 B (by omega)]; exact (Ext.row m5 _).obj B hB
  have n56 : m5.n ≤ m6.n := by rw [j3, qk]; omega
  have ru1 : Rd m6 u1 2 edgeRow (wJ i es) := (gu1.rd wQ).congr n56 fun B hB => keep56 B ((gu1.rd wQ).lt B hB)
  have ru2 : Rd m6 u2 1 modeRow (wJ i ms) := (gu2.rd kJ).congr n56 fun B hB => keep56 B ((gu2.rd kJ).lt B hB)
  have keep6 : ∀ B, B < m'.n → m6.obj B = m'.obj B := fun B hB => (keep56 B (by omega)).trans (g2.obj B hB)
  have rw16 : Rd m6 w1 2 edgeRow (S i).1 := rw1.congr (by omega) fun B hB => keep6 B (rw1.lt B hB)
  have rw26 : Rd m6 w2 1 modeRow (S i).2 := rw2.congr (by omega) fun B hB => keep6 B (rw2.lt B hB)
  have l5 : loads m6 ⟨m5.n, 0, none⟩ 2 = some [u1, u2] := (j2.get 0 rfl).2.2.loads (n := 2) (by simp)
  have l6 : loads m6 ⟨P3, 0, none⟩ 2 = some [w1, w2] := (j2.get 1 rfl).2.2.loads (n := 2) (by simp)
  obtain ⟨v7, m7, y1, y2, rfl⟩ := BU n u1 u2 w1 w2 (wJ i es) (S i).1 (wJ i ms) (S i).2 m6 j2.sees.base (by rw [wO]; omega) (by rw [wO]; exact (hSl i).1) (by rw [wO, wO]; omega) (by rw [wO]; have := (hSl i).2; omega) ru1 ru2 rw16 rw26
  have hSk : S (i + 1) = kx (es, ms) (S i) i := by simp only [S]; rw [List.range_succ, List.foldl_append]; rfl
  obtain ⟨O, hO⟩ := qaj (gp (wJ i es, wJ i ms) ((S i).1, (S i).2))
  have hO' : gp (vS (es, ms) i) (S i) = O := by rw [hO]; rfl
  rw [← hO] at y1
  have stB := j2.step y2
  have S67 := j2.sees.self.ext y2
  have l7 : loads m7 ⟨m5.n, 0, none⟩ 2 = some [u1, u2] := (stB.get 0 rfl).2.2.loads (n := 2) (by simp)
  simp [t1, t3, t23, t24, hd, lc, qf, g1, j1, l5, l6, y1]
  by_cases hlt : O < 0
  ·obtain ⟨m8, z1, z2, z3, z4⟩ := stB.fill 1 rfl (n := 2) (l' := [u1, u2]) rfl rfl (by simp [gu1.okC, gu2.okC])
   have hS2 : S (i + 1) = vS (es, ms) i := by rw [hSk]; unfold kx; rw [hO', if_pos hlt]
   simp [t3, t24, hlt, l7, qf, z1, w1']
   have low1 : ∀ B, blk u1 = some B → m'.n ≤ B := fun B hB => (grown_low gu1 B hB).1
   have low2 : ∀ B, blk u2 = some B → m'.n ≤ B := fun B hB => (grown_low gu2 B hB).1
   refine hk hil _ _ ⟨⟨by simp [t1], by simp [t2], by simp [t3], by simp [t23]⟩, by simp, u1, u2, ?_, ?_, ?_, fun B hB => ?_, fun B hB => ?_⟩
   ·exact z2.sub (fun p hp => by
     simp only [List.mem_cons, List.not_mem_nil, or_false] at hp
     rcases hp with rfl | rfl | rfl
     ·exact DX (i := 1) rfl
     ·exact DX (i := 2) rfl
     ·exact DX (i := 3) rfl) st.nd
   ·rw [hS2]; exact (ru1.sees S67).congr (by rw [z3]; exact DZ _) fun B hB => z4 B (by have := low1 B hB; omega)
   ·rw [hS2]; exact (ru2.sees S67).congr (by rw [z3]; exact DZ _) fun B hB => z4 B (by have := low2 B hB; omega)
   ·have := low1 B hB; have h1 : m.n + 1 < m'.n := (st.get 1 rfl).2.1; omega
   ·have := low2 B hB; have h1 : m.n + 1 < m'.n := (st.get 1 rfl).2.1; omega
  ·have hS2 : S (i + 1) = S i := by rw [hSk]; unfold kx; rw [hO', if_neg hlt]
   simp [t24, hlt, w1']
   refine hk hil _ _ ⟨⟨by simp [t1], by simp [t2], by simp [t3], by simp [t23]⟩, by simp, w1, w2, ?_, ?_, ?_, fw1, fw2⟩
   ·exact stB.sub (fun p hp => by
     simp only [List.mem_cons, List.not_mem_nil, or_false] at hp
     rcases hp with rfl | rfl | rfl
     ·exact DX (i := 1) rfl
     ·exact DX (i := 2) rfl
     ·exact DX (i := 3) rfl) st.nd
   ·rw [hS2]; exact rw16.sees S67
   ·rw [hS2]; exact rw26.sees S67
 ·obtain rfl : i = q := by omega
  have hd : ((i : Int) < (i : Int)) = False := eq_false (by omega)
  obtain ⟨m5, j1, j2, j3, j4⟩ := st.fill 1 rfl (n := 2) (l' := [w1, w2]) rfl rfl (by simp [rw1.okV, rw2.okV])
  simp [t2, t3, t23, t24, hd, lP, qf, j1]
  have hc : zo (es, ms) = S i := by
   unfold zo
   rw [if_neg (by show ¬ es.length ≠ ms.length; omega)]
   simp only [S, hq]
  refine QD (a := ⟨m.n + 1, 0, none⟩) (by simp [t2]) ((j2.get 1 rfl).2.2.loads (n := 2) (by simp)) j2.ext (hQ _ _ ⟨w1, w2, by simp, ?_, ?_, fun B hB => by have := (fw1 B hB).1; omega, fun B hB => by have := (fw2 B hB).1; omega⟩)
  ·rw [hc]; exact rw1.congr (by rw [j3]; exact DZ _) fun B hB => j4 B (by have := (fw1 B hB).1; omega)
  ·rw [hc]; exact rw2.congr (by rw [j3]; exact DZ _) fun B hB => j4 B (by have := (fw2 B hB).1; omega)
end Go.Sx
namespace Go.Dx
@[simp] theorem bslice_p2 (m : M) (a b : Value) : ko 2 1 (rep 1 [.int .i64 0, .int .i64 0]) [(0, 2, .agg ⟨[a, b]⟩)] m = some (.slice (some ⟨m.n, 0, some 5⟩) 1 1, newRow m [a, b]) := _root_.id rfl
end Go.Dx
namespace Go.Sx
open Go.Dx Go.Proofs
theorem Za {α : Type} {l : List α} {k i : Nat} (hk : k < l.length) (hi : i < l.length) : (wJ k l)[i]? = l[(k + i) % l.length]? := by
 unfold wJ
 by_cases h : i < l.length - k
 ·rw [qaa (by rw [List.length_drop]; exact h), List.getElem?_drop, Nat.mod_eq_of_lt (by omega)]
 ·rw [qab (by rw [List.length_drop]; omega), List.length_drop, List.getElem?_take, if_pos (by omega), Nat.mod_eq_sub_mod (by omega), Nat.mod_eq_of_lt (by omega)]
  congr 1; omega
theorem Yc (n : Nat) (ed md : Value) (es : List (Int × Int)) (ms : List Int) (m : M) (hm : m.base ≤ m.n) (hb16 : es.length * 16 ≤ most) (hml : ms.length = es.length) (hed : Rd m ed 2 edgeRow es) (hmd : Rd m md 1 modeRow ms) (k : Nat) (hk : k < es.length) :
  Dx.Call (ex Try.prog (n + 1)) 60 [.agg #[ed, md], iv k] m fun v m' => ∃ v1 v2, v = .agg #[v1, v2] ∧ Grown m m' v1 2 edgeRow (wJ k es) ∧ Grown m m' v2 1 modeRow (wJ k ms) := by
 suffices H : ∀ Q : Value → M → Prop, (∀ v m', (∃ v1 v2, v = .agg #[v1, v2] ∧ Grown m m' v1 2 edgeRow (wJ k es) ∧ Grown m m' v2 1 modeRow (wJ k ms)) → Q v m') → Dx.Call (ex Try.prog (n + 1)) 60 [.agg #[ed, md], iv k] m Q from H _ fun _ _ h => h
 intro Q hQ
 refine qv de1_ok (by simp) ?_
 have st0 : St m m [] := St.nil hm (Ext.refl m)
 have st1 := ((st0.row [ed, md]).row [.slice none 0 0, .slice none 0 0]).row [.slice none 0 0, .slice none 0 0]
 simp only [qk] at st1
 obtain ⟨m1, hm1⟩ := qaj (Dx.newRow (Dx.newRow (Dx.newRow m [ed, md]) [.slice none 0 0, .slice none 0 0]) [.slice none 0 0, .slice none 0 0])
 rw [← hm1] at st1
 have l1 : ∀ o s, load1 m1 ⟨m.n, o, s⟩ = [ed, md][o]? := fun o s => (st1.get 2 rfl).2.2.load1 o s
 have hel : kG ed = some (iv es.length) := hed.len
 obtain ⟨q, hq⟩ := qaj (es.length)
 rw [← hq] at hel hml hk hb16
 have hq63 : q ≤ 140737488355328 := by unfold most at hb16; omega
 have hb8 : q * 8 ≤ most := by omega
 simp [← hm1, l1, hel]
 have take_s : ∀ {α : Type} {l : List α} {i : Nat} {x : α}, l[i]? = some x → l.take (i + 1) = l.take i ++ [x] := fun h => by
  obtain ⟨hh, e⟩ := DY.1 h
  rw [List.take_succ_eq_append_getElem hh, e]
 refine qm (c := ce1_7) rfl (Ret m Q) (fun i t m' => (Tm.get 1 t = iv k ∧ Tm.get 2 t = .pointer (some ⟨m.n, 0, none⟩) ∧ Tm.get 4 t = .pointer (some ⟨m.n + 1, 0, none⟩) ∧ Tm.get 5 t = .pointer (some ⟨m.n + 1 + 1, 0, none⟩) ∧ Tm.get 6 t = iv q) ∧ Tm.get 7 t = iv i ∧
   ∃ g1 g2, St m m' [(m.n + 1 + 1, [g1, g2]), (m.n + 1, [.slice none 0 0, .slice none 0 0]), (m.n, [ed, md])] ∧ Grown m m' g1 2 edgeRow ((wJ k es).take i) ∧ Grown m m' g2 1 modeRow ((wJ k ms).take i) ∧ (∀ B, blk g1 = some B → m.n + 1 + 1 < B ∧ blk g2 ≠ some B) ∧ ∀ B, blk g2 = some B → m.n + 1 + 1 < B) q (by omega)
  ⟨⟨by simp, by simp, by simp, by simp, by simp⟩, by simp, _, _, st1, by rw [List.take_zero]; exact .nil, by rw [List.take_zero]; exact .nil, (fun B hB => by cases hB), (fun B hB => by cases hB)⟩ (fun i t m' kk hi hI hk' => ?_)
 obtain ⟨⟨t1, t2, t4, t5, t6⟩, t7, g1, g2, st, hg1, hg2, f1, f2⟩ := hI
 by_cases hil : i < q
 ·have hd := dlt hil
  have w1 := qJ (i := i) (by omega)
  obtain ⟨x, hx⟩ := qaj ((k + i) % q)
  have hxl : x < q := by rw [hx]; exact Nat.mod_lt _ (by omega)
  have wki : IntKind.i64.wrap ((k : Int) + (i : Int)) = (k : Int) + (i : Int) := wrap64 _ (by omega) (by omega)
  have hr : jm .rem (.int .i64 ((k : Int) + (i : Int))) (.int .i64 q) = some (.int .i64 x) := by have := xq (a := k + i) (b := q) (by omega); rwa [← hx, Int.natCast_add] at this
  obtain ⟨e, he⟩ : ∃ r, es[x]? = some r := ⟨_, DW (by omega)⟩
  obtain ⟨y, hy⟩ : ∃ r, ms[x]? = some r := ⟨_, DW (by omega)⟩
  have te : (wJ k es)[i]? = some e := by rw [Za (by omega) (by omega), ← hq, ← hx, he]
  have ty : (wJ k ms)[i]? = some y := by rw [Za (by omega) (by omega), hml, ← hx, hy]
  have S0 := st.sees
  have ⟨a1, a2, _⟩ := (hed.sees S0).at he
  have a2' := a2 m' S0.self
  have lg : ∀ o s, load1 m' ⟨m.n + 1 + 1, o, s⟩ = [g1, g2][o]? := fun o s => (st.get 0 rfl).2.2.load1 o s
  have lc : ∀ o s, load1 m' ⟨m.n, o, s⟩ = [ed, md][o]? := fun o s => (st.get 2 rfl).2.2.load1 o s
  have hl1 : ((wJ k es).take i).length = i := by rw [List.length_take, wO]; omega
  have hl2 : ((wJ k ms).take i).length = i := by rw [List.length_take, wO]; omega
  obtain ⟨M1, hM1⟩ := qaj (Dx.newRow m' (edgeRow e))
  have E1 : Ext m' M1 := by rw [hM1]; exact Ext.row _ _
  have hM1' : Dx.newRow m' [iv e.1, iv e.2] = M1 := hM1.symm
  obtain ⟨g1', m2', p1, p1', p2, p3, p4, p5, p6⟩ := (hg1.ext E1).appendAny (st.ext.trans E1) hm (by omega) wQ (fun x => by simp [edgeRow, okC]) (x := e) (X := m'.n) (sp := some 5) (by rw [hM1]; exact (Arr.row m' _).loads (by simp [edgeRow])) (bytes := 16) (by rw [hl1]; have := qag 16 (show i + 1 ≤ q by omega); omega) (by rw [hl1]; omega)
  obtain ⟨m2, hm2⟩ := qaj (behind M1 m2')
  rw [← hm2] at p2 p3 p4 p5
  have nE1 := E1.n
  have stA := (st.step E1).keepOn p2 p4 fun p hp => p5 p.1 (by have := (st.arr p hp).2.1; omega) fun hc => by
   have h5 := (f1 _ hc).1
   simp only [List.mem_cons, List.not_mem_nil, or_false] at hp
   rcases hp with rfl | rfl | rfl <;> simp at h5 <;> omega
  obtain ⟨m3', s1, s1', s2, s3, s4⟩ := stA.storeAny 0 rfl (o := 0) (v := g1') (by simp) p3.okC
  obtain ⟨m3, hm3⟩ := qaj (behind m2 m3')
  rw [← hm3] at s2 s3 s4
  have s2' : St m m3 [(m.n + 1 + 1, [g1', g2]), (m.n + 1, [.slice none 0 0, .slice none 0 0]), (m.n, [ed, md])] := s2
  have hP5 : m.n + 1 + 1 < m'.n := (st.get 0 rfl).2.1
  have hg1n : Grown m m3 g1' 2 edgeRow ((wJ k es).take i ++ [e]) := p3.keep (by omega) fun B _ hb => s4 B (by have := p6 B hb; omega)
  have hlow2 := grown_low hg2
  have hg2n : Grown m m3 g2 1 modeRow ((wJ k ms).take i) := hg2.keep (by omega) fun B hB hb => by
   rw [s4 B (by have := f2 B hb; omega), p5 B (by omega) (fun hc => (f1 B hc).2 hb), E1.obj B hB]
  have lg3 : ∀ o s, load1 m3 ⟨m.n + 1 + 1, o, s⟩ = [g1', g2][o]? := fun o s => (s2'.get 0 rfl).2.2.load1 o s
  have lc3 : ∀ o s, load1 m3 ⟨m.n, o, s⟩ = [ed, md][o]? := fun o s => (s2'.get 2 rfl).2.2.load1 o s
  have ⟨b1, b2⟩ := Rd.at1 (g := fun (x : Int) => iv x) (hmd.sees s2'.sees) hy
  have b2' := b2 m3 s2'.sees.self
  obtain ⟨M4, hM4⟩ := qaj (Dx.newRow m3 (modeRow y))
  have E4 : Ext m3 M4 := by rw [hM4]; exact Ext.row _ _
  have nE4 := E4.n
  have hM4' : Dx.newRow m3 [iv y] = M4 := hM4.symm
  obtain ⟨g2', m5', r1, r1', r2, r3, r4, r5, r6⟩ := (hg2n.ext E4).appendAny (s2'.ext.trans E4) hm (by omega) kJ (fun x => by simp [modeRow, okC]) (x := y) (X := m3.n) (sp := some 3) (by rw [hM4]; exact (Arr.row m3 _).loads (by simp [modeRow])) (bytes := 8) (by rw [hl2]; have := qag 8 (show i + 1 ≤ q by omega); omega) (by rw [hl2]; omega)
  obtain ⟨m5, hm5⟩ := qaj (behind M4 m5')
  rw [← hm5] at r2 r3 r4 r5
  have stB := (s2'.step E4).keepOn r2 r4 fun p hp => r5 p.1 (by have := (s2'.arr p hp).2.1; omega) fun hc => by
   have h5 := f2 _ hc
   simp only [List.mem_cons, List.not_mem_nil, or_false] at hp
   rcases hp with rfl | rfl | rfl <;> simp at h5 <;> omega
  obtain ⟨m6', u1, u1', u2, u3, u4⟩ := stB.storeAny 0 rfl (o := 1) (v := g2') (by simp) r3.okC
  obtain ⟨m6, hm6⟩ := qaj (behind m5 m6')
  rw [← hm6] at u2 u3 u4
  have hlow1 := grown_low hg1n
  have hg2f : Grown m m6 g2' 1 modeRow ((wJ k ms).take i ++ [y]) := r3.keep (by omega) fun B _ hb => u4 B (by have := r6 B hb; omega)
  have hg1f : Grown m m6 g1' 2 edgeRow ((wJ k es).take i ++ [e]) := hg1n.keep (by omega) fun B hB hb => by
   have h6 := p6 B hb
   rw [u4 B (by omega), r5 B (by omega) (fun hc => by have := (hlow2 B hc).2; omega), E4.obj B hB]
  simp [t1, t2, t4, t5, t6, t7, hd, lg, lc, wki, hr, a1, a2', edgeRow, qf, hM1', p1, ← hm2, s1, ← hm3, lg3, lc3, b1, b2', hM4', r1, ← hm5, u1, ← hm6, w1]
  refine hk' hil _ _ ⟨⟨by simp [t1], by simp [t2], by simp [t4], by simp [t5], by simp [t6]⟩, by simp, g1', g2', u2, ?_, ?_, fun B hB => ⟨by have := p6 B hB; omega, fun hc => ?_⟩, fun B hB => by have := r6 B hB; omega⟩
  ·rw [take_s te]; exact hg1f
  ·rw [take_s ty]; exact hg2f
  ·have h7 := r6 B hc
   have h8 := (hlow1 B hB).2
   omega
 ·obtain rfl : i = q := by omega
  have hd : ((i : Int) < (i : Int)) = False := eq_false (by omega)
  have lP : loads m' ⟨m.n + 1 + 1, 0, none⟩ 2 = some [g1, g2] := (st.get 0 rfl).2.2.loads (n := 2) (by simp)
  obtain ⟨m5, j1, j2, j3, j4⟩ := st.fill 1 rfl (n := 2) (l' := [g1, g2]) rfl rfl (by simp [hg1.okC, hg2.okC])
  simp [t4, t5, t6, t7, hd, lP, qf, j1]
  rw [List.take_of_length_le (by rw [wO]; omega)] at hg1 hg2
  refine QD (a := ⟨m.n + 1, 0, none⟩) (by simp [t4]) ((j2.get 1 rfl).2.2.loads (n := 2) (by simp)) j2.ext (hQ _ _ ⟨g1, g2, by simp, ?_, ?_⟩)
  ·exact hg1.keep (by rw [j3]; exact DZ _) fun B hB hb => j4 B (by have := (f1 B hb).1; omega)
  ·exact hg2.keep (by rw [j3]; exact DZ _) fun B hB hb => j4 B (by have := f2 B hb; omega)
end Go.Sx
namespace Go.Sx
open Go.Dx Go.Proofs
def jJ (x y : Cyc) : Bool := match dL x y with
 | some i => decide (jT x y i < 0)
 | none => false
theorem Qx (x y : Cyc) : gp x y < 0 ↔ jJ x y = true := by
 unfold gp jJ
 cases dL x y with
 | none => simp
 | some i => simp
theorem orL3 (a b c : Int) : orL [a, b, c] = if a ≠ 0 then a else if b ≠ 0 then b else c := by
 unfold orL
 by_cases ha : a = 0
 ·by_cases hb : b = 0
  ·by_cases hc : c = 0
   ·simp [ha, hb, hc]
   ·simp [ha, hb, hc]
  ·simp [ha, hb]
 ·simp [ha]
theorem xW {a b : Int} : kW a b = 0 ↔ a = b := by
 unfold kW
 by_cases h1 : a < b
 ·rw [if_pos h1]; constructor
  ·intro h; cases h
  ·intro h; omega
 ·rw [if_neg h1]
  by_cases h2 : b < a
  ·rw [if_pos h2]; constructor
   ·intro h; cases h
   ·intro h; omega
  ·rw [if_neg h2]; constructor
   ·intro _; omega
   ·intro _; rfl
theorem Wd {a b : Int} : kW a b < 0 ↔ a < b := by
 unfold kW
 by_cases h1 : a < b
 ·rw [if_pos h1]; exact ⟨fun _ => h1, fun _ => by decide⟩
 ·rw [if_neg h1]
  by_cases h2 : b < a
  ·rw [if_pos h2]; exact ⟨fun h => absurd h (by decide), fun h => absurd h h1⟩
  ·rw [if_neg h2]; exact ⟨fun h => absurd h (by decide), fun h => absurd h h1⟩
theorem Vz (x : Cyc) : gp x x = 0 := by
 have : dL x x = none := by
  unfold dL
  refine zU fun j hj => ?_
  have : jT x x j = 0 := by
   unfold jT
   rw [orL3, xW.2 rfl, xW.2 rfl, xW.2 rfl]; rfl
  rw [this]; rfl
 unfold gp; rw [this]
theorem Bm (n : Nat) (ed md ed' md' : Value) (es es' : List (Int × Int)) (ms ms' : List Int) (m : M) (hm : m.base ≤ m.n) (hl : es.length < 4611686018427387904) (hle : es'.length = es.length) (hlm : ms.length = es.length) (hlm' : ms'.length = es.length) (hed : Rd m ed 2 edgeRow es) (hmd : Rd m md 1 modeRow ms) (hed' : Rd m ed' 2 edgeRow es') (hmd' : Rd m md' 1 modeRow ms') :
  CallV (ex Try.prog (n + 1)) 61 [.agg #[ed, md], .agg #[ed', md']] m (.bool (jJ (es, ms) (es', ms'))) := by
 refine qv de2_ok (by simp) ?_
 have st0 : St m m [] := St.nil hm (Ext.refl m)
 have st1 := (st0.row [ed, md]).row [ed', md']
 simp only [qk] at st1
 obtain ⟨m1, hm1⟩ := qaj (Dx.newRow (Dx.newRow m [ed, md]) [ed', md'])
 rw [← hm1] at st1
 have l1 : ∀ m'', Sees m1 m'' → ∀ o s, load1 m'' ⟨m.n, o, s⟩ = [ed, md][o]? := fun m'' k o s => by rw [qy k (st1.get 1 rfl).2.1]; exact (st1.get 1 rfl).2.2.load1 o s
 have l2 : ∀ m'', Sees m1 m'' → ∀ o s, load1 m'' ⟨m.n + 1, o, s⟩ = [ed', md'][o]? := fun m'' k o s => by rw [qy k (st1.get 0 rfl).2.1]; exact (st1.get 0 rfl).2.2.load1 o s
 have S1 := st1.sees.self
 have hel := hed.len
 obtain ⟨q, hq⟩ := qaj (es.length)
 rw [← hq] at hel hl hle hlm hlm'
 simp (maxDischargeDepth := 30) [← hm1, l1, S1, hel]
 refine qm (c := YP) rfl (Ret m _) (fun i t m' => Tm.get 2 t = .pointer (some ⟨m.n, 0, none⟩) ∧ Tm.get 3 t = .pointer (some ⟨m.n + 1, 0, none⟩) ∧ Tm.get 5 t = iv i ∧ Ext m1 m' ∧ ∀ j, j < i → jT (es, ms) (es', ms') j = 0) q (by omega)
  ⟨by simp, by simp, by simp, Ext.refl _, fun j hj => by omega⟩ (fun i t m' k hi hI hk => ?_)
 obtain ⟨t2, t3, t5, hE, hz⟩ := hI
 have S' := S1.ext hE
 have E' := st1.ext.trans hE
 have l1' := l1 m' S'
 have l2' := l2 m' S'
 by_cases hil : i < q
 ·have hd := dlt hil
  have w1 := qJ (i := i) (by omega)
  obtain ⟨e, he⟩ : ∃ r, es[i]? = some r := ⟨_, DW (by omega)⟩
  obtain ⟨e', he'⟩ : ∃ r, es'[i]? = some r := ⟨_, DW (by omega)⟩
  obtain ⟨x, hx⟩ : ∃ r, ms[i]? = some r := ⟨_, DW (by omega)⟩
  obtain ⟨x', hx'⟩ : ∃ r, ms'[i]? = some r := ⟨_, DW (by omega)⟩
  have S0' : Sees m m' := (Sees.refl hm).ext E'
  have SS := S'.self
  have ⟨a1, _, a3⟩ := (hed.sees S0').at he
  have ⟨b1, _, b3⟩ := (hed'.sees S0').at he'
  have ⟨c1, c2⟩ := Rd.at1 (g := fun (x : Int) => iv x) (hmd.sees S0') hx
  have ⟨d1, d2⟩ := Rd.at1 (g := fun (x : Int) => iv x) (hmd'.sees S0') hx'
  have a30 : load1 m' ⟨(adr 2 ed i).block, (adr 2 ed i).off, none⟩ = some (iv e.1) := a3 m' 0 none SS (by simp [edgeRow])
  have a31 : load1 m' ⟨(adr 2 ed i).block, (adr 2 ed i).off + 1, none⟩ = some (iv e.2) := a3 m' 1 none SS (by simp [edgeRow])
  have b30 : load1 m' ⟨(adr 2 ed' i).block, (adr 2 ed' i).off, none⟩ = some (iv e'.1) := b3 m' 0 none SS (by simp [edgeRow])
  have b31 : load1 m' ⟨(adr 2 ed' i).block, (adr 2 ed' i).off + 1, none⟩ = some (iv e'.2) := b3 m' 1 none SS (by simp [edgeRow])
  have c2' := c2 m' SS
  have d2' := d2 m' SS
  have hoa : jT (es, ms) (es', ms') i = if kW e.1 e'.1 ≠ 0 then kW e.1 e'.1 else if kW e.2 e'.2 ≠ 0 then kW e.2 e'.2 else kW x x' := by
   unfold jT; simp only; rw [wt he, wt he', vc hx, vc hx', orL3]
  have hres : ∀ b : Bool, jT (es, ms) (es', ms') i ≠ 0 → (jT (es, ms) (es', ms') i < 0 ↔ b = true) → Value.bool b = Value.bool (jJ (es, ms) (es', ms')) := fun b h1 h2 => by
   have hF : dL (es, ms) (es', ms') = some i := by
    unfold dL
    exact jO (by show i < es.length; omega) (by simpa using h1) (fun j hj => by rw [hz j hj]; rfl)
   have : jJ (es, ms) (es', ms') = b := by
    unfold jJ; rw [hF]
    simp only
    cases b with
    | true => exact decide_eq_true (h2.2 rfl)
    | false => exact decide_eq_false fun h => by have := h2.1 h; cases this
   rw [this]
  by_cases h1 : e.1 = e'.1
  rotate_left
  ·have hne : kW e.1 e'.1 ≠ 0 := fun h => h1 (xW.1 h)
   rw [if_pos hne] at hoa
   simp [t2, t3, t5, hd, l1', l2', hel, a1, a30, b1, b30, h1]
   refine qH E' ?_
   have := hres (decide (e.1 < e'.1)) (by rw [hoa]; exact hne) (by rw [hoa, Wd]; simp)
   simpa using this
  have hne1 : ¬ kW e.1 e'.1 ≠ 0 := fun h => h (xW.2 h1)
  rw [if_neg hne1] at hoa
  by_cases h2 : e.2 = e'.2
  rotate_left
  ·have hne : kW e.2 e'.2 ≠ 0 := fun h => h2 (xW.1 h)
   rw [if_pos hne] at hoa
   simp [t2, t3, t5, hd, l1', l2', hel, a1, a30, b1, b30, h1, a31, b31, h2]
   refine qH E' ?_
   have := hres (decide (e.2 < e'.2)) (by rw [hoa]; exact hne) (by rw [hoa, Wd]; simp)
   simpa using this
  have hne2 : ¬ kW e.2 e'.2 ≠ 0 := fun h => h (xW.2 h2)
  rw [if_neg hne2] at hoa
  by_cases h3 : x = x'
  rotate_left
  ·have hne : kW x x' ≠ 0 := fun h => h3 (xW.1 h)
   simp [t2, t3, t5, hd, l1', l2', hel, a1, a30, b1, b30, h1, a31, b31, h2, c1, c2', d1, d2', h3]
   refine qH E' ?_
   have := hres (decide (x < x')) (by rw [hoa]; exact hne) (by rw [hoa, Wd]; simp)
   simpa using this
  have ho : jT (es, ms) (es', ms') i = 0 := by rw [hoa]; exact xW.2 h3
  simp [t2, t3, t5, hd, l1', l2', hel, a1, a30, b1, b30, h1, a31, b31, h2, c1, c2', d1, d2', h3, w1]
  refine hk hil _ _ ⟨by simp [t2], by simp [t3], by simp, hE, fun j hj => ?_⟩
  rcases Nat.lt_succ_iff_lt_or_eq.1 hj with h | h
  ·exact hz j h
  ·rw [h]; exact ho
 ·obtain rfl : i = q := by omega
  have hd : ((i : Int) < (i : Int)) = False := eq_false (by omega)
  simp [t2, t5, l1', hel, hd]
  refine qH E' ?_
  have : jJ (es, ms) (es', ms') = false := by
   unfold jJ dL
   rw [zU (fun j hj => by have := hz j (by have hj' : j < es.length := hj; omega); simp [this])]
  simp [this]
end Go.Sx
namespace Go.Sx
open Go.Dx Go.Proofs
theorem JD (x : Cyc) : vS x 0 = x := by unfold vS wJ; simp
theorem Wb (x : Cyc) : kx x x 0 = x := by unfold kx; rw [JD, Vz]; rfl
theorem dJ (x b : Cyc) (k : Nat) : kx x b k = if jJ (vS x k) b then vS x k else b := by
 unfold kx
 by_cases h : gp (vS x k) b < 0
 ·rw [if_pos h, if_pos ((Qx _ _).1 h)]
 ·rw [if_neg h, if_neg (fun h' => h ((Qx _ _).2 h'))]
theorem Jt (n : Nat) (ed md : Value) (es : List (Int × Int)) (ms : List Int) (m : M) (hm : m.base ≤ m.n) (hb16 : es.length * 16 ≤ most) (hed : Rd m ed 2 edgeRow es) (hmd : Rd m md 1 modeRow ms) :
  Dx.Call (ex Try.prog (n + 2)) 30 [.agg #[ed, md]] m fun v m' => ∃ v1 v2, v = .agg #[v1, v2] ∧ Rd m' v1 2 edgeRow (zo (es, ms)).1 ∧ Rd m' v2 1 modeRow (zo (es, ms)).2 := by
 suffices H : ∀ Q : Value → M → Prop, (∀ v m', (∃ v1 v2, v = .agg #[v1, v2] ∧ Rd m' v1 2 edgeRow (zo (es, ms)).1 ∧ Rd m' v2 1 modeRow (zo (es, ms)).2) → Q v m') → Dx.Call (ex Try.prog (n + 2)) 30 [.agg #[ed, md]] m Q from H _ fun _ _ h => h
 intro Q hQ
 refine qv db7_ok (by simp) ?_
 have st0 : St m m [] := St.nil hm (Ext.refl m)
 have st1 := (st0.row [ed, md]).row [.slice none 0 0, .slice none 0 0]
 simp only [qk] at st1
 obtain ⟨m1, hm1⟩ := qaj (Dx.newRow (Dx.newRow m [ed, md]) [.slice none 0 0, .slice none 0 0])
 rw [← hm1] at st1
 have l1 : ∀ o s, load1 m1 ⟨m.n, o, s⟩ = [ed, md][o]? := fun o s => (st1.get 1 rfl).2.2.load1 o s
 have lb1 : loads m1 ⟨m.n, 0, none⟩ 2 = some [ed, md] := (st1.get 1 rfl).2.2.loads (n := 2) (by simp)
 have hel : kG ed = some (iv es.length) := hed.len
 have hml : kG md = some (iv ms.length) := hmd.len
 obtain ⟨q, hq⟩ := qaj (es.length)
 obtain ⟨q', hq'⟩ := qaj (ms.length)
 rw [← hq] at hel
 rw [← hq'] at hml
 have hq63 : q < 4611686018427387904 := by unfold most at hb16; omega
 simp [← hm1, l1, hel, hml]
 have hP2n : m.n + 1 < m1.n := (st1.get 0 rfl).2.1
 by_cases hqq : q = q'
 rotate_left
 ·have hd : ((q : Int) = (q' : Int)) = False := eq_false (by omega)
  obtain ⟨m5, j1, j2, j3, j4⟩ := st1.fill 0 rfl (n := 2) (l' := [ed, md]) rfl rfl (by simp [hed.okV, hmd.okV])
  simp [hqq, hd, lb1, qf, j1]
  have hc : zo (es, ms) = (es, ms) := by unfold zo; rw [if_pos (by show es.length ≠ ms.length; omega)]
  exact QD (a := ⟨m.n + 1, 0, none⟩) (by simp) ((j2.get 0 rfl).2.2.loads (n := 2) (by simp)) j2.ext (hQ _ _ ⟨ed, md, by simp, by rw [hc]; exact hed.sees j2.sees, by rw [hc]; exact hmd.sees j2.sees⟩)
 subst hqq
 have st2 := st1.row [.slice none 0 0, .slice none 0 0]
 obtain ⟨m2, a1, a2, a3, a4⟩ := st2.fill 0 rfl (n := 2) (l' := [ed, md]) rfl rfl (by simp [hed.okV, hmd.okV])
 simp [lb1, qf, a1]
 obtain ⟨P3, hP3⟩ := qaj (m1.n)
 rw [← hP3] at a2
 have hPm : m.n + 1 < P3 := by omega
 let S : Nat → Cyc := fun k => (List.range k).foldl (kx (es, ms)) (es, ms)
 have hSl : ∀ k, (S k).1.length = es.length ∧ (S k).2.length = ms.length := fun k => bj (es, ms) (List.range k) (es, ms) rfl rfl
 have hS1 : S 1 = (es, ms) := by simp only [S]; show kx (es, ms) (es, ms) 0 = _; exact Wb _
 refine qm (c := YM) rfl (Ret m Q) (fun j t m' => (Tm.get 1 t = .pointer (some ⟨m.n, 0, none⟩) ∧ Tm.get 2 t = .pointer (some ⟨m.n + 1, 0, none⟩) ∧ Tm.get 3 t = .pointer (some ⟨P3, 0, none⟩)) ∧ Tm.get 4 t = iv (j + 1 : Nat) ∧
   ∃ w1 w2, St m m' [(P3, [w1, w2]), (m.n + 1, [.slice none 0 0, .slice none 0 0]), (m.n, [ed, md])] ∧ Rd m' w1 2 edgeRow (S (j + 1)).1 ∧ Rd m' w2 1 modeRow (S (j + 1)).2 ∧ (∀ B, blk w1 = some B → B ≠ m.n + 1 ∧ B ≠ P3) ∧ ∀ B, blk w2 = some B → B ≠ m.n + 1 ∧ B ≠ P3) (q - 1) (by omega)
  ⟨⟨by simp, by simp, by simp [hP3]⟩, by simp, ed, md, a2, by rw [hS1]; exact hed.sees a2.sees, by rw [hS1]; exact hmd.sees a2.sees, fun B hB => by have := hed.lt B hB; omega, fun B hB => by have := hmd.lt B hB; omega⟩ (fun j t m' kk hj hI hk => ?_)
 obtain ⟨⟨t1, t2, t3⟩, t4, w1, w2, st, rw1, rw2, fw1, fw2⟩ := hI
 obtain ⟨k, hkk⟩ := qaj (j + 1)
 rw [← hkk] at t4 rw1 rw2
 have lP : loads m' ⟨P3, 0, none⟩ 2 = some [w1, w2] := (st.get 0 rfl).2.2.loads (n := 2) (by simp)
 have lc1 : ∀ o s, load1 m' ⟨m.n, o, s⟩ = [ed, md][o]? := fun o s => (st.get 2 rfl).2.2.load1 o s
 have hP3m : P3 < m'.n := (st.get 0 rfl).2.1
 by_cases hil : k < q
 ·have hd := dlt hil
  have w1' := qJ (i := k) (by omega)
  have lc : loads m' ⟨m.n, 0, none⟩ 2 = some [ed, md] := (st.get 2 rfl).2.2.loads (n := 2) (by simp)
  obtain ⟨v5, m5, g1, g2, u1, u2, rfl, gu1, gu2⟩ := Yc n ed md es ms m' st.sees.base hb16 (by omega) (hed.sees st.sees) (hmd.sees st.sees) k (by omega)
  have stA := (st.step g2).row [.slice none 0 0, .slice none 0 0]
  obtain ⟨m6, j1, j2, j3, j4⟩ := stA.fill 0 rfl (n := 2) (l' := [u1, u2]) rfl rfl (by simp [gu1.okC, gu2.okC])
  have n5 := g2.n
  have keep56 : ∀ B, B < m5.n → m6.obj B = m5.obj B := fun B hB => by rw [j4 B (by omega)]; exact (Ext.row m5 _).obj B hB
  have n56 : m5.n ≤ m6.n := by rw [j3, qk]; omega
  have ru1 : Rd m6 u1 2 edgeRow (wJ k es) := (gu1.rd wQ).congr n56 fun B hB => keep56 B ((gu1.rd wQ).lt B hB)
  have ru2 : Rd m6 u2 1 modeRow (wJ k ms) := (gu2.rd kJ).congr n56 fun B hB => keep56 B ((gu2.rd kJ).lt B hB)
  have keep6 : ∀ B, B < m'.n → m6.obj B = m'.obj B := fun B hB => (keep56 B (by omega)).trans (g2.obj B hB)
  have rw16 : Rd m6 w1 2 edgeRow (S k).1 := rw1.congr (by omega) fun B hB => keep6 B (rw1.lt B hB)
  have rw26 : Rd m6 w2 1 modeRow (S k).2 := rw2.congr (by omega) fun B hB => keep6 B (rw2.lt B hB)
  have l5 : loads m6 ⟨m5.n, 0, none⟩ 2 = some [u1, u2] := (j2.get 0 rfl).2.2.loads (n := 2) (by simp)
  have l6 : loads m6 ⟨P3, 0, none⟩ 2 = some [w1, w2] := (j2.get 1 rfl).2.2.loads (n := 2) (by simp)
  obtain ⟨v7, m7, y1, y2, rfl⟩ := Bm n u1 u2 w1 w2 (wJ k es) (S k).1 (wJ k ms) (S k).2 m6 j2.sees.base (by rw [wO]; omega) (by rw [wO]; exact (hSl k).1) (by rw [wO, wO]; omega) (by rw [wO]; have := (hSl k).2; omega) ru1 ru2 rw16 rw26
  have hSk : S (k + 1) = kx (es, ms) (S k) k := by simp only [S]; rw [List.range_succ, List.foldl_append]; rfl
  rw [dJ] at hSk
  obtain ⟨O, hO⟩ := qaj (jJ (wJ k es, wJ k ms) ((S k).1, (S k).2))
  have hO' : jJ (vS (es, ms) k) (S k) = O := by rw [hO]; rfl
  rw [← hO] at y1
  rw [hO'] at hSk
  have stB := j2.step y2
  have S67 := j2.sees.self.ext y2
  have l7 : loads m7 ⟨m5.n, 0, none⟩ 2 = some [u1, u2] := (stB.get 0 rfl).2.2.loads (n := 2) (by simp)
  simp [t1, t3, t4, hd, lc1, hel, lc, qf, g1, j1, l5, l6, y1]
  cases O with
  | true =>
   obtain ⟨m8, z1, z2, z3, z4⟩ := stB.fill 1 rfl (n := 2) (l' := [u1, u2]) rfl rfl (by simp [gu1.okC, gu2.okC])
   have hS2 : S (k + 1) = vS (es, ms) k := by rw [hSk]; rfl
   simp [t3, t4, l7, qf, z1, w1']
   have low1 : ∀ B, blk u1 = some B → m'.n ≤ B := fun B hB => (grown_low gu1 B hB).1
   have low2 : ∀ B, blk u2 = some B → m'.n ≤ B := fun B hB => (grown_low gu2 B hB).1
   refine hk (by omega) _ _ ⟨⟨by simp [t1], by simp [t2], by simp [t3]⟩, by simp [hkk], u1, u2, ?_, ?_, ?_, fun B hB => ?_, fun B hB => ?_⟩
   ·exact z2.sub (fun p hp => by
     simp only [List.mem_cons, List.not_mem_nil, or_false] at hp
     rcases hp with rfl | rfl | rfl
     ·exact DX (i := 1) rfl
     ·exact DX (i := 2) rfl
     ·exact DX (i := 3) rfl) st.nd
   ·rw [← hkk, hS2]; exact (ru1.sees S67).congr (by rw [z3]; exact DZ _) fun B hB => z4 B (by have := low1 B hB; omega)
   ·rw [← hkk, hS2]; exact (ru2.sees S67).congr (by rw [z3]; exact DZ _) fun B hB => z4 B (by have := low2 B hB; omega)
   ·have := low1 B hB; have h1 : m.n + 1 < m'.n := (st.get 1 rfl).2.1; omega
   ·have := low2 B hB; have h1 : m.n + 1 < m'.n := (st.get 1 rfl).2.1; omega
  | false =>
   have hS2 : S (k + 1) = S k := by rw [hSk]; rfl
   simp [t4, w1']
   refine hk (by omega) _ _ ⟨⟨by simp [t1], by simp [t2], by simp [t3]⟩, by simp [hkk], w1, w2, ?_, ?_, ?_, fw1, fw2⟩
   ·exact stB.sub (fun p hp => by
     simp only [List.mem_cons, List.not_mem_nil, or_false] at hp
     rcases hp with rfl | rfl | rfl
     ·exact DX (i := 1) rfl
     ·exact DX (i := 2) rfl
     ·exact DX (i := 3) rfl) st.nd
   ·rw [← hkk, hS2]; exact rw16.sees S67
   ·rw [← hkk, hS2]; exact rw26.sees S67
 ·have hd : ((k : Int) < (q : Int)) = False := eq_false (by omega)
  obtain ⟨m5, j1, j2, j3, j4⟩ := st.fill 1 rfl (n := 2) (l' := [w1, w2]) rfl rfl (by simp [rw1.okV, rw2.okV])
  simp [t1, t2, t3, t4, lc1, hel, hd, lP, qf, j1]
  have hc : zo (es, ms) = S k := by
   unfold zo
   rw [if_neg (by show ¬ es.length ≠ ms.length; omega)]
   show (List.range es.length).foldl (kx (es, ms)) (es, ms) = S k
   by_cases h0 : q = 0
   ·have hk1 : k = 1 := by omega
    rw [hk1, hS1, ← hq, h0]; rfl
   ·have hkq : k = q := by omega
    rw [hkq, hq]
  refine QD (a := ⟨m.n + 1, 0, none⟩) (by simp [t2]) ((j2.get 1 rfl).2.2.loads (n := 2) (by simp)) j2.ext (hQ _ _ ⟨w1, w2, by simp, ?_, ?_⟩)
  ·rw [hc]; exact rw1.congr (by rw [j3]; exact DZ _) fun B hB => j4 B (fw1 B hB).1
  ·rw [hc]; exact rw2.congr (by rw [j3]; exact DZ _) fun B hB => j4 B (fw2 B hB).1
theorem bJ (n : Nat) (ed md ed' md' : Value) (es : List (Int × Int)) (ms : List Int) (m : M) (hm : m.base ≤ m.n) (hl : es.length < 4611686018427387904) (hl' : ms.length < 4611686018427387904) (hed : Rd m ed 2 edgeRow es) (hmd : Rd m md 1 modeRow ms) (hed' : Rd m ed' 2 edgeRow es) (hmd' : Rd m md' 1 modeRow ms) :
  CallV (ex Try.prog (n + 1)) 29 [.agg #[ed, md], .agg #[ed', md']] m (.bool true) := by
 refine qv db6_ok (by simp) ?_
 have st0 : St m m [] := St.nil hm (Ext.refl m)
 have st1 := (st0.row [ed, md]).row [ed', md']
 simp only [qk] at st1
 obtain ⟨m1, hm1⟩ := qaj (Dx.newRow (Dx.newRow m [ed, md]) [ed', md'])
 rw [← hm1] at st1
 have l1 : ∀ m'', Sees m1 m'' → ∀ o s, load1 m'' ⟨m.n, o, s⟩ = [ed, md][o]? := fun m'' k o s => by rw [qy k (st1.get 1 rfl).2.1]; exact (st1.get 1 rfl).2.2.load1 o s
 have l2 : ∀ m'', Sees m1 m'' → ∀ o s, load1 m'' ⟨m.n + 1, o, s⟩ = [ed', md'][o]? := fun m'' k o s => by rw [qy k (st1.get 0 rfl).2.1]; exact (st1.get 0 rfl).2.2.load1 o s
 have S1 := st1.sees.self
 have S01 := st1.sees
 have e1 := hed.len
 have e2 := hed'.len
 have f1 := hmd.len
 have f2 := hmd'.len
 obtain ⟨q, hq⟩ := qaj (es.length)
 obtain ⟨r, hr⟩ := qaj (ms.length)
 rw [← hq] at e1 e2 hl
 rw [← hr] at f1 f2 hl'
 simp (maxDischargeDepth := 30) [← hm1, l1, l2, S1, e1, e2, f1, f2]
 have eqE : ∀ x : Int × Int, wZ [1, 1] (edgeRow x) (edgeRow x) = some true := fun x => by unfold edgeRow; rw [wN, wN, xY]
 refine qm (c := YK) rfl (Ret m _) (fun i t m' => Tm.get 2 t = .pointer (some ⟨m.n, 0, none⟩) ∧ Tm.get 3 t = .pointer (some ⟨m.n + 1, 0, none⟩) ∧ Tm.get 5 t = iv i ∧ Ext m1 m') q (by omega)
  ⟨by simp, by simp, by simp, Ext.refl _⟩ (fun i t m' k hi hI hk => ?_)
 obtain ⟨t2, t3, t5, hE⟩ := hI
 have S' := S1.ext hE
 have l1' := l1 m' S'
 have l2' := l2 m' S'
 by_cases hil : i < q
 ·have hd := dlt hil
  have w1 := qJ (i := i) (by omega)
  obtain ⟨x, hx⟩ : ∃ x, es[i]? = some x := ⟨_, DW (by omega)⟩
  have ⟨a1, a2, _⟩ := (hed.sees (S01.trans S')).at hx
  have ⟨b1, b2, _⟩ := (hed'.sees (S01.trans S')).at hx
  have a2' := a2 m' S'.self
  have b2' := b2 m' S'.self
  simp [t2, t3, t5, l1', l2', e1, hd, a1, b1, qf, a2', b2', eqE x, w1]
  exact hk hil _ _ ⟨by simp [t2], by simp [t3], by simp, hE⟩
 obtain rfl : i = q := by omega
 have hd : ((i : Int) < (i : Int)) = False := eq_false (by omega)
 simp [t2, t3, t5, l1', e1, hd]
 refine qm (c := YL) rfl (Ret m _) (fun j t m' => Tm.get 2 t = .pointer (some ⟨m.n, 0, none⟩) ∧ Tm.get 3 t = .pointer (some ⟨m.n + 1, 0, none⟩) ∧ Tm.get 6 t = iv j ∧ Ext m1 m') r (by omega)
  ⟨by simp [t2], by simp [t3], by simp, hE⟩ (fun j t m' k hj hI hk => ?_)
 obtain ⟨t2, t3, t6, hE⟩ := hI
 have S' := S1.ext hE
 have l1' := l1 m' S'
 have l2' := l2 m' S'
 by_cases hjl : j < r
 ·have hd := dlt hjl
  have w1 := qJ (i := j) (by omega)
  obtain ⟨x, hx⟩ : ∃ x, ms[j]? = some x := ⟨_, DW (by omega)⟩
  have ⟨a1, a2⟩ := Rd.at1 (g := fun (x : Int) => iv x) (hmd.sees (S01.trans S')) hx
  have ⟨b1, b2⟩ := Rd.at1 (g := fun (x : Int) => iv x) (hmd'.sees (S01.trans S')) hx
  have a2' := a2 m' S'.self
  have b2' := b2 m' S'.self
  simp [t2, t3, t6, l1', l2', f1, hd, a1, b1, a2', b2', w1]
  exact hk hjl _ _ ⟨by simp [t2], by simp [t3], by simp, hE⟩
 obtain rfl : j = r := by omega
 have hd : ((j : Int) < (j : Int)) = False := eq_false (by omega)
 simp [t2, t6, l1', f1, hd]
 exact qH (st1.ext.trans hE) (by simp)
end Go.Sx
namespace Go.Dx
theorem zg {x : Ex} {g : Nat} {args : List Value} {m : M} {P : Value → M → Prop} (h : Dx.Call x g args (qi m) P) : ∃ v m', x.f g args (qi m) = some (v, m') ∧ m'.log = [] ∧ Ext m (behind m m') ∧ P v m' := by
 obtain ⟨v, m', h1, h2, h3⟩ := h
 exact ⟨v, m', h1, by rw [h2.log, qE], h2.behind, h3⟩
theorem Rd.behind {α : Type} {m m' : M} {v : Value} {e : Nat} {f : α → List Value} {l : List α} (h : Rd m' v e f l) : Rd (Dx.behind m m') v e f l := h.congr (by rw [qY]; exact DZ _) fun B _ => qC _ _ _
end Go.Dx
namespace Go.Sx
open Go.Dx Go.Proofs
def aw : Dx.Pre := ⟨15, [], .bool true, []⟩
noncomputable def xA (N : Nat) : Ex := ⟨fun g args m => bif Nat.beq g 15 then (exg Try.prog [aw] 1).f g args m else (ex Try.prog N).f g args m, (ex Try.prog N).y⟩
theorem WP (N g : Nat) (args : List Value) (m : M) (h : g ≠ 15) : (xA N).f g args m = (ex Try.prog N).f g args m := by
 show (bif Nat.beq g 15 then _ else _) = _
 rw [fM h]; rfl
theorem xA_aw (N : Nat) (m : M) : (xA N).f 15 [] m = some (.bool true, m) := rfl
theorem xA_ok (hP : Try.prog.follows .mixedOrders = true) (haw : PreOK Try.prog aw) (N : Nat) : jG Try.prog (xA N) := by
 refine ⟨fun g args m v m' h => ?_, (Xe hP N).y⟩
 change (bif Nat.beq g 15 then (exg Try.prog [aw] 1).f g args m else (ex Try.prog N).f g args m) = some (v, m') at h
 cases hb : Nat.beq g 15 with
 | true => rw [hb] at h; exact (exg_ok hP (l := [aw]) (fun p hp => by rw [qa3.1 hp]; exact haw) 1).f g args m v m' h
 | false => rw [hb] at h; exact (Xe hP N).f g args m v m' h
theorem step_ret {P : Program} {x : Ex} {g : Nat} {c : SC} {nt : Nat} {res : List RV} {args : List Value} {m : M} {Q : Value → M → Prop} (hd : wn P g = some ⟨c, nt, res⟩) (ha : args.length ≤ nt)
  (h : Ret m Q (c x (zq res) noK (zq res) (jQ .blank 0 args) m)) : Dx.Call (Ex.step P x) g args m Q := by
 obtain ⟨v, m', e, h1, h2⟩ := h
 refine ⟨v, m', ?_, h1, h2⟩
 show ob (wn P g) (yS x args m) = _
 rw [hd, qD, bQ _ _ _ _ _ _ ha]; exact e
end Go.Sx
