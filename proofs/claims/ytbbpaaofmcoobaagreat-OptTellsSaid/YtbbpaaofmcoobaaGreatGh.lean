/- Contracts. -/
import Derived.Test.YtbbpaaofmcoobaaGreatGg
import Derived.Test.YtbbpaaofmcoobaaGreatGb2
import Derived.Test.YtbbpaaofmcoobaaGreatGf
import Derived.Test.YtbbpaaofmcoobaaGreatGe
set_option linter.unusedVariables false
set_option linter.unusedSimpArgs false
set_option linter.defProp false
namespace Go.Dx
noncomputable section
def YU (m : M) : Option (Value × M) := some (.map (some m.n), m.alloc (.map []))
def lkS (z : Value) (ok : Bool) (x k : Value) (m : M) : Option (Value × M) := bif isInt k then ob (mapOf m x) fun es => ob (jl k es) fun r => some (found z ok r, m) else none
def mupS (x k v : Value) (m : M) : Option (Value × M) := ob (vMap x) fun B => ob (Kj (m.obj B)) fun es => ob (jd k v es) fun es' => some (undef, m.put B (.map es'))
@[simp] theorem mMkmap_ap (X : Ex) (t : Tm) (m : M) : fK X t m = YU m := _root_.id rfl
@[simp] theorem qa4 (z : Value) (ok : Bool) (x k : V) (X : Ex) (t : Tm) (m : M) : jY z ok x k X t m = lkS z ok (x t) (k t) m := _root_.id rfl
@[simp] theorem mMapup_ap (x k v : V) (X : Ex) (t : Tm) (m : M) : dh x k v X t m = mupS (x t) (k t) (v t) m := _root_.id rfl
def xO (l : List Nat) : List (Value × Value) := l.map fun k : Nat => (.int .i64 (k : Int), .bool true)
theorem Zo (a b : Nat) : bR (.int .i64 (a : Int)) (.int .i64 (b : Int)) = some (decide (a = b)) := by
 show (bif Nat.beq (ik .i64) (ik .i64) then some (eqI (a : Int) (b : Int)) else none) = _
 rw [Nat.beq_refl, cond_true, vc]
 congr 1
 exact decide_eq_decide.2 Int.ofNat_inj
theorem Qm (z : Nat) : ∀ l : List Nat, jl (.int .i64 (z : Int)) (xO l) = some (if z ∈ l then some (.bool true) else none)
 | [] => by simp [xO, jl]
 | k :: l => by
  show ob (bR (.int .i64 (z : Int)) (.int .i64 (k : Int))) _ = _
  rw [Zo, qy]
  by_cases h : z = k
  ·subst h; simp
  ·have ih := Qm z l
   simp only [decide_eq_false h, cond_false]
   show jl _ (xO l) = _
   rw [ih]; simp [h]
theorem KC (z : Nat) : ∀ l : List Nat, jd (.int .i64 (z : Int)) (.bool true) (xO l) = some (xO (if z ∈ l then l else l ++ [z]))
 | [] => by simp [xO, jd, isInt]
 | k :: l => by
  show ob (bR (.int .i64 (z : Int)) (.int .i64 (k : Int))) _ = _
  rw [Zo, qy]
  by_cases h : z = k
  ·subst h; simp [xO]
  ·have ih := KC z l
   simp only [decide_eq_false h, cond_false]
   show ob (jd _ _ (xO l)) _ = _
   rw [ih, qy]
   by_cases h2 : z ∈ l
   ·simp [h2, xO]
   ·simp [h, h2, xO]
section
variable {m : M} {B : Nat} {l : List Nat}
theorem lk_at (h : m.obj B = some (.map (xO l))) (z : Nat) : lkS (.bool false) false (.map (some B)) (.int .i64 (z : Int)) m = some (.bool (decide (z ∈ l)), m) := by
 show ob (Kj (m.obj B)) _ = _
 rw [h]
 show ob (jl (.int .i64 (z : Int)) (xO l)) _ = _
 rw [Qm, qy]
 by_cases hz : z ∈ l
 ·rw [if_pos hz, decide_eq_true hz]; rfl
 ·rw [if_neg hz, decide_eq_false hz]; rfl
theorem mup_at (h : m.obj B = some (.map (xO l))) (z : Nat) : mupS (.map (some B)) (.int .i64 (z : Int)) (.bool true) m = some (undef, m.put B (.map (xO (if z ∈ l then l else l ++ [z])))) := by
 show ob (Kj (m.obj B)) _ = _
 rw [h]
 show ob (jd (.int .i64 (z : Int)) (.bool true) (xO l)) _ = _
 rw [KC, qy]
end
theorem Ext.allocO (m : M) (o : jJ) : Ext m (m.alloc o) := ⟨by rw [M.n_alloc]; omega, fun B hB => by rw [M.obj_alloc, if_neg (by omega)], M.base_alloc _ _, M.log_alloc _ _⟩
theorem GE.cell {α : Type} {m0 m : M} {σ : List (Nat × List Value)} {v : Value} {e : Nat} {f : α → List Value} {es : List α} (h : GE m0 m σ v e f es) (hf : ∀ x, (f x).length = e) {i o : Nat} {x y : α} {val : Value} (hx : es[i]? = some x) (ho : o < e) (hv : okC val = true) (hy : f y = (f x).set o val) :
  ∃ B m', blk v = some B ∧ qZ e v (.int .i64 (i : Int)) = some (.pointer (some ⟨B, i * e, none⟩)) ∧ qH 1 (.pointer (some ⟨B, i * e + o, none⟩)) val m = some (undef, m') ∧ GE m0 m' σ v e f (es.set i y) ∧ m'.n = m.n ∧ ∀ X, X ≠ B → m'.obj X = m.obj X := by
 have hi := (qag.1 hx).1
 obtain ⟨B, c, L, hvB, hc, hc0, hL, s⟩ := h.done (by intro e0; rw [e0] at hi; simp at hi)
 have hle : i * e + o < (es.flatMap f).length := by rw [qX hf]; have := qb0 e (show i + 1 ≤ es.length by omega); rw [Nat.succ_mul] at this; omega
 obtain ⟨m', s1, s3, s4, s5⟩ := s.store 0 rfl (o := i * e + o) (v := val) (by rw [qao]; omega) hv
 have hia := ((h.gr.rd hf).row i x hx).1
 have had : adr e v i = ⟨B, i * e, none⟩ := by rw [hvB]; show (⟨B, 0 + i * e, none⟩ : Addr) = _; rw [Nat.zero_add]
 rw [had] at hia
 have s3' : St m0 m' ((B, (es.set i y).flatMap f ++ L) :: σ) := by
  have hst : (es.flatMap f ++ L).set (i * e + o) val = (es.set i y).flatMap f ++ L := by rw [List.set_append_left _ _ hle, Go.Sx.flat_setL hf es i o x y val hx ho hy]
  rw [← hst]; exact s3
 exact ⟨B, m', by rw [hvB]; rfl, hia, s1, h.rebuild hvB hc hc0 hL (by simp) s3', s4, s5⟩
end
end Go.Dx
namespace Go.Sx
open Go.Dx Go.Proofs
set_option maxRecDepth 10000
def wW (acs : List Ac) (z : Nat) : Bool := match acs[z]? with
 | some a => decide (a.op = 9)
 | none => false
def zJ (acs : List Ac) (z : Nat) : Nat := match acs[z]? with
 | some a => a.to.toNat
 | none => 0
def ko (acs : List Ac) : Nat → List Nat → Nat → Option Nat
 | 0, _, _ => none
 | f + 1, l, z => if wW acs z then (if z ∈ l then none else ko acs f (l ++ [z]) (zJ acs z)) else some z
def kT (acs : List Ac) (a : Ac) : Ac := if a.op = 9 ∨ a.op = 10 then (match ko acs (acs.length + 1) [] a.to.toNat with
 | some z => { a with to := (z : Int) }
 | none => a) else a
def chn (acs : List Ac) : List Ac := acs.map (kT acs)
theorem BZ {l : List Nat} {z : Nat} (h : z ∉ l) (n : Nat) : uns (fun y => decide (y ∈ l)) n = uns (fun y => decide (y ∈ l ++ [z])) n + (if z < n then 1 else 0) := by
 have := fA (s := fun y => decide (y ∈ l)) (x := z) (decide_eq_false h) n
 rw [this]
 congr 2
 funext y
 by_cases hy : y = z
 ·subst hy; rw [wX]; simp
 ·rw [kV _ _ hy]; simp [hy]
theorem Qn (n : Nat) (ed : Value) (es : List Ac) (hl : es.length ≤ 65536) (m : M) (hm : m.base ≤ m.n) (hed : Rd m ed 11 qe es) :
  Dx.Call (ex Tryz.prog (n + 1)) 62 [ed] m fun v m' => Rd m' v 11 qe es ∧ (∀ B, blk v = some B → m.n ≤ B) ∧ (es ≠ [] → Grown m m' v 11 qe es) ∧ (es = [] → v = .slice none 0 0 ∨ ∃ B, m.n ≤ B ∧ v = .slice (some ⟨B, 0, some (code 11 true)⟩) 0 0) := by
 refine qp dd3_ok (by simp) ?_
 have hel := hed.len
 have hn := KI hel
 obtain ⟨v', m', h1, h2, h3, h4, h5⟩ := vg hm hed qv 136 (by unfold qW; omega) (by omega)
 have hbs : kc 11 0 (rep 0 zAc) [] m = some (.slice (some ⟨m.n, 0, some (code 11 true)⟩) 0 0, Dx.newRow m []) := rfl
 simp [hn]
 cases ed with
 | slice a k c =>
  cases a with
  | none =>
   have : es = [] := by
    cases hc : es with
    | nil => rfl
    | cons x xs => have := (hed.row 0 x (by rw [hc]; rfl)).1; cases this
   subst this
   simp
   refine qh (by simp) ?_
   simp only [fx, reduceIte]
   have hnn : Rd m (.slice none 0 0) 11 qe [] := ku
   simp [hnn, blk]
  | some a =>
   simp [hbs, h1]
   refine qh h2 ?_
   simp only [fx, reduceIte]
   refine ⟨h3, fun B hB => (h4 B hB).1, fun hne => ?_, fun he => ?_⟩
   ·obtain rfl := h5 hne
    exact .inr ⟨m.n + 1, by omega, h3.lt _ rfl, hne, rfl, (h4 _ rfl).2⟩
   ·subst he
    have e := dT hm hed 136
    rw [h1] at e
    obtain ⟨rfl, rfl⟩ := Prod.mk.inj (Option.some.inj e)
    exact .inr ⟨m.n, qah _, rfl⟩
 | _ => cases hel
end Go.Sx
namespace Go.Dx
theorem GE.keepX {α : Type} {m0 m m' : M} {σ : List (Nat × List Value)} {g : Value} {e : Nat} {f : α → List Value} {rows : List α} (h : GE m0 m σ g e f rows) {X : Nat} (hX : m0.n ≤ X) (hs : ∀ p ∈ σ, p.1 ≠ X) (hg : blk g ≠ some X) (hn : m'.n = m.n) (hb : m'.base = m.base) (hl : m'.log = m.log) (ho : ∀ B, B ≠ X → m'.obj B = m.obj B) : GE m0 m' σ g e f rows := by
 have hE := h.st.ext
 refine ⟨h.st.keepOn ⟨by rw [hn]; exact hE.n, fun B hB => by rw [ho B (by omega)]; exact hE.obj B hB, hb.trans hE.base, hl.trans hE.log⟩ (by omega) fun p hp => ho p.1 (hs p hp), h.gr.keep (by omega) fun B _ hB => ho B fun e => hg (by rw [hB, e]), h.sep⟩
end Go.Dx
namespace Go.Sx
open Go.Dx Go.Proofs
set_option maxRecDepth 10000
theorem vR {acs : List Ac} {f z : Nat} {l : List Nat} (h : wW acs z = false) : ko acs (f + 1) l z = some z := by unfold ko; rw [h]; rfl
theorem vA {acs : List Ac} {f z : Nat} {l : List Nat} (h : wW acs z = true) (hz : z ∈ l) : ko acs (f + 1) l z = none := by unfold ko; rw [h, if_pos rfl, if_pos hz]
theorem dD {acs : List Ac} {f z : Nat} {l : List Nat} (h : wW acs z = true) (hz : z ∉ l) : ko acs (f + 1) l z = ko acs f (l ++ [z]) (zJ acs z) := by
 conv => lhs; unfold ko
 rw [h, if_pos rfl, if_neg hz]
theorem ZI {m0 m : M} {T : Nat} {sv : Value} {acs : List Ac} (h : TS m0 m T sv acs) (hto : ∀ a ∈ acs, (a.op = 9 ∨ a.op = 10) → 0 ≤ a.to ∧ a.to ≤ acs.length) (N : Nat) :
  ∃ v m', (ex Tryz.prog (N + 2)).f 111 [.pointer (some ⟨T, 0, none⟩)] m = some (v, m') ∧ TS m0 m' T sv (chn acs) ∧ m.n ≤ m'.n ∧ ∀ B, B < m.n → B ≠ T → blk sv ≠ some B → m'.obj B = m.obj B := by
 have hf := kM (P := Tryz.prog) (n := N + 1) (args := [.pointer (some ⟨T, 0, none⟩)]) (m := m) (Q := fun _ m' => TS m0 m' T sv (chn acs) ∧ m.n ≤ m'.n ∧ ∀ B, B < m.n → B ≠ T → blk sv ≠ some B → m'.obj B = m.obj B) df6_ok (by simp) ?_
 ·obtain ⟨v, m', h1, h2⟩ := hf; exact ⟨v, m', h1, h2⟩
 have hmb : m.base ≤ m.n := h.ge.st.sees.base
 obtain ⟨n, hn⟩ := qb8 (acs.length)
 have hnl : n ≤ 65536 := by rw [hn]; exact h.len
 have hTb := h.ge.st.get 0 rfl
 have lT0 : ∀ s, load1 m ⟨T, 0, s⟩ = some sv := fun s => hTb.2.2.load1 0 s
 obtain ⟨wv, m1, c1, c2, c3, c4, -, -⟩ := Qn N sv acs h.len m hmb (h.ge.gr.rd qv)
 have h1 := h.step c2
 have hwl : qL wv = some (.int .i64 (n : Int)) := by rw [hn]; exact c3.len
 have hmn := c2.n
 simp [lT0, c1, hwl]
 refine qq (c := YR) rfl (jc _) (fun i t m' => (∃ cur, TS m0 m' T sv cur ∧ cur.length = n ∧ (∀ (j : Nat) a b, cur[j]? = some a → acs[j]? = some b → a = if j < i then kT acs b else b) ∧ Rd m' wv 11 qe acs) ∧ m1.n ≤ m'.n ∧ (∀ B, B < m.n → B ≠ T → blk sv ≠ some B → m'.obj B = m.obj B) ∧ Tm.get 0 t = .pointer (some ⟨T, 0, none⟩) ∧ Tm.get 2 t = wv ∧ Tm.get 12 t = wv ∧ Tm.get 13 t = iv n ∧ Tm.get 14 t = iv i) n (by omega)
  ⟨⟨acs, h1, hn.symm, fun j a b ha hb => by rw [ha] at hb; cases hb; rw [if_neg (by omega)], c3⟩, qah _, (fun B hB _ _ => c2.obj B hB), by simp, by simp, by simp, by simp, by simp⟩ (fun i t m' k hi hI hk => ?_)
 obtain ⟨⟨cur, hc, hcl, hce, hw⟩, hn1, hfr, t0, t2, t12, t13, t14⟩ := hI
 by_cases hil : i < n
 ·have hd := dlt hil
  have ni := wj (i := i) (by omega)
  obtain ⟨a, ha⟩ : ∃ r, acs[i]? = some r := ⟨_, qae (by omega)⟩
  obtain ⟨cu, hcu⟩ : ∃ r, cur[i]? = some r := ⟨_, qae (by omega)⟩
  have hcua : cu = a := by have := hce i cu a hcu ha; rwa [if_neg (by omega)] at this
  subst hcua
  have ham := qaf ha
  have hacm := hc.ac cu (qaf hcu)
  have hmb' : m'.base ≤ m'.n := hc.ge.st.sees.base
  obtain ⟨a1, a2, _⟩ := hw.at ha
  have a2' := a2 m' (Sees.refl hmb')
  have g2 := hc.ge.row zAc
  obtain ⟨m2, hm2⟩ := qb8 (Dx.newRow m' zAc)
  rw [← hm2] at g2
  have n2 : m2.n = m'.n + 1 := by rw [hm2, qm]
  obtain ⟨m3, s1, s2, s3, s4⟩ := g2.fill 0 rfl (n := 11) (l' := qe cu) rfl rfl (qM hacm)
  have g3 : GE m0 m3 [(m'.n, qe cu), (T, [sv])] sv 11 qe cur := s2
  have o3 : ∀ X, X < m'.n → m3.obj X = m'.obj X := fun X hX => by rw [s4 X (by omega), hm2, (Ext.row _ _).obj X hX]
  have l3 : ∀ p s, load1 m3 ⟨m'.n, p, s⟩ = (qe cu)[p]? := fun p s => (g3.st.get 0 rfl).2.2.load1 p s
  simp only [qe] at l3
  have ac3 : ∀ c ∈ cur, AcOK m3 c := fun c hcm => (hc.ac c hcm).congr (by omega) fun X hX => o3 X ((hc.ac c hcm).lt hX)
  have w3 : Rd m3 wv 11 qe acs := hw.congr (by omega) fun B hB => o3 B (hw.lt B hB)
  have dropr : ∀ {mm}, GE m0 mm [(m'.n, qe cu), (T, [sv])] sv 11 qe cur → GE m0 mm [(T, [sv])] sv 11 qe cur := fun hg => hg.sub (fun q hq => qap _ hq) (by simp)
  have same : kT acs cu = cu → ∀ (j : Nat) c d, cur[j]? = some c → acs[j]? = some d → c = if j < i + 1 then kT acs d else d := fun hch j c d hcj hdj => by
   by_cases hji : j = i
   ·subst hji
    rw [hcu] at hcj; rw [ha] at hdj; cases hcj; cases hdj
    rw [if_pos (by omega), hch]
   ·rw [hce j c d hcj hdj]
    by_cases h1 : j < i
    ·rw [if_pos h1, if_pos (by omega)]
    ·rw [if_neg h1, if_neg (by omega)]
  by_cases hjz : cu.op = 9 ∨ cu.op = 10
  case neg =>
   have d9 : decide (cu.op = 9) = false := decide_eq_false fun h => hjz (.inl h)
   have d10 : decide (cu.op = 10) = false := decide_eq_false fun h => hjz (.inr h)
   have hch : kT acs cu = cu := by unfold kT; rw [if_neg hjz]
   simp [t0, t2, t12, t13, t14, hd, ni, a1, a2', qf, ← hm2, s1, l3, d9, d10]
   exact hk hil _ _ ⟨⟨cur, ⟨dropr g3, ac3, hc.sep, hc.len⟩, hcl, same hch, w3⟩, by omega, fun B hB hBT hBs => by rw [o3 B (by omega)]; exact hfr B hB hBT hBs, by simp [t0], by simp [t2], by simp [t12], by simp [t13], by simp⟩
  have htz := hto cu ham hjz
  obtain ⟨z0, hz0⟩ : ∃ z : Nat, cu.to = z := ⟨cu.to.toNat, by omega⟩
  obtain ⟨Bm, hBm⟩ := qb8 (m3.n)
  obtain ⟨m4, hm4⟩ := qb8 (m3.alloc (.map (xO [])))
  have mk4 : YU m3 = some (.map (some Bm), m4) := by rw [hBm, hm4]; rfl
  have E4 : Ext m3 m4 := by rw [hm4]; exact Ext.allocO _ _
  have n4 : m4.n = m3.n + 1 := by rw [hm4, M.n_alloc]
  have ob4 : m4.obj Bm = some (.map (xO [])) := by rw [hm4, M.obj_alloc, if_pos hBm]
  have g4 := g3.step E4
  have l4 : ∀ p s, load1 m4 ⟨m'.n, p, s⟩ = (qe cu)[p]? := fun p s => (g4.st.get 0 rfl).2.2.load1 p s
  simp only [qe] at l4
  rw [hz0] at l4
  have w4 : Rd m4 wv 11 qe acs := w3.sees ((Sees.refl g3.st.sees.base).ext E4)
  have ac4 : ∀ c ∈ cur, AcOK m4 c := fun c hcm => (ac3 c hcm).sees ((Sees.refl g3.st.sees.base).ext E4)
  have hwB : ∀ B, blk wv = some B → B < m3.n := w3.lt
  have hop : decide (cu.op = 9) = true ∨ (decide (cu.op = 9) = false ∧ decide (cu.op = 10) = true) := by
   rcases hjz with e | e
   ·exact .inl (decide_eq_true e)
   ·exact .inr ⟨decide_eq_false (by omega), decide_eq_true e⟩
  have hch0 : kT acs cu = match ko acs (n + 1) [] z0 with
   | some z => { cu with to := (z : Int) }
   | none => cu := by
    unfold kT
    rw [if_pos hjz, hz0, qat, hn]
    all_goals (cases ko acs (acs.length + 1) [] z0 <;> rfl)
  have nxt : ∀ (mm : M) (cur' : List Ac) (t5 : Tm), m4.n ≤ mm.n → TS m0 mm T sv cur' → cur'.length = n → (∀ (j : Nat) c d, cur'[j]? = some c → acs[j]? = some d → c = if j < i + 1 then kT acs d else d) → Rd mm wv 11 qe acs → (∀ B, B < m.n → B ≠ T → blk sv ≠ some B → mm.obj B = m.obj B) →
    Tm.get 0 t5 = .pointer (some ⟨T, 0, none⟩) → Tm.get 2 t5 = wv → Tm.get 12 t5 = wv → Tm.get 13 t5 = iv n → Tm.get 14 t5 = iv i →
    jc (fun _ m' => TS m0 m' T sv (chn acs) ∧ m.n ≤ m'.n ∧ ∀ B, B < m.n → B ≠ T → blk sv ≠ some B → m'.obj B = m.obj B) (dU (yb fU) (ex Tryz.prog (N + 1)) k (yg 0 (kD []) noK) (kD []) t5 mm) := fun mm cur' t5 hnn hts hl hcc hww hff e0 e2 e12 e13 e14 => by
   simp [e14, ni]
   exact hk hil _ _ ⟨⟨cur', hts, hl, hcc, hww⟩, by omega, hff, by simp [e0], by simp [e2], by simp [e12], by simp [e13], by simp⟩
  obtain ⟨A, hA⟩ : ∃ A, blk sv = some A := by
   obtain ⟨B, c, L, e1, _⟩ := hc.ge.done (by intro e; rw [e] at hcu; simp at hcu)
   exact ⟨B, by rw [e1]; rfl⟩
  have hAlt : A < m.n := (h.ge.gr.low A hA).2
  have hjump : ∀ z, wW acs z = true → z < n := fun z hz => by
   unfold wW at hz
   cases hq : acs[z]? with
   | none => rw [hq] at hz; cases hz
   | some a => have := (qag.1 hq).1; omega
  have way : ∀ t4, Tm.get 0 t4 = .pointer (some ⟨T, 0, none⟩) → Tm.get 2 t4 = wv → Tm.get 3 t4 = iv i → Tm.get 5 t4 = .map (some Bm) → Tm.get 6 t4 = iv z0 → Tm.get 12 t4 = wv → Tm.get 13 t4 = iv n → Tm.get 14 t4 = iv i →
    jc (fun _ m' => TS m0 m' T sv (chn acs) ∧ m.n ≤ m'.n ∧ ∀ B, B < m.n → B ≠ T → blk sv ≠ some B → m'.obj B = m.obj B) (Zw (ex Tryz.prog (N + 1)) (dU (yb fU) (ex Tryz.prog (N + 1)) k (yg 0 (kD []) noK) (kD [])) (yg 1 (dU (yb fU) (ex Tryz.prog (N + 1)) k (yg 0 (kD []) noK) (kD [])) (yg 0 (kD []) noK)) (kD []) t4 m4) := by
   intro t4 e0 e2 e3 e5 e6 e12 e13 e14
   simp
   refine qq (c := cf6_9) rfl (jc _) (fun j t mm => ∃ l z, mm.n = m4.n ∧ mm.base = m4.base ∧ mm.log = m4.log ∧ (∀ B, B ≠ Bm → mm.obj B = m4.obj B) ∧ mm.obj Bm = some (.map (xO l)) ∧ (∀ x ∈ l, wW acs x = true) ∧ z ≤ n ∧ ko acs (n + 1 - j) l z = ko acs (n + 1) [] z0 ∧ uns (fun y => decide (y ∈ l)) n + j ≤ n ∧
     Tm.get 0 t = .pointer (some ⟨T, 0, none⟩) ∧ Tm.get 2 t = wv ∧ Tm.get 3 t = iv i ∧ Tm.get 5 t = .map (some Bm) ∧ Tm.get 6 t = iv z ∧ Tm.get 12 t = wv ∧ Tm.get 13 t = iv n ∧ Tm.get 14 t = iv i) n (by omega)
    ⟨[], z0, rfl, rfl, rfl, fun _ _ => rfl, ob4, (fun x hx => by cases hx), by omega, rfl, by have := WC (fun y => decide (y ∈ ([] : List Nat))) n; omega, e0, e2, e3, e5, e6, e12, e13, e14⟩ (fun j t mm k3 hj hJ hk3 => ?_)
   obtain ⟨l, z, q1, q2, q3, q4, q5, q6, q7, q8, q9, e0, e2, e3, e5, e6, e12, e13, e14⟩ := hJ
   have hBge : m'.n ≤ Bm := by omega
   have hmb4 : m4.base ≤ m4.n := g4.st.sees.base
   have wm : Rd mm wv 11 qe acs := w4.congr (by omega) fun B hB => q4 B (by have := hwB B hB; omega)
   have gm : GE m0 mm [(T, [sv])] sv 11 qe cur := (dropr g4).keepX (X := Bm) (by have := g3.st.ext.n; omega) (fun p hp => by rw [qal.1 hp]; have := (hc.ge.st.get 0 rfl).2.1; show T ≠ Bm; omega) (by rw [hA]; intro e; cases e; omega) q1 q2 q3 q4
   have acm : ∀ c ∈ cur, AcOK mm c := fun c hcm => (ac4 c hcm).congr (by omega) fun X hX => q4 X (by have := (hc.ac c hcm).lt hX; omega)
   have frm : ∀ B, B < m.n → B ≠ T → blk sv ≠ some B → mm.obj B = m.obj B := fun B hB hBT hBs => by rw [q4 B (by omega), E4.obj B (by omega), o3 B (by omega)]; exact hfr B hB hBT hBs
   have lk := lk_at q5 z
   have fin1 : ∀ t6, wW acs z = false → Tm.get 0 t6 = .pointer (some ⟨T, 0, none⟩) → Tm.get 2 t6 = wv → Tm.get 3 t6 = iv i → Tm.get 6 t6 = iv z → Tm.get 12 t6 = wv → Tm.get 13 t6 = iv n → Tm.get 14 t6 = iv i → ∃ B mf, qZ 11 sv (.int .i64 (i : Int)) = some (.pointer (some ⟨B, i * 11, none⟩)) ∧ qH 1 (.pointer (some ⟨B, i * 11 + 8, none⟩)) (iv z) mm = some (undef, mf) ∧ ∀ t7, Tm.get 0 t7 = .pointer (some ⟨T, 0, none⟩) → Tm.get 2 t7 = wv → Tm.get 12 t7 = wv → Tm.get 13 t7 = iv n → Tm.get 14 t7 = iv i →
     jc (fun _ m' => TS m0 m' T sv (chn acs) ∧ m.n ≤ m'.n ∧ ∀ B, B < m.n → B ≠ T → blk sv ≠ some B → m'.obj B = m.obj B) (dU (yb fU) (ex Tryz.prog (N + 1)) k (yg 0 (kD []) noK) (kD []) t7 mf) := fun t6 hjm f0 f2 f3 f6 f12 f13 f14 => by
    have hch : kT acs cu = { cu with to := (z : Int) } := by
     rw [hch0, ← q8, show n + 1 - j = (n - j) + 1 by omega, vR hjm]
    obtain ⟨B, mf, hB, ia, y1, y2, y3, y4⟩ := gm.cell qv hcu (o := 8) (y := { cu with to := (z : Int) }) (val := iv z) (by omega) rfl rfl
    obtain rfl : B = A := by rw [hA] at hB; exact (Option.some.inj hB).symm
    refine ⟨B, mf, ia, y1, fun t7 h0 h2 h12 h13 h14 => nxt mf (cur.set i { cu with to := (z : Int) }) t7 (by omega) ⟨y2, fun c hcm => ?_, fun c hcm X hX => ?_, by simpa using hc.len⟩ (by simpa using hcl) (fun j c d hcj hdj => ?_) (wm.congr (by omega) fun X hX => y4 X fun e => ?_) (fun X hX hXT hXs => by rw [y4 X fun e => hXs (by rw [e]; exact hA)]; exact frm X hX hXT hXs) h0 h2 h12 h13 h14⟩
    ·rcases qas hcm with hcc | rfl
     ·exact (acm c hcc).congr (by omega) fun X hX => y4 X fun e => (hc.sep c hcc X hX).2 (by rw [e]; exact hA)
     ·have := (acm cu (qaf hcu)).congr (m' := mf) (by omega) fun X hX => y4 X fun e => (hc.sep cu (qaf hcu) X hX).2 (by rw [e]; exact hA)
      exact ⟨this.ix, this.ev, this.fv, this.ixl, this.evl, this.fvl⟩
    ·rcases qas hcm with hcc | rfl
     ·exact hc.sep c hcc X hX
     ·exact hc.sep cu (qaf hcu) X hX
    ·by_cases hji : i = j
     ·subst hji
      rw [qaz (by omega)] at hcj
      cases hcj
      rw [ha] at hdj; cases hdj
      rw [if_pos (by omega), hch]
     ·rw [qb5 hji] at hcj
      rw [hce j c d hcj hdj]
      by_cases h1 : j < i
      ·rw [if_pos h1, if_pos (by omega)]
      ·rw [if_neg h1, if_neg (by omega)]
    ·have := c4 X hX; omega
   have lTm : ∀ s, load1 mm ⟨T, 0, s⟩ = some sv := fun s => (gm.st.get 0 rfl).2.2.load1 0 s
   by_cases hzn : z < n
   ·have hdz := dlt hzn
    have hdz' : (z < n) = True := eq_true hzn
    have hdne : decide ((z : Int) = (n : Int)) = false := decide_eq_false (by omega)
    have hdne' : decide (z = n) = false := decide_eq_false (by omega)
    obtain ⟨az, haz⟩ : ∃ r, acs[z]? = some r := ⟨_, qae (by omega)⟩
    obtain ⟨b1, _, b3⟩ := wm.at haz
    have b0 : ∀ s, load1 mm ⟨(adr 11 wv z).block, (adr 11 wv z).off, s⟩ = some (.int .i64 az.op) := fun s => b3 mm 0 s (Sees.refl gm.st.sees.base) (by simp [qe])
    have b8 : ∀ s, load1 mm ⟨(adr 11 wv z).block, (adr 11 wv z).off + 8, s⟩ = some (.int .i64 az.to) := fun s => b3 mm 8 s (Sees.refl gm.st.sees.base) (by simp [qe])
    have hjz' : wW acs z = decide (az.op = 9) := by unfold wW; rw [haz]
    by_cases h9 : az.op = 9
    ·have hj9 : wW acs z = true := by rw [hjz', decide_eq_true h9]
     rw [h9] at b0
     by_cases hzl : z ∈ l
     ·rw [decide_eq_true hzl] at lk
      have hch : kT acs cu = cu := by
       rw [hch0, ← q8, show n + 1 - j = (n - j) + 1 by omega, vA hj9 hzl]
      simp [e0, e2, e3, e5, e6, hwl, hdz, hdz', b1, b0, lk, hdne, hdne']
      exact nxt mm cur _ (by omega) ⟨gm, acm, hc.sep, hc.len⟩ hcl (same hch) wm frm (by simp [e0]) (by simp [e2]) (by simp [e12]) (by simp [e13]) (by simp [e14])
     ·rw [decide_eq_false hzl] at lk
      have mu := mup_at q5 z
      rw [if_neg hzl] at mu
      have hazt := hto az (qaf haz) (.inl h9)
      obtain ⟨z1, hz1⟩ : ∃ z : Nat, az.to = z := ⟨az.to.toNat, by omega⟩
      rw [hz1] at b8
      have hux := BZ hzl n
      rw [if_pos hzn] at hux
      obtain ⟨mp, hmp⟩ := qb8 (mm.put Bm (.map (xO (l ++ [z]))))
      rw [← hmp] at mu
      have op : ∀ B, B ≠ Bm → mp.obj B = mm.obj B := fun B hB => by rw [hmp, M.obj_put, if_neg hB]
      have np : mp.n = mm.n := by rw [hmp, M.n_put]
      have bp : mp.base = mm.base := by rw [hmp, M.base_put]
      have lp : mp.log = mm.log := by
       have : mp.log = note mm.base Bm mm.log := by rw [hmp]; cases mm; rfl
       rw [this, vT (by rw [q2]; have := g4.st.ext.base; have := g4.st.base; have := g3.st.ext.n; omega)]
      have wp : Rd mp wv 11 qe acs := wm.congr (by omega) fun B hB => op B (by have := hwB B hB; omega)
      obtain ⟨_, _, b3p⟩ := wp.at haz
      have hmbp : mp.base ≤ mp.n := by rw [np, bp]; exact gm.st.sees.base
      have b8p : ∀ s, load1 mp ⟨(adr 11 wv z).block, (adr 11 wv z).off + 8, s⟩ = some (.int .i64 az.to) := fun s => b3p mp 8 s (Sees.refl hmbp) (by simp [qe])
      rw [hz1] at b8p
      simp [e0, e2, e3, e5, e6, hwl, hdz, hdz', b1, b0, lk, mu, b8p]
      have hnx : zJ acs z = z1 := by unfold zJ; rw [haz]; simp [hz1]
      refine hk3 (by omega) _ _ ⟨l ++ [z], z1, by omega, by rw [bp, q2], by rw [lp, q3], fun B hB => by rw [op B hB, q4 B hB], by rw [hmp, M.obj_put, if_pos rfl], fun x hx => ?_, by omega, ?_, by omega, by simp [e0], by simp [e2], by simp [e3], by simp [e5], by simp, by simp [e12], by simp [e13], by simp [e14]⟩
      ·rcases qb6.1 hx with hx | hx
       ·exact q6 x hx
       ·rw [qal.1 hx]; exact hj9
      ·rw [← q8, show n + 1 - j = (n - j) + 1 by omega, dD hj9 hzl, hnx, show n + 1 - (j + 1) = n - j by omega]
    ·have hj9 : wW acs z = false := by rw [hjz', decide_eq_false h9]
     have d9 : decide (az.op = 9) = false := decide_eq_false h9
     have hzl : z ∉ l := fun hz => by have := q6 z hz; rw [hj9] at this; cases this
     rw [decide_eq_false hzl] at lk
     obtain ⟨B, mf, ia, y1, go⟩ := fin1 t hj9 e0 e2 e3 e6 e12 e13 e14
     simp [e0, e2, e3, e5, e6, hwl, hdz, hdz', b1, b0, d9, lk, hdne, hdne', lTm, ia, y1]
     exact go _ (by simp [e0]) (by simp [e2]) (by simp [e12]) (by simp [e13]) (by simp [e14])
   ·obtain rfl : z = n := by omega
    have hdz : ((z : Int) < (z : Int)) = False := eq_false (by omega)
    have hj9 : wW acs z = false := by
     cases hq : wW acs z with
     | false => rfl
     | true => have := hjump z hq; omega
    obtain ⟨B, mf, ia, y1, go⟩ := fin1 t hj9 e0 e2 e3 e6 e12 e13 e14
    simp [e0, e2, e3, e5, e6, hwl, hdz, lTm, ia, y1]
    exact go _ (by simp [e0]) (by simp [e2]) (by simp [e12]) (by simp [e13]) (by simp [e14])
  rcases hop with d9 | ⟨d9, d10⟩
  ·simp [t0, t2, t12, t13, t14, hd, a1, a2', qf, ← hm2, s1, l3, d9, mk4, l4, -Qr]
   exact way _ (by simp [t0]) (by simp [t2]) (by simp) (by simp) (by simp) (by simp [t12]) (by simp [t13]) (by simp [t14])
  ·simp [t0, t2, t12, t13, t14, hd, a1, a2', qf, ← hm2, s1, l3, d9, d10, mk4, l4, -Qr]
   exact way _ (by simp [t0]) (by simp [t2]) (by simp) (by simp) (by simp) (by simp [t12]) (by simp [t13]) (by simp [t14])
 ·obtain rfl : i = n := by omega
  have hd : ((i : Int) < (i : Int)) = False := eq_false (by omega)
  have hcur : cur = chn acs := by
   refine List.ext_getElem? fun j => ?_
   unfold chn
   rw [qaw]
   by_cases hj : j < i
   ·obtain ⟨a, ha⟩ : ∃ r, cur[j]? = some r := ⟨_, qae (by omega)⟩
    obtain ⟨b, hb⟩ : ∃ r, acs[j]? = some r := ⟨_, qae (by omega)⟩
    rw [ha, hb, hce j a b ha hb, if_pos hj]; rfl
   ·rw [qb3 (by omega), qb3 (by omega)]; rfl
  simp [t13, t14, hd]
  exact yh ⟨by rw [← hcur]; exact hc, by omega, hfr⟩
end Go.Sx
namespace Go.Sx
open Go.Dx Go.Proofs
set_option maxRecDepth 10000
structure AI (acs : List Ac) : Prop where
 to : ∀ a ∈ acs, (a.op = 9 ∨ a.op = 10) → 0 ≤ a.to ∧ a.to ≤ acs.length
 ne : ∀ a ∈ acs, (a.op = 10 ∨ a.op = 3) → a.es ≠ []
 ln : ∀ a ∈ acs, a.es.length ≤ 65536
 ds : ∀ a ∈ acs, a.op = 2 → 0 ≤ a.dst ∧ a.dst < 1000000
theorem yN (o : Nat → Bool) {i j : Nat} (h : i ≤ j) : kb o i ≤ kb o j := by
 induction j with
 | zero => rw [show i = 0 by omega]; exact qah _
 | succ j ih =>
  by_cases e : i = j + 1
  ·rw [e]; exact qah _
  ·refine qaq (ih (by omega)) ?_
   show kb o j ≤ kb o j + _
   omega
theorem vx (o : Nat → Bool) (a : Ac) : (wV o a).op = a.op ∧ (wV o a).es = a.es ∧ (wV o a).dst = a.dst ∧ ((a.op = 9 ∨ a.op = 10) → (wV o a).to = (kb o a.to.toNat : Nat)) := by
 unfold wV
 by_cases h : a.op = 9 ∨ a.op = 10
 ·rw [if_pos h]; exact ⟨rfl, rfl, rfl, fun _ => rfl⟩
 ·rw [if_neg h]; exact ⟨rfl, rfl, rfl, fun h' => absurd h' h⟩
theorem AI.wo {acs : List Ac} (h : AI acs) (o : Nat → Bool) : AI (wo o acs) := by
 have hl : (Go.Sx.wo o acs).length = kb o acs.length := by unfold Go.Sx.wo; rw [List.length_map, zA (qah _)]
 refine ⟨fun a ha hop => ?_, fun a ha hop => ?_, fun a ha => ?_, fun a ha hop => ?_⟩
 ·obtain ⟨b, hb, rfl⟩ := za ha
  obtain ⟨e1, e2, e3, e4⟩ := vx o b
  rw [e1] at hop
  rw [e4 hop, hl]
  have := h.to b hb hop
  have := yN o (show b.to.toNat ≤ acs.length by omega)
  omega
 ·obtain ⟨b, hb, rfl⟩ := za ha
  obtain ⟨e1, e2, e3, e4⟩ := vx o b
  rw [e1] at hop; rw [e2]; exact h.ne b hb hop
 ·obtain ⟨b, hb, rfl⟩ := za ha
  obtain ⟨e1, e2, e3, e4⟩ := vx o b
  rw [e2]; exact h.ln b hb
 ·obtain ⟨b, hb, rfl⟩ := za ha
  obtain ⟨e1, e2, e3, e4⟩ := vx o b
  rw [e1] at hop; rw [e3]; exact h.ds b hb hop
theorem AI.leq {ps qs : List Ac} (h : AI qs) (k : LEq ps qs) : AI ps := by
 have key : ∀ a ∈ ps, ∃ b ∈ qs, AcEq a b := fun a ha => by
  obtain ⟨j, hj⟩ := qb1 ha
  obtain ⟨b, hb⟩ : ∃ b, qs[j]? = some b := ⟨_, qae (by rw [← k.len]; exact (qag.1 hj).1)⟩
  exact ⟨b, qaf hb, k.get j a b hj hb⟩
 refine ⟨fun a ha hop => ?_, fun a ha hop => ?_, fun a ha => ?_, fun a ha hop => ?_⟩
 ·obtain ⟨b, hb, x, y, z, rfl⟩ := key a ha; rw [k.len]; exact h.to b hb hop
 ·obtain ⟨b, hb, x, y, z, rfl⟩ := key a ha; exact h.ne b hb hop
 ·obtain ⟨b, hb, x, y, z, rfl⟩ := key a ha; exact h.ln b hb
 ·obtain ⟨b, hb, x, y, z, rfl⟩ := key a ha; exact h.ds b hb hop
theorem AI.br {acs : List Ac} (h : AI acs) : AI (acs.map wT) := by
 have key : ∀ a ∈ acs.map wT, ∃ b ∈ acs, a = b ∨ (a = kF b ∧ b.op = 10) := fun a ha => by
  obtain ⟨b, hb, rfl⟩ := List.mem_map.1 ha
  refine ⟨b, hb, ?_⟩
  unfold wT
  split
  ·rename_i hh; exact .inr ⟨rfl, by have := hh.1; unfold jQ at this; simp at this; exact this.1⟩
  ·exact .inl rfl
 refine ⟨fun a ha hop => ?_, fun a ha hop => ?_, fun a ha => ?_, fun a ha hop => ?_⟩
 ·obtain ⟨b, hb, rfl | ⟨rfl, h10⟩⟩ := key a ha
  ·rw [List.length_map]; exact h.to _ hb hop
  ·rw [List.length_map]; exact h.to b hb (.inr h10)
 ·obtain ⟨b, hb, rfl | ⟨rfl, h10⟩⟩ := key a ha
  ·exact h.ne _ hb hop
  ·simp [kF] at hop
 ·obtain ⟨b, hb, rfl | ⟨rfl, h10⟩⟩ := key a ha
  ·exact h.ln _ hb
  ·simp [kF]
 ·obtain ⟨b, hb, rfl | ⟨rfl, h10⟩⟩ := key a ha
  ·exact h.ds _ hb hop
  ·simp [kF] at hop
theorem Ku {acs : List Ac} (h : ∀ a ∈ acs, (a.op = 9 ∨ a.op = 10) → 0 ≤ a.to ∧ a.to ≤ acs.length) : ∀ (f : Nat) (l : List Nat) (z e : Nat), z ≤ acs.length → ko acs f l z = some e → e ≤ acs.length
 | 0, _, _, _, _, hc => by cases hc
 | f + 1, l, z, e, hz, hc => by
  cases hj : wW acs z with
  | false => rw [vR hj] at hc; cases hc; exact hz
  | true =>
   by_cases hl : z ∈ l
   ·rw [vA hj hl] at hc; cases hc
   ·rw [dD hj hl] at hc
    refine Ku h f _ _ e ?_ hc
    unfold wW at hj
    unfold zJ
    cases hq : acs[z]? with
    | none => simp
    | some a =>
     rw [hq] at hj
     have := h a (qaf hq) (.inl (by simpa using hj))
     simp only; omega
theorem AI.ch {acs : List Ac} (h : AI acs) : AI (chn acs) := by
 have key : ∀ a ∈ chn acs, ∃ b ∈ acs, ∃ z, a = { b with to := z } ∧ ((b.op = 9 ∨ b.op = 10) → 0 ≤ z ∧ z ≤ acs.length) := fun a ha => by
  obtain ⟨b, hb, rfl⟩ := List.mem_map.1 ha
  unfold kT
  by_cases hop : b.op = 9 ∨ b.op = 10
  ·rw [if_pos hop]
   have hbt := h.to b hb hop
   cases hc : ko acs (acs.length + 1) [] b.to.toNat with
   | none => exact ⟨b, hb, b.to, rfl, fun _ => hbt⟩
   | some e =>
    have := Ku h.to _ _ _ e (by omega) hc
    exact ⟨b, hb, (e : Int), rfl, fun _ => ⟨by omega, by omega⟩⟩
  ·rw [if_neg hop]; exact ⟨b, hb, b.to, rfl, fun h' => absurd h' hop⟩
 have hl : (chn acs).length = acs.length := by unfold chn; simp
 refine ⟨fun a ha hop => ?_, fun a ha hop => ?_, fun a ha => ?_, fun a ha hop => ?_⟩
 ·obtain ⟨b, hb, z, rfl, hz⟩ := key a ha; rw [hl]; exact hz hop
 ·obtain ⟨b, hb, z, rfl, hz⟩ := key a ha; exact h.ne b hb hop
 ·obtain ⟨b, hb, z, rfl, hz⟩ := key a ha; exact h.ln b hb
 ·obtain ⟨b, hb, z, rfl, hz⟩ := key a ha; exact h.ds b hb hop
theorem DL {e : List Nd} (h : Ex24 e) (hne : e ≠ []) : wM e ≠ [] := by
 rcases h with rfl | h
 ·exact absurd rfl hne
 ·obtain ⟨x1, x2, x3⟩ := wR h
  have := (zW x3 e.length (e.length - 1) [] (by omega) (by omega)).pre
  unfold wM
  rw [if_neg hne]
  obtain ⟨x, h1, h2⟩ := this
  rw [h1]; simpa using h2
theorem KN {e : List Nd} (h : Ex24 e) : (wM e).length ≤ e.length := by
 rcases h with rfl | h
 ·simp [wM]
 ·obtain ⟨x1, x2, x3⟩ := wR h
  have := (zW x3 e.length (e.length - 1) [] (by omega) (by omega)).len
  rw [xB h] at this
  unfold wM
  split
  ·simp
  ·simpa using this
theorem AI.fo {acs : List Ac} (h : AI acs) (hx : ∀ a ∈ acs, Ex24 a.ixs ∧ Ex24 a.es ∧ Ex24 a.fs) : AI (acs.map wh) := by
 refine ⟨fun a ha hop => ?_, fun a ha hop => ?_, fun a ha => ?_, fun a ha hop => ?_⟩ <;> obtain ⟨b, hb, rfl⟩ := List.mem_map.1 ha
 ·rw [List.length_map]; exact h.to b hb hop
 ·exact DL (hx b hb).2.1 (h.ne b hb hop)
 ·exact qaq (KN (hx b hb).2.1) (h.ln b hb)
 ·exact h.ds b hb hop
theorem LEq.mapL {ps qs : List Ac} (h : LEq ps qs) {f g : Ac → Ac} (hfg : ∀ a b, AcEq a b → AcEq (f a) (g b)) : LEq (ps.map f) (qs.map g) := by
 refine ⟨by simp [h.len], fun j a b ha hb => ?_⟩
 rw [qaw] at ha hb
 cases hp : ps[j]? with
 | none => rw [hp] at ha; cases ha
 | some x =>
  cases hq : qs[j]? with
  | none => rw [hq] at hb; cases hb
  | some y => rw [hp] at ha; rw [hq] at hb; cases ha; cases hb; exact hfg x y (h.get j x y hp hq)
theorem LEq.atI {ps qs : List Ac} (h : LEq ps qs) (i : Nat) : (ps[i]? = none ∧ qs[i]? = none) ∨ ∃ a b, ps[i]? = some a ∧ qs[i]? = some b ∧ AcEq a b := by
 cases hp : ps[i]? with
 | none => exact .inl ⟨rfl, by rw [List.getElem?_eq_none_iff] at hp ⊢; rw [← h.len]; exact hp⟩
 | some a =>
  obtain ⟨b, hb⟩ : ∃ b, qs[i]? = some b := ⟨_, qae (by rw [← h.len]; exact (qag.1 hp).1)⟩
  exact .inr ⟨a, b, rfl, hb, h.get i a b hp hb⟩
theorem br_eq {a b : Ac} (h : AcEq a b) : AcEq (wT a) (wT b) := by
 obtain ⟨x, y, z, rfl⟩ := h
 unfold wT
 by_cases hh : jQ b = true ∧ Kp b.es = 0
 ·rw [if_pos (show jQ { b with ix := x, ev := y, fv := z } = true ∧ Kp ({ b with ix := x, ev := y, fv := z } : Ac).es = 0 from hh), if_pos hh]; exact AcEq.refl _
 ·rw [if_neg (show ¬ (jQ { b with ix := x, ev := y, fv := z } = true ∧ Kp ({ b with ix := x, ev := y, fv := z } : Ac).es = 0) from hh), if_neg hh]; exact ⟨x, y, z, rfl⟩
theorem Dg {ps qs : List Ac} (h : LEq ps qs) : zV ps = zV qs := funext fun i => by
 unfold zV
 rcases h.atI i with ⟨e1, e2⟩ | ⟨a, b, e1, e2, x, y, z, rfl⟩
 ·rw [e1, e2]
 ·rw [e1, e2]; rfl
theorem QX {ps qs : List Ac} (h : LEq ps qs) : LEq (brs ps) (brs qs) := by
 unfold brs
 have := h.mapL (f := wT) (g := wT) fun a b => br_eq
 rw [Dg this]
 exact fR _ this
theorem Qt {ps qs : List Ac} (h : LEq ps qs) : ∀ (f : Nat) (l : List Nat) (z : Nat), ko ps f l z = ko qs f l z
 | 0, _, _ => rfl
 | f + 1, l, z => by
  have hj : wW ps z = wW qs z := by
   unfold wW
   rcases h.atI z with ⟨e1, e2⟩ | ⟨a, b, e1, e2, x, y, w, rfl⟩
   ·rw [e1, e2]
   ·rw [e1, e2]
  have hn : zJ ps z = zJ qs z := by
   unfold zJ
   rcases h.atI z with ⟨e1, e2⟩ | ⟨a, b, e1, e2, x, y, w, rfl⟩
   ·rw [e1, e2]
   ·rw [e1, e2]
  unfold ko
  rw [hj, hn, Qt h f]
theorem Wf {ps qs : List Ac} (h : LEq ps qs) : LEq (chn ps) (chn qs) := by
 unfold chn
 refine h.mapL fun a b hab => ?_
 obtain ⟨x, y, z, rfl⟩ := hab
 unfold kT
 rw [h.len]
 by_cases hop : b.op = 9 ∨ b.op = 10
 ·rw [if_pos (show ({ b with ix := x, ev := y, fv := z } : Ac).op = 9 ∨ ({ b with ix := x, ev := y, fv := z } : Ac).op = 10 from hop), if_pos hop]
  show AcEq (match ko ps (qs.length + 1) [] b.to.toNat with | some z' => _ | none => _) _
  rw [Qt h]
  cases ko qs (qs.length + 1) [] b.to.toNat <;> exact ⟨x, y, z, rfl⟩
 ·rw [if_neg (show ¬ (({ b with ix := x, ev := y, fv := z } : Ac).op = 9 ∨ ({ b with ix := x, ev := y, fv := z } : Ac).op = 10) from hop), if_neg hop]; exact ⟨x, y, z, rfl⟩
theorem QH {ps qs : List Ac} (h : LEq ps qs) {i : Nat} (k : Reach ps i) : Reach qs i := by
 induction k with
 | start => exact .start
 | jump i a z _ ha ho hz ih =>
  rcases h.atI i with ⟨e1, _⟩ | ⟨a', b, e1, e2, x, y, w, rfl⟩
  ·rw [e1] at ha; cases ha
  ·rw [e1] at ha; cases ha; exact .jump i b z ih e2 ho hz
 | next i a _ ha ho ih =>
  rcases h.atI i with ⟨e1, _⟩ | ⟨a', b, e1, e2, x, y, w, rfl⟩
  ·rw [e1] at ha; cases ha
  ·rw [e1] at ha; cases ha; exact .next i b ih e2 ho
theorem LEq.symm {ps qs : List Ac} (h : LEq ps qs) : LEq qs ps := ⟨h.len.symm, fun j a b ha hb => (h.get j b a hb ha).symm⟩
theorem WU {ps qs : List Ac} (h : LEq ps qs) : LEq (rea ps) (rea qs) := by
 unfold rea
 have : dR ps = dR qs := funext fun i => by
  unfold dR
  have : Reach ps i = Reach qs i := propext ⟨QH h, QH h.symm⟩
  congr 1
  exact decide_eq_decide.2 (by rw [this])
 rw [this]; exact fR _ h
theorem dB {ps qs : List Ac} (h : LEq ps qs) : LEq (vG ps) (vG qs) := by
 unfold vG
 have : zD ps = zD qs := funext fun i => by
  unfold zD
  rcases h.atI i with ⟨e1, e2⟩ | ⟨a, b, e1, e2, x, y, z, rfl⟩
  ·rw [e1, e2]
  ·rw [e1, e2]
 rw [this]; exact fR _ h
theorem QZ {ps qs : List Ac} (h : LEq ps qs) : LEq (prs ps) (prs qs) := by
 have haim : ∀ i j, jR ps i j = jR qs i j := by
  intro i j
  induction i with
  | zero => rfl
  | succ i ih =>
   unfold jR
   rw [ih]
   rcases h.atI i with ⟨e1, e2⟩ | ⟨a, b, e1, e2, x, y, z, rfl⟩
   ·rw [e1, e2]
   ·rw [e1, e2]; rfl
 have hA : wN ps = wN qs := funext fun j => by unfold wN; rw [h.len, haim]
 have key : ∀ i, LEq (prF (wN qs) ps i).1 (prF (wN qs) qs i).1 ∧ (prF (wN qs) ps i).2 = (prF (wN qs) qs i).2 := by
  intro i
  induction i with
  | zero => exact ⟨h, rfl⟩
  | succ i ih =>
   obtain ⟨i1, i2⟩ := ih
   show LEq (qN (wN qs) i (prF (wN qs) ps i)).1 (qN (wN qs) i (prF (wN qs) qs i)).1 ∧ (qN (wN qs) i (prF (wN qs) ps i)).2 = (qN (wN qs) i (prF (wN qs) qs i)).2
   generalize prF (wN qs) ps i = P at i1 i2
   generalize prF (wN qs) qs i = R at i1 i2
   obtain ⟨p1, p2⟩ := P
   obtain ⟨r1, r2⟩ := R
   simp only at i1 i2
   subst i2
   unfold qN
   simp only
   rcases i1.atI i with ⟨e1, e2⟩ | ⟨a, b, e1, e2, x, y, z, rfl⟩
   ·rw [e1, e2]; exact ⟨i1, rfl⟩
   rcases i1.atI (i + 1) with ⟨e3, e4⟩ | ⟨a', b', e3, e4, x', y', z', rfl⟩
   ·rw [e1, e2, e3, e4]; exact ⟨i1, rfl⟩
   rw [e1, e2, e3, e4]
   simp only
   have hip : wS (wN qs) { b with ix := x, ev := y, fv := z } { b' with ix := x', ev := y', fv := z' } i = wS (wN qs) b b' i := rfl
   have hpa : kv { b with ix := x, ev := y, fv := z } { b' with ix := x', ev := y', fv := z' } = kv b b' := rfl
   rw [hip, hpa]
   by_cases h1 : wS (wN qs) b b' i = true
   ·rw [if_pos h1, if_pos h1]
    by_cases h2 : b'.op = 3 ∧ b.op = 3
    ·rw [if_pos h2, if_pos h2]; exact ⟨i1, rfl⟩
    ·rw [if_neg h2, if_neg h2]
     cases kv b b' with
     | none => exact ⟨i1, rfl⟩
     | some c =>
      refine ⟨⟨by simp [i1.len], fun j u v hu hv => ?_⟩, rfl⟩
      by_cases hj : i + 1 = j
      ·subst hj
       have l1 := (qag.1 e3).1
       have l2 := (qag.1 e4).1
       rw [qaz l1] at hu
       rw [qaz l2] at hv
       cases hu; cases hv; exact AcEq.refl _
      ·rw [qb5 hj] at hu hv
       exact i1.get j u v hu hv
   ·rw [if_neg h1, if_neg h1]; exact ⟨i1, rfl⟩
 unfold prs
 rw [hA, h.len]
 obtain ⟨k1, k2⟩ := key (qs.length - 1)
 rw [k2]
 exact fR _ k1
noncomputable def rdA (acs : List Ac) : List Ac := prs (vG (rea (chn (brs (acs.map wh)))))
end Go.Sx
namespace Go.Dx
theorem Grown.grr {α : Type} {m0 m : M} {v : Value} {e : Nat} {f : α → List Value} {es : List α} (h : Grown m0 m v e f es) : GrR m0 m v e f es := by
 rcases h with h | ⟨B, h1, h2, h3, h4, h5⟩
 ·exact .inl h
 ·exact .inr ⟨B, es.length, [], h1, h2, qah _, qb4.2 h3, by simp, h4, by simpa using h5⟩
end Go.Dx
namespace Go.Sx
open Go.Dx Go.Proofs
set_option maxRecDepth 10000
structure TS0 (m0 m : M) (T : Nat) (sv : Value) : Prop where
 st : St m0 m [(T, [sv])]
 rd : Rd m sv 11 qe ([] : List Ac)
theorem Jd {m0 m : M} {T : Nat} {sv : Value} (h : TS0 m0 m T sv) (N : Nat) : ∃ v, (ex Tryz.prog (N + 1)).f 109 [.pointer (some ⟨T, 0, none⟩)] m = some (v, m) := by
 have hf := kM (P := Tryz.prog) (n := N) (args := [.pointer (some ⟨T, 0, none⟩)]) (m := m) (Q := fun _ m' => m' = m) Bs (by simp) ?_
 ·obtain ⟨v, m', h1, rfl⟩ := hf; exact ⟨v, h1⟩
 have hsl : qL sv = some (.int .i64 0) := h.rd.len
 have lT : ∀ s, load1 m ⟨T, 0, s⟩ = some sv := fun s => (h.st.get 0 rfl).2.2.load1 0 s
 simp [lT, hsl]
 refine qq (c := Yx) rfl (jc _) (fun i t m' => m' = m ∧ Tm.get 8 t = iv 0 ∧ Tm.get 9 t = iv i) 0 (by omega) ⟨rfl, by simp, by simp⟩ (fun i t m' k hi hI hk => ?_)
 obtain ⟨rfl, t8, t9⟩ := hI
 obtain rfl : i = 0 := by omega
 simp [t8, t9]
 exact yh rfl
theorem WE {m0 m : M} {T : Nat} {sv : Value} (h : TS0 m0 m T sv) (N : Nat) : ∃ v m' lv, (ex Tryz.prog (N + 3)).f 110 [.pointer (some ⟨T, 0, none⟩)] m = some (v, m') ∧ TS m0 m' T lv [] ∧ (∀ X, blk lv = some X → m.n ≤ X) ∧ m.n ≤ m'.n ∧ ∀ B, B < m.n → B ≠ T → m'.obj B = m.obj B := by
 have hf := kM (P := Tryz.prog) (n := N + 2) (args := [.pointer (some ⟨T, 0, none⟩)]) (m := m) (Q := fun _ m' => (∃ lv, TS m0 m' T lv [] ∧ ∀ X, blk lv = some X → m.n ≤ X) ∧ m.n ≤ m'.n ∧ ∀ B, B < m.n → B ≠ T → m'.obj B = m.obj B) FI (by simp) ?_
 ·obtain ⟨v, m', h1, ⟨lv, h2, h3⟩, h4⟩ := hf; exact ⟨v, m', lv, h1, h2, h3, h4⟩
 have hmb := h.st.sees.base
 have st1 := h.st.row [.pointer (some ⟨T, 0, none⟩)]
 obtain ⟨C, hC⟩ := qb8 (m.n)
 obtain ⟨m1, hm1⟩ := qb8 (Dx.newRow m [.pointer (some ⟨T, 0, none⟩)])
 have hbx : yA (.pointer (some ⟨T, 0, none⟩)) m = some (.pointer (some ⟨m.n, 0, none⟩), m1) := by rw [hm1]; rfl
 rw [← hm1, ← hC] at st1
 have rd1 : Rd m1 sv 11 qe ([] : List Ac) := h.rd.sees (by rw [hm1]; exact (Sees.refl hmb).ext (Ext.row _ _))
 have hsl : qL sv = some (.int .i64 0) := h.rd.len
 have hT := st1.get 1 rfl
 have lT : ∀ s, load1 m1 ⟨T, 0, s⟩ = some sv := fun s => hT.2.2.load1 0 s
 have lC : ∀ s, load1 m1 ⟨C, 0, s⟩ = some (.pointer (some ⟨T, 0, none⟩)) := fun s => (st1.get 0 rfl).2.2.load1 0 s
 have hb0 := st1.ext.base
 have hb1 := st1.base
 obtain ⟨v, m2, w1, w2⟩ := xv 164 T [.pointer (some ⟨C, 0, none⟩)] sv [] (fun _ => false) (N + 1) m1 st1.sees.base (by omega) hT.2.1 hT.2.2 rd1 (fun a ha => by cases ha) (by simp) (fun a ha => by cases ha) (fun i hi => by simp at hi)
 simp [hbx, ← hm1, ← hC, lC, lT, hsl]
 refine qq (c := FE) rfl (jc _) (fun i t m' => m' = m1 ∧ Tm.get 1 t = .pointer (some ⟨C, 0, none⟩) ∧ Tm.get 2 t = .func (.func 164) #[] #[.pointer (some ⟨C, 0, none⟩)] ∧ Tm.get 10 t = iv 0 ∧ Tm.get 11 t = iv i) 0 (by omega) ⟨rfl, by simp, by simp, by simp, by simp⟩ (fun i t m' k hi hI hk => ?_)
 obtain ⟨rfl, t1, t2, t10, t11⟩ := hI
 obtain rfl : i = 0 := by omega
 simp [t1, t2, t10, t11, lC, w1]
 obtain ⟨lv, q1, q2⟩ := w2.t
 have hE : Ext m0 m2 := ⟨qaq st1.ext.n w2.n, fun B hB => by rw [w2.obj B (qaj hB st1.ext.n) (by omega)]; exact st1.ext.obj B hB, w2.base.trans st1.ext.base, w2.log.trans st1.ext.log⟩
 have hn1 : m.n ≤ m'.n := by rw [hm1, qm]; omega
 refine yh ⟨⟨lv, ?_, fun X hX => by have := (q2.low X hX).1; omega⟩, by have := w2.n; omega, fun B hB hBT => by rw [w2.obj B (by omega) hBT, hm1]; exact (Ext.row _ _).obj B (by omega)⟩
 refine ⟨⟨⟨hE, st1.base, fun p hp => ?_, by simp⟩, GrR.mono0 q2 st1.ext.n, fun B hB p hp => ?_⟩, (fun a ha => by cases ha), (fun a ha => by cases ha), by simp⟩
 ·rw [qal.1 hp]; exact ⟨hT.1, qaj hT.2.1 w2.n, q1⟩
 ·rw [qal.1 hp]; have := (q2.low B hB).1; have := hT.2.1; simp; omega
noncomputable def psA (acs : List Ac) : Nat → List Ac
 | 0 => acs
 | 1 => acs.map wh
 | 2 => brs (acs.map wh)
 | 3 => chn (brs (acs.map wh))
 | 4 => rea (chn (brs (acs.map wh)))
 | 5 => vG (rea (chn (brs (acs.map wh))))
 | _ => rdA acs
structure PSt (m0 ms : M) (T : Nat) (sv0 : Value) (acs : List Ac) (i : Nat) (m : M) : Prop where
 st : (∃ sv cur, TS m0 m T sv cur ∧ LEq cur (psA acs i) ∧ (0 < i → ∀ a ∈ cur, ∀ X, zd a X → m0.n ≤ X) ∧ ∀ X, blk sv = some X → blk sv0 = some X ∨ ms.n ≤ X) ∨ (i ≤ 1 ∧ acs = [] ∧ TS0 m0 m T sv0)
 n : ms.n ≤ m.n
 fr : ∀ B, B < ms.n → B ≠ T → blk sv0 ≠ some B → m.obj B = ms.obj B
theorem AI.ps {acs : List Ac} (h : AI acs) (hx : ∀ a ∈ acs, Ex24 a.ixs ∧ Ex24 a.es ∧ Ex24 a.fs) : ∀ i, i ≤ 5 → AI (psA acs i) := fun i hi => by
 have a1 := h.fo hx
 have a2 := a1.br.wo (zV ((acs.map wh).map wT))
 have a3 := AI.ch a2
 have a4 := a3.wo (dR (chn (brs (acs.map wh))))
 have a5 := a4.wo (zD (rea (chn (brs (acs.map wh)))))
 match i, hi with
 | 0, _ => exact h
 | 1, _ => exact a1
 | 2, _ => exact a2
 | 3, _ => exact a3
 | 4, _ => exact a4
 | 5, _ => exact a5
theorem VI {m0 ms m : M} {T : Nat} {sv0 : Value} {acs : List Ac} (ha : AI acs) (hx : ∀ a ∈ acs, Ex24 a.ixs ∧ Ex24 a.es ∧ Ex24 a.fs) (N : Nat) (hN : 65560 ≤ N) {i g : Nat} (hi : i < 6) (hg : g = 109 + i) (h : PSt m0 ms T sv0 acs i m) :
  ∃ v m', (ex Tryz.prog (N + 3)).f g [.pointer (some ⟨T, 0, none⟩)] m = some (v, m') ∧ PSt m0 ms T sv0 acs (i + 1) m' := by
 have hai := ha.ps hx i (by omega)
 have nwo : ∀ {o : Nat → Bool} {ps : List Ac}, (∀ a ∈ ps, ∀ X, zd a X → m0.n ≤ X) → ∀ a ∈ Go.Sx.wo o ps, ∀ X, zd a X → m0.n ≤ X := fun {o ps} hp a ha X hX => by
  obtain ⟨b, hb, rfl⟩ := za ha
  obtain ⟨z, hz⟩ := zh o b
  rw [hz] at hX
  exact hp b hb X hX
 obtain ⟨h, hmn, hfr⟩ := h
 rcases h with ⟨sv, cur, hts, hleq, hnw, hlow⟩ | ⟨h1, rfl, h0⟩
 ·have hac := hai.leq hleq
  have hsvB : ∀ B, B < ms.n → blk sv0 ≠ some B → blk sv ≠ some B := fun B hB hs e => by
   rcases hlow B e with e' | e'
   ·exact hs e'
   ·omega
  have fr2 : ∀ {m' : M}, (∀ B, B < m.n → B ≠ T → blk sv ≠ some B → m'.obj B = m.obj B) → ∀ B, B < ms.n → B ≠ T → blk sv0 ≠ some B → m'.obj B = ms.obj B := fun {m'} hf B hB hBT hs => by
   rw [hf B (by omega) hBT (hsvB B hB hs)]; exact hfr B hB hBT hs
  rcases (by omega : i = 0 ∨ i = 1 ∨ i = 2 ∨ i = 3 ∨ i = 4 ∨ i = 5) with rfl | rfl | rfl | rfl | rfl | rfl
  ·obtain rfl : g = 109 := by omega
   have hxc : ∀ a ∈ cur, Ex24 a.ixs ∧ Ex24 a.es ∧ Ex24 a.fs := fun a hm => by
    obtain ⟨j, hj⟩ := qb1 hm
    rcases hleq.atI j with ⟨e1, _⟩ | ⟨a', b, e1, e2, x, y, z, rfl⟩
    ·rw [e1] at hj; cases hj
    ·rw [e1] at hj; cases hj; exact hx b (qaf e2)
   obtain ⟨v, m', cur', c1, c2, c3, c4, c5, c6⟩ := VW hts hxc (N + 2) (by omega)
   refine ⟨v, m', c1, .inl ⟨sv, cur', c2, c3.trans (hleq.mapL fun a b hab => ?_), fun _ => c4, hlow⟩, by omega, fr2 c6⟩
   obtain ⟨x, y, z, rfl⟩ := hab
   exact ⟨x, y, z, rfl⟩
  ·obtain rfl : g = 110 := by omega
   obtain ⟨v, m', lv, c1, c2, c3, c5, c6⟩ := Zj hts hac.to (fun a hm h10 => hac.ne a hm (.inl h10)) N
   have hnw := hnw (by omega)
   refine ⟨v, m', c1, .inl ⟨lv, _, c2, QX hleq, fun _ => nwo fun a ha X hX => ?_, fun X hX => .inr (by have := c3 X hX; omega)⟩, by omega, fr2 c6⟩
   obtain ⟨b, hb, rfl⟩ := List.mem_map.1 ha
   unfold wT at hX
   split at hX
   ·exact (WZ hX).elim
   ·exact hnw b hb X hX
  ·obtain rfl : g = 111 := by omega
   obtain ⟨v, m', c1, c2, c5, c6⟩ := ZI hts hac.to (N + 1)
   have hnw := hnw (by omega)
   refine ⟨v, m', c1, .inl ⟨sv, _, c2, Wf hleq, fun _ a ha X hX => ?_, hlow⟩, by omega, fr2 c6⟩
   obtain ⟨b, hb, rfl⟩ := List.mem_map.1 ha
   unfold kT at hX
   split at hX
   ·split at hX <;> exact hnw b hb X hX
   ·exact hnw b hb X hX
  ·obtain rfl : g = 112 := by omega
   obtain ⟨v, m', lv, c1, c2, c3, c5, c6⟩ := Jb hts hac.to N
   exact ⟨v, m', c1, .inl ⟨lv, _, c2, WU hleq, fun _ => nwo (hnw (by omega)), fun X hX => .inr (by have := c3 X hX; omega)⟩, by omega, fr2 c6⟩
  ·obtain rfl : g = 113 := by omega
   obtain ⟨v, m', lv, c1, c2, c3, c5, c6⟩ := Zv hts hac.to N
   exact ⟨v, m', c1, .inl ⟨lv, _, c2, dB hleq, fun _ => nwo (hnw (by omega)), fun X hX => .inr (by have := c3 X hX; omega)⟩, by omega, fr2 c6⟩
  ·obtain rfl : g = 114 := by omega
   obtain ⟨v, m', lv, R, c1, c2, c3, c4, c4', c5, c6⟩ := Yg hts hac.to (fun a hm h3 => ⟨hac.ne a hm (.inr h3), hac.ln a hm⟩) hac.ds (hnw (by omega)) N
   exact ⟨v, m', c1, .inl ⟨lv, R, c2, c3.trans (QZ hleq), fun _ => c4, fun X hX => .inr (by have := c4' X hX; omega)⟩, by omega, fr2 c6⟩
 ·rcases (by omega : i = 0 ∨ i = 1) with rfl | rfl
  ·obtain rfl : g = 109 := by omega
   obtain ⟨v, c1⟩ := Jd h0 (N + 2)
   exact ⟨v, m, c1, .inr ⟨by omega, rfl, h0⟩, hmn, hfr⟩
  ·obtain rfl : g = 110 := by omega
   obtain ⟨v, m', lv, c1, c2, c3, c5, c6⟩ := WE h0 N
   exact ⟨v, m', c1, .inl ⟨lv, [], c2, LEq.refl [], (fun _ a ha => by cases ha), fun X hX => .inr (by have := c3 X hX; omega)⟩, by omega, fun B hB hBT hs => by rw [c6 B (by omega) hBT]; exact hfr B hB hBT hs⟩
end Go.Sx
namespace Go.Sx
open Go.Dx Go.Proofs
set_option maxRecDepth 10000
abbrev fnG (g : Nat) : Value := .func (.func g) #[] #[]
abbrev fnL : List Value := [fnG 109, fnG 110, fnG 111, fnG 112, fnG 113, fnG 114]
theorem Bh (N : Nat) (m : M) : Dx.Call (ex Tryz.prog (N + 1)) 63 [] m fun v m' => v = .slice (some ⟨m.n, 0, some 3⟩) 6 6 ∧ m' = Dx.newRow m fnL := by
 refine qp dd4_ok (by simp) ?_
 have b : kc 1 6 (rep 6 [.nilFunc]) [(0, 1, fnG 109), (1, 1, fnG 110), (2, 1, fnG 111), (3, 1, fnG 112), (4, 1, fnG 113), (5, 1, fnG 114)] m = some (.slice (some ⟨m.n, 0, some 3⟩) 6 6, Dx.newRow m fnL) := rfl
 simp [b]
 exact qh (Ext.row _ _) (by simp)
structure ThR (q p : Th) : Prop where
 loc : q.loc = p.loc
 acts : LEq q.acts (rdA p.acts)
structure TX (p : Th) : Prop where
 ai : AI p.acts
 ex : ∀ a ∈ p.acts, Ex24 a.ixs ∧ Ex24 a.es ∧ Ex24 a.fs
 len : p.acts.length ≤ 65536
structure PgR (q p : Pg) : Prop where
 cells : q.cells = p.cells
 len : q.ths.length = p.ths.length
 ths : ∀ (j : Nat) u w, q.ths[j]? = some u → p.ths[j]? = some w → ThR u w
def KL (t : Th) (X : Nat) : Prop := blk t.av = some X ∨ ∃ a ∈ t.acts, zd a X
theorem ThOK.congr {m m' : M} {t : Th} (h : ThOK m t) (hn : m.n ≤ m'.n) (k : ∀ X, KL t X → m'.obj X = m.obj X) : ThOK m' t :=
 ⟨h.av.congr hn fun B hB => k B (.inl hB), fun a ha => (h.acts a ha).congr hn fun X hX => k X (.inr ⟨a, ha, hX⟩), h.len⟩
theorem ThOK.lt {m : M} {t : Th} (h : ThOK m t) {X : Nat} (hX : KL t X) : X < m.n := by
 rcases hX with hX | ⟨a, ha, hX⟩
 ·exact h.av.lt X hX
 ·exact (h.acts a ha).lt hX
end Go.Sx
namespace Go.Dx
theorem Vp {m : M} {B o : Nat} {l l0 : List Value} (h : Arr m B l0) (hn : o + l.length ≤ l0.length) (hl : ∀ v ∈ l, okC v = true) (hne : l ≠ []) : (zc m B o l).log = note m.base B m.log := by
 obtain ⟨c, hc, hcl⟩ := h
 cases hll : l with
 | nil => exact absurd hll hne
 | cons u us =>
  have hs : wA m ⟨B, o, none⟩ (u :: us) = ob (jb (m.obj B)) fun c => ob (stn c o (u :: us)) fun c' => some (m.put B (.cells c')) := rfl
  obtain ⟨c2, e2, _⟩ := yr (vs := u :: us) (o := o) hcl (by rw [← hll]; exact hn) (by rw [← hll]; exact hl)
  have hp : zc m B o (u :: us) = m.put B (.cells c2) := by
   unfold zc; rw [hs, hc]; show ((ob (stn c o (u :: us)) fun c' => some (m.put B (.cells c'))).getD m) = _; rw [e2]; rfl
  rw [hp]; cases m; rfl
theorem GrR.pushLog {α : Type} {m0 m m' : M} {v v' : Value} {e : Nat} {f : α → List Value} {es : List α} (h : GrR m0 m v e f es) (he : 0 < e) (hf : ∀ x, (f x).length = e) {x : α} (hok : ∀ y ∈ es ++ [x], ∀ v ∈ f y, Dx.okC v = true) {X : Nat} {sp : Option Nat}
  (hx : loads m ⟨X, 0, sp⟩ e = some (f x)) {bytes : Nat} (hm : (es.length + 1) * bytes ≤ qW) (hn : es.length + 1 ≤ 4611686018427387904) (ha : qS m e bytes v (.slice (some ⟨X, 0, sp⟩) 1 1) = some (v', m')) : m'.log = m.log ∨ ∃ B, blk v = some B ∧ m'.log = note m.base B m.log := by
 have hk : (Nat.ble ((es.length + 1) * bytes) qW && Nat.ble (es.length + 1) 4611686018427387904) = true := by rw [qam hm, qam hn]; rfl
 have hfi : qI m e 1 (.slice (some ⟨X, 0, sp⟩) 1 1) = some (f x) := by unfold qI; rw [Nat.one_mul]; exact hx
 have hal : jW (es.flatMap f ++ f x) = true := fw fun u hu => by
  simp only [qb6, List.mem_flatMap] at hu
  rcases hu with ⟨y, hy, h⟩ | h
  ·exact hok y (List.mem_append_left _ hy) u h
  ·exact hok x (by simp) u h
 have hlen := qX hf es
 rcases h with ⟨rfl, rfl⟩ | ⟨B, c, L, h1, h2, h3, h4, h5, rfl, h7⟩
 ·have key : qS m e bytes (.slice none 0 0) (.slice (some ⟨X, 0, sp⟩) 1 1) = some (.slice (some ⟨m.n, 0, some (code e false)⟩) 1 1, newRow m (f x)) := by
   show ob (qI m e 1 _) _ = _
   rw [hfi, qy]
   unfold vt
   have hlt : Nat.ble (0 + 1) 0 = false := rfl
   have hk' : (Nat.ble ((0 + 1) * bytes) qW && Nat.ble (0 + 1) 4611686018427387904) = true := hk
   rw [hlt, cond_false, hk', cond_true]
   rfl
  rw [key] at ha
  cases ha
  exact .inl (Ext.row m (f x)).log
 ·by_cases hc : es.length + 1 ≤ c
  ·have hLl : e ≤ L.length := by
    rw [h5]
    have := qb0 e (show 1 ≤ c - es.length by omega)
    omega
   have hokx : ∀ u ∈ f x, Dx.okC u = true := fun u hu => hok x (by simp) u hu
   have hn' : es.length * e + (f x).length ≤ (es.flatMap f ++ L).length := by rw [qao, hlen, hf]; omega
   obtain ⟨s1, s2, s3, s4, s5, s6⟩ := qY (o := es.length * e) (l := f x) h7 hn' hokx
   have key : qS m e bytes (.slice (some ⟨B, 0, some (code e false)⟩) es.length c) (.slice (some ⟨X, 0, sp⟩) 1 1) = some (.slice (some ⟨B, 0, some (code e false)⟩) (es.length + 1) c, zc m B (es.length * e) (f x)) := by
    show ob (qI m e 1 _) _ = _
    rw [hfi, qy]
    unfold vt
    rw [qam hc, cond_true]
    unfold Zu
    show ob (wA m ⟨B, 0 + es.length * e, none⟩ (f x)) _ = _
    rw [Nat.zero_add, s1, qy]
   rw [key] at ha
   cases ha
   exact .inr ⟨B, rfl, Vp h7 hn' hokx (by intro e0; have := hf x; rw [e0] at this; simp at this; omega)⟩
  ·obtain rfl : es.length = c := by omega
   have hL : L = [] := qax (by rw [h5, Nat.sub_self, Nat.zero_mul])
   subst hL
   rw [List.append_nil] at h7
   have hlt : Nat.ble (es.length + 1) es.length = false := by
    cases q : Nat.ble (es.length + 1) es.length with
    | false => rfl
    | true => exact absurd (qan q) (by omega)
   obtain ⟨cc, hcc, hcl⟩ := id h7
   have hne : 0 < (es.flatMap f).length := by rw [hlen]; exact Nat.mul_pos h4 he
   have hal' : alive cc = true := bS (i := 0) (by rw [hcl, qae hne])
   have key : qS m e bytes (.slice (some ⟨B, 0, some (code e false)⟩) es.length es.length) (.slice (some ⟨X, 0, sp⟩) 1 1) = some (.slice (some ⟨m.n, 0, some (code e false)⟩) (es.length + 1) (es.length + 1), (m.put B (.cells .lf)).alloc (.cells (mkn .lf 0 (es.flatMap f ++ f x)))) := by
    show ob (qI m e 1 _) _ = _
    rw [hfi, qy]
    unfold vt
    rw [hlt, cond_false, hk, cond_true]
    have hold : qI m e es.length (.slice (some ⟨B, 0, some (code e false)⟩) es.length es.length) = some (es.flatMap f) := by
     show loads m ⟨B, 0, some (code e false)⟩ (es.length * e) = _
     rw [h7.loads (by omega), List.drop_zero, ← hlen, List.take_length]
    rw [hold, qy]
    unfold jC
    have hx' : jS (code e false) = false := by
     show Nat.beq (2 * e % 2) 1 = false
     rw [show 2 * e % 2 = 0 by omega]; rfl
    have hcd : Nat.beq (code e false / 2) e = true := by
     show Nat.beq (2 * e / 2) e = true
     rw [show 2 * e / 2 = e by omega]; exact Nat.beq_refl e
    show ob (some (code e false)) _ = _
    rw [qy, hx', cond_false]
    show ob (jb (m.obj B)) _ = _
    rw [hcc]
    show (bif alive cc && Nat.beq (code e false / 2) e && jW (es.flatMap f ++ f x) && Nat.blt 0 HI then _ else _) = _
    rw [hal', hcd, hal, show Nat.blt 0 HI = true from qam (by unfold HI; omega)]
    rfl
   rw [key] at ha
   cases ha
   refine .inr ⟨B, rfl, ?_⟩
   rw [M.log_alloc]; cases m; rfl
theorem GE.pushAny {α : Type} {m0 m : M} {σ : List (Nat × List Value)} {g : Value} {e : Nat} {f : α → List Value} {rows : List α} (h : GE m0 m σ g e f rows) (he : 0 < e) (hf : ∀ x, (f x).length = e) {x : α} (hok : ∀ y ∈ rows ++ [x], ∀ v ∈ f y, okC v = true) {M1 : M} (hM : Ext m M1) {X : Nat} {sp : Option Nat} (hx : loads M1 ⟨X, 0, sp⟩ e = some (f x)) {bytes : Nat} (hm : (rows.length + 1) * bytes ≤ qW) (hn : rows.length + 1 ≤ 4611686018427387904) :
  ∃ v' m2, qS (qn M1) e bytes g (.slice (some ⟨X, 0, sp⟩) 1 1) = some (v', m2) ∧ (m2.log = [] ∨ ∃ B, blk g = some B ∧ m2.log = [B]) ∧ GE m0 (Dx.behind M1 m2) σ v' e f (rows ++ [x]) ∧ M1.n ≤ (Dx.behind M1 m2).n ∧ (∀ B, B < m.n → blk g ≠ some B → (Dx.behind M1 m2).obj B = m.obj B) ∧ (∀ B, blk v' = some B → blk g = some B ∨ M1.n ≤ B) := by
 have h' := h.step hM
 have hg : GrR m0 (qn M1) g e f rows := h'.gr.keep (by rw [qx]; exact qah _) fun B _ _ => qw M1 B
 have hx' : loads (qn M1) ⟨X, 0, sp⟩ e = some (f x) := by rw [Vx]; exact hx
 obtain ⟨v', m2, p1, p2, p3, p4, p5, p6, p7⟩ := hg.push he hf hok hx' (by rw [qx]; exact h'.st.ext.n) hm hn
 have hlog := hg.pushLog he hf hok hx' hm hn p1
 rw [wH, ki] at hlog
 rw [qx] at p3 p6 p7
 have hlow := h'.gr.low
 have hlog' : m2.log = [] ∨ ∃ B, blk g = some B ∧ m2.log = [B] := by
  rcases hlog with e1 | ⟨B, e1, e2⟩
  ·exact .inl e1
  ·refine .inr ⟨B, e1, ?_⟩
   rw [e2]
   have := (hlow B e1).2
   unfold note
   have : Nat.ble M1.n B = false := by
    cases q : Nat.ble M1.n B with
    | false => rfl
    | true => exact absurd (qan q) (by omega)
   rw [this]; rfl
 have hE : Ext m0 (Dx.behind M1 m2) := by
  have hb := h.st.base
  have hE1 := h'.st.ext
  refine ⟨by rw [wu]; have := hE1.n; omega, fun B hB => ?_, by rw [kh]; exact hE1.base, ?_⟩
  ·rw [qB, p6 B (by have := hE1.n; omega) fun e => by have := (hlow B e).1; omega, qw]; exact hE1.obj B hB
  ·rw [km]
   refine (xF fun B hB => ?_).trans hE1.log
   rw [hE1.base]
   rcases hlog' with e1 | ⟨B', e1, e2⟩
   ·rw [e1] at hB; cases hB
   ·rw [e2] at hB
    rw [qal.1 hB]
    have := (hlow B' e1).1
    omega
 have hobj : ∀ B, B < M1.n → blk g ≠ some B → (Dx.behind M1 m2).obj B = M1.obj B := fun B hB hne => by rw [qB, p6 B hB hne, qw]
 refine ⟨v', m2, p1, hlog', ⟨h'.st.keepOn hE (by rw [wu]; exact p3) fun p hp => hobj p.1 (h'.st.arr p hp).2.1 fun e => h'.sep p.1 e p hp rfl, p2.keep (by rw [wu]; exact qah _) fun B _ _ => qB _ _ _, fun B hB p hp => ?_⟩, by rw [wu]; exact p3, fun B hB hne => by rw [hobj B (qaj hB hM.n) hne, hM.obj B hB], p7⟩
 rcases p7 B hB with e | e
 ·exact h.sep B e p hp
 ·have := (h'.st.arr p hp).2.1; omega
end Go.Dx
namespace Go.Sx
open Go.Dx Go.Proofs
set_option maxRecDepth 10000
theorem fnL_at {j : Nat} (hj : j < 6) : fnL[j]? = some (fnG (109 + j)) := by
 rcases (by omega : j = 0 ∨ j = 1 ∨ j = 2 ∨ j = 3 ∨ j = 4 ∨ j = 5) with rfl | rfl | rfl | rfl | rfl | rfl <;> rfl
theorem Kx {m2 m4 m5 : M} {T : Nat} {cv : Value} {acs : List Ac} (ha : AI acs) (hx : ∀ a ∈ acs, Ex24 a.ixs ∧ Ex24 a.es ∧ Ex24 a.fs) (N : Nat) (hN : 65560 ≤ N) (h5 : m5 = Dx.newRow m4 fnL) (h : PSt m2 m5 T cv acs 0 m5) (hT : T < m4.n) (hcv : ∀ B, blk cv = some B → B < m4.n)
  {t : Tm} (t6 : Tm.get 6 t = .pointer (some ⟨T, 0, none⟩)) (Q : Option Out → Prop) (kn kr : K) (ke : Nat → K)
  (hq : ∀ m6 t', PSt m2 m5 T cv acs 6 m6 → (∀ i ∈ [2, 3, 5, 6, 13, 14, 15], Tm.get i t' = Tm.get i t) → Q (kn t' m6)) : Q (ZY (Go.Dx.ex Tryz.prog (N + 3)) kn ke kr t m4) := by
 obtain ⟨v, m', p1, p2, rfl, p4⟩ := Bh (N + 2) m4
 obtain rfl : m5 = m' := h5.trans p4.symm
 have hl6 : qL (.slice (some ⟨m4.n, 0, some 3⟩) 6 6) = some (iv 6) := rfl
 simp [p1, hl6]
 refine qq (c := cb8_8) rfl Q (fun i t' m' => PSt m2 m5 T cv acs i m' ∧ Tm.get 24 t' = .slice (some ⟨m4.n, 0, some 3⟩) 6 6 ∧ Tm.get 25 t' = iv 6 ∧ Tm.get 26 t' = iv i ∧ ∀ i ∈ [2, 3, 5, 6, 13, 14, 15], Tm.get i t' = Tm.get i t) 6 (by omega) ?_ (fun i t' m' k hi hI hk => ?_)
 ·refine ⟨h, by simp, by simp, by simp, fun i hi => ?_⟩
  simp at hi
  rcases hi with rfl | rfl | rfl | rfl | rfl | rfl | rfl <;> simp
 ·obtain ⟨hP, t24, t25, t26, tk⟩ := hI
  have t6' : Tm.get 6 t' = .pointer (some ⟨T, 0, none⟩) := (tk 6 (by simp)).trans t6
  by_cases hi6 : i < 6
  ·have dI : decide ((i : Int) < 6) = true := decide_eq_true (by omega)
   have hF : m'.obj m4.n = m5.obj m4.n := hP.fr m4.n (by rw [p4, qm]; omega) (by omega) fun e => by have := hcv _ e; omega
   have hA : Arr m' m4.n fnL := (by rw [p4]; exact Arr.row m4 fnL : Arr m5 m4.n fnL).congr hF
   have lF : ∀ s, load1 m' ⟨m4.n, i, s⟩ = some (fnG (109 + i)) := fun s => by rw [hA.load1, fnL_at hi6]
   have hia : qZ 1 (.slice (some ⟨m4.n, 0, some 3⟩) 6 6) (.int .i64 (i : Int)) = some (.pointer (some ⟨m4.n, i, none⟩)) := by
    rcases (by omega : i = 0 ∨ i = 1 ∨ i = 2 ∨ i = 3 ∨ i = 4 ∨ i = 5) with rfl | rfl | rfl | rfl | rfl | rfl <;> rfl
   obtain ⟨v, m6, q1, q2⟩ := VI ha hx N hN (g := 109 + i) hi6 rfl hP
   obtain ⟨i1, hi1⟩ := qb8 (i + 1)
   have w1 : IntKind.i64.wrap ((i : Int) + 1) = (i1 : Int) := by rw [wrap64 _ (by omega) (by omega)]; omega
   rw [← hi1] at q2 hk
   have eI : ((i : Int) < 6) = True := eq_true (by omega)
   simp [t24, t25, t26, t6', eI, hia, lF, q1, w1]
   refine hk hi6 _ _ ⟨q2, by simp [t24], by simp [t25], by simp, fun j hj => ?_⟩
   have := tk j hj
   simp at hj
   rcases hj with rfl | rfl | rfl | rfl | rfl | rfl | rfl <;> simp [this]
  ·obtain rfl : i = 6 := by omega
   have eI : (((6 : Nat) : Int) < 6) = False := eq_false (by omega)
   simp [t24, t25, t26]
   refine hq _ _ hP fun j hj => ?_
   have := tk j hj
   simp at hj
   rcases hj with rfl | rfl | rfl | rfl | rfl | rfl | rfl <;> simp [this]
theorem gU {v n : Value} (h : qL v = some n) : Dx.okC v = true := by cases v <;> first | rfl | cases h
theorem VJ {v n : Value} (h : qL v = some n) : wn [.slice none 0 0] [(0, 1, v)] = some (.agg ⟨[v]⟩) := by cases v <;> first | rfl | cases h
theorem Zn {v n : Value} (h : qL v = some n) (a : Int) : wn [.int .i64 0, .slice none 0 0] [(0, 1, iv a), (1, 1, v)] = some (.agg ⟨[iv a, v]⟩) := by cases v <;> first | rfl | cases h
abbrev zTh : List Value := [.int .i64 0, .slice none 0 0]
theorem vK (t : Th) : (qE t).length = 2 := rfl
theorem Bn (m : M) (a b : Value) : kc 2 1 (rep 1 [.int .i64 0, .slice none 0 0]) [(0, 2, .agg ⟨[a, b]⟩)] m = some (.slice (some ⟨m.n, 0, some 5⟩) 1 1, Dx.newRow m [a, b]) := rfl
structure RI (m : M) (p : Pg) (i : Nat) (m' : M) (rows : List Th) (gv : Value) : Prop where
 ge : GE m m' [(m.n + 2, [iv p.cells, gv]), (m.n + 1, zTh), (m.n, [iv p.cells, p.tv])] gv 2 qE rows
 len : rows.length = i
 ok : ∀ u ∈ rows, ThOK m' u
 sep : ∀ u ∈ rows, ∀ X, KL u X → m.n + 3 ≤ X ∧ blk gv ≠ some X
 ths : ∀ (j : Nat) u w, rows[j]? = some u → p.ths[j]? = some w → ThR u w
theorem DJ (N : Nat) (hN : 65560 ≤ N) (m : M) (hm : m.base ≤ m.n) (p : Pg) (hp : PgOK m p) (hx : ∀ t ∈ p.ths, TX t) (hl : p.ths.length ≤ 64) :
  Dx.Call (ex Tryz.prog (N + 4)) 34 [pgV p] m fun v m' => ∃ q : Pg, v = pgV q ∧ PgOK m' q ∧ PgR q p ∧ (∀ B, blk q.tv = some B → m.n ≤ B) ∧ ∀ t ∈ q.ths, ∀ X, KL t X → m.n ≤ X := by
 refine qp db8_ok (by simp) ?_
 obtain ⟨n, hn⟩ := qb8 (p.ths.length)
 have htl : qL p.tv = some (.int .i64 (n : Int)) := by rw [hn]; exact hp.tv.len
 obtain ⟨m1, hm1⟩ := qb8 (Dx.newRow m [iv p.cells, p.tv])
 obtain ⟨m2, hm2⟩ := qb8 (Dx.newRow m1 zTh)
 obtain ⟨m3, hm3⟩ := qb8 (Dx.newRow m2 zTh)
 have n1 : m1.n = m.n + 1 := by rw [hm1, qm]
 have n2 : m2.n = m.n + 2 := by rw [hm2, qm, n1]
 have n3 : m3.n = m.n + 3 := by rw [hm3, qm, n2]
 have g1 := (GE.nil (e := 2) (f := qE) (St.nil hm (Ext.refl m))).row [iv p.cells, p.tv]
 rw [← hm1] at g1
 have g2 := g1.row zTh
 rw [← hm2, n1] at g2
 have g3 := g2.row zTh
 rw [← hm3, n2] at g3
 obtain ⟨m4, s1, g4, s3, s4⟩ := g3.fill 0 rfl (n := 2) (l' := [iv p.cells, .slice none 0 0]) rfl rfl (by simp; exact ⟨rfl, rfl⟩)
 have g4 : GE m m4 [(m.n + 2, [iv p.cells, .slice none 0 0]), (m.n + 1, zTh), (m.n, [iv p.cells, p.tv])] (.slice none 0 0) 2 qE ([] : List Th) := g4
 have l1 : ∀ o s, load1 m2 ⟨m.n, o, s⟩ = [iv p.cells, p.tv][o]? := fun o s => (g2.st.get 1 rfl).2.2.load1 o s
 have l4 : ∀ o s, load1 m4 ⟨m.n, o, s⟩ = [iv p.cells, p.tv][o]? := fun o s => (g4.st.get 2 rfl).2.2.load1 o s
 have bx : yA (pgV p) m = some (.pointer (some ⟨m.n, 0, none⟩), m1) := by rw [hm1]; rfl
 have bd : wn [.int .i64 0, .slice none 0 0] [(0, 1, iv p.cells)] = some (.agg ⟨[iv p.cells, .slice none 0 0]⟩) := rfl
 simp [bx, ← hm2, ← hm3, n1, n2, l1, bd, s1, l4, htl]
 refine qq (c := Fm) rfl (Ret m _) (fun i t m' => Tm.get 2 t = .pointer (some ⟨m.n + 1, 0, none⟩) ∧ Tm.get 3 t = .pointer (some ⟨m.n + 2, 0, none⟩) ∧ Tm.get 13 t = p.tv ∧ Tm.get 14 t = iv n ∧ Tm.get 15 t = iv i ∧ ∃ rows gv, RI m p i m' rows gv) n (by omega) ?_ (fun i t m' k hi hI hk => ?_)
 ·exact ⟨by simp, by simp, by simp, by simp, by simp, [], .slice none 0 0, g4, rfl, (fun u hu => by cases hu), (fun u hu => by cases hu), fun j u w hj => by simp at hj⟩
 obtain ⟨t2, t3, t13, t14, t15, rows, gv, hI⟩ := hI
 by_cases hin : i < n
 ·have eI : ((i : Int) < (n : Int)) = True := eq_true (by omega)
  obtain ⟨th, hth⟩ : ∃ r, p.ths[i]? = some r := ⟨_, qae (by omega)⟩
  have hthm := qaf hth
  have htx := hx th hthm
  have hs' := hI.ge.st.sees
  obtain ⟨a1, a2, _⟩ := hp.tv.at hth
  have a2' := a2 m' hs'
  have hto := (hp.ths th hthm)
  obtain ⟨T5, hT5⟩ := qb8 (m'.n)
  obtain ⟨m5, hm5⟩ := qb8 (Dx.newRow m' zTh)
  have e5 : Ext m' m5 := by rw [hm5]; exact Ext.row _ _
  have n5 : m5.n = T5 + 1 := by rw [hm5, qm, hT5]
  have g5 := hI.ge.row zTh
  rw [← hm5, ← hT5] at g5
  obtain ⟨m6, u1, g6, u3, u4⟩ := g5.fill 0 rfl (n := 2) (l' := qE th) rfl rfl (by simp [qE]; exact ⟨rfl, gU hto.av.len⟩)
  have g6 : GE m m6 ((T5, qE th) :: [(m.n + 2, [iv p.cells, gv]), (m.n + 1, zTh), (m.n, [iv p.cells, p.tv])]) gv 2 qE rows := g6
  have l6 : ∀ o s, load1 m6 ⟨T5, o, s⟩ = (qE th)[o]? := fun o s => (g6.st.get 0 rfl).2.2.load1 o s
  simp only [qE] at l6
  have hto6 := hto.sees g6.st.sees
  obtain ⟨cv, m7, c1, c2, c3, c4, c5, c6⟩ := Qn (N + 2) th.av th.acts htx.len m6 g6.st.sees.base hto6.av
  obtain ⟨T, hT⟩ := qb8 (m7.n)
  obtain ⟨m8, hm8⟩ := qb8 (Dx.newRow m7 [cv])
  have n8 : m8.n = T + 1 := by rw [hm8, qm, hT]
  obtain ⟨m9, hm9⟩ := qb8 (Dx.newRow m8 fnL)
  have n9 : m9.n = T + 2 := by rw [hm9, qm, n8]
  have n67 := c2.n
  have e78 : Ext m7 m8 := by rw [hm8]; exact Ext.row _ _
  have e89 : Ext m8 m9 := by rw [hm9]; exact Ext.row _ _
  have g9 := ((g6.step c2).step e78).step e89
  have hcvT : ∀ B, blk cv = some B → B < m7.n := c3.lt
  have st9 : St m6 m9 [(T, [cv])] := by
   have := ((St.nil g6.st.sees.base c2).row [cv])
   rw [← hm8, ← hT] at this
   exact this.step e89
  have hP : PSt m6 m9 T cv th.acts 0 m9 := by
   refine ⟨?_, qah _, fun _ _ _ _ => rfl⟩
   have hgr : GrR m6 m7 cv 11 qe th.acts ∨ (th.acts = [] ∧ ∃ B, m6.n ≤ B ∧ cv = .slice (some ⟨B, 0, some (code 11 true)⟩) 0 0) := by
    by_cases he : th.acts = []
    ·rcases c6 he with h | h
     ·exact .inl (.inl ⟨he, h⟩)
     ·exact .inr ⟨he, h⟩
    ·exact .inl (c5 he).grr
   rcases hgr with hgr | ⟨he, B, hB, hcv⟩
   ·refine .inl ⟨cv, th.acts, ⟨⟨st9, (hgr.keep e78.n fun B hB _ => e78.obj B hB).keep e89.n fun B hB _ => e89.obj B hB, fun B hB p hp => ?_⟩, fun a ha => (hto.acts a ha).sees g9.st.sees, fun a ha X hX => ?_, htx.len⟩, LEq.refl _, fun h => absurd h (by omega), fun X hX => .inl hX⟩
    ·rw [qal.1 hp]; have := hcvT B hB; simp; omega
    ·have h1 := (hto.acts a ha).lt hX
     have := g6.st.ext.n
     exact ⟨by omega, fun e => by have := c4 X e; omega⟩
   ·refine .inr ⟨by omega, he, ⟨st9, ?_⟩⟩
    have := (c3.sees ((Sees.refl (by have := (Sees.refl g6.st.sees.base).ext c2; exact this.base)).ext e78))
    rw [he] at this
    exact this.sees ((Sees.refl (by have := ((Sees.refl g6.st.sees.base).ext c2).ext e78; exact this.base)).ext e89)
  have w1 : ∀ (i1 : Nat), i1 = i + 1 → IntKind.i64.wrap ((i : Int) + 1) = (i1 : Int) := fun i1 h => by rw [wrap64 _ (by omega) (by omega)]; omega
  have zb : wn [.slice none 0 0] [(0, 1, cv)] = some (.agg ⟨[cv]⟩) := VJ c3.len
  have zbx : yA (.agg ⟨[cv]⟩) m7 = some (.pointer (some ⟨T, 0, none⟩), m8) := by rw [hm8, hT]; rfl
  simp [t2, t3, t13, t14, t15, eI, a1, a2', qf, ← hm5, ← hT5, u1, l6, c1, zb, zbx, -VQ]
  refine Kx htx.ai htx.ex N hN hm9 hP (by omega) (fun B hB => by have := hcvT B hB; omega) (by simp) _ _ _ _ (fun m10 t' h10 tk => ?_)
  have k2 : Tm.get 2 t' = .pointer (some ⟨m.n + 1, 0, none⟩) := by rw [tk 2 (by simp)]; simpa using t2
  have k3 : Tm.get 3 t' = .pointer (some ⟨m.n + 2, 0, none⟩) := by rw [tk 3 (by simp)]; simpa using t3
  have k5 : Tm.get 5 t' = .pointer (some ⟨T5, 0, none⟩) := by rw [tk 5 (by simp)]; simp
  have k6 : Tm.get 6 t' = .pointer (some ⟨T, 0, none⟩) := by rw [tk 6 (by simp)]; simp
  have k13 : Tm.get 13 t' = p.tv := by rw [tk 13 (by simp)]; simpa using t13
  have k14 : Tm.get 14 t' = iv n := by rw [tk 14 (by simp)]; simpa using t14
  have k15 : Tm.get 15 t' = iv i := by rw [tk 15 (by simp)]; simpa using t15
  clear tk
  obtain ⟨h10, n10, f10⟩ := h10
  rcases h10 with ⟨sv, cur, hts, hleq, hnw, hlow⟩ | ⟨h6, _, _⟩
  ·have hTT := hts.ge.st.get 0 rfl
   have n45 := e5.n
   have keep : ∀ B, B < m6.n → m10.obj B = m6.obj B := fun B hB => by
    rw [f10 B (by omega) (by omega) fun e => by have := c4 B e; omega, e89.obj B (by omega), e78.obj B (by omega), c2.obj B hB]
   have st10 : St m m10 [(T, [sv]), (T5, qE th), (m.n + 2, [iv p.cells, gv]), (m.n + 1, zTh), (m.n, [iv p.cells, p.tv])] := by
    refine ⟨g6.st.ext.trans hts.ge.st.ext, hm, fun q hq => ?_, ?_⟩
    ·rcases List.mem_cons.1 hq with rfl | hq
     ·exact ⟨qaq g6.st.ext.n hTT.1, hTT.2.1, hTT.2.2⟩
     ·obtain ⟨q1, q2, q3⟩ := g6.st.arr q hq
      exact ⟨q1, by omega, q3.congr (keep _ q2)⟩
    ·rw [List.map_cons, List.nodup_cons]
     refine ⟨fun h => ?_, g6.st.nd⟩
     obtain ⟨q, hq, e⟩ := List.mem_map.1 h
     have := (g6.st.arr q hq).2.1
     omega
   have glow := hI.ge.gr.low
   have g10 : GE m m10 [(T, [sv]), (T5, qE th), (m.n + 2, [iv p.cells, gv]), (m.n + 1, zTh), (m.n, [iv p.cells, p.tv])] gv 2 qE rows := by
    refine ⟨st10, g6.gr.keep (by omega) fun B hB _ => keep B hB, fun B hB q hq => ?_⟩
    rcases List.mem_cons.1 hq with rfl | hq
    ·have := (glow B hB).2; simp; omega
    ·exact g6.sep B hB q hq
   have lT : ∀ s, load1 m10 ⟨T, 0, s⟩ = some sv := fun s => hTT.2.2.load1 0 s
   have l5 : ∀ o s, load1 m10 ⟨T5, o, s⟩ = (qE th)[o]? := fun o s => (st10.get 1 rfl).2.2.load1 o s
   have l3 : ∀ o s, load1 m10 ⟨m.n + 2, o, s⟩ = [iv p.cells, gv][o]? := fun o s => (st10.get 2 rfl).2.2.load1 o s
   simp only [qE] at l5
   obtain ⟨u, hu⟩ : ∃ u : Th, u = ⟨th.loc, sv, cur⟩ := ⟨_, rfl⟩
   have hur : qE u = [iv th.loc, sv] := by rw [hu]; rfl
   obtain ⟨M1, hM1⟩ := qb8 (Dx.newRow m10 [iv th.loc, sv])
   have E1 : Ext m10 M1 := by rw [hM1]; exact Ext.row _ _
   have nM : M1.n = m10.n + 1 := by rw [hM1, qm]
   have uok : ThOK m10 u := by
    rw [hu]; exact ⟨hts.ge.gr.rd qv, hts.ac, by have := hts.len; simp; omega⟩
   have hok : ∀ y ∈ rows ++ [u], ∀ v ∈ qE y, Dx.okC v = true := fun y hy v hv => by
    have hyr : ∀ y : Th, (∃ n, qL y.av = some n) → v ∈ qE y → Dx.okC v = true := fun y ⟨n, hn⟩ hv => by
     simp [qE] at hv
     rcases hv with rfl | rfl
     ·rfl
     ·exact gU hn
    rcases qb6.1 hy with hy | hy
    ·exact hyr y ⟨_, (hI.ok y hy).av.len⟩ hv
    ·rw [qal.1 hy] at hv; exact hyr u ⟨_, uok.av.len⟩ hv
   obtain ⟨v', m11', p1, p2, p3, p4, p5, p6⟩ := g10.pushAny (by omega) vK (x := u) hok E1 (X := m10.n) (sp := some 5) (by rw [hM1, hur]; exact (Arr.row m10 _).loads (by simp)) (bytes := 32) (by unfold qW; have := hI.len; omega) (by have := hI.len; omega)
   obtain ⟨m11, hm11⟩ := qb8 (Dx.behind M1 m11')
   rw [← hm11] at p3 p4 p5
   obtain ⟨m12', r1, r2, r3, r4, r5⟩ := p3.st.storeAny 2 rfl (o := 1) (v := v') (by simp) p3.gr.okC
   obtain ⟨m12, hm12⟩ := qb8 (Dx.behind m11 m12')
   rw [← hm12] at r3 r4 r5
   have g12 := p3.put (k := 2) rfl r3 r4 r5
   have bz := Bn m10 (iv th.loc) sv
   rw [← hM1] at bz
   have bt := Zn hts.ge.gr.lens th.loc
   obtain ⟨i1, hi1⟩ := qb8 (i + 1)
   have w1 := w1 i1 hi1
   simp [k2, k3, k5, k6, k13, k14, k15, lT, l5, l3, bt, bz, p1, ← hm11, r1, ← hm12, w1]
   have thn : ∀ X, KL u X → m6.n ≤ X ∧ X < m10.n := fun X hX => by
    have hlt := uok.lt hX
    rw [hu] at hX
    rcases hX with hX | ⟨a, ha, hX⟩
    ·rcases hlow X hX with e | e
     ·exact ⟨c4 X e, hlt⟩
     ·exact ⟨by omega, hlt⟩
    ·exact ⟨hnw (by omega) a ha X hX, hlt⟩
   have keep12 : ∀ X, m.n + 3 ≤ X → X < m10.n → blk gv ≠ some X → m12.obj X = m10.obj X := fun X h1 h2 h3 => by
    rw [r5 X (by omega), p5 X h2 h3]
   have hnn : m'.n ≤ m6.n := by omega
   have h3n : m.n + 3 ≤ m'.n := by have := (hI.ge.st.get 0 rfl).2.1; omega
   refine hk hin _ _ ⟨by simp [k2], by simp [k3], by simp [k13], by simp [k14], by simp [hi1], rows ++ [u], v', ?_, by simp [hI.len], fun w hw => ?_, fun w hw X hX => ?_, fun j w x hj hjx => ?_⟩
   ·refine g12.sub (fun q hq => ?_) (by simp)
    simp at hq ⊢
    rcases hq with rfl | rfl | rfl <;> simp
   ·rcases qb6.1 hw with hw | hw
    ·refine (hI.ok w hw).congr (by omega) fun X hX => ?_
     have h1 := hI.sep w hw X hX
     have h2 := (hI.ok w hw).lt hX
     rw [keep12 X h1.1 (by omega) h1.2, keep X (by omega), u4 X (by omega), e5.obj X h2]
    ·rw [qal.1 hw]
     refine uok.congr (by omega) fun X hX => ?_
     have h1 := thn X hX
     exact keep12 X (by omega) h1.2 fun e => by have := (glow X e).2; omega
   ·rcases qb6.1 hw with hw | hw
    ·have h1 := hI.sep w hw X hX
     have h2 := (hI.ok w hw).lt hX
     refine ⟨h1.1, fun e => ?_⟩
     rcases p6 X e with e | e
     ·exact h1.2 e
     ·omega
    ·rw [qal.1 hw] at hX
     have h1 := thn X hX
     refine ⟨by omega, fun e => ?_⟩
     rcases p6 X e with e | e
     ·have := (glow X e).2; omega
     ·omega
   ·by_cases hji : j < i
    ·rw [qau (by have := hI.len; omega)] at hj
     exact hI.ths j w x hj hjx
    ·have hjl := (qag.1 hj).1
     have hl := hI.len
     rw [qao, List.length_singleton] at hjl
     obtain rfl : j = i := by omega
     rw [qav (by omega), hl, Nat.sub_self] at hj
     rw [hth] at hjx
     cases hj
     cases hjx
     rw [hu]
     exact ⟨rfl, hleq⟩
  ·exact absurd h6 (by omega)
 ·obtain rfl : i = n := by omega
  have eI : ((i : Int) < (i : Int)) = False := eq_false (by omega)
  obtain ⟨m5, s1, g5, s3, s4⟩ := hI.ge.fill 1 rfl (n := 2) (l' := [iv p.cells, gv]) rfl rfl (by simp; exact ⟨rfl, hI.ge.gr.okC⟩)
  have l3 : loads m' ⟨m.n + 2, 0, none⟩ 2 = some [iv p.cells, gv] := (hI.ge.st.get 0 rfl).2.2.loads (by simp)
  have l5 : loads m5 ⟨m.n + 1, 0, none⟩ 2 = some [iv p.cells, gv] := (g5.st.get 1 rfl).2.2.loads (by simp)
  simp [t2, t3, t14, t15, qf, l3, s1]
  refine Vn (a := ⟨m.n + 1, 0, none⟩) (l := [iv p.cells, gv]) (by simp [t2]) l5 g5.st.ext ⟨⟨p.cells, gv, rows⟩, rfl, ⟨g5.gr.rd vK, fun w hw => ?_, by have := hI.len; simp; omega⟩, ⟨rfl, by rw [hI.len, hn], hI.ths⟩, fun B hB => (hI.ge.gr.low B hB).1, fun w hw X hX => by have := (hI.sep w hw X hX).1; omega⟩
  exact (hI.ok w hw).congr (by omega) fun X hX => s4 X (by have := (hI.sep w hw X hX).1; omega)
end Go.Sx
namespace Go.Sx
open Go.Dx
inductive FT where
 | num (v : U) : FT
 | loc (n : Nd) : FT
 | one (op : Int) (a : FT) : FT
 | two (op : Int) (a b : FT) : FT
namespace FT
def sz : FT → Nat
 | .num _ => 1
 | .loc _ => 1
 | .one _ a => a.sz + 1
 | .two _ a b => a.sz + b.sz + 1
def lay : FT → Nat → List Nd
 | .num v, _ => [qU v]
 | .loc n, _ => [n]
 | .one op a, o => a.lay o ++ [⟨op, zU, ((o + a.sz : Nat) : Int) - 1, 0⟩]
 | .two op a b, o => a.lay o ++ (b.lay (o + a.sz) ++ [⟨op, zU, ((o + a.sz : Nat) : Int) - 1, ((o + a.sz + b.sz : Nat) : Int) - 1⟩])
def numO : FT → Option U
 | .num v => some v
 | _ => none
def good (k : Nat) : FT → Prop
 | .num _ => True
 | .loc n => n.op = 2 ∧ n.a = 0 ∧ n.val.1 < k ∧ n.b = 0
 | .one op a => 3 ≤ op ∧ op ≤ 5 ∧ a.good k ∧ a.numO = none
 | .two op a b => 6 ≤ op ∧ op ≤ 19 ∧ a.good k ∧ b.good k ∧ (a.numO = none ∨ b.numO = none)
theorem sz_pos : ∀ t : FT, 0 < t.sz
 | .num _ => by simp [sz]
 | .loc _ => by simp [sz]
 | .one _ a => by simp [sz]
 | .two _ a b => by simp [sz]
theorem lay_len : ∀ (t : FT) (o : Nat), (t.lay o).length = t.sz
 | .num _, _ => rfl
 | .loc _, _ => rfl
 | .one _ a, o => by simp [lay, sz, lay_len a o]
 | .two _ a b, o => by simp [lay, sz, lay_len a o, lay_len b]; omega
theorem of_layR {k : Nat} {e : List Nd} (hok : ∀ (i : Nat) n, e[i]? = some n → okN k i n = true) : ∀ (f i : Nat) (l : List Nd), i < f → i < e.length →
  ∃ t : FT, t.good k ∧ ww e f l i = l ++ t.lay l.length ∧ t.numO = wJ e f i := by
 intro f
 induction f with
 | zero => intro i l h; omega
 | succ f ih =>
  intro i l hif hie
  obtain ⟨n, hn⟩ : ∃ n, e[i]? = some n := ⟨_, qae hie⟩
  have ho := hok i n hn
  cases hv : wJ e (f + 1) i with
  | some v =>
   have hR : ww e (f + 1) l i = l ++ [qU v] := by unfold ww; rw [hv]
   exact ⟨.num v, trivial, hR, rfl⟩
  | none =>
   by_cases h1 : n.op = 1
   ·exfalso; unfold wJ at hv; rw [hn] at hv; simp [h1] at hv
   by_cases h2 : n.op = 2
   ·have hR : ww e (f + 1) l i = l ++ [n] := by unfold ww; rw [hv, hn]; simp only; rw [if_pos h2]
    rw [jU h2] at ho
    obtain ⟨a1, a2, a3⟩ := of_decide_eq_true ho
    exact ⟨.loc n, ⟨h2, a1, a2, a3⟩, hR, rfl⟩
   by_cases h5 : 3 ≤ n.op ∧ n.op ≤ 5
   ·rw [kE h5.1 h5.2] at ho
    obtain ⟨a0, a1, -, -⟩ := of_decide_eq_true ho
    obtain ⟨t, t1, t2, t3⟩ := ih n.a.toNat l (by omega) (by omega)
    have hA : wJ e f n.a.toNat = none := by
     cases hA : wJ e f n.a.toNat with
     | none => rfl
     | some a => unfold wJ at hv; rw [hn] at hv; simp only at hv; rw [if_neg h1, if_neg h2, hA] at hv; simp only at hv; rw [if_pos h5.2] at hv; cases hv
    have hR : ww e (f + 1) l i = ww e f l n.a.toNat ++ [⟨n.op, zU, ((ww e f l n.a.toNat).length : Int) - 1, 0⟩] := by
     conv => lhs; unfold ww
     rw [hv, hn]; simp only; rw [if_neg h2, if_pos h5.2]
    refine ⟨.one n.op t, ⟨h5.1, h5.2, t1, t3.trans hA⟩, ?_, rfl⟩
    rw [hR, t2, qao, lay_len, qb2]; rfl
   ·rw [wU h1 h2 h5] at ho
    obtain ⟨a0, a1, b0, b1, o6, o19, -⟩ := of_decide_eq_true ho
    have hn5 : ¬ n.op ≤ 5 := by omega
    obtain ⟨t, t1, t2, t3⟩ := ih n.a.toNat l (by omega) (by omega)
    obtain ⟨u, u1, u2, u3⟩ := ih n.b.toNat (ww e f l n.a.toNat) (by omega) (by omega)
    have hR : ww e (f + 1) l i = ww e f (ww e f l n.a.toNat) n.b.toNat ++ [⟨n.op, zU, ((ww e f l n.a.toNat).length : Int) - 1, ((ww e f (ww e f l n.a.toNat) n.b.toNat).length : Int) - 1⟩] := by
     conv => lhs; unfold ww
     rw [hv, hn]; simp only; rw [if_neg h2, if_neg hn5]
    have hAB : t.numO = none ∨ u.numO = none := by
     rw [t3, u3]
     cases hA : wJ e f n.a.toNat with
     | none => exact .inl rfl
     | some a =>
      cases hB : wJ e f n.b.toNat with
      | none => exact .inr rfl
      | some b => unfold wJ at hv; rw [hn] at hv; simp only at hv; rw [if_neg h1, if_neg h2, hA] at hv; simp only at hv; rw [if_neg hn5, hB] at hv; cases hv
    refine ⟨.two n.op t u, ⟨o6, o19, t1, u1, hAB⟩, ?_, rfl⟩
    have hl1 : (ww e f l n.a.toNat).length = l.length + t.sz := by rw [t2, qao, lay_len]
    rw [hR, u2, hl1, t2]
    simp only [qb2, qao, lay_len, lay, Nat.add_assoc]
theorem gR {l : List Nd} {x : Nd} {post : List Nd} {i : Nat} (hi : i = l.length) : (l ++ (x :: post))[i]? = some x := by subst hi; rw [qav (qah _), Nat.sub_self]; rfl
theorem layR_of {k : Nat} : ∀ (t : FT), t.good k → ∀ (pre post : List Nd) (f i : Nat), i + 1 = pre.length + t.sz → i < f →
  wJ (pre ++ (t.lay pre.length ++ post)) f i = t.numO ∧ ∀ l, ww (pre ++ (t.lay pre.length ++ post)) f l i = l ++ t.lay l.length
 | .num v, _, pre, post, f, i, hi, hf => by
  obtain ⟨f, rfl⟩ : ∃ g, f = g + 1 := ⟨f - 1, by omega⟩
  have he : (pre ++ ((FT.num v).lay pre.length ++ post))[i]? = some (qU v) := gR (by simp [sz] at hi; exact hi)
  have hv : wJ (pre ++ ((FT.num v).lay pre.length ++ post)) (f + 1) i = some v := by unfold wJ; rw [he]; rfl
  exact ⟨hv, fun l => by unfold ww; rw [hv]; rfl⟩
 | .loc n, hg, pre, post, f, i, hi, hf => by
  obtain ⟨f, rfl⟩ : ∃ g, f = g + 1 := ⟨f - 1, by omega⟩
  have he : (pre ++ ((FT.loc n).lay pre.length ++ post))[i]? = some n := gR (by simp [sz] at hi; exact hi)
  have h2 : n.op = 2 := hg.1
  have hv : wJ (pre ++ ((FT.loc n).lay pre.length ++ post)) (f + 1) i = none := by unfold wJ; rw [he]; simp only; rw [if_neg (by omega), if_pos h2]
  exact ⟨hv, fun l => by unfold ww; rw [hv, he]; simp only; rw [if_pos h2]; rfl⟩
 | .one op a, hg, pre, post, f, i, hi, hf => by
  obtain ⟨f, rfl⟩ : ∃ g, f = g + 1 := ⟨f - 1, by omega⟩
  obtain ⟨g3, g5, ga, gn⟩ := hg
  have ap := sz_pos a
  have hs : (FT.one op a).sz = a.sz + 1 := rfl
  obtain ⟨e, hee⟩ := qb8 (pre ++ ((FT.one op a).lay pre.length ++ post))
  have e1 : e = pre ++ (a.lay pre.length ++ ([⟨op, zU, ((pre.length + a.sz : Nat) : Int) - 1, 0⟩] ++ post)) := by rw [hee]; show pre ++ ((a.lay _ ++ _) ++ post) = _; rw [qb2]
  have he : e[i]? = some ⟨op, zU, ((pre.length + a.sz : Nat) : Int) - 1, 0⟩ := by
   rw [e1, ← qb2]
   exact gR (by rw [qao, lay_len]; omega)
  obtain ⟨q1, q2⟩ := layR_of a ga pre ([⟨op, zU, ((pre.length + a.sz : Nat) : Int) - 1, 0⟩] ++ post) f (pre.length + a.sz - 1) (by omega) (by omega)
  rw [← e1] at q1 q2
  rw [← hee]
  have hta : (((pre.length + a.sz : Nat) : Int) - 1).toNat = pre.length + a.sz - 1 := by omega
  have hv : wJ e (f + 1) i = none := by
   unfold wJ; rw [he]; simp only; rw [if_neg (by omega), if_neg (by omega), hta, q1, gn]
  refine ⟨hv, fun l => ?_⟩
  unfold ww
  rw [hv, he]
  simp only
  rw [if_neg (by omega), if_pos g5, hta, q2, qao, lay_len, qb2]
  rfl
 | .two op a b, hg, pre, post, f, i, hi, hf => by
  obtain ⟨f, rfl⟩ : ∃ g, f = g + 1 := ⟨f - 1, by omega⟩
  obtain ⟨g6, g19, ga, gb, gn⟩ := hg
  have ap := sz_pos a
  have bp := sz_pos b
  have hs : (FT.two op a b).sz = a.sz + b.sz + 1 := rfl
  obtain ⟨e, hee⟩ := qb8 (pre ++ ((FT.two op a b).lay pre.length ++ post))
  obtain ⟨x, hx⟩ : ∃ x : Nd, x = ⟨op, zU, ((pre.length + a.sz : Nat) : Int) - 1, ((pre.length + a.sz + b.sz : Nat) : Int) - 1⟩ := ⟨_, rfl⟩
  have e1 : e = pre ++ (a.lay pre.length ++ (b.lay (pre.length + a.sz) ++ ([x] ++ post))) := by rw [hee, hx]; show pre ++ ((a.lay _ ++ (b.lay _ ++ _)) ++ post) = _; rw [qb2, qb2]
  have pl : (pre ++ a.lay pre.length).length = pre.length + a.sz := by rw [qao, lay_len]
  have e2 : e = (pre ++ a.lay pre.length) ++ (b.lay (pre ++ a.lay pre.length).length ++ ([x] ++ post)) := by rw [e1, pl, qb2]
  have he : e[i]? = some x := by
   rw [e2, ← qb2]
   exact gR (by rw [qao, pl, lay_len]; omega)
  obtain ⟨q1, q2⟩ := layR_of a ga pre (b.lay (pre.length + a.sz) ++ ([x] ++ post)) f (pre.length + a.sz - 1) (by omega) (by omega)
  rw [← e1] at q1 q2
  obtain ⟨r1, r2⟩ := layR_of b gb (pre ++ a.lay pre.length) ([x] ++ post) f (pre.length + a.sz + b.sz - 1) (by rw [pl]; omega) (by omega)
  rw [← e2] at r1 r2
  rw [← hee]
  have xo : x.op = op := by rw [hx]
  have xa : x.a.toNat = pre.length + a.sz - 1 := by rw [hx]; simp only; omega
  have xb : x.b.toNat = pre.length + a.sz + b.sz - 1 := by rw [hx]; simp only; omega
  have hv : wJ e (f + 1) i = none := by
   unfold wJ; rw [he]; simp only; rw [if_neg (by omega), if_neg (by omega), xa, q1]
   cases hA : a.numO with
   | none => rfl
   | some u =>
    simp only
    rw [if_neg (by omega), xb, r1]
    rcases gn with gn | gn
    ·rw [hA] at gn; cases gn
    ·rw [gn]
  refine ⟨hv, fun l => ?_⟩
  unfold ww
  rw [hv, he]
  simp only
  rw [if_neg (by omega), if_neg (by omega), xa, xb, q2, r2, xo]
  simp only [qb2, qao, lay_len, lay, Nat.add_assoc]
theorem Wn (l r : List Nd) (j : Nat) : ((l ++ r).map fun n => kG n j).sum = (l.map fun n => kG n j).sum + (r.map fun n => kG n j).sum := by rw [List.map_append, List.sum_append]
theorem bu {k : Nat} : ∀ (t : FT), t.good k → ∀ (o j : Nat), ((t.lay o).map fun n => kG n j).sum = if o ≤ j ∧ j + 1 < o + t.sz then 1 else 0
 | .num v, _, o, j => by rw [if_neg (by simp only [sz]; omega)]; simp [lay, kG, qU]
 | .loc n, hg, o, j => by
  have : n.op = 2 := hg.1
  rw [if_neg (by simp only [sz]; omega)]
  simp only [lay, List.map_cons, List.map_nil, List.sum_cons, List.sum_nil, kG]
  rw [if_neg (by omega), if_neg (by omega)]; rfl
 | .one op a, hg, o, j => by
  obtain ⟨g3, g5, ga, gn⟩ := hg
  have ap := sz_pos a
  have hs : (FT.one op a).sz = a.sz + 1 := rfl
  show ((a.lay o ++ [(⟨op, zU, ((o + a.sz : Nat) : Int) - 1, 0⟩ : Nd)]).map fun n => kG n j).sum = _
  rw [Wn, bu a ga o j, hs]
  simp only [List.map_cons, List.map_nil, List.sum_cons, List.sum_nil, kG]
  (repeat' split) <;> omega
 | .two op a b, hg, o, j => by
  obtain ⟨g6, g19, ga, gb, gn⟩ := hg
  have ap := sz_pos a
  have bp := sz_pos b
  have hs : (FT.two op a b).sz = a.sz + b.sz + 1 := rfl
  show ((a.lay o ++ (b.lay (o + a.sz) ++ [(⟨op, zU, ((o + a.sz : Nat) : Int) - 1, ((o + a.sz + b.sz : Nat) : Int) - 1⟩ : Nd)])).map fun n => kG n j).sum = _
  rw [Wn, Wn, bu a ga o j, bu b gb _ j, hs]
  simp only [List.map_cons, List.map_nil, List.sum_cons, List.sum_nil, kG]
  (repeat' split) <;> omega
theorem QY {k : Nat} : ∀ (t : FT), t.good k → ∀ (o i : Nat) n, (t.lay o)[i]? = some n → okN k (o + i) n = true
 | .num v, _, o, i, n, h => by
  have hi := (qag.1 h).1
  simp only [lay, List.length_singleton] at hi
  obtain rfl : i = 0 := by omega
  cases h
  unfold okN qU; simp
 | .loc m, hg, o, i, n, h => by
  have hi := (qag.1 h).1
  simp only [lay, List.length_singleton] at hi
  obtain rfl : i = 0 := by omega
  cases h
  rw [jU hg.1]; exact decide_eq_true hg.2
 | .one op a, hg, o, i, n, h => by
  obtain ⟨g3, g5, ga, gn⟩ := hg
  have ap := sz_pos a
  have hi := (qag.1 h).1
  rw [lay_len] at hi
  simp only [sz] at hi
  by_cases h1 : i < a.sz
  ·simp only [lay] at h
   rw [qau (by rw [lay_len]; exact h1)] at h
   exact QY a ga o i n h
  ·obtain rfl : i = a.sz := by omega
   simp only [lay] at h
   rw [qav (by rw [lay_len]; exact qah _), lay_len, Nat.sub_self] at h
   cases h
   rw [kE g3 g5]
   exact decide_eq_true ⟨by simp only; omega, by simp only; omega, rfl, rfl⟩
 | .two op a b, hg, o, i, n, h => by
  obtain ⟨g6, g19, ga, gb, gn⟩ := hg
  have ap := sz_pos a
  have bp := sz_pos b
  have hi := (qag.1 h).1
  rw [lay_len] at hi
  simp only [sz] at hi
  simp only [lay] at h
  by_cases h1 : i < a.sz
  ·rw [qau (by rw [lay_len]; exact h1)] at h
   exact QY a ga o i n h
  ·rw [qav (by rw [lay_len]; omega), lay_len] at h
   by_cases h2 : i < a.sz + b.sz
   ·rw [qau (by rw [lay_len]; omega)] at h
    have := QY b gb (o + a.sz) _ n h
    rwa [show o + a.sz + (i - a.sz) = o + i by omega] at this
   ·obtain rfl : i = a.sz + b.sz := by omega
    rw [qav (by rw [lay_len]; omega), lay_len, show a.sz + b.sz - a.sz - b.sz = 0 by omega] at h
    cases h
    rw [wU (by simp only; omega) (by simp only; omega) (by simp only; omega)]
    exact decide_eq_true ⟨by simp only; omega, by simp only; omega, by simp only; omega, by simp only; omega, g6, g19, rfl⟩
theorem lay_expr {k : Nat} {t : FT} (hg : t.good k) (hs : t.sz ≤ 65536) : qD k (t.lay 0) = true := by
 have hp := sz_pos t
 have hc : ∀ j, qO (t.lay 0) (t.lay 0).length j = if 0 ≤ j ∧ j + 1 < 0 + t.sz then 1 else 0 := fun j => by
  unfold qO
  rw [List.take_length]; exact bu t hg 0 j
 refine jz (by rw [lay_len]; exact hp) (by rw [lay_len]; exact hs) (fun i n h => by have := QY t hg 0 i n h; rwa [Nat.zero_add] at this) (fun j hj => ?_) (fun j => ?_)
 ·rw [lay_len] at hj
  rw [hc, if_pos (by omega)]; omega
 ·rw [hc]; split <;> omega
end FT
theorem VT {k : Nat} {e : List Nd} (h : qD k e = true) : qD k (wM e) = true ∧ wM (wM e) = wM e := by
 obtain ⟨x1, x2, x3⟩ := wR h
 have hne : e ≠ [] := by rintro rfl; simp at x1
 obtain ⟨t, t1, t2, t3⟩ := FT.of_layR x3 e.length (e.length - 1) [] (by omega) (by omega)
 have hf : wM e = t.lay 0 := by unfold wM; rw [if_neg hne, t2]; rfl
 have hl : t.sz ≤ e.length := by
  have := (zW x3 e.length (e.length - 1) [] (by omega) (by omega)).len
  rw [xB h, t2] at this
  simp [FT.lay_len] at this
  exact this
 have hp := FT.sz_pos t
 refine ⟨by rw [hf]; exact FT.lay_expr t1 (by omega), ?_⟩
 rw [hf]
 have hne2 : t.lay 0 ≠ [] := fun e0 => by have := FT.lay_len t 0; rw [e0] at this; simp at this; omega
 have := (FT.layR_of t t1 [] [] (t.lay 0).length ((t.lay 0).length - 1) (by rw [FT.lay_len]; simp; omega) (by rw [FT.lay_len]; omega)).2 []
 simp at this
 conv => lhs; unfold wM
 rw [if_neg hne2, this]
end Go.Sx
namespace Go.Sx
open Go.Dx Go.Proofs
structure Cl (P : Ac → Prop) : Prop where
 to : ∀ a z, P a → (a.op = 9 ∨ a.op = 10) → P { a with to := z }
 jmp : ∀ b, P b → b.op = 10 → P (kF b)
 set : ∀ b a, P b → P a → b.op = 2 → a.op = 3 → P (qF b a.es (.slice none 0 0))
 setl : ∀ b a, P b → P a → b.op = 2 → a.op = 2 → P (qF b [jO a.dst] (.slice none 0 0))
section
variable {P : Ac → Prop} (c : Cl P) {acs : List Ac} (h : ∀ a ∈ acs, P a)
include c h
theorem Cl.wo (o : Nat → Bool) : ∀ a ∈ wo o acs, P a := fun a ha => by
 obtain ⟨b, hb, rfl⟩ := za ha
 unfold wV
 split
 ·exact c.to b _ (h b hb) (by assumption)
 ·exact h b hb
theorem Cl.br : ∀ a ∈ acs.map wT, P a := fun a ha => by
 obtain ⟨b, hb, rfl⟩ := List.mem_map.1 ha
 unfold wT
 split
 ·rename_i hh; exact c.jmp b (h b hb) (by have := hh.1; unfold jQ at this; simp at this; exact this.1)
 ·exact h b hb
theorem Cl.ch : ∀ a ∈ chn acs, P a := fun a ha => by
 obtain ⟨b, hb, rfl⟩ := List.mem_map.1 ha
 unfold kT
 split
 ·split
  ·exact c.to b _ (h b hb) (by assumption)
  ·exact h b hb
 ·exact h b hb
omit c h in
theorem zH (aim : Nat → Bool) (i : Nat) (st : List Ac × (Nat → Bool)) : (qN aim i st).1 = st.1 ∨ ∃ a b, st.1[i]? = some a ∧ st.1[i + 1]? = some b ∧ b.op = 2 ∧ ((a.op = 3 ∧ (qN aim i st).1 = st.1.set (i + 1) (qF b a.es (.slice none 0 0))) ∨ (a.op = 2 ∧ (qN aim i st).1 = st.1.set (i + 1) (qF b [jO a.dst] (.slice none 0 0)))) := by
 unfold qN
 cases hA : st.1[i]? with
 | none => exact .inl rfl
 | some a =>
  cases hB : st.1[i + 1]? with
  | none => exact .inl rfl
  | some b =>
   simp only
   by_cases hp : wS aim a b i = true
   ·rw [if_pos hp]
    by_cases h3 : b.op = 3 ∧ a.op = 3
    ·rw [if_pos h3]; exact .inl rfl
    ·rw [if_neg h3]
     unfold wS at hp
     simp only [qak] at hp
     have pa : (a.op = 2 ∨ a.op = 3) := by have := hp.2.1; unfold kW at this; simp at this; exact this.1
     have pb : (b.op = 2 ∨ b.op = 3) := by have := hp.2.2.1; unfold kW at this; simp at this; exact this.1
     unfold kv
     by_cases hb3 : b.op = 3
     ·rw [if_pos hb3]; exact .inl rfl
     ·rw [if_neg hb3]
      have hb2 : b.op = 2 := by omega
      by_cases ha3 : a.op = 3
      ·rw [if_pos ha3]; exact .inr ⟨a, b, rfl, rfl, hb2, .inl ⟨ha3, rfl⟩⟩
      ·rw [if_neg ha3]; exact .inr ⟨a, b, rfl, rfl, hb2, .inr ⟨by omega, rfl⟩⟩
   ·rw [if_neg hp]; exact .inl rfl
theorem Cl.pf (aim : Nat → Bool) : ∀ i, ∀ a ∈ (prF aim acs i).1, P a
 | 0 => h
 | i + 1 => fun x hx => by
  have ih := Cl.pf aim i
  have hx' : x ∈ (qN aim i (prF aim acs i)).1 := hx
  rcases zH aim i (prF aim acs i) with e | ⟨a, b, h1, h2, h3, ⟨h4, e⟩ | ⟨h4, e⟩⟩
  ·rw [e] at hx'; exact ih x hx'
  ·rw [e] at hx'
   rcases qas hx' with hx' | rfl
   ·exact ih x hx'
   ·exact c.set b a (ih b (qaf h2)) (ih a (qaf h1)) h3 h4
  ·rw [e] at hx'
   rcases qas hx' with hx' | rfl
   ·exact ih x hx'
   ·exact c.setl b a (ih b (qaf h2)) (ih a (qaf h1)) h3 h4
theorem Cl.pr : ∀ a ∈ prs acs, P a := Cl.wo c (Cl.pf c h _ _) _
end
theorem Cl.rd {P : Ac → Prop} (c : Cl P) {acs : List Ac} (h : ∀ a ∈ acs, P (wh a)) : ∀ a ∈ rdA acs, P a := by
 have h0 : ∀ a ∈ acs.map wh, P a := fun a ha => by obtain ⟨b, hb, rfl⟩ := List.mem_map.1 ha; exact h b hb
 exact c.pr (c.wo (c.wo (c.ch (c.wo (c.br h0) _)) _) _)
def Exk (k : Nat) (e : List Nd) : Prop := e = [] ∨ qD k e = true
theorem ZA {k k' : Nat} (hk : k ≤ k') {e : List Nd} (h : qD k e = true) : qD k' e = true := by
 have hok : ∀ {i : Nat} {n : Nd}, okN k i n = true → okN k' i n = true := fun {i n} h => by
  unfold okN at h ⊢
  split
  ·rename_i h1; rw [if_pos h1] at h; exact h
  ·rename_i h1; rw [if_neg h1] at h
   split
   ·rename_i h2; rw [if_pos h2] at h
    have := of_decide_eq_true h
    exact decide_eq_true (by omega)
   ·rename_i h2; rw [if_neg h2] at h; exact h
 unfold qD at h ⊢
 simp only [qak, List.all_eq_true, decide_eq_true_eq] at h ⊢
 refine ⟨⟨h.1.1, fun i hi => ?_⟩, h.2⟩
 have := h.1.2 i hi
 cases he : e[i]? with
 | none => rfl
 | some n => rw [he] at this; exact hok this
theorem Exk.to24 {k : Nat} (hk : k ≤ 24) {e : List Nd} (h : Exk k e) : Ex24 e := h.imp _root_.id (ZA hk)
theorem Exk.fld {k : Nat} {e : List Nd} (h : Exk k e) : Exk k (wM e) ∧ wM (wM e) = wM e ∧ ((wM e).length = 0 ↔ e.length = 0) ∧ (qD k e = true → qD k (wM e) = true) := by
 rcases h with rfl | h
 ·exact ⟨.inl rfl, rfl, Iff.rfl, fun h => absurd (wR h).1 (by simp)⟩
 ·obtain ⟨h1, h2⟩ := VT h
  have a1 := (wR h).1
  have a2 := (wR h1).1
  exact ⟨.inr h1, h2, by omega, fun _ => h1⟩
structure QA (cells : Int) (k : Nat) (a : Ac) : Prop where
 op : 1 ≤ a.op ∧ a.op ≤ 10
 may : ky a.op a.mode = true
 dst : zT (pD a.op) k a.dst = true
 pl : plB (pP a.op) cells k a = true
 es : esB (pE a.op) (pF a.op) k a = true
 to : (a.op = 9 ∨ a.op = 10) ∨ a.to = 0
theorem DP {cells : Int} {k na : Nat} {a : Ac} : vl cells k na a = true ↔ QA cells k a ∧ ((a.op = 9 ∨ a.op = 10) → 0 ≤ a.to ∧ a.to ≤ na) := by
 unfold vl toB pT
 simp only [qak, decide_eq_true_eq]
 constructor
 ·rintro ⟨h1, h2, h3, h4, h5, h6⟩
  by_cases h9 : a.op = 9 ∨ a.op = 10
  ·rw [if_pos h9] at h6
   exact ⟨⟨h1, h2, h3, h4, h5, .inl h9⟩, fun _ => of_decide_eq_true h6⟩
  ·rw [if_neg h9] at h6
   exact ⟨⟨h1, h2, h3, h4, h5, .inr (of_decide_eq_true h6)⟩, fun h => absurd h h9⟩
 ·rintro ⟨⟨h1, h2, h3, h4, h5, h6⟩, h7⟩
  refine ⟨h1, h2, h3, h4, h5, ?_⟩
  by_cases h9 : a.op = 9 ∨ a.op = 10
  ·rw [if_pos h9]; exact decide_eq_true (h7 h9)
  ·rw [if_neg h9]; exact decide_eq_true (h6.resolve_left h9)
theorem xZ {e f : Bool} {k : Nat} {a : Ac} : esB e f k a = true ↔ e = decide (0 < a.es.length) ∧ f = decide (0 < a.fs.length) ∧ (e = true → qD k a.es = true) ∧ (f = true → qD k a.fs = true) := by
 unfold esB
 simp only [qak, decide_eq_true_eq, Bool.or_eq_true, Bool.not_eq_true']
 constructor
 ·rintro ⟨⟨⟨h1, h2⟩, h3⟩, h4⟩
  exact ⟨h1, h2, fun h => h3.resolve_left (by rw [h]; simp), fun h => h4.resolve_left (by rw [h]; simp)⟩
 ·rintro ⟨h1, h2, h3, h4⟩
  refine ⟨⟨⟨h1, h2⟩, ?_⟩, ?_⟩
  ·cases e
   ·exact .inl rfl
   ·exact .inr (h3 rfl)
  ·cases f
   ·exact .inl rfl
   ·exact .inr (h4 rfl)
theorem ex_of {b : Bool} {k : Nat} {e : List Nd} (h1 : b = decide (0 < e.length)) (h2 : b = true → qD k e = true) : Exk k e := by
 by_cases h : 0 < e.length
 ·exact .inr (h2 (by rw [h1]; exact decide_eq_true h))
 ·exact .inl (qax (by omega))
section
variable {cells : Int} {k : Nat} {a : Ac}
theorem QA.exs (h : QA cells k a) : Exk k a.ixs ∧ Exk k a.es ∧ Exk k a.fs := by
 obtain ⟨h1, h2, h3, h4⟩ := xZ.1 h.es
 refine ⟨?_, ex_of h1 h3, ex_of h2 h4⟩
 have := h.pl
 unfold plB yF at this
 split at this
 ·simp only [qak] at this
  have := this.2
  split at this
  ·exact .inl (qax (of_decide_eq_true this))
  ·exact .inr this
 ·exact .inl (qax (of_decide_eq_true this).2.2)
theorem QA.fold (h : QA cells k a) : QA cells k (wh a) := by
 obtain ⟨x1, x2, x3⟩ := h.exs
 obtain ⟨h1, h2, h3, h4⟩ := xZ.1 h.es
 refine ⟨h.op, h.may, h.dst, ?_, xZ.2 ⟨h1.trans (decide_eq_decide.2 ?_), h2.trans (decide_eq_decide.2 ?_), fun e => x2.fld.2.2.2 (h3 e), fun e => x3.fld.2.2.2 (h4 e)⟩, h.to⟩
 ·have := h.pl
  unfold plB yF at this ⊢
  show (if pP a.op then _ else _) = true
  split
  ·rename_i hp
   rw [if_pos hp] at this
   simp only [qak] at this ⊢
   refine ⟨this.1, ?_⟩
   have h2 := this.2
   show (if a.size = 0 then decide ((wM a.ixs).length = 0) else qD k (wM a.ixs)) = true
   split
   ·rename_i hs; rw [if_pos hs] at h2; exact decide_eq_true (x1.fld.2.2.1.2 (of_decide_eq_true h2))
   ·rename_i hs; rw [if_neg hs] at h2; exact x1.fld.2.2.2 h2
  ·rename_i hp
   rw [if_neg hp] at this
   have h2 := of_decide_eq_true this
   exact decide_eq_true ⟨h2.1, h2.2.1, x1.fld.2.2.1.2 h2.2.2⟩
 ·have := x2.fld.2.2.1; show 0 < a.es.length ↔ 0 < (wM a.es).length; omega
 ·have := x3.fld.2.2.1; show 0 < a.fs.length ↔ 0 < (wM a.fs).length; omega
end
theorem QA.cl {cells : Int} {k : Nat} (hk : k ≤ 24) : Cl (QA cells k) where
 to a z h hop := ⟨h.op, h.may, h.dst, h.pl, h.es, .inl hop⟩
 jmp b h hop := by
  refine ⟨⟨by simp [kF], by simp [kF]⟩, by simp [kF, ky], by simp [kF, zT, pD], by simp [kF, plB, pP], by simp [kF, esB, pE, pF], .inl (.inl rfl)⟩
 set b a hb ha h2 h3 := by
  have hd : 0 ≤ b.dst ∧ b.dst < k := by have := hb.dst; unfold zT pD at this; rw [h2] at this; simpa using this
  have he : a.es ≠ [] ∧ qD k a.es = true := by
   obtain ⟨e1, _, e3, _⟩ := xZ.1 ha.es
   have hpe : pE a.op = true := by rw [h3]; rfl
   rw [hpe] at e1
   refine ⟨fun e0 => ?_, e3 hpe⟩
   rw [e0] at e1; simp at e1
  refine ⟨⟨by simp [qF], by simp [qF]⟩, by simp [qF, ky], by simp [qF, zT, pD, hd], by simp [qF, plB, pP], xZ.2 ⟨?_, rfl, fun _ => he.2, fun h => by simp [qF, pF] at h⟩, .inr rfl⟩
  simp [qF, pE]; exact decide_eq_true (qb4.2 he.1)
 setl b a hb ha h2 h3 := by
  have hd : 0 ≤ b.dst ∧ b.dst < k := by have := hb.dst; unfold zT pD at this; rw [h2] at this; simpa using this
  have ha : 0 ≤ a.dst ∧ a.dst < k := by have := ha.dst; unfold zT pD at this; rw [h3] at this; simpa using this
  have he : qD k [jO a.dst] = true := by
   have := FT.lay_expr (k := k) (t := FT.loc (jO a.dst)) ⟨rfl, rfl, by show (a.dst % 18446744073709551616).toNat < k; omega, rfl⟩ (by simp [FT.sz])
   exact this
  refine ⟨⟨by simp [qF], by simp [qF]⟩, by simp [qF, ky], by simp [qF, zT, pD, hd], by simp [qF, plB, pP], xZ.2 ⟨?_, rfl, fun _ => he, fun h => by simp [qF, pF] at h⟩, .inr rfl⟩
  simp [qF, pE]
def Fo (a : Ac) : Prop := wM a.ixs = a.ixs ∧ wM a.es = a.es ∧ wM a.fs = a.fs
theorem BC (d : Int) : wM [jO d] = [jO d] := by
 have := (FT.layR_of (k := (jO d).val.1 + 1) (FT.loc (jO d)) ⟨rfl, rfl, Nat.lt_succ_self _, rfl⟩ [] [] 1 0 (by simp [FT.sz]) (by omega)).2 []
 simp [FT.lay] at this
 unfold wM
 rw [if_neg (by simp)]
 exact this
theorem Fo.cl : Cl Fo where
 to a z h hop := h
 jmp b h hop := ⟨rfl, rfl, rfl⟩
 set b a hb ha h2 h3 := ⟨rfl, ha.2.1, rfl⟩
 setl b a hb ha h2 h3 := ⟨rfl, BC _, rfl⟩
end Go.Sx
namespace Go.Sx
open Go.Dx Go.Proofs
def w1 (a : Ac) : Nat := 1 + (if a.op = 10 then 1 else 0) + (if a.op = 2 then 1 else 0)
def wt (acs : List Ac) : Nat := (acs.map w1).sum
theorem BV (a b : List Ac) : wt (a ++ b) = wt a + wt b := by unfold wt; rw [List.map_append, List.sum_append]
theorem BL (a : Ac) : 1 ≤ w1 a := by unfold w1; omega
theorem Bd : ∀ l : List Ac, l.length ≤ wt l ∧ wt l ≤ 2 * l.length
 | [] => ⟨qah _, qah _⟩
 | a :: l => by
  have := Bd l
  have h : wt (a :: l) = w1 a + wt l := rfl
  have : w1 a ≤ 2 := by unfold w1; split <;> split <;> omega
  have := BL a
  rw [h, List.length_cons]; omega
theorem w1_op {a b : Ac} (h : a.op = b.op) : w1 a = w1 b := by unfold w1; rw [h]
theorem YX {f : Ac → Ac} : ∀ (l : List Ac), (∀ a ∈ l, w1 (f a) ≤ w1 a ∧ (w1 (f a) = w1 a → f a = a)) → wt (l.map f) ≤ wt l ∧ (wt (l.map f) = wt l → l.map f = l)
 | [], _ => ⟨qah _, fun _ => rfl⟩
 | a :: l, h => by
  have h1 := h a (qay ..)
  have h2 := YX l fun b hb => h b (qap _ hb)
  have e1 : wt ((a :: l).map f) = w1 (f a) + wt (l.map f) := rfl
  have e2 : wt (a :: l) = w1 a + wt l := rfl
  refine ⟨by omega, fun e => ?_⟩
  rw [List.map_cons, h1.2 (by omega), h2.2 (by omega)]
theorem bV : ∀ {l r : List Ac}, l.length = r.length → (∀ (j : Nat) a b, l[j]? = some a → r[j]? = some b → a.op = b.op) → wt l = wt r
 | [], [], _, _ => rfl
 | [], _ :: _, h, _ => by simp at h
 | _ :: _, [], h, _ => by simp at h
 | a :: l, b :: r, h, k => by
  have e1 : wt (a :: l) = w1 a + wt l := rfl
  have e2 : wt (b :: r) = w1 b + wt r := rfl
  rw [e1, e2, w1_op (k 0 a b rfl rfl), bV (by simpa using h) fun j x y hx hy => k (j + 1) x y (by simpa using hx) (by simpa using hy)]
theorem YG : ∀ (l : List Ac) (i : Nat) (b c : Ac), l[i]? = some b → wt (l.set i c) + w1 b = wt l + w1 c
 | [], i, b, c, h => by simp at h
 | a :: l, 0, b, c, h => by
  simp at h; subst h
  show w1 c + wt l + w1 a = w1 a + wt l + w1 c; omega
 | a :: l, i + 1, b, c, h => by
  have := YG l i b c (by simpa using h)
  show w1 a + wt (l.set i c) + w1 b = w1 a + wt l + w1 c; omega
theorem XP (o : Nat → Bool) (acs : List Ac) : ∀ i, i ≤ acs.length → wt (wq o acs i) ≤ wt (acs.take i) ∧ (wt (wq o acs i) = wt (acs.take i) → wq o acs i = acs.take i ∧ ∀ j, j ≤ i → kb o j = j)
 | 0, _ => ⟨qah _, fun _ => ⟨rfl, fun j hj => by rw [show j = 0 by omega]; rfl⟩⟩
 | i + 1, h => by
  obtain ⟨h1, h2⟩ := XP o acs i (by omega)
  have hi : acs[i]? = some acs[i] := qae (by omega)
  have et : acs.take (i + 1) = acs.take i ++ [acs[i]] := List.take_succ_eq_append_getElem (by omega)
  have wp := BL acs[i]
  have ws : wt [acs[i]] = w1 acs[i] := rfl
  have hk : kb o (i + 1) = kb o i + (if o i then 0 else 1) := rfl
  rw [zt hi, et, BV, BV, ws]
  cases ho : o i with
  | true =>
   rw [if_pos rfl, show wt [] = 0 from rfl]
   exact ⟨by omega, fun e => by omega⟩
  | false =>
   rw [if_neg (by simp), ws]
   refine ⟨by omega, fun e => ?_⟩
   obtain ⟨k1, k2⟩ := h2 (by omega)
   refine ⟨by rw [k1], fun j hj => ?_⟩
   by_cases hji : j ≤ i
   ·exact k2 j hji
   ·obtain rfl : j = i + 1 := by omega
    rw [hk, k2 i (qah _), ho, if_neg (by simp)]
theorem GL (o : Nat → Bool) (a : Ac) : (wV o a).op = a.op := by unfold wV; split <;> rfl
theorem wt_fix (o : Nat → Bool) (l : List Ac) : wt (l.map (wV o)) = wt l := by
 refine bV (by simp) fun j a b ha hb => ?_
 rw [qaw, hb] at ha
 cases ha
 exact GL o b
theorem Xw {acs : List Ac} (hto : ∀ a ∈ acs, (a.op = 9 ∨ a.op = 10) → 0 ≤ a.to ∧ a.to ≤ acs.length) (o : Nat → Bool) : wt (wo o acs) < wt acs ∨ wo o acs = acs := by
 obtain ⟨h1, h2⟩ := XP o acs acs.length (qah _)
 rw [List.take_length] at h1 h2
 unfold wo
 rw [wt_fix]
 by_cases he : wt (wq o acs acs.length) = wt acs
 ·obtain ⟨k1, k2⟩ := h2 he
  right
  rw [k1]
  refine (List.map_congr_left fun a ha => ?_).trans (List.map_id _)
  unfold wV
  split
  ·rename_i hop
   have := hto a ha hop
   rw [k2 a.to.toNat (by omega), show ((a.to.toNat : Nat) : Int) = a.to by omega]; rfl
  ·rfl
 ·left; omega
theorem br_w1 (a : Ac) : w1 (wT a) ≤ w1 a ∧ (w1 (wT a) = w1 a → wT a = a) := by
 unfold wT
 split
 ·rename_i hh
  have h10 : a.op = 10 := by have := hh.1; unfold jQ at this; simp at this; exact this.1
  have e1 : w1 (kF a) = 1 := by unfold w1 kF; simp
  have e2 : w1 a = 2 := by unfold w1; rw [h10]; simp
  rw [e1, e2]
  exact ⟨by omega, fun e => by omega⟩
 ·exact ⟨qah _, fun _ => rfl⟩
theorem brs_wt {acs : List Ac} (h : AI acs) : wt (brs acs) < wt acs ∨ brs acs = acs := by
 obtain ⟨h1, h2⟩ := YX (f := wT) acs fun a _ => br_w1 a
 unfold brs
 rcases Xw h.br.to (zV (acs.map wT)) with k | k
 ·left; omega
 ·rw [k]
  by_cases he : wt (acs.map wT) = wt acs
  ·exact .inr (h2 he)
  ·left; omega
theorem Xy (acs : List Ac) (a : Ac) : (kT acs a).op = a.op := by
 unfold kT
 split
 ·split <;> rfl
 ·rfl
theorem Fs (acs : List Ac) : wt (chn acs) = wt acs := by
 refine bV (by unfold chn; simp) fun j a b ha hb => ?_
 unfold chn at ha
 rw [qaw, hb] at ha
 cases ha
 exact Xy acs b
theorem Gn (aim : Nat → Bool) (acs : List Ac) : ∀ i, wt (prF aim acs i).1 < wt acs ∨ (prF aim acs i).1 = acs
 | 0 => .inr rfl
 | i + 1 => by
  show wt (qN aim i (prF aim acs i)).1 < wt acs ∨ (qN aim i (prF aim acs i)).1 = acs
  have ih := Gn aim acs i
  have step : ∀ (b c : Ac), (prF aim acs i).1[i + 1]? = some b → b.op = 2 → c.op = 1 → wt ((prF aim acs i).1.set (i + 1) c) < wt acs := fun b c hb h2 h1 => by
   have := YG _ _ b c hb
   have e1 : w1 b = 2 := by unfold w1; rw [h2]; simp
   have e2 : w1 c = 1 := by unfold w1; rw [h1]; simp
   rcases ih with ih | ih
   ·omega
   ·rw [ih] at this ⊢; omega
  rcases zH aim i (prF aim acs i) with e | ⟨a, b, h1, h2, h3, ⟨h4, e⟩ | ⟨h4, e⟩⟩
  ·rw [e]; exact ih
  ·rw [e]; exact .inl (step b _ h2 h3 rfl)
  ·rw [e]; exact .inl (step b _ h2 h3 rfl)
theorem prs_wt {acs : List Ac} (hto : ∀ a ∈ acs, (a.op = 9 ∨ a.op = 10) → 0 ≤ a.to ∧ a.to ≤ acs.length) : wt (prs acs) < wt acs ∨ prs acs = acs := by
 unfold prs
 have hP := Gn (wN acs) acs (acs.length - 1)
 have ht : ∀ i, ∀ a ∈ (prF (wN acs) acs i).1, (a.op = 9 ∨ a.op = 10) → 0 ≤ a.to ∧ a.to ≤ acs.length := by
  intro i
  induction i with
  | zero => exact hto
  | succ i ih =>
   intro x hx hop
   have hx' : x ∈ (qN (wN acs) i (prF (wN acs) acs i)).1 := hx
   rcases zH (wN acs) i (prF (wN acs) acs i) with e | ⟨a, b, h1, h2, h3, ⟨h4, e⟩ | ⟨h4, e⟩⟩
   ·rw [e] at hx'; exact ih x hx' hop
   ·rw [e] at hx'
    rcases qas hx' with hx' | rfl
    ·exact ih x hx' hop
    ·simp [qF] at hop
   ·rw [e] at hx'
    rcases qas hx' with hx' | rfl
    ·exact ih x hx' hop
    ·simp [qF] at hop
 rcases Xw (acs := (prF (wN acs) acs (acs.length - 1)).1) (by rw [vQ]; exact ht _) (prF (wN acs) acs (acs.length - 1)).2 with k | k
 ·left
  rcases hP with hP | hP
  ·omega
  ·rw [hP] at k ⊢; exact k
 ·rw [k]; exact hP
def aj (acs : List Ac) (a : Ac) : Nat := if (a.op = 9 ∨ a.op = 10) ∧ wW acs a.to.toNat = true then 1 else 0
def nj (acs : List Ac) : Nat := (acs.map (aj acs)).sum
theorem nj_le (acs : List Ac) : nj acs ≤ acs.length := by
 have : ∀ l : List Ac, (l.map (aj acs)).sum ≤ l.length := by
  intro l
  induction l with
  | nil => exact qah _
  | cons a l ih =>
   rw [List.map_cons, List.sum_cons, List.length_cons]
   have : aj acs a ≤ 1 := by unfold aj; split <;> omega
   omega
 exact this acs
theorem dO {acs : List Ac} : ∀ (f : Nat) (l : List Nat) (z e : Nat), ko acs f l z = some e → wW acs e = false
 | 0, _, _, _, h => by cases h
 | f + 1, l, z, e, h => by
  cases hj : wW acs z with
  | false => rw [vR hj] at h; cases h; exact hj
  | true =>
   by_cases hl : z ∈ l
   ·rw [vA hj hl] at h; cases h
   ·rw [dD hj hl] at h; exact dO f _ _ e h
theorem DY (acs : List Ac) : wW (chn acs) = wW acs := funext fun z => by
 unfold wW chn
 rw [qaw]
 cases acs[z]? with
 | none => rfl
 | some a => show decide ((kT acs a).op = 9) = decide (a.op = 9); rw [Xy]
theorem chn_nj {acs : List Ac} (hto : ∀ a ∈ acs, (a.op = 9 ∨ a.op = 10) → 0 ≤ a.to ∧ a.to ≤ acs.length) : nj (chn acs) < nj acs ∨ chn acs = acs := by
 have hsame : ∀ a, aj (chn acs) a = aj acs a := fun a => by unfold aj; rw [DY]
 have hone : ∀ a ∈ acs, aj acs (kT acs a) ≤ aj acs a ∧ (aj acs (kT acs a) = aj acs a → kT acs a = a) := fun a ha => by
  unfold kT
  by_cases hop : a.op = 9 ∨ a.op = 10
  ·rw [if_pos hop]
   have ht := hto a ha hop
   cases hc : ko acs (acs.length + 1) [] a.to.toNat with
   | none => exact ⟨qah _, fun _ => rfl⟩
   | some e =>
    have he := dO _ _ _ e hc
    simp only
    have e0 : aj acs { a with to := (e : Int) } = 0 := by unfold aj; rw [if_neg]; rintro ⟨_, h⟩; simp only [qat] at h; rw [he] at h; cases h
    rw [e0]
    refine ⟨Nat.zero_le _, fun h0 => ?_⟩
    have hj : wW acs a.to.toNat = false := by
     cases hj : wW acs a.to.toNat with
     | false => rfl
     | true => unfold aj at h0; rw [if_pos ⟨hop, hj⟩] at h0; cases h0
    rw [vR hj] at hc
    have : e = a.to.toNat := by cases hc; rfl
    rw [this, show ((a.to.toNat : Nat) : Int) = a.to by omega]
  ·rw [if_neg hop]; exact ⟨qah _, fun _ => rfl⟩
 have key : ∀ l : List Ac, (∀ a ∈ l, a ∈ acs) → ((l.map (kT acs)).map (aj acs)).sum ≤ (l.map (aj acs)).sum ∧ (((l.map (kT acs)).map (aj acs)).sum = (l.map (aj acs)).sum → l.map (kT acs) = l) := by
  intro l
  induction l with
  | nil => exact fun _ => ⟨qah _, fun _ => rfl⟩
  | cons a l ih =>
   intro hm
   have h1 := hone a (hm a (qay ..))
   have h2 := ih fun b hb => hm b (qap _ hb)
   simp only [List.map_cons, List.sum_cons]
   refine ⟨by omega, fun e => ?_⟩
   rw [h1.2 (by omega), h2.2 (by omega)]
 obtain ⟨k1, k2⟩ := key acs fun a ha => ha
 have hn : nj (chn acs) = ((acs.map (kT acs)).map (aj acs)).sum := by
  unfold nj chn
  congr 1
  exact List.map_congr_left fun a _ => hsame a
 rw [hn]
 by_cases he : ((acs.map (kT acs)).map (aj acs)).sum = (acs.map (aj acs)).sum
 ·exact .inr (k2 he)
 ·left; unfold nj; omega
def phi (acs : List Ac) : Nat := wt acs * 65537 + nj acs
theorem rd_wt {acs : List Ac} (h : AI (acs.map wh)) : wt (rdA acs) < wt acs ∨ rdA acs = chn (acs.map wh) := by
 have hf : wt (acs.map wh) = wt acs := bV (by simp) fun j a b ha hb => by
  rw [qaw, hb] at ha; cases ha; rfl
 unfold rdA
 obtain ⟨F, hF⟩ := qb8 (acs.map wh)
 rw [← hF] at h hf ⊢
 have a2 : AI (brs F) := h.br.wo _
 have a3 := AI.ch a2
 have a4 : AI (rea (chn (brs F))) := a3.wo _
 have a5 : AI (vG (rea (chn (brs F)))) := a4.wo _
 have b1 := brs_wt h
 have b2 := Fs (brs F)
 have b3 : wt (rea (chn (brs F))) < wt (chn (brs F)) ∨ rea (chn (brs F)) = chn (brs F) := Xw a3.to _
 have b4 : wt (vG (rea (chn (brs F)))) < wt (rea (chn (brs F))) ∨ vG (rea (chn (brs F))) = rea (chn (brs F)) := Xw a4.to _
 have b5 := prs_wt a5.to
 have c1 : wt (brs F) ≤ wt F := by rcases b1 with b | b; omega; rw [b]; exact qah _
 have c3 : wt (rea (chn (brs F))) ≤ wt (chn (brs F)) := by rcases b3 with b | b; omega; rw [b]; exact qah _
 have c4 : wt (vG (rea (chn (brs F)))) ≤ wt (rea (chn (brs F))) := by rcases b4 with b | b; omega; rw [b]; exact qah _
 have c5 : wt (prs (vG (rea (chn (brs F))))) ≤ wt (vG (rea (chn (brs F)))) := by rcases b5 with b | b; omega; rw [b]; exact qah _
 by_cases he : wt (prs (vG (rea (chn (brs F))))) = wt acs
 ·right
  rw [b5.resolve_left (by omega), b4.resolve_left (by omega), b3.resolve_left (by omega), b1.resolve_left (by omega)]
 ·left; omega
theorem Db {acs : List Ac} (h : ∀ a ∈ acs, Fo a) : acs.map wh = acs := by
 refine (List.map_congr_left fun a ha => ?_).trans (List.map_id _)
 obtain ⟨h1, h2, h3⟩ := h a ha
 unfold wh
 rw [h1, h2, h3]; rfl
theorem rd_phi {acs : List Ac} (h : AI acs) (hf : ∀ a ∈ acs, Fo a) (hl : (rdA acs).length ≤ 65536) : phi (rdA acs) < phi acs ∨ rdA acs = acs := by
 have hF := Db hf
 have hr := rd_wt (acs := acs) (by rw [hF]; exact h)
 rw [hF] at hr
 have hn := nj_le (rdA acs)
 unfold phi
 rcases hr with hr | hr
 ·left; omega
 ·rw [hr]
  have hw := Fs acs
  rcases chn_nj h.to with k | k
  ·left; omega
  ·exact .inr k
def AlA (a b : Ac) : Prop := a.op = b.op ∧ a.dst = b.dst ∧ a.to = b.to ∧ a.es = b.es ∧ a.fs = b.fs ∧ a.ixs = b.ixs
def AlL (l r : List Ac) : Prop := l.length = r.length ∧ ∀ (j : Nat) a b, l[j]? = some a → r[j]? = some b → AlA a b
theorem al_rd {acs : List Ac} (h : AI (acs.map wh)) (k : AlL acs (rdA acs)) : rdA acs = acs := by
 have hw : wt acs = wt (rdA acs) := bV k.1 fun j a b ha hb => (k.2 j a b ha hb).1
 have hr := (rd_wt h).resolve_left (by omega)
 refine List.ext_getElem? fun j => ?_
 cases ha : acs[j]? with
 | none =>
  have := List.getElem?_eq_none_iff.1 ha
  exact qb3 (by rw [← k.1]; exact this)
 | some a =>
  have hj := (qag.1 ha).1
  have hb : (rdA acs)[j]? = some (kT (acs.map wh) (wh a)) := by
   rw [hr]; unfold chn; rw [qaw, qaw, ha]; rfl
  rw [hb]
  obtain ⟨_, _, k3, k4, k5, k6⟩ := k.2 j a _ ha hb
  congr 1
  have : ∃ z, kT (acs.map wh) (wh a) = { wh a with to := z } := by
   unfold kT
   split
   ·split
    ·exact ⟨_, rfl⟩
    ·exact ⟨a.to, rfl⟩
   ·exact ⟨a.to, rfl⟩
  obtain ⟨z, hz⟩ := this
  rw [hz] at k3 k4 k5 k6 ⊢
  unfold wh at k3 k4 k5 k6 ⊢
  simp only at k3 k4 k5 k6 ⊢
  rw [← k3, ← k4, ← k5, ← k6]
theorem AlL.refl (l : List Ac) : AlL l l := ⟨rfl, fun j a b ha hb => by rw [ha] at hb; cases hb; exact ⟨rfl, rfl, rfl, rfl, rfl, rfl⟩⟩
theorem AcEq.al {a b c d : Ac} (h : AcEq a b) (k : AcEq c d) : AlA a c ↔ AlA b d := by
 obtain ⟨x, y, z, rfl⟩ := h
 obtain ⟨x', y', z', rfl⟩ := k
 exact Iff.rfl
theorem LEq.al {a b c d : List Ac} (h : LEq a b) (k : LEq c d) : AlL a c ↔ AlL b d := by
 have key : ∀ {a b c d : List Ac}, LEq a b → LEq c d → AlL b d → AlL a c := fun {a b c d} h k ⟨e1, e2⟩ => by
  refine ⟨by rw [h.len, k.len, e1], fun j u v hu hv => ?_⟩
  rcases h.atI j with ⟨f1, _⟩ | ⟨u', p, f1, f2, fe⟩
  ·rw [f1] at hu; cases hu
  rcases k.atI j with ⟨g1, _⟩ | ⟨v', q, g1, g2, ge⟩
  ·rw [g1] at hv; cases hv
  rw [f1] at hu; rw [g1] at hv
  cases hu; cases hv
  exact (fe.al ge).2 (e2 j p q f2 g2)
 exact ⟨key h.symm k.symm, key h k⟩
end Go.Sx
