/- Contracts. -/
import Derived.Test.YtdfaibjngkfnaaaGc
import Derived.Test.YtdfaibjngkfnaaaGd
import Derived.Test.YtdfaibjngkfnaaaGe
import Derived.Test.YtdfaibjngkfnaaaGb
import Derived.Test.YtdfaibjngkfnaaaGf
import Derived.Test.YtdfaibjngkfnaaaGg
set_option linter.unusedVariables false
set_option linter.unusedSimpArgs false
set_option linter.defProp false
namespace Go.Sx
open Go.Dx Go.Proofs
set_option maxRecDepth 10000
theorem jl {v : Value} {n : Int} (h : kG v = some (.int .i64 n)) : ∃ a l c, v = .slice a l c := by
 cases v <;> first | exact ⟨_, _, _, rfl⟩ | cases h
def KT (t : Tm) (V : Nat → Value) : Prop := ∀ i, i < 22 → Tm.get i t = V i
theorem KT.set {t : Tm} {V : Nat → Value} {j : Nat} {v : Value} (h : KT t V) (hj : 22 ≤ j) : KT (Tm.set j v t) V := fun i hi => by
 rw [kz, if_neg (by omega)]; exact h i hi
section
variable {S : Nat → Prop} {m m' : M} {V : Nat → Value} {P : Nat} {v : Value} {t : Tm}
theorem phA {es : List (Int × Int)} (h : SpJ S m m') (hT : KT t V) (hV : V 8 = .pointer (some ⟨P, 0, none⟩)) (hP : P < m.n) (hlv : ∀ s, load1 m ⟨P, 0, s⟩ = some v) (hr : Rd m v 2 edgeRow es) (hl : es.length ≤ 4611686018427387903) (hS : ∀ B, blk v = some B → S B ∧ m.base ≤ B) {x : Ex} {kn kr : K} {ke : Nat → K} {Q : Option Out → Prop}
  (H : ∀ t' m2, KT t' V → SpJ S m m2 → Q (kn t' m2)) : Q (Zl x kn ke kr t m') := by
 obtain ⟨n, hn⟩ := qaj (es.length)
 have hlen := hr.len
 rw [← hn] at hlen hl
 obtain ⟨sa, sb, sc, hsv⟩ := jl hlen
 have lv : ∀ mm, SpJ S m mm → ∀ s, load1 mm ⟨P, 0, s⟩ = some v := fun mm hm s => by rw [hsv]; exact hm.sl hP (by rw [hlv, hsv])
 simp
 refine qm (c := Yn) rfl Q (fun i t mm => SpJ S m mm ∧ KT t V ∧ Tm.get 22 t = iv i) n (by omega) ⟨h, by repeat (first | exact hT | refine KT.set ?_ (by omega)), by simp⟩ (fun i t mm k hi hI hk => ?_)
 obtain ⟨hJ, hT', ti⟩ := hI
 have tB := hT' 8 (by omega)
 rw [hV] at tB
 by_cases hil : i < n
 ·have hd := dlt hil
  have hd' : (i < n) = True := eq_true hil
  have ni := qJ (i := i) (by omega)
  obtain ⟨r, hri⟩ : ∃ r, es[i]? = some r := ⟨_, DW (by omega)⟩
  obtain ⟨ia, b1, _⟩ := hr.row i r hri
  obtain ⟨q1, q2⟩ := hS _ (jq ia)
  obtain ⟨m2, s1, s2⟩ := hJ.put (X := (adr 2 v i).block) (o := (adr 2 v i).off) (s := none) (k := .i64) (b := 99) b1 q1 q2 (hr.cell hri (j := 0) rfl none)
  have had : (⟨(adr 2 v i).block, (adr 2 v i).off, none⟩ : Addr) = adr 2 v i := by
   obtain ⟨sa, sb, sc, hsv⟩ := jl hlen
   rw [hsv]; cases sa <;> rfl
  simp [tB, ti, lv mm hJ, hlen, hd, hd', ia, s1, ni]
  exact hk hil _ _ ⟨s2, by repeat (first | exact hT' | refine KT.set ?_ (by omega)), by simp⟩
 ·obtain rfl : i = n := by omega
  have hd : ((i : Int) < (i : Int)) = False := eq_false (by omega)
  simp [tB, ti, lv mm hJ, hlen, hd]
  exact H _ _ (by repeat (first | exact hT' | refine KT.set ?_ (by omega))) hJ
theorem phB {es : List (Int)} (h : SpJ S m m') (hT : KT t V) (hV : V 8 = .pointer (some ⟨P, 0, none⟩)) (hP : P < m.n) (hlv : ∀ s, load1 m ⟨P, 1, s⟩ = some v) (hr : Rd m v 1 modeRow es) (hl : es.length ≤ 4611686018427387903) (hS : ∀ B, blk v = some B → S B ∧ m.base ≤ B) {x : Ex} {kn kr : K} {ke : Nat → K} {Q : Option Out → Prop}
  (H : ∀ t' m2, KT t' V → SpJ S m m2 → Q (kn t' m2)) : Q (Zr x kn ke kr t m') := by
 obtain ⟨n, hn⟩ := qaj (es.length)
 have hlen := hr.len
 rw [← hn] at hlen hl
 obtain ⟨sa, sb, sc, hsv⟩ := jl hlen
 have lv : ∀ mm, SpJ S m mm → ∀ s, load1 mm ⟨P, 1, s⟩ = some v := fun mm hm s => by rw [hsv]; exact hm.sl hP (by rw [hlv, hsv])
 simp
 refine qm (c := Yo) rfl Q (fun i t mm => SpJ S m mm ∧ KT t V ∧ Tm.get 23 t = iv i) n (by omega) ⟨h, by repeat (first | exact hT | refine KT.set ?_ (by omega)), by simp⟩ (fun i t mm k hi hI hk => ?_)
 obtain ⟨hJ, hT', ti⟩ := hI
 have tB := hT' 8 (by omega)
 rw [hV] at tB
 by_cases hil : i < n
 ·have hd := dlt hil
  have hd' : (i < n) = True := eq_true hil
  have ni := qJ (i := i) (by omega)
  obtain ⟨r, hri⟩ : ∃ r, es[i]? = some r := ⟨_, DW (by omega)⟩
  obtain ⟨ia, b1, _⟩ := hr.row i r hri
  obtain ⟨q1, q2⟩ := hS _ (jq ia)
  obtain ⟨m2, s1, s2⟩ := hJ.put (X := (adr 1 v i).block) (o := (adr 1 v i).off) (s := none) (k := .i64) (b := 99) b1 q1 q2 (hr.cell hri (j := 0) rfl none)
  have had : (⟨(adr 1 v i).block, (adr 1 v i).off, none⟩ : Addr) = adr 1 v i := by
   obtain ⟨sa, sb, sc, hsv⟩ := jl hlen
   rw [hsv]; cases sa <;> rfl
  rw [had] at s1
  simp [tB, ti, lv mm hJ, hlen, hd, hd', ia, s1, ni]
  exact hk hil _ _ ⟨s2, by repeat (first | exact hT' | refine KT.set ?_ (by omega)), by simp⟩
 ·obtain rfl : i = n := by omega
  have hd : ((i : Int) < (i : Int)) = False := eq_false (by omega)
  simp [tB, ti, lv mm hJ, hlen, hd]
  exact H _ _ (by repeat (first | exact hT' | refine KT.set ?_ (by omega))) hJ
theorem phF {es : List (Nat)} (h : SpJ S m m') (hT : KT t V) (hV : V 11 = .pointer (some ⟨P, 0, none⟩)) (hP : P < m.n) (hlv : ∀ s, load1 m ⟨P, 0, s⟩ = some v) (hr : Rd m v 1 kP es) (hl : es.length ≤ 1000000) (hS : ∀ B, blk v = some B → S B ∧ m.base ≤ B) {x : Ex} {kn kr : K} {ke : Nat → K} {Q : Option Out → Prop}
  (H : ∀ t' m2, KT t' V → SpJ S m m2 → Q (kn t' m2)) : Q (Zw x kn ke kr t m') := by
 obtain ⟨n, hn⟩ := qaj (es.length)
 have hlen := hr.len
 rw [← hn] at hlen hl
 obtain ⟨sa, sb, sc, hsv⟩ := jl hlen
 have lv : ∀ mm, SpJ S m mm → ∀ s, load1 mm ⟨P, 0, s⟩ = some v := fun mm hm s => by rw [hsv]; exact hm.sl hP (by rw [hlv, hsv])
 simp
 refine qm (c := Yu) rfl Q (fun i t mm => SpJ S m mm ∧ KT t V ∧ Tm.get 28 t = iv i) n (by omega) ⟨h, by repeat (first | exact hT | refine KT.set ?_ (by omega)), by simp⟩ (fun i t mm k hi hI hk => ?_)
 obtain ⟨hJ, hT', ti⟩ := hI
 have tB := hT' 11 (by omega)
 rw [hV] at tB
 by_cases hil : i < n
 ·have hd := dlt hil
  have hd' : (i < n) = True := eq_true hil
  have ni := qJ (i := i) (by omega)
  obtain ⟨r, hri⟩ : ∃ r, es[i]? = some r := ⟨_, DW (by omega)⟩
  obtain ⟨ia, b1, _⟩ := hr.row i r hri
  obtain ⟨q1, q2⟩ := hS _ (jq ia)
  obtain ⟨m2, s1, s2⟩ := hJ.put (X := (adr 1 v i).block) (o := (adr 1 v i).off) (s := none) (k := .u64) (b := 99) b1 q1 q2 (hr.cell hri (j := 0) rfl none)
  have had : (⟨(adr 1 v i).block, (adr 1 v i).off, none⟩ : Addr) = adr 1 v i := by
   obtain ⟨sa, sb, sc, hsv⟩ := jl hlen
   rw [hsv]; cases sa <;> rfl
  rw [had] at s1
  simp [tB, ti, lv mm hJ, hlen, hd, hd', ia, s1, ni]
  exact hk hil _ _ ⟨s2, by repeat (first | exact hT' | refine KT.set ?_ (by omega)), by simp⟩
 ·obtain rfl : i = n := by omega
  have hd : ((i : Int) < (i : Int)) = False := eq_false (by omega)
  simp [tB, ti, lv mm hJ, hlen, hd]
  exact H _ _ (by repeat (first | exact hT' | refine KT.set ?_ (by omega))) hJ
theorem phG {es : List (EvR)} (h : SpJ S m m') (hT : KT t V) (hV : V 16 = .pointer (some ⟨P, 0, none⟩)) (hP : P < m.n) (hlv : ∀ s, load1 m ⟨P, 1, s⟩ = some v) (hr : Rd m v 5 qS es) (hl : es.length ≤ 1000000) (hS : ∀ B, blk v = some B → S B ∧ m.base ≤ B) {x : Ex} {kn kr : K} {ke : Nat → K} {Q : Option Out → Prop}
  (H : ∀ t' m2, KT t' V → SpJ S m m2 → Q (kn t' m2)) : Q (Zx x kn ke kr t m') := by
 obtain ⟨n, hn⟩ := qaj (es.length)
 have hlen := hr.len
 rw [← hn] at hlen hl
 obtain ⟨sa, sb, sc, hsv⟩ := jl hlen
 have lv : ∀ mm, SpJ S m mm → ∀ s, load1 mm ⟨P, 1, s⟩ = some v := fun mm hm s => by rw [hsv]; exact hm.sl hP (by rw [hlv, hsv])
 simp
 refine qm (c := Yv) rfl Q (fun i t mm => SpJ S m mm ∧ KT t V ∧ Tm.get 29 t = iv i) n (by omega) ⟨h, by repeat (first | exact hT | refine KT.set ?_ (by omega)), by simp⟩ (fun i t mm k hi hI hk => ?_)
 obtain ⟨hJ, hT', ti⟩ := hI
 have tB := hT' 16 (by omega)
 rw [hV] at tB
 by_cases hil : i < n
 ·have hd := dlt hil
  have hd' : (i < n) = True := eq_true hil
  have ni := qJ (i := i) (by omega)
  obtain ⟨r, hri⟩ : ∃ r, es[i]? = some r := ⟨_, DW (by omega)⟩
  obtain ⟨ia, b1, _⟩ := hr.row i r hri
  obtain ⟨q1, q2⟩ := hS _ (jq ia)
  obtain ⟨m2, s1, s2⟩ := hJ.put (X := (adr 5 v i).block) (o := (adr 5 v i).off + 3) (s := none) (k := .u64) (b := 99) b1 q1 q2 (hr.cell hri (j := 3) rfl none)
  have had : (⟨(adr 5 v i).block, (adr 5 v i).off, none⟩ : Addr) = adr 5 v i := by
   obtain ⟨sa, sb, sc, hsv⟩ := jl hlen
   rw [hsv]; cases sa <;> rfl
  simp [tB, ti, lv mm hJ, hlen, hd, hd', ia, s1, ni]
  exact hk hil _ _ ⟨s2, by repeat (first | exact hT' | refine KT.set ?_ (by omega)), by simp⟩
 ·obtain rfl : i = n := by omega
  have hd : ((i : Int) < (i : Int)) = False := eq_false (by omega)
  simp [tB, ti, lv mm hJ, hlen, hd]
  exact H _ _ (by repeat (first | exact hT' | refine KT.set ?_ (by omega))) hJ
theorem phT {es : List (Nat)} (h : SpJ S m m') (hT : KT t V) (hV : V 17 = v) (hr : Rd m v 1 qV es) (hl : es.length ≤ 1000000) (hS : ∀ B, blk v = some B → S B ∧ m.base ≤ B) {x : Ex} {kn kr : K} {ke : Nat → K} {Q : Option Out → Prop}
  (H : ∀ t' m2, KT t' V → SpJ S m m2 → Q (kn t' m2)) : Q (QU x kn ke kr t m') := by
 obtain ⟨n, hn⟩ := qaj (es.length)
 have hlen := hr.len
 rw [← hn] at hlen hl
 simp
 refine qm (c := JX) rfl Q (fun i t mm => SpJ S m mm ∧ KT t V ∧ Tm.get 34 t = iv i) n (by omega) ⟨h, by repeat (first | exact hT | refine KT.set ?_ (by omega)), by simp⟩ (fun i t mm k hi hI hk => ?_)
 obtain ⟨hJ, hT', ti⟩ := hI
 have tB := hT' 17 (by omega)
 rw [hV] at tB
 by_cases hil : i < n
 ·have hd := dlt hil
  have hd' : (i < n) = True := eq_true hil
  have ni := qJ (i := i) (by omega)
  obtain ⟨r, hri⟩ : ∃ r, es[i]? = some r := ⟨_, DW (by omega)⟩
  obtain ⟨ia, b1, _⟩ := hr.row i r hri
  obtain ⟨q1, q2⟩ := hS _ (jq ia)
  obtain ⟨m2, s1, s2⟩ := hJ.put (X := (adr 1 v i).block) (o := (adr 1 v i).off) (s := none) (k := .i64) (b := 99) b1 q1 q2 (hr.cell hri (j := 0) rfl none)
  have had : (⟨(adr 1 v i).block, (adr 1 v i).off, none⟩ : Addr) = adr 1 v i := by
   obtain ⟨sa, sb, sc, hsv⟩ := jl hlen
   rw [hsv]; cases sa <;> rfl
  rw [had] at s1
  simp [tB, ti, hlen, hd, hd', ia, s1, ni]
  exact hk hil _ _ ⟨s2, by repeat (first | exact hT' | refine KT.set ?_ (by omega)), by simp⟩
 ·obtain rfl : i = n := by omega
  have hd : ((i : Int) < (i : Int)) = False := eq_false (by omega)
  simp [tB, ti, hlen, hd]
  exact H _ _ (by repeat (first | exact hT' | refine KT.set ?_ (by omega))) hJ
theorem phR {es : List (Nat × Nat)} (h : SpJ S m m') (hT : KT t V) (hV : V 16 = .pointer (some ⟨P, 0, none⟩)) (hP : P < m.n) (hlv : ∀ s, load1 m ⟨P, 2, s⟩ = some v) (hr : Rd m v 2 wk es) (hl : es.length ≤ 1000000) (hS : ∀ B, blk v = some B → S B ∧ m.base ≤ B) {x : Ex} {kn kr : K} {ke : Nat → K} {Q : Option Out → Prop}
  (H : ∀ t' m2, KT t' V → SpJ S m m2 → Q (kn t' m2)) : Q (QV x kn ke kr t m') := by
 obtain ⟨n, hn⟩ := qaj (es.length)
 have hlen := hr.len
 rw [← hn] at hlen hl
 obtain ⟨sa, sb, sc, hsv⟩ := jl hlen
 have lv : ∀ mm, SpJ S m mm → ∀ s, load1 mm ⟨P, 2, s⟩ = some v := fun mm hm s => by rw [hsv]; exact hm.sl hP (by rw [hlv, hsv])
 simp
 refine qm (c := JY) rfl Q (fun i t mm => SpJ S m mm ∧ KT t V ∧ Tm.get 35 t = iv i) n (by omega) ⟨h, by repeat (first | exact hT | refine KT.set ?_ (by omega)), by simp⟩ (fun i t mm k hi hI hk => ?_)
 obtain ⟨hJ, hT', ti⟩ := hI
 have tB := hT' 16 (by omega)
 rw [hV] at tB
 by_cases hil : i < n
 ·have hd := dlt hil
  have hd' : (i < n) = True := eq_true hil
  have ni := qJ (i := i) (by omega)
  obtain ⟨r, hri⟩ : ∃ r, es[i]? = some r := ⟨_, DW (by omega)⟩
  obtain ⟨ia, b1, _⟩ := hr.row i r hri
  obtain ⟨q1, q2⟩ := hS _ (jq ia)
  obtain ⟨m2, s1, s2⟩ := hJ.put (X := (adr 2 v i).block) (o := (adr 2 v i).off) (s := none) (k := .i64) (b := 99) b1 q1 q2 (hr.cell hri (j := 0) rfl none)
  have had : (⟨(adr 2 v i).block, (adr 2 v i).off, none⟩ : Addr) = adr 2 v i := by
   obtain ⟨sa, sb, sc, hsv⟩ := jl hlen
   rw [hsv]; cases sa <;> rfl
  simp [tB, ti, lv mm hJ, hlen, hd, hd', ia, s1, ni]
  exact hk hil _ _ ⟨s2, by repeat (first | exact hT' | refine KT.set ?_ (by omega)), by simp⟩
 ·obtain rfl : i = n := by omega
  have hd : ((i : Int) < (i : Int)) = False := eq_false (by omega)
  simp [tB, ti, lv mm hJ, hlen, hd]
  exact H _ _ (by repeat (first | exact hT' | refine KT.set ?_ (by omega))) hJ
end
end Go.Sx
namespace Go.Sx
open Go.Dx Go.Proofs
set_option maxRecDepth 10000
structure PC (S : Nat → Prop) (m : M) (P : Nat) (tsl : Value) (TL : List (Int × Value)) (A : Nat → List AR) : Prop where
 hP : P < m.n
 lt : ∀ s, load1 m ⟨P, 1, s⟩ = some tsl
 tl : Rd m tsl 2 (fun p : Int × Value => [iv p.1, p.2]) TL
 ac : ∀ (i : Nat) p, TL[i]? = some p → Rd m p.2 11 kl (A i) ∧ (∀ B, blk p.2 = some B → S B ∧ m.base ≤ B) ∧ (A i).length ≤ 1000000 ∧ ∀ r, r ∈ A i → ∀ B op v, r.e = some (B, op, v) → B < m.n ∧ Arr m B (wY op v) ∧ S B ∧ m.base ≤ B
 len : TL.length ≤ 1000000
section
variable {S : Nat → Prop} {m m' : M} {V : Nat → Value} {P : Nat} {tsl : Value} {TL : List (Int × Value)} {A : Nat → List AR} {t : Tm}
theorem PC.l1 (h : PC S m P tsl TL A) (hJ : SpJ S m m') (s : Option Nat) : load1 m' ⟨P, 1, s⟩ = some tsl := by
 obtain ⟨a, b, c, e⟩ := jl h.tl.len
 rw [e]; exact hJ.sl h.hP (by rw [h.lt, e])
theorem PC.l2 (h : PC S m P tsl TL A) (hJ : SpJ S m m') {i : Nat} {p : Int × Value} (hi : TL[i]? = some p) (s : Option Nat) : load1 m' ⟨(adr 2 tsl i).block, (adr 2 tsl i).off + 1, s⟩ = some p.2 := by
 obtain ⟨a, b, c, e⟩ := jl (h.ac i p hi).1.len
 have := h.tl.cell hi (j := 1) rfl s
 rw [e] at this ⊢
 exact hJ.sl (h.tl.row i p hi).2.1 this
theorem PC.l5 (h : PC S m P tsl TL A) (hJ : SpJ S m m') {i k : Nat} {p : Int × Value} (hi : TL[i]? = some p) {r : AR} (hr : (A i)[k]? = some r) (s : Option Nat) : load1 m' ⟨(adr 11 p.2 k).block, (adr 11 p.2 k).off + 5, s⟩ = some (eV r.e) := by
 have h0 := (h.ac i p hi).1
 have := h0.cell hr (j := 5) (w := eV r.e) rfl s
 obtain ⟨a, b, c, e⟩ : ∃ a b c, eV r.e = .slice a b c := by
  unfold eV; split <;> exact ⟨_, _, _, rfl⟩
 rw [e] at this ⊢
 exact hJ.sl (h0.row k r hr).2.1 this
theorem phE {i k : Nat} {p : Int × Value} {r : AR} (hC : PC S m P tsl TL A) (hi : TL[i]? = some p) (hr : (A i)[k]? = some r) (h : SpJ S m m') (hT : KT t V) (hV : V 10 = .pointer (some ⟨P, 0, none⟩)) (t24 : Tm.get 24 t = iv i) (t25 : Tm.get 25 t = iv k) {x : Ex} {kn kr : K} {ke : Nat → K} {Q : Option Out → Prop}
  (H : ∀ t' m2, KT t' V → Tm.get 24 t' = iv i → Tm.get 25 t' = iv k → SpJ S m m2 → Q (kn t' m2)) : Q (Zs x kn ke kr t m') := by
 obtain ⟨ha, _, _, hn⟩ := hC.ac i p hi
 have i1 := (hC.tl.row i p hi).1
 have i2 := (ha.row k r hr).1
 obtain ⟨n, hlen, hn1, hnn⟩ : ∃ n : Nat, kG (eV r.e) = some (iv n) ∧ n ≤ 1 ∧ (n = 1 → ∃ B op v, r.e = some (B, op, v)) := by
  cases he : r.e with
  | none => exact ⟨0, rfl, by omega, fun h => by omega⟩
  | some q => obtain ⟨B, op, v⟩ := q; exact ⟨1, rfl, by omega, fun _ => ⟨B, op, v, rfl⟩⟩
 simp
 refine qm (c := Yq) rfl Q (fun j t mm => SpJ S m mm ∧ KT t V ∧ Tm.get 24 t = iv i ∧ Tm.get 25 t = iv k ∧ Tm.get 26 t = iv j) n (by omega) ⟨h, by repeat (first | exact hT | refine KT.set ?_ (by omega)), by simp [t24], by simp [t25], by simp⟩ (fun j t mm kk hj hI hk => ?_)
 clear t24 t25
 obtain ⟨hJ, hT', t24, t25, t26⟩ := hI
 have tB := hT' 10 (by omega)
 rw [hV] at tB
 have l1 := hC.l1 hJ
 have l2 := hC.l2 hJ hi
 have l5 := hC.l5 hJ hi hr
 by_cases hjl : j < n
 ·have hd := dlt hjl
  have hd' : (j < n) = True := eq_true hjl
  have nj := qJ (i := j) (by omega)
  obtain ⟨B, op, v, he⟩ := hnn (by omega)
  obtain ⟨b1, b2, b3, b4⟩ := hn r (DX hr) B op v he
  obtain rfl : j = 0 := by omega
  obtain ⟨m2, s1, s2⟩ := hJ.put (X := B) (o := 1) (s := none) (k := .u64) (b := 99) b1 b3 b4 (by rw [b2.load1]; rfl)
  have ie : wX 4 (eV r.e) (.int .i64 0) = some (.pointer (some ⟨B, 0, none⟩)) := by rw [he]; rfl
  have t26' : Tm.get 26 t = .int .i64 0 := t26
  have hd0 : ((0 : Int) < (n : Int)) = True := hd
  have hd0' : (0 < n) = True := hd'
  have w1 : IntKind.i64.wrap (0 + 1) = ((1 : Nat) : Int) := rfl
  simp [tB, t24, t25, t26', l1, l2, l5, i1, i2, hlen, hd0, hd0', ie, s1]
  refine hk hjl _ _ ⟨s2, by repeat (first | exact hT' | refine KT.set ?_ (by omega)), by simp [t24], by simp [t25], ?_⟩
  simp
  rfl
 ·obtain rfl : j = n := by omega
  have hd : ((j : Int) < (j : Int)) = False := eq_false (by omega)
  simp [tB, t24, t25, t26, l1, l2, l5, i1, i2, hlen, hd]
  exact H _ _ (by repeat (first | exact hT' | refine KT.set ?_ (by omega))) (by simp [t24]) (by simp [t25]) hJ
theorem phK {i : Nat} {p : Int × Value} (hC : PC S m P tsl TL A) (hi : TL[i]? = some p) (h : SpJ S m m') (hT : KT t V) (hV : V 10 = .pointer (some ⟨P, 0, none⟩)) (t24 : Tm.get 24 t = iv i) {x : Ex} {kn kr : K} {ke : Nat → K} {Q : Option Out → Prop}
  (H : ∀ t' m2, KT t' V → Tm.get 24 t' = iv i → SpJ S m m2 → Q (kn t' m2)) : Q (Zt x kn ke kr t m') := by
 obtain ⟨ha, hb, hl, hn⟩ := hC.ac i p hi
 have i1 := (hC.tl.row i p hi).1
 obtain ⟨n, hnl⟩ := qaj ((A i).length)
 have hlen := ha.len
 rw [← hnl] at hlen hl
 simp [-dY]
 refine qm (c := Yr) rfl Q (fun k t mm => SpJ S m mm ∧ KT t V ∧ Tm.get 24 t = iv i ∧ Tm.get 25 t = iv k) n (by omega) ⟨h, by repeat (first | exact hT | refine KT.set ?_ (by omega)), by simp [t24], by simp⟩ (fun k t mm kk hkn hI hk => ?_)
 clear t24
 obtain ⟨hJ, hT', t24, t25⟩ := hI
 have tB := hT' 10 (by omega)
 rw [hV] at tB
 have l1 := hC.l1 hJ
 have l2 := hC.l2 hJ hi
 by_cases hkl : k < n
 ·have hd := dlt hkl
  have hd' : (k < n) = True := eq_true hkl
  have nk := qJ (i := k) (by omega)
  obtain ⟨r, hr⟩ : ∃ r, (A i)[k]? = some r := ⟨_, DW (by omega)⟩
  obtain ⟨i2, b1, _⟩ := ha.row k r hr
  obtain ⟨q1, q2⟩ := hb _ (jq i2)
  obtain ⟨m2, s1, s2⟩ := hJ.put (X := (adr 11 p.2 k).block) (o := (adr 11 p.2 k).off + 7) (s := none) (k := .i64) (b := 99) b1 q1 q2 (ha.cell hr (j := 7) rfl none)
  simp [tB, t24, t25, l1, l2, i1, i2, hlen, hd, hd', s1, -dY]
  refine phE hC hi hr s2 (V := V) (by repeat (first | exact hT' | refine KT.set ?_ (by omega))) hV (by simp [t24]) (by simp [t25]) fun t2 m3 w1 w2 w3 w4 => ?_
  simp [w3, nk]
  exact hk hkl _ _ ⟨w4, by repeat (first | exact w1 | refine KT.set ?_ (by omega)), by simp [w2], by simp⟩
 ·obtain rfl : k = n := by omega
  have hd : ((k : Int) < (k : Int)) = False := eq_false (by omega)
  simp [tB, t24, t25, l1, l2, i1, hlen, hd]
  exact H _ _ (by repeat (first | exact hT' | refine KT.set ?_ (by omega))) (by simp [t24]) hJ
structure OC (S : Nat → Prop) (m : M) (P : Nat) (osl : Value) (OL : List Value) (O : Nat → List Nat) : Prop where
 hP : P < m.n
 lt : ∀ s, load1 m ⟨P, 1, s⟩ = some osl
 ol : Rd m osl 1 (fun v : Value => [v]) OL
 ac : ∀ (i : Nat) v, OL[i]? = some v → Rd m v 1 kP (O i) ∧ (∀ B, blk v = some B → S B ∧ m.base ≤ B) ∧ (O i).length ≤ 1000000
theorem gZ {e i n : Nat} {v : Value} (h : kG v = some (iv n)) : (⟨(adr e v i).block, (adr e v i).off, none⟩ : Addr) = adr e v i := by
 obtain ⟨a, b, c, e⟩ := jl h
 rw [e]; cases a <;> rfl
theorem phO {osl : Value} {OL : List Value} {O : Nat → List Nat} {i : Nat} {v : Value} (hC : OC S m P osl OL O) (hi : OL[i]? = some v) (h : SpJ S m m') (hT : KT t V) (hV : V 11 = .pointer (some ⟨P, 0, none⟩)) (t24 : Tm.get 24 t = iv i) {x : Ex} {kn kr : K} {ke : Nat → K} {Q : Option Out → Prop}
  (H : ∀ t' m2, KT t' V → Tm.get 24 t' = iv i → SpJ S m m2 → Q (kn t' m2)) : Q (Zu x kn ke kr t m') := by
 obtain ⟨ha, hb, hl⟩ := hC.ac i v hi
 have i1 := (hC.ol.row i v hi).1
 obtain ⟨n, hnl⟩ := qaj ((O i).length)
 have hlen := ha.len
 have holen := hC.ol.len
 rw [← hnl] at hlen hl
 have l1 : ∀ mm, SpJ S m mm → ∀ s, load1 mm ⟨P, 1, s⟩ = some osl := fun mm hJ s => by
  obtain ⟨a, b, c, e⟩ := jl holen
  rw [e]; exact hJ.sl hC.hP (by rw [hC.lt, e])
 have l2 : ∀ mm, SpJ S m mm → load1 mm (adr 1 osl i) = some v := fun mm hJ => by
  obtain ⟨a, b, c, e⟩ := jl hlen
  have := hC.ol.cell hi (j := 0) (w := v) rfl none
  rw [e] at this ⊢
  rw [← gZ (e := 1) (i := i) holen]
  exact hJ.sl (hC.ol.row i v hi).2.1 this
 simp
 refine qm (c := Ys) rfl Q (fun k t mm => SpJ S m mm ∧ KT t V ∧ Tm.get 24 t = iv i ∧ Tm.get 27 t = iv k) n (by omega) ⟨h, by repeat (first | exact hT | refine KT.set ?_ (by omega)), by simp [t24], by simp⟩ (fun k t mm kk hkn hI hk => ?_)
 clear t24
 obtain ⟨hJ, hT', t24, t27⟩ := hI
 have tB := hT' 11 (by omega)
 rw [hV] at tB
 by_cases hkl : k < n
 ·have hd := dlt hkl
  have hd' : (k < n) = True := eq_true hkl
  have nk := qJ (i := k) (by omega)
  obtain ⟨r, hr⟩ : ∃ r, (O i)[k]? = some r := ⟨_, DW (by omega)⟩
  obtain ⟨i2, b1, _⟩ := ha.row k r hr
  obtain ⟨q1, q2⟩ := hb _ (jq i2)
  obtain ⟨m2, s1, s2⟩ := hJ.put (X := (adr 1 v k).block) (o := (adr 1 v k).off) (s := none) (k := .u64) (b := 99) b1 q1 q2 (ha.cell hr (j := 0) rfl none)
  rw [gZ hlen] at s1
  simp [tB, t24, t27, l1 mm hJ, l2 mm hJ, i1, i2, hlen, hd, hd', s1, nk]
  exact hk hkl _ _ ⟨s2, by repeat (first | exact hT' | refine KT.set ?_ (by omega)), by simp [t24], by simp⟩
 ·obtain rfl : k = n := by omega
  have hd : ((k : Int) < (k : Int)) = False := eq_false (by omega)
  simp [tB, t24, t27, l1 mm hJ, l2 mm hJ, i1, hlen, hd]
  exact H _ _ (by repeat (first | exact hT' | refine KT.set ?_ (by omega))) (by simp [t24]) hJ
theorem phP {P' : Nat} {osl : Value} {OL : List Value} {O : Nat → List Nat} (hC : PC S m P tsl TL A) (hO : OC S m P' osl OL O) (hlo : OL.length = TL.length) (h : SpJ S m m') (hT : KT t V) (hV : V 10 = .pointer (some ⟨P, 0, none⟩)) (hV' : V 11 = .pointer (some ⟨P', 0, none⟩)) {x : Ex} {kn kr : K} {ke : Nat → K} {Q : Option Out → Prop}
  (H : ∀ t' m2, KT t' V → SpJ S m m2 → Q (kn t' m2)) : Q (Zv x kn ke kr t m') := by
 obtain ⟨n, hnl⟩ := qaj (TL.length)
 have hlen := hC.tl.len
 have hl := hC.len
 rw [← hnl] at hlen hl
 simp [-dZ, -Qa]
 refine qm (c := Yt) rfl Q (fun i t mm => SpJ S m mm ∧ KT t V ∧ Tm.get 24 t = iv i) n (by omega) ⟨h, by repeat (first | exact hT | refine KT.set ?_ (by omega)), by simp⟩ (fun i t mm kk hin hI hk => ?_)
 obtain ⟨hJ, hT', t24⟩ := hI
 have tB := hT' 10 (by omega)
 rw [hV] at tB
 have l1 := hC.l1 hJ
 by_cases hil : i < n
 ·have hd := dlt hil
  have hd' : (i < n) = True := eq_true hil
  have ni := qJ (i := i) (by omega)
  obtain ⟨p, hp⟩ : ∃ r, TL[i]? = some r := ⟨_, DW (by omega)⟩
  obtain ⟨v, hv⟩ : ∃ r, OL[i]? = some r := ⟨_, DW (by omega)⟩
  simp [tB, t24, l1, hlen, hd, hd', -dZ, -Qa]
  refine phK hC hp hJ (V := V) (by repeat (first | exact hT' | refine KT.set ?_ (by omega))) hV (by simp [t24]) fun t2 m2 w1 w2 w3 => ?_
  refine phO hO hv w3 (V := V) w1 hV' w2 fun t3 m3 u1 u2 u3 => ?_
  simp [u2, ni]
  exact hk hil _ _ ⟨u3, by repeat (first | exact u1 | refine KT.set ?_ (by omega)), by simp⟩
 ·obtain rfl : i = n := by omega
  have hd : ((i : Int) < (i : Int)) = False := eq_false (by omega)
  simp [tB, t24, l1, hlen, hd]
  exact H _ _ (by repeat (first | exact hT' | refine KT.set ?_ (by omega))) hJ
end
end Go.Sx
namespace Go.Dx
theorem FN {bs B : Nat} {wl : List Nat} {C : Nat} (h : C ∈ note bs B wl) : C ∈ wl ∨ (C = B ∧ B < bs) := by
 unfold note at h
 cases hb : Nat.ble bs B with
 | true => rw [hb] at h; exact .inl h
 | false =>
  rw [hb] at h
  have hlt : B < bs := by
   rcases Nat.lt_or_ge B bs with h' | h'
   ·exact h'
   ·rw [qa4 h'] at hb; cases hb
  cases wl with
  | nil => exact .inr ⟨qa3.1 h, hlt⟩
  | cons D l =>
   simp only [cond_false] at h
   cases hd : Nat.beq B D with
   | true => rw [hd] at h; exact .inl h
   | false =>
    rw [hd] at h
    rcases List.mem_cons.1 h with rfl | h
    ·exact .inr ⟨rfl, hlt⟩
    ·exact .inl h
structure Ap (m m' : M) (v v' : Value) : Prop where
 n : m.n ≤ m'.n
 base : m'.base = m.base
 log : ∀ C ∈ m'.log, C ∈ m.log ∨ (blk v = some C ∧ C < m.base)
 low : (∀ B, blk v = some B → m.base ≤ B) → m'.log = m.log
 obj : ∀ B, B < m.n → blk v ≠ some B → m'.obj B = m.obj B
 new : ∀ B, blk v' = some B → m.n ≤ B
section
variable {α : Type} {m0 m m' : M} {v : Value} {e : Nat} {f : α → List Value} {es : List α}
theorem grow_n (h : Grown m0 m v e f es) (he : 0 < e) (hf : ∀ x, (f x).length = e) (hok : ∀ x, ∀ v ∈ f x, okC v = true) {x : α} {X : Nat} {sp : Option Nat}
  (hx : loads m ⟨X, 0, sp⟩ e = some (f x)) (h0 : m0.n ≤ m.n) {bytes : Nat} (hm : (es.length + 1) * bytes ≤ most) (hn : es.length + 1 ≤ 4611686018427387904) :
  ∃ v' m', qX m e bytes v (.slice (some ⟨X, 0, sp⟩) 1 1) = some (v', m') ∧ Grown m0 m' v' e f (es ++ [x]) ∧ Ap m m' v v' := by
 obtain ⟨v', m', h1, h2, h3, h4, h5, h6, h7⟩ := h.core he hf hok hx h0 hm hn
 refine ⟨v', m', h1, h2, by omega, h4, fun C hC => ?_, fun hl => ?_, h6, h7⟩
 ·rcases h5 with h5 | ⟨B, hB, _, h5⟩
  ·rw [h5] at hC; exact .inl hC
  ·rw [h5] at hC
   rcases FN hC with h' | ⟨rfl, h'⟩
   ·exact .inl h'
   ·exact .inr ⟨hB, h'⟩
 ·rcases h5 with h5 | ⟨B, hB, _, h5⟩
  ·exact h5
  ·rw [h5, ya (hl B hB)]
end
theorem Yi {M1 : M} {X Y n : Nat} {L : List Value} {w : Value} (hL : loads M1 ⟨X, 0, some 3⟩ n = some L) (hw : loads M1 ⟨Y, 0, some 3⟩ 1 = some [w]) (hn : n ≤ 1000) :
  qX M1 1 8 (.slice (some ⟨X, 0, some 3⟩) n n) (.slice (some ⟨Y, 0, some 3⟩) 1 1) = some (.slice (some ⟨M1.n, 0, some (code 1 false)⟩) (n + 1) (n + 1), newRow M1 (L ++ [w])) := by
 show (ob (loads M1 ⟨Y, 0, some 3⟩ (1 * 1)) fun new => yt M1 1 8 n n 1 (some ⟨X, 0, some 3⟩) new) = _
 rw [Nat.mul_one, hw, qD]
 unfold yt
 have h1 : Nat.ble (n + 1) n = false := by
  cases q : Nat.ble (n + 1) n with
  | false => rfl
  | true => have := qa5 q; omega
 rw [h1, cond_false, qa4 (show (n + 1) * 8 ≤ most by unfold most; omega), qa4 (show n + 1 ≤ 4611686018427387904 by omega)]
 show (ob (loads M1 ⟨X, 0, some 3⟩ (n * 1)) fun old => gM M1 1 (n + 1) (some ⟨X, 0, some 3⟩) (old ++ [w])) = _
 rw [Nat.mul_one, hL, qD]
 rfl
theorem SpJ.ints {S : Nat → Prop} {m m' : M} (h : SpJ S m m') {X : Nat} (hX : X < m.n) : ∀ n, (∀ i, i < n → ∃ a, load1 m ⟨X, i, none⟩ = some (.int .i64 a)) → ∃ bs : List Int, bs.length = n ∧ ∀ i, i < n → load1 m' ⟨X, i, none⟩ = (bs.map fun b => Value.int .i64 b)[i]?
 | 0, _ => ⟨[], rfl, fun i hi => absurd hi (Nat.not_lt_zero _)⟩
 | n + 1, hv => by
  obtain ⟨bs, e1, e2⟩ := SpJ.ints h hX n fun i hi => hv i (by omega)
  obtain ⟨a, ha⟩ := hv n (by omega)
  obtain ⟨b, hb⟩ := h.int hX ha
  refine ⟨bs ++ [b], by simp [e1], fun i hi => ?_⟩
  by_cases hin : i < n
  ·rw [e2 i hin, List.map_append, qaa (by simp; omega)]
  ·obtain rfl : i = n := by omega
   rw [hb, List.map_append, qab (by simp; omega)]
   simp [e1]
end Go.Dx
namespace Go.Sx
open Go.Dx Go.Proofs
set_option maxRecDepth 10000
def intR (z : Int) : List Value := [.int .i64 z]
structure CC (S : Nat → Prop) (m : M) (P : Nat) (cod : Value) (CL : List Value) : Prop where
 hP : P < m.n
 lt : ∀ s, load1 m ⟨P, 3, s⟩ = some cod
 cl : Rd m cod 1 (fun v : Value => [v]) CL
 ac : ∀ (i : Nat) v, CL[i]? = some v → ∃ X n, ∃ l : List Nat, v = .slice (some ⟨X, 0, some 3⟩) (1 + n) (1 + n) ∧ n ≤ 2 ∧ Rd m v 1 qV l ∧ S X ∧ m.base ≤ X
 len : CL.length ≤ 1000000
section
variable {S : Nat → Prop} {m m' : M} {V : Nat → Value} {P : Nat} {t : Tm}
theorem phL {v : Value} {l : List Nat} {k : Nat} (hr : Rd m v 1 qV l) (hl : l.length ≤ 1000000) (hS : ∀ B, blk v = some B → S B ∧ m.base ≤ B) (h : SpJ S m m') (hT : KT t V) (t30 : Tm.get 30 t = iv k) (t31 : Tm.get 31 t = v) {x : Ex} {kn kr : K} {ke : Nat → K} {Q : Option Out → Prop}
  (H : ∀ t' m2, KT t' V → Tm.get 30 t' = iv k → Tm.get 31 t' = v → SpJ S m m2 → Q (kn t' m2)) : Q (Zy x kn ke kr t m') := by
 obtain ⟨n, hn⟩ := qaj (l.length)
 have hlen := hr.len
 rw [← hn] at hlen hl
 simp
 refine qm (c := Yw) rfl Q (fun i t mm => SpJ S m mm ∧ KT t V ∧ Tm.get 30 t = iv k ∧ Tm.get 31 t = v ∧ Tm.get 32 t = iv i) n (by omega) ⟨h, by repeat (first | exact hT | refine KT.set ?_ (by omega)), by simp [t30], by simp [t31], by simp⟩ (fun i t mm kk hi hI hk => ?_)
 clear t30 t31
 obtain ⟨hJ, hT', t30, t31, t32⟩ := hI
 by_cases hil : i < n
 ·have hd := dlt hil
  have hd' : (i < n) = True := eq_true hil
  have ni := qJ (i := i) (by omega)
  obtain ⟨r, hri⟩ : ∃ r, l[i]? = some r := ⟨_, DW (by omega)⟩
  obtain ⟨ia, b1, _⟩ := hr.row i r hri
  obtain ⟨q1, q2⟩ := hS _ (jq ia)
  obtain ⟨m2, s1, s2⟩ := hJ.put (X := (adr 1 v i).block) (o := (adr 1 v i).off) (s := none) (k := .i64) (b := 99) b1 q1 q2 (hr.cell hri (j := 0) rfl none)
  rw [gZ hlen] at s1
  simp [t31, t32, hlen, hd, hd', ia, s1, ni]
  exact hk hil _ _ ⟨s2, by repeat (first | exact hT' | refine KT.set ?_ (by omega)), by simp [t30], by simp [t31], by simp⟩
 ·obtain rfl : i = n := by omega
  have hd : ((i : Int) < (i : Int)) = False := eq_false (by omega)
  simp [t31, t32, hlen, hd]
  exact H _ _ (by repeat (first | exact hT' | refine KT.set ?_ (by omega))) (by simp [t30]) (by simp [t31]) hJ
theorem phD {X n k : Nat} (hb : m.base ≤ m.n) (hn : n ≤ 1000) (hX : X < m.n) (hi : ∀ i, i < n → ∃ a, load1 m ⟨X, i, none⟩ = some (.int .i64 a)) (hn0 : 0 < n) (h : SpJ S m m') (hT : KT t V) (t30 : Tm.get 30 t = iv k) (t31 : Tm.get 31 t = .slice (some ⟨X, 0, some 3⟩) n n) {x : Ex} {kn kr : K} {ke : Nat → K} {Q : Option Out → Prop}
  (H : ∀ t' m2, KT t' V → Tm.get 30 t' = iv k → SpJ S m m2 → Q (kn t' m2)) : Q (Zz x kn ke kr t m') := by
 simp
 refine qm (c := Yx) rfl Q (fun i t mm => SpJ S m mm ∧ KT t V ∧ Tm.get 30 t = iv k ∧ Tm.get 33 t = iv i ∧ ((i = 0 ∧ Tm.get 31 t = .slice (some ⟨X, 0, some 3⟩) n n) ∨ ∃ bs : List Int, Grown m mm (Tm.get 31 t) 1 intR bs ∧ bs.length = n + i)) 4 (by omega)
  ⟨h, by repeat (first | exact hT | refine KT.set ?_ (by omega)), by simp [t30], by simp, .inl ⟨rfl, by simp [t31]⟩⟩ (fun i t mm kk hi4 hI hk => ?_)
 clear t30 t31
 obtain ⟨hJ, hT', t30, t33, hG⟩ := hI
 obtain ⟨lv, hlv⟩ := qaj (Tm.get 31 t)
 rw [← hlv] at hG
 by_cases hil : i < 4
 ·have hd : ((i : Int) < 4) = True := eq_true (by omega)
  have ni := qJ (i := i) (by omega)
  obtain ⟨M1, hM1⟩ := qaj (Dx.newRow mm [.int .i64 98])
  have bs1 : ko 1 1 (rep 1 [.int .i64 0]) [(0, 1, .int .i64 98)] mm = some (.slice (some ⟨mm.n, 0, some 3⟩) 1 1, M1) := by rw [hM1]; rfl
  have E1 : Ext mm M1 := by rw [hM1]; exact Ext.row _ _
  have hJ1 : SpJ S m M1 := hJ.more E1.n E1.base E1.log fun Y hY => E1.obj Y (qa1 hY hJ.n)
  have hw : loads M1 ⟨mm.n, 0, some 3⟩ 1 = some [.int .i64 98] := by rw [hM1]; exact xD mm _ 0 1 (by simp)
  have key : ∃ v' m2, qX M1 1 8 lv (.slice (some ⟨mm.n, 0, some 3⟩) 1 1) = some (v', m2) ∧ SpJ S m m2 ∧ ∃ bs : List Int, Grown m m2 v' 1 intR bs ∧ bs.length = n + (i + 1) := by
   rcases hG with ⟨rfl, e⟩ | ⟨bs, hG, hbl⟩
   ·obtain ⟨bs, e1, e2⟩ := hJ1.ints hX n hi
    have hL : loads M1 ⟨X, 0, some 3⟩ n = some (bs.map fun b => Value.int .i64 b) := (gk hn0).2 ⟨by simp [e1], fun i hi s => by rw [Nat.zero_add]; exact e2 i hi⟩
    have ap := Yi hL hw hn
    rw [e]
    refine ⟨_, _, ap, hJ1.more (Ext.row M1 _).n (Ext.row M1 _).base (Ext.row M1 _).log fun Y hY => (Ext.row M1 _).obj Y (qa1 hY hJ1.n), bs ++ [98], .inr ⟨M1.n, hJ1.n, ?_, by simp, by simp [e1], ?_⟩, by simp [e1]⟩
    ·rw [qk]; omega
    ·have : ((bs ++ [98]).flatMap intR) = (bs.map fun b => Value.int .i64 b) ++ [.int .i64 98] := by
      rw [List.flatMap_append]
      congr 1
      clear e1 e2 hL ap
      induction bs with
      | nil => rfl
      | cons b bs ih => simp only [List.flatMap_cons, List.map_cons, ih]; rfl
     rw [this]
     exact Arr.row M1 _
   ·have hG1 : Grown m M1 lv 1 intR bs := hG.keep E1.n fun B hB _ => E1.obj B hB
    obtain ⟨v', m2, a1, a2, a3⟩ := grow_n hG1 (by omega) (fun _ => rfl) (fun x v hv => by simp [intR] at hv; subst hv; rfl) (x := 98) (X := mm.n) (sp := some 3) hw hJ1.n (bytes := 8) (by unfold most; omega) (by omega)
    have hlo : ∀ B, blk lv = some B → m.n ≤ B := fun B hB => (grown_low hG1 B hB).1
    refine ⟨v', m2, a1, hJ1.more a3.n a3.base (a3.low fun B hB => ?_) fun Y hY => a3.obj Y (qa1 hY hJ1.n) fun e => by have := hlo Y e; omega, bs ++ [98], a2, by simp; omega⟩
    have := hlo B hB
    rw [hJ1.base]; omega
  obtain ⟨v', m2, a1, a2, bs, a3, a4⟩ := key
  simp [t33, hd, hil, bs1, ← hlv, a1, ni]
  exact hk hil _ _ ⟨a2, by repeat (first | exact hT' | refine KT.set ?_ (by omega)), by simp [t30], by simp, .inr ⟨bs, by simpa using a3, a4⟩⟩
 ·obtain rfl : i = 4 := by omega
  simp [t33]
  exact H _ _ (by repeat (first | exact hT' | refine KT.set ?_ (by omega))) (by simp [t30]) hJ
theorem phC {cod : Value} {CL : List Value} (hb : m.base ≤ m.n) (hC : CC S m P cod CL) (h : SpJ S m m') (hT : KT t V) (hV : V 16 = .pointer (some ⟨P, 0, none⟩)) {x : Ex} {kn kr : K} {ke : Nat → K} {Q : Option Out → Prop}
  (H : ∀ t' m2, KT t' V → SpJ S m m2 → Q (kn t' m2)) : Q (QT x kn ke kr t m') := by
 obtain ⟨n, hnl⟩ := qaj (CL.length)
 have hlen := hC.cl.len
 have hl := hC.len
 rw [← hnl] at hlen hl
 have l1 : ∀ mm, SpJ S m mm → ∀ s, load1 mm ⟨P, 3, s⟩ = some cod := fun mm hJ s => by
  obtain ⟨a, b, c, e⟩ := jl hlen
  rw [e]; exact hJ.sl hC.hP (by rw [hC.lt, e])
 simp [-Qb, -Qc]
 refine qm (c := JW) rfl Q (fun i t mm => SpJ S m mm ∧ KT t V ∧ Tm.get 30 t = iv i) n (by omega) ⟨h, by repeat (first | exact hT | refine KT.set ?_ (by omega)), by simp⟩ (fun i t mm kk hin hI hk => ?_)
 obtain ⟨hJ, hT', t30⟩ := hI
 have tB := hT' 16 (by omega)
 rw [hV] at tB
 by_cases hil : i < n
 ·have hd := dlt hil
  have hd' : (i < n) = True := eq_true hil
  have ni := qJ (i := i) (by omega)
  obtain ⟨v, hv⟩ : ∃ r, CL[i]? = some r := ⟨_, DW (by omega)⟩
  obtain ⟨X, k, l, rfl, hk2, hr, hS, hbX⟩ := hC.ac i v hv
  obtain ⟨i1, b1, _⟩ := hC.cl.row i _ hv
  have l2 : load1 mm (adr 1 cod i) = some (.slice (some ⟨X, 0, some 3⟩) (1 + k) (1 + k)) := by
   have := hC.cl.cell hv (j := 0) rfl none
   rw [← gZ (e := 1) (i := i) hlen]
   exact hJ.sl b1 this
  have hll : l.length = 1 + k := by
   have := hr.len
   simp [kG] at this
   omega
  have hX : X < m.n := hr.lt X rfl
  obtain ⟨k1, hk1⟩ := qaj (1 + k)
  rw [← hk1] at l2 hr hll
  simp [tB, t30, l1 mm hJ, i1, l2, hlen, hd, hd', -Qb, -Qc]
  refine phL (k := i) hr (by omega) (fun B hB => by cases hB; exact ⟨hS, hbX⟩) hJ (V := V) (by repeat (first | exact hT' | refine KT.set ?_ (by omega))) (by simp [t30]) (by simp) fun t2 m2 w1 w2 w3 w4 => ?_
  refine phD (k := i) (X := X) (n := k1) hb (by omega) hX (fun j hj => ?_) (by omega) w4 (V := V) w1 w2 w3 fun t3 m3 u1 u2 u3 => ?_
  ·obtain ⟨r, hr'⟩ : ∃ r, l[j]? = some r := ⟨_, DW (by omega)⟩
   have := hr.cell hr' (j := 0) rfl none
   have e : adr 1 (.slice (some ⟨X, 0, some 3⟩) k1 k1) j = ⟨X, j, none⟩ := by
    show (⟨X, 0 + j * 1, none⟩ : Addr) = _
    rw [Nat.zero_add, Nat.mul_one]
   rw [e] at this
   exact ⟨_, this⟩
  simp [u2, ni]
  exact hk hil _ _ ⟨u3, by repeat (first | exact u1 | refine KT.set ?_ (by omega)), by simp⟩
 ·obtain rfl : i = n := by omega
  have hd : ((i : Int) < (i : Int)) = False := eq_false (by omega)
  simp [tB, t30, l1 mm hJ, hlen, hd]
  exact H _ _ (by repeat (first | exact hT' | refine KT.set ?_ (by omega))) hJ
end
end Go.Sx
namespace Go.Sx
open Go.Dx Go.Proofs
set_option maxRecDepth 10000
set_option maxHeartbeats 1000000 in
theorem keptT {m0 M0 : M} {ed md : Value} {es : List (Int × Int)} {ms : List Int} (hl16 : es.length ≤ 16) (hml : ms.length = es.length) {b : Nat} (hbg : first es.length (zB es) = some b) {V : Nat → Nat}
  (hV : ∀ i, i < es.length → qu es i = true → ∃ d, jI es i d ∧ V i = 1 + bw es i d) (law6 : ∀ i, qU es V i < 1000000) (law7 : ∀ c, wrR es b c < 1000000) (E : Ext m0 M0) (hM : M0.base ≤ M0.n)
  (r1 : Rd M0 ed 2 edgeRow es) (r2 : Rd M0 md 1 modeRow ms) {N nt : Nat} (hN : N = es.length - cnt es) (hN1 : 1 ≤ N) (hnt : nt ≤ 16) {tsl osl fsl : Value} {loc : Nat → Nat} {va vo : Nat → Value} {A : Nat → List AR}
  (k1 : Rd M0 fsl 1 kP ((List.range N).map (wrR es b))) (k2 : Rd M0 tsl 2 (fun p : Int × Value => [iv p.1, p.2]) ((List.range nt).map fun (j : Nat) => (((loc j : Nat) : Int), (va j : Value)))) (k3 : Rd M0 osl 1 (fun v : Value => [v]) ((List.range nt).map vo))
  (h4 : ∀ j, j < nt → loc j = ((qt es b).foldl (wSt es ms b V) TS0 j).fin.loc ∧ (A j).map AR.era = ((qt es b).foldl (wSt es ms b V) TS0 j).fin.acts ∧ Rd M0 (va j) 11 kl (A j) ∧ Rd M0 (vo j) 1 kP ((qt es b).foldl (wSt es ms b V) TS0 j).fin.outs ∧ ∀ r, r ∈ A j → ∀ B op v, r.e = some (B, op, v) → B < M0.n ∧ Arr M0 B (wY op v))
  {x : GX} {evd rfd cod tov : Value} (gv : GV M0 N x evd rfd cod) (gt : Rd M0 tov 1 qV x.TO) (hx : x = yo es ms b (qU es V)) (hEVl : x.EV.length ≤ 1000) (hRFl : x.RF.length ≤ 1000) (hCOn : x.CO.length ≤ 1000) (hCOl : ∀ l ∈ x.CO, l.length ≤ 1000) (hTOl : x.TO.length = es.length)
  {P3 P13 P14 P19 : Nat} (l3 : ∀ m'', Sees M0 m'' → ∀ s, loads m'' ⟨P3, 0, s⟩ 2 = some [ed, md]) (l13 : ∀ m'', Sees M0 m'' → ∀ o s, load1 m'' ⟨P13, o, s⟩ = [iv N, tsl][o]?) (l14 : ∀ m'', Sees M0 m'' → ∀ o s, load1 m'' ⟨P14, o, s⟩ = [fsl, osl][o]?) (l19 : ∀ m'', Sees M0 m'' → ∀ s, loads m'' ⟨P19, 0, s⟩ 8 = some (qd N evd rfd cod))
  {t : Tm} (t3 : Tm.get 3 t = .pointer (some ⟨P3, 0, none⟩)) (t13 : Tm.get 13 t = .pointer (some ⟨P13, 0, none⟩)) (t14 : Tm.get 14 t = .pointer (some ⟨P14, 0, none⟩)) (t19 : Tm.get 19 t = .pointer (some ⟨P19, 0, none⟩)) (t20 : Tm.get 20 t = tov)
  {Q : Value → M → Prop} (hQ : ∀ mm, Q (.bool true) mm) {kn : K} {ke : Nat → K} : Ret m0 Q (bc (xA 9) kn ke (zq [.t 2]) t M0) := by
 have S0 : Sees M0 M0 := Sees.refl hM
 obtain ⟨v7, m7, g1, g2, ev2, rf2, co2, tov2, rfl, gv2, gt2⟩ := GY 3 ed md es ms M0 hM hl16 hml r1 r2 b hbg V hV law6
 rw [← hx, ← hN] at gv2
 rw [← hx] at gt2
 have hcells2 : ∀ v ∈ qd N ev2 rf2 co2, okC v = true := by
  intro v hv
  obtain ⟨_, hc, _⟩ := gv2.co
  simp only [qd, List.mem_cons, List.not_mem_nil, or_false] at hv
  rcases hv with e | e | e | e | e | e | e | e <;> rw [e]
  ·rfl
  ·exact gv2.ev.okV
  ·exact gv2.rf.okV
  ·exact hc.okV
  all_goals rfl
 have stM : St M0 M0 [] := St.nil hM (Ext.refl M0)
 have st7 := stM.step g2
 have st8 := st7.row kF
 obtain ⟨P36, hP36⟩ := qaj (m7.n)
 obtain ⟨m8, i1, i2, i3, i4⟩ := st8.fill 0 rfl (n := 8) (l' := qd N ev2 rf2 co2) rfl rfl hcells2
 have i1' : wh 8 (.pointer (some ⟨m7.n, 0, none⟩)) (.agg ⟨qd N ev2 rf2 co2⟩) (Dx.newRow m7 [.int .i64 0, .slice none 0 0, .slice none 0 0, .slice none 0 0, .slice none 0 0, .slice none 0 0, .slice none 0 0, .slice none 0 0]) = some (undef, m8) := i1
 have E78 : Ext m7 m8 := ⟨by rw [i3]; simp, fun B hB => by rw [i4 B (by omega)]; exact (Ext.row m7 kF).obj B hB, by rw [i2.ext.base, st7.ext.base], by rw [i2.ext.log, st7.ext.log]⟩
 have S08 : Sees M0 m8 := i2.sees
 have S78 : Sees m7 m8 := st7.sees.self.ext E78
 have l36 : ∀ m'', Sees m8 m'' → ∀ s, loads m'' ⟨P36, 0, s⟩ 8 = some (qd N ev2 rf2 co2) := fun m'' h s => by
  rw [hP36, kO h (i2.get 0 rfl).2.1]; exact (i2.get 0 rfl).2.2.loads (n := 8) (by simp [qd])
 have l3' := l3 M0 S0
 have k2l := k2.len
 simp only [List.length_map, List.length_range] at k2l
 rw [← hN] at g1
 simp [t3, l3', qf, WP, g1, i1']
 refine qm (c := JZ) rfl (Ret m0 Q) (fun j t m' => Tm.get 3 t = .pointer (some ⟨P3, 0, none⟩) ∧ Tm.get 13 t = .pointer (some ⟨P13, 0, none⟩) ∧ Tm.get 14 t = .pointer (some ⟨P14, 0, none⟩) ∧ Tm.get 19 t = .pointer (some ⟨P19, 0, none⟩) ∧ Tm.get 20 t = tov ∧ Tm.get 36 t = .pointer (some ⟨P36, 0, none⟩) ∧ Tm.get 37 t = tov2 ∧ Tm.get 38 t = iv j ∧ Ext m8 m') nt (by omega)
  ⟨by simp [t3], by simp [t13], by simp [t14], by simp [t19], by simp [t20], by simp [hP36], by simp, by simp, Ext.refl m8⟩ (fun j t m' k hj hI hk => ?_)
 clear t3 t13 t14 t19 t20
 obtain ⟨t3, t13, t14, t19, t20, t36, t37, t38, hE⟩ := hI
 have S' : Sees M0 m' := S08.ext hE
 by_cases hjl : j < nt
 ·have hd := dlt hjl
  have w1 := qJ (i := j) (by omega)
  obtain ⟨g1', g2', g3, g4, g5⟩ := h4 j hjl
  have ⟨o1, o2, _⟩ := Rd.at (i := j) (r := (((loc j : Nat) : Int), va j)) (k2.sees S') (by rw [qac, List.getElem?_range hjl]; rfl)
  have ⟨r1', r2'⟩ := Rd.at1 (g := fun (v : Value) => v) (i := j) (r := vo j) (k3.sees S') (by rw [qac, List.getElem?_range hjl]; rfl)
  have o2' := o2 m' S'.self
  have r2'' := r2' m' S'.self
  obtain ⟨G, hG⟩ : ∃ G, (qt es b).foldl (wSt es ms b V) TS0 j = G := ⟨_, rfl⟩
  rw [hG] at g1' g2' g4
  have SA : Sees M0 (qi m') := qA S'
  obtain ⟨_, q, u1, u2, u3, rfl⟩ := zg (GM 3 ed md (va j) (vo j) es ms (qi m') SA.base hl16 hml (r1.sees SA) (r2.sees SA) b hbg V hV law6 j G hG (A j) g2' (g3.sees SA) (g4.sees SA) (fun r hr B op v hB => by
   obtain ⟨a, c⟩ := g5 r hr B op v hB
   exact ⟨qa1 a SA.n, c.sees SA a⟩))
  have e0 : G.loc = loc j := g1'.symm
  rw [e0] at u1
  obtain ⟨m9, hm9⟩ := qaj (behind m' q)
  rw [← hm9] at u3
  have l13' := l13 m' S'
  have l14' := l14 m' S'
  have l3'' := l3 m' S'
  simp (maxDischargeDepth := 30) [t3, t13, t14, t38, l13', l14', l3'', k2l, hd, WP, qf, o1, o2', r1', r2'', u1, u2, ← hm9, w1]
  exact hk hjl _ _ ⟨by simp [t3], by simp [t13], by simp [t14], by simp [t19], by simp [t20], by simp [t36], by simp [t37], by simp, hE.trans u3⟩
 obtain rfl : j = nt := by omega
 have hd : ((j : Int) < (j : Int)) = False := eq_false (by omega)
 have l13' := l13 m' S'
 simp (maxDischargeDepth := 30) [t13, t38, l13', k2l, hd]
 have gt2l := gt2.len
 rw [hTOl] at gt2l
 refine qm (c := Xa) rfl (Ret m0 Q) (fun i t mm => mm = m' ∧ Tm.get 3 t = .pointer (some ⟨P3, 0, none⟩) ∧ Tm.get 13 t = .pointer (some ⟨P13, 0, none⟩) ∧ Tm.get 14 t = .pointer (some ⟨P14, 0, none⟩) ∧ Tm.get 19 t = .pointer (some ⟨P19, 0, none⟩) ∧ Tm.get 20 t = tov ∧ Tm.get 36 t = .pointer (some ⟨P36, 0, none⟩) ∧ Tm.get 37 t = tov2 ∧ Tm.get 39 t = iv i) es.length (by omega)
  ⟨rfl, by simp [t3], by simp [t13], by simp [t14], by simp [t19], by simp [t20], by simp [t36], by simp [t37], by simp⟩ (fun i t mm k hi hI hk => ?_)
 clear t3 t13 t14 t19 t20 t36 t37 t38
 obtain ⟨rfl, t3, t13, t14, t19, t20, t36, t37, t39⟩ := hI
 by_cases hil : i < es.length
 ·have hd := dlt hil
  have w1 := qJ (i := i) (by omega)
  obtain ⟨r, hr⟩ : ∃ r, x.TO[i]? = some r := ⟨_, DW (by omega)⟩
  have ⟨o1, o2⟩ := Rd.at1 (g := fun (v : Nat) => iv v) gt hr
  have ⟨o3, o4⟩ := Rd.at1 (g := fun (v : Nat) => iv v) gt2 hr
  have o2' := o2 mm S'
  have o4' := o4 mm (S78.ext hE)
  simp (maxDischargeDepth := 30) [t20, t37, t39, gt2l, hd, o1, o2', o3, o4', w1]
  exact hk hil _ _ ⟨rfl, by simp [t3], by simp [t13], by simp [t14], by simp [t19], by simp [t20], by simp [t36], by simp [t37], by simp⟩
 ·obtain rfl : i = es.length := by omega
  have hd : ((es.length : Int) < (es.length : Int)) = False := eq_false (by omega)
  have SA : Sees M0 (qi mm) := qA S'
  obtain ⟨_, q, u1, u2, u3, rfl⟩ := zg (Same_c 7 N x evd rfd cod ev2 rf2 co2 (qi mm) SA.base hEVl hRFl hCOn hCOl (gv.sees SA) (gv2.sees (qA (S78.ext hE))))
  obtain ⟨m9, hm9⟩ := qaj (behind mm q)
  rw [← hm9] at u3
  have S9 : Sees M0 m9 := S'.ext u3
  have S9A : Sees M0 (qi m9) := qA S9
  obtain ⟨_, q2, z1, z2, z3, rfl⟩ := zg (Yd 3 ed md es hl16 (qi m9) S9A.base (r1.sees S9A) b hbg 0)
  obtain ⟨m10, hm10⟩ := qaj (behind m9 q2)
  rw [← hm10] at z3
  have l19' := l19 mm S'
  have l36' := l36 mm ((Sees.refl i2.sees.self.base).ext hE)
  have l13' := l13 m9 S9
  have l14' := l14 m9 S9
  have l3'' := l3 m9 S9
  have k1l := k1.len
  simp only [List.length_map, List.length_range] at k1l
  obtain ⟨w, hw⟩ := qaj (wrR es b 0)
  have ⟨o1, o2⟩ := Rd.at1 (g := fun (x : Nat) => Value.int .u64 (x : Int)) (i := 0) (r := w) k1 (by rw [qac, List.getElem?_range (by omega), hw]; rfl)
  have o1' : wX 1 fsl (.int .i64 0) = some (.pointer (some (adr 1 fsl 0))) := o1
  have o2' := o2 m9 S9
  have cvv := zu w (by rw [hw]; exact law7 0)
  rw [← hw] at z1
  have z1' : (Go.Dx.ex Try.prog 9).f 18 [.agg #[ed, md], .int .i64 0] (qi m9) = some (iv w, q2) := z1
  have hN0 : ((N : Int) = 0) = False := eq_false (by omega)
  have hN0' : (N = 0) = False := eq_false (by omega)
  simp (maxDischargeDepth := 30) [t3, t13, t14, t19, t36, t37, t39, gt2l, hd, l19', l36', qf, WP, u1, u2, ← hm9, l14', l13', l3'', k1l, hN0, hN0', o1', o2', z1', z2, ← hm10, cvv]
  exact qH (E.trans (i2.ext.trans (hE.trans (u3.trans z3)))) (by simpa using hQ _)
end Go.Sx
namespace Go.Sx
open Go.Dx Go.Proofs
set_option maxRecDepth 10000
structure Box (S : Nat → Prop) (B : M) (P : Nat) (l : List Value) : Prop where
 lt : P < B.n
 ns : ¬ S P
 ar : Arr B P l
section
variable {S : Nat → Prop} {B m' : M} {P : Nat} {l : List Value}
theorem Box.arr (h : Box S B P l) (hJ : SpJ S B m') : Arr m' P l := h.ar.congr (hJ.same P h.lt h.ns)
theorem Box.load (h : Box S B P l) (hJ : SpJ S B m') (o : Nat) (s : Option Nat) : load1 m' ⟨P, o, s⟩ = l[o]? := (h.arr hJ).load1 o s
theorem Box.loads (h : Box S B P l) (hJ : SpJ S B m') (s : Option Nat) : Dx.loads m' ⟨P, 0, s⟩ l.length = some l := by
 have := (h.arr hJ).loads (o := 0) (n := l.length) (s := s) (by simp)
 simpa using this
theorem zw {α : Type} {v : Value} {e : Nat} {f : α → List Value} {es : List α} (h : Rd B v e f es) (hS : ∀ X, blk v = some X → ¬ S X) (hJ : SpJ S B m') : Rd m' v e f es :=
 h.congr hJ.n fun X hX => hJ.same X (h.lt X hX) (hS X hX)
end
def In (lo hi X : Nat) : Prop := lo ≤ X ∧ X < hi
structure WV (B : M) (lo hi N nt : Nat) (tsl osl fsl : Value) (loc : Nat → Nat) (va vo : Nat → Value) (A : Nat → List AR) (G : Nat → TS) (W : List Nat) : Prop where
 fs : Rd B fsl 1 kP W
 ts : Rd B tsl 2 (fun p : Int × Value => [iv p.1, p.2]) ((List.range nt).map fun (j : Nat) => (((loc j : Nat) : Int), (va j : Value)))
 os : Rd B osl 1 (fun v : Value => [v]) ((List.range nt).map vo)
 th : ∀ j, j < nt → loc j = (G j).loc ∧ (A j).map AR.era = (G j).acts ∧ Rd B (va j) 11 kl (A j) ∧ Rd B (vo j) 1 kP (G j).outs ∧ ∀ r, r ∈ A j → ∀ X op v, r.e = some (X, op, v) → X < B.n ∧ Arr B X (wY op v)
 rf : ∀ X, blk fsl = some X → In lo hi X
 rt : ∀ X, blk tsl = some X → In lo hi X
 ro : ∀ X, blk osl = some X → In lo hi X
 rj : ∀ j, j < nt → (∀ X, blk (va j) = some X → In lo hi X) ∧ (∀ X, blk (vo j) = some X → In lo hi X) ∧ ∀ r, r ∈ A j → ∀ X op v, r.e = some (X, op, v) → In lo hi X
theorem WV.keep {B m' : M} {S : Nat → Prop} {lo hi N nt : Nat} {tsl osl fsl : Value} {loc : Nat → Nat} {va vo : Nat → Value} {A : Nat → List AR} {G : Nat → TS} {W : List Nat} (h : WV B lo hi N nt tsl osl fsl loc va vo A G W) (hS : ∀ X, In lo hi X → ¬ S X) (hJ : SpJ S B m') : WV m' lo hi N nt tsl osl fsl loc va vo A G W :=
 ⟨zw h.fs (fun X hX => hS X (h.rf X hX)) hJ, zw h.ts (fun X hX => hS X (h.rt X hX)) hJ, zw h.os (fun X hX => hS X (h.ro X hX)) hJ, fun j hj => by
  obtain ⟨a1, a2, a3, a4, a5⟩ := h.th j hj
  obtain ⟨b1, b2, b3⟩ := h.rj j hj
  exact ⟨a1, a2, zw a3 (fun X hX => hS X (b1 X hX)) hJ, zw a4 (fun X hX => hS X (b2 X hX)) hJ, fun r hr X op v hX => by
   obtain ⟨c1, c2⟩ := a5 r hr X op v hX
   exact ⟨qa1 c1 hJ.n, c2.congr (hJ.same X c1 (hS X (b3 r hr X op v hX)))⟩⟩, h.rf, h.rt, h.ro, h.rj⟩
structure GW (B : M) (lo hi N : Nat) (x : GX) (evd rfd cod tov : Value) (sv : Nat → Value) : Prop where
 ev : Rd B evd 5 qS x.EV
 rf : Rd B rfd 2 wk x.RF
 to : Rd B tov 1 qV x.TO
 con : x.CO.length = N
 co : Rd B cod 1 (fun v : Value => [v]) ((List.range N).map sv)
 cc : ∀ c l, x.CO[c]? = some l → Rd B (sv c) 1 qV l
 re : ∀ X, blk evd = some X → In lo hi X
 rr : ∀ X, blk rfd = some X → In lo hi X
 rc : ∀ X, blk cod = some X → In lo hi X
 rt : ∀ X, blk tov = some X → In lo hi X
 rs : ∀ c, c < N → ∀ X, blk (sv c) = some X → In lo hi X
 ex : ∀ c, c < N → ∃ X n, sv c = .slice (some ⟨X, 0, some 3⟩) (1 + n) (1 + n) ∧ n ≤ 2
theorem GW.keep {B m' : M} {S : Nat → Prop} {lo hi N : Nat} {x : GX} {evd rfd cod tov : Value} {sv : Nat → Value} (h : GW B lo hi N x evd rfd cod tov sv) (hS : ∀ X, In lo hi X → ¬ S X) (hJ : SpJ S B m') : GW m' lo hi N x evd rfd cod tov sv :=
 ⟨zw h.ev (fun X hX => hS X (h.re X hX)) hJ, zw h.rf (fun X hX => hS X (h.rr X hX)) hJ, zw h.to (fun X hX => hS X (h.rt X hX)) hJ, h.con, zw h.co (fun X hX => hS X (h.rc X hX)) hJ, fun c l hc => zw (h.cc c l hc) (fun X hX => hS X (h.rs c (by have := (DY.1 hc).1; rw [h.con] at this; exact this) X hX)) hJ,
  h.re, h.rr, h.rc, h.rt, h.rs, h.ex⟩
theorem dv {α : Type} {n i : Nat} {f : Nat → α} {a : α} (h : ((List.range n).map f)[i]? = some a) : i < n ∧ a = f i := by
 have hl := (DY.1 h).1
 simp at hl
 rw [qac, List.getElem?_range hl] at h
 cases h
 exact ⟨hl, rfl⟩
theorem keptP {m0 B m' : M} {S : Nat → Prop} {V : Nat → Value} {t : Tm} {N nt : Nat} {tsl osl fsl : Value} {loc : Nat → Nat} {va vo : Nat → Value} {A : Nat → List AR} {G : Nat → TS} {W : List Nat} {p0 p1 g0 g1 : Nat} {x : GX} {evd rfd cod tov : Value} {sv : Nat → Value} {P10 P11 P16 : Nat} {ev0 : Int}
  (hb : B.base ≤ B.n) (hw : WV B p0 p1 N nt tsl osl fsl loc va vo A G W) (hg : GW B g0 g1 N x evd rfd cod tov sv) (hSp : ∀ X, In p0 p1 X → S X ∧ B.base ≤ X) (hSg : ∀ X, In g0 g1 X → S X ∧ B.base ≤ X)
  (b10 : Box S B P10 [iv N, tsl]) (b11 : Box S B P11 [fsl, osl]) (b16 : Box S B P16 (qd N evd rfd cod)) (hnt : nt ≤ 1000) (hN : N ≤ 1000) (hA : ∀ j, j < nt → (A j).length ≤ 1000000 ∧ (G j).outs.length ≤ 1000000) (hW : W.length ≤ 1000000) (hEV : x.EV.length ≤ 1000) (hRF : x.RF.length ≤ 1000) (hTO : x.TO.length ≤ 1000)
  (v10 : V 10 = .pointer (some ⟨P10, 0, none⟩)) (v11 : V 11 = .pointer (some ⟨P11, 0, none⟩)) (v16 : V 16 = .pointer (some ⟨P16, 0, none⟩)) (v17 : V 17 = tov) (hJ : SpJ S B m') (hT : KT t V) {X : Ex} {kn kr : K} {ke : Nat → K} {Q : Option Out → Prop}
  (H : ∀ t' m2, KT t' V → SpJ S B m2 → Q (bc X kn ke kr t' m2)) : Q (QW X kn ke kr t m') := by
 have J0 := SpJ.refl S B
 have hPC : PC S B P10 tsl ((List.range nt).map fun (j : Nat) => (((loc j : Nat) : Int), (va j : Value))) A := by
  refine ⟨b10.lt, fun s => b10.load J0 1 s, hw.ts, fun i p hp => ?_, by simp; omega⟩
  obtain ⟨hi, rfl⟩ := dv hp
  obtain ⟨a1, a2, a3, a4, a5⟩ := hw.th i hi
  obtain ⟨c1, c2, c3⟩ := hw.rj i hi
  exact ⟨a3, fun Y hY => hSp Y (c1 Y hY), (hA i hi).1, fun r hr Y op v hY => ⟨(a5 r hr Y op v hY).1, (a5 r hr Y op v hY).2, hSp Y (c3 r hr Y op v hY)⟩⟩
 have hOC : OC S B P11 osl ((List.range nt).map vo) (fun j => (G j).outs) := by
  refine ⟨b11.lt, fun s => b11.load J0 1 s, hw.os, fun i v hv => ?_⟩
  obtain ⟨hi, rfl⟩ := dv hv
  exact ⟨(hw.th i hi).2.2.2.1, fun Y hY => hSp Y ((hw.rj i hi).2.1 Y hY), (hA i hi).2⟩
 have hCC : CC S B P16 cod ((List.range N).map sv) := by
  refine ⟨b16.lt, fun s => b16.load J0 3 s, hg.co, fun i v hv => ?_, by simp; omega⟩
  obtain ⟨hi, rfl⟩ := dv hv
  obtain ⟨Y, n, e, hn⟩ := hg.ex i hi
  obtain ⟨l, hl⟩ : ∃ l, x.CO[i]? = some l := ⟨_, DW (by rw [hg.con]; exact hi)⟩
  have hY := hSg Y (hg.rs i hi Y (by rw [e]; rfl))
  exact ⟨Y, n, l, e, hn, hg.cc i l hl, hY.1, hY.2⟩
 simp [-jx, -jy, -jz, -zQ, -zR, -zS, -zT]
 refine phP hPC hOC (by simp) hJ hT v10 v11 fun t1 m1 T1 J1 => ?_
 simp [-jx, -jy, -jz, -zQ, -zR, -zS, -zT]
 refine phF J1 T1 v11 b11.lt (fun s => b11.load J0 0 s) hw.fs hW (fun Y hY => hSp Y (hw.rf Y hY)) fun t2 m2 T2 J2 => ?_
 simp [-jx, -jy, -jz, -zQ, -zR, -zS, -zT]
 refine phG J2 T2 v16 b16.lt (fun s => b16.load J0 1 s) hg.ev (by omega) (fun Y hY => hSg Y (hg.re Y hY)) fun t3 m3 T3 J3 => ?_
 simp [-jx, -jy, -jz, -zQ, -zR, -zS, -zT]
 refine phC hb hCC J3 T3 v16 fun t4 m4 T4 J4 => ?_
 simp [-jx, -jy, -jz, -zQ, -zR, -zS, -zT]
 refine phT J4 T4 v17 hg.to (by omega) (fun Y hY => hSg Y (hg.rt Y hY)) fun t5 m5 T5 J5 => ?_
 simp [-jx, -jy, -jz, -zQ, -zR, -zS, -zT]
 refine phR J5 T5 v16 b16.lt (fun s => b16.load J0 2 s) hg.rf (by omega) (fun Y hY => hSg Y (hg.rr Y hY)) fun t6 m6 T6 J6 => ?_
 exact H t6 m6 T6 J6
end Go.Sx
namespace Go.Sx
open Go.Dx Go.Proofs
set_option maxRecDepth 10000
theorem _root_.Go.Dx.SpJ.ext' {S : Nat → Prop} {a b c : M} (h : SpJ S a b) (e : Ext b c) : SpJ S a c := h.more e.n e.base e.log fun X hX => e.obj X (qa1 hX h.n)
theorem keptA {B : M} {S : Nat → Prop} {V : Nat → Value} {t : Tm} {es : List (Int × Int)} {ms : List Int} {ed md xe xm a1 a2 b1 b2 : Value} {P3 P7 P8 P9 : Nat} (hb : B.base ≤ B.n) (he16 : es.length * 16 ≤ most) (hm8 : ms.length * 8 ≤ most) (he : es.length ≤ 4611686018427387903) (hme : ms.length ≤ 4611686018427387903)
  (r1 : Rd B ed 2 edgeRow es) (r2 : Rd B md 1 modeRow ms) (x1 : Rd B xe 2 edgeRow es) (x2 : Rd B xm 1 modeRow ms) (c1 : Rd B a1 2 edgeRow (zo (es, ms)).1) (c2 : Rd B a2 1 modeRow (zo (es, ms)).2) (d1 : Rd B b1 2 edgeRow (zo (es, ms)).1) (d2 : Rd B b2 1 modeRow (zo (es, ms)).2)
  (nr1 : ∀ X, blk ed = some X → ¬ S X) (nr2 : ∀ X, blk md = some X → ¬ S X) (nx1 : ∀ X, blk xe = some X → ¬ S X) (nx2 : ∀ X, blk xm = some X → ¬ S X) (nd1 : ∀ X, blk b1 = some X → ¬ S X) (nd2 : ∀ X, blk b2 = some X → ¬ S X) (sc1 : ∀ X, blk a1 = some X → S X ∧ B.base ≤ X) (sc2 : ∀ X, blk a2 = some X → S X ∧ B.base ≤ X)
  (b3 : Box S B P3 [ed, md]) (b7 : Box S B P7 [xe, xm]) (b8 : Box S B P8 [a1, a2]) (b9 : Box S B P9 [b1, b2])
  (v3 : V 3 = .pointer (some ⟨P3, 0, none⟩)) (v7 : V 7 = .pointer (some ⟨P7, 0, none⟩)) (v8 : V 8 = .pointer (some ⟨P8, 0, none⟩)) (v9 : V 9 = .pointer (some ⟨P9, 0, none⟩)) (hT : KT t V) {kn kr : K} {ke : Nat → K} {Q : Option Out → Prop}
  (H : ∀ t' m2, KT t' V → SpJ S B m2 → Q (QX (xA 9) kn ke kr t' m2)) : Q (bd (xA 9) kn ke kr t B) := by
 have J0 := SpJ.refl S B
 have hcan : (zo (es, ms)).1.length = es.length ∧ (zo (es, ms)).2.length = ms.length := by
  unfold zo
  split
  ·exact ⟨rfl, rfl⟩
  ·exact bj (es, ms) _ (es, ms) rfl rfl
 simp [-XW, -dW, -dX, -yw]
 refine phA J0 hT v8 b8.lt (fun s => b8.load J0 0 s) c1 (by rw [hcan.1]; exact he) sc1 fun t1 m1 T1 J1 => ?_
 simp [-dW, -dX, -yw]
 refine phB J1 T1 v8 b8.lt (fun s => b8.load J0 1 s) c2 (by rw [hcan.2]; exact hme) sc2 fun t2 m2 T2 J2 => ?_
 have t3 := T2 3 (by omega)
 have t7 := T2 7 (by omega)
 have t9 := T2 9 (by omega)
 rw [v3] at t3
 rw [v7] at t7
 rw [v9] at t9
 have hb2 : m2.base ≤ m2.n := by rw [J2.base]; have := J2.n; omega
 have S2 : Sees m2 m2 := Sees.refl hb2
 obtain ⟨q1, p1', f1, f2, f3, w3, w4, rfl, f4, f5⟩ := zg (JL 8 b1 b2 _ _ (qi m2) (qA S2).base (by rw [hcan.1]; exact he16) (by rw [hcan.2]; exact hm8) ((zw d1 nd1 J2).sees (qA S2)) ((zw d2 nd2 J2).sees (qA S2)))
 obtain ⟨m3, hm3⟩ := qaj (behind m2 p1')
 rw [← hm3] at f3
 have f4' : Rd m3 w3 2 edgeRow (zo (es, ms)).1 := by rw [hm3]; exact f4.behind
 have f5' : Rd m3 w4 1 modeRow (zo (es, ms)).2 := by rw [hm3]; exact f5.behind
 have J3 := J2.ext' f3
 have S3 : Sees m3 m3 := (S2.ext f3).self
 obtain ⟨q2, p2', g1, g2, g3, w7, w8, rfl, g4, g5⟩ := zg (Jt 7 ed md es ms (qi m3) (qA S3).base he16 ((zw r1 nr1 J3).sees (qA S3)) ((zw r2 nr2 J3).sees (qA S3)))
 obtain ⟨m4, hm4⟩ := qaj (behind m3 p2')
 rw [← hm4] at g3
 have g4' : Rd m4 w7 2 edgeRow (zo (es, ms)).1 := by rw [hm4]; exact g4.behind
 have g5' : Rd m4 w8 1 modeRow (zo (es, ms)).2 := by rw [hm4]; exact g5.behind
 have J4 := J3.ext' g3
 have S34 : Sees m3 m4 := S3.ext g3
 have S4 : Sees m4 m4 := S34.self
 obtain ⟨q3, p3', h1, h2, h3, rfl⟩ := zg (bJ 8 w3 w4 w7 w8 _ _ (qi m4) (qA S4).base (by rw [hcan.1]; omega) (by rw [hcan.2]; omega) (f4'.sees (qA S34)) (f5'.sees (qA S34)) (g4'.sees (qA S4)) (g5'.sees (qA S4)))
 obtain ⟨m5, hm5⟩ := qaj (behind m4 p3')
 rw [← hm5] at h3
 have J5 := J4.ext' h3
 have S5 : Sees m5 m5 := (S4.ext h3).self
 obtain ⟨q4, p4', i1, i2, i3, w9, w10, rfl, i4, i5⟩ := zg (JL 8 xe xm es ms (qi m5) (qA S5).base he16 hm8 ((zw x1 nx1 J5).sees (qA S5)) ((zw x2 nx2 J5).sees (qA S5)))
 obtain ⟨m6, hm6⟩ := qaj (behind m5 p4')
 rw [← hm6] at i3
 have i4' : Rd m6 w9 2 edgeRow es := by rw [hm6]; exact i4.behind
 have i5' : Rd m6 w10 1 modeRow ms := by rw [hm6]; exact i5.behind
 have J6 := J5.ext' i3
 have S6 : Sees m6 m6 := (S5.ext i3).self
 obtain ⟨q5, p5', k1, k2, k3, rfl⟩ := zg (bJ 8 w9 w10 ed md es ms (qi m6) (qA S6).base (by omega) (by omega) (i4'.sees (qA S6)) (i5'.sees (qA S6)) ((zw r1 nr1 J6).sees (qA S6)) ((zw r2 nr2 J6).sees (qA S6)))
 obtain ⟨m7, hm7⟩ := qaj (behind m6 p5')
 rw [← hm7] at k3
 have J7 := J6.ext' k3
 have lb9 : loads m2 ⟨P9, 0, none⟩ 2 = some [b1, b2] := b9.loads J2 none
 have lb3 : loads m3 ⟨P3, 0, none⟩ 2 = some [ed, md] := b3.loads J3 none
 have lb7 : loads m5 ⟨P7, 0, none⟩ 2 = some [xe, xm] := b7.loads J5 none
 have lb36 : loads m6 ⟨P3, 0, none⟩ 2 = some [ed, md] := b3.loads J6 none
 simp [t3, t7, t9, lb9, qf, WP, f1, f2, ← hm3, lb3, g1, g2, ← hm4, h1, h2, ← hm5, lb7, i1, i2, ← hm6, lb36, k1, k2, ← hm7, -yw]
 exact H _ _ (by repeat (first | exact T2 | refine KT.set ?_ (by omega))) J7
end Go.Sx
namespace Go.Dx
theorem St.keepA {m0 m m' : M} {σ : List (Nat × List Value)} (h : St m0 m σ) (e : Ext m0 m') (hn : m.n ≤ m'.n) (ho : ∀ p ∈ σ, m'.obj p.1 = m.obj p.1) : St m0 m' σ :=
 ⟨e, h.base, fun p hp => let ⟨h1, h2, h3⟩ := h.arr p hp; ⟨h1, by omega, h3.congr (ho _ hp)⟩, h.nd⟩
theorem BW (m : M) (B : Nat) (o : zJ) : (m.put B o).log = note m.base B m.log := by cases m; rfl
theorem JR {α : Type} {m : M} {w : Value} {e : Nat} {f : α → List Value} {ms : List α} (h : Rd m w e f ms) (hne : ms ≠ []) (bytes : Nat) (hb : ms.length * bytes ≤ most) (hn : ms.length ≤ 4611686018427387904) :
  qX m e bytes (.slice none 0 0) w = some (.slice (some ⟨m.n, 0, some (code e false)⟩) ms.length ms.length, newRow m (ms.flatMap f)) := by
 have hpos := qai.2 hne
 show ob (lenV w) _ = _
 rw [h.lenV, qD]
 show ob (wG m e ms.length w) _ = _
 rw [h.all, qD]
 unfold yt
 have h1 : Nat.ble (0 + ms.length) 0 = false := by
  cases q : Nat.ble (0 + ms.length) 0 with
  | false => rfl
  | true => have := qa5 q; omega
 rw [h1, cond_false, Nat.zero_add, qa4 hb, qa4 hn]
 rfl
theorem Yk {α : Type} {m : M} {w : Value} {e : Nat} {f : α → List Value} (h : Rd m w e f ([] : List α)) (bytes : Nat) : qX m e bytes (.slice none 0 0) w = some (.slice none 0 0, m) := by
 show ob (lenV w) _ = _
 rw [h.lenV, qD]
 show ob (wG m e 0 w) _ = _
 have := h.all
 rw [List.length_nil] at this
 rw [this, qD]
 rfl
theorem Yj {α : Type} {m : M} {B : Nat} {w : Value} {e : Nat} {f : α → List Value} {es ms : List α} (he : 0 < e) (hf : ∀ x, (f x).length = e) (hok : ∀ x, ∀ v ∈ f x, okC v = true) (hne : es ≠ []) (hne2 : ms ≠ []) (hB : B < m.n) (hbB : m.base ≤ B) (h5 : Arr m B (es.flatMap f))
  (hw : Rd m w e f ms) {bytes : Nat} (hm : (es.length + ms.length) * bytes ≤ most) (hn : es.length + ms.length ≤ 4611686018427387904) :
  ∃ m', qX m e bytes (.slice (some ⟨B, 0, some (code e false)⟩) es.length es.length) w = some (.slice (some ⟨m.n, 0, some (code e false)⟩) (es.length + ms.length) (es.length + ms.length), m') ∧ m'.n = m.n + 1 ∧ m'.base = m.base ∧ m'.log = m.log ∧ (∀ X, X < m.n → X ≠ B → m'.obj X = m.obj X) ∧ Arr m' m.n ((es ++ ms).flatMap f) := by
 have e0 : ∀ (b : Option Addr) (n c : Nat), qX m e bytes (.slice b n c) w = yt m e bytes n c ms.length b (ms.flatMap f) := fun b n c => by
  show ob (lenV w) _ = _
  rw [hw.lenV, qD]
  show ob (wG m e ms.length w) _ = _
  rw [hw.all, qD]
 rw [e0]
 unfold yt
 have hpos := qai.2 hne2
 have hlt : Nat.ble (es.length + ms.length) es.length = false := by
  cases q : Nat.ble (es.length + ms.length) es.length with
  | false => rfl
  | true => exact absurd (qa5 q) (by omega)
 have hk : (Nat.ble ((es.length + ms.length) * bytes) most && Nat.ble (es.length + ms.length) 4611686018427387904) = true := by rw [qa4 hm, qa4 hn]; rfl
 obtain ⟨c, hc, hcl⟩ := id h5
 have hlen := wi hf es
 have hne' : 0 < (es.flatMap f).length := by rw [hlen]; exact Nat.mul_pos (qai.2 hne) he
 have ha : alive c = true := Kd (i := 0) (by rw [hcl, DW hne'])
 have hal : vq (es.flatMap f ++ ms.flatMap f) = true := bL fun u hu => by
  simp only [List.mem_append, List.mem_flatMap] at hu
  rcases hu with ⟨y, _, h⟩ | ⟨y, _, h⟩
  ·exact hok y u h
  ·exact hok y u h
 refine ⟨(m.put B (.cells .lf)).alloc (.cells (mkn .lf 0 (es.flatMap f ++ ms.flatMap f))), ?_, by rw [M.n_alloc, M.n_put], by rw [M.base_alloc, M.base_put], by rw [M.log_alloc, BW, ya hbB], fun Y hY hYB => ?_, ?_⟩
 ·rw [hlt, cond_false, hk, cond_true]
  have hold : wG m e es.length (.slice (some ⟨B, 0, some (code e false)⟩) es.length es.length) = some (es.flatMap f) := by
   show loads m ⟨B, 0, some (code e false)⟩ (es.length * e) = _
   rw [h5.loads (by omega), List.drop_zero, ← hlen, List.take_length]
  rw [hold, qD]
  unfold gM
  have hx' : xB (code e false) = false := by
   show Nat.beq (2 * e % 2) 1 = false
   rw [show 2 * e % 2 = 0 by omega]; rfl
  have hcd : Nat.beq (code e false / 2) e = true := by
   show Nat.beq (2 * e / 2) e = true
   rw [show 2 * e / 2 = e by omega]; exact Nat.beq_refl e
  show ob (some (code e false)) _ = _
  rw [qD, hx', cond_false]
  show ob (vd (m.obj B)) _ = _
  rw [hc]
  show (bif alive c && Nat.beq (code e false / 2) e && vq (es.flatMap f ++ ms.flatMap f) && Nat.blt 0 HI then _ else _) = _
  rw [ha, hcd, hal, show Nat.blt 0 HI = true from qa4 (by unfold HI; omega)]
  rfl
 ·rw [M.obj_alloc, M.n_put, if_neg (by omega), M.obj_put, if_neg hYB]
 ·rw [List.flatMap_append]
  refine ⟨_, by rw [M.obj_alloc, M.n_put, if_pos rfl], fun i => ?_⟩
  rw [zG, A.get_lf]
  split
  ·simp
  ·rename_i h; rw [qah (by omega)]
theorem Kf {α : Type} {m0 m : M} {σ : List (Nat × List Value)} (st : St m0 m σ) {k P o : Nat} {l : List Value} (hk : σ[k]? = some (P, l)) (ho : o < l.length) {w : Value} {e : Nat} {f : α → List Value} {es ms : List α} (h : Rd m w e f es) (he : 0 < e) (hf : ∀ x, (f x).length = e) (hok : ∀ x, ∀ v ∈ f x, okC v = true) (hne2 : ms ≠ []) {bytes : Nat} (hm : (es.length + ms.length) * bytes ≤ most) (hn : es.length + ms.length ≤ 4611686018427387904) :
  ∃ v1 mB mB' v2 mD mD' D, qX m e bytes (.slice none 0 0) w = some (v1, mB) ∧ wh 1 (.pointer (some ⟨P, o, none⟩)) v1 mB = some (undef, mB') ∧ (∀ o' s, load1 mB' ⟨P, o', s⟩ = (l.set o v1)[o']?) ∧
   qX (newRow mB' (ms.flatMap f)) e bytes v1 (.slice (some ⟨mB'.n, 0, some (code e true)⟩) ms.length ms.length) = some (v2, mD) ∧ wh 1 (.pointer (some ⟨P, o, none⟩)) v2 mD = some (undef, mD') ∧
   St m0 mD' (σ.set k (P, l.set o v2)) ∧ (∀ X, X < m.n → X ≠ P → mD'.obj X = m.obj X) ∧ m.n ≤ mD'.n ∧ m.n ≤ D ∧ D < mD'.n ∧ D ≠ P ∧ v2 = .slice (some ⟨D, 0, some (code e false)⟩) (es.length + ms.length) (es.length + ms.length) ∧ Arr mD' D ((es ++ ms).flatMap f) := by
 obtain ⟨hP0, hPn, hPa⟩ := st.get k hk
 have hbP : m0.base ≤ P := qa8 st.base hP0
 have hkl : k < σ.length := (DY.1 hk).1
 have tail : ∀ (m2 mD : M) (v1 : Value) (D : Nat), m.n ≤ m2.n → St m0 m2 (σ.set k (P, l.set o v1)) → (∀ X, X < m.n → X ≠ P → m2.obj X = m.obj X) → mD.n = m2.n + 2 → mD.base = m2.base → mD.log = m2.log → (∀ X, X < m.n → mD.obj X = m2.obj X) → D = m2.n + 1 → Arr mD D ((es ++ ms).flatMap f) →
   ∃ mD', wh 1 (.pointer (some ⟨P, o, none⟩)) (.slice (some ⟨D, 0, some (code e false)⟩) (es.length + ms.length) (es.length + ms.length)) mD = some (undef, mD') ∧ St m0 mD' (σ.set k (P, l.set o (.slice (some ⟨D, 0, some (code e false)⟩) (es.length + ms.length) (es.length + ms.length)))) ∧ (∀ X, X < m.n → X ≠ P → mD'.obj X = m.obj X) ∧ m.n ≤ mD'.n ∧ D < mD'.n ∧ Arr mD' D ((es ++ ms).flatMap f) := by
  intro m2 mD v1 D g1 g2 g3 g4 g5 g6 g7 hD g8
  have stD : St m0 mD (σ.set k (P, l.set o v1)) := by
   refine g2.keepA ⟨by rw [g4]; have := g2.ext.n; omega, fun X hX => ?_, by rw [g5]; exact g2.ext.base, by rw [g6]; exact g2.ext.log⟩ (by omega) fun p hp => g7 _ ?_
   ·have hX' : X < m.n := by have := st.ext.n; omega
    rw [g7 X hX', g2.ext.obj X hX]
   ·have : (σ.set k (P, l.set o v1)).map (·.1) = σ.map (·.1) := by
     rw [List.map_set]
     refine List.ext_getElem (by simp) fun i h1 h2 => ?_
     rw [List.getElem_set]
     split
     ·subst_vars
      have := (DY.1 hk).2
      simp [this]
     ·rfl
    have h' : p.1 ∈ σ.map (·.1) := by rw [← this]; exact List.mem_map_of_mem hp
    obtain ⟨q, hq, e⟩ := List.mem_map.1 h'
    rw [← e]; exact (st.arr q hq).2.1
  obtain ⟨mD', a1, a2, a3, a4⟩ := stD.store k (b := P) (l := l.set o v1) (by simp [hkl]) (o := o) (v := .slice (some ⟨D, 0, some (code e false)⟩) (es.length + ms.length) (es.length + ms.length)) (by simpa using ho) rfl
  refine ⟨mD', a1, ?_, fun X hX hXP => by rw [a4 X hXP, g7 X hX, g3 X hX hXP], by omega, by omega, g8.congr (a4 D (by omega))⟩
  simpa using a2
 by_cases hz : es = []
 ·subst hz
  obtain ⟨m2, b1, b2, b3, b4⟩ := st.store k hk (o := o) (v := .slice none 0 0) ho rfl
  have hrow : Arr (newRow m2 (ms.flatMap f)) m2.n (ms.flatMap f) := Arr.row _ _
  have hrd : Rd (newRow m2 (ms.flatMap f)) (.slice (some ⟨m2.n, 0, some (code e true)⟩) ms.length ms.length) e f ms := zl hf hrow (by rw [qk]; omega)
  have ha := JR hrd hne2 bytes (by simpa using hm) (by simpa using hn)
  rw [qk] at ha
  obtain ⟨mD', c1, c2, c3, c4, c5, c6⟩ := tail m2 (newRow (newRow m2 (ms.flatMap f)) (ms.flatMap f)) (.slice none 0 0) (m2.n + 1) (by omega) b2 (fun X _ hXP => b4 X hXP) (by rw [qk, qk]) (by rw [(Ext.row _ _).base, (Ext.row _ _).base]) (by rw [yG, yG]) (fun X hX => by
   rw [(Ext.row _ _).obj X (by rw [qk]; omega), (Ext.row _ _).obj X (by omega)]) rfl (by
   have := Arr.row (newRow m2 (ms.flatMap f)) (ms.flatMap f)
   rw [qk] at this
   simpa using this)
  refine ⟨_, m, m2, _, _, mD', m2.n + 1, Yk h bytes, b1, fun o' s => (b2.get k (by simp [hkl])).2.2.load1 o' s, by rw [ha], by simpa using c1, by simpa using c2, c3, c4, by omega, c5, by omega, by simp, c6⟩
 ·have hpos := qai.2 hz
  have ha := JR h hz bytes (by have := qag bytes (show es.length ≤ es.length + ms.length by omega); omega) (by omega)
  have st1 := st.step (Ext.row m (es.flatMap f))
  obtain ⟨m2, b1, b2, b3, b4⟩ := st1.store k hk (o := o) (v := .slice (some ⟨m.n, 0, some (code e false)⟩) es.length es.length) ho rfl
  rw [qk] at b3
  have hB : Arr m2 m.n (es.flatMap f) := (Arr.row m (es.flatMap f)).congr (b4 m.n (by omega))
  have hB' : Arr (newRow m2 (ms.flatMap f)) m.n (es.flatMap f) := hB.ext (Ext.row _ _) (by omega)
  have hrow : Arr (newRow m2 (ms.flatMap f)) m2.n (ms.flatMap f) := Arr.row _ _
  have hrd : Rd (newRow m2 (ms.flatMap f)) (.slice (some ⟨m2.n, 0, some (code e true)⟩) ms.length ms.length) e f ms := zl hf hrow (by rw [qk]; omega)
  have hbase : (newRow m2 (ms.flatMap f)).base ≤ m.n := by rw [(Ext.row _ _).base, b2.ext.base]; have := st.ext.n; have := st.base; omega
  obtain ⟨mD, d1, d2, d3, d4, d5, d6⟩ := Yj he hf hok hz hne2 (by rw [qk]; omega) hbase hB' hrd hm hn
  rw [qk] at d1 d2 d5 d6
  obtain ⟨mD', c1, c2, c3, c4, c5, c6⟩ := tail m2 mD _ (m2.n + 1) (by omega) b2 (fun X hX hXP => by rw [b4 X hXP, (Ext.row _ _).obj X hX]) (by omega) (by rw [d3, (Ext.row _ _).base]) (by rw [d4, yG]) (fun X hX => by
   rw [d5 X (by omega) (by omega), (Ext.row _ _).obj X (by omega)]) rfl d6
  exact ⟨_, _, m2, _, mD, mD', m2.n + 1, ha, b1, fun o' s => (b2.get k (by simp [hkl])).2.2.load1 o' s, d1, c1, c2, c3, c4, by omega, c5, by omega, rfl, c6⟩
theorem XK {D e N k : Nat} (hk : k ≤ N) : slV e none (some (.int .i64 (k : Int))) none (.slice (some ⟨D, 0, some (code e false)⟩) N N) = some (.slice (some ⟨D, 0, some (code e false)⟩) k N) := by
 have hcd : Nat.beq (code e false / 2) e = true := by
  have : code e false / 2 = e := by show (2 * e) / 2 = e; omega
  rw [this, Nat.beq_refl]
 have hex : xB (code e false) = false := by
  show Nat.beq ((2 * e) % 2) 1 = false
  rw [show (2 * e) % 2 = 0 by omega]; rfl
 have hb : yP N N none (some (.int .i64 (k : Int))) none = some (0, k, N) := by
  show ob (fO (some (.int .i64 (k : Int))) N N) _ = _
  show ob (bif Nat.ble k N then some k else none) _ = _
  rw [qa4 hk]; rfl
 unfold slV
 simp only [qD, hb, hcd, hex, Option.isSome_none, Bool.or_false]
 show some (Value.slice (some ⟨D, bif false && Nat.beq N 0 then 0 else 0 + 0 * e, some (code e false)⟩) (k - 0) (N - 0)) = _
 rw [Nat.zero_mul]; rfl
end Go.Dx
namespace Go.Sx
open Go.Dx Go.Proofs
set_option maxRecDepth 10000
theorem keptB {m : M} {ed md : Value} {es : List (Int × Int)} {ms : List Int} (hm : m.base ≤ m.n) (he16 : es.length * 16 + 4096 ≤ most) (hm8 : ms.length * 8 + 4096 ≤ most) (hed : Rd m ed 2 edgeRow es) (hmd : Rd m md 1 modeRow ms) {t : Tm} (t0 : Tm.get 0 t = .agg #[ed, md]) {kn kr : K} {ke : Nat → K} {Q : Option Out → Prop}
  (H : ∀ t' m1 P1 P3 P4 P7 r1 r2 ve vm xe xm, St m m1 [(P7, [xe, xm]), (P4, [ve, vm]), (P3, [r1, r2]), (P1, [ed, md])] → Rd m1 ed 2 edgeRow es → Rd m1 md 1 modeRow ms → Rd m1 r1 2 edgeRow es → Rd m1 r2 1 modeRow ms → Rd m1 xe 2 edgeRow es → Rd m1 xm 1 modeRow ms → Sp 2 xe → Sp 1 xm →
   Rd m1 ve 2 edgeRow (es ++ [(201, 0), (202, 0)]) → Rd m1 vm 1 modeRow (ms ++ [203, 204]) → Tm.get 3 t' = .pointer (some ⟨P3, 0, none⟩) → Tm.get 4 t' = .pointer (some ⟨P4, 0, none⟩) → Tm.get 5 t' = iv es.length → Tm.get 6 t' = iv ms.length → Tm.get 7 t' = .pointer (some ⟨P7, 0, none⟩) →
   Q (bi (xA 9) kn ke kr t' m1)) : Q (QY (xA 9) kn ke kr t m) := by
 have st0 : St m m [] := St.nil hm (Ext.refl m)
 have st1 := st0.row [ed, md]
 have hb : loads (Dx.newRow m [ed, md]) ⟨m.n, 0, none⟩ 2 = some [ed, md] := xD m _ 0 2 (by simp)
 obtain ⟨v2, m2, c1, c2, r1, r2, rfl, c3, c4⟩ := JL 8 ed md es ms (Dx.newRow m [ed, md]) st1.sees.base (by omega) (by omega) (hed.sees st1.sees) (hmd.sees st1.sees)
 have st2 := st1.step c2
 have st3 := st2.row [.slice none 0 0, .slice none 0 0]
 obtain ⟨m3, d1, d2, d3, d4⟩ := st3.fill 0 rfl (n := 2) (l' := [r1, r2]) rfl rfl (by simp [c3.okV, c4.okV])
 have E23 : Ext m2 m3 := ⟨by rw [d3]; simp, fun B hB => by rw [d4 B (by omega)]; exact (Ext.row m2 _).obj B hB, by rw [d2.ext.base, st2.ext.base], by rw [d2.ext.log, st2.ext.log]⟩
 have S23 : Sees m2 m3 := st2.sees.self.ext E23
 have d2' : St m m3 [(m2.n, [r1, r2]), (m.n, [ed, md])] := d2
 have st4 := d2'.row [.slice none 0 0, .slice none 0 0]
 obtain ⟨m4, hm4⟩ := qaj (Dx.newRow m3 [.slice none 0 0, .slice none 0 0])
 rw [← hm4] at st4
 have n4 : m4.n = m3.n + 1 := by rw [hm4, qk]
 have S34 : Sees m3 m4 := by rw [hm4]; exact d2.sees.self.ext (Ext.row _ _)
 have ed4 := hed.sees st4.sees
 have md4 := hmd.sees st4.sees
 have l1 : ∀ o s, load1 m4 ⟨m.n, o, s⟩ = [ed, md][o]? := fun o s => (st4.get 2 rfl).2.2.load1 o s
 have l4 : ∀ o s, load1 m4 ⟨m3.n, o, s⟩ = [.slice none 0 0, .slice none 0 0][o]? := fun o s => (st4.get 0 rfl).2.2.load1 o s
 obtain ⟨v5, mB, mB', ve, mD, m5, D1, a1, a2, a3, a4, a5, a6, a7, a8, a9, a10, a11, a12, a13⟩ := Kf st4 (k := 0) (P := m3.n) (o := 0) rfl (by simp) ed4 (by omega) (fun _ => rfl) (fun x v hv => by simp [edgeRow] at hv; rcases hv with rfl | rfl <;> rfl) (ms := [((201 : Int), (0 : Int)), (202, 0)]) (by simp) (bytes := 16) (by simp; omega) (by unfold most at he16; simp; omega)
 have a4' : qX (Dx.newRow mB' [.int .i64 201, .int .i64 0, .int .i64 202, .int .i64 0]) 2 16 v5 (.slice (some ⟨mB'.n, 0, some 5⟩) 2 2) = some (ve, mD) := a4
 have a6' : St m m5 [(m3.n, [ve, .slice none 0 0]), (m2.n, [r1, r2]), (m.n, [ed, md])] := a6
 have hlt3 : m.n < m3.n := by have := (d2'.get 1 rfl).2.1; exact this
 have md5 := hmd.sees a6'.sees
 have l15 : ∀ o s, load1 m5 ⟨m.n, o, s⟩ = [ed, md][o]? := fun o s => (a6'.get 2 rfl).2.2.load1 o s
 have l45 : ∀ o s, load1 m5 ⟨m3.n, o, s⟩ = [ve, .slice none 0 0][o]? := fun o s => (a6'.get 0 rfl).2.2.load1 o s
 obtain ⟨v6, mE, mE', vm, mF, m6, D2, b1, b2, b3, b4, b5, b6, b7, b8, b9, b10, b11, b12, b13⟩ := Kf a6' (k := 0) (P := m3.n) (o := 1) rfl (by simp) md5 (by omega) (fun _ => rfl) (fun x v hv => by simp [modeRow] at hv; rcases hv with rfl; rfl) (ms := [(203 : Int), 204]) (by simp) (bytes := 8) (by simp; omega) (by unfold most at hm8; simp; omega)
 have b4' : qX (Dx.newRow mE' [.int .i64 203, .int .i64 204]) 1 8 v6 (.slice (some ⟨mE'.n, 0, some 3⟩) 2 2) = some (vm, mF) := b4
 have b6' : St m m6 [(m3.n, [ve, vm]), (m2.n, [r1, r2]), (m.n, [ed, md])] := b6
 have l16 : ∀ o s, load1 m6 ⟨m.n, o, s⟩ = [ed, md][o]? := fun o s => (b6'.get 2 rfl).2.2.load1 o s
 have l46 : ∀ o s, load1 m6 ⟨m3.n, o, s⟩ = [ve, vm][o]? := fun o s => (b6'.get 0 rfl).2.2.load1 o s
 have x1 : slV 2 none (some (.int .i64 (es.length : Int))) none ve = some (.slice (some ⟨D1, 0, some (code 2 false)⟩) es.length (es.length + 2)) := by rw [a12]; exact XK (by simp)
 have x2 : slV 1 none (some (.int .i64 (ms.length : Int))) none vm = some (.slice (some ⟨D2, 0, some (code 1 false)⟩) ms.length (ms.length + 2)) := by rw [b12]; exact XK (by simp)
 have st6 := b6'.row [.slice none 0 0, .slice none 0 0]
 obtain ⟨xe, hxe⟩ := qaj (Value.slice (some ⟨D1, 0, some (code 2 false)⟩) es.length (es.length + 2))
 obtain ⟨xm, hxm⟩ := qaj (Value.slice (some ⟨D2, 0, some (code 1 false)⟩) ms.length (ms.length + 2))
 obtain ⟨mS, e1, e0, e2, e3, e4⟩ := st6.fillAny 0 rfl (n := 2) (l' := [xe, xm]) (by omega) rfl rfl (by simp [hxe, hxm, okC])
 obtain ⟨m7, hm7⟩ := qaj (behind (Dx.newRow m6 [.slice none 0 0, .slice none 0 0]) mS)
 rw [← hm7] at e2 e3 e4
 rw [qk] at e3
 have e2' : St m m7 [(m6.n, [xe, xm]), (m3.n, [ve, vm]), (m2.n, [r1, r2]), (m.n, [ed, md])] := e2
 have o67 : ∀ X, X < m6.n → m7.obj X = m6.obj X := fun X hX => by rw [e4 X (by omega), (Ext.row _ _).obj X hX]
 rw [← hxe] at x1
 rw [← hxm] at x2
 obtain ⟨bu3, -⟩ : (km [.slice none 0 0, .slice none 0 0] [(0, 1, xe), (1, 1, xm)] = some (.agg ⟨[xe, xm]⟩)) ∧ True := ⟨by rw [hxe, hxm]; rfl, trivial⟩
 have bu1 : km [.int .i64 0, .int .i64 0] [(0, 1, .int .i64 201)] = some (.agg ⟨[.int .i64 201, .int .i64 0]⟩) := rfl
 have bu2 : km [.int .i64 0, .int .i64 0] [(0, 1, .int .i64 202)] = some (.agg ⟨[.int .i64 202, .int .i64 0]⟩) := rfl
 have bs1 : ko 2 2 (rep 2 [.int .i64 0, .int .i64 0]) [(0, 2, .agg ⟨[.int .i64 201, .int .i64 0]⟩), (2, 2, .agg ⟨[.int .i64 202, .int .i64 0]⟩)] mB' = some (.slice (some ⟨mB'.n, 0, some 5⟩) 2 2, Dx.newRow mB' [.int .i64 201, .int .i64 0, .int .i64 202, .int .i64 0]) := rfl
 have bs2 : ko 1 2 (rep 2 [.int .i64 0]) [(0, 1, .int .i64 203), (1, 1, .int .i64 204)] mE' = some (.slice (some ⟨mE'.n, 0, some 3⟩) 2 2, Dx.newRow mE' [.int .i64 203, .int .i64 204]) := rfl
 simp [-Zq, bu1, bu2, bs1, bs2, t0, xA_aw, WP, hb, qf, c1, d1, ← hm4, l1, l4, a1, a2, a3, a4', a5, l15, l45, b1, b2, b3, b4', b5, l16, l46, x1, x2, ed4.len, md5.len, hed.len, hmd.len, bu3, e1, e0, ← hm7]
 have k24 : ∀ X, X < m3.n → m7.obj X = m4.obj X := fun X hX => by rw [o67 X (by omega), b7 X (by omega) (by omega), a7 X (by omega) (by omega)]
 have k27 : ∀ X, X < m2.n → m7.obj X = m2.obj X := fun X hX => by
  have hX3 : X < m3.n := qa1 hX E23.n
  rw [k24 X hX3, hm4, (Ext.row _ _).obj X hX3, E23.obj X hX]
 have n27 : m2.n ≤ m7.n := by have := E23.n; omega
 have vr : Rd m7 ve 2 edgeRow (es ++ [((201 : Int), (0 : Int)), (202, 0)]) := by
  rw [a12, ← qa6]
  exact zl (m := m7) (B := D1) (e := 2) (f := edgeRow) (l := es ++ [((201 : Int), (0 : Int)), (202, 0)]) (fun _ => rfl) (a13.congr (by rw [o67 D1 (by omega), b7 D1 a10 a11])) (by omega)
 have wr : Rd m7 vm 1 modeRow (ms ++ [(203 : Int), 204]) := by
  rw [b12, ← qa6]
  exact zl (m := m7) (B := D2) (e := 1) (f := modeRow) (l := ms ++ [(203 : Int), 204]) (fun _ => rfl) (b13.congr (by rw [o67 D2 (by omega)])) (by omega)
 have sx1 : Rd m7 xe 2 edgeRow es := by
  obtain ⟨a, n, c, q1, q2⟩ := vr.take (k := es.length) (.inr ⟨D1, 0, _, _, false, a12, DZ _⟩) (fun _ => rfl) (by simp)
  rw [x1] at q1
  cases q1
  simpa using q2
 have sx2 : Rd m7 xm 1 modeRow ms := by
  obtain ⟨a, n, c, q1, q2⟩ := wr.take (k := ms.length) (.inr ⟨D2, 0, _, _, false, b12, DZ _⟩) (fun _ => rfl) (by simp)
  rw [x2] at q1
  cases q1
  simpa using q2
 exact H _ m7 m.n m2.n m3.n m6.n r1 r2 ve vm xe xm e2' (hed.sees e2'.sees) (hmd.sees e2'.sees) (c3.congr n27 fun X hX => k27 X (c3.lt X hX)) (c4.congr n27 fun X hX => k27 X (c4.lt X hX)) sx1 sx2 (.inr ⟨D1, 0, _, _, false, hxe, by omega⟩) (.inr ⟨D2, 0, _, _, false, hxm, by omega⟩) vr wr (by simp) (by simp) (by simp) (by simp) (by simp)
end Go.Sx
namespace Go.Sx
open Go.Dx Go.Proofs
set_option maxRecDepth 10000
section
variable {B m' : M} {lo hi N nt : Nat}
theorem WV.ext {tsl osl fsl : Value} {loc : Nat → Nat} {va vo : Nat → Value} {A : Nat → List AR} {G : Nat → TS} {W : List Nat} (h : WV B lo hi N nt tsl osl fsl loc va vo A G W) (e : Ext B m') : WV m' lo hi N nt tsl osl fsl loc va vo A G W :=
 h.keep (S := fun _ => False) (fun _ _ h => h) ((SpJ.refl _ B).ext' e)
theorem GW.ext {x : GX} {evd rfd cod tov : Value} {sv : Nat → Value} (h : GW B lo hi N x evd rfd cod tov sv) (e : Ext B m') : GW m' lo hi N x evd rfd cod tov sv :=
 h.keep (S := fun _ => False) (fun _ _ h => h) ((SpJ.refl _ B).ext' e)
end
theorem Woven.wv {m0 m : M} {v : Value} {N nt : Nat} {S : Nat → TS} {W : List Nat} (h : Woven m0 m v N nt S W) : ∃ (tsl osl fsl : Value) (loc : Nat → Nat) (va vo : Nat → Value) (A : Nat → List AR), v = .tuple #[.agg #[iv N, tsl], .agg #[fsl, osl], iv 0] ∧ WV m m0.n m.n N nt tsl osl fsl loc va vo A S W := by
 obtain ⟨tsl, osl, fsl, loc, va, vo, A, e, h1, h2, h3, h4, h5, h6, h7, h8⟩ := h
 exact ⟨tsl, osl, fsl, loc, va, vo, A, e, h1, h2, h3, h4, fun X hX => ⟨h5 X hX, h1.lt X hX⟩, fun X hX => ⟨h6 X hX, h2.lt X hX⟩, fun X hX => ⟨h7 X hX, h3.lt X hX⟩, fun j hj => by
  obtain ⟨a1, a2, a3, a4, a5⟩ := h4 j hj
  obtain ⟨b1, b2, b3⟩ := h8 j hj
  exact ⟨fun X hX => ⟨b1 X hX, a3.lt X hX⟩, fun X hX => ⟨b2 X hX, a4.lt X hX⟩, fun r hr X op v hX => ⟨b3 r hr X op v hX, (a5 r hr X op v hX).1⟩⟩⟩
theorem Graphed.gw {m0 m : M} {v : Value} {N : Nat} {x : GX} (h : Graphed m0 m v N x) : ∃ (evd rfd cod tov : Value) (sv : Nat → Value), v = .tuple #[.agg ⟨qd N evd rfd cod⟩, tov, iv 0] ∧ GW m m0.n m.n N x evd rfd cod tov sv := by
 obtain ⟨evd, rfd, cod, tov, sv, e, h1, h2, h3, h4, h5, h6, h7, h8, h9, h10, h11, h12⟩ := h
 exact ⟨evd, rfd, cod, tov, sv, e, h1, h2, h3, h4, h5, h6, fun X hX => ⟨h7 X hX, h1.lt X hX⟩, fun X hX => ⟨h8 X hX, h2.lt X hX⟩, fun X hX => ⟨h9 X hX, h5.lt X hX⟩, fun X hX => ⟨h10 X hX, h3.lt X hX⟩, fun c hc X hX => ⟨h11 c hc X hX, by
  obtain ⟨l, hl⟩ : ∃ l, x.CO[c]? = some l := ⟨_, DW (by rw [h4]; exact hc)⟩
  exact (h6 c l hl).lt X hX⟩, h12⟩
theorem _root_.Go.Dx.St.call2 {m0 M : Dx.M} {σ : List (Nat × List Value)} (st : St m0 M σ) {M' : Dx.M} (e : Ext M M') {z l : List Value} (hz : z.length = l.length) (hl : ∀ v ∈ l, okC v = true) : ∃ M2, wh l.length (.pointer (some ⟨M'.n, 0, none⟩)) (.agg ⟨l⟩) (Dx.newRow M' z) = some (undef, M2) ∧ St m0 M2 ((M'.n, l) :: σ) ∧ Ext M' M2 ∧ M2.n = M'.n + 1 := by
 have st2 := (st.step e).row z
 obtain ⟨M2, d1, d2, d3, d4⟩ := st2.fill 0 rfl (n := l.length) (l' := l) hz rfl hl
 exact ⟨M2, d1, d2, ⟨by rw [d3, qk]; omega, fun B hB => by rw [d4 B (by omega)]; exact (Ext.row M' _).obj B hB, by rw [d2.ext.base, (st.step e).ext.base], by rw [d2.ext.log, (st.step e).ext.log]⟩, by rw [d3, qk]⟩
theorem keptC {m0 M : M} {σ : List (Nat × List Value)} {k P7 : Nat} {xe xm : Value} {es : List (Int × Int)} {ms : List Int} (st : St m0 M σ) (hk : σ[k]? = some (P7, [xe, xm])) (he16 : es.length * 16 ≤ most) (hm8 : ms.length * 8 ≤ most) (x1 : Rd M xe 2 edgeRow es) (x2 : Rd M xm 1 modeRow ms) (hs1 : Sp 2 xe) (hs2 : Sp 1 xm)
  {t : Tm} (t7 : Tm.get 7 t = .pointer (some ⟨P7, 0, none⟩)) {kn kr : K} {ke : Nat → K} {Q : Option Out → Prop}
  (H : ∀ t' M' a1 a2 b1 b2 P8 P9, St m0 M' ((P9, [b1, b2]) :: (P8, [a1, a2]) :: σ) → Ext M M' → Rd M' a1 2 edgeRow (zo (es, ms)).1 → Rd M' a2 1 modeRow (zo (es, ms)).2 → Rd M' b1 2 edgeRow (zo (es, ms)).1 → Rd M' b2 1 modeRow (zo (es, ms)).2 → (∀ X, blk a1 = some X → In M.n P8 X) → (∀ X, blk a2 = some X → In M.n P8 X) → (∀ X, blk b1 = some X → P8 < X) → (∀ X, blk b2 = some X → P8 < X) →
   M.n ≤ P8 → P8 < P9 → P9 < M'.n → (∀ i, i < 8 → Tm.get i t' = Tm.get i t) → Tm.get 8 t' = .pointer (some ⟨P8, 0, none⟩) → Tm.get 9 t' = .pointer (some ⟨P9, 0, none⟩) → Q (bh (xA 9) kn ke kr t' M')) : Q (bi (xA 9) kn ke kr t M) := by
 have l7 : loads M ⟨P7, 0, none⟩ 2 = some [xe, xm] := (st.get k hk).2.2.loads (n := 2) (by simp)
 obtain ⟨v1, M1, a1, a2, c1, c2, rfl, a3, a4, a5, a6⟩ := JI 5 xe xm es ms M st.sees.self.base he16 hm8 x1 x2 hs1 hs2
 obtain ⟨M2, b1, b2, b3, b4⟩ := st.call2 a2 (z := [.slice none 0 0, .slice none 0 0]) (l := [c1, c2]) rfl (by simp [a3.okV, a4.okV])
 have E02 := a2.trans b3
 have S02 := st.sees.self.ext E02
 have l72 : loads M2 ⟨P7, 0, none⟩ 2 = some [xe, xm] := (b2.get (k + 1) (b := P7) (l := [xe, xm]) (by simpa using hk)).2.2.loads (n := 2) (by simp)
 obtain ⟨v3, M3, e1, e2, c3, c4, rfl, e3, e4, e5, e6⟩ := JI 5 xe xm es ms M2 S02.base he16 hm8 (x1.sees S02) (x2.sees S02) hs1 hs2
 obtain ⟨M4, f1, f2, f3, f4⟩ := b2.call2 e2 (z := [.slice none 0 0, .slice none 0 0]) (l := [c3, c4]) rfl (by simp [e3.okV, e4.okV])
 have b1' : wh 2 (.pointer (some ⟨M1.n, 0, none⟩)) (.agg ⟨[c1, c2]⟩) (Dx.newRow M1 [.slice none 0 0, .slice none 0 0]) = some (undef, M2) := b1
 have f1' : wh 2 (.pointer (some ⟨M3.n, 0, none⟩)) (.agg ⟨[c3, c4]⟩) (Dx.newRow M3 [.slice none 0 0, .slice none 0 0]) = some (undef, M4) := f1
 have E24 := e2.trans f3
 have S14 : Sees M1 M4 := ((st.step a2).sees.self.ext b3).ext E24
 have S34 : Sees M3 M4 := (b2.step e2).sees.self.ext f3
 have hn3 := e2.n
 have hn1 := a2.n
 simp [-Zp, t7, l7, qf, WP, a1, b1', l72, e1, f1']
 refine H _ M4 c1 c2 c3 c4 M1.n M3.n f2 (E02.trans E24) (a3.sees S14) (a4.sees S14) (e3.sees S34) (e4.sees S34) (fun X hX => ⟨a5 X hX, a3.lt X hX⟩) (fun X hX => ⟨a6 X hX, a4.lt X hX⟩) (fun X hX => by have := e5 X hX; omega) (fun X hX => by have := e6 X hX; omega) hn1 (by omega) (by omega) (fun i hi => ?_) (by simp) (by simp)
 repeat (rw [kz, if_neg (by omega)])
def WO (B : M) (lo hi : Nat) (es : List (Int × Int)) (ms : List Int) (TH CE VA WR : Nat → Nat) (l10 l11 : List Value) : Prop := (wo es ms).2 = 0 → ∃ (tsl osl fsl : Value) (loc : Nat → Nat) (va vo : Nat → Value) (A : Nat → List AR), l10 = [iv (es.length - cnt es : Nat), tsl] ∧ l11 = [fsl, osl] ∧
 WV B lo hi (es.length - cnt es) (cnt es) tsl osl fsl loc va vo A (fun j => ((qt es (qN es)).foldl (ki es ms TH CE VA) TS0 j).fin) ((List.range (es.length - cnt es)).map WR)
theorem WO.ext {B m' : M} {lo hi : Nat} {es : List (Int × Int)} {ms : List Int} {TH CE VA WR : Nat → Nat} {l10 l11 : List Value} (h : WO B lo hi es ms TH CE VA WR l10 l11) (e : Ext B m') : WO m' lo hi es ms TH CE VA WR l10 l11 := fun hz => by
 obtain ⟨tsl, osl, fsl, loc, va, vo, A, h1, h2, h3⟩ := h hz
 exact ⟨tsl, osl, fsl, loc, va, vo, A, h1, h2, h3.ext e⟩
theorem JN (n : Nat) (ed md : Value) (es : List (Int × Int)) (ms : List Int) (m : M) (hm : m.base ≤ m.n) (hl : es.length < 9223372036854775807) (hed : Rd m ed 2 edgeRow es) (hmd : Rd m md 1 modeRow ms) (ch : Nat → List Nat)
  (hch : (wo es ms).2 = 0 → ∀ c, c < es.length - cnt es → wW es (zW es (es.length - cnt es) (qt es (qN es))).ce (qN es) c (ch c)) (TH CE VA WR : Nat → Nat)
  (hlaw : (wo es ms).2 = 0 → vv es (kV es ch (List.replicate es.length 0) (es.length - cnt es)) TH CE VA WR) :
  ∃ m' x1 x2 y1 y2, (Go.Dx.ex Try.prog (n + 9)).f 12 [.agg #[ed, md]] m = some (.tuple #[.agg #[x1, x2], .agg #[y1, y2], iv (wo es ms).2], m') ∧ Ext m m' ∧ okC x1 = true ∧ okC x2 = true ∧ okC y1 = true ∧ okC y2 = true ∧ WO m' m.n m'.n es ms TH CE VA WR [x1, x2] [y1, y2] := by
 obtain ⟨v1, m1, p1, p2, pQ⟩ := Br n ed md es ms m hm hl hed hmd ch hch TH CE VA WR hlaw
 rcases pQ with ⟨hz, rfl⟩ | ⟨hz, hw⟩
 ·exact ⟨m1, _, _, _, _, p1, p2, rfl, rfl, rfl, rfl, fun h => absurd h hz⟩
 ·obtain ⟨tsl, osl, fsl, loc, va, vo, A, rfl, hq⟩ := hw.wv
  rw [hz]
  exact ⟨m1, _, _, _, _, p1, p2, rfl, hq.ts.okV, hq.fs.okV, hq.os.okV, fun _ => ⟨tsl, osl, fsl, loc, va, vo, A, rfl, rfl, hq⟩⟩
theorem _root_.Go.Dx.St.call22 {m0 M : Dx.M} {σ : List (Nat × List Value)} (st : St m0 M σ) {M' : Dx.M} (e : Ext M M') {z1 z2 l1 l2 : List Value} (hz1 : z1.length = l1.length) (hz2 : z2.length = l2.length) (hl1 : ∀ v ∈ l1, okC v = true) (hl2 : ∀ v ∈ l2, okC v = true) :
  ∃ M2 M3, wh l1.length (.pointer (some ⟨M'.n, 0, none⟩)) (.agg ⟨l1⟩) (Dx.newRow (Dx.newRow M' z1) z2) = some (undef, M2) ∧ wh l2.length (.pointer (some ⟨M'.n + 1, 0, none⟩)) (.agg ⟨l2⟩) M2 = some (undef, M3) ∧ St m0 M3 ((M'.n + 1, l2) :: (M'.n, l1) :: σ) ∧ Ext M' M3 ∧ M3.n = M'.n + 2 := by
 have st2 := ((st.step e).row z1).row z2
 rw [qk] at st2
 obtain ⟨M2, d1, d2, d3, d4⟩ := st2.fill 1 rfl (n := l1.length) (l' := l1) hz1 rfl hl1
 obtain ⟨M3, e1, e2, e3, e4⟩ := d2.fill 0 rfl (n := l2.length) (l' := l2) hz2 rfl hl2
 exact ⟨M2, M3, d1, e1, e2, ⟨by rw [e3, d3, qk, qk]; omega, fun B hB => by rw [e4 B (by omega), d4 B (by omega)]; exact ((Ext.row M' z1).trans (Ext.row _ z2)).obj B hB, by rw [e2.ext.base, (st.step e).ext.base], by rw [e2.ext.log, (st.step e).ext.log]⟩, by rw [e3, d3, qk, qk]⟩
theorem keptD {m0 M : M} {σ : List (Nat × List Value)} {k P7 : Nat} {xe xm : Value} {es : List (Int × Int)} {ms : List Int} (st : St m0 M σ) (hk : σ[k]? = some (P7, [xe, xm])) (hl : es.length < 9223372036854775807) (x1 : Rd M xe 2 edgeRow es) (x2 : Rd M xm 1 modeRow ms) (ch : Nat → List Nat)
  (hch : (wo es ms).2 = 0 → ∀ c, c < es.length - cnt es → wW es (zW es (es.length - cnt es) (qt es (qN es))).ce (qN es) c (ch c)) {TH CE VA WR : Nat → Nat}
  (hlaw : (wo es ms).2 = 0 → vv es (kV es ch (List.replicate es.length 0) (es.length - cnt es)) TH CE VA WR)
  {t : Tm} (t7 : Tm.get 7 t = .pointer (some ⟨P7, 0, none⟩)) {kn kr : K} {ke : Nat → K} {Q : Option Out → Prop}
  (H : ∀ t' M' u1 u2 u3 u4 w1 w2 w3 w4 p1 q0 q1, St m0 M' ((q1 + 1, [w3, w4]) :: (q1, [w1, w2]) :: (p1 + 1, [u3, u4]) :: (p1, [u1, u2]) :: σ) → Ext M M' → WO M' M.n p1 es ms TH CE VA WR [u1, u2] [u3, u4] → WO M' q0 q1 es ms TH CE VA WR [w1, w2] [w3, w4] →
   M.n ≤ p1 → p1 + 1 < q0 → q0 ≤ q1 → q1 + 1 < M'.n → (∀ i, i < 10 → Tm.get i t' = Tm.get i t) → Tm.get 10 t' = .pointer (some ⟨p1, 0, none⟩) → Tm.get 11 t' = .pointer (some ⟨p1 + 1, 0, none⟩) → Tm.get 12 t' = iv (wo es ms).2 → Tm.get 13 t' = .pointer (some ⟨q1, 0, none⟩) → Tm.get 14 t' = .pointer (some ⟨q1 + 1, 0, none⟩) → Tm.get 15 t' = iv (wo es ms).2 →
   Q (bf (xA 9) kn ke kr t' M')) : Q (bh (xA 9) kn ke kr t M) := by
 have l7 : loads M ⟨P7, 0, none⟩ 2 = some [xe, xm] := (st.get k hk).2.2.loads (n := 2) (by simp)
 obtain ⟨M1, u1, u2, u3, u4, a1, a2, a3, a4, a5, a6, a7⟩ := JN 0 xe xm es ms M st.sees.self.base hl x1 x2 ch hch TH CE VA WR hlaw
 obtain ⟨Ma, M2, b1, b2, b3, b4, b5⟩ := st.call22 a2 (z1 := [.int .i64 0, .slice none 0 0]) (z2 := [.slice none 0 0, .slice none 0 0]) (l1 := [u1, u2]) (l2 := [u3, u4]) rfl rfl (by simp [a3, a4]) (by simp [a5, a6])
 have E02 := a2.trans b4
 have S02 := st.sees.self.ext E02
 have l72 : loads M2 ⟨P7, 0, none⟩ 2 = some [xe, xm] := (b3.get (k + 2) (b := P7) (l := [xe, xm]) (by simpa using hk)).2.2.loads (n := 2) (by simp)
 obtain ⟨M3, w1, w2, w3, w4, c1, c2, c3, c4, c5, c6, c7⟩ := JN 0 xe xm es ms M2 S02.base hl (x1.sees S02) (x2.sees S02) ch hch TH CE VA WR hlaw
 obtain ⟨Mb, M4, d1, d2, d3, d4, d5⟩ := b3.call22 c2 (z1 := [.int .i64 0, .slice none 0 0]) (z2 := [.slice none 0 0, .slice none 0 0]) (l1 := [w1, w2]) (l2 := [w3, w4]) rfl rfl (by simp [c3, c4]) (by simp [c5, c6])
 have b1' : wh 2 (.pointer (some ⟨M1.n, 0, none⟩)) (.agg ⟨[u1, u2]⟩) (Dx.newRow (Dx.newRow M1 [.int .i64 0, .slice none 0 0]) [.slice none 0 0, .slice none 0 0]) = some (undef, Ma) := b1
 have b2' : wh 2 (.pointer (some ⟨M1.n + 1, 0, none⟩)) (.agg ⟨[u3, u4]⟩) Ma = some (undef, M2) := b2
 have d1' : wh 2 (.pointer (some ⟨M3.n, 0, none⟩)) (.agg ⟨[w1, w2]⟩) (Dx.newRow (Dx.newRow M3 [.int .i64 0, .slice none 0 0]) [.slice none 0 0, .slice none 0 0]) = some (undef, Mb) := d1
 have d2' : wh 2 (.pointer (some ⟨M3.n + 1, 0, none⟩)) (.agg ⟨[w3, w4]⟩) Mb = some (undef, M4) := d2
 have hn1 := a2.n
 have hn3 := c2.n
 obtain ⟨ee, hee⟩ := qaj ((wo es ms).2)
 simp only [← hee] at H a1 c1
 simp [-Zo, t7, l7, qf, WP, a1, b1', b2', l72, c1, d1', d2']
 refine H _ M4 u1 u2 u3 u4 w1 w2 w3 w4 M1.n M2.n M3.n d3 (E02.trans (c2.trans d4)) (a7.ext (b4.trans (c2.trans d4))) (c7.ext d4) hn1 (by omega) hn3 (by omega) (fun i hi => ?_) (by simp) (by simp) (by simp) (by simp) (by simp) (by simp)
 repeat (rw [kz, if_neg (by omega)])
end Go.Sx
namespace Go.Sx
open Go.Dx Go.Proofs
set_option maxRecDepth 10000
def GO (B : M) (lo hi : Nat) (es : List (Int × Int)) (ms : List Int) (TH CE VA WR : Nat → Nat) (l16 : List Value) (tov : Value) : Prop := (wo es ms).2 = 0 → ∃ (evd rfd cod : Value) (sv : Nat → Value), l16 = qd (es.length - cnt es) evd rfd cod ∧
 GW B lo hi (es.length - cnt es) (xk es ms TH CE VA WR (es.length - cnt es) (qN es)) evd rfd cod tov sv
theorem GO.ext {B m' : M} {lo hi : Nat} {es : List (Int × Int)} {ms : List Int} {TH CE VA WR : Nat → Nat} {l16 : List Value} {tov : Value} (h : GO B lo hi es ms TH CE VA WR l16 tov) (e : Ext B m') : GO m' lo hi es ms TH CE VA WR l16 tov := fun hz => by
 obtain ⟨evd, rfd, cod, sv, h1, h3⟩ := h hz
 exact ⟨evd, rfd, cod, sv, h1, h3.ext e⟩
theorem gok {N : Nat} {ev rf co : Value} (h1 : okC ev = true) (h2 : okC rf = true) (h3 : okC co = true) : ∀ v ∈ qd N ev rf co, okC v = true := by
 intro v hv
 simp only [qd, List.mem_cons, List.not_mem_nil, or_false] at hv
 rcases hv with e | e | e | e | e | e | e | e <;> rw [e] <;> first | rfl | assumption
theorem JJ (n : Nat) (ed md : Value) (es : List (Int × Int)) (ms : List Int) (m : M) (hm : m.base ≤ m.n) (hl : es.length < 9223372036854775807) (hed : Rd m ed 2 edgeRow es) (hmd : Rd m md 1 modeRow ms) (ch : Nat → List Nat)
  (hch : (wo es ms).2 = 0 → ∀ c, c < es.length - cnt es → wW es (zW es (es.length - cnt es) (qt es (qN es))).ce (qN es) c (ch c)) (TH CE VA WR : Nat → Nat)
  (hlaw : (wo es ms).2 = 0 → vv es (kV es ch (List.replicate es.length 0) (es.length - cnt es)) TH CE VA WR) (hlaw2 : (wo es ms).2 = 0 → (∀ i, i < es.length → CE i < es.length - cnt es ∧ VA i ≤ 2) ∧ ∀ x, x < es.length - cnt es → WR x ≤ 2) :
  ∃ m' N0 ev rf co tov, (Go.Dx.ex Try.prog (n + 9)).f 23 [.agg #[ed, md]] m = some (.tuple #[.agg ⟨qd N0 ev rf co⟩, tov, iv (wo es ms).2], m') ∧ Ext m m' ∧ (∀ v ∈ qd N0 ev rf co, okC v = true) ∧ GO m' m.n m'.n es ms TH CE VA WR (qd N0 ev rf co) tov := by
 obtain ⟨v1, m1, p1, p2, pQ⟩ := Bo n ed md es ms m hm hl hed hmd ch hch TH CE VA WR hlaw hlaw2
 rcases pQ with ⟨hz, rfl⟩ | ⟨hz, hw⟩
 ·exact ⟨m1, 0, .slice none 0 0, .slice none 0 0, .slice none 0 0, _, p1, p2, gok rfl rfl rfl, fun h => absurd h hz⟩
 ·obtain ⟨evd, rfd, cod, tov, sv, rfl, hq⟩ := hw.gw
  rw [hz]
  exact ⟨m1, _, _, _, _, _, p1, p2, gok hq.ev.okV hq.rf.okV hq.co.okV, fun _ => ⟨evd, rfd, cod, sv, rfl, hq⟩⟩
theorem keptE {m0 M : M} {σ : List (Nat × List Value)} {k P7 : Nat} {xe xm : Value} {es : List (Int × Int)} {ms : List Int} (st : St m0 M σ) (hk : σ[k]? = some (P7, [xe, xm])) (hl : es.length < 9223372036854775807) (x1 : Rd M xe 2 edgeRow es) (x2 : Rd M xm 1 modeRow ms) (ch : Nat → List Nat)
  (hch : (wo es ms).2 = 0 → ∀ c, c < es.length - cnt es → wW es (zW es (es.length - cnt es) (qt es (qN es))).ce (qN es) c (ch c)) {TH CE VA WR : Nat → Nat}
  (hlaw : (wo es ms).2 = 0 → vv es (kV es ch (List.replicate es.length 0) (es.length - cnt es)) TH CE VA WR) (hlaw2 : (wo es ms).2 = 0 → (∀ i, i < es.length → CE i < es.length - cnt es ∧ VA i ≤ 2) ∧ ∀ x, x < es.length - cnt es → WR x ≤ 2)
  {t : Tm} (t7 : Tm.get 7 t = .pointer (some ⟨P7, 0, none⟩)) {kn kr : K} {ke : Nat → K} {Q : Option Out → Prop}
  (H : ∀ t' M' N0 ev rf co tov N1 ev1 rf1 co1 tov1 p1 q0 q1, St m0 M' ((q1, qd N1 ev1 rf1 co1) :: (p1, qd N0 ev rf co) :: σ) → Ext M M' → GO M' M.n p1 es ms TH CE VA WR (qd N0 ev rf co) tov → GO M' q0 q1 es ms TH CE VA WR (qd N1 ev1 rf1 co1) tov1 →
   M.n ≤ p1 → p1 < q0 → q0 ≤ q1 → q1 < M'.n → (∀ i, i < 16 → Tm.get i t' = Tm.get i t) → Tm.get 16 t' = .pointer (some ⟨p1, 0, none⟩) → Tm.get 17 t' = tov → Tm.get 19 t' = .pointer (some ⟨q1, 0, none⟩) → Tm.get 20 t' = tov1 →
   Q (be (xA 9) kn ke kr t' M')) : Q (bf (xA 9) kn ke kr t M) := by
 have l7 : loads M ⟨P7, 0, none⟩ 2 = some [xe, xm] := (st.get k hk).2.2.loads (n := 2) (by simp)
 obtain ⟨M1, N0, ev, rf, co, tov, a1, a2, a3, a4⟩ := JJ 0 xe xm es ms M st.sees.self.base hl x1 x2 ch hch TH CE VA WR hlaw hlaw2
 obtain ⟨M2, b1, b3, b4, b5⟩ := st.call2 a2 (z := kF) (l := qd N0 ev rf co) rfl a3
 have E02 := a2.trans b4
 have S02 := st.sees.self.ext E02
 have l72 : loads M2 ⟨P7, 0, none⟩ 2 = some [xe, xm] := (b3.get (k + 1) (b := P7) (l := [xe, xm]) (by simpa using hk)).2.2.loads (n := 2) (by simp)
 obtain ⟨M3, N1, ev1, rf1, co1, tov1, c1, c2, c3, c4⟩ := JJ 0 xe xm es ms M2 S02.base hl (x1.sees S02) (x2.sees S02) ch hch TH CE VA WR hlaw hlaw2
 obtain ⟨M4, d1, d3, d4, d5⟩ := b3.call2 c2 (z := kF) (l := qd N1 ev1 rf1 co1) rfl c3
 have b1' : wh 8 (.pointer (some ⟨M1.n, 0, none⟩)) (.agg ⟨qd N0 ev rf co⟩) (Dx.newRow M1 [.int .i64 0, .slice none 0 0, .slice none 0 0, .slice none 0 0, .slice none 0 0, .slice none 0 0, .slice none 0 0, .slice none 0 0]) = some (undef, M2) := b1
 have d1' : wh 8 (.pointer (some ⟨M3.n, 0, none⟩)) (.agg ⟨qd N1 ev1 rf1 co1⟩) (Dx.newRow M3 [.int .i64 0, .slice none 0 0, .slice none 0 0, .slice none 0 0, .slice none 0 0, .slice none 0 0, .slice none 0 0, .slice none 0 0]) = some (undef, M4) := d1
 have hn1 := a2.n
 have hn3 := c2.n
 obtain ⟨ee, hee⟩ := qaj ((wo es ms).2)
 simp only [← hee] at a1 c1
 simp [-Zn, t7, l7, qf, WP, a1, b1', l72, c1, d1']
 refine H _ M4 N0 ev rf co tov N1 ev1 rf1 co1 tov1 M1.n M2.n M3.n d3 (E02.trans (c2.trans d4)) (a4.ext (b4.trans (c2.trans d4))) (c4.ext d4) hn1 (by omega) hn3 (by omega) (fun i hi => ?_) (by simp) (by simp) (by simp) (by simp)
 repeat (rw [kz, if_neg (by omega)])
end Go.Sx
namespace Go.Sx
open Go.Dx Go.Proofs
set_option maxRecDepth 10000
theorem keptF {m0 M : M} {σ : List (Nat × List Value)} {P3 P4 P7 : Nat} {r1 r2 ve vm xe xm : Value} {es : List (Int × Int)} {ms : List Int} {e : Nat} (st : St m0 M σ) (h3 : (P3, [r1, r2]) ∈ σ) (h4 : (P4, [ve, vm]) ∈ σ) (h7 : (P7, [xe, xm]) ∈ σ) (he16 : es.length * 16 ≤ most) (hm8 : ms.length * 8 ≤ most)
  (q1 : Rd M r1 2 edgeRow es) (q2 : Rd M r2 1 modeRow ms) (x1 : Rd M xe 2 edgeRow es) (x2 : Rd M xm 1 modeRow ms) (vr : Rd M ve 2 edgeRow (es ++ [(201, 0), (202, 0)])) (wr : Rd M vm 1 modeRow (ms ++ [203, 204]))
  {t : Tm} (t3 : Tm.get 3 t = .pointer (some ⟨P3, 0, none⟩)) (t4 : Tm.get 4 t = .pointer (some ⟨P4, 0, none⟩)) (t5 : Tm.get 5 t = iv es.length) (t6 : Tm.get 6 t = iv ms.length) (t7 : Tm.get 7 t = .pointer (some ⟨P7, 0, none⟩)) (t12 : Tm.get 12 t = iv e) (t15 : Tm.get 15 t = iv e) {kn kr : K} {ke : Nat → K} {Q : Option Out → Prop}
  (H : ∀ t' M', (∀ i, i < 22 → Tm.get i t' = Tm.get i t) → Ext M M' → Q (bd (xA 9) kn ke kr t' M')) : Q (be (xA 9) kn ke kr t M) := by
 have hle : es.length < 4611686018427387904 := by unfold most at he16; omega
 have hlm : ms.length < 4611686018427387904 := by unfold most at hm8; omega
 have S := st.sees.self
 have l4 : ∀ o s, load1 M ⟨P4, o, s⟩ = [ve, vm][o]? := fun o s => (st.arr _ h4).2.2.load1 o s
 have ⟨i1, i2, i3⟩ := vr.at (i := es.length) (r := (201, 0)) (by simp)
 have ⟨j1, j2, j3⟩ := vr.at (i := es.length + 1) (r := (202, 0)) (by simp)
 have ⟨k1, k2⟩ := Rd.at1 (g := fun (v : Int) => Value.int .i64 v) (i := ms.length) (r := (203 : Int)) wr (by simp)
 have ⟨n1, n2⟩ := Rd.at1 (g := fun (v : Int) => Value.int .i64 v) (i := ms.length + 1) (r := (204 : Int)) wr (by simp)
 have i3' : load1 M ⟨(adr 2 ve es.length).block, (adr 2 ve es.length).off, (adr 2 ve es.length).spot⟩ = some (.int .i64 201) := i3 M 0 _ S (by simp [edgeRow])
 have j3' : load1 M ⟨(adr 2 ve (es.length + 1)).block, (adr 2 ve (es.length + 1)).off, (adr 2 ve (es.length + 1)).spot⟩ = some (.int .i64 202) := j3 M 0 _ S (by simp [edgeRow])
 have i3n : load1 M ⟨(adr 2 ve es.length).block, (adr 2 ve es.length).off, none⟩ = some (.int .i64 201) := i3 M 0 _ S (by simp [edgeRow])
 have j3n : load1 M ⟨(adr 2 ve (es.length + 1)).block, (adr 2 ve (es.length + 1)).off, none⟩ = some (.int .i64 202) := j3 M 0 _ S (by simp [edgeRow])
 have k2' := k2 M S
 have n2' := n2 M S
 have j1' : wX 2 ve (.int .i64 ((es.length : Int) + 1)) = some (.pointer (some (adr 2 ve (es.length + 1)))) := j1
 have n1' : wX 1 vm (.int .i64 ((ms.length : Int) + 1)) = some (.pointer (some (adr 1 vm (ms.length + 1)))) := n1
 have w1 := qJ (i := es.length) (by omega)
 have w2 := qJ (i := ms.length) (by omega)
 have SA := qA S
 obtain ⟨v, p, c1, c2, c3, y1, y2, rfl, c4, c5⟩ := zg (JL 8 xe xm es ms (qi M) SA.base he16 hm8 (x1.sees SA) (x2.sees SA))
 obtain ⟨M1, hM1⟩ := qaj (behind M p)
 rw [← hM1] at c3
 have S1 : Sees M M1 := S.ext c3
 have c4' : Rd M1 y1 2 edgeRow es := by rw [hM1]; exact c4.behind
 have c5' : Rd M1 y2 1 modeRow ms := by rw [hM1]; exact c5.behind
 have st1 := st.step c3
 have l7 : loads M ⟨P7, 0, none⟩ 2 = some [xe, xm] := (st.arr _ h7).2.2.loads (n := 2) (by simp)
 have l3 : loads M1 ⟨P3, 0, none⟩ 2 = some [r1, r2] := (st1.arr _ h3).2.2.loads (n := 2) (by simp)
 have S1A := qA S1.self
 obtain ⟨v2, p2, d1, d2, d3, rfl⟩ := zg (bJ 8 y1 y2 r1 r2 es ms (qi M1) S1A.base hle hlm (c4'.sees S1A) (c5'.sees S1A) (q1.sees (S1.trans S1A)) (q2.sees (S1.trans S1A)))
 obtain ⟨M2, hM2⟩ := qaj (behind M1 p2)
 rw [← hM2] at d3
 simp (maxDischargeDepth := 30) [-Zm, t3, t4, t5, t6, t7, t12, t15, l4, i1, j1, j1', k1, n1, n1', i3', j3', i3n, j3n, k2', n2', w1, w2, l7, qf, WP, c1, c2, ← hM1, l3, d1, d2, ← hM2]
 refine H _ M2 (fun i hi => ?_) (c3.trans d3)
 repeat (rw [kz, if_neg (by omega)])
end Go.Sx
namespace Go.Sx
open Go.Dx Go.Proofs
set_option maxRecDepth 10000
set_option maxHeartbeats 1000000 in
theorem Kb (ed md : Value) (es : List (Int × Int)) (ms : List Int) (m : M) (hm : m.base ≤ m.n) (he16' : es.length * 16 + 4096 ≤ most) (hm8' : ms.length * 8 + 4096 ≤ most) (hed : Rd m ed 2 edgeRow es) (hmd : Rd m md 1 modeRow ms) (ch : Nat → List Nat)
  (hch : (wo es ms).2 = 0 → ∀ c, c < es.length - cnt es → wW es (zW es (es.length - cnt es) (qt es (qN es))).ce (qN es) c (ch c)) (V : Nat → Nat) (hV : (wo es ms).2 = 0 → ∀ i, i < es.length → qu es i = true → ∃ d, jI es i d ∧ V i = 1 + bw es i d)
  (hlaw : (wo es ms).2 = 0 → vv es (kV es ch (List.replicate es.length 0) (es.length - cnt es)) (qq es (qN es) false) (qq es (qN es) true) (qU es V) (wrR es (qN es)))
  (hlaw2 : (wo es ms).2 = 0 → (∀ i, i < es.length → qq es (qN es) true i < es.length - cnt es ∧ qU es V i ≤ 2) ∧ ∀ x, x < es.length - cnt es → wrR es (qN es) x ≤ 2)
  (hX : (wo es ms).2 = 0 → xk es ms (qq es (qN es) false) (qq es (qN es) true) (qU es V) (wrR es (qN es)) (es.length - cnt es) (qN es) = yo es ms (qN es) (qU es V)) :
  CallV (Ex.step Try.prog (xA 9)) 8 [.agg #[ed, md]] m (.bool true) := by
 have he16 : es.length * 16 ≤ most := by omega
 have hm8 : ms.length * 8 ≤ most := by omega
 have hl : es.length < 9223372036854775807 := by unfold most at he16; omega
 refine step_ret da1_ok (by simp) ?_
 refine keptB hm he16' hm8' hed hmd (by simp) fun t1 m1 P1 P3 P4 P7 r1 r2 ve vm xe xm st1 ed1 md1 q1 q2 x1 x2 s1 s2 vr wr t3 t4 t5 t6 t7 => ?_
 refine keptC st1 (k := 0) rfl he16 hm8 x1 x2 s1 s2 t7 fun t2 m2 a1 a2 b1 b2 P8 P9 st2 E12 ra1 ra2 rb1 rb2 ka1 ka2 kb1 kb2 o1 o2 o3 T2 t8 t9 => ?_
 have S12 := st1.sees.self.ext E12
 refine keptD st2 (k := 2) rfl hl (x1.sees S12) (x2.sees S12) ch hch hlaw (by rw [T2 7 (by omega)]; exact t7) fun t3' m3 u1 u2 u3 u4 w1 w2 w3 w4 p1 p2 p3 st3 E23 W1 W2 o4 o5 o6 o7 T3 t10 t11 t12 t13 t14 t15 => ?_
 have S13 := S12.ext E23
 refine keptE st3 (k := 6) rfl hl (x1.sees S13) (x2.sees S13) ch hch hlaw hlaw2 (by rw [T3 7 (by omega), T2 7 (by omega)]; exact t7) fun t4' m4 N0 ev rf co tov N1 ev1 rf1 co1 tov1 g1 g2 g3 st4 E34 G1 G2 o8 o9 o10 o11 T4 t16 t17 t19 t20 => ?_
 have S14 := S13.ext E34
 have E24 := E23.trans E34
 have S24 := st2.sees.self.ext E24
 have g3' : ∀ i, i < 10 → i < 8 → Tm.get i t4' = Tm.get i t1 := fun i h1 h2 => by rw [T4 i (by omega), T3 i h1, T2 i h2]
 refine keptF st4 (e := (wo es ms).2) (P3 := P3) (P4 := P4) (P7 := P7) (by simp) (by simp) (by simp) he16 hm8 (q1.sees S14) (q2.sees S14) (x1.sees S14) (x2.sees S14) (vr.sees S14) (wr.sees S14) (by rw [g3' 3 (by omega) (by omega)]; exact t3) (by rw [g3' 4 (by omega) (by omega)]; exact t4) (by rw [g3' 5 (by omega) (by omega)]; exact t5) (by rw [g3' 6 (by omega) (by omega)]; exact t6) (by rw [g3' 7 (by omega) (by omega)]; exact t7)
  (by rw [T4 12 (by omega)]; exact t12) (by rw [T4 15 (by omega)]; exact t15) fun t5' B T5 E45 => ?_
 have st5 := st4.step E45
 have SB : Sees m1 B := S14.ext E45
 have E25 := E24.trans E45
 have S25 : Sees m2 B := S24.ext E45
 have hB : B.base ≤ B.n := st5.sees.self.base
 obtain ⟨TV, hTV⟩ : ∃ TV : Nat → Value, TV = fun i => Tm.get i t5' := ⟨_, rfl⟩
 have hKT : KT t5' TV := fun i _ => by rw [hTV]
 have tv : ∀ i, i < 22 → TV i = Tm.get i t4' := fun i hi => by rw [hTV]; exact T5 i hi
 have tv1 : ∀ i, i < 8 → TV i = Tm.get i t1 := fun i hi => by rw [tv i (by omega), g3' i (by omega) hi]
 obtain ⟨S, hS⟩ : ∃ S : Nat → Prop, S = fun X => In m1.n P8 X ∨ In m2.n p1 X ∨ In m3.n g1 X := ⟨_, rfl⟩
 have hbase : B.base = m.base := st5.ext.base
 have n01 : m.n ≤ m1.n := st1.ext.n
 have n12 : m1.n ≤ m2.n := E12.n
 have n23 : m2.n ≤ m3.n := E23.n
 have n34 : m3.n ≤ m4.n := E34.n
 have n45 : m4.n ≤ B.n := E45.n
 have nP3 : P3 < m1.n := (st1.get 2 rfl).2.1
 have nP7 : P7 < m1.n := (st1.get 0 rfl).2.1
 have out : ∀ X, (X < m1.n ∨ (P8 ≤ X ∧ X < m2.n) ∨ (p1 ≤ X ∧ X < m3.n) ∨ g1 ≤ X) → ¬ S X := by
  intro X hX h
  rw [hS] at h
  simp only [In] at h
  omega
 have inS : ∀ X, (In m1.n P8 X ∨ In m2.n p1 X ∨ In m3.n g1 X) → S X ∧ B.base ≤ X := by
  intro X h
  refine ⟨by rw [hS]; exact h, ?_⟩
  simp only [In] at h
  omega
 have box : ∀ (k : Nat) (P : Nat) (l : List Value), _ → (P < m1.n ∨ (P8 ≤ P ∧ P < m2.n) ∨ (p1 ≤ P ∧ P < m3.n) ∨ g1 ≤ P) → Box S B P l := fun k P l hk hP => ⟨(st5.get k hk).2.1, out P hP, (st5.get k hk).2.2⟩
 have bP3 := box 10 P3 [r1, r2] rfl (by omega)
 have bP7 := box 8 P7 [xe, xm] rfl (by omega)
 have bP8 := box 7 P8 [a1, a2] rfl (by omega)
 have bP9 := box 6 P9 [b1, b2] rfl (by omega)
 have b10 := box 5 p1 [u1, u2] rfl (by omega)
 have b11 := box 4 (p1 + 1) [u3, u4] rfl (by omega)
 have b13 := box 3 p3 [w1, w2] rfl (by omega)
 have b14 := box 2 (p3 + 1) [w3, w4] rfl (by omega)
 have b16 := box 1 g1 (qd N0 ev rf co) rfl (by omega)
 have b19 := box 0 g3 (qd N1 ev1 rf1 co1) rfl (by omega)
 have hle : es.length ≤ 4611686018427387903 := by unfold most at he16; omega
 have hlm : ms.length ≤ 4611686018427387903 := by unfold most at hm8; omega
 refine keptA (S := S) (V := TV) hB he16 hm8 hle hlm (q1.sees SB) (q2.sees SB) (x1.sees SB) (x2.sees SB) (ra1.sees S25) (ra2.sees S25) (rb1.sees S25) (rb2.sees S25) (fun X hX => out X (.inl (q1.lt X hX))) (fun X hX => out X (.inl (q2.lt X hX))) (fun X hX => out X (.inl (x1.lt X hX))) (fun X hX => out X (.inl (x2.lt X hX)))
  (fun X hX => out X (.inr (.inl ⟨Nat.le_of_lt (kb1 X hX), rb1.lt X hX⟩))) (fun X hX => out X (.inr (.inl ⟨Nat.le_of_lt (kb2 X hX), rb2.lt X hX⟩))) (fun X hX => inS X (.inl (ka1 X hX))) (fun X hX => inS X (.inl (ka2 X hX)))
  bP3 bP7 bP8 bP9 (by rw [tv1 3 (by omega)]; exact t3) (by rw [tv1 7 (by omega)]; exact t7) (by rw [tv 8 (by omega), T4 8 (by omega), T3 8 (by omega)]; exact t8) (by rw [tv 9 (by omega), T4 9 (by omega), T3 9 (by omega)]; exact t9) hKT fun t6' m6 hKT6 J6 => ?_
 have E0 : ∀ {mm : M}, SpJ S B mm → Ext m mm := fun {mm} h => ⟨by have := h.n; omega, fun X hX => by
  rw [h.same X (by omega) (out X (by omega)), st5.ext.obj X hX], by rw [h.base, hbase], by rw [h.log, st5.ext.log]⟩
 have q12 := hKT6 12 (by omega)
 rw [tv 12 (by omega), T4 12 (by omega), t12] at q12
 obtain ⟨e, he⟩ := qaj ((wo es ms).2)
 rw [← he] at q12
 simp [-yu, q12]
 by_cases hz : e = 0
 ·subst hz
  simp [-yu]
  have hz0 : (wo es ms).2 = 0 := he.symm
  obtain ⟨hl16, hml, hA2, hN1⟩ : es.length ≤ 16 ∧ ms.length = es.length ∧ 2 ≤ cnt es ∧ 1 ≤ es.length - cnt es := by
   have hz' := hz0
   unfold wo at hz'
   by_cases h1 : (wD es ms).2 ≠ 0
   ·rw [if_pos h1] at hz'; exact absurd hz' h1
   ·rw [if_neg h1] at hz'
    have h1' : (wD es ms).2 = 0 := by omega
    by_cases h2 : cnt es < 2 ∨ es.length - cnt es < 1
    ·rw [if_pos h2] at hz'; simp at hz'
    ·exact ⟨(kQ h1').1, (kQ h1').2, by omega, by omega⟩
  obtain ⟨law1, law2, law3, law4, law5, law6, law7⟩ := hlaw hz0
  obtain ⟨law8, law9⟩ := hlaw2 hz0
  have hV' := hV hz0
  have hbg := yO (es := es) (by omega)
  have hX' := hX hz0
  have hcl : cnt es ≤ es.length := by unfold cnt; exact List.countP_le_length
  have hol : (qt es (qN es)).length = es.length := by unfold qt; simp
  obtain ⟨tsl, osl, fsl, loc, va, vo, A, e10, e11, hw⟩ := W1.ext (E34.trans E45) hz0
  obtain ⟨tsl2, osl2, fsl2, loc2, va2, vo2, A2, e13, e14, hw2⟩ := W2.ext (E34.trans E45) hz0
  obtain ⟨evd, rfd, cod, sv, e16, hg⟩ := G1.ext E45 hz0
  obtain ⟨evd2, rfd2, cod2, sv2, e19, hg2⟩ := G2.ext E45 hz0
  rw [e10] at b10
  rw [e11] at b11
  rw [e13] at b13
  rw [e14] at b14
  rw [e16] at b16
  rw [e19] at b19
  obtain ⟨x, hx⟩ := qaj (xk es ms (qq es (qN es) false) (qq es (qN es) true) (qU es V) (wrR es (qN es)) (es.length - cnt es) (qN es))
  rw [← hx] at hX' hg hg2
  have hEVl : x.EV.length ≤ 1000 := by
   rw [hX']
   have := (QL es ms (qN es) (qU es V) hl16).2
   show (vW es ms (qN es) (qU es V)).ev.length ≤ 1000
   omega
  have hRFl : x.RF.length ≤ 1000 := by
   rw [hx]
   have := gu es (qq es (qN es) true) (qU es V) (zE es ms (qq es (qN es) false) (qq es (qN es) true) (qU es V) (es.length - cnt es) (qN es)).fr (zE es ms (qq es (qN es) false) (qq es (qN es) true) (qU es V) (es.length - cnt es) (qN es)).to (qt es (qN es)) []
   rw [hol] at this
   simp at this
   show ((qt es (qN es)).foldl _ []).length ≤ 1000
   omega
  have hCOl : ∀ l ∈ x.CO, l.length ≤ 1000 := by
   intro l hl
   rw [hx] at hl
   unfold xk at hl
   simp only [List.mem_map, List.mem_range] at hl
   obtain ⟨c, hc, rfl⟩ := hl
   have := law9 c hc
   simp; omega
  have hTOl : x.TO.length = es.length := by rw [hx]; unfold xk; simp
  have hbd := vX es ms (qq es (qN es) false) (qq es (qN es) true) (qU es V) (qt es (qN es)) 0 TS0 (fun j => ⟨by simp [TS0], by simp [TS0], by simp [TS0]⟩)
  rw [hol] at hbd
  have hA : ∀ j, j < cnt es → (A j).length ≤ 1000000 ∧ ((fun j => ((qt es (qN es)).foldl (ki es ms (qq es (qN es) false) (qq es (qN es) true) (qU es V)) TS0 j).fin) j).outs.length ≤ 1000000 := by
   intro j hj
   obtain ⟨c1, c2, c3, c4, c5⟩ := hw.th j hj
   obtain ⟨d1, d2, d3⟩ := hbd j
   have hAl := congrArg List.length c2
   rw [List.length_map] at hAl
   simp only [TS.fin, TS.pr, qa6, vg] at hAl ⊢
   omega
  have k10 : ∀ i, i < 10 → TV i = Tm.get i t2 := fun i hi => by rw [tv i (by omega), T4 i (by omega), T3 i hi]
  have k16 : ∀ i, i < 16 → TV i = Tm.get i t3' := fun i hi => by rw [tv i (by omega), T4 i hi]
  have v13 : TV 13 = .pointer (some ⟨p3, 0, none⟩) := by rw [k16 13 (by omega)]; exact t13
  have v14 : TV 14 = .pointer (some ⟨p3 + 1, 0, none⟩) := by rw [k16 14 (by omega)]; exact t14
  have v19 : TV 19 = .pointer (some ⟨g3, 0, none⟩) := by rw [tv 19 (by omega)]; exact t19
  have v20 : TV 20 = tov1 := by rw [tv 20 (by omega)]; exact t20
  have v3 : TV 3 = .pointer (some ⟨P3, 0, none⟩) := by rw [tv1 3 (by omega)]; exact t3
  refine keptP (V := TV) (m0 := m) (ev0 := 0) hB hw hg (fun X h => inS X (.inr (.inl h))) (fun X h => inS X (.inr (.inr h))) b10 b11 b16 (by omega) (by omega) hA (by simp; omega) hEVl hRFl (by omega) (by rw [k16 10 (by omega)]; exact t10) (by rw [k16 11 (by omega)]; exact t11) (by rw [tv 16 (by omega)]; exact t16) (by rw [tv 17 (by omega)]; exact t17) J6
   (by repeat (first | exact hKT6 | refine KT.set ?_ (by omega))) fun t7' m7 hKT7 J7 => ?_
  have hw2' := hw2.keep (fun X h => out X (by simp only [In] at h; omega)) J7
  have hg2' := hg2.keep (fun X h => out X (by simp only [In] at h; omega)) J7
  have n7 := J7.n
  refine keptT (M0 := m7) hl16 hml hbg hV' law6 law7 (E0 J7) (by rw [J7.base]; omega) (zw (q1.sees SB) (fun X hX => out X (.inl (q1.lt X hX))) J7) (zw (q2.sees SB) (fun X hX => out X (.inl (q2.lt X hX))) J7) rfl hN1 (by omega) hw2'.fs hw2'.ts hw2'.os hw2'.th
   (x := x) (evd := evd2) (rfd := rfd2) (cod := cod2) (tov := tov1) ⟨hg2'.ev, hg2'.rf, sv2, by rw [hg2'.con]; exact hg2'.co, hg2'.cc⟩ hg2'.to hX' hEVl hRFl (by rw [hg2'.con]; omega) hCOl hTOl
   (P3 := P3) (P13 := p3) (P14 := p3 + 1) (P19 := g3) (fun m'' h s => by rw [kO h (qa1 bP3.lt n7)]; exact bP3.loads J7 s) (fun m'' h o s => by rw [qy h (qa1 b13.lt n7)]; exact b13.load J7 o s) (fun m'' h o s => by rw [qy h (qa1 b14.lt n7)]; exact b14.load J7 o s) (fun m'' h s => by rw [kO h (qa1 b19.lt n7)]; exact b19.loads J7 s)
   (by rw [hKT7 3 (by omega)]; exact v3) (by rw [hKT7 13 (by omega)]; exact v13) (by rw [hKT7 14 (by omega)]; exact v14) (by rw [hKT7 19 (by omega)]; exact v19) (by rw [hKT7 20 (by omega)]; exact v20) (fun _ => rfl)
 ·have hz' : ¬ ((e : Int) = 0) := by omega
  simp [-yu, hz, hz']
  exact qH (E0 J6) (by simp)
end Go.Sx
