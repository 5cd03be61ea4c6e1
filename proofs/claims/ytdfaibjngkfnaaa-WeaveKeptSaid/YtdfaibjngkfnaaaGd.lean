/- Contracts. -/
import Derived.Test.YtdfaibjngkfnaaaGc
import Derived.Test.YtdfaibjngkfnaaaGb
set_option linter.unusedVariables false
set_option linter.unusedSimpArgs false
set_option linter.defProp false
namespace Go.Sx
open Go.Dx Go.Proofs
def pos (es : List (Int × Int)) (b k : Nat) : Nat := (b + k) % es.length
def ic (es : List (Int × Int)) (b : Nat) : Nat → Nat
 | 0 => 0
 | k + 1 => ic es b k + if qx es (pos es b k) then 0 else 1
section
variable {es : List (Int × Int)} {b : Nat}
theorem Jq (h : 0 < es.length) (k : Nat) : pos es b k < es.length := Nat.mod_lt _ h
theorem fL (h : 0 < es.length) (k : Nat) : ahN es.length (pos es b (k + 1)) = pos es b k := by
 unfold pos ahN
 have hl := Nat.mod_lt (b + k) h
 by_cases e : (b + k) % es.length + 1 = es.length
 ·have : (b + (k + 1)) % es.length = 0 := by rw [← Nat.add_assoc, ← Nat.mod_add_mod, e, Nat.mod_self]
  rw [this, if_pos rfl]; omega
 ·have : (b + (k + 1)) % es.length = (b + k) % es.length + 1 := by rw [← Nat.add_assoc, ← Nat.mod_add_mod, Nat.mod_eq_of_lt (by omega)]
  rw [this, if_neg (by omega)]; omega
theorem zH (k : Nat) : pos es b (k + es.length) = pos es b k := by unfold pos; rw [← Nat.add_assoc, Nat.add_mod_right]
theorem bD (hb : b < es.length) {i j : Nat} (hi : i < es.length) (hj : j < es.length) (h : pos es b i = pos es b j) : i = j := by
 unfold pos at h
 have key : ∀ k, k < es.length → (b + k) % es.length = if b + k < es.length then b + k else b + k - es.length := fun k hk => by
  split
  ·exact Nat.mod_eq_of_lt ‹_›
  ·rw [Nat.mod_eq_sub_mod (by omega), Nat.mod_eq_of_lt (by omega)]
 rw [key i hi, key j hj] at h
 split at h <;> split at h <;> omega
theorem vL {k : Nat} (hk : k < es.length) : (qt es b)[k]? = some (pos es b k) := by
 unfold qt pos; rw [qac, List.getElem?_range hk]; rfl
theorem vM : (qt es b).length = es.length := by unfold qt; simp
theorem jD {k : Nat} (hk : k < es.length) : (qt es b).drop k = pos es b k :: (qt es b).drop (k + 1) := by
 obtain ⟨h, e⟩ := DY.1 (vL (b := b) hk)
 rw [List.drop_eq_getElem_cons h, e]
theorem bm (k : Nat) : ic es b k ≤ ic es b (k + 1) ∧ ic es b (k + 1) ≤ ic es b k + 1 := by show _ ≤ ic es b k + _ ∧ ic es b k + _ ≤ _; split <;> omega
theorem xc {i j : Nat} (h : i ≤ j) : ic es b i ≤ ic es b j := by
 induction j with
 | zero =>
  have : i = 0 := by omega
  subst this; exact DZ _
 | succ j ih =>
  rcases Nat.lt_or_ge i (j + 1) with h' | h'
  ·exact qa8 (ih (by omega)) (bm j).1
  ·have : i = j + 1 := by omega
   subst this; exact DZ _
theorem yZ : ∀ (m c : Nat), c ≤ ic es b m → ∃ s, s ≤ m ∧ ic es b s = c ∧ ∀ j, j < s → ic es b j < c
 | 0, c, h => ⟨0, DZ _, by have : ic es b 0 = 0 := rfl; omega, fun j hj => by omega⟩
 | m + 1, c, h => by
  by_cases h1 : c ≤ ic es b m
  ·obtain ⟨s, a, b', c'⟩ := yZ m c h1
   exact ⟨s, by omega, b', c'⟩
  ·have := (bm (es := es) (b := b) m).2
   exact ⟨m + 1, DZ _, by omega, fun j hj => by have := xc (es := es) (b := b) (show j ≤ m by omega); omega⟩
theorem vb {i j k : Nat} (h : ic es b i = ic es b k) (h1 : i ≤ j) (h2 : j < k) : qx es (pos es b j) = true := by
 have a := xc (es := es) (b := b) h1
 have c := xc (es := es) (b := b) (show j + 1 ≤ k by omega)
 have e : ic es b (j + 1) = ic es b j + if qx es (pos es b j) then 0 else 1 := rfl
 cases ho : qx es (pos es b j) with
 | true => rfl
 | false => rw [ho] at e; simp at e; omega
theorem Wh {j : Nat} (h : ic es b j < ic es b (j + 1)) : qx es (pos es b j) = false := by
 have e : ic es b (j + 1) = ic es b j + if qx es (pos es b j) then 0 else 1 := rfl
 cases ho : qx es (pos es b j) with
 | true => rw [ho] at e; simp at e; omega
 | false => rfl
theorem FC (k : Nat) (hk : k ≤ es.length) : ic es b k = ((qt es b).take k).countP fun i => !qx es i := by
 induction k with
 | zero => rfl
 | succ k ih =>
  obtain ⟨h, e⟩ := DY.1 (vL (es := es) (b := b) (show k < es.length by omega))
  rw [List.take_succ_eq_append_getElem h, List.countP_append, ← ih (by omega), e]
  show ic es b k + _ = _
  cases ho : qx es (pos es b k) <;> simp [ho]
theorem KU : (List.range es.length).countP (fun i => qx es i) = cnt es := by
 unfold cnt
 have : es = (List.range es.length).map (eAt es) := by
  apply List.ext_getElem?
  intro i
  rw [qac]
  by_cases h : i < es.length
  ·rw [List.getElem?_range h, DW h]
   show _ = some (eAt es i)
   rw [wt (DW h)]
  ·rw [qah (l := List.range es.length) (by rw [List.length_range]; omega), qah (l := es) (by omega)]; rfl
 conv => rhs; rw [this]
 rw [List.countP_map]
 rfl
theorem yb (hb : b < es.length) : (qt es b).Perm (List.range es.length) := by
 have h1 : qt es b = List.range' b (es.length - b) ++ List.range b := by
  apply List.ext_getElem?
  intro k
  by_cases h : k < es.length
  ·rw [vL h]
   unfold pos
   by_cases h2 : k < es.length - b
   ·rw [qaa (by simpa using h2), List.getElem?_range' (by simpa using h2), Nat.mod_eq_of_lt (by omega)]; simp
   ·rw [qab (by simp; omega), List.length_range', List.getElem?_range (by omega), Nat.mod_eq_sub_mod (by omega), Nat.mod_eq_of_lt (by omega)]
    congr 1; omega
  ·rw [qah (by rw [vM]; omega), qah (by simp; omega)]
 rw [h1]
 refine List.perm_append_comm.trans ?_
 have h2 : List.range es.length = List.range b ++ List.range' b (es.length - b) := by
  rw [List.range_eq_range', List.range_eq_range']
  have := List.range'_append_1 (s := 0) (m := b) (n := es.length - b)
  rw [Nat.zero_add, show b + (es.length - b) = es.length by omega] at this
  exact this.symm
 rw [h2]
theorem gg (hb : b < es.length) : ic es b es.length = es.length - cnt es := by
 rw [FC _ (DZ _), List.take_of_length_le (by rw [vM]; omega), (yb hb).countP_eq]
 have h1 := KU (es := es)
 have h2 := List.length_eq_countP_add_countP (fun i => qx es i) (l := List.range es.length)
 rw [List.length_range] at h2
 have h3 : (List.range es.length).countP (fun i => !qx es i) = (List.range es.length).countP (fun a => decide (¬ qx es a = true)) := by
  congr 1; funext a; cases qx es a <;> rfl
 omega
theorem fA (h : 0 < es.length) (o : Bool) : ∀ (m j s : Nat), s ≤ j → j - s ≤ m → 0 < s → qx es (pos es b (s - 1)) ≠ o → (∀ i, s ≤ i → i < j → qx es (pos es b i) = o) → gR es o m (pos es b j) = pos es b s
 | 0, j, s, h1, h2, h3, h4, h5 => by
  have : j = s := by omega
  subst this; rfl
 | m + 1, j, s, h1, h2, h3, h4, h5 => by
  unfold gR
  obtain ⟨i, rfl⟩ : ∃ i, j = i + 1 := ⟨j - 1, by omega⟩
  rw [fL h]
  by_cases e : i + 1 = s
  ·subst e
   rw [Nat.add_sub_cancel] at h4
   rw [if_neg h4]
  ·rw [if_pos (h5 i (by omega) (by omega))]
   exact fA h o m i s (by omega) (by omega) h3 h4 fun i' a1 a2 => h5 i' a1 (by omega)
end
end Go.Sx
namespace Go.Sx
open Go.Dx Go.Proofs
section
variable {es : List (Int × Int)} {b : Nat}
theorem Js {N : Nat} (R ρ : Nat → Nat) (hR : ∀ k, k < es.length → R (pos es b k) = ρ (ic es b k % N)) (hρ : ∀ c d, c < N → d < N → ρ c = ρ d → c = d) {c s : Nat} (hc0 : 0 < c) (hcN : c < N) (hsn : s < es.length) (hs : ic es b s = c) (hsf : ∀ j, j < s → ic es b j < c) :
  ∀ (d j : Nat), j + d = s → zz R (ρ c) ((qt es b).drop j) ((List.range (if j = 0 then 0 else ic es b (j - 1) + 1)).map ρ) = some c := by
 intro d
 induction d with
 | zero =>
  intro j hj
  have : j = s := by omega
  subst this
  have h0 : j ≠ 0 := by rintro rfl; have : ic es b 0 = 0 := rfl; omega
  rw [jD hsn, zz, if_pos (by rw [hR _ hsn, hs, Nat.mod_eq_of_lt hcN]), if_neg h0]
  have h1 := hsf (j - 1) (by omega)
  have h2 := (bm (es := es) (b := b) (j - 1)).2
  rw [show j - 1 + 1 = j by omega] at h2
  simp; omega
 | succ d ih =>
  intro j hj
  have hjn : j < es.length := by omega
  have hjc := hsf j (by omega)
  have hRj : R (pos es b j) = ρ (ic es b j) := by rw [hR _ hjn, Nat.mod_eq_of_lt (by omega)]
  rw [jD hjn, zz, if_neg (by rw [hRj]; intro h; have := hρ _ _ (by omega) hcN h; omega), hRj]
  have hnext := ih (j + 1) (by omega)
  rw [if_neg (by omega), Nat.add_sub_cancel] at hnext
  have key : (if ((List.range (if j = 0 then 0 else ic es b (j - 1) + 1)).map ρ).contains (ρ (ic es b j)) then (List.range (if j = 0 then 0 else ic es b (j - 1) + 1)).map ρ else (List.range (if j = 0 then 0 else ic es b (j - 1) + 1)).map ρ ++ [ρ (ic es b j)]) = (List.range (ic es b j + 1)).map ρ := by
   by_cases h0 : j = 0
   ·subst h0
    have : ic es b 0 = 0 := rfl
    simp [this]
   ·rw [if_neg h0]
    have h2 := bm (es := es) (b := b) (j - 1)
    rw [show j - 1 + 1 = j by omega] at h2
    by_cases he : ic es b j = ic es b (j - 1)
    ·rw [if_pos (by simp; exact ⟨ic es b j, by omega, rfl⟩), he]
    ·have e : ic es b j = ic es b (j - 1) + 1 := by omega
     rw [if_neg, e, List.range_succ (n := ic es b (j - 1) + 1), List.map_append]
     ·rfl
     ·simp
      intro x hx h
      have := hρ _ _ (by omega) (by omega) h
      omega
  rw [key]; exact hnext
theorem vZ (hb : b < es.length) (hlast : qx es (pos es b (es.length - 1)) = true) (hN : 0 < es.length - cnt es) {k : Nat} (hk : k < es.length) : qq es b true (pos es b k) = ic es b k % (es.length - cnt es) := by
 obtain ⟨N, hNe⟩ := qaj (es.length - cnt es)
 rw [← hNe] at hN ⊢
 have hn : 0 < es.length := by omega
 have hall : ic es b es.length = N := by rw [gg hb, hNe]
 have hlastN : ic es b (es.length - 1) = N := by
  have e : ic es b (es.length - 1 + 1) = ic es b (es.length - 1) + if qx es (pos es b (es.length - 1)) then 0 else 1 := rfl
  rw [hlast, show es.length - 1 + 1 = es.length by omega, hall] at e
  simpa using e.symm
 have hex : ∀ c, ∃ s, c ≤ N → s ≤ es.length - 1 ∧ ic es b s = c ∧ ∀ j, j < s → ic es b j < c := fun c => by
  by_cases h : c ≤ N
  ·obtain ⟨s, h1⟩ := yZ (es := es) (b := b) (es.length - 1) c (by omega)
   exact ⟨s, fun _ => h1⟩
  ·exact ⟨0, fun h' => absurd h' h⟩
 obtain ⟨sC, hsC⟩ : ∃ sC : Nat → Nat, ∀ c, c ≤ N → sC c ≤ es.length - 1 ∧ ic es b (sC c) = c ∧ ∀ j, j < sC c → ic es b j < c := ⟨fun c => (hex c).choose, fun c => (hex c).choose_spec⟩
 have hpos : ∀ c, 1 ≤ c → c ≤ N → 0 < sC c := fun c h1 h2 => by
  rcases Nat.eq_zero_or_pos (sC c) with h | h
  ·have := (hsC c h2).2.1; rw [h] at this; have e : ic es b 0 = 0 := rfl; omega
  ·exact h
 have hback : ∀ c, 1 ≤ c → c ≤ N → qx es (pos es b (sC c - 1)) ≠ true := fun c h1 h2 => by
  have hp := hpos c h1 h2
  have := (hsC c h2).2.2 (sC c - 1) (by omega)
  have h3 := Wh (es := es) (b := b) (j := sC c - 1) (by rw [show sC c - 1 + 1 = sC c by omega, (hsC c h2).2.1]; exact this)
  rw [h3]; simp
 let ρ : Nat → Nat := fun c => if c = 0 then pos es b (sC N) else pos es b (sC c)
 have hR : ∀ k, k < es.length → kI es true (pos es b k) = ρ (ic es b k % N) := fun k hk => by
  have hkN : ic es b k ≤ N := by have := xc (es := es) (b := b) (show k ≤ es.length by omega); omega
  unfold kI
  by_cases h0 : ic es b k = 0
  ·have hsN := hsC N (DZ _)
   have hp := hpos N (by omega) (DZ _)
   have hks : k < sC N := by
    rcases Nat.lt_or_ge k (sC N) with h | h
    ·exact h
    ·have := xc (es := es) (b := b) h; omega
   have e : ρ (ic es b k % N) = pos es b (sC N) := by simp only [ρ]; rw [h0, Nat.zero_mod, if_pos rfl]
   rw [e, ← zH (es := es) (b := b) k]
   refine fA hn true es.length (k + es.length) (sC N) (by omega) (by omega) hp (hback N (by omega) (DZ _)) fun i h1 h2 => ?_
   by_cases hi : i < es.length
   ·exact vb (es := es) (b := b) (i := sC N) (j := i) (k := es.length) (by rw [hsN.2.1, hall]) h1 hi
   ·have : i = (i - es.length) + es.length := by omega
    rw [this, zH]
    exact vb (es := es) (b := b) (i := 0) (j := i - es.length) (k := k) (by rw [h0]; rfl) (by omega) (by omega)
  ·have hs := hsC (ic es b k) hkN
   have hp := hpos _ (by omega) hkN
   have hsk : sC (ic es b k) ≤ k := by
    rcases Nat.lt_or_ge k (sC (ic es b k)) with h | h
    ·have := hs.2.2 k h; omega
    ·exact h
   have e : ρ (ic es b k % N) = pos es b (sC (ic es b k)) := by
    simp only [ρ]
    rcases Nat.lt_or_ge (ic es b k) N with h | h
    ·rw [Nat.mod_eq_of_lt h, if_neg h0]
    ·have : ic es b k = N := by omega
     rw [this, Nat.mod_self, if_pos rfl]
   rw [e]
   exact fA hn true es.length k _ hsk (by omega) hp (hback _ (by omega) hkN) fun i h1 h2 => vb (by rw [hs.2.1]) h1 h2
 have hinj : ∀ c d, c < N → d < N → ρ c = ρ d → c = d := fun c d hc hd h => by
  have key : ∀ c, c < N → ∃ c', c' ≤ N ∧ ρ c = pos es b (sC c') ∧ c' % N = c := fun c hc => by
   simp only [ρ]
   by_cases h : c = 0
   ·exact ⟨N, DZ _, by rw [if_pos h], by rw [Nat.mod_self, h]⟩
   ·exact ⟨c, by omega, by rw [if_neg h], Nat.mod_eq_of_lt hc⟩
  obtain ⟨c', h1, h2, h3⟩ := key c hc
  obtain ⟨d', g1, g2, g3⟩ := key d hd
  rw [h2, g2] at h
  have := bD hb (by have := (hsC c' h1).1; omega) (by have := (hsC d' g1).1; omega) h
  have e : c' = d' := by rw [← (hsC c' h1).2.1, ← (hsC d' g1).2.1, this]
  rw [← h3, ← g3, e]
 have main : zz (kI es true) (kI es true (pos es b k)) (qt es b) [] = some (ic es b k % N) := by
  rw [hR k hk]
  have hclt : ic es b k % N < N := Nat.mod_lt _ hN
  by_cases hc0 : ic es b k % N = 0
  ·rw [hc0]
   have hd := jD (b := b) hn
   rw [List.drop_zero] at hd
   rw [hd, zz, if_pos (by rw [hR 0 hn]; show ρ (0 % N) = _; rw [Nat.zero_mod])]
   rfl
  ·have hs := hsC (ic es b k % N) (by omega)
   have := Js (es := es) (b := b) (N := N) (kI es true) ρ hR hinj (c := ic es b k % N) (s := sC (ic es b k % N)) (by omega) hclt (by omega) hs.2.1 hs.2.2 (sC (ic es b k % N)) 0 (by omega)
   simpa using this
 unfold qq
 rw [main]; rfl
end
theorem bM {es : List (Int × Int)} (h : 0 < cnt es) : qN es < es.length ∧ qx es (pos es (qN es) (es.length - 1)) = true := by
 have hb := yO h
 unfold first at hb
 rw [List.find?_range_eq_some] at hb
 have hbl : qN es < es.length := by simpa using hb.2.1
 refine ⟨hbl, ?_⟩
 have h1 := hb.1
 unfold zB at h1
 have e : pos es (qN es) (es.length - 1 + 1) = qN es := by
  unfold pos; rw [show qN es + (es.length - 1 + 1) = qN es + es.length by omega, Nat.add_mod_right, Nat.mod_eq_of_lt hbl]
 have := fL (es := es) (b := qN es) (by omega) (es.length - 1)
 rw [e] at this
 rw [this] at h1
 exact h1
end Go.Sx
namespace Go.Sx
open Go.Dx Go.Proofs
section
variable {es : List (Int × Int)} {b : Nat}
def stt (es : List (Int × Int)) (b N k : Nat) : LS := ((qt es b).take k).foldl (wP es N) (zK es.length N)
theorem vR {N k : Nat} (hk : k < es.length) : stt es b N (k + 1) = wP es N (stt es b N k) (pos es b k) := by
 obtain ⟨h, e⟩ := DY.1 (vL (es := es) (b := b) hk)
 unfold stt
 rw [List.take_succ_eq_append_getElem h, List.foldl_append, e]; rfl
theorem GE {N : Nat} : ∀ {k : Nat}, k ≤ es.length → (stt es b N k).c = ic es b k
 | 0, _ => rfl
 | k + 1, h => by
  rw [vR (by omega)]
  show (if qx es (pos es b k) then _ else _) = ic es b k + _
  rw [GE (by omega)]; split <;> rfl
theorem Jy {N k : Nat} : (stt es b N k).ce.length = es.length := by
 have key : ∀ (l : List Nat) (s : LS), (l.foldl (wP es N) s).ce.length = s.ce.length := by
  intro l
  induction l with
  | nil => intro s; rfl
  | cons i l ih => intro s; rw [List.foldl_cons, ih]; simp [wP]
 unfold stt; rw [key]; simp [zK]
theorem GF (hb : b < es.length) {N : Nat} : ∀ {k : Nat}, k ≤ es.length → ∀ j, j < k → (stt es b N k).ce[pos es b j]? = some (ic es b j % N)
 | 0, _, j, h => by omega
 | k + 1, hk, j, hj => by
  rw [vR (by omega)]
  show ((stt es b N k).ce.set (pos es b k) ((stt es b N k).c % N))[pos es b j]? = _
  by_cases e : j = k
  ·subst e
   rw [qaf (by rw [Jy]; exact Jq (by omega) _), GE (by omega)]
  ·rw [List.getElem?_set_ne (fun h => e (bD hb (by omega) (by omega) h).symm)]
   exact GF hb (by omega) j (by omega)
theorem fe (hb : b < es.length) {N j : Nat} (hj : j < es.length) : (zW es N (qt es b)).ce[pos es b j]? = some (ic es b j % N) := by
 have := GF hb (N := N) (DZ es.length) j hj
 unfold stt at this
 rwa [List.take_of_length_le (by rw [vM]; omega)] at this
theorem Kx (hb : b < es.length) (hN : 0 < es.length - cnt es) (k : Nat) (hk : k < es.length) : ∃ d, d < es.length ∧ qx es (pos es b (k + d)) = false ∧ ∀ j, j < d → qx es (pos es b (k + j)) = true := by
 have hall := gg (es := es) hb
 obtain ⟨s, hs1, hs2, hs3⟩ := yZ (es := es) (b := b) es.length 1 (by omega)
 have hs0 : 0 < s := by
  rcases Nat.eq_zero_or_pos s with h | h
  ·subst h; have : ic es b 0 = 0 := rfl; omega
  ·exact h
 have hi : qx es (pos es b (s - 1)) = false := Wh (by have := hs3 (s - 1) (by omega); rw [show s - 1 + 1 = s by omega, hs2]; exact this)
 have hex : ∃ d, d < es.length ∧ qx es (pos es b (k + d)) = false := by
  by_cases h : k ≤ s - 1
  ·exact ⟨s - 1 - k, by omega, by rw [show k + (s - 1 - k) = s - 1 by omega]; exact hi⟩
  ·exact ⟨s - 1 + es.length - k, by omega, by rw [show k + (s - 1 + es.length - k) = (s - 1) + es.length by omega, zH]; exact hi⟩
 have key : ∀ d, d < es.length → qx es (pos es b (k + d)) = false → ∃ d', d' ≤ d ∧ qx es (pos es b (k + d')) = false ∧ ∀ j, j < d' → qx es (pos es b (k + j)) = true := by
  intro d
  induction d using Nat.strongRecOn with
  | _ d ih =>
   intro h1 h2
   by_cases h : ∃ j, j < d ∧ qx es (pos es b (k + j)) = false
   ·obtain ⟨j, hj, h3⟩ := h
    obtain ⟨d', g1, g2⟩ := ih j hj (by omega) h3
    exact ⟨d', by omega, g2⟩
   ·refine ⟨d, DZ _, h2, fun j hj => ?_⟩
    cases ho : qx es (pos es b (k + j)) with
    | true => rfl
    | false => exact absurd ⟨j, hj, ho⟩ h
 obtain ⟨d, h1, h2⟩ := hex
 obtain ⟨d', g1, g2⟩ := key d h1 h2
 exact ⟨d', by omega, g2⟩
theorem Fb (hes : es.length ≤ 16) (hb : b < es.length) (hlast : qx es (pos es b (es.length - 1)) = true) (hN : 0 < es.length - cnt es) (c : Nat) (hc : c < es.length - cnt es) :
  ∃ l, wW es (zW es (es.length - cnt es) (qt es b)).ce b c l := by
 obtain ⟨N, hNe⟩ := qaj (es.length - cnt es)
 rw [← hNe] at hN hc ⊢
 have hn : 0 < es.length := by omega
 have hall : ic es b es.length = N := by rw [gg hb, hNe]
 have hlastN : ic es b (es.length - 1) = N := by
  have e : ic es b (es.length - 1 + 1) = ic es b (es.length - 1) + if qx es (pos es b (es.length - 1)) then 0 else 1 := rfl
  rw [hlast, show es.length - 1 + 1 = es.length by omega, hall] at e
  simpa using e.symm
 obtain ⟨C, hC1, hCN, hCc⟩ : ∃ C, 1 ≤ C ∧ C ≤ N ∧ C % N = c := by
  by_cases h : c = 0
  ·exact ⟨N, hN, DZ _, by rw [Nat.mod_self, h]⟩
  ·exact ⟨c, by omega, by omega, Nat.mod_eq_of_lt hc⟩
 obtain ⟨s, hs1, hs2, hs3⟩ := yZ (es := es) (b := b) (es.length - 1) C (by omega)
 have hs0 : 0 < s := by
  rcases Nat.eq_zero_or_pos s with h | h
  ·subst h; have : ic es b 0 = 0 := rfl; omega
  ·exact h
 have hah : ∀ k, 0 < k → ahN es.length (pos es b k) = pos es b (k - 1) := fun k h => by
  have := fL (es := es) (b := b) hn (k - 1); rwa [show k - 1 + 1 = k by omega] at this
 have hjump : qx es (pos es b (s - 1)) = false := Wh (by have := hs3 (s - 1) (by omega); rw [show s - 1 + 1 = s by omega, hs2]; exact this)
 obtain ⟨d, hd1, hd2, hd3⟩ := Kx hb (by omega) s (by omega)
 refine ⟨(List.range (d + 1)).map fun j => pos es b (s + j), ⟨s, by omega, ?_, ?_, fun k hk => ⟨ic es b k % N, fe hb (by omega), fun h => ?_⟩, ?_⟩, ⟨fun x hx => ?_, fun j x y hx hy => ?_, fun x hx => ?_⟩, by simp; omega⟩
 ·have := fe (es := es) hb (N := N) (j := s) (by omega)
  rw [hs2, hCc] at this; exact this
 ·show qx es (ahN es.length (pos es b s)) = false
  rw [hah s hs0]; exact hjump
 ·-- an event of the cell ahead of its beginning: cell 0, where the walk begins
  show qx es (ahN es.length (pos es b k)) = true
  have hkc := hs3 k hk
  have hk0 : ic es b k = 0 := by
   rw [Nat.mod_eq_of_lt (by omega)] at h
   by_cases hcz : c = 0
   ·omega
   ·have : C = c := by
     rcases Nat.lt_or_ge C N with h' | h'
     ·rw [Nat.mod_eq_of_lt h'] at hCc; exact hCc
     ·have : C = N := by omega
      rw [this, Nat.mod_self] at hCc; omega
    omega
  by_cases hkz : k = 0
  ·subst hkz
   have := fL (es := es) (b := b) hn (es.length - 1)
   rw [show es.length - 1 + 1 = 0 + es.length by omega, zH] at this
   rw [this]; exact hlast
  ·rw [hah k (by omega)]
   exact vb (es := es) (b := b) (i := 0) (j := k - 1) (k := k) (by rw [hk0]; rfl) (by omega) (by omega)
 ·rw [qac, List.getElem?_range (by omega)]; rfl
 ·obtain ⟨j, -, rfl⟩ := List.mem_map.1 hx
  exact Jq hn _
 ·rw [qac] at hx hy
  have hj : j + 1 < d + 1 := by
   rcases Nat.lt_or_ge (j + 1) (d + 1) with h | h
   ·exact h
   ·rw [qah (l := List.range (d + 1)) (by simpa using h)] at hy; cases hy
  rw [List.getElem?_range (by omega)] at hx
  rw [List.getElem?_range hj] at hy
  cases hx; cases hy
  refine ⟨?_, hd3 j (by omega)⟩
  show (b + (s + (j + 1))) % es.length = ((b + (s + j)) % es.length + 1) % es.length
  rw [show b + (s + (j + 1)) = (b + (s + j)) + 1 by omega, ← Nat.mod_add_mod]
 ·rw [qac] at hx
  simp only [List.length_map, List.length_range, Nat.add_sub_cancel] at hx
  rw [List.getElem?_range (by omega)] at hx
  cases hx
  exact hd2
end
theorem XY (es : List (Int × Int)) (ms : List Int) : ∃ ch : Nat → List Nat, (wo es ms).2 = 0 → ∀ c, c < es.length - cnt es → wW es (zW es (es.length - cnt es) (qt es (qN es))).ce (qN es) c (ch c) := by
 by_cases h : (wo es ms).2 = 0
 ·have hp : (wD es ms).2 = 0 ∧ ¬ (cnt es < 2 ∨ es.length - cnt es < 1) := by
   unfold wo at h
   by_cases h1 : (wD es ms).2 ≠ 0
   ·rw [if_pos h1] at h; exact absurd h h1
   ·rw [if_neg h1] at h
    refine ⟨by omega, fun h2 => ?_⟩
    rw [if_pos h2] at h; simp at h
  obtain ⟨hb, hlast⟩ := bM (es := es) (by omega)
  have hex : ∀ c, ∃ l, c < es.length - cnt es → wW es (zW es (es.length - cnt es) (qt es (qN es))).ce (qN es) c l := fun c => by
   by_cases hc : c < es.length - cnt es
   ·obtain ⟨l, hl⟩ := Fb (kQ hp.1).1 hb hlast (by omega) c hc
    exact ⟨l, fun _ => hl⟩
   ·exact ⟨[], fun h => absurd h hc⟩
  exact ⟨fun c => (hex c).choose, fun _ c hc => (hex c).choose_spec hc⟩
 ·exact ⟨fun _ => [], fun h' => absurd h' h⟩
end Go.Sx
namespace Go.Dx
section
variable {m0 m m' : M} {σ : List (Nat × List Value)} {k b : Nat} {l : List Value}
theorem St.keepOn (h : St m0 m σ) (e : Ext m0 m') (hn : m.n ≤ m'.n) (ho : ∀ p ∈ σ, m'.obj p.1 = m.obj p.1) : St m0 m' σ :=
 ⟨e, h.base, fun p hp => let ⟨h1, h2, h3⟩ := h.arr p hp; ⟨h1, by omega, h3.congr (ho p hp)⟩, h.nd⟩
theorem St.fill (h : St m0 m σ) (k : Nat) (hk : σ[k]? = some (b, l)) {n : Nat} {l' : List Value} (hl : l.length = n) (hl' : l'.length = n) (hv : ∀ v ∈ l', okC v = true) :
  ∃ m', wh n (.pointer (some ⟨b, 0, none⟩)) (.agg ⟨l'⟩) m = some (undef, m') ∧ St m0 m' (σ.set k (b, l')) ∧ m'.n = m.n ∧ ∀ X, X ≠ b → m'.obj X = m.obj X := by
 obtain ⟨h1, h2, h3⟩ := h.get k hk
 have e := zr (n := n) (o := 0) (v := .agg ⟨l'⟩) (l := l') h3 rfl hl' (by omega) hv
 obtain ⟨_, s2, s3, s4, s5, s6⟩ := wV (o := 0) (l := l') h3 (by omega) hv
 rw [gq (by omega)] at s2
 exact ⟨_, e, h.put' k hk s3 s4 (s6 (by have := h.ext.base; have := h.base; omega)) s5 s2, s3, s5⟩
end
theorem Grown.okC {α : Type} {m0 m : M} {v : Value} {e : Nat} {f : α → List Value} {es : List α} (h : Grown m0 m v e f es) : Dx.okC v = true := by
 rcases h with ⟨_, rfl⟩ | ⟨B, _, _, _, rfl, _⟩ <;> rfl
theorem Zg {α : Type} {m : M} {v : Value} {e : Nat} {f : α → List Value} {es : List α} (h : Rd m v e f es) (bytes : Nat) (hb : es.length * bytes ≤ most) (hn : es.length ≤ 4611686018427387904) :
  ∃ v' m', qX m e bytes (.slice none 0 0) v = some (v', m') ∧ Ext m m' ∧ Grown m m' v' e f es := by
 have e0 : qX m e bytes (.slice none 0 0) v = yt m e bytes 0 0 es.length none (es.flatMap f) := by
  show ob (lenV v) _ = _
  rw [h.lenV, qD]
  show ob (wG m e es.length v) _ = _
  rw [h.all, qD]
 rw [e0]
 unfold yt
 by_cases hz : es = []
 ·subst hz
  exact ⟨_, _, rfl, Ext.refl m, .nil⟩
 ·have hpos := qai.2 hz
  have h1 : Nat.ble (0 + es.length) 0 = false := by
   cases q : Nat.ble (0 + es.length) 0 with
   | false => rfl
   | true => have := qa5 q; omega
  rw [h1, cond_false, Nat.zero_add, qa4 hb, qa4 hn]
  refine ⟨.slice (some ⟨m.n, 0, some (code e false)⟩) es.length es.length, newRow m (es.flatMap f), rfl, Ext.row m _, .inr ⟨m.n, DZ _, by rw [qk]; omega, hz, rfl, Arr.row m _⟩⟩
theorem VD {m0 m : M} {Q : Value → M → Prop} {t : Tm} {p : Nat} {a : Addr} {l : List Value} (h1 : Tm.get p t = .pointer (some a)) (h2 : loads m a 2 = some l) (he : Ext m0 m) (hq : Q (.agg ⟨l⟩) m) : Ret m0 Q (zq [.cell p 2] t m) := by
 refine vk (l := [.agg ⟨l⟩]) ?_ he hq
 simp only [yj, vj, h1, xK, qD, h2]
@[simp] theorem Dm (m : M) (a b : Int) : ko 2 1 (rep 1 [.int .i64 0, .int .i64 0]) [(0, 2, .agg ⟨[.int .i64 a, .int .i64 b]⟩)] m = some (.slice (some ⟨m.n, 0, some 5⟩) 1 1, newRow m [.int .i64 a, .int .i64 b]) := _root_.id rfl
@[simp] theorem DE (a b : Int) : km [.int .i64 0, .int .i64 0] [(0, 1, .int .i64 a), (1, 1, .int .i64 b)] = some (.agg ⟨[.int .i64 a, .int .i64 b]⟩) := _root_.id rfl
end Go.Dx
namespace Go.Sx
open Go.Dx Go.Proofs
theorem JL (n : Nat) (ed md : Value) (es : List (Int × Int)) (ms : List Int) (m : M) (hm : m.base ≤ m.n) (he16 : es.length * 16 ≤ most) (hm8 : ms.length * 8 ≤ most) (hed : Rd m ed 2 edgeRow es) (hmd : Rd m md 1 modeRow ms) :
  Dx.Call (ex Try.prog (n + 1)) 13 [.agg #[ed, md]] m fun v m' => ∃ ed' md', v = .agg #[ed', md'] ∧ Rd m' ed' 2 edgeRow es ∧ Rd m' md' 1 modeRow ms := by
 refine qv da4_ok (by simp) ?_
 unfold most at he16 hm8
 have st0 : St m m [] := St.nil hm (Ext.refl m)
 have st1 := ((st0.row [ed, md]).row [.slice none 0 0, .slice none 0 0]).row [.slice none 0 0, .slice none 0 0]
 simp only [qk] at st1
 obtain ⟨m1, hm1⟩ := qaj (Dx.newRow (Dx.newRow (Dx.newRow m [ed, md]) [.slice none 0 0, .slice none 0 0]) [.slice none 0 0, .slice none 0 0])
 rw [← hm1] at st1
 have n1 : m1.n = m.n + 3 := by rw [hm1]; simp
 have hel := hed.len
 simp [← hm1]
 refine qm (c := ca4_6) rfl (Ret m _) (fun i t m' => Tm.get 1 t = .pointer (some ⟨m.n, 0, none⟩) ∧ Tm.get 2 t = .pointer (some ⟨m.n + 1, 0, none⟩) ∧ Tm.get 3 t = .pointer (some ⟨m.n + 1 + 1, 0, none⟩) ∧ Tm.get 4 t = iv i ∧
   ∃ v, St m m' [(m.n + 1 + 1, [v, .slice none 0 0]), (m.n + 1, [.slice none 0 0, .slice none 0 0]), (m.n, [ed, md])] ∧ Grown m m' v 2 edgeRow (es.take i) ∧ ∀ B, blk v = some B → m.n + 3 ≤ B) es.length (by omega)
  ⟨by simp, by simp, by simp, by simp, _, st1, by simpa using Grown.nil, fun B hB => by cases hB⟩ (fun i t m' k hi hI hk => ?_)
 obtain ⟨h1, h2, h3, h4, v, st, hG, hv⟩ := hI
 have lc := (st.get 2 rfl).2.2.load1
 by_cases hil : i < es.length
 ·obtain ⟨e, he⟩ : ∃ e, es[i]? = some e := ⟨_, DW hil⟩
  have hS := st.sees
  have ⟨a1, a2, a3⟩ := (hed.sees hS).at he
  have k0 : load1 m' ⟨(adr 2 ed i).block, (adr 2 ed i).off, none⟩ = some (iv e.1) := a3 m' 0 none hS.self (by simp [edgeRow])
  have k1 : load1 m' ⟨(adr 2 ed i).block, (adr 2 ed i).off + 1, none⟩ = some (iv e.2) := a3 m' 1 none hS.self (by simp [edgeRow])
  have hd := dlt hil
  have w1 : IntKind.i64.wrap ((i : Int) + 1) = ((i + 1 : Nat) : Int) := by rw [wrap64 _ (by omega) (by omega)]; omega
  have lr := (st.get 0 rfl).2.2.load1
  obtain ⟨M1, hM1⟩ := qaj (Dx.newRow m' [iv e.1, iv e.2])
  have E1 : Ext m' M1 := by rw [hM1]; exact Ext.row _ _
  have nM1 : M1.n = m'.n + 1 := by rw [hM1, qk]
  have hlen : (es.take i).length = i := by rw [List.length_take]; omega
  obtain ⟨v', m2', p1, p2, p3, p4, p5, p6, p7⟩ := (hG.ext E1).appendAny (st.ext.trans E1) hm (by omega) wQ (fun x => by simp [edgeRow, Dx.okC]) (x := e) (X := m'.n) (sp := some 5) (by rw [hM1]; exact (Arr.row m' [iv e.1, iv e.2]).loads (by simp)) (bytes := 16) (by rw [hlen]; unfold most; omega) (by rw [hlen]; omega)
  obtain ⟨M2, hM2⟩ := qaj (behind M1 m2')
  rw [← hM2] at p3 p4 p5 p6
  have hn3 := (st.get 0 rfl).2.1
  have st2 : St m M2 [(m.n + 1 + 1, [v, .slice none 0 0]), (m.n + 1, [.slice none 0 0, .slice none 0 0]), (m.n, [ed, md])] := (st.step E1).keepOn p3 p5 fun p hp => by
   have hpk : p.1 ≤ m.n + 1 + 1 := by simp at hp; rcases hp with rfl | rfl | rfl <;> omega
   exact p6 p.1 (by omega) fun hc => by have := hv p.1 hc; omega
  obtain ⟨m3', q1, q2, q3, q4, q5⟩ := st2.storeAny 0 rfl (o := 0) (v := v') (by simp) p4.okC
  obtain ⟨M3, hM3⟩ := qaj (behind M2 m3')
  rw [← hM3] at q3 q4 q5
  simp [h1, h2, h3, h4, lc, hel, hd, lr, a1, k0, k1, ← hM1, p1, ← hM2, q1, ← hM3, w1]
  refine hk hil _ _ ?_
  have hv' : ∀ B, blk v' = some B → m.n + 3 ≤ B := fun B hB => by have := p7 B hB; omega
  have htk : es.take (i + 1) = es.take i ++ [e] := by
   obtain ⟨h, e'⟩ := DY.1 he
   rw [List.take_succ_eq_append_getElem h, e']
  refine ⟨by simp [h1], by simp [h2], by simp [h3], by simp, v', q3, ?_, hv'⟩
  rw [htk]
  exact p4.keep (by omega) fun B hB hb => q5 B (by have := hv' B hb; omega)
 obtain rfl : i = es.length := by omega
 rw [List.take_length] at hG
 have lr := (st.get 0 rfl).2.2.load1
 obtain ⟨w, m4, p1, p2, p3⟩ := Zg (hmd.sees st.sees) 8 (by unfold most; omega) (by omega)
 have st4 := st.step p2
 obtain ⟨m5, q1, q2, q3, q4⟩ := st4.store 0 rfl (o := 1) (v := w) (by simp) p3.okC
 have lr5 : loads m5 ⟨m.n + 1 + 1, 0, none⟩ 2 = some [v, w] := (q2.get 0 rfl).2.2.loads (by simp)
 obtain ⟨m6, r1, r2, r3, r4⟩ := q2.fill 1 rfl (n := 2) (l' := [v, w]) rfl rfl (by simp [hG.okC, p3.okC])
 have lr6 : loads m6 ⟨m.n + 1, 0, none⟩ 2 = some [v, w] := (r2.get 1 rfl).2.2.loads (by simp)
 simp [h1, h2, h3, h4, lc, hel, lr, p1, q1, lr5, qf, r1]
 have hmn := (st.get 0 rfl).2.1
 refine VD (by simp [h2]) lr6 r2.ext ⟨v, w, rfl, ?_, ?_⟩
 ·have h5 : Grown m m6 v 2 edgeRow es := (hG.ext p2).keep (by omega) fun B hB hb => by
   have := hv B hb
   rw [r4 B (by omega), q4 B (by omega)]
  exact h5.rd wQ
 ·have h5 : Grown m' m6 w 1 modeRow ms := p3.keep (by omega) fun B hB hb => by
   have hlow : m'.n ≤ B := by
    rcases p3 with ⟨_, rfl⟩ | ⟨B', g1, _, _, rfl, _⟩
    ·cases hb
    ·cases hb; exact g1
   rw [r4 B (by omega), q4 B (by omega)]
  exact h5.rd kJ
end Go.Sx
namespace Go.Sx
open Go.Dx Go.Proofs
theorem KP (n : Nat) (PB : Nat) (ed : Value) (es : List (Int × Int)) (i : Nat) (hi : i < es.length) (hl : es.length ≤ 1000) (m : M) (hm : m.base ≤ m.n) (hPB : PB < m.n) (hp : load1 m ⟨PB, 0, none⟩ = some ed) (hed : Rd m ed 2 edgeRow es) :
  CallV (ex Try.prog (n + 2)) 40 [.pointer (some ⟨PB, 0, none⟩), iv i] m (iv (eAt es (ahN es.length i)).2) := by
 refine qv dc1_ok (by simp) ?_
 obtain ⟨e, he⟩ : ∃ e, es[ahN es.length i]? = some e := ⟨_, DW (zO hi)⟩
 have ⟨a1, a2, a3⟩ := hed.at he
 have c1 := Call.use (m0 := m) fun m'' h => xG n PB ed es.length i hi hl m'' (by rw [qy h hPB]; exact hp) hed.len
 have hS := Sees.refl hm
 have a4 : ∀ m'', Sees m m'' → load1 m'' ⟨(adr 2 ed (ahN es.length i)).block, (adr 2 ed (ahN es.length i)).off + 1, none⟩ = some (iv e.2) := fun m'' h => a3 m'' 1 none h (by simp [edgeRow])
 have a5 : (eAt es (ahN es.length i)).2 = e.2 := by rw [wt he]
 simp (maxDischargeDepth := 30) [hp, a1, c1, hS, a4, a5]
 exact qH (by simp (maxDischargeDepth := 30) [c1, hS]) (by simp)
theorem QO (n : Nat) (ed md : Value) (es : List (Int × Int)) (hl : es.length ≤ 16) (m : M) (hm : m.base ≤ m.n) (hed : Rd m ed 2 edgeRow es) (i : Nat) (hi : i < es.length) :
  CallV (ex Try.prog (n + 2)) 48 [.agg #[ed, md], iv i] m (iv (eAt es (ahN es.length i)).2) := by
 refine qv dc9_ok (by simp) ?_
 have hm0 : Sees m (Dx.newRow m [ed, md]) := by simp [Sees.refl hm]
 have hS0 := wL hm [ed, md]
 have b0 := fun m'' (h : Sees (Dx.newRow m [ed, md]) m'') => (wj (m := m) (l := [ed, md]) h).2
 have bl : ∀ m'', Sees (Dx.newRow m [ed, md]) m'' → loads m'' ⟨m.n, 0, none⟩ 2 = some [ed, md] := fun m'' h => (wj (m := m) (l := [ed, md]) h).1 0 2 none (by simp)
 obtain ⟨e, he⟩ : ∃ e, es[ahN es.length i]? = some e := ⟨_, DW (zO hi)⟩
 have ⟨a1, a2, a3⟩ := (hed.sees hm0).at he
 have c1 := Call.use (m0 := Dx.newRow m [ed, md]) fun m'' _ => vY n ed md es.length i hi (by omega) hed.len m''
 have a4 : ∀ m'', Sees (Dx.newRow m [ed, md]) m'' → load1 m'' ⟨(adr 2 ed (ahN es.length i)).block, (adr 2 ed (ahN es.length i)).off + 1, none⟩ = some (iv e.2) := fun m'' h => a3 m'' 1 none h (by simp [edgeRow])
 have a5 : (eAt es (ahN es.length i)).2 = e.2 := by rw [wt he]
 simp (maxDischargeDepth := 30) [hS0, b0, bl, qf, a1, c1, a4, a5]
 exact qH (by simp (maxDischargeDepth := 30) [c1, hS0]) (by simp)
theorem Bn (n : Nat) (ed md : Value) (es : List (Int × Int)) (hl : es.length ≤ 16) (m : M) (hm : m.base ≤ m.n) (hed : Rd m ed 2 edgeRow es) :
  CallV (ex Try.prog (n + 3)) 16 [.agg #[ed, md]] m (iv (es.length - cnt es : Nat)) := by
 refine qv da6_ok (by simp) ?_
 have hm0 : Sees m (Dx.newRow m [ed, md]) := by simp [Sees.refl hm]
 have hS0 := wL hm [ed, md]
 have bl : ∀ m'', Sees (Dx.newRow m [ed, md]) m'' → loads m'' ⟨m.n, 0, none⟩ 2 = some [ed, md] := fun m'' h => (wj (m := m) (l := [ed, md]) h).1 0 2 none (by simp)
 obtain ⟨q, hq⟩ := qaj (es.length - cnt es)
 have d1 := Call.use (m0 := Dx.newRow m [ed, md]) fun m'' h => Xc n ed md es hl m'' h.base (hed.sees (hm0.trans h))
 rw [← hq] at d1 ⊢
 simp (maxDischargeDepth := 30) [hS0, bl, qf, d1]
 exact qH (by simp (maxDischargeDepth := 30) [hS0, d1]) (by simp)
theorem XS (n : Nat) (ed md : Value) (es : List (Int × Int)) (hl : es.length ≤ 16) (m : M) (hm : m.base ≤ m.n) (hed : Rd m ed 2 edgeRow es) :
  CallV (ex Try.prog (n + 3)) 17 [.agg #[ed, md]] m (iv (cnt es : Nat)) := by
 refine qv da7_ok (by simp) ?_
 have hm0 : Sees m (Dx.newRow m [ed, md]) := by simp [Sees.refl hm]
 have hS0 := wL hm [ed, md]
 have bl : ∀ m'', Sees (Dx.newRow m [ed, md]) m'' → loads m'' ⟨m.n, 0, none⟩ 2 = some [ed, md] := fun m'' h => (wj (m := m) (l := [ed, md]) h).1 0 2 none (by simp)
 obtain ⟨q, hq⟩ := qaj (es.length - cnt es)
 have d1 := Call.use (m0 := Dx.newRow m [ed, md]) fun m'' h => Xc n ed md es hl m'' h.base (hed.sees (hm0.trans h))
 rw [← hq] at d1
 simp (maxDischargeDepth := 30) [hS0, bl, qf, d1]
 exact qH (by simp (maxDischargeDepth := 30) [hS0, d1]) (by simp)
def wrR (es : List (Int × Int)) (b c : Nat) : Nat := (List.range es.length).countP fun i => qu es i && decide (qq es b true i = c)
theorem Yd (n : Nat) (ed md : Value) (es : List (Int × Int)) (hl : es.length ≤ 16) (m : M) (hm : m.base ≤ m.n) (hed : Rd m ed 2 edgeRow es) (b : Nat) (hb : first es.length (zB es) = some b) (c : Nat) :
  CallV (ex Try.prog (n + 6)) 18 [.agg #[ed, md], iv c] m (iv (wrR es b c)) := by
 refine qv da8_ok (by simp) ?_
 have hm0 : Sees m (Dx.newRow m [ed, md]) := by simp [Sees.refl hm]
 have hel := hed.len
 simp
 refine qm (c := ca8_8) rfl (Ret m _) (fun i t m' => Tm.get 1 t = iv c ∧ Tm.get 2 t = .pointer (some ⟨m.n, 0, none⟩) ∧ Tm.get 5 t = iv ((List.range i).countP fun i => qu es i && decide (qq es b true i = c)) ∧ Tm.get 6 t = iv i ∧ Ext m m' ∧ Sees (Dx.newRow m [ed, md]) m') es.length (by omega)
  ⟨by simp, by simp, by simp, by simp, by simp, wL hm _⟩ (fun i t m' k hi hI hk => ?_)
 obtain ⟨h1, h2, h5, h6, hE, hS⟩ := hI
 have b0 := fun m'' (h : Sees m' m'') => (wj (m := m) (l := [ed, md]) (hS.trans h)).2
 have bl : ∀ m'', Sees m' m'' → loads m'' ⟨m.n, 0, none⟩ 2 = some [ed, md] := fun m'' h => (wj (m := m) (l := [ed, md]) (hS.trans h)).1 0 2 none (by simp)
 have hS' := hS.self
 obtain ⟨q, hq⟩ := qaj ((List.range i).countP fun i => qu es i && decide (qq es b true i = c))
 rw [← hq] at h5
 have hqi : q ≤ i := by rw [hq]; have := List.countP_le_length (p := fun i => qu es i && decide (qq es b true i = c)) (l := List.range i); simpa using this
 by_cases hil : i < es.length
 ·obtain ⟨e, he⟩ : ∃ e, es[i]? = some e := ⟨_, DW hil⟩
  have hfx : qu es i = we e.1 := by unfold qu; rw [wt he]
  have ⟨a1, a2, a3⟩ := (hed.sees (m' := m') (hm0.trans hS)).at he
  have a4 : ∀ m'', Sees m' m'' → load1 m'' ⟨(adr 2 ed i).block, (adr 2 ed i).off, none⟩ = some (iv e.1) := fun m'' h => a3 m'' 0 none h (by simp [edgeRow])
  have hd := dlt hil
  have w1 := qJ (i := i) (by omega)
  have w2 := qJ (i := q) (by omega)
  obtain ⟨C, hC⟩ := qaj (qq es b true i)
  have hsucc : (List.range (i + 1)).countP (fun i => qu es i && decide (qq es b true i = c)) = q + if we e.1 = true ∧ C = c then 1 else 0 := by
   rw [List.range_succ, List.countP_append, ← hq]; simp [hfx, ← hC]
  obtain ⟨v1, m1, g1, g2, rfl⟩ := fG (n + 4) e.1 m'
  have hS1 := hS'.ext g2
  obtain ⟨v2, m2, p1, p2, hv2⟩ := Zd n ed md es hl m1 hS1.base (hed.sees (hm0.trans (hS.trans hS1))) b hb i hil _ (vO hil)
  rw [← hC] at hv2
  subst hv2
  have b1 := b0 m1 hS1
  have bl1 := bl m1 hS1
  cases hf : we e.1 with
  | false =>
   rw [hf] at hsucc
   simp [h1, h2, h5, h6, hd, hel, b0, hS', a1, a4, g1, hf, w1]
   refine hk hil _ _ ?_
   exact ⟨by simp [h1], by simp [h2], by rw [hsucc]; simp [h5], by simp, hE.trans g2, hS.trans hS1⟩
  | true =>
   rw [hf] at hsucc
   by_cases e' : C = c
   ·subst e'
    simp [h1, h2, h5, h6, hd, hel, b0, hS', a1, a4, g1, hf, w1, w2, bl1, qf, p1]
    refine hk hil _ _ ?_
    exact ⟨by simp [h1], by simp [h2], by rw [hsucc]; simp, by simp, (hE.trans g2).trans p2, (hS.trans hS1).ext p2⟩
   ·have e2 : ((C : Int) = (c : Int)) = False := eq_false (by omega)
    simp [h1, h2, h5, h6, hd, hel, b0, hS', a1, a4, g1, hf, w1, w2, bl1, qf, p1, e2]
    refine hk hil _ _ ?_
    exact ⟨by simp [h1], by simp [h2], by rw [hsucc]; simp [h5, e'], by simp, (hE.trans g2).trans p2, (hS.trans hS1).ext p2⟩
 obtain rfl : i = es.length := by omega
 have hd : ((es.length : Int) < (es.length : Int)) = False := eq_false (by omega)
 simp [h1, h2, h5, h6, hd, hel, b0, hS']
 refine qH hE ?_
 unfold wrR; rw [← hq]; simp
end Go.Sx
namespace Go.Sx
open Go.Dx Go.Proofs
def back (len : Nat) : Nat → Nat → Nat
 | 0, i => i
 | k + 1, i => ahN len (back len k i)
theorem JT {len i : Nat} (h : i < len) : ∀ k, back len k i < len
 | 0 => h
 | k + 1 => zO (JT h k)
structure jI (es : List (Int × Int)) (i d : Nat) : Prop where
 out : ∀ j, j < d → qx es (ahN es.length (back es.length j i)) = true
 inn : qx es (ahN es.length (back es.length d i)) = false
 le : d ≤ 1000
def bw (es : List (Int × Int)) (i d : Nat) : Nat := (List.range d).countP fun t => qu es (back es.length (t + 1) i)
theorem Bw (es : List (Int × Int)) (i d : Nat) : bw es i (d + 1) = bw es i d + if qu es (back es.length (d + 1) i) then 1 else 0 := by
 unfold bw; rw [List.range_succ, List.countP_append]; simp
theorem bw_le (es : List (Int × Int)) (i d : Nat) : bw es i d ≤ d := by
 unfold bw; have := List.countP_le_length (p := fun t => qu es (back es.length (t + 1) i)) (l := List.range d); simpa using this
theorem Ka (n : Nat) (ed md : Value) (es : List (Int × Int)) (hl : es.length ≤ 16) (m : M) (hm : m.base ≤ m.n) (hed : Rd m ed 2 edgeRow es) (i : Nat) (hi : i < es.length) (hf : qu es i = true) (d : Nat) (hd : jI es i d) :
  CallV (ex Try.prog (n + 2)) 50 [.agg #[ed, md], iv i] m (iv (1 + bw es i d : Nat)) := by
 refine qv Fh (by simp) ?_
 have hm0 : Sees m (Dx.newRow m [ed, md]) := by simp [Sees.refl hm]
 have hS0 := wL hm [ed, md]
 have hel := hed.len
 obtain ⟨m1, hm1⟩ := qaj (Dx.newRow m [ed, md])
 have E1 : Ext m m1 := by rw [hm1]; exact Ext.row _ _
 have b0 : ∀ m'', Sees m1 m'' → ∀ o s, load1 m'' ⟨m.n, o, s⟩ = [ed, md][o]? := fun m'' h => (wj (m := m) (l := [ed, md]) (by rw [← hm1]; exact h)).2
 have bl : ∀ m'', Sees m1 m'' → loads m'' ⟨m.n, 0, none⟩ 2 = some [ed, md] := fun m'' h => (wj (m := m) (l := [ed, md]) (by rw [← hm1]; exact h)).1 0 2 none (by simp)
 rw [← hm1] at hm0 hS0
 obtain ⟨e, he⟩ : ∃ e, es[i]? = some e := ⟨_, DW hi⟩
 have hfx : qu es i = we e.1 := by unfold qu; rw [wt he]
 have ⟨a1, a2, a3⟩ := (hed.sees hm0).at he
 have a4 : ∀ m'', Sees m1 m'' → load1 m'' ⟨(adr 2 ed i).block, (adr 2 ed i).off, none⟩ = some (iv e.1) := fun m'' h => a3 m'' 0 none h (by simp [edgeRow])
 obtain ⟨v2, m2, p1, p2, rfl⟩ := vY n ed md es.length i hi (by omega) hel m1
 have hS2 := hS0.ext p2
 obtain ⟨v3, m3, g1, g2, rfl⟩ := fG n e.1 m2
 rw [← hfx, hf] at g1
 have hS3 := hS2.ext g2
 have w0 : IntKind.i64.wrap 1 = 1 := rfl
 simp [← hm1, bl, b0, hS0, hS2, qf, p1, a1, a4, g1]
 refine qm (c := YN) rfl (Ret m _) (fun j t m' => j ≤ d ∧ Tm.get 1 t = iv (back es.length j i) ∧ Tm.get 2 t = .pointer (some ⟨m.n, 0, none⟩) ∧ Tm.get 6 t = iv (1 + bw es i j : Nat) ∧ Ext m m' ∧ Sees m1 m') (d + 1) (by have := hd.le; omega)
  ⟨by omega, by simp [back], by simp, by simp [bw], (E1.trans p2).trans g2, hS3⟩ (fun j t m' k hj hI hk => ?_)
 obtain ⟨hjd, h1, h2, h6, hE, hS⟩ := hI
 have hS' := hS.self
 obtain ⟨x, hx⟩ := qaj (back es.length j i)
 have hxl : x < es.length := by rw [hx]; exact JT hi j
 rw [← hx] at h1
 obtain ⟨y, hy⟩ := qaj (ahN es.length x)
 have hyl : y < es.length := by rw [hy]; exact zO hxl
 obtain ⟨f, hf'⟩ : ∃ e, es[y]? = some e := ⟨_, DW hyl⟩
 have ⟨u1, u2, u3⟩ := (hed.sees (m' := m') (hm0.trans hS)).at hf'
 have u2' : ∀ m'', Sees m' m'' → loads m'' (adr 2 ed y) 2 = some [iv f.1, iv f.2] := u2
 have u4 : ∀ m'', Sees m' m'' → load1 m'' ⟨(adr 2 ed y).block, (adr 2 ed y).off, none⟩ = some (iv f.1) := fun m'' h => u3 m'' 0 none h (by simp [edgeRow])
 have c1 := Call.use (m0 := m') fun m'' _ => by have := vY n ed md es.length x hxl (by omega) hel m''; rwa [← hy] at this
 have c2 := Call.use (m0 := m') fun m'' _ => gY n f.1 f.2 m''
 have b0' := fun m'' (h : Sees m' m'') => b0 m'' (hS.trans h)
 have bl' := fun m'' (h : Sees m' m'') => bl m'' (hS.trans h)
 have ho := jE hf'
 obtain ⟨q, hq⟩ := qaj (1 + bw es i j)
 have hq1000 : q ≤ 1001 := by have := bw_le es i j; have := hd.le; omega
 rw [← hq] at h6
 simp (maxDischargeDepth := 30) [h1, h2, h6, b0', bl', hS', qf, c1, c2, u1, u2', ho]
 obtain ⟨m4, hm4⟩ := qaj (behind m' (aft (ex Try.prog (n + 1)) 73 [Value.agg #[iv f.1, iv f.2]] (qi (behind m' (aft (ex Try.prog (n + 1)) 74 [Value.agg #[ed, md], iv x] (qi m'))))))
 cases ho' : qx es y with
 | false =>
  have hjd' : j = d := by
   rcases Nat.lt_or_ge j d with h | h
   ·have := hd.out j h; rw [← hx, ← hy, ho'] at this; cases this
   ·omega
  simp [h6]
  refine qH (by simp (maxDischargeDepth := 30) [hE, hS', c1, c2]) ?_
  simp [hq, hjd']
 | true =>
  have hjd' : j < d := by
   rcases Nat.lt_or_ge j d with h | h
   ·exact h
   ·have : j = d := by omega
    subst this
    have := hd.inn; rw [← hx, ← hy, ho'] at this; cases this
  have hb : back es.length (j + 1) i = y := by show ahN es.length (back es.length j i) = y; rw [← hx, hy]
  have hfy : qu es y = we f.1 := by unfold qu; rw [wt hf']
  have hsucc := Bw es i j
  rw [hb, hfy] at hsucc
  have c3 := Call.use (m0 := m') fun m'' _ => fG n f.1 m''
  have w2 : IntKind.i64.wrap ((q : Int) + 1) = ((q + 1 : Nat) : Int) := qJ (by omega)
  simp (maxDischargeDepth := 30) [h1, h2, h6, b0', bl', hS', qf, c1, c2, c3, u1, u4]
  cases hff : we f.1 with
  | true =>
   rw [hff] at hsucc
   simp [h6, w2]
   refine hk (by omega) _ _ ?_
   exact ⟨by omega, by rw [hb]; simp, by simp [h2], by rw [hsucc, show 1 + (bw es i j + if true = true then 1 else 0) = q + 1 by rw [hq]; simp; omega]; simp, by simp (maxDischargeDepth := 30) [hE, hS', c1, c2, c3], by simp (maxDischargeDepth := 30) [hS, hS', c1, c2, c3]⟩
  | false =>
   rw [hff] at hsucc
   simp
   refine hk (by omega) _ _ ?_
   exact ⟨by omega, by rw [hb]; simp, by simp [h2], by rw [hsucc, show 1 + (bw es i j + if false = true then 1 else 0) = q by rw [hq]; simp]; simp [h6], by simp (maxDischargeDepth := 30) [hE, hS', c1, c2, c3], by simp (maxDischargeDepth := 30) [hS, hS', c1, c2, c3]⟩
def qU (es : List (Int × Int)) (V : Nat → Nat) (i : Nat) : Nat := if qu es i then V i else if (eAt es (ahN es.length i)).1 = 1 then V (ahN es.length i) else 0
theorem JM (n : Nat) (ed md : Value) (es : List (Int × Int)) (hl : es.length ≤ 16) (m : M) (hm : m.base ≤ m.n) (hed : Rd m ed 2 edgeRow es) (V : Nat → Nat) (hV : ∀ i, i < es.length → qu es i = true → ∃ d, jI es i d ∧ V i = 1 + bw es i d) (i : Nat) (hi : i < es.length) :
  CallV (ex Try.prog (n + 3)) 50 [.agg #[ed, md], iv i] m (iv (qU es V i)) := by
 by_cases hf : qu es i = true
 ·obtain ⟨d, hd, e⟩ := hV i hi hf
  have := Ka (n + 1) ed md es hl m hm hed i hi hf d hd
  rwa [show qU es V i = 1 + bw es i d by unfold qU; rw [if_pos hf, e]]
 have hf0 : qu es i = false := by simpa using hf
 refine qv Fh (by simp) ?_
 have hm0 : Sees m (Dx.newRow m [ed, md]) := by simp [Sees.refl hm]
 have hS0 := wL hm [ed, md]
 have hel := hed.len
 obtain ⟨m1, hm1⟩ := qaj (Dx.newRow m [ed, md])
 have E1 : Ext m m1 := by rw [hm1]; exact Ext.row _ _
 have b0 : ∀ m'', Sees m1 m'' → ∀ o s, load1 m'' ⟨m.n, o, s⟩ = [ed, md][o]? := fun m'' h => (wj (m := m) (l := [ed, md]) (by rw [← hm1]; exact h)).2
 have bl : ∀ m'', Sees m1 m'' → loads m'' ⟨m.n, 0, none⟩ 2 = some [ed, md] := fun m'' h => (wj (m := m) (l := [ed, md]) (by rw [← hm1]; exact h)).1 0 2 none (by simp)
 rw [← hm1] at hm0 hS0
 obtain ⟨e, he⟩ : ∃ e, es[i]? = some e := ⟨_, DW hi⟩
 have hfx : qu es i = we e.1 := by unfold qu; rw [wt he]
 have ⟨a1, a2, a3⟩ := (hed.sees hm0).at he
 have a4 : ∀ m'', Sees m1 m'' → load1 m'' ⟨(adr 2 ed i).block, (adr 2 ed i).off, none⟩ = some (iv e.1) := fun m'' h => a3 m'' 0 none h (by simp [edgeRow])
 obtain ⟨y, hy⟩ := qaj (ahN es.length i)
 have hyl : y < es.length := by rw [hy]; exact zO hi
 obtain ⟨f, hf'⟩ : ∃ e, es[y]? = some e := ⟨_, DW hyl⟩
 have ⟨u1, u2, u3⟩ := (hed.sees hm0).at hf'
 have u4 : ∀ m'', Sees m1 m'' → load1 m'' ⟨(adr 2 ed y).block, (adr 2 ed y).off, none⟩ = some (iv f.1) := fun m'' h => u3 m'' 0 none h (by simp [edgeRow])
 obtain ⟨v2, m2, p1, p2, rfl⟩ := vY (n + 1) ed md es.length i hi (by omega) hel m1
 rw [← hy] at p1
 have hS2 := hS0.ext p2
 obtain ⟨v3, m3, g1, g2, rfl⟩ := fG (n + 1) e.1 m2
 rw [← hfx, hf0] at g1
 have hS3 := hS2.ext g2
 have hval : qU es V i = if f.1 = 1 then V y else 0 := by unfold qU; rw [if_neg hf, ← hy, wt hf']
 rw [hval]
 by_cases h1 : f.1 = 1
 ·have hfy : qu es y = true := by unfold qu; rw [wt hf', h1]; rfl
  obtain ⟨d, hd, e⟩ := hV y hyl hfy
  obtain ⟨v4, m4, q1, q2, rfl⟩ := Ka n ed md es hl m3 hS3.base (hed.sees (hm0.trans hS3)) y hyl hfy d hd
  rw [← e] at q1
  simp [← hm1, bl, b0, hS0, hS2, hS3, qf, p1, a1, a4, g1, u1, u4, h1, q1]
  exact qH (((E1.trans p2).trans g2).trans q2) (by simp)
 ·simp [← hm1, bl, b0, hS0, hS2, hS3, qf, p1, a1, a4, g1, u1, u4, h1]
  exact qH ((E1.trans p2).trans g2) (by simp)
end Go.Sx
namespace Go.Dx
def upN {α : Type} (f : Nat → α) (j : Nat) (v : α) : Nat → α := fun k => if k = j then v else f k
theorem qI {α : Type} (f : Nat → α) (j : Nat) (v : α) : upN f j v j = v := by unfold upN; rw [if_pos rfl]
theorem wx {α : Type} (f : Nat → α) {j k : Nat} (v : α) (h : k ≠ j) : upN f j v k = f k := by unfold upN; rw [if_neg h]
theorem zj {e n : Nat} {f : Nat → List Value} (h : ∀ j, (f j).length = e) : ((List.range n).flatMap f).length = n * e := by
 have := wi h (List.range n); simpa using this
theorem xy {e : Nat} {f g : Nat → List Value} {j o : Nat} {v : Value} (hf : ∀ k, (f k).length = e) (ho : o < e) (hne : ∀ k, k ≠ j → g k = f k) (hj : g j = (f j).set o v) : ∀ n, j < n → ((List.range n).flatMap f).set (j * e + o) v = (List.range n).flatMap g := by
 intro n
 induction n with
 | zero => intro h; omega
 | succ n ih =>
  intro h
  rw [List.range_succ, List.flatMap_append, List.flatMap_append]
  have hl := zj (n := n) hf
  by_cases e' : j = n
  ·subst e'
   have key : ∀ m, m ≤ j → (List.range m).flatMap g = (List.range m).flatMap f := by
    intro m
    induction m with
    | zero => intro _; rfl
    | succ m im => intro hm; rw [List.range_succ, List.flatMap_append, List.flatMap_append, im (by omega)]; simp [hne m (by omega)]
   rw [key j (DZ _), List.set_append_right _ _ (by omega), hl, show j * e + o - j * e = o by omega]
   simp [hj]
  ·have hjn : j < n := by omega
   have := qag e (Nat.succ_le_of_lt hjn)
   rw [Nat.succ_mul] at this
   rw [List.set_append_left _ _ (by omega), ih hjn]
   simp [hne n (by omega)]
theorem dy (n : Nat) (l : List Value) : rep n l = (List.range n).flatMap fun _ => l := by
 induction n with
 | zero => rfl
 | succ n ih =>
  rw [List.range_succ_eq_map, List.flatMap_cons, List.flatMap_map]
  show l ++ rep n l = _
  rw [ih]
theorem zV {e c : Nat} (B n i : Nat) (h : i < n) : wX e (.slice (some ⟨B, 0, some c⟩) n n) (.int .i64 i) = some (.pointer (some ⟨B, i * e, none⟩)) := by
 show (bif Nat.blt i n then fK (i * e) ⟨B, 0, some c⟩ else none) = _
 rw [show Nat.blt i n = true from qa4 h]
 show some (Value.pointer (some ⟨B, 0 + i * e, none⟩)) = _
 rw [Nat.zero_add]
theorem zl {α : Type} {m : M} {B c e : Nat} {f : α → List Value} (hf : ∀ x, (f x).length = e) {l : List α} (h : Arr m B (l.flatMap f)) (hB : B < m.n) : Rd m (.slice (some ⟨B, 0, some c⟩) l.length l.length) e f l := by
 have hlen := wi hf l
 refine ⟨rfl, fun i r hr => ?_, ?_, fun C hC => by cases hC; exact hB⟩
 ·have hi := (DY.1 hr).1
  refine ⟨?_, hB, ?_⟩
  ·rw [zV B _ i hi]
   show _ = some (Value.pointer (some ⟨B, 0 + i * e, none⟩))
   rw [Nat.zero_add]
  ·show loads m ⟨B, 0 + i * e, none⟩ e = _
   have := qag e (Nat.succ_le_of_lt hi)
   rw [Nat.succ_mul] at this
   rw [Nat.zero_add, h.loads (by omega), zv hf l i r hr]
 ·show loads m _ (l.length * e) = _
  rw [h.loads (by omega), List.drop_zero, ← hlen, List.take_length]
theorem vG {e : Nat} {f : Nat → List Value} (hf : ∀ j, (f j).length = e) {n j o : Nat} (hj : j < n) (ho : o < e) : ((List.range n).flatMap f)[j * e + o]? = (f j)[o]? := by
 have := zv hf (List.range n) j j (by rw [List.getElem?_range hj])
 have h2 := congrArg (fun l => l[o]?) this
 simp only [List.getElem?_take, ho, if_true, List.getElem?_drop] at h2
 exact h2
theorem fl {n e bytes : Nat} {zs : List Value} (hz : zs.length = e) (h : n ≤ 1000) (hb : bytes ≤ 1000) (he : e ≤ 100) (m : M) : dk e bytes zs (.int .i64 (n : Int)) (.int .i64 (n : Int)) m = some (.slice (some ⟨m.n, 0, some (code e true)⟩) n n, newRow m ((List.range n).flatMap fun _ => zs)) := by
 show (bif Nat.ble n n && Nat.ble (n * bytes) most && Nat.ble n 4611686018427387904 && Nat.ble (n * e) 1048576 then some (Value.slice (some ⟨m.n, 0, some (code e true)⟩) n n, newRow m (rep n zs)) else none) = _
 have h1 : n * bytes ≤ 1000 * 1000 := Nat.mul_le_mul h hb
 have h2 : n * e ≤ 1000 * 100 := Nat.mul_le_mul h he
 rw [qa4 (DZ n), qa4 (by unfold most; omega), qa4 (by omega), qa4 (by omega), dy]
 rfl
@[simp] theorem pConvI_ap (k : IntKind) (a : V) (t : Tm) : zY k a t = Ff k (a t) := _root_.id rfl
@[simp] theorem zu (x : Nat) (h : x < 1000000) : Ff .u64 (.int .i64 (x : Int)) = some (.int .u64 (x : Int)) := by
 show some (Value.int .u64 (yp .u64 (x : Int))) = _
 rw [jZ]
 have : IntKind.u64.wrap (x : Int) = (x : Int) := by
  unfold IntKind.wrap; simp [IntKind.bits, IntKind.signed]; omega
 rw [this]
end Go.Dx
namespace Go.Dx
section
variable {m0 m m' : M} {σ σ' : List (Nat × List Value)} {k b : Nat} {l : List Value}
theorem St.sub (h : St m0 m σ) (hs : ∀ p ∈ σ', p ∈ σ) (hn : (σ'.map (·.1)).Nodup) : St m0 m σ' := ⟨h.ext, h.base, fun p hp => h.arr p (hs p hp), hn⟩
theorem Grown.low {α : Type} {m0 m0' m : M} {v : Value} {e : Nat} {f : α → List Value} {es : List α} (h : Grown m0 m v e f es) (hn : m0'.n ≤ m0.n) : Grown m0' m v e f es := by
 rcases h with h | ⟨B, h1, h2⟩
 ·exact .inl h
 ·exact .inr ⟨B, by omega, h2⟩
theorem St.fillAny (h : St m0 m σ) (k : Nat) (hk : σ[k]? = some (b, l)) {n : Nat} {l' : List Value} (hn0 : 0 < n) (hl : l.length = n) (hl' : l'.length = n) (hv : ∀ v ∈ l', okC v = true) :
  ∃ m', wh n (.pointer (some ⟨b, 0, none⟩)) (.agg ⟨l'⟩) (qi m) = some (undef, m') ∧ m'.log = [b] ∧ St m0 (Dx.behind m m') (σ.set k (b, l')) ∧ (Dx.behind m m').n = m.n ∧ (∀ X, X ≠ b → (Dx.behind m m').obj X = m.obj X) := by
 obtain ⟨h1, h2, h3⟩ := h.get k hk
 have h3' : Arr (qi m) b l := h3.congr (qB m b)
 have e := zr (n := n) (o := 0) (v := .agg ⟨l'⟩) (l := l') h3' rfl hl' (by omega) hv
 obtain ⟨s1, s2, s3, s4, s5, s6⟩ := wV (o := 0) (l := l') h3' (by omega) hv
 rw [gq (by omega)] at s2
 have hlog : (js (qi m) b 0 l').log = [b] := by
  obtain ⟨c, hc, hcl⟩ := h3'
  obtain ⟨v0, vs, rfl⟩ : ∃ v0 vs, l' = v0 :: vs := by
   cases l' with
   | nil => simp at hl'; omega
   | cons a b => exact ⟨a, b, rfl⟩
  have : ∃ c', wF (qi m) ⟨b, 0, none⟩ (v0 :: vs) = some ((qi m).put b (.cells c')) := by
   have hs : wF (qi m) ⟨b, 0, none⟩ (v0 :: vs) = ob (vd ((qi m).obj b)) fun c => ob (stn c 0 (v0 :: vs)) fun c' => some ((qi m).put b (.cells c')) := rfl
   rw [hs, hc]
   obtain ⟨c', e', _⟩ := dB (vs := v0 :: vs) (o := 0) hcl (by omega) hv
   exact ⟨c', by show ob (stn c 0 (v0 :: vs)) _ = _; rw [e']; rfl⟩
  obtain ⟨c', e'⟩ := this
  have hp : js (qi m) b 0 (v0 :: vs) = (qi m).put b (.cells c') := by unfold js; rw [e']; rfl
  rw [hp]
  cases m with | mk a nx bs wl =>
  show note nx b [] = [b]
  have h2' : b < nx := h2
  unfold note
  have : Nat.ble nx b = false := by
   cases q : Nat.ble nx b with
   | false => rfl
   | true => exact absurd (qa5 q) (by omega)
  rw [this]; rfl
 refine ⟨_, e, hlog, h.put' k hk (by rw [qY, s3, qw]) (kw _ _) ?_ (fun X hX => by rw [qC, s5 X hX, qB]) (s2.congr (qC _ _ _)), by rw [qY, s3, qw], fun X hX => by rw [qC, s5 X hX, qB]⟩
 rw [kM, hlog]
 refine fm fun B hB => ?_
 rw [qa3.1 hB, h.ext.base]
 have := h.base
 omega
end
end Go.Dx
namespace Go.Dx
@[simp] theorem eqFV_ap (neg : Bool) (ks : List Nat) (a b : List Value) : eqFV neg ks (.agg ⟨a⟩) (.agg ⟨b⟩) = ob (wZ ks a b) fun r => some (.bool (bif neg then !r else r)) := _root_.id rfl
theorem wN (ks : List Nat) (k : IntKind) (x : Int) (l r : List Value) : wZ (1 :: ks) (.int k x :: l) (.int k x :: r) = wZ ks l r := by
 have h : eqK 1 (.int k x) (.int k x) = some true := by
  show (bif Nat.beq (ik k) (ik k) then some (eqI x x) else none) = _
  rw [Nat.beq_refl, vE]; simp
 show ob (eqK 1 (.int k x) (.int k x)) _ = _
 rw [h]; rfl
theorem xY (l r : List Value) : wZ [] l r = some true := rfl
end Go.Dx
namespace Go.Sx
open Go.Dx Go.Proofs
theorem grown_low {α : Type} {m0 m : M} {v : Value} {e : Nat} {f : α → List Value} {es : List α} (h : Grown m0 m v e f es) : ∀ B, blk v = some B → m0.n ≤ B ∧ B < m.n := by
 rcases h with ⟨_, rfl⟩ | ⟨B', h1, h2, _, rfl, _⟩
 ·intro B hB; cases hB
 ·intro B hB; cases hB; exact ⟨h1, h2⟩
structure LF (m1 : M) (PB A5 A6 A7 c1 : Nat) (ed ec md : Value) (es : List (Int × Int)) (ms : List Int) (TH CE VA : Nat → Nat) : Prop where
 lP : PB < m1.n
 l5 : A5 < m1.n
 l6 : A6 < m1.n
 l7 : A7 < m1.n
 lc : c1 < m1.n
 p0 : load1 m1 ⟨PB, 0, none⟩ = some ed
 p5 : load1 m1 ⟨PB, 5, none⟩ = some (.slice (some ⟨A5, 0, some 3⟩) es.length es.length)
 p6 : load1 m1 ⟨PB, 6, none⟩ = some (.slice (some ⟨A6, 0, some 3⟩) es.length es.length)
 p7 : load1 m1 ⟨PB, 7, none⟩ = some (.slice (some ⟨A7, 0, some 3⟩) es.length es.length)
 a5 : ∀ i, i < es.length → load1 m1 ⟨A5, i, none⟩ = some (iv (TH i))
 a6 : ∀ i, i < es.length → load1 m1 ⟨A6, i, none⟩ = some (iv (CE i))
 a7 : ∀ i, i < es.length → load1 m1 ⟨A7, i, none⟩ = some (iv (VA i))
 hed : Rd m1 ed 2 edgeRow es
 c1m : load1 m1 ⟨c1, 1, none⟩ = some md
 hmd : Rd m1 md 1 modeRow ms
 small : ∀ i, VA i < 1000000
theorem LF.sees {m1 m : M} {PB A5 A6 A7 c1 : Nat} {ed ec md : Value} {es : List (Int × Int)} {ms : List Int} {TH CE VA : Nat → Nat} (h : LF m1 PB A5 A6 A7 c1 ed ec md es ms TH CE VA) (k : Sees m1 m) : LF m PB A5 A6 A7 c1 ed ec md es ms TH CE VA := by
 have hn := k.n
 exact ⟨qa1 h.lP hn, qa1 h.l5 hn, qa1 h.l6 hn, qa1 h.l7 hn, qa1 h.lc hn, (qy k h.lP).trans h.p0, (qy k h.lP).trans h.p5, (qy k h.lP).trans h.p6, (qy k h.lP).trans h.p7,
  fun i hi => (qy k h.l5).trans (h.a5 i hi), fun i hi => (qy k h.l6).trans (h.a6 i hi), fun i hi => (qy k h.l7).trans (h.a7 i hi), h.hed.sees k, (qy k h.lc).trans h.c1m, h.hmd.sees k, h.small⟩
def yA (es : List (Int × Int)) (i : Nat) : Int := (eAt es (ahN es.length i)).2
structure vv (es : List (Int × Int)) (va : List Nat) (TH CE VA WR : Nat → Nat) : Prop where
 th : ∀ i, i < es.length → (zW es (es.length - cnt es) (qt es (qN es))).th[i]? = some (TH i)
 tl : ∀ i, i < es.length → TH i < cnt es
 ce : ∀ i, i < es.length → (zW es (es.length - cnt es) (qt es (qN es))).ce[i]? = some (CE i)
 va : ∀ i, i < es.length → va[i]? = some (VA i)
 wr : ∀ x, x < es.length - cnt es → (zW es (es.length - cnt es) (qt es (qN es))).wr[x]? = some (WR x)
 vs : ∀ i, VA i < 1000000
 ws : ∀ i, WR i < 1000000
theorem _root_.Go.Dx.Rd.okV {α : Type} {m : M} {v : Value} {e : Nat} {f : α → List Value} {es : List α} (h : Rd m v e f es) : Dx.okC v = true := by
 have := h.len
 cases v with
 | slice a n c => rfl
 | _ => cases this
end Go.Sx
namespace Go.Sx
open Go.Dx Go.Proofs
structure AR where
 op : Int
 dst : Int
 base : Int
 mode : Int
 e : Option (Nat × Int × Nat)
def eV : Option (Nat × Int × Nat) → Value
 | none => .slice none 0 0
 | some (B, _) => .slice (some ⟨B, 0, some 9⟩) 1 1
def kl (r : AR) : List Value := [iv r.op, iv r.dst, iv r.base, iv 0, .slice none 0 0, eV r.e, .slice none 0 0, iv r.mode, iv 0, iv 0, iv 0]
def wY (op : Int) (v : Nat) : List Value := [iv op, .int .u64 v, iv 0, iv 0]
def kP (x : Nat) : List Value := [.int .u64 x]
theorem eV_ok (e : Option (Nat × Int × Nat)) : okC (eV e) = true := by cases e <;> rfl
theorem yr (r : AR) : (kl r).length = 11 := rfl
theorem fJ (r : AR) : ∀ v ∈ kl r, okC v = true := by simp [kl, okC]; exact eV_ok _
theorem vf (r : Nat) : (kP r).length = 1 := rfl
theorem Qy (r : Nat) : ∀ v ∈ kP r, okC v = true := by simp [kP, okC]
structure WB where
 q5 : Nat
 W : Nat
 P8 : Nat
 TB : Nat
 P9 : Nat
 OB : Nat
 PB : Nat
def vp (loc : Nat → Nat) (va : Nat → Value) (j : Nat) : List Value := [iv (loc j), va j]
def dp (vo : Nat → Value) (j : Nat) : List Value := [vo j]
def WB.σ (u : WB) (N nt : Nat) (fv : Value) (loc : Nat → Nat) (va vo : Nat → Value) : List (Nat × List Value) :=
 [(u.W, [.pointer (some ⟨u.PB, 0, none⟩)]), (u.TB, (List.range nt).flatMap (vp loc va)), (u.OB, (List.range nt).flatMap (dp vo)), (u.P9, [fv, .slice (some ⟨u.OB, 0, some 3⟩) nt nt]), (u.P8, [iv N, .slice (some ⟨u.TB, 0, some 5⟩) nt nt]), (u.q5, [.pointer (some ⟨u.PB, 0, none⟩)])]
structure WI (m1 m : M) (u : WB) (N nt : Nat) (fv : Value) (loc : Nat → Nat) (va vo : Nat → Value) (A : Nat → List AR) (O : Nat → List Nat) (tag : Nat → Nat) : Prop where
 st : St m1 m (u.σ N nt fv loc va vo)
 t0 : ∀ p ∈ u.σ N nt fv loc va vo, tag p.1 = 0
 ga : ∀ j, j < nt → Grown m1 m (va j) 11 kl (A j) ∧ ∀ B, blk (va j) = some B → tag B = 2 + 2 * j
 go : ∀ j, j < nt → Grown m1 m (vo j) 1 kP (O j) ∧ ∀ B, blk (vo j) = some B → tag B = 3 + 2 * j
 ge : ∀ j, j < nt → ∀ r, r ∈ A j → ∀ B op v, r.e = some (B, op, v) → m1.n ≤ B ∧ B < m.n ∧ Arr m B (wY op v) ∧ tag B = 1
section
variable {m1 m : M} {u : WB} {N nt : Nat} {fv : Value} {loc : Nat → Nat} {va vo : Nat → Value} {A : Nat → List AR} {O : Nat → List Nat} {tag : Nat → Nat}
theorem WI.step (h : WI m1 m u N nt fv loc va vo A O tag) {m' : M} (e : Ext m m') : WI m1 m' u N nt fv loc va vo A O tag :=
 ⟨h.st.step e, h.t0, fun j hj => ⟨(h.ga j hj).1.ext e, (h.ga j hj).2⟩, fun j hj => ⟨(h.go j hj).1.ext e, (h.go j hj).2⟩, fun j hj r hr B op v hB => let ⟨a, b, c, d⟩ := h.ge j hj r hr B op v hB; ⟨a, qa1 b e.n, c.ext e b, d⟩⟩
theorem WI.putL (h : WI m1 m u N nt fv loc va vo A O tag) {L : Nat} (hL : ∀ p ∈ u.σ N nt fv loc va vo, p.1 ≠ L) (h0 : m1.n ≤ L) (ht : tag L = 0) (o : zJ) : WI m1 (m.put L o) u N nt fv loc va vo A O tag := by
 have ne : ∀ B, tag B ≠ 0 → (m.put L o).obj B = m.obj B := fun B hB => by rw [M.obj_put, if_neg (by rintro rfl; exact hB ht)]
 refine ⟨h.st.putL hL h0 o, h.t0, fun j hj => ⟨(h.ga j hj).1.keep (by rw [M.n_put]; exact DZ _) fun B _ hB => ne B ?_, (h.ga j hj).2⟩, fun j hj => ⟨(h.go j hj).1.keep (by rw [M.n_put]; exact DZ _) fun B _ hB => ne B ?_, (h.go j hj).2⟩, fun j hj r hr B op v hB => ?_⟩
 ·rw [(h.ga j hj).2 B hB]; omega
 ·rw [(h.go j hj).2 B hB]; omega
 ·obtain ⟨a, b, c, d⟩ := h.ge j hj r hr B op v hB
  exact ⟨a, by rw [M.n_put]; exact b, c.congr (ne B (by rw [d]; omega)), d⟩
theorem WI.act' (h : WI m1 m u N nt fv loc va vo A O tag) {j : Nat} (hj : j < nt) (r : AR) {M1 : M} (hM : Ext m M1) (hE : ∀ B op v, r.e = some (B, op, v) → m.n ≤ B ∧ B < M1.n ∧ Arr M1 B (wY op v))
  {v' : Value} {m2 m3 : M} (e2 : Ext m1 m2) (g2 : Grown m1 m2 v' 11 kl (A j ++ [r])) (n2 : M1.n ≤ m2.n) (k2 : ∀ B, B < M1.n → blk (va j) ≠ some B → m2.obj B = M1.obj B) (b2 : ∀ B, blk v' = some B → M1.n ≤ B)
  (s3 : St m1 m2 (u.σ N nt fv loc va vo) → St m1 m3 ((u.σ N nt fv loc va vo).set 1 (u.TB, ((List.range nt).flatMap (vp loc va)).set (j * 2 + 1) v')) ∧ m3.n = m2.n ∧ ∀ X, X ≠ u.TB → m3.obj X = m2.obj X) :
  ∃ tag', WI m1 m3 u N nt fv loc (upN va j v') vo (upN A j (A j ++ [r])) O tag' ∧ M1.n ≤ m3.n ∧ ∀ L, L < m.n → tag L = 0 → tag' L = 0 ∧ (L ≠ u.TB → m3.obj L = m.obj L) := by
 have hvj := (h.ga j hj).2
 have low := grown_low (h.ga j hj).1
 have ne0 : ∀ B, tag B ≠ 2 + 2 * j → blk (va j) ≠ some B := fun B hB hc => hB (hvj B hc)
 have keep2 : ∀ B, B < m.n → tag B ≠ 2 + 2 * j → m2.obj B = m.obj B := fun B hB ht => (k2 B (by have := hM.n; omega) (ne0 B ht)).trans (hM.obj B hB)
 have st2 : St m1 m2 (u.σ N nt fv loc va vo) := h.st.keepOn e2 (by have := hM.n; omega) fun p hp => keep2 p.1 (h.st.arr p hp).2.1 (by rw [h.t0 p hp]; omega)
 obtain ⟨q1, q2, q3⟩ := s3 st2
 have hTB : tag u.TB = 0 := h.t0 (u.TB, (List.range nt).flatMap (vp loc va)) (by unfold WB.σ; simp)
 have hset : ((List.range nt).flatMap (vp loc va)).set (j * 2 + 1) v' = (List.range nt).flatMap (vp loc (upN va j v')) :=
  xy (e := 2) (fun k => rfl) (by omega) (fun k hk => by unfold vp; rw [wx _ _ hk]) (by unfold vp; rw [qI]; rfl) nt hj
 have st3 : St m1 m3 (u.σ N nt fv loc (upN va j v') vo) := by
  have e : (u.σ N nt fv loc va vo).set 1 (u.TB, ((List.range nt).flatMap (vp loc va)).set (j * 2 + 1) v') = u.σ N nt fv loc (upN va j v') vo := by rw [hset]; rfl
  rw [← e]; exact q1
 have hTBm : u.TB < m.n := (h.st.get 1 rfl).2.1
 obtain ⟨tag', htag⟩ : ∃ tag' : Nat → Nat, tag' = fun B => if B < m.n then tag B else if blk v' = some B then 2 + 2 * j else 1 := ⟨_, rfl⟩
 have told : ∀ B, B < m.n → tag' B = tag B := fun B hB => by rw [htag]; simp [hB]
 have tnew : ∀ B, blk v' = some B → tag' B = 2 + 2 * j := fun B hB => by
  have h1 := b2 B hB; have h2 := hM.n
  rw [htag]; simp only; rw [if_neg (by omega), if_pos hB]
 have keep3 : ∀ B, B < m.n → tag B ≠ 2 + 2 * j → B ≠ u.TB → m3.obj B = m.obj B := fun B hB ht hne => (q3 B hne).trans (keep2 B hB ht)
 refine ⟨tag', ⟨st3, fun p hp => ?_, fun k hk => ?_, fun k hk => ?_, fun k hk x hx B op v hB => ?_⟩, by omega, fun L hL ht => ⟨by rw [told L hL]; exact ht, fun hne => keep3 L hL (by omega) hne⟩⟩
 ·have hk : p.1 ∈ (u.σ N nt fv loc va vo).map (·.1) := by
   have e : (u.σ N nt fv loc va vo).map (·.1) = (u.σ N nt fv loc (upN va j v') vo).map (·.1) := rfl
   rw [e]; exact List.mem_map.2 ⟨_, hp, rfl⟩
  obtain ⟨p', hp', e⟩ := List.mem_map.1 hk
  rw [← e, told _ (h.st.arr p' hp').2.1]; exact h.t0 p' hp'
 ·by_cases e : k = j
  ·subst e
   rw [qI, qI]
   refine ⟨g2.keep (by omega) fun B hB hb => q3 B (by have := b2 B hb; have := hM.n; omega), tnew⟩
  ·rw [wx _ _ e, wx _ _ e]
   obtain ⟨g, t⟩ := h.ga k hk
   have lk := grown_low g
   refine ⟨g.keep (by have := hM.n; omega) fun B hB hb => keep3 B hB (by rw [t B hb]; omega) (by rintro rfl; have := t _ hb; omega), fun B hB => by rw [told _ (lk B hB).2]; exact t B hB⟩
 ·obtain ⟨g, t⟩ := h.go k hk
  have lk := grown_low g
  refine ⟨g.keep (by have := hM.n; omega) fun B hB hb => keep3 B hB (by rw [t B hb]; omega) (by rintro rfl; have := t _ hb; omega), fun B hB => by rw [told _ (lk B hB).2]; exact t B hB⟩
 ·have old : x ∈ A k → m1.n ≤ B ∧ B < m3.n ∧ Arr m3 B (wY op v) ∧ tag' B = 1 := fun hx => by
   obtain ⟨a, b, c, d⟩ := h.ge k hk x hx B op v hB
   refine ⟨a, by have := hM.n; omega, c.congr (keep3 B b (by omega) (by rintro rfl; omega)), by rw [told B b]; exact d⟩
  by_cases e : k = j
  ·subst e
   rw [qI] at hx
   rcases List.mem_append.1 hx with hx | hx
   ·exact old hx
   ·rw [qa3.1 hx] at hB
    obtain ⟨a, b, c⟩ := hE B op v hB
    have hm1 := h.st.ext.n
    have hnb : blk v' ≠ some B := fun hc => by have := b2 B hc; omega
    refine ⟨by omega, by omega, c.congr ?_, ?_⟩
    ·rw [q3 B (by omega)]
     exact k2 B b fun hc => by have := (low B hc).2; omega
    ·rw [htag]; simp only; rw [if_neg (by omega), if_neg hnb]
  ·rw [wx _ _ e] at hx; exact old hx
theorem WI.act (h : WI m1 m u N nt fv loc va vo A O tag) (hb1 : m1.base ≤ m1.n) {j : Nat} (hj : j < nt) (r : AR) {M1 : M} (hM : Ext m M1) (hE : ∀ B op v, r.e = some (B, op, v) → m.n ≤ B ∧ B < M1.n ∧ Arr M1 B (wY op v)) {X : Nat} {sp : Option Nat}
  (hx : loads M1 ⟨X, 0, sp⟩ 11 = some (kl r)) (hl : (A j).length ≤ 1000) : ∃ v' m2 m3, qX M1 11 136 (va j) (.slice (some ⟨X, 0, sp⟩) 1 1) = some (v', m2) ∧ wh 1 (.pointer (some ⟨u.TB, j * 2 + 1, none⟩)) v' m2 = some (undef, m3) ∧
   ∃ tag', WI m1 m3 u N nt fv loc (upN va j v') vo (upN A j (A j ++ [r])) O tag' ∧ M1.n ≤ m3.n ∧ ∀ L, L < m.n → tag L = 0 → tag' L = 0 ∧ (L ≠ u.TB → m3.obj L = m.obj L) := by
 obtain ⟨v', m2, p1, p2, p3, p4, p5, p6⟩ := ((h.ga j hj).1.ext hM).append (h.st.ext.trans hM) hb1 (by omega) yr fJ hx (bytes := 136) (by unfold most; omega) (by omega)
 have hst2 : St m1 m2 (u.σ N nt fv loc va vo) := h.st.keepOn p2 (by have := hM.n; omega) fun p hp => by
  have hp2 := (h.st.arr p hp).2.1
  rw [p5 p.1 (by have := hM.n; omega) (fun hc => by have := (h.ga j hj).2 _ hc; rw [h.t0 p hp] at this; omega)]
  exact hM.obj _ hp2
 have hlen : ((List.range nt).flatMap (vp loc va)).length = nt * 2 := zj fun _ => rfl
 obtain ⟨m3, s1, s2, s3, s4⟩ := hst2.store 1 rfl (o := j * 2 + 1) (v := v') (by rw [hlen]; omega) p3.okC
 exact ⟨v', m2, m3, p1, s1, h.act' hj r hM hE p2 p3 p4 p5 p6 fun _ => ⟨s2, s3, s4⟩⟩
theorem WI.actAny (h : WI m1 m u N nt fv loc va vo A O tag) (hb1 : m1.base ≤ m1.n) {j : Nat} (hj : j < nt) (r : AR) {M1 : M} (hM : Ext m M1) (hE : ∀ B op v, r.e = some (B, op, v) → m.n ≤ B ∧ B < M1.n ∧ Arr M1 B (wY op v)) {X : Nat} {sp : Option Nat}
  (hx : loads M1 ⟨X, 0, sp⟩ 11 = some (kl r)) (hl : (A j).length ≤ 1000) : ∃ v' m2 m3, qX (qi M1) 11 136 (va j) (.slice (some ⟨X, 0, sp⟩) 1 1) = some (v', m2) ∧ wh 1 (.pointer (some ⟨u.TB, j * 2 + 1, none⟩)) v' (qi (behind M1 m2)) = some (undef, m3) ∧
   ∃ tag', WI m1 (behind (behind M1 m2) m3) u N nt fv loc (upN va j v') vo (upN A j (A j ++ [r])) O tag' ∧ M1.n ≤ (behind (behind M1 m2) m3).n ∧ ∀ L, L < m.n → tag L = 0 → tag' L = 0 ∧ (L ≠ u.TB → (behind (behind M1 m2) m3).obj L = m.obj L) := by
 obtain ⟨v', m2', p1, p1', p2, p3, p4, p5, p6⟩ := ((h.ga j hj).1.ext hM).appendAny (h.st.ext.trans hM) hb1 (by omega) yr fJ hx (bytes := 136) (by unfold most; omega) (by omega)
 obtain ⟨m2, hm2⟩ := qaj (behind M1 m2')
 rw [← hm2] at p2 p3 p4 p5
 have hst2 : St m1 m2 (u.σ N nt fv loc va vo) := h.st.keepOn p2 (by have := hM.n; omega) fun p hp => by
  have hp2 := (h.st.arr p hp).2.1
  rw [p5 p.1 (by have := hM.n; omega) (fun hc => by have := (h.ga j hj).2 _ hc; rw [h.t0 p hp] at this; omega)]
  exact hM.obj _ hp2
 have hlen : ((List.range nt).flatMap (vp loc va)).length = nt * 2 := zj fun _ => rfl
 obtain ⟨m3, s1, s1', s2, s3, s4⟩ := hst2.storeAny 1 rfl (o := j * 2 + 1) (v := v') (by rw [hlen]; omega) p3.okC
 refine ⟨v', m2', m3, p1, by rw [← hm2]; exact s1, ?_⟩
 rw [← hm2]
 exact h.act' hj r hM hE p2 p3 p4 p5 p6 fun _ => ⟨s2, s3, s4⟩
theorem WI.local (h : WI m1 m u N nt fv loc va vo A O tag) {j : Nat} (hj : j < nt) (x : Nat) : ∃ m3, wh 1 (.pointer (some ⟨u.TB, j * 2, none⟩)) (iv x) m = some (undef, m3) ∧ WI m1 m3 u N nt fv (upN loc j x) va vo A O tag ∧ m.n ≤ m3.n ∧ ∀ X, X ≠ u.TB → m3.obj X = m.obj X := by
 have hlen : ((List.range nt).flatMap (vp loc va)).length = nt * 2 := zj fun _ => rfl
 obtain ⟨m3, s1, s2, s3, s4⟩ := h.st.store 1 rfl (o := j * 2) (v := iv x) (by rw [hlen]; omega) rfl
 have hset : ((List.range nt).flatMap (vp loc va)).set (j * 2) (iv x) = (List.range nt).flatMap (vp (upN loc j x) va) :=
  xy (e := 2) (o := 0) (fun k => rfl) (by omega) (fun k hk => by unfold vp; rw [wx _ _ hk]) (by unfold vp; rw [qI]; rfl) nt hj
 have st3 : St m1 m3 (u.σ N nt fv (upN loc j x) va vo) := by
  have e : (u.σ N nt fv loc va vo).set 1 (u.TB, ((List.range nt).flatMap (vp loc va)).set (j * 2) (iv x)) = u.σ N nt fv (upN loc j x) va vo := by rw [hset]; rfl
  rw [← e]; exact s2
 have hTB : tag u.TB = 0 := h.t0 (u.TB, (List.range nt).flatMap (vp loc va)) (by unfold WB.σ; simp)
 refine ⟨m3, s1, ⟨st3, fun p hp => ?_, fun k hk => ?_, fun k hk => ?_, fun k hk y hy B op v hB => ?_⟩, by omega, s4⟩
 ·have hk : p.1 ∈ (u.σ N nt fv loc va vo).map (·.1) := by
   have e : (u.σ N nt fv loc va vo).map (·.1) = (u.σ N nt fv (upN loc j x) va vo).map (·.1) := rfl
   rw [e]; exact List.mem_map.2 ⟨_, hp, rfl⟩
  obtain ⟨p', hp', e⟩ := List.mem_map.1 hk
  rw [← e]; exact h.t0 p' hp'
 ·obtain ⟨g, t⟩ := h.ga k hk
  exact ⟨g.keep (by omega) fun B hB hb => s4 B (by rintro rfl; have := t _ hb; omega), t⟩
 ·obtain ⟨g, t⟩ := h.go k hk
  exact ⟨g.keep (by omega) fun B hB hb => s4 B (by rintro rfl; have := t _ hb; omega), t⟩
 ·obtain ⟨a, b, c, d⟩ := h.ge k hk y hy B op v hB
  exact ⟨a, by omega, c.congr (s4 B (by rintro rfl; omega)), d⟩
theorem WI.out (h : WI m1 m u N nt fv loc va vo A O tag) (hb1 : m1.base ≤ m1.n) {j : Nat} (hj : j < nt) (x : Nat) {M1 : M} (hM : Ext m M1) {X : Nat} {sp : Option Nat}
  (hx : loads M1 ⟨X, 0, sp⟩ 1 = some (kP x)) (hl : (O j).length ≤ 1000) : ∃ v' m2 m3, qX (qi M1) 1 8 (vo j) (.slice (some ⟨X, 0, sp⟩) 1 1) = some (v', m2) ∧ (m2.log = [] ∨ ∃ B, blk (vo j) = some B ∧ m2.log = [B]) ∧ wh 1 (.pointer (some ⟨u.OB, j, none⟩)) v' (qi (behind M1 m2)) = some (undef, m3) ∧
   ∃ tag', WI m1 (behind (behind M1 m2) m3) u N nt fv loc va (upN vo j v') A (upN O j (O j ++ [x])) tag' ∧ M1.n ≤ (behind (behind M1 m2) m3).n ∧ ∀ L, L < m.n → tag L = 0 → tag' L = 0 ∧ (L ≠ u.OB → (behind (behind M1 m2) m3).obj L = m.obj L) := by
 obtain ⟨v', m2', p1, p1', p2, g2, n2, k2, b2⟩ := ((h.go j hj).1.ext hM).appendAny (h.st.ext.trans hM) hb1 (by omega) vf Qy hx (bytes := 8) (by unfold most; omega) (by omega)
 obtain ⟨m2, hm2⟩ := qaj (behind M1 m2')
 rw [← hm2] at p2 g2 n2 k2
 have hvj := (h.go j hj).2
 have low := grown_low (h.go j hj).1
 have keep2 : ∀ B, B < m.n → tag B ≠ 3 + 2 * j → m2.obj B = m.obj B := fun B hB ht => (k2 B (by have := hM.n; omega) (fun hc => ht (hvj B hc))).trans (hM.obj B hB)
 have st2 : St m1 m2 (u.σ N nt fv loc va vo) := h.st.keepOn p2 (by have := hM.n; omega) fun p hp => keep2 p.1 (h.st.arr p hp).2.1 (by rw [h.t0 p hp]; omega)
 have hlen : ((List.range nt).flatMap (dp vo)).length = nt * 1 := zj fun _ => rfl
 obtain ⟨m3', s1, s1', s2, s3, s4⟩ := st2.storeAny 2 rfl (o := j) (v := v') (by rw [hlen]; omega) g2.okC
 refine ⟨v', m2', m3', p1, p1', by rw [← hm2]; exact s1, ?_⟩
 rw [← hm2]
 obtain ⟨m3, hm3⟩ := qaj (behind m2 m3')
 rw [← hm3] at s2 s3 s4 ⊢
 have hOB : tag u.OB = 0 := h.t0 (u.OB, (List.range nt).flatMap (dp vo)) (by unfold WB.σ; simp)
 have hset : ((List.range nt).flatMap (dp vo)).set j v' = (List.range nt).flatMap (dp (upN vo j v')) := by
  have := xy (e := 1) (o := 0) (j := j) (v := v') (f := dp vo) (g := dp (upN vo j v')) (fun k => rfl) (by omega) (fun k hk => by unfold dp; rw [wx _ _ hk]) (by unfold dp; rw [qI]; rfl) nt hj
  rwa [Nat.mul_one, Nat.add_zero] at this
 have st3 : St m1 m3 (u.σ N nt fv loc va (upN vo j v')) := by
  have e : (u.σ N nt fv loc va vo).set 2 (u.OB, ((List.range nt).flatMap (dp vo)).set j v') = u.σ N nt fv loc va (upN vo j v') := by rw [hset]; rfl
  rw [← e]; exact s2
 have hOBm : u.OB < m.n := (h.st.get 2 rfl).2.1
 obtain ⟨tag', htag⟩ : ∃ tag' : Nat → Nat, tag' = fun B => if B < m.n then tag B else 3 + 2 * j := ⟨_, rfl⟩
 have told : ∀ B, B < m.n → tag' B = tag B := fun B hB => by rw [htag]; simp [hB]
 have tnew : ∀ B, blk v' = some B → tag' B = 3 + 2 * j := fun B hB => by
  have h1 := b2 B hB; have h2 := hM.n
  rw [htag]; simp only; rw [if_neg (by omega)]
 have keep3 : ∀ B, B < m.n → tag B ≠ 3 + 2 * j → B ≠ u.OB → m3.obj B = m.obj B := fun B hB ht hne => (s4 B hne).trans (keep2 B hB ht)
 have hMn := hM.n
 refine ⟨tag', ⟨st3, fun p hp => ?_, fun k hk => ?_, fun k hk => ?_, fun k hk y hy B op v hB => ?_⟩, by omega, fun L hL ht => ⟨by rw [told L hL]; exact ht, fun hne => keep3 L hL (by omega) hne⟩⟩
 ·have hk : p.1 ∈ (u.σ N nt fv loc va vo).map (·.1) := by
   have e : (u.σ N nt fv loc va vo).map (·.1) = (u.σ N nt fv loc va (upN vo j v')).map (·.1) := rfl
   rw [e]; exact List.mem_map.2 ⟨_, hp, rfl⟩
  obtain ⟨p', hp', e⟩ := List.mem_map.1 hk
  rw [← e, told _ (h.st.arr p' hp').2.1]; exact h.t0 p' hp'
 ·obtain ⟨g, t⟩ := h.ga k hk
  have lk := grown_low g
  exact ⟨g.keep (by omega) fun B hB hb => keep3 B hB (by rw [t B hb]; omega) (by rintro rfl; have := t _ hb; omega), fun B hB => by rw [told _ (lk B hB).2]; exact t B hB⟩
 ·by_cases e : k = j
  ·subst e
   rw [qI, qI]
   exact ⟨g2.keep (by omega) fun B hB hb => s4 B (by have := b2 B hb; omega), tnew⟩
  ·rw [wx _ _ e, wx _ _ e]
   obtain ⟨g, t⟩ := h.go k hk
   have lk := grown_low g
   exact ⟨g.keep (by omega) fun B hB hb => keep3 B hB (by rw [t B hb]; omega) (by rintro rfl; have := t _ hb; omega), fun B hB => by rw [told _ (lk B hB).2]; exact t B hB⟩
 ·obtain ⟨a, b, c, d⟩ := h.ge k hk y hy B op v hB
  exact ⟨a, by omega, c.congr (keep3 B b (by omega) (by rintro rfl; omega)), by rw [told B b]; exact d⟩
end
end Go.Sx
namespace Go.Dx
@[simp] theorem DB (m : M) (a b c d e f g h i j k : Value) : ko 11 1 (rep 1 [.int .i64 0, .int .i64 0, .int .i64 0, .int .i64 0, .slice none 0 0, .slice none 0 0, .slice none 0 0, .int .i64 0, .int .i64 0, .int .i64 0, .int .i64 0]) [(0, 11, .agg ⟨[a, b, c, d, e, f, g, h, i, j, k]⟩)] m =
  some (.slice (some ⟨m.n, 0, some 23⟩) 1 1, newRow m [a, b, c, d, e, f, g, h, i, j, k]) := _root_.id rfl
@[simp] theorem Do (m : M) (a b c d : Value) : ko 4 1 (rep 1 [.int .i64 0, .int .u64 0, .int .i64 0, .int .i64 0]) [(0, 4, .agg ⟨[a, b, c, d]⟩)] m = some (.slice (some ⟨m.n, 0, some 9⟩) 1 1, newRow m [a, b, c, d]) := _root_.id rfl
@[simp] theorem DG (o v : Int) : km [.int .i64 0, .int .u64 0, .int .i64 0, .int .i64 0] [(0, 1, .int .i64 o), (1, 1, .int .u64 v)] = some (.agg ⟨[.int .i64 o, .int .u64 v, .int .i64 0, .int .i64 0]⟩) := _root_.id rfl
@[simp] theorem Dp (o f : Int) : km [.int .i64 0, .int .i64 0, .int .i64 0, .int .i64 0, .slice none 0 0, .slice none 0 0, .slice none 0 0, .int .i64 0, .int .i64 0, .int .i64 0, .int .i64 0] [(0, 1, .int .i64 o), (7, 1, .int .i64 f)] =
  some (.agg ⟨[.int .i64 o, .int .i64 0, .int .i64 0, .int .i64 0, .slice none 0 0, .slice none 0 0, .slice none 0 0, .int .i64 f, .int .i64 0, .int .i64 0, .int .i64 0]⟩) := _root_.id rfl
@[simp] theorem Ds (o c f : Int) (a : Option Addr) (x y : Nat) : km [.int .i64 0, .int .i64 0, .int .i64 0, .int .i64 0, .slice none 0 0, .slice none 0 0, .slice none 0 0, .int .i64 0, .int .i64 0, .int .i64 0, .int .i64 0] [(0, 1, .int .i64 o), (2, 1, .int .i64 c), (7, 1, .int .i64 f), (5, 1, .slice a x y)] =
  some (.agg ⟨[.int .i64 o, .int .i64 0, .int .i64 c, .int .i64 0, .slice none 0 0, .slice a x y, .slice none 0 0, .int .i64 f, .int .i64 0, .int .i64 0, .int .i64 0]⟩) := _root_.id rfl
@[simp] theorem DF (o d c f : Int) : km [.int .i64 0, .int .i64 0, .int .i64 0, .int .i64 0, .slice none 0 0, .slice none 0 0, .slice none 0 0, .int .i64 0, .int .i64 0, .int .i64 0, .int .i64 0] [(0, 1, .int .i64 o), (1, 1, .int .i64 d), (2, 1, .int .i64 c), (7, 1, .int .i64 f)] =
  some (.agg ⟨[.int .i64 o, .int .i64 d, .int .i64 c, .int .i64 0, .slice none 0 0, .slice none 0 0, .slice none 0 0, .int .i64 f, .int .i64 0, .int .i64 0, .int .i64 0]⟩) := _root_.id rfl
end Go.Dx
namespace Go.Sx
open Go.Dx Go.Proofs
abbrev AB := Int × Int × Int × Int × Option (Int × Nat)
def AR.era (r : AR) : AB := (r.op, r.dst, r.base, r.mode, r.e.map (·.2))
section
variable {m1 m : M} {u : WB} {N nt : Nat} {fv : Value} {loc : Nat → Nat} {va vo : Nat → Value} {A : Nat → List AR} {O : Nat → List Nat} {tag : Nat → Nat}
theorem WI.lt8 (h : WI m1 m u N nt fv loc va vo A O tag) : load1 m ⟨u.P8, 1, none⟩ = some (.slice (some ⟨u.TB, 0, some 5⟩) nt nt) := by rw [(h.st.get 4 rfl).2.2.load1]; rfl
theorem WI.lt9 (h : WI m1 m u N nt fv loc va vo A O tag) : load1 m ⟨u.P9, 1, none⟩ = some (.slice (some ⟨u.OB, 0, some 3⟩) nt nt) := by rw [(h.st.get 3 rfl).2.2.load1]; rfl
theorem WI.lq (h : WI m1 m u N nt fv loc va vo A O tag) : load1 m ⟨u.q5, 0, none⟩ = some (.pointer (some ⟨u.PB, 0, none⟩)) := by rw [(h.st.get 5 rfl).2.2.load1]; rfl
theorem WI.lloc (h : WI m1 m u N nt fv loc va vo A O tag) {j : Nat} (hj : j < nt) : load1 m ⟨u.TB, j * 2, none⟩ = some (iv (loc j)) := by
 rw [(h.st.get 1 rfl).2.2.load1]
 have := vG (e := 2) (f := vp loc va) (o := 0) (fun _ => rfl) hj (by omega)
 rwa [Nat.add_zero] at this
theorem WI.lva (h : WI m1 m u N nt fv loc va vo A O tag) {j : Nat} (hj : j < nt) : load1 m ⟨u.TB, j * 2 + 1, none⟩ = some (va j) := by
 rw [(h.st.get 1 rfl).2.2.load1]
 exact vG (e := 2) (f := vp loc va) (o := 1) (fun _ => rfl) hj (by omega)
theorem WI.lvo (h : WI m1 m u N nt fv loc va vo A O tag) {j : Nat} (hj : j < nt) : load1 m ⟨u.OB, j, none⟩ = some (vo j) := by
 rw [(h.st.get 2 rfl).2.2.load1]
 have := vG (e := 1) (f := dp vo) (o := 0) (fun _ => rfl) hj (by omega)
 rwa [Nat.add_zero, Nat.mul_one] at this
theorem Dj (n : Nat) {PB A5 A6 A7 c1 : Nat} {ed ec md : Value} {es : List (Int × Int)} {ms : List Int} {TH CE VA : Nat → Nat} (hb1 : m1.base ≤ m1.n) (hLF : LF m1 PB A5 A6 A7 c1 ed ec md es ms TH CE VA) (hok : ∀ (i : Nat) e, es[i]? = some e → zm e = false) (hPB : u.PB = PB)
  {i j : Nat} (hi : i < es.length) (hml : ms.length = es.length) (hj : TH i = j) (hjn : j < nt) (h : WI m1 m u N nt fv loc va vo A O tag) (hA : (A j).length ≤ 1000) (hO : (O j).length ≤ 1000) (hloc : loc j ≤ 1000) {t : Tm} (t1 : Tm.get 1 t = .pointer (some ⟨c1, 0, none⟩)) (t5 : Tm.get 5 t = .pointer (some ⟨u.q5, 0, none⟩)) (t9 : Tm.get 9 t = .pointer (some ⟨u.P9, 0, none⟩))
  (t10 : Tm.get 10 t = iv i) (t11 : Tm.get 11 t = .pointer (some ⟨u.TB, j * 2, none⟩)) {L : Nat} (hL : tag L = 0) (hLm : L < m.n) (hLT : L ≠ u.TB) (hLO : L ≠ u.OB) (P : Option E → M → Prop)
  (hP : ∀ m2 va' vo' tag' r, WI m1 m2 u N nt fv (if qu es i then loc else upN loc j (loc j + 1)) va' vo' (upN A j (A j ++ [r])) (if qu es i then O else upN O j (O j ++ [VA i])) tag' → m.n ≤ m2.n → m2.obj L = m.obj L → tag' L = 0 →
   r.era = (if qu es i then ((3, 0, (CE i : Int), mAt ms i, some (1, VA i)) : AB) else ((2, (loc j : Int), (CE i : Int), mAt ms i, none) : AB)) → P none m2) :
  Rnd P (QZ (ex Try.prog (n + 2)) (kC none) (kK 1 (kC none) zL) (kC (some E.ret)) t m) := by
 obtain ⟨e, he⟩ : ∃ e, es[i]? = some e := ⟨_, DW hi⟩
 obtain ⟨md', hmd'⟩ : ∃ e, ms[i]? = some e := ⟨_, DW (by omega)⟩
 have hmi : mAt ms i = md' := vc hmd'
 have hfe : qu es i = we e.1 := by unfold qu; rw [wt he]
 have hbk := ku (hok i e he)
 have hS := h.st.sees
 have lf := hLF.sees hS
 have lq := h.lq
 rw [hPB] at lq
 obtain ⟨v3, m3, g1, g2, rfl⟩ := yE n PB ed es e i he hbk.1 hbk.2 m hS.base lf.p0 lf.hed
 have h3 := h.step g2
 have lf3 := lf.sees (hS.self.ext g2)
 have lq3 := h3.lq
 rw [hPB] at lq3
 have ⟨u1, u2⟩ := Rd.at1 (g := fun (x : Int) => iv x) lf3.hmd hmd'
 have u2' := u2 m3 (hS.self.ext g2).self
 have x6 := zV (e := 1) (c := 3) A6 es.length i hi
 have x7 := zV (e := 1) (c := 3) A7 es.length i hi
 have x5 := zV (e := 1) (c := 3) A5 es.length i hi
 rw [Nat.mul_one] at x5 x6 x7
 have y6 := lf3.a6 i hi
 have y7 := lf3.a7 i hi
 obtain ⟨V, hV⟩ := qaj (VA i)
 obtain ⟨C, hC⟩ := qaj (CE i)
 have hVs : V < 1000000 := by rw [hV]; exact lf.small i
 have cvv := zu V hVs
 rw [← hV] at y7 hP
 rw [← hC] at y6 hP
 simp [t5, t10, lq, g1, je]
 cases hf : we e.1 with
 | true =>
  rw [hfe, hf, hmi] at hP
  obtain ⟨M1, hM1⟩ := qaj (Dx.newRow m3 [iv 1, .int .u64 V, iv 0, iv 0])
  have n1 : M1.n = m3.n + 1 := by rw [hM1, qk]
  obtain ⟨M2, hM2⟩ := qaj (Dx.newRow M1 [iv 3, iv 0, iv C, iv 0, .slice none 0 0, .slice (some ⟨m3.n, 0, some 9⟩) 1 1, .slice none 0 0, iv md', iv 0, iv 0, iv 0])
  have E1 : Ext m3 M1 := by rw [hM1]; exact Ext.row _ _
  have E2 : Ext M1 M2 := by rw [hM2]; exact Ext.row _ _
  have hA1 : Arr M2 m3.n (wY 1 V) := by
   have : Arr M1 m3.n (wY 1 V) := by rw [hM1]; exact Arr.row m3 _
   exact this.ext E2 (by omega)
  obtain ⟨v', m4, m5, p1, p2, tag', p3, p4, p5⟩ := h3.actAny hb1 hjn ⟨3, 0, C, md', some (m3.n, 1, V)⟩ (E1.trans E2) (fun B op v hB => by cases hB; exact ⟨DZ _, by have := E2.n; omega, hA1⟩) (X := M1.n) (sp := some 23) (by rw [hM2]; exact (Arr.row M1 _).loads (by simp)) hA
  have lva := h3.lva hjn
  simp [t1, t5, t10, t11, lva, lq3, lf3.p6, lf3.p7, x6, x7, y6, y7, lf3.c1m, u1, u2', cvv, ← hM1, n1]
  rw [n1] at p1
  simp [← hM2, p1, p2]
  refine kE (hP _ _ _ tag' _ p3 (by have := g2.n; have := E1.n; have := E2.n; omega) ?_ (p5 L (by have := g2.n; omega) hL).1 rfl)
  rw [(p5 L (by have := g2.n; omega) hL).2 hLT, g2.obj L hLm]
 | false =>
  rw [hfe, hf, hmi] at hP
  have ll := h3.lloc hjn
  obtain ⟨K, hK⟩ := qaj (loc j)
  rw [← hK] at ll hP
  obtain ⟨M2, hM2⟩ := qaj (Dx.newRow m3 [iv 2, iv K, iv C, iv 0, .slice none 0 0, .slice none 0 0, .slice none 0 0, iv md', iv 0, iv 0, iv 0])
  have E2 : Ext m3 M2 := by rw [hM2]; exact Ext.row _ _
  obtain ⟨v', m4, m5, p1, p2, tag', p3, p4, p5⟩ := h3.actAny hb1 hjn ⟨2, K, C, md', none⟩ E2 (fun B op v hB => by cases hB) (X := m3.n) (sp := some 23) (by rw [hM2]; exact (Arr.row m3 _).loads (by simp)) hA
  have lva := h3.lva hjn
  simp [t1, t5, t9, t10, t11, lva, ll, lq3, lf3.p6, lf3.p7, x6, x7, y6, y7, lf3.c1m, u1, u2', ← hM2, p1, p2]
  have ll5 := p3.lloc hjn
  rw [Ws, ← hK] at ll5
  obtain ⟨M3, hM3⟩ := qaj (behind (behind M2 m4) m5)
  rw [← hM3] at p3 p4 p5 ⊢
  have ll4 := p3.lloc hjn
  rw [← hK] at ll4
  have wK := qJ (i := K) (by omega)
  obtain ⟨K', hK'⟩ := qaj (K + 1)
  rw [← hK'] at wK hP
  obtain ⟨M4, q1, q2, q3, q4⟩ := p3.local hjn K'
  simp [t11, ll5, wK, q1]
  have lf4 := hLF.sees q2.st.sees
  have lq4 := q2.lq
  rw [hPB] at lq4
  have l9 := q2.lt9
  have lo := q2.lvo hjn
  have z5 := lf4.a5 i hi
  have z7 := lf4.a7 i hi
  rw [hj] at z5
  rw [← hV] at z7
  have xo := zV (e := 1) (c := 3) u.OB nt j hjn
  rw [Nat.mul_one] at xo
  obtain ⟨M5, hM5⟩ := qaj (Dx.newRow M4 [.int .u64 V])
  have E5 : Ext M4 M5 := by rw [hM5]; exact Ext.row _ _
  obtain ⟨v2, m6, m7, r1, r2, r3, tag2, r4, r5, r6⟩ := q2.out hb1 hjn V E5 (X := M4.n) (sp := some 3) (by rw [hM5]; exact (Arr.row M4 _).loads (by simp)) hO
  have t9t : tag' u.P9 = 0 := q2.t0 (u.P9, [fv, .slice (some ⟨u.OB, 0, some 3⟩) nt nt]) (by unfold WB.σ; simp)
  have t5t : tag' u.q5 = 0 := q2.t0 (u.q5, [.pointer (some ⟨u.PB, 0, none⟩)]) (by unfold WB.σ; simp)
  have hmt : ∀ B, blk (vo j) = some B → ¬ u.P9 = B ∧ ¬ u.q5 = B ∧ ¬ PB = B ∧ ¬ A5 = B := fun B hB => by
   have t := (q2.go j hjn).2 B hB
   have lw := (grown_low (q2.go j hjn).1 B hB).1
   have := hLF.lP; have := hLF.l5
   exact ⟨by rintro rfl; omega, by rintro rfl; omega, by rintro rfl; omega, by rintro rfl; omega⟩
  have fin : Rnd P (kC none t (behind (behind M5 m6) m7)) → True := fun _ => trivial
  have done : P none (behind (behind M5 m6) m7) := by
   have hLm3 : L < M3.n := by have := g2.n; have := E2.n; omega
   refine hP _ _ _ tag2 _ r4 (by have := g2.n; have := E2.n; have := E5.n; omega) ?_ (r6 L (by omega) ((p5 L (by have := g2.n; omega) hL).1)).1 rfl
   rw [(r6 L (by omega) ((p5 L (by have := g2.n; omega) hL).1)).2 hLO, q4 L hLT, (p5 L (by have := g2.n; omega) hL).2 hLT, g2.obj L hLm]
  rcases r2 with r2 | ⟨B, hB, r2⟩
  ·simp [t1, t5, t9, t10, t11, l9, lq4, lf4.p5, lf4.p7, x5, x7, z5, z7, xo, lo, cvv, ← hM5, r1, r2, r3]
   exact kE done
  ·obtain ⟨d1, d2, d3, d4⟩ := hmt B hB
   simp [t1, t5, t9, t10, t11, l9, lq4, lf4.p5, lf4.p7, x5, x7, z5, z7, xo, lo, cvv, ← hM5, r1, r2, r3, d1, d2, d3, d4]
   exact kE done
end
end Go.Sx
namespace Go.Sx
open Go.Dx Go.Proofs
structure TS where
 loc : Nat
 acts : List AB
 outs : List Nat
abbrev fenA (f : Int) : AB := (7, 0, 0, f, none)
abbrev stA (c : Nat) (m : Int) (v : Nat) : AB := (3, 0, c, m, some (1, v))
abbrev ldA (d c : Nat) (m : Int) : AB := (2, d, c, m, none)
def evF (f : Int) : List AB := if f = 0 then [] else [fenA f]
def kZ (es : List (Int × Int)) (ms : List Int) (CE VA : Nat → Nat) (i : Nat) (s : TS) : TS :=
 if qu es i then ⟨s.loc, s.acts ++ evF (yA es i) ++ [stA (CE i) (mAt ms i) (VA i)], s.outs⟩ else ⟨s.loc + 1, s.acts ++ evF (yA es i) ++ [ldA s.loc (CE i) (mAt ms i)], s.outs ++ [VA i]⟩
def ki (es : List (Int × Int)) (ms : List Int) (TH CE VA : Nat → Nat) (S : Nat → TS) (i : Nat) : Nat → TS := upN S (TH i) (kZ es ms CE VA i (S (TH i)))
def WJ (m1 m : M) (u : WB) (N nt : Nat) (fv : Value) (S : Nat → TS) (L : Nat) : Prop := ∃ loc va vo A O tag, WI m1 m u N nt fv loc va vo A O tag ∧ tag L = 0 ∧ ∀ j, j < nt → loc j = (S j).loc ∧ (A j).map AR.era = (S j).acts ∧ O j = (S j).outs
theorem WJ.step {m1 m m' : M} {u : WB} {N nt : Nat} {fv : Value} {S : Nat → TS} {L : Nat} (h : WJ m1 m u N nt fv S L) (e : Ext m m') : WJ m1 m' u N nt fv S L := let ⟨a, b, c, d, f, g, h1, h2, h3⟩ := h; ⟨a, b, c, d, f, g, h1.step e, h2, h3⟩
theorem WJ.putL {m1 m : M} {u : WB} {N nt : Nat} {fv : Value} {S : Nat → TS} {L : Nat} (h : WJ m1 m u N nt fv S L) (hL : ∀ b ∈ [u.W, u.TB, u.OB, u.P9, u.P8, u.q5], b ≠ L) (h0 : m1.n ≤ L) (o : zJ) : WJ m1 (m.put L o) u N nt fv S L :=
 let ⟨a, b, c, d, f, g, h1, h2, h3⟩ := h; ⟨a, b, c, d, f, g, h1.putL (fun p hp => hL p.1 (by unfold WB.σ at hp; simp at hp ⊢; rcases hp with rfl | rfl | rfl | rfl | rfl | rfl <;> simp)) h0 h2 o, h2, h3⟩
theorem Bd (n : Nat) {m1 m : M} {u : WB} {N nt : Nat} {fv : Value} {S : Nat → TS} {L : Nat} {PB A5 A6 A7 c1 : Nat} {ed ec md : Value} {es : List (Int × Int)} {ms : List Int} {TH CE VA : Nat → Nat} (hl : es.length ≤ 16) (hb1 : m1.base ≤ m1.n) (hLF : LF m1 PB A5 A6 A7 c1 ed ec md es ms TH CE VA) (hok : ∀ (i : Nat) e, es[i]? = some e → zm e = false) (hPB : u.PB = PB)
  {i : Nat} (hi : i < es.length) (hml : ms.length = es.length) (hjn : TH i < nt) (h : WJ m1 m u N nt fv S L) (hbd : ∀ j, (S j).loc ≤ 900 ∧ (S j).acts.length ≤ 900 ∧ (S j).outs.length ≤ 900) {T : Tm} (t1 : Tm.get 1 T = .pointer (some ⟨c1, 0, none⟩)) (t5 : Tm.get 5 T = .pointer (some ⟨u.q5, 0, none⟩)) (t8 : Tm.get 8 T = .pointer (some ⟨u.P8, 0, none⟩)) (t9 : Tm.get 9 T = .pointer (some ⟨u.P9, 0, none⟩))
  (hLm : L < m.n) (hLb : ∀ b ∈ [u.W, u.TB, u.OB, u.P9, u.P8, u.q5], b ≠ L) :
  Rnd (fun e m2 => e = none ∧ m2.obj L = m.obj L ∧ m.n ≤ m2.n ∧ WJ m1 m2 u N nt fv (ki es ms TH CE VA S i) L) (WQ (ex Try.prog (n + 2)) (kC none) zL (kC (some E.ret)) (Tm.set 10 (iv i) (Tm.set 47 (iv i) T)) m) := by
 suffices H : ∀ P : Option E → M → Prop, (∀ m2, m2.obj L = m.obj L → m.n ≤ m2.n → WJ m1 m2 u N nt fv (ki es ms TH CE VA S i) L → P none m2) → Rnd P (WQ (ex Try.prog (n + 2)) (kC none) zL (kC (some E.ret)) (Tm.set 10 (iv i) (Tm.set 47 (iv i) T)) m) from H _ fun m2 a b c => ⟨rfl, a, b, c⟩
 intro P hP
 obtain ⟨loc, va, vo, A, O, tag, h, hL, hSj⟩ := h
 obtain ⟨j, hj⟩ : ∃ j, TH i = j := ⟨_, rfl⟩
 rw [hj] at hjn
 obtain ⟨s1, s2, s3⟩ := hSj j hjn
 obtain ⟨b1, b2, b3⟩ := hbd j
 have hAl : (A j).length ≤ 900 := by have := congrArg List.length s2; rw [List.length_map] at this; omega
 have hOl : (O j).length ≤ 900 := by rw [s3]; omega
 have hS := h.st.sees
 have lf := hLF.sees hS
 have lq := h.lq
 rw [hPB] at lq
 have l8 := h.lt8
 have x5 := zV (e := 1) (c := 3) A5 es.length i hi
 rw [Nat.mul_one] at x5
 have z5 := lf.a5 i hi
 rw [hj] at z5
 have xT := zV (e := 2) (c := 5) u.TB nt j hjn
 obtain ⟨v2, m2, g1, g2, rfl⟩ := KP n PB ed es i hi (by omega) m hS.base lf.lP lf.p0 lf.hed
 obtain ⟨f, hf⟩ := qaj (yA es i)
 have hf' : (eAt es (ahN es.length i)).2 = f := by rw [hf]; rfl
 rw [hf'] at g1
 have h2 := h.step g2
 have hLT : L ≠ u.TB := fun e => hLb u.TB (by simp) e.symm
 have hLO : L ≠ u.OB := fun e => hLb u.OB (by simp) e.symm
 unfold WQ
 simp [t5, t8, lq, l8, lf.p5, x5, z5, xT, g1, -fR]
 have fin : ∀ (m3 : M) (A3 : Nat → List AR) va3 tag3 t, WI m1 m3 u N nt fv loc va3 vo A3 O tag3 → m.n ≤ m3.n → m3.obj L = m.obj L → tag3 L = 0 → (A3 j).map AR.era = (A j).map AR.era ++ evF f → (∀ k, k ≠ j → A3 k = A k) → (A3 j).length ≤ 1000 →
   Tm.get 1 t = .pointer (some ⟨c1, 0, none⟩) → Tm.get 5 t = .pointer (some ⟨u.q5, 0, none⟩) → Tm.get 9 t = .pointer (some ⟨u.P9, 0, none⟩) → Tm.get 10 t = iv i → Tm.get 11 t = .pointer (some ⟨u.TB, j * 2, none⟩) →
   Rnd P (QZ (ex Try.prog (n + 2)) (kC none) (kK 1 (kC none) zL) (kC (some E.ret)) t m3) := by
  intro m3 A3 va3 tag3 t w n3 o3 g3 e3 k3 l3 q1 q5 q9 q10 q11
  refine Dj n hb1 hLF hok hPB hi hml hj hjn w l3 (by omega) (by omega) q1 q5 q9 q10 q11 g3 (by omega) hLT hLO P fun m4 va4 vo4 tag4 r w4 n4 o4 g4 er => hP m4 (o4.trans o3) (by omega) ⟨_, _, _, _, _, _, w4, g4, fun k hk => ?_⟩
  by_cases e : k = j
  ·subst e
   have hw : ki es ms TH CE VA S i k = kZ es ms CE VA i (S k) := by unfold ki; rw [hj, qI]
   rw [hw, qI, List.map_append, e3, s2]
   unfold kZ
   rw [← hf]
   cases hfr : qu es i with
   | true =>
    rw [hfr] at er
    simp only [if_true] at er ⊢
    exact ⟨s1, by simp [er], s3⟩
   | false =>
    rw [hfr] at er
    simp only [Bool.false_eq_true, if_false] at er ⊢
    rw [qI, qI]
    exact ⟨by rw [s1], by simp [er, s1], by rw [s3]⟩
  ·have hw : ki es ms TH CE VA S i k = S k := by unfold ki; rw [hj, wx _ _ e]
   obtain ⟨k1, k2, k3'⟩ := hSj k hk
   rw [hw, wx _ _ e, k3 k e]
   refine ⟨?_, k2, ?_⟩
   ·split
    ·exact k1
    ·rw [wx _ _ e]; exact k1
   ·split
    ·exact k3'
    ·rw [wx _ _ e]; exact k3'
 by_cases hz : f = 0
 ·simp [hz, -fR]
  refine fin m2 A va tag _ h2 g2.n (g2.obj L hLm) hL (by rw [hz]; simp [evF]) (fun _ _ => rfl) (by omega) ?_ ?_ ?_ ?_ ?_
  ·simp [t1]
  ·simp [t5]
  ·simp [t9]
  ·simp
  ·simp
 ·have lva := h2.lva hjn
  obtain ⟨M3, hM3⟩ := qaj (Dx.newRow m2 [iv 7, iv 0, iv 0, iv 0, .slice none 0 0, .slice none 0 0, .slice none 0 0, iv f, iv 0, iv 0, iv 0])
  have E3 : Ext m2 M3 := by rw [hM3]; exact Ext.row _ _
  obtain ⟨v', m4, m5, p1, p2, tag', p3, p4, p5⟩ := h2.act hb1 hjn ⟨7, 0, 0, f, none⟩ E3 (fun B op v hB => by cases hB) (X := m2.n) (sp := some 23) (by rw [hM3]; exact (Arr.row m2 _).loads (by simp)) (by omega)
  simp [hz, lva, ← hM3, p1, p2, -fR]
  have hL2 : L < m2.n := by have := g2.n; omega
  refine fin m5 _ _ tag' _ p3 (by have := g2.n; have := E3.n; omega) (by rw [(p5 L hL2 hL).2 hLT, g2.obj L hLm]) (p5 L hL2 hL).1 (by rw [qI]; simp [evF, hz, AR.era]) (fun k hk => by rw [wx _ _ hk]) (by rw [qI]; simp; omega) ?_ ?_ ?_ ?_ ?_
  ·simp [t1]
  ·simp [t5]
  ·simp [t9]
  ·simp
  ·simp
end Go.Sx
namespace Go.Dx
@[simp] theorem Dr (o : Int) (a : Option Addr) (x y : Nat) : km [.int .i64 0, .int .i64 0, .int .i64 0, .int .i64 0, .slice none 0 0, .slice none 0 0, .slice none 0 0, .int .i64 0, .int .i64 0, .int .i64 0, .int .i64 0] [(0, 1, .int .i64 o), (5, 1, .slice a x y)] =
  some (.agg ⟨[.int .i64 o, .int .i64 0, .int .i64 0, .int .i64 0, .slice none 0 0, .slice a x y, .slice none 0 0, .int .i64 0, .int .i64 0, .int .i64 0, .int .i64 0]⟩) := _root_.id rfl
end Go.Dx
namespace Go.Sx
open Go.Dx Go.Proofs
def WK (m1 m : M) (u : WB) (N nt : Nat) (fv : Value) (S : Nat → TS) : Prop := ∃ loc va vo A O tag, WI m1 m u N nt fv loc va vo A O tag ∧ ∀ j, j < nt → loc j = (S j).loc ∧ (A j).map AR.era = (S j).acts ∧ O j = (S j).outs
theorem WJ.toK {m1 m : M} {u : WB} {N nt : Nat} {fv : Value} {S : Nat → TS} {L : Nat} (h : WJ m1 m u N nt fv S L) : WK m1 m u N nt fv S := let ⟨a, b, c, d, f, g, h1, _, h3⟩ := h; ⟨a, b, c, d, f, g, h1, h3⟩
theorem WK.congr {m1 m : M} {u : WB} {N nt : Nat} {fv : Value} {S S' : Nat → TS} (h : WK m1 m u N nt fv S) (e : ∀ j, j < nt → S' j = S j) : WK m1 m u N nt fv S' := let ⟨a, b, c, d, f, g, h1, h3⟩ := h; ⟨a, b, c, d, f, g, h1, fun j hj => by rw [e j hj]; exact h3 j hj⟩
abbrev prA (k : Nat) : AB := (8, 0, 0, 0, some (2, k))
def jo (q : Nat) : List AB := (List.range q).map prA
theorem KR (q : Nat) : jo (q + 1) = jo q ++ [prA q] := by unfold jo; rw [List.range_succ, List.map_append]; rfl
theorem vg (q : Nat) : (jo q).length = q := by unfold jo; simp
def TS.pr (s : TS) (q : Nat) : TS := ⟨s.loc, s.acts ++ jo q, s.outs⟩
def TS.fin (s : TS) : TS := s.pr s.loc
theorem Bc (n : Nat) {m1 : M} {u : WB} {N nt : Nat} {fv : Value} (hb1 : m1.base ≤ m1.n) {S : Nat → TS} (hbd : ∀ j, (S j).loc ≤ 400 ∧ (S j).acts.length ≤ 400) {p : Nat} (hp : p < nt) (Q : Option Out → Prop) (kn0 kn kr : K) (ke : Nat → K) (t : Tm) (m : M)
  (h14 : Tm.get 14 t = .pointer (some ⟨u.TB, p * 2, none⟩)) (h187 : Tm.get 187 t = iv (S p).loc) (h188 : Tm.get 188 t = iv 0) (h : WK m1 m u N nt fv S) (I : Tm → Prop) (hI : I t) (hIk : ∀ t i v, I t → i ∉ [2, 3, 5, 8, 9, 176, 177] → I (Tm.set i v t))
  (hq : ∀ t m, I t → WK m1 m u N nt fv (upN S p (S p).fin) → Q (kn t m)) : Q (ZA (ex Try.prog n) kn0 (kK 4 kn ke) kr t m) := by
 obtain ⟨q0, hq0⟩ := qaj ((S p).loc)
 have hq400 : q0 ≤ 400 := by rw [hq0]; exact (hbd p).1
 rw [← hq0] at h187
 refine qm (c := ZA) rfl Q (fun i t m' => Tm.get 14 t = .pointer (some ⟨u.TB, p * 2, none⟩) ∧ Tm.get 187 t = iv q0 ∧ Tm.get 188 t = iv i ∧ I t ∧ WK m1 m' u N nt fv (upN S p ((S p).pr i))) q0 (by omega)
  ⟨h14, h187, h188, hI, h.congr fun j hj => ?_⟩ (fun i t m' k hi hJ hk => ?_)
 ·by_cases e : j = p
  ·subst e; rw [qI]; simp [TS.pr, jo]
  ·rw [wx _ _ e]
 obtain ⟨h14, h187, h188, hI, hW⟩ := hJ
 by_cases hil : i < q0
 ·obtain ⟨loc, va, vo, A, O, tag, w, hS⟩ := hW
  obtain ⟨s1, s2, s3⟩ := hS p hp
  rw [qI] at s1 s2 s3
  have hAl : (A p).length ≤ 1000 := by
   have := congrArg List.length s2
   rw [List.length_map] at this
   simp only [TS.pr, qa6, vg] at this
   have := (hbd p).2
   omega
  have hd := dlt hil
  have w1 := qJ (i := i) (by omega)
  have cvv := zu i (by omega)
  have lva := w.lva hp
  obtain ⟨M1, hM1⟩ := qaj (Dx.newRow m' [iv 2, .int .u64 i, iv 0, iv 0])
  have n1 : M1.n = m'.n + 1 := by rw [hM1, qk]
  obtain ⟨M2, hM2⟩ := qaj (Dx.newRow M1 [iv 8, iv 0, iv 0, iv 0, .slice none 0 0, .slice (some ⟨m'.n, 0, some 9⟩) 1 1, .slice none 0 0, iv 0, iv 0, iv 0, iv 0])
  have E1 : Ext m' M1 := by rw [hM1]; exact Ext.row _ _
  have E2 : Ext M1 M2 := by rw [hM2]; exact Ext.row _ _
  have hA1 : Arr M2 m'.n (wY 2 i) := by
   have : Arr M1 m'.n (wY 2 i) := by rw [hM1]; exact Arr.row m' _
   exact this.ext E2 (by omega)
  obtain ⟨v', m4, m5, p1, p2, tag', p3, p4, p5⟩ := w.act hb1 hp ⟨8, 0, 0, 0, some (m'.n, 2, i)⟩ (E1.trans E2) (fun B op v hB => by cases hB; exact ⟨DZ _, by have := E2.n; omega, hA1⟩) (X := M1.n) (sp := some 23) (by rw [hM2]; exact (Arr.row M1 _).loads (by simp)) hAl
  rw [n1] at p1
  simp [h14, h187, h188, hd, lva, cvv, ← hM1, n1, ← hM2, p1, p2, w1]
  refine hk hil _ _ ⟨by simp [h14], by simp [h187], by simp, ?_, _, _, _, _, _, tag', p3, fun j hj => ?_⟩
  ·repeat' (first | exact hI | refine hIk _ _ _ ?_ (by simp))
  ·by_cases e : j = p
   ·subst e
    rw [qI, qI]
    refine ⟨s1, ?_, s3⟩
    rw [List.map_append, s2]
    simp [TS.pr, KR, AR.era]
   ·have := hS j hj
    rw [wx _ _ e] at this ⊢
    rw [wx _ _ e]
    exact this
 ·obtain rfl : i = q0 := by omega
  have hd : ((i : Int) < (i : Int)) = False := eq_false (by omega)
  simp [h187, h188, hd]
  refine hq _ _ ?_ ?_
  ·repeat' (first | exact hI | refine hIk _ _ _ ?_ (by simp))
  ·rw [hq0] at hW; exact hW
theorem VM (n : Nat) {m1 : M} {u : WB} {N nt : Nat} {fv : Value} (hnt : nt ≤ 16) (hb1 : m1.base ≤ m1.n) {S : Nat → TS} (hbd : ∀ j, (S j).loc ≤ 100 ∧ (S j).acts.length ≤ 100) (Q : Option Out → Prop) (kn0 kn kr : K) (ke : Nat → K) (t : Tm) (m : M) {P2 P3 : Nat}
  (t2 : Tm.get 2 t = .pointer (some ⟨P2, 0, none⟩)) (t3 : Tm.get 3 t = .pointer (some ⟨P3, 0, none⟩)) (t5 : Tm.get 5 t = .pointer (some ⟨u.q5, 0, none⟩)) (t8 : Tm.get 8 t = .pointer (some ⟨u.P8, 0, none⟩)) (t9 : Tm.get 9 t = .pointer (some ⟨u.P9, 0, none⟩))
  (h176 : Tm.get 176 t = iv nt) (h177 : Tm.get 177 t = iv 0) (h : WK m1 m u N nt fv S)
  (hq : ∀ t m, Tm.get 2 t = .pointer (some ⟨P2, 0, none⟩) → Tm.get 3 t = .pointer (some ⟨P3, 0, none⟩) → Tm.get 5 t = .pointer (some ⟨u.q5, 0, none⟩) → Tm.get 9 t = .pointer (some ⟨u.P9, 0, none⟩) → Tm.get 8 t = .pointer (some ⟨u.P8, 0, none⟩) → WK m1 m u N nt fv (fun j => (S j).fin) → Q (kn t m)) : Q (ZB (ex Try.prog n) kn0 (kK 2 kn ke) kr t m) := by
 refine qm (c := ZB) rfl Q (fun i t m' => (Tm.get 2 t = .pointer (some ⟨P2, 0, none⟩) ∧ Tm.get 3 t = .pointer (some ⟨P3, 0, none⟩) ∧ Tm.get 5 t = .pointer (some ⟨u.q5, 0, none⟩) ∧ Tm.get 8 t = .pointer (some ⟨u.P8, 0, none⟩) ∧ Tm.get 9 t = .pointer (some ⟨u.P9, 0, none⟩) ∧ Tm.get 176 t = iv nt) ∧ Tm.get 177 t = iv i ∧
   WK m1 m' u N nt fv (fun j => if j < i then (S j).fin else S j)) nt (by omega)
  ⟨⟨t2, t3, t5, t8, t9, h176⟩, h177, h.congr fun j hj => by simp⟩ (fun i t m' k hi hJ hk => ?_)
 obtain ⟨⟨t2, t3, t5, t8, t9, h176⟩, h177, hW⟩ := hJ
 by_cases hil : i < nt
 ·have hd := dlt hil
  have w1 := qJ (i := i) (by omega)
  have xT := zV (e := 2) (c := 5) u.TB nt i hil
  have ⟨l8, ll⟩ : load1 m' ⟨u.P8, 1, none⟩ = some (.slice (some ⟨u.TB, 0, some 5⟩) nt nt) ∧ load1 m' ⟨u.TB, i * 2, none⟩ = some (iv (S i).loc) := by
   obtain ⟨loc, va, vo, A, O, tag, w, hS⟩ := hW
   have := (hS i hil).1
   simp only [Nat.lt_irrefl, if_false] at this
   exact ⟨w.lt8, by rw [w.lloc hil, this]⟩
  simp [t8, h176, h177, hd, l8, ll, xT]
  refine Bc n hb1 (S := fun j => if j < i then (S j).fin else S j) (fun j => ?_) hil Q _ _ _ _ _ _ ?_ ?_ ?_ hW
   (fun t => (Tm.get 2 t = .pointer (some ⟨P2, 0, none⟩) ∧ Tm.get 3 t = .pointer (some ⟨P3, 0, none⟩) ∧ Tm.get 5 t = .pointer (some ⟨u.q5, 0, none⟩) ∧ Tm.get 8 t = .pointer (some ⟨u.P8, 0, none⟩) ∧ Tm.get 9 t = .pointer (some ⟨u.P9, 0, none⟩) ∧ Tm.get 176 t = iv nt) ∧ Tm.get 177 t = iv i)
   ?_ (fun t i v h hm => ?_) (fun t m hI hW' => ?_)
  ·have := hbd j
   split
   ·simp only [TS.fin, TS.pr, qa6, vg]; omega
   ·omega
  ·simp
  ·simp
  ·simp
  ·exact ⟨⟨by simp [t2], by simp [t3], by simp [t5], by simp [t8], by simp [t9], by simp [h176]⟩, by simp [h177]⟩
  ·simp only [List.mem_cons, List.not_mem_nil, or_false, not_or] at hm
   obtain ⟨a1, a2, a3, a4, a5, a6, a7⟩ := hm
   simp only [kz]
   rw [if_neg (Ne.symm a1), if_neg (Ne.symm a2), if_neg (Ne.symm a3), if_neg (Ne.symm a4), if_neg (Ne.symm a5), if_neg (Ne.symm a6), if_neg (Ne.symm a7)]
   exact h
  ·obtain ⟨⟨t2, t3, t5, t8, t9, h176⟩, h177⟩ := hI
   simp [h177, w1]
   refine hk hil _ _ ⟨⟨by simp [t2], by simp [t3], by simp [t5], by simp [t8], by simp [t9], by simp [h176]⟩, by simp, hW'.congr fun j hj => ?_⟩
   by_cases e : j = i
   ·subst e; rw [qI]; simp
   ·rw [wx _ _ e]
    by_cases h' : j < i
    ·rw [if_pos (by omega), if_pos h']
    ·rw [if_neg (by omega), if_neg h']
 ·obtain rfl : i = nt := by omega
  have hd : ((i : Int) < (i : Int)) = False := eq_false (by omega)
  simp [h176, h177, hd]
  exact hq _ _ (by simp [t2]) (by simp [t3]) (by simp [t5]) (by simp [t9]) (by simp [t8]) (hW.congr fun j hj => by rw [if_pos hj])
end Go.Sx
namespace Go.Sx
open Go.Dx Go.Proofs
theorem Bb (n : Nat) {m1 m5 : M} {u : WB} {N nt : Nat} (hN : N ≤ 16) (hb1 : m1.base ≤ m1.n) {A8 : Nat} (h8m : A8 < m1.n) {WR : Nat → Nat} (hsm : ∀ x, WR x < 1000000) (h8 : ∀ x, x < N → load1 m1 ⟨A8, x, none⟩ = some (iv (WR x))) {loc : Nat → Nat} {va vo : Nat → Value} (h : St m1 m5 (u.σ N nt (.slice none 0 0) loc va vo)) (Q : Option Out → Prop) (kn0 kn kr : K) (ke : Nat → K) (t : Tm) {P2 P3 : Nat}
  (t2 : Tm.get 2 t = .pointer (some ⟨P2, 0, none⟩)) (t3 : Tm.get 3 t = .pointer (some ⟨P3, 0, none⟩)) (t8 : Tm.get 8 t = .pointer (some ⟨u.P8, 0, none⟩)) (t9 : Tm.get 9 t = .pointer (some ⟨u.P9, 0, none⟩)) (h210 : Tm.get 210 t = .slice (some ⟨A8, 0, some 3⟩) N N) (h211 : Tm.get 211 t = iv N) (h212 : Tm.get 212 t = iv 0)
  (hq : ∀ t m fv, Tm.get 2 t = .pointer (some ⟨P2, 0, none⟩) → Tm.get 3 t = .pointer (some ⟨P3, 0, none⟩) → Tm.get 8 t = .pointer (some ⟨u.P8, 0, none⟩) → Tm.get 9 t = .pointer (some ⟨u.P9, 0, none⟩) → St m1 m (u.σ N nt fv loc va vo) → Grown m1 m fv 1 kP ((List.range N).map WR) → (∀ B, blk fv = some B → m5.n ≤ B) → m5.n ≤ m.n → (∀ B, B < m5.n → B ≠ u.P9 → m.obj B = m5.obj B) → Q (kn t m)) :
  Q (ZC (ex Try.prog n) kn0 (kK 6 kn ke) kr t m5) := by
 refine qm (c := ZC) rfl Q (fun i t m' => (Tm.get 2 t = .pointer (some ⟨P2, 0, none⟩) ∧ Tm.get 3 t = .pointer (some ⟨P3, 0, none⟩) ∧ Tm.get 8 t = .pointer (some ⟨u.P8, 0, none⟩) ∧ Tm.get 9 t = .pointer (some ⟨u.P9, 0, none⟩) ∧ Tm.get 210 t = .slice (some ⟨A8, 0, some 3⟩) N N ∧ Tm.get 211 t = iv N) ∧ Tm.get 212 t = iv i ∧
   ∃ fv, St m1 m' (u.σ N nt fv loc va vo) ∧ Grown m1 m' fv 1 kP ((List.range i).map WR) ∧ (∀ B, blk fv = some B → m5.n ≤ B) ∧ m5.n ≤ m'.n ∧ ∀ B, B < m5.n → B ≠ u.P9 → m'.obj B = m5.obj B) N (by omega)
  ⟨⟨t2, t3, t8, t9, h210, h211⟩, h212, _, h, by simpa using Grown.nil, fun B hB => by (cases hB), DZ _, fun _ _ _ => rfl⟩ (fun i t m' k hi hJ hk => ?_)
 obtain ⟨⟨t2, t3, t8, t9, h210, h211⟩, h212, fv, st, hG, hfv, hn5, ho⟩ := hJ
 by_cases hil : i < N
 ·have hd := dlt hil
  have w1 := qJ (i := i) (by omega)
  have x8 := zV (e := 1) (c := 3) A8 N i hil
  rw [Nat.mul_one] at x8
  have l8 : load1 m' ⟨A8, i, none⟩ = some (iv (WR i)) := (qy st.sees h8m).trans (h8 i hil)
  obtain ⟨w, hw⟩ := qaj (WR i)
  have cvv := zu w (by rw [hw]; exact hsm i)
  rw [← hw] at l8
  have lf : load1 m' ⟨u.P9, 0, none⟩ = some fv := by rw [(st.get 3 rfl).2.2.load1]; rfl
  obtain ⟨M1, hM1⟩ := qaj (Dx.newRow m' [.int .u64 w])
  have E1 : Ext m' M1 := by rw [hM1]; exact Ext.row _ _
  have hlen : ((List.range i).map WR).length = i := by simp
  obtain ⟨v', m2, p1, p2, p3, p4, p5, p6⟩ := (hG.ext E1).append (st.ext.trans E1) hb1 (by omega) vf Qy (x := w) (X := m'.n) (sp := some 3) (by rw [hM1]; exact (Arr.row m' _).loads (by simp)) (bytes := 8) (by rw [hlen]; unfold most; omega) (by rw [hlen]; omega)
  have hE1n := E1.n
  have st2 : St m1 m2 (u.σ N nt fv loc va vo) := (st.step E1).keepOn p2 p4 fun p hp => p5 p.1 (by have := (st.arr p hp).2.1; omega) fun hc => by
   have := hfv _ hc
   have hp' : p.1 ∈ (u.σ N nt (.slice none 0 0) loc va vo).map (·.1) := by
    have e : (u.σ N nt (.slice none 0 0) loc va vo).map (·.1) = (u.σ N nt fv loc va vo).map (·.1) := rfl
    rw [e]; exact List.mem_map.2 ⟨_, hp, rfl⟩
   obtain ⟨q, hq, e⟩ := List.mem_map.1 hp'
   have := (h.arr q hq).2.1
   omega
  obtain ⟨m3, s1, s2, s3, s4⟩ := st2.store 3 rfl (o := 0) (v := v') (by simp) p3.okC
  have h9m : u.P9 < m5.n := (h.get 3 rfl).2.1
  simp [t2, t3, t8, t9, h210, h211, h212, hd, x8, l8, lf, cvv, ← hM1, p1, s1, w1]
  refine hk hil _ _ ⟨⟨by simp [t2], by simp [t3], by simp [t8], by simp [t9], by simp [h210], by simp [h211]⟩, by simp, v', s2, ?_, fun B hB => by have := p6 B hB; omega, by omega, fun B hB hne => ?_⟩
  ·have e : (List.range (i + 1)).map WR = (List.range i).map WR ++ [w] := by rw [List.range_succ, List.map_append, hw]; rfl
   rw [e]
   exact p3.keep (by omega) fun B hB hb => s4 B (by have := p6 B hb; omega)
  ·rw [s4 B hne, p5 B (by omega) (fun hc => by have := hfv B hc; omega), E1.obj B (by omega)]
   exact ho B hB hne
 ·obtain rfl : i = N := by omega
  have hd : ((i : Int) < (i : Int)) = False := eq_false (by omega)
  simp [h211, h212, hd]
  exact hq _ _ fv (by simp [t2]) (by simp [t3]) (by simp [t8]) (by simp [t9]) st hG hfv hn5 ho
end Go.Sx
namespace Go.Dx
theorem XI {m0 m : M} {Q : Value → M → Prop} {t : Tm} {p q r : Nat} {a b : Addr} {l1 l2 : List Value} (h1 : Tm.get p t = .pointer (some a)) (h2 : loads m a 2 = some l1) (h3 : Tm.get q t = .pointer (some b)) (h4 : loads m b 2 = some l2) (he : Ext m0 m) (hq : Q (.tuple #[.agg ⟨l1⟩, .agg ⟨l2⟩, Tm.get r t]) m) :
  Ret m0 Q (zq [.cell p 2, .cell q 2, .t r] t m) := by
 refine vk (l := [.agg ⟨l1⟩, .agg ⟨l2⟩, Tm.get r t]) ?_ he hq
 simp only [yj, vj, h1, h3, xK, qD, h2, h4]
@[simp] theorem Dq : km [.int .i64 0, .slice none 0 0] [] = some (.agg ⟨[.int .i64 0, .slice none 0 0]⟩) := _root_.id rfl
@[simp] theorem build_sl0 : km [.slice none 0 0, .slice none 0 0] [] = some (.agg ⟨[.slice none 0 0, .slice none 0 0]⟩) := _root_.id rfl
@[simp] theorem DI (a : Int) (x : Option Addr) (y z : Nat) : km [.int .i64 0, .slice none 0 0] [(0, 1, .int .i64 a), (1, 1, .slice x y z)] = some (.agg ⟨[.int .i64 a, .slice x y z]⟩) := _root_.id rfl
@[simp] theorem DH (x : Option Addr) (y z : Nat) : km [.slice none 0 0, .slice none 0 0] [(1, 1, .slice x y z)] = some (.agg ⟨[.slice none 0 0, .slice x y z]⟩) := _root_.id rfl
end Go.Dx
namespace Go.Sx
open Go.Dx Go.Proofs
def TS0 : Nat → TS := fun _ => ⟨0, [], []⟩
def Woven (m0 m : M) (v : Value) (N nt : Nat) (S : Nat → TS) (W : List Nat) : Prop :=
 ∃ (tsl osl fsl : Value) (loc : Nat → Nat) (va vo : Nat → Value) (A : Nat → List AR), v = .tuple #[.agg #[iv N, tsl], .agg #[fsl, osl], iv 0] ∧ Rd m fsl 1 kP W ∧ Rd m tsl 2 (fun p : Int × Value => [iv p.1, p.2]) ((List.range nt).map fun (j : Nat) => (((loc j : Nat) : Int), (va j : Value))) ∧ Rd m osl 1 (fun v => [v]) ((List.range nt).map vo) ∧
  (∀ j, j < nt → loc j = (S j).loc ∧ (A j).map AR.era = (S j).acts ∧ Rd m (va j) 11 kl (A j) ∧ Rd m (vo j) 1 kP (S j).outs ∧ (∀ r, r ∈ A j → ∀ B op v, r.e = some (B, op, v) → B < m.n ∧ Arr m B (wY op v))) ∧
  (∀ B, blk fsl = some B → m0.n ≤ B) ∧ (∀ B, blk tsl = some B → m0.n ≤ B) ∧ (∀ B, blk osl = some B → m0.n ≤ B) ∧ ∀ j, j < nt → (∀ B, blk (va j) = some B → m0.n ≤ B) ∧ (∀ B, blk (vo j) = some B → m0.n ≤ B) ∧ ∀ r, r ∈ A j → ∀ B op v, r.e = some (B, op, v) → m0.n ≤ B
theorem vX (es : List (Int × Int)) (ms : List Int) (TH CE VA : Nat → Nat) : ∀ (l : List Nat) (k : Nat) (S : Nat → TS), (∀ j, (S j).loc ≤ k ∧ (S j).acts.length ≤ 2 * k ∧ (S j).outs.length ≤ k) →
  ∀ j, (l.foldl (ki es ms TH CE VA) S j).loc ≤ k + l.length ∧ (l.foldl (ki es ms TH CE VA) S j).acts.length ≤ 2 * (k + l.length) ∧ (l.foldl (ki es ms TH CE VA) S j).outs.length ≤ k + l.length
 | [], k, S, h => h
 | i :: l, k, S, h => by
  have := vX es ms TH CE VA l (k + 1) (ki es ms TH CE VA S i) fun j => by
   unfold ki
   by_cases e : j = TH i
   ·subst e
    rw [qI]
    obtain ⟨h1, h2, h3⟩ := h (TH i)
    have hf : (evF (yA es i)).length ≤ 1 := by unfold evF; split <;> simp
    unfold kZ
    split
    ·refine ⟨by simp only; omega, by simp only [qa6, List.length_singleton]; omega, by simp only; omega⟩
    ·refine ⟨by simp only; omega, by simp only [qa6, List.length_singleton]; omega, by simp only [qa6, List.length_singleton]; omega⟩
   ·rw [wx _ _ e]
    obtain ⟨h1, h2, h3⟩ := h j
    exact ⟨by omega, by omega, by omega⟩
  rw [List.foldl_cons, List.length_cons, show k + (l.length + 1) = k + 1 + l.length by omega]
  exact this
set_option maxHeartbeats 1000000 in
theorem Br (n : Nat) (ed md : Value) (es : List (Int × Int)) (ms : List Int) (m : M) (hm : m.base ≤ m.n) (hl : es.length < 9223372036854775807) (hed : Rd m ed 2 edgeRow es) (hmd : Rd m md 1 modeRow ms) (ch : Nat → List Nat)
  (hch : (wo es ms).2 = 0 → ∀ c, c < es.length - cnt es → wW es (zW es (es.length - cnt es) (qt es (qN es))).ce (qN es) c (ch c)) (TH CE VA WR : Nat → Nat)
  (hlaw : (wo es ms).2 = 0 → vv es (kV es ch (List.replicate es.length 0) (es.length - cnt es)) TH CE VA WR) :
  Dx.Call (ex Try.prog (n + 9)) 12 [.agg #[ed, md]] m fun v m' => ((wo es ms).2 ≠ 0 ∧ v = .tuple #[.agg #[iv 0, .slice none 0 0], .agg #[.slice none 0 0, .slice none 0 0], iv (wo es ms).2]) ∨
   ((wo es ms).2 = 0 ∧ Woven m m' v (es.length - cnt es) (cnt es) (fun j => ((qt es (qN es)).foldl (ki es ms TH CE VA) TS0 j).fin) ((List.range (es.length - cnt es)).map WR)) := by
 suffices H : ∀ Q : Value → M → Prop, (∀ v m', (((wo es ms).2 ≠ 0 ∧ v = .tuple #[.agg #[iv 0, .slice none 0 0], .agg #[.slice none 0 0, .slice none 0 0], iv (wo es ms).2]) ∨
   ((wo es ms).2 = 0 ∧ Woven m m' v (es.length - cnt es) (cnt es) (fun j => ((qt es (qN es)).foldl (ki es ms TH CE VA) TS0 j).fin) ((List.range (es.length - cnt es)).map WR))) → Q v m') → Dx.Call (ex Try.prog (n + 9)) 12 [.agg #[ed, md]] m Q from H _ fun _ _ h => h
 intro Q hQ
 refine qv da3_ok (by simp) ?_
 have st0 : St m m [] := St.nil hm (Ext.refl m)
 have stA := ((st0.row [ed, md]).row [.int .i64 0, .slice none 0 0]).row [.slice none 0 0, .slice none 0 0]
 simp only [qk] at stA
 obtain ⟨mA, hmA⟩ := qaj (Dx.newRow (Dx.newRow (Dx.newRow m [ed, md]) [.int .i64 0, .slice none 0 0]) [.slice none 0 0, .slice none 0 0])
 rw [← hmA] at stA
 have lbA : loads mA ⟨m.n, 0, none⟩ 2 = some [ed, md] := (stA.get 2 rfl).2.2.loads (by simp)
 obtain ⟨v1, m1, c1, c2, c3⟩ := lay_c n ed md es ms mA stA.sees.base hl (hed.sees stA.sees) (hmd.sees stA.sees) ch hch
 have st1 := stA.step c2
 have hb1 : m1.base ≤ m1.n := st1.sees.base
 have s0 : St m1 m1 [] := St.nil hb1 (Ext.refl m1)
 have s1 := s0.row [.pointer none]
 simp [← hmA, lbA, qf, c1]
 rcases c3 with ⟨hz, rfl⟩ | ⟨hz, PB, rfl, hLaid⟩
 ·obtain ⟨q1, hq1⟩ := qaj ((wo es ms).1)
  obtain ⟨q2, hq2⟩ := qaj ((wo es ms).2)
  rw [← hq2] at hz hQ ⊢
  rw [← hq1]
  have s1' := st1.row [.pointer none]
  obtain ⟨m2, a1, a2, a3, a4⟩ := s1'.store 0 rfl (o := 0) (v := .pointer none) (by simp) rfl
  obtain ⟨m3, b1, b2, b3, b4⟩ := a2.fill 2 rfl (n := 2) (l' := [iv 0, .slice none 0 0]) rfl rfl (by simp [okC])
  obtain ⟨m4, d1, d2, d3, d4⟩ := b2.fill 1 rfl (n := 2) (l' := [.slice none 0 0, .slice none 0 0]) rfl rfl (by simp [okC])
  simp [a1, hz, b1, d1]
  refine XI (a := ⟨m.n + 1, 0, none⟩) (b := ⟨m.n + 1 + 1, 0, none⟩) (by simp) ((d2.get 2 rfl).2.2.loads (by simp)) (by simp) ((d2.get 1 rfl).2.2.loads (by simp)) d2.ext (hQ _ _ (.inl ⟨hz, by simp⟩))
 ·obtain ⟨law1, law2, law3, law4, law5, law6, law7⟩ := hlaw hz
  obtain ⟨hl16, hml, hA2, hN1, hok⟩ : es.length ≤ 16 ∧ ms.length = es.length ∧ 2 ≤ cnt es ∧ 1 ≤ es.length - cnt es ∧ ∀ (i : Nat) e, es[i]? = some e → zm e = false := by
   unfold wo at hz
   by_cases h1 : (wD es ms).2 ≠ 0
   ·rw [if_pos h1] at hz; exact absurd hz h1
   ·rw [if_neg h1] at hz
    have h1' : (wD es ms).2 = 0 := by omega
    by_cases h2 : cnt es < 2 ∨ es.length - cnt es < 1
    ·rw [if_pos h2] at hz; simp at hz
    ·exact ⟨(kQ h1').1, (kQ h1').2, by omega, by omega, gx h1'⟩
  obtain ⟨N, hNe⟩ := qaj (es.length - cnt es)
  obtain ⟨nt, hnt⟩ := qaj (cnt es)
  have hcl : cnt es ≤ es.length := by unfold cnt; exact List.countP_le_length
  obtain ⟨b, hbe⟩ := qaj (qN es)
  have hb := yO (es := es) (by omega)
  rw [← hbe] at hb
  have hbl : b < es.length := by unfold first at hb; rw [List.find?_range_eq_some] at hb; simpa using hb.2.1
  obtain ⟨ed', md', A5, A6, A7, A8, hPl, hmd', p1, p3, p4, p5, p7, p8, r5, r6, r7, r8, k5, k6, k7, k8⟩ := hLaid.ex
  rw [← hNe] at law1 law3 law4 law5 hPl p3 p4 p8 r5 r6 r7 r8 hQ hN1
  rw [← hbe] at law1 law3 law5 hPl r5 r6 r8 hQ
  rw [← hnt] at law2 hQ hA2
  have hp3 : es.length - N = nt := by omega
  rw [hp3] at p3
  have hLF : LF m1 PB A5 A6 A7 m.n ed' ed md es ms TH CE VA := by
   refine ⟨hPl.lt, k5, k6, k7, by have := (st1.get 2 rfl).2.1; exact this, hPl.p0 none, p5 none, hPl.p6 none, p7 none, fun i hi => ?_, fun i hi => ?_, fun i hi => ?_, hPl.hed, ?_, hmd.sees st1.sees, law6⟩
   ·rw [r5.load1]; exact wU _ _ _ (law1 i hi)
   ·rw [r6.load1]; exact wU _ _ _ (law3 i hi)
   ·rw [r7.load1]; exact wU _ _ _ (law4 i hi)
   ·rw [(st1.get 2 rfl).2.2.load1]; rfl
  obtain ⟨m2, a1, a2, a3, a4⟩ := s1.store 0 rfl (o := 0) (v := .pointer (some ⟨PB, 0, none⟩)) (by simp) rfl
  have a2' : St m1 m2 [(m1.n, [.pointer (some ⟨PB, 0, none⟩)])] := a2
  have n2 : m2.n = m1.n + 1 := by rw [a3, qk]
  have lq : load1 m2 ⟨m1.n, 0, none⟩ = some (.pointer (some ⟨PB, 0, none⟩)) := by rw [(a2'.get 0 rfl).2.2.load1]; rfl
  have lP4 : load1 m2 ⟨PB, 4, none⟩ = some (iv N) := (qy a2'.sees hPl.lt).trans (p4 none)
  have lP3 : load1 m2 ⟨PB, 3, none⟩ = some (iv nt) := (qy a2'.sees hPl.lt).trans (p3 none)
  have mk2 := fl (n := nt) (e := 2) (bytes := 32) (zs := [.int .i64 0, .slice none 0 0]) rfl (by omega) (by omega) (by omega) m2
  have b1' := a2'.row ((List.range nt).flatMap fun _ => [.int .i64 0, .slice none 0 0])
  have b2' := b1'.row [.int .i64 0, .slice none 0 0]
  simp only [qk] at b2'
  obtain ⟨m3', d1, d1l, d2, d3, d4⟩ := b2'.fillAny 0 rfl (n := 2) (l' := [iv N, .slice (some ⟨m2.n, 0, some 5⟩) nt nt]) (by omega) rfl rfl (by simp [okC])
  obtain ⟨M3, hM3⟩ := qaj (behind (Dx.newRow (Dx.newRow m2 ((List.range nt).flatMap fun _ => [.int .i64 0, .slice none 0 0])) [.int .i64 0, .slice none 0 0]) m3')
  rw [← hM3] at d2 d3 d4
  simp only [qk] at d3
  have d2' : St m1 M3 [(m2.n + 1, [iv N, .slice (some ⟨m2.n, 0, some 5⟩) nt nt]), (m2.n, (List.range nt).flatMap fun _ => [.int .i64 0, .slice none 0 0]), (m1.n, [.pointer (some ⟨PB, 0, none⟩)])] := d2
  have lq3 : load1 M3 ⟨m1.n, 0, none⟩ = some (.pointer (some ⟨PB, 0, none⟩)) := by rw [(d2'.get 2 rfl).2.2.load1]; rfl
  have lP33 : load1 M3 ⟨PB, 3, none⟩ = some (iv nt) := (qy d2'.sees hPl.lt).trans (p3 none)
  have mk1 := fl (n := nt) (e := 1) (bytes := 24) (zs := [.slice none 0 0]) rfl (by omega) (by omega) (by omega) M3
  have e1' := d2'.row ((List.range nt).flatMap fun _ => [.slice none 0 0])
  have e2' := e1'.row [.slice none 0 0, .slice none 0 0]
  simp only [qk] at e2'
  obtain ⟨M4, f1, f2, f3, f4⟩ := e2'.fill 0 rfl (n := 2) (l' := [.slice none 0 0, .slice (some ⟨M3.n, 0, some 3⟩) nt nt]) rfl rfl (by simp [okC])
  simp only [qk] at f3
  have lq4 : load1 M4 ⟨m1.n, 0, none⟩ = some (.pointer (some ⟨PB, 0, none⟩)) := by rw [(f2.get 4 rfl).2.2.load1]; rfl
  have hwk := dE (n + 7) ⟨PB, 0, none⟩ M4
  have stW := f2.row [.pointer (some ⟨PB, 0, none⟩)]
  obtain ⟨M5, hM5⟩ := qaj (Dx.newRow M4 [.pointer (some ⟨PB, 0, none⟩)])
  rw [← hM5] at stW
  have n5 : M5.n = M4.n + 1 := by rw [hM5, qk]
  have code2 : code 2 true = 5 := rfl
  have code1 : code 1 true = 3 := rfl
  rw [code2] at mk2
  rw [code1] at mk1
  simp [a1, lq, lP4, lP3, mk2, d1, ← hM3, lq3, lP33, mk1, f1, lq4, hwk, ← hM5]
  generalize hT0 : Tm.set 46 _ _ = T0
  have g1 : Tm.get 1 T0 = .pointer (some ⟨m.n, 0, none⟩) := by rw [← hT0]; simp
  have g2 : Tm.get 2 T0 = .pointer (some ⟨m.n + 1, 0, none⟩) := by rw [← hT0]; simp
  have g3 : Tm.get 3 T0 = .pointer (some ⟨m.n + 1 + 1, 0, none⟩) := by rw [← hT0]; simp
  have g5 : Tm.get 5 T0 = .pointer (some ⟨m1.n, 0, none⟩) := by rw [← hT0]; simp
  have g8 : Tm.get 8 T0 = .pointer (some ⟨m2.n + 1, 0, none⟩) := by rw [← hT0]; simp
  have g9 : Tm.get 9 T0 = .pointer (some ⟨M3.n + 1, 0, none⟩) := by rw [← hT0]; simp
  have g46 : Tm.get 46 T0 = .func (.func 71) #[] #[.pointer (some ⟨M4.n, 0, none⟩)] := by rw [← hT0]; simp
  clear hT0
  obtain ⟨T, hT⟩ := qaj (zM [9, 8, 5, 1] T0)
  have kp : ∀ i, i ∈ [9, 8, 5, 1] → Tm.get i T = Tm.get i T0 := fun i hi => by
   rw [hT]; exact jR i (by simp at hi; omega) T0 _ (by simp) hi
  have T1 := (kp 1 (by simp)).trans g1
  have T5 := (kp 5 (by simp)).trans g5
  have T8 := (kp 8 (by simp)).trans g8
  have T9 := (kp 9 (by simp)).trans g9
  obtain ⟨u, hu⟩ : ∃ u : WB, u = ⟨m1.n, M4.n, m2.n + 1, m2.n, M3.n + 1, M3.n, PB⟩ := ⟨_, rfl⟩
  have u5 : u.q5 = m1.n := by rw [hu]
  have uW : u.W = M4.n := by rw [hu]
  have u8 : u.P8 = m2.n + 1 := by rw [hu]
  have uT : u.TB = m2.n := by rw [hu]
  have u9 : u.P9 = M3.n + 1 := by rw [hu]
  have uO : u.OB = M3.n := by rw [hu]
  have uP : u.PB = PB := by rw [hu]
  have stu : St m1 M5 (u.σ N nt (.slice none 0 0) (fun _ => 0) (fun _ => .slice none 0 0) (fun _ => .slice none 0 0)) := by
   refine stW.sub (fun p hp => ?_) ?_
   ·rw [hu] at hp
    simp only [WB.σ, List.mem_cons, List.not_mem_nil, or_false] at hp
    rcases hp with rfl | rfl | rfl | rfl | rfl | rfl
    ·exact DX (i := 0) rfl
    ·exact DX (i := 4) rfl
    ·exact DX (i := 2) rfl
    ·exact DX (i := 1) rfl
    ·exact DX (i := 3) rfl
    ·exact DX (i := 5) rfl
   ·rw [hu]; simp only [WB.σ, List.map_cons, List.map_nil, List.nodup_cons, List.mem_cons, List.not_mem_nil, or_false, not_false_eq_true, List.nodup_nil, and_true]; omega
  have wi0 : WI m1 M5 u N nt (.slice none 0 0) (fun _ => 0) (fun _ => .slice none 0 0) (fun _ => .slice none 0 0) (fun _ => []) (fun _ => []) (fun _ => 0) :=
   ⟨stu, fun _ _ => rfl, fun j _ => ⟨.nil, fun B hB => by cases hB⟩, fun j _ => ⟨.nil, fun B hB => by cases hB⟩, fun j _ r hr => by cases hr⟩
  obtain ⟨L, hLe⟩ := qaj (M5.n)
  have wj0 : WJ m1 M5 u N nt (.slice none 0 0) TS0 L := ⟨_, _, _, _, _, _, wi0, rfl, fun j _ => ⟨rfl, rfl, rfl⟩⟩
  have hLb : ∀ b ∈ [u.W, u.TB, u.OB, u.P9, u.P8, u.q5], b ≠ L := by
   intro x hx
   simp only [List.mem_cons, List.not_mem_nil, or_false] at hx
   omega
  have hm1L : m1.n ≤ L := by omega
  obtain ⟨ca, hca⟩ : ∃ ca : Code, ca = (cL (cL (cR (cL (cR (cR (cR (cR (cR (qW Try.f12)))))))))) := ⟨_, rfl⟩
  obtain ⟨cb, hcb⟩ : ∃ cb : Code, cb = (cR (cL (cR (cL (cR (cR (cR (cR (cR (qW Try.f12)))))))))) := ⟨_, rfl⟩
  have ha := VN
  have hbb := VT
  rw [← hca] at ha; rw [← hcb] at hbb
  obtain ⟨mE, hmE⟩ := qaj (M5.alloc (.loop 0 T 226 #[47] ca cb none))
  have nE : mE.n = M5.n + 1 := by rw [hmE, M.n_alloc]
  have EE : Ext M5 mE := by rw [hmE]; exact ⟨by rw [M.n_alloc]; omega, fun X hX => by rw [M.obj_alloc, if_neg (by omega)], M.base_alloc _ _, M.log_alloc _ _⟩
  have obE : mE.obj L = some (.loop 0 T 226 #[47] ca cb none) := by rw [hmE, M.obj_alloc, if_pos hLe]
  let S : Nat → Nat → TS := fun k => ((qt es b).take k).foldl (ki es ms TH CE VA) TS0
  have hol : (qt es b).length = es.length := by unfold qt; simp
  have hSb : ∀ k j, (S k j).loc ≤ 16 ∧ (S k j).acts.length ≤ 32 ∧ (S k j).outs.length ≤ 16 := fun k j => by
   have := vX es ms TH CE VA ((qt es b).take k) 0 TS0 (fun j => by simp [TS0]) j
   rw [List.length_take, hol] at this
   have h2 : min k es.length ≤ 16 := by omega
   simp only [S]
   omega
  have hwalk := bG (n + 7) (.func (.yield L) #[] #[]) PB u.W b es.length (by omega) (by omega) hbl
   (fun k m' => WJ m1 m' u N nt (.slice none 0 0) (S k) L ∧ m'.obj L = some (.loop 0 T 226 #[47] ca cb none) ∧ L < m'.n) (fun _ => False)
   (fun k m' _ h => by
    obtain ⟨⟨loc, va, vo, A, O, tag, w, -, -⟩, -, -⟩ := h
    have lf := hLF.sees w.st.sees
    have hPl' := hPl.sees w.st.sees
    refine ⟨by rw [(w.st.get 0 rfl).2.2.load1]; show some (Value.pointer (some ⟨u.PB, 0, none⟩)) = _; rw [uP], ⟨ed', hPl'.p0 none, hPl'.hed.len⟩, hPl'.p2 none⟩)
   (fun k m' hk h => by
    obtain ⟨w, hob, hLn⟩ := h
    obtain ⟨i, hi⟩ := qaj ((b + k) % es.length)
    have hil : i < es.length := by rw [hi]; exact Nat.mod_lt _ (by omega)
    rw [← hi]
    have hki : (qt es b)[k]? = some i := by
     rw [hi]; unfold qt; rw [qac, List.getElem?_range hk]; rfl
    have hSk : S (k + 1) = ki es ms TH CE VA (S k) i := by
     obtain ⟨h, e⟩ := DY.1 hki
     simp only [S]
     rw [List.take_succ_eq_append_getElem h, List.foldl_append, e]; rfl
    have hrd := xM (P := Try.prog) (n := n + 6) (L := L) (args := [iv i]) (t' := Tm.set 47 (iv i) T) (t'' := Tm.set 10 (iv i) (Tm.set 47 (iv i) T)) (m := m')
     (R := fun e m2 => e = none ∧ m'.n ≤ m2.n ∧ WJ m1 m2 u N nt (.slice none 0 0) (ki es ms TH CE VA (S k) i) L) hob ha hbb rfl (by omega) (fun k => by unfold Be; simp) (by
      have w1 := w.putL hLb hm1L (.loop 1 T 226 #[47] ca cb none)
      have := Bd (n + 4) hl16 hb1 hLF hok uP hil hml (law2 i hil) w1 (fun j => by have := hSb k j; omega) T1 (by rw [u5]; exact T5) (by rw [u8]; exact T8) (by rw [u9]; exact T9) (by rw [M.n_put]; exact hLn) hLb
      obtain ⟨e, m2, r1, r2, r3, r4, r5⟩ := this
      rw [M.n_put] at r4
      rw [M.obj_put, if_pos rfl] at r3
      exact ⟨e, m2, r1, r3, r2, r4, r5⟩)
    obtain ⟨e, m2, ho2, ⟨rfl, hn2, hw2⟩, hrun⟩ := hrd
    rw [← hSk] at hw2
    exact .inl ⟨_, hrun, hw2.putL hLb hm1L _, by rw [M.obj_put, if_pos rfl], by rw [M.n_put]; omega⟩)
   mE ⟨by simpa [S] using wj0.step EE, obE, by omega⟩
  obtain ⟨m6, hw, hend⟩ := hwalk
  rcases hend with ⟨w6, ob6, hL6⟩ | hF
  rotate_left
  ·exact hF.elim
  rw [uW] at hw
  rw [hLe] at hw ob6
  refine gC (c := Yy) rfl (g := 71) (u := []) (v := [.pointer (some ⟨M4.n, 0, none⟩)]) g46 (r := .tuple #[]) (m1 := m6) (st := 0) (by rw [← hT, ← hca, ← hcb, ← hmE]; exact hw) (by rw [hca, hcb] at ob6; exact ob6) (by omega) ?_
  unfold fZ
  rw [← hLe]
  have w7 := (w6.putL hLb hm1L (.loop 3 T 226 #[47] (cL (cL (cR (cL (cR (cR (cR (cR (cR (qW Try.f12)))))))))) (cR (cL (cR (cL (cR (cR (cR (cR (cR (qW Try.f12)))))))))) none)).toK
  obtain ⟨m7, hm7⟩ := qaj (m6.put L (.loop 3 T 226 #[47] (cL (cL (cR (cL (cR (cR (cR (cR (cR (qW Try.f12)))))))))) (cR (cL (cR (cL (cR (cR (cR (cR (cR (qW Try.f12)))))))))) none))
  rw [← hm7] at w7 ⊢
  have l8 : load1 m7 ⟨u.P8, 1, none⟩ = some (.slice (some ⟨u.TB, 0, some 5⟩) nt nt) := by
   obtain ⟨loc, va, vo, A, O, tag, w, -⟩ := w7; exact w.lt8
  have hlenS : kG (.slice (some ⟨u.TB, 0, some 5⟩) nt nt) = some (iv nt) := rfl
  rw [← u8] at g8
  rw [← u9] at g9
  rw [← u5] at g5
  simp [g8, l8, hlenS]
  have hSn : S es.length = (qt es b).foldl (ki es ms TH CE VA) TS0 := by simp only [S]; rw [List.take_of_length_le (by omega)]
  refine VM (n + 8) (by omega) hb1 (S := S es.length) (fun j => by have := hSb es.length j; omega) (Ret m Q) _ _ _ _ _ _ (P2 := m.n + 1) (P3 := m.n + 1 + 1) ?_ ?_ ?_ ?_ ?_ ?_ ?_ w7 (fun t8 m8 x2 x3 x5 x9 x8 w8 => ?_)
  ·simp [g2]
  ·simp [g3]
  ·simp [g5]
  ·simp [g8]
  ·simp [g9]
  ·simp
  ·simp
  obtain ⟨loc, va, vo, A, O, tag, w, hS⟩ := w8
  have lq8 := w.lq
  rw [uP] at lq8
  have lP8 : load1 m8 ⟨PB, 8, none⟩ = some (.slice (some ⟨A8, 0, some 3⟩) N N) := (qy w.st.sees hPl.lt).trans (p8 none)
  have hlenN : kG (.slice (some ⟨A8, 0, some 3⟩) N N) = some (iv N) := rfl
  simp [x5, lq8, lP8, hlenN]
  refine Bb (n + 8) (by omega) hb1 (A8 := A8) k8 (WR := WR) law7 (fun x hx => ?_) w.st (Ret m Q) _ _ _ _ _ (P2 := m.n + 1) (P3 := m.n + 1 + 1) ?_ ?_ ?_ ?_ ?_ ?_ ?_ (fun t9 m9 fv y2 y3 y8 y9 st9 hG hfv hn9 ho9 => ?_)
  ·rw [r8.load1]; exact wU _ _ _ (law5 x hx)
  ·simp [x2]
  ·simp [x3]
  ·simp [x8]
  ·simp [x9]
  ·simp
  ·simp
  ·simp
  have st10 := st1.step st9.ext
  have lT : loads m9 ⟨u.P8, 0, none⟩ 2 = some [iv N, .slice (some ⟨u.TB, 0, some 5⟩) nt nt] := (st9.get 4 rfl).2.2.loads (by simp)
  have lO : loads m9 ⟨u.P9, 0, none⟩ 2 = some [fv, .slice (some ⟨u.OB, 0, some 3⟩) nt nt] := (st9.get 3 rfl).2.2.loads (by simp)
  obtain ⟨m10', i1, i2, i3, i4, i5⟩ := st10.fillAny 1 rfl (n := 2) (l' := [iv N, .slice (some ⟨u.TB, 0, some 5⟩) nt nt]) (by omega) rfl rfl (by simp [okC])
  obtain ⟨m10, hm10⟩ := qaj (behind m9 m10')
  rw [← hm10] at i3 i4 i5
  obtain ⟨m11', j1, j2, j3, j4, j5⟩ := i3.fillAny 0 rfl (n := 2) (l' := [fv, .slice (some ⟨u.OB, 0, some 3⟩) nt nt]) (by omega) rfl rfl (by simp [okC]; exact hG.okC)
  obtain ⟨m11, hm11⟩ := qaj (behind m10 m11')
  rw [← hm11] at j3 j4 j5
  have hP3 : m.n + 1 + 1 < m1.n := (st1.get 0 rfl).2.1
  have hne9 : ¬ (u.P9 = m.n + 1) := by rw [u9]; omega
  simp [y2, y3, y8, y9, lT, lO, qf, i1, i2, ← hm10, hne9, j1, j2, ← hm11]
  have keep : ∀ B, m1.n ≤ B → m11.obj B = m9.obj B := fun B hB => by
   have e1 := j5 B (by omega)
   have e2 := i5 B (by omega)
   rw [e1, e2]
  have n11 : m11.n = m9.n := by rw [j4, i4]
  have keep8 : ∀ B, m1.n ≤ B → B < m8.n → B ≠ u.P9 → m11.obj B = m8.obj B := fun B h1 h2 h3 => (keep B h1).trans (ho9 B h2 h3)
  have t9z : tag u.P9 = 0 := w.t0 (u.P9, [.slice none 0 0, .slice (some ⟨u.OB, 0, some 3⟩) nt nt]) (by unfold WB.σ; simp)
  refine XI (a := ⟨m.n + 1, 0, none⟩) (b := ⟨m.n + 1 + 1, 0, none⟩) (by simp [y2]) ((j3.get 1 rfl).2.2.loads (by simp)) (by simp [y3]) ((j3.get 0 rfl).2.2.loads (by simp)) j3.ext (hQ _ _ (.inr ⟨hz, .slice (some ⟨u.TB, 0, some 5⟩) nt nt, .slice (some ⟨u.OB, 0, some 3⟩) nt nt, fv, loc, va, vo, A, by simp, ?_, ?_, ?_, fun j hj => ?_, fun B hB => ?_, fun B hB => ?_, fun B hB => ?_, fun j hj => ?_⟩))
  ·have h5 : Grown m1 m11 fv 1 kP ((List.range N).map WR) := hG.keep (by omega) fun B hB hb => keep B (grown_low hG B hb).1
   exact h5.rd vf
  ·have hA := (st9.get 1 rfl).2.2
   have hm1 := (st9.get 1 rfl).1
   have hlt := (st9.get 1 rfl).2.1
   have hA' : Arr m11 u.TB (((List.range nt).map fun (j : Nat) => (((loc j : Nat) : Int), (va j : Value))).flatMap fun p : Int × Value => [iv p.1, p.2]) := by
    rw [List.flatMap_map]; exact hA.congr (keep _ hm1)
   have := zl (m := m11) (c := 5) (e := 2) (f := fun p : Int × Value => [iv p.1, p.2]) (fun _ => rfl) hA' (by omega)
   rwa [List.length_map, List.length_range] at this
  ·have hA := (st9.get 2 rfl).2.2
   have hm1 := (st9.get 2 rfl).1
   have hlt := (st9.get 2 rfl).2.1
   have hA' : Arr m11 u.OB (((List.range nt).map vo).flatMap fun v => [v]) := by
    rw [List.flatMap_map]; exact hA.congr (keep _ hm1)
   have := zl (m := m11) (c := 3) (e := 1) (f := fun v : Value => [v]) (fun _ => rfl) hA' (by omega)
   rwa [List.length_map, List.length_range] at this
  ·obtain ⟨e1, e2, e3⟩ := hS j hj
   rw [← hSn]
   obtain ⟨ga, gt⟩ := w.ga j hj
   obtain ⟨go, ot⟩ := w.go j hj
   refine ⟨e1, e2, ?_, ?_, fun r hr B op v hB => ?_⟩
   ·have : Grown m1 m11 (va j) 11 kl (A j) := ga.keep (by omega) fun B hB hb => keep8 B (grown_low ga B hb).1 hB (by rintro rfl; have := gt _ hb; omega)
    exact this.rd yr
   ·have : Grown m1 m11 (vo j) 1 kP (O j) := go.keep (by omega) fun B hB hb => keep8 B (grown_low go B hb).1 hB (by rintro rfl; have := ot _ hb; omega)
    rw [e3] at this
    exact this.rd vf
   ·obtain ⟨k1, k2, k3, k4⟩ := w.ge j hj r hr B op v hB
    exact ⟨by omega, k3.congr (keep8 B k1 k2 (by rintro rfl; omega))⟩
  ·have h5 := (grown_low hG B hB).1
   have h6 := st1.ext.n
   omega
  ·cases hB
   have h5 := (st9.get 1 rfl).1
   have h6 := st1.ext.n
   show m.n ≤ u.TB
   omega
  ·cases hB
   have h5 := (st9.get 2 rfl).1
   have h6 := st1.ext.n
   show m.n ≤ u.OB
   omega
  ·have h6 := st1.ext.n
   refine ⟨fun B hB => ?_, fun B hB => ?_, fun r hr B op v hB => ?_⟩
   ·have := (grown_low (w.ga j hj).1 B hB).1; omega
   ·have := (grown_low (w.go j hj).1 B hB).1; omega
   ·have := (w.ge j hj r hr B op v hB).1; omega
end Go.Sx
