/- The plain law. -/
import Derived.Test.YtdfaibjngkfnaaaGd
set_option linter.unusedVariables false
set_option linter.unusedSimpArgs false
set_option linter.defProp false
set_option linter.unusedSimpArgs false
set_option linter.unusedVariables false
namespace Go.Sx
open Go.Dx Go.Proofs
/-- the event at a place of the walk -/
def pos (es : List (Int × Int)) (b k : Nat) : Nat := (b + k) % es.length
/-- how many inner edges lie ahead of a place -/
def ic (es : List (Int × Int)) (b : Nat) : Nat → Nat
  | 0 => 0
  | k + 1 => ic es b k + if outAt es (pos es b k) then 0 else 1
section
variable {es : List (Int × Int)} {b : Nat}
theorem pos_lt (h : 0 < es.length) (k : Nat) : pos es b k < es.length := Nat.mod_lt _ h
theorem ah_pos (h : 0 < es.length) (k : Nat) : ahN es.length (pos es b (k + 1)) = pos es b k := by
  unfold pos ahN
  have hl := Nat.mod_lt (b + k) h
  by_cases e : (b + k) % es.length + 1 = es.length
  · have : (b + (k + 1)) % es.length = 0 := by rw [← Nat.add_assoc, ← Nat.mod_add_mod, e, Nat.mod_self]
    rw [this, if_pos rfl]; omega
  · have : (b + (k + 1)) % es.length = (b + k) % es.length + 1 := by rw [← Nat.add_assoc, ← Nat.mod_add_mod, Nat.mod_eq_of_lt (by omega)]
    rw [this, if_neg (by omega)]; omega
theorem pos_add (k : Nat) : pos es b (k + es.length) = pos es b k := by unfold pos; rw [← Nat.add_assoc, Nat.add_mod_right]
theorem pos_inj (hb : b < es.length) {i j : Nat} (hi : i < es.length) (hj : j < es.length) (h : pos es b i = pos es b j) : i = j := by
  unfold pos at h
  have key : ∀ k, k < es.length → (b + k) % es.length = if b + k < es.length then b + k else b + k - es.length := fun k hk => by
    split
    · exact Nat.mod_eq_of_lt ‹_›
    · rw [Nat.mod_eq_sub_mod (by omega), Nat.mod_eq_of_lt (by omega)]
  rw [key i hi, key j hj] at h
  split at h <;> split at h <;> omega
theorem ordL_get {k : Nat} (hk : k < es.length) : (ordL es b)[k]? = some (pos es b k) := by
  unfold ordL pos; rw [List.getElem?_map, List.getElem?_range hk]; rfl
theorem ordL_len : (ordL es b).length = es.length := by unfold ordL; simp
theorem ordL_drop {k : Nat} (hk : k < es.length) : (ordL es b).drop k = pos es b k :: (ordL es b).drop (k + 1) := by
  obtain ⟨h, e⟩ := List.getElem?_eq_some_iff.1 (ordL_get (b := b) hk)
  rw [List.drop_eq_getElem_cons h, e]
theorem ic_step (k : Nat) : ic es b k ≤ ic es b (k + 1) ∧ ic es b (k + 1) ≤ ic es b k + 1 := by show _ ≤ ic es b k + _ ∧ ic es b k + _ ≤ _; split <;> omega
theorem ic_mono {i j : Nat} (h : i ≤ j) : ic es b i ≤ ic es b j := by
  induction j with
  | zero => have : i = 0 := by omega
            subst this; exact Nat.le_refl _
  | succ j ih =>
    rcases Nat.lt_or_ge i (j + 1) with h' | h'
    · exact Nat.le_trans (ih (by omega)) (ic_step j).1
    · have : i = j + 1 := by omega
      subst this; exact Nat.le_refl _
theorem ic_le (k : Nat) : ic es b k ≤ k := by
  induction k with
  | zero => exact Nat.le_refl _
  | succ k ih => have := (ic_step (es := es) (b := b) k).2; omega
theorem ic_first : ∀ (m c : Nat), c ≤ ic es b m → ∃ s, s ≤ m ∧ ic es b s = c ∧ ∀ j, j < s → ic es b j < c
  | 0, c, h => ⟨0, Nat.le_refl _, by have : ic es b 0 = 0 := rfl; omega, fun j hj => by omega⟩
  | m + 1, c, h => by
    by_cases h1 : c ≤ ic es b m
    · obtain ⟨s, a, b', c'⟩ := ic_first m c h1
      exact ⟨s, by omega, b', c'⟩
    · have := (ic_step (es := es) (b := b) m).2
      exact ⟨m + 1, Nat.le_refl _, by omega, fun j hj => by have := ic_mono (es := es) (b := b) (show j ≤ m by omega); omega⟩
theorem ic_flat {i j k : Nat} (h : ic es b i = ic es b k) (h1 : i ≤ j) (h2 : j < k) : outAt es (pos es b j) = true := by
  have a := ic_mono (es := es) (b := b) h1
  have c := ic_mono (es := es) (b := b) (show j + 1 ≤ k by omega)
  have e : ic es b (j + 1) = ic es b j + if outAt es (pos es b j) then 0 else 1 := rfl
  cases ho : outAt es (pos es b j) with
  | true => rfl
  | false => rw [ho] at e; simp at e; omega
theorem ic_jump {j : Nat} (h : ic es b j < ic es b (j + 1)) : outAt es (pos es b j) = false := by
  have e : ic es b (j + 1) = ic es b j + if outAt es (pos es b j) then 0 else 1 := rfl
  cases ho : outAt es (pos es b j) with
  | true => rw [ho] at e; simp at e; omega
  | false => rfl
theorem ic_count (k : Nat) (hk : k ≤ es.length) : ic es b k = ((ordL es b).take k).countP fun i => !outAt es i := by
  induction k with
  | zero => rfl
  | succ k ih =>
    obtain ⟨h, e⟩ := List.getElem?_eq_some_iff.1 (ordL_get (es := es) (b := b) (show k < es.length by omega))
    rw [List.take_succ_eq_append_getElem h, List.countP_append, ← ih (by omega), e]
    show ic es b k + _ = _
    cases ho : outAt es (pos es b k) <;> simp [ho]
theorem range_outer : (List.range es.length).countP (fun i => outAt es i) = cnt es := by
  unfold cnt
  have : es = (List.range es.length).map (eAt es) := by
    apply List.ext_getElem?
    intro i
    rw [List.getElem?_map]
    by_cases h : i < es.length
    · rw [List.getElem?_range h, List.getElem?_eq_getElem h]
      show _ = some (eAt es i)
      rw [eAt_of (List.getElem?_eq_getElem h)]
    · rw [List.getElem?_eq_none (l := List.range es.length) (by rw [List.length_range]; omega), List.getElem?_eq_none (l := es) (by omega)]; rfl
  conv => rhs; rw [this]
  rw [List.countP_map]
  rfl
theorem ordL_perm (hb : b < es.length) : (ordL es b).Perm (List.range es.length) := by
  have h1 : ordL es b = List.range' b (es.length - b) ++ List.range b := by
    apply List.ext_getElem?
    intro k
    by_cases h : k < es.length
    · rw [ordL_get h]
      unfold pos
      by_cases h2 : k < es.length - b
      · rw [List.getElem?_append_left (by simpa using h2), List.getElem?_range' (by simpa using h2), Nat.mod_eq_of_lt (by omega)]; simp
      · rw [List.getElem?_append_right (by simp; omega), List.length_range', List.getElem?_range (by omega), Nat.mod_eq_sub_mod (by omega), Nat.mod_eq_of_lt (by omega)]
        congr 1; omega
    · rw [List.getElem?_eq_none (by rw [ordL_len]; omega), List.getElem?_eq_none (by simp; omega)]
  rw [h1]
  refine List.perm_append_comm.trans ?_
  have h2 : List.range es.length = List.range b ++ List.range' b (es.length - b) := by
    rw [List.range_eq_range', List.range_eq_range']
    have := List.range'_append_1 (s := 0) (m := b) (n := es.length - b)
    rw [Nat.zero_add, show b + (es.length - b) = es.length by omega] at this
    exact this.symm
  rw [h2]
theorem ic_all (hb : b < es.length) : ic es b es.length = es.length - cnt es := by
  rw [ic_count _ (Nat.le_refl _), List.take_of_length_le (by rw [ordL_len]; omega), (ordL_perm hb).countP_eq]
  have h1 := range_outer (es := es)
  have h2 := List.length_eq_countP_add_countP (fun i => outAt es i) (l := List.range es.length)
  rw [List.length_range] at h2
  have h3 : (List.range es.length).countP (fun i => !outAt es i) = (List.range es.length).countP (fun a => decide (¬ outAt es a = true)) := by
    congr 1; funext a; cases outAt es a <;> rfl
  omega
/-- the root, by how far it lies back -/
theorem root_at (h : 0 < es.length) (o : Bool) : ∀ (m j s : Nat), s ≤ j → j - s ≤ m → 0 < s → outAt es (pos es b (s - 1)) ≠ o → (∀ i, s ≤ i → i < j → outAt es (pos es b i) = o) → rootN es o m (pos es b j) = pos es b s
  | 0, j, s, h1, h2, h3, h4, h5 => by
    have : j = s := by omega
    subst this; rfl
  | m + 1, j, s, h1, h2, h3, h4, h5 => by
    unfold rootN
    obtain ⟨i, rfl⟩ : ∃ i, j = i + 1 := ⟨j - 1, by omega⟩
    rw [ah_pos h]
    by_cases e : i + 1 = s
    · subst e
      rw [Nat.add_sub_cancel] at h4
      rw [if_neg h4]
    · rw [if_pos (h5 i (by omega) (by omega))]
      exact root_at h o m i s (by omega) (by omega) h3 h4 fun i' a1 a2 => h5 i' a1 (by omega)
end
end Go.Sx

set_option linter.unusedSimpArgs false
set_option linter.unusedVariables false
namespace Go.Sx
open Go.Dx Go.Proofs
section
variable {es : List (Int × Int)} {b : Nat}
theorem rank_class {N : Nat} (R ρ : Nat → Nat) (hR : ∀ k, k < es.length → R (pos es b k) = ρ (ic es b k % N)) (hρ : ∀ c d, c < N → d < N → ρ c = ρ d → c = d) {c s : Nat} (hc0 : 0 < c) (hcN : c < N) (hsn : s < es.length) (hs : ic es b s = c) (hsf : ∀ j, j < s → ic es b j < c) :
    ∀ (d j : Nat), j + d = s → rankL R (ρ c) ((ordL es b).drop j) ((List.range (if j = 0 then 0 else ic es b (j - 1) + 1)).map ρ) = some c := by
  intro d
  induction d with
  | zero =>
    intro j hj
    have : j = s := by omega
    subst this
    have h0 : j ≠ 0 := by rintro rfl; have : ic es b 0 = 0 := rfl; omega
    rw [ordL_drop hsn, rankL, if_pos (by rw [hR _ hsn, hs, Nat.mod_eq_of_lt hcN]), if_neg h0]
    have h1 := hsf (j - 1) (by omega)
    have h2 := (ic_step (es := es) (b := b) (j - 1)).2
    rw [show j - 1 + 1 = j by omega] at h2
    simp; omega
  | succ d ih =>
    intro j hj
    have hjn : j < es.length := by omega
    have hjc := hsf j (by omega)
    have hRj : R (pos es b j) = ρ (ic es b j) := by rw [hR _ hjn, Nat.mod_eq_of_lt (by omega)]
    rw [ordL_drop hjn, rankL, if_neg (by rw [hRj]; intro h; have := hρ _ _ (by omega) hcN h; omega), hRj]
    have hnext := ih (j + 1) (by omega)
    rw [if_neg (by omega), Nat.add_sub_cancel] at hnext
    have key : (if ((List.range (if j = 0 then 0 else ic es b (j - 1) + 1)).map ρ).contains (ρ (ic es b j)) then (List.range (if j = 0 then 0 else ic es b (j - 1) + 1)).map ρ else (List.range (if j = 0 then 0 else ic es b (j - 1) + 1)).map ρ ++ [ρ (ic es b j)]) = (List.range (ic es b j + 1)).map ρ := by
      by_cases h0 : j = 0
      · subst h0
        have : ic es b 0 = 0 := rfl
        simp [this]
      · rw [if_neg h0]
        have h2 := ic_step (es := es) (b := b) (j - 1)
        rw [show j - 1 + 1 = j by omega] at h2
        by_cases he : ic es b j = ic es b (j - 1)
        · rw [if_pos (by simp; exact ⟨ic es b j, by omega, rfl⟩), he]
        · have e : ic es b j = ic es b (j - 1) + 1 := by omega
          rw [if_neg, e, List.range_succ (n := ic es b (j - 1) + 1), List.map_append]
          · rfl
          · simp
            intro x hx h
            have := hρ _ _ (by omega) (by omega) h
            omega
    rw [key]; exact hnext
/-- the reference's cell of an event, by its place -/
theorem cell_at (hb : b < es.length) (hlast : outAt es (pos es b (es.length - 1)) = true) (hN : 0 < es.length - cnt es) {k : Nat} (hk : k < es.length) : rankE es b true (pos es b k) = ic es b k % (es.length - cnt es) := by
  obtain ⟨N, hNe⟩ : ∃ N, N = es.length - cnt es := ⟨_, rfl⟩
  rw [← hNe] at hN ⊢
  have hn : 0 < es.length := by omega
  have hall : ic es b es.length = N := by rw [ic_all hb, hNe]
  have hlastN : ic es b (es.length - 1) = N := by
    have e : ic es b (es.length - 1 + 1) = ic es b (es.length - 1) + if outAt es (pos es b (es.length - 1)) then 0 else 1 := rfl
    rw [hlast, show es.length - 1 + 1 = es.length by omega, hall] at e
    simpa using e.symm
  have hex : ∀ c, ∃ s, c ≤ N → s ≤ es.length - 1 ∧ ic es b s = c ∧ ∀ j, j < s → ic es b j < c := fun c => by
    by_cases h : c ≤ N
    · obtain ⟨s, h1⟩ := ic_first (es := es) (b := b) (es.length - 1) c (by omega)
      exact ⟨s, fun _ => h1⟩
    · exact ⟨0, fun h' => absurd h' h⟩
  obtain ⟨sC, hsC⟩ : ∃ sC : Nat → Nat, ∀ c, c ≤ N → sC c ≤ es.length - 1 ∧ ic es b (sC c) = c ∧ ∀ j, j < sC c → ic es b j < c := ⟨fun c => (hex c).choose, fun c => (hex c).choose_spec⟩
  have hpos : ∀ c, 1 ≤ c → c ≤ N → 0 < sC c := fun c h1 h2 => by
    rcases Nat.eq_zero_or_pos (sC c) with h | h
    · have := (hsC c h2).2.1; rw [h] at this; have e : ic es b 0 = 0 := rfl; omega
    · exact h
  have hback : ∀ c, 1 ≤ c → c ≤ N → outAt es (pos es b (sC c - 1)) ≠ true := fun c h1 h2 => by
    have hp := hpos c h1 h2
    have := (hsC c h2).2.2 (sC c - 1) (by omega)
    have h3 := ic_jump (es := es) (b := b) (j := sC c - 1) (by rw [show sC c - 1 + 1 = sC c by omega, (hsC c h2).2.1]; exact this)
    rw [h3]; simp
  let ρ : Nat → Nat := fun c => if c = 0 then pos es b (sC N) else pos es b (sC c)
  have hR : ∀ k, k < es.length → rootE es true (pos es b k) = ρ (ic es b k % N) := fun k hk => by
    have hkN : ic es b k ≤ N := by have := ic_mono (es := es) (b := b) (show k ≤ es.length by omega); omega
    unfold rootE
    by_cases h0 : ic es b k = 0
    · have hsN := hsC N (Nat.le_refl _)
      have hp := hpos N (by omega) (Nat.le_refl _)
      have hks : k < sC N := by
        rcases Nat.lt_or_ge k (sC N) with h | h
        · exact h
        · have := ic_mono (es := es) (b := b) h; omega
      have e : ρ (ic es b k % N) = pos es b (sC N) := by simp only [ρ]; rw [h0, Nat.zero_mod, if_pos rfl]
      rw [e, ← pos_add (es := es) (b := b) k]
      refine root_at hn true es.length (k + es.length) (sC N) (by omega) (by omega) hp (hback N (by omega) (Nat.le_refl _)) fun i h1 h2 => ?_
      by_cases hi : i < es.length
      · exact ic_flat (es := es) (b := b) (i := sC N) (j := i) (k := es.length) (by rw [hsN.2.1, hall]) h1 hi
      · have : i = (i - es.length) + es.length := by omega
        rw [this, pos_add]
        exact ic_flat (es := es) (b := b) (i := 0) (j := i - es.length) (k := k) (by rw [h0]; rfl) (by omega) (by omega)
    · have hs := hsC (ic es b k) hkN
      have hp := hpos _ (by omega) hkN
      have hsk : sC (ic es b k) ≤ k := by
        rcases Nat.lt_or_ge k (sC (ic es b k)) with h | h
        · have := hs.2.2 k h; omega
        · exact h
      have e : ρ (ic es b k % N) = pos es b (sC (ic es b k)) := by
        simp only [ρ]
        rcases Nat.lt_or_ge (ic es b k) N with h | h
        · rw [Nat.mod_eq_of_lt h, if_neg h0]
        · have : ic es b k = N := by omega
          rw [this, Nat.mod_self, if_pos rfl]
      rw [e]
      exact root_at hn true es.length k _ hsk (by omega) hp (hback _ (by omega) hkN) fun i h1 h2 => ic_flat (by rw [hs.2.1]) h1 h2
  have hinj : ∀ c d, c < N → d < N → ρ c = ρ d → c = d := fun c d hc hd h => by
    have key : ∀ c, c < N → ∃ c', c' ≤ N ∧ ρ c = pos es b (sC c') ∧ c' % N = c := fun c hc => by
      simp only [ρ]
      by_cases h : c = 0
      · exact ⟨N, Nat.le_refl _, by rw [if_pos h], by rw [Nat.mod_self, h]⟩
      · exact ⟨c, by omega, by rw [if_neg h], Nat.mod_eq_of_lt hc⟩
    obtain ⟨c', h1, h2, h3⟩ := key c hc
    obtain ⟨d', g1, g2, g3⟩ := key d hd
    rw [h2, g2] at h
    have := pos_inj hb (by have := (hsC c' h1).1; omega) (by have := (hsC d' g1).1; omega) h
    have e : c' = d' := by rw [← (hsC c' h1).2.1, ← (hsC d' g1).2.1, this]
    rw [← h3, ← g3, e]
  have main : rankL (rootE es true) (rootE es true (pos es b k)) (ordL es b) [] = some (ic es b k % N) := by
    rw [hR k hk]
    have hclt : ic es b k % N < N := Nat.mod_lt _ hN
    by_cases hc0 : ic es b k % N = 0
    · rw [hc0]
      have hd := ordL_drop (b := b) hn
      rw [List.drop_zero] at hd
      rw [hd, rankL, if_pos (by rw [hR 0 hn]; show ρ (0 % N) = _; rw [Nat.zero_mod])]
      rfl
    · have hs := hsC (ic es b k % N) (by omega)
      have := rank_class (es := es) (b := b) (N := N) (rootE es true) ρ hR hinj (c := ic es b k % N) (s := sC (ic es b k % N)) (by omega) hclt (by omega) hs.2.1 hs.2.2 (sC (ic es b k % N)) 0 (by omega)
      simpa using this
  unfold rankE
  rw [main]; rfl
/-- cells that are filled are counted alike -/
theorem layE_chk (hb : b < es.length) (hlast : outAt es (pos es b (es.length - 1)) = true) (hN : 0 < es.length - cnt es) :
    ∀ (d k : Nat) (s : LS) (cells : List Nat), k + d = es.length → s.c = ic es b k → s.wr.length = es.length - cnt es → (∀ x, x < es.length - cnt es → s.wr.getD x 0 = cells.count x) → (∀ x, cells.count x ≤ 2) →
      layE es (es.length - cnt es) ((ordL es b).drop k) s = chkL (fromE es) (rankE es b true) ((ordL es b).drop k) cells := by
  intro d
  induction d with
  | zero =>
    intro k s cells h1 h2 h3 h4 h5
    rw [List.drop_eq_nil_of_le (by rw [ordL_len]; omega)]; rfl
  | succ d ih =>
    intro k s cells h1 h2 h3 h4 h5
    have hk : k < es.length := by omega
    have hcl : s.c % (es.length - cnt es) < es.length - cnt es := Nat.mod_lt _ hN
    rw [ordL_drop hk, layE, chkL, cell_at hb hlast hN hk, ← h2, h4 _ hcl]
    obtain ⟨x, hx⟩ : ∃ x, x = s.c % (es.length - cnt es) := ⟨_, rfl⟩
    rw [← hx] at hcl ⊢
    have h5x := h5 x
    have hic : (lstep es (es.length - cnt es) s (pos es b k)).c = ic es b (k + 1) := by
      show (if outAt es (pos es b k) then s.c else s.c + 1) = ic es b k + _
      rw [h2]; split <;> rfl
    have hwl : (lstep es (es.length - cnt es) s (pos es b k)).wr.length = es.length - cnt es := by unfold lstep; simp only; split <;> simp [h3]
    cases hf : fromE es (pos es b k) with
    | false =>
      rw [if_neg (by simp), if_neg (by simp)]
      refine ih (k + 1) _ cells (by omega) hic hwl (fun y hy => ?_) h5
      have : (lstep es (es.length - cnt es) s (pos es b k)).wr = s.wr := by unfold lstep; simp [hf]
      rw [this]; exact h4 y hy
    | true =>
      rw [if_pos rfl]
      by_cases h2c : cells.count x = 2
      · rw [if_pos ⟨rfl, by omega⟩, if_pos h2c]
      · rw [if_neg (by omega), if_neg h2c]
        have hw : (lstep es (es.length - cnt es) s (pos es b k)).wr = s.wr.set x (s.wr.getD x 0 + 1) := by unfold lstep; simp [hf, ← hx]
        refine ih (k + 1) _ (cells ++ [x]) (by omega) hic hwl (fun y hy => ?_) (fun y => ?_)
        · rw [hw, List.count_append]
          by_cases e : y = x
          · subst e
            rw [List.getD_eq_getElem?_getD, List.getElem?_set_self (by omega), h4 y hy]; simp
          · rw [List.getD_eq_getElem?_getD, List.getElem?_set_ne (by omega), ← List.getD_eq_getElem?_getD, h4 y hy]
            simp [List.count_cons, e]
            intro h; exact absurd h.symm e
        · rw [List.count_append]
          by_cases e : y = x
          · subst e; simp; omega
          · have := h5 y
            simp [List.count_cons]
            split <;> omega
end
theorem beg_last {es : List (Int × Int)} (h : 0 < cnt es) : begE es < es.length ∧ outAt es (pos es (begE es) (es.length - 1)) = true := by
  have hb := begE_ok h
  unfold first at hb
  rw [List.find?_range_eq_some] at hb
  have hbl : begE es < es.length := by simpa using hb.2.1
  refine ⟨hbl, ?_⟩
  have h1 := hb.1
  unfold begP at h1
  have e : pos es (begE es) (es.length - 1 + 1) = begE es := by
    unfold pos; rw [show begE es + (es.length - 1 + 1) = begE es + es.length by omega, Nat.add_mod_right, Nat.mod_eq_of_lt hbl]
  have := ah_pos (es := es) (b := begE es) (by omega) (es.length - 1)
  rw [e] at this
  rw [this] at h1
  exact h1
theorem layA_checkR (es : List (Int × Int)) (ms : List Int) : layA es ms = checkR es ms := by
  unfold layA checkR
  split
  · rfl
  · split
    · rfl
    · rename_i h1 h2
      have hN : 0 < es.length - cnt es := by omega
      obtain ⟨hb, hlast⟩ := beg_last (es := es) (by omega)
      have := layE_chk (es := es) (b := begE es) hb hlast hN es.length 0 (lay0 es.length (es.length - cnt es)) [] (by omega) rfl (by simp [lay0]) (fun x hx => by simp [lay0, List.getD_eq_getElem?_getD, hx]) (fun x => by simp)
      rw [List.drop_zero] at this
      rw [this]; rfl
end Go.Sx

set_option linter.unusedSimpArgs false
set_option linter.unusedVariables false
namespace Go.Sx
open Go.Dx Go.Proofs
section
variable {es : List (Int × Int)} {b : Nat}
/-- the state at a place -/
def stt (es : List (Int × Int)) (b N k : Nat) : LS := ((ordL es b).take k).foldl (lstep es N) (lay0 es.length N)
theorem stt_succ {N k : Nat} (hk : k < es.length) : stt es b N (k + 1) = lstep es N (stt es b N k) (pos es b k) := by
  obtain ⟨h, e⟩ := List.getElem?_eq_some_iff.1 (ordL_get (es := es) (b := b) hk)
  unfold stt
  rw [List.take_succ_eq_append_getElem h, List.foldl_append, e]; rfl
theorem stt_c {N : Nat} : ∀ {k : Nat}, k ≤ es.length → (stt es b N k).c = ic es b k
  | 0, _ => rfl
  | k + 1, h => by
    rw [stt_succ (by omega)]
    show (if outAt es (pos es b k) then _ else _) = ic es b k + _
    rw [stt_c (by omega)]; split <;> rfl
theorem stt_ce_len {N k : Nat} : (stt es b N k).ce.length = es.length := by
  have key : ∀ (l : List Nat) (s : LS), (l.foldl (lstep es N) s).ce.length = s.ce.length := by
    intro l
    induction l with
    | nil => intro s; rfl
    | cons i l ih => intro s; rw [List.foldl_cons, ih]; simp [lstep]
  unfold stt; rw [key]; simp [lay0]
theorem stt_ce (hb : b < es.length) {N : Nat} : ∀ {k : Nat}, k ≤ es.length → ∀ j, j < k → (stt es b N k).ce[pos es b j]? = some (ic es b j % N)
  | 0, _, j, h => by omega
  | k + 1, hk, j, hj => by
    rw [stt_succ (by omega)]
    show ((stt es b N k).ce.set (pos es b k) ((stt es b N k).c % N))[pos es b j]? = _
    by_cases e : j = k
    · subst e
      rw [List.getElem?_set_self (by rw [stt_ce_len]; exact pos_lt (by omega) _), stt_c (by omega)]
    · rw [List.getElem?_set_ne (fun h => e (pos_inj hb (by omega) (by omega) h).symm)]
      exact stt_ce hb (by omega) j (by omega)
theorem lays_ce (hb : b < es.length) {N j : Nat} (hj : j < es.length) : (lays es N (ordL es b)).ce[pos es b j]? = some (ic es b j % N) := by
  have := stt_ce hb (N := N) (Nat.le_refl es.length) j hj
  unfold stt at this
  rwa [List.take_of_length_le (by rw [ordL_len]; omega)] at this
/-- from each place some inner edge lies ahead -/
theorem inner_ahead (hb : b < es.length) (hN : 0 < es.length - cnt es) (k : Nat) (hk : k < es.length) : ∃ d, d < es.length ∧ outAt es (pos es b (k + d)) = false ∧ ∀ j, j < d → outAt es (pos es b (k + j)) = true := by
  have hall := ic_all (es := es) hb
  -- some inner edge
  obtain ⟨s, hs1, hs2, hs3⟩ := ic_first (es := es) (b := b) es.length 1 (by omega)
  have hs0 : 0 < s := by
    rcases Nat.eq_zero_or_pos s with h | h
    · subst h; have : ic es b 0 = 0 := rfl; omega
    · exact h
  have hi : outAt es (pos es b (s - 1)) = false := ic_jump (by have := hs3 (s - 1) (by omega); rw [show s - 1 + 1 = s by omega, hs2]; exact this)
  have hex : ∃ d, d < es.length ∧ outAt es (pos es b (k + d)) = false := by
    by_cases h : k ≤ s - 1
    · exact ⟨s - 1 - k, by omega, by rw [show k + (s - 1 - k) = s - 1 by omega]; exact hi⟩
    · exact ⟨s - 1 + es.length - k, by omega, by rw [show k + (s - 1 + es.length - k) = (s - 1) + es.length by omega, pos_add]; exact hi⟩
  have key : ∀ d, d < es.length → outAt es (pos es b (k + d)) = false → ∃ d', d' ≤ d ∧ outAt es (pos es b (k + d')) = false ∧ ∀ j, j < d' → outAt es (pos es b (k + j)) = true := by
    intro d
    induction d using Nat.strongRecOn with
    | _ d ih =>
      intro h1 h2
      by_cases h : ∃ j, j < d ∧ outAt es (pos es b (k + j)) = false
      · obtain ⟨j, hj, h3⟩ := h
        obtain ⟨d', g1, g2⟩ := ih j hj (by omega) h3
        exact ⟨d', by omega, g2⟩
      · refine ⟨d, Nat.le_refl _, h2, fun j hj => ?_⟩
        cases ho : outAt es (pos es b (k + j)) with
        | true => rfl
        | false => exact absurd ⟨j, hj, ho⟩ h
  obtain ⟨d, h1, h2⟩ := hex
  obtain ⟨d', g1, g2⟩ := key d h1 h2
  exact ⟨d', by omega, g2⟩
theorem chain_ex (hes : es.length ≤ 16) (hb : b < es.length) (hlast : outAt es (pos es b (es.length - 1)) = true) (hN : 0 < es.length - cnt es) (c : Nat) (hc : c < es.length - cnt es) :
    ∃ l, ChainOK es (lays es (es.length - cnt es) (ordL es b)).ce b c l := by
  obtain ⟨N, hNe⟩ : ∃ N, N = es.length - cnt es := ⟨_, rfl⟩
  rw [← hNe] at hN hc ⊢
  have hn : 0 < es.length := by omega
  have hall : ic es b es.length = N := by rw [ic_all hb, hNe]
  have hlastN : ic es b (es.length - 1) = N := by
    have e : ic es b (es.length - 1 + 1) = ic es b (es.length - 1) + if outAt es (pos es b (es.length - 1)) then 0 else 1 := rfl
    rw [hlast, show es.length - 1 + 1 = es.length by omega, hall] at e
    simpa using e.symm
  -- the place where the cell begins
  obtain ⟨C, hC1, hCN, hCc⟩ : ∃ C, 1 ≤ C ∧ C ≤ N ∧ C % N = c := by
    by_cases h : c = 0
    · exact ⟨N, hN, Nat.le_refl _, by rw [Nat.mod_self, h]⟩
    · exact ⟨c, by omega, by omega, Nat.mod_eq_of_lt hc⟩
  obtain ⟨s, hs1, hs2, hs3⟩ := ic_first (es := es) (b := b) (es.length - 1) C (by omega)
  have hs0 : 0 < s := by
    rcases Nat.eq_zero_or_pos s with h | h
    · subst h; have : ic es b 0 = 0 := rfl; omega
    · exact h
  have hah : ∀ k, 0 < k → ahN es.length (pos es b k) = pos es b (k - 1) := fun k h => by
    have := ah_pos (es := es) (b := b) hn (k - 1); rwa [show k - 1 + 1 = k by omega] at this
  have hjump : outAt es (pos es b (s - 1)) = false := ic_jump (by have := hs3 (s - 1) (by omega); rw [show s - 1 + 1 = s by omega, hs2]; exact this)
  obtain ⟨d, hd1, hd2, hd3⟩ := inner_ahead hb (by omega) s (by omega)
  refine ⟨(List.range (d + 1)).map fun j => pos es b (s + j), ⟨s, by omega, ?_, ?_, fun k hk => ⟨ic es b k % N, lays_ce hb (by omega), fun h => ?_⟩, ?_⟩, ⟨fun x hx => ?_, fun j x y hx hy => ?_, fun x hx => ?_⟩, by simp; omega⟩
  · have := lays_ce (es := es) hb (N := N) (j := s) (by omega)
    rw [hs2, hCc] at this; exact this
  · show outAt es (ahN es.length (pos es b s)) = false
    rw [hah s hs0]; exact hjump
  · -- an event of the cell ahead of its beginning: cell 0, where the walk begins
    show outAt es (ahN es.length (pos es b k)) = true
    have hkc := hs3 k hk
    have hk0 : ic es b k = 0 := by
      rw [Nat.mod_eq_of_lt (by omega)] at h
      by_cases hcz : c = 0
      · omega
      · have : C = c := by
          rcases Nat.lt_or_ge C N with h' | h'
          · rw [Nat.mod_eq_of_lt h'] at hCc; exact hCc
          · have : C = N := by omega
            rw [this, Nat.mod_self] at hCc; omega
        omega
    by_cases hkz : k = 0
    · subst hkz
      have := ah_pos (es := es) (b := b) hn (es.length - 1)
      rw [show es.length - 1 + 1 = 0 + es.length by omega, pos_add] at this
      rw [this]; exact hlast
    · rw [hah k (by omega)]
      exact ic_flat (es := es) (b := b) (i := 0) (j := k - 1) (k := k) (by rw [hk0]; rfl) (by omega) (by omega)
  · rw [List.getElem?_map, List.getElem?_range (by omega)]; rfl
  · obtain ⟨j, -, rfl⟩ := List.mem_map.1 hx
    exact pos_lt hn _
  · rw [List.getElem?_map] at hx hy
    have hj : j + 1 < d + 1 := by
      rcases Nat.lt_or_ge (j + 1) (d + 1) with h | h
      · exact h
      · rw [List.getElem?_eq_none (l := List.range (d + 1)) (by simpa using h)] at hy; cases hy
    rw [List.getElem?_range (by omega)] at hx
    rw [List.getElem?_range hj] at hy
    cases hx; cases hy
    refine ⟨?_, hd3 j (by omega)⟩
    show (b + (s + (j + 1))) % es.length = ((b + (s + j)) % es.length + 1) % es.length
    rw [show b + (s + (j + 1)) = (b + (s + j)) + 1 by omega, ← Nat.mod_add_mod]
  · rw [List.getElem?_map] at hx
    simp only [List.length_map, List.length_range, Nat.add_sub_cancel] at hx
    rw [List.getElem?_range (by omega)] at hx
    cases hx
    exact hd2
end
theorem chains_ex (es : List (Int × Int)) (ms : List Int) : ∃ ch : Nat → List Nat, (layA es ms).2 = 0 → ∀ c, c < es.length - cnt es → ChainOK es (lays es (es.length - cnt es) (ordL es (begE es))).ce (begE es) c (ch c) := by
  by_cases h : (layA es ms).2 = 0
  · have hp : (plainR es ms).2 = 0 ∧ ¬ (cnt es < 2 ∨ es.length - cnt es < 1) := by
      unfold layA at h
      by_cases h1 : (plainR es ms).2 ≠ 0
      · rw [if_pos h1] at h; exact absurd h h1
      · rw [if_neg h1] at h
        refine ⟨by omega, fun h2 => ?_⟩
        rw [if_pos h2] at h; simp at h
    obtain ⟨hb, hlast⟩ := beg_last (es := es) (by omega)
    have hex : ∀ c, ∃ l, c < es.length - cnt es → ChainOK es (lays es (es.length - cnt es) (ordL es (begE es))).ce (begE es) c l := fun c => by
      by_cases hc : c < es.length - cnt es
      · obtain ⟨l, hl⟩ := chain_ex (plainR_len hp.1).1 hb hlast (by omega) c hc
        exact ⟨l, fun _ => hl⟩
      · exact ⟨[], fun h => absurd h hc⟩
    exact ⟨fun c => (hex c).choose, fun _ c hc => (hex c).choose_spec hc⟩
  · exact ⟨fun _ => [], fun h' => absurd h' h⟩
/-- the implementation's Check -/
theorem CheckI_c (n : Nat) (ed md : Value) (es : List (Int × Int)) (ms : List Int) (m : M) (hm : m.base ≤ m.n) (hl : es.length < 9223372036854775807) (hed : Rd m ed 2 edgeRow es) (hmd : Rd m md 1 modeRow ms) :
    CallV (ex Try.prog (n + 9)) 22 [.agg #[ed, md]] m (.tuple #[iv (layA es ms).1, iv (layA es ms).2]) := by
  refine call_ret d_w_Check_ok (by simp) ?_
  have hm0 : Sees m (Dx.newRow m [ed, md]) := by simp [Sees.refl hm]
  have hS0 := sees_row0 hm [ed, md]
  have hb : loads (Dx.newRow m [ed, md]) ⟨m.n, 0, none⟩ 2 = some [ed, md] := loads_row m _ 0 2 (by simp)
  obtain ⟨ch, hch⟩ := chains_ex es ms
  obtain ⟨v, m1, c1, c2, c3⟩ := lay_c n ed md es ms (Dx.newRow m [ed, md]) hS0.base hl (hed.sees hm0) (hmd.sees hm0) ch hch
  obtain ⟨p, q1, q2, rfl, hq1, hq2⟩ : ∃ (p : Value) (q1 q2 : Nat), v = .tuple #[p, iv q1, iv q2] ∧ q1 = (layA es ms).1 ∧ q2 = (layA es ms).2 := by
    rcases c3 with ⟨h, rfl⟩ | ⟨h, PB, rfl, -⟩
    · exact ⟨_, _, _, rfl, rfl, rfl⟩
    · have h1 : (layA es ms).1 = 0 := by
        unfold layA at h ⊢
        by_cases h1 : (plainR es ms).2 ≠ 0
        · rw [if_pos h1] at h; exact absurd h h1
        · rw [if_neg h1] at h ⊢
          by_cases h2 : cnt es < 2 ∨ es.length - cnt es < 1
          · rw [if_pos h2]
          · rw [if_neg h2] at h ⊢
            split at h
            · simp at h
            · rfl
      exact ⟨_, 0, 0, rfl, h1.symm, h.symm⟩
  rw [← hq1, ← hq2]
  simp [hb, loadNS_ptr, c1]
  exact ret_2 ((Ext.row _ _).trans c2) (by simp)
end Go.Sx

set_option linter.unusedSimpArgs false
set_option linter.unusedVariables false
namespace Go.Dx
section
variable {m0 m m' : M} {σ : List (Nat × List Value)} {k b : Nat} {l : List Value}
theorem St.keepOn (h : St m0 m σ) (e : Ext m0 m') (hn : m.n ≤ m'.n) (ho : ∀ p ∈ σ, m'.obj p.1 = m.obj p.1) : St m0 m' σ :=
  ⟨e, h.base, fun p hp => let ⟨h1, h2, h3⟩ := h.arr p hp; ⟨h1, by omega, h3.congr (ho p hp)⟩, h.nd⟩
/-- a whole block is written -/
theorem St.fill (h : St m0 m σ) (k : Nat) (hk : σ[k]? = some (b, l)) {n : Nat} {l' : List Value} (hl : l.length = n) (hl' : l'.length = n) (hv : ∀ v ∈ l', okC v = true) :
    ∃ m', storeS n (.pointer (some ⟨b, 0, none⟩)) (.agg ⟨l'⟩) m = some (undef, m') ∧ St m0 m' (σ.set k (b, l')) ∧ m'.n = m.n ∧ ∀ X, X ≠ b → m'.obj X = m.obj X := by
  obtain ⟨h1, h2, h3⟩ := h.get k hk
  have e := storeS_arr (n := n) (o := 0) (v := .agg ⟨l'⟩) (l := l') h3 rfl hl' (by omega) hv
  obtain ⟨_, s2, s3, s4, s5, s6⟩ := stores_putN (o := 0) (l := l') h3 (by omega) hv
  rw [over_fill (by omega)] at s2
  exact ⟨_, e, h.put' k hk s3 s4 (s6 (by have := h.ext.base; have := h.base; omega)) s5 s2, s3, s5⟩
end
theorem Grown.okC {α : Type} {m0 m : M} {v : Value} {e : Nat} {f : α → List Value} {es : List α} (h : Grown m0 m v e f es) : Dx.okC v = true := by
  rcases h with ⟨_, rfl⟩ | ⟨B, _, _, _, rfl, _⟩ <;> rfl
/-- all of a slice behind a nil one -/
theorem append_all {α : Type} {m : M} {v : Value} {e : Nat} {f : α → List Value} {es : List α} (h : Rd m v e f es) (bytes : Nat) (hb : es.length * bytes ≤ most) (hn : es.length ≤ 4611686018427387904) :
    ∃ v' m', appendV m e bytes (.slice none 0 0) v = some (v', m') ∧ Ext m m' ∧ Grown m m' v' e f es := by
  have e0 : appendV m e bytes (.slice none 0 0) v = appW m e bytes 0 0 es.length none (es.flatMap f) := by
    show ob (lenV v) _ = _
    rw [h.lenV, ob_some']
    show ob (firsts m e es.length v) _ = _
    rw [h.all, ob_some']
  rw [e0]
  unfold appW
  by_cases hz : es = []
  · subst hz
    exact ⟨_, _, rfl, Ext.refl m, .nil⟩
  · have hpos := List.length_pos_iff.2 hz
    have h1 : Nat.ble (0 + es.length) 0 = false := by
      cases q : Nat.ble (0 + es.length) 0 with
      | false => rfl
      | true => have := Nat.le_of_ble_eq_true q; omega
    rw [h1, cond_false, Nat.zero_add, Nat.ble_eq_true_of_le hb, Nat.ble_eq_true_of_le hn]
    refine ⟨.slice (some ⟨m.n, 0, some (code e false)⟩) es.length es.length, newRow m (es.flatMap f), rfl, Ext.row m _, .inr ⟨m.n, Nat.le_refl _, by rw [newRow_n]; omega, hz, rfl, Arr.row m _⟩⟩
theorem ret_cell2 {m0 m : M} {Q : Value → M → Prop} {t : Tm} {p : Nat} {a : Addr} {l : List Value} (h1 : Tm.get p t = .pointer (some a)) (h2 : loads m a 2 = some l) (he : Ext m0 m) (hq : Q (.agg ⟨l⟩) m) : Ret m0 Q (resK [.cell p 2] t m) := by
  refine ret_of (l := [.agg ⟨l⟩]) ?_ he hq
  simp only [resV, resOne, h1, vPtr_ptr, ob_some', h2]
@[simp] theorem bslice_edge (m : M) (a b : Int) : bsliceS 2 1 (rep 1 [.int .i64 0, .int .i64 0]) [(0, 2, .agg ⟨[.int .i64 a, .int .i64 b]⟩)] m = some (.slice (some ⟨m.n, 0, some 5⟩) 1 1, newRow m [.int .i64 a, .int .i64 b]) := _root_.id rfl
@[simp] theorem build_edge (a b : Int) : buildV [.int .i64 0, .int .i64 0] [(0, 1, .int .i64 a), (1, 1, .int .i64 b)] = some (.agg ⟨[.int .i64 a, .int .i64 b]⟩) := _root_.id rfl
end Go.Dx
namespace Go.Sx
open Go.Dx Go.Proofs
theorem Ref_c (n : Nat) (ed md : Value) (es : List (Int × Int)) (ms : List Int) (m : M) (hm : m.base ≤ m.n) (he16 : es.length * 16 ≤ most) (hm8 : ms.length * 8 ≤ most) (hed : Rd m ed 2 edgeRow es) (hmd : Rd m md 1 modeRow ms) :
    Dx.Call (ex Try.prog (n + 1)) 13 [.agg #[ed, md]] m fun v m' => ∃ ed' md', v = .agg #[ed', md'] ∧ Rd m' ed' 2 edgeRow es ∧ Rd m' md' 1 modeRow ms := by
  refine call_ret d_l_Ref_ok (by simp) ?_
  unfold most at he16 hm8
  have st0 : St m m [] := St.nil hm (Ext.refl m)
  have st1 := ((st0.row [ed, md]).row [.slice none 0 0, .slice none 0 0]).row [.slice none 0 0, .slice none 0 0]
  simp only [newRow_n] at st1
  obtain ⟨m1, hm1⟩ : ∃ m1, m1 = Dx.newRow (Dx.newRow (Dx.newRow m [ed, md]) [.slice none 0 0, .slice none 0 0]) [.slice none 0 0, .slice none 0 0] := ⟨_, rfl⟩
  rw [← hm1] at st1
  have n1 : m1.n = m.n + 3 := by rw [hm1]; simp
  have hel := hed.len
  simp [← hm1]
  refine loop_run (c := c_l_Ref_6) rfl (Ret m _) (fun i t m' => Tm.get 1 t = .pointer (some ⟨m.n, 0, none⟩) ∧ Tm.get 2 t = .pointer (some ⟨m.n + 1, 0, none⟩) ∧ Tm.get 3 t = .pointer (some ⟨m.n + 1 + 1, 0, none⟩) ∧ Tm.get 4 t = iv i ∧
      ∃ v, St m m' [(m.n + 1 + 1, [v, .slice none 0 0]), (m.n + 1, [.slice none 0 0, .slice none 0 0]), (m.n, [ed, md])] ∧ Grown m m' v 2 edgeRow (es.take i) ∧ ∀ B, blk v = some B → m.n + 3 ≤ B) es.length (by omega)
    ⟨by simp, by simp, by simp, by simp, _, st1, by simpa using Grown.nil, fun B hB => by cases hB⟩ (fun i t m' k hi hI hk => ?_)
  obtain ⟨h1, h2, h3, h4, v, st, hG, hv⟩ := hI
  have lc := (st.get 2 rfl).2.2.load1
  by_cases hil : i < es.length
  · obtain ⟨e, he⟩ : ∃ e, es[i]? = some e := ⟨_, List.getElem?_eq_getElem hil⟩
    have hS := st.sees
    have ⟨a1, a2, a3⟩ := (hed.sees hS).at he
    have k0 : load1 m' ⟨(adr 2 ed i).block, (adr 2 ed i).off, none⟩ = some (iv e.1) := a3 m' 0 none hS.self (by simp [edgeRow])
    have k1 : load1 m' ⟨(adr 2 ed i).block, (adr 2 ed i).off + 1, none⟩ = some (iv e.2) := a3 m' 1 none hS.self (by simp [edgeRow])
    have hd := dlt hil
    have w1 : IntKind.i64.wrap ((i : Int) + 1) = ((i + 1 : Nat) : Int) := by rw [wrap64 _ (by omega) (by omega)]; omega
    have lr := (st.get 0 rfl).2.2.load1
    obtain ⟨M1, hM1⟩ : ∃ M1, M1 = Dx.newRow m' [iv e.1, iv e.2] := ⟨_, rfl⟩
    have E1 : Ext m' M1 := by rw [hM1]; exact Ext.row _ _
    have nM1 : M1.n = m'.n + 1 := by rw [hM1, newRow_n]
    have hlen : (es.take i).length = i := by rw [List.length_take]; omega
    obtain ⟨v', m2', p1, p2, p3, p4, p5, p6, p7⟩ := (hG.ext E1).appendAny (st.ext.trans E1) hm (by omega) edgeRow_len (fun x => by simp [edgeRow, Dx.okC]) (x := e) (X := m'.n) (sp := some 5) (by rw [hM1]; exact (Arr.row m' [iv e.1, iv e.2]).loads (by simp)) (bytes := 16) (by rw [hlen]; unfold most; omega) (by rw [hlen]; omega)
    obtain ⟨M2, hM2⟩ : ∃ M2, M2 = behind M1 m2' := ⟨_, rfl⟩
    rw [← hM2] at p3 p4 p5 p6
    have hn3 := (st.get 0 rfl).2.1
    have st2 : St m M2 [(m.n + 1 + 1, [v, .slice none 0 0]), (m.n + 1, [.slice none 0 0, .slice none 0 0]), (m.n, [ed, md])] := (st.step E1).keepOn p3 p5 fun p hp => by
      have hpk : p.1 ≤ m.n + 1 + 1 := by simp at hp; rcases hp with rfl | rfl | rfl <;> omega
      exact p6 p.1 (by omega) fun hc => by have := hv p.1 hc; omega
    obtain ⟨m3', q1, q2, q3, q4, q5⟩ := st2.storeAny 0 rfl (o := 0) (v := v') (by simp) p4.okC
    obtain ⟨M3, hM3⟩ : ∃ M3, M3 = behind M2 m3' := ⟨_, rfl⟩
    rw [← hM3] at q3 q4 q5
    simp [h1, h2, h3, h4, lc, hel, hd, lr, a1, k0, k1, ← hM1, p1, ← hM2, q1, ← hM3, w1]
    refine hk hil _ _ ?_
    have hv' : ∀ B, blk v' = some B → m.n + 3 ≤ B := fun B hB => by have := p7 B hB; omega
    have htk : es.take (i + 1) = es.take i ++ [e] := by
      obtain ⟨h, e'⟩ := List.getElem?_eq_some_iff.1 he
      rw [List.take_succ_eq_append_getElem h, e']
    refine ⟨by simp [h1], by simp [h2], by simp [h3], by simp, v', q3, ?_, hv'⟩
    rw [htk]
    exact p4.keep (by omega) fun B hB hb => q5 B (by have := hv' B hb; omega)
  obtain rfl : i = es.length := by omega
  rw [List.take_length] at hG
  have lr := (st.get 0 rfl).2.2.load1
  obtain ⟨w, m4, p1, p2, p3⟩ := append_all (hmd.sees st.sees) 8 (by unfold most; omega) (by omega)
  have st4 := st.step p2
  obtain ⟨m5, q1, q2, q3, q4⟩ := st4.store 0 rfl (o := 1) (v := w) (by simp) p3.okC
  have lr5 : loads m5 ⟨m.n + 1 + 1, 0, none⟩ 2 = some [v, w] := (q2.get 0 rfl).2.2.loads (by simp)
  obtain ⟨m6, r1, r2, r3, r4⟩ := q2.fill 1 rfl (n := 2) (l' := [v, w]) rfl rfl (by simp [hG.okC, p3.okC])
  have lr6 : loads m6 ⟨m.n + 1, 0, none⟩ 2 = some [v, w] := (r2.get 1 rfl).2.2.loads (by simp)
  simp [h1, h2, h3, h4, lc, hel, lr, p1, q1, lr5, loadNS_ptr, r1]
  have hmn := (st.get 0 rfl).2.1
  refine ret_cell2 (by simp [h2]) lr6 r2.ext ⟨v, w, rfl, ?_, ?_⟩
  · have h5 : Grown m m6 v 2 edgeRow es := (hG.ext p2).keep (by omega) fun B hB hb => by
      have := hv B hb
      rw [r4 B (by omega), q4 B (by omega)]
    exact h5.rd edgeRow_len
  · have h5 : Grown m' m6 w 1 modeRow ms := p3.keep (by omega) fun B hB hb => by
      have hlow : m'.n ≤ B := by
        rcases p3 with ⟨_, rfl⟩ | ⟨B', g1, _, _, rfl, _⟩
        · cases hb
        · cases hb; exact g1
      rw [r4 B (by omega), q4 B (by omega)]
    exact h5.rd modeRow_len
end Go.Sx

set_option linter.unusedSimpArgs false
set_option linter.unusedVariables false
namespace Go.Sx
open Go.Dx Go.Proofs
/-- the evaluator with awake's answer at hand -/
def aw : Dx.Pre := ⟨15, [], .bool true, []⟩
noncomputable def xA (N : Nat) : Ex := ⟨fun g args m => bif Nat.beq g 15 then (exg Try.prog [aw] 1).f g args m else (ex Try.prog N).f g args m, (ex Try.prog N).y⟩
theorem xA_f (N g : Nat) (args : List Value) (m : M) (h : g ≠ 15) : (xA N).f g args m = (ex Try.prog N).f g args m := by
  show (bif Nat.beq g 15 then _ else _) = _
  rw [beq_ne h]; rfl
theorem xA_aw (N : Nat) (m : M) : (xA N).f 15 [] m = some (.bool true, m) := rfl
theorem xA_ok (hP : Try.prog.follows .mixedOrders = true) (haw : PreOK Try.prog aw) (N : Nat) : ExOK Try.prog (xA N) := by
  refine ⟨fun g args m v m' h => ?_, (ex_ok hP N).y⟩
  change (bif Nat.beq g 15 then (exg Try.prog [aw] 1).f g args m else (ex Try.prog N).f g args m) = some (v, m') at h
  cases hb : Nat.beq g 15 with
  | true => rw [hb] at h; exact (exg_ok hP (l := [aw]) (fun p hp => by rw [List.mem_singleton.1 hp]; exact haw) 1).f g args m v m' h
  | false => rw [hb] at h; exact (ex_ok hP N).f g args m v m' h
theorem step_ret {P : Program} {x : Ex} {g : Nat} {c : SC} {nt : Nat} {res : List RV} {args : List Value} {m : M} {Q : Value → M → Prop} (hd : fnOf P g = some ⟨c, nt, res⟩) (ha : args.length ≤ nt)
    (h : Ret m Q (c x (resK res) noK (resK res) (initT .blank 0 args) m)) : Dx.Call (Ex.step P x) g args m Q := by
  obtain ⟨v, m', e, h1, h2⟩ := h
  refine ⟨v, m', ?_, h1, h2⟩
  show ob (fnOf P g) (callF x args m) = _
  rw [hd, ob_some', callF_ap _ _ _ _ _ _ ha]; exact e
theorem WeaveChecks_c (ed md : Value) (es : List (Int × Int)) (ms : List Int) (m : M) (hm : m.base ≤ m.n) (he16 : es.length * 16 ≤ most) (hm8 : ms.length * 8 ≤ most) (hed : Rd m ed 2 edgeRow es) (hmd : Rd m md 1 modeRow ms) :
    CallV (Ex.step Try.prog (xA 9)) 5 [.agg #[ed, md]] m (.bool true) := by
  refine step_ret d_l_WeaveChecks_ok (by simp) ?_
  have hl : es.length < 9223372036854775807 := by unfold most at he16; omega
  have st0 : St m m [] := St.nil hm (Ext.refl m)
  have st1 := st0.row [ed, md]
  obtain ⟨v1, m1, p1, p2, rfl⟩ := CheckI_c 0 ed md es ms (Dx.newRow m [ed, md]) st1.sees.base hl (hed.sees st1.sees) (hmd.sees st1.sees)
  have st2 := st1.step p2
  obtain ⟨v2, m2, q1, q2, ed', md', rfl, q3, q4⟩ := Ref_c 8 ed md es ms m1 st2.sees.base he16 hm8 (hed.sees st2.sees) (hmd.sees st2.sees)
  have st3 := st2.step q2
  obtain ⟨v3, m3, r1, r2, rfl⟩ := Check_c 3 ed' md' es ms m2 st3.sees.base hl q3 q4
  have st4 := st3.step r2
  have hb : loads (Dx.newRow m [ed, md]) ⟨m.n, 0, none⟩ 2 = some [ed, md] := loads_row m _ 0 2 (by simp)
  have hb1 : loads m1 ⟨m.n, 0, none⟩ 2 = some [ed, md] := (st2.get 0 rfl).2.2.loads (by simp)
  rw [← layA_checkR] at r1
  obtain ⟨a, ha⟩ : ∃ a, a = (layA es ms).1 := ⟨_, rfl⟩
  obtain ⟨b, hb'⟩ : ∃ b, b = (layA es ms).2 := ⟨_, rfl⟩
  rw [← ha, ← hb'] at p1 r1
  have x1 := xA_f 9 22
  have x2 := xA_f 9 13
  have x3 := xA_f 9 14
  simp [hb, hb1, loadNS_ptr, xA_f, p1, q1, r1, xA_aw]
  exact ret_1 st4.ext (by simp)
end Go.Sx
