/- Contracts. -/
import Derived.Test.YtdfaibjngkfnaaaGg
set_option linter.unusedVariables false
set_option linter.unusedSimpArgs false
set_option linter.defProp false
namespace Go.Sx
open Go.Dx Go.Proofs
section
variable {EV : List EvR} {N : Nat}
abbrev wlL (EV : List EvR) (N x : Nat) : List Nat := wl EV N x (EV.length - N)
def KS (EV : List EvR) (N x b : Nat) : List Nat := if b = 1 then swp (wlL EV N x) else wlL EV N x
def JN (EV : List EvR) (N : Nat) (X : Nat → List Nat) (W : Nat → Nat) (x : Nat) : Prop :=
 ((wlL EV N x).length = 3 → ∃ β, β < 2 ∧ KS EV N x β = X x ∧ ∀ b, b < 2 → (QZ EV (KS EV N x b) = W x ↔ b = β)) ∧
 ((wlL EV N x).length ≠ 3 → wlL EV N x = X x ∧ QZ EV (wlL EV N x) = W x)
def xw (EV : List EvR) (N k : Nat) : Nat := (List.range k).countP fun x => decide ((wlL EV N x).length = 3)
theorem JQ {α : Type} {a b : List α} {x y : α} (h : a.length = b.length) : a ++ [x] = b ++ [y] ↔ a = b ∧ x = y := by
 constructor
 ·intro e
  obtain ⟨h1, h2⟩ := List.append_inj e h
  exact ⟨h1, by simpa using h2⟩
 ·rintro ⟨rfl, rfl⟩; rfl
theorem JU (X : Nat → List Nat) (W : Nat → Nat) : ∀ k, (∀ x, x < k → JN EV N X W x) → ∃ T, T < 2 ^ xw EV N k ∧ (∀ r, (coF EV N k (T + r * 2 ^ xw EV N k)).1 = (List.range k).map X) ∧
  ∀ co r, ((coF EV N k co).1.map (QZ EV) = (List.range k).map W ∧ (coF EV N k co).2 = r) ↔ co = T + r * 2 ^ xw EV N k
 | 0, _ => ⟨0, by simp [xw], fun r => by simp [coF], fun co r => by simp [coF, xw]⟩
 | k + 1, h => by
  obtain ⟨T, h1, h2, h3⟩ := JU X W k fun x hx => h x (by omega)
  obtain ⟨hA, hB⟩ := h k (by omega)
  have hs : ∀ co, coF EV N (k + 1) co = coS EV N (coF EV N k co) k := fun co => by unfold coF; rw [qL]
  have hl : ∀ co, (coF EV N k co).1.length = k := fun co => (xE EV N co k).1
  have hK : xw EV N (k + 1) = xw EV N k + if (wlL EV N k).length = 3 then 1 else 0 := by
   unfold xw
   rw [List.range_succ, List.countP_append, List.countP_singleton]
   simp
  by_cases hb : (wlL EV N k).length = 3
  ·obtain ⟨β, hβ, hX, hF⟩ := hA hb
   rw [if_pos hb] at hK
   have hstep : ∀ co, coF EV N (k + 1) co = ((coF EV N k co).1 ++ [KS EV N k ((coF EV N k co).2 % 2)], (coF EV N k co).2 / 2) := fun co => by
    rw [hs co]; unfold coS KS; rw [if_pos hb]
   obtain ⟨P, hP⟩ := qay (2 ^ xw EV N k)
   have hP2 : 2 ^ xw EV N (k + 1) = P * 2 := by rw [hK, Nat.pow_succ, hP]
   rw [← hP] at h1 h2 h3
   have alg : ∀ r, T + (2 * r + β) * P = T + β * P + r * (P * 2) := fun r => by
    rw [Nat.add_mul, Nat.mul_comm 2 r, Nat.mul_assoc r 2 P, Nat.mul_comm 2 P]; omega
   refine ⟨T + β * P, ?_, fun r => ?_, fun co r => ?_⟩
   ·rw [hP2]
    have : β * P ≤ 1 * P := qau P (by omega)
    omega
   ·rw [hP2, ← alg, hstep, h2]
    have e := ((h3 (T + (2 * r + β) * P) (2 * r + β)).2 rfl).2
    rw [e, show (2 * r + β) % 2 = β by omega, hX, List.range_succ, List.map_append]; rfl
   ·rw [hP2, ← alg, ← h3 co (2 * r + β), hstep]
    simp only [List.map_append, List.map_cons, List.map_nil, List.range_succ]
    rw [JQ (by simp [hl co]), hF _ (Nat.mod_lt _ (by omega))]
    constructor
    ·rintro ⟨⟨e1, e2⟩, e3⟩
     exact ⟨e1, by omega⟩
    ·rintro ⟨e1, e2⟩
     exact ⟨⟨e1, by omega⟩, by omega⟩
  ·obtain ⟨hX, hF⟩ := hB hb
   rw [if_neg hb] at hK
   have hstep : ∀ co, coF EV N (k + 1) co = ((coF EV N k co).1 ++ [wlL EV N k], (coF EV N k co).2) := fun co => by
    rw [hs co]; unfold coS; rw [if_neg hb]
   replace hK : xw EV N (k + 1) = xw EV N k := hK
   refine ⟨T, by rw [hK]; exact h1, fun r => ?_, fun co r => ?_⟩
   ·rw [hK, hstep, h2, hX, List.range_succ, List.map_append]; rfl
   ·rw [hK, ← h3 co r, hstep]
    simp only [List.map_append, List.map_cons, List.map_nil, List.range_succ]
    rw [JQ (by simp [hl co])]
    constructor
    ·rintro ⟨⟨e1, e2⟩, e3⟩
     exact ⟨e1, e3⟩
    ·rintro ⟨e1, e2⟩
     exact ⟨⟨e1, hF⟩, e2⟩
theorem JS {p : Nat → Bool} {g : Nat → Nat} {n : Nat} : ∀ k, (∀ x, x < k → (wlL EV N x).length = 3 → (List.range n).countP (fun i => p i && decide (g i = x)) = 2) → 2 * xw EV N k ≤ (List.range n).countP fun i => p i && decide (g i < k)
 | 0, _ => by simp [xw]
 | k + 1, h => by
  have ih := JS k fun x hx => h x (by omega)
  have h0 := h k (by omega)
  have hK : xw EV N (k + 1) = xw EV N k + if (wlL EV N k).length = 3 then 1 else 0 := by
   unfold xw
   rw [List.range_succ, List.countP_append, List.countP_singleton]
   simp
  have hc : ∀ L : List Nat, L.countP (fun i => p i && decide (g i < k + 1)) = L.countP (fun i => p i && decide (g i < k)) + L.countP (fun i => p i && decide (g i = k)) := fun L => by
   induction L with
   | nil => rfl
   | cons a L ih =>
    rw [List.countP_cons, List.countP_cons, List.countP_cons, ih]
    by_cases h1 : p a = true
    ·rcases Nat.lt_trichotomy (g a) k with h2 | h2 | h2
     ·have h3 : g a < k + 1 := by omega
      have h4 : g a ≠ k := by omega
      simp [h1, h2, h3, h4]; omega
     ·have h3 : g a < k + 1 := by omega
      have h4 : ¬ g a < k := by omega
      simp [h1, h2, h3, h4]; omega
     ·have h3 : ¬ g a < k + 1 := by omega
      have h4 : ¬ g a < k := by omega
      have h5 : g a ≠ k := by omega
      simp [h1, h3, h4, h5]
    ·simp [h1]
  rw [hc]
  by_cases hb : (wlL EV N k).length = 3
  ·have := h0 hb
   rw [if_pos hb] at hK; omega
  ·rw [if_neg hb] at hK; omega
theorem Gq {X : Nat → List Nat} {W : Nat → Nat} (h : ∀ x, x < N → JN EV N X W x) (hK : xw EV N N ≤ 8) : ∃ T, T < 256 ∧ (coF EV N N T).1 = (List.range N).map X ∧ ∀ co, ((coF EV N N co).2 = 0 ∧ QY EV (coF EV N N co).1 = (List.range N).map W) ↔ co = T := by
 obtain ⟨T, h1, h2, h3⟩ := JU X W N h
 refine ⟨T, qaf h1 (Nat.pow_le_pow_right (by omega) hK), ?_, fun co => ?_⟩
 ·have := h2 0
  rwa [Nat.zero_mul, Nat.add_zero] at this
 ·have := h3 co 0
  rw [Nat.zero_mul, Nat.add_zero] at this
  rw [← this]
  unfold QY
  exact And.comm
end
end Go.Sx
namespace Go.Sx
open Go.Dx Go.Proofs
theorem Xl {α : Type} {l : List α} (h : l.length = 2) : ∃ a b, l = [a, b] := by
 match l, h with
 | [a, b], _ => exact ⟨a, b, rfl⟩
theorem dh {EV : List EvR} {x a : Nat} (ha : a < EV.length) : fl EV x a = true ↔ ∃ v, isW EV x v a = true := by
 unfold fl isW
 rw [xc ha]
 simp only [qag, decide_eq_true_eq]
 constructor
 ·rintro ⟨h1, h2⟩; exact ⟨_, ⟨h1, h2⟩, rfl⟩
 ·rintro ⟨v, ⟨h1, h2⟩, h3⟩; exact ⟨h1, h2⟩
theorem vR {EV : List EvR} {l : List Nat} {a : Nat} {e : EvR} (h : l.getD (l.length - 1) 0 = a) (he : EV[a]? = some e) : QZ EV l = e.val := by
 unfold QZ; rw [h, he]
theorem Qo {EV : List EvR} {c : Nat} : ∀ i, i ≤ EV.length → nW EV c i = ((List.range i).filter (fl EV c)).length
 | 0, _ => by simp [nW]
 | i + 1, h => by
  have he := qaa (show i < EV.length by omega)
  rw [fw he, Qo i (by omega), zz, qak]
  congr 1
  unfold fl
  rw [he]
  by_cases q : EV[i].kind = 2 ∧ EV[i].loc = (c : Int)
  ·simp [q]
  ·simp [q]
section
variable {es : List (Int × Int)} {ms : List Int} {TH CE VA WR : Nat → Nat} {N : Nat} {l : List Nat} {s : GT}
theorem GF.fr_in (g : GF es ms TH CE VA WR N l s) {c v : Nat} (hc : c < N) (hv : v ≤ WR c) : s.fr c v < s.ev.length ∧ isW s.ev c v (s.fr c v) = true := by
 have := g.w2 c v hc hv
 have hm : s.fr c v ∈ coV s.ev c v := by rw [this]; simp
 unfold coV at hm
 rw [List.mem_filter] at hm
 exact ⟨by simpa using hm.1, hm.2⟩
theorem GF.fr_of (g : GF es ms TH CE VA WR N l s) {c v a : Nat} (hc : c < N) (ha : a < s.ev.length) (hw : isW s.ev c v a = true) : v ≤ WR c ∧ s.fr c v = a := by
 have hm : a ∈ coV s.ev c v := by unfold coV; rw [List.mem_filter]; exact ⟨by simpa using ha, hw⟩
 by_cases hv : v ≤ WR c
 ·rw [g.w2 c v hc hv] at hm; exact ⟨hv, (qah.1 hm).symm⟩
 ·rw [g.w3 c v hc (by omega)] at hm; cases hm
theorem GF.fr_get (g : GF es ms TH CE VA WR N l s) {c v : Nat} (hc : c < N) (hv : v ≤ WR c) : ∃ e, s.ev[s.fr c v]? = some e ∧ e.kind = 2 ∧ e.loc = (c : Int) ∧ e.val = v := by
 obtain ⟨h1, h2⟩ := g.fr_in hc hv
 unfold isW at h2
 simp only [qag, decide_eq_true_eq] at h2
 exact ⟨_, xc h1, h2.1.1, h2.1.2, h2.2⟩
theorem GF.fr_inj (g : GF es ms TH CE VA WR N l s) {c v w : Nat} (hc : c < N) (hv : v ≤ WR c) (hw : w ≤ WR c) (h : s.fr c v = s.fr c w) : v = w := by
 obtain ⟨e1, a1, a2, a3, a4⟩ := g.fr_get hc hv
 obtain ⟨e2, b1, b2, b3, b4⟩ := g.fr_get hc hw
 rw [h, b1] at a1
 cases a1
 rw [← a4, b4]
theorem GF.lenN (g : GF es ms TH CE VA WR N l s) : N ≤ s.ev.length := by rw [g.hev]; simp
theorem GF.wl_filter (g : GF es ms TH CE VA WR N l s) {x : Nat} (hx : x < N) : wlL s.ev N x = (List.range s.ev.length).filter (fl s.ev x) := by
 have hN := g.lenN
 have e : List.range s.ev.length = List.range N ++ (List.range (s.ev.length - N)).map (N + ·) := by
  rw [← List.range_add]; congr 1; omega
 have h1 : (List.range N).filter (fl s.ev x) = [x] := filter_one hx fun a ha => by
  rw [dh (by omega)]
  constructor
  ·rintro ⟨v, hv⟩
   rcases (g.iw x v a (by omega)).1 hv with ⟨_, q, _⟩ | ⟨i, hi, _⟩
   ·exact q
   ·have := (g.e1 _ hi).1; simp at this; omega
  ·rintro rfl
   exact ⟨0, (g.iw a 0 a (by omega)).2 (.inl ⟨ha, rfl, rfl⟩)⟩
 unfold wlL wl
 rw [e, List.filter_append, h1, List.filter_map]
 rfl
def vb (s : GT) (WR : Nat → Nat) (x : Nat) : List Nat := (List.range (1 + WR x)).map (s.fr x)
theorem GF.wl_perm (g : GF es ms TH CE VA WR N l s) {x : Nat} (hx : x < N) : (wlL s.ev N x).Perm (vb s WR x) := by
 rw [g.wl_filter hx]
 unfold vb
 refine (List.perm_ext_iff_of_nodup (List.filter_sublist.nodup List.nodup_range) ?_).2 fun a => ?_
 ·unfold List.Nodup
  rw [List.pairwise_map]
  refine List.Pairwise.imp_of_mem (R := (· < ·)) (fun {i j} hi hj hij he => ?_) List.pairwise_lt_range
  have := g.fr_inj hx (by simp at hi; omega) (by simp at hj; omega) he
  omega
 ·rw [List.mem_filter, List.mem_map]
  constructor
  ·rintro ⟨h1, h2⟩
   have ha : a < s.ev.length := by simpa using h1
   obtain ⟨v, hv⟩ := (dh ha).1 h2
   obtain ⟨k1, k2⟩ := g.fr_of hx ha hv
   exact ⟨v, by simp; omega, k2⟩
  ·rintro ⟨v, hv, rfl⟩
   obtain ⟨k1, k2⟩ := g.fr_in hx (v := v) (by simp at hv; omega)
   exact ⟨by simpa using k1, (dh k1).2 ⟨v, k2⟩⟩
theorem GF.wl_len (g : GF es ms TH CE VA WR N l s) {x : Nat} (hx : x < N) : (wlL s.ev N x).length = 1 + WR x := by
 rw [(g.wl_perm hx).length_eq]; simp [vb]
theorem GF.cell (g : GF es ms TH CE VA WR N l s) (h2 : ∀ c, c < N → WR c ≤ 2) {x : Nat} (hx : x < N) : JN s.ev N (vb s WR) WR x := by
 have hp := g.wl_perm hx
 have hw := h2 x hx
 have f0 := g.hfr0 x
 obtain ⟨r, hr⟩ : ∃ r, wlL s.ev N x = x :: r := ⟨_, rfl⟩
 have hlen := g.wl_len hx
 unfold JN KS
 rw [hr] at hp hlen ⊢
 simp only [List.length_cons] at hlen
 rcases (by omega : WR x = 0 ∨ WR x = 1 ∨ WR x = 2) with e | e | e
 ·rw [e] at hlen
  have hr0 : r = [] := qar (by omega)
  subst hr0
  have hX : vb s WR x = [x] := by unfold vb; rw [e]; simp [f0]
  obtain ⟨ev, a1, _, _, a4⟩ := g.fr_get hx (v := 0) (by omega)
  rw [f0] at a1
  refine ⟨fun h => by simp at h, fun _ => ⟨hX.symm, ?_⟩⟩
  rw [vR (a := x) rfl a1, a4, e]
 ·rw [e] at hlen
  obtain ⟨a, rfl⟩ : ∃ a, r = [a] := List.length_eq_one_iff.1 (by omega)
  have hX : vb s WR x = [x, s.fr x 1] := by unfold vb; rw [e]; simp [f0, List.range_succ]
  rw [hX] at hp
  have ha : a = s.fr x 1 := by
   have := hp.cons_inv
   simpa using this
  subst ha
  obtain ⟨ev, a1, _, _, a4⟩ := g.fr_get hx (v := 1) (by omega)
  refine ⟨fun h => by simp at h, fun _ => ⟨hX.symm, ?_⟩⟩
  rw [vR (a := s.fr x 1) rfl a1, a4, e]
 ·rw [e] at hlen
  obtain ⟨a, b, rfl⟩ : ∃ a b, r = [a, b] := Xl (by omega)
  have hX : vb s WR x = [x, s.fr x 1, s.fr x 2] := by unfold vb; rw [e]; simp [f0, List.range_succ]
  rw [hX] at hp
  have hp2 := hp.cons_inv
  obtain ⟨e1, a1, _, _, a4⟩ := g.fr_get hx (v := 1) (by omega)
  obtain ⟨e2, b1, _, _, b4⟩ := g.fr_get hx (v := 2) (by omega)
  refine ⟨fun _ => ?_, fun h => by simp at h⟩
  have ha : a ∈ [s.fr x 1, s.fr x 2] := hp2.mem_iff.1 (by simp)
  simp only [List.mem_cons, List.not_mem_nil, or_false] at ha
  rcases ha with ha | ha
  ·subst ha
   have hb : b = s.fr x 2 := by simpa using hp2.cons_inv
   subst hb
   refine ⟨0, by omega, hX.symm, fun b hb => ?_⟩
   rcases (by omega : b = 0 ∨ b = 1) with rfl | rfl
   ·rw [if_neg (by omega), vR (a := s.fr x 2) rfl b1, b4, e]; simp
   ·rw [if_pos rfl, vR (a := s.fr x 1) rfl a1, a4, e]; simp
  ·subst ha
   have hb : b = s.fr x 1 := by
    have := (hp2.trans (List.Perm.swap _ _ _)).cons_inv
    simpa using this
   subst hb
   refine ⟨1, by omega, hX.symm, fun b hb => ?_⟩
   rcases (by omega : b = 0 ∨ b = 1) with rfl | rfl
   ·rw [if_neg (by omega), vR (a := s.fr x 1) rfl a1, a4, e]; simp
   ·rw [if_pos rfl, vR (a := s.fr x 2) rfl b1, b4, e]; simp
theorem Fh {EV : List EvR} : ∀ (k co c : Nat) (L : List Nat), (coF EV N k co).1[c]? = some L → c < k ∧ (L = wlL EV N c ∨ ((wlL EV N c).length = 3 ∧ L = swp (wlL EV N c)))
 | 0, co, c, L, h => by simp [coF] at h
 | k + 1, co, c, L, h => by
  have hs : coF EV N (k + 1) co = coS EV N (coF EV N k co) k := by unfold coF; rw [qL]
  have hl := (xE EV N co k).1
  rw [hs] at h
  have key : ∀ A, ((coF EV N k co).1 ++ [A])[c]? = some L → (A = wlL EV N k ∨ ((wlL EV N k).length = 3 ∧ A = swp (wlL EV N k))) → c < k + 1 ∧ (L = wlL EV N c ∨ ((wlL EV N c).length = 3 ∧ L = swp (wlL EV N c))) := by
   intro A hA hq
   by_cases hc : c < k
   ·rw [qao (by omega)] at hA
    have := Fh k co c L hA
    exact ⟨by omega, this.2⟩
   ·rw [qap (by omega), hl] at hA
    have hck : c = k := by
     have := (qac.1 hA).1
     simp at this; omega
    subst hck
    simp at hA
    subst hA
    exact ⟨by omega, hq⟩
  unfold coS at h
  by_cases h3 : (wl EV N k (EV.length - N)).length = 3
  ·rw [if_pos h3] at h
   refine key _ h ?_
   split
   ·exact .inr ⟨h3, rfl⟩
   ·exact .inl rfl
  ·rw [if_neg h3] at h
   exact key _ h (.inl rfl)
theorem GF.coh (g : GF es ms TH CE VA WR N l s) (co c : Nat) (L : List Nat) (hL : (coF s.ev N N co).1[c]? = some L) : L[0]? = some c ∧ L.Nodup ∧ (∀ w ∈ L, ∃ e, s.ev[w]? = some e ∧ e.kind = 2 ∧ e.loc = (c : Int)) ∧ L.length = nW s.ev c s.ev.length := by
 obtain ⟨hc, hq⟩ := Fh N co c L hL
 have hf := g.wl_filter hc
 have hb : (wlL s.ev N c).Nodup ∧ (∀ w ∈ wlL s.ev N c, ∃ e, s.ev[w]? = some e ∧ e.kind = 2 ∧ e.loc = (c : Int)) ∧ (wlL s.ev N c).length = nW s.ev c s.ev.length := by
  rw [hf, Qo _ (qad _)]
  refine ⟨List.filter_sublist.nodup List.nodup_range, fun w hw => ?_, rfl⟩
  obtain ⟨h1, h2⟩ := List.mem_filter.1 hw
  have hlt : w < s.ev.length := by simpa using h1
  refine ⟨_, qaa hlt, ?_⟩
  unfold fl at h2
  rw [qaa hlt] at h2
  simpa using h2
 obtain ⟨b1, b2, b3⟩ := hb
 rcases hq with rfl | ⟨h3, rfl⟩
 ·exact ⟨rfl, b1, b2, b3⟩
 ·obtain ⟨r, hr⟩ : ∃ r, wlL s.ev N c = c :: r := ⟨_, rfl⟩
  rw [hr] at h3
  obtain ⟨a, b, rfl⟩ : ∃ a b, r = [a, b] := Xl (by simpa using h3)
  rw [hr] at b1 b2 b3 ⊢
  have hs : swp [c, a, b] = [c, b, a] := rfl
  rw [hs]
  refine ⟨rfl, ?_, fun w hw => b2 w ?_, b3⟩
  ·simp only [List.nodup_cons, List.mem_cons, List.not_mem_nil, or_false, not_or] at b1 ⊢
   exact ⟨⟨b1.1.2, b1.1.1⟩, fun e => b1.2.1 e.symm, b1.2.2⟩
  ·simp only [List.mem_cons, List.not_mem_nil, or_false] at hw ⊢
   rcases hw with h | h | h
   ·exact .inl h
   ·exact .inr (.inr h)
   ·exact .inr (.inl h)
end
end Go.Sx
namespace Go.Sx
open Go.Dx Go.Proofs
theorem Gx {es : List (Int × Int)} {ms : List Int} (h : (wb es ms).2 = 0) : ∀ i, i < es.length → QP (eAt es i).1 (mAt ms i) = false := by
 intro i hi
 unfold wb at h
 by_cases h1 : 16 < es.length
 ·rw [if_pos h1] at h; simp at h
 ·rw [if_neg h1] at h
  by_cases h2 : ms.length ≠ es.length
  ·rw [if_pos h2] at h; simp at h
  ·rw [if_neg h2] at h
   cases hf : first es.length fun i => kV (eAt es i) with
   | some j => rw [hf] at h; simp at h
   | none =>
    rw [hf] at h
    cases hg : first es.length (XL es) with
    | some j => simp [hg] at h
    | none =>
     simp only [hg] at h
     cases hk : first es.length fun i => QP (eAt es i).1 (mAt ms i) with
     | some j => simp [hk] at h
     | none =>
      unfold first at hk
      rw [List.find?_eq_none] at hk
      have := hk i (by simpa using hi)
      simpa using this
theorem XU {EV : List EvR} {e : EvR} : (List.range EV.length).filter (jo EV e) = (List.range EV.length).filter (isW EV e.loc e.val) := by
 refine List.filter_congr fun a ha => ?_
 have ha' : a < EV.length := by simpa using ha
 unfold jo isW
 rw [xc ha']
 by_cases h1 : (zW EV a).kind = 2 <;> by_cases h2 : (zW EV a).loc = e.loc <;> by_cases h3 : (zW EV a).val = e.val <;> simp [h1, h2, h3]
theorem rf_at {EV : List EvR} {N : Nat} (h0 : ∀ (i : Nat) (e : EvR), i < N → EV[i]? = some e → e.kind ≠ 1) (hN : N ≤ EV.length) (hw : ∀ (b : Nat) (e : EvR), EV[b]? = some e → e.kind = 1 → ∃ w, (List.range EV.length).filter (isW EV e.loc e.val) = [w]) : ∀ k, N + k ≤ EV.length →
  ((List.range k).flatMap fun k => yK EV (N + k)).length = nR EV (N + k) ∧ ∀ (b : Nat) (e : EvR), b < N + k → EV[b]? = some e → e.kind = 1 → ∃ w, (List.range EV.length).filter (isW EV e.loc e.val) = [w] ∧ ((List.range k).flatMap fun k => yK EV (N + k))[nR EV b]? = some (w, b)
 | 0, _ => by
  refine ⟨?_, fun b e hb he h1 => absurd h1 (h0 b e hb he)⟩
  have key : ∀ i, i ≤ N → nR EV i = 0 := by
   intro i
   induction i with
   | zero => intro _; rfl
   | succ i ih =>
    intro hi
    have he := qaa (show i < EV.length by omega)
    rw [bh he, ih (by omega), if_neg (h0 i _ (by omega) he)]
  rw [Nat.add_zero, key N (qad _)]; rfl
 | k + 1, hk => by
  obtain ⟨i1, i2⟩ := rf_at h0 hN hw k (by omega)
  have he := xc (show N + k < EV.length by omega)
  obtain ⟨L, hL⟩ := qay ((List.range k).flatMap fun k => yK EV (N + k))
  have hs : ((List.range (k + 1)).flatMap fun k => yK EV (N + k)) = L ++ yK EV (N + k) := by rw [List.range_succ, List.flatMap_append, hL]; simp
  rw [hs]
  rw [← hL] at i1 i2
  have hn := bh he
  by_cases h1 : (zW EV (N + k)).kind = 1
  ·obtain ⟨w, hw'⟩ := hw _ _ he h1
   have hr : yK EV (N + k) = [(w, N + k)] := by unfold yK; rw [if_pos h1, hw']; rfl
   rw [if_pos h1] at hn
   refine ⟨by rw [hr, qak, i1, ← Nat.add_assoc, hn]; rfl, fun b e hb heb h1b => ?_⟩
   by_cases hbk : b = N + k
   ·subst hbk
    rw [he] at heb
    cases heb
    refine ⟨w, hw', ?_⟩
    rw [hr, ← i1, qap (qad _), Nat.sub_self]; rfl
   ·obtain ⟨w2, a1, a2⟩ := i2 b e (by omega) heb h1b
    refine ⟨w2, a1, ?_⟩
    rw [qao (qac.1 a2).1]; exact a2
  ·have hr : yK EV (N + k) = [] := by unfold yK; rw [if_neg h1]
   rw [if_neg h1] at hn
   refine ⟨by rw [hr, List.append_nil, i1, ← Nat.add_assoc, hn]; rfl, fun b e hb heb h1b => ?_⟩
   by_cases hbk : b = N + k
   ·subst hbk
    rw [he] at heb
    cases heb
    exact absurd h1b h1
   ·obtain ⟨w2, a1, a2⟩ := i2 b e (by omega) heb h1b
    refine ⟨w2, a1, ?_⟩
    rw [hr, List.append_nil]; exact a2
section
variable {es : List (Int × Int)} {ms : List Int} {TH CE VA WR : Nat → Nat} {N : Nat} {l : List Nat} {s : GT}
theorem GF.rd1 (h : GL es N l CE VA WR) (g : GF es ms TH CE VA WR N l s) (b : Nat) (e : EvR) (he : s.ev[b]? = some e) (h1 : e.kind = 1) : ∃ w, (List.range s.ev.length).filter (isW s.ev e.loc e.val) = [w] := by
 have hb : b < s.ev.length := (qac.1 he).1
 rw [xc hb] at he
 cases he
 by_cases hN : b < N
 ·rw [g.e0 b hN] at h1; simp [ev0] at h1
 ·rcases g.e2 b (by omega) hb with ⟨i, hi⟩ | h3
  ·have e3 := (g.e1 _ hi).2.2
   simp only at e3
   rw [e3] at h1 ⊢
   have hf : qy es i = false := by
    cases hf : qy es i with
    | false => rfl
    | true => unfold evA at h1; rw [hf] at h1; simp at h1
   have him : i ∈ l := vZ hi
   show ∃ w, coV s.ev (CE i) (VA i) = [w]
   rcases h.rd i him hf with q | ⟨j, hj, q1, q2, q3⟩
   ·rw [q]; exact ⟨_, g.w0 _ (h.ce i him)⟩
   ·rw [← q2, ← q3]; exact ⟨_, g.w1 j hj q1⟩
  ·rw [h3] at h1; simp at h1
theorem XY (i : Nat) : (wB es ms TH CE VA i).length ≤ 2 := by
 unfold wB wX
 split <;> simp
theorem bQ : ∀ l : List Nat, (l.flatMap (wB es ms TH CE VA)).length ≤ 2 * l.length
 | [] => by simp
 | i :: l => by
  have h1 := bQ l
  have h2 := XY (es := es) (ms := ms) (TH := TH) (CE := CE) (VA := VA) i
  rw [List.flatMap_cons, qak, List.length_cons]; omega
theorem GF.form (h : GL es N l CE VA WR) (g : GF es ms TH CE VA WR N l s) (hl : ∀ i ∈ l, i < es.length) (hln : N + 2 * l.length ≤ 256) (hTH : ∀ i ∈ l, TH i < 64) (hbE : ∀ (i : Nat) e, es[i]? = some e → kV e = false) (hbM : ∀ i, i < es.length → QP (eAt es i).1 (mAt ms i) = false)
  {RF : List (Nat × Nat)} (hRF : RF = GH s.ev N) : (RF.length = nR s.ev s.ev.length ∧ (∀ (b : Nat) (e : EvR), s.ev[b]? = some e → e.kind = 1 → ∃ w, (List.range s.ev.length).filter (jo s.ev e) = [w] ∧ RF[nR s.ev b]? = some (w, b)) ∧ ∀ p ∈ RF, p.1 < s.ev.length ∧ p.2 < s.ev.length) ∧ ∀ co, WFg N s.ev RF (coF s.ev N N co).1 := by
 have hN := g.lenN
 have hini : ∀ i, i < N → s.ev[i]? = some ⟨-1, 2, (i : Int), 0, 1⟩ := fun i hi => by
  rw [xc (by omega), g.e0 i hi]; rfl
 have hrf := rf_at (fun i e hi he => by rw [hini i hi] at he; cases he; simp) hN (g.rd1 h) (s.ev.length - N) (by omega)
 have hk : N + (s.ev.length - N) = s.ev.length := by omega
 rw [hk] at hrf
 have hR : ((List.range (s.ev.length - N)).flatMap fun k => yK s.ev (N + k)) = RF := hRF.symm
 rw [hR] at hrf
 obtain ⟨r1, r2⟩ := hrf
 have hcand : ∀ (b : Nat) (e : EvR), s.ev[b]? = some e → e.kind = 1 → ∃ w, (List.range s.ev.length).filter (jo s.ev e) = [w] ∧ RF[nR s.ev b]? = some (w, b) := fun b e he h1 => by
  rw [XU]
  exact r2 b e (qac.1 he).1 he h1
 refine ⟨⟨r1, hcand, fun p hp => ?_⟩, fun co => ⟨hN, ?_, hini, fun i e hi he => ?_, fun i e he h1 => ?_, r1, (xE _ _ _ _).1, fun c L hL => g.coh co c L hL⟩⟩
 ·rw [← hR] at hp
  obtain ⟨k, hk1, hk2⟩ := List.mem_flatMap.1 hp
  unfold yK at hk2
  split at hk2
  ·obtain ⟨a, ha, rfl⟩ := List.mem_map.1 hk2
   have h1 := (List.mem_filter.1 ha).1
   simp at h1 hk1
   exact ⟨h1, by simp only; omega⟩
  ·cases hk2
 ·rw [g.hev, qak, List.length_map, List.length_range]
  have := bQ (es := es) (ms := ms) (TH := TH) (CE := CE) (VA := VA) l
  omega
 ·have hm : e ∈ l.flatMap (wB es ms TH CE VA) := by
   rw [g.hev, qap (by simpa using hi)] at he
   exact qab he
  obtain ⟨j, hj, hej⟩ := List.mem_flatMap.1 hm
  have hjl := hl j hj
  have hth := hTH j hj
  unfold wB at hej
  rcases qax.1 hej with h3 | h3
  ·unfold wX at h3
   split at h3
   ·cases h3
   ·rename_i hz
    simp only [qah] at h3
    subst h3
    have hah : ahN es.length j < es.length := yu hjl
    have hb := hbE _ _ (qaa hah)
    have hfe : fc es j = es[ahN es.length j].2 := by unfold fc; rw [kE (qaa hah)]
    rw [hfe] at hz ⊢
    unfold kV at hb
    simp only [decide_eq_false_iff_not, not_or, not_and] at hb
    obtain ⟨_, _, b3⟩ := hb
    have b4 := b3 hz
    refine ⟨by simp, by simp only; omega, .inr (.inr rfl), ?_, fun _ => ⟨rfl, rfl⟩, fun q => absurd rfl q⟩
    unfold vB
    simp only [List.mem_cons, List.not_mem_nil, or_false]
    simp
    omega
  ·simp only [qah] at h3
   subst h3
   have hb := hbM j hjl
   have hff : wZ (eAt es j).1 = qy es j := rfl
   unfold QP at hb
   rw [hff] at hb
   unfold evA
   cases hf : qy es j with
   | true =>
    rw [hf] at hb
    simp at hb
    refine ⟨by simp, by simp only; omega, .inr (.inl rfl), ?_, fun q => by simp at q, fun _ => ⟨CE j, rfl, h.ce j hj⟩⟩
    unfold vB
    simp
    omega
   | false =>
    rw [hf] at hb
    simp at hb
    refine ⟨by simp, by simp only; omega, .inl rfl, ?_, fun q => by simp at q, fun _ => ⟨CE j, rfl, h.ce j hj⟩⟩
    unfold vB
    simp
    omega
 ·obtain ⟨w, k1, k2⟩ := hcand i e he h1
  have hm : w ∈ (List.range s.ev.length).filter (jo s.ev e) := by rw [k1]; simp
  obtain ⟨m1, m2⟩ := List.mem_filter.1 hm
  have hlt : w < s.ev.length := by simpa using m1
  refine ⟨w, _, k2, qaa hlt, ?_⟩
  unfold jo at m2
  rw [qaa hlt] at m2
  simpa using m2
end
end Go.Sx
namespace Go.Sx
open Go.Dx Go.Proofs
theorem WeaveOnly_all (ed md : Value) (es : List (Int × Int)) (ms : List Int) (m : M) (hm : m.base ≤ m.n) (hl : es.length < 9223372036854775807) (hed : Rd m ed 2 edgeRow es) (hmd : Rd m md 1 modeRow ms) :
  CallV (Ex.step Try.prog (xA 9)) 11 [.agg #[ed, md]] m (.bool true) := by
 obtain ⟨ch, hch⟩ := XX es ms
 refine WX ed md es ms m hm hl hed hmd ch hch (wE es (qM es) false) (wE es (qM es) true) (jV es (vj es)) (wrR es (qM es)) (fun h => (We es ms ch h (hch h)).2) (fun h => ?_) (fun h => ?_)
 ·obtain ⟨hb, hlast, gl⟩ := FD es ms ch h (hch h)
  refine ⟨fun i hi => ⟨gl.ce i ((zD hb).2 hi), ?_⟩, gl.wr2⟩
  have hm := (zD hb).2 hi
  cases hf : qy es i with
  | true => have := (gl.pos i hm hf).2; have := gl.wr2 _ (gl.ce i hm); omega
  | false =>
   rcases gl.rd i hm hf with h0 | ⟨j, hj, h1, h2, h3⟩
   ·omega
   ·have := (gl.pos j hj h1).2; have := gl.wr2 _ (gl.ce j hj); omega
 ·obtain ⟨hb, hlast, gl⟩ := FD es ms ch h (hch h)
  have hpl : (wb es ms).2 = 0 := by
   have h0 := h
   unfold wn at h0
   by_cases h1 : (wb es ms).2 ≠ 0
   ·rw [if_pos h1] at h0; exact absurd h0 h1
   ·omega
  have hl16 := (kT hpl).1
  obtain ⟨_, htl, _⟩ := (We es ms ch h (hch h)).2
  have hcl : cnt es ≤ es.length := by unfold cnt; exact List.countP_le_length
  have hol : (qF es (qM es)).length = es.length := by unfold qF; simp
  obtain ⟨s, hs⟩ := qay (vv es ms (wE es (qM es) false) (wE es (qM es) true) (jV es (vj es)) (es.length - cnt es) (qM es))
  have g := gK (ms := ms) (TH := wE es (qM es) false) gl s hs
  have hge := (FH (ms := ms) (TH := wE es (qM es) false) gl s hs).1
  have hTHl : ∀ i ∈ qF es (qM es), wE es (qM es) false i < cnt es := fun i hi => htl i ((zD hb).1 hi)
  obtain ⟨⟨k1, k2, k3⟩, k4⟩ := g.form gl (fun i hi => (zD hb).1 hi) (by omega) (fun i hi => by have := hTHl i hi; omega) (vY hpl) (Gx hpl) (RF := (qF es (qM es)).foldl (zF es (wE es (qM es) true) (jV es (vj es)) s.fr s.to) []) hge
  have hx : jQ es ms (wE es (qM es) false) (wE es (qM es) true) (jV es (vj es)) (wrR es (qM es)) (es.length - cnt es) (qM es) = ⟨s.ev, (qF es (qM es)).foldl (zF es (wE es (qM es) true) (jV es (vj es)) s.fr s.to) [], (List.range es.length).map s.to, (List.range (es.length - cnt es)).map (vb s (wrR es (qM es)))⟩ := by
   rw [hs]; rfl
  have hbig : xw s.ev (es.length - cnt es) (es.length - cnt es) ≤ 8 := by
   have := JS (EV := s.ev) (N := es.length - cnt es) (p := qy es) (g := wE es (qM es) true) (n := es.length) (es.length - cnt es) fun x hx h3 => by
    have h4 := g.wl_len hx
    rw [h4] at h3
    have : wrR es (qM es) x = 2 := by omega
    exact this
   have h2 := List.countP_le_length (p := fun i => qy es i && decide (wE es (qM es) true i < es.length - cnt es)) (l := List.range es.length)
   rw [List.length_range] at h2
   omega
  have hone := Gq (X := vb s (wrR es (qM es))) (W := wrR es (qM es)) (fun x hx => g.cell gl.wr2 hx) hbig
  have hbd := dG es ms (wE es (qM es) false) (wE es (qM es) true) (jV es (vj es)) (qF es (qM es)) 0 TS0 (fun j => ⟨by simp [TS0], by simp [TS0], by simp [TS0]⟩)
  rw [hol] at hbd
  rw [hx]
  refine ⟨?_, by omega, fun j hj => ?_, fun j hj => fin_nd _ j, fun j hj k a ha h2 => fin_ld _ j k a ha h2, k2, k1, k3, k4, by simp; omega, hone⟩
  ·rw [Dw (KN hb hlast) hTHl]
   exact g.hev.symm
  ·obtain ⟨d1, d2, d3⟩ := hbd j
   simp only [TS.fin, TS.pr, qak, yI]
   omega
end Go.Sx
