/- Contracts. -/
import Derived.Test.YtbbpaaofmcoobaaGreatGh
import Derived.Test.YtbbpaaofmcoobaaGreatGi
import Derived.Test.YtbbpaaofmcoobaaGreatGb2
set_option linter.unusedVariables false
set_option linter.unusedSimpArgs false
set_option linter.defProp false
namespace Go.Sx
open Go.Dx
def kY (o : Nat) (a : Ac) : Ac := if (a.op = 9 ∨ a.op = 10) ∧ (o : Int) < a.to then { a with to := a.to - 1 } else a
def Vu (o : Nat) (acs : List Ac) : List Ac := (acs.eraseIdx o).map (kY o)
def frm (o : Nat → Bool) (i : Nat) : Nat → Bool := fun j => decide (i ≤ j) && o j
theorem fP {o : Nat → Bool} {i j : Nat} (h : j < i) : frm o i j = false := by unfold frm; rw [decide_eq_false (by omega)]; rfl
theorem xe {o : Nat → Bool} {i j : Nat} (h : i ≤ j) : frm o i j = o j := by unfold frm; rw [decide_eq_true h]; rfl
theorem FQ (o : Nat → Bool) : frm o 0 = o := funext fun j => xe (Nat.zero_le _)
theorem frm_no {o : Nat → Bool} {i : Nat} (h : o i = false) : frm o i = frm o (i + 1) := funext fun j => by
 by_cases hj : j < i
 ·rw [fP hj, fP (by omega)]
 ·by_cases e : j = i
  ·subst e; rw [xe (qah _), fP (by omega), h]
  ·rw [xe (by omega), xe (by omega)]
theorem bi (o : Nat → Bool) (i : Nat) : kb o (i + 1) = kb o i + (if o i then 0 else 1) := rfl
theorem yM (o : Nat → Bool) (i : Nat) : ∀ j, j ≤ i → kb (frm o i) j = j
 | 0, _ => rfl
 | j + 1, h => by rw [bi, yM o i j (by omega), fP (by omega)]; rfl
theorem kb_hi {o : Nat → Bool} {i : Nat} (h : o i = true) : ∀ j, i < j → kb (frm o i) j + 1 = kb (frm o (i + 1)) j
 | 0, hj => absurd hj (qb7 _)
 | j + 1, hj => by
  by_cases e : j = i
  ·subst e
   rw [bi, yM o j j (qah _), yM o (j + 1) (j + 1) (qah _), xe (qah _), h]; rfl
  ·have := kb_hi h j (by omega)
   rw [bi, bi, xe (by omega), xe (by omega)]
   omega
theorem bk (o : Nat → Bool) (acs : List Ac) (i : Nat) : ∀ j, j ≤ i → j ≤ acs.length → wq (frm o i) acs j = acs.take j
 | 0, _, _ => by simp [wq]
 | j + 1, h, hl => by
  rw [zt (qae (by omega)), bk o acs i j (by omega) (by omega), fP (by omega), List.take_add_one, qae (by omega)]; rfl
theorem XS {o : Nat → Bool} {acs : List Ac} {i : Nat} (h : o i = true) (hi : i < acs.length) : ∀ j, i < j → j ≤ acs.length → wq (frm o i) acs j = (wq (frm o (i + 1)) acs j).eraseIdx i
 | 0, hj, _ => absurd hj (qb7 _)
 | j + 1, hj, hl => by
  have ha : acs[j]? = some acs[j] := qae (by omega)
  rw [zt ha, zt ha]
  by_cases e : j = i
  ·subst e
   rw [bk o acs j j (qah _) (by omega), bk o acs (j + 1) j (by omega) (by omega), xe (qah _), h, fP (by omega), List.eraseIdx_append_of_length_le (by simp; omega)]
   simp [show j - min j acs.length = 0 by omega]
  ·have hk : i < (wq (frm o (i + 1)) acs j).length := by
    rw [zA (by omega)]
    have := yN (frm o (i + 1)) (i := i + 1) (j := j) (by omega)
    rw [yM o (i + 1) (i + 1) (qah _)] at this
    omega
   rw [XS h hi j (by omega) (by omega), List.eraseIdx_append_of_lt_length hk, xe (by omega), xe (by omega)]
theorem cut_wo {o : Nat → Bool} {acs : List Ac} {i : Nat} (h : o i = true) (hi : i < acs.length) (hto : ∀ a ∈ acs, (a.op = 9 ∨ a.op = 10) → 0 ≤ a.to ∧ a.to ≤ acs.length) :
  Vu i (wo (frm o (i + 1)) acs) = wo (frm o i) acs := by
 unfold Vu wo
 have em : ∀ (l : List Ac) (k : Nat), (l.map (wV (frm o (i + 1)))).eraseIdx k = (l.eraseIdx k).map (wV (frm o (i + 1))) := by
  intro l
  induction l with
  | nil => intro k; rfl
  | cons x l ih => intro k; cases k with
   | zero => rfl
   | succ k => simp [ih]
 rw [em, List.map_map, ← XS h hi _ hi (qah _)]
 refine List.map_congr_left fun a ha => ?_
 have ht := hto a (jq ha)
 show kY i (wV (frm o (i + 1)) a) = wV (frm o i) a
 unfold wV
 by_cases hop : a.op = 9 ∨ a.op = 10
 ·obtain ⟨t0, t1⟩ := ht hop
  rw [if_pos hop, if_pos hop]
  unfold kY
  obtain ⟨t, et⟩ : ∃ t : Nat, a.to = t := ⟨a.to.toNat, by omega⟩
  have e1 : a.to.toNat = t := by omega
  simp only [e1]
  by_cases hlt : i < t
  ·have k1 := kb_hi h t hlt
   have k2 := yN (frm o (i + 1)) (i := i + 1) (j := t) hlt
   rw [yM o (i + 1) (i + 1) (qah _)] at k2
   rw [if_pos ⟨hop, by omega⟩]
   congr 1; omega
  ·rw [yM o (i + 1) t (by omega), yM o i t (by omega), if_neg (by omega)]
 ·rw [if_neg hop, if_neg hop]
  unfold kY
  rw [if_neg (fun e => hop e.1)]
theorem Dd {o : Nat → Bool} {acs : List Ac} (hto : ∀ a ∈ acs, (a.op = 9 ∨ a.op = 10) → 0 ≤ a.to ∧ a.to ≤ acs.length) : wo (frm o acs.length) acs = acs := by
 unfold wo
 rw [bk o acs acs.length _ (qah _) (qah _), List.take_length]
 conv => rhs; rw [← List.map_id acs]
 refine List.map_congr_left fun a ha => ?_
 unfold wV
 split
 ·rename_i hop
  obtain ⟨t0, t1⟩ := hto a ha hop
  rw [yM o _ _ (by omega)]
  show ({ a with to := ((a.to.toNat : Nat) : Int) } : Ac) = a
  rw [show ((a.to.toNat : Nat) : Int) = a.to by omega]
 ·rfl
def xf (acs : List Ac) : Nat → Nat → Option Nat
 | 0, _ => none
 | f + 1, z => if wW acs z then xf acs f (zJ acs z) else some z
def itr (acs : List Ac) : Nat → Nat → Nat
 | 0, z => z
 | n + 1, z => zJ acs (itr acs n z)
theorem ZH (acs : List Ac) : ∀ n z, itr acs n (zJ acs z) = itr acs (n + 1) z
 | 0, _ => rfl
 | n + 1, z => by
  show zJ acs (itr acs n (zJ acs z)) = zJ acs (itr acs (n + 1) z)
  rw [ZH acs n z]
theorem Xq {acs : List Ac} {j k z : Nat} (h : itr acs j z = itr acs k z) : ∀ d, itr acs (j + d) z = itr acs (k + d) z
 | 0 => h
 | d + 1 => by
  show zJ acs (itr acs (j + d) z) = zJ acs (itr acs (k + d) z)
  rw [Xq h d]
theorem XN {acs : List Ac} : ∀ {f z e : Nat}, xf acs f z = some e → ∃ n, n < f ∧ itr acs n z = e ∧ wW acs e = false ∧ ∀ j, j < n → wW acs (itr acs j z) = true
 | 0, z, e, h => by cases h
 | f + 1, z, e, h => by
  unfold xf at h
  cases hj : wW acs z with
  | false =>
   rw [hj] at h
   cases h
   exact ⟨0, by omega, rfl, hj, fun j hj => absurd hj (qb7 _)⟩
  | true =>
   rw [hj] at h
   obtain ⟨n, h1, h2, h3, h4⟩ := XN h
   refine ⟨n + 1, by omega, by rw [← ZH]; exact h2, h3, fun j hjn => ?_⟩
   cases j with
   | zero => exact hj
   | succ j => rw [← ZH]; exact h4 j (by omega)
theorem QJ {acs : List Ac} : ∀ {f : Nat} {l : List Nat} {z e : Nat}, ko acs f l z = some e → xf acs f z = some e
 | 0, l, z, e, h => by cases h
 | f + 1, l, z, e, h => by
  unfold ko at h
  unfold xf
  cases hj : wW acs z with
  | false => rw [hj] at h; exact h
  | true =>
   rw [hj] at h
   simp only [if_true] at h ⊢
   split at h
   ·cases h
   ·exact QJ h
theorem Vw {acs : List Ac} {f z : Nat} : xf acs f z = ko acs f [] z := by
 have key : ∀ e, xf acs f z = some e → ko acs f [] z = some e := fun e h => by
  obtain ⟨n, h1, h2, h3, h4⟩ := XN h
  have : ∀ d k g, k + d = n → d < g → ko acs g ((List.range k).map fun j => itr acs j z) (itr acs k z) = some e := by
   intro d
   induction d with
   | zero =>
    intro k g hk hg
    obtain ⟨g, rfl⟩ : ∃ g', g = g' + 1 := ⟨g - 1, by omega⟩
    obtain rfl : k = n := by omega
    unfold ko
    rw [h2, h3]; rfl
   | succ d ih =>
    intro k g hk hg
    obtain ⟨g, rfl⟩ : ∃ g', g = g' + 1 := ⟨g - 1, by omega⟩
    unfold ko
    rw [h4 k (by omega)]
    have hnin : itr acs k z ∉ (List.range k).map fun j => itr acs j z := by
     intro hin
     obtain ⟨j, hj, e1⟩ := List.mem_map.1 hin
     have hjk : j < k := List.mem_range.1 hj
     have e2 := Xq e1 (n - k)
     rw [show k + (n - k) = n by omega, h2] at e2
     have := h4 (j + (n - k)) (by omega)
     rw [e2, h3] at this
     cases this
    rw [if_pos rfl, if_neg hnin]
    have := ih (k + 1) g (by omega) (by omega)
    rw [List.range_succ, List.map_append] at this
    exact this
  exact this n 0 f (by omega) h1
 cases h : xf acs f z with
 | some e => exact (key e h).symm
 | none =>
  cases h' : ko acs f [] z with
  | none => rfl
  | some e => rw [QJ h'] at h; cases h
def swA (a : Ac) (i : Nat) (s : Nat → Bool) : Nat → Bool := if a.op = 9 then upN s a.to.toNat true else if a.op = 10 then upN (upN s a.to.toNat true) (i + 1) true else upN s (i + 1) true
def swS (acs : List Ac) (i : Nat) (s : Nat → Bool) : Nat → Bool := match acs[i]?, s i with
 | some a, true => swA a i s
 | _, _ => s
theorem xC (acs : List Ac) (i : Nat) (s : Nat → Bool) : swS acs i s = s ∧ (acs[i]? = none ∨ s i = false) ∨ ∃ a, acs[i]? = some a ∧ s i = true ∧ swS acs i s = swA a i s := by
 unfold swS
 cases h : acs[i]? with
 | none => exact .inl ⟨rfl, .inl rfl⟩
 | some a => cases hs : s i with
  | false => exact .inl ⟨rfl, .inr rfl⟩
  | true => exact .inr ⟨a, rfl, rfl, rfl⟩
def swT (acs : List Ac) : Nat → (Nat → Bool) → Nat → Bool
 | 0, s => s
 | i + 1, s => swS acs i (swT acs i s)
def rnd (acs : List Ac) : Nat → Nat → Bool
 | 0 => upN (fun _ => false) 0 true
 | n + 1 => swT acs acs.length (rnd acs n)
theorem vr {s : Nat → Bool} {x y : Nat} (h : s y = true) : upN s x true y = true := by
 by_cases e : y = x
 ·subst e; exact wX _ _ _
 ·rw [kV _ _ e]; exact h
theorem Zi {acs : List Ac} {i : Nat} {s : Nat → Bool} {y : Nat} (h : s y = true) : swS acs i s y = true := by
 rcases xC acs i s with ⟨e, _⟩ | ⟨a, _, _, e⟩
 ·rw [e]; exact h
 ·rw [e]; unfold swA
  split
  ·exact vr h
  ·split
   ·exact vr (vr h)
   ·exact vr h
theorem fD {acs : List Ac} {s : Nat → Bool} {y : Nat} (h : s y = true) : ∀ i, swT acs i s y = true
 | 0 => h
 | i + 1 => Zi (fD h i)
theorem GO {acs : List Ac} {s : Nat → Bool} {y i : Nat} (h : swT acs i s y = true) : ∀ d, swT acs (i + d) s y = true
 | 0 => h
 | d + 1 => Zi (GO h d)
theorem Yv {acs : List Ac} {s : Nat → Bool} {x y : Nat} (h : s x = true) (hs : VO acs x y) : swS acs x s y = true := by
 obtain ⟨a, ha, hs⟩ := hs
 have e : swS acs x s = swA a x s := by
  rcases xC acs x s with ⟨_, e | e⟩ | ⟨b, e1, _, e⟩
  ·rw [ha] at e; cases e
  ·rw [h] at e; cases e
  ·rw [ha] at e1; cases e1; exact e
 rw [e]; unfold swA
 rcases hs with ⟨h1, h2⟩ | ⟨h1, rfl⟩
 ·have ht : a.to.toNat = y := by omega
  by_cases e : a.op = 9
  ·rw [if_pos e, ht]; exact wX _ _ _
  ·rw [if_neg e, if_pos (by rcases h1 with h1 | h1; exact absurd h1 e; exact h1), ht]; exact vr (wX _ _ _)
 ·rw [if_neg h1]
  split
  ·exact wX _ _ _
  ·exact wX _ _ _
theorem Xm {s s' : Nat → Bool} (h : ∀ x, s x = true → s' x = true) : ∀ n, uns s' n ≤ uns s n
 | 0 => qah _
 | n + 1 => by
  have ih := Xm h n
  have h1 : uns s (n + 1) = uns s n + (if s n then 0 else 1) := rfl
  have h2 : uns s' (n + 1) = uns s' n + (if s' n then 0 else 1) := rfl
  cases e : s n with
  | true => rw [h1, h2, e, h n e]; simp; exact ih
  | false => rw [h1, h2, e]; split <;> simp <;> omega
theorem uns_lt {s s' : Nat → Bool} (h : ∀ x, s x = true → s' x = true) {y : Nat} (hy : s y = false) (hy' : s' y = true) : ∀ n, y < n → uns s' n < uns s n := fun n hn => by
 have h1 := fA hy n
 rw [if_pos hn] at h1
 have h2 := Xm (s := upN s y true) (s' := s') (fun x hx => by
  by_cases e : x = y
  ·subst e; exact hy'
  ·rw [kV _ _ e] at hx; exact h x hx) n
 omega
theorem Dy {acs : List Ac} (hto : ∀ a ∈ acs, (a.op = 9 ∨ a.op = 10) → 0 ≤ a.to ∧ a.to ≤ acs.length) : ∀ n, (∀ x, rnd acs n x = true → Reach acs x) ∧ ((∀ x, Reach acs x → rnd acs n x = true) ∨ uns (rnd acs n) (acs.length + 1) + n ≤ acs.length) := by
 have sound : ∀ (s : Nat → Bool), (∀ x, s x = true → Reach acs x) → ∀ i, ∀ x, swT acs i s x = true → Reach acs x := by
  intro s hs i
  induction i with
  | zero => exact hs
  | succ i ih =>
   intro x hx
   change swS acs i (swT acs i s) x = true at hx
   rcases xC acs i (swT acs i s) with ⟨e, _⟩ | ⟨a, ha, hsi, e⟩
   ·rw [e] at hx; exact ih x hx
   ·rw [e] at hx; unfold swA at hx
    have hn : ∀ z, upN (swT acs i s) z true x = true → x = z ∨ swT acs i s x = true := fun z h => by
     by_cases e : x = z
     ·exact .inl e
     ·rw [kV _ _ e] at h; exact .inr h
    ·have hR := ih i hsi
     have ht := hto a (qaf ha)
     split at hx
     ·rename_i h9
      rcases hn _ hx with e | e
      ·exact .jump i a x hR ha (.inl h9) (by have := ht (.inl h9); omega)
      ·exact ih x e
     ·rename_i h9
      split at hx
      ·rename_i h10
       by_cases e : x = i + 1
       ·subst e; exact .next i a hR ha h9
       ·rw [kV _ _ e] at hx
        rcases hn _ hx with e | e
        ·exact .jump i a x hR ha (.inr h10) (by have := ht (.inr h10); omega)
        ·exact ih x e
      ·rcases hn _ hx with e | e
       ·subst e; exact .next i a hR ha h9
       ·exact ih x e
 intro n
 induction n with
 | zero =>
  refine ⟨fun x hx => ?_, .inr ?_⟩
  ·by_cases e : x = 0
   ·subst e; exact .start
   ·have : rnd acs 0 x = false := by show upN (fun _ => false) 0 true x = false; rw [kV _ _ e]
    rw [this] at hx; cases hx
  ·have h := fA (s := fun _ => false) (x := 0) rfl (acs.length + 1)
   have h2 := WC (fun _ => false) (acs.length + 1)
   rw [if_pos (by omega)] at h
   show uns (upN (fun _ => false) 0 true) (acs.length + 1) + 0 ≤ acs.length
   omega
 | succ n ih =>
  obtain ⟨h1, h2⟩ := ih
  refine ⟨sound _ h1 _, ?_⟩
  have mono : ∀ x, rnd acs n x = true → rnd acs (n + 1) x = true := fun x hx => fD hx _
  rcases h2 with h2 | h2
  ·exact .inl fun x hx => mono x (h2 x hx)
  ·by_cases hc : ∀ x y, rnd acs n x = true → VO acs x y → rnd acs n y = true
   ·refine .inl fun x hx => mono x (Reach.closed (s := fun x => rnd acs n x = true) ?_ hc hx)
    clear h1 h2 hc mono hx
    induction n with
    | zero => exact wX _ _ _
    | succ n ih => exact fD ih _
   ·refine .inr ?_
    have : ∃ x y, rnd acs n x = true ∧ VO acs x y ∧ rnd acs n y = false := by
     refine Classical.byContradiction fun hno => hc fun x y hx hy => ?_
     cases e : rnd acs n y with
     | true => rfl
     | false => exact absurd ⟨x, y, hx, hy, e⟩ hno
    obtain ⟨x, y, hx, hs, hy⟩ := this
    obtain ⟨a, ha, hz⟩ := id hs
    have hxl := (qag.1 ha).1
    have hyl : y < acs.length + 1 := by
     rcases hz with ⟨q1, q2⟩ | ⟨_, rfl⟩
     ·have := hto a (qaf ha) q1; omega
     ·omega
    have hy' : rnd acs (n + 1) y = true := by
     have := GO (acs := acs) (s := rnd acs n) (y := y) (i := x + 1) (Yv (fD hx x) hs) (acs.length - (x + 1))
     rw [show x + 1 + (acs.length - (x + 1)) = acs.length by omega] at this
     exact this
    have := uns_lt mono hy hy' (acs.length + 1) hyl
    omega
open Classical in
theorem Ff {acs : List Ac} (hto : ∀ a ∈ acs, (a.op = 9 ∨ a.op = 10) → 0 ≤ a.to ∧ a.to ≤ acs.length) (i : Nat) : (!rnd acs (acs.length + 1) i) = dR acs i := by
 obtain ⟨h1, h2⟩ := Dy hto (acs.length + 1)
 have h3 : ∀ x, Reach acs x → rnd acs (acs.length + 1) x = true := by
  rcases h2 with h | h
  ·exact h
  ·exact absurd h (by omega)
 unfold dR
 by_cases hr : Reach acs i
 ·rw [h3 i hr, decide_eq_true hr]
 ·have : rnd acs (acs.length + 1) i = false := by
   cases hs : rnd acs (acs.length + 1) i with
   | false => rfl
   | true => exact absurd (h1 i hs) hr
  rw [this, decide_eq_false hr]
theorem yy {l r : List Ac} : ∀ {n : Nat}, n ≤ l.length → l.length = r.length → (∀ (j : Nat) a b, l[j]? = some a → r[j]? = some b → zQ a = zQ b) → jR l n = jR r n
 | 0, _, _, _ => rfl
 | n + 1, hn, hl, h => funext fun j => by
  have e1 : l[n]? = some l[n] := qae (by omega)
  have e2 : r[n]? = some r[n] := qae (by omega)
  rw [jr e1, jr e2, yy (n := n) (by omega) hl h, h n _ _ e1 e2]
theorem Xu (aim : Nat → Bool) (acs : List Ac) : ∀ i, wN (prF aim acs i).1 = wN acs
 | 0 => rfl
 | i + 1 => by
  rw [← Xu aim acs i]
  show wN (qN aim i (prF aim acs i)).1 = wN (prF aim acs i).1
  have hle := dx aim i (prF aim acs i)
  unfold wN
  rw [hle]
  rcases zH aim i (prF aim acs i) with e | ⟨a0, b0, h1, h2, h3, h4⟩
  ·rw [e]
  obtain ⟨c, e, hc⟩ : ∃ c : Ac, (qN aim i (prF aim acs i)).1 = (prF aim acs i).1.set (i + 1) c ∧ c.op = 1 := by
   rcases h4 with ⟨_, e⟩ | ⟨_, e⟩
   ·exact ⟨_, e, rfl⟩
   ·exact ⟨_, e, rfl⟩
  rw [e]
  refine yy (by simp) (by simp) fun j a b ha hb => ?_
  by_cases ej : i + 1 = j
  ·subst ej
   rw [h2] at hb; cases hb
   rw [qaz (qag.1 h2).1] at ha
   cases ha
   funext k
   unfold zQ
   rw [decide_eq_false (by omega), decide_eq_false (by omega)]
  ·rw [qb5 ej, hb] at ha; cases ha; rfl
end Go.Sx
namespace Go.Dx
noncomputable section
def made (e X : Nat) : Value := .slice (some ⟨X, 0, some (code e true)⟩) 0 0
theorem YM {m : M} {e X bytes : Nat} {y : Addr} (hX : Arr m X []) : qS m e bytes (made e X) (.slice (some y) 1 1) = qS m e bytes (.slice none 0 0) (.slice (some y) 1 1) := by
 show (ob (qI m e 1 (.slice (some y) 1 1)) fun new => vt m e bytes 0 0 1 (some ⟨X, 0, some (code e true)⟩) new) = (ob (qI m e 1 (.slice (some y) 1 1)) fun new => vt m e bytes 0 0 1 none new)
 congr 1; funext new
 have h2 : qI m e 0 (.slice (some ⟨X, 0, some (code e true)⟩) 0 0) = some [] := by
  show loads m _ (0 * e) = _
  rw [Nat.zero_mul, hX.loads (by simp)]; rfl
 have hx : jS (code e true) = true := by
  show Nat.beq ((2 * e + 1) % 2) 1 = true
  rw [show (2 * e + 1) % 2 = 1 by omega]; rfl
 show (bif Nat.ble ((0 + 1) * bytes) qW && Nat.ble (0 + 1) 4611686018427387904 then ob (qI m e 0 (.slice (some ⟨X, 0, some (code e true)⟩) 0 0)) fun old => jC m e (0 + 1) (some ⟨X, 0, some (code e true)⟩) (old ++ new) else none) = (bif Nat.ble ((0 + 1) * bytes) qW && Nat.ble (0 + 1) 4611686018427387904 then ob (qI m e 0 (.slice none 0 0)) fun old => jC m e (0 + 1) none (old ++ new) else none)
 rw [h2]
 have h3 : qI m e 0 (.slice none 0 0) = some [] := rfl
 rw [h3]
 have h4 : jC m e (0 + 1) (some ⟨X, 0, some (code e true)⟩) ([] ++ new) = jC m e (0 + 1) none ([] ++ new) := by
  unfold jC
  show ob (some (code e true)) _ = _
  rw [qy, hx, cond_true]
 rw [qy, qy, h4]
def VG {α : Type} (X e : Nat) (g v : Value) (rows : List α) : Prop := (rows = [] ∧ g = .slice none 0 0 ∧ v = made e X) ∨ (rows ≠ [] ∧ v = g)
section
variable {α : Type} {m0 m m' : M} {σ σ' : List (Nat × List Value)} {g v : Value} {e X : Nat} {f : α → List Value} {rows : List α}
theorem GE.pushB (h : GE m0 m σ g e f rows) (he : 0 < e) (hf : ∀ x, (f x).length = e) {x : α} (hok : ∀ y ∈ rows ++ [x], ∀ v ∈ f y, okC v = true) {M1 : M} (hM : Ext m M1) {X : Nat} {sp : Option Nat} (hx : loads M1 ⟨X, 0, sp⟩ e = some (f x)) {bytes : Nat} (hm : (rows.length + 1) * bytes ≤ qW) (hn : rows.length + 1 ≤ 4611686018427387904) :
  ∃ v' m2, qS M1 e bytes g (.slice (some ⟨X, 0, sp⟩) 1 1) = some (v', m2) ∧ GE m0 m2 σ v' e f (rows ++ [x]) ∧ M1.n ≤ m2.n ∧ (∀ B, B < m.n → blk g ≠ some B → m2.obj B = m.obj B) ∧ ∀ B, blk v' = some B → blk g = some B ∨ M1.n ≤ B := by
 have h' := h.step hM
 obtain ⟨v', m3, p1, p2, p3, p4, p5, p6, p7⟩ := h'.gr.push he hf hok hx h'.st.ext.n hm hn
 have hlo : ∀ B, blk g = some B → m0.n ≤ B := fun B hB => (h'.gr.low B hB).1
 have hb := h.st.base
 have hE : Ext m0 m3 := by
  refine ⟨qaq h'.st.ext.n p3, fun B hB => ?_, p4.trans h'.st.ext.base, ?_⟩
  ·rw [p6 B (qaj hB h'.st.ext.n) fun e => by have := hlo B e; omega]; exact h'.st.ext.obj B hB
  ·rw [p5 fun B hB => by have := hlo B hB; rw [h'.st.ext.base]; omega]; exact h'.st.ext.log
 refine ⟨v', m3, p1, ⟨h'.st.keepOn hE p3 fun p hp => p6 p.1 (h'.st.arr p hp).2.1 fun e => h'.sep p.1 e p hp rfl, p2, fun B hB p hp => ?_⟩, p3, fun B hB hne => by rw [p6 B (qaj hB hM.n) hne, hM.obj B hB], p7⟩
 rcases p7 B hB with e | e
 ·exact h.sep B e p hp
 ·have := (h'.st.arr p hp).2.1; omega
theorem GE.pushX (h : GE m0 m σ g e f rows) (hv : VG X e g v rows) (hX : (X, []) ∈ σ) (he : 0 < e) (hf : ∀ x, (f x).length = e) {x : α} (hok : ∀ y ∈ rows ++ [x], ∀ v ∈ f y, okC v = true) {M1 : M} (hM : Ext m M1) {Y : Nat} {sp : Option Nat} (hx : loads M1 ⟨Y, 0, sp⟩ e = some (f x)) {bytes : Nat} (hm : (rows.length + 1) * bytes ≤ qW) (hn : rows.length + 1 ≤ 4611686018427387904) :
  ∃ v' m2, qS M1 e bytes v (.slice (some ⟨Y, 0, sp⟩) 1 1) = some (v', m2) ∧ GE m0 m2 σ v' e f (rows ++ [x]) ∧ M1.n ≤ m2.n ∧ (∀ B, B < m.n → blk g ≠ some B → m2.obj B = m.obj B) ∧ ∀ B, blk v' = some B → blk g = some B ∨ M1.n ≤ B := by
 rcases hv with ⟨rfl, rfl, rfl⟩ | ⟨_, rfl⟩
 ·rw [YM ((h.step hM).st.arr _ hX).2.2]
  exact h.pushB he hf hok hM hx hm hn
 ·exact h.pushB he hf hok hM hx hm hn
theorem VG.len (hv : VG X e g v rows) (h : GE m0 m σ g e f rows) : qL v = some (.int .i64 (rows.length : Int)) := by
 rcases hv with ⟨rfl, _, rfl⟩ | ⟨_, rfl⟩
 ·rfl
 ·exact h.gr.lens
theorem GE.rowS (h : GE m0 m σ v e f rows) (he : 0 < e) (hf : ∀ x, (f x).length = e) {i : Nat} {y : α} (hi : i < rows.length) (hv : ∀ u ∈ f y, okC u = true) :
  ∃ B m', blk v = some B ∧ qZ e v (.int .i64 (i : Int)) = some (.pointer (some ⟨B, i * e, none⟩)) ∧ qH e (.pointer (some ⟨B, i * e, none⟩)) (.agg ⟨f y⟩) m = some (undef, m') ∧ GE m0 m' σ v e f (rows.set i y) ∧ m'.n = m.n ∧ ∀ X, X ≠ B → m'.obj X = m.obj X := by
 obtain ⟨x, hx⟩ : ∃ x, rows[i]? = some x := ⟨_, qae hi⟩
 obtain ⟨B, c, L, hvB, hc, hc0, hL, s⟩ := h.done (by intro e0; rw [e0] at hi; simp at hi)
 have hle : i * e + (f y).length ≤ (rows.flatMap f).length := by rw [qX hf, hf]; have := qb0 e (show i + 1 ≤ rows.length by omega); rw [Nat.succ_mul] at this; omega
 obtain ⟨h1, h2, h3⟩ := s.get 0 rfl
 have e1 := wQ (n := e) (o := i * e) (v := .agg ⟨f y⟩) (l := f y) h3 rfl (hf y) (by rw [qao]; rw [hf] at hle; omega) hv
 obtain ⟨_, s2, s3, s4, s5, s6⟩ := qY (o := i * e) (l := f y) h3 (by rw [qao]; omega) hv
 have s7 := s.put' 0 rfl s3 s4 (s6 (by have := s.ext.base; have := s.base; omega)) s5 s2
 have hia := ((h.gr.rd hf).row i x hx).1
 have had : adr e v i = ⟨B, i * e, none⟩ := by rw [hvB]; show (⟨B, 0 + i * e, none⟩ : Addr) = _; rw [Nat.zero_add]
 rw [had] at hia
 have ho : over (rows.flatMap f ++ L) (i * e) (f y) = (rows.set i y).flatMap f ++ L := by
  have key : ∀ (vs l r : List Value) (o : Nat), o + vs.length ≤ l.length → over (l ++ r) o vs = over l o vs ++ r := by
   intro vs
   induction vs with
   | nil => intro l r o _; rfl
   | cons v vs ih =>
    intro l r o hl
    simp only [List.length_cons] at hl
    show over ((l ++ r).set o v) (o + 1) vs = over (l.set o v) (o + 1) vs ++ r
    rw [List.set_append_left _ _ (by omega), ih _ _ _ (by simp; omega)]
  rw [key _ _ _ _ hle, vC hf rows i y hi]
 have s8 : St m0 (zc m B (i * e) (f y)) ((B, (rows.set i y).flatMap f ++ L) :: σ) := by
  rw [← ho]; exact s7
 exact ⟨B, _, by rw [hvB]; rfl, hia, e1, h.rebuild hvB hc hc0 hL (by simp) s8, s3, s5⟩
end
end
end Go.Dx
namespace Go.Sx
open Go.Dx Go.Proofs
structure LS (m0 m : M) (σ : List (Nat × List Value)) (v : Value) (acs : List Ac) : Prop where
 st : St m0 m σ
 len : qL v = some (.int .i64 (acs.length : Int))
 ge : acs ≠ [] → GE m0 m σ v 11 qe acs
 ac : ∀ a ∈ acs, AcOK m a
 sep : ∀ a ∈ acs, ∀ X, zd a X → blk v ≠ some X ∧ ∀ p ∈ σ, p.1 ≠ X
 sz : acs.length ≤ 65536
 rd0 : Rd m v 11 qe acs
 sv : ∀ B, blk v = some B → ∀ p ∈ σ, p.1 ≠ B
 nw : ∀ a ∈ acs, ∀ X, zd a X → m0.n ≤ X
 vn : ∀ B, blk v = some B → m0.n ≤ B
section
variable {m0 m m' : M} {σ σ' : List (Nat × List Value)} {v : Value} {acs : List Ac}
theorem LS.mb (h : LS m0 m σ v acs) : m.base ≤ m.n := h.st.sees.self.base
theorem LS.ne (h : LS m0 m σ v acs) {i : Nat} (hi : i < acs.length) : GE m0 m σ v 11 qe acs := h.ge (by rintro rfl; simp at hi)
theorem LS.rd (h : LS m0 m σ v acs) {i : Nat} (hi : i < acs.length) : Rd m v 11 qe acs := (h.ne hi).gr.rd qv
theorem LS.step (h : LS m0 m σ v acs) (k : Ext m m') : LS m0 m' σ v acs :=
 ⟨h.st.step k, h.len, fun hn => (h.ge hn).step k, fun a ha => (h.ac a ha).sees (h.st.sees.self.ext k), h.sep, h.sz, h.rd0.sees (h.st.sees.self.ext k), h.sv, h.nw, h.vn⟩
theorem LS.row (h : LS m0 m σ v acs) (l : List Value) : LS m0 (Dx.newRow m l) ((m.n, l) :: σ) v acs :=
 ⟨h.st.row l, h.len, fun hn => (h.ge hn).row l, fun a ha => (h.ac a ha).sees (h.st.sees.self.ext (Ext.row m l)), fun a ha X hX => ⟨(h.sep a ha X hX).1, fun p hp => by
  rcases List.mem_cons.1 hp with rfl | hp
  ·have := (h.ac a ha).lt hX; show m.n ≠ X; omega
  ·exact (h.sep a ha X hX).2 p hp⟩, h.sz, h.rd0.sees (h.st.sees.self.ext (Ext.row m l)), fun B hB p hp => by
  rcases List.mem_cons.1 hp with rfl | hp
  ·have := h.rd0.lt B hB; show m.n ≠ B; omega
  ·exact h.sv B hB p hp, h.nw, h.vn⟩
theorem LS.sub (h : LS m0 m σ v acs) (hs : ∀ p ∈ σ', p ∈ σ) (hn : (σ'.map (·.1)).Nodup) : LS m0 m σ' v acs :=
 ⟨h.st.sub hs hn, h.len, fun hne => (h.ge hne).sub hs hn, h.ac, fun a ha X hX => ⟨(h.sep a ha X hX).1, fun p hp => (h.sep a ha X hX).2 p (hs p hp)⟩, h.sz, h.rd0, fun B hB p hp => h.sv B hB p (hs p hp), h.nw, h.vn⟩
theorem LS.tail {p : Nat × List Value} (h : LS m0 m (p :: σ) v acs) : LS m0 m σ v acs :=
 h.sub (fun q hq => qap _ hq) (by have := h.st.nd; rw [List.map_cons, List.nodup_cons] at this; exact this.2)
theorem LS.put (h : LS m0 m σ v acs) {k b : Nat} {l l' : List Value} (hk : σ[k]? = some (b, l)) (s2 : St m0 m' (σ.set k (b, l'))) (s3 : m'.n = m.n) (s4 : ∀ X, X ≠ b → m'.obj X = m.obj X) : LS m0 m' (σ.set k (b, l')) v acs := by
 refine ⟨s2, h.len, fun hn => (h.ge hn).put hk s2 s3 s4, fun a ha => (h.ac a ha).congr (by omega) fun X hX => s4 X fun e => ?_, fun a ha X hX => ⟨(h.sep a ha X hX).1, fun p hp => ?_⟩, h.sz, h.rd0.congr (by omega) fun B hB => s4 B fun e => ?_, fun B hB p hp => ?_, h.nw, h.vn⟩
 ·exact (h.sep a ha X hX).2 (b, l) (qaf hk) e.symm
 ·obtain ⟨q, h1, h2⟩ := setk hk hp
  rw [← h2]; exact (h.sep a ha X hX).2 q h1
 ·exact h.sv B hB (b, l) (qaf hk) e.symm
 ·obtain ⟨q, h1, h2⟩ := setk hk hp
  rw [← h2]; exact h.sv B hB q h1
theorem LS.store (h : LS m0 m σ v acs) (k : Nat) {b o : Nat} {l : List Value} {w : Value} (hk : σ[k]? = some (b, l)) (ho : o < l.length) (hw : Dx.okC w = true) :
  ∃ m', qH 1 (.pointer (some ⟨b, o, none⟩)) w m = some (undef, m') ∧ LS m0 m' (σ.set k (b, l.set o w)) v acs ∧ m'.n = m.n := by
 obtain ⟨m', s1, s2, s3, s4⟩ := h.st.store k hk ho hw
 exact ⟨m', s1, h.put hk s2 s3 s4, s3⟩
theorem LS.fill (h : LS m0 m σ v acs) (k : Nat) {b n : Nat} {l l' : List Value} (hk : σ[k]? = some (b, l)) (hl : l.length = n) (hl' : l'.length = n) (hv : ∀ v ∈ l', Dx.okC v = true) :
  ∃ m', qH n (.pointer (some ⟨b, 0, none⟩)) (.agg ⟨l'⟩) m = some (undef, m') ∧ LS m0 m' (σ.set k (b, l')) v acs ∧ m'.n = m.n := by
 obtain ⟨m', s1, s2, s3, s4⟩ := h.st.fill k hk hl hl' hv
 exact ⟨m', s1, h.put hk s2 s3 s4, s3⟩
theorem LS.get (h : LS m0 m σ v acs) (k : Nat) {b : Nat} {l : List Value} (hk : σ[k]? = some (b, l)) : ∀ o s, load1 m ⟨b, o, s⟩ = l[o]? := fun o s => (h.st.get k hk).2.2.load1 o s
theorem LS.setAct (h : LS m0 m σ v acs) {i : Nat} (hi : i < acs.length) {y : Ac} (hy : AcOK m y) (hs : ∀ X, zd y X → blk v ≠ some X ∧ ∀ p ∈ σ, p.1 ≠ X) (hnw : ∀ X, zd y X → m0.n ≤ X) :
  ∃ B m', qZ 11 v (.int .i64 (i : Int)) = some (.pointer (some ⟨B, i * 11, none⟩)) ∧ qH 11 (.pointer (some ⟨B, i * 11, none⟩)) (.agg ⟨qe y⟩) m = some (undef, m') ∧ LS m0 m' σ v (acs.set i y) ∧ m'.n = m.n := by
 obtain ⟨B, m', hB, ia, s1, s2, s3, s4⟩ := (h.ne hi).rowS (by omega) qv hi (qM hy)
 refine ⟨B, m', ia, s1, ⟨s2.st, by rw [List.length_set]; exact h.len, fun _ => s2, fun a ha => ?_, fun a ha X hX => ?_, by rw [List.length_set]; exact h.sz, s2.gr.rd qv, h.sv, fun a ha => (qas ha).elim (h.nw a) fun e => e ▸ hnw, h.vn⟩, s3⟩
 ·rcases qas ha with ha | rfl
  ·exact (h.ac a ha).congr (by omega) fun X hX => s4 X fun e => (h.sep a ha X hX).1 (by rw [hB, e])
  ·exact hy.congr (by omega) fun X hX => s4 X fun e => (hs X hX).1 (by rw [hB, e])
 ·rcases qas ha with ha | rfl
  ·exact h.sep a ha X hX
  ·exact hs X hX
theorem LS.setTo (h : LS m0 m σ v acs) {i : Nat} {a : Ac} (ha : acs[i]? = some a) (z : Int) :
  ∃ B m', qZ 11 v (.int .i64 (i : Int)) = some (.pointer (some ⟨B, i * 11, none⟩)) ∧ qH 1 (.pointer (some ⟨B, i * 11 + 8, none⟩)) (iv z) m = some (undef, m') ∧ LS m0 m' σ v (acs.set i { a with to := z }) ∧ m'.n = m.n := by
 have hi := (qag.1 ha).1
 have ham := qaf ha
 have hy : qe { a with to := z } = (qe a).set 8 (iv z) := rfl
 obtain ⟨B, m', hB, ia, s1, s2, s3, s4⟩ := (h.ne hi).cell qv ha (o := 8) (by omega) rfl hy
 refine ⟨B, m', ia, s1, ⟨s2.st, by rw [List.length_set]; exact h.len, fun _ => s2, fun b hb => ?_, fun b hb X hX => ?_, by rw [List.length_set]; exact h.sz, s2.gr.rd qv, h.sv, fun b hb => (qas hb).elim (h.nw b) fun e => by subst e; exact h.nw a ham, h.vn⟩, s3⟩
 ·have key : ∀ b : Ac, AcOK m b → (∀ X, zd b X → blk v ≠ some X) → AcOK m' b := fun b hb hs => hb.congr (by omega) fun X hX => s4 X fun e => hs X hX (by rw [hB, e])
  rcases qas hb with hb | rfl
  ·exact key b (h.ac b hb) fun X hX => (h.sep b hb X hX).1
  ·have := key a (h.ac a ham) fun X hX => (h.sep a ham X hX).1
   exact ⟨this.ix, this.ev, this.fv, this.ixl, this.evl, this.fvl⟩
 ·rcases qas hb with hb | rfl
  ·exact h.sep b hb X hX
  ·exact h.sep a ham X hX
theorem LS.push {g : Value} {X : Nat} (h : LS m0 m σ g acs) (hv : VG X 11 g v acs) (hX : (X, []) ∈ σ) {y : Ac} (hy : AcOK m y) (hys : ∀ Z, zd y Z → blk g ≠ some Z ∧ ∀ p ∈ σ, p.1 ≠ Z) (hnw : ∀ Z, zd y Z → m0.n ≤ Z) (hl : acs.length + 1 ≤ 65536) :
  ∃ v' m2, qS (Dx.newRow m (qe y)) 11 136 v (.slice (some ⟨m.n, 0, some 23⟩) 1 1) = some (v', m2) ∧ LS m0 m2 σ v' (acs ++ [y]) := by
 have hG : GE m0 m σ g 11 qe acs := by
  rcases hv with ⟨rfl, rfl, _⟩ | ⟨hne, _⟩
  ·exact GE.nil h.st
  ·exact h.ge hne
 obtain ⟨v', m2, p1, p2, p3, p4, p5⟩ := hG.pushX hv hX (by omega) qv (x := y) (fun z hz => by
  rcases qb6.1 hz with h' | h'
  ·exact qM (h.ac z h')
  ·rw [qal.1 h']; exact qM hy) (M1 := Dx.newRow m (qe y)) (Ext.row _ _) (Y := m.n) (sp := some 23) (kl m _ 0 11 (by simp [qe])) (bytes := 136) (by unfold qW; omega) (by omega)
 rw [qm] at p3 p5
 have key : ∀ b : Ac, AcOK m b → (∀ Z, zd b Z → blk g ≠ some Z ∧ ∀ p ∈ σ, p.1 ≠ Z) → AcOK m2 b ∧ ∀ Z, zd b Z → blk v' ≠ some Z ∧ ∀ p ∈ σ, p.1 ≠ Z := fun b hb hs => by
  refine ⟨hb.congr (by omega) fun Z hZ => p4 Z (hb.lt hZ) (hs Z hZ).1, fun Z hZ => ⟨fun e => ?_, (hs Z hZ).2⟩⟩
  rcases p5 Z e with e' | e'
  ·exact (hs Z hZ).1 e'
  ·have := hb.lt hZ; omega
 have key' : ∀ b ∈ acs ++ [y], AcOK m2 b ∧ ∀ Z, zd b Z → blk v' ≠ some Z ∧ ∀ p ∈ σ, p.1 ≠ Z := fun b hb => by
  rcases qb6.1 hb with h' | h'
  ·exact key b (h.ac b h') (h.sep b h')
  ·rw [qal.1 h']; exact key y hy hys
 exact ⟨v', m2, p1, p2.st, p2.gr.lens, fun _ => p2, fun b hb => (key' b hb).1, fun b hb => (key' b hb).2, by simp; omega, p2.gr.rd qv, p2.sep, fun b hb => (qb6.1 hb).elim (h.nw b) fun e => by rw [qal.1 e]; exact hnw, fun B hB => (p2.gr.low B hB).1⟩
end
end Go.Sx
namespace Go.Sx
open Go.Dx Go.Proofs
set_option maxRecDepth 10000
def bO (a : Ac) : Bool := decide (a.op = 9 ∨ a.op = 10)
theorem xu {a : Ac} : bO a = true ↔ (a.op = 9 ∨ a.op = 10) := by unfold bO; simp
theorem bl (a : Ac) (N : Nat) (m : M) : CallV (ex Tryz.prog (N + 1)) 57 [.agg ⟨qe a⟩] m (.bool (bO a)) := by
 refine qp dc8_ok (by simp) ?_
 have l0 : ∀ s, load1 (Dx.newRow m (qe a)) ⟨m.n, 0, s⟩ = some (.int .i64 a.op) := fun s => (Arr.row m (qe a)).load1 0 s
 have E := Ext.row m (qe a)
 unfold bO
 by_cases h2 : a.op = 9
 ·have dd : decide (a.op = 9 ∨ a.op = 10) = true := decide_eq_true (.inl h2)
  rw [h2] at l0
  rw [dd]
  simp [l0]
  exact qh E (by simp)
 ·have d2 : decide (a.op = 9) = false := decide_eq_false h2
  by_cases h3 : a.op = 10
  ·have dd : decide (a.op = 9 ∨ a.op = 10) = true := decide_eq_true (.inr h3)
   rw [h3] at l0
   rw [dd]
   simp [l0]
   exact qh E (by simp)
  ·have dd : decide (a.op = 9 ∨ a.op = 10) = false := decide_eq_false fun h => h.elim h2 h3
   have d3 : decide (a.op = 10) = false := decide_eq_false h3
   rw [dd]
   simp [l0, d2, d3]
   exact qh E (by simp)
theorem bA (a : Ac) (N : Nat) (m : M) : CallV (ex Tryz.prog (N + 1)) 59 [.agg ⟨qe a⟩] m (.bool (kW a)) := by
 refine qp dd0_ok (by simp) ?_
 have l : ∀ p s, load1 (Dx.newRow m (qe a)) ⟨m.n, p, s⟩ = (qe a)[p]? := fun p s => (Arr.row m (qe a)).load1 p s
 have l0 : ∀ s, load1 (Dx.newRow m (qe a)) ⟨m.n, 0, s⟩ = some (.int .i64 a.op) := fun s => l 0 s
 have l3 : ∀ s, load1 (Dx.newRow m (qe a)) ⟨m.n, 3, s⟩ = some (.int .i64 a.size) := fun s => l 3 s
 have l7 : ∀ s, load1 (Dx.newRow m (qe a)) ⟨m.n, 7, s⟩ = some (.int .i64 a.mode) := fun s => l 7 s
 unfold kW
 have E := Ext.row m (qe a)
 by_cases h2 : a.op = 2
 ·have d2 : decide (a.op = 2) = true := decide_eq_true h2
  have dd : decide (a.op = 2 ∨ a.op = 3) = true := decide_eq_true (.inl h2)
  rw [h2] at l0
  by_cases hs : a.size = 0
  ·have ds : decide (a.size = 0) = true := decide_eq_true hs
   rw [hs] at l3
   rw [dd, ds]
   simp [l0, l3, l7]
   exact qh E (by simp)
  ·have ds : decide (a.size = 0) = false := decide_eq_false hs
   rw [dd, ds]
   simp [l0, l3, l7, ds]
   exact qh E (by simp)
 ·by_cases h3 : a.op = 3
  ·have dd : decide (a.op = 2 ∨ a.op = 3) = true := decide_eq_true (.inr h3)
   rw [h3] at l0
   by_cases hs : a.size = 0
   ·have ds : decide (a.size = 0) = true := decide_eq_true hs
    rw [hs] at l3
    rw [dd, ds]
    simp [l0, l3, l7]
    exact qh E (by simp)
   ·have ds : decide (a.size = 0) = false := decide_eq_false hs
    rw [dd, ds]
    simp [l0, l3, l7, ds]
    exact qh E (by simp)
  ·have dd : decide (a.op = 2 ∨ a.op = 3) = false := decide_eq_false fun h => h.elim h2 h3
   have d2 : decide (a.op = 2) = false := decide_eq_false h2
   have d3 : decide (a.op = 3) = false := decide_eq_false h3
   rw [dd]
   simp [l0, d2, d3]
   exact qh E (by simp)
theorem Df (acs : List Ac) (sv : Value) (at_ : Nat) (hl : acs.length ≤ 65536) (N : Nat) (m : M) (hm : m.base ≤ m.n) (hrd : Rd m sv 11 qe acs) : CallV (ex Tryz.prog (N + 2)) 60 [sv, iv at_] m (.bool (wN acs at_)) := by
 refine qp dd1_ok (by simp) ?_
 obtain ⟨n, hn⟩ := qb8 (acs.length)
 have hsl : qL sv = some (.int .i64 (n : Int)) := by rw [hn]; exact hrd.len
 rw [← hn] at hl
 simp
 refine qq (c := cd1_9) rfl (Ret m _) (fun i t m' => Ext m m' ∧ Tm.get 0 t = sv ∧ Tm.get 1 t = iv at_ ∧ Tm.get 5 t = iv i ∧ jR acs i at_ = false) n (by omega)
  ⟨Ext.refl m, by simp, by simp, by simp, rfl⟩ (fun i t m' k hi hI hk => ?_)
 obtain ⟨hE, t0, t1, t5, hpre⟩ := hI
 have S := (Sees.refl hm).ext hE
 by_cases hil : i < n
 ·have hd := dlt hil
  have hd' : (i < n) = True := eq_true hil
  have ni := wj (i := i) (by omega)
  obtain ⟨a, ha⟩ : ∃ r, acs[i]? = some r := ⟨_, qae (by omega)⟩
  obtain ⟨a1, a2, a3⟩ := hrd.at ha
  have a2' := a2 m' S
  obtain ⟨v2, m2, c1, c2, rfl⟩ := bl a N m'
  have l8 : ∀ s, load1 m2 ⟨(adr 11 sv i).block, (adr 11 sv i).off + 8, s⟩ = some (iv a.to) := fun s => a3 m2 8 s (S.ext c2) (by rw [qv]; omega)
  have hs := jr ha at_
  rw [hpre, Bool.false_or] at hs
  have hone : zQ a at_ = (bO a && decide (a.to = (at_ : Int))) := by
   unfold zQ bO
   by_cases h1 : a.op = 9 ∨ a.op = 10 <;> by_cases h2 : a.to = (at_ : Int) <;> simp [h1, h2]
  cases hj : bO a with
  | false =>
   rw [hj] at c1
   rw [hj] at hone
   simp [t0, t1, t5, hsl, hd, hd', a1, a2', qf, c1, ni]
   exact hk hil _ _ ⟨hE.trans c2, by simp [t0], by simp [t1], by simp, by rw [hs, hone]; rfl⟩
  | true =>
   rw [hj] at c1
   rw [hj] at hone
   cases ht : decide (a.to = (at_ : Int)) with
   | true =>
    simp [t0, t1, t5, hsl, hd, hd', a1, a2', qf, c1, l8, ht]
    have hall : wN acs at_ = true := by
     have : ∀ k, i + 1 ≤ k → jR acs k at_ = true := by
      intro k hk1
      induction k with
      | zero => omega
      | succ k ih =>
       by_cases e : i = k
       ·subst e; rw [hs, hone, ht]; rfl
       ·unfold jR; rw [ih (by omega)]; rfl
     exact this _ (by omega)
    exact qh (hE.trans c2) (by simp [hall])
   | false =>
    rw [ht] at hone
    simp [t0, t1, t5, hsl, hd, hd', a1, a2', qf, c1, l8, ht, ni]
    exact hk hil _ _ ⟨hE.trans c2, by simp [t0], by simp [t1], by simp, by rw [hs, hone]; rfl⟩
 ·obtain rfl : i = n := by omega
  have hd : ((i : Int) < (i : Int)) = False := eq_false (by omega)
  have hall : wN acs at_ = false := by unfold wN; rw [← hn]; exact hpre
  simp [t0, t1, t5, hsl, hd]
  exact qh hE (by simp [hall])
theorem far_c (acs : List Ac) (sv : Value) (z : Nat) (hl : acs.length ≤ 65536) (hz : z ≤ acs.length) (hto : ∀ a ∈ acs, (a.op = 9 ∨ a.op = 10) → 0 ≤ a.to ∧ a.to ≤ acs.length) (N : Nat) (m : M) (hm : m.base ≤ m.n) (hrd : Rd m sv 11 qe acs) :
  CallV (ex Tryz.prog (N + 1)) 56 [sv, iv z] m (iv (((xf acs (acs.length + 1) z).getD z : Nat))) := by
 refine qp dc7_ok (by simp) ?_
 obtain ⟨n, hn⟩ := qb8 (acs.length)
 have hsl : qL sv = some (.int .i64 (n : Int)) := by rw [hn]; exact hrd.len
 rw [← hn] at hl hz hto
 rw [← hn]
 have S := Sees.refl hm
 simp
 refine qq (c := Fz) rfl (Ret m _) (fun i t m' => m' = m ∧ Tm.get 0 t = sv ∧ Tm.get 1 t = iv z ∧ Tm.get 6 t = iv i ∧ i ≤ n + 1 ∧ ∃ at_ : Nat, Tm.get 5 t = iv at_ ∧ at_ ≤ n ∧ xf acs (n + 1) z = xf acs (n + 1 - i) at_) (n + 1) (by omega)
  ⟨rfl, by simp, by simp, by simp, by omega, z, by simp, hz, rfl⟩ (fun i t m' k hi hI hk => ?_)
 obtain ⟨rfl, t0, t1, t6, hin, at_, t5, hat, hf⟩ := hI
 by_cases hil : i < n + 1
 ·have hd : ((i : Int) ≤ (n : Int)) = True := eq_true (by omega)
  have hd' : (i ≤ n) = True := eq_true (by omega)
  have ni := wj (i := i) (by omega)
  rw [show n + 1 - i = (n - i) + 1 by omega] at hf
  unfold xf at hf
  by_cases he : at_ = n
  ·have hj : wW acs at_ = false := by unfold wW; rw [qb3 (by omega)]
   rw [hj] at hf
   have hf' : xf acs (n + 1) z = some at_ := by unfold xf; exact hf
   subst he
   simp [t0, t1, t5, t6, hsl, hd, hd']
   exact qh (Ext.refl m') (by simp [hf'])
  ·have hde : ((at_ : Int) = (n : Int)) = False := eq_false (by omega)
   have hde' : (at_ = n) = False := eq_false he
   obtain ⟨a, ha⟩ : ∃ r, acs[at_]? = some r := ⟨_, qae (by omega)⟩
   obtain ⟨a1, a2, a3⟩ := hrd.at ha
   have l0 : ∀ s, load1 m' ⟨(adr 11 sv at_).block, (adr 11 sv at_).off, s⟩ = some (iv a.op) := fun s => a3 m' 0 s S (by rw [qv]; omega)
   have l8 : ∀ s, load1 m' ⟨(adr 11 sv at_).block, (adr 11 sv at_).off + 8, s⟩ = some (iv a.to) := fun s => a3 m' 8 s S (by rw [qv]; omega)
   have hjat : wW acs at_ = decide (a.op = 9) := by unfold wW; rw [ha]
   cases h9 : decide (a.op = 9) with
   | false =>
    rw [hjat, h9] at hf
    have hf' : xf acs (n + 1) z = some at_ := by unfold xf; exact hf
    simp [t0, t1, t5, t6, hsl, hd, hd', hde, hde', a1, l0, h9]
    exact qh (Ext.refl m') (by simp [hf'])
   | true =>
    have h9' := of_decide_eq_true h9
    obtain ⟨q0, q1⟩ := hto a (qaf ha) (.inl h9')
    obtain ⟨w, hw⟩ : ∃ w : Nat, a.to = (w : Int) := ⟨a.to.toNat, by omega⟩
    have hnx : zJ acs at_ = w := by unfold zJ; rw [ha]; simp only; omega
    rw [hjat, h9, hnx] at hf
    rw [hw] at l8
    simp [t0, t1, t5, t6, hsl, hd, hd', hde, hde', a1, l0, h9, l8, ni]
    refine hk (by omega) _ _ ⟨rfl, by simp [t0], by simp [t1], by simp, by omega, w, by simp, by omega, ?_⟩
    rw [show n + 1 - (i + 1) = n - i by omega]
    conv => lhs; unfold xf
    exact hf
 ·obtain rfl : i = n + 1 := by omega
  have hd : (((n + 1 : Nat) : Int) ≤ (n : Int)) = False := eq_false (by omega)
  have hd' : (n + 1 ≤ n) = False := eq_false (by omega)
  have hf' : xf acs (n + 1) z = none := by rw [hf, Nat.sub_self]; rfl
  obtain ⟨n1, hn1⟩ := qb8 (n + 1)
  rw [← hn1] at t6 hd
  simp [t0, t1, t5, t6, hsl, hd]
  exact qh (Ext.refl m') (by simp [hf'])
end Go.Sx
namespace Go.Sx
open Go.Dx Go.Proofs
set_option maxRecDepth 10000
structure OutL (m m' : M) (v : Value) (rows : List Ac) : Prop where
 len : qL v = some (.int .i64 (rows.length : Int))
 gr : rows ≠ [] → GrR m m' v 11 qe rows
 rd : Rd m' v 11 qe rows
 low : ∀ B, blk v = some B → m.n ≤ B
def xg (o : Nat) (acs : List Ac) (i : Nat) : List Ac := ((acs.take i).eraseIdx o).map (kY o)
theorem dX (o : Nat) (acs : List Ac) : xg o acs 0 = [] := by simp [xg]
theorem YB (o : Nat) (acs : List Ac) : xg o acs acs.length = Vu o acs := by simp [xg, Vu]
theorem QD (o : Nat) (acs : List Ac) {a : Ac} (h : acs[o]? = some a) : xg o acs (o + 1) = xg o acs o := by
 have hl := (qag.1 h).1
 have h0 : (acs.take o).length = o := by simp; omega
 have e1 : (acs.take o).eraseIdx o = acs.take o := List.eraseIdx_of_length_le (by omega)
 have e2 : (acs.take (o + 1)).eraseIdx o = acs.take o := by
  rw [List.take_add_one, h, List.eraseIdx_append_of_length_le (by omega), h0, Nat.sub_self]
  simp
 unfold xg
 rw [e1, e2]
theorem Qk {o i : Nat} {acs : List Ac} {a : Ac} (h : acs[i]? = some a) (hne : i ≠ o) : xg o acs (i + 1) = xg o acs i ++ [kY o a] := by
 have hl := (qag.1 h).1
 have h0 : (acs.take i).length = i := by simp; omega
 unfold xg
 rw [List.take_add_one, h]
 by_cases ho : o < i
 ·rw [List.eraseIdx_append_of_lt_length (by omega)]; simp
 ·rw [List.eraseIdx_of_length_le (by simp; omega), List.eraseIdx_of_length_le (by omega)]; simp
theorem FC (o : Nat) (acs : List Ac) (i : Nat) : (xg o acs i).length ≤ i := by
 unfold xg
 rw [List.length_map]
 exact qaq (List.length_eraseIdx_le _ _) (by simp; omega)
theorem BQ {o i : Nat} {acs : List Ac} {b : Ac} (h : b ∈ xg o acs i) : ∃ a ∈ acs, b = kY o a := by
 obtain ⟨a, ha, rfl⟩ := List.mem_map.1 h
 exact ⟨a, List.mem_of_mem_take (List.mem_of_mem_eraseIdx ha), rfl⟩
theorem Zr (o : Nat) (a : Ac) : ∃ z, kY o a = { a with to := z } := by
 unfold kY
 split
 ·exact ⟨_, rfl⟩
 ·exact ⟨a.to, rfl⟩
theorem KP {m : M} {o : Nat} {a : Ac} (h : AcOK m a) : AcOK m (kY o a) := by
 obtain ⟨z, e⟩ := Zr o a
 rw [e]; exact ⟨h.ix, h.ev, h.fv, h.ixl, h.evl, h.fvl⟩
theorem YW (m : M) : zo 11 136 zAc (.int .i64 0) (.int .i64 0) m = some (made 11 m.n, Dx.newRow m []) := rfl
theorem cut_c (acs : List Ac) (sv : Value) (o : Nat) (hl : acs.length ≤ 65536) (hto : ∀ a ∈ acs, (a.op = 9 ∨ a.op = 10) → 0 ≤ a.to ∧ a.to ≤ acs.length) (N : Nat) (m : M) (hm : m.base ≤ m.n) (hrd : Rd m sv 11 qe acs) (hac : ∀ a ∈ acs, AcOK m a) :
  Dx.Call (ex Tryz.prog (N + 2)) 104 [sv, iv o] m fun v m' => OutL m m' v (Vu o acs) := by
 refine qp de9_ok (by simp) ?_
 obtain ⟨n, hn⟩ := qb8 (acs.length)
 have hsl : qL sv = some (.int .i64 (n : Int)) := by rw [hn]; exact hrd.len
 rw [← hn] at hl hto
 obtain ⟨X, hX⟩ := qb8 (m.n)
 have st1 := (St.nil hm (Ext.refl m)).row []
 obtain ⟨m1, hm1⟩ := qb8 (Dx.newRow m [])
 have mk := YW m
 rw [← hm1, ← hX] at mk
 rw [← hm1, ← hX] at st1
 obtain ⟨v0, hv0⟩ := qb8 (made 11 X)
 rw [← hv0] at mk
 simp [mk]
 refine qq (c := FK) rfl (Ret m _) (fun i t m' => ∃ g, GE m m' [(X, [])] g 11 qe (xg o acs i) ∧ VG X 11 g (Tm.get 5 t) (xg o acs i) ∧ Tm.get 0 t = sv ∧ Tm.get 1 t = iv o ∧ Tm.get 6 t = iv i) n (by omega)
  ⟨.slice none 0 0, by rw [dX]; exact GE.nil st1, .inl ⟨dX _ _, rfl, by simp [hv0]⟩, by simp, by simp, by simp⟩ (fun i t m' k hi hI hk => ?_)
 obtain ⟨g, hG, hV, t0, t1, t6⟩ := hI
 have S := hG.st.sees
 obtain ⟨lv, hlv⟩ := qb8 (Tm.get 5 t)
 rw [← hlv] at hV
 by_cases hil : i < n
 ·have hd := dlt hil
  have hd' : (i < n) = True := eq_true hil
  have ni := wj (i := i) (by omega)
  obtain ⟨a, ha⟩ : ∃ r, acs[i]? = some r := ⟨_, qae (by omega)⟩
  have ham := qaf ha
  by_cases hio : i = o
  ·subst hio
   simp [t0, t1, t6, hsl, hd, hd', ni]
   refine hk hil _ _ ⟨g, by rw [QD _ _ ha]; exact hG, by rw [QD _ _ ha]; simpa [← hlv] using hV, by simp [t0], by simp [t1], by simp⟩
  have de : ((i : Int) = (o : Int)) = False := eq_false (by omega)
  have de' : (i = o) = False := eq_false hio
  have hacm := hac a ham
  obtain ⟨a1, a2, _⟩ := hrd.at ha
  have a2' := a2 m' S
  have g1 := hG.row zAc
  obtain ⟨T7, hT7⟩ := qb8 (m'.n)
  obtain ⟨m2, hm2⟩ := qb8 (Dx.newRow m' zAc)
  rw [← hm2, ← hT7] at g1
  have n2 : m2.n = m'.n + 1 := by rw [hm2, qm]
  obtain ⟨m3, s1, s2, s3, s4⟩ := g1.fill 0 rfl (n := 11) (l' := qe a) rfl rfl (qM hacm)
  have g3 : GE m m3 [(T7, qe a), (X, [])] g 11 qe (xg o acs i) := s2
  have L3 : loads m3 ⟨T7, 0, none⟩ 11 = some (qe a) := (g3.st.get 0 rfl).2.2.loads (n := 11) (by simp [qe])
  obtain ⟨_, m4, c1, c2, rfl⟩ := bl a N m3
  have g4 := g3.step c2
  have l48 : ∀ s, load1 m4 ⟨T7, 8, s⟩ = some (iv a.to) := fun s => (g4.st.get 0 rfl).2.2.load1 8 s
  have hkl := FC o acs i
  have nxt : ∀ (m5 : M) (t5 : Tm), GE m m5 [(T7, qe (kY o a)), (X, [])] g 11 qe (xg o acs i) → ∃ v6 m6 m7, Dx.newRow m5 (qe (kY o a)) = m6 ∧ loads m5 ⟨T7, 0, none⟩ 11 = some (qe (kY o a)) ∧ kc 11 1 (rep 1 zAc) [(0, 11, .agg ⟨qe (kY o a)⟩)] m5 = some (Value.slice (some ⟨m5.n, 0, some 23⟩) 1 1, m6) ∧ qS m6 11 136 lv (.slice (some ⟨m5.n, 0, some 23⟩) 1 1) = some (v6, m7) ∧ GE m m7 [(X, [])] v6 11 qe (xg o acs (i + 1)) ∧ VG X 11 v6 v6 (xg o acs (i + 1)) := by
   intro m5 t5 g5
   have l5 : loads m5 ⟨T7, 0, none⟩ 11 = some (qe (kY o a)) := (g5.st.get 0 rfl).2.2.loads (n := 11) (by simp [qe])
   have okc : AcOK m (kY o a) := KP hacm
   obtain ⟨m6, hm6⟩ := qb8 (Dx.newRow m5 (qe (kY o a)))
   have b1 := Jl okc m5
   rw [← hm6] at b1
   obtain ⟨v7, m7, p1, p2, p3, p4⟩ := g5.pushX hV (by simp) (by omega) qv (x := kY o a) (fun y hy => by
    rcases qb6.1 hy with h | h
    ·obtain ⟨b, hb, rfl⟩ := BQ h; exact qM (KP (hac b hb))
    ·rw [qal.1 h]; exact qM okc) (M1 := m6) (by rw [hm6]; exact Ext.row _ _) (Y := m5.n) (sp := some 23) (by rw [hm6]; exact kl m5 _ 0 11 (by simp [qe])) (bytes := 136) (by unfold qW; omega) (by omega)
   exact ⟨v7, m6, m7, hm6.symm, l5, b1, p1, by rw [Qk ha hio]; exact p2.sub (by simp) (by simp), .inr ⟨by rw [Qk ha hio]; simp, rfl⟩⟩
  cases hj : (bO a && decide ((o : Int) < a.to)) with
  | false =>
   have hc : kY o a = a := by
    unfold kY
    rw [if_neg]
    rintro ⟨h1, h2⟩
    rw [xu.2 h1, decide_eq_true h2] at hj; cases hj
   obtain ⟨v6, m6, m7, q0, q1, q2, q3, q4, q5⟩ := nxt m4 t (by rw [hc]; exact g4)
   rw [hc] at q0 q1 q2
   cases hjb : bO a with
   | false =>
    rw [hjb] at c1
    simp [t0, t1, t6, hsl, hd, hd', de, de', a1, a2', qf, ← hm2, ← hT7, s1, L3, c1, ni, q1, q2, ← hlv, q3]
    exact hk hil _ _ ⟨v6, q4, by simpa using q5, by simp [t0], by simp [t1], by simp⟩
   | true =>
    rw [hjb, Bool.true_and] at hj
    rw [hjb] at c1
    simp [t0, t1, t6, hsl, hd, hd', de, de', a1, a2', qf, ← hm2, ← hT7, s1, L3, c1, l48, hj, ni, q1, q2, ← hlv, q3]
    exact hk hil _ _ ⟨v6, q4, by simpa using q5, by simp [t0], by simp [t1], by simp⟩
  | true =>
   rw [qak] at hj
   obtain ⟨hjb, hgt⟩ := hj
   rw [hjb] at c1
   have hop := xu.1 hjb
   have hgt' := of_decide_eq_true hgt
   obtain ⟨z0, z1⟩ := hto a ham hop
   obtain ⟨zz, hzz⟩ := qb8 (a.to - 1)
   have hw : IntKind.i64.wrap (a.to - 1) = zz := by rw [hzz]; exact wrap64 _ (by omega) (by omega)
   have hc : qe (kY o a) = (qe a).set 8 (iv zz) := by
    have : kY o a = { a with to := zz } := by unfold kY; rw [if_pos ⟨hop, hgt'⟩, hzz]
    rw [this]; rfl
   obtain ⟨m5, u1, u2, u3, u4⟩ := g4.store 0 rfl (o := 8) (v := iv zz) (by simp [qe]) rfl
   have g5 : GE m m5 [(T7, qe (kY o a)), (X, [])] g 11 qe (xg o acs i) := by rw [hc]; exact u2
   obtain ⟨v6, m6, m7, q0, q1, q2, q3, q4, q5⟩ := nxt m5 t g5
   simp [t0, t1, t6, hsl, hd, hd', de, de', a1, a2', qf, ← hm2, ← hT7, s1, L3, c1, l48, hgt, hw, u1, ni, q1, q2, ← hlv, q3]
   exact hk hil _ _ ⟨v6, q4, by simpa using q5, by simp [t0], by simp [t1], by simp⟩
 obtain rfl : i = n := by omega
 have hd : ((i : Int) < (i : Int)) = False := eq_false (by omega)
 have hall : xg o acs i = Vu o acs := by rw [hn]; exact YB o acs
 simp [t0, t6, hsl, hd, ← hlv]
 refine qh hG.st.ext ?_
 simp
 rw [hall] at hG hV
 refine ⟨hV.len hG, fun hne => ?_, ?_, fun B hB => ?_⟩
 ·rcases hV with ⟨e, _⟩ | ⟨_, e⟩
  ·exact absurd e hne
  ·rw [e]; exact hG.gr
 ·rcases hV with ⟨e, _, e'⟩ | ⟨_, e⟩
  ·rw [e, e']; exact kZ (l := []) qv (hG.st.get 0 rfl).2.2 (hG.st.get 0 rfl).2.1
  ·rw [e]; exact hG.gr.rd qv
 ·rcases hV with ⟨e, _, e'⟩ | ⟨_, e⟩
  ·rw [e'] at hB; cases hB; show m.n ≤ X; omega
  ·rw [e] at hB; exact (hG.gr.low B hB).1
end Go.Sx
namespace Go.Sx
open Go.Dx Go.Proofs
set_option maxRecDepth 10000
theorem wo_ok {m : M} {o : Nat → Bool} {acs : List Ac} (h : ∀ a ∈ acs, AcOK m a) : ∀ a ∈ wo o acs, AcOK m a := fun a ha => by
 obtain ⟨b, hb, rfl⟩ := za ha
 obtain ⟨z, e⟩ := zh o b
 have := h b hb
 rw [e]; exact ⟨this.ix, this.ev, this.fv, this.ixl, this.evl, this.fvl⟩
theorem ZG (o : Nat → Bool) (acs : List Ac) {i : Nat} (hi : i ≤ acs.length) : i ≤ (wo (frm o i) acs).length := by
 unfold wo
 rw [List.length_map, zA (qah _)]
 have := yN (frm o i) (i := i) (j := acs.length) hi
 rw [yM o i i (qah _)] at this
 exact this
theorem Xb (acs : List Ac) (sv : Value) (O n : Nat) (o : Nat → Bool) (hn : n = acs.length) (hl : acs.length ≤ 65536) (hto : ∀ a ∈ acs, (a.op = 9 ∨ a.op = 10) → 0 ≤ a.to ∧ a.to ≤ acs.length) (N : Nat) (m : M) (hm : m.base ≤ m.n)
  (hrd : acs ≠ [] → Rd m sv 11 qe acs) (hac : ∀ a ∈ acs, AcOK m a) (hO : O < m.n) (lO : ∀ p u, load1 m ⟨O, p, u⟩ = (rgR n fun j => .bool (o j))[p]?) :
  Dx.Call (ex Tryz.prog (N + 3)) 55 [sv, .slice (some ⟨O, 0, some 3⟩) n n] m fun v m' => (v = sv ∧ wo o acs = acs) ∨ OutL m m' v (wo o acs) := by
 refine qp dc6_ok (by simp) ?_
 have hnl : n ≤ 65536 := by omega
 have hls : qL (.slice (some ⟨O, 0, some 3⟩) n n) = some (.int .i64 (n : Int)) := rfl
 have w0 : IntKind.i64.wrap ((n : Int) - 1) = (n : Int) - 1 := wrap64 _ (by omega) (by omega)
 simp [hls, w0]
 refine qq (c := cc6_8) rfl (Ret m _) (fun r t m' => Ext m m' ∧ r ≤ n ∧ Tm.get 1 t = .slice (some ⟨O, 0, some 3⟩) n n ∧ Tm.get 5 t = .int .i64 ((n : Int) - 1 - (r : Int)) ∧ ((Tm.get 0 t = sv ∧ wo (frm o (n - r)) acs = acs) ∨ OutL m m' (Tm.get 0 t) (wo (frm o (n - r)) acs))) n (by omega)
  ⟨Ext.refl m, Nat.zero_le _, by simp, by simp, .inl ⟨by simp, by rw [Nat.sub_zero, hn]; exact Dd hto⟩⟩ (fun r t m' k hr hI hk => ?_)
 obtain ⟨hE, hrn, t1, t5, hL⟩ := hI
 obtain ⟨lv, hlv⟩ := qb8 (Tm.get 0 t)
 rw [← hlv] at hL
 have S := (Sees.refl hm).ext hE
 by_cases hrl : r < n
 ·obtain ⟨i, hi⟩ : ∃ i, n = r + 1 + i := ⟨n - r - 1, by omega⟩
  have e1 : n - r = i + 1 := by omega
  have e2 : n - (r + 1) = i := by omega
  have t5' : Tm.get 5 t = .int .i64 (i : Int) := by rw [t5]; congr 1; omega
  have hd : ((0 : Int) ≤ (i : Int)) = True := eq_true (by omega)
  have w1 : IntKind.i64.wrap ((i : Int) - 1) = (n : Int) - 1 - ((r + 1 : Nat) : Int) := by rw [wrap64 _ (by omega) (by omega)]; omega
  obtain ⟨r1, hr1⟩ := qb8 (r + 1)
  rw [← hr1] at w1 hk
  have ix : qZ 1 (.slice (some ⟨O, 0, some 3⟩) n n) (.int .i64 (i : Int)) = some (.pointer (some ⟨O, i, none⟩)) := by have := yc (e := 1) (c := 3) O n i (by omega); rwa [Nat.mul_one] at this
  have l1 : ∀ u, load1 m' ⟨O, i, u⟩ = some (.bool (o i)) := fun u => by rw [kx S hO, lO, kK _ (by omega)]
  rw [e1] at hL
  cases ho : o i with
  | false =>
   rw [ho] at l1
   simp [t1, t5', hd, ix, l1, w1]
   refine hk hrl _ _ ⟨hE, by omega, by simp [t1], by simp, ?_⟩
   rw [hr1, e2, frm_no ho]
   simpa [← hlv] using hL
  | true =>
   rw [ho] at l1
   obtain ⟨rows, hrows⟩ := qb8 (wo (frm o (i + 1)) acs)
   have hrl1 : i + 1 ≤ rows.length := by rw [hrows]; exact ZG o acs (by omega)
   have hne : rows ≠ [] := by intro e; rw [e] at hrl1; simp at hrl1
   have hle : rows.length ≤ 65536 := by rw [hrows]; exact qaq (yw _ _) hl
   have hRd : Rd m' lv 11 qe rows := by
    rcases hL with ⟨e, e'⟩ | hL
    ·rw [e, hrows, e']
     have : acs ≠ [] := by rintro rfl; simp at hn; omega
     exact (hrd this).sees S
    ·rw [← hrows] at hL; exact (hL.gr hne).rd qv
   have hok : ∀ a ∈ rows, AcOK m' a := by rw [hrows]; exact wo_ok fun a ha => (hac a ha).sees S
   obtain ⟨v2, m2, c1, c2, c3⟩ := cut_c rows lv i hle (by rw [hrows]; exact wo_to hto) N m' S.self.base hRd hok
   rw [hrows, cut_wo ho (by omega) hto] at c3
   simp [t1, t5', hd, ix, l1, w1, ← hlv, c1]
   refine hk hrl _ _ ⟨hE.trans c2, by omega, by simp [t1], by simp, .inr ?_⟩
   rw [hr1, e2]
   simpa using (⟨c3.len, fun hn => (c3.gr hn).mono0 hE.n, c3.rd, fun B hB => qaq hE.n (c3.low B hB)⟩ : OutL m m2 v2 _)
 ·obtain rfl : r = n := by omega
  have t5' : Tm.get 5 t = .int .i64 (-1) := by rw [t5]; congr 1; omega
  simp [t5', ← hlv]
  rw [Nat.sub_self, FQ] at hL
  exact qh hE (by simpa using hL)
end Go.Sx
namespace Go.Sx
open Go.Dx Go.Proofs
set_option maxRecDepth 10000
theorem jh {n z : Nat} {s : Nat → Bool} (b : Bool) : (rgR n fun j => Value.bool (s j)).set z (.bool b) = rgR n fun j => .bool (upN s z b j) := zI (fun j hj => by rw [kV _ _ hj]) (by rw [wX])
theorem swA_9 {a : Ac} {i : Nat} {s : Nat → Bool} (h : a.op = 9) : swA a i s = upN s a.to.toNat true := by unfold swA; rw [if_pos h]
theorem swA_10 {a : Ac} {i : Nat} {s : Nat → Bool} (h : a.op = 10) : swA a i s = upN (upN s a.to.toNat true) (i + 1) true := by unfold swA; rw [if_neg (by omega), if_pos h]
theorem swA_n {a : Ac} {i : Nat} {s : Nat → Bool} (h : a.op ≠ 9) (h' : a.op ≠ 10) : swA a i s = upN s (i + 1) true := by unfold swA; rw [if_neg h, if_neg h']
theorem Yc (acs : List Ac) (sv : Value) (hl : acs.length ≤ 65536) (hto : ∀ a ∈ acs, (a.op = 9 ∨ a.op = 10) → 0 ≤ a.to ∧ a.to ≤ acs.length) (N : Nat) (m : M) (hm : m.base ≤ m.n)
  (hlen : qL sv = some (.int .i64 (acs.length : Int))) (hrd : acs ≠ [] → Rd m sv 11 qe acs) :
  Dx.Call (ex Tryz.prog (N + 2)) 58 [sv] m fun v m' => v = .slice (some ⟨m.n, 0, some 3⟩) (acs.length + 1) (acs.length + 1) ∧ m.n < m'.n ∧ Arr m' m.n (rgR (acs.length + 1) fun j => .bool (rnd acs (acs.length + 1) j)) := by
 refine qp dc9_ok (by simp) ?_
 obtain ⟨n, hn⟩ := qb8 (acs.length)
 rw [← hn] at hl hto hlen
 rw [← hn]
 have w1 : IntKind.i64.wrap ((n : Int) + 1) = ((n + 1 : Nat) : Int) := wj (by omega)
 have mk := zm (n := n + 1) (e := 1) (bytes := 1) (zs := [.bool false]) rfl (by omega) (by unfold qW; omega) (by omega) m
 rw [jk] at mk
 have st1 := (St.nil hm (Ext.refl m)).row (rgR (n + 1) fun j => Value.bool ((fun _ => false) j))
 obtain ⟨m1, hm1⟩ := qb8 (Dx.newRow m (rgR (n + 1) fun _ => Value.bool false))
 rw [← hm1] at st1 mk
 obtain ⟨n1, hn1⟩ := qb8 (n + 1)
 rw [← hn1] at w1 mk st1
 obtain ⟨Q, hQ⟩ := qb8 (m.n)
 rw [← hQ] at st1
 have mk' : zo 1 1 [.bool false] (.int .i64 (n1 : Int)) (.int .i64 (n1 : Int)) m = some (.slice (some ⟨Q, 0, some 3⟩) n1 n1, m1) := by rw [hQ]; exact mk
 clear mk
 have ix : ∀ j, j < n1 → qZ 1 (.slice (some ⟨Q, 0, some 3⟩) n1 n1) (.int .i64 (j : Int)) = some (.pointer (some ⟨Q, j, none⟩)) := fun j hj => by have := yc (e := 1) (c := 3) Q n1 j hj; rwa [Nat.mul_one] at this
 have ix0 : qZ 1 (.slice (some ⟨Q, 0, some 3⟩) n1 n1) (.int .i64 0) = some (.pointer (some ⟨Q, 0, none⟩)) := ix 0 (by omega)
 obtain ⟨m2, s1, s2, s3, s4⟩ := st1.store 0 rfl (o := 0) (v := .bool true) (by rw [kg]; omega) rfl
 rw [jh] at s2
 have st2 : St m m2 [(Q, rgR n1 fun j => .bool (rnd acs 0 j))] := s2
 simp [hlen, w1, mk', ix0, s1]
 refine qq (c := Fy) rfl (Ret m _) (fun p t m' => St m m' [(Q, rgR n1 fun j => .bool (rnd acs p j))] ∧ p ≤ n1 ∧ Tm.get 0 t = sv ∧ Tm.get 3 t = .slice (some ⟨Q, 0, some 3⟩) n1 n1 ∧ Tm.get 4 t = iv p) n1 (by omega)
  ⟨st2, Nat.zero_le _, by simp, by simp, by simp⟩ (fun p t m' k hp hI hk => ?_)
 clear st2 s1 s2 s3 s4 mk' st1 hm1 m2
 obtain ⟨st, hpn, t0, t3, t4⟩ := hI
 by_cases hpl : p < n1
 ·have hd : ((p : Int) ≤ (n : Int)) = True := eq_true (by omega)
  have hd' : (p ≤ n) = True := eq_true (by omega)
  have np := wj (i := p) (by omega)
  simp [t0, t4, hlen, hd, hd']
  refine qq (c := YY) rfl (Ret m _) (fun i t m2 => St m m2 [(Q, rgR n1 fun j => .bool (swT acs i (rnd acs p) j))] ∧ Tm.get 0 t = sv ∧ Tm.get 3 t = .slice (some ⟨Q, 0, some 3⟩) n1 n1 ∧ Tm.get 4 t = iv p ∧ Tm.get 5 t = iv i) n (by omega)
   ⟨st, by simp [t0], by simp [t3], by simp [t4], by simp⟩ (fun i t m2 k2 hi hI hk2 => ?_)
  obtain ⟨st2, t0, t3, t4, t5⟩ := hI
  by_cases hil : i < n
  ·have hd := dlt hil
   have hd' : (i < n) = True := eq_true hil
   have ni := wj (i := i) (by omega)
   obtain ⟨i1, hi1⟩ := qb8 (i + 1)
   rw [← hi1] at ni hk2
   obtain ⟨a, ha⟩ : ∃ r, acs[i]? = some r := ⟨_, qae (by omega)⟩
   have ham := qaf ha
   have hrd' := hrd (by rintro rfl; simp at ha)
   obtain ⟨a1, a2, a3⟩ := hrd'.at ha
   obtain ⟨s, hs⟩ := qb8 (swT acs i (rnd acs p))
   rw [← hs] at st2
   have lQ : ∀ u, load1 m2 ⟨Q, i, u⟩ = some (.bool (s i)) := fun u => by rw [(st2.get 0 rfl).2.2.load1, kK _ (by omega)]
   have ixi := ix i (by omega)
   have hsw : swT acs i1 (rnd acs p) = swS acs i s := by rw [hi1, hs]; rfl
   cases hsi : s i with
   | false =>
    rw [hsi] at lQ
    have : swS acs i s = s := by
     rcases xC acs i s with ⟨e, _⟩ | ⟨_, _, e, _⟩
     ·exact e
     ·rw [hsi] at e; cases e
    simp [t0, t3, t4, t5, hlen, hd, hd', ixi, lQ, ni]
    exact hk2 hil _ _ ⟨by rw [hsw, this]; exact st2, by simp [t0], by simp [t3], by simp [t4], by simp⟩
   | true =>
    rw [hsi] at lQ
    have hsa : swS acs i s = swA a i s := by
     rcases xC acs i s with ⟨_, e | e⟩ | ⟨b, e1, _, e⟩
     ·rw [ha] at e; cases e
     ·rw [hsi] at e; cases e
     ·rw [ha] at e1; cases e1; exact e
    have a2' := a2 m2 st2.sees
    obtain ⟨_, m3, c1, c2, rfl⟩ := bl a N m2
    have st3 := st2.step c2
    have op3 : ∀ mm, Sees m mm → ∀ u, load1 mm ⟨(adr 11 sv i).block, (adr 11 sv i).off, u⟩ = some (iv a.op) := fun mm hs u => a3 mm 0 u hs (by rw [qv]; omega)
    have to3 : ∀ u, load1 m3 ⟨(adr 11 sv i).block, (adr 11 sv i).off + 8, u⟩ = some (iv a.to) := fun u => a3 m3 8 u st3.sees (by rw [qv]; omega)
    have op3' := op3 m3 st3.sees
    have ixi1 := ix i1 (by omega)
    cases hj : bO a with
    | false =>
     have hno : a.op ≠ 9 ∧ a.op ≠ 10 := by
      refine ⟨fun e => ?_, fun e => ?_⟩ <;> (have := (xu (a := a)).2 (by simp [e]); rw [hj] at this; cases this)
     have d9 : decide (a.op = 9) = false := decide_eq_false hno.1
     obtain ⟨m4, u1, u2, u3, u4⟩ := st3.store 0 rfl (o := i1) (v := .bool true) (by rw [kg]; omega) rfl
     rw [jh] at u2
     rw [hj] at c1
     simp [t0, t3, t4, t5, hlen, hd, hd', ixi, lQ, ni, a1, a2', qf, c1, op3', d9, ixi1, u1]
     refine hk2 hil _ _ ⟨?_, by simp [t0], by simp [t3], by simp [t4], by simp⟩
     rw [hsw, hsa, swA_n hno.1 hno.2, ← hi1]; exact u2
    | true =>
     have hop := xu.1 hj
     obtain ⟨z0, z1⟩ := hto a ham hop
     obtain ⟨z, hz⟩ : ∃ z : Nat, a.to = (z : Int) := ⟨a.to.toNat, by omega⟩
     have hz' : a.to.toNat = z := by omega
     rw [hz] at to3
     have ixz := ix z (by omega)
     obtain ⟨m4, u1, u2, u3, u4⟩ := st3.store 0 rfl (o := z) (v := .bool true) (by rw [kg]; omega) rfl
     rw [jh] at u2
     have st4 : St m m4 [(Q, rgR n1 fun j => .bool (upN s z true j))] := u2
     have op4 := op3 m4 st4.sees
     rw [hj] at c1
     cases h9 : decide (a.op = 9) with
     | true =>
      simp [t0, t3, t4, t5, hlen, hd, hd', ixi, lQ, ni, a1, a2', qf, c1, to3, ixz, u1, op4, h9]
      refine hk2 hil _ _ ⟨?_, by simp [t0], by simp [t3], by simp [t4], by simp⟩
      rw [hsw, hsa, swA_9 (of_decide_eq_true h9), hz']; exact st4
     | false =>
      have h10 : a.op = 10 := by
       rcases hop with e | e
       ·exact absurd e (of_decide_eq_false h9)
       ·exact e
      obtain ⟨m5, y1, y2, y3, y4⟩ := st4.store 0 rfl (o := i1) (v := .bool true) (by rw [kg]; omega) rfl
      rw [jh] at y2
      simp [t0, t3, t4, t5, hlen, hd, hd', ixi, lQ, ni, a1, a2', qf, c1, to3, ixz, u1, op4, h9, ixi1, y1]
      refine hk2 hil _ _ ⟨?_, by simp [t0], by simp [t3], by simp [t4], by simp⟩
      rw [hsw, hsa, swA_10 h10, hz', ← hi1]; exact y2
  ·obtain rfl : i = n := by omega
   have hd : ((i : Int) < (i : Int)) = False := eq_false (by omega)
   simp [t0, t3, t4, t5, hlen, hd, np]
   refine hk hpl _ _ ⟨?_, by omega, by simp [t0], by simp [t3], by simp⟩
   show St m m2 [(Q, rgR n1 fun j => .bool (swT acs acs.length (rnd acs p) j))]
   rw [← hn]; exact st2
 ·obtain rfl : p = n1 := by omega
  have hd : ((p : Int) ≤ (n : Int)) = False := eq_false (by omega)
  simp [t0, t3, t4, hlen, hd]
  have h0 := st.get 0 rfl
  refine qh st.ext ?_
  rw [← hQ, ← hn1]
  exact ⟨by simp, h0.2.1, h0.2.2⟩
end Go.Sx
namespace Go.Sx
open Go.Dx Go.Proofs
set_option maxRecDepth 10000
theorem xV {e : List Nd} (h : Ex24 e) (ed : Value) (F : Nat) (hF : 131080 ≤ F) (m : M) (hm : m.base ≤ m.n) (hed : Rd m ed 4 qg e) : Dx.Call (ex Tryz.prog F) 29 [ed] m fun v m' => GrR m m' v 4 qg (wM e) := by
 rcases h with rfl | h
 ·obtain ⟨N, rfl⟩ : ∃ N, F = N + 1 := ⟨F - 1, by omega⟩
  refine qp FJ (by simp) ?_
  have hel := hed.len
  simp [hel]
  exact qh (Ext.refl m) (by simpa [wM] using GrR.nil)
 ·have hne : e ≠ [] := by rintro rfl; have := (wR h).1; simp at this
  unfold wM
  rw [if_neg hne]
  exact KW h ed F hF m hm hed
theorem yu {e : List Nd} (h : Ex24 e) : (wM e).length ≤ 9223372036854775807 := by
 have h1 := KN h
 have h2 := h.len
 omega
theorem LEq.snoc {ps qs : List Ac} {a b : Ac} (h : LEq ps qs) (hab : AcEq a b) : LEq (ps ++ [a]) (qs ++ [b]) := by
 refine ⟨by simp [h.len], fun j x y hx hy => ?_⟩
 by_cases hj : j < ps.length
 ·rw [qau hj] at hx
  rw [qau (by rw [← h.len]; exact hj)] at hy
  exact h.get j x y hx hy
 ·rw [qav (by omega)] at hx
  rw [qav (by rw [← h.len]; omega), ← h.len] at hy
  have h0 : j - ps.length = 0 := by have := (qag.1 hx).1; simp at this; omega
  rw [h0] at hx hy
  simp at hx hy
  subst hx; subst hy
  exact hab
theorem foldR {m0 m : M} {was : List Ac} {sv : Value} {X : Nat} {t : Tm} (F : Nat) (hF : 131080 ≤ F) (hrd : Rd m0 sv 11 qe was) (hac : ∀ a ∈ was, AcOK m0 a) (hx : ∀ a ∈ was, Ex24 a.ixs ∧ Ex24 a.es ∧ Ex24 a.fs) (hl : was.length ≤ 65536)
  (st : St m0 m [(X, [])]) (t0 : Tm.get 0 t = sv) (t3 : Tm.get 3 t = made 11 X) {kn kr : K} {ke : Nat → K} {Q : Option Out → Prop}
  (H : ∀ t' m' v acs, LS m0 m' [] v acs → LEq acs (was.map wh) → Tm.get 3 t' = v → Q (kn t' m')) : Q (Ja (ex Tryz.prog F) kn ke kr t m) := by
 obtain ⟨n, hn⟩ := qb8 (was.length)
 have hsl : qL sv = some (.int .i64 (n : Int)) := by rw [hn]; exact hrd.len
 rw [← hn] at hl
 obtain ⟨v0, hv0⟩ := qb8 (made 11 X)
 rw [← hv0] at t3
 simp
 refine qq (c := Bc) rfl Q (fun i t m' => ∃ g rows, LS m0 m' [(X, [])] g rows ∧ VG X 11 g (Tm.get 3 t) rows ∧ LEq rows ((was.take i).map wh) ∧ Tm.get 0 t = sv ∧ Tm.get 4 t = iv i) n (by omega)
  ⟨.slice none 0 0, [], ⟨st, rfl, fun h => absurd rfl h, fun a ha => (by cases ha), fun a ha => (by cases ha), by simp, ku, fun B hB => (by cases hB), fun a ha => (by cases ha), fun B hB => (by cases hB)⟩, .inl ⟨rfl, rfl, by simp [t3, hv0]⟩, by simpa using LEq.refl [], by simp [t0], by simp⟩ (fun i t m' k hi hI hk => ?_)
 obtain ⟨g, rows, hL, hV, hq, t0, t4⟩ := hI
 have S := hL.st.sees
 obtain ⟨lv, hlv⟩ := qb8 (Tm.get 3 t)
 rw [← hlv] at hV
 by_cases hil : i < n
 ·have hd := dlt hil
  have hd' : (i < n) = True := eq_true hil
  have ni := wj (i := i) (by omega)
  obtain ⟨a, ha⟩ : ∃ r, was[i]? = some r := ⟨_, qae (by omega)⟩
  have ham := qaf ha
  have hok := hac a ham
  obtain ⟨x1, x2, x3⟩ := hx a ham
  obtain ⟨a1, a2, _⟩ := hrd.at ha
  have a2' := a2 m' S
  have hrl : rows.length = i := by have := hq.len; simp at this; omega
  have L1 := hL.row zAc
  obtain ⟨T5, hT5⟩ := qb8 (m'.n)
  obtain ⟨m1, hm1⟩ := qb8 (Dx.newRow m' zAc)
  rw [← hm1, ← hT5] at L1
  obtain ⟨m2, s1, L2', n2⟩ := L1.fill 0 rfl (n := 11) (l' := qe a) rfl rfl (qM hok)
  have L2 : LS m0 m2 [(T5, qe a), (X, [])] g rows := L2'
  obtain ⟨v1, m3, c1, c2, c3⟩ := xV x2 a.ev F hF m2 L2.mb (hok.ev.sees L2.st.sees)
  have L3 := L2.step c2
  obtain ⟨y1, hy1⟩ : ∃ y : Ac, y = { a with ev := v1, es := wM a.es } := ⟨_, rfl⟩
  obtain ⟨m4, s4, L4', n4⟩ := L3.store 0 rfl (o := 5) (w := v1) (by simp [qe]) c3.okC
  have L4 : LS m0 m4 [(T5, qe y1), (X, [])] g rows := by rw [hy1]; exact L4'
  have k4 : GrR m2 m4 v1 4 qg (wM a.es) := c3.keep (by omega) fun B hB hb => by
   have h1 := (c3.low B hb).1
   have h2 := (L2.st.get 0 rfl).2.1
   have := ((L3.st.store 0 rfl (o := 5) (v := v1) (by simp [qe]) c3.okC))
   obtain ⟨mm, e1, _, _, e4⟩ := this
   rw [s4] at e1; cases e1
   exact e4 B (by omega)
  obtain ⟨v2, m5, d1, d2, d3⟩ := xV x3 a.fv F hF m4 L4.mb (hok.fv.sees L4.st.sees)
  have L5 := L4.step d2
  obtain ⟨y2, hy2⟩ : ∃ y : Ac, y = { y1 with fv := v2, fs := wM a.fs } := ⟨_, rfl⟩
  obtain ⟨m6, s6, L6', n6⟩ := L5.store 0 rfl (o := 6) (w := v2) (by simp [qe]) d3.okC
  have L6 : LS m0 m6 [(T5, qe y2), (X, [])] g rows := by rw [hy2]; exact L6'
  have fr6 : ∀ B, B ≠ T5 → m6.obj B = m5.obj B := fun B hB => by
   obtain ⟨mm, e1, _, _, e4⟩ := L5.st.store 0 rfl (o := 6) (v := v2) (by simp [qe]) d3.okC
   rw [s6] at e1; cases e1
   exact e4 B hB
  have hT5n : T5 < m2.n := (L2.st.get 0 rfl).2.1
  have h24 : m2.n ≤ m4.n := by have := c2.n; omega
  have k6 : GrR m2 m6 v1 4 qg (wM a.es) := (k4.keep d2.n fun B hB _ => d2.obj B hB).keep (by omega) fun B hB hb => fr6 B (by have := (k4.low B hb).1; omega)
  have j6 : GrR m4 m6 v2 4 qg (wM a.fs) := d3.keep (by omega) fun B hB hb => fr6 B (by have := (d3.low B hb).1; omega)
  obtain ⟨v3, m7, e1, e2, e3⟩ := xV x1 a.ix F hF m6 L6.mb (hok.ix.sees L6.st.sees)
  have L7 := L6.step e2
  obtain ⟨y3, hy3⟩ : ∃ y : Ac, y = { y2 with ix := v3, ixs := wM a.ixs } := ⟨_, rfl⟩
  obtain ⟨m8, s8, L8', n8⟩ := L7.store 0 rfl (o := 4) (w := v3) (by simp [qe]) e3.okC
  have L8 : LS m0 m8 [(T5, qe y3), (X, [])] g rows := by rw [hy3]; exact L8'
  have fr8 : ∀ B, B ≠ T5 → m8.obj B = m7.obj B := fun B hB => by
   obtain ⟨mm, e1, _, _, e4⟩ := L7.st.store 0 rfl (o := 4) (v := v3) (by simp [qe]) e3.okC
   rw [s8] at e1; cases e1
   exact e4 B hB
  have h46 : m4.n ≤ m6.n := by have := d2.n; omega
  have k8 : GrR m2 m8 v1 4 qg (wM a.es) := (k6.keep e2.n fun B hB _ => e2.obj B hB).keep (by omega) fun B hB hb => fr8 B (by have := (k6.low B hb).1; omega)
  have j8 : GrR m4 m8 v2 4 qg (wM a.fs) := (j6.keep e2.n fun B hB _ => e2.obj B hB).keep (by omega) fun B hB hb => fr8 B (by have := (j6.low B hb).1; omega)
  have i8 : GrR m6 m8 v3 4 qg (wM a.ixs) := e3.keep (by omega) fun B hB hb => fr8 B (by have := (e3.low B hb).1; omega)
  have ok8 : AcOK m8 y3 := by
   rw [hy3, hy2, hy1]
   exact ⟨i8.rd (fun _ => rfl), k8.rd (fun _ => rfl), j8.rd (fun _ => rfl), yu x1, yu x2, yu x3⟩
  have in8 : ∀ Z, zd y3 Z → m2.n ≤ Z := fun Z hZ => by
   rw [hy3, hy2, hy1] at hZ
   rcases hZ with hZ | hZ | hZ
   ·have := (i8.low Z hZ).1; omega
   ·exact (k8.low Z hZ).1
   ·have := (j8.low Z hZ).1; omega
  have hg : ∀ Z, blk g = some Z → Z < m2.n := fun Z hZ => by
   rcases hV with ⟨_, rfl, _⟩ | ⟨hne, _⟩
   ·cases hZ
   ·exact ((L2.ge hne).gr.low Z hZ).2
  have hXl : X < m2.n := (L2.st.get 1 rfl).2.1
  obtain ⟨v9, m9, p1, p2⟩ := L8.push (v := lv) (X := X) hV (by simp) (y := y3) ok8 (fun Z hZ => ⟨fun e => by have := in8 Z hZ; have := hg Z e; omega, fun p hp => by
   have := in8 Z hZ
   simp at hp
   rcases hp with rfl | rfl
   ·show T5 ≠ Z; omega
   ·show X ≠ Z; omega⟩) (fun Z hZ => by have := in8 Z hZ; have := L2.st.ext.n; omega) (by omega)
  have lr2 : ∀ s, load1 m2 ⟨T5, 5, s⟩ = some a.ev := fun s => L2.get 0 rfl 5 s
  have lr4 : ∀ s, load1 m4 ⟨T5, 6, s⟩ = some a.fv := fun s => by rw [L4.get 0 rfl, hy1]; rfl
  have lr6 : ∀ s, load1 m6 ⟨T5, 4, s⟩ = some a.ix := fun s => by rw [L6.get 0 rfl, hy2, hy1]; rfl
  have ll8 : loads m8 ⟨T5, 0, none⟩ 11 = some (qe y3) := (L8.st.get 0 rfl).2.2.loads (n := 11) (by simp [qe])
  have b8 := Jl ok8 m8
  obtain ⟨m10, hm10⟩ := qb8 (Dx.newRow m8 (qe y3))
  rw [← hm10] at b8 p1
  simp [t0, t4, hsl, hd, hd', a1, a2', qf, ← hm1, ← hT5, s1, lr2, c1, s4, lr4, d1, s6, lr6, e1, s8, ll8, b8, ← hlv, p1, ni]
  refine hk hil _ _ ⟨v9, rows ++ [y3], p2.tail, .inr ⟨by simp, by simp⟩, ?_, by simp [t0], by simp⟩
  rw [List.take_add_one, ha]
  simp only [Option.toList_some, List.map_append, List.map_cons, List.map_nil]
  exact hq.snoc ⟨v3, v1, v2, by rw [hy3, hy2, hy1]; rfl⟩
 ·obtain rfl : i = n := by omega
  have hd : ((i : Int) < (i : Int)) = False := eq_false (by omega)
  simp [t0, t4, hsl, hd]
  rw [hn, List.take_length] at hq
  refine H _ _ lv rows ⟨hL.tail.st, ?_, fun hne => ?_, hL.ac, fun a ha Z hZ => ⟨?_, fun p hp => by cases hp⟩, hL.sz, ?_, fun B hB p hp => (by cases hp), hL.nw, ?_⟩ hq (by simp [hlv])
  ·rcases hV with ⟨rfl, _, rfl⟩ | ⟨_, rfl⟩
   ·rfl
   ·exact hL.len
  ·rcases hV with ⟨e, _⟩ | ⟨_, rfl⟩
   ·exact absurd e hne
   ·exact hL.tail.ge hne
  ·rcases hV with ⟨rfl, _⟩ | ⟨_, rfl⟩
   ·cases ha
   ·exact (hL.sep a ha Z hZ).1
  ·rcases hV with ⟨rfl, _, rfl⟩ | ⟨_, rfl⟩
   ·exact kZ (l := []) qv (hL.st.get 0 rfl).2.2 (hL.st.get 0 rfl).2.1
   ·exact hL.rd0
  ·rcases hV with ⟨rfl, _, rfl⟩ | ⟨_, rfl⟩
   ·exact fun B hB => by cases hB; exact (hL.st.get 0 rfl).1
   ·exact hL.vn
end Go.Sx
namespace Go.Sx
open Go.Dx Go.Proofs
set_option maxRecDepth 10000
def xM (f : Ac → Ac) (acs : List Ac) (i : Nat) : List Ac := (acs.take i).map f ++ acs.drop i
section
variable {f : Ac → Ac} {acs : List Ac} {i : Nat}
theorem Qx : xM f acs 0 = acs := by simp [xM]
theorem Kl : xM f acs acs.length = acs.map f := by simp [xM]
theorem xD : (xM f acs i).length = acs.length := by simp [xM]; omega
theorem fC (j : Nat) : (xM f acs i)[j]? = (acs[j]?).map fun d => if j < i then f d else d := by
 unfold xM
 by_cases hi : i ≤ acs.length
 ·have hl : ((acs.take i).map f).length = i := by simp; omega
  by_cases hj : j < i
  ·rw [qau (by omega), qaw, List.getElem?_take_of_lt hj]
   simp [hj]
  ·rw [qav (by omega), hl, List.getElem?_drop, show i + (j - i) = j by omega]
   simp [hj]
 ·rw [List.take_of_length_le (by omega), List.drop_of_length_le (by omega), List.append_nil, qaw]
  by_cases hj : j < acs.length
  ·simp [show j < i by omega]
  ·rw [qb3 (by omega)]; rfl
theorem Wu {a : Ac} (h : acs[i]? = some a) : (xM f acs i)[i]? = some a := by rw [fC, h]; simp
theorem dj {a : Ac} (h : acs[i]? = some a) : (xM f acs i).set i (f a) = xM f acs (i + 1) := by
 have hl := (qag.1 h).1
 refine List.ext_getElem? fun j => ?_
 by_cases hj : i = j
 ·subst hj
  rw [qaz (by rw [xD]; exact hl), fC, h]; simp
 ·rw [qb5 hj, fC, fC]
  by_cases h1 : j < i
  ·simp [h1, show j < i + 1 by omega]
  ·simp [h1, show ¬ j < i + 1 by omega]
theorem gp {a : Ac} (h : acs[i]? = some a) (hf : f a = a) : xM f acs (i + 1) = xM f acs i := by
 rw [← dj h, hf]
 refine List.ext_getElem? fun j => ?_
 by_cases hj : i = j
 ·subst hj
  rw [qaz (by rw [xD]; exact (qag.1 h).1), Wu h]
 ·rw [qb5 hj]
end
def upto (s : Nat → Bool) (i : Nat) : Nat → Bool := fun j => decide (j < i) && s j
theorem gC (s : Nat → Bool) : upto s 0 = fun _ => false := funext fun j => by unfold upto; simp
theorem yO (s : Nat → Bool) (i : Nat) : upN (upto s i) i (s i) = upto s (i + 1) := funext fun j => by
 by_cases hj : j = i
 ·subst hj; rw [wX]; unfold upto; simp
 ·rw [kV _ _ hj]; unfold upto
  by_cases h1 : j < i
  ·simp [h1, show j < i + 1 by omega]
  ·simp [h1, show ¬ j < i + 1 by omega]
theorem Xl {s : Nat → Bool} {i : Nat} (h : s i = false) : upto s (i + 1) = upto s i := by
 rw [← yO, h]
 funext j
 by_cases hj : j = i
 ·subst hj; rw [wX]; unfold upto; simp
 ·rw [kV _ _ hj]
theorem Qj {n : Nat} {f g : Nat → Value} (h : ∀ j, j < n → f j = g j) : rgR n f = rgR n g := by
 unfold rgR
 exact List.map_congr_left fun j hj => h j (List.mem_range.1 hj)
theorem dm (s : Nat → Bool) (n : Nat) : (rgR n fun j => Value.bool (upto s n j)) = rgR n fun j => .bool (s j) := Qj fun j hj => by unfold upto; simp [hj]
theorem KO {e : List Nd} (h : Ex24 e) (hl : zB (wM e) = true) : ∃ n, wM e = [n] := by
 rcases h with rfl | h
 ·simp [wM, zB] at hl
 obtain ⟨x1, x2, x3⟩ := wR h
 have hne : e ≠ [] := by rintro rfl; simp at x1
 obtain ⟨t, t1, t2, t3⟩ := FT.of_layR x3 e.length (e.length - 1) [] (by omega) (by omega)
 have hf : wM e = t.lay 0 := by unfold wM; rw [if_neg hne, t2]; rfl
 rw [hf] at hl ⊢
 cases t with
 | num v => exact ⟨_, rfl⟩
 | loc n => exact ⟨_, rfl⟩
 | one op a =>
  exfalso
  simp only [FT.lay, zB] at hl
  rw [qao, List.length_singleton, Nat.add_sub_cancel, qav (qah _), Nat.sub_self] at hl
  have := t1.1
  simp at hl; omega
 | two op a b =>
  exfalso
  simp only [FT.lay, zB] at hl
  rw [← qb2, qao, List.length_singleton, Nat.add_sub_cancel, qav (qah _), Nat.sub_self] at hl
  have := t1.1
  simp at hl; omega
theorem Dh {acs was : List Ac} (h : LEq acs (was.map wh)) (hx : ∀ a ∈ was, Ex24 a.ixs ∧ Ex24 a.es ∧ Ex24 a.fs) : ∀ a ∈ acs, zB a.es = true → ∃ n, a.es = [n] := fun a ha hl => by
 obtain ⟨j, hj⟩ := qb1 ha
 obtain ⟨w, hw⟩ := kL h.len hj
 have he := h.get j a w hj hw
 rw [qaw] at hw
 cases hb : was[j]? with
 | none => rw [hb] at hw; cases hw
 | some b =>
  rw [hb] at hw
  cases hw
  obtain ⟨x, y, z, rfl⟩ := he
  exact KO (hx b (qaf hb)).2.1 hl
theorem Dt {m0 m : M} {acs : List Ac} {v : Value} {O n : Nat} {t : Tm} {x : Ex} (hn : n = acs.length) (h : LS m0 m [(O, rgR n fun _ => .bool false)] v acs) (hne : ∀ a ∈ acs, a.op = 10 → a.es ≠ []) (h1 : ∀ a ∈ acs, zB a.es = true → ∃ e, a.es = [e])
  (t3 : Tm.get 3 t = v) (t6 : Tm.get 6 t = .slice (some ⟨O, 0, some 3⟩) n n) {kn kr : K} {ke : Nat → K} {Q : Option Out → Prop}
  (H : ∀ t' m', LS m0 m' [(O, rgR n fun j => .bool (zV (acs.map wT) j))] v (acs.map wT) → Tm.get 3 t' = v → Tm.get 6 t' = .slice (some ⟨O, 0, some 3⟩) n n → Q (kn t' m')) : Q (Jh x kn ke kr t m) := by
 have hl := h.sz
 rw [← hn] at hl
 obtain ⟨s, hs⟩ := qb8 (zV (acs.map wT))
 simp
 refine qq (c := YZ) rfl Q (fun i t m' => LS m0 m' [(O, rgR n fun j => .bool (upto s i j))] v (xM wT acs i) ∧ Tm.get 3 t = v ∧ Tm.get 6 t = .slice (some ⟨O, 0, some 3⟩) n n ∧ Tm.get 7 t = iv i) n (by omega)
  ⟨by rw [gC, Qx]; exact h, by simp [t3], by simp [t6], by simp⟩ (fun i t m' k hi hI hk => ?_)
 clear t3 t6 h
 obtain ⟨hL, t3, t6, t7⟩ := hI
 have hll : qL v = some (.int .i64 (n : Int)) := by have := hL.len; rwa [xD, ← hn] at this
 by_cases hil : i < n
 ·have hd := dlt hil
  have hd' : (i < n) = True := eq_true hil
  have ni := wj (i := i) (by omega)
  obtain ⟨a, ha⟩ : ∃ r, acs[i]? = some r := ⟨_, qae (by omega)⟩
  have ham := qaf ha
  have hil' : i < (xM wT acs i).length := by rw [xD]; omega
  have hat := Wu (f := wT) ha
  have hok := hL.ac a (qaf hat)
  obtain ⟨a1, a2, _⟩ := (hL.rd hil').at hat
  have a2' := a2 m' hL.st.sees.self
  have L1 := hL.row zAc
  obtain ⟨T8, hT8⟩ := qb8 (m'.n)
  obtain ⟨m1, hm1⟩ := qb8 (Dx.newRow m' zAc)
  rw [← hm1, ← hT8] at L1
  obtain ⟨m2, s1, L2', n2⟩ := L1.fill 0 rfl (n := 11) (l' := qe a) rfl rfl (qM hok)
  have L2 : LS m0 m2 [(T8, qe a), (O, rgR n fun j => .bool (upto s i j))] v (xM wT acs i) := L2'
  have l2 : ∀ p s, load1 m2 ⟨T8, p, s⟩ = (qe a)[p]? := fun p s => L2.get 0 rfl p s
  simp only [qe] at l2
  have hsi : s i = jQ (wT a) := by rw [hs]; unfold zV; rw [qaw, ha]; rfl
  have ixO : qZ 1 (.slice (some ⟨O, 0, some 3⟩) n n) (.int .i64 (i : Int)) = some (.pointer (some ⟨O, i, none⟩)) := by have := yc (e := 1) (c := 3) O n i hil; rwa [Nat.mul_one] at this
  have same : wT a = a → jQ a = false → LS m0 m2 [(O, rgR n fun j => .bool (upto s (i + 1) j))] v (xM wT acs (i + 1)) := fun e1 e2 => by
   rw [Xl (by rw [hsi, e1]; exact e2), gp ha e1]; exact L2.tail
  cases h10 : decide (a.op = 10) with
  | false =>
   have e2 : jQ a = false := by unfold jQ; rw [h10]; rfl
   have e1 : wT a = a := by unfold wT; rw [if_neg]; rw [e2]; simp
   simp [t3, t6, t7, hll, hd, hd', a1, a2', qf, ← hm1, ← hT8, s1, l2, h10, ni]
   exact hk hil _ _ ⟨same e1 e2, by simp [t3], by simp [t6], by simp⟩
  | true =>
   have hop := of_decide_eq_true h10
   have hes := hne a ham hop
   obtain ⟨kk, hkk⟩ : ∃ kk, a.es.length = kk + 1 := ⟨a.es.length - 1, by have := qb4.2 hes; omega⟩
   obtain ⟨e, he⟩ : ∃ r, a.es[kk]? = some r := ⟨_, qae (by omega)⟩
   have hev := (L2.ac a (qaf hat)).ev
   have hel : qL a.ev = some (.int .i64 ((kk + 1 : Nat) : Int)) := by rw [← hkk]; exact hev.len
   have hkl : kk + 1 ≤ 9223372036854775807 := by rw [← hkk]; exact hok.evl
   have wk : IntKind.i64.wrap (((kk + 1 : Nat) : Int) - 1) = (kk : Int) := by rw [wrap64 _ (by omega) (by omega)]; omega
   obtain ⟨k1, hk1⟩ := qb8 (kk + 1)
   rw [← hk1] at hel wk
   obtain ⟨b1, _, b3⟩ := hev.at he
   have bop : ∀ u, load1 m2 ⟨(adr 4 a.ev kk).block, (adr 4 a.ev kk).off, u⟩ = some (iv e.op) := fun u => b3 m2 0 u L2.st.sees.self (by simp [qg])
   have bval : ∀ u, load1 m2 ⟨(adr 4 a.ev kk).block, (adr 4 a.ev kk).off + 1, u⟩ = some (uv e.val.1) := fun u => b3 m2 1 u L2.st.sees.self (by simp [qg])
   have hln : zB a.es = decide (e.op = 1) := by unfold zB; rw [hkk, Nat.add_sub_cancel, he]
   cases hE : decide (e.op = 1) with
   | false =>
    have e2 : jQ a = false := by unfold jQ; rw [hln, hE, Bool.and_false]
    have e1 : wT a = a := by unfold wT; rw [if_neg]; rw [e2]; simp
    simp [t3, t6, t7, hll, hd, hd', a1, a2', qf, ← hm1, ← hT8, s1, l2, h10, hel, wk, b1, bop, hE, ni]
    exact hk hil _ _ ⟨same e1 e2, by simp [t3], by simp [t6], by simp⟩
   | true =>
    rw [hE] at hln
    have e2 : jQ a = true := by unfold jQ; rw [h10, hln]; rfl
    obtain ⟨e', he'⟩ := h1 a ham hln
    have hk0 : kk = 0 := by rw [he'] at hkk; simp at hkk; omega
    have hfv : Kp a.es = e.val.1 := by unfold Kp; rw [← hk0, he]
    by_cases hz : e.val.1 = 0
    ·have ebr : wT a = kF a := by unfold wT; rw [if_pos ⟨e2, by rw [hfv, hz]⟩]
     obtain ⟨B, m3, ia, f1, f2, f3⟩ := L2.setAct (y := kF a) hil' (JL m2 a) (fun X hX => (WZ hX).elim) (fun X hX => (WZ hX).elim)
     rw [a1] at ia
     have had : adr 11 v i = ⟨B, i * 11, none⟩ := by simpa using ia
     have hj : qe (kF a) = [.int .i64 9, .int .i64 0, .int .i64 0, .int .i64 0, .slice none 0 0, .slice none 0 0, .slice none 0 0, .int .i64 0, iv a.to, iv a.line, iv a.col] := rfl
     rw [hj] at f1
     rw [had] at a1 a2'
     have bj := bJmp a.to a.line a.col
     rw [hz] at bval
     simp [t3, t6, t7, hll, hd, hd', a1, a2', qf, ← hm1, ← hT8, s1, l2, h10, hel, wk, b1, bop, hE, bval, bj, f1, ni]
     refine hk hil _ _ ⟨?_, by simp [t3], by simp [t6], by simp⟩
     rw [Xl (by rw [hsi, ebr]; rfl), ← dj ha, ebr]
     exact f2.tail
    ·have ebr : wT a = a := by unfold wT; rw [if_neg (by rw [hfv]; exact fun e => hz e.2)]
     have hzz : decide (e.val.1 = 0) = false := decide_eq_false hz
     obtain ⟨m3, u1, u2, u3⟩ := L2.store 1 rfl (o := i) (w := .bool true) (by rw [kg]; omega) rfl
     rw [jh] at u2
     simp [t3, t6, t7, hll, hd, hd', a1, a2', qf, ← hm1, ← hT8, s1, l2, h10, hel, wk, b1, bop, hE, bval, hz, ixO, u1, ni]
     refine hk hil _ _ ⟨?_, by simp [t3], by simp [t6], by simp⟩
     have hst : s i = true := by rw [hsi, ebr]; exact e2
     rw [← yO, hst, gp ha ebr]
     exact LS.tail u2
 ·obtain rfl : i = n := by omega
  have hd : ((i : Int) < (i : Int)) = False := eq_false (by omega)
  simp [t3, t7, hll, hd]
  rw [dm] at hL
  rw [hn, Kl, ← hn, hs] at hL
  exact H _ _ hL (by simp [t3]) (by simp [t6])
end Go.Sx
namespace Go.Sx
open Go.Dx Go.Proofs
set_option maxRecDepth 10000
def fS (acs : List Ac) (j : Nat) : Nat := match acs[j]? with
 | some a => (xf acs (acs.length + 1) a.to.toNat).getD a.to.toNat
 | none => 0
theorem XK {acs : List Ac} {j : Nat} {a : Ac} (h : acs[j]? = some a) : fS acs j = (xf acs (acs.length + 1) a.to.toNat).getD a.to.toNat := by unfold fS; rw [h]
theorem ix1 {O n i : Nat} (h : i < n) : qZ 1 (.slice (some ⟨O, 0, some 3⟩) n n) (.int .i64 (i : Int)) = some (.pointer (some ⟨O, i, none⟩)) := by have := yc (e := 1) (c := 3) O n i h; rwa [Nat.mul_one] at this
theorem toR {m0 m : M} {acs : List Ac} {v : Value} {T9 n : Nat} {t : Tm} (N : Nat) (hn : n = acs.length) (h : LS m0 m [(T9, rgR n fun _ => .int .i64 0)] v acs) (hto : ∀ a ∈ acs, 0 ≤ a.to ∧ a.to ≤ acs.length)
  (t3 : Tm.get 3 t = v) (t9 : Tm.get 9 t = .slice (some ⟨T9, 0, some 3⟩) n n) {kn kr : K} {ke : Nat → K} {Q : Option Out → Prop}
  (H : ∀ t' m', LS m0 m' [(T9, rgR n fun j => iv (fS acs j))] v acs → Tm.get 3 t' = v → Tm.get 9 t' = .slice (some ⟨T9, 0, some 3⟩) n n → Q (kn t' m')) : Q (ZD (ex Tryz.prog (N + 1)) kn ke kr t m) := by
 have hl := h.sz
 rw [← hn] at hl
 have hll : qL v = some (.int .i64 (n : Int)) := by rw [hn]; exact h.len
 obtain ⟨tf, htf⟩ : ∃ tf : Nat → Nat → Value, tf = fun i j => iv (if j < i then fS acs j else 0 : Nat) := ⟨_, rfl⟩
 simp
 refine qq (c := Bz) rfl Q (fun i t m' => LS m0 m' [(T9, rgR n (tf i))] v acs ∧ Tm.get 3 t = v ∧ Tm.get 9 t = .slice (some ⟨T9, 0, some 3⟩) n n ∧ Tm.get 10 t = iv i) n (by omega)
  ⟨by rw [htf]; exact h, by simp [t3], by simp [t9], by simp⟩ (fun i t m' k hi hI hk => ?_)
 clear t3 t9 h
 obtain ⟨hL, t3, t9, t10⟩ := hI
 by_cases hil : i < n
 ·have hd := dlt hil
  have hd' : (i < n) = True := eq_true hil
  have ni := wj (i := i) (by omega)
  obtain ⟨a, ha⟩ : ∃ r, acs[i]? = some r := ⟨_, qae (by omega)⟩
  have ham := qaf ha
  have hrd := hL.rd (i := i) (by omega)
  obtain ⟨a1, a2, a3⟩ := hrd.at ha
  obtain ⟨z0, z1⟩ := hto a ham
  obtain ⟨z, hz⟩ : ∃ z : Nat, a.to = (z : Int) := ⟨a.to.toNat, by omega⟩
  have l8 : ∀ s, load1 m' ⟨(adr 11 v i).block, (adr 11 v i).off + 8, s⟩ = some (iv z) := fun s => by rw [a3 m' 8 s hL.st.sees.self (by rw [qv]; omega), ← hz]; rfl
  obtain ⟨_, m2, c1, c2, rfl⟩ := far_c acs v z (by omega) (by omega) (fun a ha _ => hto a ha) N m' hL.mb hrd
  have L2 := hL.step c2
  obtain ⟨q, hq⟩ := qb8 ((xf acs (acs.length + 1) z).getD z)
  rw [← hq] at c1
  have hfv : fS acs i = q := by rw [XK ha, hz, hq]; rfl
  obtain ⟨m3, u1, u2, u3⟩ := L2.store 0 rfl (o := i) (w := iv q) (by rw [kg]; omega) rfl
  have hset : (rgR n (tf i)).set i (iv q) = rgR n (tf (i + 1)) := zI (fun j hj => by
   rw [htf]; simp only
   by_cases h1 : j < i
   ·rw [if_pos h1, if_pos (by omega)]
   ·rw [if_neg h1, if_neg (by omega)]) (by rw [htf]; simp only; rw [if_pos (by omega), hfv])
  rw [hset] at u2
  have ixi := ix1 (O := T9) hil
  simp [t3, t9, t10, hll, hd, hd', a1, l8, c1, ixi, u1, ni]
  exact hk hil _ _ ⟨u2, by simp [t3], by simp [t9], by simp⟩
 ·obtain rfl : i = n := by omega
  have hd : ((i : Int) < (i : Int)) = False := eq_false (by omega)
  simp [t3, t10, hll, hd]
  have he : rgR i (tf i) = rgR i fun j => iv (fS acs j) := Qj fun j hj => by rw [htf]; simp only; rw [if_pos hj]
  rw [he] at hL
  exact H _ _ hL (by simp [t3]) (by simp [t9])
theorem GG {acs : List Ac} {j : Nat} {a : Ac} (h : acs[j]? = some a) (hop : a.op = 9 ∨ a.op = 10) (h0 : 0 ≤ a.to) : kT acs a = { a with to := (fS acs j : Nat) } := by
 rw [XK h, Vw]
 unfold kT
 rw [if_pos hop]
 cases ko acs (acs.length + 1) [] a.to.toNat with
 | some z => rfl
 | none =>
  show a = { a with to := ((a.to.toNat : Nat) : Int) }
  rw [show ((a.to.toNat : Nat) : Int) = a.to by omega]
theorem aimR {m0 m : M} {acs : List Ac} {v : Value} {T9 n : Nat} {t : Tm} (N : Nat) (hn : n = acs.length) (h : LS m0 m [(T9, rgR n fun j => iv (fS acs j))] v acs) (hto : ∀ a ∈ acs, 0 ≤ a.to ∧ a.to ≤ acs.length)
  (t3 : Tm.get 3 t = v) (t9 : Tm.get 9 t = .slice (some ⟨T9, 0, some 3⟩) n n) {kn kr : K} {ke : Nat → K} {Q : Option Out → Prop}
  (H : ∀ t' m', LS m0 m' [(T9, rgR n fun j => iv (fS acs j))] v (chn acs) → Tm.get 3 t' = v → Q (kn t' m')) : Q (ZC (ex Tryz.prog (N + 1)) kn ke kr t m) := by
 have hl := h.sz
 rw [← hn] at hl
 simp
 refine qq (c := GX) rfl Q (fun i t m' => LS m0 m' [(T9, rgR n fun j => iv (fS acs j))] v (xM (kT acs) acs i) ∧ Tm.get 3 t = v ∧ Tm.get 9 t = .slice (some ⟨T9, 0, some 3⟩) n n ∧ Tm.get 11 t = iv i) n (by omega)
  ⟨by rw [Qx]; exact h, by simp [t3], by simp [t9], by simp⟩ (fun i t m' k hi hI hk => ?_)
 clear t3 t9 h
 obtain ⟨hL, t3, t9, t11⟩ := hI
 have hll : qL v = some (.int .i64 (n : Int)) := by have := hL.len; rwa [xD, ← hn] at this
 by_cases hil : i < n
 ·have hd := dlt hil
  have hd' : (i < n) = True := eq_true hil
  have ni := wj (i := i) (by omega)
  obtain ⟨a, ha⟩ : ∃ r, acs[i]? = some r := ⟨_, qae (by omega)⟩
  have ham := qaf ha
  have hil' : i < (xM (kT acs) acs i).length := by rw [xD]; omega
  have hat := Wu (f := kT acs) ha
  obtain ⟨a1, a2, _⟩ := (hL.rd hil').at hat
  have a2' := a2 m' hL.st.sees.self
  obtain ⟨_, m2, c1, c2, rfl⟩ := bl a N m'
  have L2 := hL.step c2
  cases hj : bO a with
  | false =>
   rw [hj] at c1
   have hc : kT acs a = a := by unfold kT; rw [if_neg]; intro e; rw [xu.2 e] at hj; cases hj
   simp [t3, t9, t11, hll, hd, hd', a1, a2', qf, c1, ni]
   exact hk hil _ _ ⟨by rw [gp ha hc]; exact L2, by simp [t3], by simp [t9], by simp⟩
  | true =>
   rw [hj] at c1
   have hop := xu.1 hj
   have hc := GG ha hop (hto a ham).1
   have lT : ∀ s, load1 m2 ⟨T9, i, s⟩ = some (iv (fS acs i)) := fun s => by rw [L2.get 0 rfl, kK _ hil]
   obtain ⟨B, m3, ia, f1, f2, f3⟩ := L2.setTo hat (fS acs i : Nat)
   rw [a1] at ia
   have had : adr 11 v i = ⟨B, i * 11, none⟩ := by simpa using ia
   rw [had] at a1 a2'
   have ixi := ix1 (O := T9) hil
   obtain ⟨q, hq⟩ := qb8 (fS acs i)
   rw [← hq] at lT f1
   simp [t3, t9, t11, hll, hd, hd', a1, a2', qf, c1, ixi, lT, f1, ni]
   refine hk hil _ _ ⟨?_, by simp [t3], by simp [t9], by simp⟩
   rw [← dj ha, hc]; exact f2
 ·obtain rfl : i = n := by omega
  have hd : ((i : Int) < (i : Int)) = False := eq_false (by omega)
  simp [t3, t11, hll, hd]
  rw [hn, Kl, ← hn] at hL
  exact H _ _ hL (by simp [t3])
theorem notR {m0 m : M} {acs : List Ac} {v : Value} {O W n : Nat} {is : Nat → Bool} {t : Tm} {x : Ex} (hn : n = acs.length) (h : LS m0 m [(O, rgR n fun _ => .bool false), (W, rgR (n + 1) fun j => .bool (is j))] v acs)
  (t3 : Tm.get 3 t = v) (t6 : Tm.get 6 t = .slice (some ⟨O, 0, some 3⟩) n n) (t12 : Tm.get 12 t = .slice (some ⟨W, 0, some 3⟩) (n + 1) (n + 1)) {kn kr : K} {ke : Nat → K} {Q : Option Out → Prop}
  (H : ∀ t' m', LS m0 m' [(O, rgR n fun j => .bool (!is j)), (W, rgR (n + 1) fun j => .bool (is j))] v acs → Tm.get 3 t' = v → Tm.get 6 t' = .slice (some ⟨O, 0, some 3⟩) n n → Q (kn t' m')) : Q (JM x kn ke kr t m) := by
 have hl := h.sz
 rw [← hn] at hl
 have hll : qL v = some (.int .i64 (n : Int)) := by rw [hn]; exact h.len
 obtain ⟨n1, hn1⟩ := qb8 (n + 1)
 rw [← hn1] at h t12
 simp only [← hn1] at H
 simp
 refine qq (c := GU) rfl Q (fun i t m' => LS m0 m' [(O, rgR n fun j => .bool (upto (fun j => !is j) i j)), (W, rgR n1 fun j => .bool (is j))] v acs ∧ Tm.get 3 t = v ∧ Tm.get 6 t = .slice (some ⟨O, 0, some 3⟩) n n ∧ Tm.get 12 t = .slice (some ⟨W, 0, some 3⟩) n1 n1 ∧ Tm.get 13 t = iv i) n (by omega)
  ⟨by rw [gC]; exact h, by simp [t3], by simp [t6], by simp [t12], by simp⟩ (fun i t m' k hi hI hk => ?_)
 clear t3 t6 t12 h
 obtain ⟨hL, t3, t6, t12, t13⟩ := hI
 by_cases hil : i < n
 ·have hd := dlt hil
  have hd' : (i < n) = True := eq_true hil
  have ni := wj (i := i) (by omega)
  have lW : ∀ s, load1 m' ⟨W, i, s⟩ = some (.bool (is i)) := fun s => by rw [hL.get 1 rfl, kK _ (by omega)]
  have ixO := ix1 (O := O) hil
  have ixW := ix1 (O := W) (n := n1) (i := i) (by omega)
  obtain ⟨m3, u1, u2, u3⟩ := hL.store 0 rfl (o := i) (w := .bool (!is i)) (by rw [kg]; omega) rfl
  rw [jh] at u2
  have e1 : upN (upto (fun j => !is j) i) i (!is i) = upto (fun j => !is j) (i + 1) := yO (fun j => !is j) i
  rw [e1] at u2
  simp [t3, t6, t12, t13, hll, hd, hd', ixO, ixW, lW, u1, ni]
  exact hk hil _ _ ⟨u2, by simp [t3], by simp [t6], by simp [t12], by simp⟩
 ·obtain rfl : i = n := by omega
  have hd : ((i : Int) < (i : Int)) = False := eq_false (by omega)
  simp [t3, t13, hll, hd]
  rw [dm] at hL
  exact H _ _ hL (by simp [t3]) (by simp [t6])
theorem nextR {m0 m : M} {acs : List Ac} {v : Value} {O n : Nat} {t : Tm} {x : Ex} (hn : n = acs.length) (h : LS m0 m [(O, rgR n fun _ => .bool false)] v acs)
  (t3 : Tm.get 3 t = v) (t6 : Tm.get 6 t = .slice (some ⟨O, 0, some 3⟩) n n) {kn kr : K} {ke : Nat → K} {Q : Option Out → Prop}
  (H : ∀ t' m', LS m0 m' [(O, rgR n fun j => .bool (zD acs j))] v acs → Tm.get 3 t' = v → Tm.get 6 t' = .slice (some ⟨O, 0, some 3⟩) n n → Q (kn t' m')) : Q (ZK x kn ke kr t m) := by
 have hl := h.sz
 rw [← hn] at hl
 have hll : qL v = some (.int .i64 (n : Int)) := by rw [hn]; exact h.len
 simp
 refine qq (c := BD) rfl Q (fun i t m' => LS m0 m' [(O, rgR n fun j => .bool (upto (zD acs) i j))] v acs ∧ Tm.get 3 t = v ∧ Tm.get 6 t = .slice (some ⟨O, 0, some 3⟩) n n ∧ Tm.get 14 t = iv i) n (by omega)
  ⟨by rw [gC]; exact h, by simp [t3], by simp [t6], by simp⟩ (fun i t m' k hi hI hk => ?_)
 clear t3 t6 h
 obtain ⟨hL, t3, t6, t14⟩ := hI
 by_cases hil : i < n
 ·have hd := dlt hil
  have hd' : (i < n) = True := eq_true hil
  have ni := wj (i := i) (by omega)
  obtain ⟨i1, hi1⟩ := qb8 (i + 1)
  rw [← hi1] at ni hk
  obtain ⟨a, ha⟩ : ∃ r, acs[i]? = some r := ⟨_, qae (by omega)⟩
  obtain ⟨a1, _, a3⟩ := (hL.rd (i := i) (by omega)).at ha
  have l0 : ∀ s, load1 m' ⟨(adr 11 v i).block, (adr 11 v i).off, s⟩ = some (iv a.op) := fun s => a3 m' 0 s hL.st.sees.self (by rw [qv]; omega)
  have l8 : ∀ s, load1 m' ⟨(adr 11 v i).block, (adr 11 v i).off + 8, s⟩ = some (iv a.to) := fun s => a3 m' 8 s hL.st.sees.self (by rw [qv]; omega)
  have ixO := ix1 (O := O) hil
  obtain ⟨b, hb⟩ := qb8 (zD acs i)
  have hsb : b = (decide (a.op = 9) && decide (a.to = (i1 : Int))) := by
   rw [hb, hi1]; unfold zD; rw [ha]
   by_cases h1 : a.op = 9 <;> by_cases h2 : a.to = ((i + 1 : Nat) : Int) <;> simp [h1, h2] <;> omega
  obtain ⟨m3, u1, u2, u3⟩ := hL.store 0 rfl (o := i) (w := .bool b) (by rw [kg]; omega) rfl
  rw [jh, hb, yO, ← hi1] at u2
  cases h9 : decide (a.op = 9) with
  | false =>
   rw [h9, Bool.false_and] at hsb
   rw [hsb] at u1
   simp [t3, t6, t14, hll, hd, hd', a1, l0, h9, ixO, u1, ni]
   exact hk hil _ _ ⟨u2, by simp [t3], by simp [t6], by simp⟩
  | true =>
   rw [h9, Bool.true_and] at hsb
   rw [hsb] at u1
   simp [t3, t6, t14, hll, hd, hd', a1, l0, h9, l8, ixO, u1, ni]
   exact hk hil _ _ ⟨u2, by simp [t3], by simp [t6], by simp⟩
 ·obtain rfl : i = n := by omega
  have hd : ((i : Int) < (i : Int)) = False := eq_false (by omega)
  simp [t3, t14, hll, hd]
  rw [dm] at hL
  exact H _ _ hL (by simp [t3]) (by simp [t6])
end Go.Sx
namespace Go.Dx
theorem DH {α : Type} {m : M} {w : Value} {e : Nat} {f : α → List Value} {ms : List α} (h : Rd m w e f ms) (hne : ms ≠ []) (bytes : Nat) (hb : ms.length * bytes ≤ qW) (hn : ms.length ≤ 4611686018427387904) :
  qS m e bytes (.slice none 0 0) w = some (.slice (some ⟨m.n, 0, some (code e false)⟩) ms.length ms.length, newRow m (ms.flatMap f)) := by
 have hpos := qb4.2 hne
 show ob (lenV w) _ = _
 rw [h.lenV, qy]
 show ob (qI m e ms.length w) _ = _
 rw [h.all, qy]
 unfold vt
 have h1 : Nat.ble (0 + ms.length) 0 = false := by
  cases q : Nat.ble (0 + ms.length) 0 with
  | false => rfl
  | true => have := qan q; omega
 rw [h1, cond_false, Nat.zero_add, qam hb, qam hn]
 rfl
end Go.Dx
namespace Go.Sx
open Go.Dx Go.Proofs
set_option maxRecDepth 10000
structure PR (m0 m : M) (O n : Nat) (v : Value) (gone : Nat → Bool) (st cur : List Ac) : Prop where
 ls : LS m0 m [(O, rgR n fun j => .bool (gone j))] v cur
 len : cur.length = n
 leq : LEq cur st
 at3 : ∀ a ∈ cur, a.op = 3 → a.es ≠ [] ∧ a.es.length ≤ 65536
 at2 : ∀ a ∈ cur, a.op = 2 → 0 ≤ a.dst ∧ a.dst < 1000000
theorem Vy {aim gone : Nat → Bool} {st cur : List Ac} {i : Nat} {a b a0 b0 : Ac} (ha0 : st[i]? = some a0) (hb0 : st[i + 1]? = some b0) (hab : AcEq a a0) (hbb : AcEq b b0) : qN aim i (st, gone) = if wS aim a b i then (if b.op = 3 ∧ a.op = 3 then (st, upN gone i true) else match kv a0 b0 with
   | some c => (st.set (i + 1) c, gone)
   | none => (st, gone)) else (st, gone) := by
 unfold qN
 simp only [ha0, hb0]
 have e1 : wS aim a0 b0 i = wS aim a b i := by
  unfold wS; rw [vV hab, vV hbb]
  obtain ⟨x, y, z, rfl⟩ := hab
  obtain ⟨x', y', z', rfl⟩ := hbb
  rfl
 have e2 : (b0.op = 3 ∧ a0.op = 3) = (b.op = 3 ∧ a.op = 3) := by
  obtain ⟨x, y, z, rfl⟩ := hab
  obtain ⟨x', y', z', rfl⟩ := hbb
  rfl
 rw [e1]
 by_cases hip : wS aim a b i = true
 ·rw [if_pos hip, if_pos hip]
  by_cases h33 : b.op = 3 ∧ a.op = 3
  ·rw [if_pos h33, if_pos (e2 ▸ h33)]
  ·rw [if_neg h33, if_neg (fun e => h33 (e2 ▸ e))]
   all_goals (cases kv a0 b0 <;> rfl)
 ·rw [if_neg hip, if_neg hip]
theorem pairR1 {m0 m' : M} {O n i : Nat} {v : Value} {aim gone : Nat → Bool} {st cur : List Ac} {t : Tm} {k kr : K} {ke : Nat → K} {Q : Option Out → Prop} (N : Nat) (hnl : n ≤ 65536) (hi : i + 1 < n) (h : PR m0 m' O n v gone st cur) (haim : wN st = aim) (hgi : gone i = false)
  (t3 : Tm.get 3 t = v) (t6 : Tm.get 6 t = .slice (some ⟨O, 0, some 3⟩) n n) (t15 : Tm.get 15 t = iv i)
  (hk : ∀ t' m'' cur' gone' st', (st', gone') = qN aim i (st, gone) → PR m0 m'' O n v gone' st' cur' → Tm.get 3 t' = v → Tm.get 6 t' = .slice (some ⟨O, 0, some 3⟩) n n → Tm.get 15 t' = iv i → Q (k t' m'')) :
  Q (JV (ex Tryz.prog (N + 2)) k ke kr t m') := by
 have hL := h.ls
 have hcl := h.len
 have hrd := hL.rd (i := i) (by omega)
 obtain ⟨a, ha⟩ : ∃ r, cur[i]? = some r := ⟨_, qae (by omega)⟩
 obtain ⟨b, hb⟩ : ∃ r, cur[i + 1]? = some r := ⟨_, qae (by omega)⟩
 obtain ⟨a0, ha0⟩ : ∃ r, st[i]? = some r := ⟨_, qae (by have := h.leq.len; omega)⟩
 obtain ⟨b0, hb0⟩ : ∃ r, st[i + 1]? = some r := ⟨_, qae (by have := h.leq.len; omega)⟩
 have hab := h.leq.get i a a0 ha ha0
 have hbb := h.leq.get (i + 1) b b0 hb hb0
 have ham := qaf ha
 have hbm := qaf hb
 have hacm := hL.ac a ham
 have hbcm := hL.ac b hbm
 have hpr := Vy (aim := aim) (gone := gone) (cur := cur) ha0 hb0 hab hbb
 have haimc : wN cur = aim := by
  rw [← haim]
  unfold wN
  rw [h.leq.len]
  exact yy (by rw [h.leq.len]; exact qah _) h.leq.len fun j c d hc hd => by
   obtain ⟨x, y, z, rfl⟩ := h.leq.get j c d hc hd; rfl
 obtain ⟨i1, hi1⟩ := qb8 (i + 1)
 have ni := wj (i := i) (by omega)
 rw [← hi1] at ni hb hpr hi
 obtain ⟨a1, a2, _⟩ := hrd.at ha
 obtain ⟨b1, b2, _⟩ := hrd.at hb
 have a2' := a2 m' hL.st.sees.self
 have L1 := hL.row zAc
 obtain ⟨A, hA⟩ := qb8 (m'.n)
 obtain ⟨m1, hm1⟩ := qb8 (Dx.newRow m' zAc)
 rw [← hm1, ← hA] at L1
 obtain ⟨m2, s1, L2', n2⟩ := L1.fill 0 rfl (n := 11) (l' := qe a) rfl rfl (qM hacm)
 have L2 : LS m0 m2 [(A, qe a), (O, rgR n fun j => .bool (gone j))] v cur := L2'
 have b2' : loads m2 (adr 11 v i1) 11 = some (qe b) := (((L2.rd (i := i1) (by omega)).at hb).2.1) m2 L2.st.sees.self
 have L3 := L2.row zAc
 obtain ⟨B, hB⟩ := qb8 (m2.n)
 obtain ⟨m3, hm3⟩ := qb8 (Dx.newRow m2 zAc)
 rw [← hm3, ← hB] at L3
 obtain ⟨m4, u1, L4', n4⟩ := L3.fill 0 rfl (n := 11) (l' := qe b) rfl rfl (qM (L2.ac b hbm))
 have L4 : LS m0 m4 [(B, qe b), (A, qe a), (O, rgR n fun j => .bool (gone j))] v cur := L4'
 have laN : loads m4 ⟨A, 0, none⟩ 11 = some (qe a) := (L4.st.get 1 rfl).2.2.loads (n := 11) (by simp [qe])
 have lbN4 : loads m4 ⟨B, 0, none⟩ 11 = some (qe b) := (L4.st.get 0 rfl).2.2.loads (n := 11) (by simp [qe])
 have nop : qN aim i (st, gone) = (st, gone) → ∀ mx σ, LS m0 mx (σ ++ [(O, rgR n fun j => .bool (gone j))]) v cur → ∀ t', Tm.get 3 t' = v → Tm.get 6 t' = .slice (some ⟨O, 0, some 3⟩) n n → Tm.get 15 t' = iv i → Q (k t' mx) := fun hp mx σ hg t' e0 e2 e5 =>
  hk t' mx cur gone st hp.symm ⟨hg.sub (fun p hp => List.mem_append_right _ hp) (by have := hg.st.nd; rw [List.map_append, List.nodup_append] at this; exact this.2.1), h.len, h.leq, h.at3, h.at2⟩ e0 e2 e5
 obtain ⟨_, m5, c1, c2, rfl⟩ := bA a (N + 1) m4
 have L5 := L4.step c2
 have la5 : ∀ p s, load1 m5 ⟨A, p, s⟩ = (qe a)[p]? := fun p s => L5.get 1 rfl p s
 have lb5 : ∀ p s, load1 m5 ⟨B, p, s⟩ = (qe b)[p]? := fun p s => L5.get 0 rfl p s
 simp only [qe] at la5 lb5
 cases hpa : kW a with
 | false =>
  rw [hpa] at c1
  have hnp : qN aim i (st, gone) = (st, gone) := by rw [hpr]; unfold wS; rw [hpa]; simp
  simp [t3, t6, t15, a1, a2', b1, b2', ni, qf, ← hm1, ← hA, s1, ← hm3, ← hB, u1, laN, c1]
  exact nop hnp m5 [(B, qe b), (A, qe a)] L5 _ (by simp [t3]) (by simp [t6]) (by simp [t15])
 | true =>
 rw [hpa] at c1
 have lbN : loads m5 ⟨B, 0, none⟩ 11 = some (qe b) := (L5.st.get 0 rfl).2.2.loads (n := 11) (by simp [qe])
 obtain ⟨_, m6, d1, d2, rfl⟩ := bA b (N + 1) m5
 have L6 := L5.step d2
 have la6 : ∀ p s, load1 m6 ⟨A, p, s⟩ = (qe a)[p]? := fun p s => L6.get 1 rfl p s
 have lb6 : ∀ p s, load1 m6 ⟨B, p, s⟩ = (qe b)[p]? := fun p s => L6.get 0 rfl p s
 simp only [qe] at la6 lb6
 cases hpb : kW b with
 | false =>
  rw [hpb] at d1
  have hnp : qN aim i (st, gone) = (st, gone) := by rw [hpr]; unfold wS; rw [hpa, hpb]; simp
  simp [t3, t6, t15, a1, a2', b1, b2', ni, qf, ← hm1, ← hA, s1, ← hm3, ← hB, u1, laN, c1, lbN, d1]
  exact nop hnp m6 [(B, qe b), (A, qe a)] L6 _ (by simp [t3]) (by simp [t6]) (by simp [t15])
 | true =>
 rw [hpb] at d1
 cases db : decide (a.base = b.base) with
 | false =>
  have hnp : qN aim i (st, gone) = (st, gone) := by rw [hpr]; unfold wS; rw [hpa, hpb, db]; simp
  simp [t3, t6, t15, a1, a2', b1, b2', ni, qf, ← hm1, ← hA, s1, ← hm3, ← hB, u1, laN, c1, lbN, d1, la6, lb6, db]
  exact nop hnp m6 [(B, qe b), (A, qe a)] L6 _ (by simp [t3]) (by simp [t6]) (by simp [t15])
 | true =>
 obtain ⟨_, m7, e1, e2, rfl⟩ := Df cur v i1 hL.sz N m6 L6.mb (L6.rd (i := i) (by omega))
 rw [haimc] at e1
 have L7 := L6.step e2
 have la7 : ∀ p s, load1 m7 ⟨A, p, s⟩ = (qe a)[p]? := fun p s => L7.get 1 rfl p s
 have lb7 : ∀ p s, load1 m7 ⟨B, p, s⟩ = (qe b)[p]? := fun p s => L7.get 0 rfl p s
 simp only [qe] at la7 lb7
 cases hai : aim i1 with
 | true =>
  rw [hai] at e1
  have hnp : qN aim i (st, gone) = (st, gone) := by rw [hpr]; unfold wS; rw [← hi1, hai]; simp
  simp [t3, t6, t15, a1, a2', b1, b2', ni, qf, ← hm1, ← hA, s1, ← hm3, ← hB, u1, laN, c1, lbN, d1, la6, lb6, db, e1]
  exact nop hnp m7 [(B, qe b), (A, qe a)] L7 _ (by simp [t3]) (by simp [t6]) (by simp [t15])
 | false =>
 rw [hai] at e1
 have hip : wS aim a b i = true := by unfold wS; rw [← hi1, hai, hpa, hpb, db]; rfl
 rw [if_pos hip] at hpr
 have hb23 : b.op = 2 ∨ b.op = 3 := by unfold kW at hpb; simp at hpb; exact hpb.1
 have ha23 : a.op = 2 ∨ a.op = 3 := by unfold kW at hpa; simp at hpa; exact hpa.1
 by_cases hb3 : b.op = 3
 ·have ixi := ix1 (O := O) (n := n) (i := i) (by omega)
  rw [hb3] at lb7
  by_cases ha3 : a.op = 3
  ·rw [if_pos ⟨hb3, ha3⟩] at hpr
   obtain ⟨m8, x1, x2, x3⟩ := L7.store 2 rfl (o := i) (w := .bool true) (by rw [kg]; omega) rfl
   rw [jh] at x2
   rw [ha3] at la7
   simp [t3, t6, t15, a1, a2', b1, b2', ni, qf, ← hm1, ← hA, s1, ← hm3, ← hB, u1, laN, c1, lbN, d1, la6, lb6, db, e1, la7, lb7, ixi, x1]
   exact hk _ m8 cur (upN gone i true) st hpr.symm ⟨LS.tail (LS.tail x2), h.len, h.leq, h.at3, h.at2⟩ (by simp [t3]) (by simp [t6]) (by simp [t15])
  ·have ha2 : a.op = 2 := ha23.resolve_right ha3
   rw [if_neg fun e => ha3 e.2] at hpr
   have hnp : qN aim i (st, gone) = (st, gone) := by
    rw [hpr]
    have : kv a0 b0 = none := by
     unfold kv
     have : b0.op = 3 := by obtain ⟨x, y, z, rfl⟩ := hbb; exact hb3
     rw [if_pos this]
    rw [this]
   obtain ⟨m8, x1, x2, x3⟩ := L7.store 2 rfl (o := i) (w := .bool false) (by rw [kg]; omega) rfl
   rw [jh] at x2
   have hgg : upN gone i false = gone := funext fun j => by
    by_cases e : j = i
    ·subst e; rw [wX, hgi]
    ·rw [kV _ _ e]
   rw [hgg] at x2
   rw [ha2] at la7
   simp [t3, t6, t15, a1, a2', b1, b2', ni, qf, ← hm1, ← hA, s1, ← hm3, ← hB, u1, laN, c1, lbN, d1, la6, lb6, db, e1, la7, lb7, ixi, x1]
   exact nop hnp m8 [(B, qe b), (A, qe a)] x2 _ (by simp [t3]) (by simp [t6]) (by simp [t15])
 have hb2 : b.op = 2 := hb23.resolve_right hb3
 rw [if_neg fun e => hb3 e.1] at hpr
 have hb03 : ¬ b0.op = 3 := by obtain ⟨x, y, z, rfl⟩ := hbb; exact hb3
 have bset : wn zAc [(0, 1, .int .i64 1), (1, 1, iv b.dst), (9, 1, iv b.line), (10, 1, iv b.col)] = some (.agg ⟨qe (qF b [] (.slice none 0 0))⟩) := rfl
 have L8' := L7.row zAc
 obtain ⟨C, hC⟩ := qb8 (m7.n)
 obtain ⟨m8, hm8⟩ := qb8 (Dx.newRow m7 zAc)
 rw [← hm8, ← hC] at L8'
 obtain ⟨m9, f1, L9', n9⟩ := L8'.fill 0 rfl (n := 11) (l' := qe (qF b [] (.slice none 0 0))) rfl rfl (qM (m := m6) ⟨ku, ku, ku, by simp [qF], by simp [qF], by simp [qF]⟩)
 have L9 : LS m0 m9 [(C, qe (qF b [] (.slice none 0 0))), (B, qe b), (A, qe a), (O, rgR n fun j => .bool (gone j))] v cur := L9'
 have hrs : qe (qF b [] (.slice none 0 0)) = [.int .i64 1, iv b.dst, .int .i64 0, .int .i64 0, .slice none 0 0, .slice none 0 0, .slice none 0 0, .int .i64 0, .int .i64 0, iv b.line, iv b.col] := rfl
 have la9 : ∀ p s, load1 m9 ⟨A, p, s⟩ = (qe a)[p]? := fun p s => L9.get 2 rfl p s
 have lc9 : ∀ s, load1 m9 ⟨C, 5, s⟩ = some (.slice none 0 0) := fun s => L9.get 0 rfl 5 s
 simp only [qe] at la9
 rw [hrs] at f1 bset
 have hCl : C < m9.n := (L9.st.get 0 rfl).2.1
 have put : ∀ (w : Value) (es : List Nd) (m10 : M), Ext m9 m10 → Rd m10 w 4 qg es → es.length ≤ 9223372036854775807 → (∀ X, blk w = some X → m9.n ≤ X) → qN aim i (st, gone) = (st.set i1 (qF b0 es (.slice none 0 0)), gone) →
   ∃ D m11 m12, qH 1 (.pointer (some ⟨C, 5, none⟩)) w m10 = some (undef, m11) ∧ loads m11 ⟨C, 0, none⟩ 11 = some (qe (qF b es w)) ∧ adr 11 v i1 = ⟨D, i1 * 11, none⟩ ∧ qH 11 (.pointer (some ⟨D, i1 * 11, none⟩)) (.agg ⟨qe (qF b es w)⟩) m11 = some (undef, m12) ∧ PR m0 m12 O n v gone (st.set i1 (qF b0 es (.slice none 0 0))) (cur.set i1 (qF b es w)) := by
  intro w es m10 hE hw hes hlow hst
  have L10 := L9.step hE
  have okw : Dx.okC w = true := hw.okV
  obtain ⟨m11, x1, x2, x3, x4⟩ := L10.st.store 0 rfl (o := 5) (v := w) (by simp [qe]) okw
  obtain ⟨m11', x1', L11', n11⟩ := L10.store 0 rfl (o := 5) (w := w) (by simp [qe]) okw
  rw [x1] at x1'; cases x1'
  have L11 : LS m0 m11 [(C, qe (qF b es w)), (B, qe b), (A, qe a), (O, rgR n fun j => .bool (gone j))] v cur := L11'
  have l11 : loads m11 ⟨C, 0, none⟩ 11 = some (qe (qF b es w)) := (L11.st.get 0 rfl).2.2.loads (n := 11) (by simp [qe])
  have hw11 : Rd m11 w 4 qg es := hw.congr (by omega) fun X hX => x4 X (by have := hlow X hX; omega)
  have okY : AcOK m11 (qF b es w) := ⟨ku, hw11, ku, by simp [qF], hes, by simp [qF]⟩
  have hAl : A < m9.n := (L9.st.get 2 rfl).2.1
  have hBl : B < m9.n := (L9.st.get 1 rfl).2.1
  have hOl : O < m9.n := (L9.st.get 3 rfl).2.1
  have hvl : ∀ X, blk v = some X → X < m9.n := fun X hX => ((L9.ne (i := i) (by omega)).gr.low X hX).2
  have inY : ∀ X, zd (qF b es w) X → m9.n ≤ X := fun X hX => by
   rcases hX with hX | hX | hX
   ·cases hX
   ·exact hlow X hX
   ·cases hX
  obtain ⟨D, m12, ia, y1, y2, y3⟩ := L11.setAct (i := i1) (by omega) okY (fun X hX => by
   have := inY X hX
   refine ⟨fun e => by have := hvl X e; omega, fun p hp => ?_⟩
   simp at hp
   rcases hp with rfl | rfl | rfl | rfl
   ·show C ≠ X; omega
   ·show B ≠ X; omega
   ·show A ≠ X; omega
   ·show O ≠ X; omega) (fun X hX => by have := inY X hX; have := L9.st.ext.n; omega)
  rw [b1] at ia
  have had : adr 11 v i1 = ⟨D, i1 * 11, none⟩ := by simpa using ia
  refine ⟨D, m11, m12, x1, l11, had, y1, y2.tail.tail.tail, by simpa using h.len, ⟨by simp; exact h.leq.len, fun j c d hcj hdj => ?_⟩, fun c hc h3 => ?_, fun c hc h2 => ?_⟩
  ·by_cases hj : i1 = j
   ·subst hj
    rw [qaz (by omega)] at hcj
    rw [qaz (by have := h.leq.len; omega)] at hdj
    cases hcj; cases hdj
    obtain ⟨x, y, z, rfl⟩ := hbb
    exact ⟨.slice none 0 0, w, .slice none 0 0, rfl⟩
   ·rw [qb5 hj] at hcj hdj
    exact h.leq.get j c d hcj hdj
  ·rcases qas hc with hcc | rfl
   ·exact h.at3 c hcc h3
   ·simp [qF] at h3
  ·rcases qas hc with hcc | rfl
   ·exact h.at2 c hcc h2
   ·simp [qF] at h2
 rw [hb2] at lb7
 by_cases ha3 : a.op = 3
 ·have ha03 : a0.op = 3 ∧ a0.es = a.es := by obtain ⟨x, y, z, rfl⟩ := hab; exact ⟨ha3, rfl⟩
  have hst : qN aim i (st, gone) = (st.set i1 (qF b0 a.es (.slice none 0 0)), gone) := by
   rw [hpr]
   have : kv a0 b0 = some (qF b0 a.es (.slice none 0 0)) := by unfold kv; rw [if_neg hb03, if_pos ha03.1, ha03.2]
   rw [this]
  obtain ⟨hne, hle⟩ := h.at3 a ham ha3
  have hev := (L9.ac a ham).ev
  have ap := DH hev hne 32 (by unfold qW; omega) (by omega)
  obtain ⟨w, hw⟩ := qb8 (Value.slice (some ⟨m9.n, 0, some (code 4 false)⟩) a.es.length a.es.length)
  obtain ⟨m10, hm10⟩ := qb8 (Dx.newRow m9 (a.es.flatMap qg))
  rw [← hw, ← hm10] at ap
  obtain ⟨D, m11, m12, x1, x2, x3, x4, x5⟩ := put w a.es m10 (by rw [hm10]; exact Ext.row _ _) (by rw [hw]; exact kZ wy (by rw [hm10]; exact Arr.row _ _) (by rw [hm10, qm]; omega)) (L9.ac a ham).evl (fun X hX => by rw [hw] at hX; cases hX; exact qah _) hst
  rw [x3] at b1 b2'
  rw [ha3] at la9
  simp [t3, t6, t15, a1, a2', b1, b2', ni, qf, ← hm1, ← hA, s1, ← hm3, ← hB, u1, laN, c1, lbN, d1, la6, lb6, db, e1, la7, lb7, bset, ← hm8, ← hC, f1, la9, lc9, ap, x1, x2, x4]
  exact hk _ _ _ _ _ hst.symm x5 (by simp [t3]) (by simp [t6]) (by simp [t15])
 ·have ha2 : a.op = 2 := ha23.resolve_right ha3
  obtain ⟨d0, d9⟩ := h.at2 a ham ha2
  obtain ⟨z, hz⟩ : ∃ z : Nat, a.dst = z := ⟨a.dst.toNat, by omega⟩
  have ha03 : ¬ a0.op = 3 ∧ a0.dst = a.dst := by obtain ⟨x, y, z, rfl⟩ := hab; exact ⟨ha3, rfl⟩
  have hst : qN aim i (st, gone) = (st.set i1 (qF b0 [jO a.dst] (.slice none 0 0)), gone) := by
   rw [hpr]
   have : kv a0 b0 = some (qF b0 [jO a.dst] (.slice none 0 0)) := by unfold kv; rw [if_neg hb03, if_neg ha03.1, ha03.2]
   rw [this]
  have hcv : Ww .u64 (.int .i64 (z : Int)) = some (.int .u64 (z : Int)) := vZ z (by omega)
  have bnd : wn zNd [(0, 1, .int .i64 2), (1, 1, .int .u64 (z : Int))] = some (.agg ⟨[.int .i64 2, uv z, .int .i64 0, .int .i64 0]⟩) := rfl
  have bs := bS1 2 0 0 z m9
  obtain ⟨m10, hm10⟩ := qb8 (Dx.newRow m9 [.int .i64 2, uv z, .int .i64 0, .int .i64 0])
  rw [← hm10] at bs
  have hln : jO a.dst = ⟨2, ⟨z, by omega⟩, 0, 0⟩ := by rw [hz]; exact KX z (by omega)
  have rv : Rd m10 (.slice (some ⟨m9.n, 0, some 9⟩) 1 1) 4 qg [jO a.dst] := by
   rw [hln]
   exact kZ (e := 4) (f := qg) (l := [⟨2, ⟨z, by omega⟩, 0, 0⟩]) wy (by rw [hm10]; exact Arr.row _ _) (by rw [hm10, qm]; omega)
  obtain ⟨D, m11, m12, x1, x2, x3, x4, x5⟩ := put (.slice (some ⟨m9.n, 0, some 9⟩) 1 1) [jO a.dst] m10 (by rw [hm10]; exact Ext.row _ _) rv (by simp) (fun X hX => by cases hX; exact qah _) hst
  rw [x3] at b1 b2'
  rw [ha2, hz] at la9
  simp [t3, t6, t15, a1, a2', b1, b2', ni, qf, ← hm1, ← hA, s1, ← hm3, ← hB, u1, laN, c1, lbN, d1, la6, lb6, db, e1, la7, lb7, bset, ← hm8, ← hC, f1, la9, hcv, bnd, bs, x1, x2, x4]
  exact hk _ _ _ _ _ hst.symm x5 (by simp [t3]) (by simp [t6]) (by simp [t15])
end Go.Sx
namespace Go.Sx
open Go.Dx Go.Proofs
set_option maxRecDepth 10000
theorem Kg (aim : Nat → Bool) (acs : List Ac) : ∀ i j, i ≤ j → (prF aim acs i).2 j = false
 | 0, _, _ => rfl
 | i + 1, j, h => by
  have ih := Kg aim acs i j (by omega)
  show (qN aim i (prF aim acs i)).2 j = false
  unfold qN
  split
  ·split
   ·split
    ·show upN _ i true j = false
     rw [kV _ _ (by omega)]; exact ih
    ·split
     ·exact ih
     ·exact ih
   ·exact ih
  ·exact ih
theorem pairR {m0 m : M} {acs : List Ac} {v : Value} {O n : Nat} {t : Tm} (N : Nat) (hn : n = acs.length) (ha : AI acs) (h : LS m0 m [(O, rgR n fun _ => .bool false)] v acs)
  (t3 : Tm.get 3 t = v) (t6 : Tm.get 6 t = .slice (some ⟨O, 0, some 3⟩) n n) {kn kr : K} {ke : Nat → K} {Q : Option Out → Prop}
  (H : ∀ t' m' cur, LS m0 m' [(O, rgR n fun j => .bool ((prF (wN acs) acs (acs.length - 1)).2 j))] v cur → LEq cur (prF (wN acs) acs (acs.length - 1)).1 → Tm.get 3 t' = v → Tm.get 6 t' = .slice (some ⟨O, 0, some 3⟩) n n → Q (kn t' m')) : Q (ZP (ex Tryz.prog (N + 2)) kn ke kr t m) := by
 have hl := h.sz
 rw [← hn] at hl
 simp
 refine qq (c := Gv) rfl Q (fun i t m' => (i = 0 ∨ i + 1 ≤ n) ∧ (∃ cur, PR m0 m' O n v (prF (wN acs) acs i).2 (prF (wN acs) acs i).1 cur) ∧ Tm.get 3 t = v ∧ Tm.get 6 t = .slice (some ⟨O, 0, some 3⟩) n n ∧ Tm.get 15 t = iv i) n (by omega)
  ⟨.inl rfl, ⟨acs, h, hn.symm, LEq.refl _, fun a ham h3 => ⟨ha.ne a ham (.inr h3), ha.ln a ham⟩, ha.ds⟩, by simp [t3], by simp [t6], by simp⟩ (fun i t m' k hi hI hk => ?_)
 clear t3 t6 h
 obtain ⟨hin, ⟨cur, hP⟩, t3, t6, t15⟩ := hI
 have hll : qL v = some (.int .i64 (n : Int)) := by have := hP.ls.len; rwa [hP.len] at this
 obtain ⟨i1, hi1⟩ := qb8 (i + 1)
 have ni := wj (i := i) (by omega)
 by_cases hil : i + 1 < n
 ·rw [← hi1] at ni
  have hd : ((i1 : Int) < (n : Int)) = True := eq_true (by omega)
  have hd' : (i1 < n) = True := eq_true (by omega)
  simp [t3, t15, ni, hll, hd, hd', -Vg]
  refine pairR1 N hl hil hP (Xu _ _ _) (Kg _ _ _ _ (qah _)) (by simp [t3]) (by simp [t6]) (by simp [t15]) fun t2 m2 cur' gone' st' hst hP' u3 u6 u15 => ?_
  simp [u15, ni]
  rw [hi1]
  refine hk (by omega) _ _ ⟨.inr (by omega), ⟨cur', ?_⟩, by simp [u3], by simp [u6], by simp [hi1]⟩
  have e : prF (wN acs) acs (i + 1) = (st', gone') := hst.symm
  rw [e]; exact hP'
 ·rw [← hi1] at ni
  have hd : ((i1 : Int) < (n : Int)) = False := eq_false (by omega)
  have hd' : (i1 < n) = False := eq_false (by omega)
  have hie : i = acs.length - 1 := by omega
  simp [t3, t15, ni, hll, hd, hd']
  rw [hie] at hP
  exact H _ _ cur hP.ls hP.leq (by simp [t3]) (by simp [t6])
theorem LS.out {m0 m m' : M} {σ : List (Nat × List Value)} {v v' : Value} {acs : List Ac} {o : Nat → Bool} (h : LS m0 m σ v acs) (E : Ext m m') (ho : (v' = v ∧ wo o acs = acs) ∨ OutL m m' v' (wo o acs)) : LS m0 m' σ v' (wo o acs) := by
 rcases ho with ⟨rfl, e⟩ | ho
 ·rw [e]; exact h.step E
 have hst := h.st.step E
 have hlow : ∀ B, blk v' = some B → ∀ p ∈ σ, p.1 ≠ B := fun B hB p hp => by
  have h1 := ho.low B hB
  have h2 := (h.st.arr p hp).2.1
  omega
 refine ⟨hst, ho.len, fun hne => ⟨hst, (ho.gr hne).mono0 h.st.ext.n, hlow⟩, wo_ok fun a ha => (h.ac a ha).sees (h.st.sees.self.ext E), fun a ha X hX => ?_, qaq (yw _ _) h.sz, ho.rd, hlow, fun a ha X hX => ?_, fun B hB => qaq h.st.ext.n (ho.low B hB)⟩
 case refine_2 =>
  obtain ⟨b, hb, rfl⟩ := za ha
  obtain ⟨z, e⟩ := zh o b
  rw [e] at hX
  exact h.nw b hb X hX
 obtain ⟨b, hb, rfl⟩ := za ha
 obtain ⟨z, e⟩ := zh o b
 rw [e] at hX
 have hX' : zd b X := hX
 have := (h.ac b hb).lt hX'
 exact ⟨fun e => by have := ho.low X e; omega, (h.sep b hb X hX').2⟩
theorem mkB (n : Nat) (h : n ≤ 65536) (m : M) : zo 1 1 [.bool false] (.int .i64 (n : Int)) (.int .i64 (n : Int)) m = some (.slice (some ⟨m.n, 0, some 3⟩) n n, Dx.newRow m (rgR n fun _ => .bool false)) := by
 have mk := zm (n := n) (e := 1) (bytes := 1) (zs := [.bool false]) rfl (by omega) (by unfold qW; omega) (by omega) m
 rw [jk] at mk
 exact mk
theorem mkI (n : Nat) (h : n ≤ 65536) (m : M) : zo 1 8 [.int .i64 0] (.int .i64 (n : Int)) (.int .i64 (n : Int)) m = some (.slice (some ⟨m.n, 0, some 3⟩) n n, Dx.newRow m (rgR n fun _ => .int .i64 0)) := by
 have mk := zm (n := n) (e := 1) (bytes := 8) (zs := [.int .i64 0]) rfl (by omega) (by unfold qW; omega) (by omega) m
 rw [jk] at mk
 exact mk
def J0 (acs : List Ac) : Prop := ∀ a ∈ acs, (a.op = 9 ∨ a.op = 10) ∨ a.to = 0
theorem J0.leq {ps qs : List Ac} (h : J0 qs) (k : LEq ps qs) : J0 ps := fun a ha => by
 obtain ⟨j, hj⟩ := qb1 ha
 obtain ⟨w, hw⟩ := kL k.len hj
 obtain ⟨x, y, z, rfl⟩ := k.get j a w hj hw
 exact h w (qaf hw)
theorem J0.fo {acs : List Ac} (h : J0 acs) : J0 (acs.map wh) := fun a ha => by
 obtain ⟨b, hb, rfl⟩ := List.mem_map.1 ha
 exact h b hb
theorem J0.br {acs : List Ac} (h : J0 acs) : J0 (acs.map wT) := fun a ha => by
 obtain ⟨b, hb, rfl⟩ := List.mem_map.1 ha
 unfold wT
 split
 ·exact .inl (.inl rfl)
 ·exact h b hb
theorem J0.wo {acs : List Ac} (h : J0 acs) (o : Nat → Bool) : J0 (wo o acs) := fun a ha => by
 obtain ⟨b, hb, rfl⟩ := za ha
 unfold wV
 split
 ·rename_i hop; exact .inl hop
 ·exact h b hb
theorem J0.all {acs : List Ac} (h : J0 acs) (hto : ∀ a ∈ acs, (a.op = 9 ∨ a.op = 10) → 0 ≤ a.to ∧ a.to ≤ acs.length) : ∀ a ∈ acs, 0 ≤ a.to ∧ a.to ≤ acs.length := fun a ha => by
 rcases h a ha with e | e
 ·exact hto a ha e
 ·omega
theorem leq_to {ps qs : List Ac} (k : LEq ps qs) (hto : ∀ a ∈ qs, (a.op = 9 ∨ a.op = 10) → 0 ≤ a.to ∧ a.to ≤ qs.length) : ∀ a ∈ ps, (a.op = 9 ∨ a.op = 10) → 0 ≤ a.to ∧ a.to ≤ ps.length := fun a ha hop => by
 obtain ⟨j, hj⟩ := qb1 ha
 obtain ⟨w, hw⟩ := kL k.len hj
 obtain ⟨x, y, z, rfl⟩ := k.get j a w hj hw
 rw [k.len]
 exact hto w (qaf hw) hop
theorem KD (N : Nat) (hN : 131080 ≤ N) (was : List Ac) (sv : Value) (m : M) (hm : m.base ≤ m.n) (hrd : Rd m sv 11 qe was) (hac : ∀ a ∈ was, AcOK m a) (hai : AI was) (hx : ∀ a ∈ was, Ex24 a.ixs ∧ Ex24 a.es ∧ Ex24 a.fs) (hl : was.length ≤ 65536) (hj : J0 was) :
  Dx.Call (ex Tryz.prog (N + 4)) 32 [sv] m fun v m' => ∃ acs, Rd m' v 11 qe acs ∧ (∀ a ∈ acs, AcOK m' a) ∧ LEq acs (rdA was) ∧ acs.length ≤ 65536 ∧ (∀ a ∈ acs, ∀ X, zd a X → m.n ≤ X) ∧ ∀ B, blk v = some B → m.n ≤ B := by
 refine qp db6_ok (by simp) ?_
 obtain ⟨X, hX⟩ := qb8 (m.n)
 have st1 := (St.nil hm (Ext.refl m)).row []
 obtain ⟨m1, hm1⟩ := qb8 (Dx.newRow m [])
 have mk := YW m
 rw [← hm1, ← hX] at mk st1
 obtain ⟨v0, hv0⟩ := qb8 (made 11 X)
 rw [← hv0] at mk
 simp [mk, -Yl, -Qd, -fT, -vN, -xr, -jn, -zO]
 refine foldR (N + 3) (by omega) hrd hac hx hl st1 (by simp) (by simp [hv0]) fun t1 m2 v1 A1 L1 q1 e1 => ?_
 have ai1 : AI A1 := (hai.fo hx).leq q1
 have j1 : J0 A1 := hj.fo.leq q1
 have one1 := Dh q1 hx
 obtain ⟨n1, hn1⟩ := qb8 (A1.length)
 have hl1 : qL v1 = some (.int .i64 (n1 : Int)) := by rw [hn1]; exact L1.len
 have mk1 := mkB n1 (by rw [hn1]; exact L1.sz) m2
 have L2 := L1.row (rgR n1 fun _ => .bool false)
 obtain ⟨m3, hm3⟩ := qb8 (Dx.newRow m2 (rgR n1 fun _ => .bool false))
 rw [← hm3] at mk1 L2
 simp [e1, hl1, mk1, -Qd, -fT, -vN, -xr, -jn, -zO]
 refine Dt hn1 L2 (fun a ha hop => ai1.ne a ha (.inl hop)) one1 (by simp [e1]) (by simp) fun t2 m4 L3 e3 e6 => ?_
 have ai2 : AI (A1.map wT) := ai1.br
 obtain ⟨v2, m5, c1, c2, c3⟩ := Xb (A1.map wT) v1 m2.n n1 (zV (A1.map wT)) (by simp [hn1]) L3.sz ai2.to N m4 L3.mb (fun _ => L3.rd0) L3.ac (L3.st.get 0 rfl).2.1 (fun p u => L3.get 0 rfl p u)
 have L4 := (L3.out c2 c3).tail
 have hA3 : wo (zV (A1.map wT)) (A1.map wT) = brs A1 := rfl
 rw [hA3] at L4
 obtain ⟨A3, hA3⟩ := qb8 (brs A1)
 have ai3 : AI A3 := by rw [hA3]; exact ai2.wo _
 have j3 : J0 A3 := by rw [hA3]; exact j1.br.wo _
 have q3 : LEq A3 (brs (was.map wh)) := by rw [hA3]; exact QX q1
 rw [← hA3] at L4
 obtain ⟨n3, hn3⟩ := qb8 (A3.length)
 have hl3 : qL v2 = some (.int .i64 (n3 : Int)) := by rw [hn3]; exact L4.len
 have mk3 := mkI n3 (by rw [hn3]; exact L4.sz) m5
 have L5 := L4.row (rgR n3 fun _ => .int .i64 0)
 obtain ⟨m6, hm6⟩ := qb8 (Dx.newRow m5 (rgR n3 fun _ => .int .i64 0))
 rw [← hm6] at mk3 L5
 have to3 := j3.all ai3.to
 simp [e3, e6, c1, hl3, mk3, -fT, -vN, -xr, -jn, -zO]
 refine toR (N + 2) hn3 L5 to3 (by simp) (by simp) fun t3 m7 L6 f3 f9 => ?_
 simp [-vN, -xr, -jn, -zO]
 refine aimR (N + 2) hn3 L6 to3 f3 f9 fun t4 m8 L7' f3 => ?_
 have L7 := L7'.tail
 obtain ⟨A4, hA4⟩ := qb8 (chn A3)
 have ai4 : AI A4 := by rw [hA4]; exact ai3.ch
 have q4 : LEq A4 (chn (brs (was.map wh))) := by rw [hA4]; exact Wf q3
 rw [← hA4] at L7
 have hn4 : n3 = A4.length := by rw [hn3, hA4]; simp [chn]
 have hl4 : qL v2 = some (.int .i64 (n3 : Int)) := hl3
 obtain ⟨v3, m9, d1, d2, rfl, d3, d4⟩ := Yc A4 v2 L7.sz ai4.to (N + 1) m8 L7.mb L7.len (fun _ => L7.rd0)
 rw [← hn4] at d1 d4
 have L8 := L7.step d2
 have hQ : ∀ B, m8.n ≤ B → (∀ p ∈ ([] : List (Nat × List Value)), p.1 ≠ B) := fun B _ p hp => by cases hp
 have L9 : LS m m9 [(m8.n, rgR (n3 + 1) fun j => .bool (rnd A4 (n3 + 1) j))] v2 A4 := by
  have stq : St m m9 [(m8.n, rgR (n3 + 1) fun j => .bool (rnd A4 (n3 + 1) j))] := ⟨L8.st.ext, L8.st.base, fun p hp => by rw [qal.1 hp]; exact ⟨L7.st.ext.n, d3, d4⟩, by simp⟩
  have hv : ∀ B, blk v2 = some B → B < m8.n := L7.rd0.lt
  refine ⟨stq, L8.len, fun hne => ⟨stq, (L8.ge hne).gr, fun B hB p hp => ?_⟩, L8.ac, fun a ha Z hZ => ⟨(L8.sep a ha Z hZ).1, fun p hp => ?_⟩, L8.sz, L8.rd0, fun B hB p hp => ?_, L8.nw, L8.vn⟩
  ·rw [qal.1 hp]; have := hv B hB; show m8.n ≠ B; omega
  ·rw [qal.1 hp]; have := (L7.ac a ha).lt hZ; show m8.n ≠ Z; omega
  ·rw [qal.1 hp]; have := hv B hB; show m8.n ≠ B; omega
 have mk4 := mkB n3 (by rw [hn4]; exact L9.sz) m9
 have L10 := L9.row (rgR n3 fun _ => .bool false)
 obtain ⟨m10, hm10⟩ := qb8 (Dx.newRow m9 (rgR n3 fun _ => .bool false))
 rw [← hm10] at mk4 L10
 obtain ⟨W, hW⟩ := qb8 (m8.n)
 rw [← hW] at L10 d1
 obtain ⟨n5, hn5⟩ := qb8 (n3 + 1)
 have d1' : (ex Tryz.prog (N + 3)).f 58 [v2] m8 = some (.slice (some ⟨W, 0, some 3⟩) n5 n5, m9) := by rw [hn5]; exact d1
 simp [f3, d1', hl4, mk4, -xr, -jn, -zO]
 refine notR hn4 L10 (by simp [f3]) (by simp) (by simp [hn5]) fun t5 m11 L11 g3 g6 => ?_
 have hun : (fun j => !rnd A4 (n3 + 1) j) = dR A4 := by
  funext j; rw [hn4]; exact Ff ai4.to j
 obtain ⟨v4, m12, i1, i2, i3⟩ := Xb A4 v2 m9.n n3 (fun j => !rnd A4 (n3 + 1) j) hn4 L11.sz ai4.to N m11 L11.mb (fun _ => L11.rd0) L11.ac (L11.st.get 0 rfl).2.1 (fun p u => L11.get 0 rfl p u)
 have L12 := ((L11.out i2 i3).tail).tail
 rw [hun] at L12
 obtain ⟨A5, hA5⟩ := qb8 (rea A4)
 have L12' : LS m m12 [] v4 A5 := by rw [hA5]; exact L12
 have ai5 : AI A5 := by rw [hA5]; exact ai4.wo _
 have q5 : LEq A5 (rea (chn (brs (was.map wh)))) := by rw [hA5]; exact WU q4
 obtain ⟨n6, hn6⟩ := qb8 (A5.length)
 have hl5 : qL v4 = some (.int .i64 (n6 : Int)) := by rw [hn6]; exact L12'.len
 have mk5 := mkB n6 (by rw [hn6]; exact L12'.sz) m12
 have L13 := L12'.row (rgR n6 fun _ => .bool false)
 obtain ⟨m13, hm13⟩ := qb8 (Dx.newRow m12 (rgR n6 fun _ => .bool false))
 rw [← hm13] at mk5 L13
 simp [g3, g6, i1, hl5, mk5, -jn, -zO]
 refine nextR hn6 L13 (by simp) (by simp) fun t6 m14 L14 h3 h6 => ?_
 obtain ⟨v5, m15, k1, k2, k3⟩ := Xb A5 v4 m12.n n6 (zD A5) hn6 L14.sz ai5.to N m14 L14.mb (fun _ => L14.rd0) L14.ac (L14.st.get 0 rfl).2.1 (fun p u => L14.get 0 rfl p u)
 have L15 := (L14.out k2 k3).tail
 obtain ⟨A6, hA6⟩ := qb8 (vG A5)
 have L15' : LS m m15 [] v5 A6 := by rw [hA6]; exact L15
 have ai6 : AI A6 := by rw [hA6]; exact ai5.wo _
 have q6 : LEq A6 (vG (rea (chn (brs (was.map wh))))) := by rw [hA6]; exact dB q5
 obtain ⟨n7, hn7⟩ := qb8 (A6.length)
 have hl6 : qL v5 = some (.int .i64 (n7 : Int)) := by rw [hn7]; exact L15'.len
 have mk6 := mkB n7 (by rw [hn7]; exact L15'.sz) m15
 have L16 := L15'.row (rgR n7 fun _ => .bool false)
 obtain ⟨m16, hm16⟩ := qb8 (Dx.newRow m15 (rgR n7 fun _ => .bool false))
 rw [← hm16] at mk6 L16
 simp [h3, h6, k1, hl6, mk6, -zO]
 refine pairR (N + 1) hn7 ai6 L16 (by simp) (by simp) fun t7 m17 cur L17 ql r3 r6 => ?_
 have hto7 := leq_to ql (fun a ha hop => by
  rw [vQ]
  exact Bf ai6.to _ a ha hop)
 have hcl : n7 = cur.length := by rw [ql.len, vQ, hn7]
 obtain ⟨v6, m18, o1, o2, o3⟩ := Xb cur v5 m15.n n7 (prF (wN A6) A6 (A6.length - 1)).2 hcl L17.sz hto7 N m17 L17.mb (fun _ => L17.rd0) L17.ac (L17.st.get 0 rfl).2.1 (fun p u => L17.get 0 rfl p u)
 have L18 := (L17.out o2 o3).tail
 simp [r3, r6, o1]
 refine qh L18.st.ext ⟨_, by simpa using L18.rd0, L18.ac, ?_, L18.sz, L18.nw, by simpa using L18.vn⟩
 have e1 : LEq (wo (prF (wN A6) A6 (A6.length - 1)).2 cur) (prs A6) := fR _ ql
 exact e1.trans (QZ q6)
end Go.Sx
namespace Go.Sx
open Go.Dx Go.Proofs
set_option maxRecDepth 10000
theorem WH.j0 {cells : Int} {k : Nat} {acs : List Ac} (h : WH cells k acs) : J0 acs := fun a ha => (h.qa a ha).to
structure RJ (m : M) (p : Pg) (T4 i : Nat) (m' : M) (rows : List Th) (gv : Value) : Prop where
 ge : GE m m' [(T4, [iv p.cells, gv]), (m.n + 1, zTh), (m.n, [iv p.cells, p.tv])] gv 2 qE rows
 len : rows.length = i
 ok : ∀ u ∈ rows, ThOK m' u
 sep : ∀ u ∈ rows, ∀ X, KL u X → T4 < X ∧ blk gv ≠ some X
 ths : ∀ (j : Nat) u w, rows[j]? = some u → p.ths[j]? = some w → ThR u w
theorem yv (N : Nat) (hN : 131080 ≤ N) (m : M) (hm : m.base ≤ m.n) (p : Pg) (hp : PgOK m p) :
  Dx.Call (ex Tryz.prog (N + 5)) 12 [pgV p] m fun v m' => (pgB p = false ∧ v = .tuple #[pgV jG, iv 1]) ∨ (pgB p = true ∧ ∃ q : Pg, v = .tuple #[pgV q, iv 0] ∧ RdQ m p q m') := by
 refine qp da3_ok (by simp) ?_
 obtain ⟨m1, hm1⟩ := qb8 (Dx.newRow m [iv p.cells, p.tv])
 obtain ⟨m2, hm2⟩ := qb8 (Dx.newRow m1 zTh)
 have n1 : m1.n = m.n + 1 := by rw [hm1, qm]
 have n2 : m2.n = m.n + 2 := by rw [hm2, qm, n1]
 have st1 := (St.nil hm (Ext.refl m)).row [iv p.cells, p.tv]
 rw [← hm1] at st1
 have st2 := st1.row zTh
 rw [← hm2, n1] at st2
 have bx : yA (pgV p) m = some (.pointer (some ⟨m.n, 0, none⟩), m1) := by rw [hm1]; rfl
 have l2 : loads m2 ⟨m.n, 0, none⟩ 2 = some [iv p.cells, p.tv] := (st2.get 1 rfl).2.2.loads (by simp)
 have p2 := hp.sees st2.sees
 obtain ⟨v3, m3, c1, c2, rfl⟩ := Jx p N m2 st2.sees.self.base p2
 have st3 := st2.step c2
 have n3 := c2.n
 have pv : (.agg ⟨[iv p.cells, p.tv]⟩ : Value) = pgV p := rfl
 cases hB : pgB p with
 | false =>
  rw [hB] at c1
  obtain ⟨m4, s1, s2, s3, s4⟩ := st3.fill 0 rfl (n := 2) (l' := zTh) rfl rfl (by simp; exact ⟨rfl, rfl⟩)
  have l4 : loads m4 ⟨m.n + 1, 0, none⟩ 2 = some zTh := (s2.get 0 rfl).2.2.loads (by simp)
  have bz : wn zTh [] = some (.agg ⟨zTh⟩) := rfl
  simp [bx, ← hm2, n1, l2, qf, pv, c1, bz, s1]
  exact WF (a := ⟨m.n + 1, 0, none⟩) (l := zTh) (by simp) l4 s2.ext (by simp; rfl)
 | true =>
 rw [hB] at c1
 obtain ⟨hw, htx, hlen⟩ := (PgK.zero p).whole hB
 have hthj : ∀ t ∈ p.ths, J0 t.acts := fun t ht => (((jV.1 hB).2.2 t ht).2).j0
 obtain ⟨n, hn⟩ := qb8 (p.ths.length)
 have htl : qL p.tv = some (.int .i64 (n : Int)) := by rw [hn]; exact hp.tv.len
 obtain ⟨T4, hT4⟩ := qb8 (m3.n)
 have g3 : GE m m3 [(m.n + 1, zTh), (m.n, [iv p.cells, p.tv])] (.slice none 0 0) 2 qE ([] : List Th) := GE.nil st3
 have g4 := g3.row zTh
 obtain ⟨m4, hm4⟩ := qb8 (Dx.newRow m3 zTh)
 rw [← hm4, ← hT4] at g4
 obtain ⟨m5, s1, g5, s3, s4⟩ := g4.fill 0 rfl (n := 2) (l' := [iv p.cells, .slice none 0 0]) rfl rfl (by simp; exact ⟨rfl, rfl⟩)
 have g5 : GE m m5 [(T4, [iv p.cells, .slice none 0 0]), (m.n + 1, zTh), (m.n, [iv p.cells, p.tv])] (.slice none 0 0) 2 qE ([] : List Th) := g5
 have l3 : ∀ o s, load1 m3 ⟨m.n, o, s⟩ = [iv p.cells, p.tv][o]? := fun o s => (st3.get 1 rfl).2.2.load1 o s
 have bd : wn zTh [(0, 1, iv p.cells)] = some (.agg ⟨[iv p.cells, .slice none 0 0]⟩) := rfl
 simp [bx, ← hm2, n1, l2, qf, pv, c1, l3, bd, ← hm4, ← hT4, s1]
 refine qq (c := ca3_9) rfl (Ret m _) (fun i t m' => Tm.get 1 t = .pointer (some ⟨m.n, 0, none⟩) ∧ Tm.get 2 t = .pointer (some ⟨m.n + 1, 0, none⟩) ∧ Tm.get 4 t = .pointer (some ⟨T4, 0, none⟩) ∧ Tm.get 5 t = iv i ∧ ∃ rows gv, RJ m p T4 i m' rows gv) n (by omega) ?_ (fun i t m' k hi hI hk => ?_)
 ·exact ⟨by simp, by simp, by simp, by simp, [], .slice none 0 0, g5, rfl, (fun u hu => by cases hu), (fun u hu => by cases hu), fun j u w hj => by simp at hj⟩
 clear g5 s1 s3 s4 g4
 obtain ⟨t1, t2, t4, t5, rows, gv, hI⟩ := hI
 have lp : ∀ o s, load1 m' ⟨m.n, o, s⟩ = [iv p.cells, p.tv][o]? := fun o s => (hI.ge.st.get 2 rfl).2.2.load1 o s
 by_cases hin : i < n
 ·have hd := dlt hin
  have hd' : (i < n) = True := eq_true hin
  have ni := wj (i := i) (by omega)
  obtain ⟨th, hth⟩ : ∃ r, p.ths[i]? = some r := ⟨_, qae (by omega)⟩
  have hthm := qaf hth
  have htx := htx th hthm
  have hto := hp.ths th hthm
  obtain ⟨a1, _, a3⟩ := hp.tv.at hth
  have S := hI.ge.st.sees
  have hmb : m'.base ≤ m'.n := S.self.base
  have l0 : ∀ s, load1 m' ⟨(adr 2 p.tv i).block, (adr 2 p.tv i).off, s⟩ = some (iv th.loc) := fun s => a3 m' 0 s S (by simp [qE])
  have la : ∀ s, load1 m' ⟨(adr 2 p.tv i).block, (adr 2 p.tv i).off + 1, s⟩ = some th.av := fun s => a3 m' 1 s S (by simp [qE])
  have lg : ∀ s, load1 m' ⟨T4, 1, s⟩ = some gv := fun s => (hI.ge.st.get 0 rfl).2.2.load1 1 s
  have Sx : Sees m (qn m') := ⟨by rw [qx]; exact S.n, fun B hB => by rw [qw]; exact S.obj B hB, by rw [qx, ki]; exact qah _⟩
  obtain ⟨sv, q1, d1, d2, d3, acs, d4, d5, d6, d7, d8, d9⟩ := xJ (KD N hN th.acts th.av (qn m') (by rw [qx, ki]; exact qah _) (hto.av.sees Sx) (fun a ha => (hto.acts a ha).sees Sx) htx.ai htx.ex htx.len (hthj th hthm))
  rw [qx] at d8 d9
  obtain ⟨m10, hm10⟩ := qb8 (Dx.behind m' q1)
  have q10n : q1.n = m10.n := by rw [hm10, wu]
  have q10o : ∀ B, m10.obj B = q1.obj B := fun B => by rw [hm10]; exact qB _ _ _
  rw [← hm10] at d3
  have hn10 := d3.n
  have d4' : Rd m10 sv 11 qe acs := d4.congr (by omega) fun B _ => q10o B
  have d5' : ∀ a ∈ acs, AcOK m10 a := fun a ha => (d5 a ha).congr (by omega) fun X _ => q10o X
  have g10 := hI.ge.step d3
  obtain ⟨u, hu⟩ : ∃ u : Th, u = ⟨th.loc, sv, acs⟩ := ⟨_, rfl⟩
  have hur : qE u = [iv th.loc, sv] := by rw [hu]; rfl
  obtain ⟨M1, hM1⟩ := qb8 (Dx.newRow m10 [iv th.loc, sv])
  have E1 : Ext m10 M1 := by rw [hM1]; exact Ext.row _ _
  have nM : M1.n = m10.n + 1 := by rw [hM1, qm]
  have uok : ThOK m10 u := by
   rw [hu]; exact ⟨d4', d5', by simp only; omega⟩
  have hok : ∀ y ∈ rows ++ [u], ∀ v ∈ qE y, Dx.okC v = true := fun y hy => by
   rcases qb6.1 hy with hy | hy
   ·exact yZ (hI.ok y hy)
   ·rw [qal.1 hy]; exact yZ uok
  obtain ⟨v', m11', p1, p2, p3, p4, p5, p6⟩ := g10.pushAny (by omega) vK (x := u) hok E1 (X := m10.n) (sp := some 5) (by rw [hM1, hur]; exact (Arr.row m10 _).loads (by simp)) (bytes := 32) (by unfold qW; have := hI.len; omega) (by have := hI.len; omega)
  obtain ⟨m11, hm11⟩ := qb8 (Dx.behind M1 m11')
  rw [← hm11] at p3 p4 p5
  obtain ⟨m12', r1, r2, r3, r4, r5⟩ := p3.st.storeAny 0 rfl (o := 1) (v := v') (by simp) p3.gr.okC
  obtain ⟨m12, hm12⟩ := qb8 (Dx.behind m11 m12')
  rw [← hm12] at r3 r4 r5
  have g12 := p3.put (k := 0) rfl r3 r4 r5
  have bz := Bn m10 (iv th.loc) sv
  rw [← hM1] at bz
  have bt := Zn d4'.len th.loc
  simp [t1, t2, t4, t5, lp, htl, hd, hd', lg, a1, l0, la, d1, d2, ← hm10, bt, bz, p1, ← hm11, r1, ← hm12, ni]
  have glow := hI.ge.gr.low
  have T4l : T4 < m'.n := (hI.ge.st.get 0 rfl).2.1
  have thn : ∀ X, KL u X → m'.n ≤ X ∧ X < m10.n := fun X hX => by
   have hlt := uok.lt hX
   rw [hu] at hX
   rcases hX with hX | ⟨a, ha, hX⟩
   ·exact ⟨d9 X hX, hlt⟩
   ·exact ⟨d8 a ha X hX, hlt⟩
  have keep12 : ∀ X, T4 ≠ X → X < m10.n → blk gv ≠ some X → m12.obj X = m10.obj X := fun X h1 h2 h3 => by
   rw [r5 X (by omega), p5 X h2 h3]
  refine hk hin _ _ ⟨by simp [t1], by simp [t2], by simp [t4], by simp, rows ++ [u], v', g12, by simp [hI.len], fun w hw => ?_, fun w hw X hX => ?_, fun j w x hj hjx => ?_⟩
  ·rcases qb6.1 hw with hw | hw
   ·refine (hI.ok w hw).congr (by omega) fun X hX => ?_
    have h1 := hI.sep w hw X hX
    have h2 := (hI.ok w hw).lt hX
    rw [keep12 X (by omega) (by omega) h1.2, d3.obj X h2]
   ·rw [qal.1 hw]
    refine uok.congr (by omega) fun X hX => ?_
    have h1 := thn X hX
    exact keep12 X (by omega) h1.2 fun e => by have := (glow X e).2; omega
  ·rcases qb6.1 hw with hw | hw
   ·have h1 := hI.sep w hw X hX
    have h2 := (hI.ok w hw).lt hX
    refine ⟨h1.1, fun e => ?_⟩
    rcases p6 X e with e | e
    ·exact h1.2 e
    ·omega
   ·rw [qal.1 hw] at hX
    have h1 := thn X hX
    refine ⟨by omega, fun e => ?_⟩
    rcases p6 X e with e | e
    ·have := (glow X e).2; omega
    ·omega
  ·by_cases hji : j < i
   ·rw [qau (by have := hI.len; omega)] at hj
    exact hI.ths j w x hj hjx
   ·have hjl := (qag.1 hj).1
    have hl := hI.len
    rw [qao, List.length_singleton] at hjl
    obtain rfl : j = i := by omega
    rw [qav (by omega), hl, Nat.sub_self] at hj
    rw [hth] at hjx
    cases hj
    cases hjx
    rw [hu]
    exact ⟨rfl, d6⟩
 ·obtain rfl : i = n := by omega
  have hd : ((i : Int) < (i : Int)) = False := eq_false (by omega)
  have l4 : loads m' ⟨T4, 0, none⟩ 2 = some [iv p.cells, gv] := (hI.ge.st.get 0 rfl).2.2.loads (by simp)
  obtain ⟨m6, s1, s2, s3, s4⟩ := hI.ge.st.fill 1 rfl (n := 2) (l' := [iv p.cells, gv]) rfl rfl (by simp; exact ⟨rfl, hI.ge.gr.okC⟩)
  have l6 : loads m6 ⟨m.n + 1, 0, none⟩ 2 = some [iv p.cells, gv] := (s2.get 1 rfl).2.2.loads (by simp)
  simp [t1, t2, t4, t5, lp, htl, hd, l4, qf, s1]
  have hsep1 : ∀ X, blk gv = some X → X ≠ m.n + 1 := fun X hX e => hI.ge.sep X hX (m.n + 1, zTh) (by simp) e.symm
  have T4l : m.n + 2 ≤ T4 := by omega
  refine WF (a := ⟨m.n + 1, 0, none⟩) (l := [iv p.cells, gv]) (by simp [t2]) l6 s2.ext ⟨⟨p.cells, gv, rows⟩, by simp; rfl, ⟨(hI.ge.gr.rd vK).congr (by omega) fun B hB => s4 B (hsep1 B hB), fun u hu => (hI.ok u hu).congr (by omega) fun X hX => s4 X (by have := (hI.sep u hu X hX).1; omega), by have := hI.len; simp only; omega⟩, ⟨rfl, by show rows.length = _; rw [hI.len, hn], hI.ths⟩, fun X hX => ?_⟩
  rcases hX with hX | ⟨u, hu, hX⟩
  ·exact (hI.ge.gr.low X hX).1
  ·have := (hI.sep u hu X hX).1; omega
end Go.Sx
namespace Go.Sx
open Go.Dx Go.Proofs
set_option maxRecDepth 10000
theorem PgK.eq {p q r : Pg} {i : Nat} (hp : pgB p = true) (h : PgK p i q) (k : PgK p (i + 1) r) : PgEq q r ↔ Stop p i := by
 constructor
 ·intro e
  refine (h.al k).1 ⟨e.len, fun j u w hu hw => ?_⟩
  obtain ⟨y, hy, e1⟩ := e.ths j w hw
  rw [hu] at hy; cases hy
  have hl : LEq u.acts w.acts := ⟨e1.len, fun j a b ha hb => by
   obtain ⟨y, hy, e2⟩ := e1.acts j b hb
   rw [ha] at hy; cases hy; exact e2⟩
  exact (LEq.al hl (LEq.refl _)).2 (AlL.refl _)
 ·intro hs
  have hf := hs.fix hp
  refine ⟨h.cells.trans k.cells.symm, h.len.trans k.len.symm, fun j x hx => ?_⟩
  obtain ⟨y, hy⟩ := kL (k.len.trans h.len.symm) hx
  obtain ⟨w, hw⟩ := kL k.len hx
  obtain ⟨k1, k2⟩ := k.ths j x w hx hw
  obtain ⟨h1, h2⟩ := h.ths j y w hy hw
  rw [hf w (qaf hw)] at k2
  exact ⟨y, hy, LEq.theq (h1.trans k1.symm) (h2.trans k2.symm)⟩
theorem FN (N : Nat) (hN : 131080 ≤ N) (m : M) (hm : m.base ≤ m.n) (p : Pg) (hp : PgOK m p) :
  Dx.Call (ex Tryz.prog (N + 6)) 13 [pgV p] m fun v m' => (pgB p = false ∧ v = .tuple #[pgV jG, iv 0, iv 1]) ∨ (pgB p = true ∧ ∃ (n : Nat) (q : Pg), v = .tuple #[pgV q, iv n, iv 0] ∧ OpQ m p n q m') := by
 refine qp da4_ok (by simp) ?_
 obtain ⟨m1, hm1⟩ := qb8 (Dx.newRow m [iv p.cells, p.tv])
 obtain ⟨m2, hm2⟩ := qb8 (Dx.newRow m1 zTh)
 have n1 : m1.n = m.n + 1 := by rw [hm1, qm]
 have n2 : m2.n = m.n + 2 := by rw [hm2, qm, n1]
 have st1 := (St.nil hm (Ext.refl m)).row [iv p.cells, p.tv]
 rw [← hm1] at st1
 have st2 := st1.row zTh
 rw [← hm2, n1] at st2
 have bx : yA (pgV p) m = some (.pointer (some ⟨m.n, 0, none⟩), m1) := by rw [hm1]; rfl
 have l2 : loads m2 ⟨m.n, 0, none⟩ 2 = some [iv p.cells, p.tv] := (st2.get 1 rfl).2.2.loads (by simp)
 have p2 := hp.sees st2.sees
 have pv : ∀ q : Pg, (.agg ⟨[iv q.cells, q.tv]⟩ : Value) = pgV q := fun q => rfl
 obtain ⟨v3, m3, c1, c2, c3⟩ := yv N hN m2 st2.sees.self.base p p2
 have st3 := st2.step c2
 obtain ⟨B5, hB5⟩ := qb8 (m3.n)
 have n3 := c2.n
 have st4 := st3.row zTh
 obtain ⟨m4, hm4⟩ := qb8 (Dx.newRow m3 zTh)
 rw [← hm4, ← hB5] at st4
 have e4 : Ext m3 m4 := by rw [hm4]; exact Ext.row _ _
 have n4 : m4.n = B5 + 1 := by rw [hm4, qm, hB5]
 rcases c3 with ⟨hB, rfl⟩ | ⟨hB, q, rfl, c3⟩
 ·obtain ⟨m5, s1, s2, s3, s4⟩ := st4.fill 0 rfl (n := 2) (l' := zTh) rfl rfl (by simp; exact ⟨rfl, rfl⟩)
  have st5 : St m m5 [(B5, zTh), (m.n + 1, zTh), (m.n, [iv p.cells, p.tv])] := s2
  have l5 : loads m5 ⟨B5, 0, none⟩ 2 = some zTh := (st5.get 0 rfl).2.2.loads (by simp)
  obtain ⟨m6, r1, r2, r3, r4⟩ := st5.fill 1 rfl (n := 2) (l' := zTh) rfl rfl (by simp; exact ⟨rfl, rfl⟩)
  have l6 : loads m6 ⟨m.n + 1, 0, none⟩ 2 = some zTh := (r2.get 1 rfl).2.2.loads (by simp)
  have s1' : qH 2 (.pointer (some ⟨B5, 0, none⟩)) (pgV jG) m4 = some (undef, m5) := s1
  simp [bx, ← hm2, n1, l2, qf, pv, c1, ← hm4, ← hB5, s1', l5, r1]
  exact bg (a := ⟨m.n + 1, 0, none⟩) (l := zTh) (by simp) l6 r2.ext (.inl ⟨hB, by simp; rfl⟩)
 ·obtain ⟨m5, s1, s2, s3, s4⟩ := st4.fill 0 rfl (n := 2) (l' := [iv q.cells, q.tv]) rfl rfl (jF c3.ok)
  have st5 : St m m5 [(B5, [iv q.cells, q.tv]), (m.n + 1, zTh), (m.n, [iv p.cells, p.tv])] := s2
  have s1' : qH 2 (.pointer (some ⟨B5, 0, none⟩)) (pgV q) m4 = some (undef, m5) := s1
  have hlen := PH_le hB 1
  have q5 : PgOK m5 q := (c3.ok.congr e4.n fun X hX => e4.obj X (c3.ok.lt hX)).congr (by omega) fun X hX => s4 X (by have := c3.ok.lt hX; omega)
  have h0 : OI m p B5 0 m5 p q := ⟨st5, by omega, hp.sees st5.sees, q5, PgK.zero p, (PgK.zero p).next c3.r, fun X hX => by have := hp.lt hX; omega, fun X hX => ⟨by have := c3.new X hX; omega, by have := c3.ok.lt hX; omega⟩, fun j hj => absurd hj (qb7 _), .inl rfl⟩
  simp [bx, ← hm2, n1, l2, qf, pv, c1, ← hm4, ← hB5, s1']
  refine qq (c := Bt) rfl (Ret m _) (fun i t m' => Tm.get 1 t = .pointer (some ⟨m.n, 0, none⟩) ∧ Tm.get 2 t = .pointer (some ⟨m.n + 1, 0, none⟩) ∧ Tm.get 5 t = .pointer (some ⟨B5, 0, none⟩) ∧ Tm.get 7 t = iv i ∧ ∃ a q, OI m p B5 i m' a q) (2 + PH p 1) (by omega) ?_ (fun i t m' k hi hI hk => ?_)
  ·exact ⟨by simp, by simp, by simp, by simp, p, q, h0⟩
  clear h0 q5 s1' st5 s2 s1 c3 c1 q
  obtain ⟨t1, t2, t5, t7, a, q, hI⟩ := hI
  have la : loads m' ⟨m.n, 0, none⟩ 2 = some [iv a.cells, a.tv] := (hI.st.get 2 rfl).2.2.loads (by simp)
  have lq : loads m' ⟨B5, 0, none⟩ 2 = some [iv q.cells, q.tv] := (hI.st.get 0 rfl).2.2.loads (by simp)
  obtain ⟨v6, m6, d1, d2, rfl⟩ := WI a q (N + 3) m' hI.st.sees.self.base hI.pa hI.pq
  have st6 := hI.st.step d2
  have lq6 : loads m6 ⟨B5, 0, none⟩ 2 = some [iv q.cells, q.tv] := (st6.get 0 rfl).2.2.loads (by simp)
  have q6 : PgOK m6 q := hI.pq.congr d2.n fun X hX => d2.obj X (hI.pq.lt hX)
  by_cases hs : Stop p i
  ·rw [yY ((hI.ka.eq hB hI.kq).2 hs)] at d1
   obtain ⟨m7, r1, r2, r3, r4⟩ := st6.fill 1 rfl (n := 2) (l' := [iv q.cells, q.tv]) rfl rfl (jF q6)
   have l7 : loads m7 ⟨m.n + 1, 0, none⟩ 2 = some [iv q.cells, q.tv] := (r2.get 1 rfl).2.2.loads (by simp)
   have r1' : qH 2 (.pointer (some ⟨m.n + 1, 0, none⟩)) (pgV q) m6 = some (undef, m7) := r1
   simp [t1, t2, t5, t7, la, lq, qf, pv, d1, lq6, r1']
   refine bg (a := ⟨m.n + 1, 0, none⟩) (l := [iv q.cells, q.tv]) (by simp [t2]) l7 r2.ext (.inr ⟨hB, i, q, by simp; rfl, ?_, hI.kq, hs, hI.first, fun X hX => by have := (hI.nq X hX).1; omega⟩)
   exact q6.congr (by omega) fun X hX => r4 X (by have := (hI.nq X hX).1; omega)
  ·rw [vJ fun h => hs ((hI.ka.eq hB hI.kq).1 h)] at d1
   obtain ⟨m7, g1, g2, g3, g4⟩ := st6.fill 2 rfl (n := 2) (l' := [iv q.cells, q.tv]) rfl rfl (jF q6)
   have st7 : St m m7 [(B5, [iv q.cells, q.tv]), (m.n + 1, zTh), (m.n, [iv q.cells, q.tv])] := g2
   have q7 : PgOK m7 q := q6.congr (by omega) fun X hX => g4 X (by have := (hI.nq X hX).1; omega)
   have la7 : loads m7 ⟨m.n, 0, none⟩ 2 = some [iv q.cells, q.tv] := (st7.get 2 rfl).2.2.loads (by simp)
   obtain ⟨hw, _, _⟩ := hI.kq.whole hB
   obtain ⟨v8, m8, f1, f2, f3⟩ := yv N hN m7 st7.sees.self.base q q7
   rcases f3 with ⟨hw', _⟩ | ⟨_, r, rfl, f4⟩
   ·rw [hw] at hw'; cases hw'
   have st8 := st7.step f2
   obtain ⟨m9, j1, j2, j3, j4⟩ := st8.fill 0 rfl (n := 2) (l' := [iv r.cells, r.tv]) rfl rfl (jF f4.ok)
   have g1' : qH 2 (.pointer (some ⟨m.n, 0, none⟩)) (pgV q) m6 = some (undef, m7) := g1
   have j1' : qH 2 (.pointer (some ⟨B5, 0, none⟩)) (pgV r) m8 = some (undef, m9) := j1
   obtain ⟨i1, hi1⟩ := qb8 (i + 1)
   have hd : i < 2 + PH p 1 := by
    rcases hI.bnd with h | h <;> omega
   have w1 : IntKind.i64.wrap ((i : Int) + 1) = (i1 : Int) := by rw [wrap64 _ (by omega) (by omega)]; omega
   have hkr : PgK p (i + 1 + 1) r := hI.kq.next f4.r
   have hbn : i + 1 + PH p (i + 1) ≤ 1 + PH p 1 := by
    rcases hI.bnd with h | h
    ·subst h; show 0 + 1 + PH p 1 ≤ 1 + PH p 1; omega
    ·by_cases h0 : i = 0
     ·subst h0; show 0 + 1 + PH p 1 ≤ 1 + PH p 1; omega
     ·have := XF hB (show 1 ≤ i by omega) hs; omega
   have hb5 := (st7.get 0 rfl).2.1
   have n78 := f2.n
   have hb := hI.b5
   have hnext : OI m p B5 (i + 1) m9 q r := by
    refine ⟨j2, hI.b5, q7.congr (by omega) fun X hX => ?_, f4.ok.congr (by omega) fun X hX => j4 X (by have := f4.new X hX; omega), hI.kq, hkr, fun X hX => ⟨by have := (hI.nq X hX).1; omega, (hI.nq X hX).2⟩, fun X hX => ?_, fun j hj => ?_, .inr hbn⟩
    ·rw [j4 X (hI.nq X hX).2, f2.obj X (q7.lt hX)]
    ·have := f4.new X hX
     exact ⟨by omega, by omega⟩
    ·by_cases hji : j < i
     ·exact hI.first j hji
     ·obtain rfl : j = i := by omega
      exact hs
   rw [← hi1] at hk hnext
   simp [t1, t2, t5, t7, la, lq, qf, pv, d1, lq6, w1, g1', la7, f1, j1']
   exact hk hd _ _ ⟨by simp [t1], by simp [t2], by simp [t5], by simp, q, r, hnext⟩
end Go.Sx
