/- Contracts. -/
import Derived.Test.YtbbpaaofmcoobaaGreatGc
import Derived.Test.YtbbpaaofmcoobaaGreatGe
set_option linter.unusedVariables false
set_option linter.unusedSimpArgs false
set_option linter.defProp false
namespace Go.Dx
theorem ft {bs B : Nat} {wl : List Nat} {C : Nat} (h : C ∈ note bs B wl) : C ∈ wl ∨ (C = B ∧ B < bs) := by
 unfold note at h
 cases hb : Nat.ble bs B with
 | true => rw [hb] at h; exact .inl h
 | false =>
  rw [hb] at h
  have hlt : B < bs := by
   rcases Nat.lt_or_ge B bs with h' | h'
   ·exact h'
   ·rw [qam h'] at hb; cases hb
  cases wl with
  | nil => exact .inr ⟨qal.1 h, hlt⟩
  | cons D l =>
   simp only [cond_false] at h
   cases hd : Nat.beq B D with
   | true => rw [hd] at h; exact .inl h
   | false =>
    rw [hd] at h
    rcases List.mem_cons.1 h with rfl | h
    ·exact .inr ⟨rfl, hlt⟩
    ·exact .inl h
theorem QQ {bs : Nat} : ∀ {l wl : List Nat} {C : Nat}, C ∈ notes bs wl l → C ∈ wl ∨ C ∈ l
 | [], _, _, h => .inl h
 | B :: l, wl, C, h => by
  rcases QQ (l := l) (wl := note bs B wl) h with h | h
  ·rcases ft h with h | ⟨rfl, _⟩
   ·exact .inl h
   ·exact .inr (qay ..)
  ·exact .inr (qap _ h)
structure Mc (m m' : M) (W : List Nat) : Prop where
 n : m.n ≤ m'.n
 obj : ∀ B, B < m.n → B ∉ W → m'.obj B = m.obj B
 base : m'.base = m.base
 log : ∀ B ∈ m'.log, B ∈ m.log ∨ B ∈ W
 low : (∀ B ∈ W, m.base ≤ B) → m'.log = m.log
section
variable {a b c m m' m0 : M} {W W' : List Nat}
theorem Mc.refl : Mc m m W := ⟨qah _, fun _ _ _ => rfl, rfl, fun _ h => .inl h, fun _ => rfl⟩
theorem Mc.trans (h : Mc a b W) (k : Mc b c W) : Mc a c W :=
 ⟨qaq h.n k.n, fun B hB hW => (k.obj B (qaj hB h.n) hW).trans (h.obj B hB hW), k.base.trans h.base, fun B hB => by
  rcases k.log B hB with h' | h'
  ·exact h.log B h'
  ·exact .inr h', fun hW => (k.low (by rw [h.base]; exact hW)).trans (h.low hW)⟩
theorem Ext.mc (h : Ext m m') : Mc m m' W := ⟨h.n, fun B hB _ => h.obj B hB, h.base, fun B hB => .inl (by rw [← h.log]; exact hB), fun _ => h.log⟩
theorem Mc.behind (h : Mc (qn m) m' W) : Mc m (Dx.behind m m') W := by
 have hl : ∀ B ∈ m'.log, B ∈ W := fun B hB => by
  rcases h.log B hB with h' | h'
  ·rw [wH] at h'; cases h'
  ·exact h'
 refine ⟨by rw [wu]; have := h.n; rwa [qx] at this, fun B hB hW => by rw [qB, h.obj B (by rw [qx]; exact hB) hW, qw], kh _ _, fun B hB => ?_, fun hW => ?_⟩
 ·rw [km] at hB
  rcases QQ hB with h' | h'
  ·exact .inl h'
  ·exact .inr (hl B h')
 ·rw [km]
  exact xF fun B hB => hW B (hl B hB)
theorem Dj (m : M) (B : Nat) (o : jJ) : (m.put B o).log = note m.base B m.log := by cases m; rfl
theorem KV {B o : Nat} {l l0 : List Value} (h : Arr m B l0) (hne : l ≠ []) (hn : o + l.length ≤ l0.length) (hl : ∀ v ∈ l, okC v = true) : (zc m B o l).log = note m.base B m.log := by
 obtain ⟨c, hc, hcl⟩ := h
 obtain ⟨v0, vs, rfl⟩ : ∃ v0 vs, l = v0 :: vs := by
  cases l with
  | nil => exact absurd rfl hne
  | cons a b => exact ⟨a, b, rfl⟩
 obtain ⟨c', e', _⟩ := yr (vs := v0 :: vs) (o := o) hcl hn hl
 have hs : wA m ⟨B, o, none⟩ (v0 :: vs) = some (m.put B (.cells c')) := by
  show ob (jb (m.obj B)) _ = _
  rw [hc]
  show ob (stn c o (v0 :: vs)) _ = _
  rw [e']; rfl
 have hp : zc m B o (v0 :: vs) = m.put B (.cells c') := by unfold zc; rw [hs]; rfl
 rw [hp, Dj]
structure Ow (m0 m : M) (W : List Nat) (σ : List (Nat × List Value)) : Prop where
 mc : Mc m0 m W
 base : m0.base ≤ m0.n
 arr : ∀ p ∈ σ, (p.1 ∈ W ∨ m0.n ≤ p.1) ∧ p.1 < m.n ∧ Arr m p.1 p.2
 nd : (σ.map (·.1)).Nodup
variable {σ σ' : List (Nat × List Value)} {k B o : Nat} {l l' : List Value}
theorem Ow.mb (h : Ow m0 m W σ) : m.base ≤ m.n := by rw [h.mc.base]; exact qaq h.base h.mc.n
theorem Ow.get (h : Ow m0 m W σ) (k : Nat) (hk : σ[k]? = some (B, l)) : (B ∈ W ∨ m0.n ≤ B) ∧ B < m.n ∧ Arr m B l := h.arr _ (qaf hk)
theorem Ow.step (h : Ow m0 m W σ) (e : Ext m m') : Ow m0 m' W σ :=
 ⟨h.mc.trans e.mc, h.base, fun p hp => let ⟨h1, h2, h3⟩ := h.arr p hp; ⟨h1, qaj h2 e.n, h3.congr (e.obj _ h2)⟩, h.nd⟩
theorem Ow.sub (h : Ow m0 m W σ) (hs : ∀ p ∈ σ', p ∈ σ) (hn : (σ'.map (·.1)).Nodup) : Ow m0 m W σ' := ⟨h.mc, h.base, fun p hp => h.arr p (hs p hp), hn⟩
theorem Ow.row (h : Ow m0 m W σ) (l : List Value) : Ow m0 (newRow m l) W ((m.n, l) :: σ) := by
 have h' := h.step (Ext.row m l)
 refine ⟨h'.mc, h.base, fun p hp => ?_, ?_⟩
 ·rcases List.mem_cons.1 hp with rfl | hp
  ·exact ⟨.inr h.mc.n, by rw [qm]; exact Nat.lt_succ_self _, Arr.row m l⟩
  ·exact h'.arr p hp
 ·rw [List.map_cons, List.nodup_cons]
  refine ⟨fun hm => ?_, h.nd⟩
  obtain ⟨q, hq, e⟩ := List.mem_map.1 hm
  have := (h.arr q hq).2.1
  omega
theorem Ow.put (h : Ow m0 m W σ) (k : Nat) (hk : σ[k]? = some (B, l)) (hn : m'.n = m.n) (hb : m'.base = m.base) (hlog : ∀ C ∈ m'.log, C ∈ m.log ∨ (C = B ∧ B < m.base)) (hlow : m.base ≤ B → m'.log = m.log) (ho : ∀ X, X ≠ B → m'.obj X = m.obj X) (ha : Arr m' B l') : Ow m0 m' W (σ.set k (B, l')) := by
 obtain ⟨hk', hke⟩ := qag.1 hk
 obtain ⟨hb0, hb1, hb2⟩ := h.get k hk
 have hmb := h.mc.base
 have hb3 := h.base
 have hmn := h.mc.n
 have hne : ∀ C, C < m0.n → C ∉ W → C ≠ B := fun C hC hW e => by
  subst e
  rcases hb0 with h0 | h0
  ·exact hW h0
  ·omega
 refine ⟨⟨by rw [hn]; exact hmn, fun C hC hW => (ho C (hne C hC hW)).trans (h.mc.obj C hC hW), hb.trans hmb, fun C hC => ?_, fun hW => ?_⟩, h.base, fun p hp => ?_, ?_⟩
 ·rcases hlog C hC with h' | ⟨rfl, h'⟩
  ·exact h.mc.log C h'
  ·rcases hb0 with h0 | h0
   ·exact .inr h0
   ·omega
 ·rw [hlow ?_, h.mc.low hW]
  rcases hb0 with h0 | h0
  ·rw [hmb]; exact hW _ h0
  ·omega
 ·obtain ⟨j, hj, rfl⟩ := List.getElem_of_mem hp
  rw [List.getElem_set]
  rw [List.length_set] at hj
  split
  ·exact ⟨hb0, by rw [hn]; exact hb1, ha⟩
  ·rename_i hne
   obtain ⟨h1, h2, h3⟩ := h.arr _ (List.getElem_mem hj)
   refine ⟨h1, by rw [hn]; exact h2, h3.congr (ho _ fun e => hne ?_)⟩
   exact (Ki h.nd (qae hj) hk e).symm
 ·have : (σ.set k (B, l')).map (·.1) = σ.map (·.1) := by
   rw [List.map_set]
   show (σ.map (·.1)).set k B = _
   refine List.ext_getElem (by simp) fun i h1 h2 => ?_
   rw [List.getElem_set]
   split
   ·subst_vars; simp [hke]
   ·rfl
  rw [this]; exact h.nd
theorem Ow.store (h : Ow m0 m W σ) (k : Nat) (hk : σ[k]? = some (B, l)) {v : Value} (ho : o < l.length) (hv : okC v = true) :
  ∃ m', qH 1 (.pointer (some ⟨B, o, none⟩)) v m = some (undef, m') ∧ Ow m0 m' W (σ.set k (B, l.set o v)) ∧ m'.n = m.n ∧ ∀ X, X ≠ B → m'.obj X = m.obj X := by
 obtain ⟨h1, h2, h3⟩ := h.get k hk
 have hcv : zr v = some [v] := by cases v <;> first | rfl | simp [okC] at hv
 have e := wQ (n := 1) (o := o) h3 hcv rfl (by omega) (by simpa using hv)
 obtain ⟨_, s2, s3, s4, s5, s6⟩ := qY (o := o) (l := [v]) h3 (by simp; omega) (by simpa using hv)
 exact ⟨_, e, h.put k hk s3 s4 (fun C hC => by rw [KV h3 (by simp) (by simp; omega) (by simpa using hv)] at hC; exact ft hC) s6 s5 s2, s3, s5⟩
theorem Ow.storeNAny (h : Ow m0 m W σ) (k : Nat) (hk : σ[k]? = some (B, l)) {n : Nat} (hn0 : 0 < n) (hl' : l'.length = n) (hn : o + n ≤ l.length) (hv : ∀ v ∈ l', okC v = true) :
  ∃ m', qH n (.pointer (some ⟨B, o, none⟩)) (.agg ⟨l'⟩) (qn m) = some (undef, m') ∧ m'.log = [B] ∧ Ow m0 (Dx.behind m m') W (σ.set k (B, over l o l')) ∧ (Dx.behind m m').n = m.n ∧ ∀ X, X ≠ B → (Dx.behind m m').obj X = m.obj X := by
 obtain ⟨h1, h2, h3⟩ := h.get k hk
 have h3' : Arr (qn m) B l := h3.congr (qw m B)
 have hne : l' ≠ [] := fun e => by rw [e] at hl'; simp at hl'; omega
 have e := wQ (n := n) (o := o) (v := .agg ⟨l'⟩) (l := l') h3' rfl hl' hn hv
 obtain ⟨_, s2, s3, s4, s5, s6⟩ := qY (o := o) (l := l') h3' (by omega) hv
 have hlog : (zc (qn m) B o l').log = [B] := by
  rw [KV h3' hne (by omega) hv, ki, wH]
  unfold note
  have : Nat.ble m.n B = false := by
   cases q : Nat.ble m.n B with
   | false => rfl
   | true => exact absurd (qan q) (by omega)
  rw [this]; rfl
 have hbl : (Dx.behind m (zc (qn m) B o l')).log = note m.base B m.log := by rw [km, hlog]; rfl
 refine ⟨_, e, hlog, h.put k hk (by rw [wu, s3, qx]) (kh _ _) (fun C hC => by rw [hbl] at hC; exact ft hC) (fun hb => by rw [hbl, vT hb]) (fun X hX => by rw [qB, s5 X hX, qw]) (s2.congr (qB _ _ _)), by rw [wu, s3, qx], fun X hX => by rw [qB, s5 X hX, qw]⟩
theorem Ow.storeAny (h : Ow m0 m W σ) (k : Nat) (hk : σ[k]? = some (B, l)) {v : Value} (ho : o < l.length) (hv : okC v = true) :
  ∃ m', qH 1 (.pointer (some ⟨B, o, none⟩)) v (qn m) = some (undef, m') ∧ m'.log = [B] ∧ Ow m0 (Dx.behind m m') W (σ.set k (B, l.set o v)) ∧ (Dx.behind m m').n = m.n ∧ ∀ X, X ≠ B → (Dx.behind m m').obj X = m.obj X := by
 have hcv : zr v = some [v] := by cases v <;> first | rfl | simp [okC] at hv
 obtain ⟨m', e, r⟩ := h.storeNAny k hk (o := o) (l' := [v]) (n := 1) (by omega) rfl (by omega) (by simpa using hv)
 refine ⟨m', ?_, r⟩
 have h3' : Arr (qn m) B l := (h.get k hk).2.2.congr (qw m B)
 have e1 := wQ (n := 1) (o := o) h3' hcv rfl (by omega) (by simpa using hv)
 have e2 := wQ (n := 1) (o := o) (v := .agg ⟨[v]⟩) (l := [v]) h3' rfl rfl (by omega) (by simpa using hv)
 exact e1.trans (e2.symm.trans e)
theorem Ow.call (h : Ow m0 m W σ) (k : Mc m m' W) (hσ : ∀ p ∈ σ', (∃ q ∈ σ, q.1 = p.1) ∧ Arr m' p.1 p.2) (hn : (σ'.map (·.1)).Nodup) : Ow m0 m' W σ' :=
 ⟨h.mc.trans k, h.base, fun p hp => by
  obtain ⟨⟨q, hq, e⟩, ha⟩ := hσ p hp
  obtain ⟨h1, h2, _⟩ := h.arr q hq
  rw [e] at h1 h2
  exact ⟨h1, qaj h2 k.n, ha⟩, hn⟩
theorem Ow.rd (h : Ow m0 m W σ) {α : Type} {v : Value} {e : Nat} {f : α → List Value} {es : List α} (hr : Rd m0 v e f es) (hs : ∀ B, blk v = some B → B ∉ W) : Rd m v e f es :=
 hr.congr h.mc.n fun B hB => h.mc.obj B (hr.lt B hB) (hs B hB)
theorem Ow.start (hb : m0.base ≤ m0.n) (hσ : ∀ p ∈ σ, p.1 ∈ W ∧ p.1 < m0.n ∧ Arr m0 p.1 p.2) (hn : (σ.map (·.1)).Nodup) : Ow m0 m0 W σ :=
 ⟨Mc.refl, hb, fun p hp => let ⟨a, b, c⟩ := hσ p hp; ⟨.inl a, b, c⟩, hn⟩
theorem gG {m : M} {Q : Value → M → Prop} {t : Tm} {p : Nat} (hq : Q (Tm.get p t) m) : jc Q (kD [.t p] t m) := by
 refine ⟨gO [Tm.get p t], m, ?_, hq⟩
 rw [Wo, show yW t m [.t p] = some [Tm.get p t] from rfl, qy, WM]
end
end Go.Dx
namespace Go.Dx
theorem bX {c : C} : ∀ {a b o : Nat} {l : List Value}, ldn c o (a + b) = some l → ldn c o a = some (l.take a) ∧ ldn c (o + a) b = some (l.drop a)
 | 0, b, o, l, h => by rw [Nat.zero_add] at h; exact ⟨rfl, h⟩
 | a + 1, b, o, l, h => by
  rw [show a + 1 + b = a + b + 1 by omega, jB] at h
  obtain ⟨v, hv, h⟩ := qd h
  obtain ⟨t, ht, h⟩ := qd h
  have hl : l = v :: t := by unfold XG at h; cases h; rfl
  subst hl
  obtain ⟨h1, h2⟩ := bX ht
  refine ⟨?_, ?_⟩
  ·rw [jB, hv]; show ob (ldn c (o + 1) a) _ = _; rw [h1]; rfl
  ·rw [show o + (a + 1) = o + 1 + a by omega, h2]; rfl
theorem WQ {m : M} {B o a b : Nat} {s : Option Nat} {l : List Value} (h : loads m ⟨B, o, s⟩ (a + b) = some l) : loads m ⟨B, o, s⟩ a = some (l.take a) ∧ loads m ⟨B, o + a, s⟩ b = some (l.drop a) := by
 unfold loads at h ⊢
 obtain ⟨c, hc, h⟩ := qd h
 simp only at hc
 rw [hc]
 exact bX h
theorem gi : ∀ (l zs p : List Value), l.length ≤ zs.length → over (p ++ zs) p.length l = p ++ l ++ zs.drop l.length
 | [], zs, p, h => by simp [over]
 | v :: l, zs, p, h => by
  cases zs with
  | nil => simp at h
  | cons z zs =>
   unfold over
   have := gi l zs (p ++ [v]) (by simpa using h)
   simp at this ⊢
   exact this
def GrR {α : Type} (m0 m : M) (v : Value) (e : Nat) (f : α → List Value) (es : List α) : Prop :=
 (es = [] ∧ v = .slice none 0 0) ∨ ∃ B cap L, m0.n ≤ B ∧ B < m.n ∧ es.length ≤ cap ∧ 0 < cap ∧ L.length = (cap - es.length) * e ∧ v = .slice (some ⟨B, 0, some (code e false)⟩) es.length cap ∧ Arr m B (es.flatMap f ++ L)
section
variable {α : Type} {m0 m m' : M} {v : Value} {e : Nat} {f : α → List Value} {es : List α}
theorem GrR.nil : GrR m0 m (.slice none 0 0) e f ([] : List α) := .inl ⟨rfl, rfl⟩
theorem GrR.keep (h : GrR m0 m v e f es) (hn : m.n ≤ m'.n) (k : ∀ B, B < m.n → blk v = some B → m'.obj B = m.obj B) : GrR m0 m' v e f es := by
 rcases h with h | ⟨B, c, L, h1, h2, h3, h4, h5, rfl, h7⟩
 ·exact .inl h
 ·exact .inr ⟨B, c, L, h1, qaj h2 hn, h3, h4, h5, rfl, h7.congr (k B h2 rfl)⟩
theorem GrR.lens (h : GrR m0 m v e f es) : qL v = some (.int .i64 (es.length : Int)) := by
 rcases h with ⟨rfl, rfl⟩ | ⟨B, c, L, h1, h2, h3, h4, h5, rfl, h7⟩ <;> rfl
theorem GrR.okC (h : GrR m0 m v e f es) : okC v = true := by
 rcases h with ⟨rfl, rfl⟩ | ⟨B, c, L, h1, h2, h3, h4, h5, rfl, h7⟩ <;> rfl
theorem GrR.low (h : GrR m0 m v e f es) : ∀ B, blk v = some B → m0.n ≤ B ∧ B < m.n := fun B hB => by
 rcases h with ⟨rfl, rfl⟩ | ⟨B', c, L, h1, h2, h3, h4, h5, rfl, h7⟩
 ·cases hB
 ·cases hB; exact ⟨h1, h2⟩
theorem GrR.take (h : GrR m0 m v e f es) (hf : ∀ x, (f x).length = e) {k : Nat} (hk : k ≤ es.length) : ∃ v', slV e none (some (.int .i64 (k : Int))) none v = some v' ∧ GrR m0 m v' e f (es.take k) ∧ blk v' = blk v := by
 rcases h with ⟨rfl, rfl⟩ | ⟨B, c, L, h1, h2, h3, h4, h5, rfl, h7⟩
 ·have hk0 : k = 0 := by simpa using hk
  subst hk0
  exact ⟨_, rfl, .inl ⟨rfl, rfl⟩, rfl⟩
 ·have htl : (es.take k).length = k := by rw [List.length_take, Nat.min_eq_left hk]
  have hb : bm es.length c none (some (.int .i64 (k : Int))) none = some (0, k, c) := by
   show ob (bif Nat.ble k c then some k else none) _ = _
   rw [qam (by omega)]; rfl
  have hcd : Nat.beq (code e false / 2) e = true := by
   show Nat.beq (2 * e / 2) e = true
   rw [show 2 * e / 2 = e by omega]; exact Nat.beq_refl e
  have hex : jS (code e false) = false := by
   show Nat.beq (2 * e % 2) 1 = false
   rw [show 2 * e % 2 = 0 by omega]; rfl
  have hsl : slV e none (some (.int .i64 (k : Int))) none (.slice (some ⟨B, 0, some (code e false)⟩) es.length c) = some (.slice (some ⟨B, 0, some (code e false)⟩) k c) := by
   unfold slV
   simp only [qy, hb, hcd, hex, Option.isSome_none, Bool.or_false]
   unfold slA
   simp
  refine ⟨_, hsl, .inr ⟨B, c, (es.drop k).flatMap f ++ L, h1, h2, by rw [htl]; omega, h4, ?_, by rw [htl], ?_⟩, rfl⟩
  ·rw [qao, qX hf, h5, List.length_drop, htl, ← Nat.add_mul]; congr 1; omega
  ·rw [← qb2, ← List.flatMap_append, List.take_append_drop]; exact h7
theorem GrR.push (h : GrR m0 m v e f es) (he : 0 < e) (hf : ∀ x, (f x).length = e) {x : α} (hok : ∀ y ∈ es ++ [x], ∀ v ∈ f y, Dx.okC v = true) {X : Nat} {sp : Option Nat}
  (hx : loads m ⟨X, 0, sp⟩ e = some (f x)) (h0 : m0.n ≤ m.n) {bytes : Nat} (hm : (es.length + 1) * bytes ≤ qW) (hn : es.length + 1 ≤ 4611686018427387904) :
  ∃ v' m', qS m e bytes v (.slice (some ⟨X, 0, sp⟩) 1 1) = some (v', m') ∧ GrR m0 m' v' e f (es ++ [x]) ∧ m.n ≤ m'.n ∧ m'.base = m.base ∧ ((∀ B, blk v = some B → m.base ≤ B) → m'.log = m.log) ∧ (∀ B, B < m.n → blk v ≠ some B → m'.obj B = m.obj B) ∧ (∀ B, blk v' = some B → blk v = some B ∨ m.n ≤ B) := by
 have hk : (Nat.ble ((es.length + 1) * bytes) qW && Nat.ble (es.length + 1) 4611686018427387904) = true := by rw [qam hm, qam hn]; rfl
 have hfi : qI m e 1 (.slice (some ⟨X, 0, sp⟩) 1 1) = some (f x) := by unfold qI; rw [Nat.one_mul]; exact hx
 have hal : jW (es.flatMap f ++ f x) = true := fw fun u hu => by
  simp only [qb6, List.mem_flatMap] at hu
  rcases hu with ⟨y, hy, h⟩ | h
  ·exact hok y (List.mem_append_left _ hy) u h
  ·exact hok x (by simp) u h
 have hfl : (es ++ [x]).flatMap f = es.flatMap f ++ f x := by simp
 have hlen := qX hf es
 rcases h with ⟨rfl, rfl⟩ | ⟨B, c, L, h1, h2, h3, h4, h5, rfl, h7⟩
 ·refine ⟨.slice (some ⟨m.n, 0, some (code e false)⟩) 1 1, newRow m (f x), ?_, .inr ⟨m.n, 1, [], h0, by rw [qm]; omega, by simp, by omega, by simp, rfl, by simpa using Arr.row m (f x)⟩, by rw [qm]; omega, (Ext.row m (f x)).base, fun _ => (Ext.row m (f x)).log,
   fun B hB _ => (Ext.row m (f x)).obj B hB, fun B hB => by cases hB; exact .inr (qah _)⟩
  show ob (qI m e 1 _) _ = _
  rw [hfi, qy]
  unfold vt
  have hlt : Nat.ble (0 + 1) 0 = false := rfl
  have hk' : (Nat.ble ((0 + 1) * bytes) qW && Nat.ble (0 + 1) 4611686018427387904) = true := hk
  rw [hlt, cond_false, hk', cond_true]
  rfl
 ·by_cases hc : es.length + 1 ≤ c
  ·-- in place
   have hLl : e ≤ L.length := by
    rw [h5]
    have := qb0 e (show 1 ≤ c - es.length by omega)
    omega
   have hokx : ∀ u ∈ f x, Dx.okC u = true := fun u hu => hok x (by simp) u hu
   obtain ⟨s1, s2, s3, s4, s5, s6⟩ := qY (o := es.length * e) (l := f x) h7 (by rw [qao, hlen, hf]; omega) hokx
   have hov : over (es.flatMap f ++ L) (es.length * e) (f x) = es.flatMap f ++ f x ++ L.drop e := by
    rw [← hlen, gi _ _ _ (by rw [hf]; exact hLl), hf]
   rw [hov] at s2
   refine ⟨.slice (some ⟨B, 0, some (code e false)⟩) (es.length + 1) c, zc m B (es.length * e) (f x), ?_, .inr ⟨B, c, L.drop e, h1, by rw [s3]; exact h2, by simpa using hc, h4, ?_, by simp, by rw [hfl]; exact s2⟩, by rw [s3]; exact qah _, s4, fun hb => s6 (hb B rfl), fun Y _ hY => s5 Y fun e => hY (by rw [e]; rfl), fun Y hY => .inl hY⟩
   ·show ob (qI m e 1 _) _ = _
    rw [hfi, qy]
    unfold vt
    rw [qam hc, cond_true]
    unfold Zu
    show ob (wA m ⟨B, 0 + es.length * e, none⟩ (f x)) _ = _
    rw [Nat.zero_add, s1, qy]
   ·rw [List.length_drop, h5, qao, List.length_singleton, ← Nat.sub_sub, Nat.sub_mul (c - es.length) 1 e, Nat.one_mul]
  ·-- in new memory
   obtain rfl : es.length = c := by omega
   have hL : L = [] := qax (by rw [h5, Nat.sub_self, Nat.zero_mul])
   subst hL
   rw [List.append_nil] at h7
   have hg : Grown m0 m (.slice (some ⟨B, 0, some (code e false)⟩) es.length es.length) e f es := .inr ⟨B, h1, h2, by intro h; rw [h] at h4; simp at h4, rfl, h7⟩
   have hlt : Nat.ble (es.length + 1) es.length = false := by
    cases q : Nat.ble (es.length + 1) es.length with
    | false => rfl
    | true => exact absurd (qan q) (by omega)
   obtain ⟨cc, hcc, hcl⟩ := id h7
   have hne : 0 < (es.flatMap f).length := by rw [hlen]; exact Nat.mul_pos h4 he
   have ha : alive cc = true := bS (i := 0) (by rw [hcl, qae hne])
   refine ⟨.slice (some ⟨m.n, 0, some (code e false)⟩) (es.length + 1) (es.length + 1), (m.put B (.cells .lf)).alloc (.cells (mkn .lf 0 (es.flatMap f ++ f x))), ?_,
    .inr ⟨m.n, es.length + 1, [], h0, by rw [M.n_alloc, M.n_put]; omega, by simp, by omega, by simp, by simp, ?_⟩, by rw [M.n_alloc, M.n_put]; omega, by rw [M.base_alloc, M.base_put], fun hb => ?_, fun Y hY hne' => ?_, fun Y hY => by cases hY; exact .inr (qah _)⟩
   ·show ob (qI m e 1 _) _ = _
    rw [hfi, qy]
    unfold vt
    rw [hlt, cond_false, hk, cond_true]
    have hold : qI m e es.length (.slice (some ⟨B, 0, some (code e false)⟩) es.length es.length) = some (es.flatMap f) := by
     show loads m ⟨B, 0, some (code e false)⟩ (es.length * e) = _
     rw [h7.loads (by omega), List.drop_zero, ← hlen, List.take_length]
    rw [hold, qy]
    unfold jC
    have hx' : jS (code e false) = false := by
     show Nat.beq (2 * e % 2) 1 = false
     rw [show 2 * e % 2 = 0 by omega]; rfl
    have hcd : Nat.beq (code e false / 2) e = true := by
     show Nat.beq (2 * e / 2) e = true
     rw [show 2 * e / 2 = e by omega]; exact Nat.beq_refl e
    show ob (some (code e false)) _ = _
    rw [qy, hx', cond_false]
    show ob (jb (m.obj B)) _ = _
    rw [hcc]
    show (bif alive cc && Nat.beq (code e false / 2) e && jW (es.flatMap f ++ f x) && Nat.blt 0 HI then _ else _) = _
    rw [ha, hcd, hal, show Nat.blt 0 HI = true from qam (by unfold HI; omega)]
    rfl
   ·rw [hfl, List.append_nil]
    refine ⟨_, by rw [M.obj_alloc, M.n_put, if_pos rfl], fun i => ?_⟩
    rw [zF, A.get_lf]
    split
    ·simp
    ·rename_i h; rw [qb3 (by omega)]
   ·have : ((m.put B (.cells .lf)).alloc (.cells (mkn .lf 0 (es.flatMap f ++ f x)))).log = note m.base B m.log := by rw [M.log_alloc]; cases m; rfl
    rw [this, vT (hb B rfl)]
   ·rw [M.obj_alloc, M.n_put, if_neg (by omega), M.obj_put, if_neg (by rintro rfl; exact hne' rfl)]
theorem Bi {B c cap : Nat} (hf : ∀ x, (f x).length = e) {l : List α} {L : List Value} (h : Arr m B (l.flatMap f ++ L)) (hB : B < m.n) : Rd m (.slice (some ⟨B, 0, some c⟩) l.length cap) e f l := by
 have hlen := qX hf l
 refine ⟨rfl, fun i r hr => ?_, ?_, fun C hC => by cases hC; exact hB⟩
 ·have hi := (qag.1 hr).1
  have hle : i * e + e ≤ (l.flatMap f).length := by rw [hlen]; have := qb0 e (show i + 1 ≤ l.length by omega); rw [Nat.succ_mul] at this; exact this
  refine ⟨?_, hB, ?_⟩
  ·show (bif Nat.blt i l.length then dy (i * e) ⟨B, 0, some c⟩ else none) = _
   rw [show Nat.blt i l.length = true from qam hi]
   show some (Value.pointer (some ⟨B, 0 + i * e, none⟩)) = some (Value.pointer (some ⟨B, 0 + i * e, none⟩))
   rfl
  ·show loads m ⟨B, 0 + i * e, none⟩ e = _
   rw [Nat.zero_add, h.loads (by rw [qao]; omega), List.drop_append_of_le_length (by omega), List.take_append_of_le_length (by rw [List.length_drop]; omega), zY hf l i r hr]
 ·show loads m ⟨B, 0, some c⟩ (l.length * e) = _
  rw [h.loads (by rw [qao]; omega), List.drop_zero, ← hlen, List.take_left]
theorem GrR.rd (h : GrR m0 m v e f es) (hf : ∀ x, (f x).length = e) : Rd m v e f es := by
 rcases h with ⟨rfl, rfl⟩ | ⟨B, c, L, h1, h2, h3, h4, h5, rfl, h7⟩
 ·exact ⟨rfl, fun i r hr => by simp at hr, rfl, fun B hB => by cases hB⟩
 ·exact Bi hf h7 h2
theorem GrR.sp (h : GrR m0 m v e f es) : Sp e v := by
 rcases h with ⟨rfl, rfl⟩ | ⟨B, c, L, h1, h2, h3, h4, h5, rfl, h7⟩
 ·exact .inl rfl
 ·exact .inr ⟨B, 0, _, c, false, rfl, h3⟩
section
variable {l : List α}
theorem Rd.dropR (h : Rd m v e f l) (hs : Sp e v) (hf : ∀ x, (f x).length = e) {k : Nat} (hk : k ≤ l.length) : ∃ a n c, slV e (some (.int .i64 (k : Int))) none none v = some (.slice a n c) ∧ Rd m (.slice a n c) e f (l.drop k) := by
 rcases hs with rfl | ⟨B, o, n, c, x, rfl, hnc⟩
 ·have hl : l.length = 0 := by have := h.len; simp [qL] at this; omega
  have hk0 : k = 0 := by omega
  have hl' : l = [] := qax hl
  subst hk0; subst hl'
  exact ⟨none, 0, 0, rfl, h⟩
 ·have hn : n = l.length := by have := h.len; simp [qL] at this; omega
  have hdl : (l.drop k).length = n - k := by rw [List.length_drop, hn]
  have hfl := qX hf l
  have hall : loads m ⟨B, o, some (code e x)⟩ (l.length * e) = some (l.flatMap f) := h.all
  have hsplit : l.length * e = k * e + (l.drop k).length * e := by rw [hdl, hn, ← Nat.add_mul]; congr 1; omega
  have hdrop : (l.flatMap f).drop (k * e) = (l.drop k).flatMap f := by
   have hl2 : l = l.take k ++ l.drop k := (List.take_append_drop k l).symm
   have hlt := qX hf (l.take k)
   rw [List.length_take, Nat.min_eq_left hk] at hlt
   conv => lhs; rw [hl2, List.flatMap_append]
   rw [List.drop_append_of_le_length (by omega), ← hlt, List.drop_length, List.nil_append]
  rw [hsplit] at hall
  obtain ⟨h1, h2⟩ := WQ hall
  rw [hdrop] at h2
  have hb : bm n c (some (.int .i64 (k : Int))) none none = some (k, n, c) := by
   show ob (WO (some (.int .i64 (k : Int))) 0 n) _ = _
   show ob (bif Nat.ble k n then some k else none) _ = _
   rw [qam (by omega)]; rfl
  have hcd : Nat.beq (code e x / 2) e = true := by
   have : code e x / 2 = e := by
    cases x
    ·show (2 * e) / 2 = e; omega
    ·show (2 * e + 1) / 2 = e; omega
   rw [this, Nat.beq_refl]
  have hex : jS (code e x) = x := by
   cases x
   ·show Nat.beq ((2 * e) % 2) 1 = false
    rw [show (2 * e) % 2 = 0 by omega]; rfl
   ·show Nat.beq ((2 * e + 1) % 2) 1 = true
    rw [show (2 * e + 1) % 2 = 1 by omega]; rfl
  have hsl : slV e (some (.int .i64 (k : Int))) none none (.slice (some ⟨B, o, some (code e x)⟩) n c) = some (.slice (some ⟨B, bif x && Nat.beq c k then o else o + k * e, some (code e x)⟩) (n - k) (c - k)) := by
   unfold slV
   simp only [qy, hb, hcd, hex, Option.isSome_none, Bool.or_false]
   rfl
  refine ⟨_, _, _, hsl, ⟨by rw [hdl]; rfl, fun i r hr => ?_, ?_, fun C hC => by cases hC; exact h.lt _ rfl⟩⟩
  ·have hi : i < (l.drop k).length := (qag.1 hr).1
   rw [List.getElem?_drop] at hr
   have hck : (x && Nat.beq c k) = false := by
    cases q : Nat.beq c k with
    | false => simp
    | true => have := qar q; omega
   rw [hck]
   obtain ⟨g1, g2, g3⟩ := h.row (k + i) r hr
   refine ⟨?_, g2, ?_⟩
   ·show (bif Nat.blt i (n - k) then dy (i * e) _ else none) = _
    rw [show Nat.blt i (n - k) = true from qam (by omega)]; rfl
   ·have e1 : adr e (.slice (some ⟨B, o, some (code e x)⟩) n c) (k + i) = ⟨B, o + (k + i) * e, none⟩ := rfl
    have e2 : adr e (.slice (some ⟨B, bif false then o else o + k * e, some (code e x)⟩) (n - k) (c - k)) i = ⟨B, o + k * e + i * e, none⟩ := rfl
    rw [e1] at g3
    rw [e2, ← g3, Nat.add_mul, Nat.add_assoc]
  ·show loads m ⟨B, bif x && Nat.beq c k then o else o + k * e, some (code e x)⟩ ((l.drop k).length * e) = _
   cases q : (x && Nat.beq c k) with
   | false => exact h2
   | true =>
    rw [qak] at q
    have := qar q.2
    have h0 : l.drop k = [] := List.drop_eq_nil_of_le (by omega)
    rw [h0] at h2 ⊢
    unfold loads at h1 ⊢
    obtain ⟨cc, hcc, _⟩ := qd h1
    simp only at hcc
    show ob (cellsOf m B) _ = _
    rw [hcc]
    show ldn cc _ (0 * e) = _
    rw [Nat.zero_mul]; rfl
end
theorem GrR.drop (h : GrR m0 m v e f es) (hf : ∀ x, (f x).length = e) {k : Nat} (hk : k ≤ es.length) : ∃ a n c, slV e (some (.int .i64 (k : Int))) none none v = some (.slice a n c) ∧ Rd m (.slice a n c) e f (es.drop k) := (h.rd hf).dropR h.sp hf hk
end
end Go.Dx
namespace Go.Sx
open Go.Dx
def zU : U := ⟨0, by omega⟩
def qU (v : U) : Nd := ⟨1, v, 0, 0⟩
def bQ (op : Int) (a : U) : U := ⟨je op a.1, KH op a.2⟩
def dE (op : Int) (a b : U) : U := ⟨wO op a.1 b.1, KG op a.2 b.2⟩
def wJ (e : List Nd) : Nat → Nat → Option U
 | 0, _ => none
 | f + 1, i => match e[i]? with
  | none => none
  | some n => if n.op = 1 then some n.val else if n.op = 2 then none else match wJ e f n.a.toNat with
   | none => none
   | some a => if n.op ≤ 5 then some (bQ n.op a) else match wJ e f n.b.toNat with
    | none => none
    | some b => some (dE n.op a b)
def ww (e : List Nd) : Nat → List Nd → Nat → List Nd
 | 0, l, _ => l
 | f + 1, l, i => match wJ e (f + 1) i with
  | some v => l ++ [qU v]
  | none => match e[i]? with
   | none => l
   | some n => if n.op = 2 then l ++ [n] else if n.op ≤ 5 then ww e f l n.a.toNat ++ [⟨n.op, zU, ((ww e f l n.a.toNat).length : Int) - 1, 0⟩]
    else ww e f (ww e f l n.a.toNat) n.b.toNat ++ [⟨n.op, zU, ((ww e f l n.a.toNat).length : Int) - 1, ((ww e f (ww e f l n.a.toNat) n.b.toNat).length : Int) - 1⟩]
def wG (l : List Nd) : Bool := l.all fun n => decide (n.op = 1)
def vAt (l : List Nd) (i : Nat) : U := ((l[i]?).map (·.val)).getD zU
def wC (e : List Nd) : Nat → List Nd → Nat → List Nd
 | 0, l, _ => l
 | f + 1, l, i => match e[i]? with
  | none => l
  | some n => if n.op ≤ 2 then l ++ [n] else if n.op ≤ 5 then
    let l1 := wC e f l n.a.toNat
    if wG (l1.drop l.length) then l ++ [qU (bQ n.op (vAt l1 (l1.length - 1)))] else l1 ++ [⟨n.op, zU, (l1.length : Int) - 1, 0⟩]
   else
    let l1 := wC e f l n.a.toNat
    let l2 := wC e f l1 n.b.toNat
    if wG (l2.drop l.length) then l ++ [qU (dE n.op (vAt l2 (l1.length - 1)) (vAt l2 (l2.length - 1)))] else l2 ++ [⟨n.op, zU, (l1.length : Int) - 1, (l2.length : Int) - 1⟩]
theorem Zt {k : Nat} {e : List Nd} (hok : ∀ (i : Nat) n, e[i]? = some n → okN k i n = true) : ∀ (f i : Nat) (l : List Nd), i < f → i < e.length →
  wC e f l i = ww e f l i ∧ (∀ v, wJ e f i = some v → wC e f l i = l ++ [qU v]) ∧ (wJ e f i = none → ∃ x, wC e f l i = l ++ x ∧ x ≠ [] ∧ wG x = false) := by
 intro f
 induction f with
 | zero => intro i l h; omega
 | succ f ih =>
  intro i l hif hie
  obtain ⟨n, hn⟩ : ∃ n, e[i]? = some n := ⟨_, qae hie⟩
  have ho := hok i n hn
  by_cases h1 : n.op = 1
  ·rw [WG h1] at ho
   have hab := of_decide_eq_true ho
   have hnn : n = qU n.val := by obtain ⟨op, v, a, b⟩ := n; simp at h1 hab; simp [qU, h1, hab]
   have hv : wJ e (f + 1) i = some n.val := by unfold wJ; rw [hn]; simp [h1]
   have hO : wC e (f + 1) l i = l ++ [qU n.val] := by unfold wC; rw [hn]; simp only; rw [if_pos (by omega), ← hnn]
   have hR : ww e (f + 1) l i = l ++ [qU n.val] := by unfold ww; rw [hv]
   exact ⟨hO.trans hR.symm, fun v h => by rw [hv] at h; cases h; exact hO, fun h => by rw [hv] at h; cases h⟩
  by_cases h2 : n.op = 2
  ·have hv : wJ e (f + 1) i = none := by unfold wJ; rw [hn]; simp [h2]
   have hO : wC e (f + 1) l i = l ++ [n] := by unfold wC; rw [hn]; simp only; rw [if_pos (by omega)]
   have hR : ww e (f + 1) l i = l ++ [n] := by unfold ww; rw [hv, hn]; simp only; rw [if_pos h2]
   exact ⟨hO.trans hR.symm, fun v h => (by rw [hv] at h; cases h), fun _ => ⟨[n], hO, by simp, by simp [wG, h2]⟩⟩
  by_cases h5 : 3 ≤ n.op ∧ n.op ≤ 5
  ·rw [kE h5.1 h5.2] at ho
   obtain ⟨a0, a1, -, -⟩ := of_decide_eq_true ho
   obtain ⟨q1, q2, q3⟩ := ih n.a.toNat l (by omega) (by omega)
   have hn2 : ¬ n.op ≤ 2 := by omega
   cases hA : wJ e f n.a.toNat with
   | some a =>
    have hl := q2 a hA
    have hv : wJ e (f + 1) i = some (bQ n.op a) := by unfold wJ; rw [hn]; simp only; rw [if_neg h1, if_neg h2, hA]; simp only; rw [if_pos h5.2]
    have hO : wC e (f + 1) l i = l ++ [qU (bQ n.op a)] := by
     unfold wC; rw [hn]; simp only; rw [if_neg hn2, if_pos h5.2, hl]
     have : wG ((l ++ [qU a]).drop l.length) = true := by rw [List.drop_left]; rfl
     rw [if_pos this]
     have : vAt (l ++ [qU a]) ((l ++ [qU a]).length - 1) = a := by unfold vAt; simp [qU]
     rw [this]
    have hR : ww e (f + 1) l i = l ++ [qU (bQ n.op a)] := by unfold ww; rw [hv]
    exact ⟨hO.trans hR.symm, fun v h => by rw [hv] at h; cases h; exact hO, fun h => by rw [hv] at h; cases h⟩
   | none =>
    obtain ⟨x, x1, x2, x3⟩ := q3 hA
    have hv : wJ e (f + 1) i = none := by unfold wJ; rw [hn]; simp only; rw [if_neg h1, if_neg h2, hA]
    have hO : wC e (f + 1) l i = l ++ (x ++ [⟨n.op, zU, ((l ++ x).length : Int) - 1, 0⟩]) := by
     unfold wC; rw [hn]; simp only; rw [if_neg hn2, if_pos h5.2, x1, List.drop_left, if_neg (by rw [x3]; simp), qb2]
    have hR : ww e (f + 1) l i = l ++ (x ++ [⟨n.op, zU, ((l ++ x).length : Int) - 1, 0⟩]) := by
     unfold ww; rw [hv, hn]; simp only; rw [if_neg h2, if_pos h5.2, ← q1, x1, qb2]
    exact ⟨hO.trans hR.symm, fun v h => (by rw [hv] at h; cases h), fun _ => ⟨_, hO, by simp, by
     unfold wG at x3 ⊢; rw [List.all_append, x3]; rfl⟩⟩
  ·rw [wU h1 h2 h5] at ho
   obtain ⟨a0, a1, b0, b1, o6, -, -⟩ := of_decide_eq_true ho
   obtain ⟨q1, q2, q3⟩ := ih n.a.toNat l (by omega) (by omega)
   obtain ⟨r1, r2, r3⟩ := ih n.b.toNat (wC e f l n.a.toNat) (by omega) (by omega)
   have hn2 : ¬ n.op ≤ 2 := by omega
   have hn5 : ¬ n.op ≤ 5 := by omega
   have hR0 : wJ e (f + 1) i = none → ww e (f + 1) l i = wC e f (wC e f l n.a.toNat) n.b.toNat ++ [⟨n.op, zU, ((wC e f l n.a.toNat).length : Int) - 1, ((wC e f (wC e f l n.a.toNat) n.b.toNat).length : Int) - 1⟩] := fun hv => by
    unfold ww; rw [hv, hn]; simp only; rw [if_neg h2, if_neg hn5, ← q1, ← r1]
   have hO0 : wG ((wC e f (wC e f l n.a.toNat) n.b.toNat).drop l.length) = false → wC e (f + 1) l i = wC e f (wC e f l n.a.toNat) n.b.toNat ++ [⟨n.op, zU, ((wC e f l n.a.toNat).length : Int) - 1, ((wC e f (wC e f l n.a.toNat) n.b.toNat).length : Int) - 1⟩] := fun ha => by
    conv => lhs; unfold wC
    rw [hn]; simp only; rw [if_neg hn2, if_neg hn5, if_neg (by rw [ha]; simp)]
   have bad : wJ e (f + 1) i = none → ∀ y, wC e f (wC e f l n.a.toNat) n.b.toNat = l ++ y → wG y = false → wC e (f + 1) l i = ww e (f + 1) l i ∧ (∀ v, wJ e (f + 1) i = some v → wC e (f + 1) l i = l ++ [qU v]) ∧ (wJ e (f + 1) i = none → ∃ x, wC e (f + 1) l i = l ++ x ∧ x ≠ [] ∧ wG x = false) := fun hv y hy hay => by
    have ha : wG ((wC e f (wC e f l n.a.toNat) n.b.toNat).drop l.length) = false := by rw [hy, List.drop_left]; exact hay
    have hO := hO0 ha
    refine ⟨hO.trans (hR0 hv).symm, fun v h => (by rw [hv] at h; cases h), fun _ => ⟨y ++ [⟨n.op, zU, ((wC e f l n.a.toNat).length : Int) - 1, ((wC e f (wC e f l n.a.toNat) n.b.toNat).length : Int) - 1⟩], ?_, by simp, ?_⟩⟩
    ·rw [hO, ← qb2, ← hy]
    ·unfold wG at hay ⊢; rw [List.all_append, hay]; rfl
   cases hA : wJ e f n.a.toNat with
   | none =>
    have hv : wJ e (f + 1) i = none := by unfold wJ; rw [hn]; simp only; rw [if_neg h1, if_neg h2, hA]
    obtain ⟨x, x1, x2, x3⟩ := q3 hA
    cases hB : wJ e f n.b.toNat with
    | none =>
     obtain ⟨y, y1, y2, y3⟩ := r3 hB
     exact bad hv (x ++ y) (by rw [y1, x1, qb2]) (by unfold wG at x3 ⊢; rw [List.all_append, x3]; rfl)
    | some b => exact bad hv (x ++ [qU b]) (by rw [r2 b hB, x1, qb2]) (by unfold wG at x3 ⊢; rw [List.all_append, x3]; rfl)
   | some a =>
    cases hB : wJ e f n.b.toNat with
    | none =>
     have hv : wJ e (f + 1) i = none := by unfold wJ; rw [hn]; simp only; rw [if_neg h1, if_neg h2, hA]; simp only; rw [if_neg hn5, hB]
     obtain ⟨y, y1, y2, y3⟩ := r3 hB
     exact bad hv ([qU a] ++ y) (by rw [y1, q2 a hA, qb2]) (by unfold wG at y3 ⊢; rw [List.all_append, y3]; simp)
    | some b =>
     have hv : wJ e (f + 1) i = some (dE n.op a b) := by unfold wJ; rw [hn]; simp only; rw [if_neg h1, if_neg h2, hA]; simp only; rw [if_neg hn5, hB]
     have hl1 := q2 a hA
     have hl2 : wC e f (wC e f l n.a.toNat) n.b.toNat = l ++ [qU a, qU b] := by rw [r2 b hB, hl1]; simp
     have hO : wC e (f + 1) l i = l ++ [qU (dE n.op a b)] := by
      conv => lhs; unfold wC
      rw [hn]; simp only; rw [if_neg hn2, if_neg hn5, hl2, hl1]
      have : wG ((l ++ [qU a, qU b]).drop l.length) = true := by rw [List.drop_left]; rfl
      rw [if_pos this]
      have e1 : vAt (l ++ [qU a, qU b]) ((l ++ [qU a]).length - 1) = a := by unfold vAt; simp [qU]
      have e2 : vAt (l ++ [qU a, qU b]) ((l ++ [qU a, qU b]).length - 1) = b := by unfold vAt; simp [qU]
      rw [e1, e2]
     have hR : ww e (f + 1) l i = l ++ [qU (dE n.op a b)] := by unfold ww; rw [hv]
     exact ⟨hO.trans hR.symm, fun v h => by rw [hv] at h; cases h; exact hO, fun h => by rw [hv] at h; cases h⟩
end Go.Sx
namespace Go.Sx
open Go.Dx
theorem ba (ls : List U) (l x : List Nd) : ∀ i, i ≤ l.length → evV ls (l ++ x) i = evV ls l i
 | 0, _ => rfl
 | i + 1, h => by
  unfold evV
  rw [ba ls l x i (by omega), qau (by omega)]
theorem Zm (ls : List U) (l x : List Nd) {i : Nat} (h : i < l.length) : kC ls (l ++ x) i = kC ls l i := by
 unfold kC; rw [ba ls l x (i + 1) h]
theorem yR (ls : List U) (l : List Nd) (v : U) : kC ls (l ++ [qU v]) l.length = v.1 := by
 rw [xL ls _ (n := qU v) (by simp)]
 unfold kN qU; simp
theorem Gt (ls : List U) (l : List Nd) {n : Nd} (h : n.op = 2) : kC ls (l ++ [n]) l.length = wAt ls n.val.1 := by
 rw [xL ls _ (n := n) (by simp)]
 unfold kN; rw [if_neg (by omega), if_pos h]
theorem KS (ls : List U) (l : List Nd) {op : Int} {j : Nat} (h : 3 ≤ op) (h5 : op ≤ 5) (hj : j < l.length) {v : U} : kC ls (l ++ [⟨op, v, (j : Int), 0⟩]) l.length = je op (kC ls l j) := by
 rw [xL ls _ (n := ⟨op, v, (j : Int), 0⟩) (by simp)]
 unfold kN
 simp only
 rw [if_neg (by omega), if_neg (by omega), if_pos h5, qat, ba ls l _ _ (qah _), kX ls l hj]
theorem KK (ls : List U) (l : List Nd) {op : Int} {i j : Nat} (h : 5 < op) (hi : i < l.length) (hj : j < l.length) {v : U} : kC ls (l ++ [⟨op, v, (i : Int), (j : Int)⟩]) l.length = wO op (kC ls l i) (kC ls l j) := by
 rw [xL ls _ (n := ⟨op, v, (i : Int), (j : Int)⟩) (by simp)]
 unfold kN
 simp only
 rw [if_neg (by omega), if_neg (by omega), if_neg (by omega), qat, qat, ba ls l _ _ (qah _), kX ls l hi, kX ls l hj]
section
variable {k : Nat} {e : List Nd} {ls : List U}
theorem gX {i : Nat} {n : Nd} (hn : e[i]? = some n) : kC ls e i = kN ls (evV ls e i) n := xL ls e hn
theorem GJ (hok : ∀ (i : Nat) n, e[i]? = some n → okN k i n = true) : ∀ (f i : Nat) v, wJ e f i = some v → kC ls e i = v.1 := by
 intro f
 induction f with
 | zero => intro i v h; cases h
 | succ f ih =>
  intro i v h
  unfold wJ at h
  cases hn : e[i]? with
  | none => rw [hn] at h; cases h
  | some n =>
   rw [hn] at h
   simp only at h
   have ho := hok i n hn
   rw [gX hn]
   unfold kN
   by_cases h1 : n.op = 1
   ·rw [if_pos h1] at h; cases h; rw [if_pos h1]
   rw [if_neg h1] at h ⊢
   by_cases h2 : n.op = 2
   ·rw [if_pos h2] at h; cases h
   rw [if_neg h2] at h ⊢
   cases hA : wJ e f n.a.toNat with
   | none => rw [hA] at h; cases h
   | some a =>
    rw [hA] at h
    simp only at h
    have va := ih _ _ hA
    by_cases h5 : n.op ≤ 5
    ·rw [if_pos h5] at h ⊢
     cases h
     have h3 : 3 ≤ n.op := by
      unfold okN at ho; rw [if_neg h1, if_neg h2] at ho
      split at ho
      ·omega
      ·have := of_decide_eq_true ho; omega
     rw [kE h3 h5] at ho
     have := of_decide_eq_true ho
     rw [kX ls e (by omega), va]
     rfl
    ·rw [if_neg h5] at h ⊢
     rw [wU h1 h2 (by omega)] at ho
     have := of_decide_eq_true ho
     cases hB : wJ e f n.b.toNat with
     | none => rw [hB] at h; cases h
     | some b =>
      rw [hB] at h
      cases h
      rw [kX ls e (by omega), kX ls e (by omega), va, ih _ _ hB]
      rfl
def szN (e : List Nd) : Nat → Nat → Nat
 | 0, _ => 0
 | f + 1, i => match e[i]? with
  | none => 0
  | some n => if n.op ≤ 2 then 1 else if n.op ≤ 5 then 1 + szN e f n.a.toNat else 1 + szN e f n.a.toNat + szN e f n.b.toNat
structure Laid (k : Nat) (e : List Nd) (l l' : List Nd) (i sz : Nat) : Prop where
 pre : ∃ x, l' = l ++ x ∧ x ≠ []
 len : l'.length ≤ l.length + sz
 val : ∀ ls : List U, kC ls l' (l'.length - 1) = kC ls e i
 ok : (∀ (j : Nat) n, l[j]? = some n → okN k j n = true) → ∀ (j : Nat) n, l'[j]? = some n → okN k j n = true
theorem Kb {l : List Nd} {n : Nd} (h : ∀ (j : Nat) n, l[j]? = some n → okN k j n = true) (hn : okN k l.length n = true) : ∀ (j : Nat) m, (l ++ [n])[j]? = some m → okN k j m = true := by
 intro j m hj
 have hjl := (qag.1 hj).1
 by_cases hjl2 : j < l.length
 ·rw [qau hjl2] at hj; exact h j m hj
 ·have : j = l.length := by simp at hjl; omega
  subst this
  rw [qav (qah _)] at hj
  simp at hj; subst hj; exact hn
theorem zW (hok : ∀ (i : Nat) n, e[i]? = some n → okN k i n = true) : ∀ (f i : Nat) (l : List Nd), i < f → i < e.length → Laid k e l (ww e f l i) i (szN e f i) := by
 intro f
 induction f with
 | zero => intro i l h; omega
 | succ f ih =>
  intro i l hif hie
  obtain ⟨n, hn⟩ : ∃ n, e[i]? = some n := ⟨_, qae hie⟩
  have ho := hok i n hn
  have hsz1 : 1 ≤ szN e (f + 1) i := by
   unfold szN; rw [hn]; simp only
   split
   ·exact qah _
   ·split <;> omega
  cases hv : wJ e (f + 1) i with
  | some v =>
   have hR : ww e (f + 1) l i = l ++ [qU v] := by unfold ww; rw [hv]
   rw [hR]
   refine ⟨⟨[qU v], rfl, by simp⟩, by simp; omega, fun ls => ?_, fun h => Kb h (by unfold okN qU; simp)⟩
   rw [show (l ++ [qU v]).length - 1 = l.length by simp, yR, GJ hok _ _ _ hv]
  | none =>
   by_cases h1 : n.op = 1
   ·exfalso; unfold wJ at hv; rw [hn] at hv; simp [h1] at hv
   by_cases h2 : n.op = 2
   ·have hR : ww e (f + 1) l i = l ++ [n] := by unfold ww; rw [hv, hn]; simp only; rw [if_pos h2]
    rw [hR]
    refine ⟨⟨[n], rfl, by simp⟩, by simp; omega, fun ls => ?_, fun h => Kb h ?_⟩
    ·rw [show (l ++ [n]).length - 1 = l.length by simp, Gt ls l h2, gX hn]
     unfold kN; rw [if_neg h1, if_pos h2]
    ·rw [jU h2] at ho ⊢; exact ho
   by_cases h5 : 3 ≤ n.op ∧ n.op ≤ 5
   ·rw [kE h5.1 h5.2] at ho
    obtain ⟨a0, a1, a2, a3⟩ := of_decide_eq_true ho
    have L := ih n.a.toNat l (by omega) (by omega)
    obtain ⟨l1, hl1⟩ := qb8 (ww e f l n.a.toNat)
    rw [← hl1] at L
    obtain ⟨⟨x, x1, x2⟩, y, z, w⟩ := L
    have hxl : 0 < x.length := qb4.2 x2
    have hl1p : l.length < l1.length := by rw [x1, qao]; omega
    have hc : ((l1.length : Int) - 1) = ((l1.length - 1 : Nat) : Int) := by omega
    have hR : ww e (f + 1) l i = l1 ++ [⟨n.op, zU, ((l1.length - 1 : Nat) : Int), 0⟩] := by unfold ww; rw [hv, hn]; simp only; rw [if_neg h2, if_pos h5.2, ← hl1, hc]
    have hsz : szN e (f + 1) i = 1 + szN e f n.a.toNat := by
     conv => lhs; unfold szN
     rw [hn]; simp only; rw [if_neg (by omega), if_pos h5.2]
    rw [hR, hsz]
    refine ⟨⟨x ++ [_], by rw [x1, qb2], by simp⟩, by simp; omega, fun ls => ?_, fun h => Kb (w h) ?_⟩
    ·rw [show ∀ y : Nd, (l1 ++ [y]).length - 1 = l1.length from fun y => by simp, KS ls l1 h5.1 h5.2 (by omega), z ls, gX hn]
     unfold kN; rw [if_neg h1, if_neg h2, if_pos h5.2, kX ls e (by omega)]
    ·rw [kE (by exact h5.1) (by exact h5.2)]
     exact decide_eq_true ⟨by simp only; omega, by simp only; omega, rfl, rfl⟩
   ·rw [wU h1 h2 h5] at ho
    obtain ⟨a0, a1, b0, b1, o6, o19, a3⟩ := of_decide_eq_true ho
    have L := ih n.a.toNat l (by omega) (by omega)
    obtain ⟨l1, hl1⟩ := qb8 (ww e f l n.a.toNat)
    rw [← hl1] at L
    obtain ⟨⟨x, x1, x2⟩, y, z, w⟩ := L
    have L2 := ih n.b.toNat l1 (by omega) (by omega)
    obtain ⟨l2, hl2⟩ := qb8 (ww e f l1 n.b.toNat)
    rw [← hl2] at L2
    obtain ⟨⟨x', x1', x2'⟩, y', z', w'⟩ := L2
    have hxl : 0 < x.length := qb4.2 x2
    have hxl' : 0 < x'.length := qb4.2 x2'
    have hl1p : l.length < l1.length := by rw [x1, qao]; omega
    have hl2p : l1.length < l2.length := by rw [x1', qao]; omega
    have hc : ((l1.length : Int) - 1) = ((l1.length - 1 : Nat) : Int) := by omega
    have hc' : ((l2.length : Int) - 1) = ((l2.length - 1 : Nat) : Int) := by omega
    have hR : ww e (f + 1) l i = l2 ++ [⟨n.op, zU, ((l1.length - 1 : Nat) : Int), ((l2.length - 1 : Nat) : Int)⟩] := by unfold ww; rw [hv, hn]; simp only; rw [if_neg h2, if_neg (by omega), ← hl1, ← hl2, hc, hc']
    have hsz : szN e (f + 1) i = 1 + szN e f n.a.toNat + szN e f n.b.toNat := by
     conv => lhs; unfold szN
     rw [hn]; simp only; rw [if_neg (by omega), if_neg (by omega)]
    rw [hR, hsz]
    refine ⟨⟨x ++ (x' ++ [⟨n.op, zU, ((l1.length - 1 : Nat) : Int), ((l2.length - 1 : Nat) : Int)⟩]), by simp only [x1', ← qb2, ← x1], by simp⟩, by simp; omega, fun ls => ?_, fun h => Kb (w' (w h)) ?_⟩
    ·rw [show ∀ y : Nd, (l2 ++ [y]).length - 1 = l2.length from fun y => by simp, KK ls l2 (by omega) (by omega) (by omega), z' ls, gX hn]
     unfold kN; rw [if_neg h1, if_neg h2, if_neg (by omega), kX ls e (by omega), kX ls e (by omega)]
     rw [← z ls]
     conv => lhs; rw [x1', Zm ls l1 x' (by omega)]
    ·rw [wU (by exact h1) (by exact h2) (by exact h5)]
     exact decide_eq_true ⟨by simp only; omega, by simp only; omega, by simp only; omega, by simp only; omega, o6, o19, rfl⟩
end
end Go.Sx
namespace Go.Sx
open Go.Dx
def jP (g : Nat → Nat) : Nat → Nat
 | 0 => 0
 | n + 1 => jP g n + g n
theorem dG (f g : Nat → Nat) : ∀ n, jP (fun j => f j + g j) n = jP f n + jP g n
 | 0 => rfl
 | n + 1 => by unfold jP; rw [dG f g n]; omega
theorem bE {f g : Nat → Nat} : ∀ n, (∀ j, j < n → f j = g j) → jP f n = jP g n
 | 0, _ => rfl
 | n + 1, h => by unfold jP; rw [bE n fun j hj => h j (by omega), h n (by omega)]
theorem vL {f : Nat → Nat} : ∀ n, (∀ j, j < n → f j = 0) → jP f n = 0
 | 0, _ => rfl
 | n + 1, h => by unfold jP; rw [vL n fun j hj => h j (by omega), h n (by omega)]
theorem bw {f : Nat → Nat} {a : Nat} : ∀ n, a < n → (∀ j, j < n → j ≠ a → f j = 0) → jP f n = f a
 | 0, h, _ => by omega
 | n + 1, h, k => by
  unfold jP
  by_cases ha : a = n
  ·subst ha; rw [vL a fun j hj => k j (by omega) (by omega), Nat.zero_add]
  ·rw [bw n (by omega) fun j hj hne => k j (by omega) hne, k n (by omega) (by omega), Nat.add_zero]
section
variable {k : Nat} {e : List Nd}
theorem gk {f i : Nat} {n : Nd} (hn : e[i]? = some n) (h : n.op ≤ 2) : szN e (f + 1) i = 1 := by unfold szN; rw [hn]; simp only; rw [if_pos h]
theorem yI {f i : Nat} {n : Nd} (hn : e[i]? = some n) (h : 3 ≤ n.op) (h5 : n.op ≤ 5) : szN e (f + 1) i = 1 + szN e f n.a.toNat := by
 conv => lhs; unfold szN
 rw [hn]; simp only; rw [if_neg (by omega), if_pos h5]
theorem xK {f i : Nat} {n : Nd} (hn : e[i]? = some n) (h : 6 ≤ n.op) : szN e (f + 1) i = 1 + szN e f n.a.toNat + szN e f n.b.toNat := by
 conv => lhs; unfold szN
 rw [hn]; simp only; rw [if_neg (by omega), if_neg (by omega)]
theorem bP {i : Nat} {n : Nd} (ho : okN k i n = true) : (n.op = 1 ∨ n.op = 2) ∨ (3 ≤ n.op ∧ n.op ≤ 5 ∧ 0 ≤ n.a ∧ n.a < i) ∨ (6 ≤ n.op ∧ 0 ≤ n.a ∧ n.a < i ∧ 0 ≤ n.b ∧ n.b < i) := by
 by_cases h1 : n.op = 1
 ·exact .inl (.inl h1)
 by_cases h2 : n.op = 2
 ·exact .inl (.inr h2)
 by_cases h5 : 3 ≤ n.op ∧ n.op ≤ 5
 ·rw [kE h5.1 h5.2] at ho
  obtain ⟨a0, a1, -, -⟩ := of_decide_eq_true ho
  exact .inr (.inl ⟨h5.1, h5.2, a0, a1⟩)
 ·rw [wU h1 h2 h5] at ho
  obtain ⟨a0, a1, b0, b1, o6, -, -⟩ := of_decide_eq_true ho
  exact .inr (.inr ⟨o6, a0, a1, b0, b1⟩)
theorem fm (hok : ∀ (i : Nat) n, e[i]? = some n → okN k i n = true) : ∀ (f i : Nat), i < f → i < e.length → szN e f i = szN e (i + 1) i := by
 intro f
 induction f using Nat.strongRecOn with
 | ind f ih =>
  intro i hif hie
  obtain ⟨g, rfl⟩ : ∃ g, f = g + 1 := ⟨f - 1, by omega⟩
  by_cases hgi : g = i
  ·rw [hgi]
  obtain ⟨n, hn⟩ : ∃ n, e[i]? = some n := ⟨_, qae hie⟩
  rcases bP (hok i n hn) with h | ⟨h3, h5, a0, a1⟩ | ⟨h6, a0, a1, b0, b1⟩
  ·rw [gk hn (by omega), gk hn (by omega)]
  ·rw [yI hn h3 h5, yI hn h3 h5, ih g (by omega) _ (by omega) (by omega), ih i (by omega) _ (by omega) (by omega)]
  ·rw [xK hn h6, xK hn h6, ih g (by omega) _ (by omega) (by omega), ih i (by omega) _ (by omega) (by omega), ih g (by omega) n.b.toNat (by omega) (by omega), ih i (by omega) n.b.toNat (by omega) (by omega)]
def szR (e : List Nd) (i : Nat) : Nat := szN e (i + 1) i
theorem DT (hok : ∀ (i : Nat) n, e[i]? = some n → okN k i n = true) {i : Nat} {n : Nd} (hn : e[i]? = some n) : szR e i = 1 + jP (fun j => kG n j * szR e j) e.length := by
 have hie := (qag.1 hn).1
 unfold szR
 rcases bP (hok i n hn) with h | ⟨h3, h5, a0, a1⟩ | ⟨h6, a0, a1, b0, b1⟩
 ·rw [gk hn (by omega), vL _ fun j _ => by unfold kG; rw [if_neg (by omega), if_neg (by omega)]; simp]
 ·rw [yI hn h3 h5, fm hok i _ (by omega) (by omega), bw (a := n.a.toNat) e.length (by omega) fun j _ hj => by unfold kG; rw [if_neg (by omega), if_neg (by omega)]; simp]
  unfold kG
  rw [if_pos (by omega), if_neg (by omega)]; simp
 ·rw [xK hn h6, fm hok i _ (by omega) (by omega), fm hok i n.b.toNat (by omega) (by omega)]
  have hs : (fun j : Nat => kG n j * szN e (j + 1) j) = fun j : Nat => (if 3 ≤ n.op ∧ n.a = j then 1 else 0) * szN e (j + 1) j + (if 6 ≤ n.op ∧ n.b = j then 1 else 0) * szN e (j + 1) j := by
   funext j; unfold kG; rw [Nat.add_mul]
  rw [hs, dG, bw (a := n.a.toNat) e.length (by omega) (fun j _ hj => by rw [if_neg (by omega)]; simp), bw (a := n.b.toNat) e.length (by omega) (fun j _ hj => by rw [if_neg (by omega)]; simp), if_pos (by omega), if_pos (by omega)]
  omega
theorem XI (hok : ∀ (i : Nat) n, e[i]? = some n → okN k i n = true) : ∀ i, i ≤ e.length → jP (szR e) i = i + jP (fun j => qO e i j * szR e j) e.length
 | 0, _ => by
  have hz : ∀ j, qO e 0 j = 0 := fun j => by unfold qO; simp
  rw [vL (f := fun j => qO e 0 j * szR e j) _ fun j _ => by simp only [hz, Nat.zero_mul]]; rfl
 | i + 1, h => by
  obtain ⟨n, hn⟩ : ∃ n, e[i]? = some n := ⟨_, qae (by omega)⟩
  have hs : (fun j => qO e (i + 1) j * szR e j) = fun j => qO e i j * szR e j + kG n j * szR e j := by
   funext j; rw [zR hn, Nat.add_mul]
  rw [hs, dG]
  show jP (szR e) i + szR e i = _
  rw [XI hok i (by omega), DT hok hn]
  omega
theorem xB (h : qD k e = true) : szN e e.length (e.length - 1) = e.length := by
 obtain ⟨h0, -, hok⟩ := wR h
 have hcnt : ∀ j, j < e.length → qO e e.length j = if j < e.length - 1 then 1 else 0 := fun j hj => Classical.byContradiction fun hc => by
  rw [vP hj hc] at h; cases h
 have hs := XI hok e.length (qah _)
 obtain ⟨m, hm⟩ : ∃ m, e.length = m + 1 := ⟨e.length - 1, by omega⟩
 rw [fm hok _ _ (by omega) (by omega)]
 have h1 : jP (fun j => qO e e.length j * szR e j) e.length = jP (szR e) m := by
  have hsp : ∀ g : Nat → Nat, jP g e.length = jP g m + g m := fun g => by rw [hm]; rfl
  rw [hsp, hcnt m (by omega), if_neg (by omega), Nat.zero_mul, Nat.add_zero]
  exact bE (f := fun j => qO e e.length j * szR e j) (g := szR e) m fun j hj => by show qO e e.length j * szR e j = _; rw [hcnt j (by omega), if_pos (by omega), Nat.one_mul]
 rw [h1] at hs
 have h2 : jP (szR e) e.length = jP (szR e) m + szR e m := by rw [hm]; rfl
 show szR e (e.length - 1) = _
 rw [show e.length - 1 = m by omega]
 omega
end
end Go.Sx
namespace Go.Sx
open Go.Dx
def xY (op : Int) (a : U) : List Nd := [qU a, ⟨op, zU, 0, 0⟩]
def xT (op : Int) (a b : U) : List Nd := [qU a, qU b, ⟨op, zU, 0, 1⟩]
section
variable {op : Int} (a b : U)
theorem Wg (a : U) (j : Nat) : kG (qU a) j = 0 := by
 unfold kG qU; simp
theorem Xo (h : 3 ≤ op) (h5 : op ≤ 5) (j : Nat) : qO (xY op a) 2 j = if j = 0 then 1 else 0 := by
 have h1 : qO (xY op a) 2 j = kG (qU a) j + kG ⟨op, zU, 0, 0⟩ j := by unfold qO xY; simp
 rw [h1, Wg]
 unfold kG
 simp only
 by_cases hj : j = 0
 ·subst hj; rw [if_pos ⟨h, rfl⟩, if_neg (by omega), if_pos rfl]
 ·rw [if_neg (by omega), if_neg (by omega), if_neg hj]
theorem XE (h : 6 ≤ op) (j : Nat) : qO (xT op a b) 3 j = if j < 2 then 1 else 0 := by
 have h1 : qO (xT op a b) 3 j = kG (qU a) j + (kG (qU b) j + kG ⟨op, zU, 0, 1⟩ j) := by unfold qO xT; simp
 rw [h1, Wg, Wg]
 unfold kG
 simp only
 by_cases hj : j = 0
 ·subst hj; rw [if_pos ⟨by omega, rfl⟩, if_neg (by simp), if_pos (by omega)]
 ·by_cases hj1 : j = 1
  ·subst hj1; rw [if_neg (by simp), if_pos ⟨h, rfl⟩, if_pos (by omega)]
  ·rw [if_neg (by omega), if_neg (by omega), if_neg (by omega)]
theorem ok_one (h : 3 ≤ op) (h5 : op ≤ 5) : ∀ (i : Nat) n, (xY op a)[i]? = some n → okN 0 i n = true := by
 intro i n hi
 match i, hi with
 | 0, hi => cases hi; unfold okN qU; simp
 | 1, hi => cases hi; rw [kE (by exact h) (by exact h5)]; exact decide_eq_true ⟨by simp, by simp, rfl, rfl⟩
 | i + 2, hi => simp [xY] at hi
theorem ok_two (h : 6 ≤ op) (h19 : op ≤ 19) : ∀ (i : Nat) n, (xT op a b)[i]? = some n → okN 0 i n = true := by
 intro i n hi
 match i, hi with
 | 0, hi => cases hi; unfold okN qU; simp
 | 1, hi => cases hi; unfold okN qU; simp
 | 2, hi => cases hi; rw [wU (by simp only; omega) (by simp only; omega) (by simp only; omega)]; exact decide_eq_true ⟨by simp, by simp, by simp, by simp, h, h19, rfl⟩
 | i + 3, hi => simp [xT] at hi
theorem Bv (h : 3 ≤ op) (h5 : op ≤ 5) : qD 0 (xY op a) = true :=
 jz (by simp [xY]) (by simp [xY]) (ok_one a h h5) (fun j hj => by
  have hj0 : j = 0 := by simp [xY] at hj; exact hj
  show 0 < qO (xY op a) 2 j
  rw [Xo a h h5, if_pos hj0]; omega) (fun j => by
  show qO (xY op a) 2 j ≤ 1
  rw [Xo a h h5]; split <;> omega)
theorem Gx (h : 6 ≤ op) (h19 : op ≤ 19) : qD 0 (xT op a b) = true :=
 jz (by simp [xT]) (by simp [xT]) (ok_two a b h h19) (fun j hj => by
  have hj0 : j < 2 := by simp [xT] at hj; exact hj
  show 0 < qO (xT op a b) 3 j
  rw [XE a b h, if_pos hj0]; omega) (fun j => by
  show qO (xT op a b) 3 j ≤ 1
  rw [XE a b h]; split <;> omega)
theorem XQ (h : 3 ≤ op) (h5 : op ≤ 5) : kC [] (xY op a) 1 = (bQ op a).1 := by
 have := KS [] [qU a] (op := op) (j := 0) h h5 (by simp) (v := zU)
 have h0 : kC [] [qU a] 0 = a.1 := yR [] [] a
 rw [h0] at this
 exact this
theorem Xh (h : 6 ≤ op) : kC [] (xT op a b) 2 = (dE op a b).1 := by
 have := KK [] [qU a, qU b] (op := op) (i := 0) (j := 1) (by omega) (by simp) (by simp) (v := zU)
 have h0 : kC [] [qU a, qU b] 0 = a.1 := by
  have := Zm [] [qU a] [qU b] (i := 0) (by simp)
  exact this.trans (yR [] [] a)
 have h1 : kC [] [qU a, qU b] 1 = b.1 := yR [] [qU a] b
 rw [h0, h1] at this
 exact this
end
end Go.Sx
namespace Go.Sx
open Go.Dx Go.Proofs
set_option maxRecDepth 10000
abbrev zNd : List Value := [.int .i64 0, .int .u64 0, .int .i64 0, .int .i64 0]
abbrev nmR (x : Nat) : List Value := [.int .i64 1, uv x, .int .i64 0, .int .i64 0]
abbrev opR (op a b : Int) : List Value := [.int .i64 op, uv 0, .int .i64 a, .int .i64 b]
theorem Vj (x : Nat) : wn zNd [(0, 1, .int .i64 1), (1, 1, uv x)] = some (.agg ⟨nmR x⟩) := rfl
theorem bOp (op : Int) : wn zNd [(0, 1, .int .i64 op)] = some (.agg ⟨opR op 0 0⟩) := rfl
theorem bOp2 (op : Int) : wn zNd [(0, 1, .int .i64 op), (2, 1, .int .i64 0), (3, 1, .int .i64 1)] = some (.agg ⟨opR op 0 1⟩) := rfl
theorem bS2 (x : Nat) (op : Int) (m : M) : kc 4 2 (rep 2 zNd) [(0, 4, .agg ⟨nmR x⟩), (4, 4, .agg ⟨opR op 0 0⟩)] m = some (Value.slice (some ⟨m.n, 0, some 9⟩) 2 2, Dx.newRow m (nmR x ++ opR op 0 0)) := rfl
theorem bS3 (x y : Nat) (op : Int) (m : M) : kc 4 3 (rep 3 zNd) [(0, 4, .agg ⟨nmR x⟩), (4, 4, .agg ⟨nmR y⟩), (8, 4, .agg ⟨opR op 0 1⟩)] m = some (Value.slice (some ⟨m.n, 0, some 9⟩) 3 3, Dx.newRow m (nmR x ++ (nmR y ++ opR op 0 1))) := rfl
def numP : Option U → Value
 | some v => .tuple #[uv v.1, .bool true]
 | none => .tuple #[uv 0, .bool false]
theorem jt (v : U) : numP (some v) = .tuple #[uv v.1, .bool true] := rfl
theorem jo : numP none = .tuple #[uv 0, .bool false] := rfl
theorem BO (e : List Nd) (ed : Value) (hok : ∀ (i : Nat) n, e[i]? = some n → okN 24 i n = true) : ∀ (f i : Nat), i < f → i < e.length → ∀ (N : Nat), 65540 ≤ N → ∀ (m : M), m.base ≤ m.n → Rd m ed 4 qg e →
  CallV (ex Tryz.prog (N + f)) 101 [ed, iv i] m (numP (wJ e f i)) := by
 intro f
 induction f with
 | zero => intro i h; omega
 | succ f ih =>
 intro i hif hi N hN m hm hed
 rw [← Nat.add_assoc]
 refine qp de8_ok (by simp) ?_
 obtain ⟨nd, hn⟩ : ∃ r, e[i]? = some r := ⟨_, qae hi⟩
 have hokn := hok i nd hn
 have ⟨a1, a2, _⟩ := hed.at hn
 have a2' := a2 m (Sees.refl hm)
 have st1 := (St.nil hm (Ext.refl m)).row zNd
 obtain ⟨m1, hm1⟩ := qb8 (Dx.newRow m zNd)
 rw [← hm1] at st1
 obtain ⟨m2, s1, s2, s3, s4⟩ := st1.fill 0 rfl (n := 4) (l' := qg nd) rfl rfl (by simp [qg, okC])
 have s2' : St m m2 [(m.n, qg nd)] := s2
 have l2 : ∀ o s, load1 m2 ⟨m.n, o, s⟩ = (qg nd)[o]? := fun o s => (s2'.get 0 rfl).2.2.load1 o s
 have hF : wJ e (f + 1) i = if nd.op = 1 then some nd.val else if nd.op = 2 then none else match wJ e f nd.a.toNat with
   | none => none
   | some a => if nd.op ≤ 5 then some (bQ nd.op a) else match wJ e f nd.b.toNat with
    | none => none
    | some b => some (dE nd.op a b) := by
  conv => lhs; unfold wJ
  rw [hn] <;> rfl
 rw [hF]
 clear hF
 obtain ⟨op, val, na, nb⟩ := nd
 simp only [qg] at a2' s1 l2
 simp only
 have S2 := s2'.sees
 by_cases h1 : op = 1
 ·subst h1
  rw [if_pos rfl, jt]
  simp [a1, a2', qf, ← hm1, s1, l2]
  exact fy s2'.ext (by simp)
 by_cases h2 : op = 2
 ·subst h2
  rw [if_neg h1, if_pos rfl, jo]
  simp [a1, a2', qf, ← hm1, s1, l2]
  exact fy s2'.ext (by simp)
 rw [if_neg h1, if_neg h2]
 have hA' := bP hokn
 simp only at hA'
 obtain ⟨A, rfl⟩ : ∃ A : Nat, na = A := ⟨na.toNat, by omega⟩
 have hA : A < i := by omega
 rw [qat]
 obtain ⟨v3, m3, c1, c2, rfl⟩ := ih A (by omega) (by omega) N hN m2 S2.base (hed.sees S2)
 have st3 := s2'.step c2
 have S3 := st3.sees
 have l3 : ∀ o s, load1 m3 ⟨m.n, o, s⟩ = [Value.int .i64 op, uv val.1, .int .i64 (A : Int), .int .i64 nb][o]? := fun o s => (st3.get 0 rfl).2.2.load1 o s
 have d1 : decide (op = 1) = false := decide_eq_false h1
 have d2 : decide (op = 2) = false := decide_eq_false h2
 cases hA1 : wJ e f A with
 | none =>
  rw [hA1, jo] at c1
  rw [jo]
  simp [a1, a2', qf, ← hm1, s1, l2, d1, d2, c1, wZ]
  exact fy st3.ext (by simp)
 | some a =>
 rw [hA1, jt] at c1
 simp only
 have st4 := st3.row (nmR a.1 ++ opR op 0 0)
 obtain ⟨m4, hm4⟩ := qb8 (Dx.newRow m3 (nmR a.1 ++ opR op 0 0))
 rw [← hm4] at st4
 have l4 : ∀ o s, load1 m4 ⟨m.n, o, s⟩ = [Value.int .i64 op, uv val.1, .int .i64 (A : Int), .int .i64 nb][o]? := fun o s => (st4.get 1 rfl).2.2.load1 o s
 have b2 := bS2 a.1 op m3
 rw [← hm4] at b2
 by_cases h5 : op ≤ 5
 ·have h3 : 3 ≤ op := by omega
  have e6 : (6 ≤ op) = False := eq_false (by omega)
  rw [if_pos h5, jt]
  obtain ⟨v5, m5, y1, y2, rfl⟩ := Of_c [] (xY op a) (.slice (some ⟨m3.n, 0, some 9⟩) 2 2) (.slice none 0 0) (by simp [xY]) (by simp [xY]) (ok_one a h3 h5) (N + f) (by omega) m4 st4.sees.base
   (kZ (e := 4) (f := qg) (l := xY op a) (fun _ => rfl) (st4.get 0 rfl).2.2 (st4.get 0 rfl).2.1) ku
  have hv : kC [] (xY op a) ((xY op a).length - 1) = (bQ op a).1 := XQ a h3 h5
  rw [hv] at y1
  simp [a1, a2', qf, ← hm1, s1, l2, d1, d2, c1, wZ, l3, Vj, bOp, b2, l4, e6, y1]
  exact fy (st4.ext.trans y2) (by simp)
 ·have h6 : 6 ≤ op := by omega
  have e6 : (6 ≤ op) = True := eq_true h6
  rw [if_neg h5]
  obtain ⟨B, rfl⟩ : ∃ B : Nat, nb = B := ⟨nb.toNat, by omega⟩
  have hB : B < i := by omega
  rw [qat]
  obtain ⟨v5, m5, g1, g2, rfl⟩ := ih B (by omega) (by omega) N hN m4 st4.sees.base (hed.sees st4.sees)
  have st5 := st4.step g2
  have l5 : ∀ o s, load1 m5 ⟨m.n, o, s⟩ = [Value.int .i64 op, uv val.1, .int .i64 (A : Int), .int .i64 (B : Int)][o]? := fun o s => (st5.get 1 rfl).2.2.load1 o s
  cases hB1 : wJ e f B with
  | none =>
   rw [hB1, jo] at g1
   simp only [jo]
   simp [a1, a2', qf, ← hm1, s1, l2, d1, d2, c1, wZ, l3, Vj, bOp, b2, l4, e6, g1]
   exact fy st5.ext (by simp)
  | some b =>
   rw [hB1, jt] at g1
   simp only [jt]
   have st6 := st5.row (nmR a.1 ++ (nmR b.1 ++ opR op 0 1))
   obtain ⟨m6, hm6⟩ := qb8 (Dx.newRow m5 (nmR a.1 ++ (nmR b.1 ++ opR op 0 1)))
   rw [← hm6] at st6
   have b3 := bS3 a.1 b.1 op m5
   rw [← hm6] at b3
   obtain ⟨v7, m7, y1, y2, rfl⟩ := Of_c [] (xT op a b) (.slice (some ⟨m5.n, 0, some 9⟩) 3 3) (.slice none 0 0) (by simp [xT]) (by simp [xT]) (ok_two a b h6 (by
     have := hokn; rw [wU (by simp only; omega) (by simp only; omega) (by simp only; omega)] at this; exact (of_decide_eq_true this).2.2.2.2.2.1)) (N + f) (by omega) m6 st6.sees.base
    (kZ (e := 4) (f := qg) (l := xT op a b) (fun _ => rfl) (st6.get 0 rfl).2.2 (st6.get 0 rfl).2.1) ku
   have hv : kC [] (xT op a b) ((xT op a b).length - 1) = (dE op a b).1 := Xh a b h6
   rw [hv] at y1
   simp [a1, a2', qf, ← hm1, s1, l2, d1, d2, c1, wZ, l3, Vj, bOp, bOp2, b2, l4, e6, g1, l5, b3, y1]
   exact fy (st6.ext.trans y2) (by simp)
end Go.Sx
namespace Go.Dx
@[simp] theorem pSlice_h (e : Nat) (x b : V) (t : Tm) : xm e x none (some b) none t = slV e none (some (b t)) none (x t) := by
 unfold xm QW slV
 cases x t with
 | slice a l c => cases a <;> rfl
 | _ => rfl
@[simp] theorem pSlice_l (e : Nat) (x a : V) (t : Tm) : xm e x (some a) none none t = slV e (some (a t)) none none (x t) := by
 unfold xm QW slV
 cases x t with
 | slice a l c => cases a <;> rfl
 | _ => rfl
end Go.Dx
namespace Go.Sx
open Go.Dx Go.Proofs
set_option maxRecDepth 10000
structure CGR (m0 m : M) (lv : Value) (es : List Nd) (v : Value) (m' : M) : Prop where
 ext : Ext m0 m'
 gr : GrR m0 m' v 4 qg es
 n : m.n ≤ m'.n
 obj : ∀ B, B < m.n → blk lv ≠ some B → m'.obj B = m.obj B
 low : ∀ B, blk v = some B → blk lv = some B ∨ m.n ≤ B
theorem bT (n : Nd) : ∀ v ∈ qg n, Dx.okC v = true := by
 intro v hv; simp [qg] at hv; rcases hv with rfl | rfl | rfl | rfl <;> rfl
section
variable {m0 m m' m'' m3 : M} {lv v v2 : Value} {es es2 : List Nd}
theorem CGR.refl (hE : Ext m0 m) (hg : GrR m0 m lv 4 qg es) : CGR m0 m lv es lv m := ⟨hE, hg, qah _, fun _ _ _ => rfl, fun _ h => .inl h⟩
theorem CGR.step (h : CGR m0 m lv es v m') (hE : Ext m' m'') : CGR m0 m lv es v m'' :=
 ⟨h.ext.trans hE, h.gr.keep hE.n fun B hB _ => hE.obj B hB, qaq h.n hE.n, fun B hB hne => (hE.obj B (qaj hB h.n)).trans (h.obj B hB hne), h.low⟩
theorem CGR.away (h : CGR m0 m lv es v m') (hE : Ext m0 m'') (hn : m'.n ≤ m''.n) {P : Nat} (hP : m.n ≤ P) (hv : blk v ≠ some P) (ho : ∀ B, B < m'.n → B ≠ P → m''.obj B = m'.obj B) : CGR m0 m lv es v m'' :=
 ⟨hE, h.gr.keep hn fun B hB hb => ho B hB fun e => hv (by rw [hb, e]), qaq h.n hn, fun B hB hne => (ho B (qaj hB h.n) (by omega)).trans (h.obj B hB hne), h.low⟩
theorem CGR.trans (h1 : CGR m0 m lv es v m') (h2 : CGR m0 m' v es2 v2 m3) : CGR m0 m lv es2 v2 m3 := by
 refine ⟨h2.ext, h2.gr, qaq h1.n h2.n, fun B hB hne => ?_, fun B hB => ?_⟩
 ·rw [h2.obj B (qaj hB h1.n) fun e => ?_, h1.obj B hB hne]
  rcases h1.low B e with h | h
  ·exact hne h
  ·omega
 ·rcases h2.low B hB with h | h
  ·exact h1.low B h
  ·exact .inr (qaq h1.n h)
theorem CGR.take (h : CGR m0 m lv es v m') {k : Nat} (hk : k ≤ es.length) : ∃ v', slV 4 none (some (.int .i64 (k : Int))) none v = some v' ∧ CGR m0 m lv (es.take k) v' m' := by
 obtain ⟨v', h1, h2, h3⟩ := h.gr.take wy hk
 exact ⟨v', h1, h.ext, h2, h.n, h.obj, fun B hB => h.low B (by rw [← h3]; exact hB)⟩
theorem CGR.push (hb : m0.base ≤ m0.n) (h : CGR m0 m lv es v m') (hE : Ext m' m'') {n : Nd} {X : Nat} {sp : Option Nat} (hx : loads m'' ⟨X, 0, sp⟩ 4 = some (qg n)) (hl : es.length + 1 ≤ 65536) :
  ∃ v' m3, qS m'' 4 32 v (.slice (some ⟨X, 0, sp⟩) 1 1) = some (v', m3) ∧ CGR m0 m lv (es ++ [n]) v' m3 := by
 have h' := h.step hE
 obtain ⟨v', m3, p1, p2, p3, p4, p5, p6, p7⟩ := h'.gr.push (by omega) wy (x := n) (fun y _ => bT y) hx h'.ext.n (bytes := 32) (by unfold qW; omega) (by omega)
 have hlo : ∀ B, blk v = some B → m0.n ≤ B := fun B hB => (h'.gr.low B hB).1
 refine ⟨v', m3, p1, ?_⟩
 have h2 : CGR m0 m'' v (es ++ [n]) v' m3 := by
  refine ⟨⟨qaq h'.ext.n p3, fun B hB => ?_, p4.trans h'.ext.base, ?_⟩, p2, p3, p6, p7⟩
  ·rw [p6 B (qaj hB h'.ext.n) fun e => by have := hlo B e; omega]; exact h'.ext.obj B hB
  ·rw [p5 fun B hB => by have := hlo B hB; rw [h'.ext.base]; omega]; exact h'.ext.log
 exact h'.trans h2
end
theorem Gc (n : Nat) (x : Nd) (m : M) : CallV (ex Tryz.prog (n + 1)) 99 [.agg ⟨qg x⟩] m (.bool (!decide (x.op = 1))) := by
 refine qp de6_ok (by simp) ?_
 have hl : load1 (Dx.newRow m (qg x)) ⟨m.n, 0, none⟩ = some (.int .i64 x.op) := Vi m _ 0
 simp [hl]
 exact qh (Ext.row _ _) (by simp)
theorem De (n : Nat) (ed : Value) (es : List Nd) (hl : es.length ≤ 65536) (m : M) (hm : m.base ≤ m.n) (hed : Rd m ed 4 qg es) :
  Dx.Call (ex Tryz.prog (n + 2)) 150 [ed, .func (.func 99) #[] #[]] m fun v _ => ∃ k : Int, v = iv k ∧ decide (0 ≤ k) = !wG es := by
 refine qp dg0_ok (by simp) ?_
 have hel := hed.len
 simp [hel]
 refine qq (c := GR) rfl (Ret m _) (fun i t m' => Tm.get 0 t = ed ∧ Tm.get 1 t = .func (.func 99) #[] #[] ∧ Tm.get 7 t = iv es.length ∧ Tm.get 8 t = iv i ∧ Ext m m' ∧ ∀ (j : Nat) x, j < i → es[j]? = some x → x.op = 1) es.length (by omega)
  ⟨by simp, by simp, by simp, by simp, by simp, by simp⟩ (fun i t m' k hi hI hk => ?_)
 obtain ⟨h0, h1, h7, h8, hE, hbad⟩ := hI
 have hS := (Sees.refl hm).ext hE
 by_cases hil : i < es.length
 ·obtain ⟨e, he⟩ : ∃ e, es[i]? = some e := ⟨_, qae hil⟩
  have ⟨a1, a2, a3⟩ := (hed.sees hS).at he
  have hd := dlt hil
  have w1 := wj (i := i) (by omega)
  obtain ⟨v1, m1, g1, g2, rfl⟩ := Gc n e m'
  have a2' := a2 m' hS.self
  by_cases hb : e.op = 1
  ·have hb' : decide (e.op = 1) = true := decide_eq_true hb
   rw [hb'] at g1
   simp [h0, h1, h7, h8, hd, a1, a2', qf, g1, w1]
   refine hk hil _ _ ?_
   refine ⟨by simp [h0], by simp [h1], by simp [h7], by simp, hE.trans g2, fun j x hj hx => ?_⟩
   rcases Nat.lt_succ_iff_lt_or_eq.1 hj with h | rfl
   ·exact hbad j x h hx
   ·rw [he] at hx; cases hx; exact hb
  ·have hb' : decide (e.op = 1) = false := decide_eq_false hb
   rw [hb'] at g1
   simp [h0, h1, h7, h8, hd, a1, a2', qf, g1]
   refine qh (hE.trans g2) ⟨(i : Int), by simp, ?_⟩
   have : wG es = false := xE he (by simp [hb])
   rw [this]; simp
 obtain rfl : i = es.length := by omega
 simp [h7, h8]
 refine qh hE ⟨-1, by simp, ?_⟩
 have : wG es = true := by unfold wG; exact vo fun j x hj hx => decide_eq_true (hbad j x hj hx)
 rw [this]; rfl
theorem JB (n : Nat) (ed : Value) (es : List Nd) (hl : es.length ≤ 65536) (m : M) (hm : m.base ≤ m.n) (hed : Rd m ed 4 qg es) :
  CallV (ex Tryz.prog (n + 3)) 98 [ed, .func (.func 99) #[] #[]] m (.bool (!wG es)) := by
 refine qp de5_ok (by simp) ?_
 obtain ⟨v1, m1, g1, g2, k, rfl, hk⟩ := De n ed es hl m hm hed
 rw [← hk]
 simp [g1]
 exact qh g2 (by simp)
theorem Kz (n : Nat) (ed : Value) (es : List Nd) (hl : es.length ≤ 65536) (hne : es ≠ []) (m : M) (hm : m.base ≤ m.n) (hed : Rd m ed 4 qg es) :
  Dx.Call (ex Tryz.prog (n + 1)) 97 [ed] m fun v m' => Grown m m' v 4 qg es := by
 refine qp de4_ok (by simp) ?_
 have hel := hed.len
 have hn := KI hel
 obtain ⟨v', m', h1, h2, h3, h4, h5⟩ := vg hm hed wy 32 (by unfold qW; omega) (by omega)
 have hbs : kc 4 0 (rep 0 [(.int .i64 0), (.int .u64 0), (.int .i64 0), (.int .i64 0)]) [] m = some (.slice (some ⟨m.n, 0, some (code 4 true)⟩) 0 0, Dx.newRow m []) := rfl
 simp [hn]
 cases ed with
 | slice a k c =>
  cases a with
  | none =>
   exfalso
   cases hc : es with
   | nil => exact hne hc
   | cons x xs => have := (hed.row 0 x (by rw [hc]; rfl)).1; cases this
  | some a =>
   simp [hbs, h1]
   refine qh h2 ?_
   simp only [fx, reduceIte]
   obtain rfl := h5 hne
   exact .inr ⟨m.n + 1, by omega, h3.lt _ rfl, hne, rfl, (h4 _ rfl).2⟩
 | _ => cases hel
end Go.Sx
namespace Go.Sx
open Go.Dx Go.Proofs
set_option maxRecDepth 10000
theorem bS1 (op a b : Int) (x : Nat) (m : M) : kc 4 1 (rep 1 zNd) [(0, 4, .agg ⟨[.int .i64 op, uv x, .int .i64 a, .int .i64 b]⟩)] m = some (Value.slice (some ⟨m.n, 0, some 9⟩) 1 1, Dx.newRow m [.int .i64 op, uv x, .int .i64 a, .int .i64 b]) := rfl
theorem GV (op a b : Int) : qg ⟨op, zU, a, b⟩ = opR op a b := rfl
theorem QC {m0 m mt : M} {lv v : Value} {l x : List Nd} {op a b : Int} {P9 P7 : Nat} {nd : Nd} {w : U} {t : Tm} (hb : m0.base ≤ m0.n) (h : CGR m0 m lv (l ++ x) v mt) (st : St m0 mt [(P9, opR op a b), (P7, qg nd)]) (hop : nd.op = op)
  (h9 : m.n ≤ P9) (h7 : m.n ≤ P7) (hv9 : blk v ≠ some P9) (hv7 : blk v ≠ some P7) (hx : x ≠ []) (hlx : l.length + x.length + 1 ≤ 65536) (ha : 0 ≤ a ∧ a ≤ 65536) (hb' : 0 ≤ b ∧ b ≤ 65536)
  (hw : wG x = true → Wb [] (x ++ [⟨op, zU, a - (l.length : Int), if 6 ≤ op then b - (l.length : Int) else b⟩]) = (w.1, 0))
  (t0 : Tm.get 0 t = v) (t7 : Tm.get 7 t = .pointer (some ⟨P7, 0, none⟩)) (t8 : Tm.get 8 t = iv l.length) (t9 : Tm.get 9 t = .pointer (some ⟨P9, 0, none⟩)) (N : Nat) :
  jc (fun v' m' => CGR m0 m lv (if wG x then l ++ [qU w] else l ++ x ++ [⟨op, zU, a, b⟩]) v' m') (Jj (ex Tryz.prog (N + 6)) (kD [.t 6]) noK (kD [.t 6]) t mt) := by
 obtain ⟨from', hfr⟩ := qb8 (l.length)
 have hMb : mt.base ≤ mt.n := by have := h.ext.base; have := h.ext.n; omega
 have hrd := h.gr.rd wy
 obtain ⟨A, nn, cc, e1, r1⟩ := hrd.dropR h.gr.sp wy (k := l.length) (by simp)
 rw [List.drop_left] at r1
 obtain ⟨v6, m6, c1, c2, g6⟩ := Kz (N + 5) (.slice A nn cc) x (by omega) hx mt hMb r1
 have hm6 : m6.base ≤ m6.n := by rw [c2.base]; exact qaq hMb c2.n
 obtain ⟨v7, m7, d1, d2, rfl⟩ := JB (N + 3) v6 x (by omega) m6 hm6 (g6.rd wy)
 have st7 := (st.step c2).step d2
 have E7 := c2.trans d2
 have l7 : loads m7 ⟨P9, 0, none⟩ 4 = some (opR op a b) := (st7.get 0 rfl).2.2.loads (n := 4) (by simp)
 rw [← hfr] at e1 t8
 cases hc : wG x with
 | false =>
  rw [hc] at d1
  obtain ⟨m8, hm8⟩ := qb8 (Dx.newRow m7 (opR op a b))
  have b1 := bS1 op a b 0 m7
  rw [← hm8] at b1
  obtain ⟨v9, m9, p1, p2⟩ := h.push hb (m'' := m8) (by rw [hm8]; exact E7.trans (Ext.row _ _)) (n := ⟨op, zU, a, b⟩) (X := m7.n) (sp := some 9) (by rw [hm8, GV]; exact kl m7 _ 0 4 (by simp)) (by simp; omega)
  simp [t0, t8, t9, e1, c1, d1, qf, l7, b1, p1]
  refine gG ?_
  simpa using p2
 | true =>
  rw [hc] at d1
  have hval := hw hc
  rw [← hfr] at hval
  obtain ⟨a', ha'⟩ := qb8 (a - (from' : Int))
  have wa : IntKind.i64.wrap (a - (from' : Int)) = a' := by rw [wrap64 _ (by omega) (by omega), ha']
  have la7 : ∀ s, load1 m7 ⟨P9, 2, s⟩ = some (.int .i64 a) := fun s => (st7.get 0 rfl).2.2.load1 2 s
  obtain ⟨m8, s1, s2, s3, s4⟩ := st7.store 0 rfl (o := 2) (v := .int .i64 a') (by simp) rfl
  have st8 : St m0 m8 [(P9, opR op a' b), (P7, qg nd)] := s2
  have h7' := h.step E7
  have h8 : CGR m0 m lv (l ++ x) v m8 := h7'.away st8.ext (by rw [s3]; exact qah _) h9 hv9 fun B _ hB => s4 B hB
  have lo8 : ∀ s, load1 m8 ⟨P7, 0, s⟩ = some (.int .i64 op) := fun s => by have := (st8.get 1 rfl).2.2.load1 0 s; rw [this, ← hop]; rfl
  have lb8 : ∀ s, load1 m8 ⟨P9, 3, s⟩ = some (.int .i64 b) := fun s => (st8.get 0 rfl).2.2.load1 3 s
  have key : ∀ (b' : Int) (m9 : M), St m0 m9 [(P9, opR op a' b'), (P7, qg nd)] → m9.n = m7.n → (∀ X, X ≠ P9 → m9.obj X = m7.obj X) → Wb [] (x ++ [⟨op, zU, a', b'⟩]) = (w.1, 0) →
    ∃ v11 m10 m11 m12 v13 m13 m14 v14, loads m9 ⟨P9, 0, none⟩ 4 = some (opR op a' b') ∧ m10 = Dx.newRow m9 (opR op a' b') ∧ qS m10 4 32 v6 (.slice (some ⟨m9.n, 0, some 9⟩) 1 1) = some (v11, m11) ∧
     (ex Tryz.prog (N + 6)).f 100 [v11, .slice none 0 0] m11 = some (.tuple #[uv w.1, iv 0], m12) ∧ slV 4 none (some (.int .i64 (from' : Int))) none v = some v13 ∧ m13 = Dx.newRow m12 (nmR w.1) ∧
     qS m13 4 32 v13 (.slice (some ⟨m12.n, 0, some 9⟩) 1 1) = some (v14, m14) ∧ CGR m0 m lv (l ++ [qU w]) v14 m14 := by
   intro b' m9 st9 hn9 ho9 hval
   have l9 : loads m9 ⟨P9, 0, none⟩ 4 = some (opR op a' b') := (st9.get 0 rfl).2.2.loads (n := 4) (by simp)
   have hM7 : mt.n ≤ m7.n := E7.n
   have hP9 : P9 < mt.n := (st.get 0 rfl).2.1
   have g10 : Grown m0 (Dx.newRow m9 (opR op a' b')) v6 4 qg x := by
    refine (g6.low h.ext.n).keep (by rw [qm, hn9]; have := d2.n; omega) fun B hB hbl => ?_
    have hBM : mt.n ≤ B := (grown_low g6 B hbl).1
    have hB7 : B < m7.n := qaj hB d2.n
    rw [(Ext.row m9 _).obj B (by omega), ho9 B (by omega), d2.obj B hB]
   obtain ⟨v11, m11, p1, p2, p3, p4, p5, p6⟩ := g10.append (st9.ext.trans (Ext.row m9 _)) hb (by omega) wy (fun y => bT y) (x := (⟨op, zU, a', b'⟩ : Nd)) (X := m9.n) (sp := some 9) (kl m9 _ 0 4 (by simp)) (bytes := 32) (by unfold qW; omega) (by omega)
   have hm11 : m11.base ≤ m11.n := by rw [p2.base]; exact qaq hb p2.n
   obtain ⟨v12, m12, q1, q2, rfl⟩ := Js [] (x ++ [⟨op, zU, a', b'⟩]) v11 (.slice none 0 0) (by rw [qao, List.length_singleton]; omega) N m11 hm11 (p3.rd wy) ku
   rw [hval] at q1
   have hv7 : ∀ B, blk v = some B → B < mt.n := fun B hB => (h.gr.low B hB).2
   have h9' : CGR m0 m lv (l ++ x) v m9 := h7'.away st9.ext (by omega) h9 hv9 fun B _ hB => ho9 B hB
   have h10 := h9'.step (Ext.row m9 (opR op a' b'))
   have h11 : CGR m0 m lv (l ++ x) v m11 := by
    rcases g6 with ⟨e, _⟩ | ⟨B6, g1, g2, g3, rfl, g5⟩
    ·exact absurd e hx
    ·refine h10.away p2 p4 (P := B6) (qaq h.n g1) (fun e => by have := hv7 B6 e; omega) fun B hB hne => p5 B hB fun e => hne ?_
     cases e; rfl
   have h12 := h11.step q2
   obtain ⟨v13, k1, k2⟩ := h12.take (k := l.length) (by simp)
   rw [List.take_left] at k2
   obtain ⟨v14, m14, r1, r2⟩ := k2.push hb (Ext.row m12 (nmR w.1)) (n := qU w) (X := m12.n) (sp := some 9) (kl m12 _ 0 4 (by simp)) (by omega)
   exact ⟨v11, _, m11, m12, v13, _, m14, v14, l9, rfl, p1, q1, by rw [hfr]; exact k1, rfl, r1, r2⟩
  by_cases h6 : 6 ≤ op
  ·have e6 : (6 ≤ op) = True := eq_true h6
   obtain ⟨b', hbb⟩ := qb8 (b - (from' : Int))
   have wb : IntKind.i64.wrap (b - (from' : Int)) = b' := by rw [wrap64 _ (by omega) (by omega), hbb]
   rw [if_pos h6, ← ha', ← hbb] at hval
   obtain ⟨m9, y1, y2, y3, y4⟩ := st8.store 0 rfl (o := 3) (v := .int .i64 b') (by simp) rfl
   obtain ⟨v11, m10, m11, m12, v13, m13, m14, v14, l9, hm10, p1, q1, k1, hm13, r1, r2⟩ := key b' m9 y2 (by rw [y3, s3]) (fun X hX => (y4 X hX).trans (s4 X hX)) hval
   have b1 := bS1 op a' b' 0 m9
   have b2 := bS1 1 0 0 w.1 m12
   rw [← hm10] at b1
   rw [← hm13] at b2
   simp [t0, t7, t8, t9, e1, c1, d1, la7, wa, s1, lo8, e6, lb8, wb, y1, qf, l9, b1, p1, q1, wZ, k1, Vj, b2, r1]
   refine gG ?_
   simpa using r2
  ·have e6 : (6 ≤ op) = False := eq_false h6
   rw [if_neg h6, ← ha'] at hval
   obtain ⟨v11, m10, m11, m12, v13, m13, m14, v14, l9, hm10, p1, q1, k1, hm13, r1, r2⟩ := key b m8 st8 s3 s4 hval
   have b1 := bS1 op a' b 0 m8
   have b2 := bS1 1 0 0 w.1 m12
   rw [← hm10] at b1
   rw [← hm13] at b2
   simp [t0, t7, t8, t9, e1, c1, d1, la7, wa, s1, lo8, e6, qf, l9, b1, p1, q1, wZ, k1, Vj, b2, r1]
   refine gG ?_
   simpa using r2
end Go.Sx
namespace Go.Sx
open Go.Dx Go.Proofs
set_option maxRecDepth 10000
theorem YH {op : Int} (a : U) (h : 3 ≤ op) (h5 : op ≤ 5) : Wb [] (xY op a) = ((bQ op a).1, 0) := by
 unfold Wb
 rw [if_pos ⟨by simp, Bv a h h5⟩]
 exact congrArg (·, 0) (XQ a h h5)
theorem FO {op : Int} (a b : U) (h : 6 ≤ op) (h19 : op ≤ 19) : Wb [] (xT op a b) = ((dE op a b).1, 0) := by
 unfold Wb
 rw [if_pos ⟨by simp, Gx a b h h19⟩]
 exact congrArg (·, 0) (Xh a b h)
theorem YF (l : List Nd) (a : U) : vAt (l ++ [qU a]) ((l ++ [qU a]).length - 1) = a := by unfold vAt; simp [qU]
section
variable {e : List Nd} {f i : Nat} {l : List Nd}
theorem QG (hok : ∀ (i : Nat) n, e[i]? = some n → okN 24 i n = true) (hif : i < f) (hie : i < e.length) : ∃ x, wC e f l i = l ++ x ∧ x ≠ [] ∧ (wG x = true → ∃ a, x = [qU a]) ∧ l.length + x.length ≤ l.length + szN e f i := by
 obtain ⟨q1, q2, q3⟩ := Zt hok f i l hif hie
 have hl := (zW hok f i l hif hie).len
 rw [← q1] at hl
 cases hv : wJ e f i with
 | some a =>
  refine ⟨[qU a], q2 a hv, by simp, fun _ => ⟨a, rfl⟩, ?_⟩
  rw [q2 a hv, qao] at hl; exact hl
 | none =>
  obtain ⟨x, h1, h2, h3⟩ := q3 hv
  refine ⟨x, h1, h2, fun h => (by rw [h3] at h; cases h), ?_⟩
  rw [h1, qao] at hl; exact hl
end
def CG (x : Ex) (g : Nat) (args : List Value) (m0 m : M) (lv : Value) (es : List Nd) : Prop := ∃ v m', x.f g args m = some (v, m') ∧ CGR m0 m lv es v m'
theorem fold_c (e : List Nd) (ed : Value) (hlen : e.length ≤ 65536) (hok : ∀ (i : Nat) n, e[i]? = some n → okN 24 i n = true) : ∀ (f i : Nat) (l : List Nd), i < f → i < e.length → l.length + szN e f i ≤ 65536 → ∀ (N : Nat), 6 ≤ N → ∀ (m0 m : M) (lv : Value), m0.base ≤ m0.n → Ext m0 m → Rd m0 ed 4 qg e → GrR m0 m lv 4 qg l →
  CG (ex Tryz.prog (N + f)) 50 [lv, ed, iv i] m0 m lv (wC e f l i) := by
 intro f
 induction f with
 | zero => intro i l h; omega
 | succ f ih =>
 intro i l hif hi hsz N hN m0 m lv hb hE hed hg
 obtain ⟨N', hN'⟩ : ∃ N', N + f = N' + 6 := ⟨N + f - 6, by omega⟩
 rw [← Nat.add_assoc]
 refine kM dc2_ok (by simp) ?_
 obtain ⟨nd, hn⟩ : ∃ r, e[i]? = some r := ⟨_, qae hi⟩
 have hokn := hok i nd hn
 have S0 : Sees m0 m := (Sees.refl hb).ext hE
 have ⟨a1, a2, _⟩ := hed.at hn
 have a2' := a2 m S0
 have hlv : ∀ B, blk lv = some B → B < m.n := fun B hB => (hg.low B hB).2
 have st1 := (St.nil hb hE).row zNd
 obtain ⟨m1, hm1⟩ := qb8 (Dx.newRow m zNd)
 have E1 : Ext m m1 := by rw [hm1]; exact Ext.row _ _
 have n1 : m1.n = m.n + 1 := by rw [hm1, qm]
 rw [← hm1] at st1
 obtain ⟨m2, s1, s2, s3, s4⟩ := st1.fill 0 rfl (n := 4) (l' := qg nd) rfl rfl (by simp [qg, okC])
 have st2 : St m0 m2 [(m.n, qg nd)] := s2
 have hlm : blk lv ≠ some m.n := fun h => by have := hlv _ h; omega
 have h2 : CGR m0 m lv l lv m2 := ((CGR.refl hE hg).step E1).away st2.ext (by omega) (P := m.n) (qah _) hlm fun B _ hB => s4 B hB
 have n2 : m2.n = m.n + 1 := by omega
 have l2 : ∀ o s, load1 m2 ⟨m.n, o, s⟩ = (qg nd)[o]? := fun o s => (st2.get 0 rfl).2.2.load1 o s
 have l2n : loads m2 ⟨m.n, 0, none⟩ 4 = some (qg nd) := (st2.get 0 rfl).2.2.loads (n := 4) (by simp [qg])
 have hO : wC e (f + 1) l i = if nd.op ≤ 2 then l ++ [nd] else if nd.op ≤ 5 then
   (if wG ((wC e f l nd.a.toNat).drop l.length) then l ++ [qU (bQ nd.op (vAt (wC e f l nd.a.toNat) ((wC e f l nd.a.toNat).length - 1)))] else wC e f l nd.a.toNat ++ [⟨nd.op, zU, ((wC e f l nd.a.toNat).length : Int) - 1, 0⟩])
   else (if wG ((wC e f (wC e f l nd.a.toNat) nd.b.toNat).drop l.length) then l ++ [qU (dE nd.op (vAt (wC e f (wC e f l nd.a.toNat) nd.b.toNat) ((wC e f l nd.a.toNat).length - 1)) (vAt (wC e f (wC e f l nd.a.toNat) nd.b.toNat) ((wC e f (wC e f l nd.a.toNat) nd.b.toNat).length - 1)))]
    else wC e f (wC e f l nd.a.toNat) nd.b.toNat ++ [⟨nd.op, zU, ((wC e f l nd.a.toNat).length : Int) - 1, ((wC e f (wC e f l nd.a.toNat) nd.b.toNat).length : Int) - 1⟩]) := by
  conv => lhs; unfold wC
  rw [hn]
 rw [hO]
 clear hO
 obtain ⟨op, val, na, nb⟩ := nd
 have hrow : qg ⟨op, val, na, nb⟩ = [.int .i64 op, uv val.1, .int .i64 na, .int .i64 nb] := rfl
 simp only [qg] at a2' s1 l2 l2n
 simp only
 by_cases h2' : op ≤ 2
 ·have e2 : (op ≤ 2) = True := eq_true h2'
  rw [if_pos h2']
  obtain ⟨m3, hm3⟩ := qb8 (Dx.newRow m2 [.int .i64 op, uv val.1, .int .i64 na, .int .i64 nb])
  have b1 := bS1 op na nb val.1 m2
  rw [← hm3] at b1
  have hs1 : 1 ≤ szN e (f + 1) i := by
   unfold szN; rw [hn]; simp only; rw [if_pos h2']; exact qah _
  obtain ⟨v4, m4, p1, p2⟩ := h2.push hb (m'' := m3) (by rw [hm3]; exact Ext.row _ _) (n := ⟨op, val, na, nb⟩) (X := m2.n) (sp := some 9) (by rw [hm3, hrow]; exact kl m2 _ 0 4 (by simp)) (by omega)
  simp [a1, a2', qf, ← hm1, s1, l2, e2, l2n, b1, p1]
  exact gG (by simpa using p2)
 have e2 : (op ≤ 2) = False := eq_false h2'
 rw [if_neg h2']
 have hA' := bP hokn
 simp only at hA'
 obtain ⟨A, rfl⟩ : ∃ A : Nat, na = A := ⟨na.toNat, by omega⟩
 have hA : A < i := by omega
 rw [qat]
 obtain ⟨x1, hx1, hx1n, hx1a, hx1l⟩ := QG (l := l) hok (show A < f by omega) (show A < e.length by omega)
 have hszA : l.length + (1 + szN e f A) ≤ 65536 := by
  by_cases h5 : op ≤ 5
  ·have := yI (f := f) hn (by simp only; omega) h5
   simp only [qat] at this; omega
  ·have := xK (f := f) hn (by simp only; omega)
   simp only [qat] at this; omega
 obtain ⟨v3, m3, c1, c2⟩ := ih A l (by omega) (by omega) (by omega) N hN m0 m2 lv hb h2.ext hed h2.gr
 rw [hx1] at c2 ⊢
 have h3 := h2.trans c2
 have st3 := st2.keepOn c2.ext c2.n fun p hp => by
  rw [qal.1 hp]; exact c2.obj m.n (by omega) hlm
 have n3 := c2.n
 have hl1 : (l ++ x1).length = l.length + x1.length := qao
 have hx1p : 0 < x1.length := qb4.2 hx1n
 obtain ⟨L1, hL1⟩ := qb8 ((l ++ x1).length)
 have hlen3 : qL v3 = some (.int .i64 (L1 : Int)) := by rw [hL1]; exact c2.gr.lens
 have hlen0 : qL lv = some (.int .i64 (l.length : Int)) := hg.lens
 have l3 : ∀ o s, load1 m3 ⟨m.n, o, s⟩ = [Value.int .i64 op, uv val.1, .int .i64 (A : Int), .int .i64 nb][o]? := fun o s => (st3.get 0 rfl).2.2.load1 o s
 obtain ⟨q, hq⟩ : ∃ q : Int, q = (L1 : Int) - 1 := ⟨_, rfl⟩
 have w1 : IntKind.i64.wrap ((L1 : Int) - 1) = q := by rw [wrap64 _ (by omega) (by omega), hq]
 have b1 : wn zNd [(0, 1, .int .i64 op), (2, 1, .int .i64 q)] = some (.agg ⟨opR op q 0⟩) := rfl
 have st4 := st3.row zNd
 obtain ⟨m4, hm4⟩ := qb8 (Dx.newRow m3 zNd)
 have n4 : m4.n = m3.n + 1 := by rw [hm4, qm]
 have E4 : Ext m3 m4 := by rw [hm4]; exact Ext.row _ _
 rw [← hm4] at st4
 obtain ⟨m5, u1, u2, u3, u4⟩ := st4.fill 0 rfl (n := 4) (l' := opR op q 0) rfl rfl (by simp [okC])
 have st5 : St m0 m5 [(m3.n, opR op q 0), (m.n, qg ⟨op, val, (A : Int), nb⟩)] := u2
 have hv3 : ∀ B, blk v3 = some B → B < m3.n := fun B hB => (c2.gr.low B hB).2
 have hv3m : blk v3 ≠ some m.n := fun h => by
  rcases c2.low _ h with h | h
  ·exact hlm h
  ·omega
 have hv33 : blk v3 ≠ some m3.n := fun h => by have := hv3 _ h; omega
 have h5 : CGR m0 m lv (l ++ x1) v3 m5 := (h3.step E4).away st5.ext (by omega) (P := m3.n) (by omega) hv33 fun B _ hB => u4 B hB
 have l5 : ∀ o s, load1 m5 ⟨m.n, o, s⟩ = [Value.int .i64 op, uv val.1, .int .i64 (A : Int), .int .i64 nb][o]? := fun o s => (st5.get 1 rfl).2.2.load1 o s
 rw [hN'] at c1 ⊢
 by_cases h5' : op ≤ 5
 ·have e6 : (6 ≤ op) = False := eq_false (by omega)
  rw [if_pos h5', List.drop_left]
  obtain ⟨w, hw⟩ := qb8 (bQ op (vAt (l ++ x1) ((l ++ x1).length - 1)))
  rw [← hw, ← hL1, ← hq]
  obtain ⟨R, hR⟩ := qb8 (if wG x1 = true then l ++ [qU w] else l ++ x1 ++ [(⟨op, zU, q, 0⟩ : Nd)])
  rw [← hR]
  simp [a1, a2', qf, ← hm1, s1, l2, e2, hlen0, c1, l3, hlen3, w1, b1, ← hm4, u1, l5, e6, -QI]
  rw [hR]
  refine QC (w := w) hb h5 st5 rfl (by omega) (qah _) hv33 hv3m hx1n (by omega) (by omega) (by omega) (fun hal => ?_) ?_ ?_ ?_ ?_ N'
  ·obtain ⟨a, rfl⟩ := hx1a hal
   rw [YF] at hw
   rw [if_neg (by omega), hw, show q - (l.length : Int) = 0 by simp at hl1 hL1; omega]
   exact YH a (by omega) h5'
  ·simp
  ·simp
  ·simp
  ·simp
 ·have e6 : (6 ≤ op) = True := eq_true (by omega)
  rw [if_neg h5']
  obtain ⟨B, rfl⟩ : ∃ B : Nat, nb = B := ⟨nb.toNat, by omega⟩
  have hB : B < i := by omega
  rw [qat]
  have hszB : l.length + (1 + szN e f A + szN e f B) ≤ 65536 := by
   have := xK (f := f) hn (by simp only; omega)
   simp only [qat] at this; omega
  obtain ⟨x2, hx2, hx2n, hx2a, hx2l⟩ := QG (l := l ++ x1) hok (show B < f by omega) (show B < e.length by omega)
  obtain ⟨v6, m6, d1, d2⟩ := ih B (l ++ x1) (by omega) (by omega) (by omega) N hN m0 m5 v3 hb h5.ext hed h5.gr
  rw [hN'] at d1
  rw [hx2, qb2] at d2 ⊢
  have h6 := h5.trans d2
  have hlen6' : (l ++ (x1 ++ x2)).length = l.length + x1.length + x2.length := by simp; omega
  have hx2p : 0 < x2.length := qb4.2 hx2n
  obtain ⟨L2, hL2⟩ := qb8 ((l ++ (x1 ++ x2)).length)
  have hlen6 : qL v6 = some (.int .i64 (L2 : Int)) := by rw [hL2]; exact d2.gr.lens
  obtain ⟨q2, hq2⟩ : ∃ q : Int, q = (L2 : Int) - 1 := ⟨_, rfl⟩
  have w2 : IntKind.i64.wrap ((L2 : Int) - 1) = q2 := by rw [wrap64 _ (by omega) (by omega), hq2]
  have st6 := st5.keepOn d2.ext d2.n fun p hp => by
   simp at hp
   rcases hp with rfl | rfl
   ·exact d2.obj m3.n (by omega) hv33
   ·exact d2.obj m.n (by omega) hv3m
  have hv63 : blk v6 ≠ some m3.n := fun h => by
   rcases d2.low _ h with h | h
   ·exact hv33 h
   ·omega
  have hv6m : blk v6 ≠ some m.n := fun h => by
   rcases d2.low _ h with h | h
   ·exact hv3m h
   ·omega
  obtain ⟨m7, y1, y2, y3, y4⟩ := st6.store 0 rfl (o := 3) (v := .int .i64 q2) (by simp) rfl
  have st7 : St m0 m7 [(m3.n, opR op q q2), (m.n, qg ⟨op, val, (A : Int), (B : Int)⟩)] := y2
  have h7 : CGR m0 m lv (l ++ (x1 ++ x2)) v6 m7 := h6.away st7.ext (by omega) (P := m3.n) (by omega) hv63 fun X _ hX => y4 X hX
  rw [List.drop_left]
  obtain ⟨w, hw⟩ := qb8 (dE op (vAt (l ++ (x1 ++ x2)) ((l ++ x1).length - 1)) (vAt (l ++ (x1 ++ x2)) ((l ++ (x1 ++ x2)).length - 1)))
  rw [← hw, ← hL1, ← hq, ← hL2, ← hq2]
  obtain ⟨R, hR⟩ := qb8 (if wG (x1 ++ x2) = true then l ++ [qU w] else l ++ (x1 ++ x2) ++ [(⟨op, zU, q, q2⟩ : Nd)])
  rw [← hR]
  simp [a1, a2', qf, ← hm1, s1, l2, e2, hlen0, c1, l3, hlen3, w1, b1, ← hm4, u1, l5, e6, d1, hlen6, w2, y1, -QI]
  rw [hR]
  refine QC (w := w) hb h7 st7 rfl (by omega) (qah _) hv63 hv6m (by simp [hx1n]) (by simp; omega) (by omega) (by omega) (fun hal => ?_) ?_ ?_ ?_ ?_ N'
  ·have hal1 : wG x1 = true ∧ wG x2 = true := by unfold wG at hal ⊢; rw [List.all_append, qak] at hal; exact hal
   obtain ⟨a, rfl⟩ := hx1a hal1.1
   obtain ⟨b, rfl⟩ := hx2a hal1.2
   have e1 : vAt (l ++ ([qU a] ++ [qU b])) ((l ++ [qU a]).length - 1) = a := by unfold vAt; simp [qU]
   have e2 : vAt (l ++ ([qU a] ++ [qU b])) ((l ++ ([qU a] ++ [qU b])).length - 1) = b := by unfold vAt; simp [qU]
   rw [e1, e2] at hw
   rw [if_pos (by omega), hw, show q - (l.length : Int) = 0 by simp at hl1 hL1; omega, show q2 - (l.length : Int) = 1 by simp at hlen6' hL2; omega]
   have h19 : op ≤ 19 := by
    have := hokn; rw [wU (by simp only; omega) (by simp only; omega) (by simp only; omega)] at this; exact (of_decide_eq_true this).2.2.2.2.2.1
   exact FO a b (by omega) h19
  ·simp
  ·simp
  ·simp
  ·simp
end Go.Sx
namespace Go.Sx
open Go.Dx Go.Proofs
set_option maxRecDepth 10000
theorem lay_c (e : List Nd) (ed : Value) (hlen : e.length ≤ 65536) (hok : ∀ (i : Nat) n, e[i]? = some n → okN 24 i n = true) : ∀ (f i : Nat) (l : List Nd), i < f → i < e.length → l.length + szN e f i ≤ 65536 → ∀ (N : Nat), 65541 ≤ N → ∀ (m0 m : M) (lv : Value), m0.base ≤ m0.n → Ext m0 m → Rd m0 ed 4 qg e → GrR m0 m lv 4 qg l →
  CG (ex Tryz.prog (N + f)) 52 [lv, ed, iv i] m0 m lv (ww e f l i) := by
 intro f
 induction f with
 | zero => intro i l h; omega
 | succ f ih =>
 intro i l hif hi hsz N hN m0 m lv hb hE hed hg
 rw [← Nat.add_assoc]
 refine kM dc4_ok (by simp) ?_
 obtain ⟨nd, hn⟩ : ∃ r, e[i]? = some r := ⟨_, qae hi⟩
 have hokn := hok i nd hn
 have S0 : Sees m0 m := (Sees.refl hb).ext hE
 have ⟨a1, a2, _⟩ := hed.at hn
 have a2' := a2 m S0
 have hmb : m.base ≤ m.n := S0.base
 have hlv : ∀ B, blk lv = some B → B < m.n := fun B hB => (hg.low B hB).2
 obtain ⟨v0, m', g1, g2, rfl⟩ := BO e ed hok (f + 1) i hif hi (N - 1) (by omega) m hmb (hed.sees S0)
 rw [show N - 1 + (f + 1) = N + f by omega] at g1
 have hE' := hE.trans g2
 have hc' : CGR m0 m lv l lv m' := (CGR.refl hE hg).step g2
 have hl' := zW hok (f + 1) i l hif hi
 obtain ⟨hx0, hl0⟩ := And.intro hl'.pre hl'.len
 cases hv : wJ e (f + 1) i with
 | some v =>
  rw [hv, jt] at g1
  have hR : ww e (f + 1) l i = l ++ [qU v] := by unfold ww; rw [hv]
  rw [hR] at hl0 ⊢
  obtain ⟨m3, hm3⟩ := qb8 (Dx.newRow m' (nmR v.1))
  have b1 := bS1 1 0 0 v.1 m'
  rw [← hm3] at b1
  obtain ⟨v4, m4, p1, p2⟩ := hc'.push hb (m'' := m3) (by rw [hm3]; exact Ext.row _ _) (n := qU v) (X := m'.n) (sp := some 9) (by rw [hm3]; exact kl m' _ 0 4 (by simp)) (by simp at hl0; omega)
  simp [g1, wZ, Vj, b1, p1]
  exact gG (by simpa using p2)
 | none =>
 rw [hv, jo] at g1
 clear hl' hx0
 have hg := hc'.gr
 have a2' := a2 m' (S0.ext g2)
 have hlv : ∀ B, blk lv = some B → B < m'.n := fun B hB => (hg.low B hB).2
 have st1 := (St.nil hb hE').row zNd
 obtain ⟨m1, hm1⟩ := qb8 (Dx.newRow m' zNd)
 have E1 : Ext m' m1 := by rw [hm1]; exact Ext.row _ _
 have n1 : m1.n = m'.n + 1 := by rw [hm1, qm]
 rw [← hm1] at st1
 obtain ⟨m2, s1, s2, s3, s4⟩ := st1.fill 0 rfl (n := 4) (l' := qg nd) rfl rfl (by simp [qg, okC])
 have st2 : St m0 m2 [(m'.n, qg nd)] := s2
 have hlm : blk lv ≠ some m'.n := fun h => by have := hlv _ h; omega
 have h2 : CGR m0 m' lv l lv m2 := ((CGR.refl hE' hg).step E1).away st2.ext (by omega) (P := m'.n) (qah _) hlm fun B _ hB => s4 B hB
 have n2 : m2.n = m'.n + 1 := by omega
 have l2 : ∀ o s, load1 m2 ⟨m'.n, o, s⟩ = (qg nd)[o]? := fun o s => (st2.get 0 rfl).2.2.load1 o s
 have l2n : loads m2 ⟨m'.n, 0, none⟩ 4 = some (qg nd) := (st2.get 0 rfl).2.2.loads (n := 4) (by simp [qg])
 have hO : ww e (f + 1) l i = if nd.op = 2 then l ++ [nd] else if nd.op ≤ 5 then ww e f l nd.a.toNat ++ [⟨nd.op, zU, ((ww e f l nd.a.toNat).length : Int) - 1, 0⟩]
   else ww e f (ww e f l nd.a.toNat) nd.b.toNat ++ [⟨nd.op, zU, ((ww e f l nd.a.toNat).length : Int) - 1, ((ww e f (ww e f l nd.a.toNat) nd.b.toNat).length : Int) - 1⟩] := by
  conv => lhs; unfold ww
  rw [hv, hn]
 have hn1 : nd.op ≠ 1 := fun h => by
  unfold wJ at hv; rw [hn] at hv; simp [h] at hv
 rw [hO]
 clear hO
 obtain ⟨op, val, na, nb⟩ := nd
 have hrow : qg ⟨op, val, na, nb⟩ = [.int .i64 op, uv val.1, .int .i64 na, .int .i64 nb] := rfl
 simp only [qg] at a2' s1 l2 l2n
 simp only
 simp only at hn1
 by_cases h2' : op = 2
 ·have e2 : decide (op = 2) = true := decide_eq_true h2'
  rw [if_pos h2']
  obtain ⟨m3, hm3⟩ := qb8 (Dx.newRow m2 [.int .i64 op, uv val.1, .int .i64 na, .int .i64 nb])
  have b1 := bS1 op na nb val.1 m2
  rw [← hm3] at b1
  have hs1 : 1 ≤ szN e (f + 1) i := by
   unfold szN; rw [hn]; simp only; rw [if_pos (by omega)]; exact qah _
  obtain ⟨v4, m4, p1, p2⟩ := h2.push hb (m'' := m3) (by rw [hm3]; exact Ext.row _ _) (n := ⟨op, val, na, nb⟩) (X := m2.n) (sp := some 9) (by rw [hm3, hrow]; exact kl m2 _ 0 4 (by simp)) (by omega)
  simp [g1, wZ, a1, a2', qf, ← hm1, s1, l2, e2, l2n, b1, p1]
  exact gG (by simpa using hc'.trans p2)
 have e2 : decide (op = 2) = false := decide_eq_false h2'
 rw [if_neg h2']
 have hA' := bP hokn
 simp only at hA'
 obtain ⟨A, rfl⟩ : ∃ A : Nat, na = A := ⟨na.toNat, by omega⟩
 have hA : A < i := by omega
 rw [qat]
 have hL := zW hok f A l (by omega) (by omega)
 obtain ⟨x1, hx1, hx1n⟩ := hL.pre
 have hx1l := hL.len
 have hszA : l.length + (1 + szN e f A) ≤ 65536 := by
  by_cases h5 : op ≤ 5
  ·have := yI (f := f) hn (by simp only; omega) h5
   simp only [qat] at this; omega
  ·have := xK (f := f) hn (by simp only; omega)
   simp only [qat] at this; omega
 obtain ⟨v3, m3, c1, c2⟩ := ih A l (by omega) (by omega) (by omega) N hN m0 m2 lv hb h2.ext hed h2.gr
 rw [hx1] at c2 hx1l ⊢
 have h3 := h2.trans c2
 have st3 := st2.keepOn c2.ext c2.n fun p hp => by
  rw [qal.1 hp]; exact c2.obj m'.n (by omega) hlm
 have n3 := c2.n
 have hl1 : (l ++ x1).length = l.length + x1.length := qao
 have hx1p : 0 < x1.length := qb4.2 hx1n
 obtain ⟨L1, hL1⟩ := qb8 ((l ++ x1).length)
 have hlen3 : qL v3 = some (.int .i64 (L1 : Int)) := by rw [hL1]; exact c2.gr.lens
 have hlen0 : qL lv = some (.int .i64 (l.length : Int)) := hg.lens
 have l3 : ∀ o s, load1 m3 ⟨m'.n, o, s⟩ = [Value.int .i64 op, uv val.1, .int .i64 (A : Int), .int .i64 nb][o]? := fun o s => (st3.get 0 rfl).2.2.load1 o s
 obtain ⟨q, hq⟩ : ∃ q : Int, q = (L1 : Int) - 1 := ⟨_, rfl⟩
 have w1 : IntKind.i64.wrap ((L1 : Int) - 1) = q := by rw [wrap64 _ (by omega) (by omega), hq]
 have b1 : wn zNd [(0, 1, .int .i64 op), (2, 1, .int .i64 q)] = some (.agg ⟨opR op q 0⟩) := rfl
 have st4 := st3.row zNd
 obtain ⟨m4, hm4⟩ := qb8 (Dx.newRow m3 zNd)
 have n4 : m4.n = m3.n + 1 := by rw [hm4, qm]
 have E4 : Ext m3 m4 := by rw [hm4]; exact Ext.row _ _
 rw [← hm4] at st4
 obtain ⟨m5, u1, u2, u3, u4⟩ := st4.fill 0 rfl (n := 4) (l' := opR op q 0) rfl rfl (by simp [okC])
 have st5 : St m0 m5 [(m3.n, opR op q 0), (m'.n, qg ⟨op, val, (A : Int), nb⟩)] := u2
 have hv3 : ∀ B, blk v3 = some B → B < m3.n := fun B hB => (c2.gr.low B hB).2
 have hv3m : blk v3 ≠ some m'.n := fun h => by
  rcases c2.low _ h with h | h
  ·exact hlm h
  ·omega
 have hv33 : blk v3 ≠ some m3.n := fun h => by have := hv3 _ h; omega
 have h5 : CGR m0 m' lv (l ++ x1) v3 m5 := (h3.step E4).away st5.ext (by omega) (P := m3.n) (by omega) hv33 fun B _ hB => u4 B hB
 have l5 : ∀ o s, load1 m5 ⟨m'.n, o, s⟩ = [Value.int .i64 op, uv val.1, .int .i64 (A : Int), .int .i64 nb][o]? := fun o s => (st5.get 1 rfl).2.2.load1 o s
 by_cases h5' : op ≤ 5
 ·have e6 : (6 ≤ op) = False := eq_false (by omega)
  rw [if_pos h5']
  rw [← hL1, ← hq]
  have l5n : loads m5 ⟨m3.n, 0, none⟩ 4 = some (opR op q 0) := (st5.get 0 rfl).2.2.loads (n := 4) (by simp)
  obtain ⟨m6, hm6⟩ := qb8 (Dx.newRow m5 (opR op q 0))
  have b2 := bS1 op q 0 0 m5
  rw [← hm6] at b2
  obtain ⟨v7, m7, p1, p2⟩ := h5.push hb (m'' := m6) (by rw [hm6]; exact Ext.row _ _) (n := ⟨op, zU, q, 0⟩) (X := m5.n) (sp := some 9) (by rw [hm6, GV]; exact kl m5 _ 0 4 (by simp)) (by omega)
  simp [g1, wZ, a1, a2', qf, ← hm1, s1, l2, e2, c1, l3, hlen3, w1, b1, ← hm4, u1, l5, e6, l5n, b2, p1]
  exact gG (by simpa using hc'.trans p2)
 ·have e6 : (6 ≤ op) = True := eq_true (by omega)
  rw [if_neg h5']
  obtain ⟨B, rfl⟩ : ∃ B : Nat, nb = B := ⟨nb.toNat, by omega⟩
  have hB : B < i := by omega
  rw [qat]
  have hszB : l.length + (1 + szN e f A + szN e f B) ≤ 65536 := by
   have := xK (f := f) hn (by simp only; omega)
   simp only [qat] at this; omega
  have hLB := zW hok f B (l ++ x1) (by omega) (by omega)
  obtain ⟨x2, hx2, hx2n⟩ := hLB.pre
  have hx2l := hLB.len
  obtain ⟨v6, m6, d1, d2⟩ := ih B (l ++ x1) (by omega) (by omega) (by omega) N hN m0 m5 v3 hb h5.ext hed h5.gr
  have hx2' : ww e f (l ++ x1) B = l ++ (x1 ++ x2) := by rw [hx2, qb2]
  rw [hx2'] at d2 hx2l ⊢
  have h6 := h5.trans d2
  have hlen6' : (l ++ (x1 ++ x2)).length = l.length + x1.length + x2.length := by simp; omega
  have hx2p : 0 < x2.length := qb4.2 hx2n
  obtain ⟨L2, hL2⟩ := qb8 ((l ++ (x1 ++ x2)).length)
  have hlen6 : qL v6 = some (.int .i64 (L2 : Int)) := by rw [hL2]; exact d2.gr.lens
  obtain ⟨q2, hq2⟩ : ∃ q : Int, q = (L2 : Int) - 1 := ⟨_, rfl⟩
  have w2 : IntKind.i64.wrap ((L2 : Int) - 1) = q2 := by rw [wrap64 _ (by omega) (by omega), hq2]
  have st6 := st5.keepOn d2.ext d2.n fun p hp => by
   simp at hp
   rcases hp with rfl | rfl
   ·exact d2.obj m3.n (by omega) hv33
   ·exact d2.obj m'.n (by omega) hv3m
  have hv63 : blk v6 ≠ some m3.n := fun h => by
   rcases d2.low _ h with h | h
   ·exact hv33 h
   ·omega
  have hv6m : blk v6 ≠ some m'.n := fun h => by
   rcases d2.low _ h with h | h
   ·exact hv3m h
   ·omega
  obtain ⟨m7, y1, y2, y3, y4⟩ := st6.store 0 rfl (o := 3) (v := .int .i64 q2) (by simp) rfl
  have st7 : St m0 m7 [(m3.n, opR op q q2), (m'.n, qg ⟨op, val, (A : Int), (B : Int)⟩)] := y2
  have h7 : CGR m0 m' lv (l ++ (x1 ++ x2)) v6 m7 := h6.away st7.ext (by omega) (P := m3.n) (by omega) hv63 fun X _ hX => y4 X hX
  rw [← hL1, ← hq, ← hL2, ← hq2]
  have l7n : loads m7 ⟨m3.n, 0, none⟩ 4 = some (opR op q q2) := (st7.get 0 rfl).2.2.loads (n := 4) (by simp)
  obtain ⟨m8, hm8⟩ := qb8 (Dx.newRow m7 (opR op q q2))
  have b2 := bS1 op q q2 0 m7
  rw [← hm8] at b2
  obtain ⟨v9, m9, p1, p2⟩ := h7.push hb (m'' := m8) (by rw [hm8]; exact Ext.row _ _) (n := ⟨op, zU, q, q2⟩) (X := m7.n) (sp := some 9) (by rw [hm8, GV]; exact kl m7 _ 0 4 (by simp)) (by omega)
  simp [g1, wZ, a1, a2', qf, ← hm1, s1, l2, e2, c1, l3, hlen3, w1, b1, ← hm4, u1, l5, e6, d1, hlen6, w2, y1, l7n, b2, p1]
  exact gG (by simpa using hc'.trans p2)
end Go.Sx
namespace Go.Sx
open Go.Dx Go.Proofs
set_option maxRecDepth 10000
section
variable {e : List Nd} (h : qD 24 e = true)
include h
theorem GP (ed : Value) (F : Nat) (hF : 65550 ≤ F) (m : M) (hm : m.base ≤ m.n) (hed : Rd m ed 4 qg e) : Dx.Call (ex Tryz.prog F) 27 [ed] m fun v m' => GrR m m' v 4 qg (ww e e.length [] (e.length - 1)) := by
 obtain ⟨x1, x2, x3⟩ := wR h
 obtain ⟨N, rfl⟩ : ∃ N, F = N + e.length + 1 := ⟨F - e.length - 1, by omega⟩
 refine qp Bp (by simp) ?_
 obtain ⟨v, m', c1, c2⟩ := fold_c e ed x2 x3 e.length (e.length - 1) [] (by omega) (by omega) (by rw [xB h]; simp; omega) N (by omega) m m (.slice none 0 0) hm (Ext.refl m) hed GrR.nil
 rw [(Zt x3 e.length (e.length - 1) [] (by omega) (by omega)).1] at c2
 have hel := hed.len
 obtain ⟨n, hn⟩ := qb8 (e.length - 1)
 have w : IntKind.i64.wrap ((e.length : Int) - 1) = (n : Int) := by rw [wrap64 _ (by omega) (by omega)]; omega
 rw [← hn] at c1 c2 ⊢
 have e0 : (e = []) = False := eq_false fun h => by rw [h] at x1; simp at x1
 simp [hel, w, c1, e0]
 refine qh c2.ext ?_
 simp only [fx, reduceIte]
 exact c2.gr
theorem KW (ed : Value) (F : Nat) (hF : 131080 ≤ F) (m : M) (hm : m.base ≤ m.n) (hed : Rd m ed 4 qg e) : Dx.Call (ex Tryz.prog F) 29 [ed] m fun v m' => GrR m m' v 4 qg (ww e e.length [] (e.length - 1)) := by
 obtain ⟨x1, x2, x3⟩ := wR h
 obtain ⟨N, rfl⟩ : ∃ N, F = N + e.length + 1 := ⟨F - e.length - 1, by omega⟩
 refine qp FJ (by simp) ?_
 obtain ⟨v, m', c1, c2⟩ := lay_c e ed x2 x3 e.length (e.length - 1) [] (by omega) (by omega) (by rw [xB h]; simp; omega) N (by omega) m m (.slice none 0 0) hm (Ext.refl m) hed GrR.nil
 have hel := hed.len
 obtain ⟨n, hn⟩ := qb8 (e.length - 1)
 have w : IntKind.i64.wrap ((e.length : Int) - 1) = (n : Int) := by rw [wrap64 _ (by omega) (by omega)]; omega
 rw [← hn] at c1 c2 ⊢
 have e0 : (e = []) = False := eq_false fun h => by rw [h] at x1; simp at x1
 simp [hel, w, c1, e0]
 refine qh c2.ext ?_
 simp only [fx, reduceIte]
 exact c2.gr
end
end Go.Sx
namespace Go.Dx
theorem Kd {α : Type} {m : M} {w : Value} {e X : Nat} {f : α → List Value} {ms : List α} (hX : Arr m X []) (h : Rd m w e f ms) (hne : ms ≠ []) (bytes : Nat) (hb : ms.length * bytes ≤ qW) (hn : ms.length ≤ 4611686018427387904) :
  qS m e bytes (.slice (some ⟨X, 0, some (code e true)⟩) 0 0) w = some (.slice (some ⟨m.n, 0, some (code e false)⟩) ms.length ms.length, newRow m (ms.flatMap f)) := by
 have hpos := qb4.2 hne
 show ob (lenV w) _ = _
 rw [h.lenV, qy]
 show ob (qI m e ms.length w) _ = _
 rw [h.all, qy]
 unfold vt
 have h1 : Nat.ble (0 + ms.length) 0 = false := by
  cases q : Nat.ble (0 + ms.length) 0 with
  | false => rfl
  | true => have := qan q; omega
 rw [h1, cond_false, Nat.zero_add, qam hb, qam hn]
 show ob (qI m e 0 (.slice (some ⟨X, 0, some (code e true)⟩) 0 0)) _ = _
 have h2 : qI m e 0 (.slice (some ⟨X, 0, some (code e true)⟩) 0 0) = some [] := by
  show loads m _ (0 * e) = _
  rw [Nat.zero_mul, hX.loads (by simp)]; rfl
 rw [h2]
 have hx : jS (code e true) = true := by
  show Nat.beq ((2 * e + 1) % 2) 1 = true
  rw [show (2 * e + 1) % 2 = 1 by omega]; rfl
 show jC m e ms.length (some ⟨X, 0, some (code e true)⟩) ([] ++ ms.flatMap f) = _
 unfold jC
 show ob (some (code e true)) _ = _
 rw [qy, hx, cond_true]; rfl
theorem dT {α : Type} {m : M} (hm : m.base ≤ m.n) {v : Value} {e : Nat} {f : α → List Value} (h : Rd m v e f ([] : List α)) (bytes : Nat) :
  qS (newRow m []) e bytes (.slice (some ⟨m.n, 0, some (code e true)⟩) 0 0) v = some (.slice (some ⟨m.n, 0, some (code e true)⟩) 0 0, newRow m []) := by
 have h' := h.sees ((Sees.refl hm).ext (Ext.row m []))
 show ob (lenV v) _ = _
 rw [h.lenV, qy]
 show ob (qI (newRow m []) e 0 v) _ = _
 rw [show qI (newRow m []) e 0 v = some [] from h'.all, qy]
 rfl
end Go.Dx
namespace Go.Sx
open Go.Dx Go.Proofs
set_option maxRecDepth 10000
theorem JX (u : U) : ∀ v ∈ kJ u, Dx.okC v = true := by intro v hv; simp [kJ] at hv; subst hv; rfl
def Words (m0 m : M) (v : Value) (L : List U) : Prop := Grown m0 m v 1 kJ L ∨ (L = [] ∧ ∃ B, m0.n ≤ B ∧ B < m.n ∧ v = .slice (some ⟨B, 0, some (code 1 true)⟩) 0 0 ∧ Arr m B [])
section
variable {m0 m m' : M} {v : Value} {L : List U}
theorem Words.keep (h : Words m0 m v L) (hE : Ext m m') : Words m0 m' v L := by
 rcases h with h | ⟨h1, B, h2, h3, h4, h5⟩
 ·exact .inl (h.ext hE)
 ·exact .inr ⟨h1, B, h2, qaj h3 hE.n, h4, h5.ext hE h3⟩
theorem Words.rd (h : Words m0 m v L) : Rd m v 1 kJ L := by
 rcases h with h | ⟨rfl, B, h2, h3, rfl, h5⟩
 ·exact h.rd jX
 ·exact kZ (e := 1) (f := kJ) (l := []) jX h5 h3
theorem Words.app (h : Words m0 m v L) (hE : Ext m0 m) (hb : m0.base ≤ m0.n) {w : U} (hl : L.length ≤ 100) :
  ∃ v' m', qS (Dx.newRow m [uv w.1]) 1 8 v (.slice (some ⟨m.n, 0, some 3⟩) 1 1) = some (v', m') ∧ Ext m0 m' ∧ Words m0 m' v' (L ++ [w]) := by
 have E1 := Ext.row m [uv w.1]
 rcases h.keep E1 with h | ⟨rfl, B, h2, h3, rfl, h5⟩
 ·obtain ⟨v', m', p1, p2, p3, _⟩ := h.append (hE.trans E1) hb (by omega) jX JX (x := w) (X := m.n) (sp := some 3) (kl m _ 0 1 (by simp)) (bytes := 8) (by unfold qW; omega) (by omega)
  exact ⟨v', m', p1, p2, .inl p3⟩
 ·have hr : Rd (Dx.newRow m [uv w.1]) (.slice (some ⟨m.n, 0, some 3⟩) 1 1) 1 kJ [w] := kZ (e := 1) (f := kJ) (l := [w]) jX (Arr.row m [uv w.1]) (by rw [qm]; omega)
  have := Kd h5 hr (by simp) 8 (by unfold qW; simp) (by simp)
  refine ⟨_, _, this, (hE.trans E1).trans (Ext.row _ _), .inl (.inr ⟨(Dx.newRow m [uv w.1]).n, by rw [qm]; have := hE.n; omega, by rw [qm (Dx.newRow m [uv w.1])]; omega, by simp, rfl, Arr.row _ _⟩)⟩
end
end Go.Sx
