/- Contracts. -/
import Derived.Test.YtjoapkgigchboaaGb1
import Derived.Test.YtjoapkgigchboaaGa
set_option linter.unusedVariables false
set_option linter.unusedSimpArgs false
set_option linter.defProp false
namespace Go.Dx
structure Rest (N : Nat) (ex : List Nat) (m m' : M) : Prop where
  n : m.n ≤ m'.n
  obj : ∀ B, B < N → B ∉ ex → m'.obj B = m.obj B
  base : m'.base = m.base
  log : m'.log = m.log
section
variable {N : Nat} {ex : List Nat} {a b c m m' : M}
theorem Rest.refl : Rest N ex m m := ⟨Nat.le_refl _, fun _ _ _ => rfl, rfl, rfl⟩
theorem Rest.trans (h : Rest N ex a b) (k : Rest N ex b c) : Rest N ex a c := ⟨Nat.le_trans h.n k.n, fun B hB he => (k.obj B hB he).trans (h.obj B hB he), k.base.trans h.base, k.log.trans h.log⟩
theorem Rd.congr {α : Type} {v : Value} {e : Nat} {f : α → List Value} {es : List α} (h : Rd m v e f es) (hn : m.n ≤ m'.n) (k : ∀ B, blk v = some B → m'.obj B = m.obj B) : Rd m' v e f es := by
  refine ⟨h.len, fun i r hr => ?_, by rw [firsts_congr k]; exact h.all, fun B hB => Nat.lt_of_lt_of_le (h.lt B hB) hn⟩
  obtain ⟨h1, h2, h3⟩ := h.row i r hr
  refine ⟨h1, Nat.lt_of_lt_of_le h2 hn, ?_⟩
  cases v with
  | slice a n c =>
    cases a with
    | none => cases h1
    | some a =>
      rw [← h3]
      unfold loads cellsOf
      rw [show (adr e (.slice (some a) n c) i).block = a.block from rfl, k _ rfl]
  | _ => cases h1
end
end Go.Dx
namespace Go.Dx
@[simp] theorem meets_cons (l : List (Nat × FP)) (x : FP) (i : Nat) (inc : List Nat) : meets l x (i :: inc) = ((match fpAt i l with | some y => FP.meet y x | none => true) && meets l x inc) := rfl
@[simp] theorem fpAt_nil (i : Nat) : fpAt i [] = none := rfl
@[simp] theorem fpAt_cons (i j : Nat) (x : FP) (l : List (Nat × FP)) : fpAt i ((j, x) :: l) = if i = j then some x else fpAt i l := by
  show (bif Nat.beq i j then some x else fpAt i l) = _
  by_cases h : i = j
  · subst h; rw [Nat.beq_refl, if_pos rfl]; rfl
  · rw [if_neg h, beq_ne h]; rfl
@[simp] theorem meet_qq (a b : Option Nat) : FP.meet ⟨a, []⟩ ⟨b, []⟩ = true := rfl
end Go.Dx
namespace Go.Sx
open Go.Dx
theorem nextI {i : Nat} (h : i < 9223372036854775807) : IntKind.i64.wrap ((i : Int) + 1) = ((i + 1 : Nat) : Int) := by rw [wrap64 _ (by omega) (by omega)]; omega
theorem dlt {i n : Nat} (h : i < n) : ((i : Int) < n) = True := eq_true (by omega)
end Go.Sx
namespace Go.Dx
def upN {α : Type} (f : Nat → α) (j : Nat) (v : α) : Nat → α := fun k => if k = j then v else f k
theorem upN_same {α : Type} (f : Nat → α) (j : Nat) (v : α) : upN f j v j = v := by unfold upN; rw [if_pos rfl]
theorem upN_ne {α : Type} (f : Nat → α) {j k : Nat} (v : α) (h : k ≠ j) : upN f j v k = f k := by unfold upN; rw [if_neg h]
theorem idxE {e c : Nat} (B n i : Nat) (h : i < n) : iaddrSV e (.slice (some ⟨B, 0, some c⟩) n n) (.int .i64 i) = some (.pointer (some ⟨B, i * e, none⟩)) := by
  show (bif Nat.blt i n then addA (i * e) ⟨B, 0, some c⟩ else none) = _
  rw [show Nat.blt i n = true from Nat.ble_eq_true_of_le h]
  show some (Value.pointer (some ⟨B, 0 + i * e, none⟩)) = _
  rw [Nat.zero_add]
theorem rd_made {α : Type} {m : M} {B c e : Nat} {f : α → List Value} (hf : ∀ x, (f x).length = e) {l : List α} (h : Arr m B (l.flatMap f)) (hB : B < m.n) : Rd m (.slice (some ⟨B, 0, some c⟩) l.length l.length) e f l := by
  have hlen := flatMap_len hf l
  refine ⟨rfl, fun i r hr => ?_, ?_, fun C hC => by cases hC; exact hB⟩
  · have hi := (List.getElem?_eq_some_iff.1 hr).1
    refine ⟨?_, hB, ?_⟩
    · rw [idxE B _ i hi]
      show _ = some (Value.pointer (some ⟨B, 0 + i * e, none⟩))
      rw [Nat.zero_add]
    · show loads m ⟨B, 0 + i * e, none⟩ e = _
      have := Nat.mul_le_mul_right e (Nat.succ_le_of_lt hi)
      rw [Nat.succ_mul] at this
      rw [Nat.zero_add, h.loads (by omega), flatMap_get hf l i r hr]
  · show loads m _ (l.length * e) = _
    rw [h.loads (by omega), List.drop_zero, ← hlen, List.take_length]
@[simp] theorem pConvI_ap (k : IntKind) (a : V) (t : Tm) : pConvI k a t = convIV k (a t) := _root_.id rfl
end Go.Dx
namespace Go.Dx
section
variable {m0 m m' : M} {σ σ' : List (Nat × List Value)} {k b : Nat} {l : List Value}
theorem St.sub (h : St m0 m σ) (hs : ∀ p ∈ σ', p ∈ σ) (hn : (σ'.map (·.1)).Nodup) : St m0 m σ' := ⟨h.ext, h.base, fun p hp => h.arr p (hs p hp), hn⟩
theorem Grown.low {α : Type} {m0 m0' m : M} {v : Value} {e : Nat} {f : α → List Value} {es : List α} (h : Grown m0 m v e f es) (hn : m0'.n ≤ m0.n) : Grown m0' m v e f es := by
  rcases h with h | ⟨B, h1, h2⟩
  · exact .inl h
  · exact .inr ⟨B, by omega, h2⟩
theorem St.fillAny (h : St m0 m σ) (k : Nat) (hk : σ[k]? = some (b, l)) {n : Nat} {l' : List Value} (hn0 : 0 < n) (hl : l.length = n) (hl' : l'.length = n) (hv : ∀ v ∈ l', okC v = true) :
    ∃ m', storeS n (.pointer (some ⟨b, 0, none⟩)) (.agg ⟨l'⟩) (forAny m) = some (undef, m') ∧ m'.log = [b] ∧ St m0 (Dx.behind m m') (σ.set k (b, l')) ∧ (Dx.behind m m').n = m.n ∧ (∀ X, X ≠ b → (Dx.behind m m').obj X = m.obj X) := by
  obtain ⟨h1, h2, h3⟩ := h.get k hk
  have h3' : Arr (forAny m) b l := h3.congr (forAny_obj m b)
  have e := storeS_arr (n := n) (o := 0) (v := .agg ⟨l'⟩) (l := l') h3' rfl hl' (by omega) hv
  obtain ⟨s1, s2, s3, s4, s5, s6⟩ := stores_putN (o := 0) (l := l') h3' (by omega) hv
  rw [over_fill (by omega)] at s2
  have hlog : (putN (forAny m) b 0 l').log = [b] := by
    obtain ⟨c, hc, hcl⟩ := h3'
    obtain ⟨v0, vs, rfl⟩ : ∃ v0 vs, l' = v0 :: vs := by
      cases l' with
      | nil => simp at hl'; omega
      | cons a b => exact ⟨a, b, rfl⟩
    have : ∃ c', stores (forAny m) ⟨b, 0, none⟩ (v0 :: vs) = some ((forAny m).put b (.cells c')) := by
      have hs : stores (forAny m) ⟨b, 0, none⟩ (v0 :: vs) = ob (oCells ((forAny m).obj b)) fun c => ob (stn c 0 (v0 :: vs)) fun c' => some ((forAny m).put b (.cells c')) := rfl
      rw [hs, hc]
      obtain ⟨c', e', _⟩ := stn_of (vs := v0 :: vs) (o := 0) hcl (by omega) hv
      exact ⟨c', by show ob (stn c 0 (v0 :: vs)) _ = _; rw [e']; rfl⟩
    obtain ⟨c', e'⟩ := this
    have hp : putN (forAny m) b 0 (v0 :: vs) = (forAny m).put b (.cells c') := by unfold putN; rw [e']; rfl
    rw [hp]
    cases m with | mk a nx bs wl =>
    show note nx b [] = [b]
    have h2' : b < nx := h2
    unfold note
    have : Nat.ble nx b = false := by
      cases q : Nat.ble nx b with
      | false => rfl
      | true => exact absurd (Nat.le_of_ble_eq_true q) (by omega)
    rw [this]; rfl
  refine ⟨_, e, hlog, h.put' k hk (by rw [behind_n, s3, forAny_n]) (behind_base _ _) ?_ (fun X hX => by rw [behind_obj, s5 X hX, forAny_obj]) (s2.congr (behind_obj _ _ _)), by rw [behind_n, s3, forAny_n], fun X hX => by rw [behind_obj, s5 X hX, forAny_obj]⟩
  rw [behind_log, hlog]
  refine notes_ge fun B hB => ?_
  rw [List.mem_singleton.1 hB, h.ext.base]
  have := h.base
  omega
end
end Go.Dx
namespace Go.Dx
end Go.Dx
namespace Go.Sx
open Go.Dx
theorem grown_low {α : Type} {m0 m : M} {v : Value} {e : Nat} {f : α → List Value} {es : List α} (h : Grown m0 m v e f es) : ∀ B, blk v = some B → m0.n ≤ B ∧ B < m.n := by
  rcases h with ⟨_, rfl⟩ | ⟨B', h1, h2, _, rfl, _⟩
  · intro B hB; cases hB
  · intro B hB; cases hB; exact ⟨h1, h2⟩
end Go.Sx
namespace Go.Dx
section
variable {m0 m m' : M} {σ : List (Nat × List Value)} {k b : Nat} {l : List Value}
theorem St.fill (h : St m0 m σ) (k : Nat) (hk : σ[k]? = some (b, l)) {n : Nat} {l' : List Value} (hl : l.length = n) (hl' : l'.length = n) (hv : ∀ v ∈ l', okC v = true) :
    ∃ m', storeS n (.pointer (some ⟨b, 0, none⟩)) (.agg ⟨l'⟩) m = some (undef, m') ∧ St m0 m' (σ.set k (b, l')) ∧ m'.n = m.n ∧ ∀ X, X ≠ b → m'.obj X = m.obj X := by
  obtain ⟨h1, h2, h3⟩ := h.get k hk
  have e := storeS_arr (n := n) (o := 0) (v := .agg ⟨l'⟩) (l := l') h3 rfl hl' (by omega) hv
  obtain ⟨_, s2, s3, s4, s5, s6⟩ := stores_putN (o := 0) (l := l') h3 (by omega) hv
  rw [over_fill (by omega)] at s2
  exact ⟨_, e, h.put' k hk s3 s4 (s6 (by have := h.ext.base; have := h.base; omega)) s5 s2, s3, s5⟩
end
theorem Grown.okC {α : Type} {m0 m : M} {v : Value} {e : Nat} {f : α → List Value} {es : List α} (h : Grown m0 m v e f es) : Dx.okC v = true := by
  rcases h with ⟨_, rfl⟩ | ⟨B, _, _, _, rfl, _⟩ <;> rfl
end Go.Dx
namespace Go.Dx
theorem any_call {x : Ex} {g : Nat} {args : List Value} {m : M} {P : Value → M → Prop} (h : Dx.Call x g args (forAny m) P) : ∃ v m', x.f g args (forAny m) = some (v, m') ∧ m'.log = [] ∧ Ext m (behind m m') ∧ P v m' := by
  obtain ⟨v, m', h1, h2, h3⟩ := h
  exact ⟨v, m', h1, by rw [h2.log, forAny_log], h2.behind, h3⟩
theorem Rd.behind {α : Type} {m m' : M} {v : Value} {e : Nat} {f : α → List Value} {l : List α} (h : Rd m' v e f l) : Rd (Dx.behind m m') v e f l := h.congr (by rw [behind_n]; exact Nat.le_refl _) fun B _ => behind_obj _ _ _
end Go.Dx
namespace Go.Dx
noncomputable section
structure GS {α : Type} (m0 m1 m : M) (P2 P3 : Nat) (σ : List (Nat × List Value)) (g : Value) (e : Nat) (f : α → List Value) (rows : List α) : Prop where
  st : St m0 m σ
  rest : Go.Dx.Rest m1.n [P2, P3] m1 m
  low : ∀ p ∈ σ, p.1 = P2 ∨ p.1 = P3 ∨ m1.n ≤ p.1
  m01 : m0.n ≤ m1.n
  m1b : m1.base ≤ m1.n
  gr : Grown m1 m g e f rows
  sep : ∀ B, blk g = some B → m1.n ≤ B ∧ B < m.n ∧ ∀ p ∈ σ, p.1 ≠ B
section
variable {α : Type} {m0 m1 m m' : M} {P2 P3 : Nat} {σ σ' : List (Nat × List Value)} {g : Value} {e : Nat} {f : α → List Value} {rows : List α}
theorem GS.step (h : GS m0 m1 m P2 P3 σ g e f rows) (k : Ext m m') : GS m0 m1 m' P2 P3 σ g e f rows :=
  ⟨h.st.step k, ⟨Nat.le_trans h.rest.n k.n, fun B hB hx => (k.obj B (Nat.lt_of_lt_of_le hB h.rest.n)).trans (h.rest.obj B hB hx), k.base.trans h.rest.base, k.log.trans h.rest.log⟩, h.low, h.m01, h.m1b, h.gr.ext k, fun B hB => let ⟨a, b, c⟩ := h.sep B hB; ⟨a, Nat.lt_of_lt_of_le b k.n, c⟩⟩
theorem GS.sub (h : GS m0 m1 m P2 P3 σ g e f rows) (hs : ∀ p ∈ σ', p ∈ σ) (hn : (σ'.map (·.1)).Nodup) : GS m0 m1 m P2 P3 σ' g e f rows :=
  ⟨h.st.sub hs hn, h.rest, fun p hp => h.low p (hs p hp), h.m01, h.m1b, h.gr, fun B hB => let ⟨a, b, c⟩ := h.sep B hB; ⟨a, b, fun p hp => c p (hs p hp)⟩⟩
theorem GS.row (h : GS m0 m1 m P2 P3 σ g e f rows) (l : List Value) : GS m0 m1 (newRow m l) P2 P3 ((m.n, l) :: σ) g e f rows := by
  have h' := h.step (Ext.row m l)
  refine ⟨h.st.row l, h'.rest, fun p hp => ?_, h.m01, h.m1b, h'.gr, fun B hB => ?_⟩
  · rcases List.mem_cons.1 hp with rfl | hp
    · exact .inr (.inr h.rest.n)
    · exact h.low p hp
  · obtain ⟨a, b, c⟩ := h.sep B hB
    refine ⟨a, by rw [newRow_n]; omega, fun p hp => ?_⟩
    rcases List.mem_cons.1 hp with rfl | hp
    · simp; omega
    · exact c p hp
theorem keys_set {k b : Nat} {l l' : List Value} (hk : σ[k]? = some (b, l)) : (σ.set k (b, l')).map (·.1) = σ.map (·.1) := by
  obtain ⟨hk', hke⟩ := List.getElem?_eq_some_iff.1 hk
  rw [List.map_set]
  show (σ.map (·.1)).set k b = _
  refine List.ext_getElem (by simp) fun i h1 h2 => ?_
  rw [List.getElem_set]
  split
  · subst_vars; simp [hke]
  · rfl
theorem key_mem {k b : Nat} {l l' : List Value} (hk : σ[k]? = some (b, l)) {p : Nat × List Value} (hp : p ∈ σ.set k (b, l')) : ∃ q ∈ σ, q.1 = p.1 := by
  have : p.1 ∈ (σ.set k (b, l')).map (·.1) := List.mem_map.2 ⟨p, hp, rfl⟩
  rw [keys_set hk] at this
  obtain ⟨q, hq, e⟩ := List.mem_map.1 this
  exact ⟨q, hq, e⟩
theorem GS.put (h : GS m0 m1 m P2 P3 σ g e f rows) {k b : Nat} {l l' : List Value} (hk : σ[k]? = some (b, l)) (s2 : St m0 m' (σ.set k (b, l'))) (s3 : m'.n = m.n) (s4 : ∀ X, X ≠ b → m'.obj X = m.obj X) : GS m0 m1 m' P2 P3 (σ.set k (b, l')) g e f rows := by
  have hb := List.mem_of_getElem? hk
  refine ⟨s2, ⟨by rw [s3]; exact h.rest.n, fun B hB hx => ?_, by rw [s2.ext.base, ← h.st.ext.base]; exact h.rest.base, by rw [s2.ext.log, ← h.st.ext.log]; exact h.rest.log⟩, fun p hp => ?_, h.m01, h.m1b, ?_, fun B hB => ?_⟩
  · rw [s4 B ?_]; exact h.rest.obj B hB hx
    rintro rfl
    rcases h.low _ hb with e | e | e
    · simp at hx e; omega
    · simp at hx e; omega
    · simp at e; omega
  · obtain ⟨q, hq, e⟩ := key_mem hk hp
    rw [← e]; exact h.low q hq
  · exact h.gr.keep (by rw [s3]; exact Nat.le_refl _) fun B hB hg => s4 B fun e => (h.sep B hg).2.2 _ hb e.symm
  · obtain ⟨a, b', c⟩ := h.sep B hB
    refine ⟨a, by rw [s3]; exact b', fun p hp => ?_⟩
    obtain ⟨q, hq, e⟩ := key_mem hk hp
    rw [← e]; exact c q hq
theorem GS.store (h : GS m0 m1 m P2 P3 σ g e f rows) (k : Nat) {b o : Nat} {l : List Value} {v : Value} (hk : σ[k]? = some (b, l)) (ho : o < l.length) (hv : okC v = true) :
    ∃ m', storeS 1 (.pointer (some ⟨b, o, none⟩)) v m = some (undef, m') ∧ GS m0 m1 m' P2 P3 (σ.set k (b, l.set o v)) g e f rows ∧ m'.n = m.n ∧ ∀ X, X ≠ b → m'.obj X = m.obj X := by
  obtain ⟨m', s1, s2, s3, s4⟩ := h.st.store k hk ho hv
  exact ⟨m', s1, h.put hk s2 s3 s4, s3, s4⟩
theorem GS.storeAny (h : GS m0 m1 m P2 P3 σ g e f rows) (k : Nat) {b o : Nat} {l : List Value} {v : Value} (hk : σ[k]? = some (b, l)) (ho : o < l.length) (hv : okC v = true) :
    ∃ m', storeS 1 (.pointer (some ⟨b, o, none⟩)) v (forAny m) = some (undef, m') ∧ m'.log = [b] ∧ GS m0 m1 (behind m m') P2 P3 (σ.set k (b, l.set o v)) g e f rows ∧ (behind m m').n = m.n ∧ ∀ X, X ≠ b → (behind m m').obj X = m.obj X := by
  obtain ⟨m', s1, s1', s2, s3, s4⟩ := h.st.storeAny k hk ho hv
  exact ⟨m', s1, s1', h.put hk s2 s3 s4, s3, s4⟩
theorem GS.grow (h : GS m0 m1 m P2 P3 σ g e f rows) {M1 : M} (hM : Ext m M1) {g' : Value} {rows' : List α} (n2 : M1.n ≤ m'.n) (g2 : Grown m1 m' g' e f rows') (eb : m'.base = m.base) (el : m'.log = m.log) (k2 : ∀ B, B < M1.n → blk g ≠ some B → m'.obj B = M1.obj B) (b2 : ∀ B, blk g' = some B → M1.n ≤ B) : GS m0 m1 m' P2 P3 σ g' e f rows' := by
  have hMn := hM.n
  have keep : ∀ B, B < m.n → blk g ≠ some B → m'.obj B = m.obj B := fun B hB hg => (k2 B (by omega) hg).trans (hM.obj B hB)
  have h01 := h.m01
  have low : ∀ B, B < m1.n → blk g ≠ some B := fun B hB hg => by have := (h.sep B hg).1; omega
  have hr := h.rest.n
  refine ⟨⟨⟨by have := h.st.ext.n; omega, fun B hB => ?_, by rw [eb, h.st.ext.base], by rw [el, h.st.ext.log]⟩, h.st.base, fun p hp => ?_, h.st.nd⟩, ⟨by omega, fun B hB hx => ?_, by rw [eb, h.rest.base], by rw [el, h.rest.log]⟩, h.low, h.m01, h.m1b, g2, fun B hB => ?_⟩
  · rw [keep B (by omega) (low B (by omega))]; exact h.st.ext.obj B hB
  · obtain ⟨a, b, c⟩ := h.st.arr p hp
    exact ⟨a, by omega, c.congr (keep p.1 b fun hg => (h.sep _ hg).2.2 p hp rfl)⟩
  · rw [keep B (by omega) (low B hB)]; exact h.rest.obj B hB hx
  · have h1 := b2 B hB
    have h2 := (Go.Sx.grown_low g2 B hB).2
    exact ⟨by omega, h2, fun p hp => by have := (h.st.arr p hp).2.1; omega⟩
theorem GS.appAny (h : GS m0 m1 m P2 P3 σ g e f rows) (he : 0 < e) (hf : ∀ x, (f x).length = e) (hok : ∀ x, ∀ v ∈ f x, okC v = true) {x : α} {M1 : M} (hM : Ext m M1) {X : Nat} {sp : Option Nat} (hx : loads M1 ⟨X, 0, sp⟩ e = some (f x)) {bytes : Nat} (hm : (rows.length + 1) * bytes ≤ most) (hn : rows.length + 1 ≤ 4611686018427387904) :
    ∃ v' m2, appendV (forAny M1) e bytes g (.slice (some ⟨X, 0, sp⟩) 1 1) = some (v', m2) ∧ (m2.log = [] ∨ ∃ B, blk g = some B ∧ m2.log = [B]) ∧ GS m0 m1 (behind M1 m2) P2 P3 σ v' e f (rows ++ [x]) ∧ M1.n ≤ (behind M1 m2).n ∧ (∀ B, B < m.n → blk g ≠ some B → (behind M1 m2).obj B = m.obj B) ∧ (∀ B, blk v' = some B → M1.n ≤ B) := by
  have hMn := hM.n
  have hr := h.rest.n
  have hA : Grown m1 (forAny M1) g e f rows := (h.gr.ext hM).keep (by rw [forAny_n]; exact Nat.le_refl _) fun B _ _ => forAny_obj _ _
  have hx' : loads (forAny M1) ⟨X, 0, sp⟩ e = some (f x) := by rw [loads_any]; exact hx
  obtain ⟨v', m2, h1, h2, h3, h4, h5, h6, h7⟩ := hA.core he hf hok hx' (by rw [forAny_n]; omega) hm hn
  rw [forAny_n] at h3 h6 h7
  have hlog : m2.log = [] ∨ ∃ B, blk g = some B ∧ m2.log = [B] := by
    rcases h5 with h5 | ⟨B, hB, _, h5⟩
    · exact .inl (by rw [h5, forAny_log])
    · refine .inr ⟨B, hB, ?_⟩
      rw [h5, forAny_base, forAny_log]
      have := (h.sep B hB).2.1
      unfold note
      have h' : Nat.ble M1.n B = false := by
        cases q : Nat.ble M1.n B with
        | false => rfl
        | true => exact absurd (Nat.le_of_ble_eq_true q) (by omega)
      rw [h']; rfl
  have k6 : ∀ B, B < M1.n → blk g ≠ some B → (behind M1 m2).obj B = M1.obj B := fun B hB hg => by rw [behind_obj, h6 B hB hg, forAny_obj]
  refine ⟨v', m2, h1, hlog, h.grow hM (by rw [behind_n]; omega) (h2.keep (by rw [behind_n]; exact Nat.le_refl _) fun B _ _ => behind_obj _ _ _) (by rw [behind_base, hM.base]) ?_ k6 h7, by rw [behind_n]; omega, fun B hB hg => (k6 B (by omega) hg).trans (hM.obj B hB), h7⟩
  rw [behind_log, ← hM.log]
  rcases hlog with h' | ⟨B, hB, h'⟩
  · rw [h']; rfl
  · rw [h']
    have := (h.sep B hB).1
    have hb4 := h.rest.base
    show notes M1.base (note M1.base B M1.log) [] = M1.log
    rw [note_ge (by rw [hM.base, hb4]; have := h.m1b; omega)]; rfl
theorem GS.done (h : GS m0 m1 m P2 P3 σ g e f rows) (hne : rows ≠ []) {β : Type} (e' : Nat) (f' : β → List Value) : ∃ B, g = .slice (some ⟨B, 0, some (code e false)⟩) rows.length rows.length ∧ m1.n ≤ B ∧ GS m0 m1 m P2 P3 ((B, rows.flatMap f) :: σ) (.slice none 0 0) e' f' [] := by
  rcases h.gr with ⟨h1, _⟩ | ⟨B, h1, h2, h3, h4, h5⟩
  · exact absurd h1 hne
  · have hs := (h.sep B (by rw [h4]; rfl)).2.2
    refine ⟨B, h4, h1, ⟨h.st.ext, h.st.base, fun p hp => ?_, ?_⟩, h.rest, fun p hp => ?_, h.m01, h.m1b, .nil, fun C hC => by cases hC⟩
    · rcases List.mem_cons.1 hp with rfl | hp
      · exact ⟨by have := h.m01; omega, h2, h5⟩
      · exact h.st.arr p hp
    · rw [List.map_cons, List.nodup_cons]
      refine ⟨fun hm => ?_, h.st.nd⟩
      obtain ⟨p, hp, e⟩ := List.mem_map.1 hm
      exact hs p hp e
    · rcases List.mem_cons.1 hp with rfl | hp
      · exact .inr (.inr h1)
      · exact h.low p hp
end
end
end Go.Dx
namespace Go.Dx
section
variable {α β : Type} {m0 m1 m m' : M} {P2 P3 : Nat} {σ : List (Nat × List Value)} {g : Value} {e e' : Nat} {f : α → List Value} {f' : β → List Value} {rows : List α}
end
end Go.Dx
namespace Go.Dx
def FinR (P : Value → M → Prop) : Option Out → Prop := fun o => ∃ v m', ob o outV = some (v, m') ∧ P v m'
theorem call_fin {P : Program} {g : Nat} {c : SC} {nt : Nat} {res : List RV} {n : Nat} {args : List Value} {m : M} {Q : Value → M → Prop} (hd : fnOf P g = some ⟨c, nt, res⟩) (ha : args.length ≤ nt)
    (h : FinR Q (c (ex P n) (resK res) noK (resK res) (initT .blank 0 args) m)) : ∃ v m', (ex P (n + 1)).f g args m = some (v, m') ∧ Q v m' := by
  obtain ⟨v, m', e, h2⟩ := h
  exact ⟨v, m', by rw [ex_f hd, callF_ap _ _ _ _ _ _ ha]; exact e, h2⟩
theorem fin_0 {m : M} {Q : Value → M → Prop} {t : Tm} (hq : Q (tupV []) m) : FinR Q (resK [] t m) := by
  refine ⟨tupV [], m, ?_, hq⟩
  rw [resK_ap, show resV t m [] = some [] from rfl, ob_some', fin_out]
section
variable {α : Type} {m0 m1 m m' : M} {P2 P3 : Nat} {σ σ' : List (Nat × List Value)} {g : Value} {e : Nat} {f : α → List Value} {rows : List α}
theorem GS.storeN (h : GS m0 m1 m P2 P3 σ g e f rows) (k : Nat) {b o n : Nat} {l l' : List Value} (hk : σ[k]? = some (b, l)) (hl' : l'.length = n) (hn : o + n ≤ l.length) (hv : ∀ v ∈ l', okC v = true) :
    ∃ m', storeS n (.pointer (some ⟨b, o, none⟩)) (.agg ⟨l'⟩) m = some (undef, m') ∧ GS m0 m1 m' P2 P3 (σ.set k (b, over l o l')) g e f rows ∧ m'.n = m.n ∧ ∀ X, X ≠ b → m'.obj X = m.obj X := by
  obtain ⟨h1, h2, h3⟩ := h.st.get k hk
  have e := storeS_arr (n := n) (o := o) (v := .agg ⟨l'⟩) (l := l') h3 rfl hl' hn hv
  obtain ⟨_, s2, s3, s4, s5, s6⟩ := stores_putN (o := o) (l := l') h3 (by omega) hv
  have hs := h.st.put' k hk s3 s4 (s6 (by have := h.st.ext.base; have := h.st.base; omega)) s5 s2
  exact ⟨_, e, h.put hk hs s3 s5, s3, s5⟩
end
end Go.Dx
namespace Go.Dx
section
variable {m0 m m' : M} {σ : List (Nat × List Value)} {k b o : Nat} {l : List Value}
end
end Go.Dx
namespace Go.Sx
open Go.Dx
end Go.Sx
namespace Go.Dx
theorem ret_cell {m0 m : M} {Q : Value → M → Prop} {t : Tm} {p n : Nat} {a : Addr} {l1 : List Value} (h1 : Tm.get p t = .pointer (some a)) (h2 : loads m a n = some l1) (he : Ext m0 m) (hq : Q (.agg ⟨l1⟩) m) : Ret m0 Q (resK [.cell p n] t m) := by
  refine ret_of (l := [.agg ⟨l1⟩]) ?_ he hq
  simp only [resV, resOne, h1, vPtr_ptr, ob_some', h2]
end Go.Dx
namespace Go.Sx
open Go.Dx Go.Proofs
set_option maxRecDepth 10000
abbrev iv (n : Int) : Value := .int .i64 n
abbrev wv (n : Int) : Value := .int .u32 n
structure Fld where
  at_ : Int
  width : Int
  lo : Int
  hi : Int
  step : Int
  turned : Bool
  deriving DecidableEq
def fldL (f : Fld) : List Value := [iv f.at_, iv f.width, iv f.lo, iv f.hi, iv f.step, .bool f.turned]
abbrev z6 : List Value := [.int .i64 0, .int .i64 0, .int .i64 0, .int .i64 0, .int .i64 0, .bool false]
def fld0 : Fld := ⟨0, 0, 0, 0, 0, false⟩
def wholeF (a : Int) : Fld := ⟨a, 5, 0, 31, 1, false⟩
def regF (a : Int) : Fld := ⟨a, 5, 0, 30, 1, false⟩
def numF (a w h s : Int) : Fld := ⟨a, w, 0, h, s, false⟩
theorem whole_c (n : Nat) (a : Int) (m : M) (hm : m.base ≤ m.n) : CallV (ex Try.prog (n + 1)) 66 [iv a] m (.agg ⟨fldL (wholeF a)⟩) := by
  refine call_ret dd2_ok (by simp) ?_
  have b : buildV z6 [(0, 1, iv a), (1, 1, .int .i64 5), (3, 1, .int .i64 31), (4, 1, .int .i64 1)] = some (.agg ⟨fldL (wholeF a)⟩) := rfl
  obtain ⟨m2, s1, s2, s3, s4, s5⟩ := local_fill' (m := m) hm (zs := z6) (l := fldL (wholeF a)) (v := .agg ⟨fldL (wholeF a)⟩) (n := 6) rfl rfl rfl (by simp [fldL, okC])
  simp [b, s1]
  exact ret_cell (a := ⟨m.n, 0, none⟩) (by simp) (s3 none) s4 rfl
theorem reg_c (n : Nat) (a : Int) (m : M) (hm : m.base ≤ m.n) : CallV (ex Try.prog (n + 1)) 68 [iv a] m (.agg ⟨fldL (regF a)⟩) := by
  refine call_ret dd4_ok (by simp) ?_
  have b : buildV z6 [(0, 1, iv a), (1, 1, .int .i64 5), (3, 1, .int .i64 30), (4, 1, .int .i64 1)] = some (.agg ⟨fldL (regF a)⟩) := rfl
  obtain ⟨m2, s1, s2, s3, s4, s5⟩ := local_fill' (m := m) hm (zs := z6) (l := fldL (regF a)) (v := .agg ⟨fldL (regF a)⟩) (n := 6) rfl rfl rfl (by simp [fldL, okC])
  simp [b, s1]
  exact ret_cell (a := ⟨m.n, 0, none⟩) (by simp) (s3 none) s4 rfl
theorem number_c (n : Nat) (a w h s : Int) (m : M) (hm : m.base ≤ m.n) : CallV (ex Try.prog (n + 1)) 67 [iv a, iv w, iv h, iv s] m (.agg ⟨fldL (numF a w h s)⟩) := by
  refine call_ret dd3_ok (by simp) ?_
  have b : buildV z6 [(0, 1, iv a), (1, 1, iv w), (3, 1, iv h), (4, 1, iv s)] = some (.agg ⟨fldL (numF a w h s)⟩) := rfl
  obtain ⟨m2, s1, s2, s3, s4, s5⟩ := local_fill' (m := m) hm (zs := z6) (l := fldL (numF a w h s)) (v := .agg ⟨fldL (numF a w h s)⟩) (n := 6) rfl rfl rfl (by simp [fldL, okC])
  simp [b, s1]
  exact ret_cell (a := ⟨m.n, 0, none⟩) (by simp) (s3 none) s4 rfl
end Go.Sx
namespace Go.Dx
noncomputable section
def mkmapS (m : M) : Option (Value × M) := some (.map (some m.n), m.alloc (.map []))
def lkS (z : Value) (ok : Bool) (x k : Value) (m : M) : Option (Value × M) := bif isInt k then ob (mapOf m x) fun es => ob (mapFind k es) fun r => some (found z ok r, m) else none
def mupS (x k v : Value) (m : M) : Option (Value × M) := ob (vMap x) fun B => ob (oMap (m.obj B)) fun es => ob (mapPut k v es) fun es' => some (undef, m.put B (.map es'))
@[simp] theorem mMkmap_ap (X : Ex) (t : Tm) (m : M) : mMkmap X t m = mkmapS m := _root_.id rfl
@[simp] theorem mLookup_ap (z : Value) (ok : Bool) (x k : V) (X : Ex) (t : Tm) (m : M) : mLookup z ok x k X t m = lkS z ok (x t) (k t) m := _root_.id rfl
@[simp] theorem mMapup_ap (x k v : V) (X : Ex) (t : Tm) (m : M) : mMapup x k v X t m = mupS (x t) (k t) (v t) m := _root_.id rfl
theorem Ext.allocO (m : M) (o : DObj) : Ext m (m.alloc o) := ⟨by rw [M.n_alloc]; omega, fun B hB => by rw [M.obj_alloc, if_neg (by omega)], M.base_alloc _ _, M.log_alloc _ _⟩
theorem Ext.putO {m0 m : M} (h : Ext m0 m) (hb : m0.base ≤ m0.n) {B : Nat} (hB : m0.n ≤ B) (o : DObj) : Ext m0 (m.put B o) :=
  ⟨by rw [M.n_put]; exact h.n, fun X hX => by rw [M.obj_put, if_neg (by omega)]; exact h.obj X hX, by rw [M.base_put, h.base], by rw [log_put_ge (by rw [h.base]; omega), h.log]⟩
theorem mup_at {m : M} {B : Nat} {es es' : List (Value × Value)} {k v : Value} (h : m.obj B = some (.map es)) (hp : mapPut k v es = some es') : mupS (.map (some B)) k v m = some (undef, m.put B (.map es')) := by
  show ob (oMap (m.obj B)) _ = _
  rw [h]
  show ob (mapPut k v es) _ = _
  rw [hp, ob_some']
noncomputable def idxG (len : Nat) (agg : Bool) (esz : Nat) (x i : Value) : Option Value := ob (vNat i) fun n => ob (vAgg x) fun cs => bif Nat.blt n len then aggOr agg ((cs.drop (n * esz)).take esz) else none
@[simp] theorem pShift_ap (op : BinOp) (x y : V) (t : Tm) : pShift op x y t = shV op (x t) (y t) := _root_.id rfl
theorem sh_l {k k' : IntKind} {a b : Int} (hb : 0 ≤ b) : shV .shl (.int k a) (.int k' b) = some (.int k (k.wrap (a * 2 ^ (min b.toNat k.bits)))) := by
  show pureOf (Op.shift .shl k a k' b) = _
  unfold Op.shift
  rw [if_neg (by omega)]; rfl
theorem sh_r {k k' : IntKind} {a b : Int} (hb : 0 ≤ b) : shV .shr (.int k a) (.int k' b) = some (.int k (a.fdiv (2 ^ (min b.toNat k.bits)))) := by
  show pureOf (Op.shift .shr k a k' b) = _
  unfold Op.shift
  rw [if_neg (by omega)]; rfl
theorem pIdx_ap (len : Nat) (agg : Bool) (esz : Nat) (x i : V) (t : Tm) : pIdx len agg esz x i t = idxG len agg esz (x t) (i t) := rfl
section
variable {m0 m m' : M} {σ : List (Nat × List Value)} {k b : Nat} {l : List Value}
theorem putN_log1 {m : M} {b o : Nat} {l l' : List Value} (h3 : Arr (forAny m) b l) (h2 : b < m.n) (hn0 : 0 < l'.length) (ho : o + l'.length ≤ l.length) (hv : ∀ v ∈ l', okC v = true) : (putN (forAny m) b o l').log = [b] := by
  obtain ⟨c, hc, hcl⟩ := h3
  obtain ⟨v0, vs, rfl⟩ : ∃ v0 vs, l' = v0 :: vs := by
    cases l' with
    | nil => simp at hn0
    | cons a b => exact ⟨a, b, rfl⟩
  have : ∃ c', stores (forAny m) ⟨b, o, none⟩ (v0 :: vs) = some ((forAny m).put b (.cells c')) := by
    have hs : stores (forAny m) ⟨b, o, none⟩ (v0 :: vs) = ob (oCells ((forAny m).obj b)) fun c => ob (stn c o (v0 :: vs)) fun c' => some ((forAny m).put b (.cells c')) := rfl
    rw [hs, hc]
    obtain ⟨c', e', _⟩ := stn_of (vs := v0 :: vs) (o := o) hcl ho hv
    exact ⟨c', by show ob (stn c o (v0 :: vs)) _ = _; rw [e']; rfl⟩
  obtain ⟨c', e'⟩ := this
  have hp : putN (forAny m) b o (v0 :: vs) = (forAny m).put b (.cells c') := by unfold putN; rw [e']; rfl
  rw [hp]
  cases m with | mk a nx bs wl =>
  show note nx b [] = [b]
  have h2' : b < nx := h2
  unfold note
  have : Nat.ble nx b = false := by
    cases q : Nat.ble nx b with
    | false => rfl
    | true => exact absurd (Nat.le_of_ble_eq_true q) (by omega)
  rw [this]; rfl
theorem St.fillAt (h : St m0 m σ) (k : Nat) (hk : σ[k]? = some (b, l)) {n o : Nat} {l' : List Value} (hl' : l'.length = n) (ho : o + n ≤ l.length) (hv : ∀ v ∈ l', okC v = true) :
    ∃ m', storeS n (.pointer (some ⟨b, o, none⟩)) (.agg ⟨l'⟩) m = some (undef, m') ∧ St m0 m' (σ.set k (b, over l o l')) ∧ m'.n = m.n ∧ ∀ X, X ≠ b → m'.obj X = m.obj X := by
  obtain ⟨h1, h2, h3⟩ := h.get k hk
  have e := storeS_arr (n := n) (o := o) (v := .agg ⟨l'⟩) (l := l') h3 rfl hl' ho hv
  obtain ⟨_, s2, s3, s4, s5, s6⟩ := stores_putN (o := o) (l := l') h3 (by omega) hv
  exact ⟨_, e, h.put' k hk s3 s4 (s6 (by have := h.ext.base; have := h.base; omega)) s5 s2, s3, s5⟩
theorem St.fillAtAny (h : St m0 m σ) (k : Nat) (hk : σ[k]? = some (b, l)) {n o : Nat} {l' : List Value} (hn0 : 0 < n) (hl' : l'.length = n) (ho : o + n ≤ l.length) (hv : ∀ v ∈ l', okC v = true) :
    ∃ m', storeS n (.pointer (some ⟨b, o, none⟩)) (.agg ⟨l'⟩) (forAny m) = some (undef, m') ∧ m'.log = [b] ∧ St m0 (Dx.behind m m') (σ.set k (b, over l o l')) ∧ (Dx.behind m m').n = m.n ∧ (∀ X, X ≠ b → (Dx.behind m m').obj X = m.obj X) := by
  obtain ⟨h1, h2, h3⟩ := h.get k hk
  have h3' : Arr (forAny m) b l := h3.congr (forAny_obj m b)
  have e := storeS_arr (n := n) (o := o) (v := .agg ⟨l'⟩) (l := l') h3' rfl hl' ho hv
  obtain ⟨s1, s2, s3, s4, s5, s6⟩ := stores_putN (o := o) (l := l') h3' (by omega) hv
  have hlog := putN_log1 (m := m) (o := o) (l' := l') h3' h2 (by omega) (by omega) hv
  refine ⟨_, e, hlog, h.put' k hk (by rw [behind_n, s3, forAny_n]) (behind_base _ _) ?_ (fun X hX => by rw [behind_obj, s5 X hX, forAny_obj]) (s2.congr (behind_obj _ _ _)), by rw [behind_n, s3, forAny_n], fun X hX => by rw [behind_obj, s5 X hX, forAny_obj]⟩
  rw [behind_log, hlog]
  refine notes_ge fun B hB => ?_
  rw [List.mem_singleton.1 hB, h.ext.base]
  have := h.base
  omega
end
end
end Go.Dx
namespace Go.Sx
open Go.Dx Go.Proofs
set_option maxRecDepth 10000
def nearB : Fld := ⟨0, 26, -33554432, 33554431, 1, false⟩
def nearC : Fld := ⟨5, 19, -262144, 262143, 1, false⟩
theorem nearB_c (n : Nat) (m : M) (hm : m.base ≤ m.n) : CallV (ex Try.prog (n + 1)) 69 [.int .i64 0, .int .i64 26] m (.agg ⟨fldL nearB⟩) := by
  refine call_ret dd5_ok (by simp) ?_
  have b : buildV z6 [(0, 1, .int .i64 0), (1, 1, .int .i64 26), (2, 1, .int .i64 (-33554432)), (3, 1, .int .i64 33554431), (4, 1, .int .i64 1)] = some (.agg ⟨fldL nearB⟩) := rfl
  have h1 : shV .shl (.int .i64 (-1)) (.int .i64 25) = some (.int .i64 (-33554432)) := by rw [sh_l (by decide), wrap64 _ (by decide) (by decide)]; rfl
  have h2 : shV .shl (.int .i64 1) (.int .i64 25) = some (.int .i64 33554432) := by rw [sh_l (by decide), wrap64 _ (by decide) (by decide)]; rfl
  have st := (St.nil hm (Ext.refl m)).row z6
  obtain ⟨m2, s1, s0, s2, s3, s4⟩ := st.fillAny 0 rfl (n := 6) (l' := fldL nearB) (by omega) rfl rfl (by simp [fldL, okC])
  simp [b, s1, h1, h2, wrap64, s0]
  exact ret_cell (a := ⟨m.n, 0, none⟩) (by simp) ((s2.get 0 rfl).2.2.loads (o := 0) (n := 6) (by simp [fldL])) s2.ext rfl
theorem nearC_c (n : Nat) (m : M) (hm : m.base ≤ m.n) : CallV (ex Try.prog (n + 1)) 69 [.int .i64 5, .int .i64 19] m (.agg ⟨fldL nearC⟩) := by
  refine call_ret dd5_ok (by simp) ?_
  have b : buildV z6 [(0, 1, .int .i64 5), (1, 1, .int .i64 19), (2, 1, .int .i64 (-262144)), (3, 1, .int .i64 262143), (4, 1, .int .i64 1)] = some (.agg ⟨fldL nearC⟩) := rfl
  have h1 : shV .shl (.int .i64 (-1)) (.int .i64 18) = some (.int .i64 (-262144)) := by rw [sh_l (by decide), wrap64 _ (by decide) (by decide)]; rfl
  have h2 : shV .shl (.int .i64 1) (.int .i64 18) = some (.int .i64 262144) := by rw [sh_l (by decide), wrap64 _ (by decide) (by decide)]; rfl
  have st := (St.nil hm (Ext.refl m)).row z6
  obtain ⟨m2, s1, s0, s2, s3, s4⟩ := st.fillAny 0 rfl (n := 6) (l' := fldL nearC) (by omega) rfl rfl (by simp [fldL, okC])
  simp [b, s1, h1, h2, wrap64, s0]
  exact ret_cell (a := ⟨m.n, 0, none⟩) (by simp) ((s2.get 0 rfl).2.2.loads (o := 0) (n := 6) (by simp [fldL])) s2.ext rfl
def baseL : List Nat := [0, 0xd2800000, 0xf2800000, 0x8b000000, 0xcb000000, 0x8a000000, 0xaa000000, 0xca000000, 0xaa200000, 0x9b007c00, 0x9ac02000, 0x9ac02400, 0x91000000, 0xd1000000, 0xd3400000, 0xd340fc00,
  0xeb00001f, 0x9a9f07e0, 0x14000000, 0x54000000, 0xb4000000, 0xb5000000, 0xf9400000, 0xf9000000, 0xc8dffc00, 0xc89ffc00, 0xc85f7c00, 0xc85ffc00, 0xc8007c00, 0xc800fc00, 0, 0, 0, 0xd4000001, 0,
  0xf8bfc000, 0xc8a07c00, 0xc8e07c00, 0xc8a0fc00, 0xc8e0fc00, 0xf8208000, 0xf8a08000, 0xf8608000, 0xf8e08000, 0xf8200000, 0xf8a00000, 0xf8600000, 0xf8e00000]
def baseN (op : Nat) : Nat := baseL.getD op 0
theorem base_c (n : Nat) (op : Nat) (h : op < 48) (m : M) : CallV (ex Try.prog (n + 1)) 65 [.int .i64 op] m (wv (baseN op)) := by
  refine call_ret dd1_ok (by simp) ?_
  obtain ⟨l, hl⟩ : ∃ l : List Value, l = baseL.map fun x : Nat => wv x := ⟨_, rfl⟩
  have key : idxG 48 false 1 (.agg ⟨l⟩) (.int .i64 op) = some (wv (baseN op)) := by
    have h1 : vNat (.int .i64 op) = some op := rfl
    unfold idxG
    rw [h1, ob_some']
    show ob (some l) _ = _
    rw [ob_some']
    have h2 : Nat.blt op 48 = true := by rw [← Nat.blt_eq] at h; exact h
    rw [h2, cond_true, Nat.mul_one]
    have hlen : op < baseL.length := h
    have h3 : (l.drop op).take 1 = [wv (baseN op)] := by
      rw [hl, List.drop_eq_getElem_cons (by simpa using hlen), List.take_succ_cons, List.take_zero, List.getElem_map]
      unfold baseN
      rw [List.getD_eq_getElem?_getD, List.getElem?_eq_getElem hlen]; rfl
    rw [h3]; rfl
  simp
  rw [show buildV _ _ = some (.agg ⟨l⟩) from by rw [hl]; rfl]
  simp [pIdx_ap, key]
  exact ret_1 (Ext.refl m) (by simp)
def fixL : List (Value × Value) := [(.int .i64 30, wv 3573759423), (.int .i64 31, wv 3573759935), (.int .i64 32, wv 3573751839), (.int .i64 34, wv 3560964096)]
theorem fixed_c (n : Nat) (m : M) (hm : m.base ≤ m.n) : Dx.Call (ex Try.prog (n + 1)) 48 [] m fun v m' => v = .map (some m.n) ∧ m.n < m'.n ∧ m'.obj m.n = some (.map fixL) := by
  refine call_ret dc1_ok (by simp) ?_
  have E0 := Ext.allocO m (.map [])
  have o0 : (m.alloc (.map [])).obj m.n = some (.map []) := by rw [M.obj_alloc, if_pos rfl]
  have u1 := mup_at (k := .int .i64 30) (v := wv 3573759423) o0 (es' := fixL.take 1) rfl
  obtain ⟨m1, hm1⟩ : ∃ m1, m1 = (m.alloc (.map [])).put m.n (.map (fixL.take 1)) := ⟨_, rfl⟩
  have E1 : Ext m m1 := by rw [hm1]; exact E0.putO hm (Nat.le_refl _) _
  have o1 : m1.obj m.n = some (.map (fixL.take 1)) := by rw [hm1, M.obj_put, if_pos rfl]
  rw [← hm1] at u1
  have u2 := mup_at (k := .int .i64 31) (v := wv 3573759935) o1 (es' := fixL.take 2) rfl
  obtain ⟨m2, hm2⟩ : ∃ m2, m2 = m1.put m.n (.map (fixL.take 2)) := ⟨_, rfl⟩
  have E2 : Ext m m2 := by rw [hm2]; exact E1.putO hm (Nat.le_refl _) _
  have o2 : m2.obj m.n = some (.map (fixL.take 2)) := by rw [hm2, M.obj_put, if_pos rfl]
  rw [← hm2] at u2
  have u3 := mup_at (k := .int .i64 32) (v := wv 3573751839) o2 (es' := fixL.take 3) rfl
  obtain ⟨m3, hm3⟩ : ∃ m3, m3 = m2.put m.n (.map (fixL.take 3)) := ⟨_, rfl⟩
  have E3 : Ext m m3 := by rw [hm3]; exact E2.putO hm (Nat.le_refl _) _
  have o3 : m3.obj m.n = some (.map (fixL.take 3)) := by rw [hm3, M.obj_put, if_pos rfl]
  rw [← hm3] at u3
  have u4 := mup_at (k := .int .i64 34) (v := wv 3560964096) o3 (es' := fixL) rfl
  obtain ⟨m4, hm4⟩ : ∃ m4, m4 = m3.put m.n (.map fixL) := ⟨_, rfl⟩
  have E4 : Ext m m4 := by rw [hm4]; exact E3.putO hm (Nat.le_refl _) _
  have o4 : m4.obj m.n = some (.map fixL) := by rw [hm4, M.obj_put, if_pos rfl]
  rw [← hm4] at u4
  have hn4 : m.n < m4.n := by rw [hm4, M.n_put, hm3, M.n_put, hm2, M.n_put, hm1, M.n_put, M.n_alloc]; omega
  simp [mkmapS, u1, u2, u3, u4]
  exact ret_1 E4 ⟨by simp, hn4, o4⟩
end Go.Sx
namespace Go.Sx
open Go.Dx Go.Proofs
set_option maxRecDepth 10000
def turnF : Fld := ⟨12, 4, 0, 13, 1, true⟩
def rowC (w : Nat) (fs : List Fld) : List Value := wv w :: fs.flatMap fldL
def row0 : List Value := rowC 0 [fld0, fld0, fld0, fld0, fld0]
theorem row_ok (w : Nat) (fs : List Fld) : ∀ v ∈ rowC w fs, okC v = true := by
  intro v hv
  unfold rowC at hv
  rcases List.mem_cons.1 hv with rfl | h
  · rfl
  · obtain ⟨f, _, hf⟩ := List.mem_flatMap.1 h
    simp only [fldL, List.mem_cons, List.not_mem_nil, or_false] at hf
    rcases hf with rfl | rfl | rfl | rfl | rfl | rfl <;> rfl
theorem base_pos : ∀ op, op < 48 → (1 ≤ op ∧ op ≠ 30 ∧ op ≠ 31 ∧ op ≠ 32 ∧ op ≠ 34) → 0 < baseN op := by decide +kernel
theorem iaF (B i : Nat) (h : i < 5) : iaddrAV 5 6 (.pointer (some ⟨B, 1, none⟩)) (.int .i64 (i : Int)) = some (.pointer (some ⟨B, 1 + i * 6, none⟩)) := by
  rcases (by omega : i = 0 ∨ i = 1 ∨ i = 2 ∨ i = 3 ∨ i = 4) with rfl | rfl | rfl | rfl | rfl <;> rfl
theorem iaF0 (B : Nat) : iaddrAV 5 6 (.pointer (some ⟨B, 1, none⟩)) (.int .i64 0) = some (.pointer (some ⟨B, 1, none⟩)) := rfl
theorem iaF1 (B : Nat) : iaddrAV 5 6 (.pointer (some ⟨B, 1, none⟩)) (.int .i64 1) = some (.pointer (some ⟨B, 7, none⟩)) := rfl
theorem iaF2 (B : Nat) : iaddrAV 5 6 (.pointer (some ⟨B, 1, none⟩)) (.int .i64 2) = some (.pointer (some ⟨B, 13, none⟩)) := rfl
theorem iaF3 (B : Nat) : iaddrAV 5 6 (.pointer (some ⟨B, 1, none⟩)) (.int .i64 3) = some (.pointer (some ⟨B, 19, none⟩)) := rfl
theorem iaF4 (B : Nat) : iaddrAV 5 6 (.pointer (some ⟨B, 1, none⟩)) (.int .i64 4) = some (.pointer (some ⟨B, 25, none⟩)) := rfl
theorem fld_ok (f : Fld) : ∀ v ∈ fldL f, okC v = true := by simp [fldL, okC]
theorem ret_ct1 {m0 m : M} {Q : Value → M → Prop} {t : Tm} {p n r : Nat} {a : Addr} {l1 : List Value} (h1 : Tm.get p t = .pointer (some a)) (h2 : loads m a n = some l1) (he : Ext m0 m) (hq : Q (.tuple #[.agg ⟨l1⟩, Tm.get r t]) m) : Ret m0 Q (resK [.cell p n, .t r] t m) := by
  refine ret_of (l := [.agg ⟨l1⟩, Tm.get r t]) ?_ he hq
  simp only [resV, resOne, h1, vPtr_ptr, ob_some', h2]
set_option maxHeartbeats 1000000 in
theorem row_A (n : Nat) (op : Nat) (h : 1 ≤ op ∧ op ≤ 2) (m : M) (hm : m.base ≤ m.n) : CallV (ex Try.prog (n + 2)) 49 [.int .i64 op] m (.tuple #[.agg ⟨rowC (baseN op) [wholeF 0, fld0, fld0, numF 5 16 65535 1, numF 21 2 3 1]⟩, .bool true]) := by
  refine call_ret dc2_ok (by simp) ?_
  have st0 := (St.nil hm (Ext.refl m)).row row0
  obtain ⟨v1, m1, a1, a2, rfl⟩ := base_c n op (by omega) (Dx.newRow m row0)
  have a1' : (ex Try.prog (n + 1)).f 65 [.int .i64 op] (Dx.newRow m [.int .u32 0, .int .i64 0, .int .i64 0, .int .i64 0, .int .i64 0, .int .i64 0, .bool false, .int .i64 0, .int .i64 0, .int .i64 0, .int .i64 0, .int .i64 0, .bool false, .int .i64 0, .int .i64 0, .int .i64 0, .int .i64 0, .int .i64 0, .bool false, .int .i64 0, .int .i64 0, .int .i64 0, .int .i64 0, .int .i64 0, .bool false, .int .i64 0, .int .i64 0, .int .i64 0, .int .i64 0, .int .i64 0, .bool false]) = some (wv (baseN op), m1) := a1
  obtain ⟨m2, b1, st2, b2, b3⟩ := (st0.step a2).store 0 rfl (o := 0) (v := wv (baseN op)) (by simp [row0, rowC]) rfl
  have b1' : storeS 1 (.pointer (some ⟨m.n, 0, none⟩)) (wv (baseN op)) m1 = some (undef, m2) := b1
  have l0 := (st2.get 0 rfl).2.2.load1 0 none
  have l0' : load1 m2 ⟨m.n, 0, none⟩ = some (wv (baseN op)) := l0
  obtain ⟨v3, m3, c3a, c3l, c3e, rfl⟩ := any_call (whole_c n 0 (forAny m2) (by rw [forAny_base, forAny_n]; exact Nat.le_refl _))
  have st3 := st2.step c3e
  obtain ⟨v4, m4, c4a, c4l, c4e, rfl⟩ := any_call (number_c n 5 16 65535 1 (forAny (behind m2 m3)) (by rw [forAny_base, forAny_n]; exact Nat.le_refl _))
  have st4 := st3.step c4e
  obtain ⟨v5, m5, c5a, c5l, c5e, rfl⟩ := any_call (number_c n 21 2 3 1 (forAny (behind (behind m2 m3) m4)) (by rw [forAny_base, forAny_n]; exact Nat.le_refl _))
  have st5 := st4.step c5e
  obtain ⟨m6, d6a, d6l, st6, -, -⟩ := st5.fillAtAny 0 rfl (n := 6) (o := 1) (l' := fldL (wholeF 0)) (by omega) rfl (by simp [over_length, rowC, row0, fldL]) (fld_ok _)
  obtain ⟨m7, d7a, d7l, st7, -, -⟩ := st6.fillAtAny 0 rfl (n := 6) (o := 19) (l' := fldL (numF 5 16 65535 1)) (by omega) rfl (by simp [over_length, rowC, row0, fldL]) (fld_ok _)
  obtain ⟨m8, d8a, d8l, st8, -, -⟩ := st7.fillAtAny 0 rfl (n := 6) (o := 25) (l' := fldL (numF 21 2 3 1)) (by omega) rfl (by simp [over_length, rowC, row0, fldL]) (fld_ok _)
  have ll := (st8.get 0 rfl).2.2.loads (o := 0) (n := 31) (s := none) (by simp [over_length, rowC, row0, fldL])
  obtain ⟨L, hL⟩ : ∃ L, L = rowC (baseN op) [wholeF 0, fld0, fld0, numF 5 16 65535 1, numF 21 2 3 1] := ⟨_, rfl⟩
  replace ll : loads (behind (behind (behind (behind (behind (behind m2 m3) m4) m5) m6) m7) m8) ⟨m.n, 0, none⟩ 31 = some L := by rw [ll, hL]; kernel_rfl
  obtain ⟨mZ, hZ⟩ : ∃ mZ, mZ = (behind (behind (behind (behind (behind (behind m2 m3) m4) m5) m6) m7) m8) := ⟨_, rfl⟩
  rw [← hZ] at ll st8
  rw [← hL]
  obtain ⟨mY, e1, stY, -, -⟩ := st8.fill 0 rfl (n := 31) (l' := L) (by simp [over_length, rowC, row0, fldL]) (by rw [hL]; rfl) (by rw [hL]; exact row_ok _ _)
  have l9 := (stY.get 0 rfl).2.2.loads (o := 0) (n := 31) (s := none) (by rw [hL]; exact Nat.le_refl _)
  replace l9 : loads mY ⟨m.n, 0, none⟩ 31 = some L := by rw [l9, List.drop_zero, List.take_of_length_le (by rw [hL]; exact Nat.le_refl _)]
  have hb0 : ((baseN op : Int) = 0) = False := eq_false (by have := base_pos op (by omega) (by omega); omega)
  have hb1 : (baseN op = 0) = False := eq_false (by have := base_pos op (by omega) (by omega); omega)
  have q0 : ((op : Int) < 1) = False := eq_false (by omega)
  have q1 : ((47 : Int) < op) = False := eq_false (by omega)
  have q2 : ((op : Int) ≤ 2) = True := eq_true (by omega)
  simp [a1', b1', l0', hb0, hb1, iaF0, iaF1, iaF2, iaF3, iaF4, q0, q1, q2, c3a, c3l, c4a, c4l, c5a, c5l, d6a, d6l, d7a, d7l, d8a, d8l, loadNS_ptr, ll, e1, ← hZ]
  exact ret_ct1 (a := ⟨m.n, 0, none⟩) (by simp) l9 stY.ext (by simp)
set_option maxHeartbeats 1000000 in
theorem row_B (n : Nat) (op : Nat) (h : 3 ≤ op ∧ op ≤ 11) (m : M) (hm : m.base ≤ m.n) : CallV (ex Try.prog (n + 2)) 49 [.int .i64 op] m (.tuple #[.agg ⟨rowC (baseN op) [wholeF 0, wholeF 5, wholeF 16, fld0, fld0]⟩, .bool true]) := by
  refine call_ret dc2_ok (by simp) ?_
  have st0 := (St.nil hm (Ext.refl m)).row row0
  obtain ⟨v1, m1, a1, a2, rfl⟩ := base_c n op (by omega) (Dx.newRow m row0)
  have a1' : (ex Try.prog (n + 1)).f 65 [.int .i64 op] (Dx.newRow m [.int .u32 0, .int .i64 0, .int .i64 0, .int .i64 0, .int .i64 0, .int .i64 0, .bool false, .int .i64 0, .int .i64 0, .int .i64 0, .int .i64 0, .int .i64 0, .bool false, .int .i64 0, .int .i64 0, .int .i64 0, .int .i64 0, .int .i64 0, .bool false, .int .i64 0, .int .i64 0, .int .i64 0, .int .i64 0, .int .i64 0, .bool false, .int .i64 0, .int .i64 0, .int .i64 0, .int .i64 0, .int .i64 0, .bool false]) = some (wv (baseN op), m1) := a1
  obtain ⟨m2, b1, st2, b2, b3⟩ := (st0.step a2).store 0 rfl (o := 0) (v := wv (baseN op)) (by simp [row0, rowC]) rfl
  have b1' : storeS 1 (.pointer (some ⟨m.n, 0, none⟩)) (wv (baseN op)) m1 = some (undef, m2) := b1
  have l0 := (st2.get 0 rfl).2.2.load1 0 none
  have l0' : load1 m2 ⟨m.n, 0, none⟩ = some (wv (baseN op)) := l0
  obtain ⟨v3, m3, c3a, c3l, c3e, rfl⟩ := any_call (whole_c n 0 (forAny m2) (by rw [forAny_base, forAny_n]; exact Nat.le_refl _))
  have st3 := st2.step c3e
  obtain ⟨v4, m4, c4a, c4l, c4e, rfl⟩ := any_call (whole_c n 5 (forAny (behind m2 m3)) (by rw [forAny_base, forAny_n]; exact Nat.le_refl _))
  have st4 := st3.step c4e
  obtain ⟨v5, m5, c5a, c5l, c5e, rfl⟩ := any_call (whole_c n 16 (forAny (behind (behind m2 m3) m4)) (by rw [forAny_base, forAny_n]; exact Nat.le_refl _))
  have st5 := st4.step c5e
  obtain ⟨m6, d6a, d6l, st6, -, -⟩ := st5.fillAtAny 0 rfl (n := 6) (o := 1) (l' := fldL (wholeF 0)) (by omega) rfl (by simp [over_length, rowC, row0, fldL]) (fld_ok _)
  obtain ⟨m7, d7a, d7l, st7, -, -⟩ := st6.fillAtAny 0 rfl (n := 6) (o := 7) (l' := fldL (wholeF 5)) (by omega) rfl (by simp [over_length, rowC, row0, fldL]) (fld_ok _)
  obtain ⟨m8, d8a, d8l, st8, -, -⟩ := st7.fillAtAny 0 rfl (n := 6) (o := 13) (l' := fldL (wholeF 16)) (by omega) rfl (by simp [over_length, rowC, row0, fldL]) (fld_ok _)
  have ll := (st8.get 0 rfl).2.2.loads (o := 0) (n := 31) (s := none) (by simp [over_length, rowC, row0, fldL])
  obtain ⟨L, hL⟩ : ∃ L, L = rowC (baseN op) [wholeF 0, wholeF 5, wholeF 16, fld0, fld0] := ⟨_, rfl⟩
  replace ll : loads (behind (behind (behind (behind (behind (behind m2 m3) m4) m5) m6) m7) m8) ⟨m.n, 0, none⟩ 31 = some L := by rw [ll, hL]; kernel_rfl
  obtain ⟨mZ, hZ⟩ : ∃ mZ, mZ = (behind (behind (behind (behind (behind (behind m2 m3) m4) m5) m6) m7) m8) := ⟨_, rfl⟩
  rw [← hZ] at ll st8
  rw [← hL]
  obtain ⟨mY, e1, stY, -, -⟩ := st8.fill 0 rfl (n := 31) (l' := L) (by simp [over_length, rowC, row0, fldL]) (by rw [hL]; rfl) (by rw [hL]; exact row_ok _ _)
  have l9 := (stY.get 0 rfl).2.2.loads (o := 0) (n := 31) (s := none) (by rw [hL]; exact Nat.le_refl _)
  replace l9 : loads mY ⟨m.n, 0, none⟩ 31 = some L := by rw [l9, List.drop_zero, List.take_of_length_le (by rw [hL]; exact Nat.le_refl _)]
  have hb0 : ((baseN op : Int) = 0) = False := eq_false (by have := base_pos op (by omega) (by omega); omega)
  have hb1 : (baseN op = 0) = False := eq_false (by have := base_pos op (by omega) (by omega); omega)
  have q0 : ((op : Int) < 1) = False := eq_false (by omega)
  have q1 : ((47 : Int) < op) = False := eq_false (by omega)
  have q2 : ((op : Int) ≤ 2) = False := eq_false (by omega)
  have q3 : ((op : Int) ≤ 11) = True := eq_true (by omega)
  simp [a1', b1', l0', hb0, hb1, iaF0, iaF1, iaF2, iaF3, iaF4, q0, q1, q2, q3, c3a, c3l, c4a, c4l, c5a, c5l, d6a, d6l, d7a, d7l, d8a, d8l, loadNS_ptr, ll, e1, ← hZ]
  exact ret_ct1 (a := ⟨m.n, 0, none⟩) (by simp) l9 stY.ext (by simp)
set_option maxHeartbeats 1000000 in
theorem row_C (n : Nat) (op : Nat) (h : 12 ≤ op ∧ op ≤ 13) (m : M) (hm : m.base ≤ m.n) : CallV (ex Try.prog (n + 2)) 49 [.int .i64 op] m (.tuple #[.agg ⟨rowC (baseN op) [regF 0, regF 5, fld0, numF 10 12 4095 1, fld0]⟩, .bool true]) := by
  refine call_ret dc2_ok (by simp) ?_
  have st0 := (St.nil hm (Ext.refl m)).row row0
  obtain ⟨v1, m1, a1, a2, rfl⟩ := base_c n op (by omega) (Dx.newRow m row0)
  have a1' : (ex Try.prog (n + 1)).f 65 [.int .i64 op] (Dx.newRow m [.int .u32 0, .int .i64 0, .int .i64 0, .int .i64 0, .int .i64 0, .int .i64 0, .bool false, .int .i64 0, .int .i64 0, .int .i64 0, .int .i64 0, .int .i64 0, .bool false, .int .i64 0, .int .i64 0, .int .i64 0, .int .i64 0, .int .i64 0, .bool false, .int .i64 0, .int .i64 0, .int .i64 0, .int .i64 0, .int .i64 0, .bool false, .int .i64 0, .int .i64 0, .int .i64 0, .int .i64 0, .int .i64 0, .bool false]) = some (wv (baseN op), m1) := a1
  obtain ⟨m2, b1, st2, b2, b3⟩ := (st0.step a2).store 0 rfl (o := 0) (v := wv (baseN op)) (by simp [row0, rowC]) rfl
  have b1' : storeS 1 (.pointer (some ⟨m.n, 0, none⟩)) (wv (baseN op)) m1 = some (undef, m2) := b1
  have l0 := (st2.get 0 rfl).2.2.load1 0 none
  have l0' : load1 m2 ⟨m.n, 0, none⟩ = some (wv (baseN op)) := l0
  obtain ⟨v3, m3, c3a, c3l, c3e, rfl⟩ := any_call (reg_c n 0 (forAny m2) (by rw [forAny_base, forAny_n]; exact Nat.le_refl _))
  have st3 := st2.step c3e
  obtain ⟨v4, m4, c4a, c4l, c4e, rfl⟩ := any_call (reg_c n 5 (forAny (behind m2 m3)) (by rw [forAny_base, forAny_n]; exact Nat.le_refl _))
  have st4 := st3.step c4e
  obtain ⟨v5, m5, c5a, c5l, c5e, rfl⟩ := any_call (number_c n 10 12 4095 1 (forAny (behind (behind m2 m3) m4)) (by rw [forAny_base, forAny_n]; exact Nat.le_refl _))
  have st5 := st4.step c5e
  obtain ⟨m6, d6a, d6l, st6, -, -⟩ := st5.fillAtAny 0 rfl (n := 6) (o := 1) (l' := fldL (regF 0)) (by omega) rfl (by simp [over_length, rowC, row0, fldL]) (fld_ok _)
  obtain ⟨m7, d7a, d7l, st7, -, -⟩ := st6.fillAtAny 0 rfl (n := 6) (o := 7) (l' := fldL (regF 5)) (by omega) rfl (by simp [over_length, rowC, row0, fldL]) (fld_ok _)
  obtain ⟨m8, d8a, d8l, st8, -, -⟩ := st7.fillAtAny 0 rfl (n := 6) (o := 19) (l' := fldL (numF 10 12 4095 1)) (by omega) rfl (by simp [over_length, rowC, row0, fldL]) (fld_ok _)
  have ll := (st8.get 0 rfl).2.2.loads (o := 0) (n := 31) (s := none) (by simp [over_length, rowC, row0, fldL])
  obtain ⟨L, hL⟩ : ∃ L, L = rowC (baseN op) [regF 0, regF 5, fld0, numF 10 12 4095 1, fld0] := ⟨_, rfl⟩
  replace ll : loads (behind (behind (behind (behind (behind (behind m2 m3) m4) m5) m6) m7) m8) ⟨m.n, 0, none⟩ 31 = some L := by rw [ll, hL]; kernel_rfl
  obtain ⟨mZ, hZ⟩ : ∃ mZ, mZ = (behind (behind (behind (behind (behind (behind m2 m3) m4) m5) m6) m7) m8) := ⟨_, rfl⟩
  rw [← hZ] at ll st8
  rw [← hL]
  obtain ⟨mY, e1, stY, -, -⟩ := st8.fill 0 rfl (n := 31) (l' := L) (by simp [over_length, rowC, row0, fldL]) (by rw [hL]; rfl) (by rw [hL]; exact row_ok _ _)
  have l9 := (stY.get 0 rfl).2.2.loads (o := 0) (n := 31) (s := none) (by rw [hL]; exact Nat.le_refl _)
  replace l9 : loads mY ⟨m.n, 0, none⟩ 31 = some L := by rw [l9, List.drop_zero, List.take_of_length_le (by rw [hL]; exact Nat.le_refl _)]
  have hb0 : ((baseN op : Int) = 0) = False := eq_false (by have := base_pos op (by omega) (by omega); omega)
  have hb1 : (baseN op = 0) = False := eq_false (by have := base_pos op (by omega) (by omega); omega)
  have q0 : ((op : Int) < 1) = False := eq_false (by omega)
  have q1 : ((47 : Int) < op) = False := eq_false (by omega)
  have q2 : ((op : Int) ≤ 2) = False := eq_false (by omega)
  have q3 : ((op : Int) ≤ 11) = False := eq_false (by omega)
  have q4 : ((op : Int) ≤ 13) = True := eq_true (by omega)
  simp [a1', b1', l0', hb0, hb1, iaF0, iaF1, iaF2, iaF3, iaF4, q0, q1, q2, q3, q4, c3a, c3l, c4a, c4l, c5a, c5l, d6a, d6l, d7a, d7l, d8a, d8l, loadNS_ptr, ll, e1, ← hZ]
  exact ret_ct1 (a := ⟨m.n, 0, none⟩) (by simp) l9 stY.ext (by simp)
set_option maxHeartbeats 1000000 in
theorem row_D (n : Nat) (op : Nat) (h : op = 14) (m : M) (hm : m.base ≤ m.n) : CallV (ex Try.prog (n + 2)) 49 [.int .i64 op] m (.tuple #[.agg ⟨rowC (baseN op) [wholeF 0, wholeF 5, fld0, numF 0 0 63 1, fld0]⟩, .bool true]) := by
  refine call_ret dc2_ok (by simp) ?_
  have st0 := (St.nil hm (Ext.refl m)).row row0
  obtain ⟨v1, m1, a1, a2, rfl⟩ := base_c n op (by omega) (Dx.newRow m row0)
  have a1' : (ex Try.prog (n + 1)).f 65 [.int .i64 op] (Dx.newRow m [.int .u32 0, .int .i64 0, .int .i64 0, .int .i64 0, .int .i64 0, .int .i64 0, .bool false, .int .i64 0, .int .i64 0, .int .i64 0, .int .i64 0, .int .i64 0, .bool false, .int .i64 0, .int .i64 0, .int .i64 0, .int .i64 0, .int .i64 0, .bool false, .int .i64 0, .int .i64 0, .int .i64 0, .int .i64 0, .int .i64 0, .bool false, .int .i64 0, .int .i64 0, .int .i64 0, .int .i64 0, .int .i64 0, .bool false]) = some (wv (baseN op), m1) := a1
  obtain ⟨m2, b1, st2, b2, b3⟩ := (st0.step a2).store 0 rfl (o := 0) (v := wv (baseN op)) (by simp [row0, rowC]) rfl
  have b1' : storeS 1 (.pointer (some ⟨m.n, 0, none⟩)) (wv (baseN op)) m1 = some (undef, m2) := b1
  have l0 := (st2.get 0 rfl).2.2.load1 0 none
  have l0' : load1 m2 ⟨m.n, 0, none⟩ = some (wv (baseN op)) := l0
  obtain ⟨v3, m3, c3a, c3l, c3e, rfl⟩ := any_call (whole_c n 0 (forAny m2) (by rw [forAny_base, forAny_n]; exact Nat.le_refl _))
  have st3 := st2.step c3e
  obtain ⟨v4, m4, c4a, c4l, c4e, rfl⟩ := any_call (whole_c n 5 (forAny (behind m2 m3)) (by rw [forAny_base, forAny_n]; exact Nat.le_refl _))
  have st4 := st3.step c4e
  obtain ⟨v5, m5, c5a, c5l, c5e, rfl⟩ := any_call (number_c n 0 0 63 1 (forAny (behind (behind m2 m3) m4)) (by rw [forAny_base, forAny_n]; exact Nat.le_refl _))
  have st5 := st4.step c5e
  obtain ⟨m6, d6a, d6l, st6, -, -⟩ := st5.fillAtAny 0 rfl (n := 6) (o := 1) (l' := fldL (wholeF 0)) (by omega) rfl (by simp [over_length, rowC, row0, fldL]) (fld_ok _)
  obtain ⟨m7, d7a, d7l, st7, -, -⟩ := st6.fillAtAny 0 rfl (n := 6) (o := 7) (l' := fldL (wholeF 5)) (by omega) rfl (by simp [over_length, rowC, row0, fldL]) (fld_ok _)
  obtain ⟨m8, d8a, d8l, st8, -, -⟩ := st7.fillAtAny 0 rfl (n := 6) (o := 19) (l' := fldL (numF 0 0 63 1)) (by omega) rfl (by simp [over_length, rowC, row0, fldL]) (fld_ok _)
  have ll := (st8.get 0 rfl).2.2.loads (o := 0) (n := 31) (s := none) (by simp [over_length, rowC, row0, fldL])
  obtain ⟨L, hL⟩ : ∃ L, L = rowC (baseN op) [wholeF 0, wholeF 5, fld0, numF 0 0 63 1, fld0] := ⟨_, rfl⟩
  replace ll : loads (behind (behind (behind (behind (behind (behind m2 m3) m4) m5) m6) m7) m8) ⟨m.n, 0, none⟩ 31 = some L := by rw [ll, hL]; kernel_rfl
  obtain ⟨mZ, hZ⟩ : ∃ mZ, mZ = (behind (behind (behind (behind (behind (behind m2 m3) m4) m5) m6) m7) m8) := ⟨_, rfl⟩
  rw [← hZ] at ll st8
  rw [← hL]
  obtain ⟨mY, e1, stY, -, -⟩ := st8.fill 0 rfl (n := 31) (l' := L) (by simp [over_length, rowC, row0, fldL]) (by rw [hL]; rfl) (by rw [hL]; exact row_ok _ _)
  have l9 := (stY.get 0 rfl).2.2.loads (o := 0) (n := 31) (s := none) (by rw [hL]; exact Nat.le_refl _)
  replace l9 : loads mY ⟨m.n, 0, none⟩ 31 = some L := by rw [l9, List.drop_zero, List.take_of_length_le (by rw [hL]; exact Nat.le_refl _)]
  have hb0 : ((baseN op : Int) = 0) = False := eq_false (by have := base_pos op (by omega) (by omega); omega)
  have hb1 : (baseN op = 0) = False := eq_false (by have := base_pos op (by omega) (by omega); omega)
  have q0 : ((op : Int) < 1) = False := eq_false (by omega)
  have q1 : ((47 : Int) < op) = False := eq_false (by omega)
  have q2 : ((op : Int) ≤ 2) = False := eq_false (by omega)
  have q3 : ((op : Int) ≤ 11) = False := eq_false (by omega)
  have q4 : ((op : Int) ≤ 13) = False := eq_false (by omega)
  have q5 : ((op : Int) = 14) = True := eq_true (by omega)
  simp [a1', b1', l0', hb0, hb1, iaF0, iaF1, iaF2, iaF3, iaF4, q0, q1, q2, q3, q4, q5, c3a, c3l, c4a, c4l, c5a, c5l, d6a, d6l, d7a, d7l, d8a, d8l, loadNS_ptr, ll, e1, ← hZ]
  exact ret_ct1 (a := ⟨m.n, 0, none⟩) (by simp) l9 stY.ext (by simp)
set_option maxHeartbeats 1000000 in
theorem row_E (n : Nat) (op : Nat) (h : op = 15) (m : M) (hm : m.base ≤ m.n) : CallV (ex Try.prog (n + 2)) 49 [.int .i64 op] m (.tuple #[.agg ⟨rowC (baseN op) [wholeF 0, wholeF 5, fld0, numF 16 6 63 1, fld0]⟩, .bool true]) := by
  refine call_ret dc2_ok (by simp) ?_
  have st0 := (St.nil hm (Ext.refl m)).row row0
  obtain ⟨v1, m1, a1, a2, rfl⟩ := base_c n op (by omega) (Dx.newRow m row0)
  have a1' : (ex Try.prog (n + 1)).f 65 [.int .i64 op] (Dx.newRow m [.int .u32 0, .int .i64 0, .int .i64 0, .int .i64 0, .int .i64 0, .int .i64 0, .bool false, .int .i64 0, .int .i64 0, .int .i64 0, .int .i64 0, .int .i64 0, .bool false, .int .i64 0, .int .i64 0, .int .i64 0, .int .i64 0, .int .i64 0, .bool false, .int .i64 0, .int .i64 0, .int .i64 0, .int .i64 0, .int .i64 0, .bool false, .int .i64 0, .int .i64 0, .int .i64 0, .int .i64 0, .int .i64 0, .bool false]) = some (wv (baseN op), m1) := a1
  obtain ⟨m2, b1, st2, b2, b3⟩ := (st0.step a2).store 0 rfl (o := 0) (v := wv (baseN op)) (by simp [row0, rowC]) rfl
  have b1' : storeS 1 (.pointer (some ⟨m.n, 0, none⟩)) (wv (baseN op)) m1 = some (undef, m2) := b1
  have l0 := (st2.get 0 rfl).2.2.load1 0 none
  have l0' : load1 m2 ⟨m.n, 0, none⟩ = some (wv (baseN op)) := l0
  obtain ⟨v3, m3, c3a, c3l, c3e, rfl⟩ := any_call (whole_c n 0 (forAny m2) (by rw [forAny_base, forAny_n]; exact Nat.le_refl _))
  have st3 := st2.step c3e
  obtain ⟨v4, m4, c4a, c4l, c4e, rfl⟩ := any_call (whole_c n 5 (forAny (behind m2 m3)) (by rw [forAny_base, forAny_n]; exact Nat.le_refl _))
  have st4 := st3.step c4e
  obtain ⟨v5, m5, c5a, c5l, c5e, rfl⟩ := any_call (number_c n 16 6 63 1 (forAny (behind (behind m2 m3) m4)) (by rw [forAny_base, forAny_n]; exact Nat.le_refl _))
  have st5 := st4.step c5e
  obtain ⟨m6, d6a, d6l, st6, -, -⟩ := st5.fillAtAny 0 rfl (n := 6) (o := 1) (l' := fldL (wholeF 0)) (by omega) rfl (by simp [over_length, rowC, row0, fldL]) (fld_ok _)
  obtain ⟨m7, d7a, d7l, st7, -, -⟩ := st6.fillAtAny 0 rfl (n := 6) (o := 7) (l' := fldL (wholeF 5)) (by omega) rfl (by simp [over_length, rowC, row0, fldL]) (fld_ok _)
  obtain ⟨m8, d8a, d8l, st8, -, -⟩ := st7.fillAtAny 0 rfl (n := 6) (o := 19) (l' := fldL (numF 16 6 63 1)) (by omega) rfl (by simp [over_length, rowC, row0, fldL]) (fld_ok _)
  have ll := (st8.get 0 rfl).2.2.loads (o := 0) (n := 31) (s := none) (by simp [over_length, rowC, row0, fldL])
  obtain ⟨L, hL⟩ : ∃ L, L = rowC (baseN op) [wholeF 0, wholeF 5, fld0, numF 16 6 63 1, fld0] := ⟨_, rfl⟩
  replace ll : loads (behind (behind (behind (behind (behind (behind m2 m3) m4) m5) m6) m7) m8) ⟨m.n, 0, none⟩ 31 = some L := by rw [ll, hL]; kernel_rfl
  obtain ⟨mZ, hZ⟩ : ∃ mZ, mZ = (behind (behind (behind (behind (behind (behind m2 m3) m4) m5) m6) m7) m8) := ⟨_, rfl⟩
  rw [← hZ] at ll st8
  rw [← hL]
  obtain ⟨mY, e1, stY, -, -⟩ := st8.fill 0 rfl (n := 31) (l' := L) (by simp [over_length, rowC, row0, fldL]) (by rw [hL]; rfl) (by rw [hL]; exact row_ok _ _)
  have l9 := (stY.get 0 rfl).2.2.loads (o := 0) (n := 31) (s := none) (by rw [hL]; exact Nat.le_refl _)
  replace l9 : loads mY ⟨m.n, 0, none⟩ 31 = some L := by rw [l9, List.drop_zero, List.take_of_length_le (by rw [hL]; exact Nat.le_refl _)]
  have hb0 : ((baseN op : Int) = 0) = False := eq_false (by have := base_pos op (by omega) (by omega); omega)
  have hb1 : (baseN op = 0) = False := eq_false (by have := base_pos op (by omega) (by omega); omega)
  have q0 : ((op : Int) < 1) = False := eq_false (by omega)
  have q1 : ((47 : Int) < op) = False := eq_false (by omega)
  have q2 : ((op : Int) ≤ 2) = False := eq_false (by omega)
  have q3 : ((op : Int) ≤ 11) = False := eq_false (by omega)
  have q4 : ((op : Int) ≤ 13) = False := eq_false (by omega)
  have q5 : ((op : Int) = 14) = False := eq_false (by omega)
  have q6 : ((op : Int) = 15) = True := eq_true (by omega)
  simp [a1', b1', l0', hb0, hb1, iaF0, iaF1, iaF2, iaF3, iaF4, q0, q1, q2, q3, q4, q5, q6, c3a, c3l, c4a, c4l, c5a, c5l, d6a, d6l, d7a, d7l, d8a, d8l, loadNS_ptr, ll, e1, ← hZ]
  exact ret_ct1 (a := ⟨m.n, 0, none⟩) (by simp) l9 stY.ext (by simp)
set_option maxHeartbeats 1000000 in
theorem row_F (n : Nat) (op : Nat) (h : op = 16) (m : M) (hm : m.base ≤ m.n) : CallV (ex Try.prog (n + 2)) 49 [.int .i64 op] m (.tuple #[.agg ⟨rowC (baseN op) [fld0, wholeF 5, wholeF 16, fld0, fld0]⟩, .bool true]) := by
  refine call_ret dc2_ok (by simp) ?_
  have st0 := (St.nil hm (Ext.refl m)).row row0
  obtain ⟨v1, m1, a1, a2, rfl⟩ := base_c n op (by omega) (Dx.newRow m row0)
  have a1' : (ex Try.prog (n + 1)).f 65 [.int .i64 op] (Dx.newRow m [.int .u32 0, .int .i64 0, .int .i64 0, .int .i64 0, .int .i64 0, .int .i64 0, .bool false, .int .i64 0, .int .i64 0, .int .i64 0, .int .i64 0, .int .i64 0, .bool false, .int .i64 0, .int .i64 0, .int .i64 0, .int .i64 0, .int .i64 0, .bool false, .int .i64 0, .int .i64 0, .int .i64 0, .int .i64 0, .int .i64 0, .bool false, .int .i64 0, .int .i64 0, .int .i64 0, .int .i64 0, .int .i64 0, .bool false]) = some (wv (baseN op), m1) := a1
  obtain ⟨m2, b1, st2, b2, b3⟩ := (st0.step a2).store 0 rfl (o := 0) (v := wv (baseN op)) (by simp [row0, rowC]) rfl
  have b1' : storeS 1 (.pointer (some ⟨m.n, 0, none⟩)) (wv (baseN op)) m1 = some (undef, m2) := b1
  have l0 := (st2.get 0 rfl).2.2.load1 0 none
  have l0' : load1 m2 ⟨m.n, 0, none⟩ = some (wv (baseN op)) := l0
  obtain ⟨v3, m3, c3a, c3l, c3e, rfl⟩ := any_call (whole_c n 5 (forAny m2) (by rw [forAny_base, forAny_n]; exact Nat.le_refl _))
  have st3 := st2.step c3e
  obtain ⟨v4, m4, c4a, c4l, c4e, rfl⟩ := any_call (whole_c n 16 (forAny (behind m2 m3)) (by rw [forAny_base, forAny_n]; exact Nat.le_refl _))
  have st4 := st3.step c4e
  obtain ⟨m5, d5a, d5l, st5, -, -⟩ := st4.fillAtAny 0 rfl (n := 6) (o := 7) (l' := fldL (wholeF 5)) (by omega) rfl (by simp [over_length, rowC, row0, fldL]) (fld_ok _)
  obtain ⟨m6, d6a, d6l, st6, -, -⟩ := st5.fillAtAny 0 rfl (n := 6) (o := 13) (l' := fldL (wholeF 16)) (by omega) rfl (by simp [over_length, rowC, row0, fldL]) (fld_ok _)
  have ll := (st6.get 0 rfl).2.2.loads (o := 0) (n := 31) (s := none) (by simp [over_length, rowC, row0, fldL])
  obtain ⟨L, hL⟩ : ∃ L, L = rowC (baseN op) [fld0, wholeF 5, wholeF 16, fld0, fld0] := ⟨_, rfl⟩
  replace ll : loads (behind (behind (behind (behind m2 m3) m4) m5) m6) ⟨m.n, 0, none⟩ 31 = some L := by rw [ll, hL]; kernel_rfl
  obtain ⟨mZ, hZ⟩ : ∃ mZ, mZ = (behind (behind (behind (behind m2 m3) m4) m5) m6) := ⟨_, rfl⟩
  rw [← hZ] at ll st6
  rw [← hL]
  obtain ⟨mY, e1, stY, -, -⟩ := st6.fill 0 rfl (n := 31) (l' := L) (by simp [over_length, rowC, row0, fldL]) (by rw [hL]; rfl) (by rw [hL]; exact row_ok _ _)
  have l9 := (stY.get 0 rfl).2.2.loads (o := 0) (n := 31) (s := none) (by rw [hL]; exact Nat.le_refl _)
  replace l9 : loads mY ⟨m.n, 0, none⟩ 31 = some L := by rw [l9, List.drop_zero, List.take_of_length_le (by rw [hL]; exact Nat.le_refl _)]
  have hb0 : ((baseN op : Int) = 0) = False := eq_false (by have := base_pos op (by omega) (by omega); omega)
  have hb1 : (baseN op = 0) = False := eq_false (by have := base_pos op (by omega) (by omega); omega)
  have q0 : ((op : Int) < 1) = False := eq_false (by omega)
  have q1 : ((47 : Int) < op) = False := eq_false (by omega)
  have q2 : ((op : Int) ≤ 2) = False := eq_false (by omega)
  have q3 : ((op : Int) ≤ 11) = False := eq_false (by omega)
  have q4 : ((op : Int) ≤ 13) = False := eq_false (by omega)
  have q5 : ((op : Int) = 14) = False := eq_false (by omega)
  have q6 : ((op : Int) = 15) = False := eq_false (by omega)
  have q7 : ((op : Int) = 16) = True := eq_true (by omega)
  simp [a1', b1', l0', hb0, hb1, iaF0, iaF1, iaF2, iaF3, iaF4, q0, q1, q2, q3, q4, q5, q6, q7, c3a, c3l, c4a, c4l, d5a, d5l, d6a, d6l, loadNS_ptr, ll, e1, ← hZ]
  exact ret_ct1 (a := ⟨m.n, 0, none⟩) (by simp) l9 stY.ext (by simp)
set_option maxHeartbeats 1000000 in
theorem row_G (n : Nat) (op : Nat) (h : op = 17) (m : M) (hm : m.base ≤ m.n) : CallV (ex Try.prog (n + 2)) 49 [.int .i64 op] m (.tuple #[.agg ⟨rowC (baseN op) [wholeF 0, fld0, fld0, fld0, turnF]⟩, .bool true]) := by
  refine call_ret dc2_ok (by simp) ?_
  have st0 := (St.nil hm (Ext.refl m)).row row0
  obtain ⟨v1, m1, a1, a2, rfl⟩ := base_c n op (by omega) (Dx.newRow m row0)
  have a1' : (ex Try.prog (n + 1)).f 65 [.int .i64 op] (Dx.newRow m [.int .u32 0, .int .i64 0, .int .i64 0, .int .i64 0, .int .i64 0, .int .i64 0, .bool false, .int .i64 0, .int .i64 0, .int .i64 0, .int .i64 0, .int .i64 0, .bool false, .int .i64 0, .int .i64 0, .int .i64 0, .int .i64 0, .int .i64 0, .bool false, .int .i64 0, .int .i64 0, .int .i64 0, .int .i64 0, .int .i64 0, .bool false, .int .i64 0, .int .i64 0, .int .i64 0, .int .i64 0, .int .i64 0, .bool false]) = some (wv (baseN op), m1) := a1
  obtain ⟨m2, b1, st2, b2, b3⟩ := (st0.step a2).store 0 rfl (o := 0) (v := wv (baseN op)) (by simp [row0, rowC]) rfl
  have b1' : storeS 1 (.pointer (some ⟨m.n, 0, none⟩)) (wv (baseN op)) m1 = some (undef, m2) := b1
  have l0 := (st2.get 0 rfl).2.2.load1 0 none
  have l0' : load1 m2 ⟨m.n, 0, none⟩ = some (wv (baseN op)) := l0
  obtain ⟨v3, m3, c3a, c3l, c3e, rfl⟩ := any_call (whole_c n 0 (forAny m2) (by rw [forAny_base, forAny_n]; exact Nat.le_refl _))
  have st3 := st2.step c3e
  obtain ⟨m4, d4a, d4l, st4, -, -⟩ := st3.fillAtAny 0 rfl (n := 6) (o := 1) (l' := fldL (wholeF 0)) (by omega) rfl (by simp [over_length, rowC, row0, fldL]) (fld_ok _)
  obtain ⟨m5, d5a, d5l, st5, -, -⟩ := st4.fillAtAny 0 rfl (n := 6) (o := 25) (l' := fldL (turnF)) (by omega) rfl (by simp [over_length, rowC, row0, fldL]) (fld_ok _)
  have ll := (st5.get 0 rfl).2.2.loads (o := 0) (n := 31) (s := none) (by simp [over_length, rowC, row0, fldL])
  obtain ⟨L, hL⟩ : ∃ L, L = rowC (baseN op) [wholeF 0, fld0, fld0, fld0, turnF] := ⟨_, rfl⟩
  replace ll : loads (behind (behind (behind m2 m3) m4) m5) ⟨m.n, 0, none⟩ 31 = some L := by rw [ll, hL]; kernel_rfl
  obtain ⟨mZ, hZ⟩ : ∃ mZ, mZ = (behind (behind (behind m2 m3) m4) m5) := ⟨_, rfl⟩
  rw [← hZ] at ll st5
  rw [← hL]
  obtain ⟨mY, e1, stY, -, -⟩ := st5.fill 0 rfl (n := 31) (l' := L) (by simp [over_length, rowC, row0, fldL]) (by rw [hL]; rfl) (by rw [hL]; exact row_ok _ _)
  have l9 := (stY.get 0 rfl).2.2.loads (o := 0) (n := 31) (s := none) (by rw [hL]; exact Nat.le_refl _)
  replace l9 : loads mY ⟨m.n, 0, none⟩ 31 = some L := by rw [l9, List.drop_zero, List.take_of_length_le (by rw [hL]; exact Nat.le_refl _)]
  have hb0 : ((baseN op : Int) = 0) = False := eq_false (by have := base_pos op (by omega) (by omega); omega)
  have hb1 : (baseN op = 0) = False := eq_false (by have := base_pos op (by omega) (by omega); omega)
  have q0 : ((op : Int) < 1) = False := eq_false (by omega)
  have q1 : ((47 : Int) < op) = False := eq_false (by omega)
  have q2 : ((op : Int) ≤ 2) = False := eq_false (by omega)
  have q3 : ((op : Int) ≤ 11) = False := eq_false (by omega)
  have q4 : ((op : Int) ≤ 13) = False := eq_false (by omega)
  have q5 : ((op : Int) = 14) = False := eq_false (by omega)
  have q6 : ((op : Int) = 15) = False := eq_false (by omega)
  have q7 : ((op : Int) = 16) = False := eq_false (by omega)
  have q8 : ((op : Int) = 17) = True := eq_true (by omega)
  have bt : buildV z6 [(0, 1, .int .i64 12), (1, 1, .int .i64 4), (3, 1, .int .i64 13), (4, 1, .int .i64 1), (5, 1, .bool true)] = some (.agg ⟨fldL turnF⟩) := rfl
  simp [a1', b1', l0', hb0, hb1, iaF0, iaF1, iaF2, iaF3, iaF4, q0, q1, q2, q3, q4, q5, q6, q7, q8, c3a, c3l, d4a, d4l, d5a, d5l, bt, loadNS_ptr, ll, e1, ← hZ]
  exact ret_ct1 (a := ⟨m.n, 0, none⟩) (by simp) l9 stY.ext (by simp)
set_option maxHeartbeats 1000000 in
theorem row_H (n : Nat) (op : Nat) (h : op = 18) (m : M) (hm : m.base ≤ m.n) : CallV (ex Try.prog (n + 2)) 49 [.int .i64 op] m (.tuple #[.agg ⟨rowC (baseN op) [fld0, fld0, fld0, nearB, fld0]⟩, .bool true]) := by
  refine call_ret dc2_ok (by simp) ?_
  have st0 := (St.nil hm (Ext.refl m)).row row0
  obtain ⟨v1, m1, a1, a2, rfl⟩ := base_c n op (by omega) (Dx.newRow m row0)
  have a1' : (ex Try.prog (n + 1)).f 65 [.int .i64 op] (Dx.newRow m [.int .u32 0, .int .i64 0, .int .i64 0, .int .i64 0, .int .i64 0, .int .i64 0, .bool false, .int .i64 0, .int .i64 0, .int .i64 0, .int .i64 0, .int .i64 0, .bool false, .int .i64 0, .int .i64 0, .int .i64 0, .int .i64 0, .int .i64 0, .bool false, .int .i64 0, .int .i64 0, .int .i64 0, .int .i64 0, .int .i64 0, .bool false, .int .i64 0, .int .i64 0, .int .i64 0, .int .i64 0, .int .i64 0, .bool false]) = some (wv (baseN op), m1) := a1
  obtain ⟨m2, b1, st2, b2, b3⟩ := (st0.step a2).store 0 rfl (o := 0) (v := wv (baseN op)) (by simp [row0, rowC]) rfl
  have b1' : storeS 1 (.pointer (some ⟨m.n, 0, none⟩)) (wv (baseN op)) m1 = some (undef, m2) := b1
  have l0 := (st2.get 0 rfl).2.2.load1 0 none
  have l0' : load1 m2 ⟨m.n, 0, none⟩ = some (wv (baseN op)) := l0
  obtain ⟨v3, m3, c3a, c3l, c3e, rfl⟩ := any_call (nearB_c n  (forAny m2) (by rw [forAny_base, forAny_n]; exact Nat.le_refl _))
  have st3 := st2.step c3e
  obtain ⟨m4, d4a, d4l, st4, -, -⟩ := st3.fillAtAny 0 rfl (n := 6) (o := 19) (l' := fldL (nearB)) (by omega) rfl (by simp [over_length, rowC, row0, fldL]) (fld_ok _)
  have ll := (st4.get 0 rfl).2.2.loads (o := 0) (n := 31) (s := none) (by simp [over_length, rowC, row0, fldL])
  obtain ⟨L, hL⟩ : ∃ L, L = rowC (baseN op) [fld0, fld0, fld0, nearB, fld0] := ⟨_, rfl⟩
  replace ll : loads (behind (behind m2 m3) m4) ⟨m.n, 0, none⟩ 31 = some L := by rw [ll, hL]; kernel_rfl
  obtain ⟨mZ, hZ⟩ : ∃ mZ, mZ = (behind (behind m2 m3) m4) := ⟨_, rfl⟩
  rw [← hZ] at ll st4
  rw [← hL]
  obtain ⟨mY, e1, stY, -, -⟩ := st4.fill 0 rfl (n := 31) (l' := L) (by simp [over_length, rowC, row0, fldL]) (by rw [hL]; rfl) (by rw [hL]; exact row_ok _ _)
  have l9 := (stY.get 0 rfl).2.2.loads (o := 0) (n := 31) (s := none) (by rw [hL]; exact Nat.le_refl _)
  replace l9 : loads mY ⟨m.n, 0, none⟩ 31 = some L := by rw [l9, List.drop_zero, List.take_of_length_le (by rw [hL]; exact Nat.le_refl _)]
  have hb0 : ((baseN op : Int) = 0) = False := eq_false (by have := base_pos op (by omega) (by omega); omega)
  have hb1 : (baseN op = 0) = False := eq_false (by have := base_pos op (by omega) (by omega); omega)
  have q0 : ((op : Int) < 1) = False := eq_false (by omega)
  have q1 : ((47 : Int) < op) = False := eq_false (by omega)
  have q2 : ((op : Int) ≤ 2) = False := eq_false (by omega)
  have q3 : ((op : Int) ≤ 11) = False := eq_false (by omega)
  have q4 : ((op : Int) ≤ 13) = False := eq_false (by omega)
  have q5 : ((op : Int) = 14) = False := eq_false (by omega)
  have q6 : ((op : Int) = 15) = False := eq_false (by omega)
  have q7 : ((op : Int) = 16) = False := eq_false (by omega)
  have q8 : ((op : Int) = 17) = False := eq_false (by omega)
  have q9 : ((op : Int) = 18) = True := eq_true (by omega)
  simp [a1', b1', l0', hb0, hb1, iaF0, iaF1, iaF2, iaF3, iaF4, q0, q1, q2, q3, q4, q5, q6, q7, q8, q9, c3a, c3l, d4a, d4l, loadNS_ptr, ll, e1, ← hZ]
  exact ret_ct1 (a := ⟨m.n, 0, none⟩) (by simp) l9 stY.ext (by simp)
set_option maxHeartbeats 1000000 in
theorem row_I (n : Nat) (op : Nat) (h : op = 19) (m : M) (hm : m.base ≤ m.n) : CallV (ex Try.prog (n + 2)) 49 [.int .i64 op] m (.tuple #[.agg ⟨rowC (baseN op) [fld0, fld0, fld0, nearC, numF 0 4 13 1]⟩, .bool true]) := by
  refine call_ret dc2_ok (by simp) ?_
  have st0 := (St.nil hm (Ext.refl m)).row row0
  obtain ⟨v1, m1, a1, a2, rfl⟩ := base_c n op (by omega) (Dx.newRow m row0)
  have a1' : (ex Try.prog (n + 1)).f 65 [.int .i64 op] (Dx.newRow m [.int .u32 0, .int .i64 0, .int .i64 0, .int .i64 0, .int .i64 0, .int .i64 0, .bool false, .int .i64 0, .int .i64 0, .int .i64 0, .int .i64 0, .int .i64 0, .bool false, .int .i64 0, .int .i64 0, .int .i64 0, .int .i64 0, .int .i64 0, .bool false, .int .i64 0, .int .i64 0, .int .i64 0, .int .i64 0, .int .i64 0, .bool false, .int .i64 0, .int .i64 0, .int .i64 0, .int .i64 0, .int .i64 0, .bool false]) = some (wv (baseN op), m1) := a1
  obtain ⟨m2, b1, st2, b2, b3⟩ := (st0.step a2).store 0 rfl (o := 0) (v := wv (baseN op)) (by simp [row0, rowC]) rfl
  have b1' : storeS 1 (.pointer (some ⟨m.n, 0, none⟩)) (wv (baseN op)) m1 = some (undef, m2) := b1
  have l0 := (st2.get 0 rfl).2.2.load1 0 none
  have l0' : load1 m2 ⟨m.n, 0, none⟩ = some (wv (baseN op)) := l0
  obtain ⟨v3, m3, c3a, c3l, c3e, rfl⟩ := any_call (nearC_c n  (forAny m2) (by rw [forAny_base, forAny_n]; exact Nat.le_refl _))
  have st3 := st2.step c3e
  obtain ⟨v4, m4, c4a, c4l, c4e, rfl⟩ := any_call (number_c n 0 4 13 1 (forAny (behind m2 m3)) (by rw [forAny_base, forAny_n]; exact Nat.le_refl _))
  have st4 := st3.step c4e
  obtain ⟨m5, d5a, d5l, st5, -, -⟩ := st4.fillAtAny 0 rfl (n := 6) (o := 19) (l' := fldL (nearC)) (by omega) rfl (by simp [over_length, rowC, row0, fldL]) (fld_ok _)
  obtain ⟨m6, d6a, d6l, st6, -, -⟩ := st5.fillAtAny 0 rfl (n := 6) (o := 25) (l' := fldL (numF 0 4 13 1)) (by omega) rfl (by simp [over_length, rowC, row0, fldL]) (fld_ok _)
  have ll := (st6.get 0 rfl).2.2.loads (o := 0) (n := 31) (s := none) (by simp [over_length, rowC, row0, fldL])
  obtain ⟨L, hL⟩ : ∃ L, L = rowC (baseN op) [fld0, fld0, fld0, nearC, numF 0 4 13 1] := ⟨_, rfl⟩
  replace ll : loads (behind (behind (behind (behind m2 m3) m4) m5) m6) ⟨m.n, 0, none⟩ 31 = some L := by rw [ll, hL]; kernel_rfl
  obtain ⟨mZ, hZ⟩ : ∃ mZ, mZ = (behind (behind (behind (behind m2 m3) m4) m5) m6) := ⟨_, rfl⟩
  rw [← hZ] at ll st6
  rw [← hL]
  obtain ⟨mY, e1, stY, -, -⟩ := st6.fill 0 rfl (n := 31) (l' := L) (by simp [over_length, rowC, row0, fldL]) (by rw [hL]; rfl) (by rw [hL]; exact row_ok _ _)
  have l9 := (stY.get 0 rfl).2.2.loads (o := 0) (n := 31) (s := none) (by rw [hL]; exact Nat.le_refl _)
  replace l9 : loads mY ⟨m.n, 0, none⟩ 31 = some L := by rw [l9, List.drop_zero, List.take_of_length_le (by rw [hL]; exact Nat.le_refl _)]
  have hb0 : ((baseN op : Int) = 0) = False := eq_false (by have := base_pos op (by omega) (by omega); omega)
  have hb1 : (baseN op = 0) = False := eq_false (by have := base_pos op (by omega) (by omega); omega)
  have q0 : ((op : Int) < 1) = False := eq_false (by omega)
  have q1 : ((47 : Int) < op) = False := eq_false (by omega)
  have q2 : ((op : Int) ≤ 2) = False := eq_false (by omega)
  have q3 : ((op : Int) ≤ 11) = False := eq_false (by omega)
  have q4 : ((op : Int) ≤ 13) = False := eq_false (by omega)
  have q5 : ((op : Int) = 14) = False := eq_false (by omega)
  have q6 : ((op : Int) = 15) = False := eq_false (by omega)
  have q7 : ((op : Int) = 16) = False := eq_false (by omega)
  have q8 : ((op : Int) = 17) = False := eq_false (by omega)
  have q9 : ((op : Int) = 18) = False := eq_false (by omega)
  have q10 : ((op : Int) = 19) = True := eq_true (by omega)
  simp [a1', b1', l0', hb0, hb1, iaF0, iaF1, iaF2, iaF3, iaF4, q0, q1, q2, q3, q4, q5, q6, q7, q8, q9, q10, c3a, c3l, c4a, c4l, d5a, d5l, d6a, d6l, loadNS_ptr, ll, e1, ← hZ]
  exact ret_ct1 (a := ⟨m.n, 0, none⟩) (by simp) l9 stY.ext (by simp)
set_option maxHeartbeats 1000000 in
theorem row_J (n : Nat) (op : Nat) (h : 20 ≤ op ∧ op ≤ 21) (m : M) (hm : m.base ≤ m.n) : CallV (ex Try.prog (n + 2)) 49 [.int .i64 op] m (.tuple #[.agg ⟨rowC (baseN op) [wholeF 0, fld0, fld0, nearC, fld0]⟩, .bool true]) := by
  refine call_ret dc2_ok (by simp) ?_
  have st0 := (St.nil hm (Ext.refl m)).row row0
  obtain ⟨v1, m1, a1, a2, rfl⟩ := base_c n op (by omega) (Dx.newRow m row0)
  have a1' : (ex Try.prog (n + 1)).f 65 [.int .i64 op] (Dx.newRow m [.int .u32 0, .int .i64 0, .int .i64 0, .int .i64 0, .int .i64 0, .int .i64 0, .bool false, .int .i64 0, .int .i64 0, .int .i64 0, .int .i64 0, .int .i64 0, .bool false, .int .i64 0, .int .i64 0, .int .i64 0, .int .i64 0, .int .i64 0, .bool false, .int .i64 0, .int .i64 0, .int .i64 0, .int .i64 0, .int .i64 0, .bool false, .int .i64 0, .int .i64 0, .int .i64 0, .int .i64 0, .int .i64 0, .bool false]) = some (wv (baseN op), m1) := a1
  obtain ⟨m2, b1, st2, b2, b3⟩ := (st0.step a2).store 0 rfl (o := 0) (v := wv (baseN op)) (by simp [row0, rowC]) rfl
  have b1' : storeS 1 (.pointer (some ⟨m.n, 0, none⟩)) (wv (baseN op)) m1 = some (undef, m2) := b1
  have l0 := (st2.get 0 rfl).2.2.load1 0 none
  have l0' : load1 m2 ⟨m.n, 0, none⟩ = some (wv (baseN op)) := l0
  obtain ⟨v3, m3, c3a, c3l, c3e, rfl⟩ := any_call (whole_c n 0 (forAny m2) (by rw [forAny_base, forAny_n]; exact Nat.le_refl _))
  have st3 := st2.step c3e
  obtain ⟨v4, m4, c4a, c4l, c4e, rfl⟩ := any_call (nearC_c n  (forAny (behind m2 m3)) (by rw [forAny_base, forAny_n]; exact Nat.le_refl _))
  have st4 := st3.step c4e
  obtain ⟨m5, d5a, d5l, st5, -, -⟩ := st4.fillAtAny 0 rfl (n := 6) (o := 1) (l' := fldL (wholeF 0)) (by omega) rfl (by simp [over_length, rowC, row0, fldL]) (fld_ok _)
  obtain ⟨m6, d6a, d6l, st6, -, -⟩ := st5.fillAtAny 0 rfl (n := 6) (o := 19) (l' := fldL (nearC)) (by omega) rfl (by simp [over_length, rowC, row0, fldL]) (fld_ok _)
  have ll := (st6.get 0 rfl).2.2.loads (o := 0) (n := 31) (s := none) (by simp [over_length, rowC, row0, fldL])
  obtain ⟨L, hL⟩ : ∃ L, L = rowC (baseN op) [wholeF 0, fld0, fld0, nearC, fld0] := ⟨_, rfl⟩
  replace ll : loads (behind (behind (behind (behind m2 m3) m4) m5) m6) ⟨m.n, 0, none⟩ 31 = some L := by rw [ll, hL]; kernel_rfl
  obtain ⟨mZ, hZ⟩ : ∃ mZ, mZ = (behind (behind (behind (behind m2 m3) m4) m5) m6) := ⟨_, rfl⟩
  rw [← hZ] at ll st6
  rw [← hL]
  obtain ⟨mY, e1, stY, -, -⟩ := st6.fill 0 rfl (n := 31) (l' := L) (by simp [over_length, rowC, row0, fldL]) (by rw [hL]; rfl) (by rw [hL]; exact row_ok _ _)
  have l9 := (stY.get 0 rfl).2.2.loads (o := 0) (n := 31) (s := none) (by rw [hL]; exact Nat.le_refl _)
  replace l9 : loads mY ⟨m.n, 0, none⟩ 31 = some L := by rw [l9, List.drop_zero, List.take_of_length_le (by rw [hL]; exact Nat.le_refl _)]
  have hb0 : ((baseN op : Int) = 0) = False := eq_false (by have := base_pos op (by omega) (by omega); omega)
  have hb1 : (baseN op = 0) = False := eq_false (by have := base_pos op (by omega) (by omega); omega)
  have q0 : ((op : Int) < 1) = False := eq_false (by omega)
  have q1 : ((47 : Int) < op) = False := eq_false (by omega)
  have q2 : ((op : Int) ≤ 2) = False := eq_false (by omega)
  have q3 : ((op : Int) ≤ 11) = False := eq_false (by omega)
  have q4 : ((op : Int) ≤ 13) = False := eq_false (by omega)
  have q5 : ((op : Int) = 14) = False := eq_false (by omega)
  have q6 : ((op : Int) = 15) = False := eq_false (by omega)
  have q7 : ((op : Int) = 16) = False := eq_false (by omega)
  have q8 : ((op : Int) = 17) = False := eq_false (by omega)
  have q9 : ((op : Int) = 18) = False := eq_false (by omega)
  have q10 : ((op : Int) = 19) = False := eq_false (by omega)
  have q11 : ((op : Int) ≤ 21) = True := eq_true (by omega)
  simp [a1', b1', l0', hb0, hb1, iaF0, iaF1, iaF2, iaF3, iaF4, q0, q1, q2, q3, q4, q5, q6, q7, q8, q9, q10, q11, c3a, c3l, c4a, c4l, d5a, d5l, d6a, d6l, loadNS_ptr, ll, e1, ← hZ]
  exact ret_ct1 (a := ⟨m.n, 0, none⟩) (by simp) l9 stY.ext (by simp)
set_option maxHeartbeats 1000000 in
theorem row_K (n : Nat) (op : Nat) (h : 22 ≤ op ∧ op ≤ 23) (m : M) (hm : m.base ≤ m.n) : CallV (ex Try.prog (n + 2)) 49 [.int .i64 op] m (.tuple #[.agg ⟨rowC (baseN op) [wholeF 0, regF 5, fld0, numF 10 12 32760 8, fld0]⟩, .bool true]) := by
  refine call_ret dc2_ok (by simp) ?_
  have st0 := (St.nil hm (Ext.refl m)).row row0
  obtain ⟨v1, m1, a1, a2, rfl⟩ := base_c n op (by omega) (Dx.newRow m row0)
  have a1' : (ex Try.prog (n + 1)).f 65 [.int .i64 op] (Dx.newRow m [.int .u32 0, .int .i64 0, .int .i64 0, .int .i64 0, .int .i64 0, .int .i64 0, .bool false, .int .i64 0, .int .i64 0, .int .i64 0, .int .i64 0, .int .i64 0, .bool false, .int .i64 0, .int .i64 0, .int .i64 0, .int .i64 0, .int .i64 0, .bool false, .int .i64 0, .int .i64 0, .int .i64 0, .int .i64 0, .int .i64 0, .bool false, .int .i64 0, .int .i64 0, .int .i64 0, .int .i64 0, .int .i64 0, .bool false]) = some (wv (baseN op), m1) := a1
  obtain ⟨m2, b1, st2, b2, b3⟩ := (st0.step a2).store 0 rfl (o := 0) (v := wv (baseN op)) (by simp [row0, rowC]) rfl
  have b1' : storeS 1 (.pointer (some ⟨m.n, 0, none⟩)) (wv (baseN op)) m1 = some (undef, m2) := b1
  have l0 := (st2.get 0 rfl).2.2.load1 0 none
  have l0' : load1 m2 ⟨m.n, 0, none⟩ = some (wv (baseN op)) := l0
  obtain ⟨v3, m3, c3a, c3l, c3e, rfl⟩ := any_call (whole_c n 0 (forAny m2) (by rw [forAny_base, forAny_n]; exact Nat.le_refl _))
  have st3 := st2.step c3e
  obtain ⟨v4, m4, c4a, c4l, c4e, rfl⟩ := any_call (reg_c n 5 (forAny (behind m2 m3)) (by rw [forAny_base, forAny_n]; exact Nat.le_refl _))
  have st4 := st3.step c4e
  obtain ⟨v5, m5, c5a, c5l, c5e, rfl⟩ := any_call (number_c n 10 12 32760 8 (forAny (behind (behind m2 m3) m4)) (by rw [forAny_base, forAny_n]; exact Nat.le_refl _))
  have st5 := st4.step c5e
  obtain ⟨m6, d6a, d6l, st6, -, -⟩ := st5.fillAtAny 0 rfl (n := 6) (o := 1) (l' := fldL (wholeF 0)) (by omega) rfl (by simp [over_length, rowC, row0, fldL]) (fld_ok _)
  obtain ⟨m7, d7a, d7l, st7, -, -⟩ := st6.fillAtAny 0 rfl (n := 6) (o := 7) (l' := fldL (regF 5)) (by omega) rfl (by simp [over_length, rowC, row0, fldL]) (fld_ok _)
  obtain ⟨m8, d8a, d8l, st8, -, -⟩ := st7.fillAtAny 0 rfl (n := 6) (o := 19) (l' := fldL (numF 10 12 32760 8)) (by omega) rfl (by simp [over_length, rowC, row0, fldL]) (fld_ok _)
  have ll := (st8.get 0 rfl).2.2.loads (o := 0) (n := 31) (s := none) (by simp [over_length, rowC, row0, fldL])
  obtain ⟨L, hL⟩ : ∃ L, L = rowC (baseN op) [wholeF 0, regF 5, fld0, numF 10 12 32760 8, fld0] := ⟨_, rfl⟩
  replace ll : loads (behind (behind (behind (behind (behind (behind m2 m3) m4) m5) m6) m7) m8) ⟨m.n, 0, none⟩ 31 = some L := by rw [ll, hL]; kernel_rfl
  obtain ⟨mZ, hZ⟩ : ∃ mZ, mZ = (behind (behind (behind (behind (behind (behind m2 m3) m4) m5) m6) m7) m8) := ⟨_, rfl⟩
  rw [← hZ] at ll st8
  rw [← hL]
  obtain ⟨mY, e1, stY, -, -⟩ := st8.fill 0 rfl (n := 31) (l' := L) (by simp [over_length, rowC, row0, fldL]) (by rw [hL]; rfl) (by rw [hL]; exact row_ok _ _)
  have l9 := (stY.get 0 rfl).2.2.loads (o := 0) (n := 31) (s := none) (by rw [hL]; exact Nat.le_refl _)
  replace l9 : loads mY ⟨m.n, 0, none⟩ 31 = some L := by rw [l9, List.drop_zero, List.take_of_length_le (by rw [hL]; exact Nat.le_refl _)]
  have hb0 : ((baseN op : Int) = 0) = False := eq_false (by have := base_pos op (by omega) (by omega); omega)
  have hb1 : (baseN op = 0) = False := eq_false (by have := base_pos op (by omega) (by omega); omega)
  have q0 : ((op : Int) < 1) = False := eq_false (by omega)
  have q1 : ((47 : Int) < op) = False := eq_false (by omega)
  have q2 : ((op : Int) ≤ 2) = False := eq_false (by omega)
  have q3 : ((op : Int) ≤ 11) = False := eq_false (by omega)
  have q4 : ((op : Int) ≤ 13) = False := eq_false (by omega)
  have q5 : ((op : Int) = 14) = False := eq_false (by omega)
  have q6 : ((op : Int) = 15) = False := eq_false (by omega)
  have q7 : ((op : Int) = 16) = False := eq_false (by omega)
  have q8 : ((op : Int) = 17) = False := eq_false (by omega)
  have q9 : ((op : Int) = 18) = False := eq_false (by omega)
  have q10 : ((op : Int) = 19) = False := eq_false (by omega)
  have q11 : ((op : Int) ≤ 21) = False := eq_false (by omega)
  have q12 : ((op : Int) ≤ 23) = True := eq_true (by omega)
  simp [a1', b1', l0', hb0, hb1, iaF0, iaF1, iaF2, iaF3, iaF4, q0, q1, q2, q3, q4, q5, q6, q7, q8, q9, q10, q11, q12, c3a, c3l, c4a, c4l, c5a, c5l, d6a, d6l, d7a, d7l, d8a, d8l, loadNS_ptr, ll, e1, ← hZ]
  exact ret_ct1 (a := ⟨m.n, 0, none⟩) (by simp) l9 stY.ext (by simp)
set_option maxHeartbeats 1000000 in
theorem row_L (n : Nat) (op : Nat) (h : 24 ≤ op ∧ op ≤ 27 ∨ op = 35) (m : M) (hm : m.base ≤ m.n) : CallV (ex Try.prog (n + 2)) 49 [.int .i64 op] m (.tuple #[.agg ⟨rowC (baseN op) [wholeF 0, regF 5, fld0, fld0, fld0]⟩, .bool true]) := by
  refine call_ret dc2_ok (by simp) ?_
  have st0 := (St.nil hm (Ext.refl m)).row row0
  obtain ⟨v1, m1, a1, a2, rfl⟩ := base_c n op (by omega) (Dx.newRow m row0)
  have a1' : (ex Try.prog (n + 1)).f 65 [.int .i64 op] (Dx.newRow m [.int .u32 0, .int .i64 0, .int .i64 0, .int .i64 0, .int .i64 0, .int .i64 0, .bool false, .int .i64 0, .int .i64 0, .int .i64 0, .int .i64 0, .int .i64 0, .bool false, .int .i64 0, .int .i64 0, .int .i64 0, .int .i64 0, .int .i64 0, .bool false, .int .i64 0, .int .i64 0, .int .i64 0, .int .i64 0, .int .i64 0, .bool false, .int .i64 0, .int .i64 0, .int .i64 0, .int .i64 0, .int .i64 0, .bool false]) = some (wv (baseN op), m1) := a1
  obtain ⟨m2, b1, st2, b2, b3⟩ := (st0.step a2).store 0 rfl (o := 0) (v := wv (baseN op)) (by simp [row0, rowC]) rfl
  have b1' : storeS 1 (.pointer (some ⟨m.n, 0, none⟩)) (wv (baseN op)) m1 = some (undef, m2) := b1
  have l0 := (st2.get 0 rfl).2.2.load1 0 none
  have l0' : load1 m2 ⟨m.n, 0, none⟩ = some (wv (baseN op)) := l0
  obtain ⟨v3, m3, c3a, c3l, c3e, rfl⟩ := any_call (whole_c n 0 (forAny m2) (by rw [forAny_base, forAny_n]; exact Nat.le_refl _))
  have st3 := st2.step c3e
  obtain ⟨v4, m4, c4a, c4l, c4e, rfl⟩ := any_call (reg_c n 5 (forAny (behind m2 m3)) (by rw [forAny_base, forAny_n]; exact Nat.le_refl _))
  have st4 := st3.step c4e
  obtain ⟨m5, d5a, d5l, st5, -, -⟩ := st4.fillAtAny 0 rfl (n := 6) (o := 1) (l' := fldL (wholeF 0)) (by omega) rfl (by simp [over_length, rowC, row0, fldL]) (fld_ok _)
  obtain ⟨m6, d6a, d6l, st6, -, -⟩ := st5.fillAtAny 0 rfl (n := 6) (o := 7) (l' := fldL (regF 5)) (by omega) rfl (by simp [over_length, rowC, row0, fldL]) (fld_ok _)
  have ll := (st6.get 0 rfl).2.2.loads (o := 0) (n := 31) (s := none) (by simp [over_length, rowC, row0, fldL])
  obtain ⟨L, hL⟩ : ∃ L, L = rowC (baseN op) [wholeF 0, regF 5, fld0, fld0, fld0] := ⟨_, rfl⟩
  replace ll : loads (behind (behind (behind (behind m2 m3) m4) m5) m6) ⟨m.n, 0, none⟩ 31 = some L := by rw [ll, hL]; kernel_rfl
  obtain ⟨mZ, hZ⟩ : ∃ mZ, mZ = (behind (behind (behind (behind m2 m3) m4) m5) m6) := ⟨_, rfl⟩
  rw [← hZ] at ll st6
  rw [← hL]
  obtain ⟨mY, e1, stY, -, -⟩ := st6.fill 0 rfl (n := 31) (l' := L) (by simp [over_length, rowC, row0, fldL]) (by rw [hL]; rfl) (by rw [hL]; exact row_ok _ _)
  have l9 := (stY.get 0 rfl).2.2.loads (o := 0) (n := 31) (s := none) (by rw [hL]; exact Nat.le_refl _)
  replace l9 : loads mY ⟨m.n, 0, none⟩ 31 = some L := by rw [l9, List.drop_zero, List.take_of_length_le (by rw [hL]; exact Nat.le_refl _)]
  have hb0 : ((baseN op : Int) = 0) = False := eq_false (by have := base_pos op (by omega) (by omega); omega)
  have hb1 : (baseN op = 0) = False := eq_false (by have := base_pos op (by omega) (by omega); omega)
  have q0 : ((op : Int) < 1) = False := eq_false (by omega)
  have q1 : ((47 : Int) < op) = False := eq_false (by omega)
  have q2 : ((op : Int) ≤ 2) = False := eq_false (by omega)
  have q3 : ((op : Int) ≤ 11) = False := eq_false (by omega)
  have q4 : ((op : Int) ≤ 13) = False := eq_false (by omega)
  have q5 : ((op : Int) = 14) = False := eq_false (by omega)
  have q6 : ((op : Int) = 15) = False := eq_false (by omega)
  have q7 : ((op : Int) = 16) = False := eq_false (by omega)
  have q8 : ((op : Int) = 17) = False := eq_false (by omega)
  have q9 : ((op : Int) = 18) = False := eq_false (by omega)
  have q10 : ((op : Int) = 19) = False := eq_false (by omega)
  have q11 : ((op : Int) ≤ 21) = False := eq_false (by omega)
  have q12 : ((op : Int) ≤ 23) = False := eq_false (by omega)
  by_cases h27 : op ≤ 27
  · have q30 : ((op : Int) ≤ 27) = True := eq_true (by omega)
    simp [a1', b1', l0', hb0, hb1, iaF0, iaF1, iaF2, iaF3, iaF4, q0, q1, q2, q3, q4, q5, q6, q7, q8, q9, q10, q11, q12, q30, c3a, c3l, c4a, c4l, d5a, d5l, d6a, d6l, loadNS_ptr, ll, e1, ← hZ]
    exact ret_ct1 (a := ⟨m.n, 0, none⟩) (by simp) l9 stY.ext (by simp)
  · have q30 : ((op : Int) ≤ 27) = False := eq_false (by omega)
    have q31 : ((op : Int) = 35) = True := eq_true (by omega)
    simp [a1', b1', l0', hb0, hb1, iaF0, iaF1, iaF2, iaF3, iaF4, q0, q1, q2, q3, q4, q5, q6, q7, q8, q9, q10, q11, q12, q30, q31, c3a, c3l, c4a, c4l, d5a, d5l, d6a, d6l, loadNS_ptr, ll, e1, ← hZ]
    exact ret_ct1 (a := ⟨m.n, 0, none⟩) (by simp) l9 stY.ext (by simp)
set_option maxHeartbeats 1000000 in
theorem row_M (n : Nat) (op : Nat) (h : 28 ≤ op ∧ op ≤ 29) (m : M) (hm : m.base ≤ m.n) : CallV (ex Try.prog (n + 2)) 49 [.int .i64 op] m (.tuple #[.agg ⟨rowC (baseN op) [wholeF 0, regF 5, regF 16, fld0, fld0]⟩, .bool true]) := by
  refine call_ret dc2_ok (by simp) ?_
  have st0 := (St.nil hm (Ext.refl m)).row row0
  obtain ⟨v1, m1, a1, a2, rfl⟩ := base_c n op (by omega) (Dx.newRow m row0)
  have a1' : (ex Try.prog (n + 1)).f 65 [.int .i64 op] (Dx.newRow m [.int .u32 0, .int .i64 0, .int .i64 0, .int .i64 0, .int .i64 0, .int .i64 0, .bool false, .int .i64 0, .int .i64 0, .int .i64 0, .int .i64 0, .int .i64 0, .bool false, .int .i64 0, .int .i64 0, .int .i64 0, .int .i64 0, .int .i64 0, .bool false, .int .i64 0, .int .i64 0, .int .i64 0, .int .i64 0, .int .i64 0, .bool false, .int .i64 0, .int .i64 0, .int .i64 0, .int .i64 0, .int .i64 0, .bool false]) = some (wv (baseN op), m1) := a1
  obtain ⟨m2, b1, st2, b2, b3⟩ := (st0.step a2).store 0 rfl (o := 0) (v := wv (baseN op)) (by simp [row0, rowC]) rfl
  have b1' : storeS 1 (.pointer (some ⟨m.n, 0, none⟩)) (wv (baseN op)) m1 = some (undef, m2) := b1
  have l0 := (st2.get 0 rfl).2.2.load1 0 none
  have l0' : load1 m2 ⟨m.n, 0, none⟩ = some (wv (baseN op)) := l0
  obtain ⟨v3, m3, c3a, c3l, c3e, rfl⟩ := any_call (whole_c n 0 (forAny m2) (by rw [forAny_base, forAny_n]; exact Nat.le_refl _))
  have st3 := st2.step c3e
  obtain ⟨v4, m4, c4a, c4l, c4e, rfl⟩ := any_call (reg_c n 5 (forAny (behind m2 m3)) (by rw [forAny_base, forAny_n]; exact Nat.le_refl _))
  have st4 := st3.step c4e
  obtain ⟨v5, m5, c5a, c5l, c5e, rfl⟩ := any_call (reg_c n 16 (forAny (behind (behind m2 m3) m4)) (by rw [forAny_base, forAny_n]; exact Nat.le_refl _))
  have st5 := st4.step c5e
  obtain ⟨m6, d6a, d6l, st6, -, -⟩ := st5.fillAtAny 0 rfl (n := 6) (o := 1) (l' := fldL (wholeF 0)) (by omega) rfl (by simp [over_length, rowC, row0, fldL]) (fld_ok _)
  obtain ⟨m7, d7a, d7l, st7, -, -⟩ := st6.fillAtAny 0 rfl (n := 6) (o := 7) (l' := fldL (regF 5)) (by omega) rfl (by simp [over_length, rowC, row0, fldL]) (fld_ok _)
  obtain ⟨m8, d8a, d8l, st8, -, -⟩ := st7.fillAtAny 0 rfl (n := 6) (o := 13) (l' := fldL (regF 16)) (by omega) rfl (by simp [over_length, rowC, row0, fldL]) (fld_ok _)
  have ll := (st8.get 0 rfl).2.2.loads (o := 0) (n := 31) (s := none) (by simp [over_length, rowC, row0, fldL])
  obtain ⟨L, hL⟩ : ∃ L, L = rowC (baseN op) [wholeF 0, regF 5, regF 16, fld0, fld0] := ⟨_, rfl⟩
  replace ll : loads (behind (behind (behind (behind (behind (behind m2 m3) m4) m5) m6) m7) m8) ⟨m.n, 0, none⟩ 31 = some L := by rw [ll, hL]; kernel_rfl
  obtain ⟨mZ, hZ⟩ : ∃ mZ, mZ = (behind (behind (behind (behind (behind (behind m2 m3) m4) m5) m6) m7) m8) := ⟨_, rfl⟩
  rw [← hZ] at ll st8
  rw [← hL]
  obtain ⟨mY, e1, stY, -, -⟩ := st8.fill 0 rfl (n := 31) (l' := L) (by simp [over_length, rowC, row0, fldL]) (by rw [hL]; rfl) (by rw [hL]; exact row_ok _ _)
  have l9 := (stY.get 0 rfl).2.2.loads (o := 0) (n := 31) (s := none) (by rw [hL]; exact Nat.le_refl _)
  replace l9 : loads mY ⟨m.n, 0, none⟩ 31 = some L := by rw [l9, List.drop_zero, List.take_of_length_le (by rw [hL]; exact Nat.le_refl _)]
  have hb0 : ((baseN op : Int) = 0) = False := eq_false (by have := base_pos op (by omega) (by omega); omega)
  have hb1 : (baseN op = 0) = False := eq_false (by have := base_pos op (by omega) (by omega); omega)
  have q0 : ((op : Int) < 1) = False := eq_false (by omega)
  have q1 : ((47 : Int) < op) = False := eq_false (by omega)
  have q2 : ((op : Int) ≤ 2) = False := eq_false (by omega)
  have q3 : ((op : Int) ≤ 11) = False := eq_false (by omega)
  have q4 : ((op : Int) ≤ 13) = False := eq_false (by omega)
  have q5 : ((op : Int) = 14) = False := eq_false (by omega)
  have q6 : ((op : Int) = 15) = False := eq_false (by omega)
  have q7 : ((op : Int) = 16) = False := eq_false (by omega)
  have q8 : ((op : Int) = 17) = False := eq_false (by omega)
  have q9 : ((op : Int) = 18) = False := eq_false (by omega)
  have q10 : ((op : Int) = 19) = False := eq_false (by omega)
  have q11 : ((op : Int) ≤ 21) = False := eq_false (by omega)
  have q12 : ((op : Int) ≤ 23) = False := eq_false (by omega)
  have q13 : ((op : Int) ≤ 27) = False := eq_false (by omega)
  have q14 : ((op : Int) = 35) = False := eq_false (by omega)
  have q15 : ((op : Int) ≤ 29) = True := eq_true (by omega)
  simp [a1', b1', l0', hb0, hb1, iaF0, iaF1, iaF2, iaF3, iaF4, q0, q1, q2, q3, q4, q5, q6, q7, q8, q9, q10, q11, q12, q13, q14, q15, c3a, c3l, c4a, c4l, c5a, c5l, d6a, d6l, d7a, d7l, d8a, d8l, loadNS_ptr, ll, e1, ← hZ]
  exact ret_ct1 (a := ⟨m.n, 0, none⟩) (by simp) l9 stY.ext (by simp)
set_option maxHeartbeats 1000000 in
theorem row_N (n : Nat) (op : Nat) (h : op = 33) (m : M) (hm : m.base ≤ m.n) : CallV (ex Try.prog (n + 2)) 49 [.int .i64 op] m (.tuple #[.agg ⟨rowC (baseN op) [fld0, fld0, fld0, numF 5 16 30 1, fld0]⟩, .bool true]) := by
  refine call_ret dc2_ok (by simp) ?_
  have st0 := (St.nil hm (Ext.refl m)).row row0
  obtain ⟨v1, m1, a1, a2, rfl⟩ := base_c n op (by omega) (Dx.newRow m row0)
  have a1' : (ex Try.prog (n + 1)).f 65 [.int .i64 op] (Dx.newRow m [.int .u32 0, .int .i64 0, .int .i64 0, .int .i64 0, .int .i64 0, .int .i64 0, .bool false, .int .i64 0, .int .i64 0, .int .i64 0, .int .i64 0, .int .i64 0, .bool false, .int .i64 0, .int .i64 0, .int .i64 0, .int .i64 0, .int .i64 0, .bool false, .int .i64 0, .int .i64 0, .int .i64 0, .int .i64 0, .int .i64 0, .bool false, .int .i64 0, .int .i64 0, .int .i64 0, .int .i64 0, .int .i64 0, .bool false]) = some (wv (baseN op), m1) := a1
  obtain ⟨m2, b1, st2, b2, b3⟩ := (st0.step a2).store 0 rfl (o := 0) (v := wv (baseN op)) (by simp [row0, rowC]) rfl
  have b1' : storeS 1 (.pointer (some ⟨m.n, 0, none⟩)) (wv (baseN op)) m1 = some (undef, m2) := b1
  have l0 := (st2.get 0 rfl).2.2.load1 0 none
  have l0' : load1 m2 ⟨m.n, 0, none⟩ = some (wv (baseN op)) := l0
  obtain ⟨v3, m3, c3a, c3l, c3e, rfl⟩ := any_call (number_c n 5 16 30 1 (forAny m2) (by rw [forAny_base, forAny_n]; exact Nat.le_refl _))
  have st3 := st2.step c3e
  obtain ⟨m4, d4a, d4l, st4, -, -⟩ := st3.fillAtAny 0 rfl (n := 6) (o := 19) (l' := fldL (numF 5 16 30 1)) (by omega) rfl (by simp [over_length, rowC, row0, fldL]) (fld_ok _)
  have ll := (st4.get 0 rfl).2.2.loads (o := 0) (n := 31) (s := none) (by simp [over_length, rowC, row0, fldL])
  obtain ⟨L, hL⟩ : ∃ L, L = rowC (baseN op) [fld0, fld0, fld0, numF 5 16 30 1, fld0] := ⟨_, rfl⟩
  replace ll : loads (behind (behind m2 m3) m4) ⟨m.n, 0, none⟩ 31 = some L := by rw [ll, hL]; kernel_rfl
  obtain ⟨mZ, hZ⟩ : ∃ mZ, mZ = (behind (behind m2 m3) m4) := ⟨_, rfl⟩
  rw [← hZ] at ll st4
  rw [← hL]
  obtain ⟨mY, e1, stY, -, -⟩ := st4.fill 0 rfl (n := 31) (l' := L) (by simp [over_length, rowC, row0, fldL]) (by rw [hL]; rfl) (by rw [hL]; exact row_ok _ _)
  have l9 := (stY.get 0 rfl).2.2.loads (o := 0) (n := 31) (s := none) (by rw [hL]; exact Nat.le_refl _)
  replace l9 : loads mY ⟨m.n, 0, none⟩ 31 = some L := by rw [l9, List.drop_zero, List.take_of_length_le (by rw [hL]; exact Nat.le_refl _)]
  have hb0 : ((baseN op : Int) = 0) = False := eq_false (by have := base_pos op (by omega) (by omega); omega)
  have hb1 : (baseN op = 0) = False := eq_false (by have := base_pos op (by omega) (by omega); omega)
  have q0 : ((op : Int) < 1) = False := eq_false (by omega)
  have q1 : ((47 : Int) < op) = False := eq_false (by omega)
  have q2 : ((op : Int) ≤ 2) = False := eq_false (by omega)
  have q3 : ((op : Int) ≤ 11) = False := eq_false (by omega)
  have q4 : ((op : Int) ≤ 13) = False := eq_false (by omega)
  have q5 : ((op : Int) = 14) = False := eq_false (by omega)
  have q6 : ((op : Int) = 15) = False := eq_false (by omega)
  have q7 : ((op : Int) = 16) = False := eq_false (by omega)
  have q8 : ((op : Int) = 17) = False := eq_false (by omega)
  have q9 : ((op : Int) = 18) = False := eq_false (by omega)
  have q10 : ((op : Int) = 19) = False := eq_false (by omega)
  have q11 : ((op : Int) ≤ 21) = False := eq_false (by omega)
  have q12 : ((op : Int) ≤ 23) = False := eq_false (by omega)
  have q13 : ((op : Int) ≤ 27) = False := eq_false (by omega)
  have q14 : ((op : Int) = 35) = False := eq_false (by omega)
  have q15 : ((op : Int) ≤ 29) = False := eq_false (by omega)
  have q16 : ((op : Int) = 33) = True := eq_true (by omega)
  simp [a1', b1', l0', hb0, hb1, iaF0, iaF1, iaF2, iaF3, iaF4, q0, q1, q2, q3, q4, q5, q6, q7, q8, q9, q10, q11, q12, q13, q14, q15, q16, c3a, c3l, d4a, d4l, loadNS_ptr, ll, e1, ← hZ]
  exact ret_ct1 (a := ⟨m.n, 0, none⟩) (by simp) l9 stY.ext (by simp)
set_option maxHeartbeats 1000000 in
theorem row_O (n : Nat) (op : Nat) (h : 36 ≤ op ∧ op ≤ 39) (m : M) (hm : m.base ≤ m.n) : CallV (ex Try.prog (n + 2)) 49 [.int .i64 op] m (.tuple #[.agg ⟨rowC (baseN op) [wholeF 0, regF 5, regF 16, fld0, fld0]⟩, .bool true]) := by
  refine call_ret dc2_ok (by simp) ?_
  have st0 := (St.nil hm (Ext.refl m)).row row0
  obtain ⟨v1, m1, a1, a2, rfl⟩ := base_c n op (by omega) (Dx.newRow m row0)
  have a1' : (ex Try.prog (n + 1)).f 65 [.int .i64 op] (Dx.newRow m [.int .u32 0, .int .i64 0, .int .i64 0, .int .i64 0, .int .i64 0, .int .i64 0, .bool false, .int .i64 0, .int .i64 0, .int .i64 0, .int .i64 0, .int .i64 0, .bool false, .int .i64 0, .int .i64 0, .int .i64 0, .int .i64 0, .int .i64 0, .bool false, .int .i64 0, .int .i64 0, .int .i64 0, .int .i64 0, .int .i64 0, .bool false, .int .i64 0, .int .i64 0, .int .i64 0, .int .i64 0, .int .i64 0, .bool false]) = some (wv (baseN op), m1) := a1
  obtain ⟨m2, b1, st2, b2, b3⟩ := (st0.step a2).store 0 rfl (o := 0) (v := wv (baseN op)) (by simp [row0, rowC]) rfl
  have b1' : storeS 1 (.pointer (some ⟨m.n, 0, none⟩)) (wv (baseN op)) m1 = some (undef, m2) := b1
  have l0 := (st2.get 0 rfl).2.2.load1 0 none
  have l0' : load1 m2 ⟨m.n, 0, none⟩ = some (wv (baseN op)) := l0
  obtain ⟨v3, m3, c3a, c3l, c3e, rfl⟩ := any_call (whole_c n 0 (forAny m2) (by rw [forAny_base, forAny_n]; exact Nat.le_refl _))
  have st3 := st2.step c3e
  obtain ⟨v4, m4, c4a, c4l, c4e, rfl⟩ := any_call (reg_c n 5 (forAny (behind m2 m3)) (by rw [forAny_base, forAny_n]; exact Nat.le_refl _))
  have st4 := st3.step c4e
  obtain ⟨v5, m5, c5a, c5l, c5e, rfl⟩ := any_call (reg_c n 16 (forAny (behind (behind m2 m3) m4)) (by rw [forAny_base, forAny_n]; exact Nat.le_refl _))
  have st5 := st4.step c5e
  obtain ⟨m6, d6a, d6l, st6, -, -⟩ := st5.fillAtAny 0 rfl (n := 6) (o := 1) (l' := fldL (wholeF 0)) (by omega) rfl (by simp [over_length, rowC, row0, fldL]) (fld_ok _)
  obtain ⟨m7, d7a, d7l, st7, -, -⟩ := st6.fillAtAny 0 rfl (n := 6) (o := 7) (l' := fldL (regF 5)) (by omega) rfl (by simp [over_length, rowC, row0, fldL]) (fld_ok _)
  obtain ⟨m8, d8a, d8l, st8, -, -⟩ := st7.fillAtAny 0 rfl (n := 6) (o := 13) (l' := fldL (regF 16)) (by omega) rfl (by simp [over_length, rowC, row0, fldL]) (fld_ok _)
  have ll := (st8.get 0 rfl).2.2.loads (o := 0) (n := 31) (s := none) (by simp [over_length, rowC, row0, fldL])
  obtain ⟨L, hL⟩ : ∃ L, L = rowC (baseN op) [wholeF 0, regF 5, regF 16, fld0, fld0] := ⟨_, rfl⟩
  replace ll : loads (behind (behind (behind (behind (behind (behind m2 m3) m4) m5) m6) m7) m8) ⟨m.n, 0, none⟩ 31 = some L := by rw [ll, hL]; kernel_rfl
  obtain ⟨mZ, hZ⟩ : ∃ mZ, mZ = (behind (behind (behind (behind (behind (behind m2 m3) m4) m5) m6) m7) m8) := ⟨_, rfl⟩
  rw [← hZ] at ll st8
  rw [← hL]
  obtain ⟨mY, e1, stY, -, -⟩ := st8.fill 0 rfl (n := 31) (l' := L) (by simp [over_length, rowC, row0, fldL]) (by rw [hL]; rfl) (by rw [hL]; exact row_ok _ _)
  have l9 := (stY.get 0 rfl).2.2.loads (o := 0) (n := 31) (s := none) (by rw [hL]; exact Nat.le_refl _)
  replace l9 : loads mY ⟨m.n, 0, none⟩ 31 = some L := by rw [l9, List.drop_zero, List.take_of_length_le (by rw [hL]; exact Nat.le_refl _)]
  have hb0 : ((baseN op : Int) = 0) = False := eq_false (by have := base_pos op (by omega) (by omega); omega)
  have hb1 : (baseN op = 0) = False := eq_false (by have := base_pos op (by omega) (by omega); omega)
  have q0 : ((op : Int) < 1) = False := eq_false (by omega)
  have q1 : ((47 : Int) < op) = False := eq_false (by omega)
  have q2 : ((op : Int) ≤ 2) = False := eq_false (by omega)
  have q3 : ((op : Int) ≤ 11) = False := eq_false (by omega)
  have q4 : ((op : Int) ≤ 13) = False := eq_false (by omega)
  have q5 : ((op : Int) = 14) = False := eq_false (by omega)
  have q6 : ((op : Int) = 15) = False := eq_false (by omega)
  have q7 : ((op : Int) = 16) = False := eq_false (by omega)
  have q8 : ((op : Int) = 17) = False := eq_false (by omega)
  have q9 : ((op : Int) = 18) = False := eq_false (by omega)
  have q10 : ((op : Int) = 19) = False := eq_false (by omega)
  have q11 : ((op : Int) ≤ 21) = False := eq_false (by omega)
  have q12 : ((op : Int) ≤ 23) = False := eq_false (by omega)
  have q13 : ((op : Int) ≤ 27) = False := eq_false (by omega)
  have q14 : ((op : Int) = 35) = False := eq_false (by omega)
  have q15 : ((op : Int) ≤ 29) = False := eq_false (by omega)
  have q16 : ((op : Int) = 33) = False := eq_false (by omega)
  have q17 : ((op : Int) ≤ 39) = True := eq_true (by omega)
  simp [a1', b1', l0', hb0, hb1, iaF0, iaF1, iaF2, iaF3, iaF4, q0, q1, q2, q3, q4, q5, q6, q7, q8, q9, q10, q11, q12, q13, q14, q15, q16, q17, c3a, c3l, c4a, c4l, c5a, c5l, d6a, d6l, d7a, d7l, d8a, d8l, loadNS_ptr, ll, e1, ← hZ]
  exact ret_ct1 (a := ⟨m.n, 0, none⟩) (by simp) l9 stY.ext (by simp)
set_option maxHeartbeats 1000000 in
theorem row_P (n : Nat) (op : Nat) (h : 40 ≤ op ∧ op ≤ 47) (m : M) (hm : m.base ≤ m.n) : CallV (ex Try.prog (n + 2)) 49 [.int .i64 op] m (.tuple #[.agg ⟨rowC (baseN op) [regF 0, regF 5, wholeF 16, fld0, fld0]⟩, .bool true]) := by
  refine call_ret dc2_ok (by simp) ?_
  have st0 := (St.nil hm (Ext.refl m)).row row0
  obtain ⟨v1, m1, a1, a2, rfl⟩ := base_c n op (by omega) (Dx.newRow m row0)
  have a1' : (ex Try.prog (n + 1)).f 65 [.int .i64 op] (Dx.newRow m [.int .u32 0, .int .i64 0, .int .i64 0, .int .i64 0, .int .i64 0, .int .i64 0, .bool false, .int .i64 0, .int .i64 0, .int .i64 0, .int .i64 0, .int .i64 0, .bool false, .int .i64 0, .int .i64 0, .int .i64 0, .int .i64 0, .int .i64 0, .bool false, .int .i64 0, .int .i64 0, .int .i64 0, .int .i64 0, .int .i64 0, .bool false, .int .i64 0, .int .i64 0, .int .i64 0, .int .i64 0, .int .i64 0, .bool false]) = some (wv (baseN op), m1) := a1
  obtain ⟨m2, b1, st2, b2, b3⟩ := (st0.step a2).store 0 rfl (o := 0) (v := wv (baseN op)) (by simp [row0, rowC]) rfl
  have b1' : storeS 1 (.pointer (some ⟨m.n, 0, none⟩)) (wv (baseN op)) m1 = some (undef, m2) := b1
  have l0 := (st2.get 0 rfl).2.2.load1 0 none
  have l0' : load1 m2 ⟨m.n, 0, none⟩ = some (wv (baseN op)) := l0
  obtain ⟨v3, m3, c3a, c3l, c3e, rfl⟩ := any_call (reg_c n 0 (forAny m2) (by rw [forAny_base, forAny_n]; exact Nat.le_refl _))
  have st3 := st2.step c3e
  obtain ⟨v4, m4, c4a, c4l, c4e, rfl⟩ := any_call (reg_c n 5 (forAny (behind m2 m3)) (by rw [forAny_base, forAny_n]; exact Nat.le_refl _))
  have st4 := st3.step c4e
  obtain ⟨v5, m5, c5a, c5l, c5e, rfl⟩ := any_call (whole_c n 16 (forAny (behind (behind m2 m3) m4)) (by rw [forAny_base, forAny_n]; exact Nat.le_refl _))
  have st5 := st4.step c5e
  obtain ⟨m6, d6a, d6l, st6, -, -⟩ := st5.fillAtAny 0 rfl (n := 6) (o := 1) (l' := fldL (regF 0)) (by omega) rfl (by simp [over_length, rowC, row0, fldL]) (fld_ok _)
  obtain ⟨m7, d7a, d7l, st7, -, -⟩ := st6.fillAtAny 0 rfl (n := 6) (o := 7) (l' := fldL (regF 5)) (by omega) rfl (by simp [over_length, rowC, row0, fldL]) (fld_ok _)
  obtain ⟨m8, d8a, d8l, st8, -, -⟩ := st7.fillAtAny 0 rfl (n := 6) (o := 13) (l' := fldL (wholeF 16)) (by omega) rfl (by simp [over_length, rowC, row0, fldL]) (fld_ok _)
  have ll := (st8.get 0 rfl).2.2.loads (o := 0) (n := 31) (s := none) (by simp [over_length, rowC, row0, fldL])
  obtain ⟨L, hL⟩ : ∃ L, L = rowC (baseN op) [regF 0, regF 5, wholeF 16, fld0, fld0] := ⟨_, rfl⟩
  replace ll : loads (behind (behind (behind (behind (behind (behind m2 m3) m4) m5) m6) m7) m8) ⟨m.n, 0, none⟩ 31 = some L := by rw [ll, hL]; kernel_rfl
  obtain ⟨mZ, hZ⟩ : ∃ mZ, mZ = (behind (behind (behind (behind (behind (behind m2 m3) m4) m5) m6) m7) m8) := ⟨_, rfl⟩
  rw [← hZ] at ll st8
  rw [← hL]
  obtain ⟨mY, e1, stY, -, -⟩ := st8.fill 0 rfl (n := 31) (l' := L) (by simp [over_length, rowC, row0, fldL]) (by rw [hL]; rfl) (by rw [hL]; exact row_ok _ _)
  have l9 := (stY.get 0 rfl).2.2.loads (o := 0) (n := 31) (s := none) (by rw [hL]; exact Nat.le_refl _)
  replace l9 : loads mY ⟨m.n, 0, none⟩ 31 = some L := by rw [l9, List.drop_zero, List.take_of_length_le (by rw [hL]; exact Nat.le_refl _)]
  have hb0 : ((baseN op : Int) = 0) = False := eq_false (by have := base_pos op (by omega) (by omega); omega)
  have hb1 : (baseN op = 0) = False := eq_false (by have := base_pos op (by omega) (by omega); omega)
  have q0 : ((op : Int) < 1) = False := eq_false (by omega)
  have q1 : ((47 : Int) < op) = False := eq_false (by omega)
  have q2 : ((op : Int) ≤ 2) = False := eq_false (by omega)
  have q3 : ((op : Int) ≤ 11) = False := eq_false (by omega)
  have q4 : ((op : Int) ≤ 13) = False := eq_false (by omega)
  have q5 : ((op : Int) = 14) = False := eq_false (by omega)
  have q6 : ((op : Int) = 15) = False := eq_false (by omega)
  have q7 : ((op : Int) = 16) = False := eq_false (by omega)
  have q8 : ((op : Int) = 17) = False := eq_false (by omega)
  have q9 : ((op : Int) = 18) = False := eq_false (by omega)
  have q10 : ((op : Int) = 19) = False := eq_false (by omega)
  have q11 : ((op : Int) ≤ 21) = False := eq_false (by omega)
  have q12 : ((op : Int) ≤ 23) = False := eq_false (by omega)
  have q13 : ((op : Int) ≤ 27) = False := eq_false (by omega)
  have q14 : ((op : Int) = 35) = False := eq_false (by omega)
  have q15 : ((op : Int) ≤ 29) = False := eq_false (by omega)
  have q16 : ((op : Int) = 33) = False := eq_false (by omega)
  have q17 : ((op : Int) ≤ 39) = False := eq_false (by omega)
  simp [a1', b1', l0', hb0, hb1, iaF0, iaF1, iaF2, iaF3, iaF4, q0, q1, q2, q3, q4, q5, q6, q7, q8, q9, q10, q11, q12, q13, q14, q15, q16, q17, c3a, c3l, c4a, c4l, c5a, c5l, d6a, d6l, d7a, d7l, d8a, d8l, loadNS_ptr, ll, e1, ← hZ]
  exact ret_ct1 (a := ⟨m.n, 0, none⟩) (by simp) l9 stY.ext (by simp)
end Go.Sx
namespace Go.Dx
theorem binV_and' (k : IntKind) (a b : Int) : binV .and (.int k a) (.int k b) = some (.int k (bits .and k a b)) := by rw [binV_int]; rfl
theorem binV_or' (k : IntKind) (a b : Int) : binV .or (.int k a) (.int k b) = some (.int k (bits .or k a b)) := by rw [binV_int]; rfl
theorem binV_xor' (k : IntKind) (a b : Int) : binV .xor (.int k a) (.int k b) = some (.int k (bits .xor k a b)) := by rw [binV_int]; rfl
theorem binV_mul' (k : IntKind) (a b : Int) : binV .mul (.int k a) (.int k b) = some (.int k (k.wrap (a * b))) := by
  rw [binV_int]
  show some (Value.int k (wrapF k (a * b))) = _
  rw [wrapF_eq]
theorem binV_quo'' (k : IntKind) (a b : Int) (h : b ≠ 0) : binV .quo (.int k a) (.int k b) = some (.int k (k.wrap (a.tdiv b))) := by
  rw [binV_int]
  show pureOf (Op.intDiv .quo k a b) = _
  unfold Op.intDiv
  rw [if_neg h]; rfl
theorem binV_rem' (k : IntKind) (a b : Int) (h : b ≠ 0) : binV .rem (.int k a) (.int k b) = some (.int k (a.tmod b)) := by
  rw [binV_int]
  show pureOf (Op.intDiv .rem k a b) = _
  unfold Op.intDiv
  rw [if_neg h]; rfl
theorem convI_any (k k' : IntKind) (a : Int) : convIV k (.int k' a) = some (.int k (k.wrap a)) := by
  show some (Value.int k (wrapF k a)) = _
  rw [wrapF_eq]
end Go.Dx
namespace Go.Sx
open Go.Dx Go.Proofs
set_option maxRecDepth 10000
structure Ins where
  op : Int
  rd : Int
  rn : Int
  rm : Int
  imm : Int
  cond : Int
  deriving DecidableEq
def insL (i : Ins) : List Value := [iv i.op, iv i.rd, iv i.rn, iv i.rm, iv i.imm, iv i.cond]
theorem ins_ok (i : Ins) : ∀ v ∈ insL i, okC v = true := by simp [insL, okC]
def ins0 : Ins := ⟨0, 0, 0, 0, 0, 0⟩
def valsL (i : Ins) : List Value := [iv i.rd, iv i.rn, iv i.rm, iv i.imm, iv i.cond]
def FldOK (f : Fld) : Prop := 0 ≤ f.at_ ∧ 0 ≤ f.width ∧ (f.width ≠ 0 → f.step ≠ 0)
def mskF (f : Fld) : Int := IntKind.u32.wrap (IntKind.u32.wrap (1 * 2 ^ (min f.width.toNat 32)) - 1)
def rdF0 (f : Fld) (w : Int) : Int := IntKind.i64.wrap (bits .and .u32 (w.fdiv (2 ^ (min f.at_.toNat 32))) (mskF f))
def rdF1 (f : Fld) (w : Int) : Int := if f.turned then bits .xor .i64 (rdF0 f w) 1 else rdF0 f w
def rdF2 (f : Fld) (w : Int) : Int :=
  if f.lo < 0 ∧ rdF1 f w ≥ IntKind.i64.wrap (1 * 2 ^ (min (IntKind.i64.wrap (f.width - 1)).toNat 64)) then IntKind.i64.wrap (rdF1 f w - IntKind.i64.wrap (1 * 2 ^ (min f.width.toNat 64))) else rdF1 f w
def rdF (f : Fld) (w : Int) : Int := if f.width = 0 then 0 else IntKind.i64.wrap (rdF2 f w * f.step)
def inF (f : Fld) (v : Int) : Bool := if f.step = 0 then decide (v = 0) else decide (f.lo ≤ v) && decide (v ≤ f.hi) && decide (v.tmod f.step = 0)
def layF0 (f : Fld) (v : Int) : Int := bits .and .u32 (IntKind.u32.wrap (IntKind.i64.wrap (v.tdiv f.step))) (mskF f)
def layF1 (f : Fld) (v : Int) : Int := if f.turned then bits .xor .u32 (layF0 f v) 1 else layF0 f v
def layF (f : Fld) (v : Int) : Int := if f.width = 0 then 0 else IntKind.u32.wrap (layF1 f v * 2 ^ (min f.at_.toNat 32))
theorem in_c (n : Nat) (f : Fld) (v : Int) (m : M) (hm : m.base ≤ m.n) : CallV (ex Try.prog (n + 1)) 72 [.agg ⟨fldL f⟩, iv v] m (.bool (inF f v)) := by
  refine call_ret dd8_ok (by simp) ?_
  have l : ∀ o, load1 (Dx.newRow m (fldL f)) ⟨m.n, o, none⟩ = (fldL f)[o]? := fun o => load1_row m (fldL f) o
  have l2 := l 2; have l3 := l 3; have l4 := l 4
  simp only [fldL, List.getElem?_cons_succ, List.getElem?_cons_zero] at l2 l3 l4
  have E : Ext m (Dx.newRow m (fldL f)) := Ext.row _ _
  obtain ⟨m1, hm1⟩ : ∃ m1, m1 = Dx.newRow m (fldL f) := ⟨_, rfl⟩
  have hb : boxS (.agg ⟨fldL f⟩) m = some (.pointer (some ⟨m.n, 0, none⟩), m1) := by rw [hm1]; rfl
  rw [show Dx.newRow m [iv f.at_, iv f.width, iv f.lo, iv f.hi, iv f.step, .bool f.turned] = m1 from hm1.symm] at l2 l3 l4
  rw [← hm1] at E
  by_cases h0 : f.step = 0
  · simp [hb, l2, l3, l4, h0]
    exact ret_1 E (by simp [inF, h0])
  · by_cases h1 : f.lo ≤ v
    · by_cases h2 : v ≤ f.hi
      · have hr := binV_rem' .i64 v f.step h0
        simp [hb, l2, l3, l4, h0, h1, h2, hr]
        exact ret_1 E (by simp [inF, h0, h1, h2])
      · simp [hb, l2, l3, l4, h0, h1, h2]
        exact ret_1 E (by simp [inF, h0, h1, h2])
    · simp [hb, l2, l3, l4, h0, h1]
      exact ret_1 E (by simp [inF, h0, h1])
theorem box_row {m : M} {l : List Value} (hl : l ≠ []) : ∃ m1, boxS (.agg ⟨l⟩) m = some (.pointer (some ⟨m.n, 0, none⟩), m1) ∧ Ext m m1 ∧ m1.n = m.n + 1 ∧ (∀ o, load1 m1 ⟨m.n, o, none⟩ = l[o]?) ∧ Arr m1 m.n l :=
  ⟨Dx.newRow m l, rfl, Ext.row _ _, newRow_n _ _, fun o => load1_row m l o, Arr.row m l⟩
theorem lay_c (n : Nat) (f : Fld) (hf : FldOK f) (v : Int) (m : M) (hm : m.base ≤ m.n) : CallV (ex Try.prog (n + 1)) 73 [.agg ⟨fldL f⟩, iv v] m (wv (layF f v)) := by
  refine call_ret dd9_ok (by simp) ?_
  obtain ⟨m1, hb, E, hn1, l, -⟩ := box_row (m := m) (l := fldL f) (by simp [fldL])
  have l0 : load1 m1 ⟨m.n, 0, none⟩ = some (iv f.at_) := l 0
  have l1 : load1 m1 ⟨m.n, 1, none⟩ = some (iv f.width) := l 1
  have l4 : load1 m1 ⟨m.n, 4, none⟩ = some (iv f.step) := l 4
  have l5 : load1 m1 ⟨m.n, 5, none⟩ = some (.bool f.turned) := l 5
  obtain ⟨f1, f2, f3⟩ := hf
  by_cases h0 : f.width = 0
  · rw [h0] at l1
    simp [hb, l1]
    exact ret_1 E (by simp [layF, h0])
  · have hq := binV_quo'' .i64 v f.step (f3 h0)
    have hs := sh_l (k := .u32) (k' := .i64) (a := 1) f2
    have hm' : IntKind.u32.wrap (IntKind.u32.wrap (1 * 2 ^ (min f.width.toNat IntKind.u32.bits)) - 1) = mskF f := rfl
    have hs2 := sh_l (k := .u32) (k' := .i64) (a := layF1 f v) f1
    obtain ⟨a, ha⟩ : ∃ a, a = layF f v := ⟨_, rfl⟩
    have ha' : IntKind.u32.wrap (layF1 f v * 2 ^ (min f.at_.toNat IntKind.u32.bits)) = a := by rw [ha]; unfold layF; rw [if_neg h0]; rfl
    rw [ha'] at hs2
    obtain ⟨b, hbb⟩ : ∃ b, b = layF0 f v := ⟨_, rfl⟩
    have hb' : bits .and .u32 (IntKind.u32.wrap (IntKind.i64.wrap (v.tdiv f.step))) (mskF f) = b := by rw [hbb]; rfl
    obtain ⟨c, hc⟩ : ∃ c, c = IntKind.u32.wrap (1 * 2 ^ (min f.width.toNat IntKind.u32.bits)) := ⟨_, rfl⟩
    rw [← hc] at hs hm'
    rw [← ha]
    cases ht : f.turned with
    | false =>
      have hl1 : layF1 f v = b := by unfold layF1; rw [ht, hbb]; rfl
      rw [hl1] at hs2
      rw [ht] at l5
      simp [hb, l0, l1, l4, l5, h0, hq, convI_any, hs, hm', binV_and', hb', hs2]
      exact ret_1 E (by simp)
    | true =>
      have hl1 : bits .xor .u32 b 1 = layF1 f v := by unfold layF1; rw [ht, hbb]; rfl
      rw [ht] at l5
      simp [hb, l0, l1, l4, l5, h0, hq, convI_any, hs, hm', binV_and', hb', binV_xor', hl1, hs2]
      exact ret_1 E (by simp)
theorem read_c (n : Nat) (f : Fld) (hf : FldOK f) (hw1 : f.width ≠ 0 → 1 ≤ f.width ∧ f.width ≤ 64) (w : Int) (m : M) (hm : m.base ≤ m.n) : CallV (ex Try.prog (n + 1)) 70 [.agg ⟨fldL f⟩, wv w] m (iv (rdF f w)) := by
  refine call_ret dd6_ok (by simp) ?_
  obtain ⟨m1, hb, E, hn1, l, -⟩ := box_row (m := m) (l := fldL f) (by simp [fldL])
  have l0 : load1 m1 ⟨m.n, 0, none⟩ = some (iv f.at_) := l 0
  have l1 : load1 m1 ⟨m.n, 1, none⟩ = some (iv f.width) := l 1
  have l2 : load1 m1 ⟨m.n, 2, none⟩ = some (iv f.lo) := l 2
  have l4 : load1 m1 ⟨m.n, 4, none⟩ = some (iv f.step) := l 4
  have l5 : load1 m1 ⟨m.n, 5, none⟩ = some (.bool f.turned) := l 5
  obtain ⟨f1, f2, f3⟩ := hf
  by_cases h0 : f.width = 0
  · rw [h0] at l1
    simp [hb, l1]
    exact ret_1 E (by simp [rdF, h0])
  · obtain ⟨w1, w2⟩ := hw1 h0
    have hs0 := sh_r (k := .u32) (k' := .i64) (a := w) f1
    have hs := sh_l (k := .u32) (k' := .i64) (a := 1) f2
    have hm' : IntKind.u32.wrap (IntKind.u32.wrap (1 * 2 ^ (min f.width.toNat IntKind.u32.bits)) - 1) = mskF f := rfl
    obtain ⟨c, hc⟩ : ∃ c, c = IntKind.u32.wrap (1 * 2 ^ (min f.width.toNat IntKind.u32.bits)) := ⟨_, rfl⟩
    rw [← hc] at hs hm'
    obtain ⟨d, hd⟩ : ∃ d, d = w.fdiv (2 ^ (min f.at_.toNat IntKind.u32.bits)) := ⟨_, rfl⟩
    rw [← hd] at hs0
    obtain ⟨b, hbb⟩ : ∃ b, b = rdF0 f w := ⟨_, rfl⟩
    have hb' : IntKind.i64.wrap (bits .and .u32 d (mskF f)) = b := by rw [hbb, hd]; rfl
    have hwd : IntKind.i64.wrap (f.width - 1) = f.width - 1 := wrap64 _ (by omega) (by omega)
    have hs1 := sh_l (k := .i64) (k' := .i64) (a := 1) (b := f.width - 1) (by omega)
    have hs2 := sh_l (k := .i64) (k' := .i64) (a := 1) (b := f.width) f2
    obtain ⟨p, hp⟩ : ∃ p, p = IntKind.i64.wrap (1 * 2 ^ (min (f.width - 1).toNat IntKind.i64.bits)) := ⟨_, rfl⟩
    obtain ⟨q, hq⟩ : ∃ q, q = IntKind.i64.wrap (1 * 2 ^ (min f.width.toNat IntKind.i64.bits)) := ⟨_, rfl⟩
    rw [← hp] at hs1
    rw [← hq] at hs2
    obtain ⟨g, hg⟩ : ∃ g, g = rdF1 f w := ⟨_, rfl⟩
    have fin : ∀ t, Tm.get 2 t = .pointer (some ⟨m.n, 0, none⟩) → Tm.get 5 t = iv g → Ret m (fun v _ => v = iv (rdF f w)) (cd6_9 (ex Try.prog n) (resK [.t 4]) noK (resK [.t 4]) t m1) := by
      intro t t2 t5
      have e2 : rdF2 f w = if f.lo < 0 ∧ g ≥ p then IntKind.i64.wrap (g - q) else g := by
        unfold rdF2; rw [hwd, ← hg, hp, hq]; rfl
      have er : rdF f w = IntKind.i64.wrap (rdF2 f w * f.step) := by unfold rdF; rw [if_neg h0]
      by_cases h1 : f.lo < 0
      · by_cases h2 : p ≤ g
        · rw [if_pos ⟨h1, h2⟩] at e2
          simp [t2, t5, l1, l2, l4, h1, h2, hwd, hs1, hs2, binV_mul']
          exact ret_1 E (by simp [er, e2])
        · rw [if_neg (fun h => h2 h.2)] at e2
          simp [t2, t5, l1, l2, l4, h1, h2, hwd, hs1, hs2, binV_mul']
          exact ret_1 E (by simp [er, e2])
      · rw [if_neg (fun h => h1 h.1)] at e2
        simp [t2, t5, l1, l2, l4, h1, hwd, hs1, hs2, binV_mul']
        exact ret_1 E (by simp [er, e2])
    cases ht : f.turned with
    | false =>
      have hl1 : g = b := by rw [hg]; unfold rdF1; rw [ht, hbb]; rfl
      rw [ht] at l5
      simp [-cd6_9_ap, hb, l0, l1, l5, h0, convI_any, hs0, hs, hm', binV_and', hb']
      exact fin _ (by simp) (by simp [hl1])
    | true =>
      have hl1 : bits .xor .i64 b 1 = g := by rw [hg]; unfold rdF1; rw [ht, hbb]; rfl
      rw [ht] at l5
      simp [-cd6_9_ap, hb, l0, l1, l5, h0, convI_any, hs0, hs, hm', binV_and', hb', binV_xor', hl1]
      exact fin _ (by simp) (by simp)
theorem values_c (n : Nat) (i : Ins) (m : M) (hm : m.base ≤ m.n) : CallV (ex Try.prog (n + 1)) 71 [.agg ⟨insL i⟩] m (.agg ⟨valsL i⟩) := by
  refine call_ret dd7_ok (by simp) ?_
  obtain ⟨m1, hb, E, hn1, l, ar⟩ := box_row (m := m) (l := insL i) (by simp [insL])
  have st1 : St m m1 [(m.n, insL i)] := by have := (St.nil hm (Ext.refl m)).row (insL i); cases hb; exact this
  have st2 := st1.row [.int .i64 0, .int .i64 0, .int .i64 0, .int .i64 0, .int .i64 0]
  obtain ⟨m2, s1, st3, s2, s3⟩ := st2.fill 0 rfl (n := 5) (l' := valsL i) rfl rfl (by simp [valsL, okC])
  have S : Sees m1 (Dx.newRow m1 [.int .i64 0, .int .i64 0, .int .i64 0, .int .i64 0, .int .i64 0]) := st1.sees.self.ext (Ext.row _ _)
  have lt : m.n < m1.n := by omega
  have k : ∀ o, load1 (Dx.newRow m1 [.int .i64 0, .int .i64 0, .int .i64 0, .int .i64 0, .int .i64 0]) ⟨m.n, o, none⟩ = (insL i)[o]? := fun o => by rw [load1_sees S lt]; exact l o
  have k1 := k 1; have k2 := k 2; have k3 := k 3; have k4 := k 4; have k5 := k 5
  simp only [insL, List.getElem?_cons_succ, List.getElem?_cons_zero] at k1 k2 k3 k4 k5
  have bu : buildV [.int .i64 0, .int .i64 0, .int .i64 0, .int .i64 0, .int .i64 0] [(0, 1, iv i.rd), (1, 1, iv i.rn), (2, 1, iv i.rm), (3, 1, iv i.imm), (4, 1, iv i.cond)] = some (.agg ⟨valsL i⟩) := rfl
  simp [hb, k1, k2, k3, k4, k5, bu, s1]
  exact ret_cell (a := ⟨m1.n, 0, none⟩) (by simp) ((st3.get 0 rfl).2.2.loads (o := 0) (n := 5) (by simp [valsL])) st3.ext rfl
end Go.Sx
namespace Go.Sx
open Go.Dx Go.Proofs
set_option maxRecDepth 10000
def fl5 (F : Nat → Fld) : List Fld := [F 0, F 1, F 2, F 3, F 4]
def valI (i : Ins) (k : Nat) : Int := match k with | 0 => i.rd | 1 => i.rn | 2 => i.rm | 3 => i.imm | _ => i.cond
theorem lt5 {i : Nat} (h : i < 5) : i = 0 ∨ i = 1 ∨ i = 2 ∨ i = 3 ∨ i = 4 := by omega
theorem idx_fld (F : Nat → Fld) {i : Nat} (h : i < 5) : idxG 5 true 6 (.agg ⟨(fl5 F).flatMap fldL⟩) (iv i) = some (.agg ⟨fldL (F i)⟩) := by
  rcases lt5 h with rfl | rfl | rfl | rfl | rfl <;> rfl
theorem idx_val (x : Ins) {i : Nat} (h : i < 5) : idxG 5 false 1 (.agg ⟨valsL x⟩) (iv i) = some (iv (valI x i)) := by
  rcases lt5 h with rfl | rfl | rfl | rfl | rfl <;> rfl
theorem iaV (B : Nat) {i : Nat} (h : i < 5) : iaddrAV 5 1 (.pointer (some ⟨B, 0, none⟩)) (iv i) = some (.pointer (some ⟨B, i, none⟩)) := by
  rcases lt5 h with rfl | rfl | rfl | rfl | rfl <;> rfl
theorem row_fld {m : M} {B w : Nat} {F : Nat → Fld} (h : Arr m B (rowC w (fl5 F))) {i : Nat} (hi : i < 5) : loads m ⟨B, 1 + i * 6, none⟩ 6 = some (fldL (F i)) := by
  rw [h.loads (by simp [rowC, fl5, fldL]; omega)]
  rcases lt5 hi with rfl | rfl | rfl | rfl | rfl <;> rfl
theorem rowC_len (w : Nat) (F : Nat → Fld) : (rowC w (fl5 F)).length = 31 := rfl
structure RowOK (F : Nat → Fld) : Prop where
  ok : ∀ i, i < 5 → FldOK (F i)
  wd : ∀ i, i < 5 → (F i).width ≠ 0 → 1 ≤ (F i).width ∧ (F i).width ≤ 64
def rdRow (F : Nat → Fld) (w : Int) (i : Nat) : List Value := (List.range 5).map fun k => if k < i then iv (rdF (F k) w) else iv 0
theorem rdRow_set (F : Nat → Fld) (w : Int) {i : Nat} (h : i < 5) : (rdRow F w i).set i (iv (rdF (F i) w)) = rdRow F w (i + 1) := by
  rcases lt5 h with rfl | rfl | rfl | rfl | rfl <;> rfl
def readI (F : Nat → Fld) (op : Nat) (w : Int) : Ins :=
  ⟨op, rdF (F 0) w, rdF (F 1) w, rdF (F 2) w, if op = 14 then IntKind.i64.wrap (63 - IntKind.i64.wrap (bits .and .u32 (w.fdiv (2 ^ (min 10 32))) 63)) else rdF (F 3) w, rdF (F 4) w⟩
abbrev z6i : List Value := [.int .i64 0, .int .i64 0, .int .i64 0, .int .i64 0, .int .i64 0, .int .i64 0]
abbrev z5i : List Value := [.int .i64 0, .int .i64 0, .int .i64 0, .int .i64 0, .int .i64 0]
set_option maxHeartbeats 1000000 in
theorem rread_c (n : Nat) (W : Nat) (F : Nat → Fld) (hF : RowOK F) (op : Nat) (hop : op < 48) (w : Int) (m : M) (hm : m.base ≤ m.n) : CallV (ex Try.prog (n + 2)) 50 [.agg ⟨rowC W (fl5 F)⟩, iv op, wv w] m (.agg ⟨insL (readI F op w)⟩) := by
  refine call_ret dc3_ok (by simp) ?_
  obtain ⟨m1, hb, E, hn1, l, ar⟩ := box_row (m := m) (l := rowC W (fl5 F)) (by simp [rowC])
  have st1 : St m m1 [(m.n, rowC W (fl5 F))] := by have := (St.nil hm (Ext.refl m)).row (rowC W (fl5 F)); cases hb; exact this
  have st2 := (st1.row z6i).row z5i
  obtain ⟨mA, hA⟩ : ∃ mA, mA = Dx.newRow (Dx.newRow m1 z6i) z5i := ⟨_, rfl⟩
  rw [newRow_n, ← hA] at st2
  have hA' : Dx.newRow (Dx.newRow m1 [.int .i64 0, .int .i64 0, .int .i64 0, .int .i64 0, .int .i64 0, .int .i64 0]) [.int .i64 0, .int .i64 0, .int .i64 0, .int .i64 0, .int .i64 0] = mA := hA.symm
  have ll : loads mA ⟨m.n, 1, none⟩ 30 = some ((fl5 F).flatMap fldL) := by rw [(st2.get 2 rfl).2.2.loads (o := 1) (n := 30) (by rw [rowC_len]; omega)]; rfl
  simp [hb, hA', loadNS_ptr, ll]
  refine loop_run (c := cc3_7) rfl (Ret m _) (fun i t m' => Tm.get 1 t = iv op ∧ Tm.get 2 t = wv w ∧ Tm.get 6 t = .pointer (some ⟨m1.n, 0, none⟩) ∧ Tm.get 7 t = .pointer (some ⟨m1.n + 1, 0, none⟩) ∧ Tm.get 11 t = .agg ⟨(fl5 F).flatMap fldL⟩ ∧ Tm.get 12 t = iv i ∧ St m m' [(m1.n + 1, rdRow F w i), (m1.n, z6i)]) 5 (by omega)
    ⟨by simp, by simp, by simp, by simp, by simp, by simp, st2.sub (by have h0 : rdRow F w 0 = z5i := rfl; rw [h0]; intro p hp; simp at hp ⊢; rcases hp with rfl | rfl <;> simp) (by simp)⟩ (fun i t m' k hi hI hk => ?_)
  obtain ⟨t1, t2, t6, t7, t11, t12, st⟩ := hI
  by_cases hil : i < 5
  · have hd : ((i : Int) < 5) = True := eq_true (by omega)
    have w1 := nextI (i := i) (by omega)
    have hx := idx_fld F hil
    have hia := iaV (m1.n + 1) hil
    have stB := st.row z6
    obtain ⟨m3, s1, st3, s2, s3⟩ := stB.fill 0 rfl (n := 6) (l' := fldL (F i)) rfl rfl (fld_ok _)
    have s1' : storeS 6 (.pointer (some ⟨m'.n, 0, none⟩)) (.agg ⟨fldL (F i)⟩) (Dx.newRow m' [.int .i64 0, .int .i64 0, .int .i64 0, .int .i64 0, .int .i64 0, .bool false]) = some (undef, m3) := s1
    have l6 : loads m3 ⟨m'.n, 0, none⟩ 6 = some (fldL (F i)) := (st3.get 0 rfl).2.2.loads (o := 0) (n := 6) (by simp [fldL])
    obtain ⟨v4, m4, a1, a2, rfl⟩ := read_c n (F i) (hF.ok i hil) (hF.wd i hil) w m3 st3.sees.base
    have st4 := st3.step a2
    obtain ⟨m5, b1, st5, b2, b3⟩ := st4.store 1 (b := m1.n + 1) (l := rdRow F w i) rfl (o := i) (v := iv (rdF (F i) w)) (by simp [rdRow]; exact hil) rfl
    simp [t1, t2, t6, t7, t11, t12, hd, pIdx_ap, hx, s1', loadNS_ptr, l6, a1, hia, b1, w1]
    refine hk hil _ _ ⟨by simp [t1], by simp [t2], by simp [t6], by simp [t7], by simp [t11], by simp, ?_⟩
    refine st5.sub (fun p hp => ?_) (by simp)
    rw [← rdRow_set F w hil] at hp
    simp at hp
    rcases hp with rfl | rfl
    · simp
    · simp
  obtain rfl : i = 5 := by omega
  have t12' : Tm.get 12 t = iv 5 := t12
  have i0 : iaddrAV 5 1 (.pointer (some ⟨m1.n + 1, 0, none⟩)) (.int .i64 0) = some (.pointer (some ⟨m1.n + 1, 0, none⟩)) := rfl
  have i1 : iaddrAV 5 1 (.pointer (some ⟨m1.n + 1, 0, none⟩)) (.int .i64 1) = some (.pointer (some ⟨m1.n + 1, 1, none⟩)) := rfl
  have i2 : iaddrAV 5 1 (.pointer (some ⟨m1.n + 1, 0, none⟩)) (.int .i64 2) = some (.pointer (some ⟨m1.n + 1, 2, none⟩)) := rfl
  have i3 : iaddrAV 5 1 (.pointer (some ⟨m1.n + 1, 0, none⟩)) (.int .i64 3) = some (.pointer (some ⟨m1.n + 1, 3, none⟩)) := rfl
  have i4 : iaddrAV 5 1 (.pointer (some ⟨m1.n + 1, 0, none⟩)) (.int .i64 4) = some (.pointer (some ⟨m1.n + 1, 4, none⟩)) := rfl
  have bu : ∀ a b c d e : Int, buildV z6i [(0, 1, iv op), (1, 1, iv a), (2, 1, iv b), (3, 1, iv c), (4, 1, iv d), (5, 1, iv e)] = some (.agg ⟨[iv op, iv a, iv b, iv c, iv d, iv e]⟩) := fun _ _ _ _ _ => rfl
  have fin : ∀ (d : Int) (m6 : M), St m m6 [(m1.n + 1, [iv (rdF (F 0) w), iv (rdF (F 1) w), iv (rdF (F 2) w), iv d, iv (rdF (F 4) w)]), (m1.n, z6i)] → readI F op w = ⟨op, rdF (F 0) w, rdF (F 1) w, rdF (F 2) w, d, rdF (F 4) w⟩ →
      (∀ o, load1 m6 ⟨m1.n + 1, o, none⟩ = [iv (rdF (F 0) w), iv (rdF (F 1) w), iv (rdF (F 2) w), iv d, iv (rdF (F 4) w)][o]?) ∧ ∃ m7, storeS 6 (.pointer (some ⟨m1.n, 0, none⟩)) (.agg ⟨[iv op, iv (rdF (F 0) w), iv (rdF (F 1) w), iv (rdF (F 2) w), iv d, iv (rdF (F 4) w)]⟩) m6 = some (undef, m7) ∧ Ext m m7 ∧ loads m7 ⟨m1.n, 0, none⟩ 6 = some (insL (readI F op w)) := by
    intro d m6 st6 hr
    refine ⟨fun o => (st6.get 0 rfl).2.2.load1 o none, ?_⟩
    obtain ⟨m7, s1, st7, _, _⟩ := st6.fill 1 (b := m1.n) (l := z6i) rfl (n := 6) (l' := insL (readI F op w)) rfl rfl (ins_ok _)
    refine ⟨m7, ?_, st7.ext, (st7.get 1 rfl).2.2.loads (o := 0) (n := 6) (by simp [insL])⟩
    rw [hr] at s1; exact s1
  by_cases h14 : op = 14
  · have hq : ((op : Int) = 14) = True := eq_true (by omega)
    have hs := sh_r (k := .u32) (k' := .u64) (a := w) (b := 10) (by decide)
    obtain ⟨d, hd⟩ : ∃ d, d = IntKind.i64.wrap (63 - IntKind.i64.wrap (bits .and .u32 (w.fdiv (2 ^ (min 10 32))) 63)) := ⟨_, rfl⟩
    have hd' : IntKind.i64.wrap (63 - IntKind.i64.wrap (bits .and .u32 (w.fdiv (2 ^ (min (10 : Int).toNat IntKind.u32.bits))) 63)) = d := by rw [hd]; rfl
    obtain ⟨u, hu⟩ : ∃ u, u = w.fdiv (2 ^ (min (10 : Int).toNat IntKind.u32.bits)) := ⟨_, rfl⟩
    rw [← hu] at hs hd'
    obtain ⟨m6, b1, st6, b2, b3⟩ := st.store 0 (b := m1.n + 1) (l := rdRow F w 5) rfl (o := 3) (v := iv d) (by simp [rdRow]) rfl
    obtain ⟨la, m7, c1, c2, c3⟩ := fin d m6 st6 (by unfold readI; rw [if_pos h14, hd])
    have l0 := la 0; have l1 := la 1; have l2 := la 2; have l3 := la 3; have l4 := la 4
    simp only [List.getElem?_cons_succ, List.getElem?_cons_zero] at l0 l1 l2 l3 l4
    simp [t1, t2, t6, t7, t12', hq, hs, binV_and', convI_any, hd', i3, b1, i0, i1, i2, i4, l0, l1, l2, l3, l4, bu, c1]
    exact ret_cell (a := ⟨m1.n, 0, none⟩) (by simp [t6]) c3 c2 rfl
  · have hq : ((op : Int) = 14) = False := eq_false (by omega)
    obtain ⟨la, m7, c1, c2, c3⟩ := fin (rdF (F 3) w) m' st (by unfold readI; rw [if_neg h14])
    have l0 := la 0; have l1 := la 1; have l2 := la 2; have l3 := la 3; have l4 := la 4
    simp only [List.getElem?_cons_succ, List.getElem?_cons_zero] at l0 l1 l2 l3 l4
    simp [t1, t2, t6, t7, t12', hq, i3, i0, i1, i2, i4, l0, l1, l2, l3, l4, bu, c1]
    exact ret_cell (a := ⟨m1.n, 0, none⟩) (by simp [t6]) c3 c2 rfl
end Go.Sx
namespace Go.Sx
open Go.Dx Go.Proofs
set_option maxRecDepth 10000
def fitsTo (F : Nat → Fld) (x : Ins) (k : Nat) : Bool := (List.range k).all fun j => inF (F j) (valI x j)
def fitsT (x : Ins) : Bool := if x.op = 14 then decide (1 ≤ x.imm) else if x.op = 28 ∨ x.op = 29 then decide (x.rm ≠ x.rd) && decide (x.rm ≠ x.rn) else true
def fitsB (F : Nat → Fld) (x : Ins) : Bool := fitsTo F x 5 && fitsT x
theorem fitsTo_succ (F : Nat → Fld) (x : Ins) (k : Nat) : fitsTo F x (k + 1) = (fitsTo F x k && inF (F k) (valI x k)) := by
  unfold fitsTo; rw [List.range_succ, List.all_append]; simp
theorem fitsTo_le {F : Nat → Fld} {x : Ins} {k : Nat} (h : fitsTo F x k = false) : ∀ {j}, k ≤ j → fitsTo F x j = false := by
  intro j hj
  unfold fitsTo at *
  rw [List.all_eq_false] at *
  obtain ⟨i, h1, h2⟩ := h
  exact ⟨i, by simp at h1 ⊢; omega, h2⟩
set_option maxHeartbeats 1000000 in
theorem rfits_c (n : Nat) (W : Nat) (F : Nat → Fld) (x : Ins) (m : M) (hm : m.base ≤ m.n) : CallV (ex Try.prog (n + 2)) 51 [.agg ⟨rowC W (fl5 F)⟩, .agg ⟨insL x⟩] m (.bool (fitsB F x)) := by
  refine call_ret dc4_ok (by simp) ?_
  have st2 := ((St.nil hm (Ext.refl m)).row (rowC W (fl5 F))).row (insL x)
  obtain ⟨mA, hA⟩ : ∃ mA, mA = Dx.newRow (Dx.newRow m (rowC W (fl5 F))) (insL x) := ⟨_, rfl⟩
  rw [newRow_n, ← hA] at st2
  have b1 : boxS (.agg ⟨rowC W (fl5 F)⟩) m = some (.pointer (some ⟨m.n, 0, none⟩), Dx.newRow m (rowC W (fl5 F))) := rfl
  have b2 : boxS (.agg ⟨insL x⟩) (Dx.newRow m (rowC W (fl5 F))) = some (.pointer (some ⟨m.n + 1, 0, none⟩), mA) := by rw [hA]; show some (Value.pointer (some ⟨(Dx.newRow m (rowC W (fl5 F))).n, 0, none⟩), _) = _; rw [newRow_n]
  obtain ⟨m0, hm0⟩ : ∃ m0, m0 = Dx.newRow m (rowC W (fl5 F)) := ⟨_, rfl⟩
  rw [← hm0] at b1 b2
  have ll : loads mA ⟨m.n + 1, 0, none⟩ 6 = some (insL x) := (st2.get 0 rfl).2.2.loads (o := 0) (n := 6) (by simp [insL])
  obtain ⟨v1, m1, a1, a2, rfl⟩ := values_c n x mA st2.sees.base
  have st3 := st2.step a2
  simp [b1, b2, loadNS_ptr, ll, a1]
  refine loop_run (c := cc4_10) rfl (Ret m _) (fun i t m' => Tm.get 2 t = .pointer (some ⟨m.n, 0, none⟩) ∧ Tm.get 3 t = .pointer (some ⟨m.n + 1, 0, none⟩) ∧ Tm.get 8 t = .agg ⟨valsL x⟩ ∧ Tm.get 9 t = iv i ∧ fitsTo F x i = true ∧ St m m' [(m.n + 1, insL x), (m.n, rowC W (fl5 F))]) 5 (by omega)
    ⟨by simp, by simp, by simp, by simp, rfl, st3⟩ (fun i t m' k hi hI hk => ?_)
  obtain ⟨t2, t3, t8, t9, hft, st⟩ := hI
  by_cases hil : i < 5
  · have hd : ((i : Int) < 5) = True := eq_true (by omega)
    have w1 := nextI (i := i) (by omega)
    have hx := idx_val x hil
    have hia := iaF m.n i hil
    have l6 : loads m' ⟨m.n, 1 + i * 6, none⟩ 6 = some (fldL (F i)) := row_fld (st.get 1 rfl).2.2 hil
    obtain ⟨v4, m4, c1, c2, rfl⟩ := in_c n (F i) (valI x i) m' st.sees.base
    have st4 := st.step c2
    have hs := fitsTo_succ F x i
    rw [hft, Bool.true_and] at hs
    cases hb : inF (F i) (valI x i) with
    | false =>
      rw [hb] at c1 hs
      simp [t2, t3, t8, t9, hd, pIdx_ap, hx, hia, loadNS_ptr, l6, c1]
      refine ret_1 st4.ext ?_
      have : fitsB F x = false := by unfold fitsB; rw [fitsTo_le hs (by omega)]; rfl
      simp [this]
    | true =>
      rw [hb] at c1 hs
      simp [t2, t3, t8, t9, hd, pIdx_ap, hx, hia, loadNS_ptr, l6, c1, w1]
      exact hk hil _ _ ⟨by simp [t2], by simp [t3], by simp [t8], by simp, hs, st4⟩
  obtain rfl : i = 5 := by omega
  have t9' : Tm.get 9 t = iv 5 := t9
  have l : ∀ o, load1 m' ⟨m.n + 1, o, none⟩ = (insL x)[o]? := fun o => (st.get 0 rfl).2.2.load1 o none
  have l0 := l 0; have l1 := l 1; have l2 := l 2; have l3 := l 3; have l4 := l 4
  simp only [insL, List.getElem?_cons_succ, List.getElem?_cons_zero] at l0 l1 l2 l3 l4
  have hB : fitsB F x = fitsT x := by unfold fitsB; rw [hft, Bool.true_and]
  rw [hB]
  by_cases h14 : x.op = 14
  · simp [t2, t3, t8, t9', l0, l4, h14]
    exact ret_1 st.ext (by simp [fitsT, h14])
  · by_cases h28 : x.op = 28
    · by_cases e1 : x.rm = x.rd
      · simp [t2, t3, t8, t9', l0, l1, l2, l3, h14, h28, e1]
        exact ret_1 st.ext (by simp [fitsT, h14, h28, e1])
      · simp [t2, t3, t8, t9', l0, l1, l2, l3, h14, h28, e1]
        exact ret_1 st.ext (by simp [fitsT, h14, h28, e1])
    · by_cases h29 : x.op = 29
      · by_cases e1 : x.rm = x.rd
        · simp [t2, t3, t8, t9', l0, l1, l2, l3, h14, h28, h29, e1]
          exact ret_1 st.ext (by simp [fitsT, h14, h28, h29, e1])
        · simp [t2, t3, t8, t9', l0, l1, l2, l3, h14, h28, h29, e1]
          exact ret_1 st.ext (by simp [fitsT, h14, h28, h29, e1])
      · simp [t2, t3, t8, t9', l0, l1, l2, l3, h14, h28, h29]
        exact ret_1 st.ext (by simp [fitsT, h14, h28, h29])
def laidTo (W : Nat) (F : Nat → Fld) (x : Ins) (k : Nat) : Int := (List.range k).foldl (fun w j => bits .or .u32 w (layF (F j) (valI x j))) W
def laidW (W : Nat) (F : Nat → Fld) (x : Ins) : Int :=
  if x.op = 14 then bits .or .u32 (laidTo W F x 5) (bits .or .u32 (IntKind.u32.wrap (IntKind.u32.wrap (IntKind.i64.wrap (64 - x.imm)) * 2 ^ (min 16 32))) (IntKind.u32.wrap (IntKind.u32.wrap (IntKind.i64.wrap (63 - x.imm)) * 2 ^ (min 10 32)))) else laidTo W F x 5
theorem laidTo_succ (W : Nat) (F : Nat → Fld) (x : Ins) (k : Nat) : laidTo W F x (k + 1) = bits .or .u32 (laidTo W F x k) (layF (F k) (valI x k)) := by
  unfold laidTo; rw [List.range_succ, List.foldl_append]; rfl
set_option maxHeartbeats 1000000 in
theorem rlaid_c (n : Nat) (W : Nat) (F : Nat → Fld) (hF : RowOK F) (x : Ins) (m : M) (hm : m.base ≤ m.n) : CallV (ex Try.prog (n + 2)) 52 [.agg ⟨rowC W (fl5 F)⟩, .agg ⟨insL x⟩] m (wv (laidW W F x)) := by
  refine call_ret dc5_ok (by simp) ?_
  have st2 := ((St.nil hm (Ext.refl m)).row (rowC W (fl5 F))).row (insL x)
  obtain ⟨mA, hA⟩ : ∃ mA, mA = Dx.newRow (Dx.newRow m (rowC W (fl5 F))) (insL x) := ⟨_, rfl⟩
  rw [newRow_n, ← hA] at st2
  have b1 : boxS (.agg ⟨rowC W (fl5 F)⟩) m = some (.pointer (some ⟨m.n, 0, none⟩), Dx.newRow m (rowC W (fl5 F))) := rfl
  have b2 : boxS (.agg ⟨insL x⟩) (Dx.newRow m (rowC W (fl5 F))) = some (.pointer (some ⟨m.n + 1, 0, none⟩), mA) := by rw [hA]; show some (Value.pointer (some ⟨(Dx.newRow m (rowC W (fl5 F))).n, 0, none⟩), _) = _; rw [newRow_n]
  obtain ⟨m0, hm0⟩ : ∃ m0, m0 = Dx.newRow m (rowC W (fl5 F)) := ⟨_, rfl⟩
  rw [← hm0] at b1 b2
  have ll : loads mA ⟨m.n + 1, 0, none⟩ 6 = some (insL x) := (st2.get 0 rfl).2.2.loads (o := 0) (n := 6) (by simp [insL])
  have lw : load1 mA ⟨m.n, 0, none⟩ = some (wv W) := (st2.get 1 rfl).2.2.load1 0 none
  obtain ⟨v1, m1, a1, a2, rfl⟩ := values_c n x mA st2.sees.base
  have st3 := st2.step a2
  simp [b1, b2, loadNS_ptr, lw, ll, a1]
  refine loop_run (c := cc5_7) rfl (Ret m _) (fun i t m' => Tm.get 2 t = .pointer (some ⟨m.n, 0, none⟩) ∧ Tm.get 3 t = .pointer (some ⟨m.n + 1, 0, none⟩) ∧ Tm.get 11 t = .agg ⟨valsL x⟩ ∧ Tm.get 12 t = iv i ∧ Tm.get 5 t = wv (laidTo W F x i) ∧ St m m' [(m.n + 1, insL x), (m.n, rowC W (fl5 F))]) 5 (by omega)
    ⟨by simp, by simp, by simp, by simp, by simp [laidTo], st3⟩ (fun i t m' k hi hI hk => ?_)
  obtain ⟨t2, t3, t11, t12, t5, st⟩ := hI
  by_cases hil : i < 5
  · have hd : ((i : Int) < 5) = True := eq_true (by omega)
    have w1 := nextI (i := i) (by omega)
    have hx := idx_val x hil
    have hia := iaF m.n i hil
    have l6 : loads m' ⟨m.n, 1 + i * 6, none⟩ 6 = some (fldL (F i)) := row_fld (st.get 1 rfl).2.2 hil
    obtain ⟨v4, m4, c1, c2, rfl⟩ := lay_c n (F i) (hF.ok i hil) (valI x i) m' st.sees.base
    have st4 := st.step c2
    have hs := laidTo_succ W F x i
    simp [t2, t3, t11, t12, t5, hd, pIdx_ap, hx, hia, loadNS_ptr, l6, c1, binV_or', w1]
    exact hk hil _ _ ⟨by simp [t2], by simp [t3], by simp [t11], by simp, by simp [hs], st4⟩
  obtain rfl : i = 5 := by omega
  have t12' : Tm.get 12 t = iv 5 := t12
  have l : ∀ o, load1 m' ⟨m.n + 1, o, none⟩ = (insL x)[o]? := fun o => (st.get 0 rfl).2.2.load1 o none
  have l0 := l 0; have l4 := l 4
  simp only [insL, List.getElem?_cons_succ, List.getElem?_cons_zero] at l0 l4
  obtain ⟨q, hq⟩ : ∃ q, q = laidTo W F x 5 := ⟨_, rfl⟩
  rw [← hq] at t5
  by_cases h14 : x.op = 14
  · have s1 := sh_l (k := .u32) (k' := .u64) (a := IntKind.u32.wrap (IntKind.i64.wrap (64 - x.imm))) (b := 16) (by decide)
    have s2 := sh_l (k := .u32) (k' := .u64) (a := IntKind.u32.wrap (IntKind.i64.wrap (63 - x.imm))) (b := 10) (by decide)
    obtain ⟨u1, hu1⟩ : ∃ u, u = IntKind.u32.wrap (IntKind.u32.wrap (IntKind.i64.wrap (64 - x.imm)) * 2 ^ (min (16 : Int).toNat IntKind.u32.bits)) := ⟨_, rfl⟩
    obtain ⟨u2, hu2⟩ : ∃ u, u = IntKind.u32.wrap (IntKind.u32.wrap (IntKind.i64.wrap (63 - x.imm)) * 2 ^ (min (10 : Int).toNat IntKind.u32.bits)) := ⟨_, rfl⟩
    rw [← hu1] at s1
    rw [← hu2] at s2
    have e : laidW W F x = bits .or .u32 q (bits .or .u32 u1 u2) := by unfold laidW; rw [if_pos h14, hq, hu1, hu2]; rfl
    rw [e]
    rw [h14] at l0
    simp [t2, t3, t12', t5, l0, l4, convI_any, s1, s2, binV_or']
    exact ret_1 st.ext (by simp)
  · have e : laidW W F x = q := by unfold laidW; rw [if_neg h14, hq]
    rw [e]
    simp [t2, t3, t12', t5, l0, h14]
    exact ret_1 st.ext (by simp)
end Go.Sx
namespace Go.Dx
theorem lk_at {m : M} {B : Nat} {es : List (Value × Value)} {z k : Value} {ok : Bool} {r : Option Value} (h : m.obj B = some (.map es)) (hk : isInt k = true) (hp : mapFind k es = some r) : lkS z ok (.map (some B)) k m = some (found z ok r, m) := by
  unfold lkS
  rw [hk, cond_true]
  show ob (oMap (m.obj B)) _ = _
  rw [h]
  show ob (mapFind k es) _ = _
  rw [hp, ob_some']
end Go.Dx
namespace Go.Sx
open Go.Dx Go.Proofs
set_option maxRecDepth 10000
def fixW (op : Nat) : Nat := if op = 30 then 3573759423 else if op = 31 then 3573759935 else if op = 32 then 3573751839 else 3560964096
set_option maxHeartbeats 1000000 in
theorem row_Z (n : Nat) (op : Nat) (h : op = 30 ∨ op = 31 ∨ op = 32 ∨ op = 34) (m : M) (hm : m.base ≤ m.n) : CallV (ex Try.prog (n + 2)) 49 [.int .i64 op] m (.tuple #[.agg ⟨rowC (fixW op) [fld0, fld0, fld0, fld0, fld0]⟩, .bool true]) := by
  refine call_ret dc2_ok (by simp) ?_
  have st0 := (St.nil hm (Ext.refl m)).row row0
  obtain ⟨v1, m1, a1, a2, rfl⟩ := base_c n op (by omega) (Dx.newRow m row0)
  have hb : baseN op = 0 := by rcases h with rfl | rfl | rfl | rfl <;> rfl
  rw [hb] at a1
  have a1' : (ex Try.prog (n + 1)).f 65 [.int .i64 op] (Dx.newRow m [.int .u32 0, .int .i64 0, .int .i64 0, .int .i64 0, .int .i64 0, .int .i64 0, .bool false, .int .i64 0, .int .i64 0, .int .i64 0, .int .i64 0, .int .i64 0, .bool false, .int .i64 0, .int .i64 0, .int .i64 0, .int .i64 0, .int .i64 0, .bool false, .int .i64 0, .int .i64 0, .int .i64 0, .int .i64 0, .int .i64 0, .bool false, .int .i64 0, .int .i64 0, .int .i64 0, .int .i64 0, .int .i64 0, .bool false]) = some (.int .u32 0, m1) := a1
  obtain ⟨m2, b1, st2, b2, b3⟩ := (st0.step a2).store 0 rfl (o := 0) (v := .int .u32 0) (by simp [row0, rowC]) rfl
  have b1' : storeS 1 (.pointer (some ⟨m.n, 0, none⟩)) (.int .u32 0) m1 = some (undef, m2) := b1
  have l0' : load1 m2 ⟨m.n, 0, none⟩ = some (.int .u32 0) := (st2.get 0 rfl).2.2.load1 0 none
  obtain ⟨v3, m3, c1, c2, rfl, c3, c4⟩ := fixed_c n m2 st2.sees.base
  have st3 := st2.step c2
  have hlk : lkS (.int .u32 0) false (.map (some m2.n)) (.int .i64 op) m3 = some (wv (fixW op), m3) := by
    rcases h with rfl | rfl | rfl | rfl
    · exact lk_at c4 rfl (r := some (wv 3573759423)) rfl
    · exact lk_at c4 rfl (r := some (wv 3573759935)) rfl
    · exact lk_at c4 rfl (r := some (wv 3573751839)) rfl
    · exact lk_at c4 rfl (r := some (wv 3560964096)) rfl
  obtain ⟨m4, d1, st4, d2, d3⟩ := st3.store 0 rfl (o := 0) (v := wv (fixW op)) (by simp [row0, rowC]) rfl
  have ll := (st4.get 0 rfl).2.2.loads (o := 0) (n := 31) (s := none) (by simp [rowC, row0, fl5, fldL])
  obtain ⟨L, hL⟩ : ∃ L, L = rowC (fixW op) [fld0, fld0, fld0, fld0, fld0] := ⟨_, rfl⟩
  replace ll : loads m4 ⟨m.n, 0, none⟩ 31 = some L := by rw [ll, hL]; rfl
  rw [← hL]
  obtain ⟨mY, e1, stY, -, -⟩ := st4.fill 0 rfl (n := 31) (l' := L) (by simp [rowC, row0, fldL]) (by rw [hL]; rfl) (by rw [hL]; exact row_ok _ _)
  have l9 := (stY.get 0 rfl).2.2.loads (o := 0) (n := 31) (s := none) (by rw [hL]; exact Nat.le_refl _)
  replace l9 : loads mY ⟨m.n, 0, none⟩ 31 = some L := by rw [l9, List.drop_zero, List.take_of_length_le (by rw [hL]; exact Nat.le_refl _)]
  have q0 : ((op : Int) < 1) = False := eq_false (by omega)
  have q1 : ((47 : Int) < op) = False := eq_false (by omega)
  simp [a1', b1', l0', q0, q1, c1, hlk, d1, loadNS_ptr, ll, e1]
  exact ret_ct1 (a := ⟨m.n, 0, none⟩) (by simp) l9 stY.ext (by simp)
def wordN (op : Nat) : Nat := match op with
  | 30 => 3573759423
  | 31 => 3573759935
  | 32 => 3573751839
  | 34 => 3560964096
  | _ => baseN op
def fieldsN (op : Nat) : Nat → Fld := fun k => (match op with
  | 30 | 31 | 32 | 34 => [fld0, fld0, fld0, fld0, fld0]
  | 1 | 2 => [wholeF 0, fld0, fld0, numF 5 16 65535 1, numF 21 2 3 1]
  | 3 | 4 | 5 | 6 | 7 | 8 | 9 | 10 | 11 => [wholeF 0, wholeF 5, wholeF 16, fld0, fld0]
  | 12 | 13 => [regF 0, regF 5, fld0, numF 10 12 4095 1, fld0]
  | 14 => [wholeF 0, wholeF 5, fld0, numF 0 0 63 1, fld0]
  | 15 => [wholeF 0, wholeF 5, fld0, numF 16 6 63 1, fld0]
  | 16 => [fld0, wholeF 5, wholeF 16, fld0, fld0]
  | 17 => [wholeF 0, fld0, fld0, fld0, turnF]
  | 18 => [fld0, fld0, fld0, nearB, fld0]
  | 19 => [fld0, fld0, fld0, nearC, numF 0 4 13 1]
  | 20 | 21 => [wholeF 0, fld0, fld0, nearC, fld0]
  | 22 | 23 => [wholeF 0, regF 5, fld0, numF 10 12 32760 8, fld0]
  | 24 | 25 | 26 | 27 | 35 => [wholeF 0, regF 5, fld0, fld0, fld0]
  | 28 | 29 | 36 | 37 | 38 | 39 => [wholeF 0, regF 5, regF 16, fld0, fld0]
  | 33 => [fld0, fld0, fld0, numF 5 16 30 1, fld0]
  | _ => [regF 0, regF 5, wholeF 16, fld0, fld0]).getD k fld0
theorem rowOf_c (n : Nat) (op : Nat) (h1 : 1 ≤ op) (h2 : op ≤ 47) (m : M) (hm : m.base ≤ m.n) : CallV (ex Try.prog (n + 2)) 49 [.int .i64 op] m (.tuple #[.agg ⟨rowC (wordN op) (fl5 (fieldsN op))⟩, .bool true]) := by
  by_cases c : op ≤ 2
  · rcases (by omega : op = 1 ∨ op = 2) with rfl | rfl <;> exact row_A n _ (by omega) m hm
  by_cases c : op ≤ 11
  · rcases (by omega : op = 3 ∨ op = 4 ∨ op = 5 ∨ op = 6 ∨ op = 7 ∨ op = 8 ∨ op = 9 ∨ op = 10 ∨ op = 11) with rfl | rfl | rfl | rfl | rfl | rfl | rfl | rfl | rfl <;> exact row_B n _ (by omega) m hm
  by_cases c : op ≤ 13
  · rcases (by omega : op = 12 ∨ op = 13) with rfl | rfl <;> exact row_C n _ (by omega) m hm
  by_cases c : op ≤ 19
  · rcases (by omega : op = 14 ∨ op = 15 ∨ op = 16 ∨ op = 17 ∨ op = 18 ∨ op = 19) with rfl | rfl | rfl | rfl | rfl | rfl
    · exact row_D n _ rfl m hm
    · exact row_E n _ rfl m hm
    · exact row_F n _ rfl m hm
    · exact row_G n _ rfl m hm
    · exact row_H n _ rfl m hm
    · exact row_I n _ rfl m hm
  by_cases c : op ≤ 21
  · rcases (by omega : op = 20 ∨ op = 21) with rfl | rfl <;> exact row_J n _ (by omega) m hm
  by_cases c : op ≤ 23
  · rcases (by omega : op = 22 ∨ op = 23) with rfl | rfl <;> exact row_K n _ (by omega) m hm
  by_cases c : op ≤ 27 ∨ op = 35
  · rcases (by omega : op = 24 ∨ op = 25 ∨ op = 26 ∨ op = 27 ∨ op = 35) with rfl | rfl | rfl | rfl | rfl <;> exact row_L n _ (by omega) m hm
  by_cases c : op ≤ 29
  · rcases (by omega : op = 28 ∨ op = 29) with rfl | rfl <;> exact row_M n _ (by omega) m hm
  by_cases c : op = 33
  · subst c; exact row_N n _ rfl m hm
  by_cases c : op ≤ 34
  · rcases (by omega : op = 30 ∨ op = 31 ∨ op = 32 ∨ op = 34) with rfl | rfl | rfl | rfl <;> exact row_Z n _ (by omega) m hm
  by_cases c : op ≤ 39
  · rcases (by omega : op = 36 ∨ op = 37 ∨ op = 38 ∨ op = 39) with rfl | rfl | rfl | rfl <;> exact row_O n _ (by omega) m hm
  · rcases (by omega : op = 40 ∨ op = 41 ∨ op = 42 ∨ op = 43 ∨ op = 44 ∨ op = 45 ∨ op = 46 ∨ op = 47) with rfl | rfl | rfl | rfl | rfl | rfl | rfl | rfl <;> exact row_P n _ (by omega) m hm
def rowOKb (op : Nat) : Bool := (List.range 5).all fun i => decide (0 ≤ (fieldsN op i).at_) && decide (0 ≤ (fieldsN op i).width) && (decide ((fieldsN op i).width = 0) || (decide ((fieldsN op i).step ≠ 0) && decide (1 ≤ (fieldsN op i).width) && decide ((fieldsN op i).width ≤ 64)))
theorem rowOKb_all : (List.range 48).all rowOKb = true := by decide +kernel
theorem rowOK (op : Nat) (h : op < 48) : RowOK (fieldsN op) := by
  have h1 := List.all_eq_true.1 rowOKb_all op (by simpa using h)
  unfold rowOKb at h1
  rw [List.all_eq_true] at h1
  refine ⟨fun i hi => ?_, fun i hi hw => ?_⟩
  · have := h1 i (by simpa using hi)
    simp only [Bool.and_eq_true, Bool.or_eq_true, decide_eq_true_eq] at this
    obtain ⟨⟨a, b⟩, c⟩ := this
    exact ⟨a, b, fun hw => by rcases c with c | c; exact absurd c hw; exact c.1.1⟩
  · have := h1 i (by simpa using hi)
    simp only [Bool.and_eq_true, Bool.or_eq_true, decide_eq_true_eq] at this
    obtain ⟨⟨a, b⟩, c⟩ := this
    rcases c with c | c
    · exact absurd c hw
    · exact ⟨c.1.2, c.2⟩
end Go.Sx
namespace Go.Sx
open Go.Dx Go.Proofs
set_option maxRecDepth 10000
def decAt (op : Nat) (w : Nat) : Option Ins :=
  if fitsB (fieldsN op) (readI (fieldsN op) op w) && decide (laidW (wordN op) (fieldsN op) (readI (fieldsN op) op w) = w) then some (readI (fieldsN op) op w) else none
def decFrom (w : Nat) : Nat → Nat → Ins × Int
  | 0, _ => (ins0, 7)
  | f + 1, op => match decAt op w with
    | some i => (i, 0)
    | none => decFrom w f (op + 1)
def fixOp (w : Nat) : Option Nat := if w = 3573759423 then some 30 else if w = 3573759935 then some 31 else if w = 3573751839 then some 32 else if w = 3560964096 then some 34 else none
def topB (w : Nat) : Bool := decide ((w : Int).fdiv (2 ^ (min 24 32)) = 213) || decide ((w : Int).fdiv (2 ^ (min 24 32)) = 212)
def insO (op : Nat) : Ins := ⟨op, 0, 0, 0, 0, 0⟩
def decR (w : Nat) : Ins × Int := match (if topB w then fixOp w else none) with
  | some op => (insO op, 0)
  | none => decFrom w 47 1
set_option maxHeartbeats 1000000 in
theorem dec_loop (n : Nat) (w : Nat) {m m' : M} {R : Nat} (hR : St m m' [(R, z6i)]) {t : Tm} (t0 : Tm.get 0 t = wv w) (t2 : Tm.get 2 t = .pointer (some ⟨R, 0, none⟩)) (t7 : Tm.get 7 t = iv 1) {kn kr : K} {ke : Nat → K} {Q : Option Out → Prop}
    (H1 : ∀ t' m2 (i : Ins), decFrom w 47 1 = (i, 0) → St m m2 [(R, insL i)] → Tm.get 2 t' = .pointer (some ⟨R, 0, none⟩) → Tm.get 3 t' = iv 0 → Q (kr t' m2))
    (H2 : ∀ t' m2, decFrom w 47 1 = (ins0, 7) → St m m2 [(R, z6i)] → Tm.get 2 t' = .pointer (some ⟨R, 0, none⟩) → Q (ke 2 t' m2)) : Q (cb5_18 (ex Try.prog (n + 2)) kn ke kr t m') := by
  refine loop_run (c := cb5_18) rfl Q (fun i t m' => Tm.get 0 t = wv w ∧ Tm.get 2 t = .pointer (some ⟨R, 0, none⟩) ∧ Tm.get 7 t = iv (i + 1 : Nat) ∧ St m m' [(R, z6i)] ∧ decFrom w 47 1 = decFrom w (47 - i) (i + 1)) 47 (by omega)
    ⟨t0, t2, by rw [t7]; rfl, hR, rfl⟩ (fun i t m' k hi hI hk => ?_)
  obtain ⟨t0, t2, t7, st, hdec⟩ := hI
  obtain ⟨op, hop⟩ : ∃ op : Nat, op = i + 1 := ⟨_, rfl⟩
  rw [← hop] at t7 hdec
  by_cases hil : i < 47
  · have hd : ((op : Int) ≤ 47) = True := eq_true (by omega)
    have w1 := nextI (i := op) (by omega)
    obtain ⟨v1, m1, a1, a2, rfl⟩ := rowOf_c n op (by omega) (by omega) m' st.sees.base
    have st1 := st.step a2
    obtain ⟨m2, s1, st2, s2, s3⟩ := (st1.row row0).fill 0 rfl (n := 31) (l' := rowC (wordN op) (fl5 (fieldsN op))) rfl rfl (row_ok _ _)
    have s1' : storeS 31 (.pointer (some ⟨m1.n, 0, none⟩)) (.agg ⟨rowC (wordN op) (fl5 (fieldsN op))⟩) (Dx.newRow m1 [.int .u32 0, .int .i64 0, .int .i64 0, .int .i64 0, .int .i64 0, .int .i64 0, .bool false, .int .i64 0, .int .i64 0, .int .i64 0, .int .i64 0, .int .i64 0, .bool false, .int .i64 0, .int .i64 0, .int .i64 0, .int .i64 0, .int .i64 0, .bool false, .int .i64 0, .int .i64 0, .int .i64 0, .int .i64 0, .int .i64 0, .bool false, .int .i64 0, .int .i64 0, .int .i64 0, .int .i64 0, .int .i64 0, .bool false]) = some (undef, m2) := s1
    have l8 : loads m2 ⟨m1.n, 0, none⟩ 31 = some (rowC (wordN op) (fl5 (fieldsN op))) := by
      have := (st2.get 0 rfl).2.2.loads (o := 0) (n := 31) (s := none) (by rw [rowC_len]; omega)
      rw [this]; rfl
    obtain ⟨x, hx⟩ : ∃ x, x = readI (fieldsN op) op w := ⟨_, rfl⟩
    obtain ⟨v3, m3, b1, b2, rfl⟩ := rread_c n (wordN op) (fieldsN op) (rowOK op (by omega)) op (by omega) w m2 st2.sees.base
    rw [← hx] at b1
    have st3 := st2.step b2
    obtain ⟨m4, c1, st4, c2, c3⟩ := (st3.row z6i).fill 0 rfl (n := 6) (l' := insL x) rfl rfl (ins_ok _)
    have c1' : storeS 6 (.pointer (some ⟨m3.n, 0, none⟩)) (.agg ⟨insL x⟩) (Dx.newRow m3 [.int .i64 0, .int .i64 0, .int .i64 0, .int .i64 0, .int .i64 0, .int .i64 0]) = some (undef, m4) := c1
    have S34 : Sees m2 m4 := (st2.sees.self.ext b2).ext ⟨by rw [c2, newRow_n]; omega, fun B hB => by rw [c3 B (by omega)]; exact (Ext.row m3 _).obj B hB, by rw [st4.ext.base, st3.ext.base], by rw [st4.ext.log, st3.ext.log]⟩
    have l8' : loads m4 ⟨m1.n, 0, none⟩ 31 = some (rowC (wordN op) (fl5 (fieldsN op))) := by rw [loads_sees S34 (st2.get 0 rfl).2.1]; exact l8
    have l10 : loads m4 ⟨m3.n, 0, none⟩ 6 = some (insL x) := (st4.get 0 rfl).2.2.loads (o := 0) (n := 6) (by simp [insL])
    obtain ⟨v5, m5, d1, d2, rfl⟩ := rfits_c n (wordN op) (fieldsN op) x m4 st4.sees.base
    have st5 := st4.step d2
    have S45 : Sees m4 m5 := st4.sees.self.ext d2
    have l8'' : loads m5 ⟨m1.n, 0, none⟩ 31 = some (rowC (wordN op) (fl5 (fieldsN op))) := by rw [loads_sees (S34.trans S45) (st2.get 0 rfl).2.1]; exact l8
    have l10' : loads m5 ⟨m3.n, 0, none⟩ 6 = some (insL x) := by rw [loads_sees S45 (st4.get 0 rfl).2.1]; exact l10
    have hda : decAt op w = if fitsB (fieldsN op) x && decide (laidW (wordN op) (fieldsN op) x = w) then some x else none := by unfold decAt; rw [hx]
    have hdf : decFrom w (47 - i) op = match decAt op w with
      | some i => (i, 0)
      | none => decFrom w (47 - (i + 1)) (op + 1) := by rw [show 47 - i = (47 - (i + 1)) + 1 by omega]; rfl
    cases hf : fitsB (fieldsN op) x with
    | false =>
      rw [hf] at d1 hda
      simp at hda
      rw [hda] at hdf
      simp [t0, t2, t7, hd, a1, s1', loadNS_ptr, l8, b1, c1', l8', l10, d1, w1]
      refine hk hil _ _ ⟨by simp [t0], by simp [t2], by simp [hop], st5.sub (by simp) (by simp), by rw [hdec, hdf, hop]⟩
    | true =>
      rw [hf] at d1 hda
      obtain ⟨v6, m6, e1, e2, rfl⟩ := rlaid_c n (wordN op) (fieldsN op) (rowOK op (by omega)) x m5 st5.sees.base
      have st6 := st5.step e2
      have S56 : Sees m5 m6 := st5.sees.self.ext e2
      have l10'' : loads m6 ⟨m3.n, 0, none⟩ 6 = some (insL x) := by rw [loads_sees (S45.trans S56) (st4.get 0 rfl).2.1]; exact l10
      by_cases hq : laidW (wordN op) (fieldsN op) x = w
      · rw [hq] at e1
        simp [hq] at hda
        rw [hda] at hdf
        obtain ⟨m7, f1, st7, f2, f3⟩ := st6.fill 2 (b := R) (l := z6i) rfl (n := 6) (l' := insL x) rfl rfl (ins_ok _)
        simp [t0, t2, t7, hd, a1, s1', loadNS_ptr, l8, b1, c1', l8', l10, d1, l8'', l10', e1, l10'', f1, w1]
        exact H1 _ _ x (by rw [hdec, hdf]) (st7.sub (by simp) (by simp)) (by simp [t2]) (by simp)
      · simp [hq] at hda
        rw [hda] at hdf
        simp [t0, t2, t7, hd, a1, s1', loadNS_ptr, l8, b1, c1', l8', l10, d1, l8'', l10', e1, hq, w1]
        refine hk hil _ _ ⟨by simp [t0], by simp [t2], by simp [hop], st6.sub (by simp) (by simp), by rw [hdec, hdf, hop]⟩
  obtain rfl : i = 47 := by omega
  have t7' : Tm.get 7 t = iv 48 := by rw [t7, hop]; rfl
  simp [t7']
  exact H2 _ _ (by rw [hdec]; rfl) st (by simp [t2])
end Go.Sx
namespace Go.Dx
theorem goOn_none (kn : K) (ke : Nat → K) (kr : K) (t : Tm) (m : M) : goOn kn ke kr none t m = kn t m := _root_.id rfl
theorem goOn_ret (kn : K) (ke : Nat → K) (kr : K) (t : Tm) (m : M) : goOn kn ke kr (some .ret) t m = kr t m := _root_.id rfl
end Go.Dx
namespace Go.Sx
open Go.Dx Go.Proofs
set_option maxRecDepth 10000
theorem fix_at {j : Nat} {k v : Value} (h : fixL[j]? = some (k, v)) : ∃ op x : Nat, k = iv op ∧ v = wv x ∧ fixOp x = some op ∧ ∀ y, fixOp y = some op → y = x := by
  unfold fixL at h
  match j, h with
  | 0, h => cases h; exact ⟨30, 3573759423, rfl, rfl, rfl, fun y hy => by unfold fixOp at hy; (repeat' split at hy) <;> simp_all⟩
  | 1, h => cases h; exact ⟨31, 3573759935, rfl, rfl, rfl, fun y hy => by unfold fixOp at hy; (repeat' split at hy) <;> simp_all⟩
  | 2, h => cases h; exact ⟨32, 3573751839, rfl, rfl, rfl, fun y hy => by unfold fixOp at hy; (repeat' split at hy) <;> simp_all⟩
  | 3, h => cases h; exact ⟨34, 3560964096, rfl, rfl, rfl, fun y hy => by unfold fixOp at hy; (repeat' split at hy) <;> simp_all⟩
  | j + 4, h => simp at h
theorem fix_all {w op : Nat} (h : fixOp w = some op) : ∃ j, j < 4 ∧ fixL[j]? = some (iv op, wv w) := by
  unfold fixOp at h
  split at h
  · rename_i e; cases h; exact ⟨0, by omega, by rw [e]; rfl⟩
  · split at h
    · rename_i e; cases h; exact ⟨1, by omega, by rw [e]; rfl⟩
    · split at h
      · rename_i e; cases h; exact ⟨2, by omega, by rw [e]; rfl⟩
      · split at h
        · rename_i e; cases h; exact ⟨3, by omega, by rw [e]; rfl⟩
        · cases h
theorem fix_int : ∀ p ∈ fixL, isInt p.1 = true := by
  intro p hp
  obtain ⟨j, hj, e⟩ := List.getElem_of_mem hp
  obtain ⟨op, x, h1, _⟩ := fix_at (j := j) (k := p.1) (v := p.2) (by rw [List.getElem?_eq_getElem hj, e])
  rw [h1]; rfl
set_option maxHeartbeats 1000000 in
theorem Decode_c (n : Nat) (w : Nat) (m : M) (hm : m.base ≤ m.n) : CallV (ex Try.prog (n + 3)) 29 [wv w] m (.tuple #[.agg ⟨insL (decR w).1⟩, iv (decR w).2]) := by
  refine call_ret db5_ok (by simp) ?_
  have st0 : St m (Dx.newRow m z6i) [(m.n, z6i)] := (St.nil hm (Ext.refl m)).row z6i
  obtain ⟨m0, hm0⟩ : ∃ m0, m0 = Dx.newRow m z6i := ⟨_, rfl⟩
  have hm0' : Dx.newRow m [.int .i64 0, .int .i64 0, .int .i64 0, .int .i64 0, .int .i64 0, .int .i64 0] = m0 := hm0.symm
  rw [← hm0] at st0
  have hs := sh_r (k := .u32) (k' := .u64) (a := w) (b := 24) (by decide)
  obtain ⟨tp, htp⟩ : ∃ tp, tp = (w : Int).fdiv (2 ^ (min (24 : Int).toNat IntKind.u32.bits)) := ⟨_, rfl⟩
  rw [← htp] at hs
  have htop : topB w = (decide (tp = 213) || decide (tp = 212)) := by unfold topB; rw [htp, show min (24 : Int).toNat IntKind.u32.bits = min 24 32 from rfl]
  have tail : ∀ t m', Tm.get 0 t = wv w → Tm.get 2 t = .pointer (some ⟨m.n, 0, none⟩) → St m m' [(m.n, z6i)] → (if topB w then fixOp w else none) = none → Ret m (fun v _ => v = .tuple #[.agg ⟨insL (decR w).1⟩, iv (decR w).2]) (cb5_22 (ex Try.prog (n + 2)) (resK [.cell 2 6, .t 3]) noK (resK [.cell 2 6, .t 3]) t m') := by
    intro t m' t0 t2 st hno
    have hdr : decR w = decFrom w 47 1 := by unfold decR; rw [hno]
    rw [hdr]
    simp
    refine dec_loop n w st (by simp [t0]) (by simp [t2]) (by simp) (fun t' m2 i h1 h2 h3 h4 => ?_) (fun t' m2 h1 h2 h3 => ?_)
    · rw [h1]
      exact ret_ct1 (a := ⟨m.n, 0, none⟩) h3 ((h2.get 0 rfl).2.2.loads (o := 0) (n := 6) (by simp [insL])) h2.ext (by rw [h4]; simp [insL])
    · rw [h1]
      obtain ⟨m3, s1, st3, s2, s3⟩ := h2.fill 0 rfl (n := 6) (l' := z6i) rfl rfl (by simp [okC])
      have bu : buildV [.int .i64 0, .int .i64 0, .int .i64 0, .int .i64 0, .int .i64 0, .int .i64 0] [] = some (.agg ⟨z6i⟩) := rfl
      have s1' : storeS 6 (.pointer (some ⟨m.n, 0, none⟩)) (.agg ⟨z6i⟩) m2 = some (undef, m3) := s1
      simp [h3, bu, s1']
      exact ret_ct1 (a := ⟨m.n, 0, none⟩) (by simp [h3]) ((st3.get 0 rfl).2.2.loads (o := 0) (n := 6) (by simp)) st3.ext (by simp [insL, ins0])
  by_cases ht : topB w = true
  · obtain ⟨v1, m1, a1, a2, rfl, a3, a4⟩ := fixed_c (n + 1) m0 st0.sees.base
    have st1 := st0.step a2
    have hes : rmEs (.map (some m0.n)) m1 = some fixL := rmEs_of a4 fix_int
    have go : ∀ t, Tm.get 0 t = wv w → Tm.get 2 t = .pointer (some ⟨m.n, 0, none⟩) → Ret m (fun v _ => v = .tuple #[.agg ⟨insL (decR w).1⟩, iv (decR w).2]) (cb5_4 (ex Try.prog (n + 2)) (cb5_22 (ex Try.prog (n + 2)) (resK [.cell 2 6, .t 3]) noK (resK [.cell 2 6, .t 3])) noK (resK [.cell 2 6, .t 3]) t m0) := by
      intro t t0 t2
      simp [a1]
      have hp : rmEs (q_code_Decode_1.o (Tm.set 19 (.map (some m0.n)) t)) m1 = some fixL := by simp [q_code_Decode_1]; exact hes
      cases hfo : fixOp w with
      | none =>
        refine rm_run (by omega) (p := q_code_Decode_1) (es := fixL) hp none m1 [(0, wv w), (2, .pointer (some ⟨m.n, 0, none⟩))] (fun _ t => Tm.get 0 t = wv w ∧ Tm.get 2 t = .pointer (some ⟨m.n, 0, none⟩)) ?_ ?_ ?_ ?_ (by decide) (by decide) ?_
        · simp [q_code_Decode_1, t0, t2]
        · intro seen t j k v hj _ hI
          obtain ⟨h0, h2⟩ := hI
          obtain ⟨op, x, rfl, rfl, hx, _⟩ := fix_at hj
          have hne : x ≠ w := fun e => by rw [e, hfo] at hx; cases hx
          have hne' : ((x : Int) = (w : Int)) = False := eq_false (by omega)
          simp [h0, h2, hne']
          refine rm_end ?_
          exact .inl ⟨rfl, rfl, by simp [h0], by simp [h2]⟩
        · intro seen t _ hI
          refine ⟨rfl, rfl, fun q hq => ?_⟩
          simp at hq
          rcases hq with rfl | rfl
          · exact hI.1
          · exact hI.2
        · intro q hq
          simp at hq
          rcases hq with rfl | rfl <;> simp [q_code_Decode_1]
        · intro t2' ht2
          rw [goOn_none]
          exact tail _ _ (ht2 (0, _) (by simp)) (ht2 (2, _) (by simp)) st1 (by rw [if_pos ht, hfo])
      | some op =>
        obtain ⟨j0, hj0, hat⟩ := fix_all hfo
        obtain ⟨m2, s1, st2, s2, s3⟩ := st1.fill 0 rfl (n := 6) (l' := insL (insO op)) rfl rfl (ins_ok _)
        have bu : buildV [.int .i64 0, .int .i64 0, .int .i64 0, .int .i64 0, .int .i64 0, .int .i64 0] [(0, 1, iv op)] = some (.agg ⟨insL (insO op)⟩) := rfl
        refine rm_run (by omega) (p := q_code_Decode_1) (es := fixL) hp (some .ret) m2 [(2, .pointer (some ⟨m.n, 0, none⟩)), (3, iv 0)] (fun seen t => Tm.get 0 t = wv w ∧ Tm.get 2 t = .pointer (some ⟨m.n, 0, none⟩) ∧ j0 ∉ seen) ?_ ?_ ?_ ?_ (by decide) (by decide) ?_
        · simp [q_code_Decode_1, t0, t2]
        · intro seen t j k v hj hns hI
          obtain ⟨h0, h2, h3⟩ := hI
          obtain ⟨op', x, rfl, rfl, hx, hu⟩ := fix_at hj
          by_cases hxw : x = w
          · subst hxw
            rw [hfo] at hx
            cases hx
            simp [h0, h2, bu, s1]
            refine rm_ret ?_
            exact .inr ⟨rfl, by simp, rfl, by simp [h2]⟩
          · have hne' : ((x : Int) = (w : Int)) = False := eq_false (by omega)
            simp [h0, h2, hne']
            refine rm_end ?_
            refine .inl ⟨rfl, rfl, by simp [h0], by simp [h2], ?_⟩
            refine ⟨fun e => ?_, h3⟩
            subst e
            rw [hat] at hj
            have hj2 := Option.some.inj hj
            simp only [Prod.mk.injEq, Value.int.injEq, true_and] at hj2
            omega
        · intro seen t hall hI
          exact absurd (hall j0 hj0) hI.2.2
        · intro q hq
          simp at hq
          rcases hq with rfl | rfl <;> simp [q_code_Decode_1]
        · intro t2' ht2
          rw [goOn_ret]
          have hdr : decR w = (insO op, 0) := by unfold decR; rw [if_pos ht, hfo]
          rw [hdr]
          exact ret_ct1 (a := ⟨m.n, 0, none⟩) (ht2 (2, _) (by simp)) ((st2.get 0 rfl).2.2.loads (o := 0) (n := 6) (by simp [insL])) st2.ext (by rw [ht2 (3, iv 0) (by simp)]; simp [insL, insO])
    rw [htop] at ht
    by_cases h1 : tp = 213
    · simp [-cb5_4_ap, -cb5_22_ap, hm0', hs, h1]
      exact go _ (by simp) (by simp)
    · have h2 : tp = 212 := by simpa [h1] using ht
      simp [-cb5_4_ap, -cb5_22_ap, hm0', hs, h2]
      exact go _ (by simp) (by simp)
  · have hf : topB w = false := by simpa using ht
    have hno : (if topB w then fixOp w else none) = none := by rw [hf]; rfl
    rw [htop] at hf
    simp only [Bool.or_eq_false_iff, decide_eq_false_iff_not] at hf
    simp [-cb5_22_ap, hm0', hs, hf.1, hf.2]
    exact tail _ _ (by simp) (by simp) st0 hno
end Go.Sx
