/- Contracts. -/
import Derived.Test.YtbbpaaofmcoobaaGreatGa
import Derived.Laws.Bits64b
set_option linter.unusedVariables false
set_option linter.unusedSimpArgs false
set_option linter.defProp false
namespace Go.Dx
structure Rest (N : Nat) (ex : List Nat) (m m' : M) : Prop where
 n : m.n ≤ m'.n
 obj : ∀ B, B < N → B ∉ ex → m'.obj B = m.obj B
 base : m'.base = m.base
 log : m'.log = m.log
section
variable {N : Nat} {ex : List Nat} {a b c m m' : M}
theorem Rest.refl : Rest N ex m m := ⟨qah _, fun _ _ _ => rfl, rfl, rfl⟩
theorem Rest.trans (h : Rest N ex a b) (k : Rest N ex b c) : Rest N ex a c := ⟨qaq h.n k.n, fun B hB he => (k.obj B hB he).trans (h.obj B hB he), k.base.trans h.base, k.log.trans h.log⟩
theorem Rd.congr {α : Type} {v : Value} {e : Nat} {f : α → List Value} {es : List α} (h : Rd m v e f es) (hn : m.n ≤ m'.n) (k : ∀ B, blk v = some B → m'.obj B = m.obj B) : Rd m' v e f es := by
 refine ⟨h.len, fun i r hr => ?_, by rw [yP k]; exact h.all, fun B hB => qaj (h.lt B hB) hn⟩
 obtain ⟨h1, h2, h3⟩ := h.row i r hr
 refine ⟨h1, qaj h2 hn, ?_⟩
 cases v with
 | slice a n c =>
  cases a with
  | none => cases h1
  | some a =>
   rw [← h3]
   unfold loads cellsOf
   rw [show (adr e (.slice (some a) n c) i).block = a.block from rfl, k _ rfl]
 | _ => cases h1
end
end Go.Dx
namespace Go.Dx
@[simp] theorem qa3 (e b : Nat) (zs : List Value) (l c : V) (x : Ex) (t : Tm) (m : M) : wI e b zs l c x t m = zo e b zs (l t) (c t) m := _root_.id rfl
@[simp] theorem qac (l : List (Nat × FP)) (x : FP) (i : Nat) (inc : List Nat) : meets l x (i :: inc) = ((match vy i l with | some y => FP.meet y x | none => true) && meets l x inc) := rfl
@[simp] theorem fpAt_nil (i : Nat) : vy i [] = none := rfl
@[simp] theorem fpAt_cons (i j : Nat) (x : FP) (l : List (Nat × FP)) : vy i ((j, x) :: l) = if i = j then some x else vy i l := by
 show (bif Nat.beq i j then some x else vy i l) = _
 by_cases h : i = j
 ·subst h; rw [Nat.beq_refl, if_pos rfl]; rfl
 ·rw [if_neg h, gx h]; rfl
@[simp] theorem meet_qq (a b : Option Nat) : FP.meet ⟨a, []⟩ ⟨b, []⟩ = true := rfl
@[simp] theorem meet_rw (B C : Nat) (b : Option Nat) : FP.meet ⟨some B, []⟩ ⟨b, [C]⟩ = !decide (B = C) := by
 show (!(Nat.beq B C || false)) = _
 by_cases h : B = C
 ·subst h; simp [Nat.beq_refl]
 ·rw [gx h]; simp [h]
end Go.Dx
namespace Go.Sx
open Go.Dx
theorem wj {i : Nat} (h : i < 9223372036854775807) : IntKind.i64.wrap ((i : Int) + 1) = ((i + 1 : Nat) : Int) := by rw [wrap64 _ (by omega) (by omega)]; omega
theorem dlt {i n : Nat} (h : i < n) : ((i : Int) < n) = True := eq_true (by omega)
end Go.Sx
namespace Go.Dx
def upN {α : Type} (f : Nat → α) (j : Nat) (v : α) : Nat → α := fun k => if k = j then v else f k
theorem wX {α : Type} (f : Nat → α) (j : Nat) (v : α) : upN f j v j = v := by unfold upN; rw [if_pos rfl]
theorem kV {α : Type} (f : Nat → α) {j k : Nat} (v : α) (h : k ≠ j) : upN f j v k = f k := by unfold upN; rw [if_neg h]
theorem Bu (n : Nat) (l : List Value) : rep n l = (List.range n).flatMap fun _ => l := by
 induction n with
 | zero => rfl
 | succ n ih =>
  rw [List.range_succ_eq_map, List.flatMap_cons, List.flatMap_map]
  show l ++ rep n l = _
  rw [ih]
theorem yc {e c : Nat} (B n i : Nat) (h : i < n) : qZ e (.slice (some ⟨B, 0, some c⟩) n n) (.int .i64 i) = some (.pointer (some ⟨B, i * e, none⟩)) := by
 show (bif Nat.blt i n then dy (i * e) ⟨B, 0, some c⟩ else none) = _
 rw [show Nat.blt i n = true from qam h]
 show some (Value.pointer (some ⟨B, 0 + i * e, none⟩)) = _
 rw [Nat.zero_add]
theorem kZ {α : Type} {m : M} {B c e : Nat} {f : α → List Value} (hf : ∀ x, (f x).length = e) {l : List α} (h : Arr m B (l.flatMap f)) (hB : B < m.n) : Rd m (.slice (some ⟨B, 0, some c⟩) l.length l.length) e f l := by
 have hlen := qX hf l
 refine ⟨rfl, fun i r hr => ?_, ?_, fun C hC => by cases hC; exact hB⟩
 ·have hi := (qag.1 hr).1
  refine ⟨?_, hB, ?_⟩
  ·rw [yc B _ i hi]
   show _ = some (Value.pointer (some ⟨B, 0 + i * e, none⟩))
   rw [Nat.zero_add]
  ·show loads m ⟨B, 0 + i * e, none⟩ e = _
   have := qb0 e (Nat.succ_le_of_lt hi)
   rw [Nat.succ_mul] at this
   rw [Nat.zero_add, h.loads (by omega), zY hf l i r hr]
 ·show loads m _ (l.length * e) = _
  rw [h.loads (by omega), List.drop_zero, ← hlen, List.take_length]
@[simp] theorem pConvI_ap (k : IntKind) (a : V) (t : Tm) : vF k a t = Ww k (a t) := _root_.id rfl
@[simp] theorem vZ (x : Nat) (h : x < 1000000) : Ww .u64 (.int .i64 (x : Int)) = some (.int .u64 (x : Int)) := by
 show some (Value.int .u64 (vi .u64 (x : Int))) = _
 rw [zE]
 have : IntKind.u64.wrap (x : Int) = (x : Int) := by
  unfold IntKind.wrap; simp [IntKind.bits, IntKind.signed]; omega
 rw [this]
end Go.Dx
namespace Go.Dx
section
variable {m0 m m' : M} {σ σ' : List (Nat × List Value)} {k b : Nat} {l : List Value}
theorem St.sub (h : St m0 m σ) (hs : ∀ p ∈ σ', p ∈ σ) (hn : (σ'.map (·.1)).Nodup) : St m0 m σ' := ⟨h.ext, h.base, fun p hp => h.arr p (hs p hp), hn⟩
theorem Grown.low {α : Type} {m0 m0' m : M} {v : Value} {e : Nat} {f : α → List Value} {es : List α} (h : Grown m0 m v e f es) (hn : m0'.n ≤ m0.n) : Grown m0' m v e f es := by
 rcases h with h | ⟨B, h1, h2⟩
 ·exact .inl h
 ·exact .inr ⟨B, by omega, h2⟩
theorem St.fillAny (h : St m0 m σ) (k : Nat) (hk : σ[k]? = some (b, l)) {n : Nat} {l' : List Value} (hn0 : 0 < n) (hl : l.length = n) (hl' : l'.length = n) (hv : ∀ v ∈ l', okC v = true) :
  ∃ m', qH n (.pointer (some ⟨b, 0, none⟩)) (.agg ⟨l'⟩) (qn m) = some (undef, m') ∧ m'.log = [b] ∧ St m0 (Dx.behind m m') (σ.set k (b, l')) ∧ (Dx.behind m m').n = m.n ∧ (∀ X, X ≠ b → (Dx.behind m m').obj X = m.obj X) := by
 obtain ⟨h1, h2, h3⟩ := h.get k hk
 have h3' : Arr (qn m) b l := h3.congr (qw m b)
 have e := wQ (n := n) (o := 0) (v := .agg ⟨l'⟩) (l := l') h3' rfl hl' (by omega) hv
 obtain ⟨s1, s2, s3, s4, s5, s6⟩ := qY (o := 0) (l := l') h3' (by omega) hv
 rw [vM (by omega)] at s2
 have hlog : (zc (qn m) b 0 l').log = [b] := by
  obtain ⟨c, hc, hcl⟩ := h3'
  obtain ⟨v0, vs, rfl⟩ : ∃ v0 vs, l' = v0 :: vs := by
   cases l' with
   | nil => simp at hl'; omega
   | cons a b => exact ⟨a, b, rfl⟩
  have : ∃ c', wA (qn m) ⟨b, 0, none⟩ (v0 :: vs) = some ((qn m).put b (.cells c')) := by
   have hs : wA (qn m) ⟨b, 0, none⟩ (v0 :: vs) = ob (jb ((qn m).obj b)) fun c => ob (stn c 0 (v0 :: vs)) fun c' => some ((qn m).put b (.cells c')) := rfl
   rw [hs, hc]
   obtain ⟨c', e', _⟩ := yr (vs := v0 :: vs) (o := 0) hcl (by omega) hv
   exact ⟨c', by show ob (stn c 0 (v0 :: vs)) _ = _; rw [e']; rfl⟩
  obtain ⟨c', e'⟩ := this
  have hp : zc (qn m) b 0 (v0 :: vs) = (qn m).put b (.cells c') := by unfold zc; rw [e']; rfl
  rw [hp]
  cases m with | mk a nx bs wl =>
  show note nx b [] = [b]
  have h2' : b < nx := h2
  unfold note
  have : Nat.ble nx b = false := by
   cases q : Nat.ble nx b with
   | false => rfl
   | true => exact absurd (qan q) (by omega)
  rw [this]; rfl
 refine ⟨_, e, hlog, h.put' k hk (by rw [wu, s3, qx]) (kh _ _) ?_ (fun X hX => by rw [qB, s5 X hX, qw]) (s2.congr (qB _ _ _)), by rw [wu, s3, qx], fun X hX => by rw [qB, s5 X hX, qw]⟩
 rw [km, hlog]
 refine xF fun B hB => ?_
 rw [qal.1 hB, h.ext.base]
 have := h.base
 omega
end
end Go.Dx
namespace Go.Dx
@[simp] theorem eqFV_ap (neg : Bool) (ks : List Nat) (a b : List Value) : eqFV neg ks (.agg ⟨a⟩) (.agg ⟨b⟩) = ob (kA ks a b) fun r => some (.bool (bif neg then !r else r)) := _root_.id rfl
end Go.Dx
namespace Go.Sx
open Go.Dx
theorem grown_low {α : Type} {m0 m : M} {v : Value} {e : Nat} {f : α → List Value} {es : List α} (h : Grown m0 m v e f es) : ∀ B, blk v = some B → m0.n ≤ B ∧ B < m.n := by
 rcases h with ⟨_, rfl⟩ | ⟨B', h1, h2, _, rfl, _⟩
 ·intro B hB; cases hB
 ·intro B hB; cases hB; exact ⟨h1, h2⟩
theorem _root_.Go.Dx.Rd.okV {α : Type} {m : M} {v : Value} {e : Nat} {f : α → List Value} {es : List α} (h : Rd m v e f es) : Dx.okC v = true := by
 have := h.len
 cases v with
 | slice a n c => rfl
 | _ => cases this
end Go.Sx
namespace Go.Dx
section
variable {m0 m m' : M} {σ : List (Nat × List Value)} {k b : Nat} {l : List Value}
theorem St.keepOn (h : St m0 m σ) (e : Ext m0 m') (hn : m.n ≤ m'.n) (ho : ∀ p ∈ σ, m'.obj p.1 = m.obj p.1) : St m0 m' σ :=
 ⟨e, h.base, fun p hp => let ⟨h1, h2, h3⟩ := h.arr p hp; ⟨h1, by omega, h3.congr (ho p hp)⟩, h.nd⟩
theorem St.fill (h : St m0 m σ) (k : Nat) (hk : σ[k]? = some (b, l)) {n : Nat} {l' : List Value} (hl : l.length = n) (hl' : l'.length = n) (hv : ∀ v ∈ l', okC v = true) :
  ∃ m', qH n (.pointer (some ⟨b, 0, none⟩)) (.agg ⟨l'⟩) m = some (undef, m') ∧ St m0 m' (σ.set k (b, l')) ∧ m'.n = m.n ∧ ∀ X, X ≠ b → m'.obj X = m.obj X := by
 obtain ⟨h1, h2, h3⟩ := h.get k hk
 have e := wQ (n := n) (o := 0) (v := .agg ⟨l'⟩) (l := l') h3 rfl hl' (by omega) hv
 obtain ⟨_, s2, s3, s4, s5, s6⟩ := qY (o := 0) (l := l') h3 (by omega) hv
 rw [vM (by omega)] at s2
 exact ⟨_, e, h.put' k hk s3 s4 (s6 (by have := h.ext.base; have := h.base; omega)) s5 s2, s3, s5⟩
end
theorem Grown.okC {α : Type} {m0 m : M} {v : Value} {e : Nat} {f : α → List Value} {es : List α} (h : Grown m0 m v e f es) : Dx.okC v = true := by
 rcases h with ⟨_, rfl⟩ | ⟨B, _, _, _, rfl, _⟩ <;> rfl
theorem Vn {m0 m : M} {Q : Value → M → Prop} {t : Tm} {p : Nat} {a : Addr} {l : List Value} (h1 : Tm.get p t = .pointer (some a)) (h2 : loads m a 2 = some l) (he : Ext m0 m) (hq : Q (.agg ⟨l⟩) m) : Ret m0 Q (kD [.cell p 2] t m) := by
 refine gz (l := [.agg ⟨l⟩]) ?_ he hq
 simp only [yW, fX, h1, yT, qy, h2]
end Go.Dx
namespace Go.Dx
theorem xJ {x : Ex} {g : Nat} {args : List Value} {m : M} {P : Value → M → Prop} (h : Dx.Call x g args (qn m) P) : ∃ v m', x.f g args (qn m) = some (v, m') ∧ m'.log = [] ∧ Ext m (behind m m') ∧ P v m' := by
 obtain ⟨v, m', h1, h2, h3⟩ := h
 exact ⟨v, m', h1, by rw [h2.log, wH], h2.behind, h3⟩
theorem Rd.behind {α : Type} {m m' : M} {v : Value} {e : Nat} {f : α → List Value} {l : List α} (h : Rd m' v e f l) : Rd (Dx.behind m m') v e f l := h.congr (by rw [wu]; exact qah _) fun B _ => qB _ _ _
end Go.Dx
namespace Go.Dx
noncomputable section
structure GS {α : Type} (m0 m1 m : M) (P2 P3 : Nat) (σ : List (Nat × List Value)) (g : Value) (e : Nat) (f : α → List Value) (rows : List α) : Prop where
 st : St m0 m σ
 rest : Go.Dx.Rest m1.n [P2, P3] m1 m
 low : ∀ p ∈ σ, p.1 = P2 ∨ p.1 = P3 ∨ m1.n ≤ p.1
 m01 : m0.n ≤ m1.n
 m1b : m1.base ≤ m1.n
 gr : Grown m1 m g e f rows
 sep : ∀ B, blk g = some B → m1.n ≤ B ∧ B < m.n ∧ ∀ p ∈ σ, p.1 ≠ B
section
variable {α : Type} {m0 m1 m m' : M} {P2 P3 : Nat} {σ σ' : List (Nat × List Value)} {g : Value} {e : Nat} {f : α → List Value} {rows : List α}
theorem GS.step (h : GS m0 m1 m P2 P3 σ g e f rows) (k : Ext m m') : GS m0 m1 m' P2 P3 σ g e f rows :=
 ⟨h.st.step k, ⟨qaq h.rest.n k.n, fun B hB hx => (k.obj B (qaj hB h.rest.n)).trans (h.rest.obj B hB hx), k.base.trans h.rest.base, k.log.trans h.rest.log⟩, h.low, h.m01, h.m1b, h.gr.ext k, fun B hB => let ⟨a, b, c⟩ := h.sep B hB; ⟨a, qaj b k.n, c⟩⟩
theorem GS.sub (h : GS m0 m1 m P2 P3 σ g e f rows) (hs : ∀ p ∈ σ', p ∈ σ) (hn : (σ'.map (·.1)).Nodup) : GS m0 m1 m P2 P3 σ' g e f rows :=
 ⟨h.st.sub hs hn, h.rest, fun p hp => h.low p (hs p hp), h.m01, h.m1b, h.gr, fun B hB => let ⟨a, b, c⟩ := h.sep B hB; ⟨a, b, fun p hp => c p (hs p hp)⟩⟩
theorem GS.row (h : GS m0 m1 m P2 P3 σ g e f rows) (l : List Value) : GS m0 m1 (newRow m l) P2 P3 ((m.n, l) :: σ) g e f rows := by
 have h' := h.step (Ext.row m l)
 refine ⟨h.st.row l, h'.rest, fun p hp => ?_, h.m01, h.m1b, h'.gr, fun B hB => ?_⟩
 ·rcases List.mem_cons.1 hp with rfl | hp
  ·exact .inr (.inr h.rest.n)
  ·exact h.low p hp
 ·obtain ⟨a, b, c⟩ := h.sep B hB
  refine ⟨a, by rw [qm]; omega, fun p hp => ?_⟩
  rcases List.mem_cons.1 hp with rfl | hp
  ·simp; omega
  ·exact c p hp
theorem BR {k b : Nat} {l l' : List Value} (hk : σ[k]? = some (b, l)) : (σ.set k (b, l')).map (·.1) = σ.map (·.1) := by
 obtain ⟨hk', hke⟩ := qag.1 hk
 rw [List.map_set]
 show (σ.map (·.1)).set k b = _
 refine List.ext_getElem (by simp) fun i h1 h2 => ?_
 rw [List.getElem_set]
 split
 ·subst_vars; simp [hke]
 ·rfl
theorem Wv {k b : Nat} {l l' : List Value} (hk : σ[k]? = some (b, l)) {p : Nat × List Value} (hp : p ∈ σ.set k (b, l')) : ∃ q ∈ σ, q.1 = p.1 := by
 have : p.1 ∈ (σ.set k (b, l')).map (·.1) := List.mem_map.2 ⟨p, hp, rfl⟩
 rw [BR hk] at this
 obtain ⟨q, hq, e⟩ := List.mem_map.1 this
 exact ⟨q, hq, e⟩
theorem GS.put (h : GS m0 m1 m P2 P3 σ g e f rows) {k b : Nat} {l l' : List Value} (hk : σ[k]? = some (b, l)) (s2 : St m0 m' (σ.set k (b, l'))) (s3 : m'.n = m.n) (s4 : ∀ X, X ≠ b → m'.obj X = m.obj X) : GS m0 m1 m' P2 P3 (σ.set k (b, l')) g e f rows := by
 have hb := qaf hk
 refine ⟨s2, ⟨by rw [s3]; exact h.rest.n, fun B hB hx => ?_, by rw [s2.ext.base, ← h.st.ext.base]; exact h.rest.base, by rw [s2.ext.log, ← h.st.ext.log]; exact h.rest.log⟩, fun p hp => ?_, h.m01, h.m1b, ?_, fun B hB => ?_⟩
 ·rw [s4 B ?_]; exact h.rest.obj B hB hx
  rintro rfl
  rcases h.low _ hb with e | e | e
  ·simp at hx e; omega
  ·simp at hx e; omega
  ·simp at e; omega
 ·obtain ⟨q, hq, e⟩ := Wv hk hp
  rw [← e]; exact h.low q hq
 ·exact h.gr.keep (by rw [s3]; exact qah _) fun B hB hg => s4 B fun e => (h.sep B hg).2.2 _ hb e.symm
 ·obtain ⟨a, b', c⟩ := h.sep B hB
  refine ⟨a, by rw [s3]; exact b', fun p hp => ?_⟩
  obtain ⟨q, hq, e⟩ := Wv hk hp
  rw [← e]; exact c q hq
theorem GS.store (h : GS m0 m1 m P2 P3 σ g e f rows) (k : Nat) {b o : Nat} {l : List Value} {v : Value} (hk : σ[k]? = some (b, l)) (ho : o < l.length) (hv : okC v = true) :
  ∃ m', qH 1 (.pointer (some ⟨b, o, none⟩)) v m = some (undef, m') ∧ GS m0 m1 m' P2 P3 (σ.set k (b, l.set o v)) g e f rows ∧ m'.n = m.n ∧ ∀ X, X ≠ b → m'.obj X = m.obj X := by
 obtain ⟨m', s1, s2, s3, s4⟩ := h.st.store k hk ho hv
 exact ⟨m', s1, h.put hk s2 s3 s4, s3, s4⟩
theorem GS.storeAny (h : GS m0 m1 m P2 P3 σ g e f rows) (k : Nat) {b o : Nat} {l : List Value} {v : Value} (hk : σ[k]? = some (b, l)) (ho : o < l.length) (hv : okC v = true) :
  ∃ m', qH 1 (.pointer (some ⟨b, o, none⟩)) v (qn m) = some (undef, m') ∧ m'.log = [b] ∧ GS m0 m1 (behind m m') P2 P3 (σ.set k (b, l.set o v)) g e f rows ∧ (behind m m').n = m.n ∧ ∀ X, X ≠ b → (behind m m').obj X = m.obj X := by
 obtain ⟨m', s1, s1', s2, s3, s4⟩ := h.st.storeAny k hk ho hv
 exact ⟨m', s1, s1', h.put hk s2 s3 s4, s3, s4⟩
theorem GS.grow (h : GS m0 m1 m P2 P3 σ g e f rows) {M1 : M} (hM : Ext m M1) {g' : Value} {rows' : List α} (n2 : M1.n ≤ m'.n) (g2 : Grown m1 m' g' e f rows') (eb : m'.base = m.base) (el : m'.log = m.log) (k2 : ∀ B, B < M1.n → blk g ≠ some B → m'.obj B = M1.obj B) (b2 : ∀ B, blk g' = some B → M1.n ≤ B) : GS m0 m1 m' P2 P3 σ g' e f rows' := by
 have hMn := hM.n
 have keep : ∀ B, B < m.n → blk g ≠ some B → m'.obj B = m.obj B := fun B hB hg => (k2 B (by omega) hg).trans (hM.obj B hB)
 have h01 := h.m01
 have low : ∀ B, B < m1.n → blk g ≠ some B := fun B hB hg => by have := (h.sep B hg).1; omega
 have hr := h.rest.n
 refine ⟨⟨⟨by have := h.st.ext.n; omega, fun B hB => ?_, by rw [eb, h.st.ext.base], by rw [el, h.st.ext.log]⟩, h.st.base, fun p hp => ?_, h.st.nd⟩, ⟨by omega, fun B hB hx => ?_, by rw [eb, h.rest.base], by rw [el, h.rest.log]⟩, h.low, h.m01, h.m1b, g2, fun B hB => ?_⟩
 ·rw [keep B (by omega) (low B (by omega))]; exact h.st.ext.obj B hB
 ·obtain ⟨a, b, c⟩ := h.st.arr p hp
  exact ⟨a, by omega, c.congr (keep p.1 b fun hg => (h.sep _ hg).2.2 p hp rfl)⟩
 ·rw [keep B (by omega) (low B hB)]; exact h.rest.obj B hB hx
 ·have h1 := b2 B hB
  have h2 := (Go.Sx.grown_low g2 B hB).2
  exact ⟨by omega, h2, fun p hp => by have := (h.st.arr p hp).2.1; omega⟩
theorem GS.app (h : GS m0 m1 m P2 P3 σ g e f rows) (he : 0 < e) (hf : ∀ x, (f x).length = e) (hok : ∀ x, ∀ v ∈ f x, okC v = true) {x : α} {M1 : M} (hM : Ext m M1) {X : Nat} {sp : Option Nat} (hx : loads M1 ⟨X, 0, sp⟩ e = some (f x)) {bytes : Nat} (hm : (rows.length + 1) * bytes ≤ qW) (hn : rows.length + 1 ≤ 4611686018427387904) :
  ∃ v' m2, qS M1 e bytes g (.slice (some ⟨X, 0, sp⟩) 1 1) = some (v', m2) ∧ GS m0 m1 m2 P2 P3 σ v' e f (rows ++ [x]) ∧ M1.n ≤ m2.n ∧ (∀ B, B < m.n → blk g ≠ some B → m2.obj B = m.obj B) ∧ (∀ B, blk v' = some B → M1.n ≤ B) := by
 have hMn := hM.n
 have hr := h.rest.n
 obtain ⟨v', m2, h1, h2, h3, h4, h5, h6, h7⟩ := (h.gr.ext hM).core he hf hok hx (by omega) hm hn
 refine ⟨v', m2, h1, h.grow hM (by omega) h2 (by rw [h4, hM.base]) ?_ h6 h7, by omega, fun B hB hg => (h6 B (by omega) hg).trans (hM.obj B hB), h7⟩
 rcases h5 with h5 | ⟨B, _, hB, h5⟩
 ·rw [h5, hM.log]
 ·have hb := h.st.ext.base
  have hb2 := h.st.base
  have hb3 := h.st.ext.n
  have hb4 := h.rest.base
  rw [h5, vT (by rw [hM.base]; have := h.m1b; omega), hM.log]
theorem GS.done (h : GS m0 m1 m P2 P3 σ g e f rows) (hne : rows ≠ []) {β : Type} (e' : Nat) (f' : β → List Value) : ∃ B, g = .slice (some ⟨B, 0, some (code e false)⟩) rows.length rows.length ∧ m1.n ≤ B ∧ GS m0 m1 m P2 P3 ((B, rows.flatMap f) :: σ) (.slice none 0 0) e' f' [] := by
 rcases h.gr with ⟨h1, _⟩ | ⟨B, h1, h2, h3, h4, h5⟩
 ·exact absurd h1 hne
 ·have hs := (h.sep B (by rw [h4]; rfl)).2.2
  refine ⟨B, h4, h1, ⟨h.st.ext, h.st.base, fun p hp => ?_, ?_⟩, h.rest, fun p hp => ?_, h.m01, h.m1b, .nil, fun C hC => by cases hC⟩
  ·rcases List.mem_cons.1 hp with rfl | hp
   ·exact ⟨by have := h.m01; omega, h2, h5⟩
   ·exact h.st.arr p hp
  ·rw [List.map_cons, List.nodup_cons]
   refine ⟨fun hm => ?_, h.st.nd⟩
   obtain ⟨p, hp, e⟩ := List.mem_map.1 hm
   exact hs p hp e
  ·rcases List.mem_cons.1 hp with rfl | hp
   ·exact .inr (.inr h1)
   ·exact h.low p hp
end
end
end Go.Dx
namespace Go.Dx
section
variable {α β : Type} {m0 m1 m m' : M} {P2 P3 : Nat} {σ : List (Nat × List Value)} {g : Value} {e e' : Nat} {f : α → List Value} {f' : β → List Value} {rows : List α}
end
end Go.Dx
namespace Go.Dx
def jc (P : Value → M → Prop) : Option Out → Prop := fun o => ∃ v m', ob o ZS = some (v, m') ∧ P v m'
theorem kM {P : Program} {g : Nat} {c : SC} {nt : Nat} {res : List RV} {n : Nat} {args : List Value} {m : M} {Q : Value → M → Prop} (hd : we P g = some ⟨c, nt, res⟩) (ha : args.length ≤ nt)
  (h : jc Q (c (ex P n) (kD res) noK (kD res) (jg .blank 0 args) m)) : ∃ v m', (ex P (n + 1)).f g args m = some (v, m') ∧ Q v m' := by
 obtain ⟨v, m', e, h2⟩ := h
 exact ⟨v, m', by rw [ex_f hd, di _ _ _ _ _ _ ha]; exact e, h2⟩
theorem yh {m : M} {Q : Value → M → Prop} {t : Tm} (hq : Q (gO []) m) : jc Q (kD [] t m) := by
 refine ⟨gO [], m, ?_, hq⟩
 rw [Wo, show yW t m [] = some [] from rfl, qy, WM]
section
variable {α : Type} {m0 m1 m m' : M} {P2 P3 : Nat} {σ σ' : List (Nat × List Value)} {g : Value} {e : Nat} {f : α → List Value} {rows : List α}
end
end Go.Dx
namespace Go.Dx
section
variable {m0 m m' : M} {σ : List (Nat × List Value)} {k b o : Nat} {l : List Value}
end
end Go.Dx
namespace Go.Sx
open Go.Dx
end Go.Sx
namespace Go.Dx
open Go.RowKit
abbrev uv (n : Nat) : Value := .int .u64 (n : Int)
theorem bL (op : BinOp) (a b : Int) (r : Int) (h : bits op .u64 a b = r) (ho : op = .and ∨ op = .or ∨ op = .xor) : Kq op .u64 a b = some (.int .u64 r) := by
 rcases ho with rfl | rfl | rfl <;> (subst h; rfl)
theorem Gm {a b : Nat} (ha : a < 18446744073709551616) (hb : b < 18446744073709551616) : zf .and (uv a) (uv b) = some (uv (a &&& b)) := by
 rw [kp]; exact bL .and _ _ _ (bits_and_u64_nat a b ha hb) (.inl rfl)
theorem u_or {a b : Nat} (ha : a < 18446744073709551616) (hb : b < 18446744073709551616) : zf .or (uv a) (uv b) = some (uv (a ||| b)) := by
 rw [kp]; exact bL .or _ _ _ (bits_or_u64_nat a b ha hb) (.inr (.inl rfl))
theorem u_xor {a b : Nat} (ha : a < 18446744073709551616) (hb : b < 18446744073709551616) : zf .xor (uv a) (uv b) = some (uv (a ^^^ b)) := by
 rw [kp]; exact bL .xor _ _ _ (bits_xor_u64_nat a b ha hb) (.inr (.inr rfl))
theorem u_low {b : Nat} (hb : b < 18446744073709551616) : zf .and (uv b) (.int .u64 63) = some (uv (b % 64)) := by
 have := Gm (a := b) (b := 63) hb (by omega)
 rwa [show (63 : Nat) = 2 ^ 6 - 1 from rfl, Nat.and_two_pow_sub_one_eq_mod] at this
theorem Kt (a b : Nat) : zf .add (uv a) (uv b) = some (uv ((a + b) % 18446744073709551616)) := by
 rw [qC, IntKind.wrap_u64]; congr 2
theorem Xv {a b : Nat} (ha : a < 18446744073709551616) (hb : b < 18446744073709551616) : zf .sub (uv a) (uv b) = some (uv ((a + (18446744073709551616 - b)) % 18446744073709551616)) := by
 rw [qz, IntKind.wrap_u64]; congr 2; omega
theorem u_mul (a b : Nat) : zf .mul (uv a) (uv b) = some (uv (a * b % 18446744073709551616)) := by
 rw [kp]
 show some (Value.int .u64 (vi .u64 ((a : Int) * b))) = _
 rw [zE, IntKind.wrap_u64]; congr 2
theorem u_div {a b : Nat} (ha : a < 18446744073709551616) (hb : 0 < b) : zf .quo (uv a) (uv b) = some (uv (a / b)) := by
 rw [kp]
 show zu (Op.intDiv .quo .u64 (a : Int) (b : Int)) = _
 unfold Op.intDiv
 rw [if_neg (by omega)]
 have e : (a : Int).tdiv (b : Int) = ((a / b : Nat) : Int) := by rw [Int.ofNat_tdiv]
 have h2 : a / b ≤ a := Nat.div_le_self a b
 show some (Value.int _ (IntKind.u64.wrap ((a : Int).tdiv b))) = _
 rw [e, IntKind.wrap_u64]
 generalize a / b = c at h2
 congr 2; omega
theorem u_rem {a b : Nat} (hb : 0 < b) : zf .rem (uv a) (uv b) = some (uv (a % b)) := by
 rw [kp]
 show zu (Op.intDiv .rem .u64 (a : Int) (b : Int)) = _
 unfold Op.intDiv
 rw [if_neg (by omega)]
 have e : (a : Int).tmod (b : Int) = ((a % b : Nat) : Int) := by rw [Int.ofNat_tmod]
 show some (Value.int _ ((a : Int).tmod b)) = _
 rw [e]
theorem u_shl {a s : Nat} (hs : s < 64) : shV .shl (uv a) (uv s) = some (uv (a * 2 ^ s % 18446744073709551616)) := by
 show zu (Op.shift .shl .u64 (a : Int) .u64 (s : Int)) = _
 unfold Op.shift
 rw [if_neg (by omega)]
 show some (Value.int .u64 (IntKind.u64.wrap ((a : Int) * 2 ^ (min (Int.toNat (s : Int)) 64)))) = _
 rw [qat, Nat.min_eq_left (by omega), IntKind.wrap_u64]
 congr 2
theorem u_shr {a s : Nat} (hs : s < 64) : shV .shr (uv a) (uv s) = some (uv (a / 2 ^ s)) := by
 show zu (Op.shift .shr .u64 (a : Int) .u64 (s : Int)) = _
 unfold Op.shift
 rw [if_neg (by omega)]
 show some (Value.int .u64 ((a : Int).fdiv (2 ^ (min (Int.toNat (s : Int)) 64)))) = _
 rw [qat, Nat.min_eq_left (by omega)]
 congr 2
 rw [show ((2 : Int) ^ s) = ((2 ^ s : Nat) : Int) by push_cast; rfl, Int.ofNat_fdiv]
theorem u_neg {a : Nat} (ha : a < 18446744073709551616) : unV .neg (uv a) = some (uv ((18446744073709551616 - a) % 18446744073709551616)) := by
 show zu (Op.intArith .sub .u64 0 (a : Int)) = _
 show some (Value.int .u64 (IntKind.u64.wrap (0 - (a : Int)))) = _
 rw [IntKind.wrap_u64]; congr 2; omega
theorem u_not {a : Nat} (ha : a < 18446744073709551616) : unV .xor (uv a) = some (uv (18446744073709551615 - a)) := by
 show zu (Op.intBits .xor .u64 18446744073709551615 (a : Int)) = _
 have h := bits_xor_u64_nat 18446744073709551615 a (by omega) ha
 have e : zu (Op.intBits .xor .u64 18446744073709551615 (a : Int)) = some (.int .u64 (bits .xor .u64 ((18446744073709551615 : Nat) : Int) (a : Int))) := rfl
 rw [e, h]
 congr 3
 have h2 := congrArg BitVec.toNat (BitVec.allOnes_xor (x := BitVec.ofNat 64 a))
 rw [BitVec.toNat_xor, BitVec.toNat_not, BitVec.toNat_allOnes, BitVec.toNat_ofNat, Nat.mod_eq_of_lt (by omega)] at h2
 exact h2
end Go.Dx
namespace Go.Sx
open Go.Dx
abbrev U := {n : Nat // n < 18446744073709551616}
structure Nd where
 op : Int
 val : U
 a : Int
 b : Int
def qg (n : Nd) : List Value := [.int .i64 n.op, uv n.val.1, .int .i64 n.a, .int .i64 n.b]
def kJ (n : U) : List Value := [uv n.1]
def t01 (b : Bool) : Nat := if b then 1 else 0
theorem yx (b : Bool) : t01 b < 18446744073709551616 := by cases b <;> decide
def je (op : Int) (a : Nat) : Nat := if op = 3 then (18446744073709551616 - a) % 18446744073709551616 else if op = 4 then 18446744073709551615 - a else t01 (decide (a = 0))
def wO (op : Int) (a b : Nat) : Nat :=
 if op = 6 then a * b % 18446744073709551616 else if op = 7 then (a + b) % 18446744073709551616 else if op = 8 then (a + (18446744073709551616 - b)) % 18446744073709551616
 else if op = 9 then a * 2 ^ (b % 64) % 18446744073709551616 else if op = 10 then a / 2 ^ (b % 64) else if op = 11 then a &&& b else if op = 12 then a ^^^ b else if op = 13 then a ||| b
 else if op = 14 then t01 (decide (a = b)) else if op = 15 then t01 (decide (a ≠ b)) else if op = 16 then t01 (decide (a < b)) else if op = 17 then t01 (decide (a ≤ b))
 else if op = 18 then t01 (decide (b < a)) else t01 (decide (b ≤ a))
theorem kU {c : Prop} [Decidable c] {a b n : Nat} (ha : a < n) (hb : b < n) : (if c then a else b) < n := by
 by_cases h : c
 ·rw [if_pos h]; exact ha
 ·rw [if_neg h]; exact hb
theorem KH (op : Int) {a : Nat} (ha : a < 18446744073709551616) : je op a < 18446744073709551616 :=
 kU (Nat.mod_lt _ (by omega)) (kU (by omega) (yx _))
theorem KG (op : Int) {a b : Nat} (ha : a < 18446744073709551616) (hb : b < 18446744073709551616) : wO op a b < 18446744073709551616 := by
 have h1 : a &&& b < 2 ^ 64 := Nat.and_lt_two_pow (n := 64) a (y := b) (by omega)
 have h2 : a ^^^ b < 2 ^ 64 := Nat.xor_lt_two_pow (n := 64) (x := a) (y := b) (by omega) (by omega)
 have h3 : a ||| b < 2 ^ 64 := Nat.or_lt_two_pow (n := 64) (x := a) (y := b) (by omega) (by omega)
 exact kU (Nat.mod_lt _ (by omega)) (kU (Nat.mod_lt _ (by omega)) (kU (Nat.mod_lt _ (by omega)) (kU (Nat.mod_lt _ (by omega)) (kU (Nat.lt_of_le_of_lt (Nat.div_le_self _ _) ha)
  (kU (by omega) (kU (by omega) (kU (by omega) (kU (yx _) (kU (yx _) (kU (yx _) (kU (yx _) (kU (yx _) (yx _)))))))))))))
def wAt (l : List U) (i : Nat) : Nat := (l[i]?.map (·.1)).getD 0
theorem wAt_lt (l : List U) (i : Nat) : wAt l i < 18446744073709551616 := by
 unfold wAt
 cases h : l[i]? with
 | none => simp
 | some x => simpa using x.2
def kN (l : List U) (v : List Nat) (n : Nd) : Nat :=
 if n.op = 1 then n.val.1 else if n.op = 2 then wAt l n.val.1 else if n.op ≤ 5 then je n.op (v.getD n.a.toNat 0) else wO n.op (v.getD n.a.toNat 0) (v.getD n.b.toNat 0)
def evV (l : List U) (e : List Nd) : Nat → List Nat
 | 0 => []
 | i + 1 => evV l e i ++ [match e[i]? with | some n => kN l (evV l e i) n | none => 0]
theorem vU (l : List U) (e : List Nd) : ∀ i, (evV l e i).length = i
 | 0 => rfl
 | i + 1 => by unfold evV; rw [qao, vU l e i]; rfl
theorem Kf (l : List U) (e : List Nd) {j : Nat} : ∀ {i : Nat}, j < i → (evV l e i)[j]? = (evV l e (j + 1))[j]?
 | i + 1, h => by
  by_cases hj : j = i
  ·subst hj; rfl
  ·conv => lhs; unfold evV
   rw [qau (by rw [vU]; omega)]
   exact Kf l e (by omega)
def kC (l : List U) (e : List Nd) (i : Nat) : Nat := (evV l e (i + 1)).getD i 0
theorem kX (l : List U) (e : List Nd) {i j : Nat} (h : j < i) : (evV l e i).getD j 0 = kC l e j := by
 unfold kC
 rw [List.getD_eq_getElem?_getD, List.getD_eq_getElem?_getD, Kf l e h]
theorem xL (l : List U) (e : List Nd) {i : Nat} {n : Nd} (h : e[i]? = some n) : kC l e i = kN l (evV l e i) n := by
 unfold kC
 rw [List.getD_eq_getElem?_getD]
 conv => lhs; unfold evV
 rw [qav (by rw [vU]; exact qah _), vU, Nat.sub_self, h]
 rfl
def okN (k i : Nat) (n : Nd) : Bool :=
 if n.op = 1 then decide (n.a = 0 ∧ n.b = 0) else if n.op = 2 then decide (n.a = 0 ∧ n.val.1 < k ∧ n.b = 0)
 else if 3 ≤ n.op ∧ n.op ≤ 5 then decide (0 ≤ n.a ∧ n.a < i ∧ n.b = 0 ∧ n.val.1 = 0) else decide (0 ≤ n.a ∧ n.a < i ∧ 0 ≤ n.b ∧ n.b < i ∧ 6 ≤ n.op ∧ n.op ≤ 19 ∧ n.val.1 = 0)
def kG (n : Nd) (j : Nat) : Nat := (if 3 ≤ n.op ∧ n.a = j then 1 else 0) + (if 6 ≤ n.op ∧ n.b = j then 1 else 0)
def qO (e : List Nd) (i j : Nat) : Nat := ((e.take i).map fun n => kG n j).sum
theorem zR {e : List Nd} {i : Nat} {n : Nd} (h : e[i]? = some n) (j : Nat) : qO e (i + 1) j = qO e i j + kG n j := by
 unfold qO
 obtain ⟨hh, he⟩ := qag.1 h
 rw [List.take_succ_eq_append_getElem hh, he, List.map_append, List.sum_append]
 simp
theorem QS (e : List Nd) (j : Nat) {i : Nat} : ∀ d, qO e i j ≤ qO e (i + d) j
 | 0 => qah _
 | d + 1 => by
  refine qaq (QS e j d) ?_
  cases h : e[i + d]? with
  | some n => rw [← Nat.add_assoc, zR h]; omega
  | none =>
   have := List.getElem?_eq_none_iff.1 h
   unfold qO
   rw [List.take_of_length_le (by omega), List.take_of_length_le (by omega)]
   exact qah _
def qD (k : Nat) (e : List Nd) : Bool :=
 decide (0 < e.length) && decide (e.length ≤ 65536) && ((List.range e.length).all fun i => match e[i]? with | some n => okN k i n | none => true) &&
  ((List.range e.length).all fun j => decide (qO e e.length j = if j < e.length - 1 then 1 else 0))
theorem Xr {k i : Nat} {n : Nd} (h : okN k i n = true) {j : Nat} (hj : i ≤ j) : kG n j = 0 := by
 unfold okN at h; unfold kG
 split at h
 ·rename_i h1
  rw [if_neg (by omega), if_neg (by omega)]
 ·split at h
  ·rw [if_neg (by omega), if_neg (by omega)]
  ·split at h
   ·have := of_decide_eq_true h
    rw [if_neg (by omega), if_neg (by omega)]
   ·have := of_decide_eq_true h
    rw [if_neg (by omega), if_neg (by omega)]
end Go.Sx
namespace Go.Sx
open Go.Dx
section
variable {k : Nat} {e : List Nd}
theorem yD (h : e.length = 0) : qD k e = false := by unfold qD; rw [h]; rfl
theorem bG (h : 65536 < e.length) : qD k e = false := by
 unfold qD
 have : decide (e.length ≤ 65536) = false := decide_eq_false (by omega)
 rw [this]; simp
theorem Kk {i : Nat} {n : Nd} (hi : e[i]? = some n) (h : okN k i n = false) : qD k e = false := by
 have hl := (qag.1 hi).1
 cases hc : qD k e with
 | false => rfl
 | true =>
  unfold qD at hc
  simp only [qak, List.all_eq_true] at hc
  have := hc.1.2 i (List.mem_range.2 hl)
  rw [hi] at this
  exact absurd (this.symm.trans h) (by simp)
theorem vP {j : Nat} (hj : j < e.length) (h : qO e e.length j ≠ if j < e.length - 1 then 1 else 0) : qD k e = false := by
 cases hc : qD k e with
 | false => rfl
 | true =>
  unfold qD at hc
  simp only [qak, List.all_eq_true] at hc
  exact absurd (of_decide_eq_true (hc.2 j (List.mem_range.2 hj))) h
theorem gE {i j : Nat} (hi : i ≤ e.length) (hj : j < e.length) (h : 2 ≤ qO e i j) : qD k e = false := by
 refine vP hj ?_
 have := QS e j (i := i) (e.length - i)
 rw [show i + (e.length - i) = e.length by omega] at this
 split <;> omega
theorem Qo (h : ∀ (i : Nat) n, e[i]? = some n → okN k i n = true) : ∀ i, i ≤ e.length → qO e i (e.length - 1) = 0
 | 0, _ => rfl
 | i + 1, hi => by
  have hg : e[i]? = some e[i] := qae (by omega)
  rw [zR hg, Qo h i (by omega), Xr (h i _ hg) (by omega)]
theorem jz (h0 : 0 < e.length) (h1 : e.length ≤ 65536) (hok : ∀ (i : Nat) n, e[i]? = some n → okN k i n = true) (hlo : ∀ j, j < e.length - 1 → 0 < qO e e.length j) (hhi : ∀ j, qO e e.length j ≤ 1) : qD k e = true := by
 unfold qD
 simp only [qak, List.all_eq_true, decide_eq_true_eq]
 refine ⟨⟨⟨h0, h1⟩, fun i hi => ?_⟩, fun j hj => ?_⟩
 ·cases hg : e[i]? with
  | none => rfl
  | some n => exact hok i n hg
 ·have hj' := List.mem_range.1 hj
  by_cases hl : j < e.length - 1
  ·rw [if_pos hl]; have := hlo j hl; have := hhi j; omega
  ·rw [if_neg hl, show j = e.length - 1 by omega]
   exact Qo hok _ (qah _)
theorem wR (h : qD k e = true) : 0 < e.length ∧ e.length ≤ 65536 ∧ ∀ (i : Nat) n, e[i]? = some n → okN k i n = true := by
 unfold qD at h
 simp only [qak, List.all_eq_true, decide_eq_true_eq] at h
 refine ⟨h.1.1.1, h.1.1.2, fun i n hi => ?_⟩
 have := h.1.2 i (List.mem_range.2 (qag.1 hi).1)
 rw [hi] at this
 exact this
end
theorem WG {k i : Nat} {n : Nd} (h : n.op = 1) : okN k i n = decide (n.a = 0 ∧ n.b = 0) := by unfold okN; rw [if_pos h]
theorem jU {k i : Nat} {n : Nd} (h : n.op = 2) : okN k i n = decide (n.a = 0 ∧ n.val.1 < k ∧ n.b = 0) := by unfold okN; rw [if_neg (by omega), if_pos h]
theorem kE {k i : Nat} {n : Nd} (h : 3 ≤ n.op) (h' : n.op ≤ 5) : okN k i n = decide (0 ≤ n.a ∧ n.a < i ∧ n.b = 0 ∧ n.val.1 = 0) := by unfold okN; rw [if_neg (by omega), if_neg (by omega), if_pos ⟨h, h'⟩]
theorem wU {k i : Nat} {n : Nd} (h1 : n.op ≠ 1) (h2 : n.op ≠ 2) (h : ¬(3 ≤ n.op ∧ n.op ≤ 5)) : okN k i n = decide (0 ≤ n.a ∧ n.a < i ∧ 0 ≤ n.b ∧ n.b < i ∧ 6 ≤ n.op ∧ n.op ≤ 19 ∧ n.val.1 = 0) := by unfold okN; rw [if_neg h1, if_neg h2, if_neg h]
theorem Fa (a k : Nat) : (a * 2 ^ k % 18446744073709551616 + a * 2 ^ k % 18446744073709551616) % 18446744073709551616 = a * 2 ^ (k + 1) % 18446744073709551616 := by
 rw [Nat.pow_succ, ← Nat.mul_assoc]
 generalize a * 2 ^ k = x
 omega
theorem Yk (a k : Nat) : a / 2 ^ k / 2 = a / 2 ^ (k + 1) := by rw [Nat.div_div_eq_div_mul, Nat.pow_succ]
end Go.Sx
namespace Go.Sx
open Go.Dx
theorem zm {n e bytes : Nat} {zs : List Value} (hz : zs.length = e) (h1 : n * e ≤ 1048576) (h2 : n * bytes ≤ qW) (h3 : n ≤ 4611686018427387904) (m : M) : zo e bytes zs (.int .i64 (n : Int)) (.int .i64 (n : Int)) m = some (.slice (some ⟨m.n, 0, some (code e true)⟩) n n, Dx.newRow m ((List.range n).flatMap fun _ => zs)) := by
 show (bif Nat.ble n n && Nat.ble (n * bytes) qW && Nat.ble n 4611686018427387904 && Nat.ble (n * e) 1048576 then some (Value.slice (some ⟨m.n, 0, some (code e true)⟩) n n, Dx.newRow m (rep n zs)) else none) = _
 rw [qam (qah n), qam h2, qam h3, qam h1, Bu]
 rfl
theorem wy (n : Nd) : (qg n).length = 4 := rfl
theorem jX (n : U) : (kJ n).length = 1 := rfl
end Go.Sx
