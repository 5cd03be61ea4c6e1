/- Contracts. -/
import Derived.Test.YtdfaibjngkfnaaaGd
set_option linter.unusedVariables false
set_option linter.unusedSimpArgs false
set_option linter.defProp false
namespace Go.Dx
noncomputable section
structure GS {α : Type} (m0 m1 m : M) (P2 P3 : Nat) (σ : List (Nat × List Value)) (g : Value) (e : Nat) (f : α → List Value) (rows : List α) : Prop where
 st : St m0 m σ
 rest : Go.Dx.Rest m1.n [P2, P3] m1 m
 low : ∀ p ∈ σ, p.1 = P2 ∨ p.1 = P3 ∨ m1.n ≤ p.1
 m01 : m0.n ≤ m1.n
 m1b : m1.base ≤ m1.n
 gr : Grown m1 m g e f rows
 sep : ∀ B, blk g = some B → m1.n ≤ B ∧ B < m.n ∧ ∀ p ∈ σ, p.1 ≠ B
section
variable {α : Type} {m0 m1 m m' : M} {P2 P3 : Nat} {σ σ' : List (Nat × List Value)} {g : Value} {e : Nat} {f : α → List Value} {rows : List α}
theorem GS.step (h : GS m0 m1 m P2 P3 σ g e f rows) (k : Ext m m') : GS m0 m1 m' P2 P3 σ g e f rows :=
 ⟨h.st.step k, ⟨qa8 h.rest.n k.n, fun B hB hx => (k.obj B (qa1 hB h.rest.n)).trans (h.rest.obj B hB hx), k.base.trans h.rest.base, k.log.trans h.rest.log⟩, h.low, h.m01, h.m1b, h.gr.ext k, fun B hB => let ⟨a, b, c⟩ := h.sep B hB; ⟨a, qa1 b k.n, c⟩⟩
theorem GS.sub (h : GS m0 m1 m P2 P3 σ g e f rows) (hs : ∀ p ∈ σ', p ∈ σ) (hn : (σ'.map (·.1)).Nodup) : GS m0 m1 m P2 P3 σ' g e f rows :=
 ⟨h.st.sub hs hn, h.rest, fun p hp => h.low p (hs p hp), h.m01, h.m1b, h.gr, fun B hB => let ⟨a, b, c⟩ := h.sep B hB; ⟨a, b, fun p hp => c p (hs p hp)⟩⟩
theorem GS.row (h : GS m0 m1 m P2 P3 σ g e f rows) (l : List Value) : GS m0 m1 (newRow m l) P2 P3 ((m.n, l) :: σ) g e f rows := by
 have h' := h.step (Ext.row m l)
 refine ⟨h.st.row l, h'.rest, fun p hp => ?_, h.m01, h.m1b, h'.gr, fun B hB => ?_⟩
 ·rcases List.mem_cons.1 hp with rfl | hp
  ·exact .inr (.inr h.rest.n)
  ·exact h.low p hp
 ·obtain ⟨a, b, c⟩ := h.sep B hB
  refine ⟨a, by rw [qk]; omega, fun p hp => ?_⟩
  rcases List.mem_cons.1 hp with rfl | hp
  ·simp; omega
  ·exact c p hp
theorem FE {k b : Nat} {l l' : List Value} (hk : σ[k]? = some (b, l)) : (σ.set k (b, l')).map (·.1) = σ.map (·.1) := by
 obtain ⟨hk', hke⟩ := DY.1 hk
 rw [List.map_set]
 show (σ.map (·.1)).set k b = _
 refine List.ext_getElem (by simp) fun i h1 h2 => ?_
 rw [List.getElem_set]
 split
 ·subst_vars; simp [hke]
 ·rfl
theorem Xq {k b : Nat} {l l' : List Value} (hk : σ[k]? = some (b, l)) {p : Nat × List Value} (hp : p ∈ σ.set k (b, l')) : ∃ q ∈ σ, q.1 = p.1 := by
 have : p.1 ∈ (σ.set k (b, l')).map (·.1) := List.mem_map.2 ⟨p, hp, rfl⟩
 rw [FE hk] at this
 obtain ⟨q, hq, e⟩ := List.mem_map.1 this
 exact ⟨q, hq, e⟩
theorem GS.put (h : GS m0 m1 m P2 P3 σ g e f rows) {k b : Nat} {l l' : List Value} (hk : σ[k]? = some (b, l)) (s2 : St m0 m' (σ.set k (b, l'))) (s3 : m'.n = m.n) (s4 : ∀ X, X ≠ b → m'.obj X = m.obj X) : GS m0 m1 m' P2 P3 (σ.set k (b, l')) g e f rows := by
 have hb := DX hk
 refine ⟨s2, ⟨by rw [s3]; exact h.rest.n, fun B hB hx => ?_, by rw [s2.ext.base, ← h.st.ext.base]; exact h.rest.base, by rw [s2.ext.log, ← h.st.ext.log]; exact h.rest.log⟩, fun p hp => ?_, h.m01, h.m1b, ?_, fun B hB => ?_⟩
 ·rw [s4 B ?_]; exact h.rest.obj B hB hx
  rintro rfl
  rcases h.low _ hb with e | e | e
  ·simp at hx e; omega
  ·simp at hx e; omega
  ·simp at e; omega
 ·obtain ⟨q, hq, e⟩ := Xq hk hp
  rw [← e]; exact h.low q hq
 ·exact h.gr.keep (by rw [s3]; exact DZ _) fun B hB hg => s4 B fun e => (h.sep B hg).2.2 _ hb e.symm
 ·obtain ⟨a, b', c⟩ := h.sep B hB
  refine ⟨a, by rw [s3]; exact b', fun p hp => ?_⟩
  obtain ⟨q, hq, e⟩ := Xq hk hp
  rw [← e]; exact c q hq
theorem GS.store (h : GS m0 m1 m P2 P3 σ g e f rows) (k : Nat) {b o : Nat} {l : List Value} {v : Value} (hk : σ[k]? = some (b, l)) (ho : o < l.length) (hv : okC v = true) :
  ∃ m', wh 1 (.pointer (some ⟨b, o, none⟩)) v m = some (undef, m') ∧ GS m0 m1 m' P2 P3 (σ.set k (b, l.set o v)) g e f rows ∧ m'.n = m.n ∧ ∀ X, X ≠ b → m'.obj X = m.obj X := by
 obtain ⟨m', s1, s2, s3, s4⟩ := h.st.store k hk ho hv
 exact ⟨m', s1, h.put hk s2 s3 s4, s3, s4⟩
theorem GS.storeAny (h : GS m0 m1 m P2 P3 σ g e f rows) (k : Nat) {b o : Nat} {l : List Value} {v : Value} (hk : σ[k]? = some (b, l)) (ho : o < l.length) (hv : okC v = true) :
  ∃ m', wh 1 (.pointer (some ⟨b, o, none⟩)) v (qi m) = some (undef, m') ∧ m'.log = [b] ∧ GS m0 m1 (behind m m') P2 P3 (σ.set k (b, l.set o v)) g e f rows ∧ (behind m m').n = m.n ∧ ∀ X, X ≠ b → (behind m m').obj X = m.obj X := by
 obtain ⟨m', s1, s1', s2, s3, s4⟩ := h.st.storeAny k hk ho hv
 exact ⟨m', s1, s1', h.put hk s2 s3 s4, s3, s4⟩
theorem GS.grow (h : GS m0 m1 m P2 P3 σ g e f rows) {M1 : M} (hM : Ext m M1) {g' : Value} {rows' : List α} (n2 : M1.n ≤ m'.n) (g2 : Grown m1 m' g' e f rows') (eb : m'.base = m.base) (el : m'.log = m.log) (k2 : ∀ B, B < M1.n → blk g ≠ some B → m'.obj B = M1.obj B) (b2 : ∀ B, blk g' = some B → M1.n ≤ B) : GS m0 m1 m' P2 P3 σ g' e f rows' := by
 have hMn := hM.n
 have keep : ∀ B, B < m.n → blk g ≠ some B → m'.obj B = m.obj B := fun B hB hg => (k2 B (by omega) hg).trans (hM.obj B hB)
 have h01 := h.m01
 have low : ∀ B, B < m1.n → blk g ≠ some B := fun B hB hg => by have := (h.sep B hg).1; omega
 have hr := h.rest.n
 refine ⟨⟨⟨by have := h.st.ext.n; omega, fun B hB => ?_, by rw [eb, h.st.ext.base], by rw [el, h.st.ext.log]⟩, h.st.base, fun p hp => ?_, h.st.nd⟩, ⟨by omega, fun B hB hx => ?_, by rw [eb, h.rest.base], by rw [el, h.rest.log]⟩, h.low, h.m01, h.m1b, g2, fun B hB => ?_⟩
 ·rw [keep B (by omega) (low B (by omega))]; exact h.st.ext.obj B hB
 ·obtain ⟨a, b, c⟩ := h.st.arr p hp
  exact ⟨a, by omega, c.congr (keep p.1 b fun hg => (h.sep _ hg).2.2 p hp rfl)⟩
 ·rw [keep B (by omega) (low B hB)]; exact h.rest.obj B hB hx
 ·have h1 := b2 B hB
  have h2 := (Go.Sx.grown_low g2 B hB).2
  exact ⟨by omega, h2, fun p hp => by have := (h.st.arr p hp).2.1; omega⟩
theorem GS.app (h : GS m0 m1 m P2 P3 σ g e f rows) (he : 0 < e) (hf : ∀ x, (f x).length = e) (hok : ∀ x, ∀ v ∈ f x, okC v = true) {x : α} {M1 : M} (hM : Ext m M1) {X : Nat} {sp : Option Nat} (hx : loads M1 ⟨X, 0, sp⟩ e = some (f x)) {bytes : Nat} (hm : (rows.length + 1) * bytes ≤ most) (hn : rows.length + 1 ≤ 4611686018427387904) :
  ∃ v' m2, qX M1 e bytes g (.slice (some ⟨X, 0, sp⟩) 1 1) = some (v', m2) ∧ GS m0 m1 m2 P2 P3 σ v' e f (rows ++ [x]) ∧ M1.n ≤ m2.n ∧ (∀ B, B < m.n → blk g ≠ some B → m2.obj B = m.obj B) ∧ (∀ B, blk v' = some B → M1.n ≤ B) := by
 have hMn := hM.n
 have hr := h.rest.n
 obtain ⟨v', m2, h1, h2, h3, h4, h5, h6, h7⟩ := (h.gr.ext hM).core he hf hok hx (by omega) hm hn
 refine ⟨v', m2, h1, h.grow hM (by omega) h2 (by rw [h4, hM.base]) ?_ h6 h7, by omega, fun B hB hg => (h6 B (by omega) hg).trans (hM.obj B hB), h7⟩
 rcases h5 with h5 | ⟨B, _, hB, h5⟩
 ·rw [h5, hM.log]
 ·have hb := h.st.ext.base
  have hb2 := h.st.base
  have hb3 := h.st.ext.n
  have hb4 := h.rest.base
  rw [h5, ya (by rw [hM.base]; have := h.m1b; omega), hM.log]
theorem GS.appAny (h : GS m0 m1 m P2 P3 σ g e f rows) (he : 0 < e) (hf : ∀ x, (f x).length = e) (hok : ∀ x, ∀ v ∈ f x, okC v = true) {x : α} {M1 : M} (hM : Ext m M1) {X : Nat} {sp : Option Nat} (hx : loads M1 ⟨X, 0, sp⟩ e = some (f x)) {bytes : Nat} (hm : (rows.length + 1) * bytes ≤ most) (hn : rows.length + 1 ≤ 4611686018427387904) :
  ∃ v' m2, qX (qi M1) e bytes g (.slice (some ⟨X, 0, sp⟩) 1 1) = some (v', m2) ∧ (m2.log = [] ∨ ∃ B, blk g = some B ∧ m2.log = [B]) ∧ GS m0 m1 (behind M1 m2) P2 P3 σ v' e f (rows ++ [x]) ∧ M1.n ≤ (behind M1 m2).n ∧ (∀ B, B < m.n → blk g ≠ some B → (behind M1 m2).obj B = m.obj B) ∧ (∀ B, blk v' = some B → M1.n ≤ B) := by
 have hMn := hM.n
 have hr := h.rest.n
 have hA : Grown m1 (qi M1) g e f rows := (h.gr.ext hM).keep (by rw [qw]; exact DZ _) fun B _ _ => qB _ _
 have hx' : loads (qi M1) ⟨X, 0, sp⟩ e = some (f x) := by rw [Vj]; exact hx
 obtain ⟨v', m2, h1, h2, h3, h4, h5, h6, h7⟩ := hA.core he hf hok hx' (by rw [qw]; omega) hm hn
 rw [qw] at h3 h6 h7
 have hlog : m2.log = [] ∨ ∃ B, blk g = some B ∧ m2.log = [B] := by
  rcases h5 with h5 | ⟨B, hB, _, h5⟩
  ·exact .inl (by rw [h5, qE])
  ·refine .inr ⟨B, hB, ?_⟩
   rw [h5, ky, qE]
   have := (h.sep B hB).2.1
   unfold note
   have h' : Nat.ble M1.n B = false := by
    cases q : Nat.ble M1.n B with
    | false => rfl
    | true => exact absurd (qa5 q) (by omega)
   rw [h']; rfl
 have k6 : ∀ B, B < M1.n → blk g ≠ some B → (behind M1 m2).obj B = M1.obj B := fun B hB hg => by rw [qC, h6 B hB hg, qB]
 refine ⟨v', m2, h1, hlog, h.grow hM (by rw [qY]; omega) (h2.keep (by rw [qY]; exact DZ _) fun B _ _ => qC _ _ _) (by rw [kw, hM.base]) ?_ k6 h7, by rw [qY]; omega, fun B hB hg => (k6 B (by omega) hg).trans (hM.obj B hB), h7⟩
 rw [kM, ← hM.log]
 rcases hlog with h' | ⟨B, hB, h'⟩
 ·rw [h']; rfl
 ·rw [h']
  have := (h.sep B hB).1
  have hb4 := h.rest.base
  show notes M1.base (note M1.base B M1.log) [] = M1.log
  rw [ya (by rw [hM.base, hb4]; have := h.m1b; omega)]; rfl
theorem GS.putL (h : GS m0 m1 m P2 P3 σ g e f rows) {L : Nat} (hL : ∀ p ∈ σ, p.1 ≠ L) (h1 : m1.n ≤ L) (hg : blk g ≠ some L) (o : zJ) : GS m0 m1 (m.put L o) P2 P3 σ g e f rows := by
 have h0 := h.st.ext.n
 have hr := h.rest
 have hb := h.m1b
 refine ⟨h.st.putL hL (qa8 h.m01 h1) o, ⟨by rw [M.n_put]; exact hr.n, fun B hB hx => by rw [M.obj_put, if_neg (by omega)]; exact hr.obj B hB hx, by rw [M.base_put]; exact hr.base, by rw [zX (by rw [hr.base]; omega)]; exact hr.log⟩, h.low, h.m01, h.m1b, h.gr.keep (by rw [M.n_put]; exact DZ _) fun B _ hB => by rw [M.obj_put, if_neg (by rintro rfl; exact hg hB)], fun B hB => by rw [M.n_put]; exact h.sep B hB⟩
theorem GS.done (h : GS m0 m1 m P2 P3 σ g e f rows) (hne : rows ≠ []) {β : Type} (e' : Nat) (f' : β → List Value) : ∃ B, g = .slice (some ⟨B, 0, some (code e false)⟩) rows.length rows.length ∧ m1.n ≤ B ∧ GS m0 m1 m P2 P3 ((B, rows.flatMap f) :: σ) (.slice none 0 0) e' f' [] := by
 rcases h.gr with ⟨h1, _⟩ | ⟨B, h1, h2, h3, h4, h5⟩
 ·exact absurd h1 hne
 ·have hs := (h.sep B (by rw [h4]; rfl)).2.2
  refine ⟨B, h4, h1, ⟨h.st.ext, h.st.base, fun p hp => ?_, ?_⟩, h.rest, fun p hp => ?_, h.m01, h.m1b, .nil, fun C hC => by cases hC⟩
  ·rcases List.mem_cons.1 hp with rfl | hp
   ·exact ⟨by have := h.m01; omega, h2, h5⟩
   ·exact h.st.arr p hp
  ·rw [List.map_cons, List.nodup_cons]
   refine ⟨fun hm => ?_, h.st.nd⟩
   obtain ⟨p, hp, e⟩ := List.mem_map.1 hm
   exact hs p hp e
  ·rcases List.mem_cons.1 hp with rfl | hp
   ·exact .inr (.inr h1)
   ·exact h.low p hp
end
end
end Go.Dx
namespace Go.Dx
@[simp] theorem bslice_ev (m : M) (a b c d e : Value) : ko 5 1 (rep 1 [.int .i64 0, .int .i64 0, .int .i64 0, .int .u64 0, .int .i64 0]) [(0, 5, .agg ⟨[a, b, c, d, e]⟩)] m = some (.slice (some ⟨m.n, 0, some 11⟩) 1 1, newRow m [a, b, c, d, e]) := _root_.id rfl
@[simp] theorem build_ev0 (a b c d : Int) : km [.int .i64 0, .int .i64 0, .int .i64 0, .int .u64 0, .int .i64 0] [(0, 1, .int .i64 a), (1, 1, .int .i64 b), (2, 1, .int .i64 c), (4, 1, .int .i64 d)] = some (.agg ⟨[.int .i64 a, .int .i64 b, .int .i64 c, .int .u64 0, .int .i64 d]⟩) := _root_.id rfl
@[simp] theorem build_ev (a b c d e : Int) : km [.int .i64 0, .int .i64 0, .int .i64 0, .int .u64 0, .int .i64 0] [(0, 1, .int .i64 a), (1, 1, .int .i64 b), (2, 1, .int .i64 c), (3, 1, .int .u64 d), (4, 1, .int .i64 e)] = some (.agg ⟨[.int .i64 a, .int .i64 b, .int .i64 c, .int .u64 d, .int .i64 e]⟩) := _root_.id rfl
@[simp] theorem Dn (m : M) (a b c : Int) : ko 1 3 (rep 3 [.int .i64 0]) [(0, 1, .int .i64 a), (1, 1, .int .i64 b), (2, 1, .int .i64 c)] m = some (.slice (some ⟨m.n, 0, some 3⟩) 3 3, newRow m [.int .i64 a, .int .i64 b, .int .i64 c]) := _root_.id rfl
@[simp] theorem bslice_sl (m : M) (a : Option Addr) (x y : Nat) : ko 1 1 (rep 1 [.slice none 0 0]) [(0, 1, .slice a x y)] m = some (.slice (some ⟨m.n, 0, some 3⟩) 1 1, newRow m [.slice a x y]) := _root_.id rfl
noncomputable section
variable {α : Type} {m0 m1 m m' : M} {P2 P3 : Nat} {σ σ' : List (Nat × List Value)} {g : Value} {e : Nat} {f : α → List Value} {rows : List α}
theorem GS.rowLast (h : GS m0 m1 m P2 P3 σ g e f rows) (l : List Value) : GS m0 m1 (newRow m l) P2 P3 (σ ++ [(m.n, l)]) g e f rows := by
 have h' := h.row l
 refine h'.sub (fun p hp => by simp at hp ⊢; exact hp.symm) ?_
 have := h'.st.nd
 rw [List.map_append]
 exact ((List.perm_append_singleton _ _).nodup_iff).2 this
theorem GS.doneLast (h : GS m0 m1 m P2 P3 σ g e f rows) {β : Type} (e' : Nat) (f' : β → List Value) (hf : ∀ x, (f x).length = e) : ∃ ex, GS m0 m1 m P2 P3 (σ ++ ex) (.slice none 0 0) e' f' [] ∧ (∀ m', St m0 m' ex → Rd m' g e f rows) ∧ ∀ p ∈ ex, m1.n ≤ p.1 := by
 by_cases hne : rows = []
 ·subst hne
  rcases h.gr with ⟨_, rfl⟩ | ⟨B, _, _, h3, _⟩
  ·refine ⟨[], ⟨by simpa using h.st, h.rest, by simpa using h.low, h.m01, h.m1b, .nil, fun C hC => by cases hC⟩, fun m' _ => ⟨rfl, fun i r hr => by simp at hr, rfl, fun B hB => by cases hB⟩, by simp⟩
  ·exact absurd rfl h3
 ·obtain ⟨B, e1, e2, h'⟩ := h.done hne e' f'
  refine ⟨[(B, rows.flatMap f)], h'.sub (fun p hp => by simp at hp ⊢; exact hp.symm) ?_, fun m' hs => ?_, by simpa using e2⟩
  ·have := h'.st.nd
   rw [List.map_append]
   exact ((List.perm_append_singleton _ _).nodup_iff).2 this
  ·obtain ⟨a, b, c⟩ := hs.arr (B, rows.flatMap f) (by simp)
   rw [e1]
   exact zl hf c b
end
end Go.Dx
namespace Go.Sx
open Go.Dx Go.Proofs
structure EvR where
 th : Int
 kind : Int
 loc : Int
 val : Nat
 mode : Int
def qS (x : EvR) : List Value := [iv x.th, iv x.kind, iv x.loc, .int .u64 x.val, iv x.mode]
theorem kv (x : EvR) : (qS x).length = 5 := rfl
theorem xw (x : EvR) : ∀ v ∈ qS x, okC v = true := by simp [qS, okC]
def wk (x : Nat × Nat) : List Value := [iv x.1, iv x.2]
theorem zy (x : Nat × Nat) : (wk x).length = 2 := rfl
theorem dt (x : Nat × Nat) : ∀ v ∈ wk x, okC v = true := by simp [wk, okC]
def yk (f : Nat → Nat) : List Value := [iv (f 0), iv (f 1), iv (f 2)]
structure GB where
 FB : Nat
 q7 : Nat
 P3 : Nat
 P2 : Nat
 q5 : Nat
 PB : Nat
def qd (N : Nat) (ev rf co : Value) : List Value := [iv N, ev, rf, co, .slice none 0 0, .slice none 0 0, .slice none 0 0, .slice none 0 0]
def fbV (rb : Nat → Nat) (c : Nat) : Value := .slice (some ⟨rb c, 0, some 3⟩) 3 3
def GB.σ (u : GB) (N : Nat) (rb : Nat → Nat) (cells : List Value) (tov : Value) (fb : Nat → Value) (c : Nat) (fr : Nat → Nat → Nat) : List (Nat × List Value) :=
 [(u.FB, (List.range N).flatMap fun c => [fb c]), (u.q7, [.slice (some ⟨u.FB, 0, some 3⟩) N N]), (u.P3, [tov]), (u.P2, cells), (u.q5, [.pointer (some ⟨u.PB, 0, none⟩)])] ++ (List.range c).map fun c => (rb c, yk (fr c))
def ev0 (c : Nat) : EvR := ⟨-1, 2, c, 0, 1⟩
def fr0 (c v : Nat) : Nat := if v = 0 then c else 0
theorem BD (n : Nat) {m0 m1 : M} {u : GB} {N : Nat} (hN : N ≤ 16) (Q : Option Out → Prop) (kn0 kn kr : K) (ke : Nat → K) (t : Tm) (m : M) (I : Tm → Prop) (hIk : ∀ t i v, I t → i ∉ [1, 2, 3, 4, 5, 7, 37] → I (Tm.set i v t)) (hI : I t) (I2 : ∀ t, I t → Tm.get 2 t = .pointer (some ⟨u.P2, 0, none⟩) ∧ Tm.get 7 t = .pointer (some ⟨u.q7, 0, none⟩) ∧ Tm.get 37 t = iv N) (t38 : Tm.get 38 t = iv 0)
  (h : GS m0 m1 m u.P2 u.P3 (u.σ N (fun _ => 0) (qd N (.slice none 0 0) (.slice none 0 0) (.slice none 0 0)) (.slice none 0 0) (fun _ => .slice none 0 0) 0 fr0) (.slice none 0 0) 5 qS [])
  (hq : ∀ t m rb ev, I t → GS m0 m1 m u.P2 u.P3 (u.σ N rb (qd N ev (.slice none 0 0) (.slice none 0 0)) (.slice none 0 0) (fbV rb) N fr0) ev 5 qS ((List.range N).map ev0) → Q (kn t m)) :
  Q (ZE (ex Try.prog n) kn0 (kK 0 kn ke) kr t m) := by
 refine qm (c := ZE) rfl Q (fun c t m' => I t ∧ Tm.get 38 t = iv c ∧ ∃ rb ev fb, (∀ c', c' < c → fb c' = fbV rb c') ∧ GS m0 m1 m' u.P2 u.P3 (u.σ N rb (qd N ev (.slice none 0 0) (.slice none 0 0)) (.slice none 0 0) fb c fr0) ev 5 qS ((List.range c).map ev0)) N (by omega)
  ⟨hI, t38, _, _, _, fun c' h => by omega, h⟩ (fun c t m' k hc hJ hk => ?_)
 obtain ⟨hI, t38, rb, ev, fb, hfb, hG⟩ := hJ
 obtain ⟨t2, t7, t37⟩ := I2 t hI
 by_cases hcl : c < N
 ·have hd := dlt hcl
  have w1 := qJ (i := c) (by omega)
  have lev : load1 m' ⟨u.P2, 1, none⟩ = some ev := by rw [(hG.st.get 3 rfl).2.2.load1]; rfl
  obtain ⟨M1, hM1⟩ := qaj (Dx.newRow m' [iv (-1), iv 2, iv c, .int .u64 0, iv 1])
  have E1 : Ext m' M1 := by rw [hM1]; exact Ext.row _ _
  have hlen : ((List.range c).map ev0).length = c := by simp
  obtain ⟨ev', m2, p1, p2, p3, p4, p5⟩ := hG.app (by omega) kv xw (x := ev0 c) E1 (X := m'.n) (sp := some 11) (by rw [hM1]; exact (Arr.row m' _).loads (by simp)) (bytes := 40) (by rw [hlen]; unfold most; omega) (by rw [hlen]; omega)
  obtain ⟨m3, q1, q2, q3, q4⟩ := p2.store 3 rfl (o := 1) (v := ev') (by simp [qd]) p2.gr.okC
  have l7 : load1 m3 ⟨u.q7, 0, none⟩ = some (.slice (some ⟨u.FB, 0, some 3⟩) N N) := by rw [(q2.st.get 1 rfl).2.2.load1]; rfl
  obtain ⟨M4, hM4⟩ := qaj (Dx.newRow m3 [iv c, iv 0, iv 0])
  have r2 := q2.rowLast [iv c, iv 0, iv 0]
  rw [← hM4] at r2
  have n4 : M4.n = m3.n + 1 := by rw [hM4, qk]
  have xF := zV (e := 1) (c := 3) u.FB N c hcl
  rw [Nat.mul_one] at xF
  have hFl : ((List.range N).flatMap fun c => [fb c]).length = N * 1 := zj fun _ => rfl
  obtain ⟨m5, s1, s2, s3, s4⟩ := r2.store 0 rfl (o := c) (v := .slice (some ⟨m3.n, 0, some 3⟩) 3 3) (by rw [hFl]; omega) rfl
  simp [t2, t7, t37, t38, hd, lev, ← hM1, p1, q1, l7, ← hM4, xF, s1, w1]
  refine hk hcl _ _ ⟨?_, by simp, upN rb c m3.n, ev', upN fb c (.slice (some ⟨m3.n, 0, some 3⟩) 3 3), fun c' hc' => ?_, ?_⟩
  ·repeat' (first | exact hI | refine hIk _ _ _ ?_ (by simp))
  ·by_cases e : c' = c
   ·subst e; rw [qI]; unfold fbV; rw [qI]
   ·rw [wx _ _ e, hfb c' (by omega)]; unfold fbV; rw [wx _ _ e]
  ·have hset : ((List.range N).flatMap fun c => [fb c]).set c (.slice (some ⟨m3.n, 0, some 3⟩) 3 3) = (List.range N).flatMap fun c' => [upN fb c (.slice (some ⟨m3.n, 0, some 3⟩) 3 3) c'] := by
    have := xy (e := 1) (o := 0) (j := c) (v := .slice (some ⟨m3.n, 0, some 3⟩) 3 3) (f := fun c => [fb c]) (g := fun c' => [upN fb c (.slice (some ⟨m3.n, 0, some 3⟩) 3 3) c']) (fun k => rfl) (by omega) (fun k hk => by rw [wx _ _ hk]) (by rw [qI]; rfl) N hcl
    rwa [Nat.mul_one, Nat.add_zero] at this
   have e1 : (List.range (c + 1)).map ev0 = (List.range c).map ev0 ++ [ev0 c] := by rw [List.range_succ, List.map_append]; rfl
   have e2 : (List.range (c + 1)).map (fun c' => (upN rb c m3.n c', yk (fr0 c'))) = (List.range c).map (fun c => (rb c, yk (fr0 c))) ++ [(m3.n, [iv c, iv 0, iv 0])] := by
    rw [List.range_succ, List.map_append]
    congr 1
    ·refine List.map_congr_left fun c' hc' => ?_
     rw [wx _ _ (by simp at hc'; omega)]
    ·simp only [List.map_cons, List.map_nil, qI]; rfl
   rw [e1]
   have e3 : u.σ N (upN rb c m3.n) (qd N ev' (.slice none 0 0) (.slice none 0 0)) (.slice none 0 0) (upN fb c (.slice (some ⟨m3.n, 0, some 3⟩) 3 3)) (c + 1) fr0 = (((u.σ N rb (qd N ev (.slice none 0 0) (.slice none 0 0)) (.slice none 0 0) fb c fr0).set 3 (u.P2, (qd N ev (.slice none 0 0) (.slice none 0 0)).set 1 ev')) ++ [(m3.n, [iv c, iv 0, iv 0])]).set 0 (u.FB, ((List.range N).flatMap fun c => [fb c]).set c (.slice (some ⟨m3.n, 0, some 3⟩) 3 3)) := by
    unfold GB.σ
    rw [e2, hset]
    simp [qd]
   rw [e3]; exact s2
 ·obtain rfl : c = N := by omega
  have hd : ((c : Int) < (c : Int)) = False := eq_false (by omega)
  simp [t37, t38, hd]
  refine hq _ _ rb ev ?_ ?_
  ·repeat' (first | exact hI | refine hIk _ _ _ ?_ (by simp))
  ·have e : u.σ c rb (qd c ev (.slice none 0 0) (.slice none 0 0)) (.slice none 0 0) (fbV rb) c fr0 = u.σ c rb (qd c ev (.slice none 0 0) (.slice none 0 0)) (.slice none 0 0) fb c fr0 := by
    have key : (List.range c).flatMap (fun c => [fbV rb c]) = (List.range c).flatMap fun c => [fb c] := by
     simp only [List.flatMap]
     congr 1
     exact List.map_congr_left fun c' hc' => by rw [hfb c' (by simpa using hc')]
    unfold GB.σ; rw [key]
   rw [e]; exact hG
end Go.Sx
namespace Go.Sx
open Go.Dx Go.Proofs
theorem QK {c : SC} {o : V} {nt p : Nat} {a b : Code} {ks : List Nat} (hc : c = sRf o nt #[p] a b ks) {sa sb : SC} (ha : kc Try.prog nt a = some sa) (hb : kc Try.prog nt b = some sb) (hnt : nt ≤ 512) (n : Nat) {kn kr : K} {ke : Nat → K} {t : Tm} {m : M} {Q : Option Out → Prop} {W PB bg len : Nat}
  (hlen : 0 < len) (hl : len ≤ 1000) (hbl : bg < len) (ho : o t = .func (.func 71) #[] #[.pointer (some ⟨W, 0, none⟩)]) {T : Tm} (hT : zM ks t = T) (t1 t2 : Nat → Tm) (hput : ∀ i : Nat, vi nt T [p] [iv i] = some (t1 i)) (hsa : ∀ (i : Nat) (x : Ex) (k : K) (m : M), sa x k noK (fun _ _ => none) (t1 i) m = k (t2 i) m)
  (J : Nat → M → Prop) (hJ : ∀ k m', k ≤ len → J k m' → load1 m' ⟨W, 0, none⟩ = some (.pointer (some ⟨PB, 0, none⟩)) ∧ (∃ ed, load1 m' ⟨PB, 0, none⟩ = some ed ∧ kG ed = some (iv len)) ∧ load1 m' ⟨PB, 2, none⟩ = some (iv bg))
  (hE : ∀ m', Ext m m' → J 0 m') (hL : ∀ k m' O, J k m' → m.n < m'.n → J k (m'.put m.n O))
  (round : ∀ k m', k < len → J k m' → m.n < m'.n → Rnd (fun e m2 => e = none ∧ m2.obj m.n = m'.obj m.n ∧ m'.n ≤ m2.n ∧ J (k + 1) m2) (sb (ex Try.prog n) (kC none) zL (kC (some E.ret)) (t2 ((bg + k) % len)) m'))
  (hq : ∀ m', J len m' → Q (kn t m')) : Q (c (ex Try.prog (n + 2)) kn ke kr t m) := by
 obtain ⟨mE, hmE⟩ := qaj (m.alloc (.loop 0 T nt #[p] a b none))
 have nE : mE.n = m.n + 1 := by rw [hmE, M.n_alloc]
 have EE : Ext m mE := by rw [hmE]; exact ⟨by rw [M.n_alloc]; omega, fun X hX => by rw [M.obj_alloc, if_neg (by omega)], M.base_alloc _ _, M.log_alloc _ _⟩
 have obE : mE.obj m.n = some (.loop 0 T nt #[p] a b none) := by rw [hmE, M.obj_alloc, if_pos rfl]
 have hwalk := bG (n + 1) (.func (.yield m.n) #[] #[]) PB W bg len hlen hl hbl
  (fun k m' => J k m' ∧ m'.obj m.n = some (.loop 0 T nt #[p] a b none) ∧ m.n < m'.n) (fun _ => False)
  (fun k m' hk h => hJ k m' hk h.1)
  (fun k m' hk h => by
   obtain ⟨w, hob, hLn⟩ := h
   have hrd := xM (P := Try.prog) (n := n) (L := m.n) (args := [iv ((bg + k) % len : Nat)]) (t' := t1 ((bg + k) % len)) (t'' := t2 ((bg + k) % len)) (m := m')
    (R := fun e m2 => e = none ∧ m'.n ≤ m2.n ∧ J (k + 1) m2) hob ha hb (hput _) hnt (fun k => hsa _ _ k _) (by
     have := round k _ hk (hL k m' (.loop 1 T nt #[p] a b none) w hLn) (by rw [M.n_put]; exact hLn)
     obtain ⟨e, m2, r1, r2, r3, r4, r5⟩ := this
     rw [M.n_put] at r4
     rw [M.obj_put, if_pos rfl] at r3
     exact ⟨e, m2, r1, r3, r2, r4, r5⟩)
   obtain ⟨e, m2, ho2, ⟨rfl, hn2, hw2⟩, hrun⟩ := hrd
   exact .inl ⟨_, hrun, hL _ _ _ hw2 (by omega), by rw [M.obj_put, if_pos rfl], by rw [M.n_put]; omega⟩)
  mE ⟨hE mE EE, obE, by omega⟩
 obtain ⟨m6, hw, hend⟩ := hwalk
 rcases hend with ⟨w6, ob6, hL6⟩ | hF
 rotate_left
 ·exact hF.elim
 refine gC (c := c) hc (g := 71) (u := []) (v := [.pointer (some ⟨W, 0, none⟩)]) ho (r := .tuple #[]) (m1 := m6) (st := 0) (by rw [hT, ← hmE]; exact hw) ob6 (by omega) ?_
 unfold fZ
 exact hq _ (hL _ _ _ w6 hL6)
end Go.Sx
namespace Go.Sx
open Go.Dx Go.Proofs
structure GT where
 ev : List EvR
 to : Nat → Nat
 fr : Nat → Nat → Nat
def wM (es : List (Int × Int)) (TH : Nat → Nat) (i : Nat) : List EvR := if yA es i = 0 then [] else [⟨TH i, 3, -1, 0, yA es i⟩]
def evA (es : List (Int × Int)) (ms : List Int) (TH CE VA : Nat → Nat) (i : Nat) : EvR := ⟨TH i, if qu es i then 2 else 1, CE i, VA i, mAt ms i⟩
def wH (es : List (Int × Int)) (ms : List Int) (TH CE VA : Nat → Nat) (s : GT) (i : Nat) : GT :=
 ⟨s.ev ++ wM es TH i ++ [evA es ms TH CE VA i], upN s.to i (s.ev ++ wM es TH i).length, if qu es i then upN s.fr (CE i) (upN (s.fr (CE i)) (VA i) (s.ev ++ wM es TH i).length) else s.fr⟩
def GB.σ1 (u : GB) (W T N n : Nat) (rb : Nat → Nat) (cells : List Value) (to : Nat → Nat) (fr : Nat → Nat → Nat) : List (Nat × List Value) :=
 (W, [.pointer (some ⟨u.PB, 0, none⟩)]) :: (T, (List.range n).flatMap fun j => [iv (to j)]) :: u.σ N rb cells (.slice (some ⟨T, 0, some 3⟩) n n) (fbV rb) N fr
theorem GB.sg_row {u : GB} {W T N n : Nat} {rb : Nat → Nat} {cells : List Value} {to : Nat → Nat} {fr : Nat → Nat → Nat} {c : Nat} (h : c < N) : (u.σ1 W T N n rb cells to fr)[7 + c]? = some (rb c, yk (fr c)) := by
 unfold GB.σ1 GB.σ
 rw [show 7 + c = c + 5 + 1 + 1 by omega, List.getElem?_cons_succ, List.getElem?_cons_succ, qab (by simp)]
 simp [List.getElem?_range h]
theorem Gv {rb : Nat → Nat} {fr : Nat → Nat → Nat} {c : Nat} {g : Nat → Nat} (N : Nat) (h : c < N) : ((List.range N).map fun c => (rb c, yk (fr c))).set c (rb c, yk g) = (List.range N).map fun c' => (rb c', yk (upN fr c g c')) := by
 refine List.ext_getElem (by simp) fun i h1 h2 => ?_
 simp only [List.getElem_set, List.getElem_map, List.getElem_range]
 by_cases e : c = i
 ·subst e; rw [if_pos rfl, qI]
 ·rw [if_neg e, wx _ _ (Ne.symm e)]
theorem GB.sg_set {u : GB} {W T N n : Nat} {rb : Nat → Nat} {cells : List Value} {to : Nat → Nat} {fr : Nat → Nat → Nat} {c : Nat} {g : Nat → Nat} (h : c < N) : (u.σ1 W T N n rb cells to fr).set (7 + c) (rb c, yk g) = u.σ1 W T N n rb cells to (upN fr c g) := by
 unfold GB.σ1 GB.σ
 rw [show 7 + c = c + 5 + 1 + 1 by omega, List.set_cons_succ, List.set_cons_succ, List.set_append_right _ _ (by simp)]
 simp only [List.length_cons, List.length_nil]
 rw [show c + 5 - (0 + 1 + 1 + 1 + 1 + 1) = c by omega, Gv N h]
theorem Gu (f : Nat → Nat) {v : Nat} (h : v ≤ 2) (x : Nat) : (yk f).set v (iv x) = yk (upN f v x) := by
 rcases (by omega : v = 0 ∨ v = 1 ∨ v = 2) with rfl | rfl | rfl <;> rfl
theorem Gt (f : Nat → Nat) {v : Nat} (h : v ≤ 2) : (yk f)[v]? = some (iv (f v)) := by
 rcases (by omega : v = 0 ∨ v = 1 ∨ v = 2) with rfl | rfl | rfl <;> rfl
section
variable {m0 m1 m : M} {u : GB} {W T N n : Nat} {rb : Nat → Nat} {ev rf co : Value} {to : Nat → Nat} {fr : Nat → Nat → Nat} {ex : List (Nat × List Value)}
theorem zf (h : St m0 m (u.σ1 W T N n rb (qd N ev rf co) to fr ++ ex)) : load1 m ⟨u.P2, 1, none⟩ = some ev ∧ load1 m ⟨u.P2, 2, none⟩ = some rf ∧ load1 m ⟨u.P2, 3, none⟩ = some co ∧ load1 m ⟨u.q7, 0, none⟩ = some (.slice (some ⟨u.FB, 0, some 3⟩) N N) ∧ load1 m ⟨u.P3, 0, none⟩ = some (.slice (some ⟨T, 0, some 3⟩) n n) ∧ load1 m ⟨u.q5, 0, none⟩ = some (.pointer (some ⟨u.PB, 0, none⟩)) ∧ load1 m ⟨W, 0, none⟩ = some (.pointer (some ⟨u.PB, 0, none⟩)) := by
 refine ⟨?_, ?_, ?_, ?_, ?_, ?_, ?_⟩
 ·rw [(h.get 5 rfl).2.2.load1]; rfl
 ·rw [(h.get 5 rfl).2.2.load1]; rfl
 ·rw [(h.get 5 rfl).2.2.load1]; rfl
 ·rw [(h.get 3 rfl).2.2.load1]; rfl
 ·rw [(h.get 4 rfl).2.2.load1]; rfl
 ·rw [(h.get 6 rfl).2.2.load1]; rfl
 ·rw [(h.get 0 rfl).2.2.load1]; rfl
theorem Gx (h : St m0 m (u.σ1 W T N n rb (qd N ev rf co) to fr ++ ex)) {i : Nat} (hi : i < n) : load1 m ⟨T, i, none⟩ = some (iv (to i)) := by
 rw [(h.get 1 rfl).2.2.load1]
 have := vG (e := 1) (f := fun j => [iv (to j)]) (o := 0) (fun _ => rfl) hi (by omega)
 rwa [Nat.add_zero, Nat.mul_one] at this
theorem Jx (h : St m0 m (u.σ1 W T N n rb (qd N ev rf co) to fr ++ ex)) {c : Nat} (hc : c < N) : load1 m ⟨u.FB, c, none⟩ = some (fbV rb c) := by
 rw [(h.get 2 rfl).2.2.load1]
 have := vG (e := 1) (f := fun c => [fbV rb c]) (o := 0) (fun _ => rfl) hc (by omega)
 rwa [Nat.add_zero, Nat.mul_one] at this
theorem sg_lfr (h : St m0 m (u.σ1 W T N n rb (qd N ev rf co) to fr ++ ex)) {c v : Nat} (hc : c < N) (hv : v ≤ 2) : load1 m ⟨rb c, v, none⟩ = some (iv (fr c v)) := by
 have hk : (u.σ1 W T N n rb (qd N ev rf co) to fr ++ ex)[7 + c]? = some (rb c, yk (fr c)) := by
  rw [qaa (by have := GB.sg_row (u := u) (W := W) (T := T) (n := n) (rb := rb) (cells := qd N ev rf co) (to := to) (fr := fr) hc; exact (DY.1 this).1)]
  exact GB.sg_row hc
 rw [(h.get _ hk).2.2.load1]
 exact Gt _ hv
end
def LR (m1 : M) (P2 P3 PB A5 A6 A7 c1 : Nat) (ed ec md : Value) (es : List (Int × Int)) (ms : List Int) (TH CE VA : Nat → Nat) : Prop := ∀ m, Go.Dx.Rest m1.n [P2, P3] m1 m → LF m PB A5 A6 A7 c1 ed ec md es ms TH CE VA
theorem Xl (nf : Nat) {m0 m1 m : M} {u : GB} {W T N : Nat} {rb : Nat → Nat} {ev : Value} {A5 A6 A7 c1 : Nat} {ed ec md : Value} {es : List (Int × Int)} {ms : List Int} {TH CE VA : Nat → Nat} {rows : List EvR} {to : Nat → Nat} {fr : Nat → Nat → Nat} (hl : es.length ≤ 16) (hLR : LR m1 u.P2 u.P3 u.PB A5 A6 A7 c1 ed ec md es ms TH CE VA) (hok : ∀ (i : Nat) e, es[i]? = some e → zm e = false)
  {i : Nat} (hi : i < es.length) (hml : ms.length = es.length) (hCE : CE i < N) (hN : N ≤ 16) (hVA : VA i ≤ 2) (h : GS m0 m1 m u.P2 u.P3 (u.σ1 W T N es.length rb (qd N ev (.slice none 0 0) (.slice none 0 0)) to fr) ev 5 qS rows) (hrl : rows.length ≤ 1000) {t : Tm} (t1 : Tm.get 1 t = .pointer (some ⟨c1, 0, none⟩)) (t2 : Tm.get 2 t = .pointer (some ⟨u.P2, 0, none⟩)) (t3 : Tm.get 3 t = .pointer (some ⟨u.P3, 0, none⟩)) (t5 : Tm.get 5 t = .pointer (some ⟨u.q5, 0, none⟩)) (t7 : Tm.get 7 t = .pointer (some ⟨u.q7, 0, none⟩))
  (t9 : Tm.get 9 t = iv i) {L : Nat} (hL : ∀ p ∈ u.σ1 W T N es.length rb (qd N ev (.slice none 0 0) (.slice none 0 0)) to fr, p.1 ≠ L) (hLe : blk ev ≠ some L) (hLm : L < m.n) (P : Option E → M → Prop)
  (hP : ∀ m2 ev', GS m0 m1 m2 u.P2 u.P3 (u.σ1 W T N es.length rb (qd N ev' (.slice none 0 0) (.slice none 0 0)) (upN to i rows.length) (if qu es i then upN fr (CE i) (upN (fr (CE i)) (VA i) rows.length) else fr)) ev' 5 qS (rows ++ [evA es ms TH CE VA i]) → m.n ≤ m2.n → m2.obj L = m.obj L → blk ev' ≠ some L → P none m2) :
  Rnd P (ZF (Go.Dx.ex Try.prog (nf + 2)) (kC none) (kK 3 (kC none) zL) (kC (some E.ret)) t m) := by
 obtain ⟨e, he⟩ : ∃ e, es[i]? = some e := ⟨_, DW hi⟩
 obtain ⟨md', hmd'⟩ : ∃ e, ms[i]? = some e := ⟨_, DW (by omega)⟩
 have hmi : mAt ms i = md' := vc hmd'
 have hfe : qu es i = we e.1 := by unfold qu; rw [wt he]
 have hbk := ku (hok i e he)
 have hLT : T ≠ L := hL _ (DX (i := 1) rfl)
 have hLP2 : u.P2 ≠ L := hL _ (DX (i := 5) rfl)
 obtain ⟨d1, d2, d3, d4, d5, d6, d7⟩ := zf (ex := []) (by rw [List.append_nil]; exact h.st)
 have hlens := h.gr.lens
 have xT := zV (e := 1) (c := 3) T es.length i hi
 rw [Nat.mul_one] at xT
 obtain ⟨q, hq⟩ := qaj (rows.length)
 rw [← hq] at hlens hP
 have hTl : ((List.range es.length).flatMap fun j => [iv (to j)]).length = es.length * 1 := zj fun _ => rfl
 obtain ⟨m2, s1, s2, s3, s4⟩ := h.store 1 rfl (o := i) (v := iv q) (by rw [hTl]; omega) rfl
 have hset : ((List.range es.length).flatMap fun j => [iv (to j)]).set i (iv q) = (List.range es.length).flatMap fun j => [iv ((upN to i q j : Nat) : Int)] := by
  have := xy (e := 1) (o := 0) (j := i) (v := iv q) (f := fun j => [iv (to j)]) (g := fun j => [iv ((upN to i q j : Nat) : Int)]) (fun k => rfl) (by omega) (fun k hk => by rw [wx _ _ hk]) (by rw [qI]; rfl) es.length hi
  rwa [Nat.mul_one, Nat.add_zero] at this
 have e2 : (u.σ1 W T N es.length rb (qd N ev (.slice none 0 0) (.slice none 0 0)) to fr).set 1 (T, ((List.range es.length).flatMap fun j => [iv (to j)]).set i (iv q)) = u.σ1 W T N es.length rb (qd N ev (.slice none 0 0) (.slice none 0 0)) (upN to i q) fr := by rw [hset]; rfl
 rw [e2] at s2
 obtain ⟨d21, -, -, -, -, d26, -⟩ := zf (ex := []) (by rw [List.append_nil]; exact s2.st)
 have lf2 := hLR m2 s2.rest
 have hS2 : Sees m2 m2 := s2.st.sees.self
 obtain ⟨v3, m3', g1, g2, rfl⟩ := yE nf u.PB ed es e i he hbk.1 hbk.2 (qi m2) (by rw [qw, ky]; exact DZ _) (by rw [Vi]; exact lf2.p0) (lf2.hed.sees (qA hS2))
 have g3 : m3'.log = [] := by rw [g2.log, qE]
 obtain ⟨m3, hm3⟩ := qaj (behind m2 m3')
 have E3 : Ext m2 m3 := by rw [hm3]; exact g2.behind
 have h3 := s2.step E3
 have lf3 := hLR m3 h3.rest
 obtain ⟨d31, -, -, -, -, d36, -⟩ := zf (ex := []) (by rw [List.append_nil]; exact h3.st)
 have ⟨u1, u2⟩ := Rd.at1 (g := fun (x : Int) => iv x) lf3.hmd hmd'
 have u2' := u2 m3 h3.st.sees.self
 have x6 := zV (e := 1) (c := 3) A6 es.length i hi
 have x7 := zV (e := 1) (c := 3) A7 es.length i hi
 have x5 := zV (e := 1) (c := 3) A5 es.length i hi
 rw [Nat.mul_one] at x5 x6 x7
 have y5 := lf2.a5 i hi
 have y6 := lf3.a6 i hi
 have y7 := lf3.a7 i hi
 obtain ⟨V, hV⟩ := qaj (VA i)
 obtain ⟨C, hC⟩ := qaj (CE i)
 obtain ⟨H, hH⟩ := qaj (TH i)
 have cvv := zu V (by omega)
 have hev : evA es ms TH CE VA i = ⟨H, if we e.1 then 2 else 1, C, V, md'⟩ := by unfold evA; rw [hH, hC, hV, hmi, hfe]
 rw [hev, ← hV, ← hC, hfe] at hP
 rw [← hV] at y7
 rw [← hC] at y6
 rw [← hH] at y5
 have hCN : C < N := by omega
 have hV2 : V ≤ 2 := by omega
 obtain ⟨M4, hM4⟩ := qaj (Dx.newRow m3 (qS ⟨H, if we e.1 then 2 else 1, C, V, md'⟩))
 have E4 : Ext m3 M4 := by rw [hM4]; exact Ext.row _ _
 have hkV : zF (we e.1) = iv (if we e.1 then 2 else 1) := by cases we e.1 <;> rfl
 obtain ⟨ev', m5', p1, p2, p3, p4, p5, p6⟩ := h3.appAny (by omega) kv xw E4 (X := m3.n) (sp := some 11) (by rw [hM4]; exact (Arr.row m3 _).loads (by simp [kv])) (bytes := 40) (by rw [← hq]; unfold most; omega) (by rw [← hq]; omega)
 obtain ⟨m5, hm5⟩ := qaj (behind M4 m5')
 rw [← hm5] at p3 p4 p5
 obtain ⟨m6', r1, r2, r3, r4, r5⟩ := p3.storeAny 5 rfl (o := 1) (v := ev') (by simp [qd]) p3.gr.okC
 obtain ⟨m6, hm6⟩ := qaj (behind m5 m6')
 rw [← hm6] at r3 r4 r5
 have e6 : (u.σ1 W T N es.length rb (qd N ev (.slice none 0 0) (.slice none 0 0)) (upN to i q) fr).set 5 (u.P2, (qd N ev (.slice none 0 0) (.slice none 0 0)).set 1 ev') = u.σ1 W T N es.length rb (qd N ev' (.slice none 0 0) (.slice none 0 0)) (upN to i q) fr := rfl
 rw [e6] at r3
 have hM4' : Dx.newRow m3 [iv H, iv (if we e.1 then 2 else 1), iv C, .int .u64 V, iv md'] = M4 := hM4.symm
 have hne : ∀ B, blk ev = some B → ¬ u.P2 = B := fun B hB hc => (s2.sep B hB).2.2 _ (DX (i := 5) rfl) hc
 have P26 : ∃ d, d = m6 := ⟨_, rfl⟩
 rw [hkV] at g1
 simp [t1, t2, t3, t5, t9, d5, d1, hlens, xT, s1, d21, d26, lf2.p5, x5, y5, g1, g3, ← hm3, d36, lf3.p6, lf3.p7, lf3.c1m, x6, x7, y6, y7, u1, u2', cvv, hM4', p1, ← hm5, r1, ← hm6, -XX]
 generalize hT0 : Tm.set 124 _ _ = T0
 have k2 : Tm.get 2 T0 = .pointer (some ⟨u.P2, 0, none⟩) := by rw [← hT0]; simp [t2]
 have k3 : Tm.get 3 T0 = .pointer (some ⟨u.P3, 0, none⟩) := by rw [← hT0]; simp [t3]
 have k5 : Tm.get 5 T0 = .pointer (some ⟨u.q5, 0, none⟩) := by rw [← hT0]; simp [t5]
 have k7 : Tm.get 7 T0 = .pointer (some ⟨u.q7, 0, none⟩) := by rw [← hT0]; simp [t7]
 have k9 : Tm.get 9 T0 = iv i := by rw [← hT0]; simp [t9]
 clear hT0
 have lf6 := hLR m6 r3.rest
 obtain ⟨d61, -, -, -, -, d66, -⟩ := zf (ex := []) (by rw [List.append_nil]; exact r3.st)
 obtain ⟨v7, m7, f1, f2, rfl⟩ := yE nf u.PB ed es e i he hbk.1 hbk.2 m6 r3.st.sees.base lf6.p0 lf6.hed
 have h7 := r3.step f2
 have lf7 := hLR m7 h7.rest
 have hst7 := h7.st
 rw [← List.append_nil (u.σ1 _ _ _ _ _ _ _ _)] at hst7
 obtain ⟨-, -, -, d74, d75, d76, -⟩ := zf hst7
 have d7T := Gx hst7 hi
 rw [qI] at d7T
 have d7F := Jx hst7 hCN
 have z6 := lf7.a6 i hi
 have z7 := lf7.a7 i hi
 rw [← hV] at z7
 rw [← hC] at z6
 have xF := zV (e := 1) (c := 3) u.FB N C hCN
 have xV := zV (e := 1) (c := 3) (rb C) 3 V (by omega)
 rw [Nat.mul_one] at xF xV
 have n6 : m.n ≤ m6.n := by have := E3.n; have := E4.n; omega
 have o6 : m6.obj L = m.obj L := by
  rw [r5 L (Ne.symm hLP2), p5 L (by have := E3.n; omega) hLe, E3.obj L (by omega), s4 L (Ne.symm hLT)]
 have b6 : blk ev' ≠ some L := fun hc => by have := p6 L hc; have := E3.n; have := E4.n; omega
 have o7 : m7.obj L = m.obj L := (f2.obj L (by omega)).trans o6
 simp [k5, k9, d66, f1, je]
 cases hf : we e.1 with
 | false =>
  simp only [hf] at hP h7
  simp
  exact kE (hP _ _ h7 (by have := f2.n; omega) o7 b6)
 | true =>
  simp only [hf] at hP h7
  have hrow : (u.σ1 W T N es.length rb (qd N ev' (.slice none 0 0) (.slice none 0 0)) (upN to i q) fr)[7 + C]? = some (rb C, yk (fr C)) := GB.sg_row hCN
  have hrbL : rb C ≠ L := hL _ (DX (i := 7 + C) (GB.sg_row hCN))
  obtain ⟨m8', w1, w2, w3, w4, w5⟩ := h7.storeAny (7 + C) hrow (o := V) (v := iv q) (by show V < 3; omega) rfl
  obtain ⟨m8, hm8⟩ := qaj (behind m7 m8')
  rw [← hm8] at w3 w4 w5
  rw [Gu _ hV2, GB.sg_set hCN] at w3
  have hfb : fbV rb C = .slice (some ⟨rb C, 0, some 3⟩) 3 3 := rfl
  rw [hfb] at d7F
  have xV' : wX 1 (.slice (some ⟨rb C, 0, some 3⟩) 3 3) (iv V) = some (.pointer (some ⟨rb C, V, none⟩)) := xV
  simp [k3, k5, k7, k9, d74, d75, d76, d7T, d7F, lf7.p6, lf7.p7, x6, x7, z6, z7, xF, xV', xT, w1, ← hm8]
  exact kE (hP _ _ w3 (by have := f2.n; omega) (by rw [w5 L (Ne.symm hrbL)]; exact o7) b6)
end Go.Sx
namespace Go.Sx
open Go.Dx Go.Proofs
def GB.keys (u : GB) (W T N : Nat) (rb : Nat → Nat) : List Nat := [W, T, u.FB, u.q7, u.P3, u.P2, u.q5] ++ (List.range N).map rb
theorem GB.sg_keys {u : GB} {W T N n : Nat} {rb : Nat → Nat} {cells : List Value} {to : Nat → Nat} {fr : Nat → Nat → Nat} : (u.σ1 W T N n rb cells to fr).map (·.1) = u.keys W T N rb := by
 unfold GB.σ1 GB.σ GB.keys; simp
def GJ (m0 m1 m : M) (u : GB) (W T N n : Nat) (rb : Nat → Nat) (s : GT) (L : Nat) : Prop := ∃ ev, GS m0 m1 m u.P2 u.P3 (u.σ1 W T N n rb (qd N ev (.slice none 0 0) (.slice none 0 0)) s.to s.fr) ev 5 qS s.ev ∧ blk ev ≠ some L
theorem Vb (nf : Nat) {m0 m1 m : M} {u : GB} {W T N : Nat} {rb : Nat → Nat} {A5 A6 A7 c1 : Nat} {ed ec md : Value} {es : List (Int × Int)} {ms : List Int} {TH CE VA : Nat → Nat} {s : GT} (hl : es.length ≤ 16) (hLR : LR m1 u.P2 u.P3 u.PB A5 A6 A7 c1 ed ec md es ms TH CE VA) (hok : ∀ (i : Nat) e, es[i]? = some e → zm e = false)
  {i : Nat} (hi : i < es.length) (hml : ms.length = es.length) (hCE : CE i < N) (hN : N ≤ 16) (hVA : VA i ≤ 2) {L : Nat} (h : GJ m0 m1 m u W T N es.length rb s L) (hrl : s.ev.length ≤ 900) {T0 : Tm} (t1 : Tm.get 1 T0 = .pointer (some ⟨c1, 0, none⟩)) (t2 : Tm.get 2 T0 = .pointer (some ⟨u.P2, 0, none⟩)) (t3 : Tm.get 3 T0 = .pointer (some ⟨u.P3, 0, none⟩)) (t5 : Tm.get 5 T0 = .pointer (some ⟨u.q5, 0, none⟩)) (t7 : Tm.get 7 T0 = .pointer (some ⟨u.q7, 0, none⟩))
  (hL : ∀ b ∈ u.keys W T N rb, b ≠ L) (hLm : L < m.n) :
  Rnd (fun e m2 => e = none ∧ m2.obj L = m.obj L ∧ m.n ≤ m2.n ∧ GJ m0 m1 m2 u W T N es.length rb (wH es ms TH CE VA s i) L) (WS (Go.Dx.ex Try.prog (nf + 2)) (kC none) zL (kC (some E.ret)) (Tm.set 9 (iv i) (Tm.set 63 (iv i) T0)) m) := by
 suffices H : ∀ P : Option E → M → Prop, (∀ m2, m2.obj L = m.obj L → m.n ≤ m2.n → GJ m0 m1 m2 u W T N es.length rb (wH es ms TH CE VA s i) L → P none m2) → Rnd P (WS (Go.Dx.ex Try.prog (nf + 2)) (kC none) zL (kC (some E.ret)) (Tm.set 9 (iv i) (Tm.set 63 (iv i) T0)) m) from H _ fun m2 a b c => ⟨rfl, a, b, c⟩
 intro P hP
 obtain ⟨ev, h, hLe⟩ := h
 have hL' : ∀ {cells to fr}, ∀ p ∈ u.σ1 W T N es.length rb cells to fr, p.1 ≠ L := fun p hp => hL _ (by rw [← GB.sg_keys]; exact List.mem_map.2 ⟨p, hp, rfl⟩)
 obtain ⟨d1, -, -, -, -, d6, -⟩ := zf (ex := []) (by rw [List.append_nil]; exact h.st)
 have lf := hLR m h.rest
 have hLP2 : u.P2 ≠ L := hL _ (by unfold GB.keys; simp)
 obtain ⟨v2, m2, g1, g2, rfl⟩ := KP nf u.PB ed es i hi (by omega) m h.st.sees.base lf.lP lf.p0 lf.hed
 obtain ⟨f, hf⟩ := qaj (yA es i)
 have hf' : (eAt es (ahN es.length i)).2 = f := by rw [hf]; rfl
 rw [hf'] at g1
 have h2 := h.step g2
 have o2 : m2.obj L = m.obj L := g2.obj L hLm
 unfold WS
 by_cases hz : f = 0
 ·have hfe : wM es TH i = [] := by unfold wM; rw [← hf, if_pos hz]
  rw [hz] at g1
  simp [t5, d6, g1, -Qe]
  refine Xl nf hl hLR hok hi hml hCE hN hVA h2 (by omega) ?_ ?_ ?_ ?_ ?_ ?_ hL' hLe (by have := g2.n; omega) P (fun m3 ev' k1 k2 k3 k4 => hP m3 (k3.trans o2) (by have := g2.n; omega) ⟨ev', ?_, k4⟩)
  ·simp [t1]
  ·simp [t2]
  ·simp [t3]
  ·simp [t5]
  ·simp [t7]
  ·simp
  ·unfold wH; rw [hfe, List.append_nil]; exact k1
 ·have hfe : wM es TH i = [⟨TH i, 3, -1, 0, f⟩] := by unfold wM; rw [← hf, if_neg hz]
  obtain ⟨d21, -, -, -, -, d26, -⟩ := zf (ex := []) (by rw [List.append_nil]; exact h2.st)
  have lf2 := hLR m2 h2.rest
  have x5 := zV (e := 1) (c := 3) A5 es.length i hi
  rw [Nat.mul_one] at x5
  obtain ⟨H, hH⟩ := qaj (TH i)
  have y5 := lf2.a5 i hi
  rw [← hH] at y5 hfe
  obtain ⟨M4, hM4⟩ := qaj (Dx.newRow m2 (qS ⟨H, 3, -1, 0, f⟩))
  have E4 : Ext m2 M4 := by rw [hM4]; exact Ext.row _ _
  obtain ⟨ev', m5', p1, p2, p3, p4, p5, p6⟩ := h2.appAny (by omega) kv xw E4 (X := m2.n) (sp := some 11) (by rw [hM4]; exact (Arr.row m2 _).loads (by simp [kv])) (bytes := 40) (by unfold most; omega) (by omega)
  obtain ⟨m5, hm5⟩ := qaj (behind M4 m5')
  rw [← hm5] at p3 p4 p5
  obtain ⟨m6', r1, r2, r3, r4, r5⟩ := p3.storeAny 5 rfl (o := 1) (v := ev') (by simp [qd]) p3.gr.okC
  obtain ⟨m6, hm6⟩ := qaj (behind m5 m6')
  rw [← hm6] at r3 r4 r5
  have e6 : (u.σ1 W T N es.length rb (qd N ev (.slice none 0 0) (.slice none 0 0)) s.to s.fr).set 5 (u.P2, (qd N ev (.slice none 0 0) (.slice none 0 0)).set 1 ev') = u.σ1 W T N es.length rb (qd N ev' (.slice none 0 0) (.slice none 0 0)) s.to s.fr := rfl
  rw [e6] at r3
  have hM4' : Dx.newRow m2 [iv H, iv 3, iv (-1), .int .u64 0, iv f] = M4 := hM4.symm
  have n6 : m.n ≤ m6.n := by have := g2.n; have := E4.n; omega
  have o6 : m6.obj L = m.obj L := by
   rw [r5 L (Ne.symm hLP2), p5 L (by have := g2.n; omega) hLe, o2]
  have b6 : blk ev' ≠ some L := fun hc => by have := p6 L hc; have := g2.n; have := E4.n; omega
  simp [t2, t5, d6, g1, hz, d21, d26, lf2.p5, x5, y5, hM4', p1, ← hm5, r1, ← hm6, -Qe]
  refine Xl nf hl hLR hok hi hml hCE hN hVA r3 (by simp; omega) ?_ ?_ ?_ ?_ ?_ ?_ hL' b6 (by omega) P (fun m3 ev3 k1 k2 k3 k4 => hP m3 (k3.trans o6) (by omega) ⟨ev3, ?_, k4⟩)
  ·simp [t1]
  ·simp [t2]
  ·simp [t3]
  ·simp [t5]
  ·simp [t7]
  ·simp
  ·unfold wH; rw [hfe]; exact k1
end Go.Sx
namespace Go.Sx
open Go.Dx Go.Proofs
def LX (m1 : M) (P2 P3 PB A8 bg N : Nat) (WR : Nat → Nat) : Prop := ∀ m, Go.Dx.Rest m1.n [P2, P3] m1 m → load1 m ⟨PB, 2, none⟩ = some (iv bg) ∧ load1 m ⟨PB, 4, none⟩ = some (iv N) ∧ load1 m ⟨PB, 8, none⟩ = some (.slice (some ⟨A8, 0, some 3⟩) N N) ∧ ∀ x, x < N → load1 m ⟨A8, x, none⟩ = some (iv (WR x))
theorem Qj (es : List (Int × Int)) (ms : List Int) (TH CE VA : Nat → Nat) : ∀ (l : List Nat) (s : GT), (l.foldl (wH es ms TH CE VA) s).ev.length ≤ s.ev.length + 2 * l.length
 | [], s => by simp
 | i :: l, s => by
  have := Qj es ms TH CE VA l (wH es ms TH CE VA s i)
  have h1 : (wM es TH i).length ≤ 1 := by unfold wM; split <;> simp
  have h2 : (wH es ms TH CE VA s i).ev.length ≤ s.ev.length + 2 := by unfold wH; simp only [qa6, List.length_singleton]; omega
  rw [List.foldl_cons, List.length_cons]; omega
theorem GJ.step {m0 m1 m m' : M} {u : GB} {W T N n : Nat} {rb : Nat → Nat} {s : GT} {L : Nat} (h : GJ m0 m1 m u W T N n rb s L) (e : Ext m m') : GJ m0 m1 m' u W T N n rb s L := let ⟨ev, a, b⟩ := h; ⟨ev, a.step e, b⟩
theorem Fv (nf : Nat) {m0 m1 m : M} {u : GB} {W T N : Nat} {rb : Nat → Nat} {ev : Value} {A5 A6 A7 A8 c1 bg : Nat} {ed ec md : Value} {es : List (Int × Int)} {ms : List Int} {TH CE VA WR : Nat → Nat} {s : GT} (hl : es.length ≤ 16) (hLR : LR m1 u.P2 u.P3 u.PB A5 A6 A7 c1 ed ec md es ms TH CE VA) (hLX : LX m1 u.P2 u.P3 u.PB A8 bg N WR) (hbg : bg < es.length) (hok : ∀ (i : Nat) e, es[i]? = some e → zm e = false)
  (hml : ms.length = es.length) (hCE : ∀ i, i < es.length → CE i < N) (hN : N ≤ 16) (hVA : ∀ i, i < es.length → VA i ≤ 2) (h : GS m0 m1 m u.P2 u.P3 (u.σ1 W T N es.length rb (qd N ev (.slice none 0 0) (.slice none 0 0)) s.to s.fr) ev 5 qS s.ev) (hrl : s.ev.length ≤ 16) {t : Tm} (t1 : Tm.get 1 t = .pointer (some ⟨c1, 0, none⟩)) (t2 : Tm.get 2 t = .pointer (some ⟨u.P2, 0, none⟩)) (t3 : Tm.get 3 t = .pointer (some ⟨u.P3, 0, none⟩)) (t5 : Tm.get 5 t = .pointer (some ⟨u.q5, 0, none⟩)) (t7 : Tm.get 7 t = .pointer (some ⟨u.q7, 0, none⟩))
  (t62 : Tm.get 62 t = .func (.func 71) #[] #[.pointer (some ⟨W, 0, none⟩)]) (Q : Option Out → Prop) (kn kr : K) (ke : Nat → K)
  (hq : ∀ m' ev', GS m0 m1 m' u.P2 u.P3 (u.σ1 W T N es.length rb (qd N ev' (.slice none 0 0) (.slice none 0 0)) ((qt es bg).foldl (wH es ms TH CE VA) s).to ((qt es bg).foldl (wH es ms TH CE VA) s).fr) ev' 5 qS ((qt es bg).foldl (wH es ms TH CE VA) s).ev → Q (kn t m')) :
  Q (ZG (Go.Dx.ex Try.prog (nf + 4)) kn ke kr t m) := by
 have hkeys : ∀ b ∈ u.keys W T N rb, m0.n ≤ b ∧ b < m.n := fun b hb => by
  rw [← GB.sg_keys (u := u) (n := es.length) (cells := qd N ev (.slice none 0 0) (.slice none 0 0)) (to := s.to) (fr := s.fr)] at hb
  obtain ⟨p, hp, rfl⟩ := List.mem_map.1 hb
  exact ⟨(h.st.arr p hp).1, (h.st.arr p hp).2.1⟩
 have hLk : ∀ b ∈ u.keys W T N rb, b ≠ m.n := fun b hb e => by have := (hkeys b hb).2; omega
 have hm1 : m1.n ≤ m.n := h.rest.n
 obtain ⟨TT, hTT⟩ := qaj (zM [7, 5, 3, 2, 1] t)
 have kp : ∀ i, i ∈ [7, 5, 3, 2, 1] → Tm.get i TT = Tm.get i t := fun i hi => by
  rw [hTT]; exact jR i (by simp at hi; omega) t _ (by simp) hi
 let S : Nat → GT := fun k => ((qt es bg).take k).foldl (wH es ms TH CE VA) s
 have hol : (qt es bg).length = es.length := by unfold qt; simp
 have hSb : ∀ k, (S k).ev.length ≤ 48 := fun k => by
  have := Qj es ms TH CE VA ((qt es bg).take k) s
  rw [List.length_take, hol] at this
  have h2 : min k es.length ≤ 16 := by omega
  simp only [S]
  omega
 have ha := VO
 have hb := VU
 refine QK (c := ZG) rfl ha hb (by omega) (nf + 2) (W := W) (PB := u.PB) (bg := bg) (len := es.length) (by omega) (by omega) hbg t62 hTT.symm (fun i => Tm.set 63 (iv i) TT) (fun i => Tm.set 9 (iv i) (Tm.set 63 (iv i) TT)) (fun i => rfl) (fun i x k m => by unfold Bf; simp)
  (fun k m' => GJ m0 m1 m' u W T N es.length rb (S k) m.n) (fun k m' _ hJ => ?_) (fun m' e => ?_) (fun k m' O hJ hn => ?_) (fun k m' hk hJ hn => ?_) (fun m' hJ => ?_)
 ·obtain ⟨ev', g, -⟩ := hJ
  obtain ⟨-, -, -, -, -, -, d7⟩ := zf (ex := []) (by rw [List.append_nil]; exact g.st)
  have lf := hLR m' g.rest
  exact ⟨d7, ⟨ed, lf.p0, lf.hed.len⟩, (hLX m' g.rest).1⟩
 ·refine ⟨ev, ?_, fun hc => ?_⟩
  ·have : S 0 = s := by simp [S]
   rw [this]; exact h.step e
  ·have := (h.sep _ hc).2.1; omega
 ·obtain ⟨ev', g, b⟩ := hJ
  exact ⟨ev', g.putL (fun p hp => hLk _ (by rw [← GB.sg_keys]; exact List.mem_map.2 ⟨p, hp, rfl⟩)) hm1 b O, b⟩
 ·have hil : (bg + k) % es.length < es.length := Nat.mod_lt _ (by omega)
  have hki : (qt es bg)[k]? = some ((bg + k) % es.length) := by
   unfold qt; rw [qac, List.getElem?_range hk]; rfl
  have hSk : S (k + 1) = wH es ms TH CE VA (S k) ((bg + k) % es.length) := by
   obtain ⟨h, e⟩ := DY.1 hki
   simp only [S]
   rw [List.take_succ_eq_append_getElem h, List.foldl_append, e]; rfl
  show Rnd (fun e m2 => e = none ∧ m2.obj m.n = m'.obj m.n ∧ m'.n ≤ m2.n ∧ GJ m0 m1 m2 u W T N es.length rb (S (k + 1)) m.n) _
  rw [hSk]
  exact Vb nf hl hLR hok hil hml (hCE _ hil) hN (hVA _ hil) hJ (by have := hSb k; omega) ((kp 1 (by simp)).trans t1) ((kp 2 (by simp)).trans t2) ((kp 3 (by simp)).trans t3) ((kp 5 (by simp)).trans t5) ((kp 7 (by simp)).trans t7) hLk hn
 ·obtain ⟨ev', g, -⟩ := hJ
  have hSn : S es.length = (qt es bg).foldl (wH es ms TH CE VA) s := by simp only [S]; rw [List.take_of_length_le (by omega)]
  rw [hSn] at g
  exact hq m' ev' g
end Go.Sx
namespace Go.Dx
@[simp] theorem Bs (m : M) (a b : Value) : ko 2 1 (rep 1 [.int .i64 0, .int .i64 0]) [(0, 2, .agg ⟨[a, b]⟩)] m = some (.slice (some ⟨m.n, 0, some 5⟩) 1 1, newRow m [a, b]) := _root_.id rfl
end Go.Dx
namespace Go.Sx
open Go.Dx Go.Proofs
def jk (es : List (Int × Int)) (CE VA : Nat → Nat) (fr : Nat → Nat → Nat) (to : Nat → Nat) (rows : List (Nat × Nat)) (i : Nat) : List (Nat × Nat) := if qu es i then rows else rows ++ [(fr (CE i) (VA i), to i)]
def GJ2 (m0 m1 m : M) (u : GB) (W T N n : Nat) (rb : Nat → Nat) (evd : Value) (ex : List (Nat × List Value)) (fr : Nat → Nat → Nat) (to : Nat → Nat) (rows : List (Nat × Nat)) (L : Nat) : Prop := ∃ rf, GS m0 m1 m u.P2 u.P3 (u.σ1 W T N n rb (qd N evd rf (.slice none 0 0)) to fr ++ ex) rf 2 wk rows ∧ blk rf ≠ some L
theorem Vc (nf : Nat) {m0 m1 m : M} {u : GB} {W T N : Nat} {rb : Nat → Nat} {evd : Value} {ex : List (Nat × List Value)} {fr : Nat → Nat → Nat} {to : Nat → Nat} {A5 A6 A7 c1 : Nat} {ed ec md : Value} {es : List (Int × Int)} {ms : List Int} {TH CE VA : Nat → Nat} {rows : List (Nat × Nat)} (hl : es.length ≤ 16) (hLR : LR m1 u.P2 u.P3 u.PB A5 A6 A7 c1 ed ec md es ms TH CE VA) (hok : ∀ (i : Nat) e, es[i]? = some e → zm e = false)
  {i : Nat} (hi : i < es.length) (hCE : CE i < N) (hN : N ≤ 16) (hVA : VA i ≤ 2) {L : Nat} (h : GJ2 m0 m1 m u W T N es.length rb evd ex fr to rows L) (hrl : rows.length ≤ 900) {T0 : Tm} (t2 : Tm.get 2 T0 = .pointer (some ⟨u.P2, 0, none⟩)) (t3 : Tm.get 3 T0 = .pointer (some ⟨u.P3, 0, none⟩)) (t5 : Tm.get 5 T0 = .pointer (some ⟨u.q5, 0, none⟩)) (t7 : Tm.get 7 T0 = .pointer (some ⟨u.q7, 0, none⟩))
  (hL : u.P2 ≠ L) (hLm : L < m.n) :
  Rnd (fun e m2 => e = none ∧ m2.obj L = m.obj L ∧ m.n ≤ m2.n ∧ GJ2 m0 m1 m2 u W T N es.length rb evd ex fr to (jk es CE VA fr to rows i) L) (WT (Go.Dx.ex Try.prog (nf + 2)) (kC none) zL (kC (some E.ret)) (Tm.set 11 (iv i) (Tm.set 153 (iv i) T0)) m) := by
 suffices H : ∀ P : Option E → M → Prop, (∀ m2, m2.obj L = m.obj L → m.n ≤ m2.n → GJ2 m0 m1 m2 u W T N es.length rb evd ex fr to (jk es CE VA fr to rows i) L → P none m2) → Rnd P (WT (Go.Dx.ex Try.prog (nf + 2)) (kC none) zL (kC (some E.ret)) (Tm.set 11 (iv i) (Tm.set 153 (iv i) T0)) m) from H _ fun m2 a b c => ⟨rfl, a, b, c⟩
 intro P hP
 obtain ⟨e, he⟩ : ∃ e, es[i]? = some e := ⟨_, DW hi⟩
 have hfe : qu es i = we e.1 := by unfold qu; rw [wt he]
 have hbk := ku (hok i e he)
 obtain ⟨rf, h, hLe⟩ := h
 obtain ⟨-, -, -, -, -, d6, -⟩ := zf h.st
 have lf := hLR m h.rest
 obtain ⟨v2, m2, g1, g2, rfl⟩ := yE nf u.PB ed es e i he hbk.1 hbk.2 m h.st.sees.base lf.p0 lf.hed
 have h2 := h.step g2
 have o2 : m2.obj L = m.obj L := g2.obj L hLm
 unfold WT
 cases hf : we e.1 with
 | true =>
  have hk : zF true = iv 2 := rfl
  rw [hf, hk] at g1
  simp [t5, d6, g1]
  refine kE (hP _ o2 g2.n ⟨rf, ?_, hLe⟩)
  unfold jk; rw [hfe, hf]; exact h2
 | false =>
  have hk : zF false = iv 1 := rfl
  rw [hf, hk] at g1
  obtain ⟨-, d22, -, d24, d25, d26, -⟩ := zf h2.st
  have lf2 := hLR m2 h2.rest
  have x6 := zV (e := 1) (c := 3) A6 es.length i hi
  have x7 := zV (e := 1) (c := 3) A7 es.length i hi
  have xT := zV (e := 1) (c := 3) T es.length i hi
  have y6 := lf2.a6 i hi
  have y7 := lf2.a7 i hi
  have dT := Gx h2.st hi
  have dF := Jx h2.st hCE
  have dR := sg_lfr h2.st hCE hVA
  have xF := zV (e := 1) (c := 3) u.FB N (CE i) hCE
  have xV : wX 1 (fbV rb (CE i)) (iv (VA i)) = some (.pointer (some ⟨rb (CE i), VA i * 1, none⟩)) := zV (e := 1) (c := 3) (rb (CE i)) 3 (VA i) (by omega)
  rw [Nat.mul_one] at x6 x7 xT xF xV
  obtain ⟨V, hV⟩ := qaj (VA i)
  obtain ⟨C, hC⟩ := qaj (CE i)
  rw [← hV] at y7 dR xV
  rw [← hC] at y6 dF dR xF xV
  obtain ⟨a, ha⟩ := qaj (fr C V)
  obtain ⟨b, hb⟩ := qaj (to i)
  obtain ⟨FV, hFV⟩ := qaj (fbV rb C)
  rw [← ha] at dR
  rw [← hb] at dT
  rw [← hFV] at dF xV
  have hps : jk es CE VA fr to rows i = rows ++ [(a, b)] := by unfold jk; rw [hfe, hf, ha, hb, hC, hV]; rfl
  rw [hps] at hP
  obtain ⟨M4, hM4⟩ := qaj (Dx.newRow m2 (wk (a, b)))
  have E4 : Ext m2 M4 := by rw [hM4]; exact Ext.row _ _
  obtain ⟨ev', m5', p1, p2, p3, p4, p5, p6⟩ := h2.appAny (by omega) zy dt E4 (X := m2.n) (sp := some 5) (by rw [hM4]; exact (Arr.row m2 _).loads (by simp [zy])) (bytes := 16) (by unfold most; omega) (by omega)
  obtain ⟨m5, hm5⟩ := qaj (behind M4 m5')
  rw [← hm5] at p3 p4 p5
  obtain ⟨m6', r1, r2, r3, r4, r5⟩ := p3.storeAny 5 rfl (o := 2) (v := ev') (by simp [qd]) p3.gr.okC
  obtain ⟨m6, hm6⟩ := qaj (behind m5 m6')
  rw [← hm6] at r3 r4 r5
  have e6 : (u.σ1 W T N es.length rb (qd N evd rf (.slice none 0 0)) to fr ++ ex).set 5 (u.P2, (qd N evd rf (.slice none 0 0)).set 2 ev') = u.σ1 W T N es.length rb (qd N evd ev' (.slice none 0 0)) to fr ++ ex := rfl
  rw [e6] at r3
  have hM4' : Dx.newRow m2 [iv a, iv b] = M4 := hM4.symm
  have n6 : m.n ≤ m6.n := by have := g2.n; have := E4.n; omega
  have o6 : m6.obj L = m.obj L := by
   rw [r5 L (Ne.symm hL), p5 L (by have := g2.n; omega) hLe, o2]
  have b6 : blk ev' ≠ some L := fun hc => by have := p6 L hc; have := g2.n; have := E4.n; omega
  simp [t2, t3, t5, t7, d6, g1, d22, d24, d25, d26, lf2.p6, lf2.p7, x6, x7, xT, y6, y7, xF, dF, xV, dR, dT, hM4', p1, ← hm5, r1, ← hm6]
  exact kE (hP _ o6 n6 ⟨ev', r3, b6⟩)
theorem gu (es : List (Int × Int)) (CE VA : Nat → Nat) (fr : Nat → Nat → Nat) (to : Nat → Nat) : ∀ (l : List Nat) (s : List (Nat × Nat)), (l.foldl (jk es CE VA fr to) s).length ≤ s.length + l.length
 | [], s => by simp
 | i :: l, s => by
  have := gu es CE VA fr to l (jk es CE VA fr to s i)
  have h2 : (jk es CE VA fr to s i).length ≤ s.length + 1 := by unfold jk; split <;> simp
  rw [List.foldl_cons, List.length_cons]; omega
theorem Fx (nf : Nat) {m0 m1 m : M} {u : GB} {W T N : Nat} {rb : Nat → Nat} {evd : Value} {ex : List (Nat × List Value)} {fr : Nat → Nat → Nat} {to : Nat → Nat} {A5 A6 A7 A8 c1 bg : Nat} {ed ec md : Value} {es : List (Int × Int)} {ms : List Int} {TH CE VA WR : Nat → Nat} (hl : es.length ≤ 16) (hLR : LR m1 u.P2 u.P3 u.PB A5 A6 A7 c1 ed ec md es ms TH CE VA) (hLX : LX m1 u.P2 u.P3 u.PB A8 bg N WR) (hbg : bg < es.length) (hok : ∀ (i : Nat) e, es[i]? = some e → zm e = false)
  (hCE : ∀ i, i < es.length → CE i < N) (hN : N ≤ 16) (hVA : ∀ i, i < es.length → VA i ≤ 2) (h : GS m0 m1 m u.P2 u.P3 (u.σ1 W T N es.length rb (qd N evd (.slice none 0 0) (.slice none 0 0)) to fr ++ ex) (.slice none 0 0) 2 wk []) {t : Tm} (t2 : Tm.get 2 t = .pointer (some ⟨u.P2, 0, none⟩)) (t3 : Tm.get 3 t = .pointer (some ⟨u.P3, 0, none⟩)) (t5 : Tm.get 5 t = .pointer (some ⟨u.q5, 0, none⟩)) (t7 : Tm.get 7 t = .pointer (some ⟨u.q7, 0, none⟩))
  (t152 : Tm.get 152 t = .func (.func 71) #[] #[.pointer (some ⟨W, 0, none⟩)]) (Q : Option Out → Prop) (kn kr : K) (ke : Nat → K)
  (hq : ∀ m' rf, GS m0 m1 m' u.P2 u.P3 (u.σ1 W T N es.length rb (qd N evd rf (.slice none 0 0)) to fr ++ ex) rf 2 wk ((qt es bg).foldl (jk es CE VA fr to) []) → Q (kn t m')) :
  Q (ZH (Go.Dx.ex Try.prog (nf + 4)) kn ke kr t m) := by
 have hkeys : ∀ p ∈ u.σ1 W T N es.length rb (qd N evd (.slice none 0 0) (.slice none 0 0)) to fr ++ ex, p.1 < m.n := fun p hp => (h.st.arr p hp).2.1
 have hLk : ∀ rf, ∀ p ∈ u.σ1 W T N es.length rb (qd N evd rf (.slice none 0 0)) to fr ++ ex, p.1 ≠ m.n := fun rf p hp e => by
  have hk : p.1 ∈ (u.σ1 W T N es.length rb (qd N evd rf (.slice none 0 0)) to fr ++ ex).map (·.1) := List.mem_map.2 ⟨p, hp, rfl⟩
  have e2 : (u.σ1 W T N es.length rb (qd N evd rf (.slice none 0 0)) to fr ++ ex).map (·.1) = (u.σ1 W T N es.length rb (qd N evd (.slice none 0 0) (.slice none 0 0)) to fr ++ ex).map (·.1) := rfl
  rw [e2] at hk
  obtain ⟨q, hq, e3⟩ := List.mem_map.1 hk
  have := hkeys q hq
  omega
 have hP2 : u.P2 ≠ m.n := hLk (.slice none 0 0) _ (DX (i := 5) rfl)
 have hm1 : m1.n ≤ m.n := h.rest.n
 obtain ⟨TT, hTT⟩ := qaj (zM [7, 5, 3, 2] t)
 have kp : ∀ i, i ∈ [7, 5, 3, 2] → Tm.get i TT = Tm.get i t := fun i hi => by
  rw [hTT]; exact jR i (by simp at hi; omega) t _ (by simp) hi
 let S : Nat → List (Nat × Nat) := fun k => ((qt es bg).take k).foldl (jk es CE VA fr to) []
 have hol : (qt es bg).length = es.length := by unfold qt; simp
 have hSb : ∀ k, (S k).length ≤ 16 := fun k => by
  have := gu es CE VA fr to ((qt es bg).take k) []
  rw [List.length_take, hol] at this
  have h2 : min k es.length ≤ 16 := by omega
  simp only [S]
  simp at this
  omega
 have ha := VP
 have hb := VV
 refine QK (c := ZH) rfl ha hb (by omega) (nf + 2) (W := W) (PB := u.PB) (bg := bg) (len := es.length) (by omega) (by omega) hbg t152 hTT.symm (fun i => Tm.set 153 (iv i) TT) (fun i => Tm.set 11 (iv i) (Tm.set 153 (iv i) TT)) (fun i => rfl) (fun i x k m => by unfold Bg; simp)
  (fun k m' => GJ2 m0 m1 m' u W T N es.length rb evd ex fr to (S k) m.n) (fun k m' _ hJ => ?_) (fun m' e => ?_) (fun k m' O hJ hn => ?_) (fun k m' hk hJ hn => ?_) (fun m' hJ => ?_)
 ·obtain ⟨ev', g, -⟩ := hJ
  obtain ⟨-, -, -, -, -, -, d7⟩ := zf g.st
  have lf := hLR m' g.rest
  exact ⟨d7, ⟨ed, lf.p0, lf.hed.len⟩, (hLX m' g.rest).1⟩
 ·refine ⟨.slice none 0 0, ?_, fun hc => by cases hc⟩
  have : S 0 = [] := by simp [S]
  rw [this]; exact h.step e
 ·obtain ⟨ev', g, b⟩ := hJ
  exact ⟨ev', g.putL (hLk ev') hm1 b O, b⟩
 ·have hil : (bg + k) % es.length < es.length := Nat.mod_lt _ (by omega)
  have hki : (qt es bg)[k]? = some ((bg + k) % es.length) := by
   unfold qt; rw [qac, List.getElem?_range hk]; rfl
  have hSk : S (k + 1) = jk es CE VA fr to (S k) ((bg + k) % es.length) := by
   obtain ⟨h, e⟩ := DY.1 hki
   simp only [S]
   rw [List.take_succ_eq_append_getElem h, List.foldl_append, e]; rfl
  show Rnd (fun e m2 => e = none ∧ m2.obj m.n = m'.obj m.n ∧ m'.n ≤ m2.n ∧ GJ2 m0 m1 m2 u W T N es.length rb evd ex fr to (S (k + 1)) m.n) _
  rw [hSk]
  exact Vc nf hl hLR hok hil (hCE _ hil) hN (hVA _ hil) hJ (by have := hSb k; omega) ((kp 2 (by simp)).trans t2) ((kp 3 (by simp)).trans t3) ((kp 5 (by simp)).trans t5) ((kp 7 (by simp)).trans t7) hP2 hn
 ·obtain ⟨ev', g, -⟩ := hJ
  have hSn : S es.length = (qt es bg).foldl (jk es CE VA fr to) [] := by simp only [S]; rw [List.take_of_length_le (by omega)]
  rw [hSn] at g
  exact hq m' ev' g
end Go.Sx
namespace Go.Dx
@[simp] theorem pSlice_m (e : Nat) (x a b : V) (t : Tm) : kH e x none (some a) (some b) t = slV e none (some (a t)) (some (b t)) (x t) := by
 unfold kH dA slV
 cases x t with
 | slice a l c => cases a <;> rfl
 | _ => rfl
end Go.Dx
namespace Go.Sx
open Go.Dx Go.Proofs
def yT (p : Nat × Nat) : List Value := [.slice (some ⟨p.1, 0, some 3⟩) p.2 p.2]
theorem fT (x : Nat × Nat) : (yT x).length = 1 := rfl
theorem Fe (x : Nat × Nat) : ∀ v ∈ yT x, okC v = true := by simp [yT, okC]
theorem gr_co (n : Nat) {m0 m1 m : M} {u : GB} {W T N nn : Nat} {rb : Nat → Nat} {evd rfd : Value} {ex : List (Nat × List Value)} {fr : Nat → Nat → Nat} {to : Nat → Nat} {A8 bg : Nat} {WR : Nat → Nat} (hN : N ≤ 16) (hLX : LX m1 u.P2 u.P3 u.PB A8 bg N WR) (hWR : ∀ x, x < N → WR x ≤ 2) (h : GS m0 m1 m u.P2 u.P3 (u.σ1 W T N nn rb (qd N evd rfd (.slice none 0 0)) to fr ++ ex) (.slice none 0 0) 1 yT []) (Q : Option Out → Prop) (kn0 kn kr : K) (ke : Nat → K) (t : Tm)
  (t2 : Tm.get 2 t = .pointer (some ⟨u.P2, 0, none⟩)) (t3 : Tm.get 3 t = .pointer (some ⟨u.P3, 0, none⟩)) (t5 : Tm.get 5 t = .pointer (some ⟨u.q5, 0, none⟩)) (t187 : Tm.get 187 t = .slice (some ⟨u.FB, 0, some 3⟩) N N) (t188 : Tm.get 188 t = iv N) (t189 : Tm.get 189 t = iv 0)
  (hq : ∀ t m' co, Tm.get 2 t = .pointer (some ⟨u.P2, 0, none⟩) → Tm.get 3 t = .pointer (some ⟨u.P3, 0, none⟩) → GS m0 m1 m' u.P2 u.P3 (u.σ1 W T N nn rb (qd N evd rfd co) to fr ++ ex) co 1 yT ((List.range N).map fun c => (rb c, 1 + WR c)) → Q (kn t m')) :
  Q (ZI (Go.Dx.ex Try.prog n) kn0 (kK 6 kn ke) kr t m) := by
 refine qm (c := ZI) rfl Q (fun i t m' => (Tm.get 2 t = .pointer (some ⟨u.P2, 0, none⟩) ∧ Tm.get 3 t = .pointer (some ⟨u.P3, 0, none⟩) ∧ Tm.get 5 t = .pointer (some ⟨u.q5, 0, none⟩) ∧ Tm.get 187 t = .slice (some ⟨u.FB, 0, some 3⟩) N N ∧ Tm.get 188 t = iv N) ∧ Tm.get 189 t = iv i ∧
   ∃ co, GS m0 m1 m' u.P2 u.P3 (u.σ1 W T N nn rb (qd N evd rfd co) to fr ++ ex) co 1 yT ((List.range i).map fun c => (rb c, 1 + WR c))) N (by omega)
  ⟨⟨t2, t3, t5, t187, t188⟩, t189, _, h⟩ (fun i t m' k hi hJ hk => ?_)
 obtain ⟨⟨t2, t3, t5, t187, t188⟩, t189, co, hG⟩ := hJ
 by_cases hil : i < N
 ·have hd := dlt hil
  have w1 := qJ (i := i) (by omega)
  obtain ⟨-, -, d3, -, -, d6, -⟩ := zf hG.st
  obtain ⟨-, -, p8, a8⟩ := hLX m' hG.rest
  have y8 := a8 i hil
  have dF := Jx hG.st hil
  have xF := zV (e := 1) (c := 3) u.FB N i hil
  have x8 := zV (e := 1) (c := 3) A8 N i hil
  rw [Nat.mul_one] at xF x8
  have hw2 := hWR i hil
  obtain ⟨w, hw⟩ := qaj (WR i)
  rw [← hw] at y8 hw2
  obtain ⟨q, hq1⟩ := qaj (1 + w)
  have wq : jm .add (iv 1) (iv w) = some (iv q) := by rw [hq1]; rcases (by omega : w = 0 ∨ w = 1 ∨ w = 2) with rfl | rfl | rfl <;> rfl
  have wq' : IntKind.i64.wrap (1 + (w : Int)) = (q : Int) := by rw [wrap64 _ (by omega) (by omega)]; omega
  have hfb : fbV rb i = .slice (some ⟨rb i, 0, some 3⟩) 3 3 := rfl
  rw [hfb] at dF
  have xS : slV 1 none (some (iv q)) (some (iv q)) (.slice (some ⟨rb i, 0, some 3⟩) 3 3) = some (.slice (some ⟨rb i, 0, some 3⟩) q q) := by
   rw [hq1]; rcases (by omega : w = 0 ∨ w = 1 ∨ w = 2) with rfl | rfl | rfl <;> rfl
  obtain ⟨B, hB⟩ := qaj (rb i)
  rw [← hB] at dF xS
  obtain ⟨M4, hM4⟩ := qaj (Dx.newRow m' (yT (B, q)))
  have E4 : Ext m' M4 := by rw [hM4]; exact Ext.row _ _
  have hM4' : Dx.newRow m' [.slice (some ⟨B, 0, some 3⟩) q q] = M4 := hM4.symm
  have hlen : ((List.range i).map fun c => (rb c, 1 + WR c)).length = i := by simp
  obtain ⟨ev', m5', p1, p2, p3, p4, p5, p6⟩ := hG.appAny (by omega) fT Fe E4 (X := m'.n) (sp := some 3) (by rw [hM4]; exact (Arr.row m' _).loads (by simp [fT])) (bytes := 24) (by rw [hlen]; unfold most; omega) (by rw [hlen]; omega)
  obtain ⟨m5, hm5⟩ := qaj (behind M4 m5')
  rw [← hm5] at p3 p4 p5
  obtain ⟨m6', r1, r2, r3, r4, r5⟩ := p3.storeAny 5 rfl (o := 3) (v := ev') (by simp [qd]) p3.gr.okC
  obtain ⟨m6, hm6⟩ := qaj (behind m5 m6')
  rw [← hm6] at r3 r4 r5
  have e6 : (u.σ1 W T N nn rb (qd N evd rfd co) to fr ++ ex).set 5 (u.P2, (qd N evd rfd co).set 3 ev') = u.σ1 W T N nn rb (qd N evd rfd ev') to fr ++ ex := rfl
  rw [e6] at r3
  simp [t2, t3, t5, t187, t188, t189, hd, xF, dF, d3, d6, p8, x8, y8, wq', xS, hM4', p1, ← hm5, r1, ← hm6, w1]
  refine hk hil _ _ ⟨⟨by simp [t2], by simp [t3], by simp [t5], by simp [t187], by simp [t188]⟩, by simp, ev', ?_⟩
  have e : (List.range (i + 1)).map (fun c => (rb c, 1 + WR c)) = ((List.range i).map fun c => (rb c, 1 + WR c)) ++ [(B, q)] := by rw [List.range_succ, List.map_append, hB, hq1, hw]; rfl
  rw [e]; exact r3
 ·obtain rfl : i = N := by omega
  have hd : ((i : Int) < (i : Int)) = False := eq_false (by omega)
  simp [t188, t189, hd]
  exact hq _ _ co (by simp [t2]) (by simp [t3]) hG
end Go.Sx
namespace Go.Dx
theorem ka {N : Nat} {ex : List Nat} {m m' : M} (h : Rest N ex m m') {B o : Nat} {s : Option Nat} (hB : B < N) (hx : B ∉ ex) : load1 m' ⟨B, o, s⟩ = load1 m ⟨B, o, s⟩ := by
 unfold load1 cellsOf; rw [h.obj B hB hx]
theorem Rd.rest {α : Type} {m m' : M} {v : Value} {e : Nat} {f : α → List Value} {es : List α} {ex : List Nat} (h : Rd m v e f es) (k : Rest m.n ex m m') (hx : ∀ B, blk v = some B → B ∉ ex) : Rd m' v e f es :=
 h.congr k.n fun B hB => k.obj B (h.lt B hB) (hx B hB)
theorem Rd.adr_blk {α : Type} {m : M} {v : Value} {e : Nat} {f : α → List Value} {es : List α} (h : Rd m v e f es) {B : Nat} (hB : blk v = some B) (i : Nat) : (adr e v i).block = B := by
 cases v with
 | slice a n c =>
  cases a with
  | none => cases hB
  | some a => cases hB; rfl
 | _ => cases hB
section
variable {m0 m1 m : M} {P2 P3 : Nat} {α : Type} {σ : List (Nat × List Value)} {g : Value} {e : Nat} {f : α → List Value} {rows : List α}
theorem GS.fillAny (h : GS m0 m1 m P2 P3 σ g e f rows) (k : Nat) {b : Nat} {l : List Value} (hk : σ[k]? = some (b, l)) {n : Nat} {l' : List Value} (hn0 : 0 < n) (hl : l.length = n) (hl' : l'.length = n) (hv : ∀ v ∈ l', okC v = true) :
  ∃ m', wh n (.pointer (some ⟨b, 0, none⟩)) (.agg ⟨l'⟩) (qi m) = some (undef, m') ∧ m'.log = [b] ∧ GS m0 m1 (Dx.behind m m') P2 P3 (σ.set k (b, l')) g e f rows ∧ (Dx.behind m m').n = m.n ∧ (∀ X, X ≠ b → (Dx.behind m m').obj X = m.obj X) := by
 obtain ⟨m', s1, s1', s2, s3, s4⟩ := h.st.fillAny k hk hn0 hl hl' hv
 exact ⟨m', s1, s1', h.put hk s2 s3 s4, s3, s4⟩
end
theorem XH {m0 m : M} {Q : Value → M → Prop} {t : Tm} {p n q r : Nat} {a b : Addr} {l1 : List Value} {v : Value} (h1 : Tm.get p t = .pointer (some a)) (h2 : loads m a n = some l1) (h3 : Tm.get q t = .pointer (some b)) (h4 : load1 m b = some v) (he : Ext m0 m) (hq : Q (.tuple #[.agg ⟨l1⟩, v, Tm.get r t]) m) :
  Ret m0 Q (zq [.cell p n, .one q, .t r] t m) := by
 refine vk (l := [.agg ⟨l1⟩, v, Tm.get r t]) ?_ he hq
 simp only [yj, vj, h1, h3, xK, qD, h2, h4]
@[simp] theorem Bt : km [.int .i64 0, .slice none 0 0, .slice none 0 0, .slice none 0 0, .slice none 0 0, .slice none 0 0, .slice none 0 0, .slice none 0 0] [] = some (.agg ⟨[.int .i64 0, .slice none 0 0, .slice none 0 0, .slice none 0 0, .slice none 0 0, .slice none 0 0, .slice none 0 0, .slice none 0 0]⟩) := _root_.id rfl
end Go.Dx
namespace Go.Sx
open Go.Dx Go.Proofs
def kF : List Value := [.int .i64 0, .slice none 0 0, .slice none 0 0, .slice none 0 0, .slice none 0 0, .slice none 0 0, .slice none 0 0, .slice none 0 0]
theorem bz {m1 : M} {P2 P3 A : Nat} {l : List Nat} (hP2 : Arr m1 P2 kF) (hP3 : Arr m1 P3 [.slice none 0 0]) (h : Arr m1 A (nums l)) (hl : 0 < l.length) : A ∉ [P2, P3] := by
 intro hc
 simp only [List.mem_cons, List.not_mem_nil, or_false] at hc
 have hi : ∀ i v, (nums l)[i]? = some v → ∃ x : Nat, v = iv x := fun i v hv => by
  unfold nums at hv
  rw [qac] at hv
  cases hx : l[i]? with
  | none => rw [hx] at hv; cases hv
  | some x => rw [hx] at hv; cases hv; exact ⟨x, rfl⟩
 rcases hc with rfl | rfl
 ·have h1 := hP2.load1 1 none
  rw [h.load1 1 none] at h1
  obtain ⟨x, hx⟩ := hi 1 (.slice none 0 0) h1
  cases hx
 ·have h1 := hP3.load1 0 none
  rw [h.load1 0 none] at h1
  obtain ⟨x, hx⟩ := hi 0 (.slice none 0 0) h1
  cases hx
theorem ed_ne {m1 : M} {P2 P3 : Nat} {ed : Value} {es : List (Int × Int)} (hP2 : Arr m1 P2 kF) (hP3 : Arr m1 P3 [.slice none 0 0]) (h : Rd m1 ed 2 edgeRow es) (hl : 0 < es.length) (hm : m1.base ≤ m1.n) : ∀ B, blk ed = some B → B ∉ [P2, P3] := by
 intro B hB hc
 obtain ⟨e, he⟩ : ∃ e, es[0]? = some e := ⟨_, DW hl⟩
 have ⟨_, _, h3⟩ := h.at he
 have hb := h.adr_blk hB 0
 have k1 := h3 m1 1 none (Sees.refl hm) (by simp [edgeRow])
 have k0 := h3 m1 0 none (Sees.refl hm) (by simp [edgeRow])
 rw [hb] at k1 k0
 simp only [List.mem_cons, List.not_mem_nil, or_false] at hc
 rcases hc with rfl | rfl
 ·rw [hP2.load1] at k1
  have : kF[(adr 2 ed 0).off + 1]? = some (.int .i64 e.2) := k1
  unfold kF at this
  rw [List.getElem?_cons_succ] at this
  have := DX this
  simp at this
 ·rw [hP3.load1] at k0
  have : [Value.slice none 0 0][(adr 2 ed 0).off + 0]? = some (.int .i64 e.1) := k0
  have := DX this
  simp at this
theorem LR_of {m1 : M} {P2 P3 PB A5 A6 A7 c1 : Nat} {ed ec md : Value} {es : List (Int × Int)} {ms : List Int} {TH CE VA : Nat → Nat} (h : LF m1 PB A5 A6 A7 c1 ed ec md es ms TH CE VA) (hPB : PB ∉ [P2, P3]) (h5 : A5 ∉ [P2, P3]) (h6 : A6 ∉ [P2, P3]) (h7 : A7 ∉ [P2, P3]) (hc : c1 ∉ [P2, P3]) (he : ∀ B, blk ed = some B → B ∉ [P2, P3]) (hm : ∀ B, blk md = some B → B ∉ [P2, P3]) : LR m1 P2 P3 PB A5 A6 A7 c1 ed ec md es ms TH CE VA := by
 intro m k
 have hn := k.n
 exact ⟨qa1 h.lP hn, qa1 h.l5 hn, qa1 h.l6 hn, qa1 h.l7 hn, qa1 h.lc hn, (ka k h.lP hPB).trans h.p0, (ka k h.lP hPB).trans h.p5, (ka k h.lP hPB).trans h.p6, (ka k h.lP hPB).trans h.p7,
  fun i hi => (ka k h.l5 h5).trans (h.a5 i hi), fun i hi => (ka k h.l6 h6).trans (h.a6 i hi), fun i hi => (ka k h.l7 h7).trans (h.a7 i hi), h.hed.rest k he, (ka k h.lc hc).trans h.c1m, h.hmd.rest k hm, h.small⟩
structure GX where
 EV : List EvR
 RF : List (Nat × Nat)
 TO : List Nat
 CO : List (List Nat)
def Graphed (m0 m : M) (v : Value) (N : Nat) (x : GX) : Prop := ∃ (evd rfd cod tov : Value) (sv : Nat → Value), v = .tuple #[.agg #[iv N, evd, rfd, cod, .slice none 0 0, .slice none 0 0, .slice none 0 0, .slice none 0 0], tov, iv 0] ∧
 Rd m evd 5 qS x.EV ∧ Rd m rfd 2 wk x.RF ∧ Rd m tov 1 qV x.TO ∧ x.CO.length = N ∧ Rd m cod 1 (fun v => [v]) ((List.range N).map sv) ∧ (∀ c l, x.CO[c]? = some l → Rd m (sv c) 1 qV l) ∧
 (∀ B, blk evd = some B → m0.n ≤ B) ∧ (∀ B, blk rfd = some B → m0.n ≤ B) ∧ (∀ B, blk cod = some B → m0.n ≤ B) ∧ (∀ B, blk tov = some B → m0.n ≤ B) ∧ (∀ c, c < N → ∀ B, blk (sv c) = some B → m0.n ≤ B) ∧ ∀ c, c < N → ∃ X n, sv c = .slice (some ⟨X, 0, some 3⟩) (1 + n) (1 + n) ∧ n ≤ 2
end Go.Sx
namespace Go.Sx
open Go.Dx Go.Proofs
def zE (es : List (Int × Int)) (ms : List Int) (TH CE VA : Nat → Nat) (N bg : Nat) : GT := (qt es bg).foldl (wH es ms TH CE VA) ⟨(List.range N).map ev0, fun _ => 0, fr0⟩
def xk (es : List (Int × Int)) (ms : List Int) (TH CE VA WR : Nat → Nat) (N bg : Nat) : GX :=
 ⟨(zE es ms TH CE VA N bg).ev, (qt es bg).foldl (jk es CE VA (zE es ms TH CE VA N bg).fr (zE es ms TH CE VA N bg).to) [], (List.range es.length).map (zE es ms TH CE VA N bg).to, (List.range N).map fun c => (List.range (1 + WR c)).map ((zE es ms TH CE VA N bg).fr c)⟩
theorem BX {m : M} (B : Nat) (f : Nat → Nat) (q : Nat) (hq : q ≤ 3) (h : Arr m B (yk f)) (hB : B < m.n) : Rd m (.slice (some ⟨B, 0, some 3⟩) q q) 1 qV ((List.range q).map f) := by
 refine ⟨by rw [List.length_map, List.length_range]; rfl, fun i r hr => ?_, ?_, fun C hC => by cases hC; exact hB⟩
 ·rw [qac] at hr
  by_cases hi : i < q
  ·rw [List.getElem?_range hi] at hr
   cases hr
   refine ⟨?_, hB, ?_⟩
   ·rw [zV B _ i hi]
    show _ = some (Value.pointer (some ⟨B, 0 + i * 1, none⟩))
    rw [Nat.zero_add]
   ·show loads m ⟨B, 0 + i * 1, none⟩ 1 = _
    rw [h.loads (by show 0 + i * 1 + 1 ≤ 3; omega)]
    rcases (by omega : i = 0 ∨ i = 1 ∨ i = 2) with rfl | rfl | rfl <;> rfl
  ·rw [qah (by simpa using hi)] at hr; cases hr
 ·show loads m ⟨B, 0, some 3⟩ (((List.range q).map f).length * 1) = _
  rw [List.length_map, List.length_range, h.loads (by show 0 + q * 1 ≤ 3; omega)]
  rcases (by omega : q = 0 ∨ q = 1 ∨ q = 2 ∨ q = 3) with rfl | rfl | rfl | rfl <;> rfl
set_option maxHeartbeats 1000000 in
theorem Bo (n : Nat) (ed md : Value) (es : List (Int × Int)) (ms : List Int) (m : M) (hm : m.base ≤ m.n) (hl : es.length < 9223372036854775807) (hed : Rd m ed 2 edgeRow es) (hmd : Rd m md 1 modeRow ms) (ch : Nat → List Nat)
  (hch : (wo es ms).2 = 0 → ∀ c, c < es.length - cnt es → wW es (zW es (es.length - cnt es) (qt es (qN es))).ce (qN es) c (ch c)) (TH CE VA WR : Nat → Nat)
  (hlaw : (wo es ms).2 = 0 → vv es (kV es ch (List.replicate es.length 0) (es.length - cnt es)) TH CE VA WR) (hlaw2 : (wo es ms).2 = 0 → (∀ i, i < es.length → CE i < es.length - cnt es ∧ VA i ≤ 2) ∧ ∀ x, x < es.length - cnt es → WR x ≤ 2) :
  Dx.Call (Go.Dx.ex Try.prog (n + 9)) 23 [.agg #[ed, md]] m fun v m' => ((wo es ms).2 ≠ 0 ∧ v = .tuple #[.agg #[iv 0, .slice none 0 0, .slice none 0 0, .slice none 0 0, .slice none 0 0, .slice none 0 0, .slice none 0 0, .slice none 0 0], .slice none 0 0, iv (wo es ms).2]) ∨
   ((wo es ms).2 = 0 ∧ Graphed m m' v (es.length - cnt es) (xk es ms TH CE VA WR (es.length - cnt es) (qN es))) := by
 suffices H : ∀ Q : Value → M → Prop, (∀ v m', (((wo es ms).2 ≠ 0 ∧ v = .tuple #[.agg #[iv 0, .slice none 0 0, .slice none 0 0, .slice none 0 0, .slice none 0 0, .slice none 0 0, .slice none 0 0, .slice none 0 0], .slice none 0 0, iv (wo es ms).2]) ∨
   ((wo es ms).2 = 0 ∧ Graphed m m' v (es.length - cnt es) (xk es ms TH CE VA WR (es.length - cnt es) (qN es)))) → Q v m') → Dx.Call (Go.Dx.ex Try.prog (n + 9)) 23 [.agg #[ed, md]] m Q from H _ fun _ _ h => h
 intro Q hQ
 refine qv db1_ok (by simp) ?_
 have st0 : St m m [] := St.nil hm (Ext.refl m)
 have stA := ((st0.row [ed, md]).row kF).row [.slice none 0 0]
 simp only [qk] at stA
 obtain ⟨mA, hmA⟩ := qaj (Dx.newRow (Dx.newRow (Dx.newRow m [ed, md]) kF) [.slice none 0 0])
 have hmA' : Dx.newRow (Dx.newRow (Dx.newRow m [ed, md]) [.int .i64 0, .slice none 0 0, .slice none 0 0, .slice none 0 0, .slice none 0 0, .slice none 0 0, .slice none 0 0, .slice none 0 0]) [.slice none 0 0] = mA := hmA.symm
 rw [← hmA] at stA
 have lbA : loads mA ⟨m.n, 0, none⟩ 2 = some [ed, md] := (stA.get 2 rfl).2.2.loads (by simp)
 obtain ⟨v1, m1, c1, c2, c3⟩ := lay_c n ed md es ms mA stA.sees.base hl (hed.sees stA.sees) (hmd.sees stA.sees) ch hch
 have st1 := stA.step c2
 have hb1 : m1.base ≤ m1.n := st1.sees.base
 simp [hmA', lbA, qf, c1]
 rcases c3 with ⟨hz, rfl⟩ | ⟨hz, PB, rfl, hLaid⟩
 ·obtain ⟨q1, hq1⟩ := qaj ((wo es ms).1)
  obtain ⟨q2, hq2⟩ := qaj ((wo es ms).2)
  rw [← hq2] at hz hQ ⊢
  rw [← hq1]
  have s1' := st1.row [.pointer none]
  obtain ⟨m2, a1, a2, a3, a4⟩ := s1'.store 0 rfl (o := 0) (v := .pointer none) (by simp) rfl
  obtain ⟨m3, b1, b2, b3, b4⟩ := a2.fill 2 rfl (n := 8) (l' := kF) rfl rfl (by simp [okC, kF])
  obtain ⟨m4, d1, d2, d3, d4⟩ := b2.store 1 rfl (o := 0) (v := .slice none 0 0) (by simp) rfl
  have b1' : wh 8 (.pointer (some ⟨m.n + 1, 0, none⟩)) (.agg ⟨[.int .i64 0, .slice none 0 0, .slice none 0 0, .slice none 0 0, .slice none 0 0, .slice none 0 0, .slice none 0 0, .slice none 0 0]⟩) m2 = some (undef, m3) := b1
  simp [a1, hz, b1', d1]
  refine XH (a := ⟨m.n + 1, 0, none⟩) (b := ⟨m.n + 1 + 1, 0, none⟩) (by simp) ((d2.get 2 rfl).2.2.loads (n := 8) (by simp [kF])) (by simp) (by rw [(d2.get 1 rfl).2.2.load1]; rfl) d2.ext (hQ _ _ (.inl ⟨hz, by simp [kF]⟩))
 ·obtain ⟨law1, law2, law3, law4, law5, law6, law7⟩ := hlaw hz
  obtain ⟨law8, law9⟩ := hlaw2 hz
  obtain ⟨hl16, hml, hA2, hN1, hok⟩ : es.length ≤ 16 ∧ ms.length = es.length ∧ 2 ≤ cnt es ∧ 1 ≤ es.length - cnt es ∧ ∀ (i : Nat) e, es[i]? = some e → zm e = false := by
   unfold wo at hz
   by_cases h1 : (wD es ms).2 ≠ 0
   ·rw [if_pos h1] at hz; exact absurd hz h1
   ·rw [if_neg h1] at hz
    have h1' : (wD es ms).2 = 0 := by omega
    by_cases h2 : cnt es < 2 ∨ es.length - cnt es < 1
    ·rw [if_pos h2] at hz; simp at hz
    ·exact ⟨(kQ h1').1, (kQ h1').2, by omega, by omega, gx h1'⟩
  obtain ⟨N, hNe⟩ := qaj (es.length - cnt es)
  have hcl : cnt es ≤ es.length := by unfold cnt; exact List.countP_le_length
  obtain ⟨b, hbe⟩ := qaj (qN es)
  have hb := yO (es := es) (by omega)
  rw [← hbe] at hb
  have hbl : b < es.length := by unfold first at hb; rw [List.find?_range_eq_some] at hb; simpa using hb.2.1
  obtain ⟨ed', md', A5, A6, A7, A8, hPl, hmd', p1, p3, p4, p5, p7, p8, r5, r6, r7, r8, k5, k6, k7, k8⟩ := hLaid.ex
  rw [← hNe] at law1 law3 law4 law5 law8 law9 hPl p3 p4 p8 r5 r6 r7 r8 hQ hN1
  rw [← hbe] at law1 law3 law5 hPl r5 r6 r8 hQ
  have hl0 : 0 < es.length := by omega
  have hN16 : N ≤ 16 := by omega
  have aP2 := (st1.get 1 rfl).2.2
  have aP3 := (st1.get 0 rfl).2.2
  have hc1n : m.n ∉ [m.n + 1, m.n + 1 + 1] := by simp; omega
  have hmdn : ∀ B, blk md = some B → B ∉ [m.n + 1, m.n + 1 + 1] := fun B hB => by
   have := hmd.lt B hB
   simp; omega
  have pos : ∀ {l : List Nat} {x : Nat}, l[0]? = some x → 0 < l.length := fun h => (DY.1 h).1
  have hPBn : PB ∉ [m.n + 1, m.n + 1 + 1] := by
   intro hc
   have hed0 := hPl.p0 none
   have hlen := hPl.hed.len
   simp only [List.mem_cons, List.not_mem_nil, or_false] at hc
   rcases hc with rfl | rfl
   ·rw [aP2.load1] at hed0
    have : some (Value.int .i64 0) = some ed' := hed0
    cases this
    cases hlen
   ·rw [aP3.load1] at hed0
    have : some (Value.slice none 0 0) = some ed' := hed0
    cases this
    have : some (iv 0) = some (iv es.length) := hlen
    simp at this
    omega
  have hLF : LF m1 PB A5 A6 A7 m.n ed' ed md es ms TH CE VA := by
   refine ⟨hPl.lt, k5, k6, k7, by have := (st1.get 2 rfl).2.1; exact this, hPl.p0 none, p5 none, hPl.p6 none, p7 none, fun i hi => ?_, fun i hi => ?_, fun i hi => ?_, hPl.hed, ?_, hmd.sees st1.sees, law6⟩
   ·rw [r5.load1]; exact wU _ _ _ (law1 i hi)
   ·rw [r6.load1]; exact wU _ _ _ (law3 i hi)
   ·rw [r7.load1]; exact wU _ _ _ (law4 i hi)
   ·rw [(st1.get 2 rfl).2.2.load1]; rfl
  have hLR : LR m1 (m.n + 1) (m.n + 1 + 1) PB A5 A6 A7 m.n ed' ed md es ms TH CE VA :=
   LR_of hLF hPBn (bz aP2 aP3 r5 (pos (law1 0 hl0))) (bz aP2 aP3 r6 (pos (law3 0 hl0))) (bz aP2 aP3 r7 (pos (law4 0 hl0))) hc1n (ed_ne aP2 aP3 hPl.hed hl0 hb1) hmdn
  have h8n := bz aP2 aP3 r8 (pos (law5 0 hN1))
  have hLX : LX m1 (m.n + 1) (m.n + 1 + 1) PB A8 b N WR := fun m' k =>
   ⟨(ka k hPl.lt hPBn).trans (hPl.p2 none), (ka k hPl.lt hPBn).trans (p4 none), (ka k hPl.lt hPBn).trans (p8 none), fun x hx => (ka k k8 h8n).trans (by rw [r8.load1]; exact wU _ _ _ (law5 x hx))⟩
  have hm1n : m.n + 3 ≤ m1.n := by
   have := (st1.get 0 rfl).2.1; omega
  have G0 : GS m m1 m1 (m.n + 1) (m.n + 1 + 1) [(m.n + 1 + 1, [.slice none 0 0]), (m.n + 1, kF)] (.slice none 0 0) 5 qS [] :=
   ⟨st1.sub (fun p hp => by simp at hp ⊢; rcases hp with rfl | rfl <;> simp) (by simp), Dx.Rest.refl, fun p hp => by simp at hp; rcases hp with rfl | rfl <;> simp, by omega, hb1, .nil, fun B hB => by cases hB⟩
  have G1 := G0.row [.pointer none]
  obtain ⟨m2, a1, a2, a3, a4⟩ := G1.store 0 rfl (o := 0) (v := .pointer (some ⟨PB, 0, none⟩)) (by simp) rfl
  have a2' : GS m m1 m2 (m.n + 1) (m.n + 1 + 1) [(m1.n, [.pointer (some ⟨PB, 0, none⟩)]), (m.n + 1 + 1, [.slice none 0 0]), (m.n + 1, kF)] (.slice none 0 0) 5 qS [] := a2
  have n2 : m2.n = m1.n + 1 := by rw [a3, qk]
  have lq2 : load1 m2 ⟨m1.n, 0, none⟩ = some (.pointer (some ⟨PB, 0, none⟩)) := by rw [(a2'.st.get 0 rfl).2.2.load1]; rfl
  have l42 := (hLX m2 a2'.rest).2.1
  obtain ⟨m3, b1, b2, b3, b4⟩ := a2'.store 2 rfl (o := 0) (v := iv N) (by simp [kF]) rfl
  have b2' : GS m m1 m3 (m.n + 1) (m.n + 1 + 1) [(m1.n, [.pointer (some ⟨PB, 0, none⟩)]), (m.n + 1 + 1, [.slice none 0 0]), (m.n + 1, qd N (.slice none 0 0) (.slice none 0 0) (.slice none 0 0))] (.slice none 0 0) 5 qS [] := b2
  have lq3 : load1 m3 ⟨m1.n, 0, none⟩ = some (.pointer (some ⟨PB, 0, none⟩)) := by rw [(b2'.st.get 0 rfl).2.2.load1]; rfl
  have l43 := (hLX m3 b2'.rest).2.1
  have mk1 := fl (n := N) (e := 1) (bytes := 24) (zs := [.slice none 0 0]) rfl (by omega) (by omega) (by omega) m3
  have code1 : code 1 true = 3 := rfl
  rw [code1] at mk1
  have G4 := (b2'.row ((List.range N).flatMap fun _ => [.slice none 0 0])).row [.slice none 0 0]
  simp only [qk] at G4
  obtain ⟨m4, e1, e2, e3, e4⟩ := G4.store 0 rfl (o := 0) (v := .slice (some ⟨m3.n, 0, some 3⟩) N N) (by simp) rfl
  have e2' : GS m m1 m4 (m.n + 1) (m.n + 1 + 1) [(m3.n + 1, [.slice (some ⟨m3.n, 0, some 3⟩) N N]), (m3.n, (List.range N).flatMap fun _ => [.slice none 0 0]), (m1.n, [.pointer (some ⟨PB, 0, none⟩)]), (m.n + 1 + 1, [.slice none 0 0]), (m.n + 1, qd N (.slice none 0 0) (.slice none 0 0) (.slice none 0 0))] (.slice none 0 0) 5 qS [] := e2
  have lq4 : load1 m4 ⟨m1.n, 0, none⟩ = some (.pointer (some ⟨PB, 0, none⟩)) := by rw [(e2'.st.get 2 rfl).2.2.load1]; rfl
  have l44 := (hLX m4 e2'.rest).2.1
  obtain ⟨u, hu⟩ : ∃ u : GB, u = ⟨m3.n, m3.n + 1, m.n + 1 + 1, m.n + 1, m1.n, PB⟩ := ⟨_, rfl⟩
  have uF : u.FB = m3.n := by rw [hu]
  have u7 : u.q7 = m3.n + 1 := by rw [hu]
  have u3 : u.P3 = m.n + 1 + 1 := by rw [hu]
  have u2 : u.P2 = m.n + 1 := by rw [hu]
  have u5 : u.q5 = m1.n := by rw [hu]
  have uP : u.PB = PB := by rw [hu]
  have G5 : GS m m1 m4 u.P2 u.P3 (u.σ N (fun _ => 0) (qd N (.slice none 0 0) (.slice none 0 0) (.slice none 0 0)) (.slice none 0 0) (fun _ => .slice none 0 0) 0 fr0) (.slice none 0 0) 5 qS [] := by
   rw [hu]
   refine e2'.sub (fun p hp => ?_) ?_
   ·simp only [GB.σ, List.range_zero, List.map_nil, List.append_nil, List.mem_cons, List.not_mem_nil, or_false] at hp
    rcases hp with rfl | rfl | rfl | rfl | rfl
    ·exact DX (i := 1) rfl
    ·exact DX (i := 0) rfl
    ·exact DX (i := 3) rfl
    ·exact DX (i := 4) rfl
    ·exact DX (i := 2) rfl
   ·simp only [GB.σ, List.range_zero, List.map_nil, List.append_nil, List.map_cons, List.nodup_cons, List.mem_cons, List.not_mem_nil, or_false, not_false_eq_true, List.nodup_nil, and_true]; omega
  simp [a1, lq2, l42, b1, lq3, l43, mk1, e1, lq4, l44]
  refine BD (n + 8) (u := u) hN16 (Ret m Q) _ _ _ _ _ _ (fun t => Tm.get 1 t = .pointer (some ⟨m.n, 0, none⟩) ∧ Tm.get 2 t = .pointer (some ⟨u.P2, 0, none⟩) ∧ Tm.get 3 t = .pointer (some ⟨u.P3, 0, none⟩) ∧ Tm.get 5 t = .pointer (some ⟨u.q5, 0, none⟩) ∧ Tm.get 7 t = .pointer (some ⟨u.q7, 0, none⟩) ∧ Tm.get 37 t = iv N)
   (fun t i v h hm => ?_) ?_ (fun t h => ⟨h.2.1, h.2.2.2.2.1, h.2.2.2.2.2⟩) ?_ G5 (fun t m5 rb ev hI G6 => ?_)
  ·simp only [List.mem_cons, List.not_mem_nil, or_false, not_or] at hm
   obtain ⟨a1, a2, a3, a4, a5, a6, a7⟩ := hm
   simp only [kz]
   rw [if_neg (Ne.symm a1), if_neg (Ne.symm a2), if_neg (Ne.symm a3), if_neg (Ne.symm a5), if_neg (Ne.symm a6), if_neg (Ne.symm a7)]
   exact h
  ·refine ⟨?_, ?_, ?_, ?_, ?_, ?_⟩
   ·simp
   ·simp [u2]
   ·simp [u3]
   ·simp [u5]
   ·simp [u7]
   ·simp
  ·simp
  obtain ⟨t1, t2, t3, t5, t7, -⟩ := hI
  have hlens : kG ed' = some (iv es.length) := hPl.hed.len
  rw [← u3, ← u2, ← uP] at hLR hLX
  have lf5 := hLR m5 G6.rest
  have lq5 : load1 m5 ⟨u.q5, 0, none⟩ = some (.pointer (some ⟨u.PB, 0, none⟩)) := by rw [(G6.st.get 4 rfl).2.2.load1]; rfl
  have mkT := fl (n := es.length) (e := 1) (bytes := 8) (zs := [.int .i64 0]) rfl (by omega) (by omega) (by omega) m5
  rw [code1] at mkT
  have G7 := G6.row ((List.range es.length).flatMap fun _ => [.int .i64 0])
  obtain ⟨m6, f1, f2, f3, f4⟩ := G7.store 3 rfl (o := 0) (v := .slice (some ⟨m5.n, 0, some 3⟩) es.length es.length) (by simp) rfl
  have G8 := f2.row [.pointer (some ⟨u.PB, 0, none⟩)]
  obtain ⟨M7, hM7⟩ := qaj (Dx.newRow m6 [.pointer (some ⟨u.PB, 0, none⟩)])
  rw [← hM7] at G8
  have G9 : GS m m1 M7 u.P2 u.P3 (u.σ1 m6.n m5.n N es.length rb (qd N ev (.slice none 0 0) (.slice none 0 0)) (fun _ => 0) fr0) ev 5 qS ((List.range N).map ev0) := G8
  have lq6 : load1 m6 ⟨u.q5, 0, none⟩ = some (.pointer (some ⟨u.PB, 0, none⟩)) := by rw [(f2.st.get 5 rfl).2.2.load1]; rfl
  have hwk := dE (n + 7) ⟨u.PB, 0, none⟩ m6
  simp [t2, t3, t5, lq5, lf5.p0, hlens, mkT, f1, lq6, hwk, ← hM7]
  generalize hT0 : Tm.set 62 _ _ = T0
  have k1 : Tm.get 1 T0 = .pointer (some ⟨m.n, 0, none⟩) := by rw [← hT0]; simp [t1]
  have k2 : Tm.get 2 T0 = .pointer (some ⟨u.P2, 0, none⟩) := by rw [← hT0]; simp [t2]
  have k3 : Tm.get 3 T0 = .pointer (some ⟨u.P3, 0, none⟩) := by rw [← hT0]; simp [t3]
  have k5 : Tm.get 5 T0 = .pointer (some ⟨u.q5, 0, none⟩) := by rw [← hT0]; simp [t5]
  have k7 : Tm.get 7 T0 = .pointer (some ⟨u.q7, 0, none⟩) := by rw [← hT0]; simp [t7]
  have k62 : Tm.get 62 T0 = .func (.func 71) #[] #[.pointer (some ⟨m6.n, 0, none⟩)] := by rw [← hT0]; simp
  clear hT0
  obtain ⟨s0, hs0⟩ : ∃ s0 : GT, s0 = ⟨(List.range N).map ev0, fun _ => 0, fr0⟩ := ⟨_, rfl⟩
  have G9' : GS m m1 M7 u.P2 u.P3 (u.σ1 m6.n m5.n N es.length rb (qd N ev (.slice none 0 0) (.slice none 0 0)) s0.to s0.fr) ev 5 qS s0.ev := by rw [hs0]; exact G9
  refine Fv (n + 4) (u := u) (s := s0) hl16 hLR hLX hbl hok hml (fun i hi => (law8 i hi).1) hN16 (fun i hi => (law8 i hi).2) G9' (by rw [hs0]; simp; omega) k1 k2 k3 k5 k7 k62 (Ret m Q) _ _ _ (fun m8 ev8 G10 => ?_)
  have hgS : (qt es b).foldl (wH es ms TH CE VA) s0 = zE es ms TH CE VA N b := by rw [hs0]; rfl
  rw [hgS] at G10
  obtain ⟨s, hs⟩ : ∃ s : GT, s = zE es ms TH CE VA N b := ⟨_, rfl⟩
  rw [← hs] at G10
  obtain ⟨ex1, G11, hex1, -⟩ := G10.doneLast 2 wk kv
  have lq8 : load1 m8 ⟨u.q5, 0, none⟩ = some (.pointer (some ⟨u.PB, 0, none⟩)) := (zf G11.st).2.2.2.2.2.1
  have hwk2 := dE (n + 7) ⟨u.PB, 0, none⟩ m8
  have G12 := G11.row [.pointer (some ⟨u.PB, 0, none⟩)]
  obtain ⟨M9, hM9⟩ := qaj (Dx.newRow m8 [.pointer (some ⟨u.PB, 0, none⟩)])
  rw [← hM9] at G12
  have G13 : GS m m1 M9 u.P2 u.P3 (u.σ1 m8.n m5.n N es.length rb (qd N ev8 (.slice none 0 0) (.slice none 0 0)) s.to s.fr ++ ex1) (.slice none 0 0) 2 wk [] := by
   have hsub : List.Sublist (u.σ1 m8.n m5.n N es.length rb (qd N ev8 (.slice none 0 0) (.slice none 0 0)) s.to s.fr ++ ex1) ((m8.n, [.pointer (some ⟨u.PB, 0, none⟩)]) :: (u.σ1 m6.n m5.n N es.length rb (qd N ev8 (.slice none 0 0) (.slice none 0 0)) s.to s.fr ++ ex1)) :=
    List.Sublist.cons_cons _ (List.Sublist.cons _ (List.Sublist.refl _))
   exact G12.sub (fun p hp => hsub.subset hp) ((hsub.map _).nodup G12.st.nd)
  simp [k5, lq8, hwk2, ← hM9]
  refine Fx (n + 4) (u := u) hl16 hLR hLX hbl hok (fun i hi => (law8 i hi).1) hN16 (fun i hi => (law8 i hi).2) G13 ?_ ?_ ?_ ?_ ?_ (Ret m Q) _ _ _ (fun m10 rf G14 => ?_)
  ·simp [k2]
  ·simp [k3]
  ·simp [k5]
  ·simp [k7]
  ·simp
  obtain ⟨ex2, G15, hex2, -⟩ := G14.doneLast 1 yT zy
  rw [List.append_assoc] at G15
  have l7 : load1 m10 ⟨u.q7, 0, none⟩ = some (.slice (some ⟨u.FB, 0, some 3⟩) N N) := (zf G15.st).2.2.2.1
  have hlenN : kG (.slice (some ⟨u.FB, 0, some 3⟩) N N) = some (iv N) := rfl
  simp [k7, l7, hlenN]
  refine gr_co (n + 8) (u := u) hN16 hLX law9 G15 (Ret m Q) _ _ _ _ _ ?_ ?_ ?_ ?_ ?_ ?_ (fun t11 m11 co x2 x3 G16 => ?_)
  ·simp [k2]
  ·simp [k3]
  ·simp [k5]
  ·simp
  ·simp
  ·simp
  have hcells : ∀ v ∈ qd N ev8 rf co, okC v = true := by
   have h1 : okC ev8 = true := (hex1 m10 (G14.st.sub (fun p hp => by simp [hp]) (by
    have := G14.st.nd
    rw [List.map_append, List.nodup_append] at this; exact this.2.1))).okV
   have h2 : okC rf = true := G14.gr.okC
   have h3 : okC co = true := G16.gr.okC
   intro v hv
   simp only [qd, List.mem_cons, List.not_mem_nil, or_false] at hv
   rcases hv with e | e | e | e | e | e | e | e <;> rw [e]
   ·rfl
   ·exact h1
   ·exact h2
   ·exact h3
   ·rfl
   ·rfl
   ·rfl
   ·rfl
  have lC : loads m11 ⟨u.P2, 0, none⟩ 8 = some (qd N ev8 rf co) := (G16.st.get 5 rfl).2.2.loads (n := 8) (by simp [qd])
  have l3 : load1 m11 ⟨u.P3, 0, none⟩ = some (.slice (some ⟨m5.n, 0, some 3⟩) es.length es.length) := (zf G16.st).2.2.2.2.1
  obtain ⟨m12', i1, i2, i3, i4, i5⟩ := G16.fillAny 5 rfl (n := 8) (l' := qd N ev8 rf co) (by omega) rfl rfl hcells
  obtain ⟨m12, hm12⟩ := qaj (behind m11 m12')
  rw [← hm12] at i3 i4 i5
  obtain ⟨m13', j1, j2, j3, j4, j5⟩ := i3.storeAny 4 rfl (o := 0) (v := .slice (some ⟨m5.n, 0, some 3⟩) es.length es.length) (by simp) rfl
  obtain ⟨m13, hm13⟩ := qaj (behind m12 m13')
  rw [← hm13] at j3 j4 j5
  have G17 : GS m m1 m13 u.P2 u.P3 (u.σ1 m8.n m5.n N es.length rb (qd N ev8 rf co) s.to s.fr ++ (ex1 ++ ex2)) co 1 yT ((List.range N).map fun c => (rb c, 1 + WR c)) := j3
  have hne23 : ¬ (u.P3 = u.P2) := by rw [u2, u3]; omega
  simp [x2, x3, lC, l3, qf, i1, i2, ← hm12, hne23, j1, ← hm13]
  have st17 := G17.st
  have ste : St m m13 (ex1 ++ ex2) := st17.sub (fun p hp => List.mem_append_right _ hp) (by
   have := st17.nd
   rw [List.map_append, List.nodup_append] at this; exact this.2.1)
  have ste1 : St m m13 ex1 := ste.sub (fun p hp => List.mem_append_left _ hp) (by
   have := ste.nd
   rw [List.map_append, List.nodup_append] at this; exact this.1)
  have ste2 : St m m13 ex2 := ste.sub (fun p hp => List.mem_append_right _ hp) (by
   have := ste.nd
   rw [List.map_append, List.nodup_append] at this; exact this.2.1)
  have lC' : loads m13 ⟨u.P2, 0, none⟩ 8 = some (qd N ev8 rf co) := (st17.get 5 rfl).2.2.loads (n := 8) (by simp [qd])
  have l3' : load1 m13 ⟨u.P3, 0, none⟩ = some (.slice (some ⟨m5.n, 0, some 3⟩) es.length es.length) := (zf st17).2.2.2.2.1
  refine XH (a := ⟨u.P2, 0, none⟩) (b := ⟨u.P3, 0, none⟩) (by simp [x2]) lC' (by simp [x3]) l3' st17.ext (hQ _ _ (.inr ⟨hz, ev8, rf, co, .slice (some ⟨m5.n, 0, some 3⟩) es.length es.length, fun c => .slice (some ⟨rb c, 0, some 3⟩) (1 + WR c) (1 + WR c), by simp [qd], ?_, ?_, ?_, ?_, ?_, fun c l hcl => ?_, fun B hB => ?_, fun B hB => ?_, fun B hB => ?_, fun B hB => ?_, fun c hc B hB => ?_, fun c hc => ⟨rb c, WR c, rfl, law9 c hc⟩⟩))
  ·have := hex1 m13 ste1
   rw [hs] at this; exact this
  ·have := hex2 m13 ste2
   rw [hs] at this; exact this
  ·have hA := (st17.get 1 rfl).2.2
   have hlt := (st17.get 1 rfl).2.1
   have hA' : Arr m13 m5.n (((List.range es.length).map s.to).flatMap qV) := by
    rw [List.flatMap_map]; exact hA
   have := zl (m := m13) (c := 3) (e := 1) (f := qV) (fun _ => rfl) hA' hlt
   rw [List.length_map, List.length_range, hs] at this
   exact this
  ·simp [xk]
  ·have := G17.gr.rd fT
   refine ⟨by have := this.len; simpa using this, fun i r hr => ?_, ?_, this.lt⟩
   ·rw [qac] at hr
    by_cases hi : i < N
    ·rw [List.getElem?_range hi] at hr
     cases hr
     have := this.row i (rb i, 1 + WR i) (by rw [qac, List.getElem?_range hi]; rfl)
     exact this
    ·rw [qah (by simpa using hi)] at hr; cases hr
   ·have h := this.all
    rw [List.flatMap_map] at h ⊢
    simp only [List.length_map] at h ⊢
    exact h
  ·unfold xk at hcl
   simp only at hcl
   rw [qac] at hcl
   by_cases hc : c < N
   ·rw [List.getElem?_range hc, ← hs] at hcl
    cases hcl
    have hrow : (u.σ1 m8.n m5.n N es.length rb (qd N ev8 rf co) s.to s.fr ++ (ex1 ++ ex2))[7 + c]? = some (rb c, yk (s.fr c)) := by
     rw [qaa (by have := GB.sg_row (u := u) (W := m8.n) (T := m5.n) (n := es.length) (rb := rb) (cells := qd N ev8 rf co) (to := s.to) (fr := s.fr) hc; exact (DY.1 this).1)]
     exact GB.sg_row hc
    obtain ⟨-, g2, g3⟩ := st17.get _ hrow
    exact BX (rb c) (s.fr c) (1 + WR c) (by have := law9 c hc; omega) g3 g2
   ·rw [qah (by simpa using hc)] at hcl; cases hcl
  ·exact qa8 st1.ext.n (grown_low G10.gr B hB).1
  ·exact qa8 st1.ext.n (grown_low G14.gr B hB).1
  ·exact qa8 st1.ext.n (grown_low G17.gr B hB).1
  ·cases hB
   exact (st17.get 1 rfl).1
  ·have hrow : (u.σ1 m8.n m5.n N es.length rb (qd N ev8 rf co) s.to s.fr ++ (ex1 ++ ex2))[7 + c]? = some (rb c, yk (s.fr c)) := by
    rw [qaa (by have := GB.sg_row (u := u) (W := m8.n) (T := m5.n) (n := es.length) (rb := rb) (cells := qd N ev8 rf co) (to := s.to) (fr := s.fr) hc; exact (DY.1 this).1)]
    exact GB.sg_row hc
   cases hB
   exact (st17.get _ hrow).1
end Go.Sx
