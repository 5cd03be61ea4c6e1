/- Further contracts. -/
import Derived.Test.YtdfaibjngkfnaaaGf
import Derived.Test.YtdfaibjngkfnaaaGg
import Derived.Test.YtdfaibjngkfnaaaGb
import Derived.Test.YtdfaibjngkfnaaaGc
import Derived.Test.YtdfaibjngkfnaaaGe
set_option linter.unusedVariables false
set_option linter.unusedSimpArgs false
set_option linter.defProp false
set_option linter.unusedSimpArgs false
set_option linter.unusedVariables false
namespace Go.Dx
noncomputable section
/-- own blocks, one slice that grows, and what lies below m1 but for two blocks -/
structure GS {α : Type} (m0 m1 m : M) (P2 P3 : Nat) (σ : List (Nat × List Value)) (g : Value) (e : Nat) (f : α → List Value) (rows : List α) : Prop where
  st : St m0 m σ
  rest : Go.Dx.Rest m1.n [P2, P3] m1 m
  low : ∀ p ∈ σ, p.1 = P2 ∨ p.1 = P3 ∨ m1.n ≤ p.1
  m01 : m0.n ≤ m1.n
  m1b : m1.base ≤ m1.n
  gr : Grown m1 m g e f rows
  sep : ∀ B, blk g = some B → m1.n ≤ B ∧ B < m.n ∧ ∀ p ∈ σ, p.1 ≠ B
section
variable {α : Type} {m0 m1 m m' : M} {P2 P3 : Nat} {σ σ' : List (Nat × List Value)} {g : Value} {e : Nat} {f : α → List Value} {rows : List α}
theorem GS.step (h : GS m0 m1 m P2 P3 σ g e f rows) (k : Ext m m') : GS m0 m1 m' P2 P3 σ g e f rows :=
  ⟨h.st.step k, ⟨Nat.le_trans h.rest.n k.n, fun B hB hx => (k.obj B (Nat.lt_of_lt_of_le hB h.rest.n)).trans (h.rest.obj B hB hx), k.base.trans h.rest.base, k.log.trans h.rest.log⟩, h.low, h.m01, h.m1b, h.gr.ext k, fun B hB => let ⟨a, b, c⟩ := h.sep B hB; ⟨a, Nat.lt_of_lt_of_le b k.n, c⟩⟩
theorem GS.sub (h : GS m0 m1 m P2 P3 σ g e f rows) (hs : ∀ p ∈ σ', p ∈ σ) (hn : (σ'.map (·.1)).Nodup) : GS m0 m1 m P2 P3 σ' g e f rows :=
  ⟨h.st.sub hs hn, h.rest, fun p hp => h.low p (hs p hp), h.m01, h.m1b, h.gr, fun B hB => let ⟨a, b, c⟩ := h.sep B hB; ⟨a, b, fun p hp => c p (hs p hp)⟩⟩
theorem GS.row (h : GS m0 m1 m P2 P3 σ g e f rows) (l : List Value) : GS m0 m1 (newRow m l) P2 P3 ((m.n, l) :: σ) g e f rows := by
  have h' := h.step (Ext.row m l)
  refine ⟨h.st.row l, h'.rest, fun p hp => ?_, h.m01, h.m1b, h'.gr, fun B hB => ?_⟩
  · rcases List.mem_cons.1 hp with rfl | hp
    · exact .inr (.inr h.rest.n)
    · exact h.low p hp
  · obtain ⟨a, b, c⟩ := h.sep B hB
    refine ⟨a, by rw [newRow_n]; omega, fun p hp => ?_⟩
    rcases List.mem_cons.1 hp with rfl | hp
    · simp; omega
    · exact c p hp
theorem keys_set {k b : Nat} {l l' : List Value} (hk : σ[k]? = some (b, l)) : (σ.set k (b, l')).map (·.1) = σ.map (·.1) := by
  obtain ⟨hk', hke⟩ := List.getElem?_eq_some_iff.1 hk
  rw [List.map_set]
  show (σ.map (·.1)).set k b = _
  refine List.ext_getElem (by simp) fun i h1 h2 => ?_
  rw [List.getElem_set]
  split
  · subst_vars; simp [hke]
  · rfl
theorem key_mem {k b : Nat} {l l' : List Value} (hk : σ[k]? = some (b, l)) {p : Nat × List Value} (hp : p ∈ σ.set k (b, l')) : ∃ q ∈ σ, q.1 = p.1 := by
  have : p.1 ∈ (σ.set k (b, l')).map (·.1) := List.mem_map.2 ⟨p, hp, rfl⟩
  rw [keys_set hk] at this
  obtain ⟨q, hq, e⟩ := List.mem_map.1 this
  exact ⟨q, hq, e⟩
/-- one of one's own blocks has changed -/
theorem GS.put (h : GS m0 m1 m P2 P3 σ g e f rows) {k b : Nat} {l l' : List Value} (hk : σ[k]? = some (b, l)) (s2 : St m0 m' (σ.set k (b, l'))) (s3 : m'.n = m.n) (s4 : ∀ X, X ≠ b → m'.obj X = m.obj X) : GS m0 m1 m' P2 P3 (σ.set k (b, l')) g e f rows := by
  have hb := List.mem_of_getElem? hk
  refine ⟨s2, ⟨by rw [s3]; exact h.rest.n, fun B hB hx => ?_, by rw [s2.ext.base, ← h.st.ext.base]; exact h.rest.base, by rw [s2.ext.log, ← h.st.ext.log]; exact h.rest.log⟩, fun p hp => ?_, h.m01, h.m1b, ?_, fun B hB => ?_⟩
  · rw [s4 B ?_]; exact h.rest.obj B hB hx
    rintro rfl
    rcases h.low _ hb with e | e | e
    · simp at hx e; omega
    · simp at hx e; omega
    · simp at e; omega
  · obtain ⟨q, hq, e⟩ := key_mem hk hp
    rw [← e]; exact h.low q hq
  · exact h.gr.keep (by rw [s3]; exact Nat.le_refl _) fun B hB hg => s4 B fun e => (h.sep B hg).2.2 _ hb e.symm
  · obtain ⟨a, b', c⟩ := h.sep B hB
    refine ⟨a, by rw [s3]; exact b', fun p hp => ?_⟩
    obtain ⟨q, hq, e⟩ := key_mem hk hp
    rw [← e]; exact c q hq
theorem GS.store (h : GS m0 m1 m P2 P3 σ g e f rows) (k : Nat) {b o : Nat} {l : List Value} {v : Value} (hk : σ[k]? = some (b, l)) (ho : o < l.length) (hv : okC v = true) :
    ∃ m', storeS 1 (.pointer (some ⟨b, o, none⟩)) v m = some (undef, m') ∧ GS m0 m1 m' P2 P3 (σ.set k (b, l.set o v)) g e f rows ∧ m'.n = m.n ∧ ∀ X, X ≠ b → m'.obj X = m.obj X := by
  obtain ⟨m', s1, s2, s3, s4⟩ := h.st.store k hk ho hv
  exact ⟨m', s1, h.put hk s2 s3 s4, s3, s4⟩
theorem GS.storeAny (h : GS m0 m1 m P2 P3 σ g e f rows) (k : Nat) {b o : Nat} {l : List Value} {v : Value} (hk : σ[k]? = some (b, l)) (ho : o < l.length) (hv : okC v = true) :
    ∃ m', storeS 1 (.pointer (some ⟨b, o, none⟩)) v (forAny m) = some (undef, m') ∧ m'.log = [b] ∧ GS m0 m1 (behind m m') P2 P3 (σ.set k (b, l.set o v)) g e f rows ∧ (behind m m').n = m.n ∧ ∀ X, X ≠ b → (behind m m').obj X = m.obj X := by
  obtain ⟨m', s1, s1', s2, s3, s4⟩ := h.st.storeAny k hk ho hv
  exact ⟨m', s1, s1', h.put hk s2 s3 s4, s3, s4⟩
/-- the slice has grown -/
theorem GS.grow (h : GS m0 m1 m P2 P3 σ g e f rows) {M1 : M} (hM : Ext m M1) {g' : Value} {rows' : List α} (n2 : M1.n ≤ m'.n) (g2 : Grown m1 m' g' e f rows') (eb : m'.base = m.base) (el : m'.log = m.log) (k2 : ∀ B, B < M1.n → blk g ≠ some B → m'.obj B = M1.obj B) (b2 : ∀ B, blk g' = some B → M1.n ≤ B) : GS m0 m1 m' P2 P3 σ g' e f rows' := by
  have hMn := hM.n
  have keep : ∀ B, B < m.n → blk g ≠ some B → m'.obj B = m.obj B := fun B hB hg => (k2 B (by omega) hg).trans (hM.obj B hB)
  have h01 := h.m01
  have low : ∀ B, B < m1.n → blk g ≠ some B := fun B hB hg => by have := (h.sep B hg).1; omega
  have hr := h.rest.n
  refine ⟨⟨⟨by have := h.st.ext.n; omega, fun B hB => ?_, by rw [eb, h.st.ext.base], by rw [el, h.st.ext.log]⟩, h.st.base, fun p hp => ?_, h.st.nd⟩, ⟨by omega, fun B hB hx => ?_, by rw [eb, h.rest.base], by rw [el, h.rest.log]⟩, h.low, h.m01, h.m1b, g2, fun B hB => ?_⟩
  · rw [keep B (by omega) (low B (by omega))]; exact h.st.ext.obj B hB
  · obtain ⟨a, b, c⟩ := h.st.arr p hp
    exact ⟨a, by omega, c.congr (keep p.1 b fun hg => (h.sep _ hg).2.2 p hp rfl)⟩
  · rw [keep B (by omega) (low B hB)]; exact h.rest.obj B hB hx
  · have h1 := b2 B hB
    have h2 := (Go.Sx.grown_low g2 B hB).2
    exact ⟨by omega, h2, fun p hp => by have := (h.st.arr p hp).2.1; omega⟩
theorem GS.app (h : GS m0 m1 m P2 P3 σ g e f rows) (he : 0 < e) (hf : ∀ x, (f x).length = e) (hok : ∀ x, ∀ v ∈ f x, okC v = true) {x : α} {M1 : M} (hM : Ext m M1) {X : Nat} {sp : Option Nat} (hx : loads M1 ⟨X, 0, sp⟩ e = some (f x)) {bytes : Nat} (hm : (rows.length + 1) * bytes ≤ most) (hn : rows.length + 1 ≤ 4611686018427387904) :
    ∃ v' m2, appendV M1 e bytes g (.slice (some ⟨X, 0, sp⟩) 1 1) = some (v', m2) ∧ GS m0 m1 m2 P2 P3 σ v' e f (rows ++ [x]) ∧ M1.n ≤ m2.n ∧ (∀ B, B < m.n → blk g ≠ some B → m2.obj B = m.obj B) ∧ (∀ B, blk v' = some B → M1.n ≤ B) := by
  have hMn := hM.n
  have hr := h.rest.n
  obtain ⟨v', m2, h1, h2, h3, h4, h5, h6, h7⟩ := (h.gr.ext hM).core he hf hok hx (by omega) hm hn
  refine ⟨v', m2, h1, h.grow hM (by omega) h2 (by rw [h4, hM.base]) ?_ h6 h7, by omega, fun B hB hg => (h6 B (by omega) hg).trans (hM.obj B hB), h7⟩
  rcases h5 with h5 | ⟨B, _, hB, h5⟩
  · rw [h5, hM.log]
  · have hb := h.st.ext.base
    have hb2 := h.st.base
    have hb3 := h.st.ext.n
    have hb4 := h.rest.base
    rw [h5, note_ge (by rw [hM.base]; have := h.m1b; omega), hM.log]
theorem GS.appAny (h : GS m0 m1 m P2 P3 σ g e f rows) (he : 0 < e) (hf : ∀ x, (f x).length = e) (hok : ∀ x, ∀ v ∈ f x, okC v = true) {x : α} {M1 : M} (hM : Ext m M1) {X : Nat} {sp : Option Nat} (hx : loads M1 ⟨X, 0, sp⟩ e = some (f x)) {bytes : Nat} (hm : (rows.length + 1) * bytes ≤ most) (hn : rows.length + 1 ≤ 4611686018427387904) :
    ∃ v' m2, appendV (forAny M1) e bytes g (.slice (some ⟨X, 0, sp⟩) 1 1) = some (v', m2) ∧ (m2.log = [] ∨ ∃ B, blk g = some B ∧ m2.log = [B]) ∧ GS m0 m1 (behind M1 m2) P2 P3 σ v' e f (rows ++ [x]) ∧ M1.n ≤ (behind M1 m2).n ∧ (∀ B, B < m.n → blk g ≠ some B → (behind M1 m2).obj B = m.obj B) ∧ (∀ B, blk v' = some B → M1.n ≤ B) := by
  have hMn := hM.n
  have hr := h.rest.n
  have hA : Grown m1 (forAny M1) g e f rows := (h.gr.ext hM).keep (by rw [forAny_n]; exact Nat.le_refl _) fun B _ _ => forAny_obj _ _
  have hx' : loads (forAny M1) ⟨X, 0, sp⟩ e = some (f x) := by rw [loads_any]; exact hx
  obtain ⟨v', m2, h1, h2, h3, h4, h5, h6, h7⟩ := hA.core he hf hok hx' (by rw [forAny_n]; omega) hm hn
  rw [forAny_n] at h3 h6 h7
  have hlog : m2.log = [] ∨ ∃ B, blk g = some B ∧ m2.log = [B] := by
    rcases h5 with h5 | ⟨B, hB, _, h5⟩
    · exact .inl (by rw [h5, forAny_log])
    · refine .inr ⟨B, hB, ?_⟩
      rw [h5, forAny_base, forAny_log]
      have := (h.sep B hB).2.1
      unfold note
      have h' : Nat.ble M1.n B = false := by
        cases q : Nat.ble M1.n B with
        | false => rfl
        | true => exact absurd (Nat.le_of_ble_eq_true q) (by omega)
      rw [h']; rfl
  have k6 : ∀ B, B < M1.n → blk g ≠ some B → (behind M1 m2).obj B = M1.obj B := fun B hB hg => by rw [behind_obj, h6 B hB hg, forAny_obj]
  refine ⟨v', m2, h1, hlog, h.grow hM (by rw [behind_n]; omega) (h2.keep (by rw [behind_n]; exact Nat.le_refl _) fun B _ _ => behind_obj _ _ _) (by rw [behind_base, hM.base]) ?_ k6 h7, by rw [behind_n]; omega, fun B hB hg => (k6 B (by omega) hg).trans (hM.obj B hB), h7⟩
  rw [behind_log, ← hM.log]
  rcases hlog with h' | ⟨B, hB, h'⟩
  · rw [h']; rfl
  · rw [h']
    have := (h.sep B hB).1
    have hb4 := h.rest.base
    show notes M1.base (note M1.base B M1.log) [] = M1.log
    rw [note_ge (by rw [hM.base, hb4]; have := h.m1b; omega)]; rfl
/-- the loop's own block is written -/
theorem GS.putL (h : GS m0 m1 m P2 P3 σ g e f rows) {L : Nat} (hL : ∀ p ∈ σ, p.1 ≠ L) (h1 : m1.n ≤ L) (hg : blk g ≠ some L) (o : DObj) : GS m0 m1 (m.put L o) P2 P3 σ g e f rows := by
  have h0 := h.st.ext.n
  have hr := h.rest
  have hb := h.m1b
  refine ⟨h.st.putL hL (Nat.le_trans h.m01 h1) o, ⟨by rw [M.n_put]; exact hr.n, fun B hB hx => by rw [M.obj_put, if_neg (by omega)]; exact hr.obj B hB hx, by rw [M.base_put]; exact hr.base, by rw [log_put_ge (by rw [hr.base]; omega)]; exact hr.log⟩, h.low, h.m01, h.m1b, h.gr.keep (by rw [M.n_put]; exact Nat.le_refl _) fun B _ hB => by rw [M.obj_put, if_neg (by rintro rfl; exact hg hB)], fun B hB => by rw [M.n_put]; exact h.sep B hB⟩
/-- the slice is done: its block is one's own -/
theorem GS.done (h : GS m0 m1 m P2 P3 σ g e f rows) (hne : rows ≠ []) {β : Type} (e' : Nat) (f' : β → List Value) : ∃ B, g = .slice (some ⟨B, 0, some (code e false)⟩) rows.length rows.length ∧ m1.n ≤ B ∧ GS m0 m1 m P2 P3 ((B, rows.flatMap f) :: σ) (.slice none 0 0) e' f' [] := by
  rcases h.gr with ⟨h1, _⟩ | ⟨B, h1, h2, h3, h4, h5⟩
  · exact absurd h1 hne
  · have hs := (h.sep B (by rw [h4]; rfl)).2.2
    refine ⟨B, h4, h1, ⟨h.st.ext, h.st.base, fun p hp => ?_, ?_⟩, h.rest, fun p hp => ?_, h.m01, h.m1b, .nil, fun C hC => by cases hC⟩
    · rcases List.mem_cons.1 hp with rfl | hp
      · exact ⟨by have := h.m01; omega, h2, h5⟩
      · exact h.st.arr p hp
    · rw [List.map_cons, List.nodup_cons]
      refine ⟨fun hm => ?_, h.st.nd⟩
      obtain ⟨p, hp, e⟩ := List.mem_map.1 hm
      exact hs p hp e
    · rcases List.mem_cons.1 hp with rfl | hp
      · exact .inr (.inr h1)
      · exact h.low p hp
end
end
end Go.Dx

set_option linter.unusedSimpArgs false
set_option linter.unusedVariables false
namespace Go.Dx
section
variable {α β : Type} {m0 m1 m m' : M} {P2 P3 : Nat} {σ : List (Nat × List Value)} {g : Value} {e e' : Nat} {f : α → List Value} {f' : β → List Value} {rows : List α}
theorem GS.ofSt (h : St m0 m σ) (e : Nat) (f : α → List Value) : GS m0 m0 m 0 0 σ (.slice none 0 0) e f [] :=
  ⟨h, ⟨h.ext.n, fun B hB _ => h.ext.obj B hB, h.ext.base, h.ext.log⟩, fun p hp => .inr (.inr (h.arr p hp).1), Nat.le_refl _, h.base, .nil, fun B hB => by cases hB⟩
theorem GS.addBlk (h : GS m0 m1 m P2 P3 σ g e f rows) (hE : Ext m m') {B : Nat} {l : List Value} (h1 : m.n ≤ B) (h2 : B < m'.n) (h3 : Arr m' B l) : GS m0 m1 m' P2 P3 (σ ++ [(B, l)]) g e f rows := by
  have h' := h.step hE
  have hr := h.rest.n
  have h01 := h.m01
  have hlt : ∀ p ∈ σ, p.1 < B := fun p hp => Nat.lt_of_lt_of_le (h.st.arr p hp).2.1 h1
  refine ⟨⟨h'.st.ext, h'.st.base, fun p hp => ?_, ?_⟩, h'.rest, fun p hp => ?_, h.m01, h.m1b, h'.gr, fun C hC => ?_⟩
  · rcases List.mem_append.1 hp with hp | hp
    · exact h'.st.arr p hp
    · rw [List.mem_singleton.1 hp]; exact ⟨by show m0.n ≤ B; omega, h2, h3⟩
  · rw [List.map_append, List.nodup_append]
    refine ⟨h.st.nd, by simp, fun a ha b hb => ?_⟩
    obtain ⟨p, hp, rfl⟩ := List.mem_map.1 ha
    simp at hb
    have := hlt p hp
    omega
  · rcases List.mem_append.1 hp with hp | hp
    · exact h.low p hp
    · rw [List.mem_singleton.1 hp]; exact .inr (.inr (by show m1.n ≤ B; omega))
  · obtain ⟨a, b, c⟩ := h.sep C hC
    refine ⟨a, (h'.sep C hC).2.1, fun p hp => ?_⟩
    rcases List.mem_append.1 hp with hp | hp
    · exact c p hp
    · rw [List.mem_singleton.1 hp]; show B ≠ C; omega
end
end Go.Dx

set_option linter.unusedSimpArgs false
set_option linter.unusedVariables false
namespace Go.Dx
section
variable {m0 m m' : M} {σ : List (Nat × List Value)} {k b o : Nat} {l : List Value}
/-- cells are written, in a region that draws -/
theorem St.storesAny (h : St m0 m σ) (k : Nat) (hk : σ[k]? = some (b, l)) {l' : List Value} (hne : l' ≠ []) (hn : o + l'.length ≤ l.length) (hv : ∀ v ∈ l', okC v = true) :
    ∃ m', stores (forAny m) ⟨b, o, none⟩ l' = some m' ∧ m'.log = [b] ∧ St m0 (Dx.behind m m') (σ.set k (b, over l o l')) ∧ (Dx.behind m m').n = m.n := by
  obtain ⟨h1, h2, h3⟩ := h.get k hk
  have h3' : Arr (forAny m) b l := h3.congr (forAny_obj m b)
  obtain ⟨s1, s2, s3, s4, s5, s6⟩ := stores_putN (o := o) (l := l') h3' hn hv
  have hlog : (putN (forAny m) b o l').log = [b] := by
    obtain ⟨c, hc, hcl⟩ := h3'
    obtain ⟨v0, vs, rfl⟩ : ∃ v0 vs, l' = v0 :: vs := by
      cases l' with
      | nil => exact absurd rfl hne
      | cons a b => exact ⟨a, b, rfl⟩
    have : ∃ c', stores (forAny m) ⟨b, o, none⟩ (v0 :: vs) = some ((forAny m).put b (.cells c')) := by
      have hs : stores (forAny m) ⟨b, o, none⟩ (v0 :: vs) = ob (oCells ((forAny m).obj b)) fun c => ob (stn c o (v0 :: vs)) fun c' => some ((forAny m).put b (.cells c')) := rfl
      rw [hs, hc]
      obtain ⟨c', e', _⟩ := stn_of (vs := v0 :: vs) (o := o) hcl hn hv
      exact ⟨c', by show ob (stn c o (v0 :: vs)) _ = _; rw [e']; rfl⟩
    obtain ⟨c', e'⟩ := this
    have hp : putN (forAny m) b o (v0 :: vs) = (forAny m).put b (.cells c') := by unfold putN; rw [e']; rfl
    rw [hp]
    cases m with | mk a nx bs wl =>
    show note nx b [] = [b]
    have h2' : b < nx := h2
    unfold note
    have : Nat.ble nx b = false := by
      cases q : Nat.ble nx b with
      | false => rfl
      | true => exact absurd (Nat.le_of_ble_eq_true q) (by omega)
    rw [this]; rfl
  refine ⟨_, s1, hlog, h.put' k hk (by rw [behind_n, s3, forAny_n]) (behind_base _ _) ?_ (fun X hX => by rw [behind_obj, s5 X hX, forAny_obj]) (s2.congr (behind_obj _ _ _)), by rw [behind_n, s3, forAny_n]⟩
  rw [behind_log, hlog]
  refine notes_ge fun B hB => ?_
  rw [List.mem_singleton.1 hB, h.ext.base]
  have := h.base
  omega
end
@[simp] theorem mCopy_ap (e : Nat) (s o : V) (x : Ex) (t : Tm) (m : M) : mCopy e s o x t m = copyV m e (o t) (s t) := _root_.id rfl
end Go.Dx
namespace Go.Sx
open Go.Dx Go.Proofs
set_option maxRecDepth 100000 in
theorem Mul_c (n q : Nat) (h3 : 3 ≤ q) (h6 : q ≤ 6) (m : M) : (ex Try.prog (n + 2)).f 83 [.int .u64 1, .int .u64 (q : Int)] m = some (.tuple #[.int .u64 0, .int .u64 (q : Int)], m) := by
  have H : Dx.Call (ex Try.prog (n + 2)) 83 [.int .u64 1, .int .u64 (q : Int)] m fun v m' => v = .tuple #[.int .u64 0, .int .u64 (q : Int)] ∧ m' = m := by
    refine call_ret d_b_Mul_ok (by simp) ?_
    rcases (by omega : q = 3 ∨ q = 4 ∨ q = 5 ∨ q = 6) with rfl | rfl | rfl | rfl
    · exact ⟨.tuple #[.int .u64 0, .int .u64 3], m, rfl, Ext.refl m, rfl, rfl⟩
    · exact ⟨.tuple #[.int .u64 0, .int .u64 4], m, rfl, Ext.refl m, rfl, rfl⟩
    · exact ⟨.tuple #[.int .u64 0, .int .u64 5], m, rfl, Ext.refl m, rfl, rfl⟩
    · exact ⟨.tuple #[.int .u64 0, .int .u64 6], m, rfl, Ext.refl m, rfl, rfl⟩
  obtain ⟨v, m', h1, _, rfl, rfl⟩ := H
  exact h1
/-- so many ones, and zeros behind -/
def onesL (f q : Nat) : List Value := List.replicate f (iv 1) ++ List.replicate (q - f) (iv 0)
theorem onesL_len {f q : Nat} (h : f ≤ q) : (onesL f q).length = q := by unfold onesL; rw [List.length_append, List.length_replicate, List.length_replicate]; omega
theorem over_ones {f q k : Nat} (h : f + k ≤ q) : over (onesL f q) f (List.replicate k (iv 1)) = onesL (f + k) q := by
  have := over_mid (List.replicate k (iv 1)) (List.replicate (q - f) (iv 0)) (List.replicate f (iv 1)) (by rw [List.length_replicate, List.length_replicate]; omega)
  rw [List.length_replicate, List.length_replicate] at this
  unfold onesL
  rw [this, List.replicate_append_replicate, List.drop_replicate]
  congr 2; omega
theorem Repeat_c (n : Nat) (B q : Nat) (h3 : 3 ≤ q) (h6 : q ≤ 6) (m : M) (hm : m.base ≤ m.n) (hB : B < m.n) (hA : Arr m B [iv 1]) :
    Dx.Call (ex Try.prog (n + 3)) 62 [.slice (some ⟨B, 0, some 3⟩) 1 1, iv q] m fun v m' => ∃ N, v = .slice (some ⟨N, 0, some 3⟩) q q ∧ m.n ≤ N ∧ N < m'.n ∧ Arr m' N (onesL q q) := by
  refine call_ret d_s_Repeat_int_int_ok (by simp) ?_
  have hneg : ((q : Int) < 0) = False := eq_false (by omega)
  have hl1 : lenS (.slice (some ⟨B, 0, some 3⟩) 1 1) = some (iv 1) := rfl
  have c1 : convIV .u64 (.int .i64 1) = some (.int .u64 1) := rfl
  have cq := convI_u64 q (by omega)
  have hmul := Mul_c n q h3 h6 m
  have hgt : (9223372036854775807 < (q : Int)) = False := eq_false (by omega)
  have cb : convIV .i64 (.int .u64 (q : Int)) = some (.int .i64 (q : Int)) := by
    show some (Value.int .i64 (wrapF .i64 (q : Int))) = _
    rw [wrapF_eq, wrap64 _ (by omega) (by omega)]
  have mk1 := mk_rows (n := q) (e := 1) (bytes := 8) (zs := [.int .i64 0]) rfl (by omega) (by omega) (by omega) m
  have code1 : code 1 true = 3 := rfl
  rw [code1] at mk1
  have st0 := (St.nil hm (Ext.refl m)).row ((List.range q).flatMap fun _ => [Value.int .i64 0])
  have hz : ((List.range q).flatMap fun _ => [Value.int .i64 0]) = onesL 0 q := by
    unfold onesL
    rcases (by omega : q = 3 ∨ q = 4 ∨ q = 5 ∨ q = 6) with rfl | rfl | rfl | rfl <;> rfl
  rw [hz] at mk1 st0
  obtain ⟨m1, hm1⟩ : ∃ m1, m1 = Dx.newRow m (onesL 0 q) := ⟨_, rfl⟩
  rw [← hm1] at mk1 st0
  have hA1 : Arr m1 B [iv 1] := by rw [hm1]; exact hA.ext (Ext.row _ _) hB
  -- the first copy
  obtain ⟨g1, g2, g3⟩ := st0.get 0 rfl
  obtain ⟨s1, s2, s3, s4, s5, s6⟩ := stores_putN (o := 0) (l := [iv 1]) g3 (by rw [onesL_len (by omega)]; simp; omega) (by simp [okC])
  have st1 := st0.put' 0 rfl s3 s4 (s6 (by have := st0.ext.base; omega)) s5 s2
  have ho1 : over (onesL 0 q) 0 [iv 1] = onesL 1 q := by have := over_ones (f := 0) (q := q) (k := 1) (by omega); exact this
  rw [ho1] at st1
  obtain ⟨m2, hm2⟩ : ∃ m2, m2 = putN m1 m.n 0 [iv 1] := ⟨_, rfl⟩
  rw [← hm2] at s1 st1
  have st1' : St m m2 [(m.n, onesL 1 q)] := st1
  have hcp : copyV m1 1 (.slice (some ⟨B, 0, some 3⟩) 1 1) (.slice (some ⟨m.n, 0, some 3⟩) q q) = some (.int .i64 1, m2) := by
    show ob (some 1) (fun k => ob (firsts m1 1 (bif Nat.ble k q then k else q) (.slice (some ⟨B, 0, some 3⟩) 1 1)) fun l => copyW m1 (bif Nat.ble k q then k else q) (some ⟨m.n, 0, some 3⟩) l) = _
    rw [ob_some', Nat.ble_eq_true_of_le (by omega)]
    show ob (loads m1 ⟨B, 0, some 3⟩ (1 * 1)) _ = _
    rw [hA1.loads (by simp)]
    show ob (stores m1 ⟨m.n, 0, none⟩ [iv 1]) _ = _
    rw [s1]; rfl
  have hlq : lenS (.slice (some ⟨m.n, 0, some 3⟩) q q) = some (iv q) := rfl
  simp [hneg, hl1, c1, cq, hmul, hgt, cb, mk1, hcp]
  refine loop_run (c := c_s_Repeat_int_int_9) rfl (Ret m _) (fun r t m' => Tm.get 7 t = .slice (some ⟨m.n, 0, some 3⟩) q q ∧ Tm.get 8 t = iv (min (2 ^ r) q : Nat) ∧ St m m' [(m.n, onesL (min (2 ^ r) q) q)]) 3 (by omega)
    ⟨by simp, by simp; omega, by
      have : min (2 ^ 0) q = 1 := by simp; omega
      rw [this]; exact st1'⟩ (fun r t m' k hr hI hk => ?_)
  obtain ⟨t7, t8, st⟩ := hI
  obtain ⟨f, hf⟩ : ∃ f, f = min (2 ^ r) q := ⟨_, rfl⟩
  rw [← hf] at t8 st
  have hpow : 1 ≤ 2 ^ r := Nat.one_le_two_pow
  have hfq : f ≤ q := by rw [hf]; exact Nat.min_le_right _ _
  have hf1 : 1 ≤ f := by rw [hf]; omega
  by_cases hlt : f < q
  · have hd := dlt hlt
    have hr3 : r < 3 := by
      rcases Nat.lt_or_ge r 3 with h | h
      · exact h
      · have : r = 3 := by omega
        subst this
        have : (2 : Nat) ^ 3 = 8 := rfl
        omega
    obtain ⟨c, hc⟩ : ∃ c, c = min f (q - f) := ⟨_, rfl⟩
    have hfnext : f + c = min (2 ^ (r + 1)) q := by
      have h2 : (2 : Nat) ^ (r + 1) = 2 * 2 ^ r := by rw [Nat.pow_succ]; omega
      have h5 : f = 2 ^ r := by omega
      rw [h2]; omega
    have sl1 : slV 1 (some (.int .i64 (f : Int))) none none (.slice (some ⟨m.n, 0, some 3⟩) q q) = some (.slice (some ⟨m.n, f, some 3⟩) (q - f) (q - f)) := by
      rcases (by omega : q = 3 ∨ q = 4 ∨ q = 5 ∨ q = 6) with rfl | rfl | rfl | rfl <;> rcases (by omega : f = 1 ∨ f = 2 ∨ f = 3 ∨ f = 4 ∨ f = 5) with rfl | rfl | rfl | rfl | rfl <;> first | rfl | omega
    have sl2 : slV 1 none (some (.int .i64 (f : Int))) none (.slice (some ⟨m.n, 0, some 3⟩) q q) = some (.slice (some ⟨m.n, 0, some 3⟩) f q) := by
      rcases (by omega : q = 3 ∨ q = 4 ∨ q = 5 ∨ q = 6) with rfl | rfl | rfl | rfl <;> rcases (by omega : f = 1 ∨ f = 2 ∨ f = 3 ∨ f = 4 ∨ f = 5) with rfl | rfl | rfl | rfl | rfl <;> first | rfl | omega
    have hA' := (st.get 0 rfl).2.2
    have hld : loads m' ⟨m.n, 0, some 3⟩ c = some (List.replicate c (iv 1)) := by
      rw [hA'.loads (by rw [onesL_len hfq]; omega), List.drop_zero]
      unfold onesL
      rw [List.take_append_of_le_length (by rw [List.length_replicate]; omega), List.take_replicate, Nat.min_eq_left (by omega)]
    obtain ⟨m3', u1, u2, u3, u4⟩ := st.storesAny 0 rfl (o := f) (l' := List.replicate c (iv 1)) (by intro h; have := congrArg List.length h; rw [List.length_replicate] at this; simp at this; omega) (by rw [List.length_replicate, onesL_len hfq]; omega) (fun v hv => by rw [(List.mem_replicate.1 hv).2]; rfl)
    obtain ⟨m3, hm3⟩ : ∃ m3, m3 = behind m' m3' := ⟨_, rfl⟩
    rw [← hm3, over_ones (by omega), hfnext] at u3
    have u3' : St m m3 [(m.n, onesL (min (2 ^ (r + 1)) q) q)] := u3
    have hcv : copyV (forAny m') 1 (.slice (some ⟨m.n, 0, some 3⟩) f q) (.slice (some ⟨m.n, f, some 3⟩) (q - f) (q - f)) = some (.int .i64 (c : Int), m3') := by
      show ob (some f) (fun k => ob (firsts (forAny m') 1 (bif Nat.ble k (q - f) then k else q - f) (.slice (some ⟨m.n, 0, some 3⟩) f q)) fun l => copyW (forAny m') (bif Nat.ble k (q - f) then k else q - f) (some ⟨m.n, f, some 3⟩) l) = _
      rw [ob_some']
      have hbc : (bif Nat.ble f (q - f) then f else q - f) = c := by
        by_cases h : f ≤ q - f
        · rw [Nat.ble_eq_true_of_le h, hc, Nat.min_eq_left h]; rfl
        · have : Nat.ble f (q - f) = false := by
            cases g : Nat.ble f (q - f) with
            | false => rfl
            | true => exact absurd (Nat.le_of_ble_eq_true g) h
          rw [this, hc, Nat.min_eq_right (by omega)]; rfl
      rw [hbc]
      show ob (loads (forAny m') ⟨m.n, 0, some 3⟩ (c * 1)) _ = _
      rw [loads_any, Nat.mul_one, hld]
      show ob (stores (forAny m') ⟨m.n, f, none⟩ (List.replicate c (iv 1))) _ = _
      rw [u1]; rfl
    have wfc : IntKind.i64.wrap ((f : Int) + (c : Int)) = ((min (2 ^ (r + 1)) q : Nat) : Int) := by rw [wrap64 _ (by omega) (by omega), ← hfnext, Int.natCast_add]
    simp [t7, t8, hlq, hd, sl1, sl2, hcv, u2, ← hm3, wfc]
    exact hk hr3 _ _ ⟨by simp [t7], by simp, u3'⟩
  · have hfe : f = q := by omega
    have hd : ((f : Int) < (q : Int)) = False := eq_false (by omega)
    rw [hfe] at t8 st
    have hd2 : ((q : Int) < (q : Int)) = False := eq_false (by omega)
    simp [t7, t8, hlq, hd2]
    obtain ⟨g1, g2, g3⟩ := st.get 0 rfl
    exact ret_1 st.ext ⟨m.n, by simp [t7], g1, g2, g3⟩
end Go.Sx

set_option linter.unusedSimpArgs false
set_option linter.unusedVariables false
namespace Go.Dx
/-- an end that may have written what was there -/
def FinR (P : Value → M → Prop) : Option Out → Prop := fun o => ∃ v m', ob o outV = some (v, m') ∧ P v m'
theorem call_fin {P : Program} {g : Nat} {c : SC} {nt : Nat} {res : List RV} {n : Nat} {args : List Value} {m : M} {Q : Value → M → Prop} (hd : fnOf P g = some ⟨c, nt, res⟩) (ha : args.length ≤ nt)
    (h : FinR Q (c (ex P n) (resK res) noK (resK res) (initT .blank 0 args) m)) : ∃ v m', (ex P (n + 1)).f g args m = some (v, m') ∧ Q v m' := by
  obtain ⟨v, m', e, h2⟩ := h
  exact ⟨v, m', by rw [ex_f hd, callF_ap _ _ _ _ _ _ ha]; exact e, h2⟩
theorem fin_0 {m : M} {Q : Value → M → Prop} {t : Tm} (hq : Q (tupV []) m) : FinR Q (resK [] t m) := by
  refine ⟨tupV [], m, ?_, hq⟩
  rw [resK_ap, show resV t m [] = some [] from rfl, ob_some', fin_out]
section
variable {α : Type} {m0 m1 m m' : M} {P2 P3 : Nat} {σ σ' : List (Nat × List Value)} {g : Value} {e : Nat} {f : α → List Value} {rows : List α}
theorem GS.storeN (h : GS m0 m1 m P2 P3 σ g e f rows) (k : Nat) {b o n : Nat} {l l' : List Value} (hk : σ[k]? = some (b, l)) (hl' : l'.length = n) (hn : o + n ≤ l.length) (hv : ∀ v ∈ l', okC v = true) :
    ∃ m', storeS n (.pointer (some ⟨b, o, none⟩)) (.agg ⟨l'⟩) m = some (undef, m') ∧ GS m0 m1 m' P2 P3 (σ.set k (b, over l o l')) g e f rows ∧ m'.n = m.n ∧ ∀ X, X ≠ b → m'.obj X = m.obj X := by
  obtain ⟨h1, h2, h3⟩ := h.st.get k hk
  have e := storeS_arr (n := n) (o := o) (v := .agg ⟨l'⟩) (l := l') h3 rfl hl' hn hv
  obtain ⟨_, s2, s3, s4, s5, s6⟩ := stores_putN (o := o) (l := l') h3 (by omega) hv
  have hs := h.st.put' k hk s3 s4 (s6 (by have := h.st.ext.base; have := h.st.base; omega)) s5 s2
  exact ⟨_, e, h.put hk hs s3 s5, s3, s5⟩
end
@[simp] theorem bslice_cyc (m : M) (a b : Value) : bsliceS 2 1 (rep 1 [.slice none 0 0, .slice none 0 0]) [(0, 2, .agg ⟨[a, b]⟩)] m = some (.slice (some ⟨m.n, 0, some 5⟩) 1 1, newRow m [a, b]) := _root_.id rfl
end Go.Dx
namespace Go.Sx
open Go.Dx Go.Proofs
/-- what lies as a row of two slices -/
abbrev RowV := {p : Value × Value // Dx.okC p.1 = true ∧ Dx.okC p.2 = true}
def rowC (r : RowV) : List Value := [r.1.1, r.1.2]
theorem rowC_len (r : RowV) : (rowC r).length = 2 := rfl
theorem rowC_ok (r : RowV) : ∀ v ∈ rowC r, Dx.okC v = true := by
  intro v hv
  simp only [rowC, List.mem_cons, List.not_mem_nil, or_false] at hv
  rcases hv with rfl | rfl
  · exact r.2.1
  · exact r.2.2
structure RowOk (m : M) (K : Nat) (g : Value) (r : RowV) (c : Cyc) : Prop where
  e : Rd m r.1.1 2 edgeRow c.1
  d : Rd m r.1.2 1 modeRow c.2
  be : ∀ B, blk r.1.1 = some B → K ≤ B ∧ blk g ≠ some B
  bd : ∀ B, blk r.1.2 = some B → K ≤ B ∧ blk g ≠ some B
theorem RowOk.keep {m m' : M} {K : Nat} {g g' : Value} {r : RowV} {c : Cyc} (h : RowOk m K g r c) (hn : m.n ≤ m'.n) (ho : ∀ B, K ≤ B → B < m.n → blk g ≠ some B → m'.obj B = m.obj B) (hg : ∀ B, blk g' = some B → blk g = some B ∨ m.n ≤ B) : RowOk m' K g' r c := by
  refine ⟨h.e.congr hn fun B hB => ho B (h.be B hB).1 (h.e.lt B hB) (h.be B hB).2, h.d.congr hn fun B hB => ho B (h.bd B hB).1 (h.d.lt B hB) (h.bd B hB).2, fun B hB => ⟨(h.be B hB).1, fun hg' => ?_⟩, fun B hB => ⟨(h.bd B hB).1, fun hg' => ?_⟩⟩
  · rcases hg B hg' with h' | h'
    · exact (h.be B hB).2 h'
    · have := h.e.lt B hB; omega
  · rcases hg B hg' with h' | h'
    · exact (h.bd B hB).2 h'
    · have := h.d.lt B hB; omega
structure FPar where
  n : Nat
  nP : Nat
  oP : Nat
  cP : Nat
  fP : Nat
  eB : Nat
  mB : Nat
  K : Nat
namespace FPar
def ptr (B : Nat) : Value := .pointer (some ⟨B, 0, none⟩)
def caps (p : FPar) : List Value := [ptr p.nP, ptr p.cP, ptr p.oP, ptr p.fP]
def fv (p : FPar) : Value := .func (.func 63) ⟨[]⟩ ⟨p.caps⟩
def ev (p : FPar) : Value := .slice (some ⟨p.eB, 0, some 5⟩) p.n p.n
def mv (p : FPar) : Value := .slice (some ⟨p.mB, 0, some 3⟩) p.n p.n
def sg (p : FPar) (es : List (Int × Int)) (g : Value) : List (Nat × List Value) :=
  [(p.eB, es.flatMap edgeRow), (p.oP, [g]), (p.nP, [iv p.n]), (p.cP, [p.ev, p.mv]), (p.fP, [p.fv]), (p.mB, onesL p.n p.n)]
end FPar
structure FlS (p : FPar) (m0 m : M) (es : List (Int × Int)) (g : Value) (rows : List RowV) (cs : List Cyc) : Prop where
  gs : GS m0 m0 m 0 0 (p.sg es g) g 2 rowC rows
  len : es.length = p.n
  gK : ∀ B, blk g = some B → p.K ≤ B
  keys : ∀ q ∈ p.sg es g, q.1 < p.K
  Kn : p.K ≤ m.n
  rl : rows.length = cs.length
  rk : ∀ (i : Nat) r c, rows[i]? = some r → cs[i]? = some c → RowOk m p.K g r c
theorem FlS.step {p : FPar} {m0 m m' : M} {es g rows cs} (h : FlS p m0 m es g rows cs) (k : Ext m m') : FlS p m0 m' es g rows cs :=
  ⟨h.gs.step k, h.len, h.gK, h.keys, Nat.le_trans h.Kn k.n, h.rl, fun i r c hr hc => (h.rk i r c hr hc).keep k.n (fun B _ hB _ => k.obj B hB) fun B hB => .inl hB⟩
theorem ones_flat (n : Nat) : (List.replicate n (1 : Int)).flatMap modeRow = onesL n n := by
  unfold onesL
  rw [Nat.sub_self, List.replicate_zero, List.append_nil]
  induction n with
  | zero => rfl
  | succ n ih => rw [List.replicate_succ, List.flatMap_cons, ih, List.replicate_succ]; rfl
theorem FlS.edges {p : FPar} {m0 m : M} {es g rows cs} (h : FlS p m0 m es g rows cs) : Rd m p.ev 2 edgeRow es := by
  have := (h.gs.st.get 0 rfl)
  have r := rd_made (c := 5) edgeRow_len this.2.2 this.2.1
  rw [h.len] at r
  exact r
theorem FlS.modes {p : FPar} {m0 m : M} {es g rows cs} (h : FlS p m0 m es g rows cs) : Rd m p.mv 1 modeRow (List.replicate p.n 1) := by
  have := (h.gs.st.get 5 rfl)
  have ha := this.2.2
  rw [← ones_flat] at ha
  have r := rd_made (c := 3) modeRow_len ha this.2.1
  rw [List.length_replicate] at r
  exact r
theorem ev_sp (p : FPar) : Sp 2 p.ev := .inr ⟨p.eB, 0, p.n, p.n, true, rfl, Nat.le_refl _⟩
theorem mv_sp (p : FPar) : Sp 1 p.mv := .inr ⟨p.mB, 0, p.n, p.n, true, rfl, Nat.le_refl _⟩
theorem FlS.lc {p : FPar} {m0 m : M} {es g rows cs} (h : FlS p m0 m es g rows cs) : loads m ⟨p.cP, 0, none⟩ 2 = some [p.ev, p.mv] := (h.gs.st.get 3 rfl).2.2.loads (n := 2) (by simp)
theorem FlS.l1c {p : FPar} {m0 m : M} {es g rows cs} (h : FlS p m0 m es g rows cs) : ∀ o s, load1 m ⟨p.cP, o, s⟩ = [p.ev, p.mv][o]? := fun o s => (h.gs.st.get 3 rfl).2.2.load1 o s
theorem FlS.l1n {p : FPar} {m0 m : M} {es g rows cs} (h : FlS p m0 m es g rows cs) : ∀ o s, load1 m ⟨p.nP, o, s⟩ = [iv p.n][o]? := fun o s => (h.gs.st.get 2 rfl).2.2.load1 o s
theorem FlS.l1o {p : FPar} {m0 m : M} {es g rows cs} (h : FlS p m0 m es g rows cs) : ∀ o s, load1 m ⟨p.oP, o, s⟩ = [g][o]? := fun o s => (h.gs.st.get 1 rfl).2.2.load1 o s
theorem FlS.l1f {p : FPar} {m0 m : M} {es g rows cs} (h : FlS p m0 m es g rows cs) : ∀ o s, load1 m ⟨p.fP, o, s⟩ = [p.fv][o]? := fun o s => (h.gs.st.get 4 rfl).2.2.load1 o s
theorem set_split {α : Type} {l : List α} {i : Nat} (h : i < l.length) (x : α) : l.set i x = l.take i ++ x :: l.drop (i + 1) := by
  rw [List.set_eq_take_append_cons_drop, if_pos h]
theorem over_edge {es : List (Int × Int)} {i : Nat} (h : i < es.length) (x : Int × Int) : over (es.flatMap edgeRow) (i * 2) (edgeRow x) = (es.set i x).flatMap edgeRow := by
  have h1 : es = es.take i ++ es[i] :: es.drop (i + 1) := by
    have := List.take_append_drop i es
    rw [List.drop_eq_getElem_cons h] at this
    exact this.symm
  have hp : ((es.take i).flatMap edgeRow).length = i * 2 := by rw [flatMap_len edgeRow_len, List.length_take, Nat.min_eq_left (by omega)]
  have := over_mid (edgeRow x) (edgeRow es[i] ++ (es.drop (i + 1)).flatMap edgeRow) ((es.take i).flatMap edgeRow) (by rw [List.length_append, edgeRow_len, edgeRow_len]; omega)
  rw [hp] at this
  rw [set_split h, List.flatMap_append, List.flatMap_cons]
  have he : es.flatMap edgeRow = (es.take i).flatMap edgeRow ++ (edgeRow es[i] ++ (es.drop (i + 1)).flatMap edgeRow) := by
    conv => lhs; rw [h1]
    rw [List.flatMap_append, List.flatMap_cons]
  rw [he, this, List.append_assoc, edgeRow_len, List.drop_append, edgeRow_len]
  rfl
/-- one edge more -/
theorem FlS.setE {p : FPar} {m0 m : M} {es g rows cs} (h : FlS p m0 m es g rows cs) {i : Nat} (hi : i < p.n) (k : Int) :
    ∃ m', storeS 2 (.pointer (some ⟨p.eB, i * 2, none⟩)) (.agg ⟨[.int .i64 k, .int .i64 0]⟩) m = some (undef, m') ∧ FlS p m0 m' (es.set i (k, 0)) g rows cs := by
  have hl := h.len
  obtain ⟨m', s1, s2, s3, s4⟩ := h.gs.storeN 0 (o := i * 2) (n := 2) (l' := edgeRow (k, 0)) rfl rfl (by rw [flatMap_len edgeRow_len]; omega) (by simp [edgeRow, Dx.okC])
  rw [over_edge (by omega)] at s2
  have hlt : p.eB < p.K := h.keys (p.eB, es.flatMap edgeRow) (by simp [FPar.sg])
  refine ⟨m', s1, s2, by rw [List.length_set]; exact h.len, h.gK, fun q hq => ?_, by rw [s3]; exact h.Kn, h.rl, fun j r c hr hc => (h.rk j r c hr hc).keep (by rw [s3]; exact Nat.le_refl _) (fun B hB _ _ => s4 B (by omega)) fun B hB => .inl hB⟩
  simp only [FPar.sg, List.mem_cons, List.not_mem_nil, or_false] at hq
  rcases hq with rfl | hq
  · exact hlt
  · exact h.keys q (by simp only [FPar.sg, List.mem_cons, List.not_mem_nil, or_false]; exact .inr hq)
/-- what fill finds -/
def okA (es : List (Int × Int)) : Bool := decide ((layA es (List.replicate es.length 1)).2 = 0) && decide (ordC (canF (es, List.replicate es.length 1)) (es, List.replicate es.length 1) = 0)
def genF : Nat → List (Int × Int) → List Cyc
  | 0, es => if okA es then [(es, List.replicate es.length 1)] else []
  | d + 1, es => (List.range 7).flatMap fun k => genF d (es ++ [(((k + 1 : Nat) : Int), 0)])
theorem genF_len : ∀ (d : Nat) (es : List (Int × Int)), (genF d es).length ≤ 7 ^ d
  | 0, es => by unfold genF; split <;> simp
  | d + 1, es => by
    unfold genF
    have : ∀ (l : List Nat), (l.flatMap fun k => genF d (es ++ [(((k + 1 : Nat) : Int), 0)])).length ≤ l.length * 7 ^ d := by
      intro l
      induction l with
      | nil => simp
      | cons k l ih => rw [List.flatMap_cons, List.length_append, List.length_cons, Nat.succ_mul]; have := genF_len d (es ++ [(((k + 1 : Nat) : Int), 0)]); omega
    have h := this (List.range 7)
    rw [List.length_range] at h
    rw [Nat.pow_succ]; omega
end Go.Sx

set_option linter.unusedSimpArgs false
set_option linter.unusedVariables false
namespace Go.Sx
open Go.Dx Go.Proofs
/-- fill at a cycle that is full -/
theorem fill_0 (p : FPar) (m0 : M) (N : Nat) (hn : p.n ≤ 16) (m : M) (es : List (Int × Int)) (g : Value) (rows : List RowV) (cs : List Cyc) (h : FlS p m0 m es g rows cs) (hcs : cs.length + 1 ≤ 200000) :
    ∃ v m', (ex Try.prog (N + 10)).f 63 (iv p.n :: p.caps) m = some (v, m') ∧ v = .tuple #[] ∧ ∃ g' rows', FlS p m0 m' es g' rows' (cs ++ genF 0 es) := by
  refine call_fin d_w_All_1_ok (by simp [FPar.caps]) ?_
  have hl := h.len
  have hch := CheckI_c N p.ev p.mv es (List.replicate p.n 1) m h.gs.st.sees.base (by omega) h.edges h.modes
  obtain ⟨v1, m1, a1, a2, rfl⟩ := hch
  have h1 := h.step a2
  have lc := h.lc
  have l1n := h.l1n
  have hlg : ∀ m, (forAny m).log = [] := fun m => forAny_log m
  have any {a : M} (k : Sees m0 a) : Sees m0 (forAny a) := sees_any k
  have hgen : genF 0 es = if okA es then [(es, List.replicate es.length 1)] else [] := rfl
  by_cases herr : (layA es (List.replicate p.n 1)).2 = 0
  rotate_left
  · have hok : okA es = false := by unfold okA; rw [hl]; simp [herr]
    have hd : (((layA es (List.replicate p.n 1)).2 : Int) = 0) = False := eq_false (by omega)
    rw [hok] at hgen
    simp [FPar.caps, FPar.ptr, l1n, lc, loadNS_ptr, a1, herr]
    refine fin_0 ?_
    refine ⟨rfl, g, rows, ?_⟩
    rw [hgen]
    simpa using h1
  have he0 : ((layA es (List.replicate p.n 1)).2 : Int) = 0 := by omega
  -- Canon
  have hlen : (canF (es, List.replicate p.n 1)).1.length = es.length ∧ (canF (es, List.replicate p.n 1)).2.length = p.n := by
    unfold canF
    split
    · exact ⟨rfl, List.length_replicate⟩
    · have := can_len (es, List.replicate p.n 1) (List.range (es, List.replicate p.n (1 : Int)).1.length) (es, List.replicate p.n 1) rfl rfl
      rw [this.1, this.2]; exact ⟨rfl, List.length_replicate⟩
  obtain ⟨v2, m2', b1, b2, b3, w1, w2, rfl, b4, b5, -, -⟩ := any_call (Canon_c (N + 5) p.ev p.mv es (List.replicate p.n 1) (forAny m1) (any h1.gs.st.sees).base (by unfold most; omega) (by rw [List.length_replicate]; unfold most; omega) (h1.edges.sees (sees_any h1.gs.st.sees.self)) (h1.modes.sees (sees_any h1.gs.st.sees.self)) (ev_sp p) (mv_sp p))
  obtain ⟨m2, hm2⟩ : ∃ m2, m2 = behind m1 m2' := ⟨_, rfl⟩
  rw [← hm2] at b3
  have h2 := h1.step b3
  have b4' : Rd m2 w1 2 edgeRow (canF (es, List.replicate p.n 1)).1 := by rw [hm2]; exact b4.behind
  have b5' : Rd m2 w2 1 modeRow (canF (es, List.replicate p.n 1)).2 := by rw [hm2]; exact b5.behind
  -- order
  obtain ⟨v3, m3', c1, c2, c3, rfl⟩ := any_call (order_c (N + 6) w1 w2 p.ev p.mv _ _ _ _ (forAny m2) (any h2.gs.st.sees).base (by rw [hlen.1]; omega) hlen.1.symm (by rw [hlen.1, hlen.2]; exact hl.symm) (by rw [hlen.1, List.length_replicate]; exact hl.symm) (b4'.sees (sees_any h2.gs.st.sees.self)) (b5'.sees (sees_any h2.gs.st.sees.self)) (h2.edges.sees (sees_any h2.gs.st.sees.self)) (h2.modes.sees (sees_any h2.gs.st.sees.self)))
  obtain ⟨m3, hm3⟩ : ∃ m3, m3 = behind m2 m3' := ⟨_, rfl⟩
  rw [← hm3] at c3
  have h3 := h2.step c3
  have lc1 := h1.lc
  have lc2 := h2.lc
  have lc3 := h3.lc
  have l1o := h3.l1o
  obtain ⟨O, hO⟩ : ∃ O, O = ordC (canF (es, List.replicate p.n 1)) (es, List.replicate p.n 1) := ⟨_, rfl⟩
  rw [show ordC ((canF (es, List.replicate p.n 1)).1, (canF (es, List.replicate p.n 1)).2) (es, List.replicate p.n 1) = O from hO.symm] at c1
  by_cases hz : O = 0
  rotate_left
  · have hok : okA es = false := by unfold okA; rw [hl, ← hO]; simp [hz]
    have hd : (O = 0) = False := eq_false hz
    rw [hok] at hgen
    simp [FPar.caps, FPar.ptr, l1n, lc, loadNS_ptr, a1, herr, lc1, b1, b2, hlg, ← hm2, lc2, c1, c2, ← hm3, hd]
    refine fin_0 ?_
    refine ⟨rfl, g, rows, ?_⟩
    rw [hgen]
    simpa using h3
  have hok : okA es = true := by unfold okA; rw [hl, ← hO]; simp [herr, hz]
  rw [hok, if_pos rfl] at hgen
  have hd : (O = 0) = True := eq_true hz
  -- a copy
  obtain ⟨v4, m4', d1, d2, d3, u1, u2, rfl, d4, d5⟩ := any_call (turned_c (N + 6) p.ev p.mv es (List.replicate p.n 1) (forAny m3) (any h3.gs.st.sees).base (by unfold most; omega) (by rw [List.length_replicate]; unfold most; omega) (h3.edges.sees (sees_any h3.gs.st.sees.self)) (h3.modes.sees (sees_any h3.gs.st.sees.self)) (ev_sp p) (mv_sp p) 0 (by omega) (by omega))
  rw [show iv ((0 : Nat) : Int) = iv 0 from rfl] at d1
  rw [show turnL 0 es = es by unfold turnL; simp] at d4
  rw [show turnL 0 (List.replicate p.n (1 : Int)) = List.replicate p.n 1 by unfold turnL; simp] at d5
  obtain ⟨m4, hm4⟩ : ∃ m4, m4 = behind m3 m4' := ⟨_, rfl⟩
  rw [← hm4] at d3
  have h4 := h3.step d3
  have e4 : Rd m4 u1 2 edgeRow es := by rw [hm4]; exact (d4.rd edgeRow_len).behind
  have e5 : Rd m4 u2 1 modeRow (List.replicate p.n 1) := by rw [hm4]; exact (d5.rd modeRow_len).behind
  have k4 : ∀ B, blk u1 = some B → m3.n ≤ B := fun B hB => by have := (grown_low d4 B hB).1; rw [forAny_n] at this; exact this
  have k5 : ∀ B, blk u2 = some B → m3.n ≤ B := fun B hB => by have := (grown_low d5 B hB).1; rw [forAny_n] at this; exact this
  obtain ⟨r, hr⟩ : ∃ r : RowV, r = ⟨(u1, u2), d4.okC, d5.okC⟩ := ⟨_, rfl⟩
  have hrc : rowC r = [u1, u2] := by rw [hr]; rfl
  obtain ⟨M5, hM5⟩ : ∃ M5, M5 = Dx.newRow m4 [u1, u2] := ⟨_, rfl⟩
  have E5 : Ext m4 M5 := by rw [hM5]; exact Ext.row _ _
  have hlr : rows.length + 1 ≤ 200000 := by rw [h.rl]; exact hcs
  obtain ⟨g', m6', p1, p2, p3, p4, p5, p6⟩ := h4.gs.appAny (x := r) (by omega) rowC_len rowC_ok E5 (X := m4.n) (sp := some 5) (by rw [hM5, hrc]; exact (Arr.row m4 _).loads (by simp)) (bytes := 48) (by unfold most; omega) (by omega)
  obtain ⟨m6, hm6⟩ : ∃ m6, m6 = behind M5 m6' := ⟨_, rfl⟩
  rw [← hm6] at p3 p4 p5
  obtain ⟨m7', q1, q2, q3, q4, q5⟩ := p3.storeAny 1 rfl (o := 0) (v := g') (by simp) p3.gr.okC
  obtain ⟨m7, hm7⟩ : ∃ m7, m7 = behind m6 m7' := ⟨_, rfl⟩
  rw [← hm7] at q3 q4 q5
  simp [FPar.caps, FPar.ptr, l1n, lc, loadNS_ptr, a1, herr, lc1, b1, b2, hlg, ← hm2, lc2, c1, c2, ← hm3, hd, l1o, lc3, d1, d2, ← hm4, ← hM5, p1, ← hm6, q1, ← hm7]
  refine fin_0 ?_
  refine ⟨rfl, g', rows ++ [r], ?_⟩
  rw [hgen]
  have n5 := E5.n
  have n4 := d3.n
  have K3 := h3.Kn
  have K4 := h4.Kn
  have hoK : p.oP < p.K := h.keys (p.oP, [g]) (by simp [FPar.sg])
  have q3' : GS m0 m0 m7 0 0 (p.sg es g') g' 2 rowC (rows ++ [r]) := q3
  -- what lies below, and is neither the box nor the old slice
  have keep : ∀ B, p.K ≤ B → B < m4.n → blk g ≠ some B → m7.obj B = m4.obj B := fun B hK hB hg => by rw [q5 B (by omega), p5 B hB hg]
  have hgn : ∀ B, blk g' = some B → m4.n ≤ B := fun B hB => by have := p6 B hB; omega
  have hgl : ∀ B, blk g = some B → B < m3.n := fun B hB => (h3.gs.sep B hB).2.1
  refine ⟨q3', hl, fun B hB => by have := p6 B hB; omega, fun q hq => ?_, by rw [q4]; omega, by rw [List.length_append, List.length_append, h.rl]; rfl, fun i rr c hr' hc => ?_⟩
  · simp only [FPar.sg, List.mem_cons, List.not_mem_nil, or_false] at hq
    have hk := h.keys
    simp only [FPar.sg, List.mem_cons, List.not_mem_nil, or_false] at hk
    rcases hq with rfl | rfl | hq
    · exact hk _ (.inl rfl)
    · exact hoK
    · exact hk _ (.inr (.inr hq))
  · by_cases hi : i < rows.length
    · rw [List.getElem?_append_left hi] at hr'
      rw [List.getElem?_append_left (by rw [← h.rl]; exact hi)] at hc
      exact (h4.rk i rr c hr' hc).keep (by rw [q4]; omega) keep fun B hB => .inr (hgn B hB)
    · have hr2 : (rows ++ [r])[i]? = some rr := hr'
      have hi2 : i = rows.length := by
        have := (List.getElem?_eq_some_iff.1 hr').1
        rw [List.length_append] at this
        simp at this
        omega
      subst hi2
      rw [List.getElem?_append_right (Nat.le_refl _), Nat.sub_self] at hr'
      rw [h.rl, List.getElem?_append_right (Nat.le_refl _), Nat.sub_self] at hc
      simp at hr' hc
      subst hr' hc
      rw [hr, hl]
      have f1 : ∀ B, blk u1 = some B → p.K ≤ B ∧ blk g ≠ some B := fun B hB => by
        have := k4 B hB
        exact ⟨by omega, fun hg => by have := hgl B hg; omega⟩
      have f2 : ∀ B, blk u2 = some B → p.K ≤ B ∧ blk g ≠ some B := fun B hB => by
        have := k5 B hB
        exact ⟨by omega, fun hg => by have := hgl B hg; omega⟩
      refine ⟨e4.congr (by rw [q4]; omega) fun B hB => keep B (f1 B hB).1 (e4.lt B hB) (f1 B hB).2, e5.congr (by rw [q4]; omega) fun B hB => keep B (f2 B hB).1 (e5.lt B hB) (f2 B hB).2, fun B hB => ⟨(f1 B hB).1, fun hg => ?_⟩, fun B hB => ⟨(f2 B hB).1, fun hg => ?_⟩⟩
      · have := hgn B hg; have := e4.lt B hB; omega
      · have := hgn B hg; have := e5.lt B hB; omega
/-- fill from the edge i on -/
theorem fill_c (p : FPar) (m0 : M) (N : Nat) (hn : p.n ≤ 16) : ∀ (d i : Nat), i + d = p.n → ∀ (m : M) (es : List (Int × Int)) (g : Value) (rows : List RowV) (cs : List Cyc), FlS p m0 m es g rows cs → cs.length + 7 ^ d ≤ 200000 →
    ∃ v m', (ex Try.prog (N + 10 + d)).f 63 (iv i :: p.caps) m = some (v, m') ∧ v = .tuple #[] ∧ ∃ es' g' rows', FlS p m0 m' es' g' rows' (cs ++ genF d (es.take i)) ∧ es'.take i = es.take i := by
  intro d
  induction d with
  | zero =>
    intro i hi m es g rows cs h hcs
    have hi' : i = p.n := hi
    subst hi'
    obtain ⟨v, m', e1, e2, g', rows', e3⟩ := fill_0 p m0 N hn m es g rows cs h hcs
    have ht : es.take p.n = es := by rw [← h.len]; exact List.take_length
    exact ⟨v, m', e1, e2, es, g', rows', by rw [ht]; exact e3, rfl⟩
  | succ d ih =>
    intro i hi m es g rows cs h hcs
    refine call_fin (n := N + 10 + d) d_w_All_1_ok (by simp [FPar.caps]) ?_
    have l1n := h.l1n
    have hne : ((i : Int) = (p.n : Int)) = False := eq_false (by omega)
    have hne2 : (i = p.n) = False := eq_false (by omega)
    have hp7 : 7 ^ (d + 1) = 7 ^ d * 7 := Nat.pow_succ 7 d
    simp [FPar.caps, FPar.ptr, l1n, hne, hne2]
    let G : Nat → List Cyc := fun j => (List.range j).flatMap fun k => genF d (es.take i ++ [(((k + 1 : Nat) : Int), 0)])
    have hG0 : G 0 = [] := rfl
    have hGs : ∀ j, G (j + 1) = G j ++ genF d (es.take i ++ [(((j + 1 : Nat) : Int), 0)]) := fun j => by
      simp only [G]
      rw [List.range_succ, List.flatMap_append]
      simp
    have hGl : ∀ j, (G j).length ≤ j * 7 ^ d := by
      intro j
      induction j with
      | zero => simp [hG0]
      | succ j ihj => rw [hGs, List.length_append, Nat.succ_mul]; have := genF_len d (es.take i ++ [(((j + 1 : Nat) : Int), 0)]); omega
    have hG7 : genF (d + 1) (es.take i) = G 7 := rfl
    refine loop_run (c := c_w_All_1_13) rfl (FinR _) (fun j t m' => (Tm.get 0 t = iv i ∧ Tm.get 2 t = .pointer (some ⟨p.cP, 0, none⟩) ∧ Tm.get 4 t = .pointer (some ⟨p.fP, 0, none⟩)) ∧ Tm.get 8 t = iv (j + 1 : Nat) ∧ ∃ es' g' rows', FlS p m0 m' es' g' rows' (cs ++ G j) ∧ es'.take i = es.take i) 7 (by omega)
      ⟨⟨by simp, by simp, by simp⟩, by simp, es, g, rows, by rw [hG0, List.append_nil]; exact h, rfl⟩ (fun j t m' k hj hI hk => ?_)
    obtain ⟨⟨t0, t2, t4⟩, t8, es', g', rows', hF, ht⟩ := hI
    obtain ⟨q, hq⟩ : ∃ q, q = j + 1 := ⟨_, rfl⟩
    rw [← hq] at t8
    by_cases hj7 : j < 7
    · have hle1 : ((q : Int) ≤ 7) = True := eq_true (by omega)
      have hle2 : (q ≤ 7) = True := eq_true (by omega)
      have hx : iaddrSV 2 p.ev (.int .i64 (i : Int)) = some (.pointer (some ⟨p.eB, i * 2, none⟩)) := idxE p.eB p.n i (by omega)
      have hbv : buildV [.int .i64 0, .int .i64 0] [(0, 1, .int .i64 (q : Int))] = some (.agg ⟨[.int .i64 (q : Int), .int .i64 0]⟩) := rfl
      obtain ⟨m1, s1, hF1⟩ := hF.setE (i := i) (by omega) (q : Int)
      have hl' := hF.len
      have hst : (es'.set i ((q : Int), 0)).take (i + 1) = es.take i ++ [((q : Int), 0)] := by
        rw [set_split (by omega), List.take_append, List.length_take, Nat.min_eq_left (by omega), List.take_take, Nat.min_eq_right (by omega), ht, show i + 1 - i = 1 by omega]
        rfl
      obtain ⟨v2, m2, e1, rfl, es2, g2, rows2, hF2, ht2⟩ := ih (i + 1) (by omega) m1 _ _ _ _ hF1 (by
        rw [List.length_append]
        have := hGl j
        have h3 : j * 7 ^ d ≤ 6 * 7 ^ d := Nat.mul_le_mul_right _ (by omega)
        omega)
      rw [hst] at ht2 hF2
      have l1c := hF.l1c
      have l1f := hF1.l1f
      obtain ⟨i1, hi1⟩ : ∃ i1, i1 = i + 1 := ⟨_, rfl⟩
      have w1 := nextI (i := i) (by omega)
      rw [← hi1] at e1 ht2 w1
      have w2 := nextI (i := q) (by omega)
      have hcall : callvV (ex Try.prog (N + 10 + d)) [.int .i64 (i1 : Int)] m1 p.fv = some (.tuple #[], m2) := by
        unfold FPar.fv
        rw [callv_func]
        exact e1
      simp [t0, t2, t4, t8, hle1, hle2, l1c, hx, s1, l1f, w1, hcall, w2, hbv]
      refine hk hj7 _ _ ⟨⟨by simp [t0], by simp [t2], by simp [t4]⟩, by simp [hq], es2, g2, rows2, ?_, ?_⟩
      · rw [hGs, ← hq, ← List.append_assoc]; exact hF2
      · have := congrArg (List.take i) ht2
        rw [List.take_take, Nat.min_eq_left (by omega), List.take_append_of_le_length (by rw [List.length_take, h.len]; omega), List.take_take, Nat.min_self] at this
        exact this
    · have hj' : j = 7 := by omega
      subst hj'
      have hle1 : ((q : Int) ≤ 7) = False := eq_false (by omega)
      have hle2 : (q ≤ 7) = False := eq_false (by omega)
      simp [t8, hle1, hle2]
      refine fin_0 ?_
      exact ⟨rfl, es', ⟨g', rows', hG7 ▸ hF⟩, ht⟩
end Go.Sx

set_option linter.unusedSimpArgs false
set_option linter.unusedVariables false
namespace Go.Sx
open Go.Dx Go.Proofs
@[simp] theorem boxS_int (k : IntKind) (a : Int) (m : M) : boxS (.int k a) m = some (.pointer (some ⟨m.n, 0, none⟩), Dx.newRow m [.int k a]) := _root_.id rfl
/-- a list of cycles, as it lies -/
structure CycL (m : M) (v : Value) (rows : List RowV) (cs : List Cyc) : Prop where
  rd : Rd m v 2 rowC rows
  len : rows.length = cs.length
  row : ∀ (i : Nat) r c, rows[i]? = some r → cs[i]? = some c → Rd m r.1.1 2 edgeRow c.1 ∧ Rd m r.1.2 1 modeRow c.2
theorem CycL.sees {m m' : M} {v : Value} {rows : List RowV} {cs : List Cyc} (h : CycL m v rows cs) (k : Sees m m') : CycL m' v rows cs :=
  ⟨h.rd.sees k, h.len, fun i r c hr hc => let ⟨a, b⟩ := h.row i r c hr hc; ⟨a.sees k, b.sees k⟩⟩
theorem CycL.behind {m m' : M} {v : Value} {rows : List RowV} {cs : List Cyc} (h : CycL m' v rows cs) : CycL (Dx.behind m m') v rows cs :=
  ⟨h.rd.behind, h.len, fun i r c hr hc => let ⟨a, b⟩ := h.row i r c hr hc; ⟨a.behind, b.behind⟩⟩
theorem All_out (N : Nat) (z : Int) (hz : z < 3 ∨ 6 < z) (m : M) (hm : m.base ≤ m.n) : Dx.Call (ex Try.prog (N + 1)) 32 [.int .i64 z] m fun v m' => v = .tuple #[.slice none 0 0, iv 1] := by
  refine call_ret d_w_All_ok (by simp) ?_
  have st1 := (St.nil hm (Ext.refl m)).row [.int .i64 z]
  obtain ⟨m1, hm1⟩ : ∃ m1, m1 = Dx.newRow m [.int .i64 z] := ⟨_, rfl⟩
  rw [← hm1] at st1
  have l1 : ∀ o s, load1 m1 ⟨m.n, o, s⟩ = [.int .i64 z][o]? := fun o s => (st1.get 0 rfl).2.2.load1 o s
  by_cases h : z < 3
  · have hd : (z < 3) = True := eq_true h
    simp [← hm1, l1, hd]
    exact ret_2 st1.ext (by simp)
  · have hd : (z < 3) = False := eq_false h
    have hd2 : (6 < z) = True := eq_true (by omega)
    simp [← hm1, l1, hd, hd2]
    exact ret_2 st1.ext (by simp)
theorem All_in (N q : Nat) (h3 : 3 ≤ q) (h6 : q ≤ 6) (m : M) (hm : m.base ≤ m.n) : Dx.Call (ex Try.prog (N + 11 + q)) 32 [iv q] m fun v m' => ∃ g rows, v = .tuple #[g, iv 0] ∧ CycL m' g rows (genF q []) := by
  suffices H : ∀ Q : Value → M → Prop, (∀ v m', (∃ g rows, v = .tuple #[g, iv 0] ∧ CycL m' g rows (genF q [])) → Q v m') → Dx.Call (ex Try.prog (N + 11 + q)) 32 [iv q] m Q from H _ fun _ _ h => h
  intro Q hQ
  rw [show N + 11 + q = N + 10 + q + 1 by omega]
  refine call_ret d_w_All_ok (by simp) ?_
  have hd1 : ((q : Int) < 3) = False := eq_false (by omega)
  have hd2 : ((6 : Int) < (q : Int)) = False := eq_false (by omega)
  have hd1' : (q < 3) = False := eq_false (by omega)
  have hd2' : (6 < q) = False := eq_false (by omega)
  have hlg : ∀ m, (forAny m).log = [] := fun m => forAny_log m
  have st2 := ((St.nil hm (Ext.refl m)).row [iv q]).row [.slice none 0 0]
  simp only [newRow_n] at st2
  obtain ⟨m2, hm2⟩ : ∃ m2, m2 = Dx.newRow (Dx.newRow m [iv q]) [.slice none 0 0] := ⟨_, rfl⟩
  have n2 : m2.n = m.n + 2 := by rw [hm2, newRow_n, newRow_n]
  rw [← hm2] at st2
  have l1 : ∀ o s, load1 (Dx.newRow m [iv q]) ⟨m.n, o, s⟩ = [iv q][o]? := fun o s => (Arr.row m _).load1 o s
  have l2 : ∀ o s, load1 m2 ⟨m.n, o, s⟩ = [iv q][o]? := fun o s => (st2.get 1 rfl).2.2.load1 o s
  have mk1 := mk_rows (n := q) (e := 2) (bytes := 16) (zs := [.int .i64 0, .int .i64 0]) rfl (by omega) (by omega) (by omega) m2
  rw [show code 2 true = 5 from rfl, n2] at mk1
  have hz : ((List.range q).flatMap fun _ => [Value.int .i64 0, Value.int .i64 0]) = (List.replicate q ((0 : Int), (0 : Int))).flatMap edgeRow := by
    rcases (by omega : q = 3 ∨ q = 4 ∨ q = 5 ∨ q = 6) with rfl | rfl | rfl | rfl <;> rfl
  rw [hz] at mk1
  have st3 := st2.row ((List.replicate q ((0 : Int), (0 : Int))).flatMap edgeRow)
  obtain ⟨m3, hm3⟩ : ∃ m3, m3 = Dx.newRow m2 ((List.replicate q ((0 : Int), (0 : Int))).flatMap edgeRow) := ⟨_, rfl⟩
  have n3 : m3.n = m.n + 3 := by rw [hm3, newRow_n, n2]
  rw [← hm3] at st3 mk1
  rw [n2] at st3
  have st4 := st3.row [iv 1]
  obtain ⟨m4, hm4⟩ : ∃ m4, m4 = Dx.newRow m3 [iv 1] := ⟨_, rfl⟩
  have n4 : m4.n = m.n + 4 := by rw [hm4, newRow_n, n3]
  rw [← hm4] at st4
  rw [n3] at st4
  have l4 : ∀ o s, load1 m4 ⟨m.n, o, s⟩ = [iv q][o]? := fun o s => (st4.get 3 rfl).2.2.load1 o s
  have any {a : M} (k : Sees m a) : Sees m (forAny a) := sees_any k
  have hA4 : Arr (forAny m4) (m.n + 3) [iv 1] := ((st4.get 0 rfl).2.2).congr (forAny_obj _ _)
  obtain ⟨v5, m5', a1, a2, a3, mB, rfl, a4, a5, a6⟩ := any_call (Repeat_c (N + 7 + q) (m.n + 3) q h3 h6 (forAny m4) (any st4.sees).base (by rw [forAny_n]; omega) hA4)
  obtain ⟨m5, hm5⟩ : ∃ m5, m5 = behind m4 m5' := ⟨_, rfl⟩
  rw [← hm5] at a3
  rw [forAny_n] at a4
  rw [show N + 7 + q + 3 = N + 10 + q by omega] at a1
  have a5' : mB < m5.n := by rw [hm5, behind_n]; exact a5
  have a6' : Arr m5 mB (onesL q q) := by rw [hm5]; exact a6.congr (behind_obj _ _ _)
  have gs5 := (GS.ofSt st4 2 rowC).addBlk a3 a4 a5' a6'
  -- the cycle's block, and fill's
  obtain ⟨p, hp⟩ : ∃ p : FPar, p = ⟨q, m.n, m.n + 1, m5.n, m5.n + 1, m.n + 2, mB, m5.n + 2⟩ := ⟨_, rfl⟩
  have n5 := a3.n
  have hev : p.ev = .slice (some ⟨m.n + 2, 0, some 5⟩) q q := by rw [hp]; rfl
  have hmv : p.mv = .slice (some ⟨mB, 0, some 3⟩) q q := by rw [hp]; rfl
  have gs6 := gs5.row [.slice none 0 0, .slice none 0 0]
  obtain ⟨m6, hm6⟩ : ∃ m6, m6 = Dx.newRow m5 [.slice none 0 0, .slice none 0 0] := ⟨_, rfl⟩
  rw [← hm6] at gs6
  have n6 : m6.n = m5.n + 1 := by rw [hm6, newRow_n]
  obtain ⟨m7', b1, b2, b3, b4, b5⟩ := gs6.st.fillAny 0 rfl (n := 2) (l' := [.slice (some ⟨m.n + 2, 0, some 5⟩) q q, .slice (some ⟨mB, 0, some 3⟩) q q]) (by omega) rfl rfl (by simp [Dx.okC])
  obtain ⟨m7, hm7⟩ : ∃ m7, m7 = behind m6 m7' := ⟨_, rfl⟩
  rw [← hm7] at b3 b4 b5
  have st8 := b3.row [.nilFunc]
  obtain ⟨m8, hm8⟩ : ∃ m8, m8 = Dx.newRow m7 [.nilFunc] := ⟨_, rfl⟩
  rw [← hm8] at st8
  have n7 : m7.n = m5.n + 1 := by rw [b4, n6]
  rw [n7] at st8
  obtain ⟨m9, c1, c2, c3, c4⟩ := st8.store 0 rfl (o := 0) (v := p.fv) (by simp) rfl
  have n9 : m9.n = m5.n + 2 := by rw [c3, hm8, newRow_n, n7]
  have hFS : FlS p m m9 (List.replicate q (0, 0)) (.slice none 0 0) [] [] := by
    have hs : St m m9 (p.sg (List.replicate q (0, 0)) (.slice none 0 0)) := by
      refine c2.sub (fun r hr => ?_) ?_
      · simp only [FPar.sg, List.mem_cons, List.not_mem_nil, or_false] at hr
        rw [hev, hmv, hp] at hr
        rcases hr with rfl | rfl | rfl | rfl | rfl | rfl
        · exact List.mem_of_getElem? (i := 3) rfl
        · exact List.mem_of_getElem? (i := 4) rfl
        · exact List.mem_of_getElem? (i := 5) rfl
        · exact List.mem_of_getElem? (i := 1) rfl
        · rw [hp]; exact List.mem_of_getElem? (i := 0) rfl
        · exact List.mem_of_getElem? (i := 6) rfl
      · rw [hp]
        simp [FPar.sg]
        omega
    refine ⟨GS.ofSt hs 2 rowC, by rw [hp]; exact List.length_replicate, (fun B hB => by cases hB), fun r hr => ?_, by rw [hp]; show m5.n + 2 ≤ m9.n; omega, rfl, fun i r c hr => by simp at hr⟩
    have := (hs.arr r hr).2.1
    rw [hp]; show r.1 < m5.n + 2; omega
  obtain ⟨v10, m10, d1, rfl, es', g', rows', hF, -⟩ := fill_c p m N (by rw [hp]; show q ≤ 16; omega) q 0 (by rw [hp]; show 0 + q = q; omega) m9 _ _ _ _ hFS (by
    have : 7 ^ q ≤ 7 ^ 6 := Nat.pow_le_pow_right (by omega) h6
    simp; omega)
  rw [List.nil_append, List.take_zero] at hF
  have l9 : load1 m9 ⟨m5.n + 1, 0, none⟩ = some p.fv := (c2.get 0 rfl).2.2.load1 0 none
  have l10 : load1 m10 ⟨m.n + 1, 0, none⟩ = some g' := by have := hF.l1o 0 none; rw [hp] at this; exact this
  have hcall : callvV (ex Try.prog (N + 10 + q)) [.int .i64 0] m9 p.fv = some (.tuple #[], m10) := by
    unfold FPar.fv
    rw [callv_func]
    exact d1
  have hbc : buildV [.slice none 0 0, .slice none 0 0] [(0, 1, .slice (some ⟨m.n + 2, 0, some 5⟩) q q), (1, 1, .slice (some ⟨mB, 0, some 3⟩) q q)] = some (.agg ⟨[.slice (some ⟨m.n + 2, 0, some 5⟩) q q, .slice (some ⟨mB, 0, some 3⟩) q q]⟩) := build_cyc _ _ rfl rfl
  have hfv : Value.func (.func 63) ⟨[]⟩ ⟨[.pointer (some ⟨m.n, 0, none⟩), .pointer (some ⟨m5.n, 0, none⟩), .pointer (some ⟨m.n + 1, 0, none⟩), .pointer (some ⟨m5.n + 1, 0, none⟩)]⟩ = p.fv := by rw [hp]; rfl
  simp [hd1, hd2, hd1', hd2', l1, ← hm2, l2, mk1, ← hm3, ← hm4, l4, a1, a2, ← hm5, hbc, ← hm6, b1, ← hm7, ← hm8, n2, n3, n6, n7, hfv, c1, l9, hcall, l10]
  refine ret_2 hF.gs.st.ext (hQ _ _ ⟨g', rows', by simp, hF.gs.gr.rd rowC_len, hF.rl, fun i r c hr hc => ⟨(hF.rk i r c hr hc).e, (hF.rk i r c hr hc).d⟩⟩)
end Go.Sx

set_option linter.unusedSimpArgs false
set_option linter.unusedVariables false
namespace Go.Sx
open Go.Dx Go.Proofs
theorem binV_quo {a b : Nat} (hb : 0 < b) (ha : a < 9223372036854775808) : binV .quo (.int .i64 a) (.int .i64 b) = some (.int .i64 ((a / b : Nat) : Int)) := by
  rw [binV_int]
  show pureOf (Op.intDiv .quo .i64 (a : Int) (b : Int)) = _
  unfold Op.intDiv
  rw [if_neg (by omega)]
  have e : (a : Int).tdiv (b : Int) = ((a / b : Nat) : Int) := by rw [Int.ofNat_tdiv]
  have h2 : a / b ≤ a := Nat.div_le_self a b
  show some (Value.int _ (IntKind.i64.wrap ((a : Int).tdiv b))) = _
  rw [e]
  generalize a / b = c at h2
  rw [wrap64 _ (by omega) (by omega)]
/-- the kind that a number tells of an edge -/
def kd (q code i : Nat) : Nat := code % 7 ^ (q - i) / 7 ^ (q - 1 - i) + 1
def eD (q code i : Nat) : List (Int × Int) := (List.range i).map fun j => ((kd q code j : Int), 0)
def linkD (q code j : Nat) : Bool := j == 0 || toI (kd q code (j - 1) : Nat) == fromI (kd q code j : Nat)
def fineD (q code i : Nat) : Bool := (List.range i).all (linkD q code)
theorem eD_succ (q code i : Nat) : eD q code (i + 1) = eD q code i ++ [((kd q code i : Int), 0)] := by unfold eD; rw [List.range_succ, List.map_append]; rfl
theorem eD_len (q code i : Nat) : (eD q code i).length = i := by unfold eD; rw [List.length_map, List.length_range]
theorem eD_get {q code i j : Nat} (h : j < i) : (eD q code i)[j]? = some ((kd q code j : Int), 0) := by unfold eD; rw [List.getElem?_map, List.getElem?_range h]; rfl
theorem fineD_succ (q code i : Nat) : fineD q code (i + 1) = (fineD q code i && linkD q code i) := by unfold fineD; rw [List.range_succ, List.all_append]; simp
theorem fineD_false {q code i : Nat} (h : fineD q code i = false) : ∀ d, fineD q code (i + d) = false
  | 0 => h
  | d + 1 => by rw [← Nat.add_assoc, fineD_succ, fineD_false h d]; rfl
theorem ones_succ (i : Nat) : List.replicate (i + 1) (1 : Int) = List.replicate i 1 ++ [1] := List.replicate_succ'
theorem dig_loop (n q code P : Nat) (hq : 1 ≤ q) (hq6 : q ≤ 6) (Q : Option Out → Prop) (kn kr : K) (ke : Nat → K) (t : Tm) (mR m : M) (hc : code < 7 ^ q)
    (t0 : Tm.get 0 t = iv q) (t7 : Tm.get 7 t = .pointer (some ⟨P, 0, none⟩)) (t8 : Tm.get 8 t = iv code) (t9 : Tm.get 9 t = iv (7 ^ (q - 1) : Nat)) (t10 : Tm.get 10 t = .bool true) (t11 : Tm.get 11 t = iv 0)
    (st : St mR m [(P, [.slice none 0 0, .slice none 0 0])])
    (hQ : ∀ t' m', (∀ k ∈ [0, 3, 4, 6, 7], Tm.get k t' = Tm.get k t) → Tm.get 10 t' = .bool (fineD q code q) → (∃ g1 g2, St mR m' [(P, [g1, g2])] ∧ (fineD q code q = true → Grown mR m' g1 2 edgeRow (eD q code q) ∧ Grown mR m' g2 1 modeRow (List.replicate q 1))) → Q (kn t' m')) :
    Q (c_r_All_26 (ex Try.prog (n + 1)) kn (outOf 4 kn ke) kr t m) := by
  refine loop_run (c := c_r_All_26) rfl Q (fun i t' m' => (∀ k ∈ [0, 3, 4, 6, 7], Tm.get k t' = Tm.get k t) ∧ Tm.get 8 t' = iv (code % 7 ^ (q - i) : Nat) ∧ Tm.get 9 t' = iv (7 ^ (q - 1 - i) : Nat) ∧ Tm.get 10 t' = .bool true ∧ Tm.get 11 t' = iv i ∧ fineD q code i = true ∧
      ∃ g1 g2, St mR m' [(P, [g1, g2])] ∧ Grown mR m' g1 2 edgeRow (eD q code i) ∧ Grown mR m' g2 1 modeRow (List.replicate i 1) ∧ (∀ B, blk g1 = some B → P < B ∧ blk g2 ≠ some B) ∧ ∀ B, blk g2 = some B → P < B) q (by omega)
    ⟨fun _ _ => rfl, by rw [Nat.sub_zero, Nat.mod_eq_of_lt hc]; exact t8, t9, t10, t11, rfl, _, _, st, .nil, .nil, (fun B hB => by cases hB), (fun B hB => by cases hB)⟩ (fun i t' m' kk hi hI hk => ?_)
  obtain ⟨hk0, t8, t9, t10, t11, hfi, g1, g2, st, hg1, hg2, f1, f2⟩ := hI
  have k0 : Tm.get 0 t' = iv q := by rw [hk0 0 (by simp), t0]
  have k7 : Tm.get 7 t' = .pointer (some ⟨P, 0, none⟩) := by rw [hk0 7 (by simp), t7]
  have hmb : mR.base ≤ mR.n := st.base
  by_cases hil : i < q
  · have hd := dlt hil
    have w1 := nextI (i := i) (by omega)
    obtain ⟨r, hr⟩ : ∃ r, r = code % 7 ^ (q - i) := ⟨_, rfl⟩
    obtain ⟨w, hw⟩ : ∃ w, w = 7 ^ (q - 1 - i) := ⟨_, rfl⟩
    have hwp : 0 < w := by rw [hw]; exact Nat.pow_pos (by omega)
    have hp7 : 7 ^ (q - i) ≤ 7 ^ 6 := Nat.pow_le_pow_right (by omega) (by omega)
    have hpp : 0 < 7 ^ (q - i) := Nat.pow_pos (by omega)
    have hrl : r < 7 ^ (q - i) := by rw [hr]; exact Nat.mod_lt _ hpp
    have h76 : (7 : Nat) ^ 6 = 117649 := rfl
    have hkd : kd q code i = r / w + 1 := by unfold kd; rw [← hr, ← hw]
    rw [← hr] at t8
    rw [← hw] at t9
    have hdl : r / w ≤ r := Nat.div_le_self r w
    have hquo := binV_quo (a := r) (b := w) hwp (by omega)
    have hrem := binV_rem (a := r) (b := w) hwp
    have hrn : r % w = code % 7 ^ (q - (i + 1)) := by
      rw [hr, hw, show q - (i + 1) = q - 1 - i by omega]
      exact Nat.mod_mod_of_dvd _ (Nat.pow_dvd_pow 7 (by omega))
    have hwq := binV_quo (a := w) (b := 7) (by omega) (by have : 7 ^ (q - 1 - i) ≤ 7 ^ 6 := Nat.pow_le_pow_right (by omega) (by omega); omega)
    obtain ⟨d, hdd⟩ : ∃ d, d = r / w := ⟨_, rfl⟩
    rw [← hdd] at hquo hkd hdl
    have wd := nextI (i := d) (by omega)
    obtain ⟨k1, hk1⟩ : ∃ k1, k1 = kd q code i := ⟨_, rfl⟩
    rw [← hkd, ← hk1] at wd
    obtain ⟨r', hr'⟩ : ∃ r', r' = r % w := ⟨_, rfl⟩
    rw [← hr'] at hrem hrn
    have hbv : buildV [.int .i64 0, .int .i64 0] [(0, 1, .int .i64 (k1 : Int)), (1, 1, .int .i64 0)] = some (.agg ⟨[.int .i64 (k1 : Int), .int .i64 0]⟩) := rfl
    have lg : ∀ o s, load1 m' ⟨P, o, s⟩ = [g1, g2][o]? := fun o s => (st.get 0 rfl).2.2.load1 o s
    have hP5 : P < m'.n := (st.get 0 rfl).2.1
    have hPR : mR.n ≤ P := (st.get 0 rfl).1
    obtain ⟨M1, hM1⟩ : ∃ M1, M1 = Dx.newRow m' [iv k1, iv 0] := ⟨_, rfl⟩
    have E1 : Ext m' M1 := by rw [hM1]; exact Ext.row _ _
    have hl1 := eD_len q code i
    obtain ⟨g1', m2', p1, p1', p2, p3, p4, p5, p6⟩ := (hg1.ext E1).appendAny (st.ext.trans E1) hmb (by omega) edgeRow_len (fun x => by simp [edgeRow, okC]) (x := ((k1 : Int), 0)) (X := m'.n) (sp := some 5) (by rw [hM1]; exact (Arr.row m' _).loads (by simp [edgeRow])) (bytes := 16) (by rw [hl1]; unfold most; omega) (by rw [hl1]; omega)
    rw [hk1, ← eD_succ] at p3
    obtain ⟨m2, hm2⟩ : ∃ m2, m2 = behind M1 m2' := ⟨_, rfl⟩
    rw [← hm2] at p2 p3 p4 p5
    have nE1 := E1.n
    have stA := (st.step E1).keepOn p2 p4 fun p hp => p5 p.1 (by have := (st.arr p hp).2.1; omega) fun hc => by
      have h5 := (f1 _ hc).1
      simp only [List.mem_cons, List.not_mem_nil, or_false] at hp
      rcases hp with rfl; simp at h5
    obtain ⟨m3', s1, s1', s2, s3, s4⟩ := stA.storeAny 0 rfl (o := 0) (v := g1') (by simp) p3.okC
    obtain ⟨m3, hm3⟩ : ∃ m3, m3 = behind m2 m3' := ⟨_, rfl⟩
    rw [← hm3] at s2 s3 s4
    have s2' : St mR m3 [(P, [g1', g2])] := s2
    have hg1n : Grown mR m3 g1' 2 edgeRow (eD q code (i + 1)) := p3.keep (by omega) fun B _ hb => s4 B (by have := p6 B hb; omega)
    have hlow2 := grown_low hg2
    have hg2n : Grown mR m3 g2 1 modeRow (List.replicate i 1) := hg2.keep (by omega) fun B hB hb => by
      rw [s4 B (by have := f2 B hb; omega), p5 B (by omega) (fun hc => (f1 B hc).2 hb), E1.obj B hB]
    have lg3 : ∀ o s, load1 m3 ⟨P, o, s⟩ = [g1', g2][o]? := fun o s => (s2'.get 0 rfl).2.2.load1 o s
    obtain ⟨M4, hM4⟩ : ∃ M4, M4 = Dx.newRow m3 [iv 1] := ⟨_, rfl⟩
    have E4 : Ext m3 M4 := by rw [hM4]; exact Ext.row _ _
    have nE4 := E4.n
    obtain ⟨g2', m5, r1, r2, r3, r4, r5, r6⟩ := (hg2n.ext E4).append (s2'.ext.trans E4) hmb (by omega) modeRow_len (fun x => by simp [modeRow, okC]) (x := (1 : Int)) (X := m3.n) (sp := some 3) (by rw [hM4]; exact (Arr.row m3 _).loads (by simp [modeRow])) (bytes := 8) (by rw [List.length_replicate]; unfold most; omega) (by rw [List.length_replicate]; omega)
    rw [← ones_succ] at r3
    have stB := (s2'.step E4).keepOn r2 r4 fun p hp => r5 p.1 (by have := (s2'.arr p hp).2.1; omega) fun hc => by
      have h5 := f2 _ hc
      simp only [List.mem_cons, List.not_mem_nil, or_false] at hp
      rcases hp with rfl; simp at h5
    obtain ⟨m6, u1, u2, u3, u4⟩ := stB.store 0 rfl (o := 1) (v := g2') (by simp) r3.okC
    have u2' : St mR m6 [(P, [g1', g2'])] := u2
    have hlow1 := grown_low hg1n
    have hg2f : Grown mR m6 g2' 1 modeRow (List.replicate (i + 1) 1) := r3.keep (by omega) fun B _ hb => u4 B (by have := r6 B hb; omega)
    have hg1f : Grown mR m6 g1' 2 edgeRow (eD q code (i + 1)) := hg1n.keep (by omega) fun B hB hb => by
      have h6 := p6 B hb
      rw [u4 B (by omega), r5 B (by omega) (fun hc => by have := (hlow2 B hc).2; omega), E4.obj B hB]
    have lg6 : ∀ o s, load1 m6 ⟨P, o, s⟩ = [g1', g2'][o]? := fun o s => (u2'.get 0 rfl).2.2.load1 o s
    have fb1 : ∀ B, blk g1' = some B → P < B ∧ blk g2' ≠ some B := fun B hB => ⟨by have := p6 B hB; omega, fun hc => by
      have h7 := r6 B hc
      have h8 := (hlow1 B hB).2
      omega⟩
    have fb2 : ∀ B, blk g2' = some B → P < B := fun B hB => by have := r6 B hB; omega
    -- what comes behind the test
    have hwn : (if w / 7 = 0 then 1 else w / 7) = 7 ^ (q - 1 - (i + 1)) := by
      by_cases hl : i + 1 < q
      · have : w = 7 * 7 ^ (q - 1 - (i + 1)) := by rw [hw, show q - 1 - i = q - 1 - (i + 1) + 1 by omega, Nat.pow_succ]; omega
        have hp : 0 < 7 ^ (q - 1 - (i + 1)) := Nat.pow_pos (by omega)
        rw [this, Nat.mul_div_cancel_left _ (by omega), if_neg (by omega)]
      · have h0 : q - 1 - i = 0 := by omega
        rw [hw, h0, show q - 1 - (i + 1) = 0 by omega]; rfl
    obtain ⟨w7, hw7⟩ : ∃ w7, w7 = w / 7 := ⟨_, rfl⟩
    rw [← hw7] at hwq hwn
    have w7' : binV .quo (.int .i64 (w : Int)) (.int .i64 7) = some (.int .i64 (w7 : Int)) := hwq
    have go : ∀ (m7 : M), Ext m6 m7 → St mR m7 [(P, [g1', g2'])] ∧ Grown mR m7 g1' 2 edgeRow (eD q code (i + 1)) ∧ Grown mR m7 g2' 1 modeRow (List.replicate (i + 1) 1) := fun m7 h7 => ⟨u2'.step h7, hg1f.ext h7, hg2f.ext h7⟩
    -- the round's end, where the test has not left
    have rest : ∀ (m7 : M) (t2 : Tm), Ext m6 m7 → fineD q code (i + 1) = true → (∀ k ∈ [0, 3, 4, 6, 7], Tm.get k t2 = Tm.get k t) → Tm.get 8 t2 = iv r' → Tm.get 9 t2 = iv w → Tm.get 10 t2 = .bool true → Tm.get 11 t2 = iv i →
        Q (c_r_All_18 (ex Try.prog (n + 1)) (sReg (seqI o_r_All_24) (ex Try.prog (n + 1)) kk (outOf 4 kn ke) kr) (outOf 5 (sReg (seqI o_r_All_24) (ex Try.prog (n + 1)) kk (outOf 4 kn ke) kr) (outOf 4 kn ke)) kr t2 m7) := by
      intro m7 t2 h7 hf b0 b8 b9 b10 b11
      obtain ⟨v1, v2, v3⟩ := go m7 h7
      by_cases hz : w7 = 0
      · rw [if_pos hz] at hwn
        simp [b9, w7', hz, b11, w1]
        refine hk hil _ _ ⟨fun k hk' => ?_, by simp [b8, hrn], by simp [← hwn], by simp [b10], by simp, hf, g1', g2', v1, v2, v3, fb1, fb2⟩
        rw [← b0 k hk']
        simp only [List.mem_cons, List.not_mem_nil, or_false] at hk'
        rcases hk' with rfl | rfl | rfl | rfl | rfl <;> simp
      · rw [if_neg hz] at hwn
        simp [b9, w7', hz, b11, w1]
        refine hk hil _ _ ⟨fun k hk' => ?_, by simp [b8, hrn], by simp [← hwn], by simp [b10], by simp, hf, g1', g2', v1, v2, v3, fb1, fb2⟩
        rw [← b0 k hk']
        simp only [List.mem_cons, List.not_mem_nil, or_false] at hk'
        rcases hk' with rfl | rfl | rfl | rfl | rfl <;> simp
    have hM1' : Dx.newRow m' [iv k1, iv 0] = M1 := hM1.symm
    have hlg : ∀ m, (forAny m).log = [] := fun m => forAny_log m
    by_cases hi0 : i = 0
    · have hg1 : ((0 : Int) < (i : Int)) = False := eq_false (by omega)
      have hg2 : (0 < i) = False := eq_false (by omega)
      have hfn : fineD q code (i + 1) = true := by rw [hi0]; rfl
      simp [-c_r_All_18_ap, k0, k7, t8, t9, t11, hd, lg, hquo, wd, hbv, hM1', p1, ← hm2, s1, ← hm3, lg3, ← hM4, r1, u1, hrem, hg1, hg2]
      refine rest m6 _ (Ext.refl _) hfn (fun k hk' => ?_) (by simp) (by simp [t9]) (by simp [t10]) (by simp [t11])
      rw [← hk0 k hk']
      simp only [List.mem_cons, List.not_mem_nil, or_false] at hk'
      rcases hk' with rfl | rfl | rfl | rfl | rfl <;> simp
    · have hg1 : ((0 : Int) < (i : Int)) = True := eq_true (by omega)
      have hg2 : (0 < i) = True := eq_true (by omega)
      obtain ⟨j, hj⟩ : ∃ j, i = j + 1 := ⟨i - 1, by omega⟩
      have wsub : IntKind.i64.wrap ((i : Int) - 1) = (j : Int) := by rw [wrap64 _ (by omega) (by omega)]; omega
      have hr1 := hg1f.rd edgeRow_len
      have ⟨x1, _, x3⟩ := hr1.at (eD_get (q := q) (code := code) (show j < i + 1 by omega))
      have x4 := x3 m6 0 none u2'.sees.self (by simp [edgeRow])
      obtain ⟨v7, m7', y1, y2, y3, rfl⟩ := any_call (To_c n (kd q code j : Nat) (forAny m6))
      obtain ⟨m7, hm7⟩ : ∃ m7, m7 = behind m6 m7' := ⟨_, rfl⟩
      rw [← hm7] at y3
      have S7 := u2'.sees.self.ext y3
      have ⟨x5, _, x7⟩ := (hr1.sees S7).at (eD_get (q := q) (code := code) (show i < i + 1 by omega))
      have x8 := x7 m7 0 none S7.self (by simp [edgeRow])
      have lg7 : ∀ o s, load1 m7 ⟨P, o, s⟩ = [g1', g2'][o]? := fun o s => ((u2'.step y3).get 0 rfl).2.2.load1 o s
      obtain ⟨v8, m8', z1, z2, z3, rfl⟩ := any_call (From_c n (kd q code i : Nat) (forAny m7))
      obtain ⟨m8, hm8⟩ : ∃ m8, m8 = behind m7 m8' := ⟨_, rfl⟩
      rw [← hm8] at z3
      have E8 : Ext m6 m8 := y3.trans z3
      have hlk : linkD q code i = (toI (kd q code j : Nat) == fromI (kd q code i : Nat)) := by
        unfold linkD
        have : (i == 0) = false := by simpa using hi0
        rw [this, show i - 1 = j by omega]; rfl
      obtain ⟨A, hA⟩ : ∃ A, A = toI (kd q code j : Nat) := ⟨_, rfl⟩
      obtain ⟨C, hC⟩ : ∃ C, C = fromI (kd q code i : Nat) := ⟨_, rfl⟩
      rw [← hA] at y1
      rw [← hC] at z1
      rw [← hA, ← hC] at hlk
      have x4' : load1 m6 ⟨(adr 2 g1' j).block, (adr 2 g1' j).off, none⟩ = some (iv (kd q code j : Nat)) := x4
      have x8' : load1 m7 ⟨(adr 2 g1' i).block, (adr 2 g1' i).off, none⟩ = some (iv (kd q code i : Nat)) := x8
      obtain ⟨kj, hkj⟩ : ∃ kj, kj = kd q code j := ⟨_, rfl⟩
      rw [← hkj] at x4' y1
      rw [← hk1] at x8' z1
      have hfs := fineD_succ q code i
      rw [hfi, Bool.true_and, hlk] at hfs
      cases hAC : (A == C) with
      | true =>
        have hne : (A != C) = false := by show (!(A == C)) = false; rw [hAC]; rfl
        rw [hAC] at hfs
        simp [-c_r_All_18_ap, k0, k7, t8, t9, t11, hd, lg, hquo, wd, hbv, hM1', p1, ← hm2, s1, ← hm3, lg3, ← hM4, r1, u1, hrem, hg1, hg2, lg6, wsub, x1, x4', y1, y2, ← hm7, lg7, x5, x8', z1, z2, ← hm8, hlg, hne]
        refine rest m8 _ E8 hfs (fun k hk' => ?_) (by simp) (by simp [t9]) (by simp [t10]) (by simp [t11])
        rw [← hk0 k hk']
        simp only [List.mem_cons, List.not_mem_nil, or_false] at hk'
        rcases hk' with rfl | rfl | rfl | rfl | rfl <;> simp
      | false =>
        have hne : (A != C) = true := by show (!(A == C)) = true; rw [hAC]; rfl
        rw [hAC] at hfs
        have hfq : fineD q code q = false := by have := fineD_false hfs (q - (i + 1)); rwa [show i + 1 + (q - (i + 1)) = q by omega] at this
        simp [-c_r_All_18_ap, k0, k7, t8, t9, t11, hd, lg, hquo, wd, hbv, hM1', p1, ← hm2, s1, ← hm3, lg3, ← hM4, r1, u1, hrem, hg1, hg2, lg6, wsub, x1, x4', y1, y2, ← hm7, lg7, x5, x8', z1, z2, ← hm8, hlg, hne]
        refine hQ _ _ (fun k hk' => ?_) (by rw [hfq]; simp) ⟨g1', g2', u2'.step E8, fun h => by rw [hfq] at h; cases h⟩
        rw [← hk0 k hk']
        simp only [List.mem_cons, List.not_mem_nil, or_false] at hk'
        rcases hk' with rfl | rfl | rfl | rfl | rfl <;> simp
  · obtain rfl : i = q := by omega
    have hd : ((i : Int) < (i : Int)) = False := eq_false (by omega)
    simp [k0, t11, hd]
    exact hQ _ _ (fun k hk => by
      rw [← hk0 k hk]
      simp only [List.mem_cons, List.not_mem_nil, or_false] at hk
      rcases hk with rfl | rfl | rfl | rfl | rfl <;> simp) (by rw [hfi]; simp [t10]) ⟨g1, g2, st, fun _ => ⟨hg1, hg2⟩⟩
end Go.Sx

set_option linter.unusedSimpArgs false
set_option linter.unusedVariables false
namespace Go.Sx
open Go.Dx Go.Proofs
/-- no turn lies below -/
def leastB (c : Cyc) (k : Nat) : Bool := (List.range k).all fun j => !belowB (turnC c j) c
theorem leastB_succ (c : Cyc) (k : Nat) : leastB c (k + 1) = (leastB c k && !belowB (turnC c k) c) := by unfold leastB; rw [List.range_succ, List.all_append]; simp
theorem belowB_self (c : Cyc) : belowB c c = false := by
  cases h : belowB c c with
  | false => rfl
  | true => have := (ord_below c c).2 h; rw [ordC_self] at this; omega
theorem leastB_one (c : Cyc) : leastB c 1 = true := by
  rw [leastB_succ, turnC_zero, belowB_self]; rfl
theorem least_loop (n q P : Nat) (es : List (Int × Int)) (ms : List Int) (g1 g2 : Value) (hq : 1 ≤ q) (hq6 : q ≤ 6) (hes : es.length = q) (hms : ms.length = q) (Q : Option Out → Prop) (kn kr : K) (ke : Nat → K) (t : Tm) (mR m : M)
    (t0 : Tm.get 0 t = iv q) (t7 : Tm.get 7 t = .pointer (some ⟨P, 0, none⟩)) (t14 : Tm.get 14 t = .bool true) (t15 : Tm.get 15 t = iv 1)
    (st : St mR m [(P, [g1, g2])]) (h1 : Rd m g1 2 edgeRow es) (h2 : Rd m g2 1 modeRow ms)
    (hQ : ∀ t' m', (∀ k ∈ [0, 3, 4, 6, 7], Tm.get k t' = Tm.get k t) → Tm.get 14 t' = .bool (leastB (es, ms) q) → Ext m m' → Q (kn t' m')) :
    Q (c_r_All_40 (ex Try.prog (n + 2)) kn (outOf 6 kn ke) kr t m) := by
  refine loop_run (c := c_r_All_40) rfl Q (fun j t' m' => (∀ k ∈ [0, 3, 4, 6, 7], Tm.get k t' = Tm.get k t) ∧ Tm.get 14 t' = .bool (leastB (es, ms) (j + 1)) ∧ Tm.get 15 t' = iv (j + 1 : Nat) ∧ Ext m m') (q - 1) (by omega)
    ⟨fun _ _ => rfl, by rw [leastB_one]; exact t14, t15, Ext.refl m⟩ (fun j t' m' kk hj hI hk => ?_)
  obtain ⟨hk0, t14, t15, hE⟩ := hI
  have k0 : Tm.get 0 t' = iv q := by rw [hk0 0 (by simp), t0]
  have k7 : Tm.get 7 t' = .pointer (some ⟨P, 0, none⟩) := by rw [hk0 7 (by simp), t7]
  have st' := st.step hE
  have S0 := st.sees.self.ext hE
  obtain ⟨k, hkj⟩ : ∃ k, k = j + 1 := ⟨_, rfl⟩
  rw [← hkj] at t14 t15
  by_cases hil : k < q
  · have hd := dlt hil
    have w1 := nextI (i := k) (by omega)
    have hlg : ∀ m, (forAny m).log = [] := fun m => forAny_log m
    have lP : loads m' ⟨P, 0, none⟩ 2 = some [g1, g2] := (st'.get 0 rfl).2.2.loads (n := 2) (by simp)
    obtain ⟨v5, m5', a1, a2, a3, u1, u2, rfl, gu1, gu2⟩ := any_call (Turned_c (n + 1) g1 g2 es ms (forAny m') (sees_any st'.sees).base (by unfold most; omega) (by omega) (h1.sees (sees_any S0)) (h2.sees (sees_any S0)) k (by omega))
    obtain ⟨m5, hm5⟩ : ∃ m5, m5 = behind m' m5' := ⟨_, rfl⟩
    rw [← hm5] at a3
    have st5 := st'.step a3
    have S5 := S0.ext a3
    have e4 : Rd m5 u1 2 edgeRow (turnL k es) := by rw [hm5]; exact (gu1.rd edgeRow_len).behind
    have e5 : Rd m5 u2 1 modeRow (turnL k ms) := by rw [hm5]; exact (gu2.rd modeRow_len).behind
    have lP5 : loads m5 ⟨P, 0, none⟩ 2 = some [g1, g2] := (st5.get 0 rfl).2.2.loads (n := 2) (by simp)
    obtain ⟨v6, m6', b1, b2, b3, rfl⟩ := any_call (Below_c (n + 1) u1 u2 g1 g2 (turnL k es) es (turnL k ms) ms (forAny m5) (sees_any st5.sees).base (by rw [turnL_len]; omega) (by rw [turnL_len]) (by rw [turnL_len, turnL_len]; omega) (by rw [turnL_len]; omega) (e4.sees (sees_any st5.sees.self)) (e5.sees (sees_any st5.sees.self)) (h1.sees (sees_any S5)) (h2.sees (sees_any S5)))
    obtain ⟨m6, hm6⟩ : ∃ m6, m6 = behind m5 m6' := ⟨_, rfl⟩
    rw [← hm6] at b3
    have hEE : Ext m m6 := (hE.trans a3).trans b3
    have hls := leastB_succ (es, ms) k
    obtain ⟨O, hO⟩ : ∃ O, O = belowB (turnL k es, turnL k ms) (es, ms) := ⟨_, rfl⟩
    rw [show belowB (turnC (es, ms) k) (es, ms) = O from hO.symm] at hls
    rw [← hO] at b1
    cases O with
    | true =>
      rw [Bool.not_true, Bool.and_false] at hls
      simp [k0, k7, t15, hd, lP, loadNS_ptr, a1, a2, ← hm5, lP5, b1, b2, ← hm6, hlg, w1]
      refine hk (by omega) _ _ ⟨fun i hi => ?_, by rw [← hkj, hls]; simp, by simp [hkj], hEE⟩
      rw [← hk0 i hi]
      simp only [List.mem_cons, List.not_mem_nil, or_false] at hi
      rcases hi with rfl | rfl | rfl | rfl | rfl <;> simp
    | false =>
      rw [Bool.not_false, Bool.and_true] at hls
      simp [k0, k7, t15, hd, lP, loadNS_ptr, a1, a2, ← hm5, lP5, b1, b2, ← hm6, hlg, w1]
      refine hk (by omega) _ _ ⟨fun i hi => ?_, by rw [← hkj, hls]; simp [t14], by simp [hkj], hEE⟩
      rw [← hk0 i hi]
      simp only [List.mem_cons, List.not_mem_nil, or_false] at hi
      rcases hi with rfl | rfl | rfl | rfl | rfl <;> simp
  · obtain rfl : k = q := by omega
    have hd : ((k : Int) < (k : Int)) = False := eq_false (by omega)
    simp [k0, t15, hd]
    refine hQ _ _ (fun i hi => ?_) (by simp [t14]) hE
    rw [← hk0 i hi]
    simp only [List.mem_cons, List.not_mem_nil, or_false] at hi
    rcases hi with rfl | rfl | rfl | rfl | rfl <;> simp
/-- what the reference takes of one number -/
def refOne (q code : Nat) : List Cyc :=
  if fineD q code q = true ∧ (checkR (eD q code q) (List.replicate q 1)).2 = 0 ∧ leastB (eD q code q, List.replicate q 1) q = true then [(eD q code q, List.replicate q 1)] else []
theorem refOne_len (q code : Nat) : (refOne q code).length ≤ 1 := by unfold refOne; split <;> simp
def refG (q k : Nat) : List Cyc := (List.range k).flatMap (refOne q)
theorem refG_succ (q k : Nat) : refG q (k + 1) = refG q k ++ refOne q k := by unfold refG; rw [List.range_succ, List.flatMap_append]; simp
theorem refG_len (q : Nat) : ∀ k, (refG q k).length ≤ k
  | 0 => by simp [refG]
  | k + 1 => by rw [refG_succ, List.length_append]; have := refG_len q k; have := refOne_len q k; omega
end Go.Sx

set_option linter.unusedSimpArgs false
set_option linter.unusedVariables false
namespace Go.Sx
open Go.Dx Go.Proofs
theorem RefAll_c (n q : Nat) (h3 : 3 ≤ q) (h6 : q ≤ 6) (m : M) (hm : m.base ≤ m.n) : Dx.Call (ex Try.prog (n + 7)) 33 [iv q] m fun v m' => ∃ rows, CycL m' v rows (refG q (7 ^ q)) := by
  suffices H : ∀ Q : Value → M → Prop, (∀ v m', (∃ rows, CycL m' v rows (refG q (7 ^ q))) → Q v m') → Dx.Call (ex Try.prog (n + 7)) 33 [iv q] m Q from H _ fun _ _ h => h
  intro Q hQ
  refine call_ret d_r_All_ok (by simp) ?_
  have h76 : (7 : Nat) ^ 6 = 117649 := rfl
  have hp7 : 7 ^ q ≤ 7 ^ 6 := Nat.pow_le_pow_right (by omega) h6
  simp
  refine loop_run (c := c_r_All_6) rfl (Ret m Q) (fun i t m' => Tm.get 0 t = iv q ∧ Tm.get 3 t = .slice none 0 0 ∧ Tm.get 4 t = iv (7 ^ i : Nat) ∧ Tm.get 5 t = iv i ∧ m' = m) q (by omega)
    ⟨by simp, by simp, by simp, by simp, rfl⟩ (fun i t m' k hi hI hk => ?_)
  obtain ⟨t0, t3, t4, t5, rfl⟩ := hI
  by_cases hil : i < q
  · have hd := dlt hil
    have w1 := nextI (i := i) (by omega)
    have hpi : 7 ^ (i + 1) ≤ 7 ^ 6 := Nat.pow_le_pow_right (by omega) (by omega)
    have hps : 7 ^ (i + 1) = 7 ^ i * 7 := Nat.pow_succ 7 i
    obtain ⟨w, hw⟩ : ∃ w, w = 7 ^ i := ⟨_, rfl⟩
    obtain ⟨w', hw'⟩ : ∃ w', w' = 7 ^ (i + 1) := ⟨_, rfl⟩
    rw [← hw] at t4 hps
    rw [← hw'] at hps hpi
    have wm : IntKind.i64.wrap ((w : Int) * 7) = (w' : Int) := by rw [wrap64 _ (by omega) (by omega)]; omega
    have hmul : binV .mul (.int .i64 (w : Int)) (.int .i64 7) = some (.int .i64 (w' : Int)) := by
      rw [← wm, binV_int]
      show some (Value.int .i64 (wrapF .i64 ((w : Int) * 7))) = _
      rw [wrapF_eq]
    simp [t0, t4, t5, hd, hmul, w1]
    exact hk hil _ _ ⟨by simp [t0], by simp [t3], by simp [hw'], by simp, rfl⟩
  obtain rfl : i = q := by omega
  have hd : ((i : Int) < (i : Int)) = False := eq_false (by omega)
  simp [t0, t5, hd]
  clear hil hk k hi
  obtain ⟨W, hW⟩ : ∃ W, W = 7 ^ i := ⟨_, rfl⟩
  rw [← hW] at t4 hp7 hQ
  have hWp : 0 < W := by rw [hW]; exact Nat.pow_pos (by omega)
  have hgs0 : GS m' m' m' 0 0 [] (.slice none 0 0) 2 rowC [] := GS.ofSt (St.nil hm (Ext.refl m')) 2 rowC
  refine loop_run (c := c_r_All_58) rfl (Ret m' Q) (fun j t m => Tm.get 0 t = iv i ∧ Tm.get 4 t = iv W ∧ Tm.get 6 t = iv j ∧ ∃ rows, GS m' m' m 0 0 [] (Tm.get 3 t) 2 rowC rows ∧ rows.length = (refG i j).length ∧ ∀ (x : Nat) r c, rows[x]? = some r → (refG i j)[x]? = some c → RowOk m 0 (Tm.get 3 t) r c) W (by omega)
    ⟨by simp [t0], by simp [t4], by simp, [], by simpa [t3] using hgs0, rfl, fun x r c hr => by simp at hr⟩ (fun j t m k hj hI hk => ?_)
  obtain ⟨s0, s4, s6, rows, gs, hrl, hrk⟩ := hI
  obtain ⟨g, hg⟩ : ∃ g, g = Tm.get 3 t := ⟨_, rfl⟩
  rw [← hg] at gs hrk
  by_cases hjl : j < W
  rotate_left
  · obtain rfl : j = W := by omega
    have hd : ((j : Int) < (j : Int)) = False := eq_false (by omega)
    simp [s4, s6, hd, ← hg]
    exact ret_1 gs.st.ext (hQ _ _ ⟨rows, by simpa using gs.gr.rd rowC_len, hrl, fun x r c hr hc => ⟨(hrk x r c hr hc).e, (hrk x r c hr hc).d⟩⟩)
  have hd := dlt hjl
  have w1 := nextI (i := j) (by omega)
  have hquo := binV_quo (a := W) (b := 7) (by omega) (by omega)
  have hW7 : W / 7 = 7 ^ (i - 1) := by
    rw [hW, show i = i - 1 + 1 by omega, Nat.pow_succ, Nat.mul_div_cancel _ (by omega)]; rfl
  rw [hW7] at hquo
  obtain ⟨W7, hW7'⟩ : ∃ W7, W7 = 7 ^ (i - 1) := ⟨_, rfl⟩
  rw [← hW7'] at hquo
  have hquo' : binV .quo (.int .i64 (W : Int)) (.int .i64 7) = some (.int .i64 (W7 : Int)) := hquo
  have hgl := refG_len i j
  have hgsucc := refG_succ i j
  have st1 := (St.nil gs.st.sees.base (Ext.refl m)).row [.slice none 0 0, .slice none 0 0]
  obtain ⟨m1, hm1⟩ : ∃ m1, m1 = Dx.newRow m [.slice none 0 0, .slice none 0 0] := ⟨_, rfl⟩
  rw [← hm1] at st1
  -- a round that takes nothing
  have none_ : ∀ (m2 : M) (t2 : Tm), Ext m m2 → refOne i j = [] → Tm.get 0 t2 = iv i → Tm.get 4 t2 = iv W → Tm.get 3 t2 = g → Tm.get 6 t2 = iv (j + 1 : Nat) → Ret m' Q (k t2 m2) := by
    intro m2 t2 h2 hone b0 b4 b3 b6
    refine hk hjl _ _ ⟨b0, b4, b6, rows, by rw [b3]; exact gs.step h2, by rw [hgsucc, hone, List.append_nil]; exact hrl, fun x r c hr hc => ?_⟩
    rw [hgsucc, hone, List.append_nil] at hc
    rw [b3]
    exact (hrk x r c hr hc).keep h2.n (fun B _ hB _ => h2.obj B hB) fun B hB => .inl hB
  have hpw : (7 : Nat) ^ (i - 1) = W7 := hW7'.symm
  simp [s0, s4, s6, hd, ← hm1, hquo']
  refine dig_loop (n + 5) i j m.n (by omega) h6 (Ret m' Q) _ _ _ _ m m1 (by omega) (by simp [s0]) (by simp) (by simp) (by simp [hpw]) (by simp) (by simp) st1 (fun t2 m2 b b10 hpost => ?_)
  obtain ⟨g1, g2, s2, s3⟩ := hpost
  have c0 : Tm.get 0 t2 = iv i := by rw [b 0 (by simp)]; simp [s0]
  have c3 : Tm.get 3 t2 = g := by rw [b 3 (by simp)]; simp [hg]
  have c4 : Tm.get 4 t2 = iv W := by rw [b 4 (by simp)]; simp [s4]
  have c6 : Tm.get 6 t2 = iv j := by rw [b 6 (by simp)]; simp [s6]
  have c7 : Tm.get 7 t2 = .pointer (some ⟨m.n, 0, none⟩) := by rw [b 7 (by simp)]; simp
  have hE2 := s2.ext
  cases hf : fineD i j i with
  | false =>
    rw [hf] at b10
    have hone : refOne i j = [] := by unfold refOne; rw [if_neg]; rw [hf]; simp
    simp [b10, c6, w1]
    exact none_ m2 _ hE2 hone (by simp [c0]) (by simp [c4]) (by simp [c3]) (by simp)
  | true =>
  rw [hf] at b10
  obtain ⟨hg1, hg2⟩ := s3 hf
  have lP : loads m2 ⟨m.n, 0, none⟩ 2 = some [g1, g2] := (s2.get 0 rfl).2.2.loads (n := 2) (by simp)
  have r1 := hg1.rd edgeRow_len
  have r2 := hg2.rd modeRow_len
  have hel := eD_len i j i
  obtain ⟨v3, m3, d1, d2, rfl⟩ := Check_c n g1 g2 (eD i j i) (List.replicate i 1) m2 s2.sees.base (by omega) r1 r2
  have st3 := s2.step d2
  have hE3 := hE2.trans d2
  by_cases herr : (checkR (eD i j i) (List.replicate i 1)).2 = 0
  rotate_left
  · have hone : refOne i j = [] := by unfold refOne; rw [if_neg]; exact fun h => herr h.2.1
    simp [b10, c6, c7, w1, lP, loadNS_ptr, d1, herr]
    exact none_ m3 _ hE3 hone (by simp [c0]) (by simp [c4]) (by simp [c3]) (by simp)
  simp [b10, c6, c7, w1, lP, loadNS_ptr, d1, herr]
  have r1' := r1.sees (s2.sees.self.ext d2)
  have r2' := r2.sees (s2.sees.self.ext d2)
  refine least_loop (n + 4) i m.n (eD i j i) (List.replicate i 1) g1 g2 (by omega) h6 hel List.length_replicate (Ret m' Q) _ _ _ _ m m3 (by simp [c0]) (by simp [c7]) (by simp) (by simp) st3 r1' r2' (fun t4 m4 e e14 hE => ?_)
  have f0 : Tm.get 0 t4 = iv i := by rw [e 0 (by simp)]; simp [c0]
  have f3 : Tm.get 3 t4 = g := by rw [e 3 (by simp)]; simp [c3]
  have f4 : Tm.get 4 t4 = iv W := by rw [e 4 (by simp)]; simp [c4]
  have f6 : Tm.get 6 t4 = iv j := by rw [e 6 (by simp)]; simp [c6]
  have f7 : Tm.get 7 t4 = .pointer (some ⟨m.n, 0, none⟩) := by rw [e 7 (by simp)]; simp [c7]
  have hE4 := hE3.trans hE
  have st4 := st3.step hE
  cases hb : leastB (eD i j i, List.replicate i 1) i with
  | false =>
    rw [hb] at e14
    have hone : refOne i j = [] := by unfold refOne; rw [if_neg]; rw [hb]; simp
    simp [e14, f6, w1]
    exact none_ m4 _ hE4 hone (by simp [f0]) (by simp [f4]) (by simp [f3]) (by simp)
  | true =>
  rw [hb] at e14
  have hone : refOne i j = [(eD i j i, List.replicate i 1)] := by unfold refOne; rw [if_pos ⟨hf, herr, hb⟩]
  have lP4 : loads m4 ⟨m.n, 0, none⟩ 2 = some [g1, g2] := (st4.get 0 rfl).2.2.loads (n := 2) (by simp)
  obtain ⟨r, hr⟩ : ∃ r : RowV, r = ⟨(g1, g2), hg1.okC, hg2.okC⟩ := ⟨_, rfl⟩
  have hrc : rowC r = [g1, g2] := by rw [hr]; rfl
  obtain ⟨M5, hM5⟩ : ∃ M5, M5 = Dx.newRow m4 [g1, g2] := ⟨_, rfl⟩
  have E5 : Ext m4 M5 := by rw [hM5]; exact Ext.row _ _
  obtain ⟨g', m6, p1, p3, p4, p5, p6⟩ := (gs.step hE4).app (x := r) (by omega) rowC_len rowC_ok E5 (X := m4.n) (sp := some 5) (by rw [hM5, hrc]; exact (Arr.row m4 _).loads (by simp)) (bytes := 48) (by rw [hrl]; unfold most; omega) (by rw [hrl]; omega)
  simp [e14, f3, f6, f7, lP4, loadNS_ptr, ← hM5, p1, w1]
  have n5 := E5.n
  have n4 := (hE3.trans hE).n
  have nE := hE.n
  have nd2 := d2.n
  have hgl : ∀ B, blk g = some B → B < m.n := fun B hB => (gs.sep B hB).2.1
  have hgn : ∀ B, blk g' = some B → m4.n ≤ B := fun B hB => by have := p6 B hB; omega
  have k1 : ∀ B, blk g1 = some B → m.n ≤ B := fun B hB => (grown_low hg1 B hB).1
  have k2 : ∀ B, blk g2 = some B → m.n ≤ B := fun B hB => (grown_low hg2 B hB).1
  have hE34 := hE.n
  have keep : ∀ B, B < m4.n → blk g ≠ some B → m6.obj B = m4.obj B := p5
  refine hk hjl _ _ ⟨by simp [f0], by simp [f4], by simp, rows ++ [r], by simpa using p3, by rw [hgsucc, hone, List.length_append, List.length_append, hrl]; rfl, fun x rr c hr' hc => ?_⟩
  rw [hgsucc, hone] at hc
  have goal : RowOk m6 0 g' rr c := by
    by_cases hi : x < rows.length
    · rw [List.getElem?_append_left hi] at hr'
      rw [List.getElem?_append_left (by rw [← hrl]; exact hi)] at hc
      exact ((hrk x rr c hr' hc).keep hE4.n (fun B _ hB _ => hE4.obj B hB) (g' := g) fun B hB => .inl hB).keep (by omega) (fun B _ hB hg => keep B hB hg) fun B hB => .inr (hgn B hB)
    · have hi2 : x = rows.length := by
        have := (List.getElem?_eq_some_iff.1 hr').1
        rw [List.length_append] at this
        simp at this
        omega
      subst hi2
      rw [List.getElem?_append_right (Nat.le_refl _), Nat.sub_self] at hr'
      rw [hrl, List.getElem?_append_right (Nat.le_refl _), Nat.sub_self] at hc
      simp at hr' hc
      subst hr' hc
      rw [hr]
      have S34 := st3.sees.self.ext hE
      have e4 := r1'.sees S34
      have e5 := r2'.sees S34
      have q1 : ∀ B, blk g1 = some B → blk g ≠ some B := fun B hB hg => by have := k1 B hB; have := hgl B hg; omega
      have q2 : ∀ B, blk g2 = some B → blk g ≠ some B := fun B hB hg => by have := k2 B hB; have := hgl B hg; omega
      refine ⟨e4.congr (by omega) fun B hB => keep B (e4.lt B hB) (q1 B hB), e5.congr (by omega) fun B hB => keep B (e5.lt B hB) (q2 B hB), fun B hB => ⟨Nat.zero_le _, fun hg => ?_⟩, fun B hB => ⟨Nat.zero_le _, fun hg => ?_⟩⟩
      · have := hgn B hg; have := e4.lt B hB; omega
      · have := hgn B hg; have := e5.lt B hB; omega
  simpa using goal
end Go.Sx

set_option linter.unusedSimpArgs false
set_option linter.unusedVariables false
namespace Go.Sx
open Go.Dx Go.Proofs
/-! ### the order -/
def keyT (x : Cyc) (i : Nat) : Int × Int × Int := ((eAt x.1 i).1, (eAt x.1 i).2, mAt x.2 i)
def ltT (a b : Int × Int × Int) : Prop := a.1 < b.1 ∨ (a.1 = b.1 ∧ (a.2.1 < b.2.1 ∨ (a.2.1 = b.2.1 ∧ a.2.2 < b.2.2)))
theorem ordAt_0 (x y : Cyc) (i : Nat) : ordAt x y i = 0 ↔ keyT x i = keyT y i := by
  unfold ordAt keyT
  rw [orL3]
  simp only [Prod.mk.injEq]
  rw [← @cmpI_0 (eAt x.1 i).1 (eAt y.1 i).1, ← @cmpI_0 (eAt x.1 i).2 (eAt y.1 i).2, ← @cmpI_0 (mAt x.2 i) (mAt y.2 i)]
  split
  · rename_i h; exact ⟨fun h' => absurd h' h, fun h' => absurd h'.1 h⟩
  · rename_i h
    have h0 := Classical.not_not.1 h
    split
    · rename_i h1; exact ⟨fun h' => absurd h' h1, fun h' => absurd h'.2.1 h1⟩
    · rename_i h1
      exact ⟨fun h' => ⟨h0, Classical.not_not.1 h1, h'⟩, fun h' => h'.2.2⟩
theorem ordAt_lt (x y : Cyc) (i : Nat) : ordAt x y i < 0 ↔ ltT (keyT x i) (keyT y i) := by
  unfold ordAt keyT ltT
  rw [orL3]
  have c1 := @cmpI_lt (eAt x.1 i).1 (eAt y.1 i).1
  have c2 := @cmpI_lt (eAt x.1 i).2 (eAt y.1 i).2
  have c3 := @cmpI_lt (mAt x.2 i) (mAt y.2 i)
  have d1 := @cmpI_0 (eAt x.1 i).1 (eAt y.1 i).1
  have d2 := @cmpI_0 (eAt x.1 i).2 (eAt y.1 i).2
  split
  · rename_i h
    have : (eAt x.1 i).1 ≠ (eAt y.1 i).1 := fun h' => h (d1.2 h')
    constructor
    · intro h'; exact .inl (c1.1 h')
    · rintro (h' | ⟨h', _⟩)
      · exact c1.2 h'
      · exact absurd h' this
  · rename_i h
    have e1 := d1.1 (Classical.not_not.1 h)
    split
    · rename_i h2
      have : (eAt x.1 i).2 ≠ (eAt y.1 i).2 := fun h' => h2 (d2.2 h')
      constructor
      · intro h'; exact .inr ⟨e1, .inl (c2.1 h')⟩
      · rintro (h' | ⟨_, h' | ⟨h', _⟩⟩)
        · dsimp only at h'; omega
        · exact c2.2 h'
        · exact absurd h' this
    · rename_i h2
      have e2 := d2.1 (Classical.not_not.1 h2)
      constructor
      · intro h'; exact .inr ⟨e1, .inr ⟨e2, c3.1 h'⟩⟩
      · rintro (h' | ⟨_, h' | ⟨_, h'⟩⟩)
        · dsimp only at h'; omega
        · dsimp only at h'; omega
        · exact c3.2 h'
theorem ltT_trans {a b c : Int × Int × Int} (h : ltT a b) (k : ltT b c) : ltT a c := by
  unfold ltT at *; omega
theorem below_iff (x y : Cyc) : belowB x y = true ↔ ∃ i, i < x.1.length ∧ (∀ l, l < i → keyT x l = keyT y l) ∧ ltT (keyT x i) (keyT y i) := by
  unfold belowB
  constructor
  · intro h
    cases e : ordF x y with
    | none => rw [e] at h; cases h
    | some i =>
      rw [e] at h
      unfold ordF first at e
      rw [List.find?_range_eq_some] at e
      refine ⟨i, by simpa using e.2.1, fun l hl => ?_, (ordAt_lt x y i).1 (of_decide_eq_true h)⟩
      have := e.2.2 l hl
      simp at this
      exact (ordAt_0 x y l).1 this
  · rintro ⟨i, hi, h1, h2⟩
    have h3 := (ordAt_lt x y i).2 h2
    have : ordF x y = some i := first_some hi (by simp; omega) fun j hj => by simp [(ordAt_0 x y j).2 (h1 j hj)]
    rw [this]
    exact decide_eq_true h3
theorem below_trans {x y z : Cyc} (hl : y.1.length = x.1.length) (h : belowB x y = true) (k : belowB y z = true) : belowB x z = true := by
  obtain ⟨i, i1, i2, i3⟩ := (below_iff x y).1 h
  obtain ⟨j, j1, j2, j3⟩ := (below_iff y z).1 k
  refine (below_iff x z).2 ?_
  rcases Nat.lt_trichotomy i j with hij | hij | hij
  · exact ⟨i, i1, fun l hl => (i2 l hl).trans (j2 l (by omega)), by rw [← j2 i hij]; exact i3⟩
  · subst hij
    exact ⟨i, i1, fun l hl => (i2 l hl).trans (j2 l hl), ltT_trans i3 j3⟩
  · exact ⟨j, by omega, fun l hl => (i2 l (by omega)).trans (j2 l hl), by rw [i2 j hij]; exact j3⟩
theorem turnC_len (x : Cyc) (k : Nat) : (turnC x k).1.length = x.1.length := turnL_len k x.1
/-- Canon leaves what no turn lies below -/
theorem canon_fold (c : Cyc) : ∀ k, ((List.range k).foldl (canStep c) c = c ∧ leastB c k = true) ∨ (belowB ((List.range k).foldl (canStep c) c) c = true ∧ leastB c k = false)
  | 0 => .inl ⟨rfl, rfl⟩
  | k + 1 => by
    have hf : (List.range (k + 1)).foldl (canStep c) c = canStep c ((List.range k).foldl (canStep c) c) k := by rw [List.range_succ, List.foldl_append]; rfl
    rw [hf, canStep_below, leastB_succ]
    rcases canon_fold c k with ⟨h1, h2⟩ | ⟨h1, h2⟩
    · rw [h1, h2]
      cases hb : belowB (turnC c k) c with
      | true => exact .inr ⟨by rw [if_pos rfl]; exact hb, rfl⟩
      | false => exact .inl ⟨by rw [if_neg (by simp)], rfl⟩
    · rw [h2]
      refine .inr ⟨?_, rfl⟩
      by_cases hb : belowB (turnC c k) ((List.range k).foldl (canStep c) c) = true
      · rw [if_pos hb]
        refine below_trans ?_ hb h1
        rw [turnC_len]
        have := (can_len (c.1, List.replicate c.1.length 0) [] (c.1, List.replicate c.1.length 0) rfl rfl).1
        clear this
        -- the fold keeps the length
        have : ∀ (l : List Nat) (b : Cyc), b.1.length = c.1.length → (l.foldl (canStep c) b).1.length = c.1.length := by
          intro l
          induction l with
          | nil => intro b hb; exact hb
          | cons a l ih =>
            intro b hb
            rw [List.foldl_cons]
            refine ih _ ?_
            unfold canStep; split
            · exact turnC_len _ _
            · exact hb
        exact this _ c rfl
      · rw [if_neg hb]; exact h1
theorem canon_least (c : Cyc) (hl : c.1.length = c.2.length) : ordC (canF c) c = 0 ↔ leastB c c.1.length = true := by
  unfold canF
  rw [if_neg (by omega)]
  rcases canon_fold c c.1.length with ⟨h1, h2⟩ | ⟨h1, h2⟩
  · rw [h1, h2, ordC_self]; simp
  · have := (ord_below _ _).2 h1
    rw [h2]
    constructor
    · intro h; omega
    · intro h; cases h
/-! ### the walk through the numbers -/
theorem range_mul {α : Type} (f : Nat → List α) (b : Nat) : ∀ a, (List.range (a * b)).flatMap f = (List.range a).flatMap fun k => (List.range b).flatMap fun c => f (k * b + c)
  | 0 => by simp
  | a + 1 => by
    rw [Nat.succ_mul, List.range_add, List.flatMap_append, range_mul f b a, List.range_succ, List.flatMap_append]
    congr 1
    rw [List.flatMap_cons, List.flatMap_nil, List.append_nil, List.flatMap_map]
theorem kd_head {d k c : Nat} (hk : k < 7) (hc : c < 7 ^ d) : kd (d + 1) (k * 7 ^ d + c) 0 = k + 1 := by
  unfold kd
  have hp : 0 < 7 ^ d := Nat.pow_pos (by omega)
  have h1 : k * 7 ^ d + c < 7 ^ (d + 1) := by
    rw [Nat.pow_succ]
    have := Nat.mul_le_mul_right (7 ^ d) (show k + 1 ≤ 7 by omega)
    rw [Nat.succ_mul] at this
    omega
  rw [Nat.sub_zero, Nat.mod_eq_of_lt h1, show d + 1 - 1 - 0 = d by omega, Nat.add_comm (k * 7 ^ d), Nat.add_mul_div_right _ _ hp, Nat.div_eq_of_lt hc, Nat.zero_add]
theorem kd_tail {d k c j : Nat} (hj : j < d) : kd (d + 1) (k * 7 ^ d + c) (j + 1) = kd d c j := by
  unfold kd
  rw [show d + 1 - (j + 1) = d - j by omega, show d + 1 - 1 - (j + 1) = d - 1 - j by omega]
  have h1 : 7 ^ d = 7 ^ (d - j) * 7 ^ j := by rw [← Nat.pow_add, show d - j + j = d by omega]
  have h2 : (k * 7 ^ d + c) % 7 ^ (d - j) = c % 7 ^ (d - j) := by
    rw [h1, Nat.mul_comm (7 ^ (d - j)) (7 ^ j), ← Nat.mul_assoc, Nat.add_comm, Nat.add_mul_mod_self_right]
  rw [h2]
theorem eD_cons {d k c : Nat} (hk : k < 7) (hc : c < 7 ^ d) : eD (d + 1) (k * 7 ^ d + c) (d + 1) = (((k + 1 : Nat) : Int), 0) :: eD d c d := by
  unfold eD
  rw [List.range_succ_eq_map, List.map_cons, kd_head hk hc, List.map_map]
  congr 1
  refine List.map_congr_left fun j hj => ?_
  show ((kd (d + 1) (k * 7 ^ d + c) (j + 1) : Int), (0 : Int)) = _
  rw [kd_tail (List.mem_range.1 hj)]
def leafC (es : List (Int × Int)) : List Cyc := if okA es then [(es, List.replicate es.length 1)] else []
theorem flatMap_congr' {α β : Type} {f g : α → List β} : ∀ {l : List α}, (∀ x ∈ l, f x = g x) → l.flatMap f = l.flatMap g
  | [], _ => rfl
  | x :: l, h => by rw [List.flatMap_cons, List.flatMap_cons, h x (List.mem_cons_self ..), flatMap_congr' fun y hy => h y (List.mem_cons_of_mem _ hy)]
theorem genF_range : ∀ (d : Nat) (pre : List (Int × Int)), genF d pre = (List.range (7 ^ d)).flatMap fun c => leafC (pre ++ eD d c d)
  | 0, pre => by
    rw [show (7 : Nat) ^ 0 = 1 from rfl, show List.range 1 = [0] from rfl, List.flatMap_cons, List.flatMap_nil, List.append_nil]
    show (if okA pre then _ else _) = leafC (pre ++ [])
    rw [List.append_nil]; rfl
  | d + 1, pre => by
    rw [show (7 : Nat) ^ (d + 1) = 7 * 7 ^ d by rw [Nat.pow_succ, Nat.mul_comm], range_mul]
    show ((List.range 7).flatMap fun k => genF d (pre ++ [(((k + 1 : Nat) : Int), 0)])) = _
    refine flatMap_congr' fun k hk => ?_
    rw [genF_range d]
    refine flatMap_congr' fun c hc => ?_
    rw [eD_cons (List.mem_range.1 hk) (List.mem_range.1 hc), List.append_assoc]
    rfl
theorem fine_of (q c : Nat) (h : (checkR (eD q c q) (List.replicate q 1)).2 = 0) : fineD q c q = true := by
  have hp : (plainR (eD q c q) (List.replicate q 1)).2 = 0 := by
    by_cases hz : (plainR (eD q c q) (List.replicate q 1)).2 = 0
    · exact hz
    · unfold checkR at h; rw [if_pos hz] at h; exact absurd h hz
  have hel := eD_len q c q
  have hb : ∀ j, j < q → badC (eD q c q) j = false := by
    unfold plainR at hp
    rw [hel] at hp
    by_cases h1 : 16 < q
    · rw [if_pos h1] at hp; simp at hp
    · rw [if_neg h1, if_neg (by rw [List.length_replicate]; omega)] at hp
      cases h2 : first q fun i => badE (eAt (eD q c q) i) with
      | some i => rw [h2] at hp; simp at hp
      | none =>
        rw [h2] at hp
        cases h3 : first q (badC (eD q c q)) with
        | some i => rw [h3] at hp; simp at hp
        | none =>
          intro j hj
          unfold first at h3
          rw [List.find?_eq_none] at h3
          have := h3 j (List.mem_range.2 hj)
          simpa using this
  unfold fineD
  rw [List.all_eq_true]
  intro j hj
  have hj' := List.mem_range.1 hj
  unfold linkD
  by_cases hz : j = 0
  · simp [hz]
  · have h1 := hb j hj'
    unfold badC at h1
    rw [hel, show ahN q j = j - 1 by unfold ahN; rw [if_neg hz], eAt_of (eD_get (q := q) (code := c) (show j - 1 < q by omega)), eAt_of (eD_get (q := q) (code := c) hj')] at h1
    simp at h1
    simp [h1]
theorem leaf_one (q c : Nat) : leafC (eD q c q) = refOne q c := by
  have hel := eD_len q c q
  unfold leafC refOne okA
  rw [hel, layA_checkR]
  have hcl := canon_least (eD q c q, List.replicate q 1) (by rw [hel, List.length_replicate])
  rw [show (eD q c q, List.replicate q (1 : Int)).1.length = q from hel] at hcl
  by_cases h1 : (checkR (eD q c q) (List.replicate q 1)).2 = 0
  · have hf := fine_of q c h1
    by_cases h2 : ordC (canF (eD q c q, List.replicate q 1)) (eD q c q, List.replicate q 1) = 0
    · rw [if_pos (by simp [h1, h2]), if_pos ⟨hf, h1, hcl.1 h2⟩]
    · rw [if_neg (by simp [h1, h2]), if_neg (fun h => h2 (hcl.2 h.2.2))]
  · rw [if_neg (by simp [h1]), if_neg (fun h => h1 h.2.1)]
/-- both lists are one -/
theorem gen_ref (q : Nat) : genF q [] = refG q (7 ^ q) := by
  rw [genF_range]
  unfold refG
  refine flatMap_congr' fun c _ => ?_
  rw [List.nil_append, leaf_one]
end Go.Sx

set_option linter.unusedSimpArgs false
set_option linter.unusedVariables false
namespace Go.Sx
open Go.Dx Go.Proofs
theorem refG_lens (q k : Nat) : ∀ c ∈ refG q k, c.1.length = q ∧ c.2.length = q := by
  intro c hc
  unfold refG at hc
  obtain ⟨j, _, h⟩ := List.mem_flatMap.1 hc
  unfold refOne at h
  split at h
  · rw [List.mem_singleton.1 h]; exact ⟨eD_len q j q, List.length_replicate⟩
  · cases h
theorem WeaveAlls_out (z : Int) (hz : z < 3 ∨ 6 < z) (m : M) (hm : m.base ≤ m.n) : CallV (Ex.step Try.prog (xA 17)) 10 [.int .i64 z] m (.bool true) := by
  refine step_ret d_l_WeaveAlls_ok (by simp) ?_
  obtain ⟨v1, m1, a1, a2, rfl⟩ := All_out 16 z hz m hm
  by_cases h : z < 3
  · have hd : (z < 3) = True := eq_true h
    simp [xA_aw, xA_f, a1, hd]
    exact ret_1 a2 (by simp; rfl)
  · have hd : (z < 3) = False := eq_false h
    have hd2 : (6 < z) = True := eq_true (by omega)
    simp [xA_aw, xA_f, a1, hd, hd2]
    exact ret_1 a2 (by simp; rfl)
theorem WeaveAlls_in (q : Nat) (h3 : 3 ≤ q) (h6 : q ≤ 6) (m : M) (hm : m.base ≤ m.n) : CallV (Ex.step Try.prog (xA 17)) 10 [iv q] m (.bool true) := by
  refine step_ret d_l_WeaveAlls_ok (by simp) ?_
  obtain ⟨v1, m1, a1, a2, g, rows, rfl, hL⟩ := All_in (6 - q) q h3 h6 m hm
  rw [show 6 - q + 11 + q = 17 by omega] at a1
  have S1 := (Sees.refl hm).ext a2
  obtain ⟨g', m2, b1, b2, rows', hL'⟩ := RefAll_c 10 q h3 h6 m1 S1.base
  rw [gen_ref] at hL
  have S2 := S1.ext b2
  have hLs := hL.sees (S1.self.ext b2)
  obtain ⟨cs, hcs⟩ : ∃ cs, cs = refG q (7 ^ q) := ⟨_, rfl⟩
  have hlens := refG_lens q (7 ^ q)
  have hgl := refG_len q (7 ^ q)
  rw [← hcs] at hL hL' hLs hlens hgl
  have h76 : (7 : Nat) ^ 6 = 117649 := rfl
  have hp7 : 7 ^ q ≤ 7 ^ 6 := Nat.pow_le_pow_right (by omega) h6
  have hd1 : ((q : Int) < 3) = False := eq_false (by omega)
  have hd2 : ((6 : Int) < (q : Int)) = False := eq_false (by omega)
  have hd1' : (q < 3) = False := eq_false (by omega)
  have hd2' : (6 < q) = False := eq_false (by omega)
  have e1 : lenS g = some (iv cs.length) := by rw [← hL.len]; exact hL.rd.len
  have e2 : lenS g' = some (iv cs.length) := by rw [← hL'.len]; exact hL'.rd.len
  obtain ⟨k, hk⟩ : ∃ k, k = cs.length := ⟨_, rfl⟩
  rw [← hk] at e1 e2 hgl
  simp [xA_aw, xA_f, a1, hd1, hd2, hd1', hd2', b1, e1, e2]
  refine loop_run (c := c_l_WeaveAlls_15) rfl (Ret m _) (fun i t m' => Tm.get 3 t = g ∧ Tm.get 5 t = g' ∧ Tm.get 6 t = iv i ∧ Ext m2 m') k (by omega)
    ⟨by simp, by simp, by simp, Ext.refl m2⟩ (fun i t m' kk hi hI hkk => ?_)
  obtain ⟨t3, t5, t6, hE⟩ := hI
  have hE0 := (a2.trans b2).trans hE
  have S' := S2.ext hE
  by_cases hil : i < k
  · have hd := dlt hil
    have w1 := nextI (i := i) (by omega)
    have hlg : ∀ m, (forAny m).log = [] := fun m => forAny_log m
    obtain ⟨c, hc⟩ : ∃ r, cs[i]? = some r := ⟨_, List.getElem?_eq_getElem (by omega)⟩
    obtain ⟨r, hr⟩ : ∃ r, rows[i]? = some r := ⟨_, List.getElem?_eq_getElem (by have := hL.len; omega)⟩
    obtain ⟨r', hr'⟩ : ∃ r, rows'[i]? = some r := ⟨_, List.getElem?_eq_getElem (by have := hL'.len; omega)⟩
    have hlc := hlens c (List.mem_of_getElem? hc)
    have LA := hLs.sees (S2.self.ext hE)
    have LB := hL'.sees (S2.self.ext hE)
    obtain ⟨x1, x2⟩ := LA.row i r c hr hc
    have ⟨y1, y2, _⟩ := LA.rd.at hr
    have y2' := y2 m' S'.self
    obtain ⟨v3, m3', c1, c2, c3, w3, w4, rfl, c4, c5⟩ := any_call (Ref_c 16 r.1.1 r.1.2 c.1 c.2 (forAny m') (sees_any S').base (by rw [hlc.1]; unfold most; omega) (by rw [hlc.2]; unfold most; omega) (x1.sees (sees_any S'.self)) (x2.sees (sees_any S'.self)))
    obtain ⟨m3, hm3⟩ : ∃ m3, m3 = behind m' m3' := ⟨_, rfl⟩
    rw [← hm3] at c3
    have S3 := S'.ext c3
    have c4' : Rd m3 w3 2 edgeRow c.1 := by rw [hm3]; exact c4.behind
    have c5' : Rd m3 w4 1 modeRow c.2 := by rw [hm3]; exact c5.behind
    have LC := LB.sees (S'.self.ext c3)
    obtain ⟨x3, x4⟩ := LC.row i r' c hr' hc
    have ⟨y3, y4, _⟩ := LC.rd.at hr'
    have y4' := y4 m3 S3.self
    obtain ⟨v4, m4', d1, d2, d3, rfl⟩ := any_call (Same29_c 16 w3 w4 r'.1.1 r'.1.2 c.1 c.2 (forAny m3) (sees_any S3).base (by rw [hlc.1]; omega) (by rw [hlc.2]; omega) (c4'.sees (sees_any S3.self)) (c5'.sees (sees_any S3.self)) (x3.sees (sees_any S3.self)) (x4.sees (sees_any S3.self)))
    obtain ⟨m4, hm4⟩ : ∃ m4, m4 = behind m3 m4' := ⟨_, rfl⟩
    rw [← hm4] at d3
    simp [t3, t5, t6, e1, hd, y1, y2', rowC, loadNS_ptr, xA_f, c1, c2, ← hm3, y3, y4', d1, d2, ← hm4, hlg, w1]
    exact hkk hil _ _ ⟨by simp [t3], by simp [t5], by simp, (hE.trans c3).trans d3⟩
  · have hd : ((i : Int) < (k : Int)) = False := eq_false (by omega)
    simp [t3, t6, e1, hd]
    exact ret_1 hE0 (by simp)
theorem WeaveAlls_c (z : Int) (m : M) (hm : m.base ≤ m.n) : CallV (Ex.step Try.prog (xA 17)) 10 [.int .i64 z] m (.bool true) := by
  by_cases h : z < 3 ∨ 6 < z
  · exact WeaveAlls_out z h m hm
  · obtain ⟨q, hq⟩ : ∃ q : Nat, z = q := ⟨z.toNat, by omega⟩
    subst hq
    exact WeaveAlls_in q (by omega) (by omega) m hm
end Go.Sx
