/- Contracts. -/
import Derived.Test.YtblkdbffpjlkaaaGreatGf
import Derived.Test.YtblkdbffpjlkaaaGreatGe
set_option linter.unusedVariables false
set_option linter.unusedSimpArgs false
set_option linter.defProp false
namespace Go.Dx
/-- a growing slice has grown -/
structure Ap (m m' : M) (v v' : Value) : Prop where
  n : m.n ≤ m'.n
  base : m'.base = m.base
  log : ∀ C ∈ m'.log, C ∈ m.log ∨ (blk v = some C ∧ C < m.base)
  low : (∀ B, blk v = some B → m.base ≤ B) → m'.log = m.log
  obj : ∀ B, B < m.n → blk v ≠ some B → m'.obj B = m.obj B
  new : ∀ B, blk v' = some B → m.n ≤ B
section
variable {α : Type} {m0 m m' : M} {v : Value} {e : Nat} {f : α → List Value} {es : List α}
theorem grow_n (h : Grown m0 m v e f es) (he : 0 < e) (hf : ∀ x, (f x).length = e) (hok : ∀ x, ∀ v ∈ f x, okC v = true) {x : α} {X : Nat} {sp : Option Nat}
    (hx : loads m ⟨X, 0, sp⟩ e = some (f x)) (h0 : m0.n ≤ m.n) {bytes : Nat} (hm : (es.length + 1) * bytes ≤ most) (hn : es.length + 1 ≤ 4611686018427387904) :
    ∃ v' m', appendV m e bytes v (.slice (some ⟨X, 0, sp⟩) 1 1) = some (v', m') ∧ Grown m0 m' v' e f (es ++ [x]) ∧ Ap m m' v v' := by
  obtain ⟨v', m', h1, h2, h3, h4, h5, h6, h7⟩ := h.core he hf hok hx h0 hm hn
  refine ⟨v', m', h1, h2, by omega, h4, fun C hC => ?_, fun hl => ?_, h6, h7⟩
  · rcases h5 with h5 | ⟨B, hB, _, h5⟩
    · rw [h5] at hC; exact .inl hC
    · rw [h5] at hC
      rcases note_mem hC with h' | ⟨rfl, h'⟩
      · exact .inl h'
      · exact .inr ⟨hB, h'⟩
  · rcases h5 with h5 | ⟨B, hB, _, h5⟩
    · exact h5
    · rw [h5, note_ge (hl B hB)]
theorem grow_any (h : Grown m0 m v e f es) (he : 0 < e) (hf : ∀ x, (f x).length = e) (hok : ∀ x, ∀ v ∈ f x, okC v = true) {x : α} {X : Nat} {sp : Option Nat}
    (hx : loads m ⟨X, 0, sp⟩ e = some (f x)) (h0 : m0.n ≤ m.n) {bytes : Nat} (hm : (es.length + 1) * bytes ≤ most) (hn : es.length + 1 ≤ 4611686018427387904) :
    ∃ v' m', appendV (forAny m) e bytes v (.slice (some ⟨X, 0, sp⟩) 1 1) = some (v', m') ∧ Grown m0 (Dx.behind m m') v' e f (es ++ [x]) ∧ Ap m (Dx.behind m m') v v' := by
  have hA : Grown m0 (forAny m) v e f es := h.keep (by rw [forAny_n]; exact Nat.le_refl _) fun B _ _ => forAny_obj _ _
  have hx' : loads (forAny m) ⟨X, 0, sp⟩ e = some (f x) := by rw [loads_any]; exact hx
  obtain ⟨v', m', h1, h2, h3⟩ := grow_n hA he hf hok hx' (by rw [forAny_n]; exact h0) hm hn
  have hl : ∀ C ∈ m'.log, blk v = some C := fun C hC => by
    rcases h3.log C hC with h' | h'
    · rw [forAny_log] at h'; cases h'
    · exact h'.1
  refine ⟨v', m', h1, h2.keep (by rw [behind_n]; exact Nat.le_refl _) fun B _ _ => behind_obj _ _ _, ?_⟩
  refine ⟨by rw [behind_n]; have := h3.n; rwa [forAny_n] at this, behind_base _ _, fun C hC => ?_, fun hlo => ?_, fun B hB hne => by rw [behind_obj, h3.obj B (by rw [forAny_n]; exact hB) hne, forAny_obj], fun B hB => by have := h3.new B hB; rwa [forAny_n] at this⟩
  · rw [behind_log] at hC
    rcases notes_mem hC with h' | h'
    · exact .inl h'
    · by_cases hb : C < m.base
      · exact .inr ⟨hl C h', hb⟩
      · refine .inl ?_
        have key : ∀ (l wl : List Nat), C ∈ notes m.base wl l → C ∈ wl := by
          intro l
          induction l with
          | nil => intro wl h; exact h
          | cons B l ih =>
            intro wl h
            rcases note_mem (ih _ h) with h | ⟨rfl, h⟩
            · exact h
            · exact absurd h hb
        exact key _ _ hC
  · rw [behind_log]
    exact notes_ge fun B hB => hlo B (hl B hB)
theorem Ow.app {W : List Nat} {σ : List (Nat × List Value)} {v' : Value} (h : Ow m0 m W σ) (k : Ap m m' v v') (h1 : ∀ B, blk v = some B → m0.n ≤ B) (h2 : ∀ B, blk v = some B → ∀ p ∈ σ, p.1 ≠ B) : Ow m0 m' W σ := by
  have hb := h.base
  have hmb := h.mc.base
  refine ⟨⟨Nat.le_trans h.mc.n k.n, fun B hB hW => (k.obj B (Nat.lt_of_lt_of_le hB h.mc.n) fun hv => ?_).trans (h.mc.obj B hB hW), k.base.trans hmb, fun C hC => ?_, fun hW => ?_⟩, h.base, fun p hp => ?_, h.nd⟩
  · have := h1 B hv; omega
  · rcases k.log C hC with h' | ⟨h', h''⟩
    · exact h.mc.log C h'
    · have := h1 C h'; omega
  · rw [k.low fun B hB => by have := h1 B hB; omega]
    exact h.mc.low hW
  · obtain ⟨a, b, c⟩ := h.arr p hp
    exact ⟨a, Nat.lt_of_lt_of_le b k.n, c.congr (k.obj _ b fun hv => h2 _ hv p hp rfl)⟩
end
end Go.Dx
namespace Go.Sx
open Go.Dx Go.Proofs
set_option maxRecDepth 10000
/-- what a run has told so far -/
structure Rn where
  evs : List Ev5
  outs : List U
  rmw : List (Int × Int)
  used : Nat
def pairRow (p : Int × Int) : List Value := [iv p.1, iv p.2]
def rRow (ev ov rv : Value) (st loc : Int) (used : Nat) : List Value := [ev, rv, .slice none 0 0, .slice none 0 0, .slice none 0 0, ov, iv st, iv loc, iv used]
abbrev Gs := Value × Value × Value
structure RI (mA m : M) (Mb Lb k : Nat) (av : Value) (s : Ms) (g : Gs) (r : Rn) (σ : List (Nat × List Value)) : Prop where
  ow : Ow mA m [Mb, Lb] σ
  ms : MsAt m Mb Lb k av s
  ge : Grown mA m g.1 5 ev5Row r.evs
  go : Grown mA m g.2.1 1 wordRow r.outs
  gr : Grown mA m g.2.2 2 pairRow r.rmw
  sep : ∀ B, (blk g.1 = some B ∨ blk g.2.1 = some B ∨ blk g.2.2 = some B) → ∀ p ∈ σ, p.1 ≠ B
  eo : ∀ B, blk g.1 = some B → blk g.2.1 ≠ some B ∧ blk g.2.2 ≠ some B
  or_ : ∀ B, blk g.2.1 = some B → blk g.2.2 ≠ some B
  lowM : Mb < mA.n
  lowL : Lb < mA.n
  ne : Mb ≠ Lb
  own : ∀ p ∈ σ, mA.n ≤ p.1
section
variable {mA m m' : M} {Mb Lb k : Nat} {av : Value} {s s' : Ms} {g : Gs} {r : Rn} {σ σ' : List (Nat × List Value)}
theorem RI.gl (h : RI mA m Mb Lb k av s g r σ) : ∀ B, (blk g.1 = some B ∨ blk g.2.1 = some B ∨ blk g.2.2 = some B) → mA.n ≤ B ∧ B < m.n := fun B hB => by
  rcases hB with hB | hB | hB
  · exact grown_low h.ge B hB
  · exact grown_low h.go B hB
  · exact grown_low h.gr B hB
/-- the rest is as it was -/
theorem RI.of (h : RI mA m Mb Lb k av s g r σ) (how : Ow mA m' [Mb, Lb] σ') (hms : MsAt m' Mb Lb k av s') (hn : m.n ≤ m'.n) (hk : ∀ B, (blk g.1 = some B ∨ blk g.2.1 = some B ∨ blk g.2.2 = some B) → m'.obj B = m.obj B) (hσ : ∀ p ∈ σ', (∃ q ∈ σ, q.1 = p.1) ∨ m.n ≤ p.1) : RI mA m' Mb Lb k av s' g r σ' :=
  ⟨how, hms, h.ge.keep hn fun B _ hB => hk B (.inl hB), h.go.keep hn fun B _ hB => hk B (.inr (.inl hB)), h.gr.keep hn fun B _ hB => hk B (.inr (.inr hB)), fun B hB p hp => by
    rcases hσ p hp with ⟨q, hq, e⟩ | h'
    · rw [← e]; exact h.sep B hB q hq
    · have := (h.gl B hB).2; omega, h.eo, h.or_, h.lowM, h.lowL, h.ne, fun p hp => by
    rcases hσ p hp with ⟨q, hq, e⟩ | h'
    · rw [← e]; exact h.own q hq
    · have := h.ow.mc.n; omega⟩
theorem RI.step (h : RI mA m Mb Lb k av s g r σ) (e : Ext m m') : RI mA m' Mb Lb k av s g r σ :=
  h.of (h.ow.step e) (h.ms.ext e) e.n (fun B hB => e.obj B (h.gl B hB).2) fun p hp => .inl ⟨p, hp, rfl⟩
theorem RI.row (h : RI mA m Mb Lb k av s g r σ) (l : List Value) : RI mA (Dx.newRow m l) Mb Lb k av s g r ((m.n, l) :: σ) :=
  h.of (h.ow.row l) (h.ms.ext (Ext.row m l)) (Ext.row m l).n (fun B hB => (Ext.row m l).obj B (h.gl B hB).2) fun p hp => by
    rcases List.mem_cons.1 hp with rfl | hp
    · exact .inr (Nat.le_refl _)
    · exact .inl ⟨p, hp, rfl⟩
theorem RI.sub (h : RI mA m Mb Lb k av s g r σ) (hs : ∀ p ∈ σ', p ∈ σ) (hn : (σ'.map (·.1)).Nodup) : RI mA m Mb Lb k av s g r σ' :=
  h.of (h.ow.sub hs hn) h.ms (Nat.le_refl _) (fun _ _ => rfl) fun p hp => .inl ⟨p, hs p hp, rfl⟩
/-- one of the own blocks has changed -/
theorem RI.put (h : RI mA m Mb Lb k av s g r σ) {i b : Nat} {l l' : List Value} (hi : σ[i]? = some (b, l)) (how : Ow mA m' [Mb, Lb] (σ.set i (b, l'))) (hn : m'.n = m.n) (ho : ∀ X, X ≠ b → m'.obj X = m.obj X) : RI mA m' Mb Lb k av s g r (σ.set i (b, l')) := by
  have hb := h.own _ (List.mem_of_getElem? hi)
  have hM := h.lowM
  have hL := h.lowL
  simp only at hb
  refine h.of how (h.ms.congr (by omega) (ho _ (by omega)) (ho _ (by omega))) (by omega) (fun B hB => ho B fun e => h.sep B hB _ (List.mem_of_getElem? hi) e.symm) fun p hp => ?_
  obtain ⟨q, hq, e⟩ := key_mem hi hp
  exact .inl ⟨q, hq, e⟩
/-- a machine's call -/
theorem RI.wr (h : RI mA m Mb Lb k av s g r σ) (k' : Mc m m' [Mb, Lb]) (hms : MsAt m' Mb Lb k av s') : RI mA m' Mb Lb k av s' g r σ := by
  have hM := h.lowM
  have hL := h.lowL
  have out : ∀ B, mA.n ≤ B → B ∉ [Mb, Lb] := fun B hB => by simp; omega
  refine h.of ⟨h.ow.mc.trans k', h.ow.base, fun p hp => ?_, h.ow.nd⟩ hms k'.n (fun B hB => k'.obj B (h.gl B hB).2 (out B (h.gl B hB).1)) fun p hp => .inl ⟨p, hp, rfl⟩
  obtain ⟨a, b, c⟩ := h.ow.arr p hp
  exact ⟨a, Nat.lt_of_lt_of_le b k'.n, c.congr (k'.obj _ b (out _ (h.own p hp)))⟩
theorem RI.env (h : RI mA m Mb Lb k av s g r σ) {acts : List Ac} (hE : Env mA Mb Lb av acts) : Env m Mb Lb av acts := hE.mc h.ow.mc
theorem RI.get (h : RI mA m Mb Lb k av s g r σ) (i : Nat) {b : Nat} {l : List Value} (hi : σ[i]? = some (b, l)) : Arr m b l := (h.ow.get i hi).2.2
theorem RI.mb (h : RI mA m Mb Lb k av s g r σ) : m.base ≤ m.n := h.ow.mb
/-- an event more -/
theorem RI.appE {x : Ev5} {v' : Value} (h : RI mA m Mb Lb k av s g r σ) (hg : Grown mA m' v' 5 ev5Row (r.evs ++ [x])) (hA : Ap m m' g.1 v') : RI mA m' Mb Lb k av s (v', g.2) { r with evs := r.evs ++ [x] } σ := by
  have hM := h.lowM
  have hL := h.lowL
  have hmn := h.ow.mc.n
  have kp : ∀ B, B < m.n → blk g.1 ≠ some B → m'.obj B = m.obj B := hA.obj
  have no : ∀ B, B < mA.n → blk g.1 ≠ some B := fun B hB e => by have := (h.gl B (.inl e)).1; omega
  refine ⟨h.ow.app hA (fun B hB => (h.gl B (.inl hB)).1) (fun B hB => h.sep B (.inl hB)), h.ms.congr hA.n (kp _ (by omega) (no _ hM)) (kp _ (by omega) (no _ hL)), hg, h.go.keep hA.n fun B hB hb => kp B hB fun e => (h.eo B e).1 hb, h.gr.keep hA.n fun B hB hb => kp B hB fun e => (h.eo B e).2 hb, fun B hB p hp => ?_, fun B hB => ⟨fun e => ?_, fun e => ?_⟩, h.or_, h.lowM, h.lowL, h.ne, h.own⟩
  · rcases hB with hB | hB
    · have := hA.new B hB
      have := (h.ow.arr p hp).2.1
      omega
    · exact h.sep B (.inr hB) p hp
  · have := hA.new B hB
    have := (h.gl B (.inr (.inl e))).2
    omega
  · have := hA.new B hB
    have := (h.gl B (.inr (.inr e))).2
    omega
/-- an output more -/
theorem RI.appO {x : U} {v' : Value} (h : RI mA m Mb Lb k av s g r σ) (hg : Grown mA m' v' 1 wordRow (r.outs ++ [x])) (hA : Ap m m' g.2.1 v') : RI mA m' Mb Lb k av s (g.1, v', g.2.2) { r with outs := r.outs ++ [x] } σ := by
  have hM := h.lowM
  have hL := h.lowL
  have hmn := h.ow.mc.n
  have kp : ∀ B, B < m.n → blk g.2.1 ≠ some B → m'.obj B = m.obj B := hA.obj
  have no : ∀ B, B < mA.n → blk g.2.1 ≠ some B := fun B hB e => by have := (h.gl B (.inr (.inl e))).1; omega
  refine ⟨h.ow.app hA (fun B hB => (h.gl B (.inr (.inl hB))).1) (fun B hB => h.sep B (.inr (.inl hB))), h.ms.congr hA.n (kp _ (by omega) (no _ hM)) (kp _ (by omega) (no _ hL)), h.ge.keep hA.n fun B hB hb => kp B hB fun e => (h.eo B hb).1 e, hg, h.gr.keep hA.n fun B hB hb => kp B hB fun e => h.or_ B e hb, fun B hB p hp => ?_, fun B hB => ⟨fun e => ?_, (h.eo B hB).2⟩, fun B hB e => ?_, h.lowM, h.lowL, h.ne, h.own⟩
  · rcases hB with hB | hB | hB
    · exact h.sep B (.inl hB) p hp
    · have := hA.new B hB
      have := (h.ow.arr p hp).2.1
      omega
    · exact h.sep B (.inr (.inr hB)) p hp
  · have := hA.new B e
    have := (h.gl B (.inl hB)).2
    omega
  · have := hA.new B hB
    have := (h.gl B (.inr (.inr e))).2
    omega
/-- a pair more -/
theorem RI.appR {x : Int × Int} {v' : Value} (h : RI mA m Mb Lb k av s g r σ) (hg : Grown mA m' v' 2 pairRow (r.rmw ++ [x])) (hA : Ap m m' g.2.2 v') : RI mA m' Mb Lb k av s (g.1, g.2.1, v') { r with rmw := r.rmw ++ [x] } σ := by
  have hM := h.lowM
  have hL := h.lowL
  have hmn := h.ow.mc.n
  have kp : ∀ B, B < m.n → blk g.2.2 ≠ some B → m'.obj B = m.obj B := hA.obj
  have no : ∀ B, B < mA.n → blk g.2.2 ≠ some B := fun B hB e => by have := (h.gl B (.inr (.inr e))).1; omega
  refine ⟨h.ow.app hA (fun B hB => (h.gl B (.inr (.inr hB))).1) (fun B hB => h.sep B (.inr (.inr hB))), h.ms.congr hA.n (kp _ (by omega) (no _ hM)) (kp _ (by omega) (no _ hL)), h.ge.keep hA.n fun B hB hb => kp B hB fun e => (h.eo B hb).2 e, h.go.keep hA.n fun B hB hb => kp B hB fun e => h.or_ B hb e, hg, fun B hB p hp => ?_, fun B hB => ⟨(h.eo B hB).1, fun e => ?_⟩, fun B hB e => ?_, h.lowM, h.lowL, h.ne, h.own⟩
  · rcases hB with hB | hB | hB
    · exact h.sep B (.inl hB) p hp
    · exact h.sep B (.inr (.inl hB)) p hp
    · have := hA.new B hB
      have := (h.ow.arr p hp).2.1
      omega
  · have := hA.new B e
    have := (h.gl B (.inl hB)).2
    omega
  · have := hA.new B e
    have := (h.gl B (.inr (.inl hB))).2
    omega
end
end Go.Sx
namespace Go.Sx
open Go.Dx Go.Proofs
set_option maxRecDepth 10000
def tailR (th : Int) (w : Wt) (v : U) (r : Rn) : Rn :=
  if w.what = 4 then { r with outs := r.outs ++ [w.val] }
  else { r with evs := r.evs ++ [eventOf th w v], rmw := if w.what = 2 ∧ w.ex = true then r.rmw ++ [((r.evs.length : Int) - 1, (r.evs.length : Int))] else r.rmw }
def bodyR (th : Int) (reads : List U) (a : Ac) (s : Ms) (r : Rn) : Sum Int (Ms × Rn) :=
  if (wantOf s a).what = 1 then match reads[r.used]? with
    | none => .inl (wantOf s a).loc
    | some v => .inr (feedS (nextS s a) a v, tailR th (wantOf s a) v { r with used := r.used + 1 })
  else .inr (feedS (nextS s a) a u0, tailR th (wantOf s a) u0 r)
structure RT (t : Tm) (th : Int) (rl : Value) (f : Int) (T8 Mb R : Nat) : Prop where
  t1 : Tm.get 1 t = iv th
  t2 : Tm.get 2 t = rl
  t3 : Tm.get 3 t = iv f
  t8 : Tm.get 8 t = .pointer (some ⟨T8, 0, none⟩)
  t10 : Tm.get 10 t = mP Mb
  t12 : Tm.get 12 t = .pointer (some ⟨R, 0, none⟩)
theorem ev5_len (e : Ev5) : (ev5Row e).length = 5 := rfl
theorem ev5_ok (e : Ev5) : ∀ v ∈ ev5Row e, okC v = true := by simp [ev5Row, okC]
theorem wordRow_ok (u : U) : ∀ v ∈ wordRow u, okC v = true := by simp [wordRow, okC]
theorem pairRow_len (p : Int × Int) : (pairRow p).length = 2 := rfl
theorem pairRow_ok (p : Int × Int) : ∀ v ∈ pairRow p, okC v = true := by simp [pairRow, okC]
theorem bs_ev (m : M) (a b c : Int) (d : Int) (e : Int) : bsliceS 5 1 (rep 1 [.int .i64 0, .int .i64 0, .int .i64 0, .int .u64 0, .int .i64 0]) [(0, 5, .agg ⟨[.int .i64 a, .int .i64 b, .int .i64 c, .int .u64 d, .int .i64 e]⟩)] m = some (Value.slice (some ⟨m.n, 0, some 11⟩) 1 1, Dx.newRow m [.int .i64 a, .int .i64 b, .int .i64 c, .int .u64 d, .int .i64 e]) := rfl
theorem bs_u (m : M) (d : Int) : bsliceS 1 1 (rep 1 [.int .u64 0]) [(0, 1, .int .u64 d)] m = some (Value.slice (some ⟨m.n, 0, some 3⟩) 1 1, Dx.newRow m [.int .u64 d]) := rfl
theorem bs_p (m : M) (a b : Int) : bsliceS 2 1 (rep 1 [.int .i64 0, .int .i64 0]) [(0, 2, .agg ⟨[.int .i64 a, .int .i64 b]⟩)] m = some (Value.slice (some ⟨m.n, 0, some 5⟩) 1 1, Dx.newRow m [.int .i64 a, .int .i64 b]) := rfl
theorem b_p (a b : Int) : buildV [.int .i64 0, .int .i64 0] [(0, 1, .int .i64 a), (1, 1, .int .i64 b)] = some (.agg ⟨[.int .i64 a, .int .i64 b]⟩) := rfl
/-- how much a run may have told -/
structure RB (r : Rn) : Prop where
  e : r.evs.length ≤ 1000000
  o : r.outs.length ≤ 1000000
  p : r.rmw.length ≤ 1000000
section
variable {k na : Nat} {cells : Int} {a : Ac} {av : Value} {s : Ms} {Mb Lb R T T8 : Nat} {mA m : M} {acts : List Ac} {g : Gs} {r : Rn} {th f : Int} {rl : Value} {st loc : Int}
/-- the last stage of a round: Feed -/
theorem feed_stage {w : Wt} (hEA : Env mA Mb Lb av acts) (hg : AcG k na cells a) (ha : acts[s.at_]? = some a) (hask : s.asked = true) (hw5 : s.now.what ≠ 5) (hw6 : s.now.what ≠ 6) (hD : (s.now.ex = true ∧ s.opn = true) ∨ s.now.what = 1 → pD a.op = true) (hat : s.at_ < 9223372036854775807)
    (h : RI mA m Mb Lb k av s g r [(T, wtL w), (R, rRow g.1 g.2.1 g.2.2 st loc r.used)]) {N : Nat} {kn : K} {t : Tm} (hT : RT t th rl f T8 Mb R) {v : U} (t16 : Tm.get 16 t = uv v.1) {Q : Option Out → Prop}
    (H : ∀ t' m', RT t' th rl f T8 Mb R → RI mA m' Mb Lb k av (feedS s a v) g r [(R, rRow g.1 g.2.1 g.2.2 st loc r.used)] → Q (kn t' m')) :
    Q (seqI oa3_28 (ex Tryz.prog (N + 4)) kn t m) := by
  obtain ⟨v1, m1, c1, c2, c3, rfl⟩ := feed_c (h.env hEA) hg ha hask hw5 hw6 hD v N h.mb h.ne h.ms hat
  have h1 := h.wr c2 c3
  have h2 := h1.sub (σ' := [(R, rRow g.1 g.2.1 g.2.2 st loc r.used)]) (by simp) (by simp)
  obtain ⟨t1, t2, t3, t8, t10, t12⟩ := hT
  simp [t10, t16, c1]
  exact H _ _ ⟨by simp [t1], by simp [t2], by simp [t3], by simp [t8], by simp [t10], by simp [t12]⟩ h2
theorem tail_c {w : Wt} (hEA : Env mA Mb Lb av acts) (hg : AcG k na cells a) (ha : acts[s.at_]? = some a) (hask : s.asked = true) (hnow : s.now = w) (hw5 : w.what ≠ 5) (hw6 : w.what ≠ 6) (hD : (w.ex = true ∧ s.opn = true) ∨ w.what = 1 → pD a.op = true) (hat : s.at_ < 9223372036854775807) (hb : RB r)
    (h : RI mA m Mb Lb k av s g r [(T, wtL w), (R, rRow g.1 g.2.1 g.2.2 st loc r.used)]) {N : Nat} {kn kr : K} {ke : Nat → K} {t : Tm} (hT : RT t th rl f T8 Mb R) (t15 : Tm.get 15 t = .pointer (some ⟨T, 0, none⟩)) {v : U} (t16 : Tm.get 16 t = uv v.1) {Q : Option Out → Prop}
    (H : ∀ t' m' g', RT t' th rl f T8 Mb R → RI mA m' Mb Lb k av (feedS s a v) g' (tailR th w v r) [(R, rRow g'.1 g'.2.1 g'.2.2 st loc r.used)] → Q (kn t' m')) :
    Q (ca3_28 (ex Tryz.prog (N + 4)) kn ke kr t m) := by
  have hT0 := hT
  obtain ⟨t1, t2, t3, t8, t10, t12⟩ := hT
  have lw : ∀ o s', load1 m ⟨T, o, s'⟩ = (wtL w)[o]? := fun o s' => (h.get 0 rfl).load1 o s'
  have lr : ∀ o s', load1 m ⟨R, o, s'⟩ = (rRow g.1 g.2.1 g.2.2 st loc r.used)[o]? := fun o s' => (h.get 1 rfl).load1 o s'
  have lw6 : loads m ⟨T, 0, none⟩ 6 = some (wtL w) := (h.get 0 rfl).loads (n := 6) (by simp [wtL])
  simp only [wtL] at lw
  simp only [rRow] at lr
  have hmn := h.ow.mc.n
  have fs := fun {m2 : M} {g2 : Gs} {r2 : Rn} (h2 : RI mA m2 Mb Lb k av s g2 r2 [(T, wtL w), (R, rRow g2.1 g2.2.1 g2.2.2 st loc r2.used)]) {t2 : Tm} => feed_stage (N := N) (kn := kn) (t := t2) (v := v) (Q := Q) (th := th) (rl := rl) (f := f) (T8 := T8) hEA hg ha hask (by rw [hnow]; exact hw5) (by rw [hnow]; exact hw6) (by rw [hnow]; exact hD) hat h2
  have hne : T ≠ R := fun e => by
    have := h.ow.nd
    simp [e] at this
  by_cases h4 : w.what = 4
  · have d4 : decide (w.what = 4) = true := decide_eq_true h4
    have d2 : decide (w.what = 2) = false := decide_eq_false (by omega)
    have hR : tailR th w v r = { r with outs := r.outs ++ [w.val] } := if_pos h4
    obtain ⟨m1, hm1⟩ : ∃ m1, m1 = Dx.newRow m [uv w.val.1] := ⟨_, rfl⟩
    have E1 : Ext m m1 := by rw [hm1]; exact Ext.row _ _
    have h1 := h.step E1
    obtain ⟨v2, m2, p1, p2, p3⟩ := grow_n h1.go (by omega) wordRow_len wordRow_ok (x := w.val) (X := m.n) (sp := some 3) (by rw [hm1]; exact (Arr.row m _).loads (n := 1) (by simp)) (by have := E1.n; omega) (bytes := 8) (by have := hb.o; unfold most; omega) (by have := hb.o; omega)
    have h2 := h1.appO p2 p3
    obtain ⟨m3, q1, q2, q3, q4⟩ := h2.ow.store 1 rfl (o := 5) (v := v2) (by simp [rRow]) h2.go.okC
    have h3 := h2.put (i := 1) rfl q2 q3 q4
    have h3' : RI mA m3 Mb Lb k av s (g.1, v2, g.2.2) { r with outs := r.outs ++ [w.val] } [(T, wtL w), (R, rRow g.1 v2 g.2.2 st loc r.used)] := h3
    have lw3 : ∀ o s', load1 m3 ⟨T, o, s'⟩ = (wtL w)[o]? := fun o s' => (h3'.get 0 rfl).load1 o s'
    simp only [wtL] at lw3
    simp [t12, t15, lw, d4, lr, bs_u, ← hm1, p1, q1, lw3, d2, -oa3_28_ap]
    exact fs h3' ⟨by simp [t1], by simp [t2], by simp [t3], by simp [t8], by simp [t10], by simp [t12]⟩ (by simp [t16]) (fun t' m' hT' hR' => H t' m' _ hT' (by rw [hR]; exact hR'))
  · have d4 : decide (w.what = 4) = false := decide_eq_false h4
    obtain ⟨v1, m1', c1, c2, c3, rfl⟩ := any_call (event_c th w v (N + 3) (forAny m) (sees_any (Sees.refl h.mb)).base)
    obtain ⟨m1, hm1⟩ : ∃ m1, m1 = behind m m1' := ⟨_, rfl⟩
    rw [← hm1] at c3
    have h1 := h.step c3
    obtain ⟨e, he⟩ : ∃ e, e = eventOf th w v := ⟨_, rfl⟩
    rw [← he] at c1
    obtain ⟨m2, hm2⟩ : ∃ m2, m2 = Dx.newRow m1 (ev5Row e) := ⟨_, rfl⟩
    have E2 : Ext m1 m2 := by rw [hm2]; exact Ext.row _ _
    have h2 := h1.step E2
    have hmn1 := h1.ow.mc.n
    obtain ⟨v3, m3', p1, p2, p3⟩ := grow_any h2.ge (by omega) ev5_len ev5_ok (x := e) (X := m1.n) (sp := some 11) (by rw [hm2]; exact (Arr.row m1 _).loads (n := 5) (by simp [ev5Row])) (by have := E2.n; omega) (bytes := 40) (by have := hb.e; unfold most; omega) (by have := hb.e; omega)
    obtain ⟨m3, hm3⟩ : ∃ m3, m3 = behind m2 m3' := ⟨_, rfl⟩
    rw [← hm3] at p2 p3
    have h3 := h2.appE p2 p3
    obtain ⟨m4', q1, q1', q2, q3, q4⟩ := h3.ow.storeAny 1 rfl (o := 0) (v := v3) (by simp [rRow]) h3.ge.okC
    obtain ⟨m4, hm4⟩ : ∃ m4, m4 = behind m3 m4' := ⟨_, rfl⟩
    rw [← hm4] at q2 q3 q4
    have h4a := h3.put (i := 1) rfl q2 q3 q4
    have h4' : RI mA m4 Mb Lb k av s (v3, g.2) { r with evs := r.evs ++ [e] } [(T, wtL w), (R, rRow v3 g.2.1 g.2.2 st loc r.used)] := h4a
    have lw4 : ∀ o s', load1 m4 ⟨T, o, s'⟩ = (wtL w)[o]? := fun o s' => (h4'.get 0 rfl).load1 o s'
    simp only [wtL] at lw4
    have bse : bsliceS 5 1 (rep 1 [.int .i64 0, .int .i64 0, .int .i64 0, .int .u64 0, .int .i64 0]) [(0, 5, .agg ⟨ev5Row e⟩)] m1 = some (Value.slice (some ⟨m1.n, 0, some 11⟩) 1 1, m2) := by rw [hm2]; exact bs_ev _ _ _ _ _ _
    by_cases h2w : w.what = 2
    · have d2 : decide (w.what = 2) = true := decide_eq_true h2w
      cases hx : w.ex with
      | false =>
        have hR : tailR th w v r = { r with evs := r.evs ++ [e] } := by
          unfold tailR; rw [if_neg h4, hx, if_neg (by simp), he]
        rw [hx] at lw4
        simp [t1, t12, t15, t16, lw, lw6, loadNS_ptr, d4, lr, c1, c2, ← hm1, bse, p1, ← hm3, q1, ← hm4, lw4, d2, -oa3_28_ap]
        exact fs h4' ⟨by simp [t1], by simp [t2], by simp [t3], by simp [t8], by simp [t10], by simp [t12]⟩ (by simp [t16]) (fun t' m' hT' hR' => H t' m' _ hT' (by rw [hR]; exact hR'))
      | true =>
        have hR : tailR th w v r = { r with evs := r.evs ++ [e], rmw := r.rmw ++ [((r.evs.length : Int) - 1, (r.evs.length : Int))] } := by
          unfold tailR; rw [if_neg h4, if_pos ⟨h2w, hx⟩, he]
        rw [hx] at lw4
        have lr4 : ∀ o s', load1 m4 ⟨R, o, s'⟩ = (rRow v3 g.2.1 g.2.2 st loc r.used)[o]? := fun o s' => (h4'.get 1 rfl).load1 o s'
        simp only [rRow] at lr4
        obtain ⟨n, hn⟩ : ∃ n, n = r.evs.length := ⟨_, rfl⟩
        have hvl : lenS v3 = some (.int .i64 ((n + 1 : Nat) : Int)) := by
          have := h4'.ge.lens
          simp only [List.length_append, List.length_cons, List.length_nil] at this
          rw [hn]; exact this
        have hbn : n ≤ 1000000 := by rw [hn]; exact hb.e
        obtain ⟨n1, hn1⟩ : ∃ n1, n1 = n + 1 := ⟨_, rfl⟩
        rw [← hn1] at hvl
        have s2 : binV .sub (.int .i64 (n1 : Int)) (.int .i64 2) = some (.int .i64 ((n : Int) - 1)) := by rw [binV_sub, wrap64 _ (by omega) (by omega), hn1]; congr 2; omega
        have s1 : binV .sub (.int .i64 (n1 : Int)) (.int .i64 1) = some (.int .i64 (n : Int)) := by rw [binV_sub, wrap64 _ (by omega) (by omega), hn1]; congr 2; omega
        obtain ⟨z, hz⟩ : ∃ z : Int, z = (n : Int) - 1 := ⟨_, rfl⟩
        rw [← hz] at s2
        obtain ⟨m5, hm5⟩ : ∃ m5, m5 = Dx.newRow m4 [.int .i64 z, .int .i64 (n : Int)] := ⟨_, rfl⟩
        have E5 : Ext m4 m5 := by rw [hm5]; exact Ext.row _ _
        have h5 := h4'.step E5
        have hmn4 := h4'.ow.mc.n
        obtain ⟨v6, m6, u1, u2, u3⟩ := grow_n h5.gr (by omega) pairRow_len pairRow_ok (x := (z, (n : Int))) (X := m4.n) (sp := some 5) (by rw [hm5]; exact (Arr.row m4 _).loads (n := 2) (by simp)) (by have := E5.n; omega) (bytes := 16) (by have := hb.p; show (r.rmw.length + 1) * 16 ≤ most; unfold most; omega) (by have := hb.p; show r.rmw.length + 1 ≤ _; omega)
        have h6 := h5.appR u2 u3
        obtain ⟨m7, x1, x2, x3, x4⟩ := h6.ow.store 1 rfl (o := 1) (v := v6) (by simp [rRow]) h6.gr.okC
        have h7 := h6.put (i := 1) rfl x2 x3 x4
        have h7' : RI mA m7 Mb Lb k av s (v3, g.2.1, v6) { r with evs := r.evs ++ [e], rmw := r.rmw ++ [((r.evs.length : Int) - 1, (r.evs.length : Int))] } [(T, wtL w), (R, rRow v3 g.2.1 v6 st loc r.used)] := by
          rw [← hn, ← hz]; exact h7
        have bp : bsliceS 2 1 (rep 1 [.int .i64 0, .int .i64 0]) [(0, 2, .agg ⟨[.int .i64 z, .int .i64 (n : Int)]⟩)] m4 = some (Value.slice (some ⟨m4.n, 0, some 5⟩) 1 1, m5) := by rw [hm5]; exact bs_p _ _ _
        simp [-binV_sub, t1, t12, t15, t16, lw, lw6, loadNS_ptr, d4, lr, c1, c2, ← hm1, bse, p1, ← hm3, q1, ← hm4, lw4, d2, lr4, hvl, s2, s1, b_p, bp, u1, x1, -oa3_28_ap]
        exact fs h7' ⟨by simp [t1], by simp [t2], by simp [t3], by simp [t8], by simp [t10], by simp [t12]⟩ (by simp [t16]) (fun t' m' hT' hR' => H t' m' _ hT' (by rw [hR]; exact hR'))
    · have d2 : decide (w.what = 2) = false := decide_eq_false h2w
      have hR : tailR th w v r = { r with evs := r.evs ++ [e] } := by
        unfold tailR; rw [if_neg h4, if_neg (fun hc => h2w hc.1), he]
      simp [t1, t12, t15, t16, lw, lw6, loadNS_ptr, d4, lr, c1, c2, ← hm1, bse, p1, ← hm3, q1, ← hm4, lw4, d2, -oa3_28_ap]
      exact fs h4' ⟨by simp [t1], by simp [t2], by simp [t3], by simp [t8], by simp [t10], by simp [t12]⟩ (by simp [t16]) (fun t' m' hT' hR' => H t' m' _ hT' (by rw [hR]; exact hR'))
end
end Go.Sx
namespace Go.Sx
open Go.Dx Go.Proofs
set_option maxRecDepth 10000
abbrev Z9 : List Value := [.slice none 0 0, .slice none 0 0, .slice none 0 0, .slice none 0 0, .slice none 0 0, .slice none 0 0, .int .i64 0, .int .i64 0, .int .i64 0]
structure EndC (m0 mA : M) (T8 Mb Lb : Nat) : Prop where
  st : St m0 mA [(T8, Z9)]
  lM : m0.n ≤ Mb
  lL : m0.n ≤ Lb
  neM : T8 ≠ Mb
  neL : T8 ≠ Lb
def RunP (m0 : M) (res : Int × Int × Rn) (v : Value) (m' : M) : Prop :=
  ∃ g : Gs, v = .tuple #[.agg ⟨rRow g.1 g.2.1 g.2.2 res.1 res.2.1 res.2.2.used⟩, iv 0] ∧ Grown m0 m' g.1 5 ev5Row res.2.2.evs ∧ Grown m0 m' g.2.1 1 wordRow res.2.2.outs ∧ Grown m0 m' g.2.2 2 pairRow res.2.2.rmw ∧ (∀ B, blk g.1 = some B → blk g.2.1 ≠ some B ∧ blk g.2.2 ≠ some B) ∧ ∀ B, blk g.2.1 = some B → blk g.2.2 ≠ some B
def actR (th : Int) (reads : List U) (a : Ac) (s : Ms) (r : Rn) : Sum Int (Ms × Rn) :=
  match bodyR th reads a s r with
  | .inl l => .inl l
  | .inr x => if x.1.opn then bodyR th reads a x.1 x.2 else .inr x
def runR (th : Int) (reads : List U) (acts : List Ac) : Nat → Ms → Rn → Int × Int × Rn
  | f, s, r => match acts[s.at_]? with
    | none => (1, 0, r)
    | some a => match f with
      | 0 => (4, 0, r)
      | f + 1 => if ownB a then runR th reads acts f (ownS s a) r else match actR th reads a s r with
        | .inl l => (2, l, r)
        | .inr x => runR th reads acts f x.1 x.2
section
variable {k na : Nat} {cells : Int} {a : Ac} {av : Value} {s : Ms} {Mb Lb R T T8 : Nat} {m0 mA m : M} {acts : List Ac} {g : Gs} {r : Rn} {th f : Int} {rl : Value} {st loc : Int} {σ : List (Nat × List Value)}
theorem RI.ext (hE : EndC m0 mA T8 Mb Lb) (h : RI mA m Mb Lb k av s g r σ) : St m0 m [(T8, Z9)] := by
  have e := hE.st.ext
  have mc := h.ow.mc
  have hb := hE.st.base
  obtain ⟨h1, h2, h3⟩ := hE.st.get 0 rfl
  have out : ∀ B, B < m0.n → B ∉ [Mb, Lb] := fun B hB => by have := hE.lM; have := hE.lL; simp; omega
  refine ⟨⟨Nat.le_trans e.n mc.n, fun B hB => (mc.obj B (Nat.lt_of_lt_of_le hB e.n) (out B hB)).trans (e.obj B hB), mc.base.trans e.base, (mc.low fun B hB => ?_).trans e.log⟩, hb, fun p hp => ?_, by simp⟩
  · rw [e.base]
    have := hE.lM; have := hE.lL
    simp at hB
    omega
  · rw [List.mem_singleton.1 hp]
    exact ⟨h1, Nat.lt_of_lt_of_le h2 mc.n, h3.congr (mc.obj T8 h2 (by have := hE.neM; have := hE.neL; simp; omega))⟩
theorem rRow_ok (h : RI mA m Mb Lb k av s g r σ) (u : Nat) : ∀ v ∈ rRow g.1 g.2.1 g.2.2 st loc u, okC v = true := by
  have o1 := h.ge.okC
  have o2 := h.go.okC
  have o3 := h.gr.okC
  intro v hv
  simp only [rRow, List.mem_cons, List.not_mem_nil, or_false] at hv
  rcases hv with rfl | rfl | rfl | rfl | rfl | rfl | rfl | rfl | rfl <;> first | rfl | assumption
theorem rep_end (hE : EndC m0 mA T8 Mb Lb) (h : RI mA m Mb Lb k av s g r σ) (i : Nat) (hi : σ[i]? = some (R, rRow g.1 g.2.1 g.2.2 st loc r.used)) :
    loads m ⟨R, 0, none⟩ 9 = some (rRow g.1 g.2.1 g.2.2 st loc r.used) ∧ ∃ me, storeS 9 (.pointer (some ⟨T8, 0, none⟩)) (.agg ⟨rRow g.1 g.2.1 g.2.2 st loc r.used⟩) m = some (undef, me) ∧
      ∀ t, Tm.get 8 t = .pointer (some ⟨T8, 0, none⟩) → Tm.get 9 t = iv 0 → Ret m0 (RunP m0 (st, loc, r)) (resK [.cell 8 9, .t 9] t me) := by
  have hst := h.ext hE
  refine ⟨(h.get i hi).loads (n := 9) (by simp [rRow]), ?_⟩
  obtain ⟨me, w1, w2, w3, w4⟩ := hst.fill 0 rfl (n := 9) (l' := rRow g.1 g.2.1 g.2.2 st loc r.used) rfl rfl (rRow_ok h _)
  refine ⟨me, w1, fun t t8 t9 => ?_⟩
  have lf : loads me ⟨T8, 0, none⟩ 9 = some (rRow g.1 g.2.1 g.2.2 st loc r.used) := (w2.get 0 rfl).2.2.loads (n := 9) (by simp [rRow])
  have hT8 : T8 < mA.n := (hE.st.get 0 rfl).2.1
  have kp : ∀ B, (blk g.1 = some B ∨ blk g.2.1 = some B ∨ blk g.2.2 = some B) → me.obj B = m.obj B := fun B hB => w4 B (by have := (h.gl B hB).1; omega)
  refine ret_of (l := [.agg ⟨rRow g.1 g.2.1 g.2.2 st loc r.used⟩, iv 0]) ?_ w2.ext ⟨g, rfl, (h.ge.keep (by omega) fun B _ hB => kp B (.inl hB)).low hE.st.ext.n, (h.go.keep (by omega) fun B _ hB => kp B (.inr (.inl hB))).low hE.st.ext.n, (h.gr.keep (by omega) fun B _ hB => kp B (.inr (.inr hB))).low hE.st.ext.n, h.eo, h.or_⟩
  simp only [resV, resOne, t8, vPtr_ptr, ob_some', lf, t9]
theorem want_what (s : Ms) (a : Ac) : (wantOf s a).what = 1 ∨ (wantOf s a).what = 2 ∨ (wantOf s a).what = 3 ∨ (wantOf s a).what = 4 := by
  unfold wantOf
  split
  · simp
  · split
    · simp
    · split
      · simp
      · split
        · simp
        · split <;> simp
theorem want_ex (s : Ms) (a : Ac) (how : ownB a = false) (ho : 1 ≤ a.op ∧ a.op ≤ 10) (h : (wantOf s a).ex = true) : a.op = 4 ∨ a.op = 5 ∨ a.op = 6 := by
  have hn := of_decide_eq_false how
  unfold wantOf at h
  split at h
  · simp at h
  · split at h
    · simp at h
    · split at h
      · simp at h
      · split at h
        · simp at h
        · omega
theorem want_1 (s : Ms) (a : Ac) (how : ownB a = false) (ho : 1 ≤ a.op ∧ a.op ≤ 10) (h : (wantOf s a).what = 1) : pD a.op = true := by
  have hn := of_decide_eq_false how
  unfold wantOf at h
  unfold pD
  split at h
  · exact decide_eq_true (by omega)
  · split at h
    · simp at h
    · split at h
      · simp at h
      · split at h
        · simp at h
        · exact decide_eq_true (by omega)
theorem rmw_D {a : Ac} (h : a.op = 4 ∨ a.op = 5 ∨ a.op = 6) : pD a.op = true := decide_eq_true (by omega)
theorem fin_asked (s : Ms) (a : Ac) (v : U) : (finS s a v).asked = s.asked := by
  unfold finS
  split
  · rfl
  · split <;> rfl
theorem feed_asked (s : Ms) (a : Ac) (v : U) : (feedS s a v).asked = false := by
  unfold feedS
  split
  · split
    · rfl
    · rw [fin_asked]
  · rw [fin_asked]
theorem fin_opn (s : Ms) (a : Ac) (v : U) (h : (finS s a v).opn = true) : s.opn = true ∧ s.now.ex = false := by
  unfold finS at h
  split at h
  · simp at h
  · rename_i hc
    have ho : s.opn = true := by split at h <;> exact h
    refine ⟨ho, ?_⟩
    cases hx : s.now.ex with
    | false => rfl
    | true => exact absurd ⟨hx, ho⟩ hc
/-- a pair's load was fed, and its store is wanted: it is still that act's turn -/
theorem feed_opn {s : Ms} {a : Ac} {v : U} (h0 : s.opn = false) (h : (feedS s a v).opn = true) : (feedS s a v).at_ = s.at_ ∧ s.now.ex = true := by
  unfold feedS at h ⊢
  split at h
  · rename_i hc
    rw [if_pos hc]
    split at h
    · rename_i hd
      rw [if_pos hd]
      exact ⟨rfl, hc.2⟩
    · have := (fin_opn _ _ _ h).1
      simp [h0] at this
  · have := (fin_opn _ _ _ h).1
    simp [h0] at this
theorem feed_opn2 {s : Ms} {a : Ac} {v : U} (hx : s.now.ex = true) (hw : s.now.what ≠ 1) (h0 : s.opn = true) : (feedS s a v).opn = false := by
  unfold feedS
  rw [if_neg (fun hc => hw hc.1)]
  cases h : (finS { s with asked := false } a v).opn with
  | false => rfl
  | true =>
    have := (fin_opn _ _ _ h).2
    simp [hx] at this
theorem body_c {res : Int × Int × Rn} {reads : List U} (hc : cells ≤ 4096) (hEA : Env mA Mb Lb av acts) (hE : EndC m0 mA T8 Mb Lb) (hrd : Rd mA rl 1 wordRow reads) (hrb : ∀ B, blk rl = some B → B ∉ [Mb, Lb]) (hrn : reads.length ≤ 9223372036854775807)
    (hg : AcG k na cells a) (how : ownB a = false) (ha : acts[s.at_]? = some a) (hask : s.asked = false) (hal : acts.length ≤ 65536) (hb : RB r) (hu : r.used ≤ reads.length)
    (h : RI mA m Mb Lb k av s g r [(R, rRow g.1 g.2.1 g.2.2 0 0 r.used)]) {N : Nat} {kn : K} {ke : Nat → K} {t : Tm} (hT : RT t th rl f T8 Mb R)
    (HH : ∀ l, bodyR th reads a s r = .inl l → res = (2, l, r))
    (H : ∀ x t' m' g', bodyR th reads a s r = .inr x → RT t' th rl f T8 Mb R → RI mA m' Mb Lb k av x.1 g' x.2 [(R, rRow g'.1 g'.2.1 g'.2.2 0 0 x.2.used)] → x.2.used ≤ reads.length → Ret m0 (RunP m0 res) (kn t' m')) :
    Ret m0 (RunP m0 res) (ca3_32 (ex Tryz.prog (N + 6)) kn ke (resK [.cell 8 9, .t 9]) t m) := by
  obtain ⟨t1, t2, t3, t8, t10, t12⟩ := hT
  have hE' := h.env hEA
  have hatl := (List.getElem?_eq_some_iff.1 ha).1
  obtain ⟨v1, m1, c1, c2, c3, rfl⟩ := next_c hc hE' hg how ha hask N h.mb h.ne h.ms
  have h1 := h.wr c2 c3
  obtain ⟨w, hw⟩ : ∃ w, w = wantOf s a := ⟨_, rfl⟩
  obtain ⟨s1, hs1⟩ : ∃ s1, s1 = nextS s a := ⟨_, rfl⟩
  rw [← hs1] at h1
  have hwhat := want_what s a
  have hw1 := want_1 s a how hg.op
  have hwx := want_ex s a how hg.op
  have hB : bodyR th reads a s r = if w.what = 1 then match reads[r.used]? with
    | none => .inl w.loc
    | some v => .inr (feedS s1 a v, tailR th w v { r with used := r.used + 1 })
    else .inr (feedS s1 a u0, tailR th w u0 r) := by rw [hw, hs1]; rfl
  rw [hB] at HH H
  rw [← hw] at c1 hwhat hw1 hwx
  have hnow : s1.now = w := by rw [hs1, hw]; rfl
  have hask1 : s1.asked = true := by rw [hs1]; rfl
  have hat1 : s1.at_ = s.at_ := by rw [hs1]; rfl
  have hopn1 : s1.opn = s.opn := by rw [hs1]; rfl
  have h2 := h1.row Z6
  obtain ⟨m2, hm2⟩ : ∃ m2, m2 = Dx.newRow m1 Z6 := ⟨_, rfl⟩
  rw [← hm2] at h2
  obtain ⟨m3, f1, f2, f3, f4⟩ := h2.ow.storeN 0 rfl (o := 0) (l' := wtL w) (n := 6) (by omega) rfl (by simp) (wtL_ok w)
  have h3 : RI mA m3 Mb Lb k av s1 g r [(m1.n, wtL w), (R, rRow g.1 g.2.1 g.2.2 0 0 r.used)] := by
    have := h2.put (i := 0) rfl f2 f3 f4
    rw [over_fill (by rfl)] at this
    exact this
  have lw : ∀ o s', load1 m3 ⟨m1.n, o, s'⟩ = (wtL w)[o]? := fun o s' => (h3.get 0 rfl).load1 o s'
  have lr : ∀ o s', load1 m3 ⟨R, o, s'⟩ = (rRow g.1 g.2.1 g.2.2 0 0 r.used)[o]? := fun o s' => (h3.get 1 rfl).load1 o s'
  simp only [wtL] at lw
  simp only [rRow] at lr
  have hDD : (w.ex = true ∧ s1.opn = true) ∨ w.what = 1 → pD a.op = true := fun hh => by
    rcases hh with hh | hh
    · exact rmw_D (hwx hh.1)
    · exact hw1 hh
  have hbr : ∀ u, RB { r with used := u } := fun u => ⟨hb.e, hb.o, hb.p⟩
  by_cases h1w : w.what = 1
  · have d1 : decide (w.what = 1) = true := decide_eq_true h1w
    rw [if_pos h1w] at HH H
    have hrl : Rd m3 rl 1 wordRow reads := h3.ow.rd hrd hrb
    have hrll : lenS rl = some (.int .i64 (reads.length : Int)) := hrd.len
    cases hv : reads[r.used]? with
    | none =>
      rw [hv] at HH
      have hul : r.used = reads.length := by have := List.getElem?_eq_none_iff.1 hv; omega
      have dn : decide ((r.used : Int) = (reads.length : Int)) = true := decide_eq_true (by omega)
      have dn' : decide (r.used = reads.length) = true := decide_eq_true hul
      have hres := HH _ rfl
      rw [hres]
      obtain ⟨m4', p1, p2, p3, p4, p5⟩ := h3.ow.storeAny 1 rfl (o := 6) (v := .int .i64 2) (by simp [rRow]) rfl
      obtain ⟨m4, hm4⟩ : ∃ m4, m4 = behind m3 m4' := ⟨_, rfl⟩
      rw [← hm4] at p3 p4 p5
      have h4 := h3.put (i := 1) rfl p3 p4 p5
      obtain ⟨m5', q1, q2, q3, q4, q5⟩ := h4.ow.storeAny 1 rfl (o := 7) (v := .int .i64 w.loc) (by simp [rRow]) rfl
      obtain ⟨m5, hm5⟩ : ∃ m5, m5 = behind m4 m5' := ⟨_, rfl⟩
      rw [← hm5] at q3 q4 q5
      have h5 := h4.put (i := 1) rfl q3 q4 q5
      have h5' : RI mA m5 Mb Lb k av s1 g r [(m1.n, wtL w), (R, rRow g.1 g.2.1 g.2.2 2 w.loc r.used)] := h5
      obtain ⟨e1, me, e2, e3⟩ := rep_end hE h5' 1 rfl
      have hne : ¬ m1.n = R := fun e => by
        have := h3.ow.nd
        simp [e] at this
      have hne' : ¬ R = m1.n := fun e => hne e.symm
      simp [t10, c1, ← hm2, f1, lw, d1, t12, lr, t2, hrll, dn, dn', p1, p2, ← hm4, q1, q2, ← hm5, e1, loadNS_ptr, t8, e2, hne, hne']
      exact e3 _ (by simp [t8]) (by simp)
    | some v =>
      rw [hv] at H
      have hul := (List.getElem?_eq_some_iff.1 hv).1
      have dn : decide ((r.used : Int) = (reads.length : Int)) = false := decide_eq_false (by omega)
      have dn' : decide (r.used = reads.length) = false := decide_eq_false (by omega)
      obtain ⟨a1, a2⟩ := hrl.at1 (g := fun u : U => uv u.1) hv
      have a2' := a2 m3 (Sees.refl h3.mb)
      have nu := nextI (i := r.used) (by omega)
      obtain ⟨u1, hu1⟩ : ∃ u1, u1 = r.used + 1 := ⟨_, rfl⟩
      rw [← hu1] at nu
      obtain ⟨m4, p1, p3, p4, p5⟩ := h3.ow.store 1 rfl (o := 8) (v := iv u1) (by simp [rRow]) rfl
      have h4 := h3.put (i := 1) rfl p3 p4 p5
      have h4' : RI mA m4 Mb Lb k av s1 g { r with used := u1 } [(m1.n, wtL w), (R, rRow g.1 g.2.1 g.2.2 0 0 u1)] := ⟨h4.ow, h4.ms, h4.ge, h4.go, h4.gr, h4.sep, h4.eo, h4.or_, h4.lowM, h4.lowL, h4.ne, h4.own⟩
      simp [-binV_add, t10, c1, ← hm2, f1, lw, d1, t12, lr, t2, hrll, dn, dn', a1, a2', binV_add, nu, p1, -ca3_28_ap]
      refine tail_c (th := th) (rl := rl) (f := f) (T8 := T8) (N := N + 2) hEA hg (by rw [hat1]; exact ha) hask1 hnow (by omega) (by omega) hDD (by rw [hat1]; omega) (hbr u1) h4' ⟨by simp [t1], by simp [t2], by simp [t3], by simp [t8], by simp [t10], by simp [t12]⟩ (by simp) (v := v) (by simp) (fun t' m' g' hT' hR' => ?_)
      have hus : (tailR th w v { r with used := u1 }).used = u1 := by unfold tailR; split <;> rfl
      refine H _ _ _ g' rfl hT' ?_ ?_
      · rw [hu1] at hR' hus
        show RI mA m' Mb Lb k av _ g' (tailR th w v { r with used := r.used + 1 }) [(R, rRow g'.1 g'.2.1 g'.2.2 0 0 (tailR th w v { r with used := r.used + 1 }).used)]
        rw [hus]; exact hR'
      · show (tailR th w v { r with used := r.used + 1 }).used ≤ _
        rw [← hu1, hus]; omega
  · have d1 : decide (w.what = 1) = false := decide_eq_false h1w
    rw [if_neg h1w] at H
    simp [t10, c1, ← hm2, f1, lw, d1, -ca3_28_ap]
    refine tail_c (th := th) (rl := rl) (f := f) (T8 := T8) (N := N + 2) hEA hg (by rw [hat1]; exact ha) hask1 hnow (by omega) (by omega) hDD (by rw [hat1]; omega) hb h3 ⟨by simp [t1], by simp [t2], by simp [t3], by simp [t8], by simp [t10], by simp [t12]⟩ (by simp) (v := u0) (by simp; rfl) (fun t' m' g' hT' hR' => ?_)
    have hus : (tailR th w u0 r).used = r.used := by unfold tailR; split <;> rfl
    refine H _ _ _ g' rfl hT' ?_ ?_
    · show RI mA m' Mb Lb k av _ g' (tailR th w u0 r) [(R, rRow g'.1 g'.2.1 g'.2.2 0 0 (tailR th w u0 r).used)]
      rw [hus]; exact hR'
    · show (tailR th w u0 r).used ≤ _
      rw [hus]; exact hu
end
end Go.Sx
namespace Go.Sx
open Go.Dx Go.Proofs
set_option maxRecDepth 10000
structure RBn (n : Nat) (r : Rn) : Prop where
  e : r.evs.length ≤ n
  o : r.outs.length ≤ n
  p : r.rmw.length ≤ n
theorem RBn.rb {n : Nat} {r : Rn} (h : RBn n r) (hn : n ≤ 1000000) : RB r := ⟨by have := h.e; omega, by have := h.o; omega, by have := h.p; omega⟩
theorem tail_len {n : Nat} {r : Rn} (h : RBn n r) (th : Int) (w : Wt) (v : U) : RBn (n + 1) (tailR th w v r) := by
  obtain ⟨h1, h2, h3⟩ := h
  unfold tailR
  split
  · exact ⟨by show r.evs.length ≤ _; omega, by show (r.outs ++ [w.val]).length ≤ _; rw [List.length_append]; simp; omega, by show r.rmw.length ≤ _; omega⟩
  · refine ⟨by show (r.evs ++ [eventOf th w v]).length ≤ _; rw [List.length_append]; simp; omega, by show r.outs.length ≤ _; omega, ?_⟩
    show (if w.what = 2 ∧ w.ex = true then r.rmw ++ [((r.evs.length : Int) - 1, (r.evs.length : Int))] else r.rmw).length ≤ _
    split
    · rw [List.length_append]; simp; omega
    · omega
section
variable {th : Int} {reads : List U} {a : Ac} {s : Ms} {r : Rn} {x : Ms × Rn}
theorem body_inr (h : bodyR th reads a s r = .inr x) : ∃ v r', x = (feedS (nextS s a) a v, tailR th (wantOf s a) v r') ∧ r'.evs = r.evs ∧ r'.outs = r.outs ∧ r'.rmw = r.rmw := by
  unfold bodyR at h
  split at h
  · split at h
    · cases h
    · cases h; exact ⟨_, _, rfl, rfl, rfl, rfl⟩
  · cases h; exact ⟨_, _, rfl, rfl, rfl, rfl⟩
theorem body_len {n : Nat} (h : bodyR th reads a s r = .inr x) (hb : RBn n r) : RBn (n + 1) x.2 := by
  obtain ⟨v, r', rfl, h1, h2, h3⟩ := body_inr h
  exact tail_len ⟨by rw [h1]; exact hb.e, by rw [h2]; exact hb.o, by rw [h3]; exact hb.p⟩ _ _ _
theorem body_asked (h : bodyR th reads a s r = .inr x) : x.1.asked = false := by
  obtain ⟨v, r', rfl, _⟩ := body_inr h
  exact feed_asked _ _ _
theorem body_opn (h : bodyR th reads a s r = .inr x) (h0 : s.opn = false) (h1 : x.1.opn = true) : x.1.at_ = s.at_ ∧ (wantOf s a).ex = true := by
  obtain ⟨v, r', rfl, _⟩ := body_inr h
  exact feed_opn (s := nextS s a) h0 h1
theorem want_opn (h0 : s.opn = true) (hop : a.op = 4 ∨ a.op = 5 ∨ a.op = 6) : (wantOf s a).what = 2 ∧ (wantOf s a).ex = true := by
  unfold wantOf
  rw [if_neg (by omega), if_neg (by omega), if_neg (by omega), if_neg (by omega), if_pos h0]
  exact ⟨rfl, rfl⟩
theorem body_opn2 (h : bodyR th reads a s r = .inr x) (h0 : s.opn = true) (hop : a.op = 4 ∨ a.op = 5 ∨ a.op = 6) : x.1.opn = false := by
  obtain ⟨v, r', rfl, _⟩ := body_inr h
  obtain ⟨w1, w2⟩ := want_opn h0 hop
  exact feed_opn2 (s := nextS s a) w2 (by show (wantOf s a).what ≠ 1; omega) h0
end
section
variable {k na : Nat} {cells : Int} {a : Ac} {av : Value} {s : Ms} {Mb Lb R T T8 : Nat} {m0 mA m : M} {acts : List Ac} {g : Gs} {r : Rn} {th f : Int} {rl : Value} {st loc : Int} {σ : List (Nat × List Value)}
theorem act_loop {res : Int × Int × Rn} {reads : List U} (hc : cells ≤ 4096) (hEA : Env mA Mb Lb av acts) (hE : EndC m0 mA T8 Mb Lb) (hrd : Rd mA rl 1 wordRow reads) (hrb : ∀ B, blk rl = some B → B ∉ [Mb, Lb]) (hrn : reads.length ≤ 9223372036854775807)
    (hg : AcG k na cells a) (how : ownB a = false) (ha : acts[s.at_]? = some a) (hask : s.asked = false) (hopn : s.opn = false) (hal : acts.length ≤ 65536) {n : Nat} (hb : RBn n r) (hn : n ≤ 900000) (hu : r.used ≤ reads.length)
    (h : RI mA m Mb Lb k av s g r [(R, rRow g.1 g.2.1 g.2.2 0 0 r.used)]) {N : Nat} {kn : K} {ke : Nat → K} {t : Tm} (hT : RT t th rl f T8 Mb R)
    (HH : ∀ l, actR th reads a s r = .inl l → res = (2, l, r))
    (H : ∀ x t' m' g', actR th reads a s r = .inr x → x.1.asked = false → x.1.opn = false → RBn (n + 2) x.2 → RT t' th rl f T8 Mb R → RI mA m' Mb Lb k av x.1 g' x.2 [(R, rRow g'.1 g'.2.1 g'.2.2 0 0 x.2.used)] → x.2.used ≤ reads.length → Ret m0 (RunP m0 res) (kn t' m')) :
    Ret m0 (RunP m0 res) (ca3_37 (ex Tryz.prog (N + 6)) kn ke (resK [.cell 8 9, .t 9]) t m) := by
  have hA : actR th reads a s r = match bodyR th reads a s r with
    | .inl l => .inl l
    | .inr x => if x.1.opn then bodyR th reads a x.1 x.2 else .inr x := rfl
  obtain ⟨t1, t2, t3, t8, t10, t12⟩ := hT
  have hT0 : RT (Tm.set 14 (.bool true) t) th rl f T8 Mb R := ⟨by simp [t1], by simp [t2], by simp [t3], by simp [t8], by simp [t10], by simp [t12]⟩
  simp
  refine loop_run (c := ca3_35) rfl (Ret m0 _) (fun j t m' => RT t th rl f T8 Mb R ∧
      ((j = 0 ∧ Tm.get 14 t = .bool true ∧ RI mA m' Mb Lb k av s g r [(R, rRow g.1 g.2.1 g.2.2 0 0 r.used)]) ∨
       (j = 1 ∧ Tm.get 14 t = .bool false ∧ ∃ x g', bodyR th reads a s r = .inr x ∧ RI mA m' Mb Lb k av x.1 g' x.2 [(R, rRow g'.1 g'.2.1 g'.2.2 0 0 x.2.used)] ∧ x.2.used ≤ reads.length) ∨
       (j = 2 ∧ Tm.get 14 t = .bool false ∧ ∃ x g', actR th reads a s r = .inr x ∧ x.1.asked = false ∧ x.1.opn = false ∧ RBn (n + 2) x.2 ∧ RI mA m' Mb Lb k av x.1 g' x.2 [(R, rRow g'.1 g'.2.1 g'.2.2 0 0 x.2.used)] ∧ x.2.used ≤ reads.length))) 2 (by omega)
    ⟨hT0, .inl ⟨rfl, by simp, h⟩⟩ (fun j t m' k' hj hI hk' => ?_)
  obtain ⟨hT, hI⟩ := hI
  have ⟨t1, t2, t3, t8, t10, t12⟩ := hT
  rcases hI with ⟨rfl, t14, hR⟩ | ⟨rfl, t14, x, g1, hx, hR, hux⟩ | ⟨rfl, t14, x, g1, hx, hxa, hxo, hxb, hR, hux⟩
  · -- the first
    simp [t14, -ca3_32_ap]
    refine body_c (th := th) (rl := rl) (f := f) (T8 := T8) (N := N) hc hEA hE hrd hrb hrn hg how ha hask hal (hb.rb (by omega)) hu hR ⟨by simp [t1], by simp [t2], by simp [t3], by simp [t8], by simp [t10], by simp [t12]⟩ (fun l hl => HH l (by rw [hA, hl])) (fun x t' m2 g' hx hT' hR' hu' => ?_)
    have ⟨t1, t2, t3, t8, t10, t12⟩ := hT'
    simp
    exact hk' (by omega) _ _ ⟨⟨by simp [t1], by simp [t2], by simp [t3], by simp [t8], by simp [t10], by simp [t12]⟩, .inr (.inl ⟨rfl, by simp, x, g', hx, hR', hu'⟩)⟩
  · -- the second, if it is wanted
    have lM := hR.ms.l1
    simp only [msRow] at lM
    cases ho : x.1.opn with
    | false =>
      rw [ho] at lM
      simp [t14, t10, lM]
      exact H x _ _ g1 (by rw [hA, hx]; show (if x.1.opn = true then _ else _) = _; rw [ho]; rfl) (body_asked hx) ho (by have := body_len hx hb; exact ⟨by have := this.e; omega, by have := this.o; omega, by have := this.p; omega⟩) ⟨by simp [t1], by simp [t2], by simp [t3], by simp [t8], by simp [t10], by simp [t12]⟩ hR hux
    | true =>
      rw [ho] at lM
      obtain ⟨hat, hwx⟩ := body_opn hx hopn ho
      have hop := want_ex s a how hg.op hwx
      have hA2 : actR th reads a s r = bodyR th reads a x.1 x.2 := by rw [hA, hx]; show (if x.1.opn = true then _ else _) = _; rw [ho]; rfl
      simp [t14, t10, lM, -ca3_32_ap]
      refine body_c (th := th) (rl := rl) (f := f) (T8 := T8) (N := N) hc hEA hE hrd hrb hrn hg how (by rw [hat]; exact ha) (body_asked hx) hal ((body_len hx hb).rb (by omega)) hux hR ⟨by simp [t1], by simp [t2], by simp [t3], by simp [t8], by simp [t10], by simp [t12]⟩ (fun l hl => ?_) (fun y t' m2 g' hy hT' hR' hu' => ?_)
      · obtain ⟨w1, _⟩ := want_opn ho hop
        unfold bodyR at hl
        rw [if_neg (by omega)] at hl
        cases hl
      · have ⟨t1, t2, t3, t8, t10, t12⟩ := hT'
        simp
        exact hk' (by omega) _ _ ⟨⟨by simp [t1], by simp [t2], by simp [t3], by simp [t8], by simp [t10], by simp [t12]⟩, .inr (.inr ⟨rfl, by simp, y, g', by rw [hA2]; exact hy, body_asked hy, body_opn2 hy ho hop, body_len hy (body_len hx hb), hR', hu'⟩)⟩
  · have lM := hR.ms.l1
    simp only [msRow] at lM
    rw [hxo] at lM
    simp [t14, t10, lM]
    exact H x _ _ g1 hx hxa hxo hxb ⟨by simp [t1], by simp [t2], by simp [t3], by simp [t8], by simp [t10], by simp [t12]⟩ hR hux
theorem own_asked (s : Ms) (a : Ac) : (ownS s a).asked = s.asked ∧ (ownS s a).opn = s.opn := by
  unfold ownS
  split
  · exact ⟨rfl, rfl⟩
  · split
    · exact ⟨rfl, rfl⟩
    · exact ⟨rfl, rfl⟩
theorem run_loop {reads : List U} {F : Nat} (hc : cells ≤ 4096) (hEA : Env mA Mb Lb av acts) (hE : EndC m0 mA T8 Mb Lb) (hrd : Rd mA rl 1 wordRow reads) (hrb : ∀ B, blk rl = some B → B ∉ [Mb, Lb]) (hrn : reads.length ≤ 9223372036854775807)
    (hgs : ∀ a ∈ acts, AcG k na cells a) (hask : s.asked = false) (hopn : s.opn = false) (hal : acts.length ≤ 65536) (hF : F ≤ 100000)
    (h : RI mA m Mb Lb k av s g ⟨[], [], [], 0⟩ [(R, rRow g.1 g.2.1 g.2.2 0 0 0)]) {N : Nat} {kn : K} {ke : Nat → K} {t : Tm} (hT : RT t th rl (F : Int) T8 Mb R) :
    Ret m0 (RunP m0 (runR th reads acts F s ⟨[], [], [], 0⟩)) (ca3_48 (ex Tryz.prog (N + 6)) kn ke (resK [.cell 8 9, .t 9]) t m) := by
  obtain ⟨res, hres⟩ : ∃ res, res = runR th reads acts F s ⟨[], [], [], 0⟩ := ⟨_, rfl⟩
  rw [← hres]
  simp
  refine loop_run (c := ca3_44) rfl (Ret m0 _) (fun i t m' => ∃ s' r' g', RT t th rl ((F - i : Nat) : Int) T8 Mb R ∧ s'.asked = false ∧ s'.opn = false ∧ RBn (2 * i) r' ∧ r'.used ≤ reads.length ∧ RI mA m' Mb Lb k av s' g' r' [(R, rRow g'.1 g'.2.1 g'.2.2 0 0 r'.used)] ∧ res = runR th reads acts (F - i) s' r') F (by omega)
    ⟨s, ⟨[], [], [], 0⟩, g, by rw [Nat.sub_zero]; exact hT, hask, hopn, ⟨by simp, by simp, by simp⟩, Nat.zero_le _, h, by rw [Nat.sub_zero]; exact hres⟩ (fun i t m' k' hi hI hk' => ?_)
  obtain ⟨s', r', g', hT, hask, hopn, hrbn, hu, hR, hrun⟩ := hI
  have ⟨t1, t2, t3, t8, t10, t12⟩ := hT
  have lM := hR.ms.l1
  simp only [msRow] at lM
  have hE' := hR.env hEA
  have hlen : lenS av = some (.int .i64 (acts.length : Int)) := hE'.rav.len
  obtain ⟨f', hf'⟩ : ∃ f', f' = F - i := ⟨_, rfl⟩
  rw [← hf'] at t3 hrun hT
  cases hat : acts[s'.at_]? with
  | none =>
    have hge := List.getElem?_eq_none_iff.1 hat
    have dl : decide ((s'.at_ : Int) < (acts.length : Int)) = false := decide_eq_false (by omega)
    have dl' : ((s'.at_ : Int) < (acts.length : Int)) = False := eq_false (by omega)
    have dl'' : (s'.at_ < acts.length) = False := eq_false (by omega)
    have hr : res = (1, 0, r') := by rw [hrun]; unfold runR; rw [hat]
    rw [hr]
    obtain ⟨m1, p1, p3, p4, p5⟩ := hR.ow.store 0 rfl (o := 6) (v := .int .i64 1) (by simp [rRow]) rfl
    have h1 := hR.put (i := 0) rfl p3 p4 p5
    have h1' : RI mA m1 Mb Lb k av s' g' r' [(R, rRow g'.1 g'.2.1 g'.2.2 1 0 r'.used)] := h1
    obtain ⟨e1, me, e2, e3⟩ := rep_end hE h1' 0 rfl
    simp [t10, lM, hlen, dl', dl'', t12, p1, e1, loadNS_ptr, t8, e2]
    exact e3 _ (by simp [t8]) (by simp)
  | some a =>
  have hlt := (List.getElem?_eq_some_iff.1 hat).1
  have hmem := List.mem_of_getElem? hat
  have dl := dlt hlt
  have dl'' : (s'.at_ < acts.length) = True := eq_true hlt
  have hg := hgs a hmem
  cases f' with
  | zero =>
    have hr : res = (4, 0, r') := by rw [hrun]; unfold runR; rw [hat]
    rw [hr]
    have t3' : Tm.get 3 t = iv 0 := t3
    obtain ⟨m1, p1, p3, p4, p5⟩ := hR.ow.store 0 rfl (o := 6) (v := .int .i64 4) (by simp [rRow]) rfl
    have h1 := hR.put (i := 0) rfl p3 p4 p5
    have h1' : RI mA m1 Mb Lb k av s' g' r' [(R, rRow g'.1 g'.2.1 g'.2.2 4 0 r'.used)] := h1
    obtain ⟨e1, me, e2, e3⟩ := rep_end hE h1' 0 rfl
    simp [t10, lM, hlen, dl, dl'', t3', t12, p1, e1, loadNS_ptr, t8, e2]
    exact e3 _ (by simp [t8]) (by simp)
  | succ f'' =>
  have hil : i < F := by omega
  obtain ⟨z, hz⟩ : ∃ z : Int, z = ((f'' + 1 : Nat) : Int) := ⟨_, rfl⟩
  rw [← hz] at t3 hT
  have hz0 : (z = 0) = False := eq_false (by omega)
  have hzs : binV .sub (.int .i64 z) (.int .i64 1) = some (.int .i64 (f'' : Int)) := by rw [binV_sub, wrap64 _ (by omega) (by omega)]; congr 2; omega
  have hnext : (F - (i + 1) : Nat) = f'' := by omega
  obtain ⟨v1, m1, c1, c2, rfl⟩ := act_c hE' hR.ms hat (N + 5) hR.mb
  have h1 := hR.step c2
  have h2 := h1.row Z11
  obtain ⟨m2, hm2⟩ : ∃ m2, m2 = Dx.newRow m1 Z11 := ⟨_, rfl⟩
  rw [← hm2] at h2
  have haok := (hE'.ok a hmem).1
  obtain ⟨m3, f1, f2, f3, f4⟩ := h2.ow.storeN 0 rfl (o := 0) (l' := acRow a) (n := 11) (by omega) rfl (by simp) (acRow_ok haok)
  have h3 : RI mA m3 Mb Lb k av s' g' r' [(m1.n, acRow a), (R, rRow g'.1 g'.2.1 g'.2.2 0 0 r'.used)] := by
    have := h2.put (i := 0) rfl f2 f3 f4
    rw [over_fill (by rfl)] at this
    exact this
  have l11 : loads m3 ⟨m1.n, 0, none⟩ 11 = some (acRow a) := (h3.get 0 rfl).loads (n := 11) (by simp [acRow])
  obtain ⟨v4, m4, d1, d2, rfl⟩ := own_c a (N + 5) m3
  have h4 := h3.step d2
  cases how : ownB a with
  | true =>
    rw [how] at d1
    have hr : res = runR th reads acts f'' (ownS s' a) r' := by
      rw [hrun]; conv => lhs; unfold runR
      rw [hat]; simp only; rw [how, if_pos rfl]
    obtain ⟨v5, m5', e1, e2, e3, rfl⟩ := any_call (works_c (N + 5) (forAny m4) (sees_any (Sees.refl h4.mb)).base)
    obtain ⟨m5, hm5⟩ : ∃ m5, m5 = behind m4 m5' := ⟨_, rfl⟩
    rw [← hm5] at e3
    have h5 := h4.step e3
    have l5 : ∀ o s', load1 m5 ⟨m1.n, o, s'⟩ = (acRow a)[o]? := fun o s' => (h5.get 0 rfl).load1 o s'
    have l5n : loads m5 ⟨m1.n, 0, none⟩ 11 = some (acRow a) := (h5.get 0 rfl).loads (n := 11) (by simp [acRow])
    simp only [acRow] at l5
    have E5 := h5.env hEA
    have hm5b : (forAny m5).base ≤ (forAny m5).n := (sees_any (Sees.refl h5.mb)).base
    have ok5 := E5.any h5.mb
    obtain ⟨v6, m6', i1, i2, i3, rfl⟩ := own_act_c hg how (N + 2) hm5b h5.ne h5.ms.any (by omega) (ok5.ok a hmem).1 (ok5.ok a hmem).2
    obtain ⟨m6, hm6⟩ : ∃ m6, m6 = behind m5 m6' := ⟨_, rfl⟩
    have i2' := i2.behind
    rw [← hm6] at i2'
    have i3' : MsAt m6 Mb Lb k av (ownS s' a) := i3.congr (by rw [hm6, behind_n]; exact Nat.le_refl _) (by rw [hm6, behind_obj]) (by rw [hm6, behind_obj])
    have h6 := h5.wr i2' i3'
    have h7 := h6.sub (σ' := [(R, rRow g'.1 g'.2.1 g'.2.2 0 0 r'.used)]) (by simp) (by simp)
    have hwi := works_i hg.op.1 hg.op.2
    simp [-binV_sub, t10, lM, hlen, dl, dl'', t3, hz0, c1, ← hm2, f1, l11, loadNS_ptr, d1, e1, e2, ← hm5, pIdx_ap, l5, hwi, l5n, i1, ← hm6, hzs]
    exact hk' hil _ _ ⟨ownS s' a, r', g', by rw [hnext]; exact ⟨by simp [t1], by simp [t2], by simp, by simp [t8], by simp [t10], by simp [t12]⟩, by rw [(own_asked s' a).1]; exact hask, by rw [(own_asked s' a).2]; exact hopn, ⟨by have := hrbn.e; omega, by have := hrbn.o; omega, by have := hrbn.p; omega⟩, hu, h7, by rw [hnext]; exact hr⟩
  | false =>
    rw [how] at d1
    have hr : res = match actR th reads a s' r' with
        | .inl l => (2, l, r')
        | .inr x => runR th reads acts f'' x.1 x.2 := by
      rw [hrun]; conv => lhs; unfold runR
      rw [hat]; simp only; rw [how, if_neg (by simp)]
      try (cases actR th reads a s' r' <;> rfl)
    have h7 := h4.sub (σ' := [(R, rRow g'.1 g'.2.1 g'.2.2 0 0 r'.used)]) (by simp) (by simp)
    simp [-binV_sub, t10, lM, hlen, dl, dl'', t3, hz0, c1, ← hm2, f1, l11, loadNS_ptr, d1, -ca3_37_ap]
    refine act_loop (th := th) (rl := rl) (f := z) (T8 := T8) (N := N) (n := 2 * i) hc hEA hE hrd hrb hrn hg how hat hask hopn hal hrbn (by omega) hu h7 ⟨by simp [t1], by simp [t2], by simp [t3], by simp [t8], by simp [t10], by simp [t12]⟩ (fun l hl => by rw [hr, hl]) (fun x t' m' g2 hx hxa hxo hxb hT' hR' hu' => ?_)
    have ⟨t1, t2, t3, t8, t10, t12⟩ := hT'
    simp [-binV_sub, t3, hzs]
    exact hk' hil _ _ ⟨x.1, x.2, g2, by rw [hnext]; exact ⟨by simp [t1], by simp [t2], by simp, by simp [t8], by simp [t10], by simp [t12]⟩, hxa, hxo, hxb, hu', hR', by rw [hnext, hr, hx]⟩
end
end Go.Sx
namespace Go.Sx
open Go.Dx Go.Proofs
set_option maxRecDepth 10000
theorem run_eq {th : Int} {reads : List U} {cur acts : List Ac} (hl : cur.length = acts.length) (he : ∀ (j : Nat) a, acts[j]? = some a → ∃ a', cur[j]? = some a' ∧ AcEq a' a) : ∀ (f : Nat) (s : Ms) (r : Rn), runR th reads cur f s r = runR th reads acts f s r := by
  intro f
  induction f with
  | zero =>
    intro s r
    unfold runR
    cases ha : acts[s.at_]? with
    | none => rw [List.getElem?_eq_none (by have := List.getElem?_eq_none_iff.1 ha; omega)]
    | some a => obtain ⟨a', h1, _⟩ := he _ _ ha; rw [h1]
  | succ f ih =>
    intro s r
    unfold runR
    cases ha : acts[s.at_]? with
    | none => rw [List.getElem?_eq_none (by have := List.getElem?_eq_none_iff.1 ha; omega)]
    | some a =>
      obtain ⟨a', h1, x, y, z, rfl⟩ := he _ _ ha
      rw [h1]
      have e1 : ownB { a with ix := x, ev := y, fv := z } = ownB a := rfl
      have e2 : ownS s { a with ix := x, ev := y, fv := z } = ownS s a := rfl
      have e3 : actR th reads { a with ix := x, ev := y, fv := z } s r = actR th reads a s r := rfl
      simp only [e1, e2, e3]
      cases hb : ownB a with
      | true => simp only [if_true]; exact ih _ _
      | false =>
        simp only [Bool.false_eq_true, if_false]
        cases hc : actR th reads a s r with
        | inl l => rfl
        | inr q => exact ih _ _
theorem AcG.eq {k na : Nat} {cells : Int} {a b : Ac} (h : AcG k na cells b) (e : AcEq a b) : AcG k na cells a := by
  obtain ⟨x, y, z, rfl⟩ := e
  exact ⟨h.op, h.may, h.dst, h.pl, h.es, h.to⟩
theorem Z9_b : buildV Z9 [] = some (.agg ⟨Z9⟩) := rfl
def runOf (p : Pg) (th : Int) (reads : List U) (t : Th) (f : Nat) : Int × Int × Rn := runR th reads t.acts f (ms0 t.loc.toNat) ⟨[], [], [], 0⟩
def repOK (p : Pg) (th fuel : Int) : Prop := pgB p = true ∧ 0 ≤ th ∧ th < p.ths.length ∧ 0 ≤ fuel ∧ fuel ≤ 100000
theorem Replay_c (p : Pg) (th fuel : Int) (rl : Value) (reads : List U) (hrn : reads.length ≤ 9223372036854775807) (N : Nat) (m : M) (hm : m.base ≤ m.n) (hp : PgOK m p) (hrd : Rd m rl 1 wordRow reads) :
    Dx.Call (ex Tryz.prog (N + 7)) 7 [pgV p, iv th, rl, iv fuel] m fun v m' =>
      (repOK p th fuel → ∃ t, p.ths[th.toNat]? = some t ∧ RunP m (runOf p th reads t fuel.toNat) v m') ∧ (¬ repOK p th fuel → v = .tuple #[.agg ⟨Z9⟩, iv 1]) := by
  refine call_ret da3_ok (by simp) ?_
  have hpv : pgV p = .agg ⟨[iv p.cells, p.tv]⟩ := rfl
  have st1 := (St.nil hm (Ext.refl m)).row [iv p.cells, p.tv]
  obtain ⟨m1, hm1⟩ : ∃ m1, m1 = Dx.newRow m [iv p.cells, p.tv] := ⟨_, rfl⟩
  rw [← hm1] at st1
  have st2 := st1.row Z9
  obtain ⟨m2, hm2⟩ : ∃ m2, m2 = Dx.newRow m1 Z9 := ⟨_, rfl⟩
  rw [← hm2] at st2
  have l2 : loads m2 ⟨m.n, 0, none⟩ 2 = some [iv p.cells, p.tv] := (st2.get 1 rfl).2.2.loads (n := 2) (by simp)
  obtain ⟨v3, m3, c1, c2, c3⟩ := New_c p th N m2 st2.sees.self.base (hp.sees st2.sees)
  have st3 := st2.step c2
  rw [hpv] at c1 ⊢
  -- the refusals
  obtain ⟨me, w1, w2, w3, w4⟩ := st3.fill 0 rfl (n := 9) (l' := Z9) rfl rfl (by simp [okC])
  have lf : loads me ⟨m1.n, 0, none⟩ 9 = some Z9 := (w2.get 0 rfl).2.2.loads (n := 9) (by simp)
  have bad : ∀ (t : Tm), ¬ repOK p th fuel → Tm.get 8 t = .pointer (some ⟨m1.n, 0, none⟩) → Tm.get 9 t = iv 1 → Ret m (fun v m' => (repOK p th fuel → ∃ t, p.ths[th.toNat]? = some t ∧ RunP m (runOf p th reads t fuel.toNat) v m') ∧ (¬ repOK p th fuel → v = .tuple #[.agg ⟨Z9⟩, iv 1])) (resK [.cell 8 9, .t 9] t me) := fun t hn t8 t9 => by
    refine ret_of (l := [.agg ⟨Z9⟩, iv 1]) ?_ w2.ext ⟨fun h => absurd h hn, fun _ => rfl⟩
    simp only [resV, resOne, t8, vPtr_ptr, ob_some', lf, t9]
  by_cases hB : pgB p = true ∧ 0 ≤ th ∧ th < p.ths.length
  · rw [if_pos hB] at c3
    obtain ⟨t, cur, ht, hcl, hce, Mb, Lb, av, rfl, hne, hMb, hLb, hMs, hEnv⟩ := c3
    by_cases hf0 : fuel < 0
    · have e0 : (fuel < 0) = True := eq_true hf0
      simp [← hm1, ← hm2, l2, loadNS_ptr, c1, extractV, e0, Z9_b, w1]
      exact bad _ (fun h => by have := h.2.2.2.1; omega) (by simp) (by simp)
    have e0 : (fuel < 0) = False := eq_false hf0
    by_cases hf1 : 100000 < fuel
    · have e1 : (100000 < fuel) = True := eq_true hf1
      simp [← hm1, ← hm2, l2, loadNS_ptr, c1, extractV, e0, e1, Z9_b, w1]
      exact bad _ (fun h => by have := h.2.2.2.2; omega) (by simp) (by simp)
    have e1 : (100000 < fuel) = False := eq_false hf1
    have hOK : repOK p th fuel := ⟨hB.1, hB.2.1, hB.2.2, by omega, by omega⟩
    suffices H : Ret m (fun v m' => RunP m (runR th reads cur fuel.toNat (ms0 t.loc.toNat) ⟨[], [], [], 0⟩) v m') (ca3_52 (ex Tryz.prog (N + 6)) (resK [.cell 8 9, .t 9]) noK (resK [.cell 8 9, .t 9]) (initT .blank 0 [.agg ⟨[iv p.cells, p.tv]⟩, iv th, rl, iv fuel]) m) by
      refine ret_mono H fun v m' hr => ⟨fun _ => ⟨t, ht, ?_⟩, fun hn => absurd hOK hn⟩
      unfold runOf
      rw [← run_eq hcl hce]; exact hr
    have htB : thB p.cells t = true := by
      have := hB.1
      unfold pgB at this
      simp only [Bool.and_eq_true] at this
      exact List.all_eq_true.1 this.2.2 t (List.mem_of_getElem? ht)
    have hcells : p.cells ≤ 4096 := by
      have := hB.1
      unfold pgB at this
      simp only [Bool.and_eq_true, decide_eq_true_eq] at this
      exact this.1.2
    unfold thB at htB
    simp only [Bool.and_eq_true, decide_eq_true_eq] at htB
    obtain ⟨⟨hl0, hl1⟩, htl, hacts⟩ := htB
    have hgs : ∀ a ∈ cur, AcG t.loc.toNat t.acts.length p.cells a := fun a ha => by
      obtain ⟨j, hj⟩ := List.getElem?_of_mem ha
      have hjl := (List.getElem?_eq_some_iff.1 hj).1
      obtain ⟨b, h1, h2⟩ := hce j _ (List.getElem?_eq_getElem (show j < t.acts.length by omega))
      rw [hj] at h1; cases h1
      exact (actB_g (List.all_eq_true.1 hacts _ (List.getElem_mem _))).eq h2
    -- the run
    have hm12 : m1.n < m2.n := (st2.get 0 rfl).2.1
    have hmm2 : m.n ≤ m2.n := st2.ext.n
    have hE : EndC m m3 m1.n Mb Lb := by
      refine ⟨st3.sub (by simp) (by simp), by omega, by omega, by omega, by omega⟩
    have hm3b : m3.base ≤ m3.n := st3.sees.self.base
    have ow0 : Ow m3 m3 [Mb, Lb] [] := Ow.start hm3b (fun p hp => by cases hp) (by simp)
    have ow1 := ow0.row Z9
    obtain ⟨m4, hm4⟩ : ∃ m4, m4 = Dx.newRow m3 Z9 := ⟨_, rfl⟩
    rw [← hm4] at ow1
    have E4 : Ext m3 m4 := by rw [hm4]; exact Ext.row _ _
    have hRI : RI m3 m4 Mb Lb t.loc.toNat av (ms0 t.loc.toNat) (.slice none 0 0, .slice none 0 0, .slice none 0 0) ⟨[], [], [], 0⟩ [(m3.n, rRow (.slice none 0 0) (.slice none 0 0) (.slice none 0 0) 0 0 0)] := by
      refine ⟨ow1, hMs.ext E4, .nil, .nil, .nil, fun B hB => ?_, fun B hB => ?_, fun B hB => ?_, hMs.mb, hMs.lb, hne, fun p hp => ?_⟩
      · rcases hB with hB | hB | hB <;> cases hB
      · cases hB
      · cases hB
      · rw [List.mem_singleton.1 hp]; exact Nat.le_refl _
    have hS3 : Sees m m3 := st3.sees
    have hrlB : ∀ B, blk rl = some B → B ∉ [Mb, Lb] := fun B hB => by
      have := hrd.lt B hB
      simp; omega
    obtain ⟨F, hF⟩ : ∃ F : Nat, fuel = F := ⟨fuel.toNat, by omega⟩
    have hFt : fuel.toNat = F := by omega
    rw [hFt]
    simp [← hm1, ← hm2, l2, loadNS_ptr, c1, extractV, e0, e1, ← hm4, -ca3_48_ap]
    exact run_loop (N := N) (F := F) hcells hEnv hE (hrd.sees hS3) hrlB hrn hgs rfl rfl (by omega) (by omega) hRI ⟨by simp, by simp, by simp [hF], by simp, by simp, by simp⟩
  · rw [if_neg hB] at c3
    subst c3
    simp [← hm1, ← hm2, l2, loadNS_ptr, c1, extractV, Z9_b, w1]
    exact bad _ (fun h => hB ⟨h.1, h.2.1, h.2.2.1⟩) (by simp) (by simp)
end Go.Sx
namespace Go.Sx
open Go.Dx Go.Proofs
/-! what a run with more values tells -/
section
variable {th : Int} {reads more : List U} {a : Ac} {s : Ms} {r : Rn} {x : Ms × Rn} {acts : List Ac}
/-- one tells what the other told, and more -/
structure Gro (r r' : Rn) : Prop where
  e : ∃ X, r'.evs = r.evs ++ X
  o : ∃ X, r'.outs = r.outs ++ X
  u : r.used ≤ r'.used
theorem Gro.refl (r : Rn) : Gro r r := ⟨⟨[], by simp⟩, ⟨[], by simp⟩, Nat.le_refl _⟩
theorem Gro.trans {r r' r'' : Rn} (h : Gro r r') (k : Gro r' r'') : Gro r r'' := by
  obtain ⟨⟨X, h1⟩, ⟨Y, h2⟩, h3⟩ := h
  obtain ⟨⟨X', k1⟩, ⟨Y', k2⟩, k3⟩ := k
  exact ⟨⟨X ++ X', by rw [k1, h1, List.append_assoc]⟩, ⟨Y ++ Y', by rw [k2, h2, List.append_assoc]⟩, Nat.le_trans h3 k3⟩
theorem run_step (f : Nat) (ha : acts[s.at_]? = some a) : runR th reads acts (f + 1) s r = if ownB a then runR th reads acts f (ownS s a) r else match actR th reads a s r with
    | .inl l => (2, l, r)
    | .inr x => runR th reads acts f x.1 x.2 := by
  conv => lhs; unfold runR
  rw [ha]
  all_goals (try simp only)
  all_goals (split; all_goals (first | rfl | (cases actR th reads a s r <;> rfl)))
theorem run_none (f : Nat) (ha : acts[s.at_]? = none) : runR th reads acts f s r = (1, 0, r) := by
  unfold runR; rw [ha]
theorem run_zero (ha : acts[s.at_]? = some a) : runR th reads acts 0 s r = (4, 0, r) := by
  unfold runR; rw [ha]
/-! the values of its reads -/
def kR (l : List Ev5) : Nat := (l.filter fun e => decide (e.kind = 1)).length
structure RdOK (reads : List U) (r : Rn) : Prop where
  n : kR r.evs = r.used
  v : ∀ (i : Nat) e, r.evs[i]? = some e → e.kind = 1 → reads[kR (r.evs.take i)]? = some e.val
  u : r.used ≤ reads.length
theorem RdOK.nil : RdOK reads ⟨[], [], [], 0⟩ := ⟨rfl, fun i e h => by simp at h, Nat.zero_le _⟩
end
/-- how much it tells at most -/
theorem act_lens {th : Int} {reads : List U} {a : Ac} {s : Ms} {r : Rn} {x : Ms × Rn} {n : Nat} (h : actR th reads a s r = .inr x) (hb : RBn n r) : RBn (n + 2) x.2 := by
  unfold actR at h
  cases hc : bodyR th reads a s r with
  | inl l => rw [hc] at h; cases h
  | inr y =>
    rw [hc] at h
    simp only at h
    have h1 := body_len hc hb
    split at h
    · exact body_len h h1
    · cases h; exact ⟨by have := h1.e; omega, by have := h1.o; omega, by have := h1.p; omega⟩
theorem run_lens {th : Int} {reads : List U} {acts : List Ac} : ∀ (f n : Nat) (s : Ms) (r : Rn), RBn n r → RBn (n + 2 * f) (runR th reads acts f s r).2.2 := by
  intro f
  induction f with
  | zero =>
    intro n s r hb
    cases ha : acts[s.at_]? with
    | none => rw [run_none 0 ha]; exact hb
    | some a => rw [run_zero ha]; exact hb
  | succ f ih =>
    intro n s r hb
    have up : RBn (n + 2 * (f + 1)) r := ⟨by have := hb.e; omega, by have := hb.o; omega, by have := hb.p; omega⟩
    cases ha : acts[s.at_]? with
    | none => rw [run_none _ ha]; exact up
    | some a =>
      rw [run_step f ha]
      split
      · have := ih n (ownS s a) r hb; exact ⟨by have := this.e; omega, by have := this.o; omega, by have := this.p; omega⟩
      · cases hc : actR th reads a s r with
        | inl l => exact up
        | inr x =>
          show RBn (n + 2 * (f + 1)) (runR th reads acts f x.1 x.2).2.2
          have := ih (n + 2) x.1 x.2 (act_lens hc hb)
          exact ⟨by have := this.e; omega, by have := this.o; omega, by have := this.p; omega⟩
end Go.Sx
namespace Go.Dx
/-- a slice's rows behind those of a slice that has grown -/
theorem Grown.appendL {α : Type} {m0 m : M} {v w : Value} {e : Nat} {f : α → List Value} {es ms : List α} (h : Grown m0 m v e f es) (hE : Ext m0 m) (hb : m0.base ≤ m0.n) (he : 0 < e) (hf : ∀ x, (f x).length = e) (hok : ∀ x, ∀ v ∈ f x, Go.Dx.okC v = true) (hne : es ≠ [])
    (hw : Rd m w e f ms) {bytes : Nat} (hm : (es.length + ms.length) * bytes ≤ most) (hn : es.length + ms.length ≤ 4611686018427387904) :
    ∃ v' m', appendV m e bytes v w = some (v', m') ∧ Ext m0 m' ∧ Grown m0 m' v' e f (es ++ ms) := by
  have e0 : ∀ (b : Option Addr) (n c : Nat), appendV m e bytes (.slice b n c) w = appW m e bytes n c ms.length b (ms.flatMap f) := fun b n c => by
    show ob (lenV w) _ = _
    rw [hw.lenV, ob_some']
    show ob (firsts m e ms.length w) _ = _
    rw [hw.all, ob_some']
  rcases h with ⟨h1, _⟩ | ⟨B, h1, h2, h3, rfl, h5⟩
  · exact absurd h1 hne
  rw [e0]
  unfold appW
  by_cases hz : ms = []
  · subst hz
    rw [List.length_nil, Nat.add_zero, Nat.ble_eq_true_of_le (Nat.le_refl _), cond_true, List.flatMap_nil, List.append_nil]
    refine ⟨_, m, ?_, hE, .inr ⟨B, h1, h2, h3, rfl, h5⟩⟩
    rfl
  · have hpos := List.length_pos_iff.2 hz
    have hlt : Nat.ble (es.length + ms.length) es.length = false := by
      cases q : Nat.ble (es.length + ms.length) es.length with
      | false => rfl
      | true => exact absurd (Nat.le_of_ble_eq_true q) (by omega)
    have hk : (Nat.ble ((es.length + ms.length) * bytes) most && Nat.ble (es.length + ms.length) 4611686018427387904) = true := by rw [Nat.ble_eq_true_of_le hm, Nat.ble_eq_true_of_le hn]; rfl
    obtain ⟨c, hc, hcl⟩ := id h5
    have hlen := flatMap_len hf es
    have hne' : 0 < (es.flatMap f).length := by rw [hlen]; exact Nat.mul_pos (List.length_pos_iff.2 h3) he
    have ha : alive c = true := alive_of (i := 0) (by rw [hcl, List.getElem?_eq_getElem hne'])
    have hal : allOk (es.flatMap f ++ ms.flatMap f) = true := allOk_of fun u hu => by
      simp only [List.mem_append, List.mem_flatMap] at hu
      rcases hu with ⟨y, _, h⟩ | ⟨y, _, h⟩
      · exact hok y u h
      · exact hok y u h
    have hmn := hE.n
    refine ⟨.slice (some ⟨m.n, 0, some (code e false)⟩) (es.length + ms.length) (es.length + ms.length), (m.put B (.cells .lf)).alloc (.cells (mkn .lf 0 (es.flatMap f ++ ms.flatMap f))), ?_, ⟨by rw [M.n_alloc, M.n_put]; omega, fun Y hY => ?_, by rw [M.base_alloc, M.base_put]; exact hE.base, ?_⟩,
      .inr ⟨m.n, by omega, by rw [M.n_alloc, M.n_put]; omega, by simp [h3], by simp, ?_⟩⟩
    · rw [hlt, cond_false, hk, cond_true]
      have hold : firsts m e es.length (.slice (some ⟨B, 0, some (code e false)⟩) es.length es.length) = some (es.flatMap f) := by
        show loads m ⟨B, 0, some (code e false)⟩ (es.length * e) = _
        rw [h5.loads (by omega), List.drop_zero, ← hlen, List.take_length]
      rw [hold, ob_some']
      unfold growV
      have hx' : isEx (code e false) = false := by
        show Nat.beq (2 * e % 2) 1 = false
        rw [show 2 * e % 2 = 0 by omega]; rfl
      have hcd : Nat.beq (code e false / 2) e = true := by
        show Nat.beq (2 * e / 2) e = true
        rw [show 2 * e / 2 = e by omega]; exact Nat.beq_refl e
      show ob (some (code e false)) _ = _
      rw [ob_some', hx', cond_false]
      show ob (oCells (m.obj B)) _ = _
      rw [hc]
      show (bif alive c && Nat.beq (code e false / 2) e && allOk (es.flatMap f ++ ms.flatMap f) && Nat.blt 0 HI then _ else _) = _
      rw [ha, hcd, hal, show Nat.blt 0 HI = true from Nat.ble_eq_true_of_le (by unfold HI; omega)]
      rfl
    · rw [M.obj_alloc, M.n_put, if_neg (by omega), M.obj_put, if_neg (by omega)]
      exact hE.obj Y hY
    · rw [M.log_alloc, put_log, note_ge (by rw [hE.base]; omega)]; exact hE.log
    · rw [List.flatMap_append]
      refine ⟨_, by rw [M.obj_alloc, M.n_put, if_pos rfl], fun i => ?_⟩
      rw [mkn_get, A.get_lf]
      split
      · simp
      · rename_i h; rw [List.getElem?_eq_none (by omega)]
end Go.Dx
namespace Go.Sx
open Go.Dx Go.Proofs
set_option maxRecDepth 10000
theorem Numbers_eq (ls : List U) (hl : ls.length ≤ 9223372036854775807) (a b : Value) (N : Nat) (m : M) (hm : m.base ≤ m.n) (ha : Rd m a 1 wordRow ls) (hb : Rd m b 1 wordRow ls) : CallV (ex Tryz.prog (N + 1)) 10 [a, b] m (.bool true) := by
  refine call_ret da6_ok (by simp) ?_
  have la := ha.len
  have lb := hb.len
  have S := Sees.refl hm
  simp [la, lb]
  refine loop_run (c := ca6_12) rfl (Ret m _) (fun i t m' => m' = m ∧ Tm.get 0 t = a ∧ Tm.get 1 t = b ∧ Tm.get 5 t = iv i) ls.length hl
    ⟨rfl, by simp, by simp, by simp⟩ (fun i t m' k hi hI hk => ?_)
  obtain ⟨rfl, t0, t1, t5⟩ := hI
  by_cases hil : i < ls.length
  · have hd := dlt hil
    have hd' : (i < ls.length) = True := eq_true hil
    have ni := nextI (i := i) (by omega)
    obtain ⟨u, hu⟩ : ∃ r, ls[i]? = some r := ⟨_, List.getElem?_eq_getElem hil⟩
    obtain ⟨a1, a2⟩ := ha.at1 (g := fun u : U => uv u.1) hu
    obtain ⟨b1, b2⟩ := hb.at1 (g := fun u : U => uv u.1) hu
    simp [t0, t1, t5, la, hd, hd', a1, a2 m' S, b1, b2 m' S, ni]
    exact hk hil _ _ ⟨rfl, by simp [t0], by simp [t1], by simp⟩
  · have hd : ((i : Int) < (ls.length : Int)) = False := eq_false (by omega)
    have hd' : (i < ls.length) = False := eq_false hil
    simp [t0, t1, t5, la, hd, hd']
    exact ret_1 (Ext.refl m') (by simp)
theorem pairs_eq (ls : List (Int × Int)) (hl : ls.length ≤ 9223372036854775807) (a b : Value) (N : Nat) (m : M) (hm : m.base ≤ m.n) (ha : Rd m a 2 pairRow ls) (hb : Rd m b 2 pairRow ls) : CallV (ex Tryz.prog (N + 1)) 30 [a, b] m (.bool true) := by
  refine call_ret dc1_ok (by simp) ?_
  have la := ha.len
  have lb := hb.len
  have S := Sees.refl hm
  simp [la, lb]
  refine loop_run (c := cc1_12) rfl (Ret m _) (fun i t m' => m' = m ∧ Tm.get 0 t = a ∧ Tm.get 1 t = b ∧ Tm.get 5 t = iv i) ls.length hl
    ⟨rfl, by simp, by simp, by simp⟩ (fun i t m' k hi hI hk => ?_)
  obtain ⟨rfl, t0, t1, t5⟩ := hI
  by_cases hil : i < ls.length
  · have hd := dlt hil
    have hd' : (i < ls.length) = True := eq_true hil
    have ni := nextI (i := i) (by omega)
    obtain ⟨u, hu⟩ : ∃ r, ls[i]? = some r := ⟨_, List.getElem?_eq_getElem hil⟩
    obtain ⟨a1, a2, _⟩ := ha.at hu
    obtain ⟨b1, b2, _⟩ := hb.at hu
    have a2' := a2 m' S
    have b2' := b2 m' S
    have he : eqFlat [1, 1] (pairRow u) (pairRow u) = some true := by unfold pairRow; rw [eqFlat_int, eqFlat_int]; rfl
    simp [t0, t1, t5, la, hd, hd', a1, a2', b1, b2', loadNS_ptr, he, ni]
    exact hk hil _ _ ⟨rfl, by simp [t0], by simp [t1], by simp⟩
  · have hd : ((i : Int) < (ls.length : Int)) = False := eq_false (by omega)
    have hd' : (i < ls.length) = False := eq_false hil
    simp [t0, t1, t5, la, hd, hd']
    exact ret_1 (Ext.refl m') (by simp)
theorem ev5_eq (e : Ev5) : eqFlat [1, 1, 1, 1, 1] (ev5Row e) (ev5Row e) = some true := by unfold ev5Row; rw [eqFlat_int, eqFlat_int, eqFlat_int, eqFlat_int, eqFlat_int]; rfl
theorem SameRun_eq (g1 g2 : Gs) (st loc : Int) (r : Rn) (hb : RB r) (N : Nat) (m : M) (hm : m.base ≤ m.n)
    (e1 : Rd m g1.1 5 ev5Row r.evs) (o1 : Rd m g1.2.1 1 wordRow r.outs) (p1 : Rd m g1.2.2 2 pairRow r.rmw) (e2 : Rd m g2.1 5 ev5Row r.evs) (o2 : Rd m g2.2.1 1 wordRow r.outs) (p2 : Rd m g2.2.2 2 pairRow r.rmw) :
    CallV (ex Tryz.prog (N + 2)) 8 [.agg ⟨rRow g1.1 g1.2.1 g1.2.2 st loc r.used⟩, .agg ⟨rRow g2.1 g2.2.1 g2.2.2 st loc r.used⟩] m (.bool true) := by
  refine call_ret da4_ok (by simp) ?_
  have st1 := (St.nil hm (Ext.refl m)).row (rRow g1.1 g1.2.1 g1.2.2 st loc r.used)
  obtain ⟨m1, hm1⟩ : ∃ m1, m1 = Dx.newRow m (rRow g1.1 g1.2.1 g1.2.2 st loc r.used) := ⟨_, rfl⟩
  rw [← hm1] at st1
  have st2 := st1.row (rRow g2.1 g2.2.1 g2.2.2 st loc r.used)
  obtain ⟨m2, hm2⟩ : ∃ m2, m2 = Dx.newRow m1 (rRow g2.1 g2.2.1 g2.2.2 st loc r.used) := ⟨_, rfl⟩
  rw [← hm2] at st2
  obtain ⟨v3, m3, c1, c2, rfl⟩ := Numbers_eq r.outs (by have := hb.o; omega) g1.2.1 g2.2.1 N m2 st2.sees.self.base (o1.sees st2.sees) (o2.sees st2.sees)
  have st3 := st2.step c2
  have l1 : ∀ {m' : M}, St m m' [(m1.n, rRow g2.1 g2.2.1 g2.2.2 st loc r.used), (m.n, rRow g1.1 g1.2.1 g1.2.2 st loc r.used)] → ∀ o s, load1 m' ⟨m.n, o, s⟩ = [g1.1, g1.2.2, .slice none 0 0, .slice none 0 0, .slice none 0 0, g1.2.1, iv st, iv loc, iv r.used][o]? := fun h o s => (h.get 1 rfl).2.2.load1 o s
  have l2 : ∀ {m' : M}, St m m' [(m1.n, rRow g2.1 g2.2.1 g2.2.2 st loc r.used), (m.n, rRow g1.1 g1.2.1 g1.2.2 st loc r.used)] → ∀ o s, load1 m' ⟨m1.n, o, s⟩ = [g2.1, g2.2.2, .slice none 0 0, .slice none 0 0, .slice none 0 0, g2.2.1, iv st, iv loc, iv r.used][o]? := fun h o s => (h.get 0 rfl).2.2.load1 o s
  have a1 := l1 st2
  have a2 := l2 st2
  have b1 := l1 st3
  have b2 := l2 st3
  have h1m : Dx.newRow m [g1.1, g1.2.2, .slice none 0 0, .slice none 0 0, .slice none 0 0, g1.2.1, iv st, iv loc, iv r.used] = m1 := hm1.symm
  have h2m : Dx.newRow m1 [g2.1, g2.2.2, .slice none 0 0, .slice none 0 0, .slice none 0 0, g2.2.1, iv st, iv loc, iv r.used] = m2 := hm2.symm
  obtain ⟨n, hn⟩ : ∃ n, n = r.evs.length := ⟨_, rfl⟩
  have le1 : lenS g1.1 = some (.int .i64 (n : Int)) := by rw [hn]; exact e1.len
  have le2 : lenS g2.1 = some (.int .i64 (n : Int)) := by rw [hn]; exact e2.len
  have hnb : n ≤ 1000000 := by rw [hn]; exact hb.e
  simp [rRow, h1m, h2m, a1, a2, le1, le2, c1]
  refine loop_run (c := ca4_12) rfl (Ret m _) (fun i t m' => m' = m3 ∧ Tm.get 2 t = .pointer (some ⟨m.n, 0, none⟩) ∧ Tm.get 3 t = .pointer (some ⟨m1.n, 0, none⟩) ∧ Tm.get 5 t = iv i) n (by omega)
    ⟨rfl, by simp, by simp, by simp⟩ (fun i t m' k hi hI hk => ?_)
  obtain ⟨rfl, t2, t3, t5⟩ := hI
  have S := st3.sees
  by_cases hil : i < n
  · have hd := dlt hil
    have hd' : (i < n) = True := eq_true hil
    have ni := nextI (i := i) (by omega)
    obtain ⟨u, hu⟩ : ∃ x, r.evs[i]? = some x := ⟨_, List.getElem?_eq_getElem (by omega)⟩
    obtain ⟨x1, x2, _⟩ := e1.at hu
    obtain ⟨y1, y2, _⟩ := e2.at hu
    have x2' := x2 m' S
    have y2' := y2 m' S
    have he := ev5_eq u
    simp [t2, t3, t5, b1, b2, le1, hd, hd', x1, x2', y1, y2', loadNS_ptr, he, ni]
    exact hk hil _ _ ⟨rfl, by simp [t2], by simp [t3], by simp⟩
  · have hd : ((i : Int) < (n : Int)) = False := eq_false (by omega)
    have hd' : (i < n) = False := eq_false hil
    obtain ⟨v4, m4, d1, d2, rfl⟩ := pairs_eq r.rmw (by have := hb.p; omega) g1.2.2 g2.2.2 N m' S.base (p1.sees S) (p2.sees S)
    have st4 := st3.step d2
    have q1 := l1 st4
    have q2 := l2 st4
    obtain ⟨v5, m5, f1, f2, rfl⟩ := pairs_eq [] (by simp) (.slice none 0 0) (.slice none 0 0) N m4 st4.sees.base rd_nil0 rd_nil0
    have st5 := st4.step f2
    have u1 := l1 st5
    have u2 := l2 st5
    obtain ⟨v6, m6, i1, i2, rfl⟩ := pairs_eq [] (by simp) (.slice none 0 0) (.slice none 0 0) N m5 st5.sees.base rd_nil0 rd_nil0
    have st6 := st5.step i2
    have w1 := l1 st6
    have w2 := l2 st6
    obtain ⟨v7, m7, j1, j2, rfl⟩ := pairs_eq [] (by simp) (.slice none 0 0) (.slice none 0 0) N m6 st6.sees.base rd_nil0 rd_nil0
    have st7 := st6.step j2
    simp [t2, t3, t5, b1, b2, le1, hd, hd', d1, q1, q2, f1, u1, u2, i1, w1, w2, j1]
    exact ret_1 st7.ext (by simp)
end Go.Sx
