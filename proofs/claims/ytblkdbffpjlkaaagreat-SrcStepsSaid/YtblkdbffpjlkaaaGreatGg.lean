/- Contracts. -/
import Derived.Test.YtblkdbffpjlkaaaGreatGf
import Derived.Test.YtblkdbffpjlkaaaGreatGe
set_option linter.unusedVariables false
set_option linter.unusedSimpArgs false
set_option linter.defProp false
namespace Go.Dx
/-- a growing slice has grown -/
structure Ap (m m' : M) (v v' : Value) : Prop where
  n : m.n ≤ m'.n
  base : m'.base = m.base
  log : ∀ C ∈ m'.log, C ∈ m.log ∨ (blk v = some C ∧ C < m.base)
  low : (∀ B, blk v = some B → m.base ≤ B) → m'.log = m.log
  obj : ∀ B, B < m.n → blk v ≠ some B → m'.obj B = m.obj B
  new : ∀ B, blk v' = some B → m.n ≤ B
section
variable {α : Type} {m0 m m' : M} {v : Value} {e : Nat} {f : α → List Value} {es : List α}
theorem grow_n (h : Grown m0 m v e f es) (he : 0 < e) (hf : ∀ x, (f x).length = e) (hok : ∀ x, ∀ v ∈ f x, okC v = true) {x : α} {X : Nat} {sp : Option Nat}
    (hx : loads m ⟨X, 0, sp⟩ e = some (f x)) (h0 : m0.n ≤ m.n) {bytes : Nat} (hm : (es.length + 1) * bytes ≤ most) (hn : es.length + 1 ≤ 4611686018427387904) :
    ∃ v' m', appendV m e bytes v (.slice (some ⟨X, 0, sp⟩) 1 1) = some (v', m') ∧ Grown m0 m' v' e f (es ++ [x]) ∧ Ap m m' v v' := by
  obtain ⟨v', m', h1, h2, h3, h4, h5, h6, h7⟩ := h.core he hf hok hx h0 hm hn
  refine ⟨v', m', h1, h2, by omega, h4, fun C hC => ?_, fun hl => ?_, h6, h7⟩
  · rcases h5 with h5 | ⟨B, hB, _, h5⟩
    · rw [h5] at hC; exact .inl hC
    · rw [h5] at hC
      rcases note_mem hC with h' | ⟨rfl, h'⟩
      · exact .inl h'
      · exact .inr ⟨hB, h'⟩
  · rcases h5 with h5 | ⟨B, hB, _, h5⟩
    · exact h5
    · rw [h5, note_ge (hl B hB)]
theorem Ow.app {W : List Nat} {σ : List (Nat × List Value)} {v' : Value} (h : Ow m0 m W σ) (k : Ap m m' v v') (h1 : ∀ B, blk v = some B → m0.n ≤ B) (h2 : ∀ B, blk v = some B → ∀ p ∈ σ, p.1 ≠ B) : Ow m0 m' W σ := by
  have hb := h.base
  have hmb := h.mc.base
  refine ⟨⟨Nat.le_trans h.mc.n k.n, fun B hB hW => (k.obj B (Nat.lt_of_lt_of_le hB h.mc.n) fun hv => ?_).trans (h.mc.obj B hB hW), k.base.trans hmb, fun C hC => ?_, fun hW => ?_⟩, h.base, fun p hp => ?_, h.nd⟩
  · have := h1 B hv; omega
  · rcases k.log C hC with h' | ⟨h', h''⟩
    · exact h.mc.log C h'
    · have := h1 C h'; omega
  · rw [k.low fun B hB => by have := h1 B hB; omega]
    exact h.mc.low hW
  · obtain ⟨a, b, c⟩ := h.arr p hp
    exact ⟨a, Nat.lt_of_lt_of_le b k.n, c.congr (k.obj _ b fun hv => h2 _ hv p hp rfl)⟩
end
end Go.Dx
namespace Go.Sx
open Go.Dx Go.Proofs
set_option maxRecDepth 10000
/-- what a run has told so far -/
structure Rn where
  evs : List Ev5
  outs : List U
  rmw : List (Int × Int)
  used : Nat
def pairRow (p : Int × Int) : List Value := [iv p.1, iv p.2]
abbrev Gs := Value × Value × Value
structure RI (mA m : M) (Mb Lb k : Nat) (av : Value) (s : Ms) (g : Gs) (r : Rn) (σ : List (Nat × List Value)) : Prop where
  ow : Ow mA m [Mb, Lb] σ
  ms : MsAt m Mb Lb k av s
  ge : Grown mA m g.1 5 ev5Row r.evs
  go : Grown mA m g.2.1 1 wordRow r.outs
  gr : Grown mA m g.2.2 2 pairRow r.rmw
  sep : ∀ B, (blk g.1 = some B ∨ blk g.2.1 = some B ∨ blk g.2.2 = some B) → ∀ p ∈ σ, p.1 ≠ B
  eo : ∀ B, blk g.1 = some B → blk g.2.1 ≠ some B ∧ blk g.2.2 ≠ some B
  or_ : ∀ B, blk g.2.1 = some B → blk g.2.2 ≠ some B
  lowM : Mb < mA.n
  lowL : Lb < mA.n
  ne : Mb ≠ Lb
  own : ∀ p ∈ σ, mA.n ≤ p.1
section
variable {mA m m' : M} {Mb Lb k : Nat} {av : Value} {s s' : Ms} {g : Gs} {r : Rn} {σ σ' : List (Nat × List Value)}
theorem RI.gl (h : RI mA m Mb Lb k av s g r σ) : ∀ B, (blk g.1 = some B ∨ blk g.2.1 = some B ∨ blk g.2.2 = some B) → mA.n ≤ B ∧ B < m.n := fun B hB => by
  rcases hB with hB | hB | hB
  · exact grown_low h.ge B hB
  · exact grown_low h.go B hB
  · exact grown_low h.gr B hB
/-- the rest is as it was -/
theorem RI.of (h : RI mA m Mb Lb k av s g r σ) (how : Ow mA m' [Mb, Lb] σ') (hms : MsAt m' Mb Lb k av s') (hn : m.n ≤ m'.n) (hk : ∀ B, (blk g.1 = some B ∨ blk g.2.1 = some B ∨ blk g.2.2 = some B) → m'.obj B = m.obj B) (hσ : ∀ p ∈ σ', (∃ q ∈ σ, q.1 = p.1) ∨ m.n ≤ p.1) : RI mA m' Mb Lb k av s' g r σ' :=
  ⟨how, hms, h.ge.keep hn fun B _ hB => hk B (.inl hB), h.go.keep hn fun B _ hB => hk B (.inr (.inl hB)), h.gr.keep hn fun B _ hB => hk B (.inr (.inr hB)), fun B hB p hp => by
    rcases hσ p hp with ⟨q, hq, e⟩ | h'
    · rw [← e]; exact h.sep B hB q hq
    · have := (h.gl B hB).2; omega, h.eo, h.or_, h.lowM, h.lowL, h.ne, fun p hp => by
    rcases hσ p hp with ⟨q, hq, e⟩ | h'
    · rw [← e]; exact h.own q hq
    · have := h.ow.mc.n; omega⟩
theorem RI.step (h : RI mA m Mb Lb k av s g r σ) (e : Ext m m') : RI mA m' Mb Lb k av s g r σ :=
  h.of (h.ow.step e) (h.ms.ext e) e.n (fun B hB => e.obj B (h.gl B hB).2) fun p hp => .inl ⟨p, hp, rfl⟩
theorem RI.row (h : RI mA m Mb Lb k av s g r σ) (l : List Value) : RI mA (Dx.newRow m l) Mb Lb k av s g r ((m.n, l) :: σ) :=
  h.of (h.ow.row l) (h.ms.ext (Ext.row m l)) (Ext.row m l).n (fun B hB => (Ext.row m l).obj B (h.gl B hB).2) fun p hp => by
    rcases List.mem_cons.1 hp with rfl | hp
    · exact .inr (Nat.le_refl _)
    · exact .inl ⟨p, hp, rfl⟩
theorem RI.sub (h : RI mA m Mb Lb k av s g r σ) (hs : ∀ p ∈ σ', p ∈ σ) (hn : (σ'.map (·.1)).Nodup) : RI mA m Mb Lb k av s g r σ' :=
  h.of (h.ow.sub hs hn) h.ms (Nat.le_refl _) (fun _ _ => rfl) fun p hp => .inl ⟨p, hs p hp, rfl⟩
/-- one of the own blocks has changed -/
theorem RI.put (h : RI mA m Mb Lb k av s g r σ) {i b : Nat} {l l' : List Value} (hi : σ[i]? = some (b, l)) (how : Ow mA m' [Mb, Lb] (σ.set i (b, l'))) (hn : m'.n = m.n) (ho : ∀ X, X ≠ b → m'.obj X = m.obj X) : RI mA m' Mb Lb k av s g r (σ.set i (b, l')) := by
  have hb := h.own _ (List.mem_of_getElem? hi)
  have hM := h.lowM
  have hL := h.lowL
  simp only at hb
  refine h.of how (h.ms.congr (by omega) (ho _ (by omega)) (ho _ (by omega))) (by omega) (fun B hB => ho B fun e => h.sep B hB _ (List.mem_of_getElem? hi) e.symm) fun p hp => ?_
  obtain ⟨q, hq, e⟩ := key_mem hi hp
  exact .inl ⟨q, hq, e⟩
/-- a machine's call -/
theorem RI.wr (h : RI mA m Mb Lb k av s g r σ) (k' : Mc m m' [Mb, Lb]) (hms : MsAt m' Mb Lb k av s') : RI mA m' Mb Lb k av s' g r σ := by
  have hM := h.lowM
  have hL := h.lowL
  have out : ∀ B, mA.n ≤ B → B ∉ [Mb, Lb] := fun B hB => by simp; omega
  refine h.of ⟨h.ow.mc.trans k', h.ow.base, fun p hp => ?_, h.ow.nd⟩ hms k'.n (fun B hB => k'.obj B (h.gl B hB).2 (out B (h.gl B hB).1)) fun p hp => .inl ⟨p, hp, rfl⟩
  obtain ⟨a, b, c⟩ := h.ow.arr p hp
  exact ⟨a, Nat.lt_of_lt_of_le b k'.n, c.congr (k'.obj _ b (out _ (h.own p hp)))⟩
theorem RI.env (h : RI mA m Mb Lb k av s g r σ) {acts : List Ac} (hE : Env mA Mb Lb av acts) : Env m Mb Lb av acts := hE.mc h.ow.mc
theorem RI.get (h : RI mA m Mb Lb k av s g r σ) (i : Nat) {b : Nat} {l : List Value} (hi : σ[i]? = some (b, l)) : Arr m b l := (h.ow.get i hi).2.2
theorem RI.mb (h : RI mA m Mb Lb k av s g r σ) : m.base ≤ m.n := h.ow.mb
end
end Go.Sx
namespace Go.Sx
open Go.Dx Go.Proofs
set_option maxRecDepth 10000
def tailR (th : Int) (w : Wt) (v : U) (r : Rn) : Rn :=
  if w.what = 4 then { r with outs := r.outs ++ [w.val] }
  else { r with evs := r.evs ++ [eventOf th w v], rmw := if w.what = 2 ∧ w.ex = true then r.rmw ++ [((r.evs.length : Int) - 1, (r.evs.length : Int))] else r.rmw }
def bodyR (th : Int) (reads : List U) (a : Ac) (s : Ms) (r : Rn) : Sum Int (Ms × Rn) :=
  if (wantOf s a).what = 1 then match reads[r.used]? with
    | none => .inl (wantOf s a).loc
    | some v => .inr (feedS (nextS s a) a v, tailR th (wantOf s a) v { r with used := r.used + 1 })
  else .inr (feedS (nextS s a) a u0, tailR th (wantOf s a) u0 r)
structure RT (t : Tm) (th : Int) (rl : Value) (f : Int) (T8 Mb R : Nat) : Prop where
  t1 : Tm.get 1 t = iv th
  t2 : Tm.get 2 t = rl
  t3 : Tm.get 3 t = iv f
  t8 : Tm.get 8 t = .pointer (some ⟨T8, 0, none⟩)
  t10 : Tm.get 10 t = mP Mb
  t12 : Tm.get 12 t = .pointer (some ⟨R, 0, none⟩)
/-- how much a run may have told -/
structure RB (r : Rn) : Prop where
  e : r.evs.length ≤ 1000000
  o : r.outs.length ≤ 1000000
  p : r.rmw.length ≤ 1000000
section
variable {k na : Nat} {cells : Int} {a : Ac} {av : Value} {s : Ms} {Mb Lb R T T8 : Nat} {mA m : M} {acts : List Ac} {g : Gs} {r : Rn} {th f : Int} {rl : Value} {st loc : Int}
end
end Go.Sx
namespace Go.Sx
open Go.Dx Go.Proofs
set_option maxRecDepth 10000
abbrev Z9 : List Value := [.slice none 0 0, .slice none 0 0, .slice none 0 0, .slice none 0 0, .slice none 0 0, .slice none 0 0, .int .i64 0, .int .i64 0, .int .i64 0]
structure EndC (m0 mA : M) (T8 Mb Lb : Nat) : Prop where
  st : St m0 mA [(T8, Z9)]
  lM : m0.n ≤ Mb
  lL : m0.n ≤ Lb
  neM : T8 ≠ Mb
  neL : T8 ≠ Lb
def actR (th : Int) (reads : List U) (a : Ac) (s : Ms) (r : Rn) : Sum Int (Ms × Rn) :=
  match bodyR th reads a s r with
  | .inl l => .inl l
  | .inr x => if x.1.opn then bodyR th reads a x.1 x.2 else .inr x
def runR (th : Int) (reads : List U) (acts : List Ac) : Nat → Ms → Rn → Int × Int × Rn
  | f, s, r => match acts[s.at_]? with
    | none => (1, 0, r)
    | some a => match f with
      | 0 => (4, 0, r)
      | f + 1 => if ownB a then runR th reads acts f (ownS s a) r else match actR th reads a s r with
        | .inl l => (2, l, r)
        | .inr x => runR th reads acts f x.1 x.2
section
variable {k na : Nat} {cells : Int} {a : Ac} {av : Value} {s : Ms} {Mb Lb R T T8 : Nat} {m0 mA m : M} {acts : List Ac} {g : Gs} {r : Rn} {th f : Int} {rl : Value} {st loc : Int} {σ : List (Nat × List Value)}
theorem RI.ext (hE : EndC m0 mA T8 Mb Lb) (h : RI mA m Mb Lb k av s g r σ) : St m0 m [(T8, Z9)] := by
  have e := hE.st.ext
  have mc := h.ow.mc
  have hb := hE.st.base
  obtain ⟨h1, h2, h3⟩ := hE.st.get 0 rfl
  have out : ∀ B, B < m0.n → B ∉ [Mb, Lb] := fun B hB => by have := hE.lM; have := hE.lL; simp; omega
  refine ⟨⟨Nat.le_trans e.n mc.n, fun B hB => (mc.obj B (Nat.lt_of_lt_of_le hB e.n) (out B hB)).trans (e.obj B hB), mc.base.trans e.base, (mc.low fun B hB => ?_).trans e.log⟩, hb, fun p hp => ?_, by simp⟩
  · rw [e.base]
    have := hE.lM; have := hE.lL
    simp at hB
    omega
  · rw [List.mem_singleton.1 hp]
    exact ⟨h1, Nat.lt_of_lt_of_le h2 mc.n, h3.congr (mc.obj T8 h2 (by have := hE.neM; have := hE.neL; simp; omega))⟩
theorem fin_asked (s : Ms) (a : Ac) (v : U) : (finS s a v).asked = s.asked := by
  unfold finS
  split
  · rfl
  · split <;> rfl
theorem feed_asked (s : Ms) (a : Ac) (v : U) : (feedS s a v).asked = false := by
  unfold feedS
  split
  · split
    · rfl
    · rw [fin_asked]
  · rw [fin_asked]
end
end Go.Sx
namespace Go.Sx
open Go.Dx Go.Proofs
set_option maxRecDepth 10000
structure RBn (n : Nat) (r : Rn) : Prop where
  e : r.evs.length ≤ n
  o : r.outs.length ≤ n
  p : r.rmw.length ≤ n
section
variable {th : Int} {reads : List U} {a : Ac} {s : Ms} {r : Rn} {x : Ms × Rn}
end
section
variable {k na : Nat} {cells : Int} {a : Ac} {av : Value} {s : Ms} {Mb Lb R T T8 : Nat} {m0 mA m : M} {acts : List Ac} {g : Gs} {r : Rn} {th f : Int} {rl : Value} {st loc : Int} {σ : List (Nat × List Value)}
theorem own_asked (s : Ms) (a : Ac) : (ownS s a).asked = s.asked ∧ (ownS s a).opn = s.opn := by
  unfold ownS
  split
  · exact ⟨rfl, rfl⟩
  · split
    · exact ⟨rfl, rfl⟩
    · exact ⟨rfl, rfl⟩
end
end Go.Sx
namespace Go.Sx
open Go.Dx Go.Proofs
set_option maxRecDepth 10000
theorem AcG.eq {k na : Nat} {cells : Int} {a b : Ac} (h : AcG k na cells b) (e : AcEq a b) : AcG k na cells a := by
  obtain ⟨x, y, z, rfl⟩ := e
  exact ⟨h.op, h.may, h.dst, h.pl, h.es, h.to⟩
def runOf (p : Pg) (th : Int) (reads : List U) (t : Th) (f : Nat) : Int × Int × Rn := runR th reads t.acts f (ms0 t.loc.toNat) ⟨[], [], [], 0⟩
def repOK (p : Pg) (th fuel : Int) : Prop := pgB p = true ∧ 0 ≤ th ∧ th < p.ths.length ∧ 0 ≤ fuel ∧ fuel ≤ 100000
end Go.Sx
namespace Go.Sx
open Go.Dx Go.Proofs
/-! what a run with more values tells -/
section
variable {th : Int} {reads more : List U} {a : Ac} {s : Ms} {r : Rn} {x : Ms × Rn} {acts : List Ac}
/-- one tells what the other told, and more -/
structure Gro (r r' : Rn) : Prop where
  e : ∃ X, r'.evs = r.evs ++ X
  o : ∃ X, r'.outs = r.outs ++ X
  u : r.used ≤ r'.used
theorem Gro.refl (r : Rn) : Gro r r := ⟨⟨[], by simp⟩, ⟨[], by simp⟩, Nat.le_refl _⟩
theorem Gro.trans {r r' r'' : Rn} (h : Gro r r') (k : Gro r' r'') : Gro r r'' := by
  obtain ⟨⟨X, h1⟩, ⟨Y, h2⟩, h3⟩ := h
  obtain ⟨⟨X', k1⟩, ⟨Y', k2⟩, k3⟩ := k
  exact ⟨⟨X ++ X', by rw [k1, h1, List.append_assoc]⟩, ⟨Y ++ Y', by rw [k2, h2, List.append_assoc]⟩, Nat.le_trans h3 k3⟩
/-! the values of its reads -/
def kR (l : List Ev5) : Nat := (l.filter fun e => decide (e.kind = 1)).length
structure RdOK (reads : List U) (r : Rn) : Prop where
  n : kR r.evs = r.used
  v : ∀ (i : Nat) e, r.evs[i]? = some e → e.kind = 1 → reads[kR (r.evs.take i)]? = some e.val
  u : r.used ≤ reads.length
theorem RdOK.nil : RdOK reads ⟨[], [], [], 0⟩ := ⟨rfl, fun i e h => by simp at h, Nat.zero_le _⟩
end
end Go.Sx
namespace Go.Dx
end Go.Dx
namespace Go.Sx
open Go.Dx Go.Proofs
set_option maxRecDepth 10000
theorem Numbers_eq (ls : List U) (hl : ls.length ≤ 9223372036854775807) (a b : Value) (N : Nat) (m : M) (hm : m.base ≤ m.n) (ha : Rd m a 1 wordRow ls) (hb : Rd m b 1 wordRow ls) : CallV (ex Tryz.prog (N + 1)) 10 [a, b] m (.bool true) := by
  refine call_ret da2_ok (by simp) ?_
  have la := ha.len
  have lb := hb.len
  have S := Sees.refl hm
  simp [la, lb]
  refine loop_run (c := ca2_12) rfl (Ret m _) (fun i t m' => m' = m ∧ Tm.get 0 t = a ∧ Tm.get 1 t = b ∧ Tm.get 5 t = iv i) ls.length hl
    ⟨rfl, by simp, by simp, by simp⟩ (fun i t m' k hi hI hk => ?_)
  obtain ⟨rfl, t0, t1, t5⟩ := hI
  by_cases hil : i < ls.length
  · have hd := dlt hil
    have hd' : (i < ls.length) = True := eq_true hil
    have ni := nextI (i := i) (by omega)
    obtain ⟨u, hu⟩ : ∃ r, ls[i]? = some r := ⟨_, List.getElem?_eq_getElem hil⟩
    obtain ⟨a1, a2⟩ := ha.at1 (g := fun u : U => uv u.1) hu
    obtain ⟨b1, b2⟩ := hb.at1 (g := fun u : U => uv u.1) hu
    simp [t0, t1, t5, la, hd, hd', a1, a2 m' S, b1, b2 m' S, ni]
    exact hk hil _ _ ⟨rfl, by simp [t0], by simp [t1], by simp⟩
  · have hd : ((i : Int) < (ls.length : Int)) = False := eq_false (by omega)
    have hd' : (i < ls.length) = False := eq_false hil
    simp [t0, t1, t5, la, hd, hd']
    exact ret_1 (Ext.refl m') (by simp)
end Go.Sx
