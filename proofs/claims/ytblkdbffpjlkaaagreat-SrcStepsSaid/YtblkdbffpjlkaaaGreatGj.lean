/- Contracts. -/
import Derived.Test.YtblkdbffpjlkaaaGreatGi
set_option linter.unusedVariables false
set_option linter.unusedSimpArgs false
set_option linter.defProp false
/- The reference's run, in plain terms: it is the machine's. -/
namespace Go.Sx
open Go.Dx Go.Proofs
set_option maxRecDepth 10000
section
variable {th : Int} {reads : List U} {acts : List Ac} {a : Ac}
theorem want_ls {s s' : Ms} (h : s.ls = s'.ls) (h2 : s.opn = s'.opn) (h3 : s.opn = true → s.old = s'.old) : wantOf s a = wantOf s' a := by
  unfold wantOf
  rw [h, h2]
  cases hb : s'.opn with
  | false => rfl
  | true => rw [h3 (by rw [h2]; exact hb)]
theorem own_ls {s s' : Ms} (h : s.ls = s'.ls) (h1 : s.at_ = s'.at_) : (ownS s a).at_ = (ownS s' a).at_ ∧ (ownS s a).ls = (ownS s' a).ls := by
  unfold ownS setS jumpS zeroS
  split
  · exact ⟨by show s.at_ + 1 = s'.at_ + 1; rw [h1], by show s.ls.set _ _ = s'.ls.set _ _; rw [h]⟩
  · split
    · exact ⟨rfl, h⟩
    · exact ⟨by show (if _ then _ else s.at_ + 1) = (if _ then _ else s'.at_ + 1); rw [h, h1], h⟩
end
end Go.Sx
/- The reference's run: its steps. -/
namespace Go.Sx
open Go.Dx Go.Proofs
set_option maxRecDepth 10000
section
variable {m0 m m' : M} {g : Gs} {r : Rn} {σ : List (Nat × List Value)} {R T8 T10 T11 : Nat} {st loc : Int} {u : Nat}
theorem RJ.call (h : RJ m0 m g r σ) (e : Ext m m') {B : Nat} {l : List Value} (h1 : m.n ≤ B) (h2 : B < m'.n) (h3 : Arr m' B l) : RJ m0 m' g r ((B, l) :: σ) := by
  have hn := h.st.ext.n
  have h' := h.step e
  refine ⟨(h.st.step e).add (by omega) h2 h3 fun p hp => by have := (h.st.arr p hp).2.1; omega, h'.ge, h'.go, h'.gr, fun X hX p hp => ?_, h.eo, h.or_⟩
  rcases List.mem_cons.1 hp with rfl | hp
  · have := (h.gl X hX).2
    show B ≠ X
    omega
  · exact h.sep X hX p hp
end
/-- the temporaries of the reference's run -/
structure RTr (t : Tm) (th : Int) (rl : Value) (f : Int) (T8 T10 T11 : Nat) : Prop where
  t1 : Tm.get 1 t = iv th
  t2 : Tm.get 2 t = rl
  t3 : Tm.get 3 t = iv f
  t8 : Tm.get 8 t = .pointer (some ⟨T8, 0, none⟩)
  t10 : Tm.get 10 t = .pointer (some ⟨T10, 0, none⟩)
  t11 : Tm.get 11 t = .pointer (some ⟨T11, 0, none⟩)
section
variable {m0 m m' : M} {g : Gs} {r : Rn} {T8 T10 T11 Lb k na : Nat} {cells th f : Int} {rl lv : Value} {t : Th} {i : Nat} {a : Ac} {ls : List U} {c : Nat} {tm : Tm}
abbrev lvS (Lb c k : Nat) : Value := .slice (some ⟨Lb, 0, some c⟩) k k
theorem sv_of (h : Arr m Lb (lsR ls)) (hlt : Lb < m.n) (hl : ls.length = k) : Sv m (lvS Lb c k) ls := by
  refine ⟨?_, rfl⟩
  rw [← lsR_flat] at h
  subst hl
  exact rd_made (f := wordRow) (fun _ => rfl) h hlt
end
end Go.Sx
/- The reference's run: a round. -/
namespace Go.Sx
open Go.Dx Go.Proofs
set_option maxRecDepth 10000
section
variable {m0 m m' : M} {g : Gs} {r : Rn} {T8 T10 T11 Lb k na : Nat} {cells th f : Int} {rl lv : Value} {t : Th} {i : Nat} {a : Ac} {ls : List U} {c : Nat} {tm : Tm}
end
end Go.Sx
/- The reference's run: a round, behind what an act wants. -/
namespace Go.Sx
open Go.Dx Go.Proofs
set_option maxRecDepth 10000
section
variable {m0 m m' : M} {g : Gs} {r : Rn} {T8 T10 T11 Lb k na : Nat} {cells th f : Int} {rl lv : Value} {t : Th} {i : Nat} {a : Ac} {ls : List U} {c : Nat} {tm : Tm}
end
end Go.Sx
/- The reference's run. -/
namespace Go.Sx
open Go.Dx Go.Proofs
set_option maxRecDepth 10000
section
variable {m0 m m' : M} {g : Gs} {r : Rn} {T8 T10 T11 Lb k na : Nat} {cells th f : Int} {rl lv : Value} {t : Th} {i : Nat} {a : Ac} {ls : List U} {c : Nat} {tm : Tm}
end
end Go.Sx
/- The reference's Same: of two programs that are alike it is true. -/
namespace Go.Sx
open Go.Dx Go.Proofs
set_option maxRecDepth 10000
/-- two programs alike: but for where their lists lie -/
structure ThEq (a b : Th) : Prop where
  loc : a.loc = b.loc
  len : a.acts.length = b.acts.length
  acts : ∀ (j : Nat) x, b.acts[j]? = some x → ∃ y, a.acts[j]? = some y ∧ AcEq y x
structure PgEq (p q : Pg) : Prop where
  cells : p.cells = q.cells
  len : p.ths.length = q.ths.length
  ths : ∀ (j : Nat) x, q.ths[j]? = some x → ∃ y, p.ths[j]? = some y ∧ ThEq y x
end Go.Sx
/- The reference's Copy: own blocks, the copies' lists among them, and two slices that grow. -/
namespace Go.Dx
theorem append_clone2 {α : Type} {m : M} (hm : m.base ≤ m.n) {v : Value} {e : Nat} {f : α → List Value} {es : List α} (h : Rd m v e f es) (hf : ∀ x, (f x).length = e) (bytes : Nat) (hb : es.length * bytes ≤ most) (hn : es.length ≤ 4611686018427387904) :
    ∃ B c m', appendV (newRow m []) e bytes (.slice (some ⟨m.n, 0, some (code e true)⟩) 0 0) v = some (.slice (some ⟨B, 0, some c⟩) es.length es.length, m') ∧ Ext m m' ∧ m.n ≤ B ∧ B < m'.n ∧ Arr m' B (es.flatMap f) := by
  by_cases hz : es = []
  · subst hz
    refine ⟨m.n, code e true, newRow m [], ?_, Ext.row m [], Nat.le_refl _, by rw [newRow_n]; omega, Arr.row m []⟩
    have h' := h.sees ((Sees.refl hm).ext (Ext.row m []))
    show ob (lenV v) _ = _
    rw [h.lenV, ob_some']
    show ob (firsts (newRow m []) e ([] : List α).length v) _ = _
    rw [h'.all, ob_some']
    rfl
  · obtain ⟨v', m', h1, h2, h3, h4, h5⟩ := append_clone hm h hf bytes hb hn
    have hv := h5 hz
    subst hv
    obtain ⟨q1, q2⟩ := h4 _ rfl
    exact ⟨_, _, m', h1, h2, q1, h3.lt _ rfl, q2⟩
end Go.Dx
namespace Go.Sx
open Go.Dx Go.Proofs
set_option maxRecDepth 10000
structure CJ (m0 m : M) (g : Value) (ts : List Th) (ga : Value) (xs : List Ac) (σ : List (Nat × List Value)) : Prop where
  st : St m0 m σ
  gt : Grown m0 m g 2 thRow ts
  gs : Grown m0 m ga 11 acRow xs
  sep : ∀ B, (blk g = some B ∨ blk ga = some B) → ∀ p ∈ σ, p.1 ≠ B
  ne : ∀ B, blk g = some B → blk ga ≠ some B
section
variable {m0 m m' : M} {g ga : Value} {ts : List Th} {xs : List Ac} {σ σ' : List (Nat × List Value)}
theorem CJ.gl (h : CJ m0 m g ts ga xs σ) : ∀ B, (blk g = some B ∨ blk ga = some B) → m0.n ≤ B ∧ B < m.n := fun B hB => by
  rcases hB with hB | hB
  · exact grown_low h.gt B hB
  · exact grown_low h.gs B hB
theorem CJ.of (h : CJ m0 m g ts ga xs σ) (hst : St m0 m' σ') (hn : m.n ≤ m'.n) (hk : ∀ B, (blk g = some B ∨ blk ga = some B) → m'.obj B = m.obj B) (hσ : ∀ p ∈ σ', (∃ q ∈ σ, q.1 = p.1) ∨ m.n ≤ p.1) : CJ m0 m' g ts ga xs σ' :=
  ⟨hst, h.gt.keep hn fun B _ hB => hk B (.inl hB), h.gs.keep hn fun B _ hB => hk B (.inr hB), fun B hB p hp => by
    rcases hσ p hp with ⟨q, hq, e⟩ | h'
    · rw [← e]; exact h.sep B hB q hq
    · have := (h.gl B hB).2; omega, h.ne⟩
theorem CJ.step (h : CJ m0 m g ts ga xs σ) (e : Ext m m') : CJ m0 m' g ts ga xs σ := h.of (h.st.step e) e.n (fun B hB => e.obj B (h.gl B hB).2) fun p hp => .inl ⟨p, hp, rfl⟩
theorem CJ.row (h : CJ m0 m g ts ga xs σ) (l : List Value) : CJ m0 (Dx.newRow m l) g ts ga xs ((m.n, l) :: σ) :=
  h.of (h.st.row l) (Ext.row m l).n (fun B hB => (Ext.row m l).obj B (h.gl B hB).2) fun p hp => by
    rcases List.mem_cons.1 hp with rfl | hp
    · exact .inr (Nat.le_refl _)
    · exact .inl ⟨p, hp, rfl⟩
theorem CJ.sub (h : CJ m0 m g ts ga xs σ) (hs : ∀ p ∈ σ', p ∈ σ) (hn : (σ'.map (·.1)).Nodup) : CJ m0 m g ts ga xs σ' :=
  h.of (h.st.sub hs hn) (Nat.le_refl _) (fun _ _ => rfl) fun p hp => .inl ⟨p, hs p hp, rfl⟩
theorem CJ.put (h : CJ m0 m g ts ga xs σ) {i b : Nat} {l l' : List Value} (hi : σ[i]? = some (b, l)) (hst : St m0 m' (σ.set i (b, l'))) (hn : m'.n = m.n) (ho : ∀ X, X ≠ b → m'.obj X = m.obj X) : CJ m0 m' g ts ga xs (σ.set i (b, l')) :=
  h.of hst (by omega) (fun B hB => ho B fun e => h.sep B hB _ (List.mem_of_getElem? hi) e.symm) fun p hp => by
    obtain ⟨q, hq, e⟩ := key_mem hi hp
    exact .inl ⟨q, hq, e⟩
theorem CJ.get (h : CJ m0 m g ts ga xs σ) (i : Nat) {b : Nat} {l : List Value} (hi : σ[i]? = some (b, l)) : Arr m b l := (h.st.get i hi).2.2
theorem CJ.mb (h : CJ m0 m g ts ga xs σ) : m.base ≤ m.n := h.st.sees.self.base
theorem CJ.store (h : CJ m0 m g ts ga xs σ) (k : Nat) {b o : Nat} {l : List Value} {v : Value} (hk : σ[k]? = some (b, l)) (ho : o < l.length) (hv : okC v = true) :
    ∃ m', storeS 1 (.pointer (some ⟨b, o, none⟩)) v m = some (undef, m') ∧ CJ m0 m' g ts ga xs (σ.set k (b, l.set o v)) ∧ m'.n = m.n := by
  obtain ⟨m', h1, h2, h3, h4⟩ := h.st.store k hk ho hv
  exact ⟨m', h1, h.put hk h2 h3 h4, h3⟩
theorem CJ.fill (h : CJ m0 m g ts ga xs σ) (k : Nat) {b : Nat} {l : List Value} (hk : σ[k]? = some (b, l)) {n : Nat} {l' : List Value} (hl : l.length = n) (hl' : l'.length = n) (hv : ∀ v ∈ l', okC v = true) :
    ∃ m', storeS n (.pointer (some ⟨b, 0, none⟩)) (.agg ⟨l'⟩) m = some (undef, m') ∧ CJ m0 m' g ts ga xs (σ.set k (b, l')) ∧ m'.n = m.n := by
  obtain ⟨m', h1, h2, h3, h4⟩ := h.st.fill k hk hl hl' hv
  exact ⟨m', h1, h.put hk h2 h3 h4, h3⟩
theorem CJ.call (h : CJ m0 m g ts ga xs σ) (e : Ext m m') {B : Nat} {l : List Value} (h1 : m.n ≤ B) (h2 : B < m'.n) (h3 : Arr m' B l) : CJ m0 m' g ts ga xs ((B, l) :: σ) := by
  have hn := h.st.ext.n
  have h' := h.step e
  refine ⟨(h.st.step e).add (by omega) h2 h3 fun p hp => by have := (h.st.arr p hp).2.1; omega, h'.gt, h'.gs, fun X hX p hp => ?_, h.ne⟩
  rcases List.mem_cons.1 hp with rfl | hp
  · have := (h.gl X hX).2
    show B ≠ X
    omega
  · exact h.sep X hX p hp
/-- a thread more -/
theorem CJ.appT {x : Th} {v' : Value} (h : CJ m0 m g ts ga xs σ) (hg : Grown m0 m' v' 2 thRow (ts ++ [x])) (hA : Ap m m' g v') : CJ m0 m' v' (ts ++ [x]) ga xs σ := by
  refine ⟨h.st.app hA (fun B hB => (h.gl B (.inl hB)).1) (fun B hB => h.sep B (.inl hB)), hg, h.gs.keep hA.n fun B hB hb => hA.obj B hB fun e => h.ne B e hb, fun B hB p hp => ?_, fun B hB e => ?_⟩
  · rcases hB with hB | hB
    · have := hA.new B hB
      have := (h.st.arr p hp).2.1
      omega
    · exact h.sep B (.inr hB) p hp
  · have := hA.new B hB
    have := (h.gl B (.inr e)).2
    omega
/-- an act more -/
theorem CJ.appA {x : Ac} {v' : Value} (h : CJ m0 m g ts ga xs σ) (hg : Grown m0 m' v' 11 acRow (xs ++ [x])) (hA : Ap m m' ga v') : CJ m0 m' g ts v' (xs ++ [x]) σ := by
  refine ⟨h.st.app hA (fun B hB => (h.gl B (.inr hB)).1) (fun B hB => h.sep B (.inr hB)), h.gt.keep hA.n fun B hB hb => hA.obj B hB fun e => h.ne B hb e, hg, fun B hB p hp => ?_, fun B hB e => ?_⟩
  · rcases hB with hB | hB
    · exact h.sep B (.inl hB) p hp
    · have := hA.new B hB
      have := (h.st.arr p hp).2.1
      omega
  · have := hA.new B e
    have := (h.gl B (.inl hB)).2
    omega
end
/-! a copy's lists among the blocks -/
def NdIn (σ : List (Nat × List Value)) (v : Value) (es : List Nd) : Prop := ∃ B c, v = .slice (some ⟨B, 0, some c⟩) es.length es.length ∧ (B, es.flatMap nodeRow) ∈ σ
structure AcIn (σ : List (Nat × List Value)) (a : Ac) : Prop where
  ix : NdIn σ a.ix a.ixs
  ev : NdIn σ a.ev a.es
  fv : NdIn σ a.fv a.fs
def AsIn (σ : List (Nat × List Value)) (v : Value) (xs : List Ac) : Prop := (xs = [] ∧ v = .slice none 0 0) ∨ ∃ B c, v = .slice (some ⟨B, 0, some c⟩) xs.length xs.length ∧ (B, xs.flatMap acRow) ∈ σ
structure ThIn (σ : List (Nat × List Value)) (t : Th) : Prop where
  av : AsIn σ t.av t.acts
  acts : ∀ a ∈ t.acts, AcIn σ a
section
variable {σ σ' : List (Nat × List Value)} {m0 m : M}
theorem NdIn.sub {v : Value} {es : List Nd} (h : NdIn σ v es) (hs : ∀ p ∈ σ, p ∈ σ') : NdIn σ' v es := let ⟨B, c, h1, h2⟩ := h; ⟨B, c, h1, hs _ h2⟩
theorem AcIn.sub {a : Ac} (h : AcIn σ a) (hs : ∀ p ∈ σ, p ∈ σ') : AcIn σ' a := ⟨h.ix.sub hs, h.ev.sub hs, h.fv.sub hs⟩
theorem AsIn.sub {v : Value} {xs : List Ac} (h : AsIn σ v xs) (hs : ∀ p ∈ σ, p ∈ σ') : AsIn σ' v xs := by
  rcases h with h | ⟨B, c, h1, h2⟩
  · exact .inl h
  · exact .inr ⟨B, c, h1, hs _ h2⟩
theorem ThIn.sub {t : Th} (h : ThIn σ t) (hs : ∀ p ∈ σ, p ∈ σ') : ThIn σ' t := ⟨h.av.sub hs, fun a ha => (h.acts a ha).sub hs⟩
theorem NdIn.rd {v : Value} {es : List Nd} (h : NdIn σ v es) (hst : St m0 m σ) : Rd m v 4 nodeRow es := by
  obtain ⟨B, c, rfl, h2⟩ := h
  obtain ⟨_, h3, h4⟩ := hst.arr _ h2
  exact rd_made (f := nodeRow) (fun _ => rfl) h4 h3
theorem AsIn.rd {v : Value} {xs : List Ac} (h : AsIn σ v xs) (hst : St m0 m σ) : Rd m v 11 acRow xs := by
  rcases h with ⟨rfl, rfl⟩ | ⟨B, c, rfl, h2⟩
  · exact ⟨rfl, fun i r hr => by simp at hr, rfl, fun B hB => by cases hB⟩
  · obtain ⟨_, h3, h4⟩ := hst.arr _ h2
    exact rd_made (f := acRow) (fun _ => rfl) h4 h3
end
theorem bs_ac (a : Ac) (m : M) : bsliceS 11 1 (rep 1 Z11) [(0, 11, .agg ⟨acRow a⟩)] m = some (Value.slice (some ⟨m.n, 0, some 23⟩) 1 1, Dx.newRow m (acRow a)) := rfl
theorem bs_th (t : Th) (m : M) : bsliceS 2 1 (rep 1 [.int .i64 0, .slice none 0 0]) [(0, 2, .agg ⟨thRow t⟩)] m = some (Value.slice (some ⟨m.n, 0, some 5⟩) 1 1, Dx.newRow m (thRow t)) := rfl
theorem bs_nd (m : M) : bsliceS 4 0 (rep 0 [.int .i64 0, .int .u64 0, .int .i64 0, .int .i64 0]) [] m = some (Value.slice (some ⟨m.n, 0, some (code 4 true)⟩) 0 0, Dx.newRow m []) := rfl
theorem b_pg (c : Int) : buildV [.int .i64 0, .slice none 0 0] [(0, 1, .int .i64 c)] = some (.agg ⟨[.int .i64 c, .slice none 0 0]⟩) := rfl
end Go.Sx
/- The reference's Copy. -/
namespace Go.Dx
theorem Grown.congr {α : Type} {m0 m : M} {v : Value} {e : Nat} {f f' : α → List Value} {es : List α} (h : Grown m0 m v e f es) (hf : ∀ y ∈ es, f y = f' y) : Grown m0 m v e f' es := by
  have hfl : es.flatMap f = es.flatMap f' := by rw [List.flatMap_def, List.flatMap_def, List.map_congr_left hf]
  rcases h with h | ⟨B, h1, h2, h3, h4, h5⟩
  · exact .inl h
  · exact .inr ⟨B, h1, h2, h3, h4, hfl ▸ h5⟩
open Classical in
theorem grow_some {α : Type} {m0 m : M} {v : Value} {e : Nat} {f : α → List Value} {es : List α} (h : Grown m0 m v e f es) (he : 0 < e) (hf : ∀ x, (f x).length = e) {x : α} (hok : ∀ y ∈ es ++ [x], ∀ v ∈ f y, okC v = true) {X : Nat} {sp : Option Nat}
    (hx : loads m ⟨X, 0, sp⟩ e = some (f x)) (h0 : m0.n ≤ m.n) {bytes : Nat} (hm : (es.length + 1) * bytes ≤ most) (hn : es.length + 1 ≤ 4611686018427387904) :
    ∃ v' m', appendV m e bytes v (.slice (some ⟨X, 0, sp⟩) 1 1) = some (v', m') ∧ Grown m0 m' v' e f (es ++ [x]) ∧ Ap m m' v v' := by
  obtain ⟨f', hf'⟩ : ∃ f' : α → List Value, f' = fun y => if (∀ v ∈ f y, okC v = true) then f y else List.replicate e (.bool false) := ⟨_, rfl⟩
  have hy : ∀ y ∈ es ++ [x], f y = f' y := fun y hy => by rw [hf']; simp only; rw [if_pos (hok y hy)]
  have h1 := h.congr (f' := f') fun y hy' => hy y (List.mem_append_left _ hy')
  have hx' : loads m ⟨X, 0, sp⟩ e = some (f' x) := by rw [← hy x (by simp)]; exact hx
  obtain ⟨v', m', a1, a2, a3⟩ := grow_n h1 he (fun y => by
    rw [hf']; simp only; split
    · exact hf y
    · simp) (fun y u hu => by
    rw [hf'] at hu; simp only at hu; split at hu
    · rename_i hh; exact hh u hu
    · rw [List.mem_replicate] at hu; rw [hu.2]; rfl) hx' h0 hm hn
  exact ⟨v', m', a1, a2.congr fun y hy' => (hy y hy').symm, a3⟩
end Go.Dx
namespace Go.Sx
open Go.Dx Go.Proofs
set_option maxRecDepth 10000
theorem CJ.mid {m0 m : M} {g ga : Value} {ts : List Th} {xs : List Ac} {x : Nat × List Value} {l D : List (Nat × List Value)} (h : CJ m0 m g ts ga xs (x :: (l ++ D))) : CJ m0 m g ts ga xs (l ++ x :: D) := by
  have hp : (l ++ x :: D).Perm (x :: (l ++ D)) := List.perm_middle
  exact h.sub (fun p hp' => hp.mem_iff.1 hp') ((hp.map (·.1)).nodup_iff.2 h.st.nd)
theorem CJ.clone {m0 m : M} {g ga : Value} {ts : List Th} {xs : List Ac} {l D : List (Nat × List Value)} (h : CJ m0 m g ts ga xs (l ++ D)) {v : Value} {es : List Nd} (hv : Rd m v 4 nodeRow es) (hsz : es.length * 32 ≤ most) :
    ∃ B c m', appendV (Dx.newRow m []) 4 32 (.slice (some ⟨m.n, 0, some (code 4 true)⟩) 0 0) v = some (.slice (some ⟨B, 0, some c⟩) es.length es.length, m') ∧ CJ m0 m' g ts ga xs (l ++ (B, es.flatMap nodeRow) :: D) := by
  obtain ⟨B, c, m', h1, h2, h3, h4, h5⟩ := append_clone2 h.mb hv (fun _ => rfl) 32 hsz (by unfold most at hsz; omega)
  exact ⟨B, c, m', h1, (h.call h2 h3 h4 h5).mid⟩
structure CT (t : Tm) (T1 T2 T3 T5 i j : Nat) : Prop where
  t1 : Tm.get 1 t = .pointer (some ⟨T1, 0, none⟩)
  t2 : Tm.get 2 t = .pointer (some ⟨T2, 0, none⟩)
  t3 : Tm.get 3 t = .pointer (some ⟨T3, 0, none⟩)
  t4 : Tm.get 4 t = iv i
  t5 : Tm.get 5 t = .pointer (some ⟨T5, 0, none⟩)
  t6 : Tm.get 6 t = iv j
abbrev cS (T5 T3 T2 T1 : Nat) (loc cells : Int) (ga g tv : Value) : List (Nat × List Value) := [(T5, [iv loc, ga]), (T3, [iv cells, g]), (T2, [.int .i64 0, .slice none 0 0]), (T1, [iv cells, tv])]
section
variable {m0 m : M} {g ga tv : Value} {ts ths : List Th} {xs : List Ac} {T1 T2 T3 T5 i j : Nat} {loc cells : Int} {D : List (Nat × List Value)} {tm : Tm}
theorem copy_act {th : Th} {a : Ac} (hm0 : m0.base ≤ m0.n) (htv : Rd m0 tv 2 thRow ths) (hth : ths[i]? = some th) (hav : Rd m0 th.av 11 acRow th.acts) (ha : th.acts[j]? = some a) (hok : AcOK m0 a)
    (hs1 : a.ixs.length * 32 ≤ most) (hs2 : a.es.length * 32 ≤ most) (hs3 : a.fs.length * 32 ≤ most) (hs4 : (xs.length + 1) * 136 ≤ most) (hxs : ∀ y ∈ xs, ∀ v ∈ acRow y, okC v = true)
    (h : CJ m0 m g ts ga xs (cS T5 T3 T2 T1 loc cells ga g tv ++ D)) (hT : CT tm T1 T2 T3 T5 i j) {x : Ex} {kn kr : K} {ke : Nat → K} {Q : Option Out → Prop}
    (H : ∀ t' m' ga' a' D', CT t' T1 T2 T3 T5 i j → CJ m0 m' g ts ga' (xs ++ [a']) (cS T5 T3 T2 T1 loc cells ga' g tv ++ D') → (∀ p ∈ D, p ∈ D') → AcIn D' a' → AcEq a' a → (∀ v ∈ acRow a', okC v = true) → Q (kn t' m')) : Q (ca1_8 x kn ke kr tm m) := by
  obtain ⟨t1, t2, t3, t4, t5, t6⟩ := hT
  have S := h.st.sees
  have lp : ∀ o s, load1 m ⟨T1, o, s⟩ = [iv cells, tv][o]? := fun o s => (h.get 3 rfl).load1 o s
  obtain ⟨x1, x2, x3⟩ := htv.at hth
  have xa : ∀ s, load1 m ⟨(adr 2 tv i).block, (adr 2 tv i).off + 1, s⟩ = some th.av := fun s => x3 m 1 s S (by simp [thRow])
  obtain ⟨y1, y2, y3⟩ := hav.at ha
  have y2' := y2 m S
  have h1 := h.row Z11
  obtain ⟨m1, hm1⟩ : ∃ m1, m1 = Dx.newRow m Z11 := ⟨_, rfl⟩
  rw [← hm1] at h1
  obtain ⟨m2, f1, f2, f3⟩ := h1.fill 0 rfl (n := 11) (l' := acRow a) rfl rfl (acRow_ok hok)
  have h2 : CJ m0 m2 g ts ga xs (((m.n, acRow a) :: cS T5 T3 T2 T1 loc cells ga g tv) ++ D) := f2
  -- the first list
  have r2 : ∀ o s, load1 (Dx.newRow m2 []) ⟨m.n, o, s⟩ = (acRow a)[o]? := fun o s => (((h2.step (Ext.row m2 [])).get 0 rfl)).load1 o s
  obtain ⟨B1, c1, m3, a1, h3⟩ := h2.clone (hok.ix.sees h2.st.sees) hs1
  obtain ⟨v1, hv1⟩ : ∃ v1 : Value, v1 = .slice (some ⟨B1, 0, some c1⟩) a.ixs.length a.ixs.length := ⟨_, rfl⟩
  rw [← hv1] at a1
  have bs2 := bs_nd m2
  obtain ⟨n2, hn2⟩ : ∃ n2, n2 = Dx.newRow m2 [] := ⟨_, rfl⟩
  rw [← hn2] at bs2 a1 r2
  obtain ⟨m4, s1, s2, s3⟩ := h3.store 0 rfl (o := 4) (v := v1) (by simp [acRow]) (by rw [hv1]; rfl)
  have h4 : CJ m0 m4 g ts ga xs (((m.n, acRow { a with ix := v1 }) :: cS T5 T3 T2 T1 loc cells ga g tv) ++ (B1, a.ixs.flatMap nodeRow) :: D) := s2
  -- the second
  have r4 : ∀ o s, load1 (Dx.newRow m4 []) ⟨m.n, o, s⟩ = (acRow { a with ix := v1 })[o]? := fun o s => (((h4.step (Ext.row m4 [])).get 0 rfl)).load1 o s
  obtain ⟨B2, c2, m5, a2, h5⟩ := h4.clone (hok.ev.sees h4.st.sees) hs2
  obtain ⟨v2, hv2⟩ : ∃ v2 : Value, v2 = .slice (some ⟨B2, 0, some c2⟩) a.es.length a.es.length := ⟨_, rfl⟩
  rw [← hv2] at a2
  have bs4 := bs_nd m4
  obtain ⟨n4, hn4⟩ : ∃ n4, n4 = Dx.newRow m4 [] := ⟨_, rfl⟩
  rw [← hn4] at bs4 a2 r4
  obtain ⟨m6, u1, u2, u3⟩ := h5.store 0 rfl (o := 5) (v := v2) (by simp [acRow]) (by rw [hv2]; rfl)
  have h6 : CJ m0 m6 g ts ga xs (((m.n, acRow { a with ix := v1, ev := v2 }) :: cS T5 T3 T2 T1 loc cells ga g tv) ++ (B2, a.es.flatMap nodeRow) :: (B1, a.ixs.flatMap nodeRow) :: D) := u2
  -- the third
  have r6 : ∀ o s, load1 (Dx.newRow m6 []) ⟨m.n, o, s⟩ = (acRow { a with ix := v1, ev := v2 })[o]? := fun o s => (((h6.step (Ext.row m6 [])).get 0 rfl)).load1 o s
  obtain ⟨B3, c3, m7, a3, h7⟩ := h6.clone (hok.fv.sees h6.st.sees) hs3
  obtain ⟨v3, hv3⟩ : ∃ v3 : Value, v3 = .slice (some ⟨B3, 0, some c3⟩) a.fs.length a.fs.length := ⟨_, rfl⟩
  rw [← hv3] at a3
  have bs6 := bs_nd m6
  obtain ⟨n6, hn6⟩ : ∃ n6, n6 = Dx.newRow m6 [] := ⟨_, rfl⟩
  rw [← hn6] at bs6 a3 r6
  obtain ⟨m8, w1, w2, w3⟩ := h7.store 0 rfl (o := 6) (v := v3) (by simp [acRow]) (by rw [hv3]; rfl)
  obtain ⟨a', ha'⟩ : ∃ a' : Ac, a' = { a with ix := v1, ev := v2, fv := v3 } := ⟨_, rfl⟩
  have h8 : CJ m0 m8 g ts ga xs (((m.n, acRow a') :: cS T5 T3 T2 T1 loc cells ga g tv) ++ (B3, a.fs.flatMap nodeRow) :: (B2, a.es.flatMap nodeRow) :: (B1, a.ixs.flatMap nodeRow) :: D) := by rw [ha']; exact w2
  -- the act
  have l8 : ∀ o s, load1 m8 ⟨T5, o, s⟩ = [iv loc, ga][o]? := fun o s => (h8.get 1 rfl).load1 o s
  have l8n : loads m8 ⟨m.n, 0, none⟩ 11 = some (acRow a') := (h8.get 0 rfl).loads (n := 11) (by simp [acRow])
  have bs8 := bs_ac a' m8
  have E9 : Ext m8 (Dx.newRow m8 (acRow a')) := Ext.row _ _
  have h9 := h8.step E9
  have hoka' : ∀ v ∈ acRow a', okC v = true := by
    rw [ha', hv1, hv2, hv3]; simp [acRow, okC]
  obtain ⟨m9, hm9⟩ : ∃ m9, m9 = Dx.newRow m8 (acRow a') := ⟨_, rfl⟩
  have hl9 : loads m9 ⟨m8.n, 0, some 23⟩ 11 = some (acRow a') := by rw [hm9]; exact (Arr.row m8 _).loads (n := 11) (by simp [acRow])
  rw [← hm9] at bs8 h9 E9
  have core := h9.gs
  have hgrow : ∃ v' m', appendV m9 11 136 ga (.slice (some ⟨m8.n, 0, some 23⟩) 1 1) = some (v', m') ∧ Grown m0 m' v' 11 acRow (xs ++ [a']) ∧ Ap m9 m' ga v' :=
    grow_some h9.gs (by omega) acRow_len (fun y hy => by
      rcases List.mem_append.1 hy with hy | hy
      · exact hxs y hy
      · rw [List.mem_singleton.1 hy]; exact hoka') hl9 h9.st.ext.n hs4 (by unfold most at hs4; omega)
  obtain ⟨ga', m10, p1, p2, p3⟩ := hgrow
  have h10 := h9.appA p2 p3
  obtain ⟨m11, q1, q2, q3⟩ := h10.store 1 rfl (o := 1) (v := ga') (by simp) h10.gs.okC
  have h11 : CJ m0 m11 g ts ga' (xs ++ [a']) (((m.n, acRow a') :: cS T5 T3 T2 T1 loc cells ga' g tv) ++ (B3, a.fs.flatMap nodeRow) :: (B2, a.es.flatMap nodeRow) :: (B1, a.ixs.flatMap nodeRow) :: D) := q2
  have h12 := h11.sub (σ' := cS T5 T3 T2 T1 loc cells ga' g tv ++ (B3, a.fs.flatMap nodeRow) :: (B2, a.es.flatMap nodeRow) :: (B1, a.ixs.flatMap nodeRow) :: D) (fun p hp => List.mem_cons_of_mem _ hp) (by have := h11.st.nd; simp only [List.cons_append, List.map_cons, List.nodup_cons] at this ⊢; exact this.2)
  simp only [acRow] at y2' f1 r2 r4 r6
  rw [ha'] at l8n bs8
  simp only [acRow] at l8n bs8
  simp [t1, t4, t5, t6, lp, x1, xa, y1, y2', loadNS_ptr, ← hm1, f1, bs2, ← hn2, r2, a1, s1, bs4, ← hn4, r4, a2, u1, bs6, ← hn6, r6, a3, w1, l8, l8n, bs8, ← hm9, p1, q1]
  refine H _ _ ga' a' _ ⟨by simp [t1], by simp [t2], by simp [t3], by simp [t4], by simp [t5], by simp [t6]⟩ h12 (fun p hp => List.mem_cons_of_mem _ (List.mem_cons_of_mem _ (List.mem_cons_of_mem _ hp))) ?_ ⟨v1, v2, v3, ha'⟩ hoka'
  rw [ha']
  exact ⟨⟨B1, c1, hv1, by simp⟩, ⟨B2, c2, hv2, by simp⟩, ⟨B3, c3, hv3, by simp⟩⟩
end
end Go.Sx
/- The reference's Copy: its loops. -/
namespace Go.Sx
open Go.Dx Go.Proofs
set_option maxRecDepth 10000
structure AcSz (a : Ac) : Prop where
  ix : a.ixs.length * 32 ≤ most
  ev : a.es.length * 32 ≤ most
  fv : a.fs.length * 32 ≤ most
structure PgSz (p : Pg) : Prop where
  len : p.ths.length * 32 ≤ most
  ths : ∀ t ∈ p.ths, t.acts.length * 136 ≤ most ∧ ∀ a ∈ t.acts, AcSz a
/-- a program among the blocks -/
structure PgIn (D : List (Nat × List Value)) (p : Pg) : Prop where
  tv : (p.ths = [] ∧ p.tv = .slice none 0 0) ∨ ∃ B c, p.tv = .slice (some ⟨B, 0, some c⟩) p.ths.length p.ths.length ∧ (B, p.ths.flatMap thRow) ∈ D
  ths : ∀ t ∈ p.ths, ThIn D t
theorem ac_eq_len {a b : Ac} (h : AcEq a b) : a.ixs = b.ixs ∧ a.es = b.es ∧ a.fs = b.fs := by obtain ⟨x, y, z, rfl⟩ := h; exact ⟨rfl, rfl, rfl⟩
theorem th_ok {m0 m : M} {D : List (Nat × List Value)} (hst : St m0 m D) {t u : Th} (h : ThIn D t) (he : ThEq t u) {m1 : M} (hu : ThOK m1 u) : ThOK m t := by
  refine ⟨h.av.rd hst, fun a ha => ?_, by rw [he.len]; exact hu.len⟩
  have hi := h.acts a ha
  obtain ⟨j, hj⟩ := List.getElem?_of_mem ha
  have hjl := (List.getElem?_eq_some_iff.1 hj).1
  obtain ⟨b, hb⟩ : ∃ b, u.acts[j]? = some b := ⟨_, List.getElem?_eq_getElem (by rw [← he.len]; exact hjl)⟩
  obtain ⟨y, h1, h2⟩ := he.acts j b hb
  rw [hj] at h1; cases h1
  obtain ⟨e1, e2, e3⟩ := ac_eq_len h2
  have hbk := hu.acts b (List.mem_of_getElem? hb)
  exact ⟨hi.ix.rd hst, hi.ev.rd hst, hi.fv.rd hst, by rw [e1]; exact hbk.ixl, by rw [e2]; exact hbk.evl, by rw [e3]; exact hbk.fvl⟩
theorem pg_ok {m0 m : M} {D : List (Nat × List Value)} (hst : St m0 m D) {p q : Pg} (h : PgIn D p) (he : PgEq p q) {m1 : M} (hq : PgOK m1 q) : PgOK m p := by
  refine ⟨?_, fun t ht => ?_, by rw [he.len]; exact hq.len⟩
  · rcases h.tv with ⟨h1, h2⟩ | ⟨B, c, h1, h2⟩
    · rw [h1, h2]; exact ⟨rfl, fun i r hr => by simp at hr, rfl, fun B hB => by cases hB⟩
    · rw [h1]
      obtain ⟨_, h3, h4⟩ := hst.arr _ h2
      exact rd_made (f := thRow) (fun _ => rfl) h4 h3
  · obtain ⟨j, hj⟩ := List.getElem?_of_mem ht
    have hjl := (List.getElem?_eq_some_iff.1 hj).1
    obtain ⟨u, hu⟩ : ∃ b, q.ths[j]? = some b := ⟨_, List.getElem?_eq_getElem (by rw [← he.len]; exact hjl)⟩
    obtain ⟨y, h1, h2⟩ := he.ths j u hu
    rw [hj] at h1; cases h1
    exact th_ok hst (h.ths t ht) h2 (hq.ths u (List.mem_of_getElem? hu))
theorem CJ.close {m0 m : M} {g ga : Value} {ts : List Th} {xs : List Ac} {l D : List (Nat × List Value)} (h : CJ m0 m g ts ga xs (l ++ D)) : ∃ D', CJ m0 m g ts (.slice none 0 0) [] (l ++ D') ∧ AsIn D' ga xs ∧ ∀ p ∈ D, p ∈ D' := by
  rcases h.gs with ⟨h1, h2⟩ | ⟨B, h1, h2, h3, h4, h5⟩
  · subst h1; subst h2
    exact ⟨D, h, .inl ⟨rfl, rfl⟩, fun p hp => hp⟩
  · have hB : blk ga = some B := by rw [h4]; rfl
    have hs := h.st.add h1 h2 h5 (fun p hp => h.sep B (.inr hB) p hp)
    have h' : CJ m0 m g ts (.slice none 0 0) [] ((B, xs.flatMap acRow) :: (l ++ D)) := by
      refine ⟨hs, h.gt, .nil, fun X hX p hp => ?_, fun X hX e => by cases e⟩
      rcases hX with hX | hX
      · rcases List.mem_cons.1 hp with rfl | hp
        · show B ≠ X
          intro e; subst e; exact h.ne B hX hB
        · exact h.sep X (.inl hX) p hp
      · cases hX
    exact ⟨_, h'.mid, .inr ⟨B, _, h4, by simp⟩, fun p hp => List.mem_cons_of_mem _ hp⟩
section
variable {m0 m : M} {g tv : Value} {ts ths : List Th} {T1 T2 T3 T5 i : Nat} {loc cells : Int} {D : List (Nat × List Value)} {tm : Tm}
/-- a thread's acts -/
theorem copy_acts {th : Th} (hm0 : m0.base ≤ m0.n) (htv : Rd m0 tv 2 thRow ths) (hth : ths[i]? = some th) (hok : ThOK m0 th) (hsz : th.acts.length * 136 ≤ most ∧ ∀ a ∈ th.acts, AcSz a)
    (h : CJ m0 m g ts (.slice none 0 0) [] (cS T5 T3 T2 T1 loc cells (.slice none 0 0) g tv ++ D)) (hT : CT tm T1 T2 T3 T5 i 0) {x : Ex} {kn kr : K} {ke : Nat → K} {Q : Option Out → Prop}
    (H : ∀ t' m' ga xs D', Tm.get 1 t' = .pointer (some ⟨T1, 0, none⟩) → Tm.get 2 t' = .pointer (some ⟨T2, 0, none⟩) → Tm.get 3 t' = .pointer (some ⟨T3, 0, none⟩) → Tm.get 4 t' = iv i → Tm.get 5 t' = .pointer (some ⟨T5, 0, none⟩) →
      CJ m0 m' g ts ga xs (cS T5 T3 T2 T1 loc cells ga g tv ++ D') → (∀ p ∈ D, p ∈ D') → xs.length = th.acts.length → (∀ (q : Nat) y, th.acts[q]? = some y → ∃ z, xs[q]? = some z ∧ AcEq z y) → (∀ a ∈ xs, AcIn D' a) → Q (kn t' m')) : Q (ca1_13 x kn ke kr tm m) := by
  obtain ⟨na, hna⟩ : ∃ n, n = th.acts.length := ⟨_, rfl⟩
  have hal : lenS th.av = some (.int .i64 (na : Int)) := by rw [hna]; exact hok.av.len
  have hnal : na ≤ 9223372036854775807 := by rw [hna]; exact hok.len
  simp
  refine loop_run (c := ca1_12) rfl Q (fun j t m' => ∃ ga xs D', CT t T1 T2 T3 T5 i j ∧ CJ m0 m' g ts ga xs (cS T5 T3 T2 T1 loc cells ga g tv ++ D') ∧ (∀ p ∈ D, p ∈ D') ∧ xs.length = j ∧ (∀ (q : Nat) y, q < j → th.acts[q]? = some y → ∃ z, xs[q]? = some z ∧ AcEq z y) ∧ (∀ a ∈ xs, AcIn D' a) ∧ ∀ a ∈ xs, ∀ v ∈ acRow a, okC v = true) na hnal
    ⟨_, [], D, hT, h, fun p hp => hp, rfl, fun q y hq => absurd hq (Nat.not_lt_zero _), by simp, by simp⟩ (fun j t m' k' hj hI hk' => ?_)
  obtain ⟨ga, xs, D', hT, hC, hD, hl, he, hin, hok2⟩ := hI
  have ⟨t1, t2, t3, t4, t5, t6⟩ := hT
  have S := hC.st.sees
  have lp : ∀ o s, load1 m' ⟨T1, o, s⟩ = [iv cells, tv][o]? := fun o s => (hC.get 3 rfl).load1 o s
  obtain ⟨x1, x2, x3⟩ := htv.at hth
  have xa : ∀ s, load1 m' ⟨(adr 2 tv i).block, (adr 2 tv i).off + 1, s⟩ = some th.av := fun s => x3 m' 1 s S (by simp [thRow])
  by_cases hjl : j < na
  · have hd := dlt hjl
    have hd' : (j < na) = True := eq_true hjl
    have nj := nextI (i := j) (by omega)
    obtain ⟨a, ha⟩ : ∃ a, th.acts[j]? = some a := ⟨_, List.getElem?_eq_getElem (by omega)⟩
    have hmem := List.mem_of_getElem? ha
    have hs := hsz.2 a hmem
    simp [t1, t4, t6, lp, x1, xa, hal, hd, hd', -ca1_8_ap]
    refine copy_act (th := th) hm0 htv hth hok.av ha (hok.acts a hmem) hs.ix hs.ev hs.fv (by rw [hl]; have := Nat.mul_le_mul_right 136 (show j + 1 ≤ th.acts.length by omega); omega) hok2 hC ⟨by simp [t1], by simp [t2], by simp [t3], by simp [t4], by simp [t5], by simp [t6]⟩ (fun t' m2 ga' a' D2 hT' hC' hD2 hin' heq' hok' => ?_)
    have ⟨t1, t2, t3, t4, t5, t6⟩ := hT'
    simp [t6, nj]
    refine hk' hjl _ _ ⟨ga', xs ++ [a'], D2, ⟨by simp [t1], by simp [t2], by simp [t3], by simp [t4], by simp [t5], by simp⟩, hC', fun p hp => hD2 p (hD p hp), by simp [hl], fun q y hq hy => ?_, fun b hb => ?_, fun b hb => ?_⟩
    · by_cases hqj : q < j
      · obtain ⟨z, h1, h2⟩ := he q y hqj hy
        exact ⟨z, by rw [List.getElem?_append_left (by omega)]; exact h1, h2⟩
      · obtain rfl : q = j := by omega
        rw [ha] at hy; cases hy
        exact ⟨a', by rw [List.getElem?_append_right (by omega)]; simp [hl], heq'⟩
    · rcases List.mem_append.1 hb with hb | hb
      · exact (hin b hb).sub hD2
      · rw [List.mem_singleton.1 hb]; exact hin'
    · rcases List.mem_append.1 hb with hb | hb
      · exact hok2 b hb
      · rw [List.mem_singleton.1 hb]; exact hok'
  · obtain rfl : j = na := by omega
    have hd : ((j : Int) < (j : Int)) = False := eq_false (by omega)
    simp [t1, t4, t6, lp, x1, xa, hal, hd]
    exact H _ _ ga xs D' (by simp [t1]) (by simp [t2]) (by simp [t3]) (by simp [t4]) (by simp [t5]) hC hD (by omega) (fun q y hy => he q y (by have := (List.getElem?_eq_some_iff.1 hy).1; omega) hy) hin
end
theorem Copy_c (p : Pg) (hsz : PgSz p) (N : Nat) (m : M) (hm : m.base ≤ m.n) (hp : PgOK m p) :
    Dx.Call (ex Tryz.prog (N + 1)) 6 [pgV p] m fun v m' => ∃ p' D, v = pgV p' ∧ PgEq p' p ∧ PgIn D p' ∧ St m m' D := by
  refine call_ret da1_ok (by simp) ?_
  obtain ⟨cells, tv, ths⟩ := p
  have st1 := (St.nil hm (Ext.refl m)).row [iv cells, tv]
  obtain ⟨m1, hm1⟩ : ∃ m1, m1 = Dx.newRow m [iv cells, tv] := ⟨_, rfl⟩
  rw [← hm1] at st1
  have st2 := st1.row [.int .i64 0, .slice none 0 0]
  obtain ⟨m2, hm2⟩ : ∃ m2, m2 = Dx.newRow m1 [.int .i64 0, .slice none 0 0] := ⟨_, rfl⟩
  rw [← hm2] at st2
  have l2 : ∀ o s, load1 m2 ⟨m.n, o, s⟩ = [iv cells, tv][o]? := fun o s => (st2.get 1 rfl).2.2.load1 o s
  have st3 := st2.row [.int .i64 0, .slice none 0 0]
  obtain ⟨m3, hm3⟩ : ∃ m3, m3 = Dx.newRow m2 [.int .i64 0, .slice none 0 0] := ⟨_, rfl⟩
  rw [← hm3] at st3
  obtain ⟨m4, f1, f2, f3, f4⟩ := st3.fill 0 rfl (n := 2) (l' := [iv cells, .slice none 0 0]) rfl rfl (by simp [okC])
  have st4 : St m m4 [(m2.n, [iv cells, .slice none 0 0]), (m1.n, [.int .i64 0, .slice none 0 0]), (m.n, [iv cells, tv])] := f2
  obtain ⟨n, hn⟩ : ∃ n, n = ths.length := ⟨_, rfl⟩
  have hll : lenS tv = some (.int .i64 (n : Int)) := by rw [hn]; exact hp.tv.len
  have hnl : n ≤ 9223372036854775807 := by rw [hn]; exact hp.len
  have hsl : ths.length * 32 ≤ most := hsz.len
  have htv : Rd m tv 2 thRow ths := hp.tv
  obtain ⟨g0, hg0⟩ : ∃ g0 : Value, g0 = .slice none 0 0 := ⟨_, rfl⟩
  have C4 : CJ m m4 (.slice none 0 0) [] (.slice none 0 0) [] [(m2.n, [iv cells, .slice none 0 0]), (m1.n, [.int .i64 0, .slice none 0 0]), (m.n, [iv cells, tv])] := by
    refine ⟨st4, .nil, .nil, fun B hB => ?_, fun B hB => by cases hB⟩
    rcases hB with hB | hB <;> cases hB
  unfold pgV
  simp [← hm1, ← hm2, l2, b_pg, ← hm3, f1]
  refine loop_run (c := ca1_20) rfl (Ret m _) (fun i t m' => ∃ g ts D, CJ m m' g ts (.slice none 0 0) [] ([(m2.n, [iv cells, g]), (m1.n, [.int .i64 0, .slice none 0 0]), (m.n, [iv cells, tv])] ++ D) ∧ ts.length = i ∧ (∀ (j : Nat) x, j < i → ths[j]? = some x → ∃ y, ts[j]? = some y ∧ ThEq y x) ∧ (∀ t ∈ ts, ThIn D t) ∧ (∀ t ∈ ts, ∀ v ∈ thRow t, okC v = true) ∧
      Tm.get 1 t = .pointer (some ⟨m.n, 0, none⟩) ∧ Tm.get 2 t = .pointer (some ⟨m1.n, 0, none⟩) ∧ Tm.get 3 t = .pointer (some ⟨m2.n, 0, none⟩) ∧ Tm.get 4 t = iv i) n hnl
    ⟨_, [], [], C4, rfl, fun j x hj => absurd hj (Nat.not_lt_zero _), by simp, by simp, by simp, by simp, by simp, by simp⟩ (fun i t m' k' hi hI hk' => ?_)
  obtain ⟨g, ts, D, hC, hl, he, hin, hokt, t1, t2, t3, t4⟩ := hI
  have S := hC.st.sees
  have lp : ∀ o s, load1 m' ⟨m.n, o, s⟩ = [iv cells, tv][o]? := fun o s => (hC.get 2 rfl).load1 o s
  by_cases hil : i < n
  · have hd := dlt hil
    have hd' : (i < n) = True := eq_true hil
    have ni := nextI (i := i) (by omega)
    obtain ⟨th, hth⟩ : ∃ r, ths[i]? = some r := ⟨_, List.getElem?_eq_getElem (by omega)⟩
    have hmem := List.mem_of_getElem? hth
    obtain ⟨x1, x2, x3⟩ := htv.at hth
    have xl : ∀ s, load1 m' ⟨(adr 2 tv i).block, (adr 2 tv i).off, s⟩ = some (iv th.loc) := fun s => x3 m' 0 s S (by simp [thRow])
    have c1 := hC.row [.int .i64 0, .slice none 0 0]
    obtain ⟨m5, hm5⟩ : ∃ m5, m5 = Dx.newRow m' [.int .i64 0, .slice none 0 0] := ⟨_, rfl⟩
    rw [← hm5] at c1
    obtain ⟨m6, g1, g2, g3⟩ := c1.fill 0 rfl (n := 2) (l' := [iv th.loc, .slice none 0 0]) rfl rfl (by simp [okC])
    have C6 : CJ m m6 g ts (.slice none 0 0) [] (cS m'.n m2.n m1.n m.n th.loc cells (.slice none 0 0) g tv ++ D) := g2
    simp [t1, t4, lp, hll, hd, hd', x1, xl, b_pg, ← hm5, g1, -ca1_13_ap]
    refine copy_acts (th := th) hm htv hth (hp.ths th hmem) (hsz.ths th hmem) C6 ⟨by simp [t1], by simp [t2], by simp [t3], by simp [t4], by simp, by simp⟩ (fun t' m7 ga xs D' t1 t2 t3 t4 t5 hC7 hD hxl hxe hxin => ?_)
    obtain ⟨D2, hC8, has, hD2⟩ := hC7.close
    have l3 : ∀ o s, load1 m7 ⟨m2.n, o, s⟩ = [iv cells, g][o]? := fun o s => (hC7.get 1 rfl).load1 o s
    have l5 : loads m7 ⟨m'.n, 0, none⟩ 2 = some [iv th.loc, ga] := (hC7.get 0 rfl).loads (n := 2) (by simp)
    have okga : okC ga = true := hC7.gs.okC
    obtain ⟨nt, hnt⟩ : ∃ nt : Th, nt = ⟨th.loc, ga, xs⟩ := ⟨_, rfl⟩
    have hnr : thRow nt = [iv th.loc, ga] := by rw [hnt]; rfl
    have bs := bs_th nt m7
    have C9 := hC8.step (Ext.row m7 (thRow nt))
    obtain ⟨m8, hm8⟩ : ∃ m8, m8 = Dx.newRow m7 (thRow nt) := ⟨_, rfl⟩
    have hl8 : loads m8 ⟨m7.n, 0, some 5⟩ 2 = some (thRow nt) := by rw [hm8]; exact (Arr.row m7 _).loads (n := 2) (by rw [hnr]; simp)
    rw [← hm8] at bs C9
    obtain ⟨g', m9, p1, p2, p3⟩ := grow_some C9.gt (by omega) (fun _ => rfl) (x := nt) (fun y hy => by
      rcases List.mem_append.1 hy with hy | hy
      · exact hokt y hy
      · rw [List.mem_singleton.1 hy, hnr]; simp [okC]; exact okga) hl8 C9.st.ext.n (bytes := 32) (by rw [hl]; have := Nat.mul_le_mul_right 32 (show i + 1 ≤ ths.length by omega); omega) (by rw [hl]; unfold most at hsl; omega)
    have C10 := C9.appT p2 p3
    obtain ⟨m10, q1, q2, q3⟩ := C10.store 1 rfl (o := 1) (v := g') (by simp) C10.gt.okC
    have C11 : CJ m m10 g' (ts ++ [nt]) (.slice none 0 0) [] (cS m'.n m2.n m1.n m.n th.loc cells ga g' tv ++ D2) := q2
    have C12 := C11.sub (σ' := [(m2.n, [iv cells, g']), (m1.n, [.int .i64 0, .slice none 0 0]), (m.n, [iv cells, tv])] ++ D2) (fun p hp => List.mem_cons_of_mem _ hp) (by have := C11.st.nd; simp only [List.cons_append, List.map_cons, List.nodup_cons] at this ⊢; exact this.2)
    rw [hnr] at bs
    simp [t3, t4, t5, l3, l5, loadNS_ptr, bs, p1, q1, ni]
    refine hk' hil _ _ ⟨g', ts ++ [nt], D2, C12, by simp [hl], fun j x hj hx => ?_, fun y hy => ?_, fun y hy => ?_, by simp [t1], by simp [t2], by simp [t3], by simp⟩
    · by_cases hji : j < i
      · obtain ⟨z, h1, h2⟩ := he j x hji hx
        exact ⟨z, by rw [List.getElem?_append_left (by omega)]; exact h1, h2⟩
      · obtain rfl : j = i := by omega
        rw [hth] at hx; cases hx
        exact ⟨nt, by rw [List.getElem?_append_right (by omega)]; simp [hl], by rw [hnt], by rw [hnt]; exact hxl, fun q y hy => by rw [hnt]; exact hxe q y hy⟩
    · rcases List.mem_append.1 hy with hy | hy
      · exact (hin y hy).sub fun p hp => hD2 p (hD p hp)
      · rw [List.mem_singleton.1 hy, hnt]
        exact ⟨has, fun a ha => (hxin a ha).sub hD2⟩
    · rcases List.mem_append.1 hy with hy | hy
      · exact hokt y hy
      · rw [List.mem_singleton.1 hy, hnr]; simp [okC]; exact okga
  · obtain rfl : i = n := by omega
    have hd : ((i : Int) < (i : Int)) = False := eq_false (by omega)
    have l3 : loads m' ⟨m2.n, 0, none⟩ 2 = some [iv cells, g] := (hC.get 0 rfl).loads (n := 2) (by simp)
    have okg : okC g = true := hC.gt.okC
    obtain ⟨m8, q1, q2, q3⟩ := hC.fill 1 rfl (n := 2) (l' := [iv cells, g]) rfl rfl (by simp [okC]; exact okg)
    have C8 : CJ m m8 g ts (.slice none 0 0) [] ([(m2.n, [iv cells, g]), (m1.n, [iv cells, g]), (m.n, [iv cells, tv])] ++ D) := q2
    have lf : loads m8 ⟨m1.n, 0, none⟩ 2 = some [iv cells, g] := (C8.get 1 rfl).loads (n := 2) (by simp)
    simp [t1, t2, t3, t4, lp, hll, hd, loadNS_ptr, l3, q1]
    refine ret_cell (a := ⟨m1.n, 0, none⟩) (by simp [t2]) lf C8.st.ext ?_
    have hnd := C8.st.nd
    have stD : St m m8 D := C8.st.sub (fun p hp => List.mem_append_right _ hp) (by simp only [List.cons_append, List.nil_append, List.map_cons, List.nodup_cons] at hnd; exact hnd.2.2.2)
    have heq : PgEq ⟨cells, g, ts⟩ ⟨cells, tv, ths⟩ := ⟨rfl, by show ts.length = ths.length; omega, fun j x hx => he j x (by have h2 : j < ths.length := (List.getElem?_eq_some_iff.1 hx).1; omega) hx⟩
    rcases C8.gt with ⟨h1, h2⟩ | ⟨B, h1, h2, h3, h4, h5⟩
    · exact ⟨⟨cells, g, ts⟩, rfl, heq, D, ⟨.inl ⟨h1, h2⟩, hin⟩, stD⟩
    · refine ⟨⟨cells, g, ts⟩, rfl, heq, (B, ts.flatMap thRow) :: D, ⟨.inr ⟨B, _, h4, by simp⟩, fun t ht => (hin t ht).sub fun p hp => List.mem_cons_of_mem _ hp⟩, stD.add h1 h2 h5 fun p hp => ?_⟩
      exact C8.sep B (.inl (by rw [h4]; rfl)) p (List.mem_append_right _ hp)
end Go.Sx
