/- Contracts. -/
import Derived.Test.YtbbpaaofmcoobaaGreatGi
import Derived.Test.YtbbpaaofmcoobaaGreatGb2
import Derived.Test.YtbbpaaofmcoobaaGreatGf
import Derived.Test.YtbbpaaofmcoobaaGreatGj
set_option linter.unusedVariables false
set_option linter.unusedSimpArgs false
set_option linter.defProp false
namespace Go.Dx
structure Ap (m m' : M) (v v' : Value) : Prop where
 n : m.n ≤ m'.n
 base : m'.base = m.base
 log : ∀ C ∈ m'.log, C ∈ m.log ∨ (blk v = some C ∧ C < m.base)
 low : (∀ B, blk v = some B → m.base ≤ B) → m'.log = m.log
 obj : ∀ B, B < m.n → blk v ≠ some B → m'.obj B = m.obj B
 new : ∀ B, blk v' = some B → m.n ≤ B
section
variable {α : Type} {m0 m m' : M} {v : Value} {e : Nat} {f : α → List Value} {es : List α}
theorem grow_n (h : Grown m0 m v e f es) (he : 0 < e) (hf : ∀ x, (f x).length = e) (hok : ∀ x, ∀ v ∈ f x, okC v = true) {x : α} {X : Nat} {sp : Option Nat}
  (hx : loads m ⟨X, 0, sp⟩ e = some (f x)) (h0 : m0.n ≤ m.n) {bytes : Nat} (hm : (es.length + 1) * bytes ≤ qW) (hn : es.length + 1 ≤ 4611686018427387904) :
  ∃ v' m', qS m e bytes v (.slice (some ⟨X, 0, sp⟩) 1 1) = some (v', m') ∧ Grown m0 m' v' e f (es ++ [x]) ∧ Ap m m' v v' := by
 obtain ⟨v', m', h1, h2, h3, h4, h5, h6, h7⟩ := h.core he hf hok hx h0 hm hn
 refine ⟨v', m', h1, h2, by omega, h4, fun C hC => ?_, fun hl => ?_, h6, h7⟩
 ·rcases h5 with h5 | ⟨B, hB, _, h5⟩
  ·rw [h5] at hC; exact .inl hC
  ·rw [h5] at hC
   rcases ft hC with h' | ⟨rfl, h'⟩
   ·exact .inl h'
   ·exact .inr ⟨hB, h'⟩
 ·rcases h5 with h5 | ⟨B, hB, _, h5⟩
  ·exact h5
  ·rw [h5, vT (hl B hB)]
end
theorem _root_.Go.Dx.St.add {m0 m : M} {σ : List (Nat × List Value)} {B : Nat} {l : List Value} (h : St m0 m σ) (h1 : m0.n ≤ B) (h2 : B < m.n) (h3 : Arr m B l) (h4 : ∀ p ∈ σ, p.1 ≠ B) : St m0 m ((B, l) :: σ) := by
 refine ⟨h.ext, h.base, fun p hp => ?_, ?_⟩
 ·rcases List.mem_cons.1 hp with rfl | hp
  ·exact ⟨h1, h2, h3⟩
  ·exact h.arr p hp
 ·rw [List.map_cons, List.nodup_cons]
  refine ⟨fun hm => ?_, h.nd⟩
  obtain ⟨q, hq, e⟩ := List.mem_map.1 hm
  exact h4 q hq e
theorem St.app {m0 m m' : M} {v v' : Value} {σ : List (Nat × List Value)} (h : St m0 m σ) (k : Ap m m' v v') (h1 : ∀ B, blk v = some B → m0.n ≤ B) (h2 : ∀ B, blk v = some B → ∀ p ∈ σ, p.1 ≠ B) : St m0 m' σ := by
 have hb := h.ext.base
 have hn := h.ext.n
 have h0 := h.base
 refine h.keepOn ⟨qaq hn k.n, fun B hB => ?_, k.base.trans hb, (k.low fun B hB => ?_).trans h.ext.log⟩ k.n fun p hp => ?_
 ·rw [k.obj B (by omega) fun e => by have := h1 B e; omega]; exact h.ext.obj B hB
 ·have := h1 B hB; omega
 ·exact k.obj _ (h.arr p hp).2.1 fun e => h2 _ e p hp rfl
end Go.Dx
namespace Go.Dx
theorem dQ {α : Type} {m : M} (hm : m.base ≤ m.n) {v : Value} {e : Nat} {f : α → List Value} {es : List α} (h : Rd m v e f es) (hf : ∀ x, (f x).length = e) (bytes : Nat) (hb : es.length * bytes ≤ qW) (hn : es.length ≤ 4611686018427387904) :
  ∃ B c m', qS (newRow m []) e bytes (.slice (some ⟨m.n, 0, some (code e true)⟩) 0 0) v = some (.slice (some ⟨B, 0, some c⟩) es.length es.length, m') ∧ Ext m m' ∧ m.n ≤ B ∧ B < m'.n ∧ Arr m' B (es.flatMap f) := by
 by_cases hz : es = []
 ·subst hz
  refine ⟨m.n, code e true, newRow m [], ?_, Ext.row m [], qah _, by rw [qm]; omega, Arr.row m []⟩
  have h' := h.sees ((Sees.refl hm).ext (Ext.row m []))
  show ob (lenV v) _ = _
  rw [h.lenV, qy]
  show ob (qI (newRow m []) e ([] : List α).length v) _ = _
  rw [h'.all, qy]
  rfl
 ·obtain ⟨v', m', h1, h2, h3, h4, h5⟩ := vg hm h hf bytes hb hn
  have hv := h5 hz
  subst hv
  obtain ⟨q1, q2⟩ := h4 _ rfl
  exact ⟨_, _, m', h1, h2, q1, h3.lt _ rfl, q2⟩
end Go.Dx
namespace Go.Sx
open Go.Dx Go.Proofs
set_option maxRecDepth 10000
structure CJ (m0 m : M) (g : Value) (ts : List Th) (ga : Value) (xs : List Ac) (σ : List (Nat × List Value)) : Prop where
 st : St m0 m σ
 gt : Grown m0 m g 2 qE ts
 gs : Grown m0 m ga 11 qe xs
 sep : ∀ B, (blk g = some B ∨ blk ga = some B) → ∀ p ∈ σ, p.1 ≠ B
 ne : ∀ B, blk g = some B → blk ga ≠ some B
section
variable {m0 m m' : M} {g ga : Value} {ts : List Th} {xs : List Ac} {σ σ' : List (Nat × List Value)}
theorem CJ.gl (h : CJ m0 m g ts ga xs σ) : ∀ B, (blk g = some B ∨ blk ga = some B) → m0.n ≤ B ∧ B < m.n := fun B hB => by
 rcases hB with hB | hB
 ·exact grown_low h.gt B hB
 ·exact grown_low h.gs B hB
theorem CJ.of (h : CJ m0 m g ts ga xs σ) (hst : St m0 m' σ') (hn : m.n ≤ m'.n) (hk : ∀ B, (blk g = some B ∨ blk ga = some B) → m'.obj B = m.obj B) (hσ : ∀ p ∈ σ', (∃ q ∈ σ, q.1 = p.1) ∨ m.n ≤ p.1) : CJ m0 m' g ts ga xs σ' :=
 ⟨hst, h.gt.keep hn fun B _ hB => hk B (.inl hB), h.gs.keep hn fun B _ hB => hk B (.inr hB), fun B hB p hp => by
  rcases hσ p hp with ⟨q, hq, e⟩ | h'
  ·rw [← e]; exact h.sep B hB q hq
  ·have := (h.gl B hB).2; omega, h.ne⟩
theorem CJ.step (h : CJ m0 m g ts ga xs σ) (e : Ext m m') : CJ m0 m' g ts ga xs σ := h.of (h.st.step e) e.n (fun B hB => e.obj B (h.gl B hB).2) fun p hp => .inl ⟨p, hp, rfl⟩
theorem CJ.row (h : CJ m0 m g ts ga xs σ) (l : List Value) : CJ m0 (Dx.newRow m l) g ts ga xs ((m.n, l) :: σ) :=
 h.of (h.st.row l) (Ext.row m l).n (fun B hB => (Ext.row m l).obj B (h.gl B hB).2) fun p hp => by
  rcases List.mem_cons.1 hp with rfl | hp
  ·exact .inr (qah _)
  ·exact .inl ⟨p, hp, rfl⟩
theorem CJ.sub (h : CJ m0 m g ts ga xs σ) (hs : ∀ p ∈ σ', p ∈ σ) (hn : (σ'.map (·.1)).Nodup) : CJ m0 m g ts ga xs σ' :=
 h.of (h.st.sub hs hn) (qah _) (fun _ _ => rfl) fun p hp => .inl ⟨p, hs p hp, rfl⟩
theorem CJ.put (h : CJ m0 m g ts ga xs σ) {i b : Nat} {l l' : List Value} (hi : σ[i]? = some (b, l)) (hst : St m0 m' (σ.set i (b, l'))) (hn : m'.n = m.n) (ho : ∀ X, X ≠ b → m'.obj X = m.obj X) : CJ m0 m' g ts ga xs (σ.set i (b, l')) :=
 h.of hst (by omega) (fun B hB => ho B fun e => h.sep B hB _ (qaf hi) e.symm) fun p hp => by
  obtain ⟨q, hq, e⟩ := Wv hi hp
  exact .inl ⟨q, hq, e⟩
theorem CJ.get (h : CJ m0 m g ts ga xs σ) (i : Nat) {b : Nat} {l : List Value} (hi : σ[i]? = some (b, l)) : Arr m b l := (h.st.get i hi).2.2
theorem CJ.mb (h : CJ m0 m g ts ga xs σ) : m.base ≤ m.n := h.st.sees.self.base
theorem CJ.store (h : CJ m0 m g ts ga xs σ) (k : Nat) {b o : Nat} {l : List Value} {v : Value} (hk : σ[k]? = some (b, l)) (ho : o < l.length) (hv : okC v = true) :
  ∃ m', qH 1 (.pointer (some ⟨b, o, none⟩)) v m = some (undef, m') ∧ CJ m0 m' g ts ga xs (σ.set k (b, l.set o v)) ∧ m'.n = m.n := by
 obtain ⟨m', h1, h2, h3, h4⟩ := h.st.store k hk ho hv
 exact ⟨m', h1, h.put hk h2 h3 h4, h3⟩
theorem CJ.fill (h : CJ m0 m g ts ga xs σ) (k : Nat) {b : Nat} {l : List Value} (hk : σ[k]? = some (b, l)) {n : Nat} {l' : List Value} (hl : l.length = n) (hl' : l'.length = n) (hv : ∀ v ∈ l', okC v = true) :
  ∃ m', qH n (.pointer (some ⟨b, 0, none⟩)) (.agg ⟨l'⟩) m = some (undef, m') ∧ CJ m0 m' g ts ga xs (σ.set k (b, l')) ∧ m'.n = m.n := by
 obtain ⟨m', h1, h2, h3, h4⟩ := h.st.fill k hk hl hl' hv
 exact ⟨m', h1, h.put hk h2 h3 h4, h3⟩
theorem CJ.call (h : CJ m0 m g ts ga xs σ) (e : Ext m m') {B : Nat} {l : List Value} (h1 : m.n ≤ B) (h2 : B < m'.n) (h3 : Arr m' B l) : CJ m0 m' g ts ga xs ((B, l) :: σ) := by
 have hn := h.st.ext.n
 have h' := h.step e
 refine ⟨(h.st.step e).add (by omega) h2 h3 fun p hp => by have := (h.st.arr p hp).2.1; omega, h'.gt, h'.gs, fun X hX p hp => ?_, h.ne⟩
 rcases List.mem_cons.1 hp with rfl | hp
 ·have := (h.gl X hX).2
  show B ≠ X
  omega
 ·exact h.sep X hX p hp
theorem CJ.appT {x : Th} {v' : Value} (h : CJ m0 m g ts ga xs σ) (hg : Grown m0 m' v' 2 qE (ts ++ [x])) (hA : Ap m m' g v') : CJ m0 m' v' (ts ++ [x]) ga xs σ := by
 refine ⟨h.st.app hA (fun B hB => (h.gl B (.inl hB)).1) (fun B hB => h.sep B (.inl hB)), hg, h.gs.keep hA.n fun B hB hb => hA.obj B hB fun e => h.ne B e hb, fun B hB p hp => ?_, fun B hB e => ?_⟩
 ·rcases hB with hB | hB
  ·have := hA.new B hB
   have := (h.st.arr p hp).2.1
   omega
  ·exact h.sep B (.inr hB) p hp
 ·have := hA.new B hB
  have := (h.gl B (.inr e)).2
  omega
theorem CJ.appA {x : Ac} {v' : Value} (h : CJ m0 m g ts ga xs σ) (hg : Grown m0 m' v' 11 qe (xs ++ [x])) (hA : Ap m m' ga v') : CJ m0 m' g ts v' (xs ++ [x]) σ := by
 refine ⟨h.st.app hA (fun B hB => (h.gl B (.inr hB)).1) (fun B hB => h.sep B (.inr hB)), h.gt.keep hA.n fun B hB hb => hA.obj B hB fun e => h.ne B hb e, hg, fun B hB p hp => ?_, fun B hB e => ?_⟩
 ·rcases hB with hB | hB
  ·exact h.sep B (.inl hB) p hp
  ·have := hA.new B hB
   have := (h.st.arr p hp).2.1
   omega
 ·have := hA.new B e
  have := (h.gl B (.inl hB)).2
  omega
end
def NdIn (σ : List (Nat × List Value)) (v : Value) (es : List Nd) : Prop := ∃ B c, v = .slice (some ⟨B, 0, some c⟩) es.length es.length ∧ (B, es.flatMap qg) ∈ σ
structure AcInD (σ : List (Nat × List Value)) (a : Ac) : Prop where
 ix : NdIn σ a.ix a.ixs
 ev : NdIn σ a.ev a.es
 fv : NdIn σ a.fv a.fs
def AsIn (σ : List (Nat × List Value)) (v : Value) (xs : List Ac) : Prop := (xs = [] ∧ v = .slice none 0 0) ∨ ∃ B c, v = .slice (some ⟨B, 0, some c⟩) xs.length xs.length ∧ (B, xs.flatMap qe) ∈ σ
structure ThInD (σ : List (Nat × List Value)) (t : Th) : Prop where
 av : AsIn σ t.av t.acts
 acts : ∀ a ∈ t.acts, AcInD σ a
section
variable {σ σ' : List (Nat × List Value)} {m0 m : M}
theorem NdIn.sub {v : Value} {es : List Nd} (h : NdIn σ v es) (hs : ∀ p ∈ σ, p ∈ σ') : NdIn σ' v es := let ⟨B, c, h1, h2⟩ := h; ⟨B, c, h1, hs _ h2⟩
theorem AcInD.sub {a : Ac} (h : AcInD σ a) (hs : ∀ p ∈ σ, p ∈ σ') : AcInD σ' a := ⟨h.ix.sub hs, h.ev.sub hs, h.fv.sub hs⟩
theorem AsIn.sub {v : Value} {xs : List Ac} (h : AsIn σ v xs) (hs : ∀ p ∈ σ, p ∈ σ') : AsIn σ' v xs := by
 rcases h with h | ⟨B, c, h1, h2⟩
 ·exact .inl h
 ·exact .inr ⟨B, c, h1, hs _ h2⟩
theorem ThInD.sub {t : Th} (h : ThInD σ t) (hs : ∀ p ∈ σ, p ∈ σ') : ThInD σ' t := ⟨h.av.sub hs, fun a ha => (h.acts a ha).sub hs⟩
theorem NdIn.rd {v : Value} {es : List Nd} (h : NdIn σ v es) (hst : St m0 m σ) : Rd m v 4 qg es := by
 obtain ⟨B, c, rfl, h2⟩ := h
 obtain ⟨_, h3, h4⟩ := hst.arr _ h2
 exact kZ (f := qg) (fun _ => rfl) h4 h3
theorem AsIn.rd {v : Value} {xs : List Ac} (h : AsIn σ v xs) (hst : St m0 m σ) : Rd m v 11 qe xs := by
 rcases h with ⟨rfl, rfl⟩ | ⟨B, c, rfl, h2⟩
 ·exact ⟨rfl, fun i r hr => by simp at hr, rfl, fun B hB => by cases hB⟩
 ·obtain ⟨_, h3, h4⟩ := hst.arr _ h2
  exact kZ (f := qe) (fun _ => rfl) h4 h3
end
theorem bs_ac (a : Ac) (m : M) : kc 11 1 (rep 1 Z11) [(0, 11, .agg ⟨qe a⟩)] m = some (Value.slice (some ⟨m.n, 0, some 23⟩) 1 1, Dx.newRow m (qe a)) := rfl
theorem bs_th (t : Th) (m : M) : kc 2 1 (rep 1 [.int .i64 0, .slice none 0 0]) [(0, 2, .agg ⟨qE t⟩)] m = some (Value.slice (some ⟨m.n, 0, some 5⟩) 1 1, Dx.newRow m (qE t)) := rfl
theorem Fh (m : M) : kc 4 0 (rep 0 [.int .i64 0, .int .u64 0, .int .i64 0, .int .i64 0]) [] m = some (Value.slice (some ⟨m.n, 0, some (code 4 true)⟩) 0 0, Dx.newRow m []) := rfl
theorem b_pg (c : Int) : wn [.int .i64 0, .slice none 0 0] [(0, 1, .int .i64 c)] = some (.agg ⟨[.int .i64 c, .slice none 0 0]⟩) := rfl
end Go.Sx
namespace Go.Dx
theorem Grown.congr {α : Type} {m0 m : M} {v : Value} {e : Nat} {f f' : α → List Value} {es : List α} (h : Grown m0 m v e f es) (hf : ∀ y ∈ es, f y = f' y) : Grown m0 m v e f' es := by
 have hfl : es.flatMap f = es.flatMap f' := by rw [List.flatMap_def, List.flatMap_def, List.map_congr_left hf]
 rcases h with h | ⟨B, h1, h2, h3, h4, h5⟩
 ·exact .inl h
 ·exact .inr ⟨B, h1, h2, h3, h4, hfl ▸ h5⟩
open Classical in
theorem Qu {α : Type} {m0 m : M} {v : Value} {e : Nat} {f : α → List Value} {es : List α} (h : Grown m0 m v e f es) (he : 0 < e) (hf : ∀ x, (f x).length = e) {x : α} (hok : ∀ y ∈ es ++ [x], ∀ v ∈ f y, okC v = true) {X : Nat} {sp : Option Nat}
  (hx : loads m ⟨X, 0, sp⟩ e = some (f x)) (h0 : m0.n ≤ m.n) {bytes : Nat} (hm : (es.length + 1) * bytes ≤ qW) (hn : es.length + 1 ≤ 4611686018427387904) :
  ∃ v' m', qS m e bytes v (.slice (some ⟨X, 0, sp⟩) 1 1) = some (v', m') ∧ Grown m0 m' v' e f (es ++ [x]) ∧ Ap m m' v v' := by
 obtain ⟨f', hf'⟩ : ∃ f' : α → List Value, f' = fun y => if (∀ v ∈ f y, okC v = true) then f y else List.replicate e (.bool false) := ⟨_, rfl⟩
 have hy : ∀ y ∈ es ++ [x], f y = f' y := fun y hy => by rw [hf']; simp only; rw [if_pos (hok y hy)]
 have h1 := h.congr (f' := f') fun y hy' => hy y (List.mem_append_left _ hy')
 have hx' : loads m ⟨X, 0, sp⟩ e = some (f' x) := by rw [← hy x (by simp)]; exact hx
 obtain ⟨v', m', a1, a2, a3⟩ := grow_n h1 he (fun y => by
  rw [hf']; simp only; split
  ·exact hf y
  ·simp) (fun y u hu => by
  rw [hf'] at hu; simp only at hu; split at hu
  ·rename_i hh; exact hh u hu
  ·rw [List.mem_replicate] at hu; rw [hu.2]; rfl) hx' h0 hm hn
 exact ⟨v', m', a1, a2.congr fun y hy' => (hy y hy').symm, a3⟩
end Go.Dx
namespace Go.Sx
open Go.Dx Go.Proofs
set_option maxRecDepth 10000
theorem CJ.mid {m0 m : M} {g ga : Value} {ts : List Th} {xs : List Ac} {x : Nat × List Value} {l D : List (Nat × List Value)} (h : CJ m0 m g ts ga xs (x :: (l ++ D))) : CJ m0 m g ts ga xs (l ++ x :: D) := by
 have hp : (l ++ x :: D).Perm (x :: (l ++ D)) := List.perm_middle
 exact h.sub (fun p hp' => hp.mem_iff.1 hp') ((hp.map (·.1)).nodup_iff.2 h.st.nd)
theorem CJ.clone {m0 m : M} {g ga : Value} {ts : List Th} {xs : List Ac} {l D : List (Nat × List Value)} (h : CJ m0 m g ts ga xs (l ++ D)) {v : Value} {es : List Nd} (hv : Rd m v 4 qg es) (hsz : es.length * 32 ≤ qW) :
  ∃ B c m', qS (Dx.newRow m []) 4 32 (.slice (some ⟨m.n, 0, some (code 4 true)⟩) 0 0) v = some (.slice (some ⟨B, 0, some c⟩) es.length es.length, m') ∧ CJ m0 m' g ts ga xs (l ++ (B, es.flatMap qg) :: D) := by
 obtain ⟨B, c, m', h1, h2, h3, h4, h5⟩ := dQ h.mb hv (fun _ => rfl) 32 hsz (by unfold qW at hsz; omega)
 exact ⟨B, c, m', h1, (h.call h2 h3 h4 h5).mid⟩
structure CT (t : Tm) (T1 T2 T3 T5 i j : Nat) : Prop where
 t1 : Tm.get 1 t = .pointer (some ⟨T1, 0, none⟩)
 t2 : Tm.get 2 t = .pointer (some ⟨T2, 0, none⟩)
 t3 : Tm.get 3 t = .pointer (some ⟨T3, 0, none⟩)
 t4 : Tm.get 4 t = iv i
 t5 : Tm.get 5 t = .pointer (some ⟨T5, 0, none⟩)
 t6 : Tm.get 6 t = iv j
abbrev cS (T5 T3 T2 T1 : Nat) (loc cells : Int) (ga g tv : Value) : List (Nat × List Value) := [(T5, [iv loc, ga]), (T3, [iv cells, g]), (T2, [.int .i64 0, .slice none 0 0]), (T1, [iv cells, tv])]
section
variable {m0 m : M} {g ga tv : Value} {ts ths : List Th} {xs : List Ac} {T1 T2 T3 T5 i j : Nat} {loc cells : Int} {D : List (Nat × List Value)} {tm : Tm}
theorem Gi {th : Th} {a : Ac} (hm0 : m0.base ≤ m0.n) (htv : Rd m0 tv 2 qE ths) (hth : ths[i]? = some th) (hav : Rd m0 th.av 11 qe th.acts) (ha : th.acts[j]? = some a) (hok : AcOK m0 a)
  (hs1 : a.ixs.length * 32 ≤ qW) (hs2 : a.es.length * 32 ≤ qW) (hs3 : a.fs.length * 32 ≤ qW) (hs4 : (xs.length + 1) * 136 ≤ qW) (hxs : ∀ y ∈ xs, ∀ v ∈ qe y, okC v = true)
  (h : CJ m0 m g ts ga xs (cS T5 T3 T2 T1 loc cells ga g tv ++ D)) (hT : CT tm T1 T2 T3 T5 i j) {x : Ex} {kn kr : K} {ke : Nat → K} {Q : Option Out → Prop}
  (H : ∀ t' m' ga' a' D', CT t' T1 T2 T3 T5 i j → CJ m0 m' g ts ga' (xs ++ [a']) (cS T5 T3 T2 T1 loc cells ga' g tv ++ D') → (∀ p ∈ D, p ∈ D') → AcInD D' a' → AcEq a' a → (∀ v ∈ qe a', okC v = true) → Q (kn t' m')) : Q (GC x kn ke kr tm m) := by
 obtain ⟨t1, t2, t3, t4, t5, t6⟩ := hT
 have S := h.st.sees
 have lp : ∀ o s, load1 m ⟨T1, o, s⟩ = [iv cells, tv][o]? := fun o s => (h.get 3 rfl).load1 o s
 obtain ⟨x1, x2, x3⟩ := htv.at hth
 have xa : ∀ s, load1 m ⟨(adr 2 tv i).block, (adr 2 tv i).off + 1, s⟩ = some th.av := fun s => x3 m 1 s S (by simp [qE])
 obtain ⟨y1, y2, y3⟩ := hav.at ha
 have y2' := y2 m S
 have h1 := h.row Z11
 obtain ⟨m1, hm1⟩ := qb8 (Dx.newRow m Z11)
 rw [← hm1] at h1
 obtain ⟨m2, f1, f2, f3⟩ := h1.fill 0 rfl (n := 11) (l' := qe a) rfl rfl (qM hok)
 have h2 : CJ m0 m2 g ts ga xs (((m.n, qe a) :: cS T5 T3 T2 T1 loc cells ga g tv) ++ D) := f2
 have r2 : ∀ o s, load1 (Dx.newRow m2 []) ⟨m.n, o, s⟩ = (qe a)[o]? := fun o s => (((h2.step (Ext.row m2 [])).get 0 rfl)).load1 o s
 obtain ⟨B1, c1, m3, a1, h3⟩ := h2.clone (hok.ix.sees h2.st.sees) hs1
 obtain ⟨v1, hv1⟩ : ∃ v1 : Value, v1 = .slice (some ⟨B1, 0, some c1⟩) a.ixs.length a.ixs.length := ⟨_, rfl⟩
 rw [← hv1] at a1
 have bs2 := Fh m2
 obtain ⟨n2, hn2⟩ := qb8 (Dx.newRow m2 [])
 rw [← hn2] at bs2 a1 r2
 obtain ⟨m4, s1, s2, s3⟩ := h3.store 0 rfl (o := 4) (v := v1) (by simp [qe]) (by rw [hv1]; rfl)
 have h4 : CJ m0 m4 g ts ga xs (((m.n, qe { a with ix := v1 }) :: cS T5 T3 T2 T1 loc cells ga g tv) ++ (B1, a.ixs.flatMap qg) :: D) := s2
 have r4 : ∀ o s, load1 (Dx.newRow m4 []) ⟨m.n, o, s⟩ = (qe { a with ix := v1 })[o]? := fun o s => (((h4.step (Ext.row m4 [])).get 0 rfl)).load1 o s
 obtain ⟨B2, c2, m5, a2, h5⟩ := h4.clone (hok.ev.sees h4.st.sees) hs2
 obtain ⟨v2, hv2⟩ : ∃ v2 : Value, v2 = .slice (some ⟨B2, 0, some c2⟩) a.es.length a.es.length := ⟨_, rfl⟩
 rw [← hv2] at a2
 have bs4 := Fh m4
 obtain ⟨n4, hn4⟩ := qb8 (Dx.newRow m4 [])
 rw [← hn4] at bs4 a2 r4
 obtain ⟨m6, u1, u2, u3⟩ := h5.store 0 rfl (o := 5) (v := v2) (by simp [qe]) (by rw [hv2]; rfl)
 have h6 : CJ m0 m6 g ts ga xs (((m.n, qe { a with ix := v1, ev := v2 }) :: cS T5 T3 T2 T1 loc cells ga g tv) ++ (B2, a.es.flatMap qg) :: (B1, a.ixs.flatMap qg) :: D) := u2
 have r6 : ∀ o s, load1 (Dx.newRow m6 []) ⟨m.n, o, s⟩ = (qe { a with ix := v1, ev := v2 })[o]? := fun o s => (((h6.step (Ext.row m6 [])).get 0 rfl)).load1 o s
 obtain ⟨B3, c3, m7, a3, h7⟩ := h6.clone (hok.fv.sees h6.st.sees) hs3
 obtain ⟨v3, hv3⟩ : ∃ v3 : Value, v3 = .slice (some ⟨B3, 0, some c3⟩) a.fs.length a.fs.length := ⟨_, rfl⟩
 rw [← hv3] at a3
 have bs6 := Fh m6
 obtain ⟨n6, hn6⟩ := qb8 (Dx.newRow m6 [])
 rw [← hn6] at bs6 a3 r6
 obtain ⟨m8, w1, w2, w3⟩ := h7.store 0 rfl (o := 6) (v := v3) (by simp [qe]) (by rw [hv3]; rfl)
 obtain ⟨a', ha'⟩ : ∃ a' : Ac, a' = { a with ix := v1, ev := v2, fv := v3 } := ⟨_, rfl⟩
 have h8 : CJ m0 m8 g ts ga xs (((m.n, qe a') :: cS T5 T3 T2 T1 loc cells ga g tv) ++ (B3, a.fs.flatMap qg) :: (B2, a.es.flatMap qg) :: (B1, a.ixs.flatMap qg) :: D) := by rw [ha']; exact w2
 have l8 : ∀ o s, load1 m8 ⟨T5, o, s⟩ = [iv loc, ga][o]? := fun o s => (h8.get 1 rfl).load1 o s
 have l8n : loads m8 ⟨m.n, 0, none⟩ 11 = some (qe a') := (h8.get 0 rfl).loads (n := 11) (by simp [qe])
 have bs8 := bs_ac a' m8
 have E9 : Ext m8 (Dx.newRow m8 (qe a')) := Ext.row _ _
 have h9 := h8.step E9
 have hoka' : ∀ v ∈ qe a', okC v = true := by
  rw [ha', hv1, hv2, hv3]; simp [qe, okC]
 obtain ⟨m9, hm9⟩ := qb8 (Dx.newRow m8 (qe a'))
 have hl9 : loads m9 ⟨m8.n, 0, some 23⟩ 11 = some (qe a') := by rw [hm9]; exact (Arr.row m8 _).loads (n := 11) (by simp [qe])
 rw [← hm9] at bs8 h9 E9
 have core := h9.gs
 have hgrow : ∃ v' m', qS m9 11 136 ga (.slice (some ⟨m8.n, 0, some 23⟩) 1 1) = some (v', m') ∧ Grown m0 m' v' 11 qe (xs ++ [a']) ∧ Ap m9 m' ga v' :=
  Qu h9.gs (by omega) qv (fun y hy => by
   rcases qb6.1 hy with hy | hy
   ·exact hxs y hy
   ·rw [qal.1 hy]; exact hoka') hl9 h9.st.ext.n hs4 (by unfold qW at hs4; omega)
 obtain ⟨ga', m10, p1, p2, p3⟩ := hgrow
 have h10 := h9.appA p2 p3
 obtain ⟨m11, q1, q2, q3⟩ := h10.store 1 rfl (o := 1) (v := ga') (by simp) h10.gs.okC
 have h11 : CJ m0 m11 g ts ga' (xs ++ [a']) (((m.n, qe a') :: cS T5 T3 T2 T1 loc cells ga' g tv) ++ (B3, a.fs.flatMap qg) :: (B2, a.es.flatMap qg) :: (B1, a.ixs.flatMap qg) :: D) := q2
 have h12 := h11.sub (σ' := cS T5 T3 T2 T1 loc cells ga' g tv ++ (B3, a.fs.flatMap qg) :: (B2, a.es.flatMap qg) :: (B1, a.ixs.flatMap qg) :: D) (fun p hp => qap _ hp) (by have := h11.st.nd; simp only [List.cons_append, List.map_cons, List.nodup_cons] at this ⊢; exact this.2)
 simp only [qe] at y2' f1 r2 r4 r6
 rw [ha'] at l8n bs8
 simp only [qe] at l8n bs8
 simp [t1, t4, t5, t6, lp, x1, xa, y1, y2', qf, ← hm1, f1, bs2, ← hn2, r2, a1, s1, bs4, ← hn4, r4, a2, u1, bs6, ← hn6, r6, a3, w1, l8, l8n, bs8, ← hm9, p1, q1]
 refine H _ _ ga' a' _ ⟨by simp [t1], by simp [t2], by simp [t3], by simp [t4], by simp [t5], by simp [t6]⟩ h12 (fun p hp => qap _ (qap _ (qap _ hp))) ?_ ⟨v1, v2, v3, ha'⟩ hoka'
 rw [ha']
 exact ⟨⟨B1, c1, hv1, by simp⟩, ⟨B2, c2, hv2, by simp⟩, ⟨B3, c3, hv3, by simp⟩⟩
end
end Go.Sx
namespace Go.Sx
open Go.Dx Go.Proofs
set_option maxRecDepth 10000
structure Yh (a : Ac) : Prop where
 ix : a.ixs.length * 32 ≤ qW
 ev : a.es.length * 32 ≤ qW
 fv : a.fs.length * 32 ≤ qW
structure PgSz (p : Pg) : Prop where
 len : p.ths.length * 32 ≤ qW
 ths : ∀ t ∈ p.ths, t.acts.length * 136 ≤ qW ∧ ∀ a ∈ t.acts, Yh a
structure PgInD (D : List (Nat × List Value)) (p : Pg) : Prop where
 tv : (p.ths = [] ∧ p.tv = .slice none 0 0) ∨ ∃ B c, p.tv = .slice (some ⟨B, 0, some c⟩) p.ths.length p.ths.length ∧ (B, p.ths.flatMap qE) ∈ D
 ths : ∀ t ∈ p.ths, ThInD D t
theorem Vv {a b : Ac} (h : AcEq a b) : a.ixs = b.ixs ∧ a.es = b.es ∧ a.fs = b.fs := by obtain ⟨x, y, z, rfl⟩ := h; exact ⟨rfl, rfl, rfl⟩
theorem th_ok {m0 m : M} {D : List (Nat × List Value)} (hst : St m0 m D) {t u : Th} (h : ThInD D t) (he : ThEq t u) {m1 : M} (hu : ThOK m1 u) : ThOK m t := by
 refine ⟨h.av.rd hst, fun a ha => ?_, by rw [he.len]; exact hu.len⟩
 have hi := h.acts a ha
 obtain ⟨j, hj⟩ := qb1 ha
 have hjl := (qag.1 hj).1
 obtain ⟨b, hb⟩ : ∃ b, u.acts[j]? = some b := ⟨_, qae (by rw [← he.len]; exact hjl)⟩
 obtain ⟨y, h1, h2⟩ := he.acts j b hb
 rw [hj] at h1; cases h1
 obtain ⟨e1, e2, e3⟩ := Vv h2
 have hbk := hu.acts b (qaf hb)
 exact ⟨hi.ix.rd hst, hi.ev.rd hst, hi.fv.rd hst, by rw [e1]; exact hbk.ixl, by rw [e2]; exact hbk.evl, by rw [e3]; exact hbk.fvl⟩
theorem pg_ok {m0 m : M} {D : List (Nat × List Value)} (hst : St m0 m D) {p q : Pg} (h : PgInD D p) (he : PgEq p q) {m1 : M} (hq : PgOK m1 q) : PgOK m p := by
 refine ⟨?_, fun t ht => ?_, by rw [he.len]; exact hq.len⟩
 ·rcases h.tv with ⟨h1, h2⟩ | ⟨B, c, h1, h2⟩
  ·rw [h1, h2]; exact ⟨rfl, fun i r hr => by simp at hr, rfl, fun B hB => by cases hB⟩
  ·rw [h1]
   obtain ⟨_, h3, h4⟩ := hst.arr _ h2
   exact kZ (f := qE) (fun _ => rfl) h4 h3
 ·obtain ⟨j, hj⟩ := qb1 ht
  have hjl := (qag.1 hj).1
  obtain ⟨u, hu⟩ : ∃ b, q.ths[j]? = some b := ⟨_, qae (by rw [← he.len]; exact hjl)⟩
  obtain ⟨y, h1, h2⟩ := he.ths j u hu
  rw [hj] at h1; cases h1
  exact th_ok hst (h.ths t ht) h2 (hq.ths u (qaf hu))
theorem CJ.close {m0 m : M} {g ga : Value} {ts : List Th} {xs : List Ac} {l D : List (Nat × List Value)} (h : CJ m0 m g ts ga xs (l ++ D)) : ∃ D', CJ m0 m g ts (.slice none 0 0) [] (l ++ D') ∧ AsIn D' ga xs ∧ ∀ p ∈ D, p ∈ D' := by
 rcases h.gs with ⟨h1, h2⟩ | ⟨B, h1, h2, h3, h4, h5⟩
 ·subst h1; subst h2
  exact ⟨D, h, .inl ⟨rfl, rfl⟩, fun p hp => hp⟩
 ·have hB : blk ga = some B := by rw [h4]; rfl
  have hs := h.st.add h1 h2 h5 (fun p hp => h.sep B (.inr hB) p hp)
  have h' : CJ m0 m g ts (.slice none 0 0) [] ((B, xs.flatMap qe) :: (l ++ D)) := by
   refine ⟨hs, h.gt, .nil, fun X hX p hp => ?_, fun X hX e => by cases e⟩
   rcases hX with hX | hX
   ·rcases List.mem_cons.1 hp with rfl | hp
    ·show B ≠ X
     intro e; subst e; exact h.ne B hX hB
    ·exact h.sep X (.inl hX) p hp
   ·cases hX
  exact ⟨_, h'.mid, .inr ⟨B, _, h4, by simp⟩, fun p hp => qap _ hp⟩
section
variable {m0 m : M} {g tv : Value} {ts ths : List Th} {T1 T2 T3 T5 i : Nat} {loc cells : Int} {D : List (Nat × List Value)} {tm : Tm}
theorem Vo {th : Th} (hm0 : m0.base ≤ m0.n) (htv : Rd m0 tv 2 qE ths) (hth : ths[i]? = some th) (hok : ThOK m0 th) (hsz : th.acts.length * 136 ≤ qW ∧ ∀ a ∈ th.acts, Yh a)
  (h : CJ m0 m g ts (.slice none 0 0) [] (cS T5 T3 T2 T1 loc cells (.slice none 0 0) g tv ++ D)) (hT : CT tm T1 T2 T3 T5 i 0) {x : Ex} {kn kr : K} {ke : Nat → K} {Q : Option Out → Prop}
  (H : ∀ t' m' ga xs D', Tm.get 1 t' = .pointer (some ⟨T1, 0, none⟩) → Tm.get 2 t' = .pointer (some ⟨T2, 0, none⟩) → Tm.get 3 t' = .pointer (some ⟨T3, 0, none⟩) → Tm.get 4 t' = iv i → Tm.get 5 t' = .pointer (some ⟨T5, 0, none⟩) →
   CJ m0 m' g ts ga xs (cS T5 T3 T2 T1 loc cells ga g tv ++ D') → (∀ p ∈ D, p ∈ D') → xs.length = th.acts.length → (∀ (q : Nat) y, th.acts[q]? = some y → ∃ z, xs[q]? = some z ∧ AcEq z y) → (∀ a ∈ xs, AcInD D' a) → Q (kn t' m')) : Q (JP x kn ke kr tm m) := by
 obtain ⟨na, hna⟩ := qb8 (th.acts.length)
 have hal : qL th.av = some (.int .i64 (na : Int)) := by rw [hna]; exact hok.av.len
 have hnal : na ≤ 9223372036854775807 := by rw [hna]; exact hok.len
 simp
 refine qq (c := YK) rfl Q (fun j t m' => ∃ ga xs D', CT t T1 T2 T3 T5 i j ∧ CJ m0 m' g ts ga xs (cS T5 T3 T2 T1 loc cells ga g tv ++ D') ∧ (∀ p ∈ D, p ∈ D') ∧ xs.length = j ∧ (∀ (q : Nat) y, q < j → th.acts[q]? = some y → ∃ z, xs[q]? = some z ∧ AcEq z y) ∧ (∀ a ∈ xs, AcInD D' a) ∧ ∀ a ∈ xs, ∀ v ∈ qe a, okC v = true) na hnal
  ⟨_, [], D, hT, h, fun p hp => hp, rfl, fun q y hq => absurd hq (qb7 _), by simp, by simp⟩ (fun j t m' k' hj hI hk' => ?_)
 obtain ⟨ga, xs, D', hT, hC, hD, hl, he, hin, hok2⟩ := hI
 have ⟨t1, t2, t3, t4, t5, t6⟩ := hT
 have S := hC.st.sees
 have lp : ∀ o s, load1 m' ⟨T1, o, s⟩ = [iv cells, tv][o]? := fun o s => (hC.get 3 rfl).load1 o s
 obtain ⟨x1, x2, x3⟩ := htv.at hth
 have xa : ∀ s, load1 m' ⟨(adr 2 tv i).block, (adr 2 tv i).off + 1, s⟩ = some th.av := fun s => x3 m' 1 s S (by simp [qE])
 by_cases hjl : j < na
 ·have hd := dlt hjl
  have hd' : (j < na) = True := eq_true hjl
  have nj := wj (i := j) (by omega)
  obtain ⟨a, ha⟩ : ∃ a, th.acts[j]? = some a := ⟨_, qae (by omega)⟩
  have hmem := qaf ha
  have hs := hsz.2 a hmem
  simp [t1, t4, t6, lp, x1, xa, hal, hd, hd', -Gs]
  refine Gi (th := th) hm0 htv hth hok.av ha (hok.acts a hmem) hs.ix hs.ev hs.fv (by rw [hl]; have := qb0 136 (show j + 1 ≤ th.acts.length by omega); omega) hok2 hC ⟨by simp [t1], by simp [t2], by simp [t3], by simp [t4], by simp [t5], by simp [t6]⟩ (fun t' m2 ga' a' D2 hT' hC' hD2 hin' heq' hok' => ?_)
  have ⟨t1, t2, t3, t4, t5, t6⟩ := hT'
  simp [t6, nj]
  refine hk' hjl _ _ ⟨ga', xs ++ [a'], D2, ⟨by simp [t1], by simp [t2], by simp [t3], by simp [t4], by simp [t5], by simp⟩, hC', fun p hp => hD2 p (hD p hp), by simp [hl], fun q y hq hy => ?_, fun b hb => ?_, fun b hb => ?_⟩
  ·by_cases hqj : q < j
   ·obtain ⟨z, h1, h2⟩ := he q y hqj hy
    exact ⟨z, by rw [qau (by omega)]; exact h1, h2⟩
   ·obtain rfl : q = j := by omega
    rw [ha] at hy; cases hy
    exact ⟨a', by rw [qav (by omega)]; simp [hl], heq'⟩
  ·rcases qb6.1 hb with hb | hb
   ·exact (hin b hb).sub hD2
   ·rw [qal.1 hb]; exact hin'
  ·rcases qb6.1 hb with hb | hb
   ·exact hok2 b hb
   ·rw [qal.1 hb]; exact hok'
 ·obtain rfl : j = na := by omega
  have hd : ((j : Int) < (j : Int)) = False := eq_false (by omega)
  simp [t1, t4, t6, lp, x1, xa, hal, hd]
  exact H _ _ ga xs D' (by simp [t1]) (by simp [t2]) (by simp [t3]) (by simp [t4]) (by simp [t5]) hC hD (by omega) (fun q y hy => he q y (by have := (qag.1 hy).1; omega) hy) hin
end
theorem Copy_c (p : Pg) (hsz : PgSz p) (N : Nat) (m : M) (hm : m.base ≤ m.n) (hp : PgOK m p) :
  Dx.Call (ex Tryz.prog (N + 1)) 14 [pgV p] m fun v m' => ∃ p' D, v = pgV p' ∧ PgEq p' p ∧ PgInD D p' ∧ St m m' D := by
 refine qp da5_ok (by simp) ?_
 obtain ⟨cells, tv, ths⟩ := p
 have st1 := (St.nil hm (Ext.refl m)).row [iv cells, tv]
 obtain ⟨m1, hm1⟩ := qb8 (Dx.newRow m [iv cells, tv])
 rw [← hm1] at st1
 have st2 := st1.row [.int .i64 0, .slice none 0 0]
 obtain ⟨m2, hm2⟩ := qb8 (Dx.newRow m1 [.int .i64 0, .slice none 0 0])
 rw [← hm2] at st2
 have l2 : ∀ o s, load1 m2 ⟨m.n, o, s⟩ = [iv cells, tv][o]? := fun o s => (st2.get 1 rfl).2.2.load1 o s
 have st3 := st2.row [.int .i64 0, .slice none 0 0]
 obtain ⟨m3, hm3⟩ := qb8 (Dx.newRow m2 [.int .i64 0, .slice none 0 0])
 rw [← hm3] at st3
 obtain ⟨m4, f1, f2, f3, f4⟩ := st3.fill 0 rfl (n := 2) (l' := [iv cells, .slice none 0 0]) rfl rfl (by simp [okC])
 have st4 : St m m4 [(m2.n, [iv cells, .slice none 0 0]), (m1.n, [.int .i64 0, .slice none 0 0]), (m.n, [iv cells, tv])] := f2
 obtain ⟨n, hn⟩ := qb8 (ths.length)
 have hll : qL tv = some (.int .i64 (n : Int)) := by rw [hn]; exact hp.tv.len
 have hnl : n ≤ 9223372036854775807 := by rw [hn]; exact hp.len
 have hsl : ths.length * 32 ≤ qW := hsz.len
 have htv : Rd m tv 2 qE ths := hp.tv
 obtain ⟨g0, hg0⟩ : ∃ g0 : Value, g0 = .slice none 0 0 := ⟨_, rfl⟩
 have C4 : CJ m m4 (.slice none 0 0) [] (.slice none 0 0) [] [(m2.n, [iv cells, .slice none 0 0]), (m1.n, [.int .i64 0, .slice none 0 0]), (m.n, [iv cells, tv])] := by
  refine ⟨st4, .nil, .nil, fun B hB => ?_, fun B hB => by cases hB⟩
  rcases hB with hB | hB <;> cases hB
 unfold pgV
 simp [← hm1, ← hm2, l2, b_pg, ← hm3, f1]
 refine qq (c := BU) rfl (Ret m _) (fun i t m' => ∃ g ts D, CJ m m' g ts (.slice none 0 0) [] ([(m2.n, [iv cells, g]), (m1.n, [.int .i64 0, .slice none 0 0]), (m.n, [iv cells, tv])] ++ D) ∧ ts.length = i ∧ (∀ (j : Nat) x, j < i → ths[j]? = some x → ∃ y, ts[j]? = some y ∧ ThEq y x) ∧ (∀ t ∈ ts, ThInD D t) ∧ (∀ t ∈ ts, ∀ v ∈ qE t, okC v = true) ∧
   Tm.get 1 t = .pointer (some ⟨m.n, 0, none⟩) ∧ Tm.get 2 t = .pointer (some ⟨m1.n, 0, none⟩) ∧ Tm.get 3 t = .pointer (some ⟨m2.n, 0, none⟩) ∧ Tm.get 4 t = iv i) n hnl
  ⟨_, [], [], C4, rfl, fun j x hj => absurd hj (qb7 _), by simp, by simp, by simp, by simp, by simp, by simp⟩ (fun i t m' k' hi hI hk' => ?_)
 obtain ⟨g, ts, D, hC, hl, he, hin, hokt, t1, t2, t3, t4⟩ := hI
 have S := hC.st.sees
 have lp : ∀ o s, load1 m' ⟨m.n, o, s⟩ = [iv cells, tv][o]? := fun o s => (hC.get 2 rfl).load1 o s
 by_cases hil : i < n
 ·have hd := dlt hil
  have hd' : (i < n) = True := eq_true hil
  have ni := wj (i := i) (by omega)
  obtain ⟨th, hth⟩ : ∃ r, ths[i]? = some r := ⟨_, qae (by omega)⟩
  have hmem := qaf hth
  obtain ⟨x1, x2, x3⟩ := htv.at hth
  have xl : ∀ s, load1 m' ⟨(adr 2 tv i).block, (adr 2 tv i).off, s⟩ = some (iv th.loc) := fun s => x3 m' 0 s S (by simp [qE])
  have c1 := hC.row [.int .i64 0, .slice none 0 0]
  obtain ⟨m5, hm5⟩ := qb8 (Dx.newRow m' [.int .i64 0, .slice none 0 0])
  rw [← hm5] at c1
  obtain ⟨m6, g1, g2, g3⟩ := c1.fill 0 rfl (n := 2) (l' := [iv th.loc, .slice none 0 0]) rfl rfl (by simp [okC])
  have C6 : CJ m m6 g ts (.slice none 0 0) [] (cS m'.n m2.n m1.n m.n th.loc cells (.slice none 0 0) g tv ++ D) := g2
  simp [t1, t4, lp, hll, hd, hd', x1, xl, b_pg, ← hm5, g1, -Vt]
  refine Vo (th := th) hm htv hth (hp.ths th hmem) (hsz.ths th hmem) C6 ⟨by simp [t1], by simp [t2], by simp [t3], by simp [t4], by simp, by simp⟩ (fun t' m7 ga xs D' t1 t2 t3 t4 t5 hC7 hD hxl hxe hxin => ?_)
  obtain ⟨D2, hC8, has, hD2⟩ := hC7.close
  have l3 : ∀ o s, load1 m7 ⟨m2.n, o, s⟩ = [iv cells, g][o]? := fun o s => (hC7.get 1 rfl).load1 o s
  have l5 : loads m7 ⟨m'.n, 0, none⟩ 2 = some [iv th.loc, ga] := (hC7.get 0 rfl).loads (n := 2) (by simp)
  have okga : okC ga = true := hC7.gs.okC
  obtain ⟨nt, hnt⟩ : ∃ nt : Th, nt = ⟨th.loc, ga, xs⟩ := ⟨_, rfl⟩
  have hnr : qE nt = [iv th.loc, ga] := by rw [hnt]; rfl
  have bs := bs_th nt m7
  have C9 := hC8.step (Ext.row m7 (qE nt))
  obtain ⟨m8, hm8⟩ := qb8 (Dx.newRow m7 (qE nt))
  have hl8 : loads m8 ⟨m7.n, 0, some 5⟩ 2 = some (qE nt) := by rw [hm8]; exact (Arr.row m7 _).loads (n := 2) (by rw [hnr]; simp)
  rw [← hm8] at bs C9
  obtain ⟨g', m9, p1, p2, p3⟩ := Qu C9.gt (by omega) (fun _ => rfl) (x := nt) (fun y hy => by
   rcases qb6.1 hy with hy | hy
   ·exact hokt y hy
   ·rw [qal.1 hy, hnr]; simp [okC]; exact okga) hl8 C9.st.ext.n (bytes := 32) (by rw [hl]; have := qb0 32 (show i + 1 ≤ ths.length by omega); omega) (by rw [hl]; unfold qW at hsl; omega)
  have C10 := C9.appT p2 p3
  obtain ⟨m10, q1, q2, q3⟩ := C10.store 1 rfl (o := 1) (v := g') (by simp) C10.gt.okC
  have C11 : CJ m m10 g' (ts ++ [nt]) (.slice none 0 0) [] (cS m'.n m2.n m1.n m.n th.loc cells ga g' tv ++ D2) := q2
  have C12 := C11.sub (σ' := [(m2.n, [iv cells, g']), (m1.n, [.int .i64 0, .slice none 0 0]), (m.n, [iv cells, tv])] ++ D2) (fun p hp => qap _ hp) (by have := C11.st.nd; simp only [List.cons_append, List.map_cons, List.nodup_cons] at this ⊢; exact this.2)
  rw [hnr] at bs
  simp [t3, t4, t5, l3, l5, qf, bs, p1, q1, ni]
  refine hk' hil _ _ ⟨g', ts ++ [nt], D2, C12, by simp [hl], fun j x hj hx => ?_, fun y hy => ?_, fun y hy => ?_, by simp [t1], by simp [t2], by simp [t3], by simp⟩
  ·by_cases hji : j < i
   ·obtain ⟨z, h1, h2⟩ := he j x hji hx
    exact ⟨z, by rw [qau (by omega)]; exact h1, h2⟩
   ·obtain rfl : j = i := by omega
    rw [hth] at hx; cases hx
    exact ⟨nt, by rw [qav (by omega)]; simp [hl], by rw [hnt], by rw [hnt]; exact hxl, fun q y hy => by rw [hnt]; exact hxe q y hy⟩
  ·rcases qb6.1 hy with hy | hy
   ·exact (hin y hy).sub fun p hp => hD2 p (hD p hp)
   ·rw [qal.1 hy, hnt]
    exact ⟨has, fun a ha => (hxin a ha).sub hD2⟩
  ·rcases qb6.1 hy with hy | hy
   ·exact hokt y hy
   ·rw [qal.1 hy, hnr]; simp [okC]; exact okga
 ·obtain rfl : i = n := by omega
  have hd : ((i : Int) < (i : Int)) = False := eq_false (by omega)
  have l3 : loads m' ⟨m2.n, 0, none⟩ 2 = some [iv cells, g] := (hC.get 0 rfl).loads (n := 2) (by simp)
  have okg : okC g = true := hC.gt.okC
  obtain ⟨m8, q1, q2, q3⟩ := hC.fill 1 rfl (n := 2) (l' := [iv cells, g]) rfl rfl (by simp [okC]; exact okg)
  have C8 : CJ m m8 g ts (.slice none 0 0) [] ([(m2.n, [iv cells, g]), (m1.n, [iv cells, g]), (m.n, [iv cells, tv])] ++ D) := q2
  have lf : loads m8 ⟨m1.n, 0, none⟩ 2 = some [iv cells, g] := (C8.get 1 rfl).loads (n := 2) (by simp)
  simp [t1, t2, t3, t4, lp, hll, hd, qf, l3, q1]
  refine Kv (a := ⟨m1.n, 0, none⟩) (by simp [t2]) lf C8.st.ext ?_
  have hnd := C8.st.nd
  have stD : St m m8 D := C8.st.sub (fun p hp => List.mem_append_right _ hp) (by simp only [List.cons_append, List.nil_append, List.map_cons, List.nodup_cons] at hnd; exact hnd.2.2.2)
  have heq : PgEq ⟨cells, g, ts⟩ ⟨cells, tv, ths⟩ := ⟨rfl, by show ts.length = ths.length; omega, fun j x hx => he j x (by have h2 : j < ths.length := (qag.1 hx).1; omega) hx⟩
  rcases C8.gt with ⟨h1, h2⟩ | ⟨B, h1, h2, h3, h4, h5⟩
  ·exact ⟨⟨cells, g, ts⟩, rfl, heq, D, ⟨.inl ⟨h1, h2⟩, hin⟩, stD⟩
  ·refine ⟨⟨cells, g, ts⟩, rfl, heq, (B, ts.flatMap qE) :: D, ⟨.inr ⟨B, _, h4, by simp⟩, fun t ht => (hin t ht).sub fun p hp => qap _ hp⟩, stD.add h1 h2 h5 fun p hp => ?_⟩
   exact C8.sep B (.inl (by rw [h4]; rfl)) p (List.mem_append_right _ hp)
end Go.Sx
namespace Go.Dx
def Alt (v w : Value) : Prop := w = v ∨ (∃ a b, v = .int .i64 a ∧ w = .int .i64 b) ∨ (∃ a b, v = .int .u64 a ∧ w = .int .u64 b) ∨ ((∃ a l c, v = .slice a l c) ∧ w = .slice none 0 0)
theorem Alt.refl (v : Value) : Alt v v := .inl rfl
theorem Alt.trans {u v w : Value} (h : Alt u v) (k : Alt v w) : Alt u w := by
 rcases h with rfl | ⟨a, b, rfl, rfl⟩ | ⟨a, b, rfl, rfl⟩ | ⟨⟨a, l, c, rfl⟩, rfl⟩
 ·exact k
 ·rcases k with rfl | ⟨c, d, e, rfl⟩ | ⟨c, d, e, rfl⟩ | ⟨⟨_, _, _, e⟩, rfl⟩
  ·exact .inr (.inl ⟨a, b, rfl, rfl⟩)
  ·exact .inr (.inl ⟨a, d, rfl, rfl⟩)
  ·cases e
  ·cases e
 ·rcases k with rfl | ⟨c, d, e, rfl⟩ | ⟨c, d, e, rfl⟩ | ⟨⟨_, _, _, e⟩, rfl⟩
  ·exact .inr (.inr (.inl ⟨a, b, rfl, rfl⟩))
  ·cases e
  ·exact .inr (.inr (.inl ⟨a, d, rfl, rfl⟩))
  ·cases e
 ·rcases k with rfl | ⟨c, d, e, rfl⟩ | ⟨c, d, e, rfl⟩ | ⟨_, rfl⟩
  ·exact .inr (.inr (.inr ⟨⟨a, l, c, rfl⟩, rfl⟩))
  ·cases e
  ·cases e
  ·exact .inr (.inr (.inr ⟨⟨a, l, c, rfl⟩, rfl⟩))
theorem Wl {c : C} : ∀ {n o : Nat} {l : List Value}, ldn c o n = some l ↔ l.length = n ∧ ∀ i, i < n → A.get none (o + i) c = l[i]?
 | 0, o, l => by
  rw [yS]
  constructor
  ·intro h; cases h; exact ⟨rfl, fun i hi => absurd hi (qb7 _)⟩
  ·rintro ⟨h, _⟩; rw [List.length_eq_zero_iff.1 h]
 | n + 1, o, l => by
  rw [jB]
  constructor
  ·intro h
   cases hv : A.get none o c with
   | none => rw [hv] at h; cases h
   | some v =>
    cases hr : ldn c (o + 1) n with
    | none => rw [hv, hr] at h; cases h
    | some r =>
     rw [hv, hr] at h
     have e : v :: r = l := by injection h
     obtain ⟨h1, h2⟩ := Wl.1 hr
     subst e
     refine ⟨by simp [h1], fun i hi => ?_⟩
     cases i with
     | zero => simpa using hv
     | succ i => rw [show o + (i + 1) = o + 1 + i by omega, h2 i (by omega)]; simp
  ·rintro ⟨h1, h2⟩
   cases l with
   | nil => simp at h1
   | cons v r =>
    have h0 := h2 0 (by omega)
    simp at h0 h1
    rw [h0, (Wl (n := n) (o := o + 1) (l := r)).2 ⟨h1, fun i hi => by
     have := h2 (i + 1) (by omega)
     rw [show o + 1 + i = o + (i + 1) by omega, this]; simp⟩]
    rfl
theorem xI {m : M} {B o n : Nat} {s : Option Nat} {l : List Value} (hn : 0 < n) : loads m ⟨B, o, s⟩ n = some l ↔ l.length = n ∧ ∀ i, i < n → ∀ s, load1 m ⟨B, o + i, s⟩ = l[i]? := by
 have e1 : loads m ⟨B, o, s⟩ n = ob (cellsOf m B) fun c => ldn c o n := rfl
 have e2 : ∀ i s, load1 m ⟨B, o + i, s⟩ = ob (cellsOf m B) fun c => A.get none (o + i) c := fun _ _ => rfl
 simp only [e1, e2]
 cases hc : cellsOf m B with
 | none =>
  constructor
  ·intro h; cases h
  ·rintro ⟨h1, h2⟩
   have := h2 0 hn none
   have e : ∃ v, l[0]? = some v := ⟨_, qae (by omega)⟩
   obtain ⟨v, hv⟩ := e
   rw [hv] at this
   cases this
 | some c =>
  show ldn c o n = some l ↔ _
  rw [Wl]
  exact ⟨fun ⟨h1, h2⟩ => ⟨h1, fun i hi s => h2 i hi⟩, fun ⟨h1, h2⟩ => ⟨h1, fun i hi => h2 i hi none⟩⟩
theorem Xg : ∀ {vs : List Value} {c : C} {o : Nat}, (∀ i, i < vs.length → ∃ u, A.get none (o + i) c = some u) → (∀ v ∈ vs, okC v = true) → ∃ c', stn c o vs = some c' ∧ ∀ j, A.get none j c' = if o ≤ j ∧ j < o + vs.length then vs[j - o]? else A.get none j c
 | [], c, o, _, _ => ⟨c, rfl, fun j => by rw [if_neg (by simp)]⟩
 | v :: vs, c, o, h, hv => by
  obtain ⟨u, hu⟩ := h 0 (by simp)
  obtain ⟨c', e, h'⟩ := Xg (vs := vs) (c := A.set none (some v) o c) (o := o + 1) (fun i hi => by
   obtain ⟨w, hw⟩ := h (i + 1) (by simpa using hi)
   refine ⟨w, ?_⟩
   rw [A.get_set_ne _ _ (by omega), show o + 1 + i = o + (i + 1) by omega]; exact hw) (fun u hu => hv u (qap _ hu))
  refine ⟨c', ?_, fun j => ?_⟩
  ·show ob (A.get none o c) _ = _
   rw [show o = o + 0 from rfl, hu]
   show (bif okC v then _ else none) = _
   rw [hv v (qay ..)]
   exact e
  ·rw [h' j]
   by_cases hj : j = o
   ·subst hj
    rw [if_neg (by omega), if_pos (by simp), A.get_set_same]; simp
   ·by_cases hk : o + 1 ≤ j ∧ j < o + 1 + vs.length
    ·rw [if_pos hk, if_pos (by simp; omega), show j - o = (j - (o + 1)) + 1 by omega]; simp
    ·rw [if_neg hk, if_neg (by simp; omega), A.get_set_ne _ _ hj]
theorem Vl {m : M} {B o n : Nat} {s : Option Nat} {l l' : List Value} (hn : 0 < n) (hl : loads m ⟨B, o, s⟩ n = some l) (hl' : l'.length = n) (hv : ∀ v ∈ l', okC v = true) :
  ∃ m', qH n (.pointer (some ⟨B, o, s⟩)) (.agg ⟨l'⟩) m = some (undef, m') ∧ m'.n = m.n ∧ m'.base = m.base ∧ (m.base ≤ B → m'.log = m.log) ∧ (∀ X, X ≠ B → m'.obj X = m.obj X) ∧
   ∀ j u, load1 m' ⟨B, j, u⟩ = if o ≤ j ∧ j < o + n then l'[j - o]? else load1 m ⟨B, j, u⟩ := by
 obtain ⟨h1, h2⟩ := (xI hn).1 hl
 unfold loads cellsOf at hl
 cases hc : m.obj B with
 | none => rw [hc] at hl; cases hl
 | some O =>
  cases O with
  | map es => rw [hc] at hl; cases hl
  | loop st t nt ps a b pend => rw [hc] at hl; cases hl
  | cells c =>
   have ld : ∀ j u, load1 m ⟨B, j, u⟩ = A.get none j c := fun j u => by unfold load1 cellsOf; rw [hc]; rfl
   obtain ⟨c', e, h'⟩ := Xg (vs := l') (c := c) (o := o) (fun i hi => by
    have := h2 i (by omega) none
    rw [ld] at this
    exact ⟨_, this.trans (qae (by omega))⟩) hv
   refine ⟨m.put B (.cells c'), ?_, M.n_put _ _ _, M.base_put _ _ _, fun hb => ?_, fun X hX => by rw [M.obj_put, if_neg hX], fun j u => ?_⟩
   ·show (bif Nat.beq l'.length n then ob (wA m ⟨B, o, s⟩ l') _ else none) = _
    rw [hl', Nat.beq_refl]
    cases l' with
    | nil => simp at hl'; omega
    | cons v vs =>
     show ob (ob (jb (m.obj B)) fun c => ob (stn c o (v :: vs)) fun c' => some (m.put B (.cells c'))) _ = _
     rw [hc]
     show ob (ob (stn c o (v :: vs)) fun c' => some (m.put B (.cells c'))) _ = _
     rw [e]; rfl
   ·cases m with | mk a b bs wl =>
    show note bs B wl = wl
    have h' : Nat.ble bs B = true := qam hb
    unfold note
    rw [h']; rfl
   ·have : load1 (m.put B (.cells c')) ⟨B, j, u⟩ = A.get none j c' := by unfold load1 cellsOf; rw [M.obj_put, if_pos rfl]; rfl
    rw [this, h', hl', ld]
structure SpI (S : Nat → Prop) (m m' : M) (own : List (Nat × List Value)) : Prop where
 n : m.n ≤ m'.n
 base : m'.base = m.base
 log : m'.log = m.log
 hb : m.base ≤ m.n
 same : ∀ X, X < m.n → ¬ S X → m'.obj X = m.obj X
 alt : ∀ X, X < m.n → ∀ o s v, load1 m ⟨X, o, s⟩ = some v → ∃ w, load1 m' ⟨X, o, s⟩ = some w ∧ Alt v w
 arr : ∀ p ∈ own, m.n ≤ p.1 ∧ p.1 < m'.n ∧ Arr m' p.1 p.2
section
variable {S : Nat → Prop} {m m' : M} {own : List (Nat × List Value)}
theorem SpI.start (hb : m.base ≤ m.n) : SpI S m m [] := ⟨qah _, rfl, rfl, hb, fun _ _ _ => rfl, fun X _ o s v h => ⟨v, h, Alt.refl v⟩, fun p hp => by cases hp⟩
theorem SpI.row (h : SpI S m m' own) (l : List Value) : SpI S m (newRow m' l) ((m'.n, l) :: own) := by
 have E := Ext.row m' l
 refine ⟨qaq h.n E.n, E.base.trans h.base, E.log.trans h.log, h.hb, fun X hX hS => (E.obj X (qaj hX h.n)).trans (h.same X hX hS), fun X hX o s v hv => ?_, fun p hp => ?_⟩
 ·obtain ⟨w, h1, h2⟩ := h.alt X hX o s v hv
  exact ⟨w, by rw [← h1]; unfold load1 cellsOf; rw [E.obj X (qaj hX h.n)], h2⟩
 ·rcases List.mem_cons.1 hp with rfl | hp
  ·exact ⟨h.n, by rw [qm]; show m'.n < m'.n + 1; omega, Arr.row _ _⟩
  ·obtain ⟨h1, h2, h3⟩ := h.arr p hp
   exact ⟨h1, qaj h2 E.n, h3.ext E h2⟩
theorem SpI.sub {own' : List (Nat × List Value)} (h : SpI S m m' own) (hs : ∀ p ∈ own', p ∈ own) : SpI S m m' own' := ⟨h.n, h.base, h.log, h.hb, h.same, h.alt, fun p hp => h.arr p (hs p hp)⟩
theorem SpI.load (h : SpI S m m' own) {B : Nat} {l : List Value} (hp : (B, l) ∈ own) (o : Nat) (s : Option Nat) : load1 m' ⟨B, o, s⟩ = l[o]? := (h.arr _ hp).2.2.load1 o s
theorem SpI.loads (h : SpI S m m' own) {B : Nat} {l : List Value} (hp : (B, l) ∈ own) (s : Option Nat) : Dx.loads m' ⟨B, 0, s⟩ l.length = some l := by
 have := (h.arr _ hp).2.2.loads (o := 0) (n := l.length) (s := s) (by simp)
 rw [this]; simp
theorem SpI.rowAt (h : SpI S m m' own) {X o n : Nat} {s : Option Nat} {l : List Value} (hX : X < m.n) (hn : 0 < n) (hl : Dx.loads m ⟨X, o, s⟩ n = some l) :
  ∃ l', Dx.loads m' ⟨X, o, s⟩ n = some l' ∧ l'.length = n ∧ ∀ (i : Nat) (v : Value), l[i]? = some v → ∃ w, l'[i]? = some w ∧ Alt v w := by
 obtain ⟨h1, h2⟩ := (xI hn).1 hl
 have key : ∀ k, k ≤ n → ∃ l' : List Value, l'.length = k ∧ ∀ (i : Nat) (v : Value), i < k → l[i]? = some v → ∃ w, l'[i]? = some w ∧ Alt v w ∧ load1 m' ⟨X, o + i, none⟩ = some w := by
  intro k
  induction k with
  | zero => intro _; exact ⟨[], rfl, fun i v hi => absurd hi (qb7 _)⟩
  | succ k ih =>
   intro hk
   obtain ⟨l', e1, e2⟩ := ih (by omega)
   obtain ⟨lk, hv⟩ : ∃ v, l[k]? = some v := ⟨_, qae (by omega)⟩
   obtain ⟨w, hw, ha⟩ := h.alt X hX (o + k) none _ ((h2 k (by omega) none).trans hv)
   refine ⟨l' ++ [w], by simp [e1], fun i v hi hiv => ?_⟩
   by_cases hik : i < k
   ·obtain ⟨w', q1, q2, q3⟩ := e2 i v hik hiv
    exact ⟨w', by rw [qau (by omega)]; exact q1, q2, q3⟩
   ·obtain rfl : i = k := by omega
    rw [hv] at hiv; cases hiv
    exact ⟨w, by rw [qav (by omega)]; simp [e1], ha, hw⟩
 obtain ⟨l', e1, e2⟩ := key n (qah _)
 refine ⟨l', (xI hn).2 ⟨e1, fun i hi s => ?_⟩, e1, fun i v hiv => ?_⟩
 ·obtain ⟨li, hv⟩ : ∃ v, l[i]? = some v := ⟨_, qae (by omega)⟩
  obtain ⟨w, q1, q2, q3⟩ := e2 i _ hi hv
  rw [q1]; exact q3
 ·have hi : i < n := by have := (qag.1 hiv).1; omega
  obtain ⟨w, q1, q2, q3⟩ := e2 i v hi hiv
  exact ⟨w, q1, q2⟩
theorem SpI.spoil (h : SpI S m m' own) {X o n : Nat} {s : Option Nat} {l l' : List Value} (hX : X < m.n) (hS : S X) (hbX : m.base ≤ X) (hn : 0 < n) (hl : Dx.loads m ⟨X, o, s⟩ n = some l) (hl' : l'.length = n) (hv : ∀ v ∈ l', okC v = true) (ha : ∀ (i : Nat) (v w : Value), l[i]? = some v → l'[i]? = some w → Alt v w) :
  ∃ m2, qH n (.pointer (some ⟨X, o, s⟩)) (.agg ⟨l'⟩) m' = some (undef, m2) ∧ SpI S m m2 own ∧ m2.n = m'.n ∧
   ((∀ (i : Nat) (v : Value), l[i]? = some v → ∃ k a, v = .int k a) → ∀ (Y j : Nat) (u : Option Nat) (a : Option Addr) (b c : Nat), load1 m' ⟨Y, j, u⟩ = some (.slice a b c) → load1 m2 ⟨Y, j, u⟩ = some (.slice a b c)) := by
 obtain ⟨r, hr, hrl, hra⟩ := h.rowAt hX hn hl
 obtain ⟨h1, h2⟩ := (xI hn).1 hl
 obtain ⟨m2, s1, s2, s3, s4, s5, s6⟩ := Vl hn hr hl' hv
 refine ⟨m2, s1, ⟨by rw [s2]; exact h.n, s3.trans h.base, (s4 (by rw [h.base]; exact hbX)).trans h.log, h.hb, fun Y hY hSY => (s5 Y (fun e => hSY (e ▸ hS))).trans (h.same Y hY hSY), fun Y hY j u v hv' => ?_, fun p hp => ?_⟩, s2, fun hi Y j u a b c hy => ?_⟩
 ·by_cases hYX : Y = X
  ·subst hYX
   rw [s6]
   by_cases hj : o ≤ j ∧ j < o + n
   ·rw [if_pos hj]
    have e1 := h2 (j - o) (by omega) u
    rw [show o + (j - o) = j by omega, hv'] at e1
    obtain ⟨w, e2⟩ : ∃ w, l'[j - o]? = some w := ⟨_, qae (by omega)⟩
    exact ⟨_, e2, ha (j - o) v _ e1.symm e2⟩
   ·rw [if_neg hj]; exact h.alt Y hY j u v hv'
  ·obtain ⟨w, q1, q2⟩ := h.alt Y hY j u v hv'
   exact ⟨w, by rw [← q1]; unfold load1 cellsOf; rw [s5 Y hYX], q2⟩
 ·obtain ⟨q1, q2, q3⟩ := h.arr p hp
  exact ⟨q1, by rw [s2]; exact q2, q3.congr (s5 p.1 (by omega))⟩
 ·by_cases hYX : Y = X
  ·subst hYX
   rw [s6]
   by_cases hj : o ≤ j ∧ j < o + n
   ·exfalso
    have e1 := ((xI hn).1 hr).2 (j - o) (by omega) u
    rw [show o + (j - o) = j by omega, hy] at e1
    obtain ⟨v, hv1⟩ : ∃ v, l[j - o]? = some v := ⟨_, qae (by omega)⟩
    obtain ⟨w, hw, hA⟩ := hra _ _ hv1
    obtain ⟨k, x, rfl⟩ := hi _ _ hv1
    rw [← e1] at hw
    cases hw
    rcases hA with e | ⟨_, _, _, e⟩ | ⟨_, _, _, e⟩ | ⟨⟨_, _, _, e⟩, _⟩ <;> cases e
   ·rw [if_neg hj]; exact hy
  ·rw [← hy]; unfold load1 cellsOf; rw [s5 Y hYX]
theorem SpI.fill {B : Nat} {l l' : List Value} (h : SpI S m m' ((B, l) :: own)) (hne : ∀ p ∈ own, p.1 ≠ B) {n : Nat} (hn : 0 < n) (hl : l.length = n) (hl' : l'.length = n) (hv : ∀ v ∈ l', okC v = true) :
  ∃ m2, qH n (.pointer (some ⟨B, 0, none⟩)) (.agg ⟨l'⟩) m' = some (undef, m2) ∧ SpI S m m2 ((B, l') :: own) ∧ m2.n = m'.n ∧ ∀ X, X ≠ B → m2.obj X = m'.obj X := by
 obtain ⟨b1, b2, b3⟩ := h.arr _ (qay ..)
 have e := wQ (n := n) (o := 0) (v := .agg ⟨l'⟩) (l := l') b3 rfl hl' (by simp only; omega) hv
 obtain ⟨_, s2, s3, s4, s5, s6⟩ := qY (o := 0) (l := l') b3 (by simp only; omega) hv
 have eo : over l 0 l' = l' := by simpa using bY l' l [] (by omega)
 have hB : m.n ≤ B := b1
 refine ⟨_, e, ⟨by rw [s3]; exact h.n, s4.trans h.base, (s6 (by rw [h.base]; have := h.hb; show m.base ≤ B; omega)).trans h.log, h.hb, fun X hX hS => (s5 X (by show X ≠ B; omega)).trans (h.same X hX hS), fun X hX o s v hv' => ?_, fun p hp => ?_⟩, s3, s5⟩
 ·obtain ⟨w, q1, q2⟩ := h.alt X hX o s v hv'
  exact ⟨w, by rw [← q1]; unfold load1 cellsOf; rw [s5 X (by show X ≠ B; omega)], q2⟩
 ·rcases List.mem_cons.1 hp with rfl | hp
  ·refine ⟨b1, by rw [s3]; exact b2, ?_⟩
   have := s2
   rw [show over (B, l).2 0 l' = l' from eo] at this
   exact this
  ·obtain ⟨q1, q2, q3⟩ := h.arr p (qap _ hp)
   exact ⟨q1, by rw [s3]; exact q2, q3.congr (s5 p.1 (hne p hp))⟩
end
end Go.Dx
namespace Go.Sx
open Go.Dx Go.Proofs
set_option maxRecDepth 10000
structure ST (t : Tm) (T1 i j T4 : Nat) : Prop where
 t1 : Tm.get 1 t = .pointer (some ⟨T1, 0, none⟩)
 t2 : Tm.get 2 t = iv i
 t3 : Tm.get 3 t = iv j
 t4 : Tm.get 4 t = .pointer (some ⟨T4, 0, none⟩)
abbrev dW : List Value := [.int .i64 99, .int .u64 0, .int .i64 0, .int .i64 0]
abbrev ac99 : List Value := [.int .i64 99, .int .i64 0, .int .i64 0, .int .i64 0, .slice none 0 0, .slice none 0 0, .slice none 0 0, .int .i64 0, .int .i64 0, .int .i64 0, .int .i64 0]
abbrev th99 : List Value := [.int .i64 99, .slice none 0 0]
theorem Jv (r : Nd) : ∀ (i : Nat) (v w : Value), (qg r)[i]? = some v → dW[i]? = some w → Alt v w := by
 intro i v w hv hw
 match i, hv, hw with
 | 0, hv, hw => simp [qg] at hv hw; subst hv; subst hw; exact .inr (.inl ⟨_, _, rfl, rfl⟩)
 | 1, hv, hw => simp [qg] at hv hw; subst hv; subst hw; exact .inr (.inr (.inl ⟨_, _, rfl, rfl⟩))
 | 2, hv, hw => simp [qg] at hv hw; subst hv; subst hw; exact .inr (.inl ⟨_, _, rfl, rfl⟩)
 | 3, hv, hw => simp [qg] at hv hw; subst hv; subst hw; exact .inr (.inl ⟨_, _, rfl, rfl⟩)
 | i + 4, hv, hw => simp at hw
theorem ZL (r : Nd) : ∀ (i : Nat) (v : Value), (qg r)[i]? = some v → ∃ k a, v = .int k a := by
 intro i v hv
 match i, hv with
 | 0, hv => simp [qg] at hv; exact ⟨_, _, hv.symm⟩
 | 1, hv => simp [qg] at hv; exact ⟨_, _, hv.symm⟩
 | 2, hv => simp [qg] at hv; exact ⟨_, _, hv.symm⟩
 | 3, hv => simp [qg] at hv; exact ⟨_, _, hv.symm⟩
 | i + 4, hv => simp [qg] at hv
theorem ac_alt {m : M} {a : Ac} (h : AcOK m a) : ∀ (i : Nat) (v w : Value), (qe a)[i]? = some v → ac99[i]? = some w → Alt v w := by
 intro i v w hv hw
 match i, hv, hw with
 | 0, hv, hw => simp [qe] at hv hw; subst hv; subst hw; exact .inr (.inl ⟨_, _, rfl, rfl⟩)
 | 1, hv, hw => simp [qe] at hv hw; subst hv; subst hw; exact .inr (.inl ⟨_, _, rfl, rfl⟩)
 | 2, hv, hw => simp [qe] at hv hw; subst hv; subst hw; exact .inr (.inl ⟨_, _, rfl, rfl⟩)
 | 3, hv, hw => simp [qe] at hv hw; subst hv; subst hw; exact .inr (.inl ⟨_, _, rfl, rfl⟩)
 | 4, hv, hw => simp [qe] at hv hw; subst hv; subst hw; exact .inr (.inr (.inr ⟨zX h.ix.len, rfl⟩))
 | 5, hv, hw => simp [qe] at hv hw; subst hv; subst hw; exact .inr (.inr (.inr ⟨zX h.ev.len, rfl⟩))
 | 6, hv, hw => simp [qe] at hv hw; subst hv; subst hw; exact .inr (.inr (.inr ⟨zX h.fv.len, rfl⟩))
 | 7, hv, hw => simp [qe] at hv hw; subst hv; subst hw; exact .inr (.inl ⟨_, _, rfl, rfl⟩)
 | 8, hv, hw => simp [qe] at hv hw; subst hv; subst hw; exact .inr (.inl ⟨_, _, rfl, rfl⟩)
 | 9, hv, hw => simp [qe] at hv hw; subst hv; subst hw; exact .inr (.inl ⟨_, _, rfl, rfl⟩)
 | 10, hv, hw => simp [qe] at hv hw; subst hv; subst hw; exact .inr (.inl ⟨_, _, rfl, rfl⟩)
 | i + 11, hv, hw => simp at hw
theorem th_alt {m : M} {t : Th} (h : ThOK m t) : ∀ (i : Nat) (v w : Value), (qE t)[i]? = some v → th99[i]? = some w → Alt v w := by
 intro i v w hv hw
 match i, hv, hw with
 | 0, hv, hw => simp [qE] at hv hw; subst hv; subst hw; exact .inr (.inl ⟨_, _, rfl, rfl⟩)
 | 1, hv, hw => simp [qE] at hv hw; subst hv; subst hw; exact .inr (.inr (.inr ⟨zX h.av.len, rfl⟩))
 | i + 2, hv, hw => simp at hw
theorem _root_.Go.Dx.Alt.okC {v w : Value} (h : Alt v w) (hv : Dx.okC v = true) : Dx.okC w = true := by
 rcases h with rfl | ⟨_, _, _, rfl⟩ | ⟨_, _, _, rfl⟩ | ⟨_, rfl⟩
 ·exact hv
 ·rfl
 ·rfl
 ·rfl
theorem _root_.Go.Dx.Alt.sl {v w n : Value} (h : Alt v w) (hv : qL v = some n) : w = v ∨ w = .slice none 0 0 := by
 rcases h with rfl | ⟨_, _, rfl, _⟩ | ⟨_, _, rfl, _⟩ | ⟨_, rfl⟩
 ·exact .inl rfl
 ·cases hv
 ·cases hv
 ·exact .inr rfl
theorem bZ {e i : Nat} {v p : Value} (h : qZ e v (.int .i64 (i : Int)) = some p) : blk v = some (adr e v i).block := by
 cases v with
 | slice a l c =>
  cases a with
  | none =>
   cases h
  | some a => rfl
 | _ => cases h
section
variable {S : Nat → Prop} {m m' : M} {own : List (Nat × List Value)} {T1 T4 i j : Nat} {tm : Tm}
theorem spoil5 {R : List Value} {v : Value} {es : List Nd} (hR : R[5]? = some v) (hv : Rd m v 4 qg es) (hel : es.length ≤ 9223372036854775807) (hS : ∀ B, blk v = some B → S B ∧ m.base ≤ B) (h : SpI S m m' ((T4, R) :: own)) (hT : ST tm T1 i j T4) {x : Ex} {kn kr : K} {ke : Nat → K} {Q : Option Out → Prop}
  (H : ∀ t' m2, ST t' T1 i j T4 → SpI S m m2 ((T4, R) :: own) → (∀ (Y j : Nat) (u : Option Nat) (a : Option Addr) (b c : Nat), load1 m' ⟨Y, j, u⟩ = some (.slice a b c) → load1 m2 ⟨Y, j, u⟩ = some (.slice a b c)) → Q (kn t' m2)) : Q (ZU x kn ke kr tm m') := by
 obtain ⟨t1, t2, t3, t4⟩ := hT
 simp
 have l0 : ∀ m2, SpI S m m2 ((T4, R) :: own) → ∀ s, load1 m2 ⟨T4, 5, s⟩ = some v := fun m2 h s => by rw [h.load (qay ..)]; exact hR
 obtain ⟨n, hn⟩ := qb8 (es.length)
 have hlen := hv.len
 rw [← hn] at hlen hel
 refine qq (c := GN) rfl Q (fun q t m2 => ST t T1 i j T4 ∧ SpI S m m2 ((T4, R) :: own) ∧ (∀ (Y j : Nat) (u : Option Nat) (a : Option Addr) (b c : Nat), load1 m' ⟨Y, j, u⟩ = some (.slice a b c) → load1 m2 ⟨Y, j, u⟩ = some (.slice a b c)) ∧ Tm.get 5 t = iv q) n (by omega)
  ⟨⟨by simp [t1], by simp [t2], by simp [t3], by simp [t4]⟩, h, fun _ _ _ _ _ _ h => h, by simp⟩ (fun q t m2 k hq hI hkk => ?_)
 obtain ⟨hT', hs, hK, tq⟩ := hI
 obtain ⟨u1, u2, u3, u4⟩ := hT'
 by_cases hqn : q < n
 ·have hd := dlt hqn
  have hd' : (q < n) = True := eq_true hqn
  have nq := wj (i := q) (by omega)
  have er : es[q]? = some es[q] := qae (by omega)
  obtain ⟨ia, a1, a2⟩ := hv.row q _ er
  obtain ⟨b1, b2⟩ := hS _ (bZ ia)
  have bb : wn [.int .i64 0, .int .u64 0, .int .i64 0, .int .i64 0] [(0, 1, .int .i64 99)] = some (.agg ⟨dW⟩) := rfl
  obtain ⟨m3, s1, s2, s3, s4⟩ := hs.spoil (X := (adr 4 v q).block) (o := (adr 4 v q).off) (s := (adr 4 v q).spot) (n := 4) (l := qg es[q]) (l' := dW) a1 b1 b2 (by omega) a2 rfl (by simp [okC]) (Jv _)
  have s1' : qH 4 (.pointer (some (adr 4 v q))) (.agg ⟨dW⟩) m2 = some (undef, m3) := s1
  have hsl := s4 (ZL _)
  simp [u4, tq, l0 m2 hs, hlen, hd, hd', ia, bb, s1', nq]
  exact hkk hqn _ _ ⟨⟨by simp [u1], by simp [u2], by simp [u3], by simp [u4]⟩, s2, fun Y j u a b c h => hsl Y j u a b c (hK Y j u a b c h), by simp⟩
 ·obtain rfl : q = n := by omega
  have hd : ((q : Int) < (q : Int)) = False := eq_false (by omega)
  simp [u4, tq, l0 m2 hs, hlen, hd]
  exact H _ _ ⟨by simp [u1], by simp [u2], by simp [u3], by simp [u4]⟩ hs hK
theorem spoil6 {R : List Value} {v : Value} {es : List Nd} (hR : R[6]? = some v) (hv : Rd m v 4 qg es) (hel : es.length ≤ 9223372036854775807) (hS : ∀ B, blk v = some B → S B ∧ m.base ≤ B) (h : SpI S m m' ((T4, R) :: own)) (hT : ST tm T1 i j T4) {x : Ex} {kn kr : K} {ke : Nat → K} {Q : Option Out → Prop}
  (H : ∀ t' m2, ST t' T1 i j T4 → SpI S m m2 ((T4, R) :: own) → (∀ (Y j : Nat) (u : Option Nat) (a : Option Addr) (b c : Nat), load1 m' ⟨Y, j, u⟩ = some (.slice a b c) → load1 m2 ⟨Y, j, u⟩ = some (.slice a b c)) → Q (kn t' m2)) : Q (ZN x kn ke kr tm m') := by
 obtain ⟨t1, t2, t3, t4⟩ := hT
 simp
 have l0 : ∀ m2, SpI S m m2 ((T4, R) :: own) → ∀ s, load1 m2 ⟨T4, 6, s⟩ = some v := fun m2 h s => by rw [h.load (qay ..)]; exact hR
 obtain ⟨n, hn⟩ := qb8 (es.length)
 have hlen := hv.len
 rw [← hn] at hlen hel
 refine qq (c := Gd) rfl Q (fun q t m2 => ST t T1 i j T4 ∧ SpI S m m2 ((T4, R) :: own) ∧ (∀ (Y j : Nat) (u : Option Nat) (a : Option Addr) (b c : Nat), load1 m' ⟨Y, j, u⟩ = some (.slice a b c) → load1 m2 ⟨Y, j, u⟩ = some (.slice a b c)) ∧ Tm.get 6 t = iv q) n (by omega)
  ⟨⟨by simp [t1], by simp [t2], by simp [t3], by simp [t4]⟩, h, fun _ _ _ _ _ _ h => h, by simp⟩ (fun q t m2 k hq hI hkk => ?_)
 obtain ⟨hT', hs, hK, tq⟩ := hI
 obtain ⟨u1, u2, u3, u4⟩ := hT'
 by_cases hqn : q < n
 ·have hd := dlt hqn
  have hd' : (q < n) = True := eq_true hqn
  have nq := wj (i := q) (by omega)
  have er : es[q]? = some es[q] := qae (by omega)
  obtain ⟨ia, a1, a2⟩ := hv.row q _ er
  obtain ⟨b1, b2⟩ := hS _ (bZ ia)
  have bb : wn [.int .i64 0, .int .u64 0, .int .i64 0, .int .i64 0] [(0, 1, .int .i64 99)] = some (.agg ⟨dW⟩) := rfl
  obtain ⟨m3, s1, s2, s3, s4⟩ := hs.spoil (X := (adr 4 v q).block) (o := (adr 4 v q).off) (s := (adr 4 v q).spot) (n := 4) (l := qg es[q]) (l' := dW) a1 b1 b2 (by omega) a2 rfl (by simp [okC]) (Jv _)
  have s1' : qH 4 (.pointer (some (adr 4 v q))) (.agg ⟨dW⟩) m2 = some (undef, m3) := s1
  have hsl := s4 (ZL _)
  simp [u4, tq, l0 m2 hs, hlen, hd, hd', ia, bb, s1', nq]
  exact hkk hqn _ _ ⟨⟨by simp [u1], by simp [u2], by simp [u3], by simp [u4]⟩, s2, fun Y j u a b c h => hsl Y j u a b c (hK Y j u a b c h), by simp⟩
 ·obtain rfl : q = n := by omega
  have hd : ((q : Int) < (q : Int)) = False := eq_false (by omega)
  simp [u4, tq, l0 m2 hs, hlen, hd]
  exact H _ _ ⟨by simp [u1], by simp [u2], by simp [u3], by simp [u4]⟩ hs hK
theorem spoil4 {R : List Value} {v : Value} {es : List Nd} (hR : R[4]? = some v) (hv : Rd m v 4 qg es) (hel : es.length ≤ 9223372036854775807) (hS : ∀ B, blk v = some B → S B ∧ m.base ≤ B) (h : SpI S m m' ((T4, R) :: own)) (hT : ST tm T1 i j T4) {x : Ex} {kn kr : K} {ke : Nat → K} {Q : Option Out → Prop}
  (H : ∀ t' m2, ST t' T1 i j T4 → SpI S m m2 ((T4, R) :: own) → (∀ (Y j : Nat) (u : Option Nat) (a : Option Addr) (b c : Nat), load1 m' ⟨Y, j, u⟩ = some (.slice a b c) → load1 m2 ⟨Y, j, u⟩ = some (.slice a b c)) → Q (kn t' m2)) : Q (Jr x kn ke kr tm m') := by
 obtain ⟨t1, t2, t3, t4⟩ := hT
 simp
 have l0 : ∀ m2, SpI S m m2 ((T4, R) :: own) → ∀ s, load1 m2 ⟨T4, 4, s⟩ = some v := fun m2 h s => by rw [h.load (qay ..)]; exact hR
 obtain ⟨n, hn⟩ := qb8 (es.length)
 have hlen := hv.len
 rw [← hn] at hlen hel
 refine qq (c := Gg) rfl Q (fun q t m2 => ST t T1 i j T4 ∧ SpI S m m2 ((T4, R) :: own) ∧ (∀ (Y j : Nat) (u : Option Nat) (a : Option Addr) (b c : Nat), load1 m' ⟨Y, j, u⟩ = some (.slice a b c) → load1 m2 ⟨Y, j, u⟩ = some (.slice a b c)) ∧ Tm.get 7 t = iv q) n (by omega)
  ⟨⟨by simp [t1], by simp [t2], by simp [t3], by simp [t4]⟩, h, fun _ _ _ _ _ _ h => h, by simp⟩ (fun q t m2 k hq hI hkk => ?_)
 obtain ⟨hT', hs, hK, tq⟩ := hI
 obtain ⟨u1, u2, u3, u4⟩ := hT'
 by_cases hqn : q < n
 ·have hd := dlt hqn
  have hd' : (q < n) = True := eq_true hqn
  have nq := wj (i := q) (by omega)
  have er : es[q]? = some es[q] := qae (by omega)
  obtain ⟨ia, a1, a2⟩ := hv.row q _ er
  obtain ⟨b1, b2⟩ := hS _ (bZ ia)
  have bb : wn [.int .i64 0, .int .u64 0, .int .i64 0, .int .i64 0] [(0, 1, .int .i64 99)] = some (.agg ⟨dW⟩) := rfl
  obtain ⟨m3, s1, s2, s3, s4⟩ := hs.spoil (X := (adr 4 v q).block) (o := (adr 4 v q).off) (s := (adr 4 v q).spot) (n := 4) (l := qg es[q]) (l' := dW) a1 b1 b2 (by omega) a2 rfl (by simp [okC]) (Jv _)
  have s1' : qH 4 (.pointer (some (adr 4 v q))) (.agg ⟨dW⟩) m2 = some (undef, m3) := s1
  have hsl := s4 (ZL _)
  simp [u4, tq, l0 m2 hs, hlen, hd, hd', ia, bb, s1', nq]
  exact hkk hqn _ _ ⟨⟨by simp [u1], by simp [u2], by simp [u3], by simp [u4]⟩, s2, fun Y j u a b c h => hsl Y j u a b c (hK Y j u a b c h), by simp⟩
 ·obtain rfl : q = n := by omega
  have hd : ((q : Int) < (q : Int)) = False := eq_false (by omega)
  simp [u4, tq, l0 m2 hs, hlen, hd]
  exact H _ _ ⟨by simp [u1], by simp [u2], by simp [u3], by simp [u4]⟩ hs hK
theorem spoilA {p : Pg} {t : Th} (hp : PgOK m p) (hS : ∀ X, ye p X → S X ∧ m.base ≤ X) (ht : p.ths[i]? = some t) (h : SpI S m m' [(T1, [iv p.cells, p.tv])]) (t1 : Tm.get 1 tm = .pointer (some ⟨T1, 0, none⟩)) (t2 : Tm.get 2 tm = iv i) {x : Ex} {kn kr : K} {ke : Nat → K} {Q : Option Out → Prop}
  (H : ∀ t' m2, Tm.get 1 t' = .pointer (some ⟨T1, 0, none⟩) → Tm.get 2 t' = iv i → SpI S m m2 [(T1, [iv p.cells, p.tv])] → Q (kn t' m2)) : Q (ZB x kn ke kr tm m') := by
 have htm := qaf ht
 have hto := hp.ths t htm
 obtain ⟨ix, x1, x2⟩ := hp.tv.row i t ht
 have l0 := fun s => jK (s := s) x2 (o := 1) (v := t.av) rfl
 obtain ⟨n, hn⟩ := qb8 (t.acts.length)
 have hlen := hto.av.len
 have hll := hto.len
 rw [← hn] at hlen hll
 have nl : qL (.slice none 0 0) = some (.int .i64 ((0 : Nat) : Int)) := rfl
 simp
 refine qq (c := GK) rfl Q (fun q t m2 => Tm.get 1 t = .pointer (some ⟨T1, 0, none⟩) ∧ Tm.get 2 t = iv i ∧ SpI S m m2 [(T1, [iv p.cells, p.tv])] ∧ Tm.get 3 t = iv q) n (by omega)
  ⟨by simp [t1], by simp [t2], h, by simp⟩ (fun q tm2 m2 k hq hI hkk => ?_)
 obtain ⟨u1, u2, hs, tq⟩ := hI
 have l1 : ∀ o s, load1 m2 ⟨T1, o, s⟩ = [iv p.cells, p.tv][o]? := fun o s => hs.load (qay ..) o s
 obtain ⟨w, lw, hw⟩ := hs.alt _ x1 _ none _ (l0 none)
 have lw' : ∀ s, load1 m2 ⟨(adr 2 p.tv i).block, (adr 2 p.tv i).off + 1, s⟩ = some w := fun s => lw
 rcases hw.sl hto.av.len with rfl | rfl
 ·by_cases hqn : q < n
  ·have hd := dlt hqn
   have hd' : (q < n) = True := eq_true hqn
   have nq := wj (i := q) (by omega)
   obtain ⟨a, ha⟩ : ∃ a, t.acts[q]? = some a := ⟨_, qae (by omega)⟩
   have ham := qaf ha
   have hao := hto.acts a ham
   obtain ⟨ia, a1, a2⟩ := hto.av.row q a ha
   obtain ⟨b1, b2⟩ := hS _ (.inr ⟨t, htm, .inl (bZ ia)⟩)
   obtain ⟨R, hRm, hRl, hRa⟩ := hs.rowAt (X := (adr 11 t.av q).block) (o := (adr 11 t.av q).off) (s := (adr 11 t.av q).spot) (n := 11) a1 (by omega) a2
   have hRm' : loads m2 (adr 11 t.av q) 11 = some R := hRm
   have hRok : ∀ v ∈ R, Dx.okC v = true := fun v hv => by
    obtain ⟨f, hf⟩ := qb1 hv
    have hfl := (qag.1 hf).1
    obtain ⟨u, hu⟩ : ∃ u, (qe a)[f]? = some u := ⟨_, qae (by rw [qv]; omega)⟩
    obtain ⟨w, q1, q2⟩ := hRa f u hu
    rw [hf] at q1; cases q1
    exact q2.okC (qM hao u (qaf hu))
   obtain ⟨T4, hT4⟩ := qb8 (m2.n)
   have hs1 := hs.row zAc
   obtain ⟨m3, hm3⟩ := qb8 (Dx.newRow m2 zAc)
   rw [← hm3, ← hT4] at hs1
   have hx3 : ∀ X, X < m2.n → m3.obj X = m2.obj X := fun X hX => by rw [hm3]; exact (Ext.row _ _).obj X hX
   have hT1 := (hs.arr _ (qay ..)).2.1
   obtain ⟨m4, f1, f2, f3, f4⟩ := hs1.fill (fun p hp => by rw [qal.1 hp]; show T1 ≠ T4; have : T1 < m2.n := hT1; omega) (n := 11) (l' := R) (by omega) rfl hRl hRok
   have lw4 : ∀ (Y j : Nat) (u : Option Nat) (v : Value), Y < m.n → load1 m2 ⟨Y, j, u⟩ = some v → load1 m4 ⟨Y, j, u⟩ = some v := fun Y j u v hY hv => by
    have := hs.n
    rw [← hv]; unfold load1 cellsOf; rw [f4 Y (by show Y ≠ T4; omega), hx3 Y (by omega)]
   have sub : ∀ (f : Nat) (v : Value) (es : List Nd), (qe a)[f]? = some v → Rd m v 4 qg es → es.length ≤ 9223372036854775807 → (∀ B, blk v = some B → zd a B) → ∃ w ws, R[f]? = some w ∧ Rd m w 4 qg ws ∧ ws.length ≤ 9223372036854775807 ∧ ∀ B, blk w = some B → S B ∧ m.base ≤ B := fun f v es hf hv hl hin => by
    obtain ⟨w, q1, q2⟩ := hRa f v hf
    rcases q2.sl hv.len with rfl | rfl
    ·exact ⟨_, es, q1, hv, hl, fun B hB => hS B (.inr ⟨t, htm, .inr ⟨a, ham, hin B hB⟩⟩)⟩
    ·exact ⟨_, [], q1, ku, by simp, fun B hB => by cases hB⟩
   obtain ⟨v5, l5, e5, r5, n5, z5⟩ := sub 5 a.ev a.es rfl hao.ev hao.evl (fun B hB => .inr (.inl hB))
   obtain ⟨v6, l6, e6, r6, n6, z6⟩ := sub 6 a.fv a.fs rfl hao.fv hao.fvl (fun B hB => .inr (.inr hB))
   obtain ⟨v4, l4, e4, r4, n4, z4⟩ := sub 4 a.ix a.ixs rfl hao.ix hao.ixl (fun B hB => .inl hB)
   simp [u1, u2, tq, l1, ix, lw', hlen, hd, hd', ia, qf, hRm', ← hm3, ← hT4, f1, -Yb, -Qs, -fM]
   refine spoil5 e5 r5 n5 z5 f2 (T1 := T1) (i := i) (j := q) ?_ fun t3 m5 hT3 s3 k3 => ?_
   ·exact ⟨by simp [u1], by simp [u2], by simp [tq], by simp⟩
   simp [-Qs, -fM]
   refine spoil6 e6 r6 n6 z6 s3 hT3 fun t4 m6 hT4 s4 k4 => ?_
   simp [-fM]
   refine spoil4 e4 r4 n4 z4 s4 hT4 fun t5 m7 hT5 s5 k5 => ?_
   obtain ⟨w1, w2, w3, w4⟩ := hT5
   obtain ⟨sa, sb, sc, hav⟩ := zX hto.av.len
   have lw7 : ∀ s, load1 m7 ⟨(adr 2 p.tv i).block, (adr 2 p.tv i).off + 1, s⟩ = some t.av := fun s => by
    rw [hav]
    refine k5 _ _ _ _ _ _ (k4 _ _ _ _ _ _ (k3 _ _ _ _ _ _ (lw4 _ _ _ _ x1 ?_)))
    rw [lw' s, hav]
   have l7 : ∀ o s, load1 m7 ⟨T1, o, s⟩ = [iv p.cells, p.tv][o]? := fun o s => s5.load (qap _ (qay ..)) o s
   have bb : wn zAc [(0, 1, .int .i64 99)] = some (.agg ⟨ac99⟩) := rfl
   obtain ⟨m8, g1, g2, g3, _⟩ := s5.spoil (X := (adr 11 t.av q).block) (o := (adr 11 t.av q).off) (s := (adr 11 t.av q).spot) (n := 11) (l := qe a) (l' := ac99) a1 b1 b2 (by omega) a2 rfl (by simp [okC]) (ac_alt hao)
   have g1' : qH 11 (.pointer (some (adr 11 t.av q))) (.agg ⟨ac99⟩) m7 = some (undef, m8) := g1
   simp [w1, w2, w3, w4, l7, ix, lw7, ia, bb, g1', nq]
   exact hkk hqn _ _ ⟨by simp [w1], by simp [w2], g2.sub (fun p hp => qap _ hp), by simp⟩
  ·obtain rfl : q = n := by omega
   have hd : ((q : Int) < (q : Int)) = False := eq_false (by omega)
   simp [u1, u2, tq, l1, ix, lw', hlen, hd]
   exact H _ _ (by simp [u1]) (by simp [u2]) hs
 ·have hd : ((q : Int) < ((0 : Nat) : Int)) = False := eq_false (by omega)
  simp [u1, u2, tq, l1, ix, lw', nl, hd]
  exact H _ _ (by simp [u1]) (by simp [u2]) hs
end
theorem XZ (p : Pg) {S : Nat → Prop} {m : M} (hm : m.base ≤ m.n) (hp : PgOK m p) (hS : ∀ X, ye p X → S X ∧ m.base ≤ X) (N : Nat) :
  ∃ v m', (ex Tryz.prog (N + 1)).f 18 [pgV p] m = some (v, m') ∧ SpI S m m' [] := by
 refine kM (args := [pgV p]) (m := m) (Q := fun v m' => SpI S m m' []) da9_ok (by simp) ?_
 have s1 := (SpI.start (S := S) hm).row [iv p.cells, p.tv]
 obtain ⟨m1, hm1⟩ := qb8 (Dx.newRow m [iv p.cells, p.tv])
 rw [← hm1] at s1
 obtain ⟨n, hn⟩ := qb8 (p.ths.length)
 have hlen := hp.tv.len
 have hll := hp.len
 rw [← hn] at hlen hll
 have bx : yA (pgV p) m = some (.pointer (some ⟨m.n, 0, none⟩), m1) := by rw [hm1]; rfl
 simp [bx]
 refine qq (c := Bg) rfl (jc _) (fun q t m' => Tm.get 1 t = .pointer (some ⟨m.n, 0, none⟩) ∧ SpI S m m' [(m.n, [iv p.cells, p.tv])] ∧ Tm.get 2 t = iv q) n (by omega) ⟨by simp, s1, by simp⟩ (fun q t m' k hq hI hkk => ?_)
 obtain ⟨u1, hs, tq⟩ := hI
 have l1 : ∀ o s, load1 m' ⟨m.n, o, s⟩ = [iv p.cells, p.tv][o]? := fun o s => hs.load (qay ..) o s
 by_cases hqn : q < n
 ·have hd := dlt hqn
  have hd' : (q < n) = True := eq_true hqn
  have nq := wj (i := q) (by omega)
  obtain ⟨t0, ht⟩ : ∃ t, p.ths[q]? = some t := ⟨_, qae (by omega)⟩
  have htm := qaf ht
  obtain ⟨ix, x1, x2⟩ := hp.tv.row q t0 ht
  obtain ⟨b1, b2⟩ := hS _ (.inl (bZ ix))
  simp [u1, tq, l1, hlen, hd, hd', -Yq]
  refine spoilA (i := q) (T1 := m.n) hp hS ht hs (by simp [u1]) (by simp [tq]) fun t2 m2 w1 w2 s2 => ?_
  have l2 : ∀ o s, load1 m2 ⟨m.n, o, s⟩ = [iv p.cells, p.tv][o]? := fun o s => s2.load (qay ..) o s
  have bb : wn [.int .i64 0, .slice none 0 0] [(0, 1, .int .i64 99)] = some (.agg ⟨th99⟩) := rfl
  obtain ⟨m6, g1, g2, g3, _⟩ := s2.spoil (X := (adr 2 p.tv q).block) (o := (adr 2 p.tv q).off) (s := (adr 2 p.tv q).spot) (n := 2) (l := qE t0) (l' := th99) x1 b1 b2 (by omega) x2 rfl (by simp [okC]) (th_alt (hp.ths t0 htm))
  have g1' : qH 2 (.pointer (some (adr 2 p.tv q))) (.agg ⟨th99⟩) m2 = some (undef, m6) := g1
  simp [w1, w2, l2, ix, bb, g1', nq]
  exact hkk hqn _ _ ⟨by simp [w1], g2, by simp⟩
 ·obtain rfl : q = n := by omega
  have hd : ((q : Int) < (q : Int)) = False := eq_false (by omega)
  simp [u1, tq, l1, hlen, hd]
  exact yh (hs.sub (fun p hp => by cases hp))
end Go.Sx
namespace Go.Sx
open Go.Dx Go.Proofs
set_option maxRecDepth 10000
theorem ThEq.leq {a b : Th} (h : ThEq a b) : LEq a.acts b.acts := ⟨h.len, fun j x y hx hy => by
 obtain ⟨z, hz, e⟩ := h.acts j y hy
 rw [hx] at hz; cases hz; exact e⟩
theorem PgEq.at {p q : Pg} (h : PgEq p q) {j : Nat} {u w : Th} (hu : p.ths[j]? = some u) (hw : q.ths[j]? = some w) : u.loc = w.loc ∧ LEq u.acts w.acts := by
 obtain ⟨y, hy, e⟩ := h.ths j w hw
 rw [hu] at hy; cases hy
 exact ⟨e.loc, e.leq⟩
theorem PgEq.of {p q : Pg} (hc : p.cells = q.cells) (hl : p.ths.length = q.ths.length) (h : ∀ (j : Nat) u w, p.ths[j]? = some u → q.ths[j]? = some w → u.loc = w.loc ∧ LEq u.acts w.acts) : PgEq p q := ⟨hc, hl, fun j x hx => by
 obtain ⟨y, hy⟩ := kL hl.symm hx
 obtain ⟨e1, e2⟩ := h j y x hy hx
 exact ⟨y, hy, LEq.theq e1 e2⟩⟩
theorem PgEq.refl (p : Pg) : PgEq p p := PgEq.of rfl rfl fun j u w hu hw => by rw [hu] at hw; cases hw; exact ⟨rfl, LEq.refl _⟩
theorem PgEq.symm {p q : Pg} (h : PgEq p q) : PgEq q p := PgEq.of h.cells.symm h.len.symm fun j u w hu hw => let ⟨e1, e2⟩ := h.at hw hu; ⟨e1.symm, e2.symm⟩
theorem XM {a p : Pg} (h : PgEq a p) (hp : pgB p = true) : pgB a = true := by
 obtain ⟨h1, h2, h3⟩ := jV.1 hp
 refine jV.2 ⟨by rw [h.cells]; exact h1, by rw [h.len]; exact h2, fun t ht => ?_⟩
 obtain ⟨j, hj⟩ := qb1 ht
 obtain ⟨w, hw⟩ := kL h.len hj
 obtain ⟨e1, e2⟩ := h.at hj hw
 obtain ⟨k1, k2⟩ := h3 w (qaf hw)
 rw [e1, h.cells]
 exact ⟨k1, k2.leq e2⟩
theorem Yu {a p : Pg} (h : PgEq a p) : pgB a = pgB p := by
 cases hp : pgB p with
 | true => exact XM h hp
 | false =>
  cases ha : pgB a with
  | false => rfl
  | true => rw [XM h.symm ha] at hp; cases hp
theorem bh {x y : List Ac} (h : LEq x y) : ∀ i, LEq (rdN i x) (rdN i y)
 | 0 => h
 | i + 1 => bc (bh h i)
theorem Stop.leq {a p : Pg} (h : PgEq a p) {i : Nat} (hs : Stop p i) : Stop a i := fun u hu => by
 obtain ⟨j, hj⟩ := qb1 hu
 obtain ⟨w, hw⟩ := kL h.len hj
 have e := (h.at hj hw).2
 exact (LEq.al (bh e i) (bh e (i + 1))).2 (hs w (qaf hw))
def RR (p q : Pg) (b : Nat) : Prop := (pgB p = false ∧ q = jG ∧ b = 1) ∨ (pgB p = true ∧ PgR q p ∧ b = 0)
def OO (p q : Pg) (n b : Nat) : Prop := (pgB p = false ∧ q = jG ∧ n = 0 ∧ b = 1) ∨ (pgB p = true ∧ b = 0 ∧ PgK p (n + 1) q ∧ Stop p n ∧ ∀ i, i < n → ¬ Stop p i)
theorem RR.same {a p q w : Pg} {b c : Nat} (h : PgEq a p) (h1 : RR a q b) (h2 : RR p w c) : b = c ∧ PgEq q w := by
 have hB := Yu h
 rcases h1 with ⟨a1, rfl, rfl⟩ | ⟨a1, a2, rfl⟩ <;> rcases h2 with ⟨b1, rfl, rfl⟩ | ⟨b1, b2, rfl⟩
 ·exact ⟨rfl, PgEq.refl _⟩
 ·rw [a1, b1] at hB; cases hB
 ·rw [a1, b1] at hB; cases hB
 ·refine ⟨rfl, PgEq.of (by rw [a2.cells, b2.cells, h.cells]) (by rw [a2.len, b2.len, h.len]) fun j u x hu hx => ?_⟩
  obtain ⟨y, hy⟩ := kL a2.len hu
  obtain ⟨z, hz⟩ := kL b2.len hx
  have k1 := a2.ths j u y hu hy
  have k2 := b2.ths j x z hx hz
  obtain ⟨e1, e2⟩ := h.at hy hz
  exact ⟨by rw [k1.loc, k2.loc, e1], k1.acts.trans ((bc e2).trans k2.acts.symm)⟩
theorem OO.same {a p q w : Pg} {n k b c : Nat} (h : PgEq a p) (h1 : OO a q k b) (h2 : OO p w n c) : b = c ∧ k = n ∧ PgEq q w := by
 have hB := Yu h
 rcases h1 with ⟨a1, rfl, rfl, rfl⟩ | ⟨a1, rfl, a2, a3, a4⟩ <;> rcases h2 with ⟨b1, rfl, rfl, rfl⟩ | ⟨b1, rfl, b2, b3, b4⟩
 ·exact ⟨rfl, rfl, PgEq.refl _⟩
 ·rw [a1, b1] at hB; cases hB
 ·rw [a1, b1] at hB; cases hB
 ·have hkn : k = n := by
   rcases Nat.lt_trichotomy k n with hlt | e | hlt
   ·exact absurd (a3.leq h.symm) (b4 k hlt)
   ·exact e
   ·exact absurd (b3.leq h) (a4 n hlt)
  subst hkn
  refine ⟨rfl, rfl, PgEq.of (by rw [a2.cells, b2.cells, h.cells]) (by rw [a2.len, b2.len, h.len]) fun j u x hu hx => ?_⟩
  obtain ⟨y, hy⟩ := kL a2.len hu
  obtain ⟨z, hz⟩ := kL b2.len hx
  obtain ⟨k1, k2⟩ := a2.ths j u y hu hy
  obtain ⟨k3, k4⟩ := b2.ths j x z hx hz
  obtain ⟨e1, e2⟩ := h.at hy hz
  exact ⟨by rw [k1, k3, e1], k2.trans ((bh e2 _).trans k4.symm)⟩
theorem WK (m : M) : PgOK m jG := ⟨ku, fun t ht => (by cases ht), by simp [jG]⟩
theorem Yt {X : Nat} (h : ye jG X) : False := by
 rcases h with h | ⟨t, ht, _⟩
 ·cases h
 ·cases ht
theorem DC (N : Nat) (hN : 65560 ≤ N) (m : M) (hm : m.base ≤ m.n) (p : Pg) (hp : PgOK m p) : Dx.Call (ex Tryz.prog (N + 5)) 15 [pgV p] m fun v m' => ∃ q b, v = .tuple #[pgV q, iv (b : Nat)] ∧ PgOK m' q ∧ RR p q b ∧ ∀ X, ye q X → m.n ≤ X :=
 (XW N hN m hm p hp).mono fun v m' _ h => by
  rcases h with ⟨h1, rfl⟩ | ⟨h1, q, rfl, h2⟩
  ·exact ⟨jG, 1, rfl, WK _, .inl ⟨h1, rfl, rfl⟩, fun X hX => (Yt hX).elim⟩
  ·exact ⟨q, 0, rfl, h2.ok, .inr ⟨h1, h2.r, rfl⟩, h2.new⟩
theorem Jg (N : Nat) (hN : 131080 ≤ N) (m : M) (hm : m.base ≤ m.n) (p : Pg) (hp : PgOK m p) : Dx.Call (ex Tryz.prog (N + 5)) 12 [pgV p] m fun v m' => ∃ q b, v = .tuple #[pgV q, iv (b : Nat)] ∧ PgOK m' q ∧ RR p q b :=
 (yv N hN m hm p hp).mono fun v m' _ h => by
  rcases h with ⟨h1, rfl⟩ | ⟨h1, q, rfl, h2⟩
  ·exact ⟨jG, 1, rfl, WK _, .inl ⟨h1, rfl, rfl⟩⟩
  ·exact ⟨q, 0, rfl, h2.ok, .inr ⟨h1, h2.r, rfl⟩⟩
theorem Opt_u (N : Nat) (hN : 65560 ≤ N) (m : M) (hm : m.base ≤ m.n) (p : Pg) (hp : PgOK m p) : Dx.Call (ex Tryz.prog (N + 7)) 16 [pgV p] m fun v m' => ∃ q n b, v = .tuple #[pgV q, iv (n : Nat), iv (b : Nat)] ∧ PgOK m' q ∧ OO p q n b ∧ ∀ X, ye q X → m.n ≤ X :=
 (Opt_c N hN m hm p hp).mono fun v m' _ h => by
  rcases h with ⟨h1, rfl⟩ | ⟨h1, n, q, rfl, h2⟩
  ·exact ⟨jG, 0, 1, rfl, WK _, .inl ⟨h1, rfl, rfl, rfl⟩, fun X hX => (Yt hX).elim⟩
  ·exact ⟨q, n, 0, rfl, h2.ok, .inr ⟨h1, rfl, h2.k, h2.stop, h2.first⟩, h2.new⟩
theorem BM (N : Nat) (hN : 131080 ≤ N) (m : M) (hm : m.base ≤ m.n) (p : Pg) (hp : PgOK m p) : Dx.Call (ex Tryz.prog (N + 6)) 13 [pgV p] m fun v m' => ∃ q n b, v = .tuple #[pgV q, iv (n : Nat), iv (b : Nat)] ∧ PgOK m' q ∧ OO p q n b :=
 (FN N hN m hm p hp).mono fun v m' _ h => by
  rcases h with ⟨h1, rfl⟩ | ⟨h1, n, q, rfl, h2⟩
  ·exact ⟨jG, 0, 1, rfl, WK _, .inl ⟨h1, rfl, rfl, rfl⟩⟩
  ·exact ⟨q, n, 0, rfl, h2.ok, .inr ⟨h1, rfl, h2.k, h2.stop, h2.first⟩⟩
theorem dL {m0 m : M} {σ : List (Nat × List Value)} (st : St m0 m σ) {q : Pg} (hq : PgOK m q) : ∃ m', qH 2 (.pointer (some ⟨m.n, 0, none⟩)) (pgV q) (Dx.newRow m zTh) = some (undef, m') ∧ St m0 m' ((m.n, [iv q.cells, q.tv]) :: σ) ∧ m'.n = m.n + 1 ∧ Ext m m' := by
 have st1 := st.row zTh
 obtain ⟨m', s1, s2, s3, s4⟩ := st1.fill 0 rfl (n := 2) (l' := [iv q.cells, q.tv]) rfl rfl (jF hq)
 have E1 := Ext.row m zTh
 have hb : m.base ≤ m.n := st.sees.self.base
 have st2 := (St.nil hb (Ext.refl m)).row zTh
 obtain ⟨m2, r1, r2, r3, r4⟩ := st2.fill 0 rfl (n := 2) (l' := [iv q.cells, q.tv]) rfl rfl (jF hq)
 rw [s1] at r1; cases r1
 exact ⟨m', s1, s2, by rw [s3, qm], r2.ext⟩
theorem _root_.Go.Dx.SpI.ext {S : Nat → Prop} {a m m' : M} (h : SpI S m m' []) (e : Ext a m) (hS : ∀ X, S X → a.n ≤ X) : Ext a m' :=
 ⟨qaq e.n h.n, fun X hX => (h.same X (qaj hX e.n) fun hs => by have := hS X hs; omega).trans (e.obj X hX), h.base.trans e.base, h.log.trans e.log⟩
theorem OptTells_c (p : Pg) (hsz : PgSz p) (N : Nat) (hN : 131100 ≤ N) (m : M) (hm : m.base ≤ m.n) (hp : PgOK m p) : CallV (Ex.step Tryz.prog (xA N)) 4 [pgV p] m (.bool true) := by
 refine step_ret da0_ok (by simp) ?_
 have pv : ∀ q : Pg, (.agg ⟨[iv q.cells, q.tv]⟩ : Value) = pgV q := fun q => rfl
 obtain ⟨m1, hm1⟩ := qb8 (Dx.newRow m [iv p.cells, p.tv])
 have st1 := (St.nil hm (Ext.refl m)).row [iv p.cells, p.tv]
 rw [← hm1] at st1
 have bx : yA (pgV p) m = some (.pointer (some ⟨m.n, 0, none⟩), m1) := by rw [hm1]; rfl
 have lp1 : loads m1 ⟨m.n, 0, none⟩ 2 = some [iv p.cells, p.tv] := (st1.get 0 rfl).2.2.loads (by simp)
 obtain ⟨v2, m2, c1, c2, want, bd, rfl, w1, w2⟩ := Jg (N - 5) (by omega) m1 st1.sees.self.base p (hp.sees st1.sees)
 rw [show N - 5 + 5 = N by omega] at c1
 have st2 := st1.step c2
 obtain ⟨T3, hT3⟩ := qb8 (m2.n)
 obtain ⟨m3, s3, st3, n3, x3⟩ := dL st2 w1
 obtain ⟨M3, hM3⟩ := qb8 (Dx.newRow m2 zTh)
 rw [← hM3, ← hT3] at s3
 rw [← hT3] at st3
 have w3 := w1.sees (st2.sees.self.ext x3)
 have lp3 : loads m3 ⟨m.n, 0, none⟩ 2 = some [iv p.cells, p.tv] := (st3.get 1 rfl).2.2.loads (by simp)
 obtain ⟨v4, m4, d1, d2, full, n, bd', rfl, f1, f2⟩ := BM (N - 6) (by omega) m3 st3.sees.self.base p (hp.sees st3.sees)
 rw [show N - 6 + 6 = N by omega] at d1
 have st4 := st3.step d2
 have w4 := w3.sees (st3.sees.self.ext d2)
 obtain ⟨T5, hT5⟩ := qb8 (m4.n)
 obtain ⟨m5, s5, st5, n5, x5⟩ := dL st4 f1
 obtain ⟨M5, hM5⟩ := qb8 (Dx.newRow m4 zTh)
 rw [← hM5, ← hT5] at s5
 rw [← hT5] at st5
 have w5 := w4.sees (st4.sees.self.ext x5)
 have f5 := f1.sees (st4.sees.self.ext x5)
 have lp5 : loads m5 ⟨m.n, 0, none⟩ 2 = some [iv p.cells, p.tv] := (st5.get 2 rfl).2.2.loads (by simp)
 obtain ⟨v6, m6, e1, e2, a, D, rfl, e3, e4, e5⟩ := Copy_c p hsz (N - 1) m5 st5.sees.self.base (hp.sees st5.sees)
 rw [show N - 1 + 1 = N by omega] at e1
 have a6 : PgOK m6 a := pg_ok e5 e4 e3 hp
 have st6 := st5.step e2
 have w6 := w5.sees (st5.sees.self.ext e2)
 have f6 := f5.sees (st5.sees.self.ext e2)
 obtain ⟨T8, hT8⟩ := qb8 (m6.n)
 obtain ⟨m9, s9, st9, n9, x9⟩ := dL st6 a6
 obtain ⟨M9, hM9⟩ := qb8 (Dx.newRow m6 zTh)
 rw [← hM9, ← hT8] at s9
 rw [← hT8] at st9
 have w9 := w6.sees (st6.sees.self.ext x9)
 have f9 := f6.sees (st6.sees.self.ext x9)
 have a9 := a6.sees (st6.sees.self.ext x9)
 have hb9 : m9.base ≤ m9.n := st9.sees.self.base
 simp [bx, lp1, qf, pv, xA_f, c1, ← hM3, ← hT3, s3, lp3, d1, ← hM5, ← hT5, s5, lp5, e1, ← hM9, ← hT8, s9]
 refine qq (c := Bq) rfl (Ret m _) (fun i t m' => Ext m9 m' ∧ Tm.get 1 t = .pointer (some ⟨m.n, 0, none⟩) ∧ Tm.get 3 t = .pointer (some ⟨T3, 0, none⟩) ∧ Tm.get 4 t = iv bd ∧ Tm.get 5 t = .pointer (some ⟨T5, 0, none⟩) ∧ Tm.get 6 t = iv n ∧ Tm.get 8 t = .pointer (some ⟨T8, 0, none⟩) ∧ Tm.get 9 t = iv i) 2 (by omega)
  ⟨Ext.refl m9, by simp, by simp, by simp, by simp, by simp, by simp, by simp⟩ (fun i t m' k hi hI hk => ?_)
 obtain ⟨hX, t1, t3, t4, t5, t6, t8, t9⟩ := hI
 have st' := st9.step hX
 have S' : Sees m9 m' := (Sees.refl hb9).ext hX
 have lpN : loads m' ⟨m.n, 0, none⟩ 2 = some [iv p.cells, p.tv] := (st'.get 3 rfl).2.2.loads (by simp)
 have laN : loads m' ⟨T8, 0, none⟩ 2 = some [iv a.cells, a.tv] := (st'.get 0 rfl).2.2.loads (by simp)
 have a' := a9.sees S'
 by_cases hil : i < 2
 ·have hd : ((i : Int) < 2) = True := eq_true (by omega)
  have ni := wj (i := i) (by omega)
  obtain ⟨v10, m10, g1, g2, q, qb, rfl, q1, q2, q3⟩ := DC (N - 5) (by omega) m' st'.sees.self.base a a'
  rw [show N - 5 + 5 = N by omega] at g1
  obtain ⟨rfl, q4⟩ := q2.same e3 w2
  have st10 := st'.step g2
  obtain ⟨T10, hT10⟩ := qb8 (m10.n)
  obtain ⟨m11, s11, st11, n11, x11⟩ := dL st10 q1
  obtain ⟨M11, hM11⟩ := qb8 (Dx.newRow m10 zTh)
  rw [← hM11, ← hT10] at s11
  rw [← hT10] at st11
  have S11 : Sees m9 m11 := (S'.ext g2).ext x11
  have la11 : loads m11 ⟨T8, 0, none⟩ 2 = some [iv a.cells, a.tv] := (st11.get 1 rfl).2.2.loads (by simp)
  obtain ⟨v12, m12, h1, h2, r, kk, rb, rfl, r1, r2, r3⟩ := Opt_u (N - 7) (by omega) m11 st11.sees.self.base a (a9.sees S11)
  rw [show N - 7 + 7 = N by omega] at h1
  obtain ⟨hrb, rfl, r4⟩ := r2.same e3 f2
  have hbb : bd' = qb := by
   rcases w2 with ⟨z1, _, z3⟩ | ⟨z1, _, z3⟩ <;> rcases f2 with ⟨z4, _, _, z5⟩ | ⟨z4, z5, _⟩
   ·omega
   ·rw [z1] at z4; cases z4
   ·rw [z1] at z4; cases z4
   ·omega
  subst hrb
  subst hbb
  have st12 := st11.step h2
  obtain ⟨T12, hT12⟩ := qb8 (m12.n)
  obtain ⟨m13, s13, st13, n13, x13⟩ := dL st12 r1
  obtain ⟨M13, hM13⟩ := qb8 (Dx.newRow m12 zTh)
  rw [← hM13, ← hT12] at s13
  rw [← hT12] at st13
  have S13 : Sees m9 m13 := (S11.ext h2).ext x13
  have q13 : PgOK m13 q := ((q1.sees (st10.sees.self.ext x11)).sees (st11.sees.self.ext h2)).sees (st12.sees.self.ext x13)
  have r13 : PgOK m13 r := r1.sees (st12.sees.self.ext x13)
  have st13' : St m m13 [(T12, [iv r.cells, r.tv]), (T10, [iv q.cells, q.tv]), (T8, [iv a.cells, a.tv]), (T5, [iv full.cells, full.tv]), (T3, [iv want.cells, want.tv]), (m.n, [iv p.cells, p.tv])] := st13
  have lq13 : loads m13 ⟨T10, 0, none⟩ 2 = some [iv q.cells, q.tv] := (st13'.get 1 rfl).2.2.loads (by simp)
  have lw13 : loads m13 ⟨T3, 0, none⟩ 2 = some [iv want.cells, want.tv] := (st13'.get 4 rfl).2.2.loads (by simp)
  obtain ⟨v14, m14, i1, i2, rfl⟩ := WI q want (N - 2) m13 st13'.sees.self.base q13 (w9.sees S13)
  rw [show N - 2 + 2 = N by omega, yY q4] at i1
  have st14 := st13'.step i2
  have S14 := S13.ext i2
  have lr14 : loads m14 ⟨T12, 0, none⟩ 2 = some [iv r.cells, r.tv] := (st14.get 0 rfl).2.2.loads (by simp)
  have lf14 : loads m14 ⟨T5, 0, none⟩ 2 = some [iv full.cells, full.tv] := (st14.get 3 rfl).2.2.loads (by simp)
  obtain ⟨v15, m15, j1, j2, rfl⟩ := WI r full (N - 2) m14 st14.sees.self.base (r13.sees (st13'.sees.self.ext i2)) (f9.sees S14)
  rw [show N - 2 + 2 = N by omega, yY r4] at j1
  have st15 := st14.step j2
  have q15 : PgOK m15 q := (q13.sees (st13'.sees.self.ext i2)).sees (st14.sees.self.ext j2)
  have r15 : PgOK m15 r := (r13.sees (st13'.sees.self.ext i2)).sees (st14.sees.self.ext j2)
  have lq15 : loads m15 ⟨T10, 0, none⟩ 2 = some [iv q.cells, q.tv] := (st15.get 1 rfl).2.2.loads (by simp)
  have E15 : Ext m' m15 := (((((g2.trans x11).trans h2).trans x13).trans i2).trans j2)
  have hb15 : m15.base ≤ m15.n := st15.sees.self.base
  have hbase : m15.base = m'.base := E15.base
  have hmb : m'.base ≤ m'.n := st'.sees.self.base
  have gn := g2.n
  have hn2 := h2.n
  obtain ⟨v16, m16, k1, k2⟩ := XZ q (S := ye q) hb15 q15 (fun X hX => ⟨hX, by have := q3 X hX; omega⟩) (N - 1)
  rw [show N - 1 + 1 = N by omega] at k1
  have qlt : ∀ X, ye q X → X < T10 := fun X hX => by have := q1.lt hX; omega
  have E16 : Ext m' m16 := k2.ext E15 q3
  have n15 := E15.n
  have T12l : T12 < m15.n := (st15.get 0 rfl).2.1
  have T10T12 : T10 ≤ T12 := by omega
  have hr16 : ∀ X, ye r X → m16.obj X = m15.obj X := fun X hX => k2.same X (r15.lt hX) fun hq => by
   have h5 := qlt X hq
   have h6 := r3 X hX
   omega
  have r16 : PgOK m16 r := r15.congr k2.n hr16
  have lr16 : loads m16 ⟨T12, 0, none⟩ 2 = some [iv r.cells, r.tv] := by
   have h7 : loads m15 ⟨T12, 0, none⟩ 2 = some [iv r.cells, r.tv] := (st15.get 0 rfl).2.2.loads (by simp)
   rw [← h7]; unfold loads cellsOf
   rw [k2.same T12 T12l fun hq => by have := qlt T12 hq; omega]
  have hb16 : m16.base ≤ m16.n := by rw [k2.base]; have := k2.n; omega
  obtain ⟨v17, m17, z1, z2⟩ := XZ r (S := ye r) hb16 r16 (fun X hX => ⟨hX, by rw [k2.base]; have := r3 X hX; omega⟩) (N - 1)
  rw [show N - 1 + 1 = N by omega] at z1
  have E17 : Ext m' m17 := z2.ext E16 fun X hX => by have := r3 X hX; omega
  have ti : ∀ (x : Nat), (if x = x then true else false) = true := fun x => by simp
  simp [t1, t3, t4, t5, t6, t8, t9, hd, hil, laN, qf, pv, xA_f, g1, ← hM11, ← hT10, s11, la11, h1, ← hM13, ← hT12, s13, lq13, lw13, i1, lr14, lf14, j1, lq15, k1, lr16, z1, ni]
  exact hk hil _ _ ⟨hX.trans E17, by simp [t1], by simp [t3], by simp [t4], by simp [t5], by simp [t6], by simp [t8], by simp⟩
 ·obtain rfl : i = 2 := by omega
  have aw : ∀ mm, (xA N).f 11 [] mm = some (.bool true, mm) := fun mm => xA_aw N mm
  obtain ⟨v10, m10, g1, g2, rfl⟩ := WI a p (N - 2) m' st'.sees.self.base a' (hp.sees st'.sees)
  rw [show N - 2 + 2 = N by omega, yY e3] at g1
  simp [t1, t8, t9, laN, lpN, qf, pv, xA_f, g1, aw]
  exact qh (st'.ext.trans g2) (by simp)
end Go.Sx
