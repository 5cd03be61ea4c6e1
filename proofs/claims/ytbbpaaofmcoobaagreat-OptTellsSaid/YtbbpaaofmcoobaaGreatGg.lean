/- Contracts. -/
import Derived.Test.YtbbpaaofmcoobaaGreatGf
import Derived.Test.YtbbpaaofmcoobaaGreatGe
import Derived.Test.YtbbpaaofmcoobaaGreatGb2
import Derived.Test.YtbbpaaofmcoobaaGreatGc
import Derived.Test.YtbbpaaofmcoobaaGreatGd
set_option linter.unusedVariables false
set_option linter.unusedSimpArgs false
set_option linter.defProp false
namespace Go.Dx
noncomputable section
structure GE {α : Type} (m0 m : M) (σ : List (Nat × List Value)) (g : Value) (e : Nat) (f : α → List Value) (rows : List α) : Prop where
 st : St m0 m σ
 gr : GrR m0 m g e f rows
 sep : ∀ B, blk g = some B → ∀ p ∈ σ, p.1 ≠ B
section
variable {α : Type} {m0 m m' : M} {σ σ' : List (Nat × List Value)} {g : Value} {e : Nat} {f : α → List Value} {rows : List α}
theorem GE.nil (h : St m0 m σ) : GE m0 m σ (.slice none 0 0) e f ([] : List α) := ⟨h, .nil, fun B hB => by cases hB⟩
theorem GE.step (h : GE m0 m σ g e f rows) (k : Ext m m') : GE m0 m' σ g e f rows := ⟨h.st.step k, h.gr.keep k.n fun B hB _ => k.obj B hB, h.sep⟩
theorem GE.sub (h : GE m0 m σ g e f rows) (hs : ∀ p ∈ σ', p ∈ σ) (hn : (σ'.map (·.1)).Nodup) : GE m0 m σ' g e f rows := ⟨h.st.sub hs hn, h.gr, fun B hB p hp => h.sep B hB p (hs p hp)⟩
theorem GE.row (h : GE m0 m σ g e f rows) (l : List Value) : GE m0 (newRow m l) ((m.n, l) :: σ) g e f rows := by
 refine ⟨h.st.row l, h.gr.keep (Ext.row m l).n fun B hB _ => (Ext.row m l).obj B hB, fun B hB p hp => ?_⟩
 rcases List.mem_cons.1 hp with rfl | hp
 ·have := (h.gr.low B hB).2; simp; omega
 ·exact h.sep B hB p hp
theorem setk {k b : Nat} {l l' : List Value} (hk : σ[k]? = some (b, l)) {p : Nat × List Value} (hp : p ∈ σ.set k (b, l')) : ∃ q ∈ σ, q.1 = p.1 := by
 obtain ⟨j, hj, rfl⟩ := List.getElem_of_mem hp
 rw [List.getElem_set]
 rw [List.length_set] at hj
 split
 ·exact ⟨_, qaf hk, rfl⟩
 ·exact ⟨_, List.getElem_mem hj, rfl⟩
theorem GE.put (h : GE m0 m σ g e f rows) {k b : Nat} {l l' : List Value} (hk : σ[k]? = some (b, l)) (s2 : St m0 m' (σ.set k (b, l'))) (s3 : m'.n = m.n) (s4 : ∀ X, X ≠ b → m'.obj X = m.obj X) : GE m0 m' (σ.set k (b, l')) g e f rows := by
 refine ⟨s2, h.gr.keep (by omega) fun B hB hb => s4 B fun e => ?_, fun B hB p hp => ?_⟩
 ·exact h.sep B hb (b, l) (qaf hk) e.symm
 ·obtain ⟨q, h1, h2⟩ := setk hk hp
  rw [← h2]; exact h.sep B hB q h1
theorem GE.store (h : GE m0 m σ g e f rows) (k : Nat) {b o : Nat} {l : List Value} {v : Value} (hk : σ[k]? = some (b, l)) (ho : o < l.length) (hv : okC v = true) :
  ∃ m', qH 1 (.pointer (some ⟨b, o, none⟩)) v m = some (undef, m') ∧ GE m0 m' (σ.set k (b, l.set o v)) g e f rows ∧ m'.n = m.n ∧ ∀ X, X ≠ b → m'.obj X = m.obj X := by
 obtain ⟨m', s1, s2, s3, s4⟩ := h.st.store k hk ho hv
 exact ⟨m', s1, h.put hk s2 s3 s4, s3, s4⟩
theorem GE.fill (h : GE m0 m σ g e f rows) (k : Nat) {b n : Nat} {l l' : List Value} (hk : σ[k]? = some (b, l)) (hl : l.length = n) (hl' : l'.length = n) (hv : ∀ v ∈ l', okC v = true) :
  ∃ m', qH n (.pointer (some ⟨b, 0, none⟩)) (.agg ⟨l'⟩) m = some (undef, m') ∧ GE m0 m' (σ.set k (b, l')) g e f rows ∧ m'.n = m.n ∧ ∀ X, X ≠ b → m'.obj X = m.obj X := by
 obtain ⟨h1, h2, h3⟩ := h.st.get k hk
 have e1 := wQ (n := n) (o := 0) (v := .agg ⟨l'⟩) (l := l') h3 rfl hl' (by omega) hv
 obtain ⟨_, s2, s3, s4, s5, s6⟩ := qY (o := 0) (l := l') h3 (by omega) hv
 rw [vM (by omega)] at s2
 have s2' := h.st.put' k hk s3 s4 (s6 (by have := h.st.ext.base; have := h.st.base; omega)) s5 s2
 exact ⟨_, e1, h.put hk s2' s3 s5, s3, s5⟩
theorem GE.push (h : GE m0 m σ g e f rows) (he : 0 < e) (hf : ∀ x, (f x).length = e) {x : α} (hok : ∀ y ∈ rows ++ [x], ∀ v ∈ f y, okC v = true) {M1 : M} (hM : Ext m M1) {X : Nat} {sp : Option Nat} (hx : loads M1 ⟨X, 0, sp⟩ e = some (f x)) {bytes : Nat} (hm : (rows.length + 1) * bytes ≤ qW) (hn : rows.length + 1 ≤ 4611686018427387904) :
  ∃ v' m2, qS M1 e bytes g (.slice (some ⟨X, 0, sp⟩) 1 1) = some (v', m2) ∧ GE m0 m2 σ v' e f (rows ++ [x]) ∧ M1.n ≤ m2.n ∧ (∀ B, B < m.n → blk g ≠ some B → m2.obj B = m.obj B) := by
 have h' := h.step hM
 obtain ⟨v', m3, p1, p2, p3, p4, p5, p6, p7⟩ := h'.gr.push he hf hok hx h'.st.ext.n hm hn
 have hlo : ∀ B, blk g = some B → m0.n ≤ B := fun B hB => (h'.gr.low B hB).1
 have hb := h.st.base
 have hE : Ext m0 m3 := by
  refine ⟨qaq h'.st.ext.n p3, fun B hB => ?_, p4.trans h'.st.ext.base, ?_⟩
  ·rw [p6 B (qaj hB h'.st.ext.n) fun e => by have := hlo B e; omega]; exact h'.st.ext.obj B hB
  ·rw [p5 fun B hB => by have := hlo B hB; rw [h'.st.ext.base]; omega]; exact h'.st.ext.log
 refine ⟨v', m3, p1, ⟨h'.st.keepOn hE p3 fun p hp => p6 p.1 (h'.st.arr p hp).2.1 fun e => h'.sep p.1 e p hp rfl, p2, fun B hB p hp => ?_⟩, p3, fun B hB hne => by rw [p6 B (qaj hB hM.n) hne, hM.obj B hB]⟩
 rcases p7 B hB with e | e
 ·exact h.sep B e p hp
 ·have := (h'.st.arr p hp).2.1; omega
theorem GE.done (h : GE m0 m σ g e f rows) (hne : rows ≠ []) : ∃ B c L, g = .slice (some ⟨B, 0, some (code e false)⟩) rows.length c ∧ rows.length ≤ c ∧ 0 < c ∧ L.length = (c - rows.length) * e ∧ St m0 m ((B, rows.flatMap f ++ L) :: σ) := by
 rcases h.gr with ⟨e1, _⟩ | ⟨B, c, L, h1, h2, h3, h4, h5, rfl, h7⟩
 ·exact absurd e1 hne
 ·refine ⟨B, c, L, rfl, h3, h4, h5, ⟨h.st.ext, h.st.base, fun p hp => ?_, ?_⟩⟩
  ·rcases List.mem_cons.1 hp with rfl | hp
   ·exact ⟨h1, h2, h7⟩
   ·exact h.st.arr p hp
  ·rw [List.map_cons, List.nodup_cons]
   refine ⟨fun hm => ?_, h.st.nd⟩
   obtain ⟨q, hq, e2⟩ := List.mem_map.1 hm
   exact h.sep B rfl q hq e2
end
end
end Go.Dx
namespace Go.Sx
open Go.Dx
def kb (o : Nat → Bool) : Nat → Nat
 | 0 => 0
 | i + 1 => kb o i + (if o i then 0 else 1)
theorem Xx (o : Nat → Bool) : ∀ i, kb o i ≤ i
 | 0 => qah _
 | i + 1 => by unfold kb; have := Xx o i; split <;> omega
def wq (o : Nat → Bool) (acs : List Ac) : Nat → List Ac
 | 0 => []
 | i + 1 => wq o acs i ++ (match acs[i]? with
  | some a => if o i then [] else [a]
  | none => [])
theorem zt {o : Nat → Bool} {acs : List Ac} {i : Nat} {a : Ac} (h : acs[i]? = some a) : wq o acs (i + 1) = wq o acs i ++ (if o i then [] else [a]) := by
 conv => lhs; unfold wq
 rw [h]
theorem zA {o : Nat → Bool} {acs : List Ac} : ∀ {i : Nat}, i ≤ acs.length → (wq o acs i).length = kb o i
 | 0, _ => rfl
 | i + 1, h => by
  rw [zt (qae (by omega)), qao, zA (by omega)]
  have hk : kb o (i + 1) = kb o i + (if o i then 0 else 1) := rfl
  rw [hk]
  cases o i <;> rfl
theorem jq {o : Nat → Bool} {acs : List Ac} {a : Ac} : ∀ {i : Nat}, a ∈ wq o acs i → a ∈ acs
 | 0, h => by cases h
 | i + 1, h => by
  unfold wq at h
  rcases qb6.1 h with h | h
  ·exact jq h
  ·cases hi : acs[i]? with
   | none => rw [hi] at h; cases h
   | some b =>
    rw [hi] at h
    simp only at h
    split at h
    ·cases h
    ·rw [qal.1 h]; exact qaf hi
def wV (o : Nat → Bool) (a : Ac) : Ac := if a.op = 9 ∨ a.op = 10 then { a with to := (kb o a.to.toNat : Nat) } else a
def wo (o : Nat → Bool) (acs : List Ac) : List Ac := (wq o acs acs.length).map (wV o)
def xp (o : Nat → Bool) (rows : List Ac) : Nat → List Ac
 | 0 => rows
 | i + 1 => match rows[i]? with
  | some a => (xp o rows i).set i (wV o a)
  | none => xp o rows i
theorem fW {o : Nat → Bool} {rows : List Ac} {i : Nat} {a : Ac} (h : rows[i]? = some a) : xp o rows (i + 1) = (xp o rows i).set i (wV o a) := by
 conv => lhs; unfold xp
 rw [h]
theorem yX (o : Nat → Bool) (rows : List Ac) : ∀ i, (xp o rows i).length = rows.length
 | 0 => rfl
 | i + 1 => by
  unfold xp
  split
  ·rw [List.length_set, yX o rows i]
  ·exact yX o rows i
theorem dJ (o : Nat → Bool) (rows : List Ac) : ∀ (i j : Nat), i ≤ rows.length → (xp o rows i)[j]? = if j < i then (rows[j]?).map (wV o) else rows[j]?
 | 0, j, _ => by rw [if_neg (by omega)]; rfl
 | i + 1, j, h => by
  have hi : rows[i]? = some rows[i] := qae (by omega)
  rw [fW hi]
  by_cases hj : i = j
  ·subst hj
   rw [qaz (by rw [yX]; omega), if_pos (by omega), hi]; rfl
  ·rw [qb5 hj, dJ o rows i j (by omega)]
   by_cases h1 : j < i
   ·rw [if_pos h1, if_pos (by omega)]
   ·rw [if_neg h1, if_neg (by omega)]
theorem BS (o : Nat → Bool) (rows : List Ac) : xp o rows rows.length = rows.map (wV o) := by
 refine List.ext_getElem? fun j => ?_
 rw [dJ o rows _ j (qah _), qaw]
 by_cases h : j < rows.length
 ·rw [if_pos h]
 ·rw [if_neg h, qb3 (by omega)]; rfl
theorem flat_setL {α : Type} {f : α → List Value} {e : Nat} (hf : ∀ x, (f x).length = e) : ∀ (l : List α) (i o : Nat) (x y : α) (v : Value), l[i]? = some x → o < e → f y = (f x).set o v → (l.flatMap f).set (i * e + o) v = (l.set i y).flatMap f
 | [], i, o, x, y, v, h, _, _ => by simp at h
 | a :: l, 0, o, x, y, v, h, ho, hy => by
  simp at h; subst h
  simp only [Nat.zero_mul, Nat.zero_add, List.set_cons_zero, List.flatMap_cons]
  rw [List.set_append_left _ _ (by rw [hf]; exact ho), hy]
 | a :: l, i + 1, o, x, y, v, h, ho, hy => by
  simp only [List.set_cons_succ, List.flatMap_cons]
  rw [List.set_append_right _ _ (by rw [hf, Nat.succ_mul]; omega), hf, show (i + 1) * e + o - e = i * e + o by rw [Nat.succ_mul]; omega, flat_setL hf l i o x y v (by simpa using h) ho hy]
end Go.Sx
namespace Go.Sx
open Go.Dx Go.Proofs
set_option maxRecDepth 10000
abbrev zAc : List Value := [.int .i64 0, .int .i64 0, .int .i64 0, .int .i64 0, .slice none 0 0, .slice none 0 0, .slice none 0 0, .int .i64 0, .int .i64 0, .int .i64 0, .int .i64 0]
theorem qv (a : Ac) : (qe a).length = 11 := rfl
theorem zX {v : Value} {n : Int} (h : qL v = some (.int .i64 n)) : ∃ a l c, v = .slice a l c := by
 cases v with
 | slice a l c => exact ⟨a, l, c, rfl⟩
 | _ => cases h
theorem qM {m : M} {a : Ac} (h : AcOK m a) : ∀ v ∈ qe a, Dx.okC v = true := by
 have o1 := h.ix.okV
 have o2 := h.ev.okV
 have o3 := h.fv.okV
 intro v hv
 simp only [qe, List.mem_cons, List.not_mem_nil, or_false] at hv
 rcases hv with rfl | rfl | rfl | rfl | rfl | rfl | rfl | rfl | rfl | rfl | rfl <;> first | rfl | assumption
theorem Jl {m : M} {a : Ac} (h : AcOK m a) (m1 : M) : kc 11 1 (rep 1 zAc) [(0, 11, .agg ⟨qe a⟩)] m1 = some (Value.slice (some ⟨m1.n, 0, some 23⟩) 1 1, Dx.newRow m1 (qe a)) := by
 obtain ⟨x1, x2, x3, h1⟩ := zX h.ix.len
 obtain ⟨y1, y2, y3, h2⟩ := zX h.ev.len
 obtain ⟨z1, z2, z3, h3⟩ := zX h.fv.len
 unfold qe
 rw [h1, h2, h3]
 rfl
theorem VC (o : Nat → Bool) (a : Ac) (h : a.op = 9 ∨ a.op = 10) : qe (wV o a) = (qe a).set 8 (iv (kb o a.to.toNat)) := by
 unfold wV; rw [if_pos h]; rfl
structure WoR (m : M) (T : Nat) (acs : List Ac) (o : Nat → Bool) (v : Value) (m' : M) : Prop where
 n : m.n ≤ m'.n
 base : m'.base = m.base
 log : m'.log = m.log
 obj : ∀ B, B < m.n → B ≠ T → m'.obj B = m.obj B
 t : ∃ lv, Arr m' T [lv] ∧ GrR m m' lv 11 qe (wo o acs)
theorem xv (G T : Nat) (caps : List Value) (sv : Value) (acs : List Ac) (o : Nat → Bool) (N : Nat) (m : M) (hm : m.base ≤ m.n) (hT : m.base ≤ T) (hTn : T < m.n) (hTa : Arr m T [sv]) (hsv : Rd m sv 11 qe acs) (hac : ∀ a ∈ acs, AcOK m a) (hlen : acs.length ≤ 65536)
  (hto : ∀ a ∈ acs, (a.op = 9 ∨ a.op = 10) → 0 ≤ a.to ∧ a.to ≤ acs.length) (hout : ∀ i, i < acs.length → ∀ m', Sees m m' → CallV (ex Tryz.prog N) G (iv i :: caps) m' (.bool (o i))) :
  ∃ v m', (ex Tryz.prog (N + 1)).f 165 [.pointer (some ⟨T, 0, none⟩), .func (.func G) #[] ⟨caps⟩] m = some (v, m') ∧ WoR m T acs o v m' := by
 refine kM dg4_ok (by simp) ?_
 obtain ⟨n, hn⟩ := qb8 (acs.length)
 have hsl : qL sv = some (.int .i64 (n : Int)) := by rw [hn]; exact hsv.len
 have lT : ∀ m', Sees m m' → ∀ s, load1 m' ⟨T, 0, s⟩ = some sv := fun m' hs s => (hTa.sees hs hTn).load1 0 s
 have w1 : IntKind.i64.wrap ((n : Int) + 1) = ((n + 1 : Nat) : Int) := wj (by omega)
 have mk := zm (n := n + 1) (e := 1) (bytes := 8) (zs := [.int .i64 0]) rfl (by omega) (by unfold qW; omega) (by omega) m
 rw [jk] at mk
 obtain ⟨at0, hat0⟩ : ∃ f : Nat → Nat → Value, f = fun i j => iv (if j < i then kb o j else 0 : Nat) := ⟨_, rfl⟩
 have hz : rgR (n + 1) (fun _ => Value.int .i64 0) = rgR (n + 1) (at0 0) := by rw [hat0]; rfl
 rw [hz] at mk
 have st1 := (St.nil hm (Ext.refl m)).row (rgR (n + 1) (at0 0))
 obtain ⟨m1, hm1⟩ := qb8 (Dx.newRow m (rgR (n + 1) (at0 0)))
 rw [← hm1] at st1 mk
 have ix : ∀ j, j < n + 1 → qZ 1 (.slice (some ⟨m.n, 0, some 3⟩) (n + 1) (n + 1)) (.int .i64 (j : Int)) = some (.pointer (some ⟨m.n, j, none⟩)) := fun j hj => by have := yc (e := 1) (c := 3) m.n (n + 1) j hj; rwa [Nat.mul_one] at this
 have lT0 := lT m (Sees.refl hm)
 have lT1 := lT m1 st1.sees
 obtain ⟨n1, hn1⟩ := qb8 (n + 1)
 rw [← hn1] at w1 mk ix
 have mk' : zo 1 8 [.int .i64 0] (.int .i64 (n1 : Int)) (.int .i64 (n1 : Int)) m = some (.slice (some ⟨m.n, 0, some 3⟩) n1 n1, m1) := mk
 clear mk
 simp [lT0, hsl, w1, mk', lT1]
 refine qq (c := YD) rfl (jc _) (fun i t m' => GE m m' [(m.n, rgR n1 (at0 i))] (Tm.get 5 t) 11 qe (wq o acs i) ∧ Tm.get 0 t = .pointer (some ⟨T, 0, none⟩) ∧ Tm.get 1 t = .func (.func G) #[] ⟨caps⟩ ∧ Tm.get 4 t = .slice (some ⟨m.n, 0, some 3⟩) n1 n1 ∧ Tm.get 20 t = sv ∧ Tm.get 21 t = iv n ∧ Tm.get 22 t = iv i) n (by omega)
  ⟨by simpa [hn1, wq] using GE.nil st1, by simp, by simp, by simp, by simp, by simp, by simp⟩ (fun i t m' k hi hI hk => ?_)
 obtain ⟨g, t0, t1, t4, t20, t21, t22⟩ := hI
 have S := g.st.sees
 by_cases hil : i < n
 ·have hd := dlt hil
  have ni := wj (i := i) (by omega)
  obtain ⟨a, ha⟩ : ∃ r, acs[i]? = some r := ⟨_, qae (by omega)⟩
  have hacm := hac a (qaf ha)
  obtain ⟨a1, a2, _⟩ := hsv.at ha
  have a2' := a2 m' S
  obtain ⟨lv, hlv⟩ := qb8 (Tm.get 5 t)
  rw [← hlv] at g
  have g1 := g.row zAc
  obtain ⟨m2, hm2⟩ := qb8 (Dx.newRow m' zAc)
  rw [← hm2] at g1
  obtain ⟨m3, s1, s2, s3, s4⟩ := g1.fill 0 rfl (n := 11) (l' := qe a) rfl rfl (qM hacm)
  have g3 : GE m m3 [(m'.n, qe a), (m.n, rgR n1 (at0 i))] lv 11 qe (wq o acs i) := s2
  have hkl : (wq o acs i).length = kb o i := zA (by omega)
  obtain ⟨q, hq⟩ := qb8 (kb o i)
  have hql : q ≤ i := by rw [hq]; exact Xx o i
  have hll : qL lv = some (.int .i64 (q : Int)) := by rw [hq, ← hkl]; exact g.gr.lens
  obtain ⟨m4, u1, u2, u3, u4⟩ := g3.store 1 rfl (o := i) (v := .int .i64 (q : Int)) (by rw [kg]; omega) rfl
  have hset : (rgR n1 (at0 i)).set i (.int .i64 (q : Int)) = rgR n1 (at0 (i + 1)) := zI (fun j hj => by
   rw [hat0]; simp only
   by_cases h1 : j < i
   ·rw [if_pos h1, if_pos (by omega)]
   ·rw [if_neg h1, if_neg (by omega)]) (by rw [hat0]; simp only; rw [if_pos (by omega), hq])
  rw [hset] at u2
  have g4 : GE m m4 [(m'.n, qe a), (m.n, rgR n1 (at0 (i + 1)))] lv 11 qe (wq o acs i) := u2
  have ixi := ix i (by omega)
  obtain ⟨_, m5, c1, c2, rfl⟩ := hout i (by omega) m4 g4.st.sees
  have g5 := g4.step c2
  have l5 : loads m5 ⟨m'.n, 0, none⟩ 11 = some (qe a) := (g5.st.get 0 rfl).2.2.loads (n := 11) (by simp [qe])
  cases ho : o i with
  | true =>
   rw [ho] at c1
   simp [t0, t1, t4, t20, t21, t22, hd, a1, a2', qf, ← hm2, s1, ← hlv, hll, ixi, u1, c1, ni]
   refine hk hil _ _ ⟨?_, by simp [t0], by simp [t1], by simp [t4], by simp [t20], by simp [t21], by simp⟩
   have hks : wq o acs (i + 1) = wq o acs i := by rw [zt ha, ho]; simp
   rw [hks]
   simpa [← hlv] using g5.sub (σ' := [(m.n, rgR n1 (at0 (i + 1)))]) (by simp) (by simp)
  | false =>
   rw [ho] at c1
   obtain ⟨m6, hm6⟩ := qb8 (Dx.newRow m5 (qe a))
   have b1 := Jl hacm m5
   rw [← hm6] at b1
   obtain ⟨v7, m7, p1, p2, p3, p4⟩ := g5.push (by omega) qv (x := a) (fun y hy => by
    rcases qb6.1 hy with h | h
    ·exact qM (hac y (jq h))
    ·rw [qal.1 h]; exact qM hacm) (M1 := m6) (by rw [hm6]; exact Ext.row _ _) (X := m5.n) (sp := some 23) (by rw [hm6]; exact kl m5 _ 0 11 (by simp [qe])) (bytes := 136) (by rw [hkl]; unfold qW; omega) (by rw [hkl]; omega)
   simp [t0, t1, t4, t20, t21, t22, hd, a1, a2', qf, ← hm2, s1, ← hlv, hll, ixi, u1, c1, ni, l5, b1, p1]
   refine hk hil _ _ ⟨?_, by simp [t0], by simp [t1], by simp [t4], by simp [t20], by simp [t21], by simp⟩
   have hks : wq o acs (i + 1) = wq o acs i ++ [a] := by rw [zt ha, ho]; simp
   rw [hks]
   simpa using p2.sub (σ' := [(m.n, rgR n1 (at0 (i + 1)))]) (by simp) (by simp)
 obtain rfl : i = n := by omega
 have hd : ((i : Int) < (i : Int)) = False := eq_false (by omega)
 obtain ⟨lv, hlv⟩ := qb8 (Tm.get 5 t)
 rw [← hlv] at g
 obtain ⟨rows, hrows⟩ := qb8 (wq o acs i)
 have hkl : rows.length = kb o i := by rw [hrows]; exact zA (by omega)
 have hwo : wo o acs = rows.map (wV o) := by rw [hrows, hn]; rfl
 have hrm : ∀ a ∈ rows, a ∈ acs := fun a ha => jq (i := i) (by rw [← hrows]; exact ha)
 rw [← hrows] at g
 obtain ⟨q, hq⟩ := qb8 (kb o i)
 have hql : q ≤ i := by rw [hq]; exact Xx o i
 have hll : qL lv = some (.int .i64 (q : Int)) := by rw [hq, ← hkl]; exact g.gr.lens
 obtain ⟨m4, u1, u2, u3, u4⟩ := g.store 0 rfl (o := i) (v := .int .i64 (q : Int)) (by rw [kg]; omega) rfl
 have hset : (rgR n1 (at0 i)).set i (.int .i64 (q : Int)) = rgR n1 (at0 (i + 1)) := zI (fun j hj => by
  rw [hat0]; simp only
  by_cases h1 : j < i
  ·rw [if_pos h1, if_pos (by omega)]
  ·rw [if_neg h1, if_neg (by omega)]) (by rw [hat0]; simp only; rw [if_pos (by omega), hq])
 rw [hset] at u2
 have g4 : GE m m4 [(m.n, rgR n1 (at0 (i + 1)))] lv 11 qe rows := u2
 have ixi := ix i (by omega)
 have lTi := lT m' S
 simp [t0, t4, t20, t21, t22, hd, lTi, hsl, ← hlv, hll, ixi, u1]
 have fin : ∀ (t' : Tm) (m' : M) (lv : Value) (R : List Ac), R = wo o acs → Ext m m' → GrR m m' lv 11 qe R → Tm.get 0 t' = .pointer (some ⟨T, 0, none⟩) → Tm.get 5 t' = lv →
   jc (fun v' mm => WoR m T acs o v' mm) (dU (yb ZT) (ex Tryz.prog N) (kD []) noK (kD []) t' m') := fun t' m' lv R hR hE hg h0 h5 => by
  subst hR
  have aT : Arr m' T [sv] := hTa.ext hE hTn
  obtain ⟨s1, s2, s3, s4, s5, s6⟩ := qY (o := 0) (l := [lv]) aT (by simp) (by simp [hg.okC])
  have hcv : zr lv = some [lv] := by
   have := hg.okC
   cases lv <;> first | rfl | simp [okC] at this
  have e := wQ (n := 1) (o := 0) aT hcv rfl (by simp) (by simp [hg.okC])
  simp [h0, h5, e]
  refine yh ⟨by rw [s3]; exact hE.n, by rw [s4]; exact hE.base, by rw [s6 (by rw [hE.base]; exact hT)]; exact hE.log, fun B hB hne => by rw [s5 B hne]; exact hE.obj B hB, lv, s2, ?_⟩
  exact hg.keep (by rw [s3]; exact qah _) fun B hB hb => s5 B fun e => by have := (hg.low B hb).1; omega
 by_cases hz : rows = []
 ·have hq0 : q = 0 := by rw [hq, ← hkl, hz]; rfl
  subst hq0
  refine qq (c := ZJ) rfl (jc _) (fun j t m'' => m'' = m4 ∧ Tm.get 0 t = .pointer (some ⟨T, 0, none⟩) ∧ Tm.get 5 t = lv ∧ Tm.get 51 t = iv 0 ∧ Tm.get 52 t = iv j) 0 (by omega)
   ⟨rfl, by simp [t0], by simp [hlv], by simp, by simp⟩ (fun j t m'' k hj hJ hk => ?_)
  obtain ⟨rfl, t0, t5, t51, t52⟩ := hJ
  obtain rfl : j = 0 := by omega
  simp [t51, t52, -dZ]
  refine fin _ m'' lv (wo o acs) rfl g4.st.ext (by rw [hwo, hz]; have := g4.gr; rw [hz] at this; exact this) (by simp [t0]) (by simp [t5])
 ·obtain ⟨B, c, L, hlvB, hqc, hc0, hgL, stB⟩ := g4.done hz
  have hfl : ∀ j, (xp o rows j).length = rows.length := yX o rows
  have hqr : q = rows.length := by rw [hq, hkl]
  refine qq (c := ZJ) rfl (jc _) (fun j t m'' => St m m'' [(B, (xp o rows j).flatMap qe ++ L), (m.n, rgR n1 (at0 (i + 1)))] ∧ Tm.get 0 t = .pointer (some ⟨T, 0, none⟩) ∧ Tm.get 4 t = .slice (some ⟨m.n, 0, some 3⟩) n1 n1 ∧ Tm.get 5 t = lv ∧ Tm.get 50 t = lv ∧ Tm.get 51 t = iv q ∧ Tm.get 52 t = iv j) q (by omega)
   ⟨stB, by simp [t0], by simp [t4], by simp [hlv], by simp [hlv], by simp, by simp⟩ (fun j t m'' k hj hJ hk => ?_)
  obtain ⟨sj, t0, t4, t5, t50, t51, t52⟩ := hJ
  have hB := sj.get 0 rfl
  by_cases hjl : j < q
  ·have hdj := dlt hjl
   have nj := wj (i := j) (by omega)
   obtain ⟨a, ha⟩ : ∃ r, rows[j]? = some r := ⟨_, qae (by omega)⟩
   have ham := hrm a (qaf ha)
   have hacm := hac a ham
   have haj : (xp o rows j)[j]? = some a := by rw [dJ o rows j j (by omega), if_neg (by omega), ha]
   have hrd : Rd m'' lv 11 qe (xp o rows j) := by
    have := Bi (c := code 11 false) (cap := c) qv hB.2.2 hB.2.1
    rw [hfl, ← hlvB] at this; exact this
   obtain ⟨a1, a2, _⟩ := hrd.at haj
   have a2' := a2 m'' (Sees.refl sj.sees.base)
   have had : adr 11 lv j = ⟨B, j * 11, none⟩ := by rw [hlvB]; show (⟨B, 0 + j * 11, none⟩ : Addr) = _; rw [Nat.zero_add]
   rw [had] at a1 a2'
   have sj1 := sj.row zAc
   obtain ⟨m5, hm5⟩ := qb8 (Dx.newRow m'' zAc)
   rw [← hm5] at sj1
   obtain ⟨m6, y1, y2, y3, y4⟩ := sj1.fill 0 rfl (n := 11) (l' := qe a) rfl rfl (qM hacm)
   have sj2 : St m m6 [(m''.n, qe a), (B, (xp o rows j).flatMap qe ++ L), (m.n, rgR n1 (at0 (i + 1)))] := y2
   have l6 : ∀ p s, load1 m6 ⟨m''.n, p, s⟩ = (qe a)[p]? := fun p s => (sj2.get 0 rfl).2.2.load1 p s
   by_cases hop : a.op = 9 ∨ a.op = 10
   ·obtain ⟨z, hz⟩ : ∃ z : Nat, a.to = z := ⟨a.to.toNat, by have := hto a ham hop; omega⟩
    have hzn : z ≤ i := by have := hto a ham hop; omega
    have lq : ∀ s, load1 m6 ⟨m.n, z, s⟩ = some (iv (kb o z)) := fun s => by
     rw [(sj2.get 2 rfl).2.2.load1 z s, kK _ (by omega), hat0]; simp only; rw [if_pos (by omega)]
    obtain ⟨kz, hkz⟩ := qb8 (kb o z)
    rw [← hkz] at lq
    have ixz := ix z (by omega)
    have hlen8 : j * 11 + 8 < ((xp o rows j).flatMap qe ++ L).length := by
     rw [qao, qX qv, hfl]
     have := qb0 11 (show j + 1 ≤ rows.length by omega)
     omega
    obtain ⟨m7, x1, x2, x3, x4⟩ := sj2.store 1 rfl (o := j * 11 + 8) (v := iv kz) hlen8 rfl
    have hset7 : ((xp o rows j).flatMap qe ++ L).set (j * 11 + 8) (iv kz) = (xp o rows (j + 1)).flatMap qe ++ L := by
     rw [List.set_append_left _ _ (by rw [qX qv, hfl]; have := qb0 11 (show j + 1 ≤ rows.length by omega); omega),
      flat_setL qv _ j 8 a (wV o a) (iv kz) haj (by omega) (by rw [VC o a hop, hz, qat, hkz]), fW ha]
    rw [hset7] at x2
    have x2' : St m m7 [(m''.n, qe a), (B, (xp o rows (j + 1)).flatMap qe ++ L), (m.n, rgR n1 (at0 (i + 1)))] := x2
    have nxt : St m m7 [(B, (xp o rows (j + 1)).flatMap qe ++ L), (m.n, rgR n1 (at0 (i + 1)))] := x2'.sub (by simp) (by have := x2'.nd; simp at this ⊢; exact this.2)
    have lto : ∀ s, load1 m6 ⟨m''.n, 8, s⟩ = some (.int .i64 (z : Int)) := fun s => by rw [l6]; simp [qe, hz]
    have lop : ∀ s, load1 m6 ⟨m''.n, 0, s⟩ = some (.int .i64 a.op) := fun s => by rw [l6]; simp [qe]
    rcases hop with h9 | h10
    ·rw [h9] at lop
     simp [t0, t4, t5, t50, t51, t52, hdj, nj, a1, a2', qf, ← hm5, y1, lop, lto, ixz, lq, x1]
     exact hk hjl _ _ ⟨nxt, by simp [t0], by simp [t4], by simp [t5], by simp [t50], by simp [t51], by simp⟩
    ·rw [h10] at lop
     simp [t0, t4, t5, t50, t51, t52, hdj, nj, a1, a2', qf, ← hm5, y1, lop, lto, ixz, lq, x1]
     exact hk hjl _ _ ⟨nxt, by simp [t0], by simp [t4], by simp [t5], by simp [t50], by simp [t51], by simp⟩
   ·have d9 : decide (a.op = 9) = false := decide_eq_false fun h => hop (.inl h)
    have d10 : decide (a.op = 10) = false := decide_eq_false fun h => hop (.inr h)
    have lop : ∀ s, load1 m6 ⟨m''.n, 0, s⟩ = some (.int .i64 a.op) := fun s => by rw [l6]; simp [qe]
    have hfx : wV o a = a := by unfold wV; rw [if_neg hop]
    have hfs : xp o rows (j + 1) = xp o rows j := by
     rw [fW ha, hfx]
     refine List.ext_getElem? fun p => ?_
     by_cases hp : j = p
     ·subst hp; rw [qaz (by rw [hfl]; omega), haj]
     ·rw [qb5 hp]
    simp [t0, t4, t5, t50, t51, t52, hdj, nj, a1, a2', qf, ← hm5, y1, lop, d9, d10]
    exact hk hjl _ _ ⟨by rw [hfs]; exact sj2.sub (by simp) (by have := sj2.nd; simp at this ⊢; exact this.2), by simp [t0], by simp [t4], by simp [t5], by simp [t50], by simp [t51], by simp⟩
  ·obtain rfl : j = q := by omega
   have hdj : ((j : Int) < (j : Int)) = False := eq_false (by omega)
   simp [t51, t52, hdj, -dZ]
   rw [hqr, BS] at hB
   refine fin _ m'' lv (rows.map (wV o)) hwo.symm sj.ext (.inr ⟨B, c, L, hB.1, hB.2.1, by simpa using hqc, hc0, by simpa using hgL, by simpa using hlvB, hB.2.2⟩) (by simp [t0]) (by simp [t5])
end Go.Sx
namespace Go.Dx
section
variable {α : Type} {m0 m m' : M} {σ : List (Nat × List Value)} {v : Value} {e : Nat} {f : α → List Value} {es : List α}
theorem GE.rebuild {B c : Nat} {L : List Value} {es' : List α} (h : GE m0 m σ v e f es) (hv : v = .slice (some ⟨B, 0, some (code e false)⟩) es.length c) (hc : es.length ≤ c) (hc0 : 0 < c) (hL : L.length = (c - es.length) * e) (hl : es'.length = es.length) (s : St m0 m' ((B, es'.flatMap f ++ L) :: σ)) : GE m0 m' σ v e f es' := by
 have hB := s.get 0 rfl
 refine ⟨s.sub (fun p hp => qap _ hp) (by have := s.nd; rw [List.map_cons, List.nodup_cons] at this; exact this.2), .inr ⟨B, c, L, hB.1, hB.2.1, by omega, hc0, by rw [hl]; exact hL, by rw [hl]; exact hv, hB.2.2⟩, h.sep⟩
theorem GE.cellAny (h : GE m0 m σ v e f es) (hf : ∀ x, (f x).length = e) {i o : Nat} {x y : α} {val : Value} (hx : es[i]? = some x) (ho : o < e) (hv : okC val = true) (hy : f y = (f x).set o val) :
  ∃ B m', blk v = some B ∧ qZ e v (.int .i64 (i : Int)) = some (.pointer (some ⟨B, i * e, none⟩)) ∧ qH 1 (.pointer (some ⟨B, i * e + o, none⟩)) val (qn m) = some (undef, m') ∧ m'.log = [B] ∧ GE m0 (Dx.behind m m') σ v e f (es.set i y) ∧ (Dx.behind m m').n = m.n ∧ ∀ X, X ≠ B → (Dx.behind m m').obj X = m.obj X := by
 have hi := (qag.1 hx).1
 obtain ⟨B, c, L, hvB, hc, hc0, hL, s⟩ := h.done (by intro e0; rw [e0] at hi; simp at hi)
 have hle : i * e + o < (es.flatMap f).length := by rw [qX hf]; have := qb0 e (show i + 1 ≤ es.length by omega); rw [Nat.succ_mul] at this; omega
 obtain ⟨m', s1, s2, s3, s4, s5⟩ := s.storeAny 0 rfl (o := i * e + o) (v := val) (by rw [qao]; omega) hv
 have hrd := h.gr.rd hf
 have hia := (hrd.row i x hx).1
 have had : adr e v i = ⟨B, i * e, none⟩ := by rw [hvB]; show (⟨B, 0 + i * e, none⟩ : Addr) = _; rw [Nat.zero_add]
 rw [had] at hia
 have s3' : St m0 (Dx.behind m m') ((B, (es.set i y).flatMap f ++ L) :: σ) := by
  have hst : (es.flatMap f ++ L).set (i * e + o) val = (es.set i y).flatMap f ++ L := by rw [List.set_append_left _ _ hle, Go.Sx.flat_setL hf es i o x y val hx ho hy]
  rw [← hst]; exact s3
 exact ⟨B, m', by rw [hvB]; rfl, hia, s1, s2, h.rebuild hvB hc hc0 hL (by simp) s3', s4, s5⟩
theorem vC {f : α → List Value} {e : Nat} (hf : ∀ x, (f x).length = e) : ∀ (l : List α) (i : Nat) (y : α), i < l.length → over (l.flatMap f) (i * e) (f y) = (l.set i y).flatMap f
 | [], i, y, h => by simp at h
 | a :: l, 0, y, h => by
  simp only [Nat.zero_mul, List.set_cons_zero, List.flatMap_cons]
  have := gi (f y) (f a ++ l.flatMap f) [] (by rw [qao, hf, hf]; omega)
  simp only [List.nil_append, List.length_nil] at this
  rw [this, List.drop_append_of_le_length (by rw [hf, hf]; omega), show (f a).drop (f y).length = [] from List.drop_eq_nil_of_le (by rw [hf, hf]; exact qah _), List.nil_append]
 | a :: l, i + 1, y, h => by
  simp only [List.set_cons_succ, List.flatMap_cons]
  have key : ∀ (vs p z : List Value) (o : Nat), over (p ++ z) (p.length + o) vs = p ++ over z o vs := by
   intro vs
   induction vs with
   | nil => intro p z o; rfl
   | cons v vs ih =>
    intro p z o
    unfold over
    rw [List.set_append_right _ _ (by omega), show p.length + o - p.length = o by omega, show p.length + o + 1 = p.length + (o + 1) by omega, ih]
  rw [show (i + 1) * e = (f a).length + i * e by rw [hf, Nat.succ_mul]; omega, key, vC hf l i y (by simpa using h)]
theorem GE.rowAny (h : GE m0 m σ v e f es) (he : 0 < e) (hf : ∀ x, (f x).length = e) {i : Nat} {y : α} (hi : i < es.length) (hv : ∀ u ∈ f y, okC u = true) :
  ∃ B m', blk v = some B ∧ qZ e v (.int .i64 (i : Int)) = some (.pointer (some ⟨B, i * e, none⟩)) ∧ qH e (.pointer (some ⟨B, i * e, none⟩)) (.agg ⟨f y⟩) (qn m) = some (undef, m') ∧ m'.log = [B] ∧ GE m0 (Dx.behind m m') σ v e f (es.set i y) ∧ (Dx.behind m m').n = m.n ∧ ∀ X, X ≠ B → (Dx.behind m m').obj X = m.obj X := by
 obtain ⟨x, hx⟩ : ∃ x, es[i]? = some x := ⟨_, qae hi⟩
 obtain ⟨B, c, L, hvB, hc, hc0, hL, s⟩ := h.done (by intro e0; rw [e0] at hi; simp at hi)
 have hle : i * e + (f y).length ≤ (es.flatMap f).length := by rw [qX hf, hf]; have := qb0 e (show i + 1 ≤ es.length by omega); rw [Nat.succ_mul] at this; omega
 obtain ⟨h1, h2, h3⟩ := s.get 0 rfl
 have h3' : Arr (qn m) B (es.flatMap f ++ L) := h3.congr (qw m B)
 have e1 := wQ (n := e) (o := i * e) (v := .agg ⟨f y⟩) (l := f y) h3' rfl (hf y) (by rw [qao]; rw [hf] at hle; omega) hv
 obtain ⟨s1, s2, s3, s4, s5, s6⟩ := qY (o := i * e) (l := f y) h3' (by rw [qao]; omega) hv
 have hov : ∀ (vs z L : List Value) (o : Nat), o + vs.length ≤ z.length → over (z ++ L) o vs = over z o vs ++ L := by
  intro vs
  induction vs with
  | nil => intro z L o _; rfl
  | cons v vs ih =>
   intro z L o h
   unfold over
   simp at h
   rw [List.set_append_left _ _ (by omega), ih _ _ _ (by simp; omega)]
 rw [hov _ _ _ _ hle, vC hf es i y hi] at s2
 have hne : f y ≠ [] := by intro e0; have := hf y; rw [e0] at this; simp at this; omega
 have hlog : (zc (qn m) B (i * e) (f y)).log = [B] := by
  obtain ⟨c', hc', hcl⟩ := h3'
  cases hfy : f y with
  | nil => exact absurd hfy hne
  | cons u us =>
   have hs : wA (qn m) ⟨B, i * e, none⟩ (u :: us) = ob (jb ((qn m).obj B)) fun c => ob (stn c (i * e) (u :: us)) fun c' => some ((qn m).put B (.cells c')) := rfl
   obtain ⟨c2, e2, _⟩ := yr (vs := u :: us) (o := i * e) hcl (by rw [← hfy, qao]; omega) (by rw [← hfy]; exact hv)
   have hp : zc (qn m) B (i * e) (u :: us) = (qn m).put B (.cells c2) := by
    unfold zc; rw [hs, hc']; show ((ob (stn c' (i * e) (u :: us)) fun c' => some ((qn m).put B (.cells c'))).getD (qn m)) = _; rw [e2]; rfl
   rw [hp]
   cases m with | mk a nx bs wl =>
   show note nx B [] = [B]
   have h2' : B < nx := h2
   unfold note
   have : Nat.ble nx B = false := by
    cases q : Nat.ble nx B with
    | false => rfl
    | true => exact absurd (qan q) (by omega)
   rw [this]; rfl
 have hia := ((h.gr.rd hf).row i x hx).1
 have had : adr e v i = ⟨B, i * e, none⟩ := by rw [hvB]; show (⟨B, 0 + i * e, none⟩ : Addr) = _; rw [Nat.zero_add]
 rw [had] at hia
 have s3' : St m0 (Dx.behind m (zc (qn m) B (i * e) (f y))) ((B, (es.set i y).flatMap f ++ L) :: σ) := by
  refine s.put' 0 rfl (by rw [wu, s3, qx]) (kh _ _) ?_ (fun X hX => by rw [qB, s5 X hX, qw]) (s2.congr (qB _ _ _))
  rw [km, hlog]
  refine xF fun X hX => ?_
  rw [qal.1 hX, h.st.ext.base]
  have := h.st.base
  omega
 exact ⟨B, _, by rw [hvB]; rfl, hia, e1, hlog, h.rebuild hvB hc hc0 hL (by simp) s3', by rw [wu, s3, qx], fun X hX => by rw [qB, s5 X hX, qw]⟩
end
end Go.Dx
namespace Go.Sx
open Go.Dx Go.Proofs
def zd (a : Ac) (X : Nat) : Prop := blk a.ix = some X ∨ blk a.ev = some X ∨ blk a.fv = some X
theorem AcOK.congr {m m' : M} {a : Ac} (h : AcOK m a) (hn : m.n ≤ m'.n) (k : ∀ X, zd a X → m'.obj X = m.obj X) : AcOK m' a :=
 ⟨h.ix.congr hn fun B hB => k B (.inl hB), h.ev.congr hn fun B hB => k B (.inr (.inl hB)), h.fv.congr hn fun B hB => k B (.inr (.inr hB)), h.ixl, h.evl, h.fvl⟩
theorem AcOK.lt {m : M} {a : Ac} (h : AcOK m a) {X : Nat} (hX : zd a X) : X < m.n := by
 rcases hX with hX | hX | hX
 ·exact h.ix.lt X hX
 ·exact h.ev.lt X hX
 ·exact h.fv.lt X hX
structure TS (m0 m : M) (T : Nat) (sv : Value) (acs : List Ac) : Prop where
 ge : GE m0 m [(T, [sv])] sv 11 qe acs
 ac : ∀ a ∈ acs, AcOK m a
 sep : ∀ a ∈ acs, ∀ X, zd a X → X ≠ T ∧ blk sv ≠ some X
 len : acs.length ≤ 65536
theorem TS.step {m0 m m' : M} {T : Nat} {sv : Value} {acs : List Ac} (h : TS m0 m T sv acs) (hE : Ext m m') : TS m0 m' T sv acs :=
 ⟨h.ge.step hE, fun a ha => (h.ac a ha).sees ((Sees.refl h.ge.st.sees.base).ext hE), h.sep, h.len⟩
end Go.Sx
namespace Go.Sx
open Go.Dx Go.Proofs
set_option maxRecDepth 10000
def AcEq (a b : Ac) : Prop := ∃ x y z, a = { b with ix := x, ev := y, fv := z }
theorem AcEq.refl (a : Ac) : AcEq a a := ⟨a.ix, a.ev, a.fv, rfl⟩
theorem AcEq.trans {a b c : Ac} (h : AcEq a b) (k : AcEq b c) : AcEq a c := by
 obtain ⟨x, y, z, rfl⟩ := h
 obtain ⟨x', y', z', rfl⟩ := k
 exact ⟨x, y, z, rfl⟩
theorem AcEq.symm {a b : Ac} (h : AcEq a b) : AcEq b a := by
 obtain ⟨x, y, z, rfl⟩ := h
 exact ⟨b.ix, b.ev, b.fv, rfl⟩
structure LEq (ps qs : List Ac) : Prop where
 len : ps.length = qs.length
 get : ∀ (j : Nat) a b, ps[j]? = some a → qs[j]? = some b → AcEq a b
theorem LEq.refl (ps : List Ac) : LEq ps ps := ⟨rfl, fun j a b h k => by rw [h] at k; cases k; exact AcEq.refl a⟩
theorem LEq.trans {ps qs rs : List Ac} (h : LEq ps qs) (k : LEq qs rs) : LEq ps rs := ⟨h.len.trans k.len, fun j a c ha hc => by
 have hj := (qag.1 ha).1
 obtain ⟨b, hb⟩ : ∃ b, qs[j]? = some b := ⟨_, qae (by rw [← h.len]; exact hj)⟩
 exact (h.get j a b ha hb).trans (k.get j b c hb hc)⟩
def wM (e : List Nd) : List Nd := if e = [] then [] else ww e e.length [] (e.length - 1)
def wh (b : Ac) : Ac := { b with ixs := wM b.ixs, es := wM b.es, fs := wM b.fs }
def Ex24 (e : List Nd) : Prop := e = [] ∨ qD 24 e = true
theorem Ex24.len {e : List Nd} (h : Ex24 e) : e.length ≤ 65536 := by
 rcases h with rfl | h
 ·simp
 ·exact (wR h).2.1
theorem VA {e : List Nd} (h : Ex24 e) (ed : Value) (F : Nat) (hF : 65550 ≤ F) (m : M) (hm : m.base ≤ m.n) (hed : Rd m ed 4 qg e) : Dx.Call (ex Tryz.prog F) 27 [ed] m fun v m' => GrR m m' v 4 qg (wM e) := by
 rcases h with rfl | h
 ·obtain ⟨N, rfl⟩ : ∃ N, F = N + 1 := ⟨F - 1, by omega⟩
  refine qp Bp (by simp) ?_
  have hel := hed.len
  simp [hel]
  exact qh (Ext.refl m) (by simpa [wM] using GrR.nil)
 ·have hne : e ≠ [] := by rintro rfl; have := (wR h).1; simp at this
  unfold wM
  rw [if_neg hne]
  exact GP h ed F hF m hm hed
theorem _root_.Go.Dx.GrR.beh {α : Type} {m m' : M} {v : Value} {e : Nat} {f : α → List Value} {es : List α} (h : GrR (qn m) m' v e f es) : GrR m (Dx.behind m m') v e f es := by
 rcases h with h | ⟨B, c, L, h1, h2, h3⟩
 ·exact .inl h
 ·rw [qx] at h1
  exact .inr ⟨B, c, L, h1, by rw [wu]; exact h2, h3.1, h3.2.1, h3.2.2.1, h3.2.2.2.1, h3.2.2.2.2.congr (qB _ _ _)⟩
theorem _root_.Go.Dx.GrR.mono0 {α : Type} {m0 m1 m : M} {v : Value} {e : Nat} {f : α → List Value} {es : List α} (h : GrR m1 m v e f es) (hn : m0.n ≤ m1.n) : GrR m0 m v e f es := by
 rcases h with h | ⟨B, c, L, h1, h2⟩
 ·exact .inl h
 ·exact .inr ⟨B, c, L, by omega, h2⟩
theorem yG {e : List Nd} (h : Ex24 e) (ed : Value) (F : Nat) (hF : 65550 ≤ F) (m : M) (hm : m.base ≤ m.n) (hed : Rd m ed 4 qg e) : ∃ v n1, (ex Tryz.prog F).f 27 [ed] (qn m) = some (v, n1) ∧ n1.log = [] ∧ Ext m (Dx.behind m n1) ∧ GrR m (Dx.behind m n1) v 4 qg (wM e) := by
 obtain ⟨v, n1, h1, h2, h3, h4⟩ := xJ (VA h ed F hF (qn m) (by rw [qx, ki]; exact qah _) (hed.congr (by rw [qx]; exact qah _) fun B _ => qw m B))
 exact ⟨v, n1, h1, h2, h3, h4.beh⟩
theorem VW {m0 m : M} {T : Nat} {sv : Value} {acs : List Ac} (h : TS m0 m T sv acs) (hx : ∀ a ∈ acs, Ex24 a.ixs ∧ Ex24 a.es ∧ Ex24 a.fs) (N : Nat) (hN : 65560 ≤ N) :
  ∃ v m' acs', (ex Tryz.prog (N + 1)).f 109 [.pointer (some ⟨T, 0, none⟩)] m = some (v, m') ∧ TS m0 m' T sv acs' ∧ LEq acs' (acs.map wh) ∧ (∀ a ∈ acs', ∀ X, zd a X → m0.n ≤ X) ∧ m.n ≤ m'.n ∧ ∀ B, B < m.n → B ≠ T → blk sv ≠ some B → m'.obj B = m.obj B := by
 have hf := kM (P := Tryz.prog) (n := N) (args := [.pointer (some ⟨T, 0, none⟩)]) (m := m) (Q := fun _ m' => ∃ acs', TS m0 m' T sv acs' ∧ LEq acs' (acs.map wh) ∧ (∀ a ∈ acs', ∀ X, zd a X → m0.n ≤ X) ∧ m.n ≤ m'.n ∧ ∀ B, B < m.n → B ≠ T → blk sv ≠ some B → m'.obj B = m.obj B) Bs (by simp) ?_
 ·obtain ⟨v, m', h1, acs', h2⟩ := hf; exact ⟨v, m', acs', h1, h2⟩
 obtain ⟨n, hn⟩ := qb8 (acs.length)
 have hnl : n ≤ 65536 := by rw [hn]; exact h.len
 have hsl : qL sv = some (.int .i64 (n : Int)) := by rw [hn]; exact h.ge.gr.lens
 have lT : ∀ s, load1 m ⟨T, 0, s⟩ = some sv := fun s => (h.ge.st.get 0 rfl).2.2.load1 0 s
 simp [lT, hsl]
 refine qq (c := Yx) rfl (jc _) (fun i t m' => (∃ cur, TS m0 m' T sv cur ∧ cur.length = n ∧ (∀ (j : Nat) a b, cur[j]? = some a → acs[j]? = some b → AcEq a (if j < i then wh b else b)) ∧ (∀ (j : Nat) a, j < i → cur[j]? = some a → ∀ X, zd a X → m0.n ≤ X)) ∧ (m.n ≤ m'.n ∧ ∀ B, B < m.n → B ≠ T → blk sv ≠ some B → m'.obj B = m.obj B) ∧ Tm.get 0 t = .pointer (some ⟨T, 0, none⟩) ∧ Tm.get 7 t = sv ∧ Tm.get 8 t = iv n ∧ Tm.get 9 t = iv i) n (by omega)
  ⟨⟨acs, h, hn.symm, fun j a b ha hb => by rw [ha] at hb; cases hb; rw [if_neg (by omega)]; exact AcEq.refl a, fun j a hj => absurd hj (qb7 _)⟩, ⟨qah _, fun _ _ _ _ => rfl⟩, by simp, by simp, by simp, by simp⟩ (fun i t m' k hi hI hk => ?_)
 obtain ⟨⟨cur, hc, hcl, hce, hnw⟩, ⟨hfn, hfr⟩, t0, t7, t8, t9⟩ := hI
 by_cases hil : i < n
 ·have hd := dlt hil
  have ni := wj (i := i) (by omega)
  obtain ⟨a, ha⟩ : ∃ r, cur[i]? = some r := ⟨_, qae (by omega)⟩
  obtain ⟨b, hb⟩ : ∃ r, acs[i]? = some r := ⟨_, qae (by omega)⟩
  have hab := hce i a b ha hb
  rw [if_neg (by omega)] at hab
  have hxb := hx b (qaf hb)
  have hxa : Ex24 a.ixs ∧ Ex24 a.es ∧ Ex24 a.fs := by obtain ⟨x, y, z, rfl⟩ := hab; exact hxb
  have ham := qaf ha
  have hacm := hc.ac a ham
  obtain ⟨a1, a2, _⟩ := (hc.ge.gr.rd qv).at ha
  have a2' := a2 m' (Sees.refl hc.ge.st.sees.base)
  have hc1 := hc.step (Ext.row m' zAc)
  have g1 := hc.ge.row zAc
  obtain ⟨m1, hm1⟩ := qb8 (Dx.newRow m' zAc)
  rw [← hm1] at hc1 g1
  obtain ⟨m2, s1, s2, s3, s4⟩ := g1.fill 0 rfl (n := 11) (l' := qe a) rfl rfl (qM hacm)
  have g2 : GE m0 m2 [(m'.n, qe a), (T, [sv])] sv 11 qe cur := s2
  have n1 : m1.n = m'.n + 1 := by rw [hm1, qm]
  have ac2 : ∀ c ∈ cur, AcOK m2 c := fun c hcm => (hc1.ac c hcm).congr (by omega) fun X hX => s4 X (by have := (hc.ac c hcm).lt hX; omega)
  have hm2 : m2.base ≤ m2.n := g2.st.sees.base
  obtain ⟨v1, q1, c1, c2, c3, c4⟩ := yG hxa.2.1 a.ev N (by omega) m2 hm2 (ac2 a ham).ev
  have g3 := g2.step c3
  have ac3 : ∀ c ∈ cur, AcOK (Dx.behind m2 q1) c := fun c hcm => (ac2 c hcm).sees ((Sees.refl hm2).ext c3)
  obtain ⟨m3, hm3⟩ := qb8 (Dx.behind m2 q1)
  rw [← hm3] at c3 c4 g3 ac3
  obtain ⟨v2, q2, d1, d2, d3, d4⟩ := yG hxa.2.2 a.fv N (by omega) m3 g3.st.sees.base (ac3 a ham).fv
  have g4 := g3.step d3
  have ac4 : ∀ c ∈ cur, AcOK (Dx.behind m3 q2) c := fun c hcm => (ac3 c hcm).sees ((Sees.refl g3.st.sees.base).ext d3)
  obtain ⟨m4, hm4⟩ := qb8 (Dx.behind m3 q2)
  rw [← hm4] at d3 d4 g4 ac4
  obtain ⟨v3, q3, e1, e2, e3, e4⟩ := yG hxa.1 a.ix N (by omega) m4 g4.st.sees.base (ac4 a ham).ix
  have g5 := g4.step e3
  have ac5 : ∀ c ∈ cur, AcOK (Dx.behind m4 q3) c := fun c hcm => (ac4 c hcm).sees ((Sees.refl g4.st.sees.base).ext e3)
  obtain ⟨m5, hm5⟩ := qb8 (Dx.behind m4 q3)
  rw [← hm5] at e3 e4 g5 ac5
  have lT2 : ∀ s, load1 m2 ⟨T, 0, s⟩ = some sv := fun s => (g2.st.get 1 rfl).2.2.load1 0 s
  have lr2 : ∀ p s, load1 m2 ⟨m'.n, p, s⟩ = (qe a)[p]? := fun p s => (g2.st.get 0 rfl).2.2.load1 p s
  have lr3 : ∀ p s, load1 m3 ⟨m'.n, p, s⟩ = (qe a)[p]? := fun p s => (g3.st.get 0 rfl).2.2.load1 p s
  have lr4 : ∀ p s, load1 m4 ⟨m'.n, p, s⟩ = (qe a)[p]? := fun p s => (g4.st.get 0 rfl).2.2.load1 p s
  simp only [qe] at lr2 lr3 lr4
  obtain ⟨y1, hy1⟩ : ∃ y : Ac, y = { a with ev := v1, es := wM a.es } := ⟨_, rfl⟩
  obtain ⟨y2, hy2⟩ : ∃ y : Ac, y = { y1 with fv := v2, fs := wM a.fs } := ⟨_, rfl⟩
  obtain ⟨y3, hy3⟩ : ∃ y : Ac, y = { y2 with ix := v3, ixs := wM a.ixs } := ⟨_, rfl⟩
  have w1 : GrR m2 m5 v1 4 qg (wM a.es) := (c4.keep d3.n fun B hB _ => d3.obj B hB).keep e3.n fun B hB _ => e3.obj B hB
  have w2 : GrR m3 m5 v2 4 qg (wM a.fs) := d4.keep e3.n fun B hB _ => e3.obj B hB
  have hil' : i < cur.length := by omega
  obtain ⟨B, p1, hB, ia, f1, f2, f3, f4, f5⟩ := g5.cellAny qv ha (o := 5) (y := y1) (val := v1) (by omega) w1.okC (by rw [hy1]; rfl)
  obtain ⟨m6, hm6⟩ := qb8 (Dx.behind m5 p1)
  rw [← hm6] at f3 f4 f5
  obtain ⟨B', p2, hB', _, h1, h2, h3, h4, h5⟩ := f3.cellAny qv (i := i) (o := 6) (x := y1) (y := y2) (val := v2) (by rw [qaz hil']) (by omega) w2.okC (by rw [hy2]; rfl)
  obtain rfl : B' = B := by rw [hB] at hB'; exact (Option.some.inj hB').symm
  obtain ⟨m7, hm7⟩ := qb8 (Dx.behind m6 p2)
  rw [← hm7] at h3 h4 h5
  obtain ⟨B'', p3, hB'', _, k1, k2, k3, k4, k5⟩ := h3.cellAny qv (i := i) (o := 4) (x := y2) (y := y3) (val := v3) (by rw [qaz (by simpa using hil')]) (by omega) e4.okC (by rw [hy3]; rfl)
  obtain rfl : B'' = B' := by rw [hB] at hB''; exact (Option.some.inj hB'').symm
  obtain ⟨m8, hm8⟩ := qb8 (Dx.behind m7 p3)
  rw [← hm8] at k3 k4 k5
  rw [List.set_set, List.set_set] at k3
  have had : adr 11 sv i = ⟨B'', i * 11, none⟩ := by
   have := a1.symm.trans ia
   simpa using this
  rw [had] at a1 a2'
  simp [t0, t7, t8, t9, hd, ni, a1, a2', qf, ← hm1, s1, lT2, lr2, c1, c2, ← hm3, lr3, d1, d2, ← hm4, lr4, e1, e2, ← hm5, ia, f1, f2, ← hm6, h1, h2, ← hm7, k1, k2, ← hm8]
  have hT : T < m'.n := (hc.ge.st.get 0 rfl).2.1
  have hBlt : B'' < m2.n := by have := (g2.gr.low B'' hB).2; exact this
  have ob : ∀ X, X ≠ B'' → m8.obj X = m5.obj X := fun X hX => by rw [k5 X hX, h5 X hX, f5 X hX]
  have n8 : m8.n = m5.n := by omega
  have n32 : m2.n ≤ m3.n := c3.n
  have n43 : m3.n ≤ m4.n := d3.n
  have n54 : m4.n ≤ m5.n := e3.n
  have low1 : ∀ X, blk v1 = some X → m2.n ≤ X := fun X hX => (w1.low X hX).1
  have low2 : ∀ X, blk v2 = some X → m3.n ≤ X := fun X hX => (w2.low X hX).1
  have low3 : ∀ X, blk v3 = some X → m4.n ≤ X := fun X hX => (e4.low X hX).1
  have in3 : ∀ X, zd y3 X → m2.n ≤ X := fun X hX => by
   rw [hy3, hy2, hy1] at hX
   rcases hX with hX | hX | hX
   ·have := low3 X hX; omega
   ·have := low1 X hX; omega
   ·have := low2 X hX; omega
  have hfl : ∀ {e : List Nd}, Ex24 e → (wM e).length ≤ 9223372036854775807 := fun {e} he => by
   rcases he with rfl | he
   ·simp [wM]
   ·obtain ⟨x1, x2, x3⟩ := wR he
    have := (zW x3 e.length (e.length - 1) [] (by omega) (by omega)).len
    rw [xB he] at this
    unfold wM
    split
    ·simp
    ·simp at this; omega
  have hk8 : ∀ {v : Value} {es : List Nd}, Rd m5 v 4 qg es → (∀ X, blk v = some X → m2.n ≤ X) → Rd m8 v 4 qg es := fun {v es} hr hl => hr.congr (by omega) fun X hX => ob X (by have := hl X hX; omega)
  have ok3 : AcOK m8 y3 := by
   rw [hy3, hy2, hy1]
   exact ⟨hk8 (e4.rd wy) fun X hX => by have := low3 X hX; omega, hk8 (w1.rd wy) low1, hk8 (w2.rd wy) fun X hX => by have := low2 X hX; omega, hfl hxa.1, hfl hxa.2.1, hfl hxa.2.2⟩
  have hmem : ∀ c ∈ cur.set i y3, c = y3 ∨ c ∈ cur := fun c hcm => by
   rcases qas hcm with hh | hh
   ·exact .inr hh
   ·exact .inl hh
  refine hk hil _ _ ⟨⟨cur.set i y3, ⟨?_, fun c hcm => ?_, fun c hcm X hX => ?_, by simpa using hc.len⟩, by simpa using hcl, fun j c d hcj hdj => ?_, fun j c hj hcj X hX => ?_⟩, ⟨by omega, fun B hB hBT hBs => ?_⟩, by simp [t0], by simp [t7], by simp [t8], by simp⟩
  ·exact k3.sub (by simp) (by simp)
  ·rcases hmem c hcm with rfl | hcc
   ·exact ok3
   ·exact (ac5 c hcc).congr (by omega) fun X hX => ob X fun e => (hc.sep c hcc X hX).2 (by rw [e]; exact hB)
  ·rcases hmem c hcm with rfl | hcc
   ·have := in3 X hX
    exact ⟨by omega, fun e => by rw [hB] at e; cases e; omega⟩
   ·exact hc.sep c hcc X hX
  ·by_cases hji : i = j
   ·subst hji
    rw [qaz (by omega)] at hcj
    cases hcj
    rw [hb] at hdj; cases hdj
    rw [if_pos (by omega)]
    obtain ⟨x, y, z, rfl⟩ := hab
    exact ⟨v3, v1, v2, by rw [hy3, hy2, hy1]; rfl⟩
   ·rw [qb5 hji] at hcj
    have := hce j c d hcj hdj
    by_cases h1 : j < i
    ·rw [if_pos h1] at this; rw [if_pos (by omega)]; exact this
    ·rw [if_neg h1] at this; rw [if_neg (by omega)]; exact this
  ·by_cases hji : i = j
   ·subst hji
    rw [qaz (by omega)] at hcj
    cases hcj
    have := in3 X hX
    have := g2.st.ext.n
    omega
   ·rw [qb5 hji] at hcj
    exact hnw j c (by omega) hcj X hX
  ·rw [ob B (fun e => hBs (by rw [e]; exact hB'')), e3.obj B (by omega), d3.obj B (by omega), c3.obj B (by omega), s4 B (by omega), hm1, (Ext.row m' _).obj B (by omega)]
   exact hfr B hB hBT hBs
 ·obtain rfl : i = n := by omega
  have hd : ((i : Int) < (i : Int)) = False := eq_false (by omega)
  simp [t8, t9, hd]
  refine yh ⟨cur, hc, ⟨by simp [hcl, hn], fun j a b ha hb => ?_⟩, fun a ha X hX => ?_, hfn, hfr⟩
  rotate_left
  ·obtain ⟨j, hj⟩ := qb1 ha
   exact hnw j a (by have := (qag.1 hj).1; omega) hj X hX
  rw [qaw] at hb
  cases hbj : acs[j]? with
  | none => rw [hbj] at hb; cases hb
  | some b' =>
   rw [hbj] at hb; cases hb
   have := hce j a b' ha hbj
   rwa [if_pos (by have := (qag.1 hbj).1; omega)] at this
end Go.Sx
namespace Go.Sx
open Go.Dx Go.Proofs
set_option maxRecDepth 10000
theorem za {o : Nat → Bool} {acs : List Ac} {a : Ac} (h : a ∈ wo o acs) : ∃ b ∈ acs, a = wV o b := by
 obtain ⟨b, hb, rfl⟩ := List.mem_map.1 h
 exact ⟨b, jq hb, rfl⟩
theorem zh (o : Nat → Bool) (b : Ac) : ∃ z, wV o b = { b with to := z } := by
 unfold wV
 split
 ·exact ⟨_, rfl⟩
 ·exact ⟨b.to, rfl⟩
theorem yw (o : Nat → Bool) (acs : List Ac) : (wo o acs).length ≤ acs.length := by
 unfold wo; rw [List.length_map, zA (qah _)]; exact Xx o _
theorem WoR.ts {m0 m m' : M} {T : Nat} {sv v : Value} {acs : List Ac} {o : Nat → Bool} (h : TS m0 m T sv acs) (w : WoR m T acs o v m') : ∃ lv, TS m0 m' T lv (wo o acs) ∧ ∀ X, blk lv = some X → m.n ≤ X := by
 obtain ⟨lv, w1, w2⟩ := w.t
 have hT := h.ge.st.get 0 rfl
 have hE : Ext m0 m' := ⟨qaq h.ge.st.ext.n w.n, fun B hB => by rw [w.obj B (qaj hB h.ge.st.ext.n) (by omega)]; exact h.ge.st.ext.obj B hB, w.base.trans h.ge.st.ext.base, w.log.trans h.ge.st.ext.log⟩
 have lowv : ∀ X, blk lv = some X → m.n ≤ X := fun X hX => (w2.low X hX).1
 refine ⟨lv, ⟨⟨⟨hE, h.ge.st.base, fun p hp => ?_, by simp⟩, w2.mono0 h.ge.st.ext.n, fun B hB p hp => ?_⟩, fun a ha => ?_, fun a ha X hX => ?_, qaq (yw o acs) h.len⟩, lowv⟩
 ·rw [qal.1 hp]; exact ⟨hT.1, qaj hT.2.1 w.n, w1⟩
 ·rw [qal.1 hp]; have := lowv B hB; have := hT.2.1; simp; omega
 ·obtain ⟨b, hb, rfl⟩ := za ha
  obtain ⟨z, hz⟩ := zh o b
  rw [hz]
  have hbm := h.ac b hb
  have : AcOK m' b := hbm.congr w.n fun X hX => w.obj X (hbm.lt hX) (h.sep b hb X hX).1
  exact ⟨this.ix, this.ev, this.fv, this.ixl, this.evl, this.fvl⟩
 ·obtain ⟨b, hb, rfl⟩ := za ha
  obtain ⟨z, hz⟩ := zh o b
  rw [hz] at hX
  have hXb : zd b X := hX
  have := (h.ac b hb).lt hXb
  exact ⟨(h.sep b hb X hXb).1, fun e => by have := lowv X e; omega⟩
def zB (e : List Nd) : Bool := match e[e.length - 1]? with
 | some n => decide (n.op = 1)
 | none => false
def jQ (a : Ac) : Bool := decide (a.op = 10) && zB a.es
def zV (acs : List Ac) (i : Nat) : Bool := match acs[i]? with
 | some a => jQ a
 | none => false
theorem XX (C T : Nat) (sv : Value) (acs : List Ac) (N : Nat) (m : M) (hm : m.base ≤ m.n) (hC : ∀ s, load1 m ⟨C, 0, s⟩ = some (.pointer (some ⟨T, 0, none⟩))) (hT : ∀ s, load1 m ⟨T, 0, s⟩ = some sv) (hrd : Rd m sv 11 qe acs) (hac : ∀ a ∈ acs, AcOK m a) (hne : ∀ a ∈ acs, a.op = 10 → a.es ≠ []) {i : Nat} (hi : i < acs.length) :
  CallV (ex Tryz.prog (N + 1)) 164 [iv i, .pointer (some ⟨C, 0, none⟩)] m (.bool (zV acs i)) := by
 refine qp dg3_ok (by simp) ?_
 obtain ⟨a, ha⟩ : ∃ r, acs[i]? = some r := ⟨_, qae hi⟩
 have ham := qaf ha
 have hacm := hac a ham
 have hv : zV acs i = jQ a := by unfold zV; rw [ha]
 rw [hv]
 obtain ⟨a1, a2, _⟩ := hrd.at ha
 have a2' := a2 m (Sees.refl hm)
 have st1 := (St.nil hm (Ext.refl m)).row zAc
 obtain ⟨m1, hm1⟩ := qb8 (Dx.newRow m zAc)
 rw [← hm1] at st1
 obtain ⟨m2, s1, s2, s3, s4⟩ := st1.fill 0 rfl (n := 11) (l' := qe a) rfl rfl (qM hacm)
 have st2 : St m m2 [(m.n, qe a)] := s2
 have l2 : ∀ p s, load1 m2 ⟨m.n, p, s⟩ = (qe a)[p]? := fun p s => (st2.get 0 rfl).2.2.load1 p s
 simp only [qe] at l2
 unfold jQ
 by_cases h10 : a.op = 10
 ·have d10 : decide (a.op = 10) = true := decide_eq_true h10
  have hes := hne a ham h10
  obtain ⟨n, hn⟩ : ∃ n, a.es.length = n + 1 := ⟨a.es.length - 1, by have := qb4.2 hes; omega⟩
  have hnl := hacm.evl
  obtain ⟨e, he⟩ : ∃ r, a.es[n]? = some r := ⟨_, qae (by omega)⟩
  have hl : zB a.es = decide (e.op = 1) := by unfold zB; rw [hn, Nat.add_sub_cancel, he]
  have hle : qL a.ev = some (.int .i64 ((n + 1 : Nat) : Int)) := by rw [← hn]; exact hacm.ev.len
  have w1 : IntKind.i64.wrap (((n + 1 : Nat) : Int) - 1) = (n : Int) := by rw [wrap64 _ (by omega) (by omega)]; omega
  obtain ⟨b1, _, b3⟩ := (hacm.ev.sees st2.sees).at he
  have b3' : ∀ s, load1 m2 ⟨(adr 4 a.ev n).block, (adr 4 a.ev n).off, s⟩ = some (.int .i64 e.op) := fun s => b3 m2 0 s st2.sees.self (by simp [qg])
  obtain ⟨n1, hn1⟩ := qb8 (n + 1)
  rw [← hn1] at hle w1
  rw [hl]
  simp [hC, hT, a1, a2', qf, ← hm1, s1, l2, d10, h10, hle, w1, b1, b3']
  exact qh st2.ext (by simp)
 ·have d10 : decide (a.op = 10) = false := decide_eq_false h10
  simp [hC, hT, a1, a2', qf, ← hm1, s1, l2, d10, h10]
  exact qh st2.ext (by simp)
end Go.Sx
namespace Go.Sx
open Go.Dx Go.Proofs
set_option maxRecDepth 10000
def Kp (e : List Nd) : Nat := match e[0]? with
 | some n => n.val.1
 | none => 1
def kF (a : Ac) : Ac := ⟨9, 0, 0, 0, .slice none 0 0, .slice none 0 0, .slice none 0 0, 0, a.to, a.line, a.col, [], [], []⟩
def wT (a : Ac) : Ac := if jQ a = true ∧ Kp a.es = 0 then kF a else a
theorem bJmp (to line col : Int) : wn zAc [(0, 1, .int .i64 9), (8, 1, .int .i64 to), (9, 1, .int .i64 line), (10, 1, .int .i64 col)] = some (.agg ⟨[.int .i64 9, .int .i64 0, .int .i64 0, .int .i64 0, .slice none 0 0, .slice none 0 0, .slice none 0 0, .int .i64 0, .int .i64 to, .int .i64 line, .int .i64 col]⟩) := rfl
theorem JL (m : M) (a : Ac) : AcOK m (kF a) := ⟨ku, ku, ku, by simp [kF], by simp [kF], by simp [kF]⟩
theorem WZ {a : Ac} {X : Nat} (h : zd (kF a) X) : False := by
 rcases h with h | h | h <;> cases h
def brs (acs : List Ac) : List Ac := wo (zV (acs.map wT)) (acs.map wT)
structure TSC (m0 m : M) (T C : Nat) (sv : Value) (acs : List Ac) : Prop where
 ge : GE m0 m [(C, [.pointer (some ⟨T, 0, none⟩)]), (T, [sv])] sv 11 qe acs
 ac : ∀ a ∈ acs, AcOK m a
 sep : ∀ a ∈ acs, ∀ X, zd a X → X ≠ T ∧ blk sv ≠ some X
 len : acs.length ≤ 65536
theorem TSC.ts {m0 m : M} {T C : Nat} {sv : Value} {acs : List Ac} (h : TSC m0 m T C sv acs) : TS m0 m T sv acs := ⟨h.ge.sub (by simp) (by simp), h.ac, h.sep, h.len⟩
theorem Zj {m0 m : M} {T : Nat} {sv : Value} {acs : List Ac} (h : TS m0 m T sv acs) (hto : ∀ a ∈ acs, (a.op = 9 ∨ a.op = 10) → 0 ≤ a.to ∧ a.to ≤ acs.length) (hne : ∀ a ∈ acs, a.op = 10 → a.es ≠ []) (N : Nat) :
  ∃ v m' lv, (ex Tryz.prog (N + 3)).f 110 [.pointer (some ⟨T, 0, none⟩)] m = some (v, m') ∧ TS m0 m' T lv (brs acs) ∧ (∀ X, blk lv = some X → m.n ≤ X) ∧ m.n ≤ m'.n ∧ ∀ B, B < m.n → B ≠ T → blk sv ≠ some B → m'.obj B = m.obj B := by
 have hf := kM (P := Tryz.prog) (n := N + 2) (args := [.pointer (some ⟨T, 0, none⟩)]) (m := m) (Q := fun _ m' => (∃ lv, TS m0 m' T lv (brs acs) ∧ (∀ X, blk lv = some X → m.n ≤ X)) ∧ m.n ≤ m'.n ∧ ∀ B, B < m.n → B ≠ T → blk sv ≠ some B → m'.obj B = m.obj B) FI (by simp) ?_
 ·obtain ⟨v, m', h1, ⟨lv, h2, h2'⟩, h3⟩ := hf; exact ⟨v, m', lv, h1, h2, h2', h3⟩
 obtain ⟨n, hn⟩ := qb8 (acs.length)
 have hnl : n ≤ 65536 := by rw [hn]; exact h.len
 have hsl : qL sv = some (.int .i64 (n : Int)) := by rw [hn]; exact h.ge.gr.lens
 have g0 := h.ge.row [.pointer (some ⟨T, 0, none⟩)]
 have h0 := h.step (Ext.row m [.pointer (some ⟨T, 0, none⟩)])
 obtain ⟨C, hC⟩ := qb8 (m.n)
 obtain ⟨m1, hm1⟩ := qb8 (Dx.newRow m [.pointer (some ⟨T, 0, none⟩)])
 have hbx : yA (.pointer (some ⟨T, 0, none⟩)) m = some (.pointer (some ⟨m.n, 0, none⟩), m1) := by rw [hm1]; rfl
 rw [← hm1, ← hC] at g0
 rw [← hm1] at h0
 have lT1 : ∀ s, load1 m1 ⟨T, 0, s⟩ = some sv := fun s => (g0.st.get 1 rfl).2.2.load1 0 s
 have lC1 : ∀ s, load1 m1 ⟨C, 0, s⟩ = some (.pointer (some ⟨T, 0, none⟩)) := fun s => (g0.st.get 0 rfl).2.2.load1 0 s
 simp [hbx, ← hm1, ← hC, lC1, lT1, hsl]
 refine qq (c := FE) rfl (jc _) (fun i t m' => (∃ cur, TSC m0 m' T C sv cur ∧ cur.length = n ∧ ∀ (j : Nat) a b, cur[j]? = some a → acs[j]? = some b → a = if j < i then wT b else b) ∧ (m.n ≤ m'.n ∧ ∀ B, B < m.n → B ≠ T → blk sv ≠ some B → m'.obj B = m.obj B) ∧ Tm.get 1 t = .pointer (some ⟨C, 0, none⟩) ∧ Tm.get 2 t = .func (.func 164) #[] #[.pointer (some ⟨C, 0, none⟩)] ∧ Tm.get 9 t = sv ∧ Tm.get 10 t = iv n ∧ Tm.get 11 t = iv i) n (by omega)
  ⟨⟨acs, ⟨g0, h0.ac, h0.sep, h0.len⟩, hn.symm, fun j a b ha hb => by rw [ha] at hb; cases hb; rw [if_neg (by omega)]⟩, ⟨by rw [hm1, qm]; omega, fun B hB _ _ => by rw [hm1]; exact (Ext.row _ _).obj B hB⟩, by simp, by simp, by simp, by simp, by simp⟩ (fun i t m' k hi hI hk => ?_)
 obtain ⟨⟨cur, hc, hcl, hce⟩, ⟨hfn, hfr⟩, t1, t2, t9, t10, t11⟩ := hI
 have hmb : m'.base ≤ m'.n := hc.ge.st.sees.base
 have curm : ∀ a ∈ cur, ∃ b ∈ acs, a = b ∨ (a = wT b) := fun a ha => by
  obtain ⟨j, hj⟩ := qb1 ha
  have hjl := (qag.1 hj).1
  obtain ⟨b, hb⟩ : ∃ b, acs[j]? = some b := ⟨_, qae (by omega)⟩
  refine ⟨b, qaf hb, ?_⟩
  have := hce j a b hj hb
  split at this
  ·exact .inr this
  ·exact .inl this
 have hneC : ∀ a ∈ cur, a.op = 10 → a.es ≠ [] := fun a ha h10 => by
  obtain ⟨b, hb, rfl | rfl⟩ := curm a ha
  ·exact hne _ hb h10
  ·unfold wT at h10 ⊢
   split at h10
   ·simp [kF] at h10
   ·rename_i hh; rw [if_neg hh]; exact hne _ hb h10
 have lT : ∀ s, load1 m' ⟨T, 0, s⟩ = some sv := fun s => (hc.ge.st.get 1 rfl).2.2.load1 0 s
 have lC : ∀ s, load1 m' ⟨C, 0, s⟩ = some (.pointer (some ⟨T, 0, none⟩)) := fun s => (hc.ge.st.get 0 rfl).2.2.load1 0 s
 by_cases hil : i < n
 ·have hd := dlt hil
  have ni := wj (i := i) (by omega)
  obtain ⟨a, ha⟩ : ∃ r, cur[i]? = some r := ⟨_, qae (by omega)⟩
  obtain ⟨b, hb⟩ : ∃ r, acs[i]? = some r := ⟨_, qae (by omega)⟩
  have hab := hce i a b ha hb
  rw [if_neg (by omega)] at hab
  subst hab
  have ham := qaf ha
  have hacm := hc.ac a ham
  have hrd := hc.ge.gr.rd qv
  obtain ⟨a1, a2, _⟩ := hrd.at ha
  have a2' := a2 m' (Sees.refl hmb)
  have g1 := hc.ge.row zAc
  obtain ⟨m2, hm2⟩ := qb8 (Dx.newRow m' zAc)
  rw [← hm2] at g1
  have n2 : m2.n = m'.n + 1 := by rw [hm2, qm]
  have o2 : ∀ X, X < m'.n → m2.obj X = m'.obj X := fun X hX => by rw [hm2]; exact (Ext.row _ _).obj X hX
  obtain ⟨m3, s1, s2, s3, s4⟩ := g1.fill 0 rfl (n := 11) (l' := qe a) rfl rfl (qM hacm)
  have g3 : GE m0 m3 [(m'.n, qe a), (C, [.pointer (some ⟨T, 0, none⟩)]), (T, [sv])] sv 11 qe cur := s2
  have ac3 : ∀ c ∈ cur, AcOK m3 c := fun c hcm => (hc.ac c hcm).congr (by omega) fun X hX => by
   have := (hc.ac c hcm).lt hX
   rw [s4 X (by omega), o2 X this]
  have lC3 : ∀ s, load1 m3 ⟨C, 0, s⟩ = some (.pointer (some ⟨T, 0, none⟩)) := fun s => (g3.st.get 1 rfl).2.2.load1 0 s
  have lT3 : ∀ s, load1 m3 ⟨T, 0, s⟩ = some sv := fun s => (g3.st.get 2 rfl).2.2.load1 0 s
  obtain ⟨_, m4, c1, c2, rfl⟩ := XX C T sv cur (N + 1) m3 g3.st.sees.base lC3 lT3 (g3.gr.rd qv) ac3 hneC (i := i) (by omega)
  have hv : zV cur i = jQ a := by unfold zV; rw [ha]
  rw [hv] at c1
  have g4 := g3.step c2
  have S4 := (Sees.refl g3.st.sees.base).ext c2
  have ac4 : ∀ c ∈ cur, AcOK m4 c := fun c hcm => (ac3 c hcm).sees S4
  have l4 : ∀ p s, load1 m4 ⟨m'.n, p, s⟩ = (qe a)[p]? := fun p s => (g4.st.get 0 rfl).2.2.load1 p s
  have lC4 : ∀ s, load1 m4 ⟨C, 0, s⟩ = some (.pointer (some ⟨T, 0, none⟩)) := fun s => (g4.st.get 1 rfl).2.2.load1 0 s
  have lT4 : ∀ s, load1 m4 ⟨T, 0, s⟩ = some sv := fun s => (g4.st.get 2 rfl).2.2.load1 0 s
  simp only [qe] at l4
  have fr4 : m.n ≤ m4.n ∧ ∀ B, B < m.n → B ≠ T → blk sv ≠ some B → m4.obj B = m.obj B := ⟨by have := c2.n; omega, fun B hB hBT hBs => by rw [c2.obj B (by omega), s4 B (by omega), o2 B (by omega)]; exact hfr B hB hBT hBs⟩
  have same : wT a = a → (∃ cur, TSC m0 m4 T C sv cur ∧ cur.length = n ∧ ∀ (j : Nat) c d, cur[j]? = some c → acs[j]? = some d → c = if j < i + 1 then wT d else d) := fun hbr =>
   ⟨cur, ⟨g4.sub (by simp) (by have := g4.st.nd; simp at this ⊢; exact this.2), ac4, hc.sep, hc.len⟩, hcl, fun j c d hcj hdj => by
    by_cases hji : j = i
    ·subst hji
     rw [ha] at hcj; rw [hb] at hdj; cases hcj; cases hdj
     rw [if_pos (by omega), hbr]
    ·rw [hce j c d hcj hdj]
     by_cases h1 : j < i
     ·rw [if_pos h1, if_pos (by omega)]
     ·rw [if_neg h1, if_neg (by omega)]⟩
  cases hnv : jQ a with
  | false =>
   rw [hnv] at c1
   simp [t1, t2, t9, t10, t11, hd, ni, a1, a2', qf, ← hm2, s1, c1]
   exact hk hil _ _ ⟨same (by unfold wT; rw [if_neg (by simp [hnv])]), fr4, by simp [t1], by simp [t2], by simp [t9], by simp [t10], by simp⟩
  | true =>
   rw [hnv] at c1
   have h10 : a.op = 10 := by unfold jQ at hnv; simp at hnv; exact hnv.1
   have hes := hneC a ham h10
   obtain ⟨e0, he0⟩ : ∃ r, a.es[0]? = some r := ⟨_, qae (qb4.2 hes)⟩
   have hfv : Kp a.es = e0.val.1 := by unfold Kp; rw [he0]
   obtain ⟨b1, _, b3⟩ := (ac4 a ham).ev.at he0
   have b1' : qZ 4 a.ev (.int .i64 0) = some (.pointer (some (adr 4 a.ev 0))) := b1
   have b3' : ∀ s, load1 m4 ⟨(adr 4 a.ev 0).block, (adr 4 a.ev 0).off + 1, s⟩ = some (uv e0.val.1) := fun s => b3 m4 1 s (Sees.refl g4.st.sees.base) (by simp [qg])
   by_cases hz : e0.val.1 = 0
   ·obtain ⟨B, p1, hB, ia, f1, f2, f3, f4, f5⟩ := g4.rowAny (by omega) qv (i := i) (y := kF a) (by omega) (qM (JL m4 a))
    have hj : qe (kF a) = [.int .i64 9, .int .i64 0, .int .i64 0, .int .i64 0, .slice none 0 0, .slice none 0 0, .slice none 0 0, .int .i64 0, iv a.to, iv a.line, iv a.col] := rfl
    rw [hj] at f1
    obtain ⟨m5, hm5⟩ := qb8 (Dx.behind m4 p1)
    rw [← hm5] at f3 f4 f5
    have had : adr 11 sv i = ⟨B, i * 11, none⟩ := by
     have := a1.symm.trans ia
     simpa using this
    rw [had] at a1 a2'
    have bj := bJmp a.to a.line a.col
    have hbr : wT a = kF a := by unfold wT; rw [if_pos ⟨hnv, by rw [hfv, hz]⟩]
    simp [t1, t2, t9, t10, t11, hd, ni, a1, a2', qf, ← hm2, s1, c1, l4, b1', b3', hz, lC4, lT4, bj, f1, f2, ← hm5]
    refine hk hil _ _ ⟨⟨cur.set i (kF a), ⟨f3.sub (by simp) (by have := f3.st.nd; simp at this ⊢; exact this.2), fun c hcm => ?_, fun c hcm X hX => ?_, by simpa using hc.len⟩, by simpa using hcl, fun j c d hcj hdj => ?_⟩, ⟨by omega, fun X hX hXT hXs => by rw [f5 X fun e => hXs (by rw [e]; exact hB)]; exact fr4.2 X hX hXT hXs⟩, by simp [t1], by simp [t2], by simp [t9], by simp [t10], by simp⟩
    ·rcases qas hcm with hcc | rfl
     ·exact (ac4 c hcc).congr (by omega) fun X hX => f5 X fun e => (hc.sep c hcc X hX).2 (by rw [e]; exact hB)
     ·exact JL _ _
    ·rcases qas hcm with hcc | rfl
     ·exact hc.sep c hcc X hX
     ·exact (WZ hX).elim
    ·by_cases hji : i = j
     ·subst hji
      rw [qaz (by omega)] at hcj
      cases hcj
      rw [hb] at hdj; cases hdj
      rw [if_pos (by omega), hbr]
     ·rw [qb5 hji] at hcj
      rw [hce j c d hcj hdj]
      by_cases h1 : j < i
      ·rw [if_pos h1, if_pos (by omega)]
      ·rw [if_neg h1, if_neg (by omega)]
   ·simp [t1, t2, t9, t10, t11, hd, ni, a1, a2', qf, ← hm2, s1, c1, l4, b1', b3', hz]
    exact hk hil _ _ ⟨same (by unfold wT; rw [if_neg (by rw [hfv]; exact fun h => hz h.2)]), fr4, by simp [t1], by simp [t2], by simp [t9], by simp [t10], by simp⟩
 ·obtain rfl : i = n := by omega
  have hd : ((i : Int) < (i : Int)) = False := eq_false (by omega)
  have hcur : cur = acs.map wT := by
   refine List.ext_getElem? fun j => ?_
   rw [qaw]
   by_cases hj : j < i
   ·obtain ⟨a, ha⟩ : ∃ r, cur[j]? = some r := ⟨_, qae (by omega)⟩
    obtain ⟨b, hb⟩ : ∃ r, acs[j]? = some r := ⟨_, qae (by omega)⟩
    rw [ha, hb, hce j a b ha hb, if_pos hj]; rfl
   ·rw [qb3 (by omega), qb3 (by omega)]; rfl
  have hT := hc.ge.st.get 1 rfl
  have hb0 := hc.ge.st.ext.base
  have hb1 := hc.ge.st.base
  obtain ⟨v, m2, w1, w2⟩ := xv 164 T [.pointer (some ⟨C, 0, none⟩)] sv cur (zV cur) (N + 1) m' hmb (by omega) hT.2.1 hT.2.2 (hc.ge.gr.rd qv) hc.ac hc.len (fun a ha hop => by
   obtain ⟨b, hb, rfl | rfl⟩ := curm a ha
   ·rw [hcl, hn]; exact hto _ hb hop
   ·rw [hcl, hn]
    unfold wT at hop ⊢
    split at hop
    ·rename_i hh
     rw [if_pos hh]
     have h10 : b.op = 10 := by have := hh.1; unfold jQ at this; simp at this; exact this.1
     show 0 ≤ b.to ∧ b.to ≤ (acs.length : Int)
     exact hto b hb (.inr h10)
    ·rename_i hh
     rw [if_neg hh]; exact hto _ hb hop) (fun j hj mm hs => XX C T sv cur N mm hs.base (fun s => by rw [kx hs (hc.ge.st.get 0 rfl).2.1]; exact lC s) (fun s => by rw [kx hs hT.2.1]; exact lT s) ((hc.ge.gr.rd qv).sees hs) (fun a ha => (hc.ac a ha).sees hs) hneC hj)
  obtain ⟨lv, hts, hlow⟩ := w2.ts hc.ts
  simp [t1, t2, t9, t10, t11, hd, lC, w1]
  refine yh ⟨⟨lv, ?_, fun X hX => by have := hlow X hX; omega⟩, by have := w2.n; omega, fun B hB hBT hBs => by rw [w2.obj B (by omega) hBT]; exact hfr B (by omega) hBT hBs⟩
  rw [hcur] at hts
  exact hts
end Go.Sx
namespace Go.Sx
open Go.Dx Go.Proofs
set_option maxRecDepth 10000
def zD (acs : List Ac) (i : Nat) : Bool := match acs[i]? with
 | some a => decide (a.op = 9) && decide (a.to = (i : Int) + 1)
 | none => false
theorem step_c (C T : Nat) (sv : Value) (acs : List Ac) (N : Nat) (m : M) (hm : m.base ≤ m.n) (hC : ∀ s, load1 m ⟨C, 0, s⟩ = some (.pointer (some ⟨T, 0, none⟩))) (hT : ∀ s, load1 m ⟨T, 0, s⟩ = some sv) (hrd : Rd m sv 11 qe acs) {i : Nat} (hi : i < acs.length) (hl : acs.length ≤ 65536) :
  CallV (ex Tryz.prog (N + 1)) 167 [iv i, .pointer (some ⟨C, 0, none⟩)] m (.bool (zD acs i)) := by
 refine qp dg6_ok (by simp) ?_
 obtain ⟨a, ha⟩ : ∃ r, acs[i]? = some r := ⟨_, qae hi⟩
 have hv : zD acs i = (decide (a.op = 9) && decide (a.to = ((i + 1 : Nat) : Int))) := by unfold zD; rw [ha]; simp
 rw [hv]
 obtain ⟨a1, _, a3⟩ := hrd.at ha
 have l0 : ∀ s, load1 m ⟨(adr 11 sv i).block, (adr 11 sv i).off, s⟩ = some (.int .i64 a.op) := fun s => a3 m 0 s (Sees.refl hm) (by simp [qe])
 have l8 : ∀ s, load1 m ⟨(adr 11 sv i).block, (adr 11 sv i).off + 8, s⟩ = some (.int .i64 a.to) := fun s => a3 m 8 s (Sees.refl hm) (by simp [qe])
 have ni := wj (i := i) (by omega)
 obtain ⟨i1, hi1⟩ := qb8 (i + 1)
 rw [← hi1] at ni ⊢
 by_cases h9 : a.op = 9
 ·have d9 : decide (a.op = 9) = true := decide_eq_true h9
  rw [h9] at l0
  rw [d9]
  simp [hC, hT, a1, l0, l8, ni]
  exact qh (Ext.refl m) (by simp)
 ·have d9 : decide (a.op = 9) = false := decide_eq_false h9
  simp [hC, hT, a1, l0, d9, h9]
  exact qh (Ext.refl m) (by simp)
def vG (acs : List Ac) : List Ac := wo (zD acs) acs
theorem Zv {m0 m : M} {T : Nat} {sv : Value} {acs : List Ac} (h : TS m0 m T sv acs) (hto : ∀ a ∈ acs, (a.op = 9 ∨ a.op = 10) → 0 ≤ a.to ∧ a.to ≤ acs.length) (N : Nat) :
  ∃ v m' lv, (ex Tryz.prog (N + 3)).f 113 [.pointer (some ⟨T, 0, none⟩)] m = some (v, m') ∧ TS m0 m' T lv (vG acs) ∧ (∀ X, blk lv = some X → m.n ≤ X) ∧ m.n ≤ m'.n ∧ ∀ B, B < m.n → B ≠ T → blk sv ≠ some B → m'.obj B = m.obj B := by
 have hf := kM (P := Tryz.prog) (n := N + 2) (args := [.pointer (some ⟨T, 0, none⟩)]) (m := m) (Q := fun _ m' => (∃ lv, TS m0 m' T lv (vG acs) ∧ (∀ X, blk lv = some X → m.n ≤ X)) ∧ m.n ≤ m'.n ∧ ∀ B, B < m.n → B ≠ T → blk sv ≠ some B → m'.obj B = m.obj B) df8_ok (by simp) ?_
 ·obtain ⟨v, m', h1, ⟨lv, h2, h2'⟩, h3⟩ := hf; exact ⟨v, m', lv, h1, h2, h2', h3⟩
 have g0 := h.ge.row [.pointer (some ⟨T, 0, none⟩)]
 have h0 := h.step (Ext.row m [.pointer (some ⟨T, 0, none⟩)])
 obtain ⟨C, hC⟩ := qb8 (m.n)
 obtain ⟨m1, hm1⟩ := qb8 (Dx.newRow m [.pointer (some ⟨T, 0, none⟩)])
 have hbx : yA (.pointer (some ⟨T, 0, none⟩)) m = some (.pointer (some ⟨m.n, 0, none⟩), m1) := by rw [hm1]; rfl
 rw [← hm1, ← hC] at g0
 rw [← hm1] at h0
 have hT := g0.st.get 1 rfl
 have hCb := g0.st.get 0 rfl
 have lT : ∀ s, load1 m1 ⟨T, 0, s⟩ = some sv := fun s => hT.2.2.load1 0 s
 have lC : ∀ s, load1 m1 ⟨C, 0, s⟩ = some (.pointer (some ⟨T, 0, none⟩)) := fun s => hCb.2.2.load1 0 s
 have hmb : m1.base ≤ m1.n := g0.st.sees.base
 have hb0 := g0.st.ext.base
 have hb1 := g0.st.base
 have hrd := g0.gr.rd qv
 obtain ⟨v, m2, w1, w2⟩ := xv 167 T [.pointer (some ⟨C, 0, none⟩)] sv acs (zD acs) (N + 1) m1 hmb (by omega) hT.2.1 hT.2.2 hrd h0.ac h0.len hto
  (fun j hj mm hs => step_c C T sv acs N mm hs.base (fun s => by rw [kx hs hCb.2.1]; exact lC s) (fun s => by rw [kx hs hT.2.1]; exact lT s) (hrd.sees hs) hj h0.len)
 obtain ⟨lv, hts, hlow⟩ := w2.ts h0
 simp [hbx, ← hm1, ← hC, lC, w1]
 have hn1 : m.n ≤ m1.n := by rw [hm1, qm]; omega
 exact yh ⟨⟨lv, hts, fun X hX => by have := hlow X hX; omega⟩, by have := w2.n; omega, fun B hB hBT _ => by rw [w2.obj B (by omega) hBT, hm1]; exact (Ext.row _ _).obj B (by omega)⟩
end Go.Sx
namespace Go.Sx
open Go.Dx Go.Proofs
set_option maxRecDepth 10000
def yE (x : Nat) : List Value := [iv x]
theorem yt (x : Nat) : (yE x).length = 1 := rfl
theorem Vr (x : Nat) : ∀ v ∈ yE x, Dx.okC v = true := by intro v hv; simp [yE] at hv; subst hv; rfl
def TD (m0 m : M) (v : Value) (rows : List Nat) : Prop := GrR m0 m v 1 yE rows ∨ ∃ B w, m0.n ≤ B ∧ B < m.n ∧ rows.length ≤ 1 ∧ v = .slice (some ⟨B, 0, some 3⟩) rows.length 1 ∧ Arr m B [w] ∧ ∀ x ∈ rows, w = iv x
section
variable {m0 m m' : M} {v : Value} {rows l : List Nat} {x : Nat}
theorem TD.keep (h : TD m0 m v rows) (hn : m.n ≤ m'.n) (k : ∀ B, B < m.n → blk v = some B → m'.obj B = m.obj B) : TD m0 m' v rows := by
 rcases h with h | ⟨B, w, h1, h2, h3, rfl, h5, h6⟩
 ·exact .inl (h.keep hn k)
 ·exact .inr ⟨B, w, h1, qaj h2 hn, h3, rfl, h5.congr (k B h2 rfl), h6⟩
theorem TD.lens (h : TD m0 m v rows) : qL v = some (.int .i64 (rows.length : Int)) := by
 rcases h with h | ⟨B, w, h1, h2, h3, rfl, h5, h6⟩
 ·exact h.lens
 ·rfl
theorem TD.low (h : TD m0 m v rows) : ∀ B, blk v = some B → m0.n ≤ B ∧ B < m.n := fun X hX => by
 rcases h with h | ⟨B, w, h1, h2, h3, rfl, h5, h6⟩
 ·exact h.low X hX
 ·cases hX; exact ⟨h1, h2⟩
theorem TD.last (h : TD m0 m v (l ++ [x])) : qZ 1 v (.int .i64 (l.length : Int)) = some (.pointer (some (adr 1 v l.length))) ∧ ∀ s, load1 m ⟨(adr 1 v l.length).block, (adr 1 v l.length).off, s⟩ = some (iv x) := by
 rcases h with h | ⟨B, w, h1, h2, h3, rfl, h5, h6⟩
 ·have hr := (h.rd yt).row l.length x (by simp)
  refine ⟨hr.1, fun s => ?_⟩
  have := jK hr.2.2 (o := 0) (s := s) (v := iv x) rfl
  exact this
 ·have hl : l = [] := by
   cases l with
   | nil => rfl
   | cons a l => simp at h3
  subst hl
  refine ⟨rfl, fun s => ?_⟩
  have := h5.load1 0 s
  show load1 m ⟨B, 0 + 0 * 1, s⟩ = _
  rw [show 0 + 0 * 1 = 0 from rfl, this, h6 x (by simp)]; rfl
theorem TD.pop (h : TD m0 m v (l ++ [x])) : ∃ v', slV 1 none (some (.int .i64 (l.length : Int))) none v = some v' ∧ TD m0 m v' l ∧ blk v' = blk v := by
 rcases h with h | ⟨B, w, h1, h2, h3, rfl, h5, h6⟩
 ·obtain ⟨v', e1, e2, e3⟩ := h.take yt (k := l.length) (by simp)
  rw [List.take_left] at e2
  exact ⟨v', e1, .inl e2, e3⟩
 ·have hl : l = [] := by
   cases l with
   | nil => rfl
   | cons a l => simp at h3
  subst hl
  exact ⟨.slice (some ⟨B, 0, some 3⟩) 0 1, rfl, .inr ⟨B, w, h1, h2, by simp, rfl, h5, fun x hx => by cases hx⟩, rfl⟩
theorem TD.push (h : TD m0 m v rows) (hE : Ext m0 m) (hb : m0.base ≤ m0.n) (hl : rows.length ≤ 1000000) :
  ∃ v' m', qS (Dx.newRow m [iv x]) 1 8 v (.slice (some ⟨m.n, 0, some 3⟩) 1 1) = some (v', m') ∧ TD m0 m' v' (rows ++ [x]) ∧ Ext m0 m' ∧ m.n ≤ m'.n ∧ (∀ B, B < m.n → blk v ≠ some B → m'.obj B = m.obj B) ∧ (∀ B, blk v' = some B → blk v = some B ∨ m.n ≤ B) := by
 have E1 := Ext.row m [iv x]
 have hx : loads (Dx.newRow m [iv x]) ⟨m.n, 0, some 3⟩ 1 = some (yE x) := kl m _ 0 1 (by simp)
 have hlow := h.low
 have h' := h.keep (m' := Dx.newRow m [iv x]) E1.n fun B hB _ => E1.obj B hB
 rcases h' with h' | ⟨B, w, h1, h2, h3, rfl, h5, h6⟩
 ·obtain ⟨v', m', p1, p2, p3, p4, p5, p6, p7⟩ := h'.push (by omega) yt (x := x) (fun y _ => Vr y) hx (hE.trans E1).n (bytes := 8) (by unfold qW; omega) (by omega)
  have hEx := hE.trans E1
  refine ⟨v', m', p1, .inl p2, ⟨qaq hEx.n p3, fun B hB => ?_, p4.trans hEx.base, ?_⟩, qaq E1.n p3, fun B hB hne => ?_, fun B hB => ?_⟩
  ·rw [p6 B (qaj hB hEx.n) fun e => by have := (hlow B e).1; omega]; exact hEx.obj B hB
  ·rw [p5 fun B hB => by have := (hlow B hB).1; rw [hEx.base]; omega]; exact hEx.log
  ·rw [p6 B (qaj hB E1.n) hne]; exact E1.obj B hB
  ·rcases p7 B hB with e | e
   ·exact .inl e
   ·rw [qm] at e; exact .inr (by omega)
 ·have hfi : qI (Dx.newRow m [iv x]) 1 1 (.slice (some ⟨m.n, 0, some 3⟩) 1 1) = some (yE x) := by unfold qI; rw [Nat.one_mul]; exact hx
  have hBm : B < m.n := (hlow B rfl).2
  by_cases hr : rows = []
  ·subst hr
   obtain ⟨s1, s2, s3, s4, s5, s6⟩ := qY (o := 0) (l := [iv x]) h5 (by simp) (by simp [okC])
   refine ⟨.slice (some ⟨B, 0, some 3⟩) 1 1, zc (Dx.newRow m [iv x]) B 0 [iv x], ?_, .inr ⟨B, iv x, h1, by rw [s3]; exact h2, by simp, rfl, s2, fun y hy => by simp at hy; rw [hy]⟩, ?_, by rw [s3]; exact E1.n, fun X hX hne => by rw [s5 X fun e => hne (by rw [e]; rfl)]; exact E1.obj X hX, fun X hX => .inl hX⟩
   ·show ob (qI (Dx.newRow m [iv x]) 1 1 _) _ = _
    rw [hfi, qy]
    show ob (wA (Dx.newRow m [iv x]) ⟨B, 0, none⟩ [iv x]) _ = _
    rw [s1, qy]; rfl
   ·have hEx := hE.trans E1
    exact ⟨by rw [s3]; exact hEx.n, fun X hX => by rw [s5 X (by omega)]; exact hEx.obj X hX, by rw [s4]; exact hEx.base, by rw [s6 (by rw [hEx.base]; omega)]; exact hEx.log⟩
  ·obtain ⟨y, rfl⟩ : ∃ y, rows = [y] := by
    cases rows with
    | nil => exact absurd rfl hr
    | cons y l => cases l with
     | nil => exact ⟨y, rfl⟩
     | cons => simp at h3
   have hw := h6 y (by simp)
   subst hw
   have hold : qI (Dx.newRow m [iv x]) 1 1 (.slice (some ⟨B, 0, some 3⟩) 1 1) = some [iv y] := by
    unfold qI
    rw [Nat.one_mul]
    have := h5.loads (o := 0) (n := 1) (s := some 3) (by simp)
    exact this
   refine ⟨.slice (some ⟨(Dx.newRow m [iv x]).n, 0, some (code 1 false)⟩) 2 2, Dx.newRow (Dx.newRow m [iv x]) [iv y, iv x], ?_, .inl (.inr ⟨(Dx.newRow m [iv x]).n, 2, [], (hE.trans E1).n, Nat.lt_of_lt_of_eq (Nat.lt_succ_self _) (qm (Dx.newRow m [iv x]) _).symm, by simp, by omega, by simp, rfl, by simpa [yE] using Arr.row (Dx.newRow m [iv x]) [iv y, iv x]⟩), (hE.trans E1).trans (Ext.row _ _), by rw [qm, qm]; omega, fun X hX hne => by rw [(Ext.row _ _).obj X (by rw [qm]; omega)]; exact E1.obj X hX, fun X hX => by cases hX; exact .inr E1.n⟩
   show ob (qI (Dx.newRow m [iv x]) 1 1 _) _ = _
   rw [hfi, qy]
   show ob (qI (Dx.newRow m [iv x]) 1 1 (.slice (some ⟨B, 0, some 3⟩) 1 1)) _ = _
   rw [hold, qy]
   rfl
end
structure DS (m0 m : M) (σ : List (Nat × List Value)) (v : Value) (rows : List Nat) : Prop where
 st : St m0 m σ
 td : TD m0 m v rows
 sep : ∀ B, blk v = some B → ∀ p ∈ σ, p.1 ≠ B
section
variable {m0 m m' : M} {σ σ' : List (Nat × List Value)} {v : Value} {rows l : List Nat} {x : Nat}
theorem DS.step (h : DS m0 m σ v rows) (k : Ext m m') : DS m0 m' σ v rows := ⟨h.st.step k, h.td.keep k.n fun B hB _ => k.obj B hB, h.sep⟩
theorem DS.sub (h : DS m0 m σ v rows) (hs : ∀ p ∈ σ', p ∈ σ) (hn : (σ'.map (·.1)).Nodup) : DS m0 m σ' v rows := ⟨h.st.sub hs hn, h.td, fun B hB p hp => h.sep B hB p (hs p hp)⟩
theorem DS.row (h : DS m0 m σ v rows) (l : List Value) : DS m0 (Dx.newRow m l) ((m.n, l) :: σ) v rows := by
 refine ⟨h.st.row l, h.td.keep (Ext.row m l).n fun B hB _ => (Ext.row m l).obj B hB, fun B hB p hp => ?_⟩
 rcases List.mem_cons.1 hp with rfl | hp
 ·have := (h.td.low B hB).2; simp; omega
 ·exact h.sep B hB p hp
theorem DS.put (h : DS m0 m σ v rows) {k b : Nat} {l l' : List Value} (hk : σ[k]? = some (b, l)) (s2 : St m0 m' (σ.set k (b, l'))) (s3 : m'.n = m.n) (s4 : ∀ X, X ≠ b → m'.obj X = m.obj X) : DS m0 m' (σ.set k (b, l')) v rows := by
 refine ⟨s2, h.td.keep (by omega) fun B hB hb => s4 B fun e => ?_, fun B hB p hp => ?_⟩
 ·exact h.sep B hb (b, l) (qaf hk) e.symm
 ·obtain ⟨q, h1, h2⟩ := setk hk hp
  rw [← h2]; exact h.sep B hB q h1
theorem DS.store (h : DS m0 m σ v rows) (k : Nat) {b o : Nat} {l : List Value} {w : Value} (hk : σ[k]? = some (b, l)) (ho : o < l.length) (hv : Dx.okC w = true) :
  ∃ m', qH 1 (.pointer (some ⟨b, o, none⟩)) w m = some (undef, m') ∧ DS m0 m' (σ.set k (b, l.set o w)) v rows ∧ m'.n = m.n ∧ ∀ X, X ≠ b → m'.obj X = m.obj X := by
 obtain ⟨m', s1, s2, s3, s4⟩ := h.st.store k hk ho hv
 exact ⟨m', s1, h.put hk s2 s3 s4, s3, s4⟩
theorem DS.fill (h : DS m0 m σ v rows) (k : Nat) {b n : Nat} {l l' : List Value} (hk : σ[k]? = some (b, l)) (hl : l.length = n) (hl' : l'.length = n) (hv : ∀ v ∈ l', Dx.okC v = true) :
  ∃ m', qH n (.pointer (some ⟨b, 0, none⟩)) (.agg ⟨l'⟩) m = some (undef, m') ∧ DS m0 m' (σ.set k (b, l')) v rows ∧ m'.n = m.n ∧ ∀ X, X ≠ b → m'.obj X = m.obj X := by
 obtain ⟨m', s1, s2, s3, s4⟩ := h.st.fill k hk hl hl' hv
 exact ⟨m', s1, h.put hk s2 s3 s4, s3, s4⟩
theorem DS.push (h : DS m0 m σ v rows) (hl : rows.length ≤ 1000000) :
  ∃ v' m', qS (Dx.newRow m [iv x]) 1 8 v (.slice (some ⟨m.n, 0, some 3⟩) 1 1) = some (v', m') ∧ DS m0 m' σ v' (rows ++ [x]) ∧ m.n ≤ m'.n ∧ (∀ B, B < m.n → blk v ≠ some B → m'.obj B = m.obj B) := by
 obtain ⟨v', m', p1, p2, p3, p4, p5, p6⟩ := h.td.push (x := x) h.st.ext h.st.base hl
 refine ⟨v', m', p1, ⟨h.st.keepOn p3 p4 fun p hp => p5 p.1 (h.st.arr p hp).2.1 fun e => h.sep p.1 e p hp rfl, p2, fun B hB p hp => ?_⟩, p4, p5⟩
 rcases p6 B hB with e | e
 ·exact h.sep B e p hp
 ·have := (h.st.arr p hp).2.1; omega
end
end Go.Sx
namespace Go.Sx
open Go.Dx Go.Proofs
set_option maxRecDepth 10000
inductive Reach (acs : List Ac) : Nat → Prop
 | start : Reach acs 0
 | jump (i : Nat) (a : Ac) (z : Nat) (h : Reach acs i) (ha : acs[i]? = some a) (ho : a.op = 9 ∨ a.op = 10) (hz : a.to = z) : Reach acs z
 | next (i : Nat) (a : Ac) (h : Reach acs i) (ha : acs[i]? = some a) (ho : a.op ≠ 9) : Reach acs (i + 1)
def VO (acs : List Ac) (x y : Nat) : Prop := ∃ a, acs[x]? = some a ∧ (((a.op = 9 ∨ a.op = 10) ∧ a.to = y) ∨ (a.op ≠ 9 ∧ y = x + 1))
theorem Reach.closed {acs : List Ac} {s : Nat → Prop} (h0 : s 0) (hs : ∀ x y, s x → VO acs x y → s y) : ∀ {x}, Reach acs x → s x := by
 intro x h
 induction h with
 | start => exact h0
 | jump i a z _ ha ho hz ih => exact hs i z ih ⟨a, ha, .inl ⟨ho, hz⟩⟩
 | next i a _ ha ho ih => exact hs i (i + 1) ih ⟨a, ha, .inr ⟨ho, rfl⟩⟩
def uns (s : Nat → Bool) : Nat → Nat
 | 0 => 0
 | n + 1 => uns s n + (if s n then 0 else 1)
theorem WC (s : Nat → Bool) : ∀ n, uns s n ≤ n
 | 0 => qah _
 | n + 1 => by unfold uns; have := WC s n; split <;> omega
theorem fA {s : Nat → Bool} {x : Nat} (hx : s x = false) : ∀ n, uns s n = uns (upN s x true) n + (if x < n then 1 else 0)
 | 0 => rfl
 | n + 1 => by
  have h1 : uns s (n + 1) = uns s n + (if s n then 0 else 1) := rfl
  have h2 : uns (upN s x true) (n + 1) = uns (upN s x true) n + (if upN s x true n then 0 else 1) := rfl
  have h3 := fA hx n
  by_cases hn : n = x
  ·subst hn
   have e1 : (if n < n then 1 else 0) = 0 := if_neg (by omega)
   have e2 : (if n < n + 1 then 1 else 0) = 1 := if_pos (by omega)
   have e3 : (if s n = true then 0 else 1) = 1 := if_neg (by rw [hx]; simp)
   have e4 : (if upN s n true n = true then 0 else 1) = 0 := if_pos (wX _ _ _)
   omega
  ·have e4 : (if upN s x true n = true then 0 else 1) = (if s n = true then 0 else 1) := by rw [kV _ _ hn]
   by_cases hlt : x < n
   ·have e1 : (if x < n then 1 else 0) = 1 := if_pos hlt
    have e2 : (if x < n + 1 then 1 else 0) = 1 := if_pos (by omega)
    omega
   ·have e1 : (if x < n then 1 else 0) = 0 := if_neg hlt
    have e2 : (if x < n + 1 then 1 else 0) = 0 := if_neg (by omega)
    omega
structure WL (acs : List Ac) (s : Nat → Bool) (rows : List Nat) : Prop where
 todo : ∀ x ∈ rows, x ≤ acs.length ∧ Reach acs x
 seen : ∀ x, s x = true → x < acs.length ∧ Reach acs x
 closed : ∀ x y, s x = true → VO acs x y → y < acs.length → s y = true ∨ y ∈ rows
 zero : 0 ∈ rows ∨ (0 < acs.length → s 0 = true)
theorem WL.skip {acs : List Ac} {s : Nat → Bool} {l : List Nat} {x : Nat} (h : WL acs s (l ++ [x])) (hx : s x = true ∨ x = acs.length) : WL acs s l := by
 refine ⟨fun y hy => h.todo y (by simp [hy]), h.seen, fun y z hy hz hl => ?_, ?_⟩
 ·rcases h.closed y z hy hz hl with e | e
  ·exact .inl e
  ·rcases qb6.1 e with e | e
   ·exact .inr e
   ·rw [qal.1 e] at hl ⊢
    rcases hx with hx | hx
    ·exact .inl hx
    ·omega
 ·rcases h.zero with e | e
  ·rcases qb6.1 e with e | e
   ·exact .inl e
   ·have := qal.1 e
    subst this
    rcases hx with hx | hx
    ·exact .inr fun _ => hx
    ·exact .inr fun h => by omega
  ·exact .inr e
theorem WL.visit {acs : List Ac} {s : Nat → Bool} {l k : List Nat} {x : Nat} (h : WL acs s (l ++ [x])) (hx : s x = false) (hxl : x < acs.length) (hk : ∀ y, y ∈ k → y ≤ acs.length ∧ Reach acs y) (hs : ∀ y, VO acs x y → y ∈ k) : WL acs (upN s x true) (l ++ k) := by
 refine ⟨fun y hy => ?_, fun y hy => ?_, fun y z hy hz hl => ?_, ?_⟩
 ·rcases qb6.1 hy with e | e
  ·exact h.todo y (by simp [e])
  ·exact hk y e
 ·by_cases e : y = x
  ·subst e; exact ⟨hxl, (h.todo y (by simp)).2⟩
  ·rw [kV _ _ e] at hy; exact h.seen y hy
 ·by_cases e : y = x
  ·subst e; exact .inr (List.mem_append_right _ (hs z hz))
  ·rw [kV _ _ e] at hy
   rcases h.closed y z hy hz hl with e1 | e1
   ·by_cases e2 : z = x
    ·subst e2; exact .inl (wX _ _ _)
    ·exact .inl (by rw [kV _ _ e2]; exact e1)
   ·rcases qb6.1 e1 with e1 | e1
    ·exact .inr (List.mem_append_left _ e1)
    ·rw [qal.1 e1]; exact .inl (wX _ _ _)
 ·by_cases e : 0 = x
  ·subst e; exact .inr fun _ => wX _ _ _
  ·rcases h.zero with e1 | e1
   ·rcases qb6.1 e1 with e1 | e1
    ·exact .inl (List.mem_append_left _ e1)
    ·exact absurd (qal.1 e1) e
   ·exact .inr fun h => by rw [kV _ _ e]; exact e1 h
open Classical in
noncomputable def dR (acs : List Ac) (i : Nat) : Bool := !decide (Reach acs i)
open Classical in
theorem WL.done {acs : List Ac} {s : Nat → Bool} (h : WL acs s []) : ∀ i, i < acs.length → (!s i) = dR acs i := by
 intro i hi
 unfold dR
 have key : s i = true ↔ Reach acs i := by
  refine ⟨fun e => (h.seen i e).2, fun e => ?_⟩
  have := Reach.closed (s := fun x => x < acs.length → s x = true) (by rcases h.zero with e | e; cases e; exact e) (fun x y hx hy hl => by
   obtain ⟨a, ha, _⟩ := id hy
   have hxl := (qag.1 ha).1
   rcases h.closed x y (hx hxl) hy hl with e | e
   ·exact e
   ·cases e) e
  exact this hi
 by_cases hr : Reach acs i
 ·rw [key.2 hr, decide_eq_true hr]
 ·have : s i = false := by
   cases hs : s i with
   | false => rfl
   | true => exact absurd (key.1 hs) hr
  rw [this, decide_eq_false hr]
noncomputable def rea (acs : List Ac) : List Ac := wo (dR acs) acs
theorem Yy {o o' : Nat → Bool} {acs : List Ac} (h : ∀ i, i < acs.length → o i = o' i) (hto : ∀ a ∈ acs, (a.op = 9 ∨ a.op = 10) → 0 ≤ a.to ∧ a.to ≤ acs.length) : wo o acs = wo o' acs := by
 have hk : ∀ i, i ≤ acs.length → kb o i = kb o' i := by
  intro i
  induction i with
  | zero => intro _; rfl
  | succ i ih => intro hi; unfold kb; rw [ih (by omega), h i (by omega)]
 have ht : ∀ i, i ≤ acs.length → wq o acs i = wq o' acs i := by
  intro i
  induction i with
  | zero => intro _; rfl
  | succ i ih => intro hi; unfold wq; rw [ih (by omega), h i (by omega)]
 unfold wo
 rw [ht _ (qah _)]
 refine List.map_congr_left fun a ha => ?_
 unfold wV
 by_cases hop : a.op = 9 ∨ a.op = 10
 ·have := hto a (jq ha) hop
  rw [if_pos hop, if_pos hop, hk _ (by omega)]
 ·rw [if_neg hop, if_neg hop]
theorem seen_c (W Q n1 : Nat) (s : Nat → Bool) (N : Nat) (m : M) (hW : ∀ u, load1 m ⟨W, 0, u⟩ = some (.slice (some ⟨Q, 0, some 3⟩) n1 n1)) (hQ : ∀ p u, load1 m ⟨Q, p, u⟩ = (rgR n1 fun j => .bool (s j))[p]?) {i : Nat} (hi : i < n1) :
  CallV (ex Tryz.prog (N + 1)) 166 [iv i, .pointer (some ⟨W, 0, none⟩)] m (.bool (!s i)) := by
 refine qp dg5_ok (by simp) ?_
 have ix : qZ 1 (.slice (some ⟨Q, 0, some 3⟩) n1 n1) (.int .i64 (i : Int)) = some (.pointer (some ⟨Q, i, none⟩)) := by have := yc (e := 1) (c := 3) Q n1 i hi; rwa [Nat.mul_one] at this
 have l : ∀ u, load1 m ⟨Q, i, u⟩ = some (.bool (s i)) := fun u => by rw [hQ, kK _ hi]
 simp [hW, ix, l]
 exact qh (Ext.refl m) (by simp)
theorem Jb {m0 m : M} {T : Nat} {sv : Value} {acs : List Ac} (h : TS m0 m T sv acs) (hto : ∀ a ∈ acs, (a.op = 9 ∨ a.op = 10) → 0 ≤ a.to ∧ a.to ≤ acs.length) (N : Nat) :
  ∃ v m' lv, (ex Tryz.prog (N + 3)).f 112 [.pointer (some ⟨T, 0, none⟩)] m = some (v, m') ∧ TS m0 m' T lv (rea acs) ∧ (∀ X, blk lv = some X → m.n ≤ X) ∧ m.n ≤ m'.n ∧ ∀ B, B < m.n → B ≠ T → blk sv ≠ some B → m'.obj B = m.obj B := by
 have hf := kM (P := Tryz.prog) (n := N + 2) (args := [.pointer (some ⟨T, 0, none⟩)]) (m := m) (Q := fun _ m' => (∃ lv, TS m0 m' T lv (rea acs) ∧ (∀ X, blk lv = some X → m.n ≤ X)) ∧ m.n ≤ m'.n ∧ ∀ B, B < m.n → B ≠ T → blk sv ≠ some B → m'.obj B = m.obj B) df7_ok (by simp) ?_
 ·obtain ⟨v, m', h1, ⟨lv, h2, h2'⟩, h3⟩ := hf; exact ⟨v, m', lv, h1, h2, h2', h3⟩
 have hmb : m.base ≤ m.n := h.ge.st.sees.base
 obtain ⟨n, hn⟩ := qb8 (acs.length)
 have hnl : n ≤ 65536 := by rw [hn]; exact h.len
 have hTb := h.ge.st.get 0 rfl
 have hsl : qL sv = some (.int .i64 (n : Int)) := by rw [hn]; exact h.ge.gr.lens
 have lT : ∀ mm, Sees m mm → ∀ s, load1 mm ⟨T, 0, s⟩ = some sv := fun mm hs s => by rw [kx hs hTb.2.1]; exact hTb.2.2.load1 0 s
 have hrd := h.ge.gr.rd qv
 have w1 : IntKind.i64.wrap ((n : Int) + 1) = ((n + 1 : Nat) : Int) := wj (by omega)
 have mk := zm (n := n + 1) (e := 1) (bytes := 1) (zs := [.bool false]) rfl (by omega) (by unfold qW; omega) (by omega) m
 rw [jk] at mk
 have st1 := (St.nil hmb (Ext.refl m)).row (rgR (n + 1) fun _ => Value.bool false)
 obtain ⟨m1, hm1⟩ := qb8 (Dx.newRow m (rgR (n + 1) fun _ => Value.bool false))
 rw [← hm1] at st1 mk
 have st2 := st1.row [.slice none 0 0]
 obtain ⟨m2, hm2⟩ := qb8 (Dx.newRow m1 [.slice none 0 0])
 rw [← hm2] at st2
 obtain ⟨n1, hn1⟩ := qb8 (n + 1)
 rw [← hn1] at w1 mk st1 st2
 obtain ⟨m3, s1, s2, s3, s4⟩ := st2.store 0 rfl (o := 0) (v := .slice (some ⟨m.n, 0, some 3⟩) n1 n1) (by simp) rfl
 have st3 : St m m3 [(m1.n, [.slice (some ⟨m.n, 0, some 3⟩) n1 n1]), (m.n, rgR n1 fun _ => Value.bool false)] := s2
 have mk' : zo 1 1 [.bool false] (.int .i64 (n1 : Int)) (.int .i64 (n1 : Int)) m = some (.slice (some ⟨m.n, 0, some 3⟩) n1 n1, m1) := mk
 clear mk
 obtain ⟨W, hW⟩ := qb8 (m1.n)
 obtain ⟨Q, hQ⟩ := qb8 (m.n)
 rw [← hW, ← hQ] at st3 s1
 rw [← hQ] at mk'
 obtain ⟨m4, hm4⟩ := qb8 (Dx.newRow m3 [.int .i64 0])
 have b1 : kc 1 1 (rep 1 [.int .i64 0]) [(0, 1, .int .i64 0)] m3 = some (.slice (some ⟨m3.n, 0, some 3⟩) 1 1, m4) := by rw [hm4]; rfl
 have st4 := st3.step (Ext.row m3 [.int .i64 0])
 rw [← hm4] at st4
 have ds4 : DS m m4 [(W, [.slice (some ⟨Q, 0, some 3⟩) n1 n1]), (Q, rgR n1 fun _ => Value.bool false)] (.slice (some ⟨m3.n, 0, some 3⟩) 1 1) [0] := by
  refine ⟨st4, .inr ⟨m3.n, .int .i64 0, st3.ext.n, by rw [hm4, qm]; omega, by simp, rfl, by rw [hm4]; exact Arr.row _ _, fun x hx => by rw [qal.1 hx]; rfl⟩, fun B hB p hp => ?_⟩
  cases hB
  have := (st3.arr p hp).2.1
  show p.1 ≠ m3.n
  omega
 have ix : ∀ j, j < n1 → qZ 1 (.slice (some ⟨Q, 0, some 3⟩) n1 n1) (.int .i64 (j : Int)) = some (.pointer (some ⟨Q, j, none⟩)) := fun j hj => by have := yc (e := 1) (c := 3) Q n1 j hj; rwa [Nat.mul_one] at this
 have lT0 := lT m (Sees.refl hmb)
 simp [lT0, hsl, w1, mk', ← hm2, ← hW, s1, b1]
 refine qq (c := Gk) rfl (jc _) (fun i t m' => ∃ s rows, DS m m' [(W, [.slice (some ⟨Q, 0, some 3⟩) n1 n1]), (Q, rgR n1 fun j => .bool (s j))] (Tm.get 3 t) rows ∧ WL acs s rows ∧ 2 * uns s n + rows.length + i ≤ 2 * n + 1 ∧ Tm.get 0 t = .pointer (some ⟨T, 0, none⟩) ∧ Tm.get 2 t = .pointer (some ⟨W, 0, none⟩)) (2 * n + 1) (by omega)
  ⟨fun _ => false, [0], by simpa using ds4, ⟨fun x hx => by rw [qal.1 hx]; exact ⟨Nat.zero_le _, .start⟩, (fun x hx => by cases hx), (fun x y hx => by cases hx), .inl (by simp)⟩, by have := WC (fun _ => false) n; simp; omega, by simp, by simp⟩ (fun i t m' k hi hI hk => ?_)
 obtain ⟨s, rows, hds, hwl, hme, t0, t2⟩ := hI
 obtain ⟨tv, htv⟩ := qb8 (Tm.get 3 t)
 rw [← htv] at hds
 have S := hds.st.sees
 have hlen := hds.td.lens
 have lW : ∀ u, load1 m' ⟨W, 0, u⟩ = some (.slice (some ⟨Q, 0, some 3⟩) n1 n1) := fun u => (hds.st.get 0 rfl).2.2.load1 0 u
 have lQ : ∀ p u, load1 m' ⟨Q, p, u⟩ = (rgR n1 fun j => .bool (s j))[p]? := fun p u => (hds.st.get 1 rfl).2.2.load1 p u
 by_cases hr : rows = []
 ·subst hr
  have hlen0 : qL tv = some (.int .i64 0) := hlen
  have hT := hTb
  have hb0 := h.ge.st.ext.base
  have hb1 := h.ge.st.base
  have hE := hds.st.ext
  obtain ⟨v, m2', w1', w2'⟩ := xv 166 T [.pointer (some ⟨W, 0, none⟩)] sv acs (fun i => !s i) (N + 1) m' S.base (by rw [hE.base]; omega) (qaj hT.2.1 hE.n) (hT.2.2.ext hE hT.2.1) (hrd.sees S) (fun a ha => (h.ac a ha).sees S) h.len hto
   (fun j hj mm hs => seen_c W Q n1 s N mm (fun u => by rw [kx hs (hds.st.get 0 rfl).2.1]; exact lW u) (fun p u => by rw [kx hs (hds.st.get 1 rfl).2.1]; exact lQ p u) (by omega))
  obtain ⟨lv, hts, hlow⟩ := w2'.ts (h.step hE)
  rw [Yy hwl.done hto] at hts
  simp [← htv, hlen0, t0, t2, w1']
  exact yh ⟨⟨lv, hts, fun X hX => qaq hE.n (hlow X hX)⟩, qaq hE.n w2'.n, fun B hB hBT _ => by rw [w2'.obj B (qaj hB hE.n) hBT]; exact hE.obj B hB⟩
 ·obtain ⟨l, x, rfl⟩ : ∃ l x, rows = l ++ [x] := ⟨rows.dropLast, rows.getLast hr, (List.dropLast_concat_getLast hr).symm⟩
  have hx := hwl.todo x (by simp)
  have hxn : x < n1 := by omega
  obtain ⟨l1, l2⟩ := hds.td.last
  obtain ⟨v', p1, p2, p3⟩ := hds.td.pop
  have dsl : DS m m' [(W, [.slice (some ⟨Q, 0, some 3⟩) n1 n1]), (Q, rgR n1 fun j => .bool (s j))] v' l := ⟨hds.st, p2, fun B hB p hp => hds.sep B (by rw [← p3]; exact hB) p hp⟩
  have hll : l.length ≤ 2 * n := by simp at hme; omega
  obtain ⟨L, hL⟩ := qb8 (l.length)
  have hlen1 : qL tv = some (.int .i64 ((L + 1 : Nat) : Int)) := by rw [hL]; simpa using hlen
  have wl : IntKind.i64.wrap (((L + 1 : Nat) : Int) - 1) = (L : Int) := by rw [wrap64 _ (by omega) (by omega)]; omega
  have hpos : ((0 : Int) < ((L + 1 : Nat) : Int)) = True := eq_true (by omega)
  rw [← hL] at l1 l2 p1
  obtain ⟨K, hK⟩ := qb8 (L + 1)
  rw [← hK] at hlen1 wl hpos
  have hpos' : (0 < K) = True := eq_true (by omega)
  have ixx := ix x hxn
  have lqx : ∀ u, load1 m' ⟨Q, x, u⟩ = some (.bool (s x)) := fun u => by rw [lQ, kK _ hxn]
  have lTm := lT m' S
  have hi' : i < 2 * n + 1 := by simp at hme; omega
  by_cases hskip : s x = true ∨ x = acs.length
  ·have hme' : 2 * uns s n + l.length + (i + 1) ≤ 2 * n + 1 := by simp at hme; omega
   have nxt : ∀ t', Tm.get 3 t' = v' → Tm.get 0 t' = .pointer (some ⟨T, 0, none⟩) → Tm.get 2 t' = .pointer (some ⟨W, 0, none⟩) → jc (fun _ m' => (∃ lv, TS m0 m' T lv (rea acs) ∧ (∀ X, blk lv = some X → m.n ≤ X)) ∧ m.n ≤ m'.n ∧ ∀ B, B < m.n → B ≠ T → blk sv ≠ some B → m'.obj B = m.obj B) (k t' m') := fun t' e3 e0 e2 =>
    hk hi' t' m' ⟨s, l, by rw [e3]; exact dsl, hwl.skip hskip, hme', e0, e2⟩
   cases hsx : s x with
   | true =>
    rw [hsx] at lqx
    simp [← htv, t0, t2, hlen1, wl, hpos, hpos', l1, l2, p1, lW, ixx, lqx]
    exact nxt _ (by simp) (by simp [t0]) (by simp [t2])
   | false =>
    have hxe : x = n := by rcases hskip with e | e; rw [hsx] at e; cases e; omega
    rw [hsx] at lqx
    have hd : decide ((x : Int) = (n : Int)) = true := decide_eq_true (by omega)
    have hd2 : decide (x = n) = true := decide_eq_true hxe
    clear hxe
    simp [← htv, t0, t2, hlen1, wl, hpos, hpos', l1, l2, p1, lW, ixx, lqx, lTm, hsl, hd, hd2]
    exact nxt _ (by simp) (by simp [t0]) (by simp [t2])
  ·have hsx : s x = false := by cases e : s x with
    | false => rfl
    | true => exact absurd (.inl e) hskip
   have hxl : x < acs.length := by have := hx.1; have : x ≠ acs.length := fun e => hskip (.inr e); omega
   have hxe : decide ((x : Int) = (n : Int)) = false := decide_eq_false (by omega)
   have hxe' : (x = n) = False := eq_false (by omega)
   rw [hsx] at lqx
   obtain ⟨a, ha⟩ : ∃ r, acs[x]? = some r := ⟨_, qae hxl⟩
   have ham := qaf ha
   have hacm := h.ac a ham
   obtain ⟨m5, u1, u2, u3, u4⟩ := dsl.store 1 rfl (o := x) (w := .bool true) (by rw [kg]; omega) rfl
   have hset : (rgR n1 fun j => Value.bool (s j)).set x (.bool true) = rgR n1 fun j => .bool (upN s x true j) := zI (fun j hj => by rw [kV _ _ hj]) (by rw [wX])
   rw [hset] at u2
   have ds5 : DS m m5 [(W, [.slice (some ⟨Q, 0, some 3⟩) n1 n1]), (Q, rgR n1 fun j => .bool (upN s x true j))] v' l := u2
   have S5 := ds5.st.sees
   have lT5 := lT m5 S5
   obtain ⟨a1, a2, _⟩ := (hrd.sees S5).at ha
   have a2' := a2 m5 (Sees.refl S5.base)
   have ds6 := ds5.row zAc
   obtain ⟨m6, hm6⟩ := qb8 (Dx.newRow m5 zAc)
   rw [← hm6] at ds6
   obtain ⟨m7, y1, y2, y3, y4⟩ := ds6.fill 0 rfl (n := 11) (l' := qe a) rfl rfl (qM hacm)
   have ds7 : DS m m7 [(m5.n, qe a), (W, [.slice (some ⟨Q, 0, some 3⟩) n1 n1]), (Q, rgR n1 fun j => .bool (upN s x true j))] v' l := y2
   have lr : ∀ mm σ vv rr, DS m mm ((m5.n, qe a) :: σ) vv rr → ∀ p u, load1 mm ⟨m5.n, p, u⟩ = (qe a)[p]? := fun mm σ vv rr hd p u => (hd.st.get 0 rfl).2.2.load1 p u
   have l7 := lr _ _ _ _ ds7
   simp only [qe] at l7
   have huns := fA hsx n
   rw [if_pos (show x < n by omega)] at huns
   have w2 : IntKind.i64.wrap ((x : Int) + 1) = ((x + 1 : Nat) : Int) := wj (by omega)
   have drop : ∀ {mm vv rr}, DS m mm [(m5.n, qe a), (W, [.slice (some ⟨Q, 0, some 3⟩) n1 n1]), (Q, rgR n1 fun j => .bool (upN s x true j))] vv rr → DS m mm [(W, [.slice (some ⟨Q, 0, some 3⟩) n1 n1]), (Q, rgR n1 fun j => .bool (upN s x true j))] vv rr := fun hd => hd.sub (by simp) (by have := hd.st.nd; simp at this ⊢; exact this.2)
   obtain ⟨x1, hx1⟩ := qb8 (x + 1)
   rw [← hx1] at w2
   by_cases hjz : a.op = 9 ∨ a.op = 10
   ·have htz := hto a ham hjz
    obtain ⟨z, hz⟩ : ∃ z : Nat, a.to = z := ⟨a.to.toNat, by omega⟩
    rw [hz] at l7
    obtain ⟨v8, m8, g1, g2, g3, g4⟩ := ds7.push (x := z) (by omega)
    obtain ⟨m7r, hm7r⟩ := qb8 (Dx.newRow m7 [.int .i64 (z : Int)])
    have bz : kc 1 1 (rep 1 [.int .i64 0]) [(0, 1, .int .i64 (z : Int))] m7 = some (.slice (some ⟨m7.n, 0, some 3⟩) 1 1, m7r) := by rw [hm7r]; rfl
    rw [← hm7r] at g1
    have l8 := lr _ _ _ _ g2
    simp only [qe] at l8
    have hwz : z ≤ acs.length ∧ Reach acs z := ⟨by omega, .jump x a z hx.2 ha hjz hz⟩
    rcases hjz with h9 | h10
    ·rw [h9] at l7 l8
     simp [← htv, t0, t2, hlen1, wl, hpos, hpos', l1, l2, p1, lW, ixx, lqx, lTm, hsl, hxe, hxe', u1, lT5, a1, a2', qf, ← hm6, y1, l7, bz, g1, l8]
     refine hk hi' _ _ ⟨upN s x true, l ++ [z], by simpa using drop g2, hwl.visit hsx hxl (fun y hy => by rw [qal.1 hy]; exact hwz) (fun y hy => ?_), ?_, by simp [t0], by simp [t2]⟩
     ·obtain ⟨b, hb, ⟨_, h2⟩ | ⟨h2, _⟩⟩ := hy
      ·rw [ha] at hb; cases hb; rw [hz] at h2; simp; omega
      ·rw [ha] at hb; cases hb; exact absurd h9 h2
     ·simp at hme ⊢; omega
    ·rw [h10] at l7 l8
     obtain ⟨v9, m9, q1, q2, q3, q4⟩ := g2.push (x := x1) (by simp; omega)
     obtain ⟨m8r, hm8r⟩ := qb8 (Dx.newRow m8 [.int .i64 (x1 : Int)])
     have bx : kc 1 1 (rep 1 [.int .i64 0]) [(0, 1, .int .i64 (x1 : Int))] m8 = some (.slice (some ⟨m8.n, 0, some 3⟩) 1 1, m8r) := by rw [hm8r]; rfl
     rw [← hm8r] at q1
     simp [← htv, t0, t2, hlen1, wl, hpos, hpos', l1, l2, p1, lW, ixx, lqx, lTm, hsl, hxe, hxe', u1, lT5, a1, a2', qf, ← hm6, y1, l7, bz, g1, l8, w2, bx, q1]
     refine hk hi' _ _ ⟨upN s x true, l ++ [z, x1], by simpa using drop q2, hwl.visit hsx hxl (fun y hy => ?_) (fun y hy => ?_), ?_, by simp [t0], by simp [t2]⟩
     ·simp at hy
      rcases hy with rfl | rfl
      ·exact hwz
      ·rw [hx1]; exact ⟨by omega, .next x a hx.2 ha (by omega)⟩
     ·obtain ⟨b, hb, ⟨_, h2⟩ | ⟨h2, h3⟩⟩ := hy
      ·rw [ha] at hb; cases hb; rw [hz] at h2; simp; omega
      ·simp; omega
     ·simp at hme ⊢; omega
   ·have d9 : decide (a.op = 9) = false := decide_eq_false fun h => hjz (.inl h)
    have d10 : decide (a.op = 10) = false := decide_eq_false fun h => hjz (.inr h)
    obtain ⟨v9, m9, q1, q2, q3, q4⟩ := ds7.push (x := x1) (by omega)
    obtain ⟨m8r, hm8r⟩ := qb8 (Dx.newRow m7 [.int .i64 (x1 : Int)])
    have bx : kc 1 1 (rep 1 [.int .i64 0]) [(0, 1, .int .i64 (x1 : Int))] m7 = some (.slice (some ⟨m7.n, 0, some 3⟩) 1 1, m8r) := by rw [hm8r]; rfl
    rw [← hm8r] at q1
    simp [← htv, t0, t2, hlen1, wl, hpos, hpos', l1, l2, p1, lW, ixx, lqx, lTm, hsl, hxe, hxe', u1, lT5, a1, a2', qf, ← hm6, y1, l7, d9, d10, w2, bx, q1]
    refine hk hi' _ _ ⟨upN s x true, l ++ [x1], by simpa using drop q2, hwl.visit hsx hxl (fun y hy => ?_) (fun y hy => ?_), ?_, by simp [t0], by simp [t2]⟩
    ·rw [qal.1 hy, hx1]; exact ⟨by omega, .next x a hx.2 ha fun e => hjz (.inl e)⟩
    ·obtain ⟨b, hb, ⟨h1, _⟩ | ⟨h2, h3⟩⟩ := hy
     ·rw [ha] at hb; cases hb; exact absurd h1 hjz
     ·simp; omega
    ·simp at hme ⊢; omega
end Go.Sx
namespace Go.Sx
open Go.Dx Go.Proofs
set_option maxRecDepth 10000
def kW (a : Ac) : Bool := decide (a.op = 2 ∨ a.op = 3) && (decide (a.size = 0) && decide (a.mode = 1))
theorem XO (a : Ac) (N : Nat) (m : M) : CallV (ex Tryz.prog (N + 1)) 168 [.agg ⟨qe a⟩] m (.bool (kW a)) := by
 refine qp dg7_ok (by simp) ?_
 have l : ∀ p s, load1 (Dx.newRow m (qe a)) ⟨m.n, p, s⟩ = (qe a)[p]? := fun p s => (Arr.row m (qe a)).load1 p s
 have l0 : ∀ s, load1 (Dx.newRow m (qe a)) ⟨m.n, 0, s⟩ = some (.int .i64 a.op) := fun s => l 0 s
 have l3 : ∀ s, load1 (Dx.newRow m (qe a)) ⟨m.n, 3, s⟩ = some (.int .i64 a.size) := fun s => l 3 s
 have l7 : ∀ s, load1 (Dx.newRow m (qe a)) ⟨m.n, 7, s⟩ = some (.int .i64 a.mode) := fun s => l 7 s
 unfold kW
 have E := Ext.row m (qe a)
 by_cases h2 : a.op = 2
 ·have d2 : decide (a.op = 2) = true := decide_eq_true h2
  have dd : decide (a.op = 2 ∨ a.op = 3) = true := decide_eq_true (.inl h2)
  rw [h2] at l0
  by_cases hs : a.size = 0
  ·have ds : decide (a.size = 0) = true := decide_eq_true hs
   rw [hs] at l3
   rw [dd, ds]
   simp [l0, l3, l7]
   exact qh E (by simp)
  ·have ds : decide (a.size = 0) = false := decide_eq_false hs
   rw [dd, ds]
   simp [l0, l3, l7, ds]
   exact qh E (by simp)
 ·by_cases h3 : a.op = 3
  ·have dd : decide (a.op = 2 ∨ a.op = 3) = true := decide_eq_true (.inr h3)
   rw [h3] at l0
   by_cases hs : a.size = 0
   ·have ds : decide (a.size = 0) = true := decide_eq_true hs
    rw [hs] at l3
    rw [dd, ds]
    simp [l0, l3, l7]
    exact qh E (by simp)
   ·have ds : decide (a.size = 0) = false := decide_eq_false hs
    rw [dd, ds]
    simp [l0, l3, l7, ds]
    exact qh E (by simp)
  ·have dd : decide (a.op = 2 ∨ a.op = 3) = false := decide_eq_false fun h => h.elim h2 h3
   have d2 : decide (a.op = 2) = false := decide_eq_false h2
   have d3 : decide (a.op = 3) = false := decide_eq_false h3
   rw [dd]
   simp [l0, d2, d3]
   exact qh E (by simp)
theorem gone_c (W Q n1 : Nat) (s : Nat → Bool) (N : Nat) (m : M) (hW : ∀ u, load1 m ⟨W, 0, u⟩ = some (.slice (some ⟨Q, 0, some 3⟩) n1 n1)) (hQ : ∀ p u, load1 m ⟨Q, p, u⟩ = (rgR n1 fun j => .bool (s j))[p]?) {i : Nat} (hi : i < n1) :
  CallV (ex Tryz.prog (N + 1)) 169 [iv i, .pointer (some ⟨W, 0, none⟩)] m (.bool (s i)) := by
 refine qp dg8_ok (by simp) ?_
 have ix : qZ 1 (.slice (some ⟨Q, 0, some 3⟩) n1 n1) (.int .i64 (i : Int)) = some (.pointer (some ⟨Q, i, none⟩)) := by have := yc (e := 1) (c := 3) Q n1 i hi; rwa [Nat.mul_one] at this
 have l : ∀ u, load1 m ⟨Q, i, u⟩ = some (.bool (s i)) := fun u => by rw [hQ, kK _ hi]
 simp [hW, ix, l]
 exact qh (Ext.refl m) (by simp)
def zQ (a : Ac) (j : Nat) : Bool := decide ((a.op = 9 ∨ a.op = 10) ∧ a.to = j)
def jR (acs : List Ac) : Nat → Nat → Bool
 | 0, _ => false
 | i + 1, j => jR acs i j || (match acs[i]? with
  | some a => zQ a j
  | none => false)
def wN (acs : List Ac) (j : Nat) : Bool := jR acs acs.length j
theorem jr {acs : List Ac} {i : Nat} {a : Ac} (h : acs[i]? = some a) (j : Nat) : jR acs (i + 1) j = (jR acs i j || zQ a j) := by
 conv => lhs; unfold jR
 rw [h]
def qF (b : Ac) (es : List Nd) (v : Value) : Ac := ⟨1, b.dst, 0, 0, .slice none 0 0, v, .slice none 0 0, 0, 0, b.line, b.col, [], es, []⟩
def jO (d : Int) : Nd := ⟨2, ⟨(d % 18446744073709551616).toNat, by omega⟩, 0, 0⟩
def kv (a b : Ac) : Option Ac := if b.op = 3 then none else if a.op = 3 then some (qF b a.es (.slice none 0 0)) else some (qF b [jO a.dst] (.slice none 0 0))
def wS (aim : Nat → Bool) (a b : Ac) (i : Nat) : Bool := !aim (i + 1) && (kW a && (kW b && decide (a.base = b.base)))
def qN (aim : Nat → Bool) (i : Nat) (st : List Ac × (Nat → Bool)) : List Ac × (Nat → Bool) := match st.1[i]?, st.1[i + 1]? with
 | some a, some b => if wS aim a b i then (if b.op = 3 ∧ a.op = 3 then (st.1, upN st.2 i true) else match kv a b with
   | some c => (st.1.set (i + 1) c, st.2)
   | none => st) else st
 | _, _ => st
def prF (aim : Nat → Bool) (acs : List Ac) : Nat → List Ac × (Nat → Bool)
 | 0 => (acs, fun _ => false)
 | i + 1 => qN aim i (prF aim acs i)
theorem dx (aim : Nat → Bool) (i : Nat) (st : List Ac × (Nat → Bool)) : (qN aim i st).1.length = st.1.length := by
 unfold qN
 split
 ·split
  ·split
   ·rfl
   ·split
    ·simp
    ·rfl
  ·rfl
 ·rfl
theorem vQ (aim : Nat → Bool) (acs : List Ac) : ∀ i, (prF aim acs i).1.length = acs.length
 | 0 => rfl
 | i + 1 => by
  show (qN aim i (prF aim acs i)).1.length = _
  rw [dx, vQ aim acs i]
def prs (acs : List Ac) : List Ac := wo (prF (wN acs) acs (acs.length - 1)).2 (prF (wN acs) acs (acs.length - 1)).1
end Go.Sx
namespace Go.Dx
theorem GE.fillAny {α : Type} {m0 m : M} {σ : List (Nat × List Value)} {g : Value} {e : Nat} {f : α → List Value} {rows : List α} (h : GE m0 m σ g e f rows) (k : Nat) {b n : Nat} {l l' : List Value} (hk : σ[k]? = some (b, l)) (hn0 : 0 < n) (hl : l.length = n) (hl' : l'.length = n) (hv : ∀ v ∈ l', okC v = true) :
  ∃ m', qH n (.pointer (some ⟨b, 0, none⟩)) (.agg ⟨l'⟩) (qn m) = some (undef, m') ∧ m'.log = [b] ∧ GE m0 (Dx.behind m m') (σ.set k (b, l')) g e f rows ∧ (Dx.behind m m').n = m.n ∧ ∀ X, X ≠ b → (Dx.behind m m').obj X = m.obj X := by
 obtain ⟨m', s1, s2, s3, s4, s5⟩ := h.st.fillAny k hk hn0 hl hl' hv
 exact ⟨m', s1, s2, h.put hk s3 s4 s5, s4, s5⟩
end Go.Dx
namespace Go.Sx
open Go.Dx Go.Proofs
set_option maxRecDepth 10000
structure PI (m0 m : M) (T W Q1 Q2 n : Nat) (sv : Value) (aim gone : Nat → Bool) (st : List Ac) (cur : List Ac) : Prop where
 ge : GE m0 m [(W, [.slice (some ⟨Q2, 0, some 3⟩) n n]), (Q2, rgR n fun j => .bool (gone j)), (Q1, rgR (n + 1) fun j => .bool (aim j)), (T, [sv])] sv 11 qe cur
 ac : ∀ a ∈ cur, AcOK m a
 sep : ∀ a ∈ cur, ∀ X, zd a X → X ≠ T ∧ blk sv ≠ some X ∧ X ≠ Q2
 len : cur.length = n
 leq : LEq cur st
 at3 : ∀ a ∈ cur, a.op = 3 → a.es ≠ [] ∧ a.es.length ≤ 65536
 at2 : ∀ a ∈ cur, a.op = 2 → 0 ≤ a.dst ∧ a.dst < 1000000
 new : ∀ a ∈ cur, ∀ X, zd a X → m0.n ≤ X
theorem KX (z : Nat) (h : z < 1000000) : jO z = ⟨2, ⟨z, by omega⟩, 0, 0⟩ := by
 have e : ((z : Int) % 18446744073709551616).toNat = z := by omega
 unfold jO
 simp only [e]
theorem vV {a b : Ac} (h : AcEq a b) : kW a = kW b := by obtain ⟨x, y, z, rfl⟩ := h; rfl
theorem JQ {m0 m' : M} {T W Q1 Q2 n i : Nat} {sv : Value} {aim gone : Nat → Bool} {st cur : List Ac} {t : Tm} {k kr : K} {ke : Nat → K} {Q : Value → M → Prop} (N : Nat) (hnl : n ≤ 65536) (hi : i + 1 < n) (h : PI m0 m' T W Q1 Q2 n sv aim gone st cur)
  (t0 : Tm.get 0 t = .pointer (some ⟨T, 0, none⟩)) (t2 : Tm.get 2 t = .slice (some ⟨Q1, 0, some 3⟩) (n + 1) (n + 1)) (t5 : Tm.get 5 t = .pointer (some ⟨W, 0, none⟩)) (t6 : Tm.get 6 t = iv i)
  (hk : ∀ t' m'' cur' gone' st', (st', gone') = qN aim i (st, gone) → PI m0 m'' T W Q1 Q2 n sv aim gone' st' cur' → (m'.n ≤ m''.n ∧ ∀ B, B < m'.n → B ≠ Q2 → blk sv ≠ some B → m''.obj B = m'.obj B) → Tm.get 0 t' = .pointer (some ⟨T, 0, none⟩) → Tm.get 2 t' = .slice (some ⟨Q1, 0, some 3⟩) (n + 1) (n + 1) → Tm.get 5 t' = .pointer (some ⟨W, 0, none⟩) → Tm.get 6 t' = iv (i + 1 : Nat) → jc Q (k t' m'')) :
  jc Q (ZR (ex Tryz.prog (N + 2)) k ke kr t m') := by
 have hmb : m'.base ≤ m'.n := h.ge.st.sees.base
 have hrd := h.ge.gr.rd qv
 obtain ⟨a, ha⟩ : ∃ r, cur[i]? = some r := ⟨_, qae (by have := h.len; omega)⟩
 obtain ⟨b, hb⟩ : ∃ r, cur[i + 1]? = some r := ⟨_, qae (by have := h.len; omega)⟩
 obtain ⟨a0, ha0⟩ : ∃ r, st[i]? = some r := ⟨_, qae (by have := h.len; have := h.leq.len; omega)⟩
 obtain ⟨b0, hb0⟩ : ∃ r, st[i + 1]? = some r := ⟨_, qae (by have := h.len; have := h.leq.len; omega)⟩
 have hab := h.leq.get i a a0 ha ha0
 have hbb := h.leq.get (i + 1) b b0 hb hb0
 have ham := qaf ha
 have hbm := qaf hb
 have hacm := h.ac a ham
 have hbcm := h.ac b hbm
 have hpr : qN aim i (st, gone) = if wS aim a b i then (if b.op = 3 ∧ a.op = 3 then (st, upN gone i true) else match kv a0 b0 with
   | some c => (st.set (i + 1) c, gone)
   | none => (st, gone)) else (st, gone) := by
  unfold qN
  simp only [ha0, hb0]
  have e1 : wS aim a0 b0 i = wS aim a b i := by
   unfold wS; rw [vV hab, vV hbb]
   obtain ⟨x, y, z, rfl⟩ := hab
   obtain ⟨x', y', z', rfl⟩ := hbb
   rfl
  have e2 : (b0.op = 3 ∧ a0.op = 3) = (b.op = 3 ∧ a.op = 3) := by
   obtain ⟨x, y, z, rfl⟩ := hab
   obtain ⟨x', y', z', rfl⟩ := hbb
   rfl
  rw [e1]
  by_cases hip : wS aim a b i = true
  ·rw [if_pos hip, if_pos hip]
   by_cases h33 : b.op = 3 ∧ a.op = 3
   ·rw [if_pos h33, if_pos (e2 ▸ h33)]
   ·rw [if_neg h33, if_neg (fun e => h33 (e2 ▸ e))]
    all_goals (cases kv a0 b0 <;> rfl)
  ·rw [if_neg hip, if_neg hip]
 obtain ⟨i1, hi1⟩ := qb8 (i + 1)
 have ni := wj (i := i) (by omega)
 rw [← hi1] at ni hb hpr hi hk
 obtain ⟨a1, a2, _⟩ := hrd.at ha
 obtain ⟨b1, b2, _⟩ := hrd.at hb
 have a2' := a2 m' (Sees.refl hmb)
 have b2' := b2 m' (Sees.refl hmb)
 obtain ⟨A, hA⟩ : ∃ A, blk sv = some A := by
  obtain ⟨B, c, L, e1, _⟩ := h.ge.done (by intro e; rw [e] at ha; simp at ha)
  exact ⟨B, by rw [e1]; rfl⟩
 have had : ∀ j, adr 11 sv j = ⟨A, j * 11, none⟩ := fun j => by
  obtain ⟨B, c, L, e1, _⟩ := h.ge.done (by intro e; rw [e] at ha; simp at ha)
  rw [e1] at hA; cases hA
  rw [e1]; show (⟨B, 0 + j * 11, none⟩ : Addr) = _; rw [Nat.zero_add]
 rw [had] at a1 a2' b1 b2'
 have hAlt : A < m'.n := (h.ge.gr.low A hA).2
 have hTb := h.ge.st.get 3 rfl
 have hQ2b := h.ge.st.get 1 rfl
 have lT : ∀ s, load1 m' ⟨T, 0, s⟩ = some sv := fun s => hTb.2.2.load1 0 s
 have g1 := (h.ge.row zAc).row zAc
 obtain ⟨m1, hm1⟩ := qb8 (Dx.newRow m' zAc)
 obtain ⟨m2, hm2⟩ := qb8 (Dx.newRow m1 zAc)
 rw [← hm1] at g1
 rw [← hm2] at g1
 have n1 : m1.n = m'.n + 1 := by rw [hm1, qm]
 have n2 : m2.n = m1.n + 1 := by rw [hm2, qm]
 obtain ⟨p3, s1, s2, s3, s4, s5⟩ := g1.fillAny 1 rfl (n := 11) (l' := qe a) (by omega) rfl rfl (qM hacm)
 obtain ⟨m3, hm3⟩ := qb8 (Dx.behind m2 p3)
 rw [← hm3] at s3 s4 s5
 obtain ⟨p4, u1, u2, u3, u4, u5⟩ := s3.fillAny 0 rfl (n := 11) (l' := qe b) (by omega) rfl rfl (qM hbcm)
 obtain ⟨m4, hm4⟩ := qb8 (Dx.behind m3 p4)
 rw [← hm4] at u3 u4 u5
 have g4 : GE m0 m4 [(m1.n, qe b), (m'.n, qe a), (W, [.slice (some ⟨Q2, 0, some 3⟩) n n]), (Q2, rgR n fun j => .bool (gone j)), (Q1, rgR (n + 1) fun j => .bool (aim j)), (T, [sv])] sv 11 qe cur := u3
 have o4 : ∀ X, X < m'.n → m4.obj X = m'.obj X := fun X hX => by
  rw [u5 X (by omega), s5 X (by omega), hm2, (Ext.row m1 _).obj X (by omega), hm1, (Ext.row m' _).obj X hX]
 have ac4 : ∀ c ∈ cur, AcOK m4 c := fun c hcm => (h.ac c hcm).congr (by omega) fun X hX => o4 X ((h.ac c hcm).lt hX)
 have la4 : ∀ p s, load1 m4 ⟨m'.n, p, s⟩ = (qe a)[p]? := fun p s => (g4.st.get 1 rfl).2.2.load1 p s
 have lb4 : ∀ p s, load1 m4 ⟨m1.n, p, s⟩ = (qe b)[p]? := fun p s => (g4.st.get 0 rfl).2.2.load1 p s
 have laN : loads m4 ⟨m'.n, 0, none⟩ 11 = some (qe a) := (g4.st.get 1 rfl).2.2.loads (n := 11) (by simp [qe])
 have q1 : ∀ s, load1 m4 ⟨Q1, i1, s⟩ = some (.bool (aim i1)) := fun s => by rw [(g4.st.get 4 rfl).2.2.load1 i1 s, kK _ (by omega)]
 have ix1 : qZ 1 (.slice (some ⟨Q1, 0, some 3⟩) (n + 1) (n + 1)) (.int .i64 (i1 : Int)) = some (.pointer (some ⟨Q1, i1, none⟩)) := by have := yc (e := 1) (c := 3) Q1 (n + 1) i1 (by omega); rwa [Nat.mul_one] at this
 have hAne : (A = m'.n) = False := eq_false (by omega)
 have hAne1 : (A = m1.n) = False := eq_false (by omega)
 have hTne : (T = m'.n) = False := eq_false (by omega)
 have hTne1 : (T = m1.n) = False := eq_false (by omega)
 have hrow12 : (m'.n = m1.n) = False := eq_false (by omega)
 have nop : qN aim i (st, gone) = (st, gone) → ∀ mx σ, GE m0 mx (σ ++ [(W, [.slice (some ⟨Q2, 0, some 3⟩) n n]), (Q2, rgR n fun j => .bool (gone j)), (Q1, rgR (n + 1) fun j => .bool (aim j)), (T, [sv])]) sv 11 qe cur → (∀ c ∈ cur, AcOK mx c) → (m'.n ≤ mx.n ∧ ∀ B, B < m'.n → mx.obj B = m'.obj B) → ∀ t',
   Tm.get 0 t' = .pointer (some ⟨T, 0, none⟩) → Tm.get 2 t' = .slice (some ⟨Q1, 0, some 3⟩) (n + 1) (n + 1) → Tm.get 5 t' = .pointer (some ⟨W, 0, none⟩) → Tm.get 6 t' = iv i1 → jc Q (k t' mx) := fun hp mx σ hg hac hfr t' e0 e2 e5 e6 =>
  hk t' mx cur gone st hp.symm ⟨hg.sub (fun p hp => List.mem_append_right _ hp) (by have := hg.st.nd; rw [List.map_append, List.nodup_append] at this; exact this.2.1), hac, h.sep, h.len, h.leq, h.at3, h.at2, h.new⟩ ⟨hfr.1, fun B hB _ _ => hfr.2 B hB⟩ e0 e2 e5 e6
 obtain ⟨_, m5, c1, c2, rfl⟩ := XO a (N + 1) m4
 have g5 := g4.step c2
 have S45 : Sees m4 m5 := (Sees.refl g4.st.sees.base).ext c2
 have ac5 : ∀ c ∈ cur, AcOK m5 c := fun c hcm => (ac4 c hcm).sees S45
 have lbN : loads m5 ⟨m1.n, 0, none⟩ 11 = some (qe b) := (g5.st.get 0 rfl).2.2.loads (n := 11) (by simp [qe])
 obtain ⟨_, m6, d1, d2, rfl⟩ := XO b (N + 1) m5
 have g6 := g5.step d2
 have S56 : Sees m5 m6 := S45.self.ext d2
 have ac6 : ∀ c ∈ cur, AcOK m6 c := fun c hcm => (ac5 c hcm).sees S56
 have la6 : ∀ p s, load1 m6 ⟨m'.n, p, s⟩ = (qe a)[p]? := fun p s => (g6.st.get 1 rfl).2.2.load1 p s
 have lb6 : ∀ p s, load1 m6 ⟨m1.n, p, s⟩ = (qe b)[p]? := fun p s => (g6.st.get 0 rfl).2.2.load1 p s
 simp only [qe] at la6 lb6
 cases haim : aim i1 with
 | true =>
  rw [haim] at q1
  have hnp : qN aim i (st, gone) = (st, gone) := by rw [hpr]; unfold wS; rw [← hi1, haim]; rfl
  simp [t0, t2, t5, t6, lT, a1, a2', b1, b2', ni, qf, ← hm1, ← hm2, s1, s2, ← hm3, u1, u2, ← hm4, hAne, hAne1, hTne, hTne1, hrow12, ix1, q1]
  exact nop hnp m4 [(m1.n, qe b), (m'.n, qe a)] g4 ac4 ⟨by omega, o4⟩ _ (by simp [t0]) (by simp [t2]) (by simp [t5]) (by simp)
 | false =>
 rw [haim] at q1
 have hsimp0 : True := trivial
 cases hpa : kW a with
 | false =>
  rw [hpa] at c1
  have hnp : qN aim i (st, gone) = (st, gone) := by rw [hpr]; unfold wS; rw [← hi1, haim, hpa]; rfl
  simp [t0, t2, t5, t6, lT, a1, a2', b1, b2', ni, qf, ← hm1, ← hm2, s1, s2, ← hm3, u1, u2, ← hm4, hAne, hAne1, hTne, hTne1, hrow12, ix1, q1, laN, c1]
  exact nop hnp m5 [(m1.n, qe b), (m'.n, qe a)] g5 ac5 ⟨by have := c2.n; omega, fun B hB => by rw [c2.obj B (by omega)]; exact o4 B hB⟩ _ (by simp [t0]) (by simp [t2]) (by simp [t5]) (by simp)
 | true =>
 rw [hpa] at c1
 cases hpb : kW b with
 | false =>
  rw [hpb] at d1
  have hnp : qN aim i (st, gone) = (st, gone) := by rw [hpr]; unfold wS; rw [← hi1, haim, hpa, hpb]; rfl
  simp [t0, t2, t5, t6, lT, a1, a2', b1, b2', ni, qf, ← hm1, ← hm2, s1, s2, ← hm3, u1, u2, ← hm4, hAne, hAne1, hTne, hTne1, hrow12, ix1, q1, laN, c1, lbN, d1]
  exact nop hnp m6 [(m1.n, qe b), (m'.n, qe a)] g6 ac6 ⟨by have := c2.n; have := d2.n; omega, fun B hB => by have := c2.n; rw [d2.obj B (by omega), c2.obj B (by omega)]; exact o4 B hB⟩ _ (by simp [t0]) (by simp [t2]) (by simp [t5]) (by simp)
 | true =>
 rw [hpb] at d1
 by_cases hbase : a.base = b.base
 case neg =>
  have db : decide (a.base = b.base) = false := decide_eq_false hbase
  have hnp : qN aim i (st, gone) = (st, gone) := by rw [hpr]; unfold wS; rw [← hi1, haim, hpa, hpb, db]; rfl
  simp [t0, t2, t5, t6, lT, a1, a2', b1, b2', ni, qf, ← hm1, ← hm2, s1, s2, ← hm3, u1, u2, ← hm4, hAne, hAne1, hTne, hTne1, hrow12, ix1, q1, laN, c1, lbN, d1, la6, lb6, db]
  exact nop hnp m6 [(m1.n, qe b), (m'.n, qe a)] g6 ac6 ⟨by have := c2.n; have := d2.n; omega, fun B hB => by have := c2.n; rw [d2.obj B (by omega), c2.obj B (by omega)]; exact o4 B hB⟩ _ (by simp [t0]) (by simp [t2]) (by simp [t5]) (by simp)
 have db : decide (a.base = b.base) = true := decide_eq_true hbase
 have hip : wS aim a b i = true := by unfold wS; rw [← hi1, haim, hpa, hpb, db]; rfl
 rw [if_pos hip] at hpr
 have bset : wn zAc [(0, 1, .int .i64 1), (1, 1, iv b.dst), (9, 1, iv b.line), (10, 1, iv b.col)] = some (.agg ⟨qe (qF b [] (.slice none 0 0))⟩) := rfl
 have g7 := g6.row zAc
 obtain ⟨m7, hm7⟩ := qb8 (Dx.newRow m6 zAc)
 rw [← hm7] at g7
 have n7 : m7.n = m6.n + 1 := by rw [hm7, qm]
 obtain ⟨m8, f1, f2, f3, f4⟩ := g7.fill 0 rfl (n := 11) (l' := qe (qF b [] (.slice none 0 0))) rfl rfl (qM (m := m6) ⟨ku, ku, ku, by simp [qF], by simp [qF], by simp [qF]⟩)
 have g8 : GE m0 m8 [(m6.n, qe (qF b [] (.slice none 0 0))), (m1.n, qe b), (m'.n, qe a), (W, [.slice (some ⟨Q2, 0, some 3⟩) n n]), (Q2, rgR n fun j => .bool (gone j)), (Q1, rgR (n + 1) fun j => .bool (aim j)), (T, [sv])] sv 11 qe cur := f2
 have n56 : m4.n ≤ m5.n := c2.n
 have n65 : m5.n ≤ m6.n := d2.n
 have ac8 : ∀ c ∈ cur, AcOK m8 c := fun c hcm => (ac6 c hcm).congr (by omega) fun X hX => by
  have := (ac6 c hcm).lt hX
  rw [f4 X (by omega), hm7, (Ext.row m6 _).obj X this]
 have o8 : ∀ B, B < m'.n → m8.obj B = m'.obj B := fun B hB => by rw [f4 B (by omega), hm7, (Ext.row m6 _).obj B (by omega), d2.obj B (by omega), c2.obj B (by omega)]; exact o4 B hB
 have la8 : ∀ p s, load1 m8 ⟨m'.n, p, s⟩ = (qe a)[p]? := fun p s => (g8.st.get 2 rfl).2.2.load1 p s
 have lb8 : ∀ p s, load1 m8 ⟨m1.n, p, s⟩ = (qe b)[p]? := fun p s => (g8.st.get 1 rfl).2.2.load1 p s
 have hrs : qe (qF b [] (.slice none 0 0)) = [.int .i64 1, iv b.dst, .int .i64 0, .int .i64 0, .slice none 0 0, .slice none 0 0, .slice none 0 0, .int .i64 0, .int .i64 0, iv b.line, iv b.col] := rfl
 simp only [qe] at la8 lb8
 rw [hrs] at f1 bset
 have hb23 : b.op = 2 ∨ b.op = 3 := by unfold kW at hpb; simp at hpb; exact hpb.1
 have ha23 : a.op = 2 ∨ a.op = 3 := by unfold kW at hpa; simp at hpa; exact hpa.1
 have put : ∀ (v : Value) (es : List Nd) (m9 m10 : M), Ext m8 m9 → Rd m9 v 4 qg es → es.length ≤ 9223372036854775807 → (∀ X, blk v = some X → m8.n ≤ X) → (∀ X, X ≠ m6.n → m10.obj X = m9.obj X) → m10.n = m9.n →
   GE m0 m10 [(m6.n, qe (qF b es v)), (m1.n, qe b), (m'.n, qe a), (W, [.slice (some ⟨Q2, 0, some 3⟩) n n]), (Q2, rgR n fun j => .bool (gone j)), (Q1, rgR (n + 1) fun j => .bool (aim j)), (T, [sv])] sv 11 qe cur →
   qN aim i (st, gone) = (st.set i1 (qF b0 es (.slice none 0 0)), gone) →
   ∃ p, qH 11 (.pointer (some ⟨A, i1 * 11, none⟩)) (.agg ⟨qe (qF b es v)⟩) (qn m10) = some (undef, p) ∧ p.log = [A] ∧ (m'.n ≤ (Dx.behind m10 p).n ∧ ∀ B, B < m'.n → B ≠ Q2 → blk sv ≠ some B → (Dx.behind m10 p).obj B = m'.obj B) ∧ PI m0 (Dx.behind m10 p) T W Q1 Q2 n sv aim gone (st.set i1 (qF b0 es (.slice none 0 0))) (cur.set i1 (qF b es v)) := by
  intro v es m9 m10 hE9 hv hes hlow ho10 hn10 g10 hst
  have n89 : m8.n ≤ m9.n := hE9.n
  have hv10 : Rd m10 v 4 qg es := hv.congr (by omega) fun X hX => ho10 X (by have := hlow X hX; omega)
  have okY : AcOK m10 (qF b es v) := ⟨ku, hv10, ku, by simp [qF], hes, by simp [qF]⟩
  have ac10 : ∀ c ∈ cur, AcOK m10 c := fun c hcm => ((ac8 c hcm).sees ((Sees.refl g8.st.sees.base).ext hE9)).congr (by omega) fun X hX => ho10 X (by have := (ac6 c hcm).lt hX; omega)
  obtain ⟨B, p, hB, _, e1, e2, e3, e4, e5⟩ := g10.rowAny (by omega) qv (i := i1) (y := qF b es v) (by have := h.len; omega) (qM okY)
  obtain rfl : B = A := by rw [hA] at hB; exact (Option.some.inj hB).symm
  have inY : ∀ X, zd (qF b es v) X → m8.n ≤ X := fun X hX => by
   rcases hX with hX | hX | hX
   ·cases hX
   ·exact hlow X hX
   ·cases hX
  have hmem : ∀ c ∈ cur.set i1 (qF b es v), c ∈ cur ∨ c = qF b es v := fun c hc => qas hc
  refine ⟨p, e1, e2, ⟨by omega, fun X hX _ hXs => by rw [e5 X fun e => hXs (by rw [e]; exact hA), ho10 X (by omega), hE9.obj X (by omega)]; exact o8 X hX⟩, ⟨e3.sub (fun q hq => by simp at hq ⊢; exact .inr (.inr (.inr hq))) (by have := e3.st.nd; simp only [List.map_cons, List.nodup_cons] at this; simp only [List.map_cons, List.nodup_cons]; exact this.2.2.2), fun c hc => ?_, fun c hc X hX => ?_, by simpa using h.len, ⟨by simp; exact h.leq.len, fun j c d hcj hdj => ?_⟩, fun c hc h3 => ?_, fun c hc h2 => ?_, fun c hc X hX => ?_⟩⟩
  ·rcases hmem c hc with hcc | rfl
   ·exact (ac10 c hcc).congr (by omega) fun X hX => e5 X fun e => (h.sep c hcc X hX).2.1 (by rw [e]; exact hA)
   ·exact okY.congr (by omega) fun X hX => e5 X (by have := inY X hX; omega)
  ·rcases hmem c hc with hcc | rfl
   ·exact h.sep c hcc X hX
   ·have := inY X hX
    have hT' := hTb.2.1
    have hQ' := hQ2b.2.1
    exact ⟨by omega, fun e => by rw [hA] at e; cases e; omega, by omega⟩
  ·by_cases hj : i1 = j
   ·subst hj
    rw [qaz (by have := h.len; omega)] at hcj
    rw [qaz (by have := h.len; have := h.leq.len; omega)] at hdj
    cases hcj; cases hdj
    obtain ⟨x, y, z, rfl⟩ := hbb
    exact ⟨.slice none 0 0, v, .slice none 0 0, rfl⟩
   ·rw [qb5 hj] at hcj hdj
    exact h.leq.get j c d hcj hdj
  ·rcases hmem c hc with hcc | rfl
   ·exact h.at3 c hcc h3
   ·simp [qF] at h3
  ·rcases hmem c hc with hcc | rfl
   ·exact h.at2 c hcc h2
   ·simp [qF] at h2
  ·rcases hmem c hc with hcc | rfl
   ·exact h.new c hcc X hX
   ·have := inY X hX
    have := g8.st.ext.n
    omega
 by_cases hb3 : b.op = 3
 ·have hb3d : decide (b.op = 3) = true := decide_eq_true hb3
  by_cases ha3 : a.op = 3
  ·-- the first is gone
   rw [if_pos ⟨hb3, ha3⟩] at hpr
   obtain ⟨m9, x1, x2, x3, x4⟩ := g8.store 4 rfl (o := i) (v := .bool true) (by rw [kg]; omega) rfl
   have hset : (rgR n fun j => Value.bool (gone j)).set i (.bool true) = rgR n fun j => .bool (upN gone i true j) := zI (fun j hj => by rw [kV _ _ hj]) (by rw [wX])
   rw [hset] at x2
   have lW8 : ∀ s, load1 m8 ⟨W, 0, s⟩ = some (.slice (some ⟨Q2, 0, some 3⟩) n n) := fun s => (g8.st.get 3 rfl).2.2.load1 0 s
   have ixi : qZ 1 (.slice (some ⟨Q2, 0, some 3⟩) n n) (.int .i64 (i : Int)) = some (.pointer (some ⟨Q2, i, none⟩)) := by have := yc (e := 1) (c := 3) Q2 n i (by omega); rwa [Nat.mul_one] at this
   rw [ha3] at la8 la6
   rw [hb3] at lb8 lb6
   simp [t0, t2, t5, t6, lT, a1, a2', b1, b2', ni, qf, ← hm1, ← hm2, s1, s2, ← hm3, u1, u2, ← hm4, hAne, hAne1, hTne, hTne1, hrow12, ix1, q1, laN, c1, lbN, d1, la6, lb6, db, bset, ← hm7, f1, la8, lb8, lW8, ixi, x1]
   refine hk _ m9 cur (upN gone i true) st hpr.symm ⟨x2.sub (fun q hq => by simp at hq ⊢; exact .inr (.inr (.inr hq))) (by have := x2.st.nd; simp at this ⊢; exact this.2.2.2), fun c hc => (ac8 c hc).congr (by omega) fun X hX => x4 X (h.sep c hc X hX).2.2, h.sep, h.len, h.leq, h.at3, h.at2, h.new⟩ ⟨by omega, fun B hB hBQ _ => by rw [x4 B hBQ]; exact o8 B hB⟩ (by simp [t0]) (by simp [t2]) (by simp [t5]) (by simp)
  ·have ha2 : a.op = 2 := ha23.resolve_right ha3
   rw [if_neg fun e => ha3 e.2] at hpr
   have hnp : qN aim i (st, gone) = (st, gone) := by
    rw [hpr]
    have : kv a0 b0 = none := by
     unfold kv
     have : b0.op = 3 := by obtain ⟨x, y, z, rfl⟩ := hbb; exact hb3
     rw [if_pos this]
    rw [this]
   rw [ha2] at la8 la6
   rw [hb3] at lb8 lb6
   simp [t0, t2, t5, t6, lT, a1, a2', b1, b2', ni, qf, ← hm1, ← hm2, s1, s2, ← hm3, u1, u2, ← hm4, hAne, hAne1, hTne, hTne1, hrow12, ix1, q1, laN, c1, lbN, d1, la6, lb6, db, bset, ← hm7, f1, la8, lb8]
   exact nop hnp m8 [(m6.n, qe (qF b [] (.slice none 0 0))), (m1.n, qe b), (m'.n, qe a)] g8 ac8 ⟨by omega, o8⟩ _ (by simp [t0]) (by simp [t2]) (by simp [t5]) (by simp)
 ·have hb2 : b.op = 2 := hb23.resolve_right hb3
  rw [if_neg fun e => hb3 e.1] at hpr
  have hb03 : ¬ b0.op = 3 := by obtain ⟨x, y, z, rfl⟩ := hbb; exact hb3
  have lT8 : ∀ s, load1 m8 ⟨T, 0, s⟩ = some sv := fun s => (g8.st.get 6 rfl).2.2.load1 0 s
  by_cases ha3 : a.op = 3
  ·-- what the first wA
   have ha03 : a0.op = 3 ∧ a0.es = a.es := by obtain ⟨x, y, z, rfl⟩ := hab; exact ⟨ha3, rfl⟩
   have hst : qN aim i (st, gone) = (st.set i1 (qF b0 a.es (.slice none 0 0)), gone) := by
    rw [hpr]
    have : kv a0 b0 = some (qF b0 a.es (.slice none 0 0)) := by unfold kv; rw [if_neg hb03, if_pos ha03.1, ha03.2]
    rw [this]
   obtain ⟨hne, hle⟩ := h.at3 a ham ha3
   obtain ⟨v9, m9, e1, e2, e3⟩ := Kz (N + 1) a.ev a.es hle hne m8 g8.st.sees.base (ac8 a ham).ev
   have g9 := g8.step e2
   obtain ⟨m10, x1, x2, x3, x4⟩ := g9.store 0 rfl (o := 5) (v := v9) (by simp [qe]) e3.okC
   have l10 : loads m10 ⟨m6.n, 0, none⟩ 11 = some (qe (qF b a.es v9)) := (x2.st.get 0 rfl).2.2.loads (n := 11) (by simp [qe])
   have lT10 : ∀ s, load1 m10 ⟨T, 0, s⟩ = some sv := fun s => (x2.st.get 6 rfl).2.2.load1 0 s
   obtain ⟨p, y1, y2, yf, y3⟩ := put v9 a.es m9 m10 e2 (e3.rd wy) (by omega) (fun X hX => (grown_low e3 X hX).1) x4 x3 x2 hst
   rw [ha3] at la8 la6
   rw [hb2] at lb8 lb6
   simp [t0, t2, t5, t6, lT, a1, a2', b1, b2', ni, qf, ← hm1, ← hm2, s1, s2, ← hm3, u1, u2, ← hm4, hAne, hAne1, hTne, hTne1, hrow12, ix1, q1, laN, c1, lbN, d1, la6, lb6, db, bset, ← hm7, f1, la8, lb8, e1, x1, l10, lT10, y1, y2]
   exact hk _ _ _ _ _ hst.symm y3 yf (by simp [t0]) (by simp [t2]) (by simp [t5]) (by simp)
  ·-- what the first loads
   have ha2 : a.op = 2 := ha23.resolve_right ha3
   obtain ⟨d0, d9⟩ := h.at2 a ham ha2
   obtain ⟨z, hz⟩ : ∃ z : Nat, a.dst = z := ⟨a.dst.toNat, by omega⟩
   have ha03 : ¬ a0.op = 3 ∧ a0.dst = a.dst := by obtain ⟨x, y, z, rfl⟩ := hab; exact ⟨ha3, rfl⟩
   have hst : qN aim i (st, gone) = (st.set i1 (qF b0 [jO a.dst] (.slice none 0 0)), gone) := by
    rw [hpr]
    have : kv a0 b0 = some (qF b0 [jO a.dst] (.slice none 0 0)) := by unfold kv; rw [if_neg hb03, if_neg ha03.1, ha03.2]
    rw [this]
   have hcv : Ww .u64 (.int .i64 (z : Int)) = some (.int .u64 (z : Int)) := vZ z (by omega)
   have bnd : wn zNd [(0, 1, .int .i64 2), (1, 1, .int .u64 (z : Int))] = some (.agg ⟨[.int .i64 2, uv z, .int .i64 0, .int .i64 0]⟩) := rfl
   have bs := bS1 2 0 0 z m8
   obtain ⟨m9, hm9⟩ := qb8 (Dx.newRow m8 [.int .i64 2, uv z, .int .i64 0, .int .i64 0])
   rw [← hm9] at bs
   have e2 : Ext m8 m9 := by rw [hm9]; exact Ext.row _ _
   have hln : jO a.dst = ⟨2, ⟨z, by omega⟩, 0, 0⟩ := by rw [hz]; exact KX z (by omega)
   have rv : Rd m9 (.slice (some ⟨m8.n, 0, some 9⟩) 1 1) 4 qg [jO a.dst] := by
    rw [hln]
    exact kZ (e := 4) (f := qg) (l := [⟨2, ⟨z, by omega⟩, 0, 0⟩]) wy (by rw [hm9]; exact Arr.row _ _) (by rw [hm9, qm]; omega)
   have g9 := g8.step e2
   obtain ⟨m10, x1, x2, x3, x4⟩ := g9.store 0 rfl (o := 5) (v := .slice (some ⟨m8.n, 0, some 9⟩) 1 1) (by simp [qe]) rfl
   have l10 : loads m10 ⟨m6.n, 0, none⟩ 11 = some (qe (qF b [jO a.dst] (.slice (some ⟨m8.n, 0, some 9⟩) 1 1))) := (x2.st.get 0 rfl).2.2.loads (n := 11) (by simp [qe])
   have lT10 : ∀ s, load1 m10 ⟨T, 0, s⟩ = some sv := fun s => (x2.st.get 6 rfl).2.2.load1 0 s
   obtain ⟨p, y1, y2, yf, y3⟩ := put (.slice (some ⟨m8.n, 0, some 9⟩) 1 1) [jO a.dst] m9 m10 e2 rv (by simp) (fun X hX => by cases hX; exact qah _) x4 x3 x2 hst
   rw [ha2] at la8 la6
   rw [hb2] at lb8 lb6
   rw [hz] at la8 la6
   simp [t0, t2, t5, t6, lT, a1, a2', b1, b2', ni, qf, ← hm1, ← hm2, s1, s2, ← hm3, u1, u2, ← hm4, hAne, hAne1, hTne, hTne1, hrow12, ix1, q1, laN, c1, lbN, d1, la6, lb6, db, bset, ← hm7, f1, la8, lb8, hcv, bnd, bs, x1, l10, lT10, y1, y2]
   exact hk _ _ _ _ _ hst.symm y3 yf (by simp [t0]) (by simp [t2]) (by simp [t5]) (by simp)
end Go.Sx
namespace Go.Sx
open Go.Dx Go.Proofs
set_option maxRecDepth 10000
theorem Jk {aim : Nat → Bool} {i : Nat} {st : List Ac × (Nat → Bool)} {b : Ac} (h : b ∈ (qN aim i st).1) : b ∈ st.1 ∨ b.op = 1 := by
 unfold qN at h
 split at h
 ·split at h
  ·split at h
   ·exact .inl h
   ·split at h
    ·rename_i c hc
     rcases qas h with h | rfl
     ·exact .inl h
     ·unfold kv at hc
      split at hc
      ·cases hc
      ·split at hc <;> (cases hc; exact .inr rfl)
    ·exact .inl h
  ·exact .inl h
 ·exact .inl h
theorem Xp {aim : Nat → Bool} {acs : List Ac} {b : Ac} : ∀ {i : Nat}, b ∈ (prF aim acs i).1 → b ∈ acs ∨ b.op = 1
 | 0, h => .inl h
 | i + 1, h => by
  rcases Jk (st := prF aim acs i) h with h | h
  ·exact Xp h
  ·exact .inr h
theorem QB {o : Nat → Bool} {ps qs : List Ac} (h : LEq ps qs) : ∀ i, LEq (wq o ps i) (wq o qs i)
 | 0 => LEq.refl []
 | i + 1 => by
  have ih := QB (o := o) h i
  unfold wq
  cases hp : ps[i]? with
  | none =>
   have hq : qs[i]? = none := by rw [List.getElem?_eq_none_iff] at hp ⊢; rw [← h.len]; exact hp
   rw [hq]; simpa using ih
  | some a =>
   obtain ⟨b, hb⟩ : ∃ b, qs[i]? = some b := ⟨_, qae (by rw [← h.len]; exact (qag.1 hp).1)⟩
   rw [hb]
   simp only
   cases o i with
   | true => simpa using ih
   | false =>
    have hab := h.get i a b hp hb
    refine ⟨by simp [ih.len], fun j x y hx hy => ?_⟩
    by_cases hj : j < (wq o ps i).length
    ·have e1 : (wq o ps i)[j]? = some x := by rw [← hx]; simp [qau hj]
     have e2 : (wq o qs i)[j]? = some y := by rw [← hy]; simp [qau (show j < (wq o qs i).length by rw [← ih.len]; exact hj)]
     exact ih.get j x y e1 e2
    ·have hjl := (qag.1 hx).1
     simp at hjl
     have hje : j = (wq o ps i).length := by omega
     have e1 : x = a := by rw [hje] at hx; simpa using hx.symm
     have e2 : y = b := by rw [hje, ih.len] at hy; simpa using hy.symm
     rw [e1, e2]; exact hab
theorem Be (o : Nat → Bool) {a b : Ac} (h : AcEq a b) : AcEq (wV o a) (wV o b) := by
 obtain ⟨x, y, z, rfl⟩ := h
 unfold wV
 by_cases hop : b.op = 9 ∨ b.op = 10
 ·rw [if_pos (show ({ b with ix := x, ev := y, fv := z } : Ac).op = 9 ∨ ({ b with ix := x, ev := y, fv := z } : Ac).op = 10 from hop), if_pos hop]
  exact ⟨x, y, z, rfl⟩
 ·rw [if_neg (show ¬ (({ b with ix := x, ev := y, fv := z } : Ac).op = 9 ∨ ({ b with ix := x, ev := y, fv := z } : Ac).op = 10) from hop), if_neg hop]
  exact ⟨x, y, z, rfl⟩
theorem fR (o : Nat → Bool) {ps qs : List Ac} (h : LEq ps qs) : LEq (wo o ps) (wo o qs) := by
 unfold wo
 have := QB (o := o) h ps.length
 rw [← h.len]
 refine ⟨by simp [this.len], fun j a b ha hb => ?_⟩
 rw [qaw] at ha hb
 cases hp : (wq o ps ps.length)[j]? with
 | none => rw [hp] at ha; cases ha
 | some x =>
  cases hq : (wq o qs ps.length)[j]? with
  | none => rw [hq] at hb; cases hb
  | some y =>
   rw [hp] at ha; rw [hq] at hb
   cases ha; cases hb
   exact Be o (this.get j x y hp hq)
theorem Yg {m0 m : M} {T : Nat} {sv : Value} {acs : List Ac} (h : TS m0 m T sv acs) (hto : ∀ a ∈ acs, (a.op = 9 ∨ a.op = 10) → 0 ≤ a.to ∧ a.to ≤ acs.length) (h3 : ∀ a ∈ acs, a.op = 3 → a.es ≠ [] ∧ a.es.length ≤ 65536) (h2 : ∀ a ∈ acs, a.op = 2 → 0 ≤ a.dst ∧ a.dst < 1000000) (hnew : ∀ a ∈ acs, ∀ X, zd a X → m0.n ≤ X) (N : Nat) :
  ∃ v m' lv R, (ex Tryz.prog (N + 3)).f 114 [.pointer (some ⟨T, 0, none⟩)] m = some (v, m') ∧ TS m0 m' T lv R ∧ LEq R (prs acs) ∧ (∀ a ∈ R, ∀ X, zd a X → m0.n ≤ X) ∧ (∀ X, blk lv = some X → m.n ≤ X) ∧ m.n ≤ m'.n ∧ ∀ B, B < m.n → B ≠ T → blk sv ≠ some B → m'.obj B = m.obj B := by
 have hf := kM (P := Tryz.prog) (n := N + 2) (args := [.pointer (some ⟨T, 0, none⟩)]) (m := m) (Q := fun _ m' => (∃ lv R, TS m0 m' T lv R ∧ LEq R (prs acs) ∧ (∀ a ∈ R, ∀ X, zd a X → m0.n ≤ X) ∧ (∀ X, blk lv = some X → m.n ≤ X)) ∧ m.n ≤ m'.n ∧ ∀ B, B < m.n → B ≠ T → blk sv ≠ some B → m'.obj B = m.obj B) df9_ok (by simp) ?_
 ·obtain ⟨v, m', h1, ⟨lv, R, h2, h3, h4, h4'⟩, h5⟩ := hf; exact ⟨v, m', lv, R, h1, h2, h3, h4, h4', h5⟩
 have hmb : m.base ≤ m.n := h.ge.st.sees.base
 obtain ⟨n, hn⟩ := qb8 (acs.length)
 have hnl : n ≤ 65536 := by rw [hn]; exact h.len
 have hTb := h.ge.st.get 0 rfl
 have hsl : qL sv = some (.int .i64 (n : Int)) := by rw [hn]; exact h.ge.gr.lens
 have lT0 : ∀ s, load1 m ⟨T, 0, s⟩ = some sv := fun s => hTb.2.2.load1 0 s
 have w1 : IntKind.i64.wrap ((n : Int) + 1) = ((n + 1 : Nat) : Int) := wj (by omega)
 have mk := zm (n := n + 1) (e := 1) (bytes := 1) (zs := [.bool false]) rfl (by omega) (by unfold qW; omega) (by omega) m
 rw [jk] at mk
 have g1 := h.ge.row (rgR (n + 1) fun j => Value.bool (jR acs 0 j))
 obtain ⟨m1, hm1⟩ := qb8 (Dx.newRow m (rgR (n + 1) fun j => Value.bool (jR acs 0 j)))
 obtain ⟨Q1, hQ1⟩ := qb8 (m.n)
 have mk' : zo 1 1 [.bool false] (.int .i64 ((n + 1 : Nat) : Int)) (.int .i64 ((n + 1 : Nat) : Int)) m = some (.slice (some ⟨Q1, 0, some 3⟩) (n + 1) (n + 1), m1) := by rw [hm1, hQ1]; exact mk
 clear mk
 rw [← hm1, ← hQ1] at g1
 have S1 : Sees m m1 := by rw [hm1]; exact (Sees.refl hmb).ext (Ext.row _ _)
 have lT1 : ∀ s, load1 m1 ⟨T, 0, s⟩ = some sv := fun s => (g1.st.get 1 rfl).2.2.load1 0 s
 obtain ⟨n1, hn1⟩ := qb8 (n + 1)
 rw [← hn1] at w1 mk' g1
 have ix1 : ∀ j, j < n1 → qZ 1 (.slice (some ⟨Q1, 0, some 3⟩) n1 n1) (.int .i64 (j : Int)) = some (.pointer (some ⟨Q1, j, none⟩)) := fun j hj => by have := yc (e := 1) (c := 3) Q1 n1 j hj; rwa [Nat.mul_one] at this
 have hrd := h.ge.gr.rd qv
 simp [lT0, hsl, w1, mk', lT1]
 refine qq (c := cf9_9) rfl (jc _) (fun i t m' => GE m0 m' [(Q1, rgR n1 fun j => .bool (jR acs i j)), (T, [sv])] sv 11 qe acs ∧ Sees m m' ∧ Tm.get 0 t = .pointer (some ⟨T, 0, none⟩) ∧ Tm.get 2 t = .slice (some ⟨Q1, 0, some 3⟩) n1 n1 ∧ Tm.get 20 t = sv ∧ Tm.get 21 t = iv n ∧ Tm.get 22 t = iv i) n (by omega)
  ⟨g1, S1, by simp, by simp, by simp, by simp, by simp⟩ (fun i t m' k hi hI hk => ?_)
 obtain ⟨g, S, t0, t2, t20, t21, t22⟩ := hI
 by_cases hil : i < n
 ·have hd := dlt hil
  have ni := wj (i := i) (by omega)
  obtain ⟨a, ha⟩ : ∃ r, acs[i]? = some r := ⟨_, qae (by omega)⟩
  have ham := qaf ha
  have hacm := (h.ac a ham).sees S
  obtain ⟨a1, a2, _⟩ := (hrd.sees S).at ha
  have a2' := a2 m' S.self
  have g2 := g.row zAc
  obtain ⟨m2, hm2⟩ := qb8 (Dx.newRow m' zAc)
  rw [← hm2] at g2
  have n2 : m2.n = m'.n + 1 := by rw [hm2, qm]
  have S2 : Sees m m2 := by rw [hm2]; exact S.ext (Ext.row _ _)
  obtain ⟨m3, s1, s2, s3, s4⟩ := g2.fill 0 rfl (n := 11) (l' := qe a) rfl rfl (qM hacm)
  have g3 : GE m0 m3 [(m'.n, qe a), (Q1, rgR n1 fun j => .bool (jR acs i j)), (T, [sv])] sv 11 qe acs := s2
  have Sn := S.n
  have S3 : Sees m m3 := ⟨by omega, fun B hB => by rw [s4 B (by omega)]; exact S2.obj B hB, g3.st.sees.base⟩
  have l3 : ∀ p s, load1 m3 ⟨m'.n, p, s⟩ = (qe a)[p]? := fun p s => (g3.st.get 0 rfl).2.2.load1 p s
  simp only [qe] at l3
  have drop : ∀ {mm f}, GE m0 mm [(m'.n, qe a), (Q1, rgR n1 f), (T, [sv])] sv 11 qe acs → GE m0 mm [(Q1, rgR n1 f), (T, [sv])] sv 11 qe acs := fun hg => hg.sub (fun q hq => qap _ hq) (by have := hg.st.nd; simp only [List.map_cons, List.nodup_cons] at this; simp only [List.map_cons, List.nodup_cons]; exact this.2)
  by_cases hjz : a.op = 9 ∨ a.op = 10
  ·have htz := hto a ham hjz
   obtain ⟨z, hz⟩ : ∃ z : Nat, a.to = z := ⟨a.to.toNat, by omega⟩
   have ixz := ix1 z (by omega)
   rw [hz] at l3
   obtain ⟨m4, u1, u2, u3, u4⟩ := g3.store 1 rfl (o := z) (v := .bool true) (by rw [kg]; omega) rfl
   have hset : (rgR n1 fun j => Value.bool (jR acs i j)).set z (.bool true) = rgR n1 fun j => .bool (jR acs (i + 1) j) := zI (fun j hj => by
    rw [jr ha]
    have : zQ a j = false := by unfold zQ; rw [hz]; exact decide_eq_false fun e => hj (by omega)
    rw [this, Bool.or_false]) (by
    rw [jr ha]
    have : zQ a z = true := by unfold zQ; exact decide_eq_true ⟨hjz, hz⟩
    rw [this, Bool.or_true])
   rw [hset] at u2
   have g4 := drop u2
   have S4 : Sees m m4 := ⟨by omega, fun B hB => by rw [u4 B (by omega)]; exact S3.obj B hB, g4.st.sees.base⟩
   rcases hjz with h9 | h10
   ·rw [h9] at l3
    simp [t0, t2, t20, t21, t22, hd, ni, a1, a2', qf, ← hm2, s1, l3, ixz, u1]
    exact hk hil _ _ ⟨g4, S4, by simp [t0], by simp [t2], by simp [t20], by simp [t21], by simp⟩
   ·rw [h10] at l3
    simp [t0, t2, t20, t21, t22, hd, ni, a1, a2', qf, ← hm2, s1, l3, ixz, u1]
    exact hk hil _ _ ⟨g4, S4, by simp [t0], by simp [t2], by simp [t20], by simp [t21], by simp⟩
  ·have d9 : decide (a.op = 9) = false := decide_eq_false fun h => hjz (.inl h)
   have d10 : decide (a.op = 10) = false := decide_eq_false fun h => hjz (.inr h)
   have hsame : (fun j => Value.bool (jR acs (i + 1) j)) = fun j => Value.bool (jR acs i j) := funext fun j => by
    rw [jr ha]
    have : zQ a j = false := by unfold zQ; exact decide_eq_false fun e => hjz e.1
    rw [this, Bool.or_false]
   simp [t0, t2, t20, t21, t22, hd, ni, a1, a2', qf, ← hm2, s1, l3, d9, d10]
   exact hk hil _ _ ⟨by rw [hsame]; exact drop g3, S3, by simp [t0], by simp [t2], by simp [t20], by simp [t21], by simp⟩
 obtain rfl : i = n := by omega
 have hd : ((i : Int) < (i : Int)) = False := eq_false (by omega)
 have haim : (fun j => Value.bool (jR acs i j)) = fun j => Value.bool (wN acs j) := by rw [hn]; rfl
 rw [haim] at g
 have lT : ∀ s, load1 m' ⟨T, 0, s⟩ = some sv := fun s => (g.st.get 1 rfl).2.2.load1 0 s
 have mk := zm (n := i) (e := 1) (bytes := 1) (zs := [.bool false]) rfl (by omega) (by unfold qW; omega) (by omega) m'
 rw [jk] at mk
 have g2 := (g.row (rgR i fun j => Value.bool ((prF (wN acs) acs 0).2 j))).row [.slice none 0 0]
 obtain ⟨m2, hm2⟩ := qb8 (Dx.newRow m' (rgR i fun j => Value.bool ((prF (wN acs) acs 0).2 j)))
 obtain ⟨Q2, hQ2⟩ := qb8 (m'.n)
 have mk2 : zo 1 1 [.bool false] (.int .i64 (i : Int)) (.int .i64 (i : Int)) m' = some (.slice (some ⟨Q2, 0, some 3⟩) i i, m2) := by rw [hm2, hQ2]; exact mk
 clear mk
 rw [← hm2, ← hQ2] at g2
 obtain ⟨W, hW⟩ := qb8 (m2.n)
 obtain ⟨m3, hm3⟩ := qb8 (Dx.newRow m2 [.slice none 0 0])
 rw [← hm3, ← hW] at g2
 have n2 : m2.n = m'.n + 1 := by rw [hm2, qm]
 have n3 : m3.n = m2.n + 1 := by rw [hm3, qm]
 obtain ⟨m4, s1, s2, s3, s4⟩ := g2.store 0 rfl (o := 0) (v := .slice (some ⟨Q2, 0, some 3⟩) i i) (by simp) rfl
 have Sn := S.n
 have o4 : ∀ X, X < m.n → m4.obj X = m.obj X := fun X hX => by rw [s4 X (by omega), hm3, (Ext.row m2 _).obj X (by omega), hm2, (Ext.row m' _).obj X (by omega)]; exact S.obj X hX
 have pi0 : PI m0 m4 T W Q1 Q2 i sv (wN acs) (prF (wN acs) acs 0).2 (prF (wN acs) acs 0).1 acs := by
  refine ⟨by rw [← hn1]; exact s2, fun c hc => (h.ac c hc).congr (by omega) fun X hX => o4 X ((h.ac c hc).lt hX), fun c hc X hX => ⟨(h.sep c hc X hX).1, (h.sep c hc X hX).2, by have := (h.ac c hc).lt hX; omega⟩, hn.symm, LEq.refl acs, h3, h2, hnew⟩
 simp [t0, t2, t20, t21, t22, hd, lT, hsl, mk2, ← hm3, ← hW, s1]
 refine qq (c := Fb) rfl (jc _) (fun j t mm => (∃ cur, PI m0 mm T W Q1 Q2 i sv (wN acs) (prF (wN acs) acs j).2 (prF (wN acs) acs j).1 cur) ∧ (m.n ≤ mm.n ∧ ∀ B, B < m.n → B ≠ T → blk sv ≠ some B → mm.obj B = m.obj B) ∧ Tm.get 0 t = .pointer (some ⟨T, 0, none⟩) ∧ Tm.get 2 t = .slice (some ⟨Q1, 0, some 3⟩) n1 n1 ∧ Tm.get 5 t = .pointer (some ⟨W, 0, none⟩) ∧ Tm.get 6 t = iv j) (i - 1) (by omega)
  ⟨⟨acs, pi0⟩, ⟨by omega, fun B hB _ _ => o4 B hB⟩, by simp [t0], by simp [t2], by simp, by simp⟩ (fun j t mm k2 hj hJ hk2 => ?_)
 obtain ⟨⟨cur, hp⟩, ⟨hfn, hfr⟩, t0, t2, t5, t6⟩ := hJ
 have lTj : ∀ s, load1 mm ⟨T, 0, s⟩ = some sv := fun s => (hp.ge.st.get 3 rfl).2.2.load1 0 s
 have nj := wj (i := j) (by omega)
 obtain ⟨j1, hj1⟩ := qb8 (j + 1)
 rw [← hj1] at nj
 by_cases hjl : j1 < i
 ·have hdj := dlt hjl
  have hdj' : (j1 < i) = True := eq_true hjl
  simp [t0, t6, nj, lTj, hsl, hdj, hdj', -Yj]
  refine JQ (i := j) N hnl (by omega) hp ?_ ?_ ?_ ?_ (fun t' m'' cur' gone' st' hst hp' hf' e0 e2 e5 e6 => ?_)
  ·simp [t0]
  ·rw [← hn1]; simp [t2]
  ·simp [t5]
  ·simp [t6]
  have hstp : prF (wN acs) acs (j + 1) = (st', gone') := by rw [hst]; rfl
  exact hk2 (by omega) t' m'' ⟨⟨cur', by rw [hstp]; exact hp'⟩, ⟨qaq hfn hf'.1, fun B hB hBT hBs => by rw [hf'.2 B (by omega) (by omega) hBs]; exact hfr B hB hBT hBs⟩, e0, by rw [e2, hn1], e5, e6⟩
 ·have hdj : ((j1 : Int) < (i : Int)) = False := eq_false (by omega)
  have hdj' : (j1 < i) = False := eq_false hjl
  have hje : j = acs.length - 1 := by omega
  obtain ⟨stp, hstp⟩ := qb8 (prF (wN acs) acs j)
  rw [← hstp] at hp
  have hT := hp.ge.st.get 3 rfl
  have hWb := hp.ge.st.get 0 rfl
  have hQb := hp.ge.st.get 1 rfl
  have hb0 := hp.ge.st.ext.base
  have hb1 := hp.ge.st.base
  have hcl := hp.len
  have tsc : TS m0 mm T sv cur := ⟨hp.ge.sub (fun q hq => by simp at hq ⊢; exact .inr (.inr (.inr hq))) (by simp), hp.ac, fun c hc X hX => ⟨(hp.sep c hc X hX).1, (hp.sep c hc X hX).2.1⟩, by omega⟩
  obtain ⟨v, m5, w1', w2'⟩ := xv 169 T [.pointer (some ⟨W, 0, none⟩)] sv cur stp.2 (N + 1) mm hp.ge.st.sees.base (by omega) hT.2.1 hT.2.2 (hp.ge.gr.rd qv) hp.ac (by omega) (fun a ha hop => by
   obtain ⟨q, hq⟩ := qb1 ha
   have hql := (qag.1 hq).1
   obtain ⟨b, hb⟩ : ∃ b, stp.1[q]? = some b := ⟨_, qae (by rw [← hp.leq.len]; exact hql)⟩
   obtain ⟨x, y, z, rfl⟩ := hp.leq.get q a b hq hb
   have hop' : b.op = 9 ∨ b.op = 10 := hop
   show 0 ≤ b.to ∧ b.to ≤ (cur.length : Int)
   rw [hcl, hn]
   rcases Xp (i := j) (by rw [← hstp]; exact qaf hb) with hm | hm
   ·exact hto b hm hop'
   ·omega) (fun q hq m6 hs => gone_c W Q2 i stp.2 N m6 (fun u => by rw [kx hs hWb.2.1]; exact hWb.2.2.load1 0 u) (fun p u => by rw [kx hs hQb.2.1]; exact hQb.2.2.load1 p u) (by omega))
  obtain ⟨lv, hts, hlow⟩ := w2'.ts tsc
  simp [t0, t5, t6, nj, lTj, hsl, hdj, hdj', w1']
  refine yh ⟨⟨lv, _, hts, ?_, fun a ha X hX => ?_, fun X hX => by have := hlow X hX; omega⟩, qaq hfn w2'.n, fun B hB hBT hBs => by rw [w2'.obj B (by omega) hBT]; exact hfr B hB hBT hBs⟩
  rotate_left
  ·obtain ⟨b, hb, rfl⟩ := za ha
   obtain ⟨z, hz⟩ := zh stp.2 b
   rw [hz] at hX
   exact hp.new b hb X hX
  have := fR stp.2 hp.leq
  unfold prs
  rw [← hje, ← hstp]
  exact this
end Go.Sx
