/- Contracts. -/
import Derived.Test.YtbbpaaofmcoobaaGreatGa
import Derived.Test.YtbbpaaofmcoobaaGreatGe
import Derived.Lib.SmallJoins
import Derived.Test.YtbbpaaofmcoobaaGreatPost
import Derived.WideKeyArgs
import Derived.Test.YtbbpaaofmcoobaaGreatGl
set_option linter.unusedVariables false
set_option linter.unusedSimpArgs false
set_option linter.defProp false
namespace Go.Dx
open Go.RowKit Go.WideShapes Go.ChangeShapes
noncomputable section
attribute [local irreducible] A.get A.set HI
def abC (w : World) (b : Nat) : Value → Option Value
 | .int k n => some (.int k n)
 | .slice none 0 0 => some (.slice none 0 0)
 | .slice (some _) 0 0 => some (.slice (some ⟨b, 0, some 1⟩) 0 0)
 | .slice (some ⟨B, o, none⟩) len cap => match w.heap[B]? with
  | some (.cells cs _ _) => if len ≤ cap ∧ o ≤ cs.size then some (.slice (some ⟨B, o + HI, some 1⟩) len cap) else none
  | _ => none
 | _ => none
theorem Xd {w : World} {b : Nat} {l : Loc} (hb : kQ w b = some l) {v u : Value} (h : abC w b v = some u) : VRel (kQ w) u v := by
 unfold abC at h
 split at h
 ·cases h; exact .int _ _
 ·cases h; exact .slN
 ·cases h; exact .slE _ _ _ _ l hb
 ·rename_i B o len cap _
  split at h
  ·rename_i cs e fz hx
   split at h
   ·rename_i hc
    cases h
    have hφ : kQ w B = some ⟨B, HI, cs.size⟩ := by unfold kQ; rw [hx]
    exact .sl B o 1 len cap cap ⟨B, HI, cs.size⟩ hφ hc.1 (qah _) (fun _ => rfl) (by show o + cap * 0 ≤ cs.size; rw [Nat.mul_zero]; exact hc.2)
   ·cases h
  ·cases h
 ·cases h
def vw (w : World) (b : Nat) (fz : Nat × Nat) : Nat → List Value → C → C
 | _, [], c => c
 | j, v :: l, c => vw w b fz (j + 1) l (match abC w b v with
  | some u => if fz.1 ≤ j ∧ j < fz.2 then c else A.set none (some u) (j + HI) c
  | none => c)
def JW (w : World) (b : Nat) : Obj → jJ
 | .cells cs _ fz => .cells (vw w b fz 0 cs.toList .lf)
 | _ => .cells .lf
def GA (w : World) : M := vh (w.heap.toList.mapIdx (JW w)) M.empty
def snapM2 (w : World) : M := qn (GA w)
theorem xX (w : World) (b : Nat) (fz : Nat × Nat) : ∀ (l : List Value) (j : Nat) (c : C) (i : Nat), A.get none i (vw w b fz j l c) = if j + HI ≤ i ∧ i < j + HI + l.length then
  (match (l[i - HI - j]?).bind (abC w b) with
   | some u => if fz.1 ≤ i - HI ∧ i - HI < fz.2 then A.get none i c else some u
   | none => A.get none i c) else A.get none i c
 | [], j, c, i => by
  show A.get none i c = _
  rw [if_neg (by simp)]
 | v :: l, j, c, i => by
  unfold vw
  rw [xX w b fz l (j + 1)]
  by_cases h1 : i = j + HI
  ·subst h1
   rw [if_neg (by omega), if_pos (by simp), show j + HI - HI - j = 0 by omega, List.getElem?_cons_zero, show j + HI - HI = j by omega]
   show _ = match abC w b v with
    | some u => _
    | none => _
   cases hv : abC w b v with
   | some u =>
    simp only
    by_cases hz : fz.1 ≤ j ∧ j < fz.2
    ·rw [if_pos hz, if_pos hz]
    ·rw [if_neg hz, if_neg hz, A.get_set_same]
   | none => rfl
  ·have hc : A.get none i (match abC w b v with
     | some u => if fz.1 ≤ j ∧ j < fz.2 then c else A.set none (some u) (j + HI) c
     | none => c) = A.get none i c := by
    cases hv : abC w b v with
    | some u =>
     simp only
     split
     ·rfl
     ·rw [A.get_set_ne _ _ h1]
    | none => rfl
   by_cases h2 : j + 1 + HI ≤ i ∧ i < j + 1 + HI + l.length
   ·rw [if_pos h2, if_pos (by simp; omega), show i - HI - j = (i - HI - (j + 1)) + 1 by omega, List.getElem?_cons_succ, hc]
   ·rw [if_neg h2, if_neg (by simp; omega), hc]
theorem snap_facts2 (w : World) : (snapM2 w).n = w.heap.size ∧ (snapM2 w).base = w.heap.size ∧ (snapM2 w).log = [] ∧ ∀ X, (snapM2 w).obj X = (w.heap[X]?).map (JW w X) := by
 obtain ⟨h1, h2, h3, h4⟩ := fq (w.heap.toList.mapIdx (JW w)) M.empty
 have hn : M.empty.n = 0 := rfl
 have hn' : (GA w).n = w.heap.size := by show (vh _ _).n = _; rw [h1, hn]; simp
 refine ⟨by unfold snapM2; rw [qx, hn'], by unfold snapM2; rw [ki, hn'], wH _, fun X => ?_⟩
 unfold snapM2
 rw [qw]
 show (vh _ _).obj X = _
 rw [h4 X, hn]
 by_cases h : X < w.heap.size
 ·rw [if_pos (by simp; omega)]; simp [h]
 ·rw [if_neg (by simp; omega), Array.getElem?_eq_none (by omega)]
  exact A3.get_lf none X
theorem R.snap2 (w : World) : R (kQ w) (snapM2 w) w := by
 obtain ⟨h1, h2, h3, h4⟩ := snap_facts2 w
 refine ⟨fun B hB => by rw [h4, Array.getElem?_eq_none (by omega)]; rfl, fun B l hB hl => ?_, fun B₁ B₂ l₁ l₂ _ _ hl1 hl2 he hne => ?_⟩
 ·have hl0 := hl
  unfold kQ at hl
  split at hl
  ·rename_i cs e fz hx
   cases hl
   have hob : (snapM2 w).obj B = some (.cells (vw w B fz 0 cs.toList .lf)) := by rw [h4, hx]; rfl
   refine ⟨.cells (vw w B fz 0 cs.toList .lf), hob, cs, e, fz, hx, rfl, ⟨fun _ h => absurd h (Nat.lt_irrefl _), fun i v hi => ?_⟩, fun i v hi => ?_⟩
   ·rw [xX] at hi
    split at hi
    ·split at hi
     ·split at hi
      ·rw [A.get_lf] at hi; cases hi
      ·assumption
     ·rw [A.get_lf] at hi; cases hi
    ·rw [A.get_lf] at hi; cases hi
   ·rw [xX] at hi
    split at hi
    ·rename_i hr
     split at hi
     ·rename_i u hg
      split at hi
      ·rw [A.get_lf] at hi; cases hi
      ·cases hi
       rw [Option.bind_eq_some_iff] at hg
       obtain ⟨x, hx1, hx2⟩ := hg
       refine ⟨by show HI ≤ i; omega, x, ?_, Xd hl0 hx2⟩
       rw [Nat.sub_zero] at hx1
       simpa using hx1
     ·rw [A.get_lf] at hi; cases hi
    ·rw [A.get_lf] at hi; cases hi
  ·cases hl
 ·unfold kQ at hl1 hl2
  split at hl1 <;> cases hl1
  split at hl2 <;> cases hl2
  exact absurd he hne
theorem ZX {w : World} {b i : Nat} {v u : Value} (h : w.cell? ⟨b, i, none⟩ = some v) (hz : w.frozen? ⟨b, i, none⟩ = false) (hu : abC w b v = some u) (s : Option Nat) :
  load1 (snapM2 w) ⟨b, i + HI, s⟩ = some u := by
 obtain ⟨h1, h2, h3, h4⟩ := snap_facts2 w
 unfold World.cell? at h
 split at h
 ·rename_i cs e fz hx
  simp only [Option.isSome_none, Bool.false_eq_true, if_false] at h
  have hi : i < cs.size := (qai.1 h).1
  have hob : (snapM2 w).obj b = some (.cells (vw w b fz 0 cs.toList .lf)) := by rw [h4, hx]; rfl
  have hld : ∀ o, load1 (snapM2 w) ⟨b, o, s⟩ = A.get none o (vw w b fz 0 cs.toList .lf) := fun o => by unfold load1 cellsOf; rw [hob]; rfl
  have hg : cs.toList[i]? = some v := by simpa using h
  have hzz : ¬ (fz.1 ≤ i ∧ i < fz.2) := by
   simp only [World.frozen?, hx] at hz
   simpa using hz
  rw [hld, xX]
  generalize HI = H
  rw [if_pos (by simp; omega), show i + H - H = i by omega, Nat.sub_zero, hg]
  show (match abC w b v with
   | some u => _
   | none => _) = _
  rw [hu]
  simp only
  rw [if_neg hzz]
 ·cases h
theorem VK {w : World} {a : Addr} {v : Value} (h : w.cell? a = some v) : a.spot = none ∧ ∃ cs e fz, w.heap[a.block]? = some (.cells cs e fz) ∧ a.off < cs.size := by
 unfold World.cell? at h
 split at h
 ·rename_i cs e fz hx
  cases hs : a.spot with
  | none =>
   simp only [hs, Option.isSome_none, Bool.false_eq_true, if_false] at h
   exact ⟨rfl, cs, e, fz, hx, (qai.1 h).1⟩
  | some s => simp [hs] at h
 ·cases h
theorem snap_call2 {P : Program} {x : Ex} (hx : jN P x) {g : Nat} {args : List Value} {w : World} {b : Bool} (h : CallV x g args (snapM2 w) (.bool b)) (args' : Array Value) (ha : VRels (kQ w) args args'.toList) :
  Calls P g args' w fun e w' => e = .returned (.bool b) ∧ Below w.heap.size w w' := by
 obtain ⟨h1, h2, h3, h4⟩ := snap_facts2 w
 obtain ⟨v, m', e, hE, rfl⟩ := h
 obtain ⟨_, _, hc⟩ := hx.f _ _ _ _ _ e
 refine (hc (kQ w) w args' (R.snap2 w) ha (fun B hB _ => ?_)).mono ?_
 ·unfold kQ; rw [h1] at hB; rw [Array.getElem?_eq_none (by omega)]
 ·rintro e w' ⟨φ', v', rfl, _, hs, hr⟩
  refine ⟨by rw [hr.bool_inv], hs.os, hs.tape, hs.output, hs.size, fun k hk => hs.frame k hk fun B l hl hb ht => ?_⟩
  obtain ⟨q1, q2, _⟩ := ht
  have hB : B < w.heap.size := by rw [← h1]; exact q1
  rcases q2 with q | q
  ·rw [hE.base, h2] at q; omega
  ·rw [hE.log, h3] at q; cases q
section
variable {H : Type} {enc : TypeId × Value → H} {P : Program} {w : World}
end
end
end Go.Dx
namespace Go.Sx
open Go.RowKit Go.WideShapes Go.ChangeShapes Go.Dx
structure PT (P : Program) (tp ts tt tas ta tns tn ti tu : TypeId) : Prop where
 p : ∃ fs, P.underlying tp = some (.struct fs) ∧ fs.toList.map (fun f => (f.type, f.offset)) = [(ti, 0), (ts, 1)]
 pc : P.cellsOf tp = 2
 s : P.underlying ts = some (.slice tt)
 sc : P.cellsOf ts = 1
 t : ∃ fs, P.underlying tt = some (.struct fs) ∧ fs.toList.map (fun f => (f.type, f.offset)) = [(ti, 0), (tas, 1)]
 tc : P.cellsOf tt = 2
 l : P.underlying tas = some (.slice ta)
 lc : P.cellsOf tas = 1
 a : ∃ fs, P.underlying ta = some (.struct fs) ∧ fs.toList.map (fun f => (f.type, f.offset)) = [(ti, 0), (ti, 1), (ti, 2), (ti, 3), (tns, 4), (tns, 5), (tns, 6), (ti, 7), (ti, 8), (ti, 9), (ti, 10)]
 ac : P.cellsOf ta = 11
 ns : P.underlying tns = some (.slice tn)
 nsc : P.cellsOf tns = 1
 n : ∃ fs, P.underlying tn = some (.struct fs) ∧ fs.toList.map (fun f => (f.type, f.offset)) = [(ti, 0), (tu, 1), (ti, 2), (ti, 3)]
 nc : P.cellsOf tn = 4
 i : P.underlying ti = some (.int .i64)
 ic : P.cellsOf ti = 1
 u : P.underlying tu = some (.int .u64)
 uc : P.cellsOf tu = 1
theorem bN {fs : Array Field} {l : List (TypeId × Nat)} (h : fs.toList.map (fun f => (f.type, f.offset)) = l) {i : Nat} {t : TypeId} {o : Nat} (hi : l[i]? = some (t, o)) : ∃ f, fs[i]? = some f ∧ f.type = t ∧ f.offset = o := by
 subst h
 rw [qaw, Option.map_eq_some_iff] at hi
 obtain ⟨f, h1, h2⟩ := hi
 injection h2 with h3 h4
 exact ⟨f, by simpa using h1, h3, h4⟩
theorem u_of' {n : Int} (h : (Lit.int .u64 n).wf = true) : ∃ u : U, n = (u.1 : Int) := by
 simp only [Lit.wf, qak, decide_eq_true_eq] at h
 have h1 : (0 : Int) ≤ n := h.1
 have h2 : n ≤ 18446744073709551615 := h.2
 exact ⟨⟨n.toNat, by omega⟩, by show n = (n.toNat : Int); omega⟩
instance instU : Inhabited U := ⟨⟨0, by omega⟩⟩
instance instNd : Inhabited Nd := ⟨⟨0, default, 0, 0⟩⟩
instance instAc : Inhabited Ac := ⟨⟨0, 0, 0, 0, .bool false, .bool false, .bool false, 0, 0, 0, 0, [], [], []⟩⟩
instance instTh : Inhabited Th := ⟨⟨0, .bool false, []⟩⟩
section
variable {H : Type} {enc : TypeId × Value → H} {P : Program} {w : World} {tp ts tt tas ta tns tn ti tu : TypeId}
theorem ya {fs : Array Field} {l : List (TypeId × Nat)} {t : TypeId} {n : Nat} {cs : List Value} {y : DataW H × List MemPlace} (hs : P.underlying t = some (.struct fs)) (hl : fs.toList.map (fun f => (f.type, f.offset)) = l)
  (h : DataW.trod enc P w 0 (fun _ => true) true n t cs = some y) : cs.length = P.cellsOf t ∧ ∃ (xs : List (DataW H × List MemPlace)) (k : Nat), y = (.agg (xs.map (·.1)), xs.flatMap (·.2)) ∧ xs.length = l.length ∧
   ∀ (i : Nat) (t' : TypeId) (o : Nat), l[i]? = some (t', o) → DataW.trod enc P w 0 (fun _ => true) true k t' ((cs.drop o).take (P.cellsOf t')) = xs[i]? := by
 obtain ⟨xs, k, _, e, h1, h2, h3⟩ := DataW.trod_struct hs h
 refine ⟨h1, xs, k, e, by rw [h2, ← hl]; simp, fun i t' o hi => ?_⟩
 obtain ⟨f, q1, q2, q3⟩ := bN hl hi
 have := h3 i f q1
 rw [q2, q3] at this
 exact this
theorem DN (T : PT P tp ts tt tas ta tns tn ti tu) (b : Nat) (l : Dx.Loc) (n : Nat) (cs : List Value) (y : DataW H × List MemPlace) (hb : kQ w b = some l) (h : DataW.trod enc P w 0 (fun _ => true) true n tn cs = some y)
  (hz : ∀ c off, MemPlace.cell c off ∈ y.2 → w.frozen? ⟨c, off, none⟩ = false) : ∃ x : Nd, cs.map (abC w b) = (qg x).map some ∧ True := by
 obtain ⟨fs, h1, h2⟩ := T.n
 obtain ⟨hl, xs, k, _, hx, hf⟩ := ya h1 h2 h
 rw [T.nc] at hl
 match cs, xs, hl, hx with
 | [c0, c1, c2, c3], [y0, y1, y2, y3], _, _ =>
  have g0 := hf 0 ti 0 rfl
  have g1 := hf 1 tu 1 rfl
  have g2 := hf 2 ti 2 rfl
  have g3 := hf 3 ti 3 rfl
  rw [T.ic] at g0 g2 g3
  rw [T.uc] at g1
  obtain ⟨a, e0, _⟩ := DataW.trod_int T.i g0
  obtain ⟨u, e1, _, wb⟩ := DataW.trod_int T.u g1
  obtain ⟨c, e2, _⟩ := DataW.trod_int T.i g2
  obtain ⟨d, e3, _⟩ := DataW.trod_int T.i g3
  obtain ⟨v, rfl⟩ := u_of' wb
  simp at e0 e1 e2 e3
  exact ⟨⟨a, v, c, d⟩, by rw [e0, e1, e2, e3]; rfl, trivial⟩
end
end Go.Sx
namespace Go.Dx
open Go.RowKit Go.WideShapes Go.ChangeShapes
section
variable {H : Type} {enc : TypeId × Value → H} {P : Program}
theorem args_stay (hl : laidOutB P = true) {W W' : World} : ∀ (ts : List TypeId) (vs : List Value) (ds : List (DataW H)) (ps : List MemPlace), (ts.all fun t => P.readableRec t && decide (t < P.types.size)) = true →
  DataW.TrodAll enc P W 0 (fun _ => true) true ts vs ds ps → (∀ p ∈ ps, W.sameAt W' p) → ∀ sp : Nat → Bool, (∀ p ∈ ps, sp p.block = true) → DataW.TrodAll enc P W' 0 sp true ts vs ds ps
 | [], vs, ds, ps, _, h, _, _, _ => by
  obtain ⟨rfl, rfl, rfl⟩ := trodAll_nil h
  exact rfl
 | t :: ts, vs, ds, ps, ha, h, hs, sp, hsp => by
  obtain ⟨v, vs', d, ds', p, q, rfl, rfl, rfl, h1, h2⟩ := trodAll_cons h
  simp only [List.all_cons, qak, decide_eq_true_eq] at ha
  exact ⟨p, q, WideElems.Trod_stays hl ha.1.1 ha.1.2 h1 (fun x hx => hs x (List.mem_append_left _ hx)) (fun x hx => hsp x (List.mem_append_left _ hx)),
   args_stay hl ts vs' ds' q ha.2 h2 (fun x hx => hs x (List.mem_append_right _ hx)) sp (fun x hx => hsp x (List.mem_append_right _ hx)), rfl⟩
end
end Go.Dx
namespace Go.Dx
open Go.RowKit Go.WideShapes Go.ChangeShapes
noncomputable section
attribute [local irreducible] A.get A.set HI
theorem vm {H : Type} {P : Program} {e : TypeId} {n : Nat} : ∀ {l : List (DataW H)} {d : DataW H}, d ∈ l → n ∈ d.weights P e → n ∈ DataW.weightsAll P e l
 | d0 :: l, d, hd, hn => by
  simp only [DataW.weightsAll, qb6]
  rcases List.mem_cons.1 hd with rfl | h
  ·exact .inl hn
  ·exact .inr (vm h hn)
theorem Ji {H : Type} {P : Program} {t e : TypeId} {elems rest : List (DataW H × List MemPlace)} {n : Nat} (ht : P.underlying t = some (.slice e)) {z : DataW H × List MemPlace} (hz : z ∈ elems ++ rest) (hn : n ∈ z.1.weights P e) :
  n ∈ (DataW.slice (elems.map (·.1)) (rest.map (·.1))).weights P t := by
 simp only [DataW.weights, ht, List.mem_cons, qb6]
 rcases qb6.1 hz with h | h
 ·exact .inr (.inl (vm (List.mem_map.2 ⟨z, h, rfl⟩) hn))
 ·exact .inr (.inr (vm (List.mem_map.2 ⟨z, h, rfl⟩) hn))
section
variable {H : Type} {enc : TypeId × Value → H} {P : Program} {w : World}
theorem Ze {α : Type} [Inhabited α] {t e : TypeId} {sz : Nat} {f : α → List Value} {good : α → Prop} {held : Bool} (ht : P.underlying t = some (.slice e)) (hC : P.cellsOf e = sz) (hpos : 0 < sz)
  (hrow : ∀ b l n cs y, kQ w b = some l → DataW.trod enc P w 0 (fun _ => true) held n e cs = some y → (∀ c off, MemPlace.cell c off ∈ y.2 → w.frozen? ⟨c, off, none⟩ = false) → (∀ n ∈ y.1.weights P e, n ≤ reachBytes) → ∃ x : α, cs.map (abC w b) = (f x).map some ∧ good x)
  (hlen : ∀ x, (f x).length = sz) {v : Value} {y : DataW H × List MemPlace} {fuel : Nat} (hf : DataW.trod enc P w 0 (fun _ => true) held fuel t [v] = some y) {b : Nat} {l : Loc} (hb : kQ w b = some l)
  (hz : ∀ c off, MemPlace.cell c off ∈ y.2 → w.frozen? ⟨c, off, none⟩ = false) (hw : ∀ n ∈ y.1.weights P t, n ≤ reachBytes) :
  ∃ av es, abC w b v = some av ∧ Rd (snapM2 w) av sz f es ∧ (∀ x ∈ es, good x) ∧ es.length ≤ 9223372036854775807 ∧ (es = [] ∨ ∃ elems spare, y.1 = .slice elems spare ∧ elems.length = es.length) := by
 have hbl : ∀ {B l}, kQ w B = some l → B < (snapM2 w).n := fun {B l} h => by
  rw [(snap_facts2 w).1]
  unfold kQ at h
  split at h
  ·rename_i hx; exact (qai.1 hx).1
  ·cases h
 rcases DataW.trod_slice ht hf with ⟨hv, hy⟩ | ⟨a, len, cap, elems, rest, n, _, hv, hy, _, hlc, hcm, hel, hE, hR, _⟩
 ·cases hv
  exact ⟨.slice none 0 0, [], rfl, ⟨rfl, fun i r hr => by simp at hr, rfl, fun B hB => by cases hB⟩, (by simp), (by simp), .inl rfl⟩
 ·cases hv
  obtain ⟨hrl, hR⟩ := hR rfl
  subst hy
  have hwm : ∀ z ∈ elems ++ rest, ∀ n ∈ z.1.weights P e, n ≤ reachBytes := fun z hz n hn => hw n (Ji ht hz hn)
  by_cases h0 : cap = 0
  ·subst h0
   obtain rfl : len = 0 := by omega
   refine ⟨.slice (some ⟨b, 0, some 1⟩) 0 0, [], rfl, ⟨rfl, fun i r hr => by simp at hr, ?_, fun B hB => by cases hB; exact hbl hb⟩, (by simp), (by simp), .inl rfl⟩
   have hx := hb
   unfold kQ at hx
   split at hx
   ·rename_i cs e' fz hh
    obtain ⟨c, hc⟩ : ∃ c, (snapM2 w).obj b = some (.cells c) := ⟨_, by rw [(snap_facts2 w).2.2.2, hh]; rfl⟩
    show loads (snapM2 w) ⟨b, 0, some 1⟩ (([] : List α).length * sz) = some []
    rw [List.length_nil, Nat.zero_mul]
    unfold loads cellsOf
    simp only [hc]
    rfl
   ·cases hx
  have hex : ∀ i, i < cap → ∃ z : DataW H × List MemPlace, z ∈ elems ++ rest ∧ (w.cells? 0 (a.add (i * P.cellsOf e)) (P.cellsOf e)).bind (DataW.trod enc P w 0 (fun _ => true) held n e) = some z := fun i hi => by
   by_cases h : i < len
   ·exact ⟨elems[i], List.mem_append_left _ (List.getElem_mem _), (hE i h).trans (qae (by omega))⟩
   ·have := hR (i - len) (by omega)
    rw [show len + (i - len) = i by omega] at this
    exact ⟨rest[i - len], List.mem_append_right _ (List.getElem_mem _), this.trans (qae (by omega))⟩
  have hcell0 : ∃ v, w.cell? (a.add (0 * P.cellsOf e + 0)) = some v := by
   obtain ⟨z, _, hz'⟩ := hex 0 (by omega)
   rw [Option.bind_eq_some_iff] at hz'
   obtain ⟨cs, hcs, _⟩ := hz'
   obtain ⟨_, hl, hcell⟩ := World.cells?_some hcs
   have := hcell 0 (by omega)
   rw [Addr.add_add] at this
   exact ⟨cs[0], by rw [this, qae (by omega)]⟩
  obtain ⟨b', off, spot⟩ := a
  obtain ⟨v0, hv0⟩ := hcell0
  obtain ⟨hs, cs0, e0, fz0, hh, hoff⟩ := VK hv0
  obtain rfl : spot = none := by
   cases spot with
   | none => rfl
   | some s => exact absurd hs (by unfold Addr.add; split <;> simp_all)
  have hoff' : off ≤ cs0.size := by
   simp only [add_plain] at hoff
   omega
  have hh' : w.heap[b']? = some (.cells cs0 e0 fz0) := by simpa only [add_plain] using hh
  have hφ : kQ w b' = some ⟨b', HI, cs0.size⟩ := by unfold kQ; rw [hh']
  have hex2 : ∀ i, i < cap → ∃ x : α, good x ∧ ∀ j, j < sz → ∃ c, w.cell? ⟨b', off + (i * sz + j), none⟩ = some c ∧ abC w b' c = (f x)[j]? := fun i hi => by
   obtain ⟨z, hzm, hz'⟩ := hex i hi
   rw [Option.bind_eq_some_iff] at hz'
   obtain ⟨cs, hcs, hz'⟩ := hz'
   obtain ⟨x, hx, hg⟩ := hrow b' _ _ _ _ hφ hz' (fun c o hc => hz c o (List.mem_append_right _ (List.mem_flatMap.2 ⟨z, hzm, hc⟩))) (hwm z hzm)
   obtain ⟨_, hl, hcell⟩ := World.cells?_some hcs
   refine ⟨x, hg, fun j hj => ?_⟩
   have hjl : j < cs.length := by rw [hl, hC]; exact hj
   have := hcell j (by rw [hC]; exact hj)
   refine ⟨cs[j], ?_, ?_⟩
   ·rw [← qae hjl, ← this, hC, add_plain, add_plain, Nat.add_assoc]
   ·have h2 := congrArg (fun l => l[j]?) hx
    simp only [qaw, qae hjl, Option.map_some] at h2
    rw [qae (by rw [hlen]; exact hj)] at h2 ⊢
    exact Option.some.inj h2
  obtain ⟨X, hX⟩ : ∃ X : Nat → α, ∀ i, i < cap → good (X i) ∧ ∀ j, j < sz → ∃ c, w.cell? ⟨b', off + (i * sz + j), none⟩ = some c ∧ abC w b' c = (f (X i))[j]? := by
   have hex' : ∀ i, ∃ x : α, i < cap → good x ∧ ∀ j, j < sz → ∃ c, w.cell? ⟨b', off + (i * sz + j), none⟩ = some c ∧ abC w b' c = (f x)[j]? := fun i => by
    by_cases h : i < cap
    ·obtain ⟨x, hx⟩ := hex2 i h; exact ⟨x, fun _ => hx⟩
    ·exact ⟨default, fun h' => absurd h' h⟩
   exact ⟨fun i => (hex' i).choose, fun i hi => (hex' i).choose_spec hi⟩
  have hfz : ∀ i j, i < cap → j < sz → w.frozen? ⟨b', off + (i * sz + j), none⟩ = false := fun i j hi hj => by
   refine hz b' _ (List.mem_append_left _ ?_)
   unfold MemPlace.row
   refine List.mem_map.2 ⟨i * sz + j, ?_, rfl⟩
   rw [List.mem_range, hel, hrl, hC, show len + (cap - len) = cap by omega]
   have := qb0 sz (Nat.succ_le_of_lt hi)
   rw [Nat.succ_mul] at this
   omega
  have hcell : ∀ i j, i < cap → j < sz → ∀ s, load1 (snapM2 w) ⟨b', off + HI + (i * sz + j), s⟩ = (f (X i))[j]? := fun i j hi hj s => by
   obtain ⟨c, hc1, hc2⟩ := (hX i hi).2 j hj
   have hjl : j < (f (X i)).length := by rw [hlen]; exact hj
   rw [qae hjl] at hc2 ⊢
   have := ZX hc1 (hfz i j hi hj) hc2 s
   rw [← this]
   congr 2
   omega
  refine ⟨.slice (some ⟨b', off + HI, some 1⟩) len cap, (List.range len).map X, ?_, ⟨by simp [qL], fun i r hr => ?_, ?_, fun B hB => by cases hB; exact hbl hφ⟩, fun x hx => ?_, by have h2 : maxLen = 9223372036854775807 := rfl; rw [List.length_map, List.length_range]; omega, ?_⟩
  ·have hne : ¬ (len = 0 ∧ cap = 0) := fun h => h0 h.2
   have hcc : abC w b (.slice (some ⟨b', off, none⟩) len cap) = match w.heap[b']? with
     | some (.cells cs _ _) => if len ≤ cap ∧ off ≤ cs.size then some (.slice (some ⟨b', off + HI, some 1⟩) len cap) else none
     | _ => none := by
    cases cap with
    | zero => exact absurd rfl h0
    | succ c => cases len <;> rfl
   rw [hcc, hh']
   simp only
   rw [if_pos ⟨hlc, hoff'⟩]
  ·rw [qaw] at hr
   have hi : i < len := by
    rcases Nat.lt_or_ge i len with h | h
    ·exact h
    ·rw [qb3 (l := List.range len) (by simpa using h)] at hr; cases hr
   rw [List.getElem?_range hi] at hr
   cases hr
   refine ⟨?_, hbl hφ, ?_⟩
   ·show (bif Nat.blt i len then dy (i * sz) _ else none) = _
    rw [show Nat.blt i len = true from qam hi]; rfl
   ·show loads (snapM2 w) ⟨b', off + HI + i * sz, none⟩ sz = _
    have := KT (m := snapM2 w) (B := b') (s := none) (f (X i)) (off + HI + i * sz) (fun h => by have := hlen (X i); rw [h] at this; simp at this; omega) (fun j hj => by
     rw [hlen (X i)] at hj
     have := hcell i j (by omega) hj none
     rw [← this, Nat.add_assoc])
    rw [hlen (X i)] at this
    exact this
  ·show loads (snapM2 w) ⟨b', off + HI, some 1⟩ (((List.range len).map X).length * sz) = _
   have hfl := qX (f := f) (fun x => hlen x) ((List.range len).map X)
   by_cases h0 : len = 0
   ·subst h0
    obtain ⟨c, hc⟩ : ∃ c, (snapM2 w).obj b' = some (.cells c) := ⟨_, by rw [(snap_facts2 w).2.2.2, hh']; rfl⟩
    rw [List.range_zero, List.map_nil, List.length_nil, Nat.zero_mul]
    unfold loads cellsOf
    simp only [hc]
    rfl
   ·have := KT (m := snapM2 w) (B := b') (s := some 1) (((List.range len).map X).flatMap f) (off + HI) (fun h => by
     have h1 := hfl
     rw [h, List.length_map, List.length_range, List.length_nil] at h1
     have := Nat.mul_pos (show 0 < len by omega) hpos
     omega) (fun q hq => by
     rw [hfl] at hq
     rw [List.length_map, List.length_range] at hq
     have hdiv : q / sz < len := by rw [Nat.div_lt_iff_lt_mul hpos]; exact hq
     have hmod := Nat.mod_lt q hpos
     have hdm := Nat.div_add_mod q sz
     have h1 := hcell (q / sz) (q % sz) (by omega) hmod (some 1)
     rw [show q / sz * sz + q % sz = q by rw [Nat.mul_comm]; exact hdm] at h1
     rw [h1]
     have h2 := zY (f := f) (fun x => hlen x) ((List.range len).map X) (q / sz) (X (q / sz)) (by rw [qaw, List.getElem?_range hdiv]; rfl)
     rw [← h2, List.getElem?_take, if_pos hmod, List.getElem?_drop]
     congr 1
     rw [Nat.mul_comm]; exact hdm)
    rw [hfl] at this
    exact this
  ·obtain ⟨i, hi, rfl⟩ := List.mem_map.1 hx
   exact (hX i (by have := List.mem_range.1 hi; omega)).1
  ·by_cases h0 : len = 0
   ·subst h0; exact .inl rfl
   ·exact .inr ⟨_, _, rfl, by simp [hel]⟩
theorem vI {α : Type} [Inhabited α] {t e : TypeId} {sz : Nat} {f : α → List Value} {good : α → Prop} {held : Bool} (ht : P.underlying t = some (.slice e)) (hC : P.cellsOf e = sz) (hpos : 0 < sz)
  (hrow : ∀ b l n cs y, kQ w b = some l → DataW.trod enc P w 0 (fun _ => true) held n e cs = some y → (∀ c off, MemPlace.cell c off ∈ y.2 → w.frozen? ⟨c, off, none⟩ = false) → (∀ n ∈ y.1.weights P e, n ≤ reachBytes) → ∃ x : α, cs.map (abC w b) = (f x).map some ∧ good x)
  (hlen : ∀ x, (f x).length = sz) {v : Value} {y : DataW H × List MemPlace} {fuel : Nat} (hf : DataW.trod enc P w 0 (fun _ => true) held fuel t [v] = some y) {b : Nat} {l : Loc} (hb : kQ w b = some l)
  (hz : ∀ c off, MemPlace.cell c off ∈ y.2 → w.frozen? ⟨c, off, none⟩ = false) (hw : ∀ n ∈ y.1.weights P t, n ≤ reachBytes) :
  ∃ av es, abC w b v = some av ∧ Rd (snapM2 w) av sz f es ∧ (∀ x ∈ es, good x) ∧ es.length ≤ 9223372036854775807 ∧ es.length * P.bytesOf e ≤ reachBytes := by
 obtain ⟨av, es, h1, h2, h3, h4, h5⟩ := Ze ht hC hpos hrow hlen hf hb hz hw
 refine ⟨av, es, h1, h2, h3, h4, ?_⟩
 rcases h5 with rfl | ⟨el, sp, e1, e2⟩
 ·simp
 ·rw [e1] at hw
  have := hw ((el.length + sp.length) * P.bytesOf e) (by simp [DataW.weights, ht])
  rw [Nat.add_mul] at this
  rw [← e2]; omega
end
end
end Go.Dx
namespace Go.Sx
open Go.RowKit Go.WideShapes Go.ChangeShapes Go.Dx
structure PZ (P : Program) (tt ta tn : TypeId) : Prop where
 t : P.bytesOf tt = 32
 a : P.bytesOf ta = 136
 n : P.bytesOf tn = 32
theorem yz {n b : Nat} (h : n * b ≤ reachBytes) : n * b ≤ qW := by
 have h2 : reachBytes ≤ qW := by decide
 omega
section
variable {H : Type} {enc : TypeId × Value → H} {P : Program} {w : World} {tp ts tt tas ta tns tn ti tu : TypeId}
theorem zn {fs : Array Field} {l : List (TypeId × Nat)} {t t' : TypeId} {xs : List (DataW H × List MemPlace)} {i o : Nat} {z : DataW H × List MemPlace} (hs : P.underlying t = some (.struct fs)) (hl : fs.toList.map (fun f => (f.type, f.offset)) = l) (hi : l[i]? = some (t', o)) (hz : xs[i]? = some z)
  (hw : ∀ n ∈ (DataW.agg (xs.map (·.1))).weights P t, n ≤ reachBytes) : ∀ n ∈ z.1.weights P t', n ≤ reachBytes := fun n hn => by
 refine hw n ?_
 simp only [DataW.weights, hs]
 obtain ⟨f, q1, q2, q3⟩ := bN hl hi
 refine DataW.weights_mem_each (j := i) (t := t') (d := z.1) ?_ (by rw [qaw, hz]; rfl) n hn
 rw [qaw]
 have : fs.toList[i]? = some f := by simpa using q1
 rw [this, ← q2]; rfl
set_option maxRecDepth 100000 in
theorem Dv (Z : PZ P tt ta tn) (T : PT P tp ts tt tas ta tns tn ti tu) (b : Nat) (l : Dx.Loc) (n : Nat) (cs : List Value) (y : DataW H × List MemPlace) (hb : kQ w b = some l) (h : DataW.trod enc P w 0 (fun _ => true) true n ta cs = some y)
  (hz : ∀ c off, MemPlace.cell c off ∈ y.2 → w.frozen? ⟨c, off, none⟩ = false) (hw : ∀ n ∈ y.1.weights P ta, n ≤ reachBytes) : ∃ x : Ac, cs.map (abC w b) = (qe x).map some ∧ AcOK (snapM2 w) x ∧ Yh x := by
 obtain ⟨fs, h1, h2⟩ := T.a
 obtain ⟨hl, xs, k, hy, hx, hf⟩ := ya h1 h2 h
 rw [T.ac] at hl
 subst hy
 have sl : ∀ {i : Nat} {z : DataW H × List MemPlace} {v : Value}, xs[i]? = some z → (∀ n ∈ z.1.weights P tns, n ≤ reachBytes) → DataW.trod enc P w 0 (fun _ => true) true k tns [v] = some z → ∃ av es, abC w b v = some av ∧ Rd (snapM2 w) av 4 qg es ∧ es.length ≤ 9223372036854775807 ∧ es.length * 32 ≤ qW := fun {i z v} hi hwz hh => by
  obtain ⟨av, es, q1, q2, _, q3, q4⟩ := vI (α := Nd) (good := fun _ => True) (f := qg) T.ns T.nc (by omega) (fun b l n cs y h1 h2 h3 _ => DN T b l n cs y h1 h2 h3) (fun _ => rfl) hh hb
   (fun c off hc => hz c off (List.mem_flatMap.2 ⟨z, qaf hi, hc⟩)) hwz
  rw [Z.n] at q4
  exact ⟨av, es, q1, q2, q3, yz q4⟩
 match cs, xs, hl, hx with
 | [c0, c1, c2, c3, c4, c5, c6, c7, c8, c9, c10], [y0, y1, y2, y3, y4, y5, y6, y7, y8, y9, y10], _, _ =>
  have g0 := hf 0 ti 0 rfl
  have g1 := hf 1 ti 1 rfl
  have g2 := hf 2 ti 2 rfl
  have g3 := hf 3 ti 3 rfl
  have g4 := hf 4 tns 4 rfl
  have g5 := hf 5 tns 5 rfl
  have g6 := hf 6 tns 6 rfl
  have g7 := hf 7 ti 7 rfl
  have g8 := hf 8 ti 8 rfl
  have g9 := hf 9 ti 9 rfl
  have g10 := hf 10 ti 10 rfl
  rw [T.ic] at g0 g1 g2 g3 g7 g8 g9 g10
  rw [T.nsc] at g4 g5 g6
  obtain ⟨a0, e0, _⟩ := DataW.trod_int T.i g0
  obtain ⟨a1, e1, _⟩ := DataW.trod_int T.i g1
  obtain ⟨a2, e2, _⟩ := DataW.trod_int T.i g2
  obtain ⟨a3, e3, _⟩ := DataW.trod_int T.i g3
  obtain ⟨a7, e7, _⟩ := DataW.trod_int T.i g7
  obtain ⟨a8, e8, _⟩ := DataW.trod_int T.i g8
  obtain ⟨a9, e9, _⟩ := DataW.trod_int T.i g9
  obtain ⟨a10, e10, _⟩ := DataW.trod_int T.i g10
  obtain ⟨v4, l4, p4, q4, r4, z4⟩ := sl (i := 4) rfl (zn h1 h2 (i := 4) (o := 4) rfl rfl hw) g4
  obtain ⟨v5, l5, p5, q5, r5, z5⟩ := sl (i := 5) rfl (zn h1 h2 (i := 5) (o := 5) rfl rfl hw) g5
  obtain ⟨v6, l6, p6, q6, r6, z6⟩ := sl (i := 6) rfl (zn h1 h2 (i := 6) (o := 6) rfl rfl hw) g6
  simp at e0 e1 e2 e3 e7 e8 e9 e10
  refine ⟨⟨a0, a1, a2, a3, v4, v5, v6, a7, a8, a9, a10, l4, l5, l6⟩, ?_, ⟨q4, q5, q6, r4, r5, r6⟩, ⟨z4, z5, z6⟩⟩
  rw [e0, e1, e2, e3, e7, e8, e9, e10]
  simp only [List.map_cons, List.map_nil, p4, p5, p6]
  rfl
theorem ZE (Z : PZ P tt ta tn) (T : PT P tp ts tt tas ta tns tn ti tu) (b : Nat) (l : Dx.Loc) (n : Nat) (cs : List Value) (y : DataW H × List MemPlace) (hb : kQ w b = some l) (h : DataW.trod enc P w 0 (fun _ => true) true n tt cs = some y)
  (hz : ∀ c off, MemPlace.cell c off ∈ y.2 → w.frozen? ⟨c, off, none⟩ = false) (hw : ∀ n ∈ y.1.weights P tt, n ≤ reachBytes) : ∃ x : Th, cs.map (abC w b) = (qE x).map some ∧ ThOK (snapM2 w) x ∧ (x.acts.length * 136 ≤ qW ∧ ∀ a ∈ x.acts, Yh a) := by
 obtain ⟨fs, h1, h2⟩ := T.t
 obtain ⟨hl, xs, k, hy, hx, hf⟩ := ya h1 h2 h
 rw [T.tc] at hl
 subst hy
 match cs, xs, hl, hx with
 | [c0, c1], [y0, y1], _, _ =>
  have g0 := hf 0 ti 0 rfl
  have g1 := hf 1 tas 1 rfl
  rw [T.ic] at g0
  rw [T.lc] at g1
  obtain ⟨a0, e0, _⟩ := DataW.trod_int T.i g0
  obtain ⟨av, es, q1, q2, q4, q3, q5⟩ := vI (α := Ac) (good := fun a => AcOK (snapM2 w) a ∧ Yh a) (f := qe) T.l T.ac (by omega) (fun b l n cs y => Dv Z T b l n cs y) (fun _ => rfl) (v := c1) g1 hb
   (fun c off hc => hz c off (List.mem_flatMap.2 ⟨y1, by simp, hc⟩)) (zn h1 h2 (i := 1) (o := 1) rfl rfl hw)
  rw [Z.a] at q5
  simp at e0
  refine ⟨⟨a0, av, es⟩, ?_, ⟨q2, fun a ha => (q4 a ha).1, q3⟩, yz q5, fun a ha => (q4 a ha).2⟩
  rw [e0]
  simp only [List.map_cons, List.map_nil, q1]
  rfl
theorem prog_argW (Z : PZ P tt ta tn) (T : PT P tp ts tt tas ta tns tn ti tu) {b0 : Nat} {v : Value} {d : DataW H} {pl : List MemPlace} (hv : Value.okWide P w .any b0 tp v) (htypes : P.cellTypes P.depth tp = some [ti, ts]) (h : DataW.Trod enc P w 0 (fun _ => true) true tp v d pl) (hz : w.noneFrozen pl) (hw : ∀ n ∈ d.weights P tp, n ≤ reachBytes) :
  ∃ p : Pg, VRel (kQ w) (pgV p) v ∧ PgOK (snapM2 w) p ∧ PgSz p := by
 obtain ⟨fs, h1, h2⟩ := T.p
 obtain ⟨cs, rfl, hsz⟩ := okWide_struct h1 hv
 obtain ⟨fuel, hf0⟩ := h
 obtain ⟨hl, xs, k, hy, hx, hf⟩ := ya h1 h2 (show DataW.trod enc P w 0 (fun _ => true) true fuel tp cs.toList = some (d, pl) from hf0)
 rw [T.pc] at hsz
 obtain ⟨c0, c1, rfl⟩ := Joins.array2 hsz
 injection hy with hy1 hy2
 subst hy2
 subst hy1
 match xs, hx with
 | [y0, y1], _ =>
  have g0 := hf 0 ti 0 rfl
  have g1 := hf 1 ts 1 rfl
  rw [T.ic] at g0
  rw [T.sc] at g1
  obtain ⟨a0, e0, _⟩ := DataW.trod_int T.i g0
  have g1' : DataW.trod enc P w 0 (fun _ => true) true k ts [c1] = some y1 := g1
  have hrow : Row.okWide P w .any b0 tp #[c0, c1] := by
   obtain ⟨cs, e, _, hr⟩ : ∃ cs, Value.agg #[c0, c1] = .agg cs ∧ cs.size = P.cellsOf tp ∧ Row.okWide P w .any b0 tp cs := by
    have := hv
    simp only [Value.okWide, h1] at this
    exact this
   cases e; exact hr
  obtain ⟨tys, hts, _, hcell⟩ := hrow
  rw [htypes] at hts
  cases hts
  obtain ⟨u1, hu1, k1⟩ := hcell 1 c1 rfl
  cases hu1
  simp at e0
  subst e0
  by_cases hnil : c1 = .slice none 0 0
  ·subst hnil
   refine ⟨⟨a0, .slice none 0 0, []⟩, .agg _ _ (.cons _ _ _ _ (.int _ _) (.cons _ _ _ _ .slN .nil)), ⟨⟨rfl, fun i r hr => by simp at hr, rfl, fun B hB => by cases hB⟩, by simp, by simp⟩, ⟨by simp, by simp⟩⟩
  ·obtain ⟨a, len, cap, rfl⟩ : ∃ a len cap, c1 = .slice (some a) len cap := by
    rcases DataW.trod_slice T.s g1' with ⟨hv, _⟩ | ⟨a, len, cap, _, _, _, _, hv, _⟩
    ·exact absurd (List.cons.inj hv).1 hnil
    ·exact ⟨a, len, cap, (List.cons.inj hv).1⟩
   obtain ⟨hs, cs', e', fz', hh⟩ := JY T.s k1
   have hb : kQ w a.block = some ⟨a.block, HI, cs'.size⟩ := by unfold kQ; rw [hh]
   obtain ⟨av, es, q1, q2, q4, q3, q5⟩ := vI (α := Th) (good := fun x => ThOK (snapM2 w) x ∧ (x.acts.length * 136 ≤ qW ∧ ∀ a ∈ x.acts, Yh a)) (f := qE) T.s T.tc (by omega) (fun b l n cs y => ZE Z T b l n cs y) (fun _ => rfl) g1' hb
    (fun c off hc => hz c off (List.mem_flatMap.2 ⟨y1, by simp, hc⟩)) (zn h1 h2 (i := 1) (o := 1) rfl rfl hw)
   rw [Z.t] at q5
   exact ⟨⟨a0, av, es⟩, .agg _ _ (.cons _ _ _ _ (.int _ _) (.cons _ _ _ _ (Xd hb q1) .nil)), ⟨q2, fun x hx => (q4 x hx).1, q3⟩, ⟨yz q5, fun x hx => (q4 x hx).2⟩⟩
end
end Go.Sx
