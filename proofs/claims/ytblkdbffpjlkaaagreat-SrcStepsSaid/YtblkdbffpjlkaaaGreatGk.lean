/- Contracts. -/
import Derived.Test.YtblkdbffpjlkaaaGreatGj
import Derived.Test.YtblkdbffpjlkaaaGreatGe
import Derived.Test.YtblkdbffpjlkaaaGreatGa
import Derived.Lib.SmallJoins
import Derived.Test.YtblkdbffpjlkaaaGreatPost
import Derived.WideKeyArgs
set_option linter.unusedVariables false
set_option linter.unusedSimpArgs false
set_option linter.defProp false
/- Slices of slices; appending to an empty slice. -/
namespace Go.Dx
theorem ldn_split {c : C} : ∀ {a b o : Nat} {l : List Value}, ldn c o (a + b) = some l → ldn c o a = some (l.take a) ∧ ldn c (o + a) b = some (l.drop a)
  | 0, b, o, l, h => by rw [Nat.zero_add] at h; exact ⟨rfl, h⟩
  | a + 1, b, o, l, h => by
    rw [show a + 1 + b = a + b + 1 by omega, ldn_succ] at h
    obtain ⟨v, hv, h⟩ := ob_some h
    obtain ⟨t, ht, h⟩ := ob_some h
    have hl : l = v :: t := by unfold consO at h; cases h; rfl
    subst hl
    obtain ⟨h1, h2⟩ := ldn_split ht
    refine ⟨?_, ?_⟩
    · rw [ldn_succ, hv]; show ob (ldn c (o + 1) a) _ = _; rw [h1]; rfl
    · rw [show o + (a + 1) = o + 1 + a by omega, h2]; rfl
theorem loads_split {m : M} {B o a b : Nat} {s : Option Nat} {l : List Value} (h : loads m ⟨B, o, s⟩ (a + b) = some l) : loads m ⟨B, o, s⟩ a = some (l.take a) ∧ loads m ⟨B, o + a, s⟩ b = some (l.drop a) := by
  unfold loads at h ⊢
  obtain ⟨c, hc, h⟩ := ob_some h
  simp only at hc
  rw [hc]
  exact ldn_split h
section
variable {α : Type} {m : M} {v : Value} {e : Nat} {f : α → List Value} {l : List α}
theorem Rd.drop (h : Rd m v e f l) (hs : Sp e v) (hf : ∀ x, (f x).length = e) {k : Nat} (hk : k ≤ l.length) : ∃ a n c, slV e (some (.int .i64 (k : Int))) none none v = some (.slice a n c) ∧ Rd m (.slice a n c) e f (l.drop k) := by
  rcases hs with rfl | ⟨B, o, n, c, x, rfl, hnc⟩
  · have hl : l.length = 0 := by have := h.len; simp [lenS] at this; omega
    have hk0 : k = 0 := by omega
    have hl' : l = [] := List.eq_nil_of_length_eq_zero hl
    subst hk0; subst hl'
    exact ⟨none, 0, 0, rfl, h⟩
  · have hn : n = l.length := by have := h.len; simp [lenS] at this; omega
    have hdl : (l.drop k).length = n - k := by rw [List.length_drop, hn]
    have hfl := flatMap_len hf l
    have hall : loads m ⟨B, o, some (code e x)⟩ (l.length * e) = some (l.flatMap f) := h.all
    have hsplit : l.length * e = k * e + (l.drop k).length * e := by rw [hdl, hn, ← Nat.add_mul]; congr 1; omega
    have hdrop : (l.flatMap f).drop (k * e) = (l.drop k).flatMap f := by
      have hl2 : l = l.take k ++ l.drop k := (List.take_append_drop k l).symm
      have hlt := flatMap_len hf (l.take k)
      rw [List.length_take, Nat.min_eq_left hk] at hlt
      conv => lhs; rw [hl2, List.flatMap_append]
      rw [List.drop_append_of_le_length (by omega), ← hlt, List.drop_length, List.nil_append]
    rw [hsplit] at hall
    obtain ⟨h1, h2⟩ := loads_split hall
    rw [hdrop] at h2
    have hb : boundsV n c (some (.int .i64 (k : Int))) none none = some (k, n, c) := by
      show ob (boundV (some (.int .i64 (k : Int))) 0 n) _ = _
      show ob (bif Nat.ble k n then some k else none) _ = _
      rw [Nat.ble_eq_true_of_le (by omega)]; rfl
    have hcd : Nat.beq (code e x / 2) e = true := by
      have : code e x / 2 = e := by
        cases x
        · show (2 * e) / 2 = e; omega
        · show (2 * e + 1) / 2 = e; omega
      rw [this, Nat.beq_refl]
    have hex : isEx (code e x) = x := by
      cases x
      · show Nat.beq ((2 * e) % 2) 1 = false
        rw [show (2 * e) % 2 = 0 by omega]; rfl
      · show Nat.beq ((2 * e + 1) % 2) 1 = true
        rw [show (2 * e + 1) % 2 = 1 by omega]; rfl
    have hsl : slV e (some (.int .i64 (k : Int))) none none (.slice (some ⟨B, o, some (code e x)⟩) n c) = some (.slice (some ⟨B, bif x && Nat.beq c k then o else o + k * e, some (code e x)⟩) (n - k) (c - k)) := by
      unfold slV
      simp only [ob_some', hb, hcd, hex, Option.isSome_none, Bool.or_false]
      rfl
    refine ⟨_, _, _, hsl, ⟨by rw [hdl]; rfl, fun i r hr => ?_, ?_, fun C hC => by cases hC; exact h.lt _ rfl⟩⟩
    · have hi : i < (l.drop k).length := (List.getElem?_eq_some_iff.1 hr).1
      rw [List.getElem?_drop] at hr
      have hck : (x && Nat.beq c k) = false := by
        cases q : Nat.beq c k with
        | false => simp
        | true => have := Nat.eq_of_beq_eq_true q; omega
      rw [hck]
      obtain ⟨g1, g2, g3⟩ := h.row (k + i) r hr
      refine ⟨?_, g2, ?_⟩
      · show (bif Nat.blt i (n - k) then addA (i * e) _ else none) = _
        rw [show Nat.blt i (n - k) = true from Nat.ble_eq_true_of_le (by omega)]; rfl
      · have e1 : adr e (.slice (some ⟨B, o, some (code e x)⟩) n c) (k + i) = ⟨B, o + (k + i) * e, none⟩ := rfl
        have e2 : adr e (.slice (some ⟨B, bif false then o else o + k * e, some (code e x)⟩) (n - k) (c - k)) i = ⟨B, o + k * e + i * e, none⟩ := rfl
        rw [e1] at g3
        rw [e2, ← g3, Nat.add_mul, Nat.add_assoc]
    · show loads m ⟨B, bif x && Nat.beq c k then o else o + k * e, some (code e x)⟩ ((l.drop k).length * e) = _
      cases q : (x && Nat.beq c k) with
      | false => exact h2
      | true =>
        rw [Bool.and_eq_true] at q
        have := Nat.eq_of_beq_eq_true q.2
        have h0 : l.drop k = [] := List.drop_eq_nil_of_le (by omega)
        rw [h0] at h2 ⊢
        unfold loads at h1 ⊢
        obtain ⟨cc, hcc, _⟩ := ob_some h1
        simp only at hcc
        show ob (cellsOf m B) _ = _
        rw [hcc]
        show ldn cc _ (0 * e) = _
        rw [Nat.zero_mul]; rfl
theorem Rd.take (h : Rd m v e f l) (hs : Sp e v) (hf : ∀ x, (f x).length = e) {k : Nat} (hk : k ≤ l.length) : ∃ a n c, slV e none (some (.int .i64 (k : Int))) none v = some (.slice a n c) ∧ Rd m (.slice a n c) e f (l.take k) := by
  rcases hs with rfl | ⟨B, o, n, c, x, rfl, hnc⟩
  · have hl : l.length = 0 := by have := h.len; simp [lenS] at this; omega
    have hk0 : k = 0 := by omega
    have hl' : l = [] := List.eq_nil_of_length_eq_zero hl
    subst hk0; subst hl'
    exact ⟨none, 0, 0, rfl, h⟩
  · have hn : n = l.length := by have := h.len; simp [lenS] at this; omega
    have htl : (l.take k).length = k := by rw [List.length_take, Nat.min_eq_left hk]
    have hall : loads m ⟨B, o, some (code e x)⟩ (l.length * e) = some (l.flatMap f) := h.all
    have hsplit : l.length * e = k * e + (l.length - k) * e := by rw [← Nat.add_mul]; congr 1; omega
    have htake : (l.flatMap f).take (k * e) = (l.take k).flatMap f := by
      have hl2 : l = l.take k ++ l.drop k := (List.take_append_drop k l).symm
      have hlt := flatMap_len hf (l.take k)
      rw [htl] at hlt
      conv => lhs; rw [hl2, List.flatMap_append]
      rw [List.take_append_of_le_length (by omega), ← hlt, List.take_length]
    rw [hsplit] at hall
    obtain ⟨h1, h2⟩ := loads_split hall
    rw [htake] at h1
    have hcd : Nat.beq (code e x / 2) e = true := by
      have : code e x / 2 = e := by
        cases x
        · show (2 * e) / 2 = e; omega
        · show (2 * e + 1) / 2 = e; omega
      rw [this, Nat.beq_refl]
    have hex : isEx (code e x) = x := by
      cases x
      · show Nat.beq ((2 * e) % 2) 1 = false
        rw [show (2 * e) % 2 = 0 by omega]; rfl
      · show Nat.beq ((2 * e + 1) % 2) 1 = true
        rw [show (2 * e + 1) % 2 = 1 by omega]; rfl
    have hb : boundsV n c none (some (.int .i64 (k : Int))) none = some (0, k, c) := by
      show ob (boundV (some (.int .i64 (k : Int))) n c) _ = _
      show ob (bif Nat.ble k c then some k else none) _ = _
      rw [Nat.ble_eq_true_of_le (by omega)]; rfl
    have hoff : (bif x && Nat.beq c 0 then o else o + 0 * e) = o := by cases (x && Nat.beq c 0) <;> simp
    have hsl : slV e none (some (.int .i64 (k : Int))) none (.slice (some ⟨B, o, some (code e x)⟩) n c) = some (.slice (some ⟨B, o, some (code e x)⟩) k c) := by
      unfold slV
      simp only [ob_some', hb, hcd, hex, Option.isSome_none, Bool.or_false]
      show some (Value.slice (some ⟨B, bif x && Nat.beq c 0 then o else o + 0 * e, some (code e x)⟩) (k - 0) (c - 0)) = _
      rw [hoff]; rfl
    refine ⟨_, _, _, hsl, ⟨by rw [htl]; rfl, fun i r hr => ?_, ?_, fun C hC => by cases hC; exact h.lt _ rfl⟩⟩
    · have hi : i < (l.take k).length := (List.getElem?_eq_some_iff.1 hr).1
      rw [htl] at hi
      rw [List.getElem?_take, if_pos hi] at hr
      obtain ⟨g1, g2, g3⟩ := h.row i r hr
      refine ⟨?_, g2, g3⟩
      show (bif Nat.blt i k then addA (i * e) _ else none) = _
      rw [show Nat.blt i k = true from Nat.ble_eq_true_of_le hi]; rfl
    · show loads m ⟨B, o, some (code e x)⟩ ((l.take k).length * e) = _
      rw [htl]; exact h1
end
end Go.Dx
namespace Go.Dx
end Go.Dx
namespace Go.Sx
open Go.Dx Go.Proofs
abbrev u7 : U := ⟨7, by omega⟩
abbrev u8 : U := ⟨8, by omega⟩
end Go.Sx
/- The law's spoiling of what was told. -/
namespace Go.Dx
theorem St.storeN {m0 m : M} {σ : List (Nat × List Value)} {B o : Nat} {l l' : List Value} (h : St m0 m σ) (k : Nat) (hk : σ[k]? = some (B, l)) {n : Nat} (hl' : l'.length = n) (hn : o + n ≤ l.length) (hv : ∀ v ∈ l', okC v = true) :
    ∃ m', storeS n (.pointer (some ⟨B, o, none⟩)) (.agg ⟨l'⟩) m = some (undef, m') ∧ St m0 m' (σ.set k (B, over l o l')) ∧ m'.n = m.n ∧ ∀ X, X ≠ B → m'.obj X = m.obj X := by
  obtain ⟨h1, h2, h3⟩ := h.get k hk
  have e := storeS_arr (n := n) (o := o) (v := .agg ⟨l'⟩) (l := l') h3 rfl hl' hn hv
  obtain ⟨_, s2, s3, s4, s5, s6⟩ := stores_putN (o := o) (l := l') h3 (by omega) hv
  exact ⟨_, e, h.put' k hk s3 s4 (s6 (by have := h.ext.base; have := h.base; omega)) s5 s2, s3, s5⟩
end Go.Dx
namespace Go.Sx
open Go.Dx Go.Proofs
set_option maxRecDepth 10000
structure LT (t : Tm) (V : Nat → Value) : Prop where
  t1 : Tm.get 1 t = V 1
  t2 : Tm.get 2 t = V 2
  t3 : Tm.get 3 t = V 3
  t4 : Tm.get 4 t = V 4
  t9 : Tm.get 9 t = V 9
  t10 : Tm.get 10 t = V 10
  t11 : Tm.get 11 t = V 11
  t12 : Tm.get 12 t = V 12
  t13 : Tm.get 13 t = V 13
  t14 : Tm.get 14 t = V 14
end Go.Sx
/- The law SrcReplays. -/
namespace Go.Sx
open Go.Dx Go.Proofs
set_option maxRecDepth 10000
theorem all_same {α : Type} {f : α → Bool} {p q : List α} (hl : p.length = q.length) (h : ∀ (j : Nat) x, q[j]? = some x → ∃ y, p[j]? = some y ∧ f y = f x) : p.all f = q.all f := by
  have hm : p.map f = q.map f := by
    refine List.ext_getElem? fun j => ?_
    rw [List.getElem?_map, List.getElem?_map]
    cases hq : q[j]? with
    | none => rw [List.getElem?_eq_none (by have := List.getElem?_eq_none_iff.1 hq; omega)]
    | some x => obtain ⟨y, h1, h2⟩ := h j x hq; rw [h1, Option.map_some, Option.map_some, h2]
  have e : ∀ l : List α, l.all f = (l.map f).all id := fun l => by simp [List.all_map]
  rw [e, e, hm]
theorem act_same {cells : Int} {k na : Nat} {a b : Ac} (h : AcEq a b) : actB cells k na a = actB cells k na b := by obtain ⟨x, y, z, rfl⟩ := h; rfl
theorem th_same {cells : Int} {t u : Th} (h : ThEq t u) : thB cells t = thB cells u := by
  unfold thB
  rw [h.loc, h.len]
  congr 2
  exact all_same h.len fun j x hx => let ⟨y, h1, h2⟩ := h.acts j x hx; ⟨y, h1, act_same h2⟩
theorem pg_same {p q : Pg} (h : PgEq p q) : pgB p = pgB q := by
  unfold pgB
  rw [h.cells, h.len]
  congr 2
  exact all_same h.len fun j x hx => let ⟨y, h1, h2⟩ := h.ths j x hx; ⟨y, h1, th_same h2⟩
def zRun : Int × Int × Rn := (0, 0, ⟨[], [], [], 0⟩)
open Classical in
noncomputable def resOf (p : Pg) (th : Int) (reads : List U) (fuel : Int) : Int × Int × Rn := if repOK p th fuel then (match p.ths[th.toNat]? with | some t => runOf p th reads t fuel.toNat | none => zRun) else zRun
structure RunG (m0 m' : M) (r : Rn) (g : Gs) : Prop where
  ge : Grown m0 m' g.1 5 ev5Row r.evs
  go : Grown m0 m' g.2.1 1 wordRow r.outs
  gr : Grown m0 m' g.2.2 2 pairRow r.rmw
  eo : ∀ B, blk g.1 = some B → blk g.2.1 ≠ some B ∧ blk g.2.2 ≠ some B
  or_ : ∀ B, blk g.2.1 = some B → blk g.2.2 ≠ some B
theorem RunG.keep {m0 m m' : M} {r : Rn} {g : Gs} (h : RunG m0 m r g) (hn : m.n ≤ m'.n) (k : ∀ B, B < m.n → (blk g.1 = some B ∨ blk g.2.1 = some B ∨ blk g.2.2 = some B) → m'.obj B = m.obj B) : RunG m0 m' r g :=
  ⟨h.ge.keep hn fun B hB hb => k B hB (.inl hb), h.go.keep hn fun B hB hb => k B hB (.inr (.inl hb)), h.gr.keep hn fun B hB hb => k B hB (.inr (.inr hb)), h.eo, h.or_⟩
theorem RunG.lt {m0 m : M} {r : Rn} {g : Gs} (h : RunG m0 m r g) : ∀ B, (blk g.1 = some B ∨ blk g.2.1 = some B ∨ blk g.2.2 = some B) → m0.n ≤ B ∧ B < m.n := fun B hB => by
  rcases hB with hB | hB | hB
  · exact grown_low h.ge B hB
  · exact grown_low h.go B hB
  · exact grown_low h.gr B hB
end Go.Sx
/- A world, as the abstract memory of what is handed in: with slices in rows. -/
namespace Go.Dx
open Go.RowKit Go.WideShapes Go.ChangeShapes
noncomputable section
attribute [local irreducible] A.get A.set HI
/-- a cell of the block b, as the abstract memory has it -/
def abC (w : World) (b : Nat) : Value → Option Value
  | .int k n => some (.int k n)
  | .slice none 0 0 => some (.slice none 0 0)
  | .slice (some _) 0 0 => some (.slice (some ⟨b, 0, some 1⟩) 0 0)
  | .slice (some ⟨B, o, none⟩) len cap => match w.heap[B]? with
    | some (.cells cs _ _) => if len ≤ cap ∧ o ≤ cs.size then some (.slice (some ⟨B, o + HI, some 1⟩) len cap) else none
    | _ => none
  | _ => none
theorem abC_rel {w : World} {b : Nat} {l : Loc} (hb : snapP w b = some l) {v u : Value} (h : abC w b v = some u) : VRel (snapP w) u v := by
  unfold abC at h
  split at h
  · cases h; exact .int _ _
  · cases h; exact .slN
  · cases h; exact .slE _ _ _ _ l hb
  · rename_i B o len cap _
    split at h
    · rename_i cs e fz hx
      split at h
      · rename_i hc
        cases h
        have hφ : snapP w B = some ⟨B, HI, cs.size⟩ := by unfold snapP; rw [hx]
        exact .sl B o 1 len cap cap ⟨B, HI, cs.size⟩ hφ hc.1 (Nat.le_refl _) (fun _ => rfl) (by show o + cap * 0 ≤ cs.size; rw [Nat.mul_zero]; exact hc.2)
      · cases h
    · cases h
  · cases h
def snapC2 (w : World) (b : Nat) (fz : Nat × Nat) : Nat → List Value → C → C
  | _, [], c => c
  | j, v :: l, c => snapC2 w b fz (j + 1) l (match abC w b v with
    | some u => if fz.1 ≤ j ∧ j < fz.2 then c else A.set none (some u) (j + HI) c
    | none => c)
def snapO2 (w : World) (b : Nat) : Obj → DObj
  | .cells cs _ fz => .cells (snapC2 w b fz 0 cs.toList .lf)
  | _ => .cells .lf
def snap02 (w : World) : M := allocs (w.heap.toList.mapIdx (snapO2 w)) M.empty
def snapM2 (w : World) : M := forAny (snap02 w)
theorem snapC2_get (w : World) (b : Nat) (fz : Nat × Nat) : ∀ (l : List Value) (j : Nat) (c : C) (i : Nat), A.get none i (snapC2 w b fz j l c) = if j + HI ≤ i ∧ i < j + HI + l.length then
    (match (l[i - HI - j]?).bind (abC w b) with
      | some u => if fz.1 ≤ i - HI ∧ i - HI < fz.2 then A.get none i c else some u
      | none => A.get none i c) else A.get none i c
  | [], j, c, i => by
    show A.get none i c = _
    rw [if_neg (by simp)]
  | v :: l, j, c, i => by
    unfold snapC2
    rw [snapC2_get w b fz l (j + 1)]
    by_cases h1 : i = j + HI
    · subst h1
      rw [if_neg (by omega), if_pos (by simp), show j + HI - HI - j = 0 by omega, List.getElem?_cons_zero, show j + HI - HI = j by omega]
      show _ = match abC w b v with
        | some u => _
        | none => _
      cases hv : abC w b v with
      | some u =>
        simp only
        by_cases hz : fz.1 ≤ j ∧ j < fz.2
        · rw [if_pos hz, if_pos hz]
        · rw [if_neg hz, if_neg hz, A.get_set_same]
      | none => rfl
    · have hc : A.get none i (match abC w b v with
          | some u => if fz.1 ≤ j ∧ j < fz.2 then c else A.set none (some u) (j + HI) c
          | none => c) = A.get none i c := by
        cases hv : abC w b v with
        | some u =>
          simp only
          split
          · rfl
          · rw [A.get_set_ne _ _ h1]
        | none => rfl
      by_cases h2 : j + 1 + HI ≤ i ∧ i < j + 1 + HI + l.length
      · rw [if_pos h2, if_pos (by simp; omega), show i - HI - j = (i - HI - (j + 1)) + 1 by omega, List.getElem?_cons_succ, hc]
      · rw [if_neg h2, if_neg (by simp; omega), hc]
theorem snap_facts2 (w : World) : (snapM2 w).n = w.heap.size ∧ (snapM2 w).base = w.heap.size ∧ (snapM2 w).log = [] ∧ ∀ X, (snapM2 w).obj X = (w.heap[X]?).map (snapO2 w X) := by
  obtain ⟨h1, h2, h3, h4⟩ := allocs_facts (w.heap.toList.mapIdx (snapO2 w)) M.empty
  have hn : M.empty.n = 0 := rfl
  have hn' : (snap02 w).n = w.heap.size := by show (allocs _ _).n = _; rw [h1, hn]; simp
  refine ⟨by unfold snapM2; rw [forAny_n, hn'], by unfold snapM2; rw [forAny_base, hn'], forAny_log _, fun X => ?_⟩
  unfold snapM2
  rw [forAny_obj]
  show (allocs _ _).obj X = _
  rw [h4 X, hn]
  by_cases h : X < w.heap.size
  · rw [if_pos (by simp; omega)]; simp [h]
  · rw [if_neg (by simp; omega), Array.getElem?_eq_none (by omega)]
    exact A3.get_lf none X
theorem R.snap2 (w : World) : R (snapP w) (snapM2 w) w := by
  obtain ⟨h1, h2, h3, h4⟩ := snap_facts2 w
  refine ⟨fun B hB => by rw [h4, Array.getElem?_eq_none (by omega)]; rfl, fun B l hB hl => ?_, fun B₁ B₂ l₁ l₂ _ _ hl1 hl2 he hne => ?_⟩
  · have hl0 := hl
    unfold snapP at hl
    split at hl
    · rename_i cs e fz hx
      cases hl
      have hob : (snapM2 w).obj B = some (.cells (snapC2 w B fz 0 cs.toList .lf)) := by rw [h4, hx]; rfl
      refine ⟨.cells (snapC2 w B fz 0 cs.toList .lf), hob, cs, e, fz, hx, rfl, ⟨fun _ h => absurd h (Nat.lt_irrefl _), fun i v hi => ?_⟩, fun i v hi => ?_⟩
      · rw [snapC2_get] at hi
        split at hi
        · split at hi
          · split at hi
            · rw [A.get_lf] at hi; cases hi
            · assumption
          · rw [A.get_lf] at hi; cases hi
        · rw [A.get_lf] at hi; cases hi
      · rw [snapC2_get] at hi
        split at hi
        · rename_i hr
          split at hi
          · rename_i u hg
            split at hi
            · rw [A.get_lf] at hi; cases hi
            · cases hi
              rw [Option.bind_eq_some_iff] at hg
              obtain ⟨x, hx1, hx2⟩ := hg
              refine ⟨by show HI ≤ i; omega, x, ?_, abC_rel hl0 hx2⟩
              rw [Nat.sub_zero] at hx1
              simpa using hx1
          · rw [A.get_lf] at hi; cases hi
        · rw [A.get_lf] at hi; cases hi
    · cases hl
  · unfold snapP at hl1 hl2
    split at hl1 <;> cases hl1
    split at hl2 <;> cases hl2
    exact absurd he hne
theorem snap_cell2 {w : World} {b i : Nat} {v u : Value} (h : w.cell? ⟨b, i, none⟩ = some v) (hz : w.frozen? ⟨b, i, none⟩ = false) (hu : abC w b v = some u) (s : Option Nat) :
    load1 (snapM2 w) ⟨b, i + HI, s⟩ = some u := by
  obtain ⟨h1, h2, h3, h4⟩ := snap_facts2 w
  unfold World.cell? at h
  split at h
  · rename_i cs e fz hx
    simp only [Option.isSome_none, Bool.false_eq_true, if_false] at h
    have hi : i < cs.size := (Array.getElem?_eq_some_iff.1 h).1
    have hob : (snapM2 w).obj b = some (.cells (snapC2 w b fz 0 cs.toList .lf)) := by rw [h4, hx]; rfl
    have hld : ∀ o, load1 (snapM2 w) ⟨b, o, s⟩ = A.get none o (snapC2 w b fz 0 cs.toList .lf) := fun o => by unfold load1 cellsOf; rw [hob]; rfl
    have hg : cs.toList[i]? = some v := by simpa using h
    have hzz : ¬ (fz.1 ≤ i ∧ i < fz.2) := by
      simp only [World.frozen?, hx] at hz
      simpa using hz
    rw [hld, snapC2_get]
    generalize HI = H
    rw [if_pos (by simp; omega), show i + H - H = i by omega, Nat.sub_zero, hg]
    show (match abC w b v with
      | some u => _
      | none => _) = _
    rw [hu]
    simp only
    rw [if_neg hzz]
  · cases h
theorem cell_lies {w : World} {a : Addr} {v : Value} (h : w.cell? a = some v) : a.spot = none ∧ ∃ cs e fz, w.heap[a.block]? = some (.cells cs e fz) ∧ a.off < cs.size := by
  unfold World.cell? at h
  split at h
  · rename_i cs e fz hx
    cases hs : a.spot with
    | none =>
      simp only [hs, Option.isSome_none, Bool.false_eq_true, if_false] at h
      exact ⟨rfl, cs, e, fz, hx, (Array.getElem?_eq_some_iff.1 h).1⟩
    | some s => simp [hs] at h
  · cases h
/-- A call whose arguments lie in the world, and which writes below the heap's end nowhere. -/
theorem snap_call2 {P : Program} {x : Ex} (hx : ExOK P x) {g : Nat} {args : List Value} {w : World} {b : Bool} (h : CallV x g args (snapM2 w) (.bool b)) (args' : Array Value) (ha : VRels (snapP w) args args'.toList) :
    Calls P g args' w fun e w' => e = .returned (.bool b) ∧ Below w.heap.size w w' := by
  obtain ⟨h1, h2, h3, h4⟩ := snap_facts2 w
  obtain ⟨v, m', e, hE, rfl⟩ := h
  obtain ⟨_, _, hc⟩ := hx.f _ _ _ _ _ e
  refine (hc (snapP w) w args' (R.snap2 w) ha (fun B hB _ => ?_)).mono ?_
  · unfold snapP; rw [h1] at hB; rw [Array.getElem?_eq_none (by omega)]
  · rintro e w' ⟨φ', v', rfl, _, hs, hr⟩
    refine ⟨by rw [hr.bool_inv], hs.os, hs.tape, hs.output, hs.size, fun k hk => hs.frame k hk fun B l hl hb ht => ?_⟩
    obtain ⟨q1, q2, _⟩ := ht
    have hB : B < w.heap.size := by rw [← h1]; exact q1
    rcases q2 with q | q
    · rw [hE.base, h2] at q; omega
    · rw [hE.log, h3] at q; cases q
section
variable {H : Type} {enc : TypeId × Value → H} {P : Program} {w : World}
/-- a slice that lies in a block: its rows, and what is good of them -/
theorem nest_slice {α : Type} [Inhabited α] {t e : TypeId} {sz : Nat} {f : α → List Value} {good : α → Prop} {held : Bool} (ht : P.underlying t = some (.slice e)) (hC : P.cellsOf e = sz) (hpos : 0 < sz)
    (hrow : ∀ b l n cs y, snapP w b = some l → DataW.trod enc P w 0 (fun _ => true) held n e cs = some y → (∀ c off, MemPlace.cell c off ∈ y.2 → w.frozen? ⟨c, off, none⟩ = false) → ∃ x : α, cs.map (abC w b) = (f x).map some ∧ good x)
    (hlen : ∀ x, (f x).length = sz) {v : Value} {y : DataW H × List MemPlace} {fuel : Nat} (hf : DataW.trod enc P w 0 (fun _ => true) held fuel t [v] = some y) {b : Nat} {l : Loc} (hb : snapP w b = some l)
    (hz : ∀ c off, MemPlace.cell c off ∈ y.2 → w.frozen? ⟨c, off, none⟩ = false) :
    ∃ av es, abC w b v = some av ∧ Rd (snapM2 w) av sz f es ∧ (∀ x ∈ es, good x) ∧ es.length ≤ 9223372036854775807 ∧ (es = [] ∨ ∃ elems spare, y.1 = .slice elems spare ∧ elems.length = es.length) := by
  have hbl : ∀ {B l}, snapP w B = some l → B < (snapM2 w).n := fun {B l} h => by
    rw [(snap_facts2 w).1]
    unfold snapP at h
    split at h
    · rename_i hx; exact (Array.getElem?_eq_some_iff.1 hx).1
    · cases h
  rcases DataW.trod_slice ht hf with ⟨hv, hy⟩ | ⟨a, len, cap, elems, rest, n, _, hv, hy, _, hlc, hcm, hel, hE, hR, _⟩
  · cases hv
    exact ⟨.slice none 0 0, [], rfl, ⟨rfl, fun i r hr => by simp at hr, rfl, fun B hB => by cases hB⟩, (by simp), (by simp), .inl rfl⟩
  · cases hv
    obtain ⟨hrl, hR⟩ := hR rfl
    subst hy
    by_cases h0 : cap = 0
    · subst h0
      obtain rfl : len = 0 := by omega
      refine ⟨.slice (some ⟨b, 0, some 1⟩) 0 0, [], rfl, ⟨rfl, fun i r hr => by simp at hr, ?_, fun B hB => by cases hB; exact hbl hb⟩, (by simp), (by simp), .inl rfl⟩
      have hx := hb
      unfold snapP at hx
      split at hx
      · rename_i cs e' fz hh
        obtain ⟨c, hc⟩ : ∃ c, (snapM2 w).obj b = some (.cells c) := ⟨_, by rw [(snap_facts2 w).2.2.2, hh]; rfl⟩
        show loads (snapM2 w) ⟨b, 0, some 1⟩ (([] : List α).length * sz) = some []
        rw [List.length_nil, Nat.zero_mul]
        unfold loads cellsOf
        simp only [hc]
        rfl
      · cases hx
    -- the rows
    have hex : ∀ i, i < cap → ∃ z : DataW H × List MemPlace, z ∈ elems ++ rest ∧ (w.cells? 0 (a.add (i * P.cellsOf e)) (P.cellsOf e)).bind (DataW.trod enc P w 0 (fun _ => true) held n e) = some z := fun i hi => by
      by_cases h : i < len
      · exact ⟨elems[i], List.mem_append_left _ (List.getElem_mem _), (hE i h).trans (List.getElem?_eq_getElem (by omega))⟩
      · have := hR (i - len) (by omega)
        rw [show len + (i - len) = i by omega] at this
        exact ⟨rest[i - len], List.mem_append_right _ (List.getElem_mem _), this.trans (List.getElem?_eq_getElem (by omega))⟩
    have hcell0 : ∃ v, w.cell? (a.add (0 * P.cellsOf e + 0)) = some v := by
      obtain ⟨z, _, hz'⟩ := hex 0 (by omega)
      rw [Option.bind_eq_some_iff] at hz'
      obtain ⟨cs, hcs, _⟩ := hz'
      obtain ⟨_, hl, hcell⟩ := World.cells?_some hcs
      have := hcell 0 (by omega)
      rw [Addr.add_add] at this
      exact ⟨cs[0], by rw [this, List.getElem?_eq_getElem (by omega)]⟩
    obtain ⟨b', off, spot⟩ := a
    obtain ⟨v0, hv0⟩ := hcell0
    obtain ⟨hs, cs0, e0, fz0, hh, hoff⟩ := cell_lies hv0
    obtain rfl : spot = none := by
      cases spot with
      | none => rfl
      | some s => exact absurd hs (by unfold Addr.add; split <;> simp_all)
    have hoff' : off ≤ cs0.size := by
      simp only [add_plain] at hoff
      omega
    have hh' : w.heap[b']? = some (.cells cs0 e0 fz0) := by simpa only [add_plain] using hh
    have hφ : snapP w b' = some ⟨b', HI, cs0.size⟩ := by unfold snapP; rw [hh']
    have hex2 : ∀ i, i < cap → ∃ x : α, good x ∧ ∀ j, j < sz → ∃ c, w.cell? ⟨b', off + (i * sz + j), none⟩ = some c ∧ abC w b' c = (f x)[j]? := fun i hi => by
      obtain ⟨z, hzm, hz'⟩ := hex i hi
      rw [Option.bind_eq_some_iff] at hz'
      obtain ⟨cs, hcs, hz'⟩ := hz'
      obtain ⟨x, hx, hg⟩ := hrow b' _ _ _ _ hφ hz' (fun c o hc => hz c o (List.mem_append_right _ (List.mem_flatMap.2 ⟨z, hzm, hc⟩)))
      obtain ⟨_, hl, hcell⟩ := World.cells?_some hcs
      refine ⟨x, hg, fun j hj => ?_⟩
      have hjl : j < cs.length := by rw [hl, hC]; exact hj
      have := hcell j (by rw [hC]; exact hj)
      refine ⟨cs[j], ?_, ?_⟩
      · rw [← List.getElem?_eq_getElem hjl, ← this, hC, add_plain, add_plain, Nat.add_assoc]
      · have h2 := congrArg (fun l => l[j]?) hx
        simp only [List.getElem?_map, List.getElem?_eq_getElem hjl, Option.map_some] at h2
        rw [List.getElem?_eq_getElem (by rw [hlen]; exact hj)] at h2 ⊢
        exact Option.some.inj h2
    obtain ⟨X, hX⟩ : ∃ X : Nat → α, ∀ i, i < cap → good (X i) ∧ ∀ j, j < sz → ∃ c, w.cell? ⟨b', off + (i * sz + j), none⟩ = some c ∧ abC w b' c = (f (X i))[j]? := by
      have hex' : ∀ i, ∃ x : α, i < cap → good x ∧ ∀ j, j < sz → ∃ c, w.cell? ⟨b', off + (i * sz + j), none⟩ = some c ∧ abC w b' c = (f x)[j]? := fun i => by
        by_cases h : i < cap
        · obtain ⟨x, hx⟩ := hex2 i h; exact ⟨x, fun _ => hx⟩
        · exact ⟨default, fun h' => absurd h' h⟩
      exact ⟨fun i => (hex' i).choose, fun i hi => (hex' i).choose_spec hi⟩
    have hfz : ∀ i j, i < cap → j < sz → w.frozen? ⟨b', off + (i * sz + j), none⟩ = false := fun i j hi hj => by
      refine hz b' _ (List.mem_append_left _ ?_)
      unfold MemPlace.row
      refine List.mem_map.2 ⟨i * sz + j, ?_, rfl⟩
      rw [List.mem_range, hel, hrl, hC, show len + (cap - len) = cap by omega]
      have := Nat.mul_le_mul_right sz (Nat.succ_le_of_lt hi)
      rw [Nat.succ_mul] at this
      omega
    have hcell : ∀ i j, i < cap → j < sz → ∀ s, load1 (snapM2 w) ⟨b', off + HI + (i * sz + j), s⟩ = (f (X i))[j]? := fun i j hi hj s => by
      obtain ⟨c, hc1, hc2⟩ := (hX i hi).2 j hj
      have hjl : j < (f (X i)).length := by rw [hlen]; exact hj
      rw [List.getElem?_eq_getElem hjl] at hc2 ⊢
      have := snap_cell2 hc1 (hfz i j hi hj) hc2 s
      rw [← this]
      congr 2
      omega
    refine ⟨.slice (some ⟨b', off + HI, some 1⟩) len cap, (List.range len).map X, ?_, ⟨by simp [lenS], fun i r hr => ?_, ?_, fun B hB => by cases hB; exact hbl hφ⟩, fun x hx => ?_, by have h2 : maxLen = 9223372036854775807 := rfl; rw [List.length_map, List.length_range]; omega, ?_⟩
    · have hne : ¬ (len = 0 ∧ cap = 0) := fun h => h0 h.2
      have hcc : abC w b (.slice (some ⟨b', off, none⟩) len cap) = match w.heap[b']? with
          | some (.cells cs _ _) => if len ≤ cap ∧ off ≤ cs.size then some (.slice (some ⟨b', off + HI, some 1⟩) len cap) else none
          | _ => none := by
        cases cap with
        | zero => exact absurd rfl h0
        | succ c => cases len <;> rfl
      rw [hcc, hh']
      simp only
      rw [if_pos ⟨hlc, hoff'⟩]
    · rw [List.getElem?_map] at hr
      have hi : i < len := by
        rcases Nat.lt_or_ge i len with h | h
        · exact h
        · rw [List.getElem?_eq_none (l := List.range len) (by simpa using h)] at hr; cases hr
      rw [List.getElem?_range hi] at hr
      cases hr
      refine ⟨?_, hbl hφ, ?_⟩
      · show (bif Nat.blt i len then addA (i * sz) _ else none) = _
        rw [show Nat.blt i len = true from Nat.ble_eq_true_of_le hi]; rfl
      · show loads (snapM2 w) ⟨b', off + HI + i * sz, none⟩ sz = _
        have := loads_of (m := snapM2 w) (B := b') (s := none) (f (X i)) (off + HI + i * sz) (fun h => by have := hlen (X i); rw [h] at this; simp at this; omega) (fun j hj => by
          rw [hlen (X i)] at hj
          have := hcell i j (by omega) hj none
          rw [← this, Nat.add_assoc])
        rw [hlen (X i)] at this
        exact this
    · show loads (snapM2 w) ⟨b', off + HI, some 1⟩ (((List.range len).map X).length * sz) = _
      have hfl := flatMap_len (f := f) (fun x => hlen x) ((List.range len).map X)
      by_cases h0 : len = 0
      · subst h0
        obtain ⟨c, hc⟩ : ∃ c, (snapM2 w).obj b' = some (.cells c) := ⟨_, by rw [(snap_facts2 w).2.2.2, hh']; rfl⟩
        rw [List.range_zero, List.map_nil, List.length_nil, Nat.zero_mul]
        unfold loads cellsOf
        simp only [hc]
        rfl
      · have := loads_of (m := snapM2 w) (B := b') (s := some 1) (((List.range len).map X).flatMap f) (off + HI) (fun h => by
          have h1 := hfl
          rw [h, List.length_map, List.length_range, List.length_nil] at h1
          have := Nat.mul_pos (show 0 < len by omega) hpos
          omega) (fun q hq => by
          rw [hfl] at hq
          rw [List.length_map, List.length_range] at hq
          have hdiv : q / sz < len := by rw [Nat.div_lt_iff_lt_mul hpos]; exact hq
          have hmod := Nat.mod_lt q hpos
          have hdm := Nat.div_add_mod q sz
          have h1 := hcell (q / sz) (q % sz) (by omega) hmod (some 1)
          rw [show q / sz * sz + q % sz = q by rw [Nat.mul_comm]; exact hdm] at h1
          rw [h1]
          have h2 := flatMap_get (f := f) (fun x => hlen x) ((List.range len).map X) (q / sz) (X (q / sz)) (by rw [List.getElem?_map, List.getElem?_range hdiv]; rfl)
          rw [← h2, List.getElem?_take, if_pos hmod, List.getElem?_drop]
          congr 1
          rw [Nat.mul_comm]; exact hdm)
        rw [hfl] at this
        exact this
    · obtain ⟨i, hi, rfl⟩ := List.mem_map.1 hx
      exact (hX i (by have := List.mem_range.1 hi; omega)).1
    · by_cases h0 : len = 0
      · subst h0; exact .inl rfl
      · exact .inr ⟨_, _, rfl, by simp [hel]⟩
end
end
end Go.Dx
/- A program that is handed in, as it lies in the abstract memory. -/
namespace Go.Sx
open Go.RowKit Go.WideShapes Go.ChangeShapes Go.Dx
/-- the types that a program is made of -/
structure PT (P : Program) (tp ts tt tas ta tns tn ti tu : TypeId) : Prop where
  p : ∃ fs, P.underlying tp = some (.struct fs) ∧ fs.toList.map (fun f => (f.type, f.offset)) = [(ti, 0), (ts, 1)]
  pc : P.cellsOf tp = 2
  s : P.underlying ts = some (.slice tt)
  sc : P.cellsOf ts = 1
  t : ∃ fs, P.underlying tt = some (.struct fs) ∧ fs.toList.map (fun f => (f.type, f.offset)) = [(ti, 0), (tas, 1)]
  tc : P.cellsOf tt = 2
  l : P.underlying tas = some (.slice ta)
  lc : P.cellsOf tas = 1
  a : ∃ fs, P.underlying ta = some (.struct fs) ∧ fs.toList.map (fun f => (f.type, f.offset)) = [(ti, 0), (ti, 1), (ti, 2), (ti, 3), (tns, 4), (tns, 5), (tns, 6), (ti, 7), (ti, 8), (ti, 9), (ti, 10)]
  ac : P.cellsOf ta = 11
  ns : P.underlying tns = some (.slice tn)
  nsc : P.cellsOf tns = 1
  n : ∃ fs, P.underlying tn = some (.struct fs) ∧ fs.toList.map (fun f => (f.type, f.offset)) = [(ti, 0), (tu, 1), (ti, 2), (ti, 3)]
  nc : P.cellsOf tn = 4
  i : P.underlying ti = some (.int .i64)
  ic : P.cellsOf ti = 1
  u : P.underlying tu = some (.int .u64)
  uc : P.cellsOf tu = 1
theorem fields_get {fs : Array Field} {l : List (TypeId × Nat)} (h : fs.toList.map (fun f => (f.type, f.offset)) = l) {i : Nat} {t : TypeId} {o : Nat} (hi : l[i]? = some (t, o)) : ∃ f, fs[i]? = some f ∧ f.type = t ∧ f.offset = o := by
  subst h
  rw [List.getElem?_map, Option.map_eq_some_iff] at hi
  obtain ⟨f, h1, h2⟩ := hi
  injection h2 with h3 h4
  exact ⟨f, by simpa using h1, h3, h4⟩
theorem u_of' {n : Int} (h : (Lit.int .u64 n).wf = true) : ∃ u : U, n = (u.1 : Int) := by
  simp only [Lit.wf, Bool.and_eq_true, decide_eq_true_eq] at h
  have h1 : (0 : Int) ≤ n := h.1
  have h2 : n ≤ 18446744073709551615 := h.2
  exact ⟨⟨n.toNat, by omega⟩, by show n = (n.toNat : Int); omega⟩
instance instU : Inhabited U := ⟨⟨0, by omega⟩⟩
instance instNd : Inhabited Nd := ⟨⟨0, default, 0, 0⟩⟩
instance instAc : Inhabited Ac := ⟨⟨0, 0, 0, 0, .bool false, .bool false, .bool false, 0, 0, 0, 0, [], [], []⟩⟩
instance instTh : Inhabited Th := ⟨⟨0, .bool false, []⟩⟩
section
variable {H : Type} {enc : TypeId × Value → H} {P : Program} {w : World} {tp ts tt tas ta tns tn ti tu : TypeId}
theorem struct_at {fs : Array Field} {l : List (TypeId × Nat)} {t : TypeId} {n : Nat} {cs : List Value} {y : DataW H × List MemPlace} (hs : P.underlying t = some (.struct fs)) (hl : fs.toList.map (fun f => (f.type, f.offset)) = l)
    (h : DataW.trod enc P w 0 (fun _ => true) true n t cs = some y) : cs.length = P.cellsOf t ∧ ∃ (xs : List (DataW H × List MemPlace)) (k : Nat), y = (.agg (xs.map (·.1)), xs.flatMap (·.2)) ∧ xs.length = l.length ∧
      ∀ (i : Nat) (t' : TypeId) (o : Nat), l[i]? = some (t', o) → DataW.trod enc P w 0 (fun _ => true) true k t' ((cs.drop o).take (P.cellsOf t')) = xs[i]? := by
  obtain ⟨xs, k, _, e, h1, h2, h3⟩ := DataW.trod_struct hs h
  refine ⟨h1, xs, k, e, by rw [h2, ← hl]; simp, fun i t' o hi => ?_⟩
  obtain ⟨f, q1, q2, q3⟩ := fields_get hl hi
  have := h3 i f q1
  rw [q2, q3] at this
  exact this
theorem node_rw (T : PT P tp ts tt tas ta tns tn ti tu) (b : Nat) (l : Dx.Loc) (n : Nat) (cs : List Value) (y : DataW H × List MemPlace) (hb : snapP w b = some l) (h : DataW.trod enc P w 0 (fun _ => true) true n tn cs = some y)
    (hz : ∀ c off, MemPlace.cell c off ∈ y.2 → w.frozen? ⟨c, off, none⟩ = false) : ∃ x : Nd, cs.map (abC w b) = (nodeRow x).map some ∧ True := by
  obtain ⟨fs, h1, h2⟩ := T.n
  obtain ⟨hl, xs, k, _, hx, hf⟩ := struct_at h1 h2 h
  rw [T.nc] at hl
  match cs, xs, hl, hx with
  | [c0, c1, c2, c3], [y0, y1, y2, y3], _, _ =>
    have g0 := hf 0 ti 0 rfl
    have g1 := hf 1 tu 1 rfl
    have g2 := hf 2 ti 2 rfl
    have g3 := hf 3 ti 3 rfl
    rw [T.ic] at g0 g2 g3
    rw [T.uc] at g1
    obtain ⟨a, e0, _⟩ := DataW.trod_int T.i g0
    obtain ⟨u, e1, _, wb⟩ := DataW.trod_int T.u g1
    obtain ⟨c, e2, _⟩ := DataW.trod_int T.i g2
    obtain ⟨d, e3, _⟩ := DataW.trod_int T.i g3
    obtain ⟨v, rfl⟩ := u_of' wb
    simp at e0 e1 e2 e3
    exact ⟨⟨a, v, c, d⟩, by rw [e0, e1, e2, e3]; rfl, trivial⟩
/-- a list of words that is handed in -/
theorem words_arg {tu tus : TypeId} (hs : P.underlying tus = some (.slice tu)) (hu : P.underlying tu = some (.int .u64)) (huc : P.cellsOf tu = 1) {b0 : Nat} {v : Value} {d : DataW H} {pl : List MemPlace} (hv : Value.okWide P w .any b0 tus v) (h : DataW.Trod enc P w 0 (fun _ => true) true tus v d pl) (hz : w.noneFrozen pl) :
    ∃ (av : Value) (es : List U), VRel (snapP w) av v ∧ Rd (snapM2 w) av 1 wordRow es ∧ es.length ≤ 9223372036854775807 ∧ (es = [] ∨ ∃ elems spare, d = .slice elems spare ∧ elems.length = es.length) := by
  obtain ⟨a0, len, cap, rfl⟩ := okWide_slice hs hv
  have k1 : Cell.okWide P w .any b0 tus (.slice a0 len cap) := by have := hv; simp only [Value.okWide, hs] at this; exact this
  obtain ⟨fuel, hf⟩ := h
  have hf' : DataW.trod enc P w 0 (fun _ => true) true fuel tus [.slice a0 len cap] = some (d, pl) := hf
  cases a0 with
  | none =>
    rcases DataW.trod_slice hs hf' with ⟨hv, hy⟩ | ⟨a, len, cap, _, _, _, _, hv, _⟩
    · cases hv
      exact ⟨.slice none 0 0, [], .slN, ⟨rfl, fun i r hr => by simp at hr, rfl, fun B hB => by cases hB⟩, by simp, .inl rfl⟩
    · cases hv
  | some a =>
    obtain ⟨hsp, cs', e', fz', hh⟩ := slice_lies hs k1
    have hb : snapP w a.block = some ⟨a.block, HI, cs'.size⟩ := by unfold snapP; rw [hh]
    obtain ⟨av, es, q1, q2, q4, q3, q5⟩ := nest_slice (α := U) (good := fun _ => True) (f := wordRow) hs huc (by omega) (fun b l n cs y hb hh _ => by
      obtain ⟨x, e1, _, wb⟩ := DataW.trod_int hu hh
      obtain ⟨u, rfl⟩ := u_of' wb
      exact ⟨u, by rw [e1]; rfl, trivial⟩) (fun _ => rfl) hf' hb (fun c off hc => hz c off hc)
    exact ⟨av, es, abC_rel hb q1, q2, q3, q5⟩
end
end Go.Sx
/- What is handed in stays, all arguments at once. -/
namespace Go.Dx
open Go.RowKit Go.WideShapes Go.ChangeShapes
section
variable {H : Type} {enc : TypeId × Value → H} {P : Program}
theorem args_stay (hl : laidOutB P = true) {W W' : World} : ∀ (ts : List TypeId) (vs : List Value) (ds : List (DataW H)) (ps : List MemPlace), (ts.all fun t => P.readableRec t && decide (t < P.types.size)) = true →
    DataW.TrodAll enc P W 0 (fun _ => true) true ts vs ds ps → (∀ p ∈ ps, W.sameAt W' p) → ∀ sp : Nat → Bool, (∀ p ∈ ps, sp p.block = true) → DataW.TrodAll enc P W' 0 sp true ts vs ds ps
  | [], vs, ds, ps, _, h, _, _, _ => by
    obtain ⟨rfl, rfl, rfl⟩ := trodAll_nil h
    exact rfl
  | t :: ts, vs, ds, ps, ha, h, hs, sp, hsp => by
    obtain ⟨v, vs', d, ds', p, q, rfl, rfl, rfl, h1, h2⟩ := trodAll_cons h
    simp only [List.all_cons, Bool.and_eq_true, decide_eq_true_eq] at ha
    exact ⟨p, q, WideElems.Trod_stays hl ha.1.1 ha.1.2 h1 (fun x hx => hs x (List.mem_append_left _ hx)) (fun x hx => hsp x (List.mem_append_left _ hx)),
      args_stay hl ts vs' ds' q ha.2 h2 (fun x hx => hs x (List.mem_append_right _ hx)) sp (fun x hx => hsp x (List.mem_append_right _ hx)), rfl⟩
end
end Go.Dx
/- A program that is handed in, with its sizes. -/
namespace Go.Dx
open Go.RowKit Go.WideShapes Go.ChangeShapes
noncomputable section
attribute [local irreducible] A.get A.set HI
theorem weights_all {H : Type} {P : Program} {e : TypeId} {n : Nat} : ∀ {l : List (DataW H)} {d : DataW H}, d ∈ l → n ∈ d.weights P e → n ∈ DataW.weightsAll P e l
  | d0 :: l, d, hd, hn => by
    simp only [DataW.weightsAll, List.mem_append]
    rcases List.mem_cons.1 hd with rfl | h
    · exact .inl hn
    · exact .inr (weights_all h hn)
theorem weights_in {H : Type} {P : Program} {t e : TypeId} {elems rest : List (DataW H × List MemPlace)} {n : Nat} (ht : P.underlying t = some (.slice e)) {z : DataW H × List MemPlace} (hz : z ∈ elems ++ rest) (hn : n ∈ z.1.weights P e) :
    n ∈ (DataW.slice (elems.map (·.1)) (rest.map (·.1))).weights P t := by
  simp only [DataW.weights, ht, List.mem_cons, List.mem_append]
  rcases List.mem_append.1 hz with h | h
  · exact .inr (.inl (weights_all (List.mem_map.2 ⟨z, h, rfl⟩) hn))
  · exact .inr (.inr (weights_all (List.mem_map.2 ⟨z, h, rfl⟩) hn))
section
variable {H : Type} {enc : TypeId × Value → H} {P : Program} {w : World}
/-- a slice that lies in a block: its rows, and what is good of them -/
theorem nest_slice0 {α : Type} [Inhabited α] {t e : TypeId} {sz : Nat} {f : α → List Value} {good : α → Prop} {held : Bool} (ht : P.underlying t = some (.slice e)) (hC : P.cellsOf e = sz) (hpos : 0 < sz)
    (hrow : ∀ b l n cs y, snapP w b = some l → DataW.trod enc P w 0 (fun _ => true) held n e cs = some y → (∀ c off, MemPlace.cell c off ∈ y.2 → w.frozen? ⟨c, off, none⟩ = false) → (∀ n ∈ y.1.weights P e, n ≤ reachBytes) → ∃ x : α, cs.map (abC w b) = (f x).map some ∧ good x)
    (hlen : ∀ x, (f x).length = sz) {v : Value} {y : DataW H × List MemPlace} {fuel : Nat} (hf : DataW.trod enc P w 0 (fun _ => true) held fuel t [v] = some y) {b : Nat} {l : Loc} (hb : snapP w b = some l)
    (hz : ∀ c off, MemPlace.cell c off ∈ y.2 → w.frozen? ⟨c, off, none⟩ = false) (hw : ∀ n ∈ y.1.weights P t, n ≤ reachBytes) :
    ∃ av es, abC w b v = some av ∧ Rd (snapM2 w) av sz f es ∧ (∀ x ∈ es, good x) ∧ es.length ≤ 9223372036854775807 ∧ (es = [] ∨ ∃ elems spare, y.1 = .slice elems spare ∧ elems.length = es.length) := by
  have hbl : ∀ {B l}, snapP w B = some l → B < (snapM2 w).n := fun {B l} h => by
    rw [(snap_facts2 w).1]
    unfold snapP at h
    split at h
    · rename_i hx; exact (Array.getElem?_eq_some_iff.1 hx).1
    · cases h
  rcases DataW.trod_slice ht hf with ⟨hv, hy⟩ | ⟨a, len, cap, elems, rest, n, _, hv, hy, _, hlc, hcm, hel, hE, hR, _⟩
  · cases hv
    exact ⟨.slice none 0 0, [], rfl, ⟨rfl, fun i r hr => by simp at hr, rfl, fun B hB => by cases hB⟩, (by simp), (by simp), .inl rfl⟩
  · cases hv
    obtain ⟨hrl, hR⟩ := hR rfl
    subst hy
    have hwm : ∀ z ∈ elems ++ rest, ∀ n ∈ z.1.weights P e, n ≤ reachBytes := fun z hz n hn => hw n (weights_in ht hz hn)
    by_cases h0 : cap = 0
    · subst h0
      obtain rfl : len = 0 := by omega
      refine ⟨.slice (some ⟨b, 0, some 1⟩) 0 0, [], rfl, ⟨rfl, fun i r hr => by simp at hr, ?_, fun B hB => by cases hB; exact hbl hb⟩, (by simp), (by simp), .inl rfl⟩
      have hx := hb
      unfold snapP at hx
      split at hx
      · rename_i cs e' fz hh
        obtain ⟨c, hc⟩ : ∃ c, (snapM2 w).obj b = some (.cells c) := ⟨_, by rw [(snap_facts2 w).2.2.2, hh]; rfl⟩
        show loads (snapM2 w) ⟨b, 0, some 1⟩ (([] : List α).length * sz) = some []
        rw [List.length_nil, Nat.zero_mul]
        unfold loads cellsOf
        simp only [hc]
        rfl
      · cases hx
    -- the rows
    have hex : ∀ i, i < cap → ∃ z : DataW H × List MemPlace, z ∈ elems ++ rest ∧ (w.cells? 0 (a.add (i * P.cellsOf e)) (P.cellsOf e)).bind (DataW.trod enc P w 0 (fun _ => true) held n e) = some z := fun i hi => by
      by_cases h : i < len
      · exact ⟨elems[i], List.mem_append_left _ (List.getElem_mem _), (hE i h).trans (List.getElem?_eq_getElem (by omega))⟩
      · have := hR (i - len) (by omega)
        rw [show len + (i - len) = i by omega] at this
        exact ⟨rest[i - len], List.mem_append_right _ (List.getElem_mem _), this.trans (List.getElem?_eq_getElem (by omega))⟩
    have hcell0 : ∃ v, w.cell? (a.add (0 * P.cellsOf e + 0)) = some v := by
      obtain ⟨z, _, hz'⟩ := hex 0 (by omega)
      rw [Option.bind_eq_some_iff] at hz'
      obtain ⟨cs, hcs, _⟩ := hz'
      obtain ⟨_, hl, hcell⟩ := World.cells?_some hcs
      have := hcell 0 (by omega)
      rw [Addr.add_add] at this
      exact ⟨cs[0], by rw [this, List.getElem?_eq_getElem (by omega)]⟩
    obtain ⟨b', off, spot⟩ := a
    obtain ⟨v0, hv0⟩ := hcell0
    obtain ⟨hs, cs0, e0, fz0, hh, hoff⟩ := cell_lies hv0
    obtain rfl : spot = none := by
      cases spot with
      | none => rfl
      | some s => exact absurd hs (by unfold Addr.add; split <;> simp_all)
    have hoff' : off ≤ cs0.size := by
      simp only [add_plain] at hoff
      omega
    have hh' : w.heap[b']? = some (.cells cs0 e0 fz0) := by simpa only [add_plain] using hh
    have hφ : snapP w b' = some ⟨b', HI, cs0.size⟩ := by unfold snapP; rw [hh']
    have hex2 : ∀ i, i < cap → ∃ x : α, good x ∧ ∀ j, j < sz → ∃ c, w.cell? ⟨b', off + (i * sz + j), none⟩ = some c ∧ abC w b' c = (f x)[j]? := fun i hi => by
      obtain ⟨z, hzm, hz'⟩ := hex i hi
      rw [Option.bind_eq_some_iff] at hz'
      obtain ⟨cs, hcs, hz'⟩ := hz'
      obtain ⟨x, hx, hg⟩ := hrow b' _ _ _ _ hφ hz' (fun c o hc => hz c o (List.mem_append_right _ (List.mem_flatMap.2 ⟨z, hzm, hc⟩))) (hwm z hzm)
      obtain ⟨_, hl, hcell⟩ := World.cells?_some hcs
      refine ⟨x, hg, fun j hj => ?_⟩
      have hjl : j < cs.length := by rw [hl, hC]; exact hj
      have := hcell j (by rw [hC]; exact hj)
      refine ⟨cs[j], ?_, ?_⟩
      · rw [← List.getElem?_eq_getElem hjl, ← this, hC, add_plain, add_plain, Nat.add_assoc]
      · have h2 := congrArg (fun l => l[j]?) hx
        simp only [List.getElem?_map, List.getElem?_eq_getElem hjl, Option.map_some] at h2
        rw [List.getElem?_eq_getElem (by rw [hlen]; exact hj)] at h2 ⊢
        exact Option.some.inj h2
    obtain ⟨X, hX⟩ : ∃ X : Nat → α, ∀ i, i < cap → good (X i) ∧ ∀ j, j < sz → ∃ c, w.cell? ⟨b', off + (i * sz + j), none⟩ = some c ∧ abC w b' c = (f (X i))[j]? := by
      have hex' : ∀ i, ∃ x : α, i < cap → good x ∧ ∀ j, j < sz → ∃ c, w.cell? ⟨b', off + (i * sz + j), none⟩ = some c ∧ abC w b' c = (f x)[j]? := fun i => by
        by_cases h : i < cap
        · obtain ⟨x, hx⟩ := hex2 i h; exact ⟨x, fun _ => hx⟩
        · exact ⟨default, fun h' => absurd h' h⟩
      exact ⟨fun i => (hex' i).choose, fun i hi => (hex' i).choose_spec hi⟩
    have hfz : ∀ i j, i < cap → j < sz → w.frozen? ⟨b', off + (i * sz + j), none⟩ = false := fun i j hi hj => by
      refine hz b' _ (List.mem_append_left _ ?_)
      unfold MemPlace.row
      refine List.mem_map.2 ⟨i * sz + j, ?_, rfl⟩
      rw [List.mem_range, hel, hrl, hC, show len + (cap - len) = cap by omega]
      have := Nat.mul_le_mul_right sz (Nat.succ_le_of_lt hi)
      rw [Nat.succ_mul] at this
      omega
    have hcell : ∀ i j, i < cap → j < sz → ∀ s, load1 (snapM2 w) ⟨b', off + HI + (i * sz + j), s⟩ = (f (X i))[j]? := fun i j hi hj s => by
      obtain ⟨c, hc1, hc2⟩ := (hX i hi).2 j hj
      have hjl : j < (f (X i)).length := by rw [hlen]; exact hj
      rw [List.getElem?_eq_getElem hjl] at hc2 ⊢
      have := snap_cell2 hc1 (hfz i j hi hj) hc2 s
      rw [← this]
      congr 2
      omega
    refine ⟨.slice (some ⟨b', off + HI, some 1⟩) len cap, (List.range len).map X, ?_, ⟨by simp [lenS], fun i r hr => ?_, ?_, fun B hB => by cases hB; exact hbl hφ⟩, fun x hx => ?_, by have h2 : maxLen = 9223372036854775807 := rfl; rw [List.length_map, List.length_range]; omega, ?_⟩
    · have hne : ¬ (len = 0 ∧ cap = 0) := fun h => h0 h.2
      have hcc : abC w b (.slice (some ⟨b', off, none⟩) len cap) = match w.heap[b']? with
          | some (.cells cs _ _) => if len ≤ cap ∧ off ≤ cs.size then some (.slice (some ⟨b', off + HI, some 1⟩) len cap) else none
          | _ => none := by
        cases cap with
        | zero => exact absurd rfl h0
        | succ c => cases len <;> rfl
      rw [hcc, hh']
      simp only
      rw [if_pos ⟨hlc, hoff'⟩]
    · rw [List.getElem?_map] at hr
      have hi : i < len := by
        rcases Nat.lt_or_ge i len with h | h
        · exact h
        · rw [List.getElem?_eq_none (l := List.range len) (by simpa using h)] at hr; cases hr
      rw [List.getElem?_range hi] at hr
      cases hr
      refine ⟨?_, hbl hφ, ?_⟩
      · show (bif Nat.blt i len then addA (i * sz) _ else none) = _
        rw [show Nat.blt i len = true from Nat.ble_eq_true_of_le hi]; rfl
      · show loads (snapM2 w) ⟨b', off + HI + i * sz, none⟩ sz = _
        have := loads_of (m := snapM2 w) (B := b') (s := none) (f (X i)) (off + HI + i * sz) (fun h => by have := hlen (X i); rw [h] at this; simp at this; omega) (fun j hj => by
          rw [hlen (X i)] at hj
          have := hcell i j (by omega) hj none
          rw [← this, Nat.add_assoc])
        rw [hlen (X i)] at this
        exact this
    · show loads (snapM2 w) ⟨b', off + HI, some 1⟩ (((List.range len).map X).length * sz) = _
      have hfl := flatMap_len (f := f) (fun x => hlen x) ((List.range len).map X)
      by_cases h0 : len = 0
      · subst h0
        obtain ⟨c, hc⟩ : ∃ c, (snapM2 w).obj b' = some (.cells c) := ⟨_, by rw [(snap_facts2 w).2.2.2, hh']; rfl⟩
        rw [List.range_zero, List.map_nil, List.length_nil, Nat.zero_mul]
        unfold loads cellsOf
        simp only [hc]
        rfl
      · have := loads_of (m := snapM2 w) (B := b') (s := some 1) (((List.range len).map X).flatMap f) (off + HI) (fun h => by
          have h1 := hfl
          rw [h, List.length_map, List.length_range, List.length_nil] at h1
          have := Nat.mul_pos (show 0 < len by omega) hpos
          omega) (fun q hq => by
          rw [hfl] at hq
          rw [List.length_map, List.length_range] at hq
          have hdiv : q / sz < len := by rw [Nat.div_lt_iff_lt_mul hpos]; exact hq
          have hmod := Nat.mod_lt q hpos
          have hdm := Nat.div_add_mod q sz
          have h1 := hcell (q / sz) (q % sz) (by omega) hmod (some 1)
          rw [show q / sz * sz + q % sz = q by rw [Nat.mul_comm]; exact hdm] at h1
          rw [h1]
          have h2 := flatMap_get (f := f) (fun x => hlen x) ((List.range len).map X) (q / sz) (X (q / sz)) (by rw [List.getElem?_map, List.getElem?_range hdiv]; rfl)
          rw [← h2, List.getElem?_take, if_pos hmod, List.getElem?_drop]
          congr 1
          rw [Nat.mul_comm]; exact hdm)
        rw [hfl] at this
        exact this
    · obtain ⟨i, hi, rfl⟩ := List.mem_map.1 hx
      exact (hX i (by have := List.mem_range.1 hi; omega)).1
    · by_cases h0 : len = 0
      · subst h0; exact .inl rfl
      · exact .inr ⟨_, _, rfl, by simp [hel]⟩
theorem nest_sliceW {α : Type} [Inhabited α] {t e : TypeId} {sz : Nat} {f : α → List Value} {good : α → Prop} {held : Bool} (ht : P.underlying t = some (.slice e)) (hC : P.cellsOf e = sz) (hpos : 0 < sz)
    (hrow : ∀ b l n cs y, snapP w b = some l → DataW.trod enc P w 0 (fun _ => true) held n e cs = some y → (∀ c off, MemPlace.cell c off ∈ y.2 → w.frozen? ⟨c, off, none⟩ = false) → (∀ n ∈ y.1.weights P e, n ≤ reachBytes) → ∃ x : α, cs.map (abC w b) = (f x).map some ∧ good x)
    (hlen : ∀ x, (f x).length = sz) {v : Value} {y : DataW H × List MemPlace} {fuel : Nat} (hf : DataW.trod enc P w 0 (fun _ => true) held fuel t [v] = some y) {b : Nat} {l : Loc} (hb : snapP w b = some l)
    (hz : ∀ c off, MemPlace.cell c off ∈ y.2 → w.frozen? ⟨c, off, none⟩ = false) (hw : ∀ n ∈ y.1.weights P t, n ≤ reachBytes) :
    ∃ av es, abC w b v = some av ∧ Rd (snapM2 w) av sz f es ∧ (∀ x ∈ es, good x) ∧ es.length ≤ 9223372036854775807 ∧ es.length * P.bytesOf e ≤ reachBytes := by
  obtain ⟨av, es, h1, h2, h3, h4, h5⟩ := nest_slice0 ht hC hpos hrow hlen hf hb hz hw
  refine ⟨av, es, h1, h2, h3, h4, ?_⟩
  rcases h5 with rfl | ⟨el, sp, e1, e2⟩
  · simp
  · rw [e1] at hw
    have := hw ((el.length + sp.length) * P.bytesOf e) (by simp [DataW.weights, ht])
    rw [Nat.add_mul] at this
    rw [← e2]; omega
end
end
end Go.Dx
namespace Go.Sx
open Go.RowKit Go.WideShapes Go.ChangeShapes Go.Dx
structure PZ (P : Program) (tt ta tn : TypeId) : Prop where
  t : P.bytesOf tt = 32
  a : P.bytesOf ta = 136
  n : P.bytesOf tn = 32
theorem reach_most {n b : Nat} (h : n * b ≤ reachBytes) : n * b ≤ most := by
  have h2 : reachBytes ≤ most := by decide
  omega
section
variable {H : Type} {enc : TypeId × Value → H} {P : Program} {w : World} {tp ts tt tas ta tns tn ti tu : TypeId}
theorem field_weights {fs : Array Field} {l : List (TypeId × Nat)} {t t' : TypeId} {xs : List (DataW H × List MemPlace)} {i o : Nat} {z : DataW H × List MemPlace} (hs : P.underlying t = some (.struct fs)) (hl : fs.toList.map (fun f => (f.type, f.offset)) = l) (hi : l[i]? = some (t', o)) (hz : xs[i]? = some z)
    (hw : ∀ n ∈ (DataW.agg (xs.map (·.1))).weights P t, n ≤ reachBytes) : ∀ n ∈ z.1.weights P t', n ≤ reachBytes := fun n hn => by
  refine hw n ?_
  simp only [DataW.weights, hs]
  obtain ⟨f, q1, q2, q3⟩ := fields_get hl hi
  refine DataW.weights_mem_each (j := i) (t := t') (d := z.1) ?_ (by rw [List.getElem?_map, hz]; rfl) n hn
  rw [List.getElem?_map]
  have : fs.toList[i]? = some f := by simpa using q1
  rw [this, ← q2]; rfl
set_option maxRecDepth 100000 in
theorem act_rwW (Z : PZ P tt ta tn) (T : PT P tp ts tt tas ta tns tn ti tu) (b : Nat) (l : Dx.Loc) (n : Nat) (cs : List Value) (y : DataW H × List MemPlace) (hb : snapP w b = some l) (h : DataW.trod enc P w 0 (fun _ => true) true n ta cs = some y)
    (hz : ∀ c off, MemPlace.cell c off ∈ y.2 → w.frozen? ⟨c, off, none⟩ = false) (hw : ∀ n ∈ y.1.weights P ta, n ≤ reachBytes) : ∃ x : Ac, cs.map (abC w b) = (acRow x).map some ∧ AcOK (snapM2 w) x ∧ AcSz x := by
  obtain ⟨fs, h1, h2⟩ := T.a
  obtain ⟨hl, xs, k, hy, hx, hf⟩ := struct_at h1 h2 h
  rw [T.ac] at hl
  subst hy
  have sl : ∀ {i : Nat} {z : DataW H × List MemPlace} {v : Value}, xs[i]? = some z → (∀ n ∈ z.1.weights P tns, n ≤ reachBytes) → DataW.trod enc P w 0 (fun _ => true) true k tns [v] = some z → ∃ av es, abC w b v = some av ∧ Rd (snapM2 w) av 4 nodeRow es ∧ es.length ≤ 9223372036854775807 ∧ es.length * 32 ≤ most := fun {i z v} hi hwz hh => by
    obtain ⟨av, es, q1, q2, _, q3, q4⟩ := nest_sliceW (α := Nd) (good := fun _ => True) (f := nodeRow) T.ns T.nc (by omega) (fun b l n cs y h1 h2 h3 _ => node_rw T b l n cs y h1 h2 h3) (fun _ => rfl) hh hb
      (fun c off hc => hz c off (List.mem_flatMap.2 ⟨z, List.mem_of_getElem? hi, hc⟩)) hwz
    rw [Z.n] at q4
    exact ⟨av, es, q1, q2, q3, reach_most q4⟩
  match cs, xs, hl, hx with
  | [c0, c1, c2, c3, c4, c5, c6, c7, c8, c9, c10], [y0, y1, y2, y3, y4, y5, y6, y7, y8, y9, y10], _, _ =>
    have g0 := hf 0 ti 0 rfl
    have g1 := hf 1 ti 1 rfl
    have g2 := hf 2 ti 2 rfl
    have g3 := hf 3 ti 3 rfl
    have g4 := hf 4 tns 4 rfl
    have g5 := hf 5 tns 5 rfl
    have g6 := hf 6 tns 6 rfl
    have g7 := hf 7 ti 7 rfl
    have g8 := hf 8 ti 8 rfl
    have g9 := hf 9 ti 9 rfl
    have g10 := hf 10 ti 10 rfl
    rw [T.ic] at g0 g1 g2 g3 g7 g8 g9 g10
    rw [T.nsc] at g4 g5 g6
    obtain ⟨a0, e0, _⟩ := DataW.trod_int T.i g0
    obtain ⟨a1, e1, _⟩ := DataW.trod_int T.i g1
    obtain ⟨a2, e2, _⟩ := DataW.trod_int T.i g2
    obtain ⟨a3, e3, _⟩ := DataW.trod_int T.i g3
    obtain ⟨a7, e7, _⟩ := DataW.trod_int T.i g7
    obtain ⟨a8, e8, _⟩ := DataW.trod_int T.i g8
    obtain ⟨a9, e9, _⟩ := DataW.trod_int T.i g9
    obtain ⟨a10, e10, _⟩ := DataW.trod_int T.i g10
    obtain ⟨v4, l4, p4, q4, r4, z4⟩ := sl (i := 4) rfl (field_weights h1 h2 (i := 4) (o := 4) rfl rfl hw) g4
    obtain ⟨v5, l5, p5, q5, r5, z5⟩ := sl (i := 5) rfl (field_weights h1 h2 (i := 5) (o := 5) rfl rfl hw) g5
    obtain ⟨v6, l6, p6, q6, r6, z6⟩ := sl (i := 6) rfl (field_weights h1 h2 (i := 6) (o := 6) rfl rfl hw) g6
    simp at e0 e1 e2 e3 e7 e8 e9 e10
    refine ⟨⟨a0, a1, a2, a3, v4, v5, v6, a7, a8, a9, a10, l4, l5, l6⟩, ?_, ⟨q4, q5, q6, r4, r5, r6⟩, ⟨z4, z5, z6⟩⟩
    rw [e0, e1, e2, e3, e7, e8, e9, e10]
    simp only [List.map_cons, List.map_nil, p4, p5, p6]
    rfl
theorem thread_rwW (Z : PZ P tt ta tn) (T : PT P tp ts tt tas ta tns tn ti tu) (b : Nat) (l : Dx.Loc) (n : Nat) (cs : List Value) (y : DataW H × List MemPlace) (hb : snapP w b = some l) (h : DataW.trod enc P w 0 (fun _ => true) true n tt cs = some y)
    (hz : ∀ c off, MemPlace.cell c off ∈ y.2 → w.frozen? ⟨c, off, none⟩ = false) (hw : ∀ n ∈ y.1.weights P tt, n ≤ reachBytes) : ∃ x : Th, cs.map (abC w b) = (thRow x).map some ∧ ThOK (snapM2 w) x ∧ (x.acts.length * 136 ≤ most ∧ ∀ a ∈ x.acts, AcSz a) := by
  obtain ⟨fs, h1, h2⟩ := T.t
  obtain ⟨hl, xs, k, hy, hx, hf⟩ := struct_at h1 h2 h
  rw [T.tc] at hl
  subst hy
  match cs, xs, hl, hx with
  | [c0, c1], [y0, y1], _, _ =>
    have g0 := hf 0 ti 0 rfl
    have g1 := hf 1 tas 1 rfl
    rw [T.ic] at g0
    rw [T.lc] at g1
    obtain ⟨a0, e0, _⟩ := DataW.trod_int T.i g0
    obtain ⟨av, es, q1, q2, q4, q3, q5⟩ := nest_sliceW (α := Ac) (good := fun a => AcOK (snapM2 w) a ∧ AcSz a) (f := acRow) T.l T.ac (by omega) (fun b l n cs y => act_rwW Z T b l n cs y) (fun _ => rfl) (v := c1) g1 hb
      (fun c off hc => hz c off (List.mem_flatMap.2 ⟨y1, by simp, hc⟩)) (field_weights h1 h2 (i := 1) (o := 1) rfl rfl hw)
    rw [Z.a] at q5
    simp at e0
    refine ⟨⟨a0, av, es⟩, ?_, ⟨q2, fun a ha => (q4 a ha).1, q3⟩, reach_most q5, fun a ha => (q4 a ha).2⟩
    rw [e0]
    simp only [List.map_cons, List.map_nil, q1]
    rfl
/-- a program that is handed in -/
theorem prog_argW (Z : PZ P tt ta tn) (T : PT P tp ts tt tas ta tns tn ti tu) {b0 : Nat} {v : Value} {d : DataW H} {pl : List MemPlace} (hv : Value.okWide P w .any b0 tp v) (htypes : P.cellTypes P.depth tp = some [ti, ts]) (h : DataW.Trod enc P w 0 (fun _ => true) true tp v d pl) (hz : w.noneFrozen pl) (hw : ∀ n ∈ d.weights P tp, n ≤ reachBytes) :
    ∃ p : Pg, VRel (snapP w) (pgV p) v ∧ PgOK (snapM2 w) p ∧ PgSz p := by
  obtain ⟨fs, h1, h2⟩ := T.p
  obtain ⟨cs, rfl, hsz⟩ := okWide_struct h1 hv
  obtain ⟨fuel, hf0⟩ := h
  obtain ⟨hl, xs, k, hy, hx, hf⟩ := struct_at h1 h2 (show DataW.trod enc P w 0 (fun _ => true) true fuel tp cs.toList = some (d, pl) from hf0)
  rw [T.pc] at hsz
  obtain ⟨c0, c1, rfl⟩ := Joins.array2 hsz
  injection hy with hy1 hy2
  subst hy2
  subst hy1
  match xs, hx with
  | [y0, y1], _ =>
    have g0 := hf 0 ti 0 rfl
    have g1 := hf 1 ts 1 rfl
    rw [T.ic] at g0
    rw [T.sc] at g1
    obtain ⟨a0, e0, _⟩ := DataW.trod_int T.i g0
    have g1' : DataW.trod enc P w 0 (fun _ => true) true k ts [c1] = some y1 := g1
    have hrow : Row.okWide P w .any b0 tp #[c0, c1] := by
      obtain ⟨cs, e, _, hr⟩ : ∃ cs, Value.agg #[c0, c1] = .agg cs ∧ cs.size = P.cellsOf tp ∧ Row.okWide P w .any b0 tp cs := by
        have := hv
        simp only [Value.okWide, h1] at this
        exact this
      cases e; exact hr
    obtain ⟨tys, hts, _, hcell⟩ := hrow
    rw [htypes] at hts
    cases hts
    obtain ⟨u1, hu1, k1⟩ := hcell 1 c1 rfl
    cases hu1
    simp at e0
    subst e0
    by_cases hnil : c1 = .slice none 0 0
    · subst hnil
      refine ⟨⟨a0, .slice none 0 0, []⟩, .agg _ _ (.cons _ _ _ _ (.int _ _) (.cons _ _ _ _ .slN .nil)), ⟨⟨rfl, fun i r hr => by simp at hr, rfl, fun B hB => by cases hB⟩, by simp, by simp⟩, ⟨by simp, by simp⟩⟩
    · obtain ⟨a, len, cap, rfl⟩ : ∃ a len cap, c1 = .slice (some a) len cap := by
        rcases DataW.trod_slice T.s g1' with ⟨hv, _⟩ | ⟨a, len, cap, _, _, _, _, hv, _⟩
        · exact absurd (List.cons.inj hv).1 hnil
        · exact ⟨a, len, cap, (List.cons.inj hv).1⟩
      obtain ⟨hs, cs', e', fz', hh⟩ := slice_lies T.s k1
      have hb : snapP w a.block = some ⟨a.block, HI, cs'.size⟩ := by unfold snapP; rw [hh]
      obtain ⟨av, es, q1, q2, q4, q3, q5⟩ := nest_sliceW (α := Th) (good := fun x => ThOK (snapM2 w) x ∧ (x.acts.length * 136 ≤ most ∧ ∀ a ∈ x.acts, AcSz a)) (f := thRow) T.s T.tc (by omega) (fun b l n cs y => thread_rwW Z T b l n cs y) (fun _ => rfl) g1' hb
        (fun c off hc => hz c off (List.mem_flatMap.2 ⟨y1, by simp, hc⟩)) (field_weights h1 h2 (i := 1) (o := 1) rfl rfl hw)
      rw [Z.t] at q5
      exact ⟨⟨a0, av, es⟩, .agg _ _ (.cons _ _ _ _ (.int _ _) (.cons _ _ _ _ (abC_rel hb q1) .nil)), ⟨q2, fun x hx => (q4 x hx).1, q3⟩, ⟨reach_most q5, fun x hx => (q4 x hx).2⟩⟩
end
end Go.Sx
