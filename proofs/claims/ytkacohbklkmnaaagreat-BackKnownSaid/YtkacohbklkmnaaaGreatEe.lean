/- Calls whose arguments lie in memory, run beforehand from a memory that is written down. -/
import Derived.Test.YtkacohbklkmnaaaGreatEd
set_option linter.unusedVariables false
set_option linter.unusedSimpArgs false
namespace Go.Dx
open Go.RowKit
noncomputable section
/-- a memory of just these rows; what is written to them would be told -/
def memL (ins : List (List Value)) : M := M.rec (fun h nx _ _ => ⟨h, nx, ins.length, []⟩) (graftL ins M.empty)
def tauM (σ : List Nat) (n : Nat) (i : Nat) : Nat := bif Nat.blt i σ.length then σ.getD i 0 else n + (i - σ.length)
def sig2 (k : Nat) (rows : List (Nat × List Value)) (i : Nat) : Nat := bif Nat.blt i k then i else sig rows (i - k)
def graftM (σ : List Nat) (rows : List (Nat × List Value)) (m : M) : M := graftL (rows.map fun p => p.2.map (ren (tauM σ m.n))) m
def allGe (k : Nat) : List Nat → Bool
  | [] => true
  | a :: l => Nat.ble k a && allGe k l
def chkM (ins : List (List Value)) (rows : List (Nat × List Value)) (v0 : Value) (o : Option (Value × M)) : Bool := match o with
  | some (v, m1) => m1.log.isEmpty && allGe ins.length (rows.map (·.1)) && eq2 (sig2 ins.length rows) (ins.length + rows.length) v0 v && rowsOk (sig2 ins.length rows) (ins.length + rows.length) m1 rows && nodupN (rows.map (·.1))
  | none => false
/-- a call's arguments and what they reach are those that are written down -/
def okM (pargs : List Value) (ins : List (List Value)) (σ : List Nat) (args : List Value) (m : M) : Bool :=
  Nat.beq σ.length ins.length && eqL1 (fun i => σ.getD i 0) ins.length pargs args && rowsOk (fun i => σ.getD i 0) ins.length m (σ.zip ins) && nodupN σ

theorem memL_n (ins : List (List Value)) : (memL ins).n = ins.length := by
  have h : (memL ins).n = (graftL ins M.empty).n := by unfold memL; cases graftL ins M.empty; rfl
  rw [h, graftL_n]; show 0 + ins.length = _; omega
theorem memL_obj (ins : List (List Value)) (X : Nat) : (memL ins).obj X = (ins[X]?).map (fun r => .cells (mkn .lf 0 r)) := by
  have h : (memL ins).obj X = (graftL ins M.empty).obj X := by unfold memL; cases graftL ins M.empty; rfl
  rw [h, graftL_obj]
  show (if 0 ≤ X ∧ X < 0 + ins.length then (ins[X - 0]?).map (fun r => DObj.cells (mkn .lf 0 r)) else _) = _
  by_cases hX : X < ins.length
  · rw [if_pos (by omega)]; rfl
  · rw [if_neg (by omega), List.getElem?_eq_none (by omega)]; exact A3.get_lf none X
theorem memL_base (ins : List (List Value)) : (memL ins).base = ins.length := by unfold memL; cases graftL ins M.empty; rfl
theorem allGe_get {k : Nat} : ∀ {l : List Nat}, allGe k l = true → ∀ (i a : Nat), l[i]? = some a → k ≤ a
  | [], _, i, a, h => by simp at h
  | b :: l, h, i, a, hi => by
    change (Nat.ble k b && allGe k l) = true at h
    rw [Bool.and_eq_true] at h
    cases i with
    | zero => simp at hi; subst hi; exact Nat.le_of_ble_eq_true h.1
    | succ i => exact allGe_get h.2 i a (by simpa using hi)
theorem ren_id (x : Value) : ren (fun i => i) x = x := by
  unfold ren
  split <;> rfl
theorem ren1_id (x : Value) : ren1 (fun i => i) x = x := by
  unfold ren1
  split
  · rename_i cs
    have : cs.toList.map (ren fun i => i) = cs.toList := by
      rw [List.map_congr_left (g := fun x => x) fun x _ => ren_id x]; simp
    rw [this]
  · exact ren_id _
theorem blt_t {i k : Nat} (h : i < k) : Nat.blt i k = true := Nat.ble_eq_true_of_le h
theorem blt_f {i k : Nat} (h : ¬ i < k) : Nat.blt i k = false := by
  cases q : Nat.blt i k with
  | false => rfl
  | true => exact absurd (Nat.le_of_ble_eq_true q) h
theorem rows_rel {φ φ' : Phi} {σ τ : Nat → Nat} {r : Nat} (hφ : ∀ i l, i < r → φ (σ i) = some l → φ' (τ i) = some l) {w : World} {c : C} {row : List Value} (hok : rowOk σ r c 0 row = true) {l : Loc} (h : ObjRel φ w (.cells c) l) :
    ObjRel φ' w (.cells (mkn .lf 0 (row.map (ren τ)))) l := by
  obtain ⟨cs, e, fz, k1, k2, k3, k4⟩ := h
  have hsub : ∀ j x, A.get none j (mkn .lf 0 (row.map (ren τ))) = some x → ∃ y, A.get none j c = some y := fun j x hx => by
    rw [mkn_get, A.get_lf] at hx
    split at hx
    · simp only [Nat.sub_zero, List.getElem?_map] at hx
      cases hg : row[j]? with
      | none => rw [hg] at hx; cases hx
      | some y =>
        obtain ⟨z, e1, _⟩ := rowOk_get hok j y hg
        rw [Nat.zero_add] at e1
        exact ⟨z, e1⟩
    · cases hx
  have hfc : FzC l.d cs.size fz (mkn .lf 0 (row.map (ren τ))) := ⟨fun ha hd => k3.1 (by
      cases hrw : row with
      | nil => rw [hrw] at ha; cases ha
      | cons y ys =>
        obtain ⟨z, e1, _⟩ := rowOk_get hok 0 y (by rw [hrw]; rfl)
        exact alive_get e1) hd, fun j x hx => let ⟨y, hy⟩ := hsub j x hx; k3.2 j y hy⟩
  refine ⟨cs, e, fz, k1, k2, hfc, fun j x hx => ?_⟩
  rw [mkn_get, A.get_lf] at hx
  split at hx
  · rename_i hj
    simp only [Nat.sub_zero, List.getElem?_map] at hx
    cases hg : row[j]? with
    | none => rw [hg] at hx; cases hx
    | some y =>
      rw [hg] at hx
      cases hx
      obtain ⟨z, e1, e2, e3⟩ := rowOk_get hok j y hg
      rw [Nat.zero_add] at e1
      obtain ⟨q1, v'', q2, q3⟩ := k4 j z e1
      refine ⟨q1, v'', q2, ?_⟩
      rw [← e3] at q3
      exact ren_turn hφ e2 q3
  · cases hx
theorem row_dead {σ : Nat → Nat} {r : Nat} {row : List Value} (hok : rowOk σ r .lf 0 row = true) : row = [] := by
  cases row with
  | nil => rfl
  | cons x l =>
    obtain ⟨y, hy, _⟩ := rowOk_get hok 0 x rfl
    rw [A.get_lf] at hy; cases hy
/-- A call that was run from a memory that is written down: it is known wherever that memory is found. -/
theorem graftM_ok {P : Program} {x : Ex} (hx : ExOK P x) {g : Nat} {pargs args : List Value} {v0 : Value} {ins : List (List Value)} {rows : List (Nat × List Value)} (h : chkM ins rows v0 (x.f g pargs (memL ins)) = true) {σ : List Nat} {m : M} (hm : okM pargs ins σ args m = true) :
    DStep m (graftM σ rows m) ∧ Enters P g ∧ CallJ P g args m (ren2 (tauM σ m.n) v0) (graftM σ rows m) := by
  unfold chkM at h
  split at h
  · rename_i v m1 hrun
    simp only [Bool.and_eq_true] at h
    obtain ⟨⟨⟨⟨hlog, hge⟩, hv⟩, hrows⟩, hnd⟩ := h
    unfold okM at hm
    simp only [Bool.and_eq_true] at hm
    obtain ⟨⟨⟨hkl, hma⟩, hmr⟩, hms⟩ := hm
    have hk : σ.length = ins.length := Nat.eq_of_beq_eq_true hkl
    have hlog : m1.log = [] := by simpa using hlog
    obtain ⟨hd1, hent, hJ⟩ := hx.f _ _ _ _ _ hrun
    have hlen : (rows.map fun p => p.2.map (ren (tauM σ m.n))).length = rows.length := by simp
    obtain ⟨s, hs⟩ : ∃ s : Nat → Nat, s = fun i => σ.getD i 0 := ⟨_, rfl⟩
    obtain ⟨τ, hτ⟩ : ∃ τ, τ = tauM σ m.n := ⟨_, rfl⟩
    rw [← hs] at hma hmr
    have hτ1 : ∀ i, i < ins.length → τ i = s i := fun i hi => by rw [hτ, hs]; unfold tauM; rw [blt_t (by omega)]; rfl
    have hτ2 : ∀ i, τ (ins.length + i) = m.n + i := fun i => by rw [hτ]; unfold tauM; rw [blt_f (by omega), hk]; show m.n + (ins.length + i - ins.length) = _; omega
    have hs1 : ∀ i, i < ins.length → sig2 ins.length rows i = i := fun i hi => by unfold sig2; rw [blt_t hi]; rfl
    have hs2 : ∀ i, sig2 ins.length rows (ins.length + i) = sig rows i := fun i => by unfold sig2; rw [blt_f (by omega)]; show sig rows (ins.length + i - ins.length) = _; congr 1; omega
    have hin : ∀ i (hi : i < ins.length), ∃ c, m.obj (s i) = some (.cells c) ∧ rowOk s ins.length c 0 ins[i] = true := fun i hi => by
      have hz : (σ.zip ins)[i]? = some (s i, ins[i]) := by
        rw [List.getElem?_zip_eq_some]
        refine ⟨?_, List.getElem?_eq_getElem hi⟩
        rw [hs]; simp [show i < σ.length by omega]
      exact rowsOk_get hmr i _ hz
    have hinj : ∀ i j, i < ins.length → j < ins.length → s i = s j → i = j := fun i j hi hj e =>
      nodupN_get hms i j (s i) (by rw [hs]; simp [show i < σ.length by omega]) (by rw [e, hs]; simp [show j < σ.length by omega])
    show DStep m (graftL _ m) ∧ _
    rw [← hτ]
    refine ⟨(graftL_step _ m).1, hent, fun φ w args' hR hargs' hF => ?_⟩
    have hgn : (graftM σ rows m).n = m.n + rows.length := by unfold graftM; rw [graftL_n, hlen]
    rw [hgn] at hF
    have hlt : ∀ i, i < ins.length → s i < m.n := fun i hi => by
      obtain ⟨c, hc, _⟩ := hin i hi
      exact Classical.byContradiction fun h => by rw [hR.wf (s i) (by omega)] at hc; cases hc
    -- the memory that is written down, where it is found
    obtain ⟨φL, hφL⟩ : ∃ φL : Phi, φL = fun B => if B < ins.length then φ (s B) else none := ⟨_, rfl⟩
    have hL1 : ∀ i, i < ins.length → φL i = φ (s i) := fun i hi => by rw [hφL]; simp only [if_pos hi]
    have hL2 : ∀ i, ¬ i < ins.length → φL i = none := fun i hi => by rw [hφL]; simp only [if_neg hi]
    have hturnL : ∀ i l, i < ins.length → φ (s i) = some l → φL i = some l := fun i l hi h => by rw [hL1 i hi]; exact h
    have hRL : R φL (memL ins) w := by
      refine ⟨fun B hB => ?_, fun B l hB hl => ?_, fun B₁ B₂ l₁ l₂ h1 h2 hl1 hl2 hb hne => ?_⟩
      · rw [memL_n] at hB
        rw [memL_obj, List.getElem?_eq_none (by omega)]; rfl
      · rw [memL_n] at hB
        rw [hL1 B hB] at hl
        obtain ⟨c, hc, hok⟩ := hin B hB
        obtain ⟨o, ho1, ho2⟩ := hR.obj _ l (hlt B hB) hl
        rw [hc] at ho1; cases ho1
        refine ⟨_, by rw [memL_obj, List.getElem?_eq_getElem hB]; rfl, ?_⟩
        have := rows_rel (φ' := φL) (τ := fun i => i) hturnL hok ho2
        rwa [List.map_congr_left (g := fun x => x) fun x _ => ren_id x, List.map_id'] at this
      · rw [memL_n] at h1 h2
        rw [hL1 _ h1] at hl1
        rw [hL1 _ h2] at hl2
        have key : ∀ B, B < ins.length → dead m (s B) → dead (memL ins) B := fun B hB hd => by
          obtain ⟨c, hc, hok⟩ := hin B hB
          unfold dead at hd ⊢
          rw [hc] at hd
          cases hd
          rw [memL_obj, List.getElem?_eq_getElem hB, row_dead hok]; rfl
        exact (hR.inj _ _ _ _ (hlt _ h1) (hlt _ h2) hl1 hl2 hb fun e => hne (hinj _ _ h1 h2 e)).imp (key _ h1) (key _ h2)
    have hargsL : VRels φL pargs args'.toList := by
      have := eqL1_turn (φ' := φL) (τ := fun i => i) hturnL hma hargs'
      rwa [List.map_congr_left (g := fun x => x) fun x _ => ren1_id x, List.map_id'] at this
    refine (hJ φL w args' hRL hargsL (fun B hB _ => hL2 B (by rw [memL_n] at hB; omega))).mono ?_
    rintro e w' ⟨φ1, v', rfl, hR1, hst, hr1⟩
    have hnoT : ∀ B, ¬ Tou (memL ins) m1 B := fun B ht => by
      obtain ⟨t1, t2, _⟩ := ht
      rw [memL_n] at t1
      rcases t2 with t2 | t2
      · rw [hd1.base, memL_base] at t2; omega
      · rw [hlog] at t2; cases t2
    have hheap : ∀ b, b < w.heap.size → w'.heap[b]? = w.heap[b]? := fun b hb => hst.frame b hb fun B _ _ _ => hnoT B
    obtain ⟨φ', hφ'⟩ : ∃ φ' : Phi, φ' = fun B => if m.n ≤ B ∧ B < m.n + rows.length then φ1 (sig rows (B - m.n)) else φ B := ⟨_, rfl⟩
    have hold : ∀ B, ¬ (m.n ≤ B ∧ B < m.n + rows.length) → φ' B = φ B := fun B hB => by rw [hφ']; simp only [if_neg hB]
    have hnew : ∀ i, i < rows.length → φ' (m.n + i) = φ1 (sig rows i) := fun i hi => by rw [hφ']; simp only [if_pos (show m.n ≤ m.n + i ∧ m.n + i < m.n + rows.length by omega)]; rw [show m.n + i - m.n = i by omega]
    have hle : PLe φ φ' := fun B l hl => by
      by_cases hB : m.n ≤ B ∧ B < m.n + rows.length
      · rw [hF B hB.1 hB.2] at hl; cases hl
      · rw [hold B hB]; exact hl
    have hturn : ∀ i l, i < ins.length + rows.length → φ1 (sig2 ins.length rows i) = some l → φ' (τ i) = some l := fun i l hi hl => by
      by_cases hik : i < ins.length
      · rw [hs1 i hik, hst.ext i (.inl (by rw [memL_n]; exact hik)), hL1 i hik] at hl
        rw [hτ1 i hik, hold _ (by have := hlt i hik; omega)]; exact hl
      · obtain ⟨j, rfl⟩ : ∃ j, i = ins.length + j := ⟨i - ins.length, by omega⟩
        rw [hs2] at hl
        rw [hτ2, hnew j (by omega)]; exact hl
    have hsig : ∀ i (hi : i < rows.length), sig rows i = rows[i].1 := fun i hi => by unfold sig; simp [hi]
    have hge' : ∀ i, i < rows.length → ins.length ≤ sig rows i := fun i hi => by
      rw [hsig i hi]; exact allGe_get hge i _ (by simp [hi])
    have hlt1 : ∀ i, i < rows.length → sig rows i < m1.n := fun i hi => by
      obtain ⟨c, hc, _⟩ := rowsOk_get hrows i rows[i] (by simp [hi])
      rw [hsig i hi]; exact hR1.lt hc
    have hfresh : ∀ i l, i < rows.length → φ1 (sig rows i) = some l → w.heap.size ≤ l.b := fun i l hi hl => by
      rcases hst.fresh (sig rows i) l (by rw [memL_n]; exact hge' i hi) (hlt1 i hi) hl with h | ⟨B0, l0, ht, h, _⟩
      · exact h
      · exact absurd ht (hnoT B0)
    have hobj : ∀ B, B < m.n → (graftM σ rows m).obj B = m.obj B := fun B hB => by unfold graftM; rw [graftL_obj, if_neg (by omega)]
    have hobjN : ∀ i (hi : i < rows.length), (graftM σ rows m).obj (m.n + i) = some (.cells (mkn .lf 0 (rows[i].2.map (ren τ)))) := fun i hi => by
      unfold graftM
      rw [graftL_obj, if_pos (by simp; omega), show m.n + i - m.n = i by omega, hτ]
      simp [hi]
    have hrow : ∀ i (hi : i < rows.length) l, φ1 (sig rows i) = some l → ObjRel φ' w' (.cells (mkn .lf 0 (rows[i].2.map (ren τ)))) l := fun i hi l hl => by
      obtain ⟨c, hc, hok⟩ := rowsOk_get hrows i rows[i] (by simp [hi])
      obtain ⟨ob, ho1, ho2⟩ := hR1.obj (sig rows i) l (hlt1 i hi) hl
      rw [hsig i hi, hc] at ho1
      cases ho1
      exact rows_rel hturn hok ho2
    refine ⟨φ', v', rfl, ⟨fun B hB => ?_, fun B l hB hl => ?_, fun B₁ B₂ l₁ l₂ h1 h2 hl1 hl2 hb hne => ?_⟩, ⟨(graftL_step _ m).1, hle, fun B hB => ?_, fun B l h1 h2 hl => ?_, fun B _ h1 h2 => absurd ((graftL_step _ m).2 B h1) h2, hst.os, hst.tape, hst.output, hst.size, fun b hb _ => hheap b hb⟩, eq2_turn hturn hv hr1⟩
    · exact (graftL_step _ m).1.wf hR.wf B hB
    · rw [hgn] at hB
      by_cases hlt : B < m.n
      · rw [hold B (by omega)] at hl
        obtain ⟨o, h1, h2⟩ := hR.obj B l hlt hl
        exact ⟨o, by rw [hobj B hlt]; exact h1, (h2.mono hle).world (hheap l.b h2.lt)⟩
      · obtain ⟨i, rfl⟩ : ∃ i, B = m.n + i := ⟨B - m.n, by omega⟩
        have hi : i < rows.length := by omega
        rw [hnew i hi] at hl
        exact ⟨_, hobjN i hi, hrow i hi l hl⟩
    · rw [hgn] at h1 h2
      have lt : ∀ B l, B < m.n → φ B = some l → l.b < w.heap.size := fun B l hB hl => by
        obtain ⟨o, _, ho⟩ := hR.obj B l hB hl
        exact ho.lt
      by_cases e1 : B₁ < m.n
      · rw [hold B₁ (by omega)] at hl1
        have := lt B₁ l₁ e1 hl1
        by_cases e2 : B₂ < m.n
        · rw [hold B₂ (by omega)] at hl2
          exact (hR.inj B₁ B₂ l₁ l₂ e1 e2 hl1 hl2 hb hne).imp (fun e => by unfold dead; rw [hobj B₁ e1]; exact e) (fun e => by unfold dead; rw [hobj B₂ e2]; exact e)
        · obtain ⟨i, rfl⟩ : ∃ i, B₂ = m.n + i := ⟨B₂ - m.n, by omega⟩
          rw [hnew i (by omega)] at hl2
          have := hfresh i l₂ (by omega) hl2
          omega
      · obtain ⟨i, rfl⟩ : ∃ i, B₁ = m.n + i := ⟨B₁ - m.n, by omega⟩
        have hi : i < rows.length := by omega
        rw [hnew i hi] at hl1
        by_cases e2 : B₂ < m.n
        · rw [hold B₂ (by omega)] at hl2
          have := lt B₂ l₂ e2 hl2
          have := hfresh i l₁ hi hl1
          omega
        · obtain ⟨j, rfl⟩ : ∃ j, B₂ = m.n + j := ⟨B₂ - m.n, by omega⟩
          have hj : j < rows.length := by omega
          rw [hnew j hj] at hl2
          have hij : sig rows i ≠ sig rows j := fun e => by
            rw [hsig i hi, hsig j hj] at e
            have := nodupN_get hnd i j rows[i].1 (by simp [hi]) (by simp [hj, e])
            omega
          have emp : ∀ k (hk : k < rows.length), dead m1 (sig rows k) → dead (graftM σ rows m) (m.n + k) := fun k hk hdk => by
            obtain ⟨c, hc, hok⟩ := rowsOk_get hrows k rows[k] (by simp [hk])
            unfold dead at hdk
            rw [hsig k hk, hc] at hdk
            cases hdk
            unfold dead
            rw [hobjN k hk, row_dead hok]; rfl
          exact (hR1.inj _ _ l₁ l₂ (hlt1 i hi) (hlt1 j hj) hl1 hl2 hb hij).imp (emp i hi) (emp j hj)
    · rw [hgn] at hB
      exact hold B (by omega)
    · rw [hgn] at h2
      obtain ⟨i, rfl⟩ : ∃ i, B = m.n + i := ⟨B - m.n, by omega⟩
      rw [hnew i (by omega)] at hl
      exact .inl (hfresh i l (by omega) hl)
  · cases h

/-! ### Runs that use such calls -/
structure PreM where
  g : Nat
  args : List Value
  ins : List (List Value)
  v : Value
  rows : List (Nat × List Value)
/-- where the blocks that are written down lie: each is met first where its number is the next -/
def uV (σ : List Nat) (x y : Value) : List Nat := match x, y with
  | .pointer (some a), .pointer (some b) => bif Nat.beq a.block σ.length then σ ++ [b.block] else σ
  | .slice (some a) _ _, .slice (some b) _ _ => bif Nat.beq a.block σ.length then σ ++ [b.block] else σ
  | _, _ => σ
def uL : List Nat → List Value → List Value → List Nat
  | σ, x :: l, y :: k => uL (uV σ x y) l k
  | σ, _, _ => σ
def u1 (σ : List Nat) (x y : Value) : List Nat := match x, y with
  | .agg a, .agg b => uL σ a.toList b.toList
  | _, _ => uV σ x y
def uA : List Nat → List Value → List Value → List Nat
  | σ, x :: l, y :: k => uA (u1 σ x y) l k
  | σ, _, _ => σ
def uRow (c : C) : Nat → List Nat → List Value → List Nat
  | j, σ, x :: l => uRow c (j + 1) (match A.get none j c with
    | some y => uV σ x y
    | none => σ) l
  | _, σ, [] => σ
def uRows (m : M) : Nat → List Nat → List (List Value) → List Nat
  | i, σ, r :: l => uRows m (i + 1) (match m.obj (σ.getD i 0) with
    | some (.cells c) => uRow c 0 σ r
    | _ => σ) l
  | _, σ, [] => σ
def sigM (p : PreM) (args : List Value) (m : M) : List Nat := uRows m 0 (uA [] p.args args) p.ins
def findMa (p : PreM) (σ : List Nat) (args : List Value) (m : M) (r : Option (PreM × List Nat)) : Option (PreM × List Nat) := bif okM p.args p.ins σ args m then some (p, σ) else r
def findM (g : Nat) (args : List Value) (m : M) (l : List PreM) : Option (PreM × List Nat) := List.rec none (fun p _ ih => bif Nat.beq p.g g then findMa p (sigM p args m) args m ih else ih) l
def preMF (P : Program) (l : List Pre) (k : List PreM) (x : Ex) (g : Nat) (args : List Value) (m : M) : Option (Value × M) :=
  Option.rec (preF P l x g args m) (fun p => some (ren2 (tauM p.2 m.n) p.1.v, graftM p.2 p.1.rows m)) (findM g args m k)
def exgm (P : Program) (l : List Pre) (k : List PreM) (n : Nat) : Ex := Nat.rec .bot (fun _ x => ⟨preMF P l k x, yldF P x⟩) n
def PreMOK (P : Program) (p : PreM) : Prop := ∃ x, ExOK P x ∧ chkM p.ins p.rows p.v (x.f p.g p.args (memL p.ins)) = true
theorem findM_some {g : Nat} {args : List Value} {m : M} : ∀ {l : List PreM} {p : PreM} {σ : List Nat}, findM g args m l = some (p, σ) → p ∈ l ∧ p.g = g ∧ okM p.args p.ins σ args m = true
  | [], p, σ, h => by cases h
  | q :: l, p, σ, h => by
    change (bif Nat.beq q.g g then findMa q (sigM q args m) args m (findM g args m l) else findM g args m l) = some (p, σ) at h
    have rest : findM g args m l = some (p, σ) → p ∈ q :: l ∧ p.g = g ∧ okM p.args p.ins σ args m = true := fun h => by
      obtain ⟨h1, h2⟩ := findM_some h
      exact ⟨by simp [h1], h2⟩
    cases hb : Nat.beq q.g g with
    | false => rw [hb] at h; exact rest h
    | true =>
      rw [hb] at h
      change findMa q (sigM q args m) args m (findM g args m l) = some (p, σ) at h
      unfold findMa at h
      cases ho : okM q.args q.ins (sigM q args m) args m with
      | true => rw [ho] at h; cases h; exact ⟨by simp, Nat.eq_of_beq_eq_true hb, ho⟩
      | false => rw [ho] at h; exact rest h
theorem exgm_ok {P : Program} (hP : P.follows .mixedOrders = true) {l : List Pre} {k : List PreM} (hl : ∀ p ∈ l, PreOK2 P p) (hk : ∀ p ∈ k, PreMOK P p) : ∀ n, ExOK P (exgm P l k n)
  | 0 => ⟨fun _ _ _ _ _ h => (by cases h), fun _ _ _ _ _ h => (by cases h)⟩
  | n + 1 => by
    have ih := exgm_ok hP hl hk n
    have hs := Ex.step_ok ih hP
    refine ⟨fun g args m v m' h => ?_, hs.y⟩
    change preMF P l k (exgm P l k n) g args m = some (v, m') at h
    unfold preMF at h
    cases hm : findM g args m k with
    | some q =>
      obtain ⟨p, σ⟩ := q
      rw [hm] at h
      cases h
      obtain ⟨h1, rfl, h2⟩ := findM_some hm
      obtain ⟨x, hx, h3⟩ := hk p h1
      exact graftM_ok hx h3 h2
    | none =>
      rw [hm] at h
      change preF P l (exgm P l k n) g args m = some (v, m') at h
      unfold preF at h
      cases hf : findP g args l with
      | none => rw [hf] at h; exact hs.f g args m v m' h
      | some p =>
        rw [hf] at h
        cases h
        obtain ⟨h1, rfl, rfl⟩ := findP_some hf
        obtain ⟨h2, x, hx, h3⟩ := hl p h1
        exact graft_ok hx h2 h3 m
theorem exgm_true {P : Program} (hP : P.follows .mixedOrders = true) {l : List Pre} {k : List PreM} (hl : ∀ p ∈ l, PreOK2 P p) (hk : ∀ p ∈ k, PreMOK P p) {n g : Nat} {m : M} (h : (exgm P l k n).f g [] M.empty = some (.bool true, m)) (w : World) :
    Calls P g #[] w fun e w' => e = .returned (.bool true) ∧ Below w.heap.size w w' := by
  obtain ⟨_, _, h3⟩ := (exgm_ok hP hl hk n).f _ _ _ _ _ h
  refine (h3 (fun _ => none) w #[] (R.empty w) .nil (fun _ _ _ => rfl)).mono ?_
  rintro e w' ⟨φ', v', rfl, _, hs, hr⟩
  refine ⟨by rw [hr.bool_inv], hs.os, hs.tape, hs.output, hs.size, fun k hk => hs.frame k hk fun _ _ h => by cases h⟩
/-- by evaluators that use what was run -/
theorem PreMOK.of {P : Program} (hP : P.follows .mixedOrders = true) {l : List Pre} {k : List PreM} (hl : ∀ p ∈ l, PreOK2 P p) (hk : ∀ p ∈ k, PreMOK P p) {n : Nat} {p : PreM} (h : chkM p.ins p.rows p.v ((exgm P l k n).f p.g p.args (memL p.ins)) = true) : PreMOK P p := ⟨_, exgm_ok hP hl hk n, h⟩
theorem PreOK2.of {P : Program} (hP : P.follows .mixedOrders = true) {l : List Pre} {k : List PreM} (hl : ∀ p ∈ l, PreOK2 P p) (hk : ∀ p ∈ k, PreMOK P p) {n : Nat} {p : Pre} (ha : p.args.all scalar = true) (h : chk p.rows p.v ((exgm P l k n).f p.g p.args M.empty) = true) : PreOK2 P p := ⟨ha, _, exgm_ok hP hl hk n, h⟩
end
end Go.Dx
