/- Contracts. -/
import Derived.Test.YtblkdbffpjlkaaaGreatGc
import Derived.Test.YtblkdbffpjlkaaaGreatGe
import Derived.Test.YtblkdbffpjlkaaaGreatGb1
set_option linter.unusedVariables false
set_option linter.unusedSimpArgs false
set_option linter.defProp false
set_option linter.unusedSectionVars false
/- Calls that write some blocks that were there. -/
namespace Go.Dx
theorem note_mem {bs B : Nat} {wl : List Nat} {C : Nat} (h : C ∈ note bs B wl) : C ∈ wl ∨ (C = B ∧ B < bs) := by
  unfold note at h
  cases hb : Nat.ble bs B with
  | true => rw [hb] at h; exact .inl h
  | false =>
    rw [hb] at h
    have hlt : B < bs := by
      rcases Nat.lt_or_ge B bs with h' | h'
      · exact h'
      · rw [Nat.ble_eq_true_of_le h'] at hb; cases hb
    cases wl with
    | nil => exact .inr ⟨List.mem_singleton.1 h, hlt⟩
    | cons D l =>
      simp only [cond_false] at h
      cases hd : Nat.beq B D with
      | true => rw [hd] at h; exact .inl h
      | false =>
        rw [hd] at h
        rcases List.mem_cons.1 h with rfl | h
        · exact .inr ⟨rfl, hlt⟩
        · exact .inl h
theorem notes_mem {bs : Nat} : ∀ {l wl : List Nat} {C : Nat}, C ∈ notes bs wl l → C ∈ wl ∨ C ∈ l
  | [], _, _, h => .inl h
  | B :: l, wl, C, h => by
    rcases notes_mem (l := l) (wl := note bs B wl) h with h | h
    · rcases note_mem h with h | ⟨rfl, _⟩
      · exact .inl h
      · exact .inr (List.mem_cons_self ..)
    · exact .inr (List.mem_cons_of_mem _ h)
/-- what a call leaves that writes the blocks W of those that were there -/
structure Mc (m m' : M) (W : List Nat) : Prop where
  n : m.n ≤ m'.n
  obj : ∀ B, B < m.n → B ∉ W → m'.obj B = m.obj B
  base : m'.base = m.base
  log : ∀ B ∈ m'.log, B ∈ m.log ∨ B ∈ W
  low : (∀ B ∈ W, m.base ≤ B) → m'.log = m.log
section
variable {a b c m m' m0 : M} {W W' : List Nat}
theorem Mc.refl : Mc m m W := ⟨Nat.le_refl _, fun _ _ _ => rfl, rfl, fun _ h => .inl h, fun _ => rfl⟩
theorem Mc.trans (h : Mc a b W) (k : Mc b c W) : Mc a c W :=
  ⟨Nat.le_trans h.n k.n, fun B hB hW => (k.obj B (Nat.lt_of_lt_of_le hB h.n) hW).trans (h.obj B hB hW), k.base.trans h.base, fun B hB => by
    rcases k.log B hB with h' | h'
    · exact h.log B h'
    · exact .inr h', fun hW => (k.low (by rw [h.base]; exact hW)).trans (h.low hW)⟩
theorem Ext.mc (h : Ext m m') : Mc m m' W := ⟨h.n, fun B hB _ => h.obj B hB, h.base, fun B hB => .inl (by rw [← h.log]; exact hB), fun _ => h.log⟩
theorem Mc.behind (h : Mc (forAny m) m' W) : Mc m (Dx.behind m m') W := by
  have hl : ∀ B ∈ m'.log, B ∈ W := fun B hB => by
    rcases h.log B hB with h' | h'
    · rw [forAny_log] at h'; cases h'
    · exact h'
  refine ⟨by rw [behind_n]; have := h.n; rwa [forAny_n] at this, fun B hB hW => by rw [behind_obj, h.obj B (by rw [forAny_n]; exact hB) hW, forAny_obj], behind_base _ _, fun B hB => ?_, fun hW => ?_⟩
  · rw [behind_log] at hB
    rcases notes_mem hB with h' | h'
    · exact .inl h'
    · exact .inr (hl B h')
  · rw [behind_log]
    exact notes_ge fun B hB => hW B (hl B hB)
theorem put_log (m : M) (B : Nat) (o : DObj) : (m.put B o).log = note m.base B m.log := by cases m; rfl
/-- cells are written -/
theorem putN_log {B o : Nat} {l l0 : List Value} (h : Arr m B l0) (hne : l ≠ []) (hn : o + l.length ≤ l0.length) (hl : ∀ v ∈ l, okC v = true) : (putN m B o l).log = note m.base B m.log := by
  obtain ⟨c, hc, hcl⟩ := h
  obtain ⟨v0, vs, rfl⟩ : ∃ v0 vs, l = v0 :: vs := by
    cases l with
    | nil => exact absurd rfl hne
    | cons a b => exact ⟨a, b, rfl⟩
  obtain ⟨c', e', _⟩ := stn_of (vs := v0 :: vs) (o := o) hcl hn hl
  have hs : stores m ⟨B, o, none⟩ (v0 :: vs) = some (m.put B (.cells c')) := by
    show ob (oCells (m.obj B)) _ = _
    rw [hc]
    show ob (stn c o (v0 :: vs)) _ = _
    rw [e']; rfl
  have hp : putN m B o (v0 :: vs) = m.put B (.cells c') := by unfold putN; rw [hs]; rfl
  rw [hp, put_log]
/-- blocks that may be written: one's own, and those of W -/
structure Ow (m0 m : M) (W : List Nat) (σ : List (Nat × List Value)) : Prop where
  mc : Mc m0 m W
  base : m0.base ≤ m0.n
  arr : ∀ p ∈ σ, (p.1 ∈ W ∨ m0.n ≤ p.1) ∧ p.1 < m.n ∧ Arr m p.1 p.2
  nd : (σ.map (·.1)).Nodup
variable {σ σ' : List (Nat × List Value)} {k B o : Nat} {l l' : List Value}
theorem Ow.mb (h : Ow m0 m W σ) : m.base ≤ m.n := by rw [h.mc.base]; exact Nat.le_trans h.base h.mc.n
theorem Ow.get (h : Ow m0 m W σ) (k : Nat) (hk : σ[k]? = some (B, l)) : (B ∈ W ∨ m0.n ≤ B) ∧ B < m.n ∧ Arr m B l := h.arr _ (List.mem_of_getElem? hk)
theorem Ow.step (h : Ow m0 m W σ) (e : Ext m m') : Ow m0 m' W σ :=
  ⟨h.mc.trans e.mc, h.base, fun p hp => let ⟨h1, h2, h3⟩ := h.arr p hp; ⟨h1, Nat.lt_of_lt_of_le h2 e.n, h3.congr (e.obj _ h2)⟩, h.nd⟩
theorem Ow.sub (h : Ow m0 m W σ) (hs : ∀ p ∈ σ', p ∈ σ) (hn : (σ'.map (·.1)).Nodup) : Ow m0 m W σ' := ⟨h.mc, h.base, fun p hp => h.arr p (hs p hp), hn⟩
theorem Ow.row (h : Ow m0 m W σ) (l : List Value) : Ow m0 (newRow m l) W ((m.n, l) :: σ) := by
  have h' := h.step (Ext.row m l)
  refine ⟨h'.mc, h.base, fun p hp => ?_, ?_⟩
  · rcases List.mem_cons.1 hp with rfl | hp
    · exact ⟨.inr h.mc.n, by rw [newRow_n]; exact Nat.lt_succ_self _, Arr.row m l⟩
    · exact h'.arr p hp
  · rw [List.map_cons, List.nodup_cons]
    refine ⟨fun hm => ?_, h.nd⟩
    obtain ⟨q, hq, e⟩ := List.mem_map.1 hm
    have := (h.arr q hq).2.1
    omega
/-- one of the blocks has changed -/
theorem Ow.put (h : Ow m0 m W σ) (k : Nat) (hk : σ[k]? = some (B, l)) (hn : m'.n = m.n) (hb : m'.base = m.base) (hlog : ∀ C ∈ m'.log, C ∈ m.log ∨ (C = B ∧ B < m.base)) (hlow : m.base ≤ B → m'.log = m.log) (ho : ∀ X, X ≠ B → m'.obj X = m.obj X) (ha : Arr m' B l') : Ow m0 m' W (σ.set k (B, l')) := by
  obtain ⟨hk', hke⟩ := List.getElem?_eq_some_iff.1 hk
  obtain ⟨hb0, hb1, hb2⟩ := h.get k hk
  have hmb := h.mc.base
  have hb3 := h.base
  have hmn := h.mc.n
  have hne : ∀ C, C < m0.n → C ∉ W → C ≠ B := fun C hC hW e => by
    subst e
    rcases hb0 with h0 | h0
    · exact hW h0
    · omega
  refine ⟨⟨by rw [hn]; exact hmn, fun C hC hW => (ho C (hne C hC hW)).trans (h.mc.obj C hC hW), hb.trans hmb, fun C hC => ?_, fun hW => ?_⟩, h.base, fun p hp => ?_, ?_⟩
  · rcases hlog C hC with h' | ⟨rfl, h'⟩
    · exact h.mc.log C h'
    · rcases hb0 with h0 | h0
      · exact .inr h0
      · omega
  · rw [hlow ?_, h.mc.low hW]
    rcases hb0 with h0 | h0
    · rw [hmb]; exact hW _ h0
    · omega
  · obtain ⟨j, hj, rfl⟩ := List.getElem_of_mem hp
    rw [List.getElem_set]
    rw [List.length_set] at hj
    split
    · exact ⟨hb0, by rw [hn]; exact hb1, ha⟩
    · rename_i hne
      obtain ⟨h1, h2, h3⟩ := h.arr _ (List.getElem_mem hj)
      refine ⟨h1, by rw [hn]; exact h2, h3.congr (ho _ fun e => hne ?_)⟩
      exact (nodup_at h.nd (List.getElem?_eq_getElem hj) hk e).symm
  · have : (σ.set k (B, l')).map (·.1) = σ.map (·.1) := by
      rw [List.map_set]
      show (σ.map (·.1)).set k B = _
      refine List.ext_getElem (by simp) fun i h1 h2 => ?_
      rw [List.getElem_set]
      split
      · subst_vars; simp [hke]
      · rfl
    rw [this]; exact h.nd
/-- cells of a block are written -/
theorem Ow.storeN (h : Ow m0 m W σ) (k : Nat) (hk : σ[k]? = some (B, l)) {n : Nat} (hn0 : 0 < n) (hl' : l'.length = n) (hn : o + n ≤ l.length) (hv : ∀ v ∈ l', okC v = true) :
    ∃ m', storeS n (.pointer (some ⟨B, o, none⟩)) (.agg ⟨l'⟩) m = some (undef, m') ∧ Ow m0 m' W (σ.set k (B, over l o l')) ∧ m'.n = m.n ∧ ∀ X, X ≠ B → m'.obj X = m.obj X := by
  obtain ⟨h1, h2, h3⟩ := h.get k hk
  have hne : l' ≠ [] := fun e => by rw [e] at hl'; simp at hl'; omega
  have e := storeS_arr (n := n) (o := o) (v := .agg ⟨l'⟩) (l := l') h3 rfl hl' hn hv
  obtain ⟨_, s2, s3, s4, s5, s6⟩ := stores_putN (o := o) (l := l') h3 (by omega) hv
  exact ⟨_, e, h.put k hk s3 s4 (fun C hC => by rw [putN_log h3 hne (by omega) hv] at hC; exact note_mem hC) s6 s5 s2, s3, s5⟩
theorem Ow.store (h : Ow m0 m W σ) (k : Nat) (hk : σ[k]? = some (B, l)) {v : Value} (ho : o < l.length) (hv : okC v = true) :
    ∃ m', storeS 1 (.pointer (some ⟨B, o, none⟩)) v m = some (undef, m') ∧ Ow m0 m' W (σ.set k (B, l.set o v)) ∧ m'.n = m.n ∧ ∀ X, X ≠ B → m'.obj X = m.obj X := by
  obtain ⟨h1, h2, h3⟩ := h.get k hk
  have hcv : cellsV v = some [v] := by cases v <;> first | rfl | simp [okC] at hv
  have e := storeS_arr (n := 1) (o := o) h3 hcv rfl (by omega) (by simpa using hv)
  obtain ⟨_, s2, s3, s4, s5, s6⟩ := stores_putN (o := o) (l := [v]) h3 (by simp; omega) (by simpa using hv)
  exact ⟨_, e, h.put k hk s3 s4 (fun C hC => by rw [putN_log h3 (by simp) (by simp; omega) (by simpa using hv)] at hC; exact note_mem hC) s6 s5 s2, s3, s5⟩
/-- the same, of a region that draws -/
theorem Ow.storeNAny (h : Ow m0 m W σ) (k : Nat) (hk : σ[k]? = some (B, l)) {n : Nat} (hn0 : 0 < n) (hl' : l'.length = n) (hn : o + n ≤ l.length) (hv : ∀ v ∈ l', okC v = true) :
    ∃ m', storeS n (.pointer (some ⟨B, o, none⟩)) (.agg ⟨l'⟩) (forAny m) = some (undef, m') ∧ m'.log = [B] ∧ Ow m0 (Dx.behind m m') W (σ.set k (B, over l o l')) ∧ (Dx.behind m m').n = m.n ∧ ∀ X, X ≠ B → (Dx.behind m m').obj X = m.obj X := by
  obtain ⟨h1, h2, h3⟩ := h.get k hk
  have h3' : Arr (forAny m) B l := h3.congr (forAny_obj m B)
  have hne : l' ≠ [] := fun e => by rw [e] at hl'; simp at hl'; omega
  have e := storeS_arr (n := n) (o := o) (v := .agg ⟨l'⟩) (l := l') h3' rfl hl' hn hv
  obtain ⟨_, s2, s3, s4, s5, s6⟩ := stores_putN (o := o) (l := l') h3' (by omega) hv
  have hlog : (putN (forAny m) B o l').log = [B] := by
    rw [putN_log h3' hne (by omega) hv, forAny_base, forAny_log]
    unfold note
    have : Nat.ble m.n B = false := by
      cases q : Nat.ble m.n B with
      | false => rfl
      | true => exact absurd (Nat.le_of_ble_eq_true q) (by omega)
    rw [this]; rfl
  have hbl : (Dx.behind m (putN (forAny m) B o l')).log = note m.base B m.log := by rw [behind_log, hlog]; rfl
  refine ⟨_, e, hlog, h.put k hk (by rw [behind_n, s3, forAny_n]) (behind_base _ _) (fun C hC => by rw [hbl] at hC; exact note_mem hC) (fun hb => by rw [hbl, note_ge hb]) (fun X hX => by rw [behind_obj, s5 X hX, forAny_obj]) (s2.congr (behind_obj _ _ _)), by rw [behind_n, s3, forAny_n], fun X hX => by rw [behind_obj, s5 X hX, forAny_obj]⟩
theorem Ow.storeAny (h : Ow m0 m W σ) (k : Nat) (hk : σ[k]? = some (B, l)) {v : Value} (ho : o < l.length) (hv : okC v = true) :
    ∃ m', storeS 1 (.pointer (some ⟨B, o, none⟩)) v (forAny m) = some (undef, m') ∧ m'.log = [B] ∧ Ow m0 (Dx.behind m m') W (σ.set k (B, l.set o v)) ∧ (Dx.behind m m').n = m.n ∧ ∀ X, X ≠ B → (Dx.behind m m').obj X = m.obj X := by
  have hcv : cellsV v = some [v] := by cases v <;> first | rfl | simp [okC] at hv
  obtain ⟨m', e, r⟩ := h.storeNAny k hk (o := o) (l' := [v]) (n := 1) (by omega) rfl (by omega) (by simpa using hv)
  refine ⟨m', ?_, r⟩
  have h3' : Arr (forAny m) B l := (h.get k hk).2.2.congr (forAny_obj m B)
  have e1 := storeS_arr (n := 1) (o := o) h3' hcv rfl (by omega) (by simpa using hv)
  have e2 := storeS_arr (n := 1) (o := o) (v := .agg ⟨[v]⟩) (l := [v]) h3' rfl rfl (by omega) (by simpa using hv)
  exact e1.trans (e2.symm.trans e)
/-- what a call wrote -/
theorem Ow.call (h : Ow m0 m W σ) (k : Mc m m' W) (hσ : ∀ p ∈ σ', (∃ q ∈ σ, q.1 = p.1) ∧ Arr m' p.1 p.2) (hn : (σ'.map (·.1)).Nodup) : Ow m0 m' W σ' :=
  ⟨h.mc.trans k, h.base, fun p hp => by
    obtain ⟨⟨q, hq, e⟩, ha⟩ := hσ p hp
    obtain ⟨h1, h2, _⟩ := h.arr q hq
    rw [e] at h1 h2
    exact ⟨h1, Nat.lt_of_lt_of_le h2 k.n, ha⟩, hn⟩
theorem Ow.rd (h : Ow m0 m W σ) {α : Type} {v : Value} {e : Nat} {f : α → List Value} {es : List α} (hr : Rd m0 v e f es) (hs : ∀ B, blk v = some B → B ∉ W) : Rd m v e f es :=
  hr.congr h.mc.n fun B hB => h.mc.obj B (hr.lt B hB) (hs B hB)
theorem Ow.start (hb : m0.base ≤ m0.n) (hσ : ∀ p ∈ σ, p.1 ∈ W ∧ p.1 < m0.n ∧ Arr m0 p.1 p.2) (hn : (σ.map (·.1)).Nodup) : Ow m0 m0 W σ :=
  ⟨Mc.refl, hb, fun p hp => let ⟨a, b, c⟩ := hσ p hp; ⟨.inl a, b, c⟩, hn⟩
/-- an end that gives a block's cells -/
theorem fin_cell {m : M} {Q : Value → M → Prop} {t : Tm} {p n : Nat} {a : Addr} {l : List Value} (h1 : Tm.get p t = .pointer (some a)) (h2 : loads m a n = some l) (hq : Q (.agg ⟨l⟩) m) : FinR Q (resK [.cell p n] t m) := by
  refine ⟨tupV [.agg ⟨l⟩], m, ?_, hq⟩
  have hr : resV t m [.cell p n] = some [.agg ⟨l⟩] := by simp only [resV, resOne, h1, vPtr_ptr, ob_some', h2]
  rw [resK_ap, hr, ob_some', fin_out]
theorem fin_1 {m : M} {Q : Value → M → Prop} {t : Tm} {p : Nat} (hq : Q (Tm.get p t) m) : FinR Q (resK [.t p] t m) := by
  refine ⟨tupV [Tm.get p t], m, ?_, hq⟩
  rw [resK_ap, show resV t m [.t p] = some [Tm.get p t] from rfl, ob_some', fin_out]
end
end Go.Dx
namespace Go.Sx
open Go.Dx Go.Proofs
set_option maxRecDepth 10000
/-- what a machine wants -/
structure Wt where
  what : Int
  loc : Int
  mode : Int
  val : U
  ex : Bool
def wtL (w : Wt) : List Value := [iv w.what, iv w.loc, iv w.mode, uv w.val.1, .bool w.ex, .bool false]
def u0 : U := ⟨0, by omega⟩
def wt0 : Wt := ⟨0, 0, 0, u0, false⟩
/-- a machine's state -/
structure Ms where
  at_ : Nat
  ls : List U
  now : Wt
  asked : Bool
  old : U
  opn : Bool
def lsR (ls : List U) : List Value := ls.map fun u => uv u.1
theorem lsR_flat (ls : List U) : ls.flatMap wordRow = lsR ls := by
  unfold lsR
  induction ls with
  | nil => rfl
  | cons u ls ih => rw [List.flatMap_cons, ih]; rfl
/-- the code that stands in the locals' slice (of a new machine 3, of a clone's 2) -/
class Cdf where
  cd : Nat
variable [Cdf]
def lvV (Lb k : Nat) : Value := .slice (some ⟨Lb, 0, some Cdf.cd⟩) k k
def msRow (k : Nat) (av lv : Value) (s : Ms) : List Value := [iv k, av, iv s.at_, lv, iv s.now.what, iv s.now.loc, iv s.now.mode, uv s.now.val.1, .bool s.now.ex, .bool false, .bool s.asked, uv s.old.1, .bool s.opn]
theorem rd_ls {m : M} {Lb : Nat} {ls : List U} (h : Arr m Lb (lsR ls)) (hB : Lb < m.n) : Rd m (lvV Lb ls.length) 1 wordRow ls := by
  rw [← lsR_flat] at h
  exact rd_made (f := wordRow) (fun _ => rfl) h hB
/-- an expression's value -/
def valE (ls : List U) (es : List Nd) : U := ⟨valV ls es (es.length - 1), valV_lt _ _ _⟩
def locV (ls : List U) (a : Ac) : Int := if a.size = 0 then a.base else a.base + (((valE ls a.ixs).1 &&& (a.size.toNat - 1) : Nat) : Int)
def rdM (m : Int) : Int := if m = 2 then 2 else if m = 4 then 2 else if m = 5 then 5 else 1
def wrM (m : Int) : Int := if m = 3 then 3 else if m = 4 then 3 else if m = 5 then 5 else 1
def addU (u v : U) : U := ⟨(u.1 + v.1) % 18446744073709551616, Nat.mod_lt _ (by omega)⟩
/-- what an act that is whole has -/
structure AcG (k na : Nat) (cells : Int) (a : Ac) : Prop where
  op : 1 ≤ a.op ∧ a.op ≤ 10
  may : mayB a.op a.mode = true
  dst : dstB (pD a.op) k a.dst = true
  pl : plB (pP a.op) cells k a = true
  es : esB (pE a.op) (pF a.op) k a = true
  to : toB (pT a.op) na a.to = true
theorem actB_g {k na : Nat} {cells : Int} {a : Ac} (h : actB cells k na a = true) : AcG k na cells a := by
  unfold actB at h
  simp only [Bool.and_eq_true, decide_eq_true_eq] at h
  exact ⟨h.1, h.2.1, h.2.2.1, h.2.2.2.1, h.2.2.2.2.1, h.2.2.2.2.2⟩
theorem AcG.e {k na : Nat} {cells : Int} {a : Ac} (h : AcG k na cells a) (he : pE a.op = true) : exprB k a.es = true := by
  have := h.es
  unfold esB at this
  simp only [Bool.and_eq_true] at this
  have h2 := this.1.2
  rw [he] at h2
  simpa using h2
theorem AcG.f {k na : Nat} {cells : Int} {a : Ac} (h : AcG k na cells a) (he : pF a.op = true) : exprB k a.fs = true := by
  have := h.es
  unfold esB at this
  simp only [Bool.and_eq_true] at this
  have h2 := this.2
  rw [he] at h2
  simpa using h2
theorem AcG.p {k na : Nat} {cells : Int} {a : Ac} (h : AcG k na cells a) (he : pP a.op = true) : placeB cells k a = true := by
  have := h.pl
  unfold plB at this
  rw [he] at this
  simpa using this
theorem AcG.d {k na : Nat} {cells : Int} {a : Ac} (h : AcG k na cells a) (he : pD a.op = true) : 0 ≤ a.dst ∧ a.dst < k := by
  have := h.dst
  unfold dstB at this
  rw [he] at this
  simpa using this
theorem AcG.t {k na : Nat} {cells : Int} {a : Ac} (h : AcG k na cells a) (he : pT a.op = true) : 0 ≤ a.to ∧ a.to ≤ na := by
  have := h.to
  unfold toB at this
  rw [he] at this
  simpa using this
theorem value_u {k : Nat} {ls : List U} (hk : ls.length = k) {e : List Nd} {ed ld : Value} (he : exprB k e = true) (N : Nat) (m : M) (hm : m.base ≤ m.n) (hed : Rd m ed 4 nodeRow e) (hld : Rd m ld 1 wordRow ls) :
    CallV (ex Tryz.prog (N + 3)) 38 [ed, ld] m (uv (valE ls e).1) := by
  obtain ⟨x1, x2, x3⟩ := exprB_oks he
  exact value_c ls e ed ld x2 x1 (by rw [hk]; exact x3) N m hm hed hld
/-- the machine lies in its blocks -/
structure MsAt (m : M) (Mb Lb : Nat) (k : Nat) (av : Value) (s : Ms) : Prop where
  row : Arr m Mb (msRow k av (lvV Lb k) s)
  ls : Arr m Lb (lsR s.ls)
  len : s.ls.length = k
  mb : Mb < m.n
  lb : Lb < m.n
theorem MsAt.rd {m : M} {Mb Lb k : Nat} {av : Value} {s : Ms} (h : MsAt m Mb Lb k av s) : Rd m (lvV Lb k) 1 wordRow s.ls := by
  have := rd_ls h.ls h.lb
  rwa [h.len] at this
theorem MsAt.congr {m m' : M} {Mb Lb k : Nat} {av : Value} {s : Ms} (h : MsAt m Mb Lb k av s) (hn : m.n ≤ m'.n) (h1 : m'.obj Mb = m.obj Mb) (h2 : m'.obj Lb = m.obj Lb) : MsAt m' Mb Lb k av s :=
  ⟨h.row.congr h1, h.ls.congr h2, h.len, Nat.lt_of_lt_of_le h.mb hn, Nat.lt_of_lt_of_le h.lb hn⟩
theorem MsAt.ext {m m' : M} {Mb Lb k : Nat} {av : Value} {s : Ms} (h : MsAt m Mb Lb k av s) (e : Ext m m') : MsAt m' Mb Lb k av s := h.congr e.n (e.obj _ h.mb) (e.obj _ h.lb)
theorem MsAt.any {m : M} {Mb Lb k : Nat} {av : Value} {s : Ms} (h : MsAt m Mb Lb k av s) : MsAt (forAny m) Mb Lb k av s := h.congr (by rw [forAny_n]; exact Nat.le_refl _) (forAny_obj _ _) (forAny_obj _ _)
theorem MsAt.l1 {m : M} {Mb Lb k : Nat} {av : Value} {s : Ms} (h : MsAt m Mb Lb k av s) : ∀ o s', load1 m ⟨Mb, o, s'⟩ = (msRow k av (lvV Lb k) s)[o]? := fun o s' => h.row.load1 o s'
abbrev mP (Mb : Nat) : Value := .pointer (some ⟨Mb, 0, none⟩)
theorem reading_c (n : Nat) {mode : Int} (h1 : 1 ≤ mode) (h2 : mode ≤ 5) (m : M) : CallV (ex Tryz.prog (n + 1)) 64 [iv mode] m (iv (rdM mode)) := by
  refine call_ret de9_ok (by simp) ?_
  have b : buildV [.int .i64 0, .int .i64 0, .int .i64 0, .int .i64 0, .int .i64 0, .int .i64 0] [(1, 1, .int .i64 1), (2, 1, .int .i64 2), (3, 1, .int .i64 1), (4, 1, .int .i64 2), (5, 1, .int .i64 5)] = some (.agg ⟨[.int .i64 0, .int .i64 1, .int .i64 2, .int .i64 1, .int .i64 2, .int .i64 5]⟩) := rfl
  have key : idxG 6 false 1 (.agg ⟨[.int .i64 0, .int .i64 1, .int .i64 2, .int .i64 1, .int .i64 2, .int .i64 5]⟩) (.int .i64 mode) = some (iv (rdM mode)) := by
    rcases (by omega : mode = 1 ∨ mode = 2 ∨ mode = 3 ∨ mode = 4 ∨ mode = 5) with rfl | rfl | rfl | rfl | rfl <;> rfl
  simp [b, pIdx_ap, key]
  exact ret_1 (Ext.refl m) (by simp)
theorem writing_c (n : Nat) {mode : Int} (h1 : 1 ≤ mode) (h2 : mode ≤ 5) (m : M) : CallV (ex Tryz.prog (n + 1)) 65 [iv mode] m (iv (wrM mode)) := by
  refine call_ret df0_ok (by simp) ?_
  have b : buildV [.int .i64 0, .int .i64 0, .int .i64 0, .int .i64 0, .int .i64 0, .int .i64 0] [(1, 1, .int .i64 1), (2, 1, .int .i64 1), (3, 1, .int .i64 3), (4, 1, .int .i64 3), (5, 1, .int .i64 5)] = some (.agg ⟨[.int .i64 0, .int .i64 1, .int .i64 1, .int .i64 3, .int .i64 3, .int .i64 5]⟩) := rfl
  have key : idxG 6 false 1 (.agg ⟨[.int .i64 0, .int .i64 1, .int .i64 1, .int .i64 3, .int .i64 3, .int .i64 5]⟩) (.int .i64 mode) = some (iv (wrM mode)) := by
    rcases (by omega : mode = 1 ∨ mode = 2 ∨ mode = 3 ∨ mode = 4 ∨ mode = 5) with rfl | rfl | rfl | rfl | rfl <;> rfl
  simp [b, pIdx_ap, key]
  exact ret_1 (Ext.refl m) (by simp)
theorem placeB_g {cells : Int} {k : Nat} {a : Ac} (h : placeB cells k a = true) : 0 ≤ a.size ∧ a.size ≤ 1024 ∧ 0 ≤ a.base ∧ a.base ≤ cells ∧ (a.size = 0 ∨ exprB k a.ixs = true) := by
  unfold placeB at h
  simp only [Bool.and_eq_true, decide_eq_true_eq] at h
  refine ⟨h.1.1.1.1, h.1.1.1.2, h.1.2.1, by have := h.1.2.2; omega, ?_⟩
  by_cases h0 : a.size = 0
  · exact .inl h0
  · have := h.2
    rw [if_neg h0] at this
    exact .inr this
theorem loc_c (k : Nat) {cells : Int} (hc : cells ≤ 4096) (a : Ac) (hpl : placeB cells k a = true) (av : Value) (s : Ms) (Mb Lb : Nat) (N : Nat) (m : M) (hm : m.base ≤ m.n) (hM : MsAt m Mb Lb k av s) (ha : AcOK m a) :
    CallV (ex Tryz.prog (N + 4)) 63 [mP Mb, .agg ⟨acRow a⟩] m (iv (locV s.ls a)) := by
  refine call_ret de8_ok (by simp) ?_
  obtain ⟨p1, p2, p3, p4, p5⟩ := placeB_g hpl
  have st1 := (St.nil hm (Ext.refl m)).row (acRow a)
  obtain ⟨m1, hm1⟩ : ∃ m1, m1 = Dx.newRow m (acRow a) := ⟨_, rfl⟩
  rw [← hm1] at st1
  have la : ∀ o s, load1 m1 ⟨m.n, o, s⟩ = (acRow a)[o]? := fun o s => (st1.get 0 rfl).2.2.load1 o s
  have hM1 := hM.ext st1.ext
  have lM := hM1.l1
  have ha1 := ha.sees st1.sees
  simp only [acRow] at la
  simp only [msRow] at lM
  by_cases h0 : a.size = 0
  · have hl : locV s.ls a = a.base := if_pos h0
    have d0 : decide (a.size = 0) = true := decide_eq_true h0
    rw [hl]
    simp [← hm1, la, d0]
    exact ret_1 st1.ext (by simp)
  · have d0 : decide (a.size = 0) = false := decide_eq_false h0
    have he : exprB k a.ixs = true := by rcases p5 with h | h; exact absurd h h0; exact h
    obtain ⟨z, hz⟩ : ∃ z : Nat, a.size = ((z + 1 : Nat) : Int) := ⟨a.size.toNat - 1, by omega⟩
    have hzz : a.size.toNat - 1 = z := by omega
    obtain ⟨v3, m3', c1, c2, c3, rfl⟩ := any_call (value_u hM.len he (N) (forAny m1) (sees_any st1.sees).base (ha.ix.sees (sees_any st1.sees)) hM1.any.rd)
    obtain ⟨m3, hm3⟩ : ∃ m3, m3 = behind m1 m3' := ⟨_, rfl⟩
    rw [← hm3] at c3
    have st3 := st1.step c3
    have la3 : ∀ o s, load1 m3 ⟨m.n, o, s⟩ = (acRow a)[o]? := fun o s => (st3.get 0 rfl).2.2.load1 o s
    simp only [acRow] at la3
    obtain ⟨w, hw⟩ : ∃ w, w = valE s.ls a.ixs := ⟨_, rfl⟩
    rw [← hw] at c1
    have q1 : binV .sub (.int .i64 a.size) (.int .i64 1) = some (.int .i64 (z : Int)) := by rw [binV_sub, hz, wrap64 _ (by omega) (by omega)]; congr 2; omega
    have q2 := convI_u64 z (by omega)
    have q3 := u_and (a := w.1) (b := z) w.2 (by omega)
    obtain ⟨r, hr⟩ : ∃ r, r = w.1 &&& z := ⟨_, rfl⟩
    have hrz : r ≤ z := by rw [hr]; exact Nat.and_le_right
    rw [← hr] at q3
    have q4 : convIV .i64 (.int .u64 (r : Int)) = some (.int .i64 (r : Int)) := by
      show some (Value.int .i64 (wrapF .i64 (r : Int))) = _
      rw [wrapF_eq, wrap64 _ (by omega) (by omega)]
    have q5 : binV .add (.int .i64 a.base) (.int .i64 (r : Int)) = some (.int .i64 (a.base + r)) := by rw [binV_add, wrap64 _ (by omega) (by omega)]
    have hl : locV s.ls a = a.base + (r : Int) := by unfold locV; rw [if_neg h0, ← hw, hzz, hr]
    rw [hl]
    simp [-binV_sub, -binV_add, ← hm1, la, d0, lM, c1, c2, la3, q1, q2, q3, q4, q5, ← hm3]
    exact ret_1 st3.ext (by simp)
end Go.Sx
namespace Go.Sx
open Go.Dx Go.Proofs
set_option maxRecDepth 10000
variable [Cdf]
/-- what an act that wants something wants -/
def wantOf (s : Ms) (a : Ac) : Wt :=
  if a.op = 2 then ⟨1, locV s.ls a, a.mode, u0, false⟩
  else if a.op = 3 then ⟨2, locV s.ls a, a.mode, valE s.ls a.es, false⟩
  else if a.op = 7 then ⟨3, 0, a.mode, u0, false⟩
  else if a.op = 8 then ⟨4, 0, 0, valE s.ls a.es, false⟩
  else if s.opn then ⟨2, locV s.ls a, wrM a.mode, (if a.op = 5 then addU (valE s.ls a.es) s.old else if a.op = 6 then valE s.ls a.fs else valE s.ls a.es), true⟩
  else ⟨1, locV s.ls a, rdM a.mode, u0, true⟩
abbrev Z6 : List Value := [.int .i64 0, .int .i64 0, .int .i64 0, .int .u64 0, .bool false, .bool false]
theorem w_load (x y : Int) : buildV Z6 [(0, 1, .int .i64 1), (1, 1, .int .i64 x), (2, 1, .int .i64 y)] = some (.agg ⟨[.int .i64 1, .int .i64 x, .int .i64 y, .int .u64 0, .bool false, .bool false]⟩) := rfl
theorem w_store (x y : Int) (z : Int) : buildV Z6 [(0, 1, .int .i64 2), (1, 1, .int .i64 x), (2, 1, .int .i64 y), (3, 1, .int .u64 z)] = some (.agg ⟨[.int .i64 2, .int .i64 x, .int .i64 y, .int .u64 z, .bool false, .bool false]⟩) := rfl
theorem w_fence (y : Int) : buildV Z6 [(0, 1, .int .i64 3), (2, 1, .int .i64 y)] = some (.agg ⟨[.int .i64 3, .int .i64 0, .int .i64 y, .int .u64 0, .bool false, .bool false]⟩) := rfl
theorem w_print (z : Int) : buildV Z6 [(0, 1, .int .i64 4), (3, 1, .int .u64 z)] = some (.agg ⟨[.int .i64 4, .int .i64 0, .int .i64 0, .int .u64 z, .bool false, .bool false]⟩) := rfl
theorem w_pair (x y : Int) : buildV Z6 [(0, 1, .int .i64 1), (1, 1, .int .i64 x), (2, 1, .int .i64 y), (4, 1, .bool true)] = some (.agg ⟨[.int .i64 1, .int .i64 x, .int .i64 y, .int .u64 0, .bool true, .bool false]⟩) := rfl
theorem w_none : buildV Z6 [] = some (.agg ⟨Z6⟩) := rfl
section
variable {k na : Nat} {cells : Int} {a : Ac} {av : Value} {s : Ms} {Mb Lb : Nat} {m : M}
theorem load_c (hc : cells ≤ 4096) (hg : AcG k na cells a) (hop : a.op = 2) (N : Nat) (hm : m.base ≤ m.n) (hM : MsAt m Mb Lb k av s) (ha : AcOK m a) :
    CallV (ex Tryz.prog (N + 5)) 46 [mP Mb, .agg ⟨acRow a⟩] m (.agg ⟨wtL (wantOf s a)⟩) := by
  refine call_ret dd2_ok (by simp) ?_
  have st1 := (St.nil hm (Ext.refl m)).row (acRow a)
  obtain ⟨m1, hm1⟩ : ∃ m1, m1 = Dx.newRow m (acRow a) := ⟨_, rfl⟩
  rw [← hm1] at st1
  have st2 := st1.row Z6
  obtain ⟨m2, hm2⟩ : ∃ m2, m2 = Dx.newRow m1 Z6 := ⟨_, rfl⟩
  rw [← hm2] at st2
  have l11 : loads m2 ⟨m.n, 0, none⟩ 11 = some (acRow a) := (st2.get 1 rfl).2.2.loads (n := 11) (by simp [acRow])
  obtain ⟨v3, m3', c1, c2, c3, rfl⟩ := any_call (loc_c k hc a (hg.p (by rw [hop]; rfl)) av s Mb Lb N (forAny m2) (sees_any st2.sees).base (hM.ext st2.ext).any (ha.sees (sees_any st2.sees)))
  obtain ⟨m3, hm3⟩ : ∃ m3, m3 = behind m2 m3' := ⟨_, rfl⟩
  rw [← hm3] at c3
  have st3 := st2.step c3
  have la3 : ∀ o s, load1 m3 ⟨m.n, o, s⟩ = (acRow a)[o]? := fun o s => (st3.get 1 rfl).2.2.load1 o s
  simp only [acRow] at la3
  obtain ⟨x, hx⟩ : ∃ x, x = locV s.ls a := ⟨_, rfl⟩
  have hw : wantOf s a = ⟨1, x, a.mode, u0, false⟩ := by unfold wantOf; rw [if_pos hop, hx]
  rw [hw]
  rw [← hx] at c1
  have hz : wtL ⟨1, x, a.mode, u0, false⟩ = [.int .i64 1, .int .i64 x, .int .i64 a.mode, .int .u64 0, .bool false, .bool false] := rfl
  rw [hz]
  obtain ⟨m4', w1, w2, w3, w4, w5⟩ := st3.fillAny 0 rfl (n := 6) (l' := [.int .i64 1, .int .i64 x, .int .i64 a.mode, .int .u64 0, .bool false, .bool false]) (by omega) rfl rfl (by simp [okC])
  obtain ⟨m4, hm4⟩ : ∃ m4, m4 = behind m3 m4' := ⟨_, rfl⟩
  rw [← hm4] at w3
  have lf : loads m4 ⟨m1.n, 0, none⟩ 6 = some _ := (w3.get 0 rfl).2.2.loads (n := 6) (by simp)
  simp [← hm1, ← hm2, l11, loadNS_ptr, c1, c2, ← hm3, la3, w_load, w1, ← hm4]
  exact ret_cell (a := ⟨m1.n, 0, none⟩) (by simp) lf w3.ext rfl
theorem store_c (hc : cells ≤ 4096) (hg : AcG k na cells a) (hop : a.op = 3) (N : Nat) (hm : m.base ≤ m.n) (hM : MsAt m Mb Lb k av s) (ha : AcOK m a) :
    CallV (ex Tryz.prog (N + 5)) 47 [mP Mb, .agg ⟨acRow a⟩] m (.agg ⟨wtL (wantOf s a)⟩) := by
  refine call_ret dd3_ok (by simp) ?_
  have st1 := (St.nil hm (Ext.refl m)).row (acRow a)
  obtain ⟨m1, hm1⟩ : ∃ m1, m1 = Dx.newRow m (acRow a) := ⟨_, rfl⟩
  rw [← hm1] at st1
  have st2 := st1.row Z6
  obtain ⟨m2, hm2⟩ : ∃ m2, m2 = Dx.newRow m1 Z6 := ⟨_, rfl⟩
  rw [← hm2] at st2
  have l11 : loads m2 ⟨m.n, 0, none⟩ 11 = some (acRow a) := (st2.get 1 rfl).2.2.loads (n := 11) (by simp [acRow])
  obtain ⟨v3, m3', c1, c2, c3, rfl⟩ := any_call (loc_c k hc a (hg.p (by rw [hop]; rfl)) av s Mb Lb N (forAny m2) (sees_any st2.sees).base (hM.ext st2.ext).any (ha.sees (sees_any st2.sees)))
  obtain ⟨m3, hm3⟩ : ∃ m3, m3 = behind m2 m3' := ⟨_, rfl⟩
  rw [← hm3] at c3
  have st3 := st2.step c3
  have la3 : ∀ o s, load1 m3 ⟨m.n, o, s⟩ = (acRow a)[o]? := fun o s => (st3.get 1 rfl).2.2.load1 o s
  simp only [acRow] at la3
  have hM3 := hM.ext st3.ext
  have lM := hM3.l1
  simp only [msRow] at lM
  obtain ⟨v4, m4', d1, d2, d3, rfl⟩ := any_call (value_u hM.len (hg.e (by rw [hop]; rfl)) (N + 1) (forAny m3) (sees_any st3.sees).base (ha.ev.sees (sees_any st3.sees)) hM3.any.rd)
  obtain ⟨m4, hm4⟩ : ∃ m4, m4 = behind m3 m4' := ⟨_, rfl⟩
  rw [← hm4] at d3
  have st4 := st3.step d3
  obtain ⟨x, hx⟩ : ∃ x, x = locV s.ls a := ⟨_, rfl⟩
  obtain ⟨y, hy⟩ : ∃ y, y = valE s.ls a.es := ⟨_, rfl⟩
  have hw : wantOf s a = ⟨2, x, a.mode, y, false⟩ := by unfold wantOf; rw [if_neg (by omega), if_pos hop, hx, hy]
  rw [hw]
  rw [← hx] at c1
  rw [← hy] at d1
  have hz : wtL ⟨2, x, a.mode, y, false⟩ = [.int .i64 2, .int .i64 x, .int .i64 a.mode, .int .u64 y.1, .bool false, .bool false] := rfl
  rw [hz]
  obtain ⟨m5', w1, w2, w3, w4, w5⟩ := st4.fillAny 0 rfl (n := 6) (l' := [.int .i64 2, .int .i64 x, .int .i64 a.mode, .int .u64 y.1, .bool false, .bool false]) (by omega) rfl rfl (by simp [okC])
  obtain ⟨m5, hm5⟩ : ∃ m5, m5 = behind m4 m5' := ⟨_, rfl⟩
  rw [← hm5] at w3
  have lf : loads m5 ⟨m1.n, 0, none⟩ 6 = some _ := (w3.get 0 rfl).2.2.loads (n := 6) (by simp)
  simp [← hm1, ← hm2, l11, loadNS_ptr, c1, c2, ← hm3, la3, lM, d1, d2, ← hm4, w_store, w1, ← hm5]
  exact ret_cell (a := ⟨m1.n, 0, none⟩) (by simp) lf w3.ext rfl
theorem fence_c (hop : a.op = 7) (N : Nat) (hm : m.base ≤ m.n) (hM : MsAt m Mb Lb k av s) :
    CallV (ex Tryz.prog (N + 1)) 49 [mP Mb, .agg ⟨acRow a⟩] m (.agg ⟨wtL (wantOf s a)⟩) := by
  refine call_ret dd5_ok (by simp) ?_
  have st1 := (St.nil hm (Ext.refl m)).row (acRow a)
  obtain ⟨m1, hm1⟩ : ∃ m1, m1 = Dx.newRow m (acRow a) := ⟨_, rfl⟩
  rw [← hm1] at st1
  have st2 := st1.row Z6
  obtain ⟨m2, hm2⟩ : ∃ m2, m2 = Dx.newRow m1 Z6 := ⟨_, rfl⟩
  rw [← hm2] at st2
  have la : ∀ o s, load1 m2 ⟨m.n, o, s⟩ = (acRow a)[o]? := fun o s => (st2.get 1 rfl).2.2.load1 o s
  simp only [acRow] at la
  have hw : wantOf s a = ⟨3, 0, a.mode, u0, false⟩ := by unfold wantOf; rw [if_neg (by omega), if_neg (by omega), if_pos hop]
  rw [hw]
  have hz : wtL ⟨3, 0, a.mode, u0, false⟩ = [.int .i64 3, .int .i64 0, .int .i64 a.mode, .int .u64 0, .bool false, .bool false] := rfl
  rw [hz]
  obtain ⟨m5, w1, w3, w4, w5⟩ := st2.fill 0 rfl (n := 6) (l' := [.int .i64 3, .int .i64 0, .int .i64 a.mode, .int .u64 0, .bool false, .bool false]) rfl rfl (by simp [okC])
  have lf : loads m5 ⟨m1.n, 0, none⟩ 6 = some _ := (w3.get 0 rfl).2.2.loads (n := 6) (by simp)
  simp [← hm1, ← hm2, la, w_fence, w1]
  exact ret_cell (a := ⟨m1.n, 0, none⟩) (by simp) lf w3.ext rfl
theorem print_c (hg : AcG k na cells a) (hop : a.op = 8) (N : Nat) (hm : m.base ≤ m.n) (hM : MsAt m Mb Lb k av s) (ha : AcOK m a) :
    CallV (ex Tryz.prog (N + 4)) 50 [mP Mb, .agg ⟨acRow a⟩] m (.agg ⟨wtL (wantOf s a)⟩) := by
  refine call_ret dd6_ok (by simp) ?_
  have st1 := (St.nil hm (Ext.refl m)).row (acRow a)
  obtain ⟨m1, hm1⟩ : ∃ m1, m1 = Dx.newRow m (acRow a) := ⟨_, rfl⟩
  rw [← hm1] at st1
  have st2 := st1.row Z6
  obtain ⟨m2, hm2⟩ : ∃ m2, m2 = Dx.newRow m1 Z6 := ⟨_, rfl⟩
  rw [← hm2] at st2
  have la : ∀ o s, load1 m2 ⟨m.n, o, s⟩ = (acRow a)[o]? := fun o s => (st2.get 1 rfl).2.2.load1 o s
  simp only [acRow] at la
  have hM3 := hM.ext st2.ext
  have lM := hM3.l1
  simp only [msRow] at lM
  obtain ⟨v4, m4', d1, d2, d3, rfl⟩ := any_call (value_u hM.len (hg.e (by rw [hop]; rfl)) N (forAny m2) (sees_any st2.sees).base (ha.ev.sees (sees_any st2.sees)) hM3.any.rd)
  obtain ⟨m4, hm4⟩ : ∃ m4, m4 = behind m2 m4' := ⟨_, rfl⟩
  rw [← hm4] at d3
  have st4 := st2.step d3
  obtain ⟨y, hy⟩ : ∃ y, y = valE s.ls a.es := ⟨_, rfl⟩
  have hw : wantOf s a = ⟨4, 0, 0, y, false⟩ := by unfold wantOf; rw [if_neg (by omega), if_neg (by omega), if_neg (by omega), if_pos hop, hy]
  rw [hw]
  rw [← hy] at d1
  have hz : wtL ⟨4, 0, 0, y, false⟩ = [.int .i64 4, .int .i64 0, .int .i64 0, .int .u64 y.1, .bool false, .bool false] := rfl
  rw [hz]
  obtain ⟨m5', w1, w2, w3, w4, w5⟩ := st4.fillAny 0 rfl (n := 6) (l' := [.int .i64 4, .int .i64 0, .int .i64 0, .int .u64 y.1, .bool false, .bool false]) (by omega) rfl rfl (by simp [okC])
  obtain ⟨m5, hm5⟩ : ∃ m5, m5 = behind m4 m5' := ⟨_, rfl⟩
  rw [← hm5] at w3
  have lf : loads m5 ⟨m1.n, 0, none⟩ 6 = some _ := (w3.get 0 rfl).2.2.loads (n := 6) (by simp)
  simp [← hm1, ← hm2, la, lM, d1, d2, ← hm4, w_print, w1, ← hm5]
  exact ret_cell (a := ⟨m1.n, 0, none⟩) (by simp) lf w3.ext rfl
end
end Go.Sx
namespace Go.Sx
open Go.Dx Go.Proofs
set_option maxRecDepth 10000
variable [Cdf]
theorem may_rmw {op mode : Int} (ho : op = 4 ∨ op = 5 ∨ op = 6) (h : mayB op mode = true) : 1 ≤ mode ∧ mode ≤ 5 := by
  unfold mayB at h
  rw [if_neg (by omega), if_neg (by omega), if_pos ho] at h
  exact of_decide_eq_true h
section
variable {k na : Nat} {cells : Int} {a : Ac} {av : Value} {s : Ms} {Mb Lb : Nat} {m : M}
theorem pair_c (hc : cells ≤ 4096) (hg : AcG k na cells a) (hop : a.op = 4 ∨ a.op = 5 ∨ a.op = 6) (N : Nat) (hm : m.base ≤ m.n) (hM : MsAt m Mb Lb k av s) (ha : AcOK m a) :
    CallV (ex Tryz.prog (N + 5)) 48 [mP Mb, .agg ⟨acRow a⟩] m (.agg ⟨wtL (wantOf s a)⟩) := by
  refine call_ret dd4_ok (by simp) ?_
  obtain ⟨md1, md2⟩ := may_rmw hop hg.may
  have hpP : pP a.op = true := by rcases hop with h | h | h <;> (rw [h]; rfl)
  have hpE : pE a.op = true := by rcases hop with h | h | h <;> (rw [h]; rfl)
  have st1 := (St.nil hm (Ext.refl m)).row (acRow a)
  obtain ⟨m1, hm1⟩ : ∃ m1, m1 = Dx.newRow m (acRow a) := ⟨_, rfl⟩
  rw [← hm1] at st1
  have st2 := st1.row Z6
  obtain ⟨m2, hm2⟩ : ∃ m2, m2 = Dx.newRow m1 Z6 := ⟨_, rfl⟩
  rw [← hm2] at st2
  have l11 : loads m2 ⟨m.n, 0, none⟩ 11 = some (acRow a) := (st2.get 1 rfl).2.2.loads (n := 11) (by simp [acRow])
  obtain ⟨v3, m3', c1, c2, c3, rfl⟩ := any_call (loc_c k hc a (hg.p hpP) av s Mb Lb N (forAny m2) (sees_any st2.sees).base (hM.ext st2.ext).any (ha.sees (sees_any st2.sees)))
  obtain ⟨m3, hm3⟩ : ∃ m3, m3 = behind m2 m3' := ⟨_, rfl⟩
  rw [← hm3] at c3
  have st3 := st2.step c3
  have la3 : ∀ o s, load1 m3 ⟨m.n, o, s⟩ = (acRow a)[o]? := fun o s => (st3.get 1 rfl).2.2.load1 o s
  obtain ⟨v4, m4', d1, d2, d3, rfl⟩ := any_call (reading_c (N + 3) md1 md2 (forAny m3))
  obtain ⟨m4, hm4⟩ : ∃ m4, m4 = behind m3 m4' := ⟨_, rfl⟩
  rw [← hm4] at d3
  have st4 := st3.step d3
  have st5 := st4.row Z6
  obtain ⟨m5, hm5⟩ : ∃ m5, m5 = Dx.newRow m4 Z6 := ⟨_, rfl⟩
  rw [← hm5] at st5
  obtain ⟨x, hx⟩ : ∃ x, x = locV s.ls a := ⟨_, rfl⟩
  rw [← hx] at c1
  obtain ⟨y, hy⟩ : ∃ y, y = rdM a.mode := ⟨_, rfl⟩
  rw [← hy] at d1
  obtain ⟨m6', w1, w2, w3, w4, w5⟩ := st5.fillAny 0 rfl (n := 6) (l' := [.int .i64 1, .int .i64 x, .int .i64 y, .int .u64 0, .bool true, .bool false]) (by omega) rfl rfl (by simp [okC])
  obtain ⟨m6, hm6⟩ : ∃ m6, m6 = behind m5 m6' := ⟨_, rfl⟩
  rw [← hm6] at w3
  have st6 : St m m6 [(m4.n, [.int .i64 1, .int .i64 x, .int .i64 y, .int .u64 0, .bool true, .bool false]), (m1.n, Z6), (m.n, acRow a)] := w3
  have hM6 := hM.ext st6.ext
  have lM := hM6.l1
  simp only [msRow] at lM
  simp only [acRow] at la3
  cases ho : s.opn with
  | false =>
    rw [ho] at lM
    have hw : wantOf s a = ⟨1, x, y, u0, true⟩ := by
      unfold wantOf
      rw [if_neg (by omega), if_neg (by omega), if_neg (by omega), if_neg (by omega), ho, hx, hy]; rfl
    rw [hw]
    have hz : wtL ⟨1, x, y, u0, true⟩ = [.int .i64 1, .int .i64 x, .int .i64 y, .int .u64 0, .bool true, .bool false] := rfl
    rw [hz]
    have l6 : loads m6 ⟨m4.n, 0, none⟩ 6 = some _ := (st6.get 0 rfl).2.2.loads (n := 6) (by simp)
    obtain ⟨m7, x1, x2, x3, x4⟩ := st6.fill 1 rfl (n := 6) (l' := [.int .i64 1, .int .i64 x, .int .i64 y, .int .u64 0, .bool true, .bool false]) rfl rfl (by simp [okC])
    have lf : loads m7 ⟨m1.n, 0, none⟩ 6 = some _ := (x2.get 1 rfl).2.2.loads (n := 6) (by simp)
    simp [← hm1, ← hm2, l11, loadNS_ptr, c1, c2, ← hm3, la3, d1, d2, ← hm4, w_pair, ← hm5, w1, ← hm6, lM, l6, x1]
    exact ret_cell (a := ⟨m1.n, 0, none⟩) (by simp) lf x2.ext rfl
  | true =>
    rw [ho] at lM
    have la6 : ∀ o s, load1 m6 ⟨m.n, o, s⟩ = (acRow a)[o]? := fun o s => (st6.get 2 rfl).2.2.load1 o s
    simp only [acRow] at la6
    obtain ⟨v7, m7', e1, e2, e3, rfl⟩ := any_call (writing_c (N + 3) md1 md2 (forAny m6))
    obtain ⟨m7, hm7⟩ : ∃ m7, m7 = behind m6 m7' := ⟨_, rfl⟩
    rw [← hm7] at e3
    have st7 := st6.step e3
    have la7 : ∀ o s, load1 m7 ⟨m.n, o, s⟩ = (acRow a)[o]? := fun o s => (st7.get 2 rfl).2.2.load1 o s
    simp only [acRow] at la7
    have hM7 := hM.ext st7.ext
    have lM7 := hM7.l1
    simp only [msRow] at lM7
    obtain ⟨v8, m8', f1, f2, f3, rfl⟩ := any_call (value_u hM.len (hg.e hpE) (N + 1) (forAny m7) (sees_any st7.sees).base (ha.ev.sees (sees_any st7.sees)) hM7.any.rd)
    obtain ⟨m8, hm8⟩ : ∃ m8, m8 = behind m7 m8' := ⟨_, rfl⟩
    rw [← hm8] at f3
    have st8 := st7.step f3
    obtain ⟨z, hz⟩ : ∃ z, z = wrM a.mode := ⟨_, rfl⟩
    rw [← hz] at e1
    obtain ⟨u, hu⟩ : ∃ u, u = valE s.ls a.es := ⟨_, rfl⟩
    rw [← hu] at f1
    obtain ⟨m9', g1, g2, g3, g4, g5⟩ := st8.storeAny 0 rfl (o := 0) (v := .int .i64 2) (by simp) rfl
    obtain ⟨m9, hm9⟩ : ∃ m9, m9 = behind m8 m9' := ⟨_, rfl⟩
    rw [← hm9] at g3
    obtain ⟨m10', i1, i2, i3, i4, i5⟩ := g3.storeAny 0 rfl (o := 2) (v := .int .i64 z) (by simp) rfl
    obtain ⟨m10, hm10⟩ : ∃ m10, m10 = behind m9 m10' := ⟨_, rfl⟩
    rw [← hm10] at i3
    obtain ⟨m11', j1, j2, j3, j4, j5⟩ := i3.storeAny 0 rfl (o := 3) (v := uv u.1) (by simp) rfl
    obtain ⟨m11, hm11⟩ : ∃ m11, m11 = behind m10 m11' := ⟨_, rfl⟩
    rw [← hm11] at j3
    have st11 : St m m11 [(m4.n, [.int .i64 2, .int .i64 x, .int .i64 z, uv u.1, .bool true, .bool false]), (m1.n, Z6), (m.n, acRow a)] := j3
    have la11 : ∀ o s, load1 m11 ⟨m.n, o, s⟩ = (acRow a)[o]? := fun o s => (st11.get 2 rfl).2.2.load1 o s
    have l5 : ∀ o s, load1 m11 ⟨m4.n, o, s⟩ = _ := fun o s => (st11.get 0 rfl).2.2.load1 o s
    simp only [acRow] at la11
    have hM11 := hM.ext st11.ext
    have lM11 := hM11.l1
    simp only [msRow] at lM11
    -- the end, with what the row tells
    have fin : ∀ (v : U) (mz : M), St m mz [(m4.n, [.int .i64 2, .int .i64 x, .int .i64 z, uv v.1, .bool true, .bool false]), (m1.n, Z6), (m.n, acRow a)] → wantOf s a = ⟨2, x, z, v, true⟩ →
        ∃ me, loads mz ⟨m4.n, 0, none⟩ 6 = some [.int .i64 2, .int .i64 x, .int .i64 z, uv v.1, .bool true, .bool false] ∧ storeS 6 (.pointer (some ⟨m1.n, 0, none⟩)) (.agg ⟨[.int .i64 2, .int .i64 x, .int .i64 z, uv v.1, .bool true, .bool false]⟩) mz = some (undef, me) ∧ loads me ⟨m1.n, 0, none⟩ 6 = some (wtL (wantOf s a)) ∧ Ext m me := fun v mz hst hw => by
      obtain ⟨me, x1, x2, x3, x4⟩ := hst.fill 1 rfl (n := 6) (l' := [.int .i64 2, .int .i64 x, .int .i64 z, uv v.1, .bool true, .bool false]) rfl rfl (by simp [okC])
      refine ⟨me, (hst.get 0 rfl).2.2.loads (n := 6) (by simp), x1, ?_, x2.ext⟩
      rw [hw]
      exact (x2.get 1 rfl).2.2.loads (n := 6) (by simp)
    have hwant : wantOf s a = ⟨2, x, z, (if a.op = 5 then addU u s.old else if a.op = 6 then valE s.ls a.fs else u), true⟩ := by
      unfold wantOf
      rw [if_neg (by omega), if_neg (by omega), if_neg (by omega), if_neg (by omega), ho, hx, hz, hu]; rfl
    by_cases h5 : a.op = 5
    · have d5 : decide (a.op = 5) = true := decide_eq_true h5
      rw [if_pos h5] at hwant
      have q := u_add u.1 s.old.1
      obtain ⟨t, ht⟩ : ∃ t, t = addU u s.old := ⟨_, rfl⟩
      have q' : binV .add (uv u.1) (uv s.old.1) = some (uv t.1) := by rw [q, ht]; rfl
      obtain ⟨m12', n1, n2, n3, n4, n5⟩ := st11.storeAny 0 rfl (o := 3) (v := uv t.1) (by simp) rfl
      obtain ⟨m12, hm12⟩ : ∃ m12, m12 = behind m11 m12' := ⟨_, rfl⟩
      rw [← hm12] at n3
      obtain ⟨me, y1, y2, y3, y4⟩ := fin t m12 n3 (by rw [hwant, ht])
      simp [-binV_add, ← hm1, ← hm2, l11, loadNS_ptr, c1, c2, ← hm3, la3, d1, d2, ← hm4, w_pair, ← hm5, w1, ← hm6, lM, la6, e1, e2, ← hm7, la7, lM7, f1, f2, ← hm8, g1, ← hm9, i1, ← hm10, j1, ← hm11, la11, d5, l5, lM11, q', n1, ← hm12, y1, y2]
      exact ret_cell (a := ⟨m1.n, 0, none⟩) (by simp) y3 y4 rfl
    · have d5 : decide (a.op = 5) = false := decide_eq_false h5
      rw [if_neg h5] at hwant
      by_cases h6 : a.op = 6
      · have d6 : decide (a.op = 6) = true := decide_eq_true h6
        rw [if_pos h6] at hwant
        obtain ⟨v12, m12', n1, n2, n3, rfl⟩ := any_call (value_u hM.len (hg.f (by rw [h6]; rfl)) (N + 1) (forAny m11) (sees_any st11.sees).base (ha.fv.sees (sees_any st11.sees)) hM11.any.rd)
        obtain ⟨m12, hm12⟩ : ∃ m12, m12 = behind m11 m12' := ⟨_, rfl⟩
        rw [← hm12] at n3
        have st12 := st11.step n3
        obtain ⟨t, ht⟩ : ∃ t, t = valE s.ls a.fs := ⟨_, rfl⟩
        rw [← ht] at n1
        obtain ⟨m13', o1, o2, o3, o4, o5⟩ := st12.storeAny 0 rfl (o := 3) (v := uv t.1) (by simp) rfl
        obtain ⟨m13, hm13⟩ : ∃ m13, m13 = behind m12 m13' := ⟨_, rfl⟩
        rw [← hm13] at o3
        obtain ⟨me, y1, y2, y3, y4⟩ := fin t m13 o3 (by rw [hwant, ht])
        simp [-binV_add, ← hm1, ← hm2, l11, loadNS_ptr, c1, c2, ← hm3, la3, d1, d2, ← hm4, w_pair, ← hm5, w1, ← hm6, lM, la6, e1, e2, ← hm7, la7, lM7, f1, f2, ← hm8, g1, ← hm9, i1, ← hm10, j1, ← hm11, la11, d5, d6, l5, lM11, n1, ← hm12, o1, ← hm13, y1, y2]
        exact ret_cell (a := ⟨m1.n, 0, none⟩) (by simp) y3 y4 rfl
      · have d6 : decide (a.op = 6) = false := decide_eq_false h6
        rw [if_neg h6] at hwant
        obtain ⟨me, y1, y2, y3, y4⟩ := fin u m11 st11 hwant
        simp [-binV_add, ← hm1, ← hm2, l11, loadNS_ptr, c1, c2, ← hm3, la3, d1, d2, ← hm4, w_pair, ← hm5, w1, ← hm6, lM, la6, e1, e2, ← hm7, la7, lM7, f1, f2, ← hm8, g1, ← hm9, i1, ← hm10, j1, ← hm11, la11, d5, d6, y1, y2]
        exact ret_cell (a := ⟨m1.n, 0, none⟩) (by simp) y3 y4 rfl
end
end Go.Sx
namespace Go.Sx
open Go.Dx Go.Proofs
set_option maxRecDepth 10000
variable [Cdf]
def setS (s : Ms) (a : Ac) : Ms := { s with ls := s.ls.set a.dst.toNat (valE s.ls a.es), at_ := s.at_ + 1 }
def jumpS (s : Ms) (a : Ac) : Ms := { s with at_ := a.to.toNat }
def zeroS (s : Ms) (a : Ac) : Ms := { s with at_ := if (valE s.ls a.es).1 = 0 then a.to.toNat else s.at_ + 1 }
theorem lsR_set (ls : List U) (i : Nat) (u : U) : (lsR ls).set i (uv u.1) = lsR (ls.set i u) := by unfold lsR; rw [List.map_set]
theorem lsR_len (ls : List U) : (lsR ls).length = ls.length := by unfold lsR; simp
/-- an act's lists lie apart from the machine's blocks -/
structure AcAp (Mb Lb : Nat) (a : Ac) : Prop where
  ix : ∀ B, blk a.ix = some B → B ∉ [Mb, Lb]
  ev : ∀ B, blk a.ev = some B → B ∉ [Mb, Lb]
  fv : ∀ B, blk a.fv = some B → B ∉ [Mb, Lb]
section
variable {k na : Nat} {cells : Int} {a : Ac} {av : Value} {s : Ms} {Mb Lb : Nat} {m m' : M}
abbrev msS (Mb Lb k : Nat) (av : Value) (s : Ms) : List (Nat × List Value) := [(Mb, msRow k av (lvV Lb k) s), (Lb, lsR s.ls)]
theorem MsAt.ow (h : MsAt m Mb Lb k av s) (hne : Mb ≠ Lb) (hm : m.base ≤ m.n) : Ow m m [Mb, Lb] (msS Mb Lb k av s) :=
  Ow.start hm (fun p hp => by
    rcases List.mem_cons.1 hp with rfl | hp
    · exact ⟨by simp, h.mb, h.row⟩
    · rw [List.mem_singleton.1 hp]; exact ⟨by simp, h.lb, h.ls⟩) (by simp [hne])
/-- what a writer leaves -/
def WrC (x : Ex) (g : Nat) (args : List Value) (m : M) (Mb Lb k : Nat) (av : Value) (s' : Ms) (v' : Value) : Prop :=
  ∃ v m', x.f g args m = some (v, m') ∧ Mc m m' [Mb, Lb] ∧ MsAt m' Mb Lb k av s' ∧ v = v'
theorem Ow.msAt {m0 : M} {σ : List (Nat × List Value)} (h : Ow m0 m [Mb, Lb] σ) (i j : Nat) (hi : σ[i]? = some (Mb, msRow k av (lvV Lb k) s)) (hj : σ[j]? = some (Lb, lsR s.ls)) (hl : s.ls.length = k) : MsAt m Mb Lb k av s :=
  ⟨(h.get i hi).2.2, (h.get j hj).2.2, hl, (h.get i hi).2.1, (h.get j hj).2.1⟩
theorem set_c (hg : AcG k na cells a) (hop : a.op = 1) (N : Nat) (hm : m.base ≤ m.n) (hne : Mb ≠ Lb) (hM : MsAt m Mb Lb k av s) (hat : s.at_ < 9223372036854775807) (ha : AcOK m a) :
    WrC (ex Tryz.prog (N + 4)) 45 [mP Mb, .agg ⟨acRow a⟩] m Mb Lb k av (setS s a) (.agg ⟨Z6⟩) := by
  refine call_fin (Q := fun v m' => Mc m m' [Mb, Lb] ∧ MsAt m' Mb Lb k av (setS s a) ∧ v = .agg ⟨Z6⟩) dd1_ok (by simp) ?_
  have ow0 := hM.ow hne hm
  have ow1 := ow0.row (acRow a)
  obtain ⟨m1, hm1⟩ : ∃ m1, m1 = Dx.newRow m (acRow a) := ⟨_, rfl⟩
  rw [← hm1] at ow1
  have ow2 := ow1.row Z6
  obtain ⟨m2, hm2⟩ : ∃ m2, m2 = Dx.newRow m1 Z6 := ⟨_, rfl⟩
  rw [← hm2] at ow2
  have la : ∀ o s, load1 m2 ⟨m.n, o, s⟩ = (acRow a)[o]? := fun o s => (ow2.get 1 rfl).2.2.load1 o s
  simp only [acRow] at la
  have e12 : Ext m m2 := by rw [hm2, hm1]; exact (Ext.row _ _).trans (Ext.row _ _)
  have hM2 := hM.ext e12
  have lM := hM2.l1
  simp only [msRow] at lM
  have S2 : Sees m m2 := (Sees.refl hm).ext e12
  obtain ⟨v4, m4', d1, d2, d3, rfl⟩ := any_call (value_u hM.len (hg.e (by rw [hop]; rfl)) N (forAny m2) (sees_any S2).base (ha.ev.sees (sees_any S2)) hM2.any.rd)
  obtain ⟨m4, hm4⟩ : ∃ m4, m4 = behind m2 m4' := ⟨_, rfl⟩
  rw [← hm4] at d3
  have ow4 := ow2.step d3
  obtain ⟨y, hy⟩ : ∃ y, y = valE s.ls a.es := ⟨_, rfl⟩
  rw [← hy] at d1
  obtain ⟨dd1, dd2⟩ := hg.d (by rw [hop]; rfl)
  obtain ⟨d, hd⟩ : ∃ d : Nat, a.dst = d := ⟨a.dst.toNat, by omega⟩
  have hdk : d < k := by omega
  have hix : iaddrSV 1 (lvV Lb k) (.int .i64 a.dst) = some (.pointer (some ⟨Lb, d, none⟩)) := by
    rw [hd]
    have := idxE (e := 1) (c := 3) Lb k d hdk
    rwa [Nat.mul_one] at this
  obtain ⟨m5', f1, f2, f3, f4, f5⟩ := ow4.storeAny 3 rfl (o := d) (v := uv y.1) (by rw [lsR_len, hM.len]; exact hdk) rfl
  obtain ⟨m5, hm5⟩ : ∃ m5, m5 = behind m4 m5' := ⟨_, rfl⟩
  rw [← hm5] at f3
  have l5 : ∀ o s', load1 m5 ⟨Mb, o, s'⟩ = (msRow k av (lvV Lb k) s)[o]? := fun o s' => (f3.get 2 rfl).2.2.load1 o s'
  simp only [msRow] at l5
  have na1 := nextI hat
  obtain ⟨at1, hat1⟩ : ∃ n, n = s.at_ + 1 := ⟨_, rfl⟩
  rw [← hat1] at na1
  obtain ⟨m6, g1, g3, g4, g5⟩ := f3.store 2 rfl (o := 2) (v := iv at1) (by simp [msRow]) rfl
  obtain ⟨m7, h1, h3, h4, h5⟩ := g3.storeN 0 rfl (o := 0) (l' := Z6) (n := 6) (by omega) rfl (by simp) (by simp [okC])
  have lf : loads m7 ⟨m1.n, 0, none⟩ 6 = some Z6 := (h3.get 0 rfl).2.2.loads (n := 6) (by simp [over])
  have hs : MsAt m7 Mb Lb k av (setS s a) := by
    refine Ow.msAt h3 2 3 ?_ ?_ ?_
    · show some (Mb, (msRow k av (lvV Lb k) s).set 2 (iv at1)) = _
      rw [hat1]; rfl
    · show some (Lb, (lsR s.ls).set d (uv y.1)) = _
      rw [lsR_set, hy]
      show _ = some (Lb, lsR (s.ls.set a.dst.toNat (valE s.ls a.es)))
      rw [hd, Int.toNat_natCast]
    · show (s.ls.set _ _).length = k
      rw [List.length_set]; exact hM.len
  simp [-binV_add, ← hm1, ← hm2, la, lM, d1, d2, ← hm4, hix, f1, ← hm5, l5, binV_add, na1, g1, w_none, h1]
  exact fin_cell (a := ⟨m1.n, 0, none⟩) (by simp) lf ⟨h3.mc, hs, rfl⟩
theorem jump_c (hg : AcG k na cells a) (hop : a.op = 9) (N : Nat) (hm : m.base ≤ m.n) (hne : Mb ≠ Lb) (hM : MsAt m Mb Lb k av s) :
    WrC (ex Tryz.prog (N + 1)) 51 [mP Mb, .agg ⟨acRow a⟩] m Mb Lb k av (jumpS s a) (.agg ⟨Z6⟩) := by
  refine call_fin (Q := fun v m' => Mc m m' [Mb, Lb] ∧ MsAt m' Mb Lb k av (jumpS s a) ∧ v = .agg ⟨Z6⟩) dd7_ok (by simp) ?_
  have ow0 := hM.ow hne hm
  have ow1 := ow0.row (acRow a)
  obtain ⟨m1, hm1⟩ : ∃ m1, m1 = Dx.newRow m (acRow a) := ⟨_, rfl⟩
  rw [← hm1] at ow1
  have ow2 := ow1.row Z6
  obtain ⟨m2, hm2⟩ : ∃ m2, m2 = Dx.newRow m1 Z6 := ⟨_, rfl⟩
  rw [← hm2] at ow2
  have la : ∀ o s, load1 m2 ⟨m.n, o, s⟩ = (acRow a)[o]? := fun o s => (ow2.get 1 rfl).2.2.load1 o s
  simp only [acRow] at la
  obtain ⟨tt1, tt2⟩ := hg.t (by rw [hop]; rfl)
  obtain ⟨m6, g1, g3, g4, g5⟩ := ow2.store 2 rfl (o := 2) (v := iv a.to) (by simp [msRow]) rfl
  obtain ⟨m7, h1, h3, h4, h5⟩ := g3.storeN 0 rfl (o := 0) (l' := Z6) (n := 6) (by omega) rfl (by simp) (by simp [okC])
  have lf : loads m7 ⟨m1.n, 0, none⟩ 6 = some Z6 := (h3.get 0 rfl).2.2.loads (n := 6) (by simp [over])
  have hs : MsAt m7 Mb Lb k av (jumpS s a) := by
    refine Ow.msAt h3 2 3 ?_ rfl hM.len
    show some (Mb, (msRow k av (lvV Lb k) s).set 2 (iv a.to)) = _
    have : a.to = ((a.to.toNat : Nat) : Int) := by omega
    rw [this]; rfl
  simp [← hm1, ← hm2, la, g1, w_none, h1]
  exact fin_cell (a := ⟨m1.n, 0, none⟩) (by simp) lf ⟨h3.mc, hs, rfl⟩
theorem zero_c (hg : AcG k na cells a) (hop : a.op = 10) (N : Nat) (hm : m.base ≤ m.n) (hne : Mb ≠ Lb) (hM : MsAt m Mb Lb k av s) (hat : s.at_ < 9223372036854775807) (ha : AcOK m a) (hap : AcAp Mb Lb a) :
    WrC (ex Tryz.prog (N + 4)) 52 [mP Mb, .agg ⟨acRow a⟩] m Mb Lb k av (zeroS s a) (.agg ⟨Z6⟩) := by
  refine call_fin (Q := fun v m' => Mc m m' [Mb, Lb] ∧ MsAt m' Mb Lb k av (zeroS s a) ∧ v = .agg ⟨Z6⟩) dd8_ok (by simp) ?_
  have ow0 := hM.ow hne hm
  have ow1 := ow0.row (acRow a)
  obtain ⟨m1, hm1⟩ : ∃ m1, m1 = Dx.newRow m (acRow a) := ⟨_, rfl⟩
  rw [← hm1] at ow1
  have ow2 := ow1.row Z6
  obtain ⟨m2, hm2⟩ : ∃ m2, m2 = Dx.newRow m1 Z6 := ⟨_, rfl⟩
  rw [← hm2] at ow2
  have lM2 : ∀ o s', load1 m2 ⟨Mb, o, s'⟩ = (msRow k av (lvV Lb k) s)[o]? := fun o s' => (ow2.get 2 rfl).2.2.load1 o s'
  simp only [msRow] at lM2
  have na1 := nextI hat
  obtain ⟨at1, hat1⟩ : ∃ n, n = s.at_ + 1 := ⟨_, rfl⟩
  rw [← hat1] at na1
  obtain ⟨m3, g1, g3, g4, g5⟩ := ow2.store 2 rfl (o := 2) (v := iv at1) (by simp [msRow]) rfl
  have la : ∀ o s, load1 m3 ⟨m.n, o, s⟩ = (acRow a)[o]? := fun o s => (g3.get 1 rfl).2.2.load1 o s
  simp only [acRow] at la
  obtain ⟨s3, hs3⟩ : ∃ s3 : Ms, s3 = { s with at_ := at1 } := ⟨_, rfl⟩
  have hM3 : MsAt m3 Mb Lb k av s3 := by
    rw [hs3]
    exact Ow.msAt g3 2 3 rfl rfl hM.len
  have hls : s3.ls = s.ls := by rw [hs3]
  have lM := hM3.l1
  simp only [msRow] at lM
  have hm3 : m3.base ≤ m3.n := g3.mb
  have hev : Rd m3 a.ev 4 nodeRow a.es := g3.rd ha.ev hap.ev
  obtain ⟨v4, m4', d1, d2, d3, rfl⟩ := any_call (value_u hM3.len (hg.e (by rw [hop]; rfl)) N (forAny m3) (sees_any (Sees.refl hm3)).base (hev.sees (sees_any (Sees.refl hm3))) hM3.any.rd)
  obtain ⟨m4, hm4⟩ : ∃ m4, m4 = behind m3 m4' := ⟨_, rfl⟩
  rw [← hm4] at d3
  have ow4 := g3.step d3
  have la4 : ∀ o s, load1 m4 ⟨m.n, o, s⟩ = (acRow a)[o]? := fun o s => (ow4.get 1 rfl).2.2.load1 o s
  simp only [acRow] at la4
  obtain ⟨y, hy⟩ : ∃ y, y = valE s.ls a.es := ⟨_, rfl⟩
  rw [hls, ← hy] at d1
  obtain ⟨tt1, tt2⟩ := hg.t (by rw [hop]; rfl)
  by_cases h0 : y.1 = 0
  · have e0 : decide ((y.1 : Int) = 0) = true := decide_eq_true (by omega)
    have e0' : decide (y.1 = 0) = true := decide_eq_true h0
    obtain ⟨m6, i1, i3, i4, i5⟩ := ow4.store 2 rfl (o := 2) (v := iv a.to) (by simp [msRow]) rfl
    obtain ⟨m7, h1, h3, h4, h5⟩ := i3.storeN 0 rfl (o := 0) (l' := Z6) (n := 6) (by omega) rfl (by simp) (by simp [okC])
    have lf : loads m7 ⟨m1.n, 0, none⟩ 6 = some Z6 := (h3.get 0 rfl).2.2.loads (n := 6) (by simp [over])
    have hs : MsAt m7 Mb Lb k av (zeroS s a) := by
      refine Ow.msAt h3 2 3 ?_ rfl hM.len
      show some (Mb, ((msRow k av (lvV Lb k) s).set 2 (iv at1)).set 2 (iv a.to)) = _
      have : a.to = ((a.to.toNat : Nat) : Int) := by omega
      unfold zeroS
      rw [← hy, if_pos h0, this]; rfl
    simp [-binV_add, ← hm1, ← hm2, lM2, binV_add, na1, g1, la, lM, d1, d2, ← hm4, e0, e0', la4, i1, w_none, h1]
    exact fin_cell (a := ⟨m1.n, 0, none⟩) (by simp) lf ⟨h3.mc, hs, rfl⟩
  · have e0 : decide ((y.1 : Int) = 0) = false := decide_eq_false (by omega)
    have e0' : decide (y.1 = 0) = false := decide_eq_false h0
    obtain ⟨m7, h1, h3, h4, h5⟩ := ow4.storeN 0 rfl (o := 0) (l' := Z6) (n := 6) (by omega) rfl (by simp) (by simp [okC])
    have lf : loads m7 ⟨m1.n, 0, none⟩ 6 = some Z6 := (h3.get 0 rfl).2.2.loads (n := 6) (by simp [over])
    have hs : MsAt m7 Mb Lb k av (zeroS s a) := by
      refine Ow.msAt h3 2 3 ?_ rfl hM.len
      show some (Mb, (msRow k av (lvV Lb k) s).set 2 (iv at1)) = _
      unfold zeroS
      rw [← hy, if_neg h0, hat1]; rfl
    simp [-binV_add, ← hm1, ← hm2, lM2, binV_add, na1, g1, la, lM, d1, d2, ← hm4, e0, e0', la4, w_none, h1]
    exact fin_cell (a := ⟨m1.n, 0, none⟩) (by simp) lf ⟨h3.mc, hs, rfl⟩
end
end Go.Sx
namespace Go.Sx
open Go.Dx Go.Proofs
set_option maxRecDepth 10000
variable [Cdf]
/-- the thread's acts lie there, apart from the machine's blocks -/
structure Env (m : M) (Mb Lb : Nat) (av : Value) (acts : List Ac) : Prop where
  rav : Rd m av 11 acRow acts
  avp : ∀ B, blk av = some B → B ∉ [Mb, Lb]
  ok : ∀ a ∈ acts, AcOK m a ∧ AcAp Mb Lb a
section
variable {k na : Nat} {cells : Int} {a : Ac} {av : Value} {s : Ms} {Mb Lb : Nat} {m m' : M} {acts : List Ac}
theorem AcOK.mc (h : AcOK m a) (hp : AcAp Mb Lb a) (k : Mc m m' [Mb, Lb]) : AcOK m' a :=
  ⟨h.ix.congr k.n fun B hB => k.obj B (h.ix.lt B hB) (hp.ix B hB), h.ev.congr k.n fun B hB => k.obj B (h.ev.lt B hB) (hp.ev B hB), h.fv.congr k.n fun B hB => k.obj B (h.fv.lt B hB) (hp.fv B hB), h.ixl, h.evl, h.fvl⟩
theorem Env.mc (h : Env m Mb Lb av acts) (k : Mc m m' [Mb, Lb]) : Env m' Mb Lb av acts :=
  ⟨h.rav.congr k.n fun B hB => k.obj B (h.rav.lt B hB) (h.avp B hB), h.avp, fun a ha => ⟨(h.ok a ha).1.mc (h.ok a ha).2 k, (h.ok a ha).2⟩⟩
theorem Env.ext (h : Env m Mb Lb av acts) (e : Ext m m') : Env m' Mb Lb av acts := h.mc e.mc
theorem Env.any (h : Env m Mb Lb av acts) (hm : m.base ≤ m.n) : Env (forAny m) Mb Lb av acts :=
  ⟨h.rav.sees (sees_any (Sees.refl hm)), h.avp, fun a ha => ⟨(h.ok a ha).1.sees (sees_any (Sees.refl hm)), (h.ok a ha).2⟩⟩
abbrev Z11 : List Value := [.int .i64 0, .int .i64 0, .int .i64 0, .int .i64 0, .slice none 0 0, .slice none 0 0, .slice none 0 0, .int .i64 0, .int .i64 0, .int .i64 0, .int .i64 0]
theorem acRow_ok (h : AcOK m a) : ∀ v ∈ acRow a, okC v = true := by
  have o1 := h.ix.okV
  have o2 := h.ev.okV
  have o3 := h.fv.okV
  intro v hv
  simp only [acRow, List.mem_cons, List.not_mem_nil, or_false] at hv
  rcases hv with rfl | rfl | rfl | rfl | rfl | rfl | rfl | rfl | rfl | rfl | rfl <;> first | rfl | assumption
theorem act_c (hE : Env m Mb Lb av acts) (hM : MsAt m Mb Lb k av s) (ha : acts[s.at_]? = some a) (N : Nat) (hm : m.base ≤ m.n) :
    CallV (ex Tryz.prog (N + 1)) 26 [mP Mb] m (.agg ⟨acRow a⟩) := by
  refine call_ret db7_ok (by simp) ?_
  have st1 := (St.nil hm (Ext.refl m)).row Z11
  obtain ⟨m1, hm1⟩ : ∃ m1, m1 = Dx.newRow m Z11 := ⟨_, rfl⟩
  rw [← hm1] at st1
  have lM := (hM.ext st1.ext).l1
  simp only [msRow] at lM
  obtain ⟨a1, a2, _⟩ := hE.rav.at ha
  have a2' := a2 m1 st1.sees
  obtain ⟨m4', w1, w2, w3, w4, w5⟩ := st1.fillAny 0 rfl (n := 11) (l' := acRow a) (by omega) rfl rfl (acRow_ok (hE.ok a (List.mem_of_getElem? ha)).1)
  obtain ⟨m4, hm4⟩ : ∃ m4, m4 = behind m1 m4' := ⟨_, rfl⟩
  rw [← hm4] at w3
  have lf : loads m4 ⟨m.n, 0, none⟩ 11 = some (acRow a) := (w3.get 0 rfl).2.2.loads (n := 11) (by simp [acRow])
  simp [← hm1, lM, a1, a2', loadNS_ptr, w1, ← hm4]
  exact ret_cell (a := ⟨m.n, 0, none⟩) (by simp) lf w3.ext rfl
def ownB (a : Ac) : Bool := decide (a.op = 1 ∨ a.op = 9 ∨ a.op = 10)
theorem own_c (a : Ac) (N : Nat) (m : M) : CallV (ex Tryz.prog (N + 1)) 27 [.agg ⟨acRow a⟩] m (.bool (ownB a)) := by
  refine call_ret db8_ok (by simp) ?_
  have la : ∀ o, load1 (Dx.newRow m (acRow a)) ⟨m.n, o, none⟩ = (acRow a)[o]? := fun o => load1_row m _ o
  have E : Ext m (Dx.newRow m (acRow a)) := Ext.row _ _
  obtain ⟨m1, hm1⟩ : ∃ m1, m1 = Dx.newRow m (acRow a) := ⟨_, rfl⟩
  rw [← hm1] at la E
  simp only [acRow] at la
  have hb : ownB a = decide (a.op = 1 ∨ a.op = 9 ∨ a.op = 10) := rfl
  rw [hb]
  by_cases h1 : a.op = 1
  · have d1 : decide (a.op = 1) = true := decide_eq_true h1
    rw [decide_eq_true (.inl h1)]
    simp [← hm1, la, d1]
    exact ret_1 E (by simp)
  · have d1 : decide (a.op = 1) = false := decide_eq_false h1
    by_cases h9 : a.op = 9
    · have d9 : decide (a.op = 9) = true := decide_eq_true h9
      rw [decide_eq_true (.inr (.inl h9))]
      simp [← hm1, la, d1, d9]
      exact ret_1 E (by simp)
    · have d9 : decide (a.op = 9) = false := decide_eq_false h9
      simp [← hm1, la, d1, d9]
      exact ret_1 E (by simp [h1, h9])
def fnV (g : Nat) : Value := .func (.func g) #[] #[]
def worksL : List Value := [.nilFunc, fnV 45, fnV 46, fnV 47, fnV 48, fnV 48, fnV 48, fnV 49, fnV 50, fnV 51, fnV 52]
def fW (op : Int) : Nat := if op = 1 then 45 else if op = 2 then 46 else if op = 3 then 47 else if op = 4 then 48 else if op = 5 then 48 else if op = 6 then 48 else if op = 7 then 49 else if op = 8 then 50 else if op = 9 then 51 else 52
theorem works_b : buildV [.nilFunc, .nilFunc, .nilFunc, .nilFunc, .nilFunc, .nilFunc, .nilFunc, .nilFunc, .nilFunc, .nilFunc, .nilFunc] [(1, 1, .func (.func 45) #[] #[]), (2, 1, .func (.func 46) #[] #[]), (3, 1, .func (.func 47) #[] #[]), (4, 1, .func (.func 48) #[] #[]), (5, 1, .func (.func 48) #[] #[]), (6, 1, .func (.func 48) #[] #[]), (7, 1, .func (.func 49) #[] #[]), (8, 1, .func (.func 50) #[] #[]), (9, 1, .func (.func 51) #[] #[]), (10, 1, .func (.func 52) #[] #[])] = some (.agg ⟨worksL⟩) := rfl
theorem works_c (N : Nat) (m : M) (hm : m.base ≤ m.n) : CallV (ex Tryz.prog (N + 1)) 28 [] m (.agg ⟨worksL⟩) := by
  refine call_ret db9_ok (by simp) ?_
  obtain ⟨a, c1, c2, c3, c4, c5⟩ := local_fill' (m := m) hm (zs := [.nilFunc, .nilFunc, .nilFunc, .nilFunc, .nilFunc, .nilFunc, .nilFunc, .nilFunc, .nilFunc, .nilFunc, .nilFunc]) (l := worksL) (v := .agg ⟨worksL⟩) (n := 11) rfl rfl rfl (by simp [worksL, fnV, okC])
  simp [works_b, c1]
  exact ret_cell (a := ⟨m.n, 0, none⟩) (by simp) (c3 none) c4 rfl
theorem works_i {op : Int} (h1 : 1 ≤ op) (h2 : op ≤ 10) : idxG 11 false 1 (.agg ⟨worksL⟩) (.int .i64 op) = some (.func (.func (fW op)) ⟨[]⟩ ⟨[]⟩) := by
  rcases (by omega : op = 1 ∨ op = 2 ∨ op = 3 ∨ op = 4 ∨ op = 5 ∨ op = 6 ∨ op = 7 ∨ op = 8 ∨ op = 9 ∨ op = 10) with rfl | rfl | rfl | rfl | rfl | rfl | rfl | rfl | rfl | rfl <;> rfl
/-- what an act that wants something wants: by its function -/
theorem want_c (hc : cells ≤ 4096) (hg : AcG k na cells a) (how : ownB a = false) (N : Nat) (hm : m.base ≤ m.n) (hM : MsAt m Mb Lb k av s) (ha : AcOK m a) :
    CallV (ex Tryz.prog (N + 5)) (fW a.op) [mP Mb, .agg ⟨acRow a⟩] m (.agg ⟨wtL (wantOf s a)⟩) := by
  obtain ⟨o1, o2⟩ := hg.op
  have hn := of_decide_eq_false how
  rcases (by omega : a.op = 2 ∨ a.op = 3 ∨ (a.op = 4 ∨ a.op = 5 ∨ a.op = 6) ∨ a.op = 7 ∨ a.op = 8) with h | h | h | h | h
  · have : fW a.op = 46 := by rw [h]; rfl
    rw [this]; exact load_c hc hg h N hm hM ha
  · have : fW a.op = 47 := by rw [h]; rfl
    rw [this]; exact store_c hc hg h N hm hM ha
  · have : fW a.op = 48 := by rcases h with h | h | h <;> (rw [h]; rfl)
    rw [this]; exact pair_c hc hg h N hm hM ha
  · have : fW a.op = 49 := by rw [h]; rfl
    rw [this]; exact fence_c h (N + 4) hm hM
  · have : fW a.op = 50 := by rw [h]; rfl
    rw [this]; exact print_c hg h (N + 1) hm hM ha
/-- behind an act that wants nothing -/
def ownS (s : Ms) (a : Ac) : Ms := if a.op = 1 then setS s a else if a.op = 9 then jumpS s a else zeroS s a
theorem own_act_c (hg : AcG k na cells a) (how : ownB a = true) (N : Nat) (hm : m.base ≤ m.n) (hne : Mb ≠ Lb) (hM : MsAt m Mb Lb k av s) (hat : s.at_ < 9223372036854775807) (ha : AcOK m a) (hap : AcAp Mb Lb a) :
    WrC (ex Tryz.prog (N + 4)) (fW a.op) [mP Mb, .agg ⟨acRow a⟩] m Mb Lb k av (ownS s a) (.agg ⟨Z6⟩) := by
  have hn := of_decide_eq_true how
  rcases hn with h | h | h
  · have : fW a.op = 45 := by rw [h]; rfl
    have h2 : ownS s a = setS s a := by unfold ownS; rw [if_pos h]
    rw [this, h2]; exact set_c hg h N hm hne hM hat ha
  · have : fW a.op = 51 := by rw [h]; rfl
    have h2 : ownS s a = jumpS s a := by unfold ownS; rw [if_neg (by omega), if_pos h]
    rw [this, h2]; exact jump_c hg h (N + 3) hm hne hM
  · have : fW a.op = 52 := by rw [h]; rfl
    have h2 : ownS s a = zeroS s a := by unfold ownS; rw [if_neg (by omega), if_neg (by omega)]
    rw [this, h2]; exact zero_c hg h N hm hne hM hat ha hap
end
/-- an event -/
structure Ev5 where
  th : Int
  kind : Int
  loc : Int
  val : U
  mode : Int
def ev5Row (e : Ev5) : List Value := [iv e.th, iv e.kind, iv e.loc, uv e.val.1, iv e.mode]
def eventOf (th : Int) (w : Wt) (v : U) : Ev5 := if w.what = 1 then ⟨th, 1, w.loc, v, w.mode⟩ else if w.what = 2 then ⟨th, 2, w.loc, w.val, w.mode⟩ else ⟨th, 3, -1, u0, w.mode⟩
end Go.Sx
namespace Go.Sx
open Go.Dx Go.Proofs
set_option maxRecDepth 10000
variable [Cdf]
def nextS (s : Ms) (a : Ac) : Ms := { s with asked := true, now := wantOf s a }
theorem wtL_ok (w : Wt) : ∀ v ∈ wtL w, okC v = true := by simp [wtL, okC]
section
variable {k na : Nat} {cells : Int} {a : Ac} {av : Value} {s : Ms} {Mb Lb : Nat} {m m' : M} {acts : List Ac}
end
end Go.Sx
namespace Go.Sx
open Go.Dx Go.Proofs
set_option maxRecDepth 10000
variable [Cdf]
def finS (s : Ms) (a : Ac) (v : U) : Ms :=
  if s.now.ex = true ∧ s.opn = true then { s with ls := s.ls.set a.dst.toNat s.old, opn := false, at_ := s.at_ + 1 }
  else if s.now.what = 1 then { s with ls := s.ls.set a.dst.toNat v, at_ := s.at_ + 1 }
  else { s with at_ := s.at_ + 1 }
def feedS (s : Ms) (a : Ac) (v : U) : Ms :=
  if s.now.what = 1 ∧ s.now.ex = true then
    if a.op ≠ 6 ∨ (valE s.ls a.es).1 = v.1 then { s with asked := false, old := v, opn := true } else finS { s with asked := false, old := v } a v
  else finS { s with asked := false } a v
section
variable {k na : Nat} {cells : Int} {a : Ac} {av : Value} {s : Ms} {Mb Lb : Nat} {m m0 : M} {acts : List Ac}
theorem feed_fin {Ab : Nat} (h : Ow m0 m [Mb, Lb] [(Ab, acRow a), (Mb, msRow k av (lvV Lb k) s), (Lb, lsR s.ls)]) (hl : s.ls.length = k) (hD : (s.now.ex = true ∧ s.opn = true) ∨ s.now.what = 1 → 0 ≤ a.dst ∧ a.dst < k) (hat : s.at_ < 9223372036854775807) (v : U) {x : Ex} {kn : K} {ke : Nat → K} {t : Tm}
    (t0 : Tm.get 0 t = mP Mb) (t1 : Tm.get 1 t = uv v.1) (t5 : Tm.get 5 t = .pointer (some ⟨Ab, 0, none⟩)) :
    FinR (fun w m' => Mc m0 m' [Mb, Lb] ∧ MsAt m' Mb Lb k av (finS s a v) ∧ w = iv 0) (ca5_19 x kn ke (resK [.t 4]) t m) := by
  have lM : ∀ o s', load1 m ⟨Mb, o, s'⟩ = (msRow k av (lvV Lb k) s)[o]? := fun o s' => (h.get 1 rfl).2.2.load1 o s'
  simp only [msRow] at lM
  have na1 := nextI hat
  obtain ⟨at1, hat1⟩ : ∃ n, n = s.at_ + 1 := ⟨_, rfl⟩
  rw [← hat1] at na1
  have la : ∀ o s', load1 m ⟨Ab, o, s'⟩ = (acRow a)[o]? := fun o s' => (h.get 0 rfl).2.2.load1 o s'
  simp only [acRow] at la
  by_cases hA : s.now.ex = true ∧ s.opn = true
  · obtain ⟨dd1, dd2⟩ := hD (.inl hA)
    obtain ⟨d, hd⟩ : ∃ d : Nat, a.dst = d := ⟨a.dst.toNat, by omega⟩
    have hix : iaddrSV 1 (lvV Lb k) (.int .i64 a.dst) = some (.pointer (some ⟨Lb, d, none⟩)) := by
      rw [hd]
      have := idxE (e := 1) (c := 3) Lb k d (by omega)
      rwa [Nat.mul_one] at this
    have hF : finS s a v = { s with ls := s.ls.set a.dst.toNat s.old, opn := false, at_ := s.at_ + 1 } := if_pos hA
    rw [hF]
    obtain ⟨h1, h2⟩ := hA
    rw [h1, h2] at lM
    obtain ⟨m2, f1, f3, f4, f5⟩ := h.store 1 rfl (o := 12) (v := .bool false) (by simp [msRow]) rfl
    have l2 : ∀ o s', load1 m2 ⟨Mb, o, s'⟩ = ((msRow k av (lvV Lb k) s).set 12 (.bool false))[o]? := fun o s' => (f3.get 1 rfl).2.2.load1 o s'
    simp only [msRow] at l2
    have la2 : ∀ o s', load1 m2 ⟨Ab, o, s'⟩ = (acRow a)[o]? := fun o s' => (f3.get 0 rfl).2.2.load1 o s'
    simp only [acRow] at la2
    obtain ⟨m3', g1, g2, g3, g4, g5⟩ := f3.storeAny 2 rfl (o := d) (v := uv s.old.1) (by rw [lsR_len, hl]; omega) rfl
    obtain ⟨m3, hm3⟩ : ∃ m3, m3 = behind m2 m3' := ⟨_, rfl⟩
    rw [← hm3] at g3
    have l3 : ∀ o s', load1 m3 ⟨Mb, o, s'⟩ = ((msRow k av (lvV Lb k) s).set 12 (.bool false))[o]? := fun o s' => (g3.get 1 rfl).2.2.load1 o s'
    simp only [msRow] at l3
    obtain ⟨m4, i1, i3, i4, i5⟩ := g3.store 1 rfl (o := 2) (v := iv at1) (by simp [msRow]) rfl
    have hs : MsAt m4 Mb Lb k av { s with ls := s.ls.set a.dst.toNat s.old, opn := false, at_ := s.at_ + 1 } := by
      refine Ow.msAt i3 1 2 ?_ ?_ ?_
      · show some (Mb, ((msRow k av (lvV Lb k) s).set 12 (.bool false)).set 2 (iv at1)) = _
        rw [hat1]; rfl
      · show some (Lb, (lsR s.ls).set d (uv s.old.1)) = _
        rw [lsR_set, hd, Int.toNat_natCast]
      · show (s.ls.set _ _).length = k
        rw [List.length_set]; exact hl
    simp [-binV_add, t0, t1, t5, lM, f1, l2, la2, hix, g1, ← hm3, l3, binV_add, na1, i1]
    exact fin_1 ⟨i3.mc, hs, by simp⟩
  · have hnx : (s.now.ex && s.opn) = false := by
      cases h1 : s.now.ex <;> cases h2 : s.opn <;> first | rfl | exact absurd ⟨h1, h2⟩ hA
    by_cases hB : s.now.what = 1
    · obtain ⟨dd1, dd2⟩ := hD (.inr hB)
      obtain ⟨d, hd⟩ : ∃ d : Nat, a.dst = d := ⟨a.dst.toNat, by omega⟩
      have hix : iaddrSV 1 (lvV Lb k) (.int .i64 a.dst) = some (.pointer (some ⟨Lb, d, none⟩)) := by
        rw [hd]
        have := idxE (e := 1) (c := 3) Lb k d (by omega)
        rwa [Nat.mul_one] at this
      have hF : finS s a v = { s with ls := s.ls.set a.dst.toNat v, at_ := s.at_ + 1 } := by unfold finS; rw [if_neg hA, if_pos hB]
      rw [hF]
      have dB : decide (s.now.what = 1) = true := decide_eq_true hB
      obtain ⟨m3', g1, g2, g3, g4, g5⟩ := h.storeAny 2 rfl (o := d) (v := uv v.1) (by rw [lsR_len, hl]; omega) rfl
      obtain ⟨m3, hm3⟩ : ∃ m3, m3 = behind m m3' := ⟨_, rfl⟩
      rw [← hm3] at g3
      have l3 : ∀ o s', load1 m3 ⟨Mb, o, s'⟩ = (msRow k av (lvV Lb k) s)[o]? := fun o s' => (g3.get 1 rfl).2.2.load1 o s'
      simp only [msRow] at l3
      obtain ⟨m4, i1, i3, i4, i5⟩ := g3.store 1 rfl (o := 2) (v := iv at1) (by simp [msRow]) rfl
      have hs : MsAt m4 Mb Lb k av { s with ls := s.ls.set a.dst.toNat v, at_ := s.at_ + 1 } := by
        refine Ow.msAt i3 1 2 ?_ ?_ ?_
        · show some (Mb, (msRow k av (lvV Lb k) s).set 2 (iv at1)) = _
          rw [hat1]; rfl
        · show some (Lb, (lsR s.ls).set d (uv v.1)) = _
          rw [lsR_set, hd, Int.toNat_natCast]
        · show (s.ls.set _ _).length = k
          rw [List.length_set]; exact hl
      cases hx : s.now.ex with
      | false =>
        rw [hx] at lM
        simp [-binV_add, t0, t1, t5, lM, dB, la, hix, g1, ← hm3, l3, binV_add, na1, i1]
        exact fin_1 ⟨i3.mc, hs, by simp⟩
      | true =>
        rw [hx, Bool.true_and] at hnx
        rw [hx, hnx] at lM
        simp [-binV_add, t0, t1, t5, lM, dB, la, hix, g1, ← hm3, l3, binV_add, na1, i1]
        exact fin_1 ⟨i3.mc, hs, by simp⟩
    · have hF : finS s a v = { s with at_ := s.at_ + 1 } := by unfold finS; rw [if_neg hA, if_neg hB]
      rw [hF]
      have dB : decide (s.now.what = 1) = false := decide_eq_false hB
      obtain ⟨m4, i1, i3, i4, i5⟩ := h.store 1 rfl (o := 2) (v := iv at1) (by simp [msRow]) rfl
      have hs : MsAt m4 Mb Lb k av { s with at_ := s.at_ + 1 } := by
        refine Ow.msAt i3 1 2 ?_ rfl hl
        show some (Mb, (msRow k av (lvV Lb k) s).set 2 (iv at1)) = _
        rw [hat1]; rfl
      cases hx : s.now.ex with
      | false =>
        rw [hx] at lM
        simp [-binV_add, t0, t1, t5, lM, dB, binV_add, na1, i1]
        exact fin_1 ⟨i3.mc, hs, by simp⟩
      | true =>
        rw [hx, Bool.true_and] at hnx
        rw [hx, hnx] at lM
        simp [-binV_add, t0, t1, t5, lM, dB, binV_add, na1, i1]
        exact fin_1 ⟨i3.mc, hs, by simp⟩
theorem feed_c (hE : Env m Mb Lb av acts) (hg : AcG k na cells a) (ha : acts[s.at_]? = some a) (hask : s.asked = true) (hw5 : s.now.what ≠ 5) (hw6 : s.now.what ≠ 6)
    (hD : (s.now.ex = true ∧ s.opn = true) ∨ s.now.what = 1 → pD a.op = true) (v : U) (N : Nat) (hm : m.base ≤ m.n) (hne : Mb ≠ Lb) (hM : MsAt m Mb Lb k av s) (hat : s.at_ < 9223372036854775807) :
    WrC (ex Tryz.prog (N + 4)) 14 [mP Mb, uv v.1] m Mb Lb k av (feedS s a v) (iv 0) := by
  refine call_fin (Q := fun w m' => Mc m m' [Mb, Lb] ∧ MsAt m' Mb Lb k av (feedS s a v) ∧ w = iv 0) da5_ok (by simp) ?_
  have ow0 := hM.ow hne hm
  have lM := hM.l1
  simp only [msRow] at lM
  rw [hask] at lM
  have d5 : decide (s.now.what = 5) = false := decide_eq_false hw5
  have d6 : decide (s.now.what = 6) = false := decide_eq_false hw6
  obtain ⟨m1, f1, f3, f4, f5⟩ := ow0.store 0 rfl (o := 10) (v := .bool false) (by simp [msRow]) rfl
  obtain ⟨s1, hs1⟩ : ∃ s1 : Ms, s1 = { s with asked := false } := ⟨_, rfl⟩
  have ow1 : Ow m m1 [Mb, Lb] [(Mb, msRow k av (lvV Lb k) s1), (Lb, lsR s1.ls)] := by
    have h := f3
    have hr : (msRow k av (lvV Lb k) s).set 10 (.bool false) = msRow k av (lvV Lb k) s1 := by rw [hs1]; rfl
    have hr2 : lsR s1.ls = lsR s.ls := by rw [hs1]
    rw [← hr, hr2]; exact h
  have hlen1 : s1.ls.length = k := by rw [hs1]; exact hM.len
  have hM1 : MsAt m1 Mb Lb k av s1 := Ow.msAt ow1 0 1 rfl rfl hlen1
  have hE1 := hE.mc ow1.mc
  have haok := hE.ok a (List.mem_of_getElem? ha)
  obtain ⟨v2, m2, c1, c2, rfl⟩ := act_c hE1 hM1 (by rw [hs1]; exact ha) (N + 2) ow1.mb
  have ow2 := ow1.step c2
  have ow3 := ow2.row Z11
  obtain ⟨m3, hm3⟩ : ∃ m3, m3 = Dx.newRow m2 Z11 := ⟨_, rfl⟩
  rw [← hm3] at ow3
  obtain ⟨m4, g1, g3, g4, g5⟩ := ow3.storeN 0 rfl (o := 0) (l' := acRow a) (n := 11) (by omega) rfl (by simp) (acRow_ok haok.1)
  have ow4 : Ow m m4 [Mb, Lb] [(m2.n, acRow a), (Mb, msRow k av (lvV Lb k) s1), (Lb, lsR s1.ls)] := by
    have h := g3
    rw [over_fill (by rfl)] at h
    exact h
  have l4 : ∀ o s', load1 m4 ⟨Mb, o, s'⟩ = (msRow k av (lvV Lb k) s1)[o]? := fun o s' => (ow4.get 1 rfl).2.2.load1 o s'
  simp only [msRow] at l4
  have hnow : s1.now = s.now := by rw [hs1]
  have hopn : s1.opn = s.opn := by rw [hs1]
  have hls : s1.ls = s.ls := by rw [hs1]
  have hat1 : s1.at_ = s.at_ := by rw [hs1]
  have hDD : ∀ s' : Ms, s'.now = s.now → s'.opn = s.opn → ((s'.now.ex = true ∧ s'.opn = true) ∨ s'.now.what = 1 → 0 ≤ a.dst ∧ a.dst < k) := fun s' h1 h2 h => by
    rw [h1, h2] at h
    exact hg.d (hD h)
  rw [hnow] at l4
  by_cases hA : s.now.what = 1 ∧ s.now.ex = true
  · obtain ⟨hw1, hx⟩ := hA
    have d1 : decide (s.now.what = 1) = true := decide_eq_true hw1
    rw [hx] at l4
    obtain ⟨m5, i1, i3, i4, i5⟩ := ow4.store 1 rfl (o := 11) (v := uv v.1) (by simp [msRow]) rfl
    obtain ⟨s2, hs2⟩ : ∃ s2 : Ms, s2 = { s with asked := false, old := v } := ⟨_, rfl⟩
    have ow5 : Ow m m5 [Mb, Lb] [(m2.n, acRow a), (Mb, msRow k av (lvV Lb k) s2), (Lb, lsR s2.ls)] := by
      have h := i3
      have hr : (msRow k av (lvV Lb k) s1).set 11 (uv v.1) = msRow k av (lvV Lb k) s2 := by rw [hs1, hs2]; rfl
      have hr2 : lsR s2.ls = lsR s1.ls := by rw [hs1, hs2]
      rw [← hr, hr2]; exact h
    have hlen2 : s2.ls.length = k := by rw [hs2]; exact hM.len
    have hM5 : MsAt m5 Mb Lb k av s2 := Ow.msAt ow5 1 2 rfl rfl hlen2
    have l5 := hM5.l1
    simp only [msRow] at l5
    have la5 : ∀ o s', load1 m5 ⟨m2.n, o, s'⟩ = (acRow a)[o]? := fun o s' => (ow5.get 0 rfl).2.2.load1 o s'
    simp only [acRow] at la5
    have hls2 : s2.ls = s.ls := by rw [hs2]
    by_cases h6 : a.op = 6
    · have q6 : decide (a.op = 6) = true := decide_eq_true h6
      have haok5 := haok.1.mc haok.2 ow5.mc
      obtain ⟨v6, m6', e1, e2, e3, rfl⟩ := any_call (value_u hM5.len (hg.e (by rw [h6]; rfl)) N (forAny m5) (sees_any (Sees.refl ow5.mb)).base (haok5.ev.sees (sees_any (Sees.refl ow5.mb))) hM5.any.rd)
      obtain ⟨m6, hm6⟩ : ∃ m6, m6 = behind m5 m6' := ⟨_, rfl⟩
      rw [← hm6] at e3
      have ow6 := ow5.step e3
      obtain ⟨y, hy⟩ : ∃ y, y = valE s.ls a.es := ⟨_, rfl⟩
      rw [hls2, ← hy] at e1
      by_cases hyv : y.1 = v.1
      · have dv : decide ((y.1 : Int) = (v.1 : Int)) = true := decide_eq_true (by omega)
        have dv' : decide (y.1 = v.1) = true := decide_eq_true hyv
        have hF : feedS s a v = { s with asked := false, old := v, opn := true } := by unfold feedS; rw [if_pos ⟨hw1, hx⟩, if_pos (.inr (by rw [← hy]; exact hyv))]
        rw [hF]
        obtain ⟨m7, n1, n3, n4, n5⟩ := ow6.store 1 rfl (o := 12) (v := .bool true) (by simp [msRow]) rfl
        have hs : MsAt m7 Mb Lb k av { s with asked := false, old := v, opn := true } := by
          refine Ow.msAt n3 1 2 ?_ ?_ hM.len
          · rw [hs2]; rfl
          · rw [hs2]; rfl
        simp [lM, d5, d6, f1, c1, ← hm3, g1, l4, d1, i1, la5, q6, l5, e1, ← hm6, dv, dv', n1]
        exact fin_1 ⟨n3.mc, hs, by simp⟩
      · have dv : decide ((y.1 : Int) = (v.1 : Int)) = false := decide_eq_false (by omega)
        have dv' : decide (y.1 = v.1) = false := decide_eq_false hyv
        have hF : feedS s a v = finS s2 a v := by unfold feedS; rw [if_pos ⟨hw1, hx⟩, if_neg (by rw [← hy]; intro h; rcases h with h | h; exact h h6; exact hyv h), hs2]
        rw [hF]
        simp [lM, d5, d6, f1, c1, ← hm3, g1, l4, d1, i1, la5, q6, l5, e1, ← hm6, dv, dv', -ca5_19_ap]
        exact feed_fin ow6 hlen2 (hDD s2 (by rw [hs2]) (by rw [hs2])) (by rw [hs2]; exact hat) v (by simp) (by simp) (by simp)
    · have q6 : decide (a.op = 6) = false := decide_eq_false h6
      have hF : feedS s a v = { s with asked := false, old := v, opn := true } := by unfold feedS; rw [if_pos ⟨hw1, hx⟩, if_pos (.inl h6)]
      rw [hF]
      obtain ⟨m7, n1, n3, n4, n5⟩ := ow5.store 1 rfl (o := 12) (v := .bool true) (by simp [msRow]) rfl
      have hs : MsAt m7 Mb Lb k av { s with asked := false, old := v, opn := true } := by
        refine Ow.msAt n3 1 2 ?_ ?_ hM.len
        · rw [hs2]; rfl
        · rw [hs2]; rfl
      simp [lM, d5, d6, f1, c1, ← hm3, g1, l4, d1, i1, la5, q6, n1]
      exact fin_1 ⟨n3.mc, hs, by simp⟩
  · have hF : feedS s a v = finS s1 a v := by unfold feedS; rw [if_neg hA, hs1]
    rw [hF]
    have fin := fun {x : Ex} {kn : K} {ke : Nat → K} {t : Tm} => feed_fin (x := x) (kn := kn) (ke := ke) (t := t) ow4 hlen1 (hDD s1 hnow hopn) (by rw [hat1]; exact hat) v
    by_cases hw1 : s.now.what = 1
    · have d1 : decide (s.now.what = 1) = true := decide_eq_true hw1
      have hx : s.now.ex = false := by
        cases h : s.now.ex with
        | false => rfl
        | true => exact absurd ⟨hw1, h⟩ hA
      rw [hx] at l4
      simp [lM, d5, d6, f1, c1, ← hm3, g1, l4, d1, -ca5_19_ap]
      exact fin (by simp) (by simp) (by simp)
    · have d1 : decide (s.now.what = 1) = false := decide_eq_false hw1
      simp [lM, d5, d6, f1, c1, ← hm3, g1, l4, d1, -ca5_19_ap]
      exact fin (by simp) (by simp) (by simp)
end
end Go.Sx
namespace Go.Sx
open Go.Dx Go.Proofs
set_option maxRecDepth 10000
instance cdf3 : Cdf := ⟨3⟩
theorem rd_nil0 {α : Type} {m : M} {e : Nat} {f : α → List Value} : Rd m (.slice none 0 0) e f [] := ⟨rfl, fun i r hr => by simp at hr, rfl, fun B hB => by cases hB⟩
theorem nil_rows {α : Type} {m : M} {e : Nat} {f : α → List Value} {es : List α} {n c : Nat} (h : Rd m (.slice none n c) e f es) : es = [] := by
  cases hc : es with
  | nil => rfl
  | cons x xs => have := (h.row 0 x (by rw [hc]; rfl)).1; cases this
theorem CloneN_c (n : Nat) (ed : Value) (es : List Nd) (hl : es.length ≤ 65536) (m : M) (hm : m.base ≤ m.n) (hed : Rd m ed 4 nodeRow es) :
    Dx.Call (ex Tryz.prog (n + 1)) 36 [ed] m fun v m' => Rd m' v 4 nodeRow es ∧ ∀ B, blk v = some B → m.n ≤ B := by
  refine call_ret dc2_ok (by simp) ?_
  have hel := hed.len
  have hn := eqN_nilS hel
  obtain ⟨v', m', h1, h2, h3, h4, h5⟩ := append_clone hm hed nodeRow_len 32 (by unfold most; omega) (by omega)
  have hbs : bsliceS 4 0 (rep 0 [(.int .i64 0), (.int .u64 0), (.int .i64 0), (.int .i64 0)]) [] m = some (.slice (some ⟨m.n, 0, some (code 4 true)⟩) 0 0, Dx.newRow m []) := rfl
  simp [hn]
  cases ed with
  | slice a k c =>
    cases a with
    | none =>
      simp
      obtain rfl := nil_rows hed
      exact ret_1 (by simp) (by simp only [get_set, reduceIte]; exact ⟨rd_nil0, fun B hB => by cases hB⟩)
    | some a =>
      simp [hbs, h1]
      exact ret_1 h2 (by simp only [get_set, reduceIte]; exact ⟨h3, fun B hB => (h4 B hB).1⟩)
  | _ => cases hel
theorem acRow_len (a : Ac) : (acRow a).length = 11 := rfl
theorem CloneA_c (n : Nat) (ed : Value) (es : List Ac) (hl : es.length ≤ 65536) (m : M) (hm : m.base ≤ m.n) (hed : Rd m ed 11 acRow es) :
    Dx.Call (ex Tryz.prog (n + 1)) 35 [ed] m fun v m' => Rd m' v 11 acRow es ∧ (∀ B, blk v = some B → m.n ≤ B ∧ Arr m' B (es.flatMap acRow)) ∧ (es ≠ [] → ∃ B, v = .slice (some ⟨B, 0, some (code 11 false)⟩) es.length es.length) := by
  refine call_ret dc1_ok (by simp) ?_
  have hel := hed.len
  have hn := eqN_nilS hel
  obtain ⟨v', m', h1, h2, h3, h4, h5⟩ := append_clone hm hed acRow_len 136 (by unfold most; omega) (by omega)
  have hbs : bsliceS 11 0 (rep 0 [(.int .i64 0), (.int .i64 0), (.int .i64 0), (.int .i64 0), (.slice none 0 0), (.slice none 0 0), (.slice none 0 0), (.int .i64 0), (.int .i64 0), (.int .i64 0), (.int .i64 0)]) [] m = some (.slice (some ⟨m.n, 0, some (code 11 true)⟩) 0 0, Dx.newRow m []) := rfl
  simp [hn]
  cases ed with
  | slice a k c =>
    cases a with
    | none =>
      simp
      obtain rfl := nil_rows hed
      exact ret_1 (by simp) (by simp only [get_set, reduceIte]; exact ⟨rd_nil0, (fun B hB => by cases hB), fun h => absurd trivial h⟩)
    | some a =>
      simp [hbs, h1]
      exact ret_1 h2 (by simp only [get_set, reduceIte]; exact ⟨h3, h4, fun h => ⟨_, h5 h⟩⟩)
  | _ => cases hel
/-- the same act, but for where its lists lie -/
def AcEq (a b : Ac) : Prop := ∃ x y z, a = { b with ix := x, ev := y, fv := z }
theorem AcEq.refl (a : Ac) : AcEq a a := ⟨a.ix, a.ev, a.fv, rfl⟩
def ms0 (k : Nat) : Ms := ⟨0, List.replicate k u0, wt0, false, u0, false⟩
/-- the acts and their lists lie in blocks of one's own -/
structure NewF (m0 : M) (v' : Value) (cur : List Ac) : Prop where
  av : ∀ B, blk v' = some B → m0.n ≤ B
  ac : ∀ a ∈ cur, ∀ B, (blk a.ix = some B ∨ blk a.ev = some B ∨ blk a.fv = some B) → m0.n ≤ B
def NewP (m0 : M) (k : Nat) (cur : List Ac) (v : Value) (m' : M) : Prop :=
  ∃ Mb Lb v', v = .tuple #[mP Mb, iv 0] ∧ Mb ≠ Lb ∧ m0.n ≤ Mb ∧ m0.n ≤ Lb ∧ MsAt m' Mb Lb k v' (ms0 k) ∧ Env m' Mb Lb v' cur ∧ NewF m0 v' cur
theorem lsR_zero (k : Nat) : ((List.range k).flatMap fun _ => [Value.int .u64 0]) = lsR (List.replicate k u0) := by
  rw [grR_nil]
  unfold grR lsR
  rw [List.map_nil, List.nil_append, List.length_nil, Nat.sub_zero, List.map_replicate]
  rfl
abbrev Z13 : List Value := [.int .i64 0, .slice none 0 0, .int .i64 0, .slice none 0 0, .int .i64 0, .int .i64 0, .int .i64 0, .int .u64 0, .bool false, .bool false, .bool false, .int .u64 0, .bool false]
theorem new_tail {m0 m : M} {σ : List (Nat × List Value)} {Bt k : Nat} {v' : Value} {cur : List Ac} (st : St m0 m ((Bt, [iv k, v']) :: σ)) (hR : Rd m v' 11 acRow cur) (hok : ∀ a ∈ cur, AcOK m a) (hF : NewF m0 v' cur) (hk : k ≤ 24) {x : Ex} {kn : K} {ke : Nat → K} {t : Tm} (t6 : Tm.get 6 t = .pointer (some ⟨Bt, 0, none⟩)) :
    Ret m0 (NewP m0 k cur) (ca3_13 x kn ke (resK [.t 4, .t 5]) t m) := by
  have l2 : loads m ⟨Bt, 0, none⟩ 2 = some [iv k, v'] := (st.get 0 rfl).2.2.loads (n := 2) (by simp)
  have l1 : ∀ o s, load1 m ⟨Bt, o, s⟩ = [iv k, v'][o]? := fun o s => (st.get 0 rfl).2.2.load1 o s
  have mk := mk_rowsN (n := k) (e := 1) (bytes := 8) (zs := [.int .u64 0]) rfl (by omega) (by unfold most; omega) (by omega) m
  rw [lsR_zero] at mk
  obtain ⟨m1, hm1⟩ : ∃ m1, m1 = Dx.newRow m (lsR (List.replicate k u0)) := ⟨_, rfl⟩
  rw [← hm1] at mk
  obtain ⟨a, n, c, rfl⟩ : ∃ a n c, v' = .slice a n c := by
    have := hR.len
    cases v' with
    | slice a n c => exact ⟨a, n, c, rfl⟩
    | _ => cases this
  obtain ⟨R, hRw⟩ : ∃ R : List Value, R = [.int .i64 k, .slice a n c, .int .i64 0, .slice (some ⟨m.n, 0, some 3⟩) k k, .int .i64 0, .int .i64 0, .int .i64 0, .int .u64 0, .bool false, .bool false, .bool false, .int .u64 0, .bool false] := ⟨_, rfl⟩
  have b : buildV Z13 [(0, 2, .agg ⟨[iv k, .slice a n c]⟩), (3, 1, .slice (some ⟨m.n, 0, some (code 1 true)⟩) k k)] = some (.agg ⟨R⟩) := by rw [hRw]; rfl
  obtain ⟨m2, hm2⟩ : ∃ m2, m2 = Dx.newRow m1 R := ⟨_, rfl⟩
  have st1 := st.row (lsR (List.replicate k u0))
  rw [← hm1] at st1
  have st2 := st1.row R
  rw [← hm2] at st2
  have hn1 : m1.n = m.n + 1 := by rw [hm1]; exact newRow_n _ _
  have E2 : Ext m m2 := by rw [hm2, hm1]; exact (Ext.row _ _).trans (Ext.row _ _)
  have hm0 := st.ext.n
  have hrow : msRow k (.slice a n c) (lvV m.n k) (ms0 k) = R := by rw [hRw]; rfl
  have S2 : Sees m m2 := ((Sees.refl (by rw [st.ext.base]; exact Nat.le_trans st.base hm0)).ext E2)
  simp [t6, l2, l1, loadNS_ptr, mk, b, ← hm2]
  refine ret_2 st2.ext ⟨m1.n, m.n, .slice a n c, by simp, by omega, by omega, by omega, ⟨by rw [hrow]; exact (st2.get 0 rfl).2.2, (st2.get 1 rfl).2.2, List.length_replicate, (st2.get 0 rfl).2.1, (st2.get 1 rfl).2.1⟩, ⟨hR.sees S2, fun B hB => ?_, fun x hx => ⟨(hok x hx).sees S2, ?_, ?_, ?_⟩⟩, hF⟩
  · have := hR.lt B hB
    simp; omega
  · intro B hB
    have := (hok x hx).ix.lt B hB
    simp; omega
  · intro B hB
    have := (hok x hx).ev.lt B hB
    simp; omega
  · intro B hB
    have := (hok x hx).fv.lt B hB
    simp; omega
theorem flatMap_set {α : Type} {e : Nat} {f : α → List Value} (hf : ∀ x, (f x).length = e) {o : Nat} (ho : o < e) {v : Value} : ∀ {l : List α} {i : Nat} {a a' : α}, l[i]? = some a → f a' = (f a).set o v → (l.flatMap f).set (i * e + o) v = (l.set i a').flatMap f
  | [], i, a, a', h, _ => by simp at h
  | x :: l, 0, a, a', h, h2 => by
    simp at h; subst h
    rw [Nat.zero_mul, Nat.zero_add, List.set_cons_zero, List.flatMap_cons, List.flatMap_cons, List.set_append_left _ _ (by rw [hf]; exact ho), h2]
  | x :: l, i + 1, a, a', h, h2 => by
    rw [List.set_cons_succ, List.flatMap_cons, List.flatMap_cons, List.set_append_right _ _ (by rw [hf, Nat.succ_mul]; omega), hf, show (i + 1) * e + o - e = i * e + o by rw [Nat.succ_mul]; omega, flatMap_set hf ho (by simpa using h) h2]
end Go.Sx
namespace Go.Sx
open Go.Dx Go.Proofs
set_option maxRecDepth 10000
theorem esB_len {k na : Nat} {cells : Int} {a : Ac} (h : AcG k na cells a) : a.es.length ≤ 65536 ∧ a.fs.length ≤ 65536 ∧ a.ixs.length ≤ 65536 := by
  have h1 := h.es
  unfold esB at h1
  simp only [Bool.and_eq_true] at h1
  have len : ∀ (p : Bool) (e : List Nd), decide (p = decide (0 < e.length)) = true → (!p || exprB k e) = true → e.length ≤ 65536 := fun p e hp he => by
    have hp' := of_decide_eq_true hp
    cases p with
    | true => simp at he; exact (exprB_oks he).2.1
    | false =>
      have : ¬ 0 < e.length := of_decide_eq_false hp'.symm
      omega
  refine ⟨len _ _ h1.1.1.1 h1.1.2, len _ _ h1.1.1.2 h1.2, ?_⟩
  have h2 := h.pl
  unfold plB at h2
  cases hp : pP a.op with
  | true =>
    rw [hp] at h2
    simp only [if_true] at h2
    unfold placeB at h2
    simp only [Bool.and_eq_true] at h2
    have h3 := h2.2
    by_cases h0 : a.size = 0
    · rw [if_pos h0] at h3; have := of_decide_eq_true h3; omega
    · rw [if_neg h0] at h3; exact (exprB_oks h3).2.1
  | false =>
    rw [hp] at h2
    simp at h2
    have := h2.2.2
    rw [this]; simp
/-- what of the acts has been laid anew -/
structure NJ (m0 m : M) (Bc i : Nat) (acts cur : List Ac) : Prop where
  len : cur.length = acts.length
  eq : ∀ (j : Nat) a, acts[j]? = some a → ∃ a', cur[j]? = some a' ∧ AcEq a' a ∧ AcOK m a'
  old : ∀ (j : Nat), i ≤ j → cur[j]? = acts[j]?
  own : ∀ (j : Nat) a', j < i → cur[j]? = some a' → ∀ B, (blk a'.ix = some B ∨ blk a'.ev = some B ∨ blk a'.fv = some B) → Bc < B
theorem AcOK.congr {m m' : M} {a : Ac} (h : AcOK m a) (hn : m.n ≤ m'.n) (k : ∀ B, (blk a.ix = some B ∨ blk a.ev = some B ∨ blk a.fv = some B) → m'.obj B = m.obj B) : AcOK m' a :=
  ⟨h.ix.congr hn fun B hB => k B (.inl hB), h.ev.congr hn fun B hB => k B (.inr (.inl hB)), h.fv.congr hn fun B hB => k B (.inr (.inr hB)), h.ixl, h.evl, h.fvl⟩
theorem AcOK.lt {m : M} {a : Ac} (h : AcOK m a) : ∀ B, (blk a.ix = some B ∨ blk a.ev = some B ∨ blk a.fv = some B) → B < m.n := fun B hB => by
  rcases hB with hB | hB | hB
  · exact h.ix.lt B hB
  · exact h.ev.lt B hB
  · exact h.fv.lt B hB
theorem ret_mono {m0 : M} {P Q : Value → M → Prop} {o : Option Out} (h : Ret m0 P o) (k : ∀ v m', P v m' → Q v m') : Ret m0 Q o := let ⟨v, m', e, h1, h2⟩ := h; ⟨v, m', e, h1, k v m' h2⟩
theorem _root_.Go.Dx.St.add {m0 m : M} {σ : List (Nat × List Value)} {B : Nat} {l : List Value} (h : St m0 m σ) (h1 : m0.n ≤ B) (h2 : B < m.n) (h3 : Arr m B l) (h4 : ∀ p ∈ σ, p.1 ≠ B) : St m0 m ((B, l) :: σ) := by
  refine ⟨h.ext, h.base, fun p hp => ?_, ?_⟩
  · rcases List.mem_cons.1 hp with rfl | hp
    · exact ⟨h1, h2, h3⟩
    · exact h.arr p hp
  · rw [List.map_cons, List.nodup_cons]
    refine ⟨fun hm => ?_, h.nd⟩
    obtain ⟨q, hq, e⟩ := List.mem_map.1 hm
    exact h4 q hq e
theorem New_c (p : Pg) (th : Int) (N : Nat) (m : M) (hm : m.base ≤ m.n) (hp : PgOK m p) :
    Dx.Call (ex Tryz.prog (N + 6)) 12 [pgV p, iv th] m fun v m' =>
      if pgB p = true ∧ 0 ≤ th ∧ th < p.ths.length then ∃ t cur, p.ths[th.toNat]? = some t ∧ cur.length = t.acts.length ∧ (∀ (j : Nat) a, t.acts[j]? = some a → ∃ a', cur[j]? = some a' ∧ AcEq a' a) ∧ NewP m t.loc.toNat cur v m'
      else v = .tuple #[.pointer none, iv 1] := by
  refine call_ret da3_ok (by simp) ?_
  obtain ⟨n, hn⟩ : ∃ n, n = p.ths.length := ⟨_, rfl⟩
  have hll : lenS p.tv = some (.int .i64 (n : Int)) := by rw [hn]; exact hp.tv.len
  have st1 := (St.nil hm (Ext.refl m)).row [iv p.cells, p.tv]
  obtain ⟨m1, hm1⟩ : ∃ m1, m1 = Dx.newRow m [iv p.cells, p.tv] := ⟨_, rfl⟩
  rw [← hm1] at st1
  have l2 : loads m1 ⟨m.n, 0, none⟩ 2 = some [iv p.cells, p.tv] := (st1.get 0 rfl).2.2.loads (n := 2) (by simp)
  obtain ⟨v2, m2, c1, c2, rfl⟩ := Whole_c p N m1 st1.sees.self.base (hp.sees st1.sees)
  have st2 := st1.step c2
  have l1 : ∀ o s, load1 m2 ⟨m.n, o, s⟩ = [iv p.cells, p.tv][o]? := fun o s => (st2.get 0 rfl).2.2.load1 o s
  have hpv : pgV p = .agg ⟨[iv p.cells, p.tv]⟩ := rfl
  rw [hpv] at c1 ⊢
  rw [← hn]
  cases hB : pgB p with
  | false =>
    rw [hB] at c1
    rw [show (fun (v : Value) (m' : M) => if false = true ∧ 0 ≤ th ∧ th < (n : Int) then _ else v = .tuple #[.pointer none, iv 1]) = fun (v : Value) (m' : M) => v = .tuple #[.pointer none, iv 1] from funext fun v => funext fun m' => if_neg (by simp)]
    simp [← hm1, l2, loadNS_ptr, c1]
    exact ret_2 st2.ext (by simp)
  | true =>
  rw [hB] at c1
  by_cases h0 : th < 0
  · have e0 : (th < 0) = True := eq_true h0
    rw [show (fun (v : Value) (m' : M) => if true = true ∧ 0 ≤ th ∧ th < (n : Int) then _ else v = .tuple #[.pointer none, iv 1]) = fun (v : Value) (m' : M) => v = .tuple #[.pointer none, iv 1] from funext fun v => funext fun m' => if_neg (by omega)]
    simp [← hm1, l2, loadNS_ptr, c1, e0]
    exact ret_2 st2.ext (by simp)
  have e0 : (th < 0) = False := eq_false h0
  by_cases h1 : (n : Int) ≤ th
  · have e1 : ((n : Int) ≤ th) = True := eq_true h1
    rw [show (fun (v : Value) (m' : M) => if true = true ∧ 0 ≤ th ∧ th < (n : Int) then _ else v = .tuple #[.pointer none, iv 1]) = fun (v : Value) (m' : M) => v = .tuple #[.pointer none, iv 1] from funext fun v => funext fun m' => if_neg (by omega)]
    simp [← hm1, l2, loadNS_ptr, c1, e0, l1, hll, e1]
    exact ret_2 st2.ext (by simp)
  have e1 : ((n : Int) ≤ th) = False := eq_false h1
  obtain ⟨T, hT⟩ : ∃ T : Nat, th = T := ⟨th.toNat, by omega⟩
  obtain ⟨t, ht⟩ : ∃ t, p.ths[T]? = some t := ⟨_, List.getElem?_eq_getElem (by omega)⟩
  have htok := hp.ths t (List.mem_of_getElem? ht)
  have htB : thB p.cells t = true := by
    unfold pgB at hB
    simp only [Bool.and_eq_true] at hB
    exact List.all_eq_true.1 hB.2.2 t (List.mem_of_getElem? ht)
  unfold thB at htB
  simp only [Bool.and_eq_true, decide_eq_true_eq] at htB
  obtain ⟨⟨hl0, hl1⟩, htl, hacts⟩ := htB
  have hac : ∀ a ∈ t.acts, AcG t.loc.toNat t.acts.length p.cells a := fun a ha => actB_g (List.all_eq_true.1 hacts a ha)
  obtain ⟨k, hk⟩ : ∃ k, k = t.loc.toNat := ⟨_, rfl⟩
  have hkl : t.loc = (k : Int) := by omega
  have hT' : th.toNat = T := by omega
  rw [show (fun (v : Value) (m' : M) => if true = true ∧ 0 ≤ th ∧ th < (n : Int) then (∃ t cur, p.ths[th.toNat]? = some t ∧ cur.length = t.acts.length ∧ (∀ (j : Nat) a, t.acts[j]? = some a → ∃ a', cur[j]? = some a' ∧ AcEq a' a) ∧ NewP m t.loc.toNat cur v m') else v = .tuple #[.pointer none, iv 1]) = fun (v : Value) (m' : M) => (∃ t cur, p.ths[th.toNat]? = some t ∧ cur.length = t.acts.length ∧ (∀ (j : Nat) a, t.acts[j]? = some a → ∃ a', cur[j]? = some a' ∧ AcEq a' a) ∧ NewP m t.loc.toNat cur v m') from funext fun v => funext fun m' => if_pos ⟨rfl, by omega, by omega⟩]
  suffices H : Ret m (fun v m' => ∃ cur : List Ac, cur.length = t.acts.length ∧ (∀ (j : Nat) a, t.acts[j]? = some a → ∃ a', cur[j]? = some a' ∧ AcEq a' a) ∧ NewP m k cur v m') (ca3_18 (ex Tryz.prog (N + 5)) (resK [.t 4, .t 5]) noK (resK [.t 4, .t 5]) (initT .blank 0 [.agg ⟨[iv p.cells, p.tv]⟩, iv th]) m) by
    obtain ⟨v, m', e, e2, cur, q1, q2, q3⟩ := H
    exact ⟨v, m', e, e2, t, cur, by rw [hT']; exact ht, q1, q2, by rw [← hk]; exact q3⟩
  -- the thread's own box
  have ⟨a1, a2, _⟩ := hp.tv.at ht
  rw [← hT] at a1
  have a2' := a2 m2 st2.sees
  simp only [thRow] at a2'
  rw [hkl] at a2'
  have st3 := st2.row [.int .i64 0, .slice none 0 0]
  obtain ⟨m3, hm3⟩ : ∃ m3, m3 = Dx.newRow m2 [.int .i64 0, .slice none 0 0] := ⟨_, rfl⟩
  rw [← hm3] at st3
  obtain ⟨m4, f1, f2, f3, f4⟩ := st3.fill 0 rfl (n := 2) (l' := [iv k, t.av]) rfl rfl (by simp [okC]; exact htok.av.okV)
  have l4 : ∀ o s, load1 m4 ⟨m2.n, o, s⟩ = [iv k, t.av][o]? := fun o s => (f2.get 0 rfl).2.2.load1 o s
  obtain ⟨v5, m5, g1, g2, g3, g4, g5⟩ := CloneA_c (N + 4) t.av t.acts htl m4 f2.sees.self.base (htok.av.sees f2.sees)
  have st5 := f2.step g2
  have okv5 : okC v5 = true := g3.okV
  obtain ⟨m6, i1, i2, i3, i4⟩ := st5.store 0 rfl (o := 1) (v := v5) (by simp) okv5
  have st6 : St m m6 [(m2.n, [iv k, v5]), (m.n, [iv p.cells, p.tv])] := i2
  have h25 : m2.n < m4.n := by rw [f3, hm3, newRow_n]; omega
  have hlt5 : ∀ B, blk v5 = some B → B ≠ m2.n := fun B hB => by have := (g4 B hB).1; omega
  have R6 : Rd m6 v5 11 acRow t.acts := g3.congr (by rw [i3]; exact Nat.le_refl _) fun B hB => i4 B (hlt5 B hB)
  have l6 : ∀ o s, load1 m6 ⟨m2.n, o, s⟩ = [iv k, v5][o]? := fun o s => (st6.get 0 rfl).2.2.load1 o s
  obtain ⟨na, hna⟩ : ∃ na, na = t.acts.length := ⟨_, rfl⟩
  have hal : lenS v5 = some (.int .i64 (na : Int)) := by rw [hna]; exact R6.len
  simp [← hm1, l2, loadNS_ptr, c1, e0, l1, hll, e1, a1, a2', ← hm3, f1, l4, g1, i1, l6, hal, -ca3_13_ap]
  by_cases hz : t.acts = []
  · -- no acts
    have hna0 : na = 0 := by rw [hna, hz]; rfl
    refine loop_run (c := ca3_10) rfl (Ret m _) (fun i T' m' => m' = m6 ∧ Tm.get 6 T' = .pointer (some ⟨m2.n, 0, none⟩) ∧ Tm.get 34 T' = iv na ∧ Tm.get 35 T' = iv 0) 0 (by omega)
      ⟨rfl, by simp, by simp, by simp⟩ (fun i T' m' k' hi hI hk' => ?_)
    obtain ⟨rfl, t6, t34, t35⟩ := hI
    have hd : ((0 : Int) < (na : Int)) = False := eq_false (by omega)
    have hd' : (0 < na) = False := eq_false (by omega)
    simp [t34, t35, hd, hd', -ca3_13_ap]
    exact ret_mono (new_tail (σ := [(m.n, [iv p.cells, p.tv])]) st6 R6 (fun a ha => by rw [hz] at ha; cases ha) ⟨fun B hB => by have := (g4 B hB).1; have := f2.ext.n; omega, fun a ha => by rw [hz] at ha; cases ha⟩ (by omega) (by simp [t6])) (fun v m' h => ⟨t.acts, rfl, fun j a hj => ⟨a, hj, AcEq.refl a⟩, h⟩)
  · obtain ⟨Bc, hv5⟩ := g5 hz
    obtain ⟨hBc, hArr⟩ := g4 Bc (by rw [hv5]; rfl)
    have hBc6 : Bc < m6.n := R6.lt Bc (by rw [hv5]; rfl)
    have hmn2 : m.n ≤ m2.n := st2.ext.n
    have hmm2 : m.n < m2.n := (st2.get 0 rfl).2.1
    have st6c : St m m6 [(Bc, t.acts.flatMap acRow), (m2.n, [iv k, v5]), (m.n, [iv p.cells, p.tv])] := by
      refine st6.add (by omega) hBc6 (hArr.congr (i4 Bc (hlt5 Bc (by rw [hv5]; rfl)))) (fun q hq => ?_)
      rcases List.mem_cons.1 hq with rfl | hq
      · show m2.n ≠ Bc; omega
      · rw [List.mem_singleton.1 hq]; show m.n ≠ Bc; omega
    have hap0 : ∀ a ∈ t.acts, AcOK m a := htok.acts
    rw [← hna] at hv5
    have hnal : na ≤ 65536 := by rw [hna]; exact htl
    have ix : ∀ j, j < na → iaddrSV 11 v5 (.int .i64 (j : Int)) = some (.pointer (some ⟨Bc, j * 11, none⟩)) := fun j hj => by rw [hv5]; exact idxE Bc na j hj
    refine loop_run (c := ca3_10) rfl (Ret m _) (fun i T' m' => ∃ cur, St m m' [(Bc, cur.flatMap acRow), (m2.n, [iv k, v5]), (m.n, [iv p.cells, p.tv])] ∧ NJ m m' Bc i t.acts cur ∧ Tm.get 6 T' = .pointer (some ⟨m2.n, 0, none⟩) ∧ Tm.get 33 T' = v5 ∧ Tm.get 34 T' = iv na ∧ Tm.get 35 T' = iv i) na (by omega)
      ⟨t.acts, st6c, ⟨rfl, fun j a hj => ⟨a, hj, AcEq.refl a, (hap0 a (List.mem_of_getElem? hj)).sees st6.sees⟩, fun j _ => rfl, fun j a' hj => absurd hj (Nat.not_lt_zero _)⟩, by simp, by simp, by simp, by simp⟩ (fun i T' m' k' hi hI hk' => ?_)
    obtain ⟨cur, st, nj, t6, t33, t34, t35⟩ := hI
    have hcl : cur.length = na := nj.len.trans hna.symm
    by_cases hil : i < na
    · have hd := dlt hil
      have ni := nextI (i := i) (by omega)
      obtain ⟨ai, hai⟩ : ∃ a, t.acts[i]? = some a := ⟨_, List.getElem?_eq_getElem (by omega)⟩
      have hci : cur[i]? = some ai := (nj.old i (Nat.le_refl _)).trans hai
      have hmem := List.mem_of_getElem? hai
      have haok := hap0 ai hmem
      have hacg := hac ai hmem
      obtain ⟨el, fl, xl⟩ := esB_len hacg
      have hRc : Rd m' v5 11 acRow cur := by
        have := rd_made (c := code 11 false) acRow_len (st.get 0 rfl).2.2 (st.get 0 rfl).2.1
        rw [hcl] at this
        rw [hv5]; exact this
      have ⟨b1, b2, _⟩ := hRc.at hci
      have b2' := b2 m' st.sees.self
      have ixi := ix i hil
      have hadr : adr 11 v5 i = ⟨Bc, i * 11, none⟩ := by
        have := b1.symm.trans ixi
        injection this with this
        injection this with this
        injection this
      rw [hadr] at b2'
      have s1 := st.row Z11
      obtain ⟨n1, hn1⟩ : ∃ n1, n1 = Dx.newRow m' Z11 := ⟨_, rfl⟩
      rw [← hn1] at s1
      obtain ⟨n2, x1, x2, x3, x4⟩ := s1.fill 0 rfl (n := 11) (l' := acRow ai) rfl rfl (acRow_ok haok)
      have s2 : St m n2 [(m'.n, acRow ai), (Bc, cur.flatMap acRow), (m2.n, [iv k, v5]), (m.n, [iv p.cells, p.tv])] := x2
      have la2 : ∀ o s, load1 n2 ⟨m'.n, o, s⟩ = (acRow ai)[o]? := fun o s => (s2.get 0 rfl).2.2.load1 o s
      have lt2 : ∀ o s, load1 n2 ⟨m2.n, o, s⟩ = [iv k, v5][o]? := fun o s => (s2.get 2 rfl).2.2.load1 o s
      simp only [acRow] at la2
      -- three clones
      obtain ⟨e', n3', y1, y2, y3, y4, y5⟩ := any_call (CloneN_c (N + 4) ai.ev ai.es el (forAny n2) (sees_any s2.sees).base (haok.ev.sees (sees_any s2.sees)))
      obtain ⟨n3, hn3⟩ : ∃ n3, n3 = behind n2 n3' := ⟨_, rfl⟩
      rw [← hn3] at y3
      have s3 := s2.step y3
      have y4' : Rd n3 e' 4 nodeRow ai.es := by rw [hn3]; exact y4.behind
      have la3 : ∀ o s, load1 n3 ⟨m'.n, o, s⟩ = (acRow ai)[o]? := fun o s => (s3.get 0 rfl).2.2.load1 o s
      simp only [acRow] at la3
      obtain ⟨f', n4', z1, z2, z3, z4, z5⟩ := any_call (CloneN_c (N + 4) ai.fv ai.fs fl (forAny n3) (sees_any s3.sees).base (haok.fv.sees (sees_any s3.sees)))
      obtain ⟨n4, hn4⟩ : ∃ n4, n4 = behind n3 n4' := ⟨_, rfl⟩
      rw [← hn4] at z3
      have s4 := s3.step z3
      have z4' : Rd n4 f' 4 nodeRow ai.fs := by rw [hn4]; exact z4.behind
      have la4 : ∀ o s, load1 n4 ⟨m'.n, o, s⟩ = (acRow ai)[o]? := fun o s => (s4.get 0 rfl).2.2.load1 o s
      simp only [acRow] at la4
      obtain ⟨x', n5', w1, w2, w3, w4, w5⟩ := any_call (CloneN_c (N + 4) ai.ix ai.ixs xl (forAny n4) (sees_any s4.sees).base (haok.ix.sees (sees_any s4.sees)))
      obtain ⟨n5, hn5⟩ : ∃ n5, n5 = behind n4 n5' := ⟨_, rfl⟩
      rw [← hn5] at w3
      have s5 := s4.step w3
      have w4' : Rd n5 x' 4 nodeRow ai.ixs := by rw [hn5]; exact w4.behind
      have nn2 : n2.n = m'.n + 1 := by rw [x3, hn1, newRow_n]
      have nn3 := y3.n
      have nn4 := z3.n
      have nn5 := w3.n
      have hBcm : Bc < m'.n := (st.get 0 rfl).2.1
      rw [forAny_n] at y5 z5 w5
      -- three stores
      have hfl : (cur.flatMap acRow).length = na * 11 := by rw [flatMap_len acRow_len, hcl]
      have hbd := Nat.mul_le_mul_right 11 (Nat.succ_le_of_lt hil)
      rw [Nat.succ_mul] at hbd
      obtain ⟨n6', p1, p2, p3, p4, p5⟩ := s5.storeAny 1 rfl (o := i * 11 + 5) (v := e') (by rw [hfl]; omega) y4.okV
      obtain ⟨n6, hn6⟩ : ∃ n6, n6 = behind n5 n6' := ⟨_, rfl⟩
      rw [← hn6] at p3 p4 p5
      rw [flatMap_set acRow_len (by omega) hci (show acRow { ai with ev := e' } = (acRow ai).set 5 e' from rfl)] at p3
      have hci6 : (cur.set i { ai with ev := e' })[i]? = some { ai with ev := e' } := by rw [List.getElem?_set_self (by omega)]
      obtain ⟨n7', q1, q2, q3, q4, q5⟩ := p3.storeAny 1 rfl (o := i * 11 + 6) (v := f') (by rw [flatMap_len acRow_len, List.length_set, hcl]; omega) z4.okV
      obtain ⟨n7, hn7⟩ : ∃ n7, n7 = behind n6 n7' := ⟨_, rfl⟩
      rw [← hn7] at q3 q4 q5
      have q3' : St m n7 (List.set [(m'.n, acRow ai), (Bc, (cur.set i { ai with ev := e' }).flatMap acRow), (m2.n, [iv k, v5]), (m.n, [iv p.cells, p.tv])] 1 (Bc, ((cur.set i { ai with ev := e' }).flatMap acRow).set (i * 11 + 6) f')) := q3
      rw [flatMap_set acRow_len (by omega) hci6 (show acRow { ai with ev := e', fv := f' } = (acRow { ai with ev := e' }).set 6 f' from rfl), List.set_set] at q3'
      have hci7 : (cur.set i { ai with ev := e', fv := f' })[i]? = some { ai with ev := e', fv := f' } := by rw [List.getElem?_set_self (by omega)]
      obtain ⟨n8', r1, r2, r3, r4, r5⟩ := q3'.storeAny 1 rfl (o := i * 11 + 4) (v := x') (by rw [flatMap_len acRow_len, List.length_set, hcl]; omega) w4.okV
      obtain ⟨n8, hn8⟩ : ∃ n8, n8 = behind n7 n8' := ⟨_, rfl⟩
      rw [← hn8] at r3 r4 r5
      have r3' : St m n8 (List.set [(m'.n, acRow ai), (Bc, (cur.set i { ai with ev := e', fv := f' }).flatMap acRow), (m2.n, [iv k, v5]), (m.n, [iv p.cells, p.tv])] 1 (Bc, ((cur.set i { ai with ev := e', fv := f' }).flatMap acRow).set (i * 11 + 4) x')) := r3
      obtain ⟨a', ha'⟩ : ∃ a' : Ac, a' = { ai with ix := x', ev := e', fv := f' } := ⟨_, rfl⟩
      rw [flatMap_set acRow_len (by omega) hci7 (show acRow a' = (acRow { ai with ev := e', fv := f' }).set 4 x' by rw [ha']; rfl), List.set_set] at r3'
      have st8 : St m n8 [(Bc, (cur.set i a').flatMap acRow), (m2.n, [iv k, v5]), (m.n, [iv p.cells, p.tv])] := r3'.sub (by intro q hq; exact List.mem_cons_of_mem _ hq) (by have := r3'.nd; simp only [List.set_cons_succ, List.set_cons_zero, List.map_cons, List.map_nil, List.nodup_cons] at this ⊢; exact this.2)
      -- what stays
      have n58 : n8.n = n5.n := by rw [r4, q4, p4]
      have keep5 : ∀ B, B ≠ Bc → n8.obj B = n5.obj B := fun B hB => by rw [r5 B hB, q5 B hB, p5 B hB]
      have keep2 : ∀ B, B < n2.n → n5.obj B = n2.obj B := fun B hB => by rw [w3.obj B (by omega), z3.obj B (by omega), y3.obj B (by omega)]
      have keep1 : ∀ B, B < m'.n → n2.obj B = m'.obj B := fun B hB => by
        rw [x4 B (by omega), hn1]
        exact (Ext.row m' Z11).obj B hB
      have keep : ∀ B, B < m'.n → B ≠ Bc → n8.obj B = m'.obj B := fun B hB hne => by rw [keep5 B hne, keep2 B (by omega), keep1 B hB]
      have hR8 : ∀ {v : Value} {es : List Nd} {mm : M}, Rd mm v 4 nodeRow es → mm.n ≤ n5.n → (∀ B, B < mm.n → n5.obj B = mm.obj B) → (∀ B, blk v = some B → n2.n ≤ B) → Rd n8 v 4 nodeRow es := fun {v es mm} hv hmm hob hlo => hv.congr (by omega) fun B hB => by
        rw [keep5 B (by have := hlo B hB; omega), hob B (hv.lt B hB)]
      have ok' : AcOK n8 a' := by
        rw [ha']
        exact ⟨hR8 w4' (Nat.le_refl _) (fun _ _ => rfl) (fun B hB => by have := w5 B hB; omega), hR8 y4' (by omega) (fun B hB => by rw [w3.obj B (by omega), z3.obj B hB]) (fun B hB => y5 B hB), hR8 z4' (by omega) (fun B hB => w3.obj B hB) (fun B hB => by have := z5 B hB; omega), haok.ixl, haok.evl, haok.fvl⟩
      have nj8 : NJ m n8 Bc (i + 1) t.acts (cur.set i a') := by
        refine ⟨by rw [List.length_set]; exact nj.len, fun j a hj => ?_, fun j hj => ?_, fun j b hj hb => ?_⟩
        · by_cases hji : j = i
          · subst hji
            rw [hai] at hj; cases hj
            exact ⟨a', List.getElem?_set_self (by omega), ⟨x', e', f', ha'⟩, ok'⟩
          · obtain ⟨b, hb1, hb2, hb3⟩ := nj.eq j a hj
            refine ⟨b, by rw [List.getElem?_set_ne (Ne.symm hji)]; exact hb1, hb2, ?_⟩
            by_cases hlt : j < i
            · exact hb3.congr (by omega) fun B hB => keep B (hb3.lt B hB) (by have := nj.own j b hlt hb1 B hB; omega)
            · have : b = a := by
                have := nj.old j (by omega)
                rw [hb1, hj] at this
                exact Option.some.inj this
              subst this
              exact (hap0 b (List.mem_of_getElem? hj)).sees st8.sees
        · rw [List.getElem?_set_ne (by omega)]; exact nj.old j (by omega)
        · by_cases hji : j = i
          · subst hji
            rw [List.getElem?_set_self (by omega)] at hb
            cases hb
            intro B hB
            rw [ha'] at hB
            rcases hB with hB | hB | hB
            · have := w5 B hB; omega
            · have := y5 B hB; omega
            · have := z5 B hB; omega
          · rw [List.getElem?_set_ne (Ne.symm hji)] at hb
            exact nj.own j b (by omega) hb
      have hne1 : ¬ m2.n = Bc := by omega
      have hne2 : ¬ Bc = m2.n := by omega
      simp [t6, t33, t34, t35, hd, b2', loadNS_ptr, ← hn1, x1, la2, lt2, y1, y2, ← hn3, la3, z1, z2, ← hn4, la4, w1, w2, ← hn5, ixi, p1, p2, ← hn6, q1, q2, ← hn7, r1, r2, ← hn8, hne1, hne2, ni]
      exact hk' hil _ _ ⟨cur.set i a', st8, nj8, by simp [t6], by simp [t33], by simp [t34], by simp⟩
    · obtain rfl : i = na := by omega
      have hd : ((i : Int) < (i : Int)) = False := eq_false (by omega)
      simp [t6, t33, t34, t35, hd, -ca3_13_ap]
      have st' : St m m' ((m2.n, [iv k, v5]) :: [(m.n, [iv p.cells, p.tv])]) := st.sub (by intro q hq; exact List.mem_cons_of_mem _ hq) (by have := st.nd; simp only [List.map_cons, List.map_nil, List.nodup_cons] at this ⊢; exact this.2)
      have hRc : Rd m' v5 11 acRow cur := by
        have := rd_made (c := code 11 false) acRow_len (st.get 0 rfl).2.2 (st.get 0 rfl).2.1
        rw [hcl] at this
        rw [hv5]; exact this
      refine ret_mono (new_tail st' hRc (fun a ha => ?_) ⟨fun B hB => ?_, fun a ha B hB => ?_⟩ (by omega) (by simp [t6])) (fun v m' h => ⟨cur, nj.len, fun j a hj => let ⟨b, h1, h2, _⟩ := nj.eq j a hj; ⟨b, h1, h2⟩, h⟩)
      · obtain ⟨j, hj⟩ := List.getElem?_of_mem ha
        have hjl := (List.getElem?_eq_some_iff.1 hj).1
        obtain ⟨b, h1, _, h3⟩ := nj.eq j _ (List.getElem?_eq_getElem (show j < t.acts.length by omega))
        rw [hj] at h1; cases h1
        exact h3
      · have := (g4 B hB).1; have := f2.ext.n; omega
      · obtain ⟨j, hj⟩ := List.getElem?_of_mem ha
        have hjl := (List.getElem?_eq_some_iff.1 hj).1
        have := nj.own j a (by omega) hj B hB
        have := f2.ext.n
        omega
end Go.Sx
