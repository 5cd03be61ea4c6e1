/- Contracts. -/
import Derived.Test.YtblkdbffpjlkaaaGreatGl
set_option linter.unusedVariables false
set_option linter.unusedSimpArgs false
set_option linter.defProp false
set_option linter.unusedSectionVars false
/- A round of the law's, in plain terms. -/
namespace Go.Sx
open Go.Dx Go.Proofs
set_option maxRecDepth 10000
/-- the round's end: the next act, and the locals as Done leaves them -/
structure RFin (i : Nat) (ls : List U) (a : Ac) (v : U) (x : Ms) : Prop where
  at_ : x.at_ = i + 1
  ls : x.ls = doneL ls a v
  opn : x.opn = false
  asked : x.asked = false
section
variable {a : Ac} {s : Ms} {v v9 : U}
theorem op_key (how : ownB a = false) (hop : 1 ≤ a.op ∧ a.op ≤ 10) : a.op = 2 ∨ a.op = 3 ∨ a.op = 7 ∨ a.op = 8 ∨ a.op = 4 ∨ a.op = 5 ∨ a.op = 6 := by
  have hno := noOwn how
  omega
theorem feed_plain (how : ownB a = false) (hop : 1 ≤ a.op ∧ a.op ≤ 10) (h0 : s.opn = false) (hw : s.now = wantOf s a) (h : ¬ (s.now.what = 1 ∧ s.now.ex = true) ∨ (thenW s.ls a v).what = 0) : RFin s.at_ s.ls a v (feedS s a v) := by
  obtain ⟨at_, ls, now, asked, old, opn⟩ := s
  simp only at hw h0 h
  subst h0
  rcases op_key how hop with e | e | e | e | e
  · have hx : now = ⟨1, locV ls a, a.mode, u0, false⟩ := by rw [hw]; unfold wantOf; rw [if_pos e]
    subst hx
    refine ⟨?_, ?_, ?_, ?_⟩ <;> (unfold feedS finS; simp [doneL, e])
  · have hx : now = ⟨2, locV ls a, a.mode, valE ls a.es, false⟩ := by rw [hw]; unfold wantOf; rw [if_neg (by omega), if_pos e]
    subst hx
    refine ⟨?_, ?_, ?_, ?_⟩ <;> (unfold feedS finS; simp [doneL, e])
  · have hx : now = ⟨3, 0, a.mode, u0, false⟩ := by rw [hw]; unfold wantOf; rw [if_neg (by omega), if_neg (by omega), if_pos e]
    subst hx
    refine ⟨?_, ?_, ?_, ?_⟩ <;> (unfold feedS finS; simp [doneL, e])
  · have hx : now = ⟨4, 0, 0, valE ls a.es, false⟩ := by rw [hw]; unfold wantOf; rw [if_neg (by omega), if_neg (by omega), if_neg (by omega), if_pos e]
    subst hx
    refine ⟨?_, ?_, ?_, ?_⟩ <;> (unfold feedS finS; simp [doneL, e])
  · have hx : now = ⟨1, locV ls a, rdM a.mode, u0, true⟩ := by rw [hw]; unfold wantOf; rw [if_neg (by omega), if_neg (by omega), if_neg (by omega), if_neg (by omega)]; rfl
    subst hx
    have h2 : (thenW ls a v).what = 0 := by
      rcases h with h | h
      · exact absurd ⟨rfl, rfl⟩ h
      · exact h
    have hc : a.op = 6 ∧ ¬ (valE ls a.es).1 = v.1 := by
      refine Classical.byContradiction fun hc => ?_
      unfold thenW at h2
      rw [if_neg hc] at h2
      unfold wantOf at h2
      rw [if_neg (by omega), if_neg (by omega), if_neg (by omega), if_neg (by omega)] at h2
      simp at h2
    refine ⟨?_, ?_, ?_, ?_⟩ <;> (unfold feedS finS; simp [doneL, hc.1, hc.2])
theorem feed_pair (how : ownB a = false) (hop : 1 ≤ a.op ∧ a.op ≤ 10) (h0 : s.opn = false) (hw : s.now = wantOf s a) (h : s.now.what = 1 ∧ s.now.ex = true) (hT : (thenW s.ls a v).what ≠ 0) :
    feedS s a v = { s with asked := false, old := v, opn := true } ∧ (thenW s.ls a v).what = 2 ∧ wantOf { s with asked := true, old := v, opn := true } a = thenW s.ls a v ∧
    RFin s.at_ s.ls a v (feedS { s with asked := true, old := v, opn := true, now := thenW s.ls a v } a v9) ∧ (a.op = 4 ∨ a.op = 5 ∨ a.op = 6) := by
  obtain ⟨at_, ls, now, asked, old, opn⟩ := s
  simp only at hw h0 h hT ⊢
  subst h0
  have hop4 : a.op = 4 ∨ a.op = 5 ∨ a.op = 6 := by
    rcases op_key how hop with e | e | e | e | e
    · rw [show now.ex = false by rw [hw]; unfold wantOf; rw [if_pos e]] at h; simp at h
    · rw [show now.ex = false by rw [hw]; unfold wantOf; rw [if_neg (by omega), if_pos e]] at h; simp at h
    · rw [show now.ex = false by rw [hw]; unfold wantOf; rw [if_neg (by omega), if_neg (by omega), if_pos e]] at h; simp at h
    · rw [show now.ex = false by rw [hw]; unfold wantOf; rw [if_neg (by omega), if_neg (by omega), if_neg (by omega), if_pos e]] at h; simp at h
    · exact e
  have hc : ¬ (a.op = 6 ∧ ¬ (valE ls a.es).1 = v.1) := fun hc => by
    unfold thenW at hT; rw [if_pos hc] at hT; exact hT rfl
  have hc' : a.op ≠ 6 ∨ (valE ls a.es).1 = v.1 := by
    by_cases h6 : a.op = 6
    · exact .inr (Classical.byContradiction fun hv => hc ⟨h6, hv⟩)
    · exact .inl h6
  have hwt : wantOf ⟨at_, ls, now, true, v, true⟩ a = thenW ls a v := by
    unfold thenW; rw [if_neg hc]; exact want_ls rfl rfl (fun _ => rfl)
  have h2 : (thenW ls a v).what = 2 ∧ (thenW ls a v).ex = true := by
    rw [← hwt]; unfold wantOf
    rw [if_neg (by omega), if_neg (by omega), if_neg (by omega), if_neg (by omega)]
    exact ⟨rfl, rfl⟩
  refine ⟨?_, h2.1, hwt, ?_, hop4⟩
  · unfold feedS
    rw [if_pos h, if_pos hc']
  · have hd : doneL ls a v = ls.set a.dst.toNat v := if_neg (by omega)
    unfold feedS
    simp only [h2.1]
    rw [if_neg (by simp)]
    unfold finS
    rw [if_pos ⟨h2.2, rfl⟩]
    exact ⟨rfl, hd.symm, rfl, rfl⟩
end
section
variable {acts cur : List Ac} {s : Ms} {a : Ac}
theorem adv_eq (hl : cur.length = acts.length) (he : ∀ (j : Nat) a, acts[j]? = some a → ∃ a', cur[j]? = some a' ∧ AcEq a' a) : ∀ (f : Nat) (s : Ms), adv cur f s = adv acts f s := by
  intro f
  induction f with
  | zero => intro s; rw [adv_zero, adv_zero]
  | succ f ih =>
    intro s
    cases ha : acts[s.at_]? with
    | none => rw [adv_none _ ha, adv_none _ (List.getElem?_eq_none (by have := List.getElem?_eq_none_iff.1 ha; omega))]
    | some a =>
      obtain ⟨a', h1, x, y, z, rfl⟩ := he _ _ ha
      cases ho : ownB a with
      | false => rw [adv_want _ ha ho, adv_want _ h1 ho]
      | true => rw [adv_own _ ha ho, adv_own _ h1 ho]; exact ih _
theorem nextW_eq (hl : cur.length = acts.length) (he : ∀ (j : Nat) a, acts[j]? = some a → ∃ a', cur[j]? = some a' ∧ AcEq a' a) (s : Ms) : nextW cur s = nextW acts s := by
  unfold nextW
  cases ha : acts[s.at_]? with
  | none => rw [List.getElem?_eq_none (by have := List.getElem?_eq_none_iff.1 ha; omega)]
  | some a =>
    obtain ⟨a', h1, x, y, z, rfl⟩ := he _ _ ha
    rw [h1]
    rfl
theorem nextMs_eq (hl : cur.length = acts.length) (he : ∀ (j : Nat) a, acts[j]? = some a → ∃ a', cur[j]? = some a' ∧ AcEq a' a) (s : Ms) : nextMs cur s = nextMs acts s := by
  unfold nextMs finN
  rw [adv_eq hl he, nextW_eq hl he]
/-- what the machine tells is what the reference tells -/
theorem nextMs_at (h0 : s.opn = false) (hf : s.asked = false ∨ s.now.what = 6) {S : Ms} (hS : S = adv acts 100000 (mk0 s.at_ s.ls)) :
    (nextMs acts s).at_ = S.at_ ∧ (nextMs acts s).ls = S.ls ∧ (nextMs acts s).now = nextW acts S ∧ (nextMs acts s).opn = false ∧ (nextMs acts s).asked = true := by
  have e : nextMs acts s = finN acts (adv acts 100000 { s with asked := true }) := by
    unfold nextMs
    rw [if_neg (by rcases hf with h | h <;> simp [h])]
  obtain ⟨q1, q2⟩ := adv_sim acts 100000 { s with asked := true } (mk0 s.at_ s.ls) rfl rfl
  have q3 := adv_mk acts 100000 { s with asked := true } h0
  have q4 := adv_mk acts 100000 (mk0 s.at_ s.ls) rfl
  have q5 := adv_keep acts 100000 { s with asked := true }
  rw [e, hS]
  refine ⟨q1, q2, ?_, q3, q5.2.1⟩
  show nextW acts _ = nextW acts _
  unfold nextW
  rw [q1]
  cases acts[(adv acts 100000 (mk0 s.at_ s.ls)).at_]? with
  | none => rfl
  | some a =>
    simp only
    split
    · rfl
    · exact want_ls q2 (by rw [q3, q4]) (fun h => by rw [q3] at h; cases h)
theorem nextMs_idle (h : s.asked = true) (h6 : s.now.what ≠ 6) : nextMs acts s = s := by unfold nextMs; rw [if_pos ⟨h, h6⟩]
/-- asked again at the act that it is at -/
theorem nextMs_want (ha : acts[s.at_]? = some a) (ho : ownB a = false) (hask : s.asked = false) : nextMs acts s = { s with asked := true, now := wantOf s a } := by
  unfold nextMs
  rw [if_neg (by simp [hask])]
  rw [adv_want (s := { s with asked := true }) _ ha ho]
  unfold finN nextW
  have ha' : acts[({ s with asked := true } : Ms).at_]? = some a := ha
  rw [ha']
  simp only [ho]
  rfl
end
end Go.Sx
/- The law's rounds: what stands fast, and the choice of a value. -/
namespace Go.Dx
theorem Ow.other {m0 m m' : M} {W W' : List Nat} {σ : List (Nat × List Value)} (h : Ow m0 m W σ) (kk : Mc m m' W') (hW : ∀ B ∈ W', m0.n ≤ B) (hσ : ∀ p ∈ σ, p.1 ∉ W') : Ow m0 m' W σ := by
  have hb := h.mc.base
  have hb0 := h.base
  have hl : m'.log = m.log := kk.low fun B hB => by have := hW B hB; omega
  refine ⟨⟨Nat.le_trans h.mc.n kk.n, fun B hB hBW => ?_, kk.base.trans hb, fun B hB => h.mc.log B (by rw [← hl]; exact hB), fun hw => hl.trans (h.mc.low hw)⟩, h.base, fun p hp => ?_, h.nd⟩
  · rw [kk.obj B (Nat.lt_of_lt_of_le hB h.mc.n) (fun hm => by have := hW B hm; omega)]
    exact h.mc.obj B hB hBW
  · obtain ⟨h1, h2, h3⟩ := h.arr p hp
    exact ⟨h1, Nat.lt_of_lt_of_le h2 kk.n, h3.congr (kk.obj _ h2 (hσ p hp))⟩
end Go.Dx
namespace Go.Sx
open Go.Dx Go.Proofs
set_option maxRecDepth 10000
/-- what stands fast in the rounds -/
structure Cx (mA : M) (Mb Lb k : Nat) (cells : Int) (av : Value) (t : Th) (cur : List Ac) (rl : Value) (reads : List U) : Prop where
  hc : cells ≤ 4096
  hk : k ≤ 24
  hcl : cur.length = t.acts.length
  hce : ∀ (j : Nat) a, t.acts[j]? = some a → ∃ a', cur[j]? = some a' ∧ AcEq a' a
  hgs : ∀ a ∈ t.acts, AcG k t.acts.length cells a
  hgc : ∀ a ∈ cur, AcG k cur.length cells a
  hal : t.acts.length ≤ 65536
  hE : Env mA Mb Lb av cur
  hEt : Env mA Mb Lb t.av t.acts
  hr : Rd mA rl 1 wordRow reads
  hrp : ∀ B, blk rl = some B → B ∉ [Mb, Lb]
  hrn : reads.length ≤ 9223372036854775807
  ne : Mb ≠ Lb
structure SS (t : Tm) (rl : Value) (Mb T10 q fu i : Nat) : Prop where
  t2 : Tm.get 2 t = rl
  t8 : Tm.get 8 t = mP Mb
  t10 : Tm.get 10 t = .pointer (some ⟨T10, 0, none⟩)
  t11 : Tm.get 11 t = iv q
  t12 : Tm.get 12 t = iv fu
  t13 : Tm.get 13 t = iv i
theorem Env.fresh {m : M} {Mb Lb Mc Lc : Nat} {av : Value} {acts : List Ac} (h : Env m Mb Lb av acts) (h1 : m.n ≤ Mc) (h2 : m.n ≤ Lc) : Env m Mc Lc av acts := by
  refine ⟨h.rav, fun B hB => ?_, fun a ha => ⟨(h.ok a ha).1, ?_, ?_, ?_⟩⟩
  · have := h.rav.lt B hB
    simp; omega
  · intro B hB
    have := (h.ok a ha).1.ix.lt B hB
    simp; omega
  · intro B hB
    have := (h.ok a ha).1.ev.lt B hB
    simp; omega
  · intro B hB
    have := (h.ok a ha).1.fv.lt B hB
    simp; omega
section
variable {mA m m' : M} {Mb Lb k : Nat} {cells : Int} {av : Value} {t : Th} {cur : List Ac} {rl : Value} {reads : List U} {T10 T15 q fu i : Nat} {tm : Tm} {s : Ms} {a a' : Ac} {v : U}
abbrev mcB (Mb Lb k : Nat) (av : Value) (s : Ms) : Bl := [(Mb, msRow k av (lvV Lb k) s), (Lb, lsR s.ls)]
theorem Ow.ms {σ : Bl} (h : Ow mA m [Mb, Lb] (σ ++ mcB Mb Lb k av s)) (hl : s.ls.length = k) : MsAt m Mb Lb k av s := by
  obtain ⟨_, h2, h3⟩ := h.arr (Mb, msRow k av (lvV Lb k) s) (by simp)
  obtain ⟨_, h5, h6⟩ := h.arr (Lb, lsR s.ls) (by simp)
  exact ⟨h3, h6, hl, h2, h5⟩
theorem feedS_eq (h : AcEq a' a) (s : Ms) (v : U) : feedS s a' v = feedS s a v := by obtain ⟨x, y, z, rfl⟩ := h; rfl
/-- the value that is fed -/
theorem val_c (hC : Cx mA Mb Lb k cells av t cur rl reads) (hk : Mc mA m [Mb, Lb]) (hmb : m.base ≤ m.n) (hT : SS tm rl Mb T10 q fu i) (hq : q ≤ reads.length) (hi : i < 200) {w : Wt} (t15 : Tm.get 15 tm = .pointer (some ⟨T15, 0, none⟩)) {T16 : Value} (t16 : Tm.get 16 tm = T16) (hw : ∀ o s, load1 m ⟨T15, o, s⟩ = (wtL w)[o]?) (t17 : ∃ v : U, Tm.get 17 tm = uv v.1) {x : Ex} {kn kr : K} {ke : Nat → K} {Q : Option Out → Prop}
    (H : ∀ t' (v : U) q', SS t' rl Mb T10 q' fu i → q' ≤ reads.length → Tm.get 15 t' = .pointer (some ⟨T15, 0, none⟩) → Tm.get 16 t' = T16 → Tm.get 17 t' = uv v.1 → Q (kn t' m)) : Q (ca0_37 x kn ke kr tm m) := by
  obtain ⟨t2, t8, t10, t11, t12, t13⟩ := hT
  obtain ⟨v, t17⟩ := t17
  have hrm : Rd m rl 1 wordRow reads := hC.hr.congr hk.n fun B hB => hk.obj B (hC.hr.lt B hB) (hC.hrp B hB)
  obtain ⟨n, hn⟩ : ∃ n, n = reads.length := ⟨_, rfl⟩
  have hrl : lenS rl = some (.int .i64 (n : Int)) := by rw [hn]; exact hrm.len
  have hrn := hC.hrn
  simp only [wtL] at hw
  by_cases h1 : w.what = 1
  · have d1 : decide (w.what = 1) = true := decide_eq_true h1
    by_cases hqn : q < n
    · have hd := dlt hqn
      have hd' : (q < n) = True := eq_true hqn
      have nq := nextI (i := q) (by omega)
      obtain ⟨u, hu⟩ : ∃ x, reads[q]? = some x := ⟨_, List.getElem?_eq_getElem (by omega)⟩
      obtain ⟨x1, x2⟩ := hrm.at1 (g := fun u : U => uv u.1) hu
      have x2' := x2 m (Sees.refl hmb)
      simp [t2, t11, t15, hw, d1, hrl, hd, hd', x1, x2', nq]
      exact H _ u (q + 1) ⟨by simp [t2], by simp [t8], by simp [t10], by simp, by simp [t12], by simp [t13]⟩ (by omega) (by simp [t15]) (by simp [t16]) (by simp)
    · have hd : ((q : Int) < (n : Int)) = False := eq_false (by omega)
      have hd' : (q < n) = False := eq_false hqn
      simp [t2, t11, t15, hw, d1, hrl, hd, hd']
      exact H _ v q ⟨by simp [t2], by simp [t8], by simp [t10], by simp [t11], by simp [t12], by simp [t13]⟩ hq (by simp [t15]) (by simp [t16]) (by simp [t17])
  · have d1 : decide (w.what = 1) = false := decide_eq_false h1
    simp [t2, t11, t15, hw, d1]
    exact H _ v q ⟨by simp [t2], by simp [t8], by simp [t10], by simp [t11], by simp [t12], by simp [t13]⟩ hq (by simp [t15]) (by simp [t16]) (by simp [t17])
end
end Go.Sx
/- The law's rounds: a pair's write, Done. -/
namespace Go.Sx
open Go.Dx Go.Proofs
set_option maxRecDepth 10000
section
variable {mA m m' : M} {Mb Lb k : Nat} {cells : Int} {av : Value} {t : Th} {cur : List Ac} {rl : Value} {reads : List U} {T10 T15 q fu i B c g : Nat} {tm : Tm} {s s' : Ms} {a a' : Ac} {v v9 : U} {σ : Bl} {x : Ex} {args : List Value} {v' : Value}
theorem wr_pl (h : Ow mA m [Mb, Lb] (σ ++ mcB Mb Lb k av s)) (hw : WrC x g args m Mb Lb k av s' v') :
    ∃ m1, x.f g args m = some (v', m1) ∧ Ow mA m1 [Mb, Lb] (σ ++ mcB Mb Lb k av s') ∧ s'.ls.length = k ∧ Mc m m1 [Mb, Lb] := by
  obtain ⟨_, m1, f1, f2, f3, rfl⟩ := hw
  exact ⟨m1, f1, Ow.mach h f2 f3, f3.len, f2⟩
theorem wr_any (h : Ow mA m [Mb, Lb] (σ ++ mcB Mb Lb k av s)) (hw : WrC x g args (forAny m) Mb Lb k av s' v') :
    ∃ m1, x.f g args (forAny m) = some (v', m1) ∧ Ow mA (behind m m1) [Mb, Lb] (σ ++ mcB Mb Lb k av s') ∧ s'.ls.length = k ∧ (∀ X, X ≠ Mb → X ≠ Lb → X ∉ m1.log) := by
  obtain ⟨_, m1, f1, f2, f3, rfl⟩ := hw
  refine ⟨m1, f1, Ow.mach h f2.behind (f3.congr (by rw [behind_n]; exact Nat.le_refl _) (behind_obj _ _ _) (behind_obj _ _ _)), f3.len, fun X h1 h2 hX => ?_⟩
  rcases f2.log X hX with h' | h'
  · rw [forAny_log] at h'; cases h'
  · simp at h'; rcases h' with h' | h'
    · exact h1 h'
    · exact h2 h'
theorem own_ne (h : Ow mA m [Mb, Lb] (σ ++ mcB Mb Lb k av s)) {p : Nat × List Value} (hp : p ∈ σ) : p.1 ≠ Mb ∧ p.1 ≠ Lb := by
  have hnd := h.nd
  rw [List.map_append, List.nodup_append] at hnd
  have := hnd.2.2 p.1 (List.mem_map.2 ⟨p, hp, rfl⟩)
  simpa using this
/-- Next, Feed and same of the law's machine, in a region that may come in any order -/
theorem next_any (hC : Cx mA Mb Lb k cells av t cur rl reads) (h : Ow mA m [Mb, Lb] (σ ++ mcB Mb Lb k av s)) (hl : s.ls.length = k) (hat : s.at_ ≤ t.acts.length) (N : Nat) :
    ∃ m1, (ex Tryz.prog (N + 6)).f 18 [mP Mb] (forAny m) = some (.agg ⟨wtL (nextMs cur s).now⟩, m1) ∧ Ow mA (behind m m1) [Mb, Lb] (σ ++ mcB Mb Lb k av (nextMs cur s)) ∧ (nextMs cur s).ls.length = k ∧ (∀ X, X ≠ Mb → X ≠ Lb → X ∉ m1.log) :=
  wr_any h (nextF_c hC.hc ((hC.hE.mc h.mc).any h.mb) hC.hgc (by rw [hC.hcl]; exact hC.hal) (by rw [hC.hcl]; exact hat) N (sees_any (Sees.refl h.mb)).base hC.ne (Ow.ms h hl).any)
theorem same_pl (hC : Cx mA Mb Lb k cells av t cur rl reads) (h : Ow mA m [Mb, Lb] (σ ++ mcB Mb Lb k av s)) (hl : s.ls.length = k) (hat : s.at_ ≤ t.acts.length) (hid : nextMs cur s = s) {i : Nat} {lv : Value} (hS : Sv m lv s.ls) (N : Nat) :
    WrC (ex Tryz.prog (N + 7)) 19 [mP Mb, .agg ⟨stL t i lv⟩, .agg ⟨wtL s.now⟩] m Mb Lb k av s (.bool true) := by
  have := same_c (t := t) (i := i) (w := s.now) hC.hc (hC.hE.mc h.mc) hC.hgc (by rw [hC.hcl]; exact hC.hal) (by rw [hC.hcl]; exact hat) hC.hk hC.ne (Ow.ms h hl) hS (by rw [hid]) (by rw [hid]; exact hl) N h.mb
  rwa [hid] at this
theorem same_any (hC : Cx mA Mb Lb k cells av t cur rl reads) (h : Ow mA m [Mb, Lb] (σ ++ mcB Mb Lb k av s)) (hl : s.ls.length = k) (hat : s.at_ ≤ t.acts.length) (hid : nextMs cur s = s) {i : Nat} {lv : Value} (hS : Sv m lv s.ls) (N : Nat) :
    ∃ m1, (ex Tryz.prog (N + 7)).f 19 [mP Mb, .agg ⟨stL t i lv⟩, .agg ⟨wtL s.now⟩] (forAny m) = some (.bool true, m1) ∧ Ow mA (behind m m1) [Mb, Lb] (σ ++ mcB Mb Lb k av s) ∧ s.ls.length = k ∧ (∀ X, X ≠ Mb → X ≠ Lb → X ∉ m1.log) := by
  have sa := sees_any (Sees.refl h.mb)
  have := same_c (t := t) (i := i) (w := s.now) hC.hc ((hC.hE.mc h.mc).any h.mb) hC.hgc (by rw [hC.hcl]; exact hC.hal) (by rw [hC.hcl]; exact hat) hC.hk hC.ne (Ow.ms h hl).any (hS.sees sa) (by rw [hid]) (by rw [hid]; exact hl) N sa.base
  rw [hid] at this
  exact wr_any h this
theorem feed_pl (hC : Cx mA Mb Lb k cells av t cur rl reads) (h : Ow mA m [Mb, Lb] (σ ++ mcB Mb Lb k av s)) (hl : s.ls.length = k) (ha : t.acts[s.at_]? = some a) (hask : s.asked = true) (h5 : s.now.what ≠ 5) (h6 : s.now.what ≠ 6) (hD : (s.now.ex = true ∧ s.opn = true) ∨ s.now.what = 1 → pD a.op = true) (v : U) (N : Nat) :
    WrC (ex Tryz.prog (N + 4)) 14 [mP Mb, uv v.1] m Mb Lb k av (feedS s a v) (iv 0) := by
  obtain ⟨a', h1, h2⟩ := hC.hce _ _ ha
  have hal := hC.hal
  have hat := (List.getElem?_eq_some_iff.1 ha).1
  rw [← feedS_eq h2]
  exact feed_c (hC.hE.mc h.mc) (hC.hgc a' (List.mem_of_getElem? h1)) h1 hask h5 h6 (by obtain ⟨x, y, z, rfl⟩ := h2; exact hD) v N h.mb hC.ne (Ow.ms h hl) (by omega)
theorem feed_any (hC : Cx mA Mb Lb k cells av t cur rl reads) (h : Ow mA m [Mb, Lb] (σ ++ mcB Mb Lb k av s)) (hl : s.ls.length = k) (ha : t.acts[s.at_]? = some a) (hask : s.asked = true) (h5 : s.now.what ≠ 5) (h6 : s.now.what ≠ 6) (hD : (s.now.ex = true ∧ s.opn = true) ∨ s.now.what = 1 → pD a.op = true) (v : U) (N : Nat) :
    ∃ m1, (ex Tryz.prog (N + 4)).f 14 [mP Mb, uv v.1] (forAny m) = some (iv 0, m1) ∧ Ow mA (behind m m1) [Mb, Lb] (σ ++ mcB Mb Lb k av (feedS s a v)) ∧ (feedS s a v).ls.length = k ∧ (∀ X, X ≠ Mb → X ≠ Lb → X ∉ m1.log) := by
  obtain ⟨a', h1, h2⟩ := hC.hce _ _ ha
  have hal := hC.hal
  have hat := (List.getElem?_eq_some_iff.1 ha).1
  rw [← feedS_eq h2]
  exact wr_any h (feed_c ((hC.hE.mc h.mc).any h.mb) (hC.hgc a' (List.mem_of_getElem? h1)) h1 hask h5 h6 (by obtain ⟨x, y, z, rfl⟩ := h2; exact hD) v N (sees_any (Sees.refl h.mb)).base hC.ne (Ow.ms h hl).any (by omega))
theorem pD_of (how : ownB a = false) (hop : 1 ≤ a.op ∧ a.op ≤ 10) (h0 : s.opn = false) (hw : s.now = wantOf s a) (h : (s.now.ex = true ∧ s.opn = true) ∨ s.now.what = 1) : pD a.op = true := by
  have h1 : s.now.what = 1 := by
    rcases h with h | h
    · rw [h0] at h; simp at h
    · exact h
  unfold pD
  refine decide_eq_true ?_
  rw [hw] at h1
  rcases op_key how hop with e | e | e | e | e
  · omega
  · unfold wantOf at h1; rw [if_neg (by omega), if_pos e] at h1; simp at h1
  · unfold wantOf at h1; rw [if_neg (by omega), if_neg (by omega), if_pos e] at h1; simp at h1
  · unfold wantOf at h1; rw [if_neg (by omega), if_neg (by omega), if_neg (by omega), if_pos e] at h1; simp at h1
  · omega
/-- the reference's act -/
theorem Cx.at (hC : Cx mA Mb Lb k cells av t cur rl reads) (hk : Mc mA m [Mb, Lb]) {j : Nat} (ha : t.acts[j]? = some a) : At m t k t.acts.length cells j a :=
  ⟨(hC.hEt.mc hk).rav, ha, ((hC.hEt.mc hk).ok a (List.mem_of_getElem? ha)).1, hC.hgs a (List.mem_of_getElem? ha)⟩
theorem sv_own (h : Arr m B (lsR s.ls)) (hB : B < m.n) (hl : s.ls.length = k) : Sv m (lvS B c k) s.ls := by
  have := (lsR_flat s.ls) ▸ h
  have h2 := rd_made (c := c) (f := wordRow) (fun _ => rfl) this hB
  rw [hl] at h2
  exact ⟨h2, rfl⟩
/-- Done -/
theorem d46 (hC : Cx mA Mb Lb k cells av t cur rl reads) (h : Ow mA m [Mb, Lb] ([(B, lsR s.ls), (T10, stL t s.at_ (lvS B c k))] ++ mcB Mb Lb k av s')) (hl : s.ls.length = k) (hl' : s'.ls.length = k) (ha : t.acts[s.at_]? = some a) (how : ownB a = false) (hF : RFin s.at_ s.ls a v s')
    (hT : SS tm rl Mb T10 q fu i) (t17 : Tm.get 17 tm = uv v.1) {N : Nat} {kn kr : K} {ke : Nat → K} {Q : Option Out → Prop}
    (H : ∀ t' m' B' c', SS t' rl Mb T10 q fu i → Ow mA m' [Mb, Lb] ([(B', lsR s'.ls), (T10, stL t s'.at_ (lvS B' c' k))] ++ mcB Mb Lb k av s') → Q (kn t' m')) : Q (sReg (seqI oa0_46) (xA (N + 65543)) kn ke kr tm m) := by
  obtain ⟨t2, t8, t10, t11, t12, t13⟩ := hT
  have hal := hC.hal
  have hatl := (List.getElem?_eq_some_iff.1 ha).1
  have l10 : loads m ⟨T10, 0, none⟩ 4 = some (stL t s.at_ (lvS B c k)) := (h.get 1 rfl).2.2.loads (n := 4) (by simp [stL])
  have hS : Sv m (lvS B c k) s.ls := sv_own (h.get 0 rfl).2.2 (h.get 0 rfl).2.1 hl
  obtain ⟨w, m1, c1, c2, lv', rfl, c3⟩ := Done_c (hC.at h.mc ha) hS hl hC.hk (by omega) how v (N + 65541) h.mb
  have hA : At m t k t.acts.length cells s.at_ a := hC.at h.mc ha
  have h1 := h.step c2
  rw [← hF.ls] at c3
  rw [← hF.at_] at c1
  -- the new locals
  obtain ⟨B', c', rfl, hB⟩ : ∃ B' c', lv' = lvS B' c' k ∧ Ow mA m1 [Mb, Lb] ([(B', lsR s'.ls), (T10, stL t s.at_ (lvS B c k))] ++ mcB Mb Lb k av s') := by
    rcases c3 with ⟨rfl, e2⟩ | ⟨B', c', rfl, g1, g2, g3, g4⟩
    · exact ⟨B, c, rfl, by rw [e2]; exact h1⟩
    · refine ⟨B', c', rfl, ?_⟩
      have hh := h1.sub (σ' := [(T10, stL t s.at_ (lvS B c k))] ++ mcB Mb Lb k av s') (fun p hp => List.mem_cons_of_mem _ hp) (List.nodup_cons.1 h1.nd).2
      refine ⟨hh.mc, hh.base, fun p hp => ?_, ?_⟩
      · rcases List.mem_cons.1 hp with rfl | hp
        · exact ⟨.inr (Nat.le_trans h.mc.n g1), g2, g3⟩
        · exact hh.arr p hp
      · show ((B', lsR s'.ls).1 :: _).Nodup
        rw [List.nodup_cons]
        refine ⟨fun hm => ?_, hh.nd⟩
        obtain ⟨p, hp, e⟩ := List.mem_map.1 hm
        have := (h.arr p (List.mem_cons_of_mem _ hp)).2.1
        have e' : p.1 = B' := e
        omega
  obtain ⟨m2, s1, s2, s3, s4⟩ := hB.storeN 1 rfl (o := 0) (n := 4) (l' := stL t s'.at_ (lvS B' c' k)) (by omega) rfl (by simp [stL]) (stL_ok hA.okav rfl)
  have s2' : Ow mA m2 [Mb, Lb] ([(B', lsR s'.ls), (T10, stL t s'.at_ (lvS B' c' k))] ++ mcB Mb Lb k av s') := by
    rw [over_fill (by simp [stL])] at s2
    exact s2
  simp only [stL] at l10 c1 s1
  simp [t10, t17, l10, loadNS_ptr, xA_f, c1, s1]
  exact H _ _ B' c' ⟨by simp [t2], by simp [t8], by simp [t10], by simp [t11], by simp [t12], by simp [t13]⟩ s2'
end
end Go.Sx
/- The law's rounds: behind a load that is a pair's. -/
namespace Go.Sx
open Go.Dx Go.Proofs
set_option maxRecDepth 10000
def n9 : U := ⟨9, by omega⟩
def n1 : U := ⟨1, by omega⟩
section
variable {mA m m' : M} {Mb Lb k : Nat} {cells : Int} {av : Value} {t : Th} {cur : List Ac} {rl : Value} {reads : List U} {T10 T15 q fu i B c g : Nat} {tm : Tm} {s s' : Ms} {a a' : Ac} {v v9 : U} {σ : Bl}
theorem pair_op (how : ownB a = false) (hop : 1 ≤ a.op ∧ a.op ≤ 10) (h0 : s.opn = false) (hw : s.now = wantOf s a) (h : s.now.ex = true) : a.op = 4 ∨ a.op = 5 ∨ a.op = 6 := by
  rw [hw] at h
  rcases op_key how hop with e | e | e | e | e
  · unfold wantOf at h; rw [if_pos e] at h; simp at h
  · unfold wantOf at h; rw [if_neg (by omega), if_pos e] at h; simp at h
  · unfold wantOf at h; rw [if_neg (by omega), if_neg (by omega), if_pos e] at h; simp at h
  · unfold wantOf at h; rw [if_neg (by omega), if_neg (by omega), if_neg (by omega), if_pos e] at h; simp at h
  · exact e
theorem lpair_c (hC : Cx mA Mb Lb k cells av t cur rl reads) (h : Ow mA m [Mb, Lb] ([(B, lsR s.ls), (T15, wtL s.now), (T10, stL t s.at_ (lvS B c k))] ++ mcB Mb Lb k av (feedS s a v))) (hl : s.ls.length = k) (hlf : (feedS s a v).ls.length = k) (ha : t.acts[s.at_]? = some a) (how : ownB a = false) (h0 : s.opn = false) (hw : s.now = wantOf s a)
    (hT : SS tm rl Mb T10 q fu i) (t15 : Tm.get 15 tm = .pointer (some ⟨T15, 0, none⟩)) (t17 : Tm.get 17 tm = uv v.1) {N : Nat} {kn kr : K} {ke : Nat → K} {Q : Option Out → Prop}
    (H : ∀ t' m' s', SS t' rl Mb T10 q fu i → Tm.get 17 t' = uv v.1 → RFin s.at_ s.ls a v s' → s'.ls.length = k → Ow mA m' [Mb, Lb] ([(B, lsR s.ls), (T10, stL t s.at_ (lvS B c k))] ++ mcB Mb Lb k av s') → Q (kn t' m')) : Q (ca0_48 (xA (N + 65543)) kn ke kr tm m) := by
  obtain ⟨t2, t8, t10, t11, t12, t13⟩ := hT
  have hal := hC.hal
  have hatl := (List.getElem?_eq_some_iff.1 ha).1
  have hop := (hC.hgs a (List.mem_of_getElem? ha)).op
  have l10 : loads m ⟨T10, 0, none⟩ 4 = some (stL t s.at_ (lvS B c k)) := (h.get 2 rfl).2.2.loads (n := 4) (by simp [stL])
  have l15 : ∀ o s', load1 m ⟨T15, o, s'⟩ = (wtL s.now)[o]? := fun o s' => (h.get 1 rfl).2.2.load1 o s'
  have hS : Sv m (lvS B c k) s.ls := sv_own (h.get 0 rfl).2.2 (h.get 0 rfl).2.1 hl
  have drop15 : ∀ {m' : M} {S : Ms}, Ow mA m' [Mb, Lb] ([(B, lsR s.ls), (T15, wtL s.now), (T10, stL t s.at_ (lvS B c k))] ++ mcB Mb Lb k av S) → Ow mA m' [Mb, Lb] ([(B, lsR s.ls), (T10, stL t s.at_ (lvS B c k))] ++ mcB Mb Lb k av S) := fun h => by
    refine h.sub (fun p hp => ?_) ?_
    · rcases List.mem_cons.1 hp with rfl | hp
      · exact List.mem_cons_self ..
      · exact List.mem_cons_of_mem _ (List.mem_cons_of_mem _ hp)
    · have hn := h.nd
      exact hn.sublist (((List.Sublist.refl _).cons _).cons_cons _)
  simp only [wtL] at l15
  by_cases h1 : s.now.what = 1
  rotate_left
  · have d1 : decide (s.now.what = 1) = false := decide_eq_false h1
    simp [t15, l15, d1]
    exact H _ _ _ ⟨by simp [t2], by simp [t8], by simp [t10], by simp [t11], by simp [t12], by simp [t13]⟩ (by simp [t17]) (feed_plain how hop h0 hw (.inl fun hp => h1 hp.1)) hlf (drop15 h)
  have d1 : decide (s.now.what = 1) = true := decide_eq_true h1
  cases hex : s.now.ex with
  | false =>
    rw [hex] at l15
    simp [t15, l15, d1]
    exact H _ _ _ ⟨by simp [t2], by simp [t8], by simp [t10], by simp [t11], by simp [t12], by simp [t13]⟩ (by simp [t17]) (feed_plain how hop h0 hw (.inl fun hp => by rw [hex] at hp; exact Bool.noConfusion hp.2)) hlf (drop15 h)
  | true =>
    rw [hex] at l15
    have hop4 := pair_op how hop h0 hw hex
    obtain ⟨_, m1, c1, c2, rfl⟩ := Then_c hC.hc (hC.at h.mc ha) hS hl hop4 v (N + 1) h.mb
    obtain ⟨w2, hw2⟩ : ∃ w, w = thenW s.ls a v := ⟨_, rfl⟩
    rw [← hw2] at c1
    have o1 := (h.step c2).row Z6
    obtain ⟨m2, hm2⟩ : ∃ m2, m2 = Dx.newRow m1 Z6 := ⟨_, rfl⟩
    rw [← hm2] at o1
    obtain ⟨m3, f1, f2, f3, f4⟩ := o1.storeN 0 rfl (o := 0) (n := 6) (l' := wtL w2) (by omega) rfl (by simp) (wtL_ok w2)
    have o3 : Ow mA m3 [Mb, Lb] ((m1.n, wtL w2) :: ([(B, lsR s.ls), (T15, wtL s.now), (T10, stL t s.at_ (lvS B c k))] ++ mcB Mb Lb k av (feedS s a v))) := by
      rw [over_fill (by simp [wtL])] at f2
      exact f2
    have l18 : ∀ o s', load1 m3 ⟨m1.n, o, s'⟩ = (wtL w2)[o]? := fun o s' => (o3.get 0 rfl).2.2.load1 o s'
    have drop18 : ∀ {m' : M} {S : Ms}, Ow mA m' [Mb, Lb] ((m1.n, wtL w2) :: ([(B, lsR s.ls), (T15, wtL s.now), (T10, stL t s.at_ (lvS B c k))] ++ mcB Mb Lb k av S)) → Ow mA m' [Mb, Lb] ([(B, lsR s.ls), (T10, stL t s.at_ (lvS B c k))] ++ mcB Mb Lb k av S) := fun h =>
      drop15 (h.sub (fun p hp => List.mem_cons_of_mem _ hp) (List.nodup_cons.1 h.nd).2)
    simp only [stL] at l10 c1
    simp only [wtL] at l18 f1 c1
    by_cases h2 : w2.what = 0
    · have d2 : decide (w2.what = 0) = true := decide_eq_true h2
      simp [t10, t15, t17, l15, d1, l10, loadNS_ptr, xA_f, c1, ← hm2, f1, l18, d2]
      exact H _ _ _ ⟨by simp [t2], by simp [t8], by simp [t10], by simp [t11], by simp [t12], by simp [t13]⟩ (by simp [t17]) (feed_plain how hop h0 hw (.inr (by rw [← hw2]; exact h2))) hlf (drop18 o3)
    have d2 : decide (w2.what = 0) = false := decide_eq_false h2
    obtain ⟨p1, p2, p3, p4, -⟩ := feed_pair (v9 := addU v n9) how hop h0 hw ⟨h1, hex⟩ (by rw [← hw2]; exact h2)
    obtain ⟨v9, hv9⟩ : ∃ v9 : U, v9 = addU v n9 := ⟨addU v n9, rfl⟩
    rw [← hv9] at p4
    rw [p1] at o3
    rw [← hw2] at p2 p3 p4
    obtain ⟨P, hP⟩ : ∃ P : Ms, P = { s with asked := false, old := v, opn := true } := ⟨_, rfl⟩
    obtain ⟨P2, hP2⟩ : ∃ P2 : Ms, P2 = { s with asked := true, old := v, opn := true, now := w2 } := ⟨_, rfl⟩
    rw [← hP] at o3
    rw [← hP2] at p4
    have hn1 : nextMs cur P = P2 := by
      rw [nextMs_eq hC.hcl hC.hce, nextMs_want (a := a) (by rw [hP]; exact ha) how (by rw [hP]), hP2, ← p3, hP]
      rfl
    have hn2 : nextMs cur P2 = P2 := nextMs_idle (by rw [hP2]) (by rw [hP2]; show w2.what ≠ 6; omega)
    have hPl : P.ls.length = k := by rw [hP]; exact hl
    have hPa : P.at_ ≤ t.acts.length := by rw [hP]; exact Nat.le_of_lt hatl
    have hP2l : P2.ls.length = k := by rw [hP2]; exact hl
    have hP2a : P2.at_ ≤ t.acts.length := by rw [hP2]; exact Nat.le_of_lt hatl
    have hP2n : P2.now = w2 := by rw [hP2]
    obtain ⟨m4', a1, a2, a3, a4⟩ := next_any (σ := (m1.n, wtL w2) :: [(B, lsR s.ls), (T15, wtL s.now), (T10, stL t s.at_ (lvS B c k))]) hC o3 hPl hPa (N + 65537)
    rw [hn1] at a1 a2
    obtain ⟨m4, hm4⟩ : ∃ x, x = behind m3 m4' := ⟨_, rfl⟩
    rw [← hm4] at a2
    obtain ⟨m5', b1, b2, b3, b4⟩ := next_any (σ := (m1.n, wtL w2) :: [(B, lsR s.ls), (T15, wtL s.now), (T10, stL t s.at_ (lvS B c k))]) hC a2 hP2l hP2a (N + 65537)
    rw [hn2] at b1 b2
    obtain ⟨m5, hm5⟩ : ∃ x, x = behind m4 m5' := ⟨_, rfl⟩
    rw [← hm5] at b2
    have hS5 : Sv m5 (lvS B c k) P2.ls := by rw [hP2]; exact sv_own (b2.get 1 rfl).2.2 (b2.get 1 rfl).2.1 hl
    obtain ⟨m6', e1, e2, e3, e4⟩ := same_any (t := t) (i := s.at_) (σ := (m1.n, wtL w2) :: [(B, lsR s.ls), (T15, wtL s.now), (T10, stL t s.at_ (lvS B c k))]) hC b2 hP2l hP2a hn2 hS5 (N + 65536)
    obtain ⟨m6, hm6⟩ : ∃ x, x = behind m5 m6' := ⟨_, rfl⟩
    rw [← hm6] at e2
    obtain ⟨m7', g1, g2, g3, g4⟩ := feed_any (a := a) (σ := (m1.n, wtL w2) :: [(B, lsR s.ls), (T15, wtL s.now), (T10, stL t s.at_ (lvS B c k))]) hC e2 hP2l (by rw [hP2]; exact ha) (by rw [hP2]) (by rw [hP2]; show w2.what ≠ 5; omega) (by rw [hP2]; show w2.what ≠ 6; omega) (fun _ => by unfold pD; exact decide_eq_true (by omega)) v9 (N + 65539)
    obtain ⟨m7, hm7⟩ : ∃ x, x = behind m6 m7' := ⟨_, rfl⟩
    rw [← hm7] at g2
    have hne := own_ne (σ := (m1.n, wtL w2) :: [(B, lsR s.ls), (T15, wtL s.now), (T10, stL t s.at_ (lvS B c k))]) o3 (List.mem_cons_self ..)
    have hne10 := own_ne (σ := (m1.n, wtL w2) :: [(B, lsR s.ls), (T15, wtL s.now), (T10, stL t s.at_ (lvS B c k))]) (p := (T10, stL t s.at_ (lvS B c k))) o3 (by simp)
    have la : loads m4 ⟨m1.n, 0, none⟩ 6 = some (wtL w2) := (a2.get 0 rfl).2.2.loads (n := 6) (by simp [wtL])
    have lb : loads m5 ⟨m1.n, 0, none⟩ 6 = some (wtL w2) := (b2.get 0 rfl).2.2.loads (n := 6) (by simp [wtL])
    have lc : loads m5 ⟨T10, 0, none⟩ 4 = some (stL t s.at_ (lvS B c k)) := (b2.get 3 rfl).2.2.loads (n := 4) (by simp [stL])
    have ma := meet_log (a4 _ hne.1 hne.2) none
    have mb := meet_log (b4 _ hne.1 hne.2) none
    have he := wt_eq w2
    rw [hP2n] at a1 b1 e1
    have u9 : IntKind.u64.wrap ((v.1 : Int) + 9) = (v9.1 : Int) := by rw [hv9, IntKind.wrap_u64]; unfold addU n9; simp
    simp only [stL] at lc e1
    simp only [wtL] at la lb a1 b1 e1 he
    simp [t8, t10, t15, t17, l15, d1, l10, loadNS_ptr, xA_f, c1, ← hm2, f1, l18, d2, a1, ← hm4, la, ma, he, b1, ← hm5, lb, mb, lc, e1, ← hm6, u9, g1, ← hm7]
    exact H _ _ _ ⟨by simp [t2], by simp [t8], by simp [t10], by simp [t11], by simp [t12], by simp [t13]⟩ (by simp [t17]) p4 g3 (drop18 g2)
end
end Go.Sx
/- The law's rounds: the machine is fed; the clone. -/
namespace Go.Sx
open Go.Dx Go.Proofs
set_option maxRecDepth 10000
section
variable {mA m m' : M} {Mb Lb k : Nat} {cells : Int} {av : Value} {t : Th} {cur : List Ac} {rl : Value} {reads : List U} {T10 T15 q fu i B c g : Nat} {tm : Tm} {s s' : Ms} {a a' : Ac} {v v9 : U} {σ : Bl}
theorem want_no56 (how : ownB a = false) (hop : 1 ≤ a.op ∧ a.op ≤ 10) (hw : s.now = wantOf s a) : s.now.what ≠ 5 ∧ s.now.what ≠ 6 := by
  rw [hw]
  unfold wantOf
  split
  · simp
  · split
    · simp
    · split
      · simp
      · split
        · simp
        · split <;> simp
/-- the machine is fed, and then refuses -/
theorem feed2_c (hC : Cx mA Mb Lb k cells av t cur rl reads) (h : Ow mA m [Mb, Lb] (σ ++ mcB Mb Lb k av s)) (hl : s.ls.length = k) (ha : t.acts[s.at_]? = some a) (how : ownB a = false) (hask : s.asked = true) (h0 : s.opn = false) (hw : s.now = wantOf s a)
    (hT : SS tm rl Mb T10 q fu i) {w15 : Value} (t15 : Tm.get 15 tm = w15) (t17 : Tm.get 17 tm = uv v.1) {N : Nat} {kn kr : K} {ke : Nat → K} {Q : Option Out → Prop}
    (H : ∀ t' m', SS t' rl Mb T10 q fu i → Tm.get 15 t' = w15 → Tm.get 17 t' = uv v.1 → (feedS s a v).ls.length = k → Ow mA m' [Mb, Lb] (σ ++ mcB Mb Lb k av (feedS s a v)) → Q (kn t' m')) : Q (ca0_40 (xA (N + 65543)) kn ke kr tm m) := by
  obtain ⟨t2, t8, t10, t11, t12, t13⟩ := hT
  have hop := (hC.hgs a (List.mem_of_getElem? ha)).op
  obtain ⟨h5, h6⟩ := want_no56 how hop hw
  obtain ⟨m1, c1, c2, c3, c4⟩ := wr_pl h (feed_pl hC h hl ha hask h5 h6 (pD_of how hop h0 hw) v (N + 65539))
  obtain ⟨_, m2, d1, d2, rfl⟩ := feedNo_c (Ow.ms c2 c3) (.inl (feed_asked s a v)) v (N + 65542) c2.mb
  have h2 := c2.step d2
  simp [t8, t17, xA_f, c1, d1]
  exact H _ _ ⟨by simp [t2], by simp [t8], by simp [t10], by simp [t11], by simp [t12], by simp [t13]⟩ (by simp [t15]) (by simp [t17]) c3 h2
end
section
variable [Cdf] {m m' : M} {Mc Lc k : Nat} {cells : Int} {av : Value} {t : Th} {cur : List Ac} {s s' : Ms} {a a' : Ac} {v : U}
/-- what the clone needs -/
structure Cl (m : M) (Mc Lc k : Nat) (av : Value) (cur : List Ac) (s : Ms) : Prop where
  ms : MsAt m Mc Lc k av s
  env : Env m Mc Lc av cur
  ne : Mc ≠ Lc
theorem Cl.ext (h : Cl m Mc Lc k av cur s) (e : Ext m m') : Cl m' Mc Lc k av cur s := ⟨h.ms.ext e, h.env.ext e, h.ne⟩
theorem Cl.wr (h : Cl m Mc Lc k av cur s) {x : Ex} {g : Nat} {args : List Value} {v' : Value} (hw : WrC x g args m Mc Lc k av s' v') : ∃ m1, x.f g args m = some (v', m1) ∧ Dx.Mc m m1 [Mc, Lc] ∧ Cl m1 Mc Lc k av cur s' := by
  obtain ⟨_, m1, f1, f2, f3, rfl⟩ := hw
  exact ⟨m1, f1, f2, f3, h.env.mc f2, h.ne⟩
theorem Cl.wrAny (h : Cl m Mc Lc k av cur s) {x : Ex} {g : Nat} {args : List Value} {v' : Value} (hw : WrC x g args (forAny m) Mc Lc k av s' v') : ∃ m1, x.f g args (forAny m) = some (v', m1) ∧ Dx.Mc m (behind m m1) [Mc, Lc] ∧ Cl (behind m m1) Mc Lc k av cur s' ∧ (∀ X, X ≠ Mc → X ≠ Lc → X ∉ m1.log) := by
  obtain ⟨_, m1, f1, f2, f3, rfl⟩ := hw
  refine ⟨m1, f1, f2.behind, ⟨f3.congr (by rw [behind_n]; exact Nat.le_refl _) (behind_obj _ _ _) (behind_obj _ _ _), h.env.mc f2.behind, h.ne⟩, fun X h1 h2 hX => ?_⟩
  rcases f2.log X hX with h' | h'
  · rw [forAny_log] at h'; cases h'
  · simp at h'; rcases h' with h' | h'
    · exact h1 h'
    · exact h2 h'
theorem Cl.next (hc : cells ≤ 4096) (hgc : ∀ a ∈ cur, AcG k cur.length cells a) (hal : cur.length ≤ 65536) (h : Cl m Mc Lc k av cur s) (hm : m.base ≤ m.n) (hat : s.at_ ≤ cur.length) (N : Nat) : WrC (ex Tryz.prog (N + 6)) 18 [mP Mc] m Mc Lc k av (nextMs cur s) (.agg ⟨wtL (nextMs cur s).now⟩) :=
  nextF_c hc h.env hgc hal hat N hm h.ne h.ms
theorem Cl.nextAny (hc : cells ≤ 4096) (hgc : ∀ a ∈ cur, AcG k cur.length cells a) (hal : cur.length ≤ 65536) (h : Cl m Mc Lc k av cur s) (hm : m.base ≤ m.n) (hat : s.at_ ≤ cur.length) (N : Nat) : WrC (ex Tryz.prog (N + 6)) 18 [mP Mc] (forAny m) Mc Lc k av (nextMs cur s) (.agg ⟨wtL (nextMs cur s).now⟩) :=
  nextF_c hc (h.env.any hm) hgc hal hat N (sees_any (Sees.refl hm)).base h.ne h.ms.any
theorem Cl.feed (hgc : ∀ a ∈ cur, AcG k cur.length cells a) (hal : cur.length ≤ 65536) (h : Cl m Mc Lc k av cur s) (hm : m.base ≤ m.n) (ha : cur[s.at_]? = some a) (hask : s.asked = true) (h5 : s.now.what ≠ 5) (h6 : s.now.what ≠ 6) (hD : (s.now.ex = true ∧ s.opn = true) ∨ s.now.what = 1 → pD a.op = true) (v : U) (N : Nat) :
    WrC (ex Tryz.prog (N + 4)) 14 [mP Mc, uv v.1] m Mc Lc k av (feedS s a v) (iv 0) :=
  feed_c h.env (hgc a (List.mem_of_getElem? ha)) ha hask h5 h6 hD v N hm h.ne h.ms (by have := (List.getElem?_eq_some_iff.1 ha).1; omega)
end
end Go.Sx
/- The law's rounds: a round that wants something. -/
namespace Go.Sx
open Go.Dx Go.Proofs
set_option maxRecDepth 10000
section
variable {mA m m' : M} {Mb Lb k : Nat} {cells : Int} {av : Value} {t : Th} {cur : List Ac} {rl : Value} {reads : List U} {T10 T15 q fu i B c g : Nat} {tm : Tm} {s s' : Ms} {a a' : Ac} {v v9 : U} {σ : Bl}
theorem feed_at (how : ownB a = false) (hop : 1 ≤ a.op ∧ a.op ≤ 10) (h0 : s.opn = false) (hw : s.now = wantOf s a) (v : U) : (feedS s a v).at_ ≤ s.at_ + 1 := by
  by_cases h : s.now.what = 1 ∧ s.now.ex = true
  · by_cases hT : (thenW s.ls a v).what = 0
    · rw [(feed_plain how hop h0 hw (.inr hT)).at_]; exact Nat.le_refl _
    · rw [(feed_pair (v9 := v) how hop h0 hw h hT).1]; exact Nat.le_succ _
  · rw [(feed_plain how hop h0 hw (.inl h)).at_]; exact Nat.le_refl _
theorem round_c (hC : Cx mA Mb Lb k cells av t cur rl reads) (h : Ow mA m [Mb, Lb] ([(B, lsR s.ls), (T15, wtL s.now), (T10, stL t s.at_ (lvS B c k))] ++ mcB Mb Lb k av s)) (hl : s.ls.length = k) (ha : t.acts[s.at_]? = some a) (how : ownB a = false) (hask : s.asked = true) (h0 : s.opn = false) (hw : s.now = wantOf s a)
    (hT : SS tm rl Mb T10 q fu i) (hq : q ≤ reads.length) (hi : i < 200) (t15 : Tm.get 15 tm = .pointer (some ⟨T15, 0, none⟩)) {N : Nat} {kn kr : K} {ke : Nat → K} {Q : Option Out → Prop}
    (H : ∀ t' m' q' s' B' c', SS t' rl Mb T10 q' fu i → q' ≤ reads.length → s'.opn = false → s'.asked = false → s'.at_ ≤ t.acts.length → s'.ls.length = k → Ow mA m' [Mb, Lb] ([(B', lsR s'.ls), (T10, stL t s'.at_ (lvS B' c' k))] ++ mcB Mb Lb k av s') → Q (kn t' m')) : Q (ca0_57 (xA (N + 65543)) kn ke kr tm m) := by
  obtain ⟨t2, t8, t10, t11, t12, t13⟩ := hT
  have hal := hC.hal
  have hatl := (List.getElem?_eq_some_iff.1 ha).1
  have hop := (hC.hgs a (List.mem_of_getElem? ha)).op
  obtain ⟨h5, h6⟩ := want_no56 how hop hw
  have hid : nextMs cur s = s := nextMs_idle hask h6
  have l10 : loads m ⟨T10, 0, none⟩ 4 = some (stL t s.at_ (lvS B c k)) := (h.get 2 rfl).2.2.loads (n := 4) (by simp [stL])
  have l15 : loads m ⟨T15, 0, none⟩ 6 = some (wtL s.now) := (h.get 1 rfl).2.2.loads (n := 6) (by simp [wtL])
  have hS : Sv m (lvS B c k) s.ls := sv_own (h.get 0 rfl).2.2 (h.get 0 rfl).2.1 hl
  -- alike?
  obtain ⟨m1, c1, c2, c3, c4⟩ := wr_pl h (same_pl (t := t) (i := s.at_) hC h hl (Nat.le_of_lt hatl) hid hS (N + 65536))
  -- the clone
  obtain ⟨_, m2, d1, d2, Mc, Lc, I, rfl, d3, d4, d5, d6⟩ := Clone_c hC.hk (hC.hE.mc c2.mc).rav.okV (Ow.ms c2 c3) (N + 65541) c2.mb
  have o2 := c2.step d2
  have hE1 := hC.hE.mc c2.mc
  have K2 : Cl m2 Mc Lc k av cur { s with asked := false } := ⟨d3, (hE1.fresh d4 d5).ext d2, d6⟩
  obtain ⟨_, m3', e1, e2, e3, rfl⟩ := any_call (feedNo_c K2.ms.any (.inl rfl) n1 (N + 65542) (sees_any (Sees.refl o2.mb)).base)
  obtain ⟨m3, hm3⟩ : ∃ x, x = behind m2 m3' := ⟨_, rfl⟩
  rw [← hm3] at e3
  have o3 := o2.step e3
  have K3 := K2.ext e3
  obtain ⟨a', ha1, ha2⟩ := hC.hce _ _ ha
  have how' : ownB a' = false := by obtain ⟨x, y, z, rfl⟩ := ha2; exact how
  have hw' : wantOf { s with asked := false } a' = s.now := by obtain ⟨x, y, z, rfl⟩ := ha2; rw [hw]; rfl
  have hn3 : nextMs cur { s with asked := false } = s := by
    rw [nextMs_want (a := a') (by exact ha1) how' rfl, hw']
    show Ms.mk _ _ _ _ _ _ = s
    rw [← hask]
  have hcl := hC.hcl
  obtain ⟨m4', f1, f2, K4, f4⟩ := K3.wrAny (K3.nextAny hC.hc hC.hgc (by omega) o3.mb (by show s.at_ ≤ _; omega) (N + 65537))
  rw [hn3] at f1 K4
  obtain ⟨m4, hm4⟩ : ∃ x, x = behind m3 m4' := ⟨_, rfl⟩
  rw [← hm4] at f2 K4
  have hlt : ∀ {S : Ms} {m' : M}, m1.n ≤ m'.n → ∀ p ∈ [(B, lsR s.ls), (T15, wtL s.now), (T10, stL t s.at_ (lvS B c k))] ++ mcB Mb Lb k av s, p.1 ∉ [Mc, Lc] := fun {S m'} _ p hp => by
    have := (c2.arr p hp).2.1
    simp; omega
  have hlo : ∀ X ∈ [Mc, Lc], mA.n ≤ X := fun X hX => by
    have := c2.mc.n
    simp at hX; rcases hX with rfl | rfl <;> omega
  have hlt' := hlt (S := s) (m' := m1) (Nat.le_refl _)
  have o4 := o3.other f2 hlo hlt'
  have hT15 : T15 ≠ Mc ∧ T15 ≠ Lc := by have := hlt' (T15, wtL s.now) (by simp); simpa using this
  have l4 : loads m4 ⟨T15, 0, none⟩ 6 = some (wtL s.now) := (o4.get 1 rfl).2.2.loads (n := 6) (by simp [wtL])
  have lw4 : ∀ o s', load1 m4 ⟨T15, o, s'⟩ = (wtL s.now)[o]? := fun o s' => (o4.get 1 rfl).2.2.load1 o s'
  have hmeet := meet_log (f4 T15 hT15.1 hT15.2) none
  have he := wt_eq s.now
  have hcv : convIV .u64 (iv i) = some (.int .u64 (i : Int)) := convI_u64 i (by omega)
  have hn1 : uv n1.1 = .int .u64 1 := rfl
  rw [hn1] at e1
  have en : eqN nilP true (mP Mc) (.pointer none) = some false := rfl
  simp only [stL] at l10 c1
  have l15' := l15
  simp only [wtL] at l15 c1 f1 l4 he
  simp [t8, t10, t13, t15, l10, l15, loadNS_ptr, xA_f, c1, d1, e1, ← hm3, f1, ← hm4, l4, hmeet, he, hcv, en, -ca0_37_ap, -ca0_40_ap, -ca0_49_ap]
  refine val_c hC o4.mc o4.mb (q := q) (fu := fu) (i := i) (T10 := T10) (T16 := mP Mc) ⟨by simp [t2], by simp [t8], by simp [t10], by simp [t11], by simp [t12], by simp [t13]⟩ hq hi (by simp [t15]) (by simp) lw4 ⟨⟨i, by omega⟩, by simp⟩ fun t5 v q' hT5 hq' u15 u16 u17 => ?_
  -- the clone is fed, and asked
  obtain ⟨m6, g1, g2, K6⟩ := K4.wr (K4.feed hC.hgc (by omega) o4.mb ha1 hask h5 h6 (by obtain ⟨x, y, z, rfl⟩ := ha2; exact pD_of how hop h0 hw) (addU v n1) (N + 65539))
  have o6 := o4.other g2 hlo hlt'
  rw [feedS_eq ha2] at K6
  have hat6 := feed_at how hop h0 hw (addU v n1)
  obtain ⟨m7, i1, i2, K7⟩ := K6.wr (K6.next hC.hc hC.hgc (by omega) o6.mb (by omega) (N + 65537))
  have o7 := o6.other i2 hlo hlt'
  have ua : IntKind.u64.wrap ((v.1 : Int) + 1) = ((addU v n1).1 : Int) := by rw [IntKind.wrap_u64]; unfold addU n1; simp
  simp [u16, u17, xA_f, ua, g1, i1, -ca0_40_ap, -ca0_49_ap]
  obtain ⟨x2, x8, x10, x11, x12, x13⟩ := hT5
  refine feed2_c (q := q') (fu := fu) (i := i) (T10 := T10) (v := v) hC o7 hl ha how hask h0 hw ⟨by simp [x2], by simp [x8], by simp [x10], by simp [x11], by simp [x12], by simp [x13]⟩ (w15 := .pointer (some ⟨T15, 0, none⟩)) (by simp [u15]) (by simp [u17]) fun t8' m8 hT8 y15 y17 hlf o8 => ?_
  show Q (ca0_48 (xA (N + 65543)) (sReg (seqI oa0_46) (xA (N + 65543)) kn ke kr) ke kr t8' m8)
  refine lpair_c hC o8 hl hlf ha how h0 hw hT8 y15 y17 fun t9 m9 s9 hT9 z17 hF hl9 o9 => ?_
  refine d46 hC o9 hl hl9 ha how hF hT9 z17 fun t' m' B' c' hT' o' => ?_
  exact H t' m' q' s9 B' c' hT' hq' hF.opn hF.asked (by rw [hF.at_]; omega) hl9 o'
end
end Go.Sx
/- The law's rounds: the loop. -/
namespace Go.Sx
open Go.Dx Go.Proofs
set_option maxRecDepth 10000
theorem adv_at {k : Nat} {cells : Int} {acts : List Ac} (hgs : ∀ a ∈ acts, AcG k acts.length cells a) : ∀ (f : Nat) (s : Ms), s.at_ ≤ acts.length → (adv acts f s).at_ ≤ acts.length := by
  intro f
  induction f with
  | zero => intro s h; rw [adv_zero]; exact h
  | succ f ih =>
    intro s h
    cases ha : acts[s.at_]? with
    | none => rw [adv_none _ ha]; exact h
    | some a =>
      cases ho : ownB a with
      | false => rw [adv_want _ ha ho]; exact h
      | true =>
        rw [adv_own _ ha ho]
        exact ih _ (own_at (hgs a (List.mem_of_getElem? ha)) ho (List.getElem?_eq_some_iff.1 ha).1)
section
variable {mA m m' : M} {Mb Lb k : Nat} {cells : Int} {av : Value} {t : Th} {cur : List Ac} {rl : Value} {reads : List U} {T10 T15 q fu i B c g : Nat} {tm : Tm} {s s' : Ms} {a a' : Ac} {v v9 : U} {σ : Bl}
structure LI (mA m : M) (tm : Tm) (Mb Lb k : Nat) (av : Value) (t : Th) (rl : Value) (reads : List U) (T10 i : Nat) : Prop where
  ex : ∃ s B c q fu, SS tm rl Mb T10 q fu i ∧ q ≤ reads.length ∧ fu ≤ i ∧ s.opn = false ∧ (s.asked = false ∨ s.now.what = 6) ∧ s.at_ ≤ t.acts.length ∧ s.ls.length = k ∧ Ow mA m [Mb, Lb] ([(B, lsR s.ls), (T10, stL t s.at_ (lvS B c k))] ++ mcB Mb Lb k av s)
theorem rounds_c (hC : Cx mA Mb Lb k cells av t cur rl reads) (hI0 : LI mA m tm Mb Lb k av t rl reads T10 0) {N : Nat} {kn kr : K} {ke : Nat → K} {Q : Option Out → Prop}
    (Hend : ∀ t' m', Mc mA m' [Mb, Lb] → Q (kn t' m')) (Hret : ∀ t' m', Mc mA m' [Mb, Lb] → Tm.get 6 t' = .bool true → Q (kr t' m')) : Q (ca0_67 (xA (N + 65543)) kn ke kr tm m) := by
  simp
  refine loop_run (c := ca0_66) rfl Q (fun i tm mm => LI mA mm tm Mb Lb k av t rl reads T10 i) 200 (by omega) hI0 (fun i tm mm kk hi hI hk => ?_)
  obtain ⟨s, B, c, q, fu, ⟨t2, t8, t10, t11, t12, t13⟩, hq, hfu, h0, hf, hat, hl, h⟩ := hI.ex
  by_cases hil : i < 200
  rotate_left
  · obtain rfl : i = 200 := by omega
    simp [t13]
    exact Hend _ _ h.mc
  have hd : ((i : Int) < 200) = True := eq_true (by omega)
  have hd' : (i < 200) = True := eq_true hil
  have ni := nextI (i := i) (by omega)
  have hal := hC.hal
  have l10 : loads mm ⟨T10, 0, none⟩ 4 = some (stL t s.at_ (lvS B c k)) := (h.get 1 rfl).2.2.loads (n := 4) (by simp [stL])
  have hS : Sv mm (lvS B c k) s.ls := sv_own (h.get 0 rfl).2.2 (h.get 0 rfl).2.1 hl
  have hEt := hC.hEt.mc h.mc
  obtain ⟨S, hSe⟩ : ∃ S, S = adv t.acts 100000 (mk0 s.at_ s.ls) := ⟨_, rfl⟩
  obtain ⟨_, m1, c1, c2, lv', rfl, c3⟩ := next_rc hC.hc hEt.rav (fun a ha => (hEt.ok a ha).1) hC.hgs hC.hk hC.hal hat hl hS N h.mb
  rw [← hSe] at c1 c3
  obtain ⟨x1, x2, x3, x4, x5⟩ := nextMs_at (acts := t.acts) h0 hf hSe
  rw [← nextMs_eq hC.hcl hC.hce] at x1 x2 x3 x4 x5
  obtain ⟨s2, hs2⟩ : ∃ s2, s2 = nextMs cur s := ⟨_, rfl⟩
  rw [← hs2] at x1 x2 x3 x4 x5
  rw [← x3, ← x1] at c1
  rw [← x2] at c3
  have hS2a : s2.at_ ≤ t.acts.length := by rw [x1, hSe]; exact adv_at hC.hgs _ _ hat
  have o1 := h.step c2
  have hokav : okC t.av = true := hEt.rav.okV
  -- the new locals
  obtain ⟨B', c', rfl, o1'⟩ : ∃ B' c', lv' = lvS B' c' k ∧ Ow mA m1 [Mb, Lb] ([(B', lsR s2.ls), (T10, stL t s.at_ (lvS B c k))] ++ mcB Mb Lb k av s) := by
    rcases c3 with ⟨rfl, e2⟩ | ⟨B', c', rfl, g1, g2, g3, g4⟩
    · exact ⟨B, c, rfl, by rw [e2]; exact o1⟩
    · refine ⟨B', c', rfl, ?_⟩
      have hh := o1.sub (σ' := [(T10, stL t s.at_ (lvS B c k))] ++ mcB Mb Lb k av s) (fun p hp => List.mem_cons_of_mem _ hp) (List.nodup_cons.1 o1.nd).2
      refine ⟨hh.mc, hh.base, fun p hp => ?_, ?_⟩
      · rcases List.mem_cons.1 hp with rfl | hp
        · exact ⟨.inr (Nat.le_trans h.mc.n g1), g2, g3⟩
        · exact hh.arr p hp
      · show ((B', lsR s2.ls).1 :: _).Nodup
        rw [List.nodup_cons]
        refine ⟨fun hm => ?_, hh.nd⟩
        obtain ⟨p, hp, e⟩ := List.mem_map.1 hm
        have := (h.arr p (List.mem_cons_of_mem _ hp)).2.1
        have e' : p.1 = B' := e
        omega
  -- the boxes
  have o2 := o1'.row Z4
  obtain ⟨m2, hm2⟩ : ∃ m2, m2 = Dx.newRow m1 Z4 := ⟨_, rfl⟩
  rw [← hm2] at o2
  have o3 := o2.row Z6
  obtain ⟨m3, hm3⟩ : ∃ m3, m3 = Dx.newRow m2 Z6 := ⟨_, rfl⟩
  rw [← hm3] at o3
  obtain ⟨m4, f1, f2, f3, f4⟩ := o3.storeN 1 rfl (o := 0) (n := 4) (l' := stL t s2.at_ (lvS B' c' k)) (by omega) rfl (by simp) (stL_ok hokav rfl)
  have o4 : Ow mA m4 [Mb, Lb] ([(m2.n, Z6), (m1.n, stL t s2.at_ (lvS B' c' k)), (B', lsR s2.ls), (T10, stL t s.at_ (lvS B c k))] ++ mcB Mb Lb k av s) := by
    rw [over_fill (by simp [stL])] at f2; exact f2
  obtain ⟨m5, g1, g2, g3, g4⟩ := o4.storeN 0 rfl (o := 0) (n := 6) (l' := wtL s2.now) (by omega) rfl (by simp) (wtL_ok _)
  have o5 : Ow mA m5 [Mb, Lb] ([(m2.n, wtL s2.now), (m1.n, stL t s2.at_ (lvS B' c' k)), (B', lsR s2.ls), (T10, stL t s.at_ (lvS B c k))] ++ mcB Mb Lb k av s) := by
    rw [over_fill (by simp [wtL])] at g2; exact g2
  have l14 : loads m5 ⟨m1.n, 0, none⟩ 4 = some (stL t s2.at_ (lvS B' c' k)) := (o5.get 1 rfl).2.2.loads (n := 4) (by simp [stL])
  obtain ⟨m6, e1, e2, e3, e4⟩ := o5.storeN 3 rfl (o := 0) (n := 4) (l' := stL t s2.at_ (lvS B' c' k)) (by omega) rfl (by simp [stL]) (stL_ok hokav rfl)
  have o6 : Ow mA m6 [Mb, Lb] ([(m2.n, wtL s2.now), (m1.n, stL t s2.at_ (lvS B' c' k)), (B', lsR s2.ls), (T10, stL t s2.at_ (lvS B' c' k))] ++ mcB Mb Lb k av s) := by
    rw [over_fill (by simp [stL])] at e2; exact e2
  -- Next
  obtain ⟨m7', i1, i2, i3, i4⟩ := next_any hC o6 hl hat (N + 65537)
  rw [← hs2] at i1 i2 i3
  obtain ⟨m7, hm7⟩ : ∃ x, x = behind m6 m7' := ⟨_, rfl⟩
  rw [← hm7] at i2
  have hne := own_ne (p := (m2.n, wtL s2.now)) o6 (by simp)
  have l7 : loads m7 ⟨m2.n, 0, none⟩ 6 = some (wtL s2.now) := (i2.get 0 rfl).2.2.loads (n := 6) (by simp [wtL])
  have lw7 : ∀ o s', load1 m7 ⟨m2.n, o, s'⟩ = (wtL s2.now)[o]? := fun o s' => (i2.get 0 rfl).2.2.load1 o s'
  have l107 : loads m7 ⟨T10, 0, none⟩ 4 = some (stL t s2.at_ (lvS B' c' k)) := (i2.get 3 rfl).2.2.loads (n := 4) (by simp [stL])
  have hmeet := meet_log (i4 m2.n hne.1 hne.2) none
  have he := wt_eq s2.now
  have hnw : s2.now = nextW t.acts S := x3
  unfold nextW at hnw
  have hS7 : Sv m7 (lvS B' c' k) s2.ls := sv_own (i2.get 2 rfl).2.2 (i2.get 2 rfl).2.1 i3
  have key : ∀ {Q' : Prop}, (s2.now.what = 5 → Q') → (s2.now.what = 6 → Q') → ((∃ a, t.acts[s2.at_]? = some a ∧ ownB a = false ∧ s2.now = wantOf s2 a) → Q') → Q' := fun h5 h6 ha => by
    rw [← x1] at hnw
    cases haa : t.acts[s2.at_]? with
    | none => rw [haa] at hnw; exact h5 (by rw [hnw]; rfl)
    | some a =>
      rw [haa] at hnw
      cases ho : ownB a with
      | true => simp only [ho] at hnw; exact h6 (by rw [hnw]; rfl)
      | false =>
        simp only [ho] at hnw
        refine ha ⟨a, haa, ho, hnw.trans (want_ls x2.symm ?_ ?_)⟩
        · rw [x4, hSe]; exact adv_mk _ _ _ rfl
        · intro hh; rw [hSe, adv_mk _ _ _ rfl] at hh; cases hh
  simp only [stL] at l10 c1 f1 l14 e1 l107
  have l7' := l7
  have lw7' := lw7
  simp only [wtL] at c1 g1 i1 l7 lw7 he
  simp [t8, t10, t13, hd, hd', l10, loadNS_ptr, xA_f, c1, extractV, ← hm2, ← hm3, f1, g1, l14, e1, i1, ← hm7, l7, hmeet, he, lw7, -ca0_57_ap]
  have dropA : ∀ {m' : M} {S : Ms}, Ow mA m' [Mb, Lb] ([(m2.n, wtL s2.now), (m1.n, stL t s2.at_ (lvS B' c' k)), (B', lsR s2.ls), (T10, stL t s2.at_ (lvS B' c' k))] ++ mcB Mb Lb k av S) → Ow mA m' [Mb, Lb] ([(B', lsR s2.ls), (T10, stL t s2.at_ (lvS B' c' k))] ++ mcB Mb Lb k av S) := fun h =>
    h.sub (fun p hp => List.mem_cons_of_mem _ (List.mem_cons_of_mem _ hp)) (List.nodup_cons.1 (List.nodup_cons.1 h.nd).2).2
  have dropB : ∀ {m' : M} {S : Ms}, Ow mA m' [Mb, Lb] ([(m2.n, wtL s2.now), (m1.n, stL t s2.at_ (lvS B' c' k)), (B', lsR s2.ls), (T10, stL t s2.at_ (lvS B' c' k))] ++ mcB Mb Lb k av S) → Ow mA m' [Mb, Lb] ([(B', lsR s2.ls), (m2.n, wtL s2.now), (T10, stL t s2.at_ (lvS B' c' k))] ++ mcB Mb Lb k av S) := fun h =>
    h.sub (fun p hp => by simp at hp ⊢; rcases hp with hp | hp | hp | hp | hp <;> simp [hp]) (by have := h.nd; simp at this ⊢; omega)
  refine key (fun h5 => ?_) (fun h6 => ?_) (fun ha => ?_)
  · -- it has halted
    have d5 : decide (s2.now.what = 5) = true := decide_eq_true h5
    have hid : nextMs cur s2 = s2 := nextMs_idle x5 (by omega)
    obtain ⟨m8', p1, p2, p3, p4⟩ := same_any (t := t) (i := s2.at_) hC i2 i3 hS2a hid hS7 (N + 65536)
    obtain ⟨m8, hm8⟩ : ∃ x, x = behind m7 m8' := ⟨_, rfl⟩
    rw [← hm8] at p2
    obtain ⟨_, m9', q1, q2, q3, rfl⟩ := any_call (feedNo_c (Ow.ms p2 p3).any (.inr (.inl h5)) n1 (N + 65542) (sees_any (Sees.refl p2.mb)).base)
    obtain ⟨m9, hm9⟩ : ∃ x, x = behind m8 m9' := ⟨_, rfl⟩
    rw [← hm9] at q3
    have o9 := p2.step q3
    obtain ⟨m10', r1, r2, r3, r4⟩ := next_any hC o9 p3 hS2a (N + 65537)
    rw [hid] at r1 r2
    obtain ⟨m10, hm10⟩ : ∃ x, x = behind m9 m10' := ⟨_, rfl⟩
    rw [← hm10] at r2
    have l10' : loads m10 ⟨m2.n, 0, none⟩ 6 = some (wtL s2.now) := (r2.get 0 rfl).2.2.loads (n := 6) (by simp [wtL])
    have hmeet2 := meet_log (r4 m2.n hne.1 hne.2) none
    have hn1 : uv n1.1 = .int .u64 1 := rfl
    rw [hn1] at q1
    simp only [stL] at p1
    simp only [wtL] at p1 r1 l10'
    simp [t8, t10, d5, l107, l7, loadNS_ptr, xA_f, p1, ← hm8, q1, ← hm9, r1, ← hm10, l10', hmeet2, he, -ca0_57_ap]
    exact Hret _ _ r2.mc (by simp)
  · -- it is out of fuel
    have d5 : decide (s2.now.what = 5) = false := decide_eq_false (by omega)
    have d6 : decide (s2.now.what = 6) = true := decide_eq_true h6
    obtain ⟨_, m8, q1, q2, rfl⟩ := feedNo_c (Ow.ms i2 i3) (.inr (.inr h6)) n1 (N + 65542) i2.mb
    have o8 := i2.step q2
    have hn1 : uv n1.1 = .int .u64 1 := rfl
    rw [hn1] at q1
    have nf := nextI (i := fu) (by omega)
    by_cases h3 : fu + 1 = 3
    · have d3 : decide (((fu + 1 : Nat) : Int) = 3) = true := decide_eq_true (by omega)
      obtain ⟨f1, hf1⟩ : ∃ f1, f1 = fu + 1 := ⟨_, rfl⟩
      rw [← hf1] at nf d3 h3
      simp [t8, t10, t12, d5, d6, lw7, xA_f, nf, q1, d3, h3, -ca0_57_ap]
      exact Hret _ _ o8.mc (by simp)
    · have d3 : decide (((fu + 1 : Nat) : Int) = 3) = false := decide_eq_false (by omega)
      obtain ⟨f1, hf1⟩ : ∃ f1, f1 = fu + 1 := ⟨_, rfl⟩
      rw [← hf1] at nf d3 h3
      have d3' : decide (f1 = 3) = false := decide_eq_false h3
      simp [t8, t10, t12, t13, d5, d6, lw7, xA_f, nf, q1, d3, d3', h3, ni, -ca0_57_ap]
      exact hk hil _ _ ⟨s2, B', c', q, f1, ⟨by simp [t2], by simp [t8], by simp [t10], by simp [t11], by simp, by simp⟩, hq, by omega, x4, .inr h6, hS2a, i3, dropA o8⟩
  · -- it wants something
    obtain ⟨a, ha, how, hw⟩ := ha
    have hop := (hC.hgs a (List.mem_of_getElem? ha)).op
    obtain ⟨n5, n6⟩ := want_no56 how hop hw
    have d5 : decide (s2.now.what = 5) = false := decide_eq_false n5
    have d6 : decide (s2.now.what = 6) = false := decide_eq_false n6
    simp [t8, t10, d5, d6, lw7, -ca0_57_ap]
    refine round_c (q := q) (fu := fu) (i := i) hC (dropB i2) i3 ha how x5 x4 hw ⟨by simp [t2], by simp [t8], by simp [t10], by simp [t11], by simp [t12], by simp [t13]⟩ hq hil (by simp) fun t9 m9 q' s' B9 c9 hT9 hq9 y1 y2 y3 y4 o9 => ?_
    obtain ⟨z2, z8, z10, z11, z12, z13⟩ := hT9
    simp [z13, ni]
    exact hk hil _ _ ⟨s', B9, c9, q', fu, ⟨by simp [z2], by simp [z8], by simp [z10], by simp [z11], by simp [z12], by simp⟩, hq9, by omega, y1, .inl y2, y3, y4, o9⟩
end
end Go.Sx
/- The law SrcSteps: its contract. -/
namespace Go.Sx
open Go.Dx Go.Proofs
set_option maxRecDepth 10000
theorem AcEq.tr {a b c : Ac} (h : AcEq a b) (k : AcEq b c) : AcEq a c := by
  obtain ⟨x, y, z, rfl⟩ := h
  obtain ⟨x', y', z', rfl⟩ := k
  exact ⟨x, y, z, rfl⟩
theorem Env.own {m0 m m' : M} {Mb Lb : Nat} {av : Value} {cur : List Ac} (h : Env m Mb Lb av cur) (hF : NewF m0 av cur) (hn : m.n ≤ m'.n) (ho : ∀ B, m0.n ≤ B → B < m.n → m'.obj B = m.obj B) : Env m' Mb Lb av cur :=
  ⟨h.rav.congr hn fun B hB => ho B (hF.av B hB) (h.rav.lt B hB), h.avp, fun a ha => ⟨(h.ok a ha).1.congr hn fun B hB => ho B (hF.ac a ha B hB) ((h.ok a ha).1.lt B hB), (h.ok a ha).2⟩⟩
theorem Env.low {m0 m : M} {Mb Lb : Nat} {t : Th} (h : ThOK m0 t) (hs : Sees m0 m) (h1 : m0.n ≤ Mb) (h2 : m0.n ≤ Lb) : Env m Mb Lb t.av t.acts := by
  refine ⟨h.av.sees hs, fun B hB => ?_, fun a ha => ⟨(h.acts a ha).sees hs, fun B hB => ?_, fun B hB => ?_, fun B hB => ?_⟩⟩
  · have := h.av.lt B hB; simp; omega
  · have := (h.acts a ha).ix.lt B hB; simp; omega
  · have := (h.acts a ha).ev.lt B hB; simp; omega
  · have := (h.acts a ha).fv.lt B hB; simp; omega
theorem Mc.ext_low {m0 m m' : M} {W : List Nat} (h : Ext m0 m) (hb : m0.base ≤ m0.n) (k : Dx.Mc m m' W) (hW : ∀ B ∈ W, m0.n ≤ B) : Ext m0 m' :=
  ⟨Nat.le_trans h.n k.n, fun B hB => (k.obj B (Nat.lt_of_lt_of_le hB h.n) fun hm => by have := hW B hm; omega).trans (h.obj B hB), k.base.trans h.base, (k.low fun B hB => by have := hW B hB; rw [h.base]; omega).trans h.log⟩
theorem SrcSteps_c (p : Pg) (th : Int) (rl : Value) (reads : List U) (hrn : reads.length ≤ 9223372036854775807) (hpz : PgSz p) (N : Nat) (m : M) (hm : m.base ≤ m.n) (hp : PgOK m p) (hrd : Rd m rl 1 wordRow reads) :
    CallV (Ex.step Tryz.prog (xA (N + 65543))) 4 [pgV p, iv th, rl] m (.bool true) := by
  refine step_ret da0_ok (by simp) ?_
  have hpv : pgV p = .agg ⟨[iv p.cells, p.tv]⟩ := rfl
  have st1 := (St.nil hm (Ext.refl m)).row [iv p.cells, p.tv]
  obtain ⟨m1, hm1⟩ : ∃ m1, m1 = Dx.newRow m [iv p.cells, p.tv] := ⟨_, rfl⟩
  rw [← hm1] at st1
  have l1 : loads m1 ⟨m.n, 0, none⟩ 2 = some [iv p.cells, p.tv] := (st1.get 0 rfl).2.2.loads (n := 2) (by simp)
  obtain ⟨_, m2, c1, c2, p', D, rfl, hpe, hpi, hD⟩ := Copy_c p hpz (N + 65542) m1 st1.sees.self.base (hp.sees st1.sees)
  have hp'v : pgV p' = .agg ⟨[iv p'.cells, p'.tv]⟩ := rfl
  have hp'2 : PgOK m2 p' := pg_ok hD hpi hpe hp
  have st2 := st1.step c2
  have st3 := st2.row [.int .i64 0, .slice none 0 0]
  obtain ⟨m3, hm3⟩ : ∃ m3, m3 = Dx.newRow m2 [.int .i64 0, .slice none 0 0] := ⟨_, rfl⟩
  rw [← hm3] at st3
  obtain ⟨m4, f1, f2, f3, f4⟩ := st3.fill 0 rfl (n := 2) (l' := [iv p'.cells, p'.tv]) rfl rfl (by
    have := hp'2.tv.okV
    simp [okC]; exact this)
  have st4 : St m m4 [(m2.n, [iv p'.cells, p'.tv]), (m.n, [iv p.cells, p.tv])] := f2
  have E24 : Ext m2 m4 := by
    have e := Ext.row m2 [.int .i64 0, .slice none 0 0]
    rw [← hm3] at e
    refine ⟨by rw [f3]; exact e.n, fun B hB => ?_, ?_, ?_⟩
    · rw [f4 B (by omega)]; exact e.obj B hB
    · rw [st4.ext.base, st2.ext.base]
    · rw [st4.ext.log, st2.ext.log]
  have S2 : Sees m2 m2 := hD.sees.self
  have l4 : loads m4 ⟨m2.n, 0, none⟩ 2 = some [iv p'.cells, p'.tv] := (st4.get 0 rfl).2.2.loads (n := 2) (by simp)
  obtain ⟨v5, m5, d1, d2, d3⟩ := New_c p' th (N + 65537) m4 st4.sees.self.base (hp'2.sees (S2.ext E24))
  have st5 := st4.step d2
  have l5 : loads m5 ⟨m.n, 0, none⟩ 2 = some [iv p.cells, p.tv] := (st5.get 1 rfl).2.2.loads (n := 2) (by simp)
  obtain ⟨_, m6, e1, e2, rfl⟩ := refWhole_c p (N + 65539) m5 st5.sees.self.base (hp.sees st5.sees)
  have st6 := st5.step e2
  have l6 : ∀ o s, load1 m6 ⟨m.n, o, s⟩ = [iv p.cells, p.tv][o]? := fun o s => (st6.get 1 rfl).2.2.load1 o s
  obtain ⟨n, hn⟩ : ∃ n, n = p.ths.length := ⟨_, rfl⟩
  have hll : lenS p.tv = some (.int .i64 (n : Int)) := by rw [hn]; exact hp.tv.len
  rw [pg_same hpe, hpe.len, ← hn] at d3
  rw [hpv] at c1 e1 ⊢
  rw [hp'v] at c1 d1
  have en : ∀ b, eqN nilP true (mP b) (.pointer none) = some false := fun _ => rfl
  have ez : eqN nilP true (.pointer none) (.pointer none) = some true := rfl
  by_cases hB : pgB p = true ∧ 0 ≤ th ∧ th < n
  rotate_left
  · rw [if_neg hB] at d3
    subst d3
    cases hpb : pgB p with
    | false =>
      rw [hpb] at e1
      simp [← hm1, l1, loadNS_ptr, xA_f, xA_aw, c1, ← hm3, f1, l4, d1, extractV, l5, e1, ez]
      exact ret_1 st6.ext (by simp)
    | true =>
      rw [hpb] at e1
      by_cases h0 : th < 0
      · have e0 : (th < 0) = True := eq_true h0
        simp [← hm1, l1, loadNS_ptr, xA_f, xA_aw, c1, ← hm3, f1, l4, d1, extractV, l5, e1, ez, e0]
        exact ret_1 st6.ext (by simp)
      · have e0 : (th < 0) = False := eq_false h0
        have e3 : ((n : Int) ≤ th) = True := eq_true (by have := hB; rw [hpb] at this; simp at this; omega)
        simp [← hm1, l1, loadNS_ptr, xA_f, xA_aw, c1, ← hm3, f1, l4, d1, extractV, l5, e1, ez, e0, l6, hll, e3]
        exact ret_1 st6.ext (by simp)
  rw [if_pos hB] at d3
  obtain ⟨t', cur, ht', hcl', hce', Mb, Lb, av, rfl, hne, hMb, hLb, hMs, hEnv, hNF⟩ := d3
  obtain ⟨hpb, h0, h1⟩ := hB
  rw [hpb] at e1
  have e0 : (th < 0) = False := eq_false (by omega)
  have e3 : ((n : Int) ≤ th) = False := eq_false (by omega)
  obtain ⟨T, hT⟩ : ∃ T : Nat, th = T := ⟨th.toNat, by omega⟩
  obtain ⟨t, ht⟩ : ∃ t, p.ths[T]? = some t := ⟨_, List.getElem?_eq_getElem (by omega)⟩
  obtain ⟨t'', ht'', hte⟩ := hpe.ths T t ht
  have hTt : th.toNat = T := by omega
  rw [hTt] at ht'
  obtain rfl : t' = t'' := by rw [ht'] at ht''; exact Option.some.inj ht''
  have hlt := hte.loc
  have htl := hte.len
  have htok := hp.ths t (List.mem_of_getElem? ht)
  -- the machine refuses a value that it has not asked for
  have hM6 := hMs.ext e2
  obtain ⟨_, m7, g1, g2, rfl⟩ := feedNo_c hM6 (.inl rfl) ⟨3, by omega⟩ (N + 65542) st6.sees.self.base
  have st7 := st6.step g2
  have hM7 := hM6.ext g2
  have E27 : Ext m2 m7 := ((E24.trans d2).trans e2).trans g2
  have l7 : loads m7 ⟨m2.n, 0, none⟩ 2 = some [iv p'.cells, p'.tv] := (st7.get 0 rfl).2.2.loads (n := 2) (by simp)
  -- the copy is spoilt
  obtain ⟨v8, m8, i1, i2⟩ := Spoil_c p' (hD.step E27) hpi (hp'2.sees (S2.ext E27)) (N + 65542)
  rw [hp'v] at i1
  have hW1 : ∀ B ∈ D.map (·.1), m1.n ≤ B ∧ B < m2.n := fun B hB => by
    obtain ⟨q, hq, rfl⟩ := List.mem_map.1 hB
    exact ⟨(hD.arr q hq).1, (hD.arr q hq).2.1⟩
  have hmn1 : m.n < m1.n := (st1.get 0 rfl).2.1
  have hn24 : m2.n ≤ m4.n := E24.n
  have EX8 : Ext m m8 := Mc.ext_low st7.ext hm i2 (fun B hB => by have := hW1 B hB; omega)
  have ob8 : ∀ B, B < m7.n → (B < m1.n ∨ m2.n ≤ B) → m8.obj B = m7.obj B := fun B hB h => i2.obj B hB fun hm => by have := hW1 B hm; omega
  have S8 : Sees m m8 := (Sees.refl hm).ext EX8
  have b8 : m8.base ≤ m8.n := S8.base
  have hM8 : MsAt m8 Mb Lb t'.loc.toNat av (ms0 t'.loc.toNat) := hM7.congr i2.n (ob8 Mb hM7.mb (by omega)) (ob8 Lb hM7.lb (by omega))
  have hE7 : Env m7 Mb Lb av cur := (hEnv.ext e2).ext g2
  have hE8 : Env m8 Mb Lb av cur := hE7.own hNF i2.n fun B hB hB7 => ob8 B hB7 (by omega)
  have A8 : Arr m8 m.n [iv p.cells, p.tv] := (st7.get 1 rfl).2.2.congr (ob8 _ (st7.get 1 rfl).2.1 (by omega))
  have l8 : ∀ o s, load1 m8 ⟨m.n, o, s⟩ = [iv p.cells, p.tv][o]? := fun o s => A8.load1 o s
  -- what the program is
  have htB : thB p.cells t = true := by
    have := hpb
    unfold pgB at this
    simp only [Bool.and_eq_true] at this
    exact List.all_eq_true.1 this.2.2 t (List.mem_of_getElem? ht)
  have hcells : p.cells ≤ 4096 := by
    have := hpb
    unfold pgB at this
    simp only [Bool.and_eq_true, decide_eq_true_eq] at this
    exact this.1.2
  unfold thB at htB
  simp only [Bool.and_eq_true, decide_eq_true_eq] at htB
  obtain ⟨⟨hl0, hl1⟩, htl2, hacts⟩ := htB
  obtain ⟨k, hk⟩ : ∃ k, k = t.loc.toNat := ⟨_, rfl⟩
  have hkl : t.loc = (k : Int) := by omega
  rw [show t'.loc.toNat = k by rw [hlt, hk]] at hM8
  have hgs : ∀ a ∈ t.acts, AcG k t.acts.length p.cells a := fun a ha => by rw [hk]; exact actB_g (List.all_eq_true.1 hacts a ha)
  have hcl : cur.length = t.acts.length := by omega
  have hce : ∀ (j : Nat) a, t.acts[j]? = some a → ∃ a', cur[j]? = some a' ∧ AcEq a' a := fun j a ha => by
    obtain ⟨b, h1, h2⟩ := hte.acts j a ha
    obtain ⟨c, h3, h4⟩ := hce' j b h1
    exact ⟨c, h3, h4.tr h2⟩
  have hgc : ∀ a ∈ cur, AcG k cur.length p.cells a := fun a ha => by
    obtain ⟨j, hj⟩ := List.getElem?_of_mem ha
    have hjl := (List.getElem?_eq_some_iff.1 hj).1
    obtain ⟨b, h1, h2⟩ := hce j _ (List.getElem?_eq_getElem (show j < t.acts.length by omega))
    rw [hj] at h1; cases h1
    rw [hcl]
    exact (hgs _ (List.getElem_mem _)).eq h2
  have st4n := st4.ext.n
  have hC : Cx m8 Mb Lb k p.cells av t cur rl reads := ⟨hcells, by omega, hcl, hce, hgs, hgc, htl2, hE8, Env.low htok S8 (by omega) (by omega), hrd.sees S8, fun B hB => by have := hrd.lt B hB; simp; omega, hrn, hne⟩
  -- Begin
  have ⟨a1, a2, _⟩ := (hp.tv.sees S8).at ht
  rw [← hT] at a1
  have a2' := a2 m8 (Sees.refl b8)
  obtain ⟨_, m9, j1, j2, lv, rfl, B, c, rfl, y1, y2, y3, y4⟩ := Begin_c t k hkl (by omega) htok.av.okV (sl_of htok.av) (N + 65542) m8 b8
  have w0 : Ow m8 m8 [Mb, Lb] (mcB Mb Lb k av (ms0 k)) := Ow.start b8 (fun q hq => by
    simp only [List.mem_cons, List.not_mem_nil, or_false] at hq
    rcases hq with rfl | rfl
    · exact ⟨by simp, hM8.mb, hM8.row⟩
    · exact ⟨by simp, hM8.lb, hM8.ls⟩) (by simp; exact hne)
  have w1 := w0.step j2
  have w2 : Ow m8 m9 [Mb, Lb] ((B, lsR (List.replicate k u0)) :: mcB Mb Lb k av (ms0 k)) := by
    refine ⟨w1.mc, w1.base, fun q hq => ?_, ?_⟩
    · rcases List.mem_cons.1 hq with rfl | hq
      · exact ⟨.inr y1, y2, y3⟩
      · exact w1.arr q hq
    · show ((B, lsR (List.replicate k u0)).1 :: _).Nodup
      rw [List.nodup_cons]
      refine ⟨fun hm => ?_, w1.nd⟩
      obtain ⟨q, hq, e⟩ := List.mem_map.1 hm
      have := (w0.arr q hq).2.1
      have e' : q.1 = B := e
      omega
  have w3 := w2.row Z4
  obtain ⟨m10, hm10⟩ : ∃ x, x = Dx.newRow m9 Z4 := ⟨_, rfl⟩
  rw [← hm10] at w3
  obtain ⟨m11, k1, k2, k3, k4⟩ := w3.storeN 0 rfl (o := 0) (n := 4) (l' := stL t 0 (lvS B c k)) (by omega) rfl (by simp) (stL_ok htok.av.okV rfl)
  have w4 : Ow m8 m11 [Mb, Lb] ([(B, lsR (ms0 k).ls), (m9.n, stL t (ms0 k).at_ (lvS B c k))] ++ mcB Mb Lb k av (ms0 k)) := by
    rw [over_fill (by simp [stL])] at k2
    have k2' : Ow m8 m11 [Mb, Lb] ((m9.n, stL t 0 (lvS B c k)) :: (B, lsR (List.replicate k u0)) :: mcB Mb Lb k av (ms0 k)) := k2
    refine k2'.sub (fun q hq => by simp [ms0] at hq ⊢; rcases hq with hq | hq | hq | hq <;> simp [hq]) (by have := k2'.nd; simp at this ⊢; omega)
  have hend : ∀ {m' : M}, Dx.Mc m8 m' [Mb, Lb] → Ext m m' := fun h => Mc.ext_low EX8 hm h (fun B hB => by simp at hB; rcases hB with rfl | rfl <;> omega)
  have hb3 : uv (⟨3, by omega⟩ : U).1 = .int .u64 3 := rfl
  rw [hb3] at g1
  simp only [thRow] at a2' j1
  have k1' : storeS 4 (.pointer (some ⟨m9.n, 0, none⟩)) (.agg ⟨[iv t.loc, t.av, iv 0, lvS B c k]⟩) m10 = some (undef, m11) := k1
  simp only [stL] at j1
  simp [← hm1, l1, loadNS_ptr, xA_f, xA_aw, c1, ← hm3, f1, l4, d1, extractV, l5, e1, e0, l6, hll, e3, en, g1, l7, i1, l8, a1, a2', j1, ← hm10, k1', -ca0_67_ap]
  refine rounds_c hC ⟨ms0 k, B, c, 0, 0, ⟨by simp, by simp, by simp, by simp, by simp, by simp⟩, by omega, by omega, rfl, .inl rfl, by simp [ms0], hM8.len, w4⟩ (fun t' m' h => ?_) (fun t' m' h h6 => ?_)
  · simp
    exact ret_1 (hend h) (by simp)
  · exact ret_1 (hend h) h6
end Go.Sx
