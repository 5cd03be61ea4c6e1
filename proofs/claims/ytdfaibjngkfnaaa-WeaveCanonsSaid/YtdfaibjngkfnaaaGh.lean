/- Further contracts. -/
import Derived.Test.YtdfaibjngkfnaaaGg
import Derived.KernelRfl
import Derived.Test.YtdfaibjngkfnaaaGe
set_option linter.unusedVariables false
set_option linter.unusedSimpArgs false
set_option linter.defProp false
set_option linter.unusedSimpArgs false
set_option linter.unusedVariables false
namespace Go.Dx
theorem eqFlat_ints : ∀ (l r : List Int), l.length = r.length → eqFlat (l.map fun _ => 1) (l.map fun x => .int .i64 x) (r.map fun x => .int .i64 x) = some (decide (l = r))
  | [], [], _ => by simp [eqFlat]
  | x :: l, y :: r, h => by
    have ih := eqFlat_ints l r (by simpa using h)
    have hk : eqK 1 (.int .i64 x) (.int .i64 y) = some (decide (x = y)) := by
      show (bif Nat.beq (ik .i64) (ik .i64) then some (eqI x y) else none) = _
      rw [Nat.beq_refl, eqI_eq]; rfl
    show ob (eqK 1 (.int .i64 x) (.int .i64 y)) (fun b => bif b then eqFlat (l.map fun _ => 1) (l.map fun x => .int .i64 x) (r.map fun x => .int .i64 x) else some false) = _
    rw [hk, ob_some', ih]
    by_cases e : x = y
    · subst e; simp
    · simp [e]
  | [], y :: r, h => by simp at h
  | x :: l, [], h => by simp at h
end Go.Dx
namespace Go.Sx
open Go.Dx Go.Proofs
def bS (l : List UInt8) : Value := .string ⟨⟨l⟩⟩
structure NX where
  name : List UInt8
  ks : List Int
def nmRow (x : NX) : List Value := bS x.name :: (x.ks ++ List.replicate (6 - x.ks.length) 0).map fun i => iv i
def NMS : List NX := [⟨[83, 66], [6, 2, 6, 2]⟩, ⟨[77, 80], [7, 1, 4, 2]⟩, ⟨[76, 66], [5, 1, 5, 1]⟩, ⟨[83], [7, 1, 5, 3]⟩, ⟨[82], [7, 3, 6, 2]⟩, ⟨[50, 43, 50, 87], [7, 3, 7, 3]⟩, ⟨[87, 82, 67], [1, 5, 1, 4, 2]⟩, ⟨[82, 87, 67], [1, 4, 2, 6, 2]⟩, ⟨[73, 83, 65, 50], [7, 1, 5, 1, 4, 2]⟩, ⟨[73, 82, 73, 87], [1, 4, 2, 1, 4, 2]⟩, ⟨[87, 43, 82, 87, 67], [7, 1, 4, 2, 6, 2]⟩, ⟨[51, 46, 83, 66], [6, 2, 6, 2, 6, 2]⟩, ⟨[51, 46, 76, 66], [5, 1, 5, 1, 5, 1]⟩, ⟨[67, 111, 82, 82], [1, 4, 2]⟩, ⟨[67, 111, 82, 87], [1, 5, 3]⟩, ⟨[67, 111, 87, 82], [6, 2, 3]⟩]
set_option maxRecDepth 100000 in
theorem names_c (n : Nat) (m : M) : (ex Try.prog (n + 1)).f 55 [] m = some (.slice (some ⟨m.n, 0, some 15⟩) 16 16, Dx.newRow m (NMS.flatMap nmRow)) := by
  have H : Dx.Call (ex Try.prog (n + 1)) 55 [] m fun v m' => v = .slice (some ⟨m.n, 0, some 15⟩) 16 16 ∧ m' = Dx.newRow m (NMS.flatMap nmRow) := by
    refine call_ret d_weave_names_ok (by simp) ?_
    exact ⟨.slice (some ⟨m.n, 0, some 15⟩) 16 16, Dx.newRow m (NMS.flatMap nmRow), rfl, Ext.row _ _, rfl, rfl⟩
  obtain ⟨v, m', h1, _, rfl, rfl⟩ := H
  exact h1
end Go.Sx

set_option linter.unusedSimpArgs false
set_option linter.unusedVariables false
namespace Go.Sx
open Go.Dx Go.Proofs
theorem Name1_c (n : Nat) (k f : Int) (m : M) : CallV (ex Try.prog (n + 1)) 54 [.agg #[.int .i64 k, .int .i64 f]] m (.bool (decide (k < 1))) := by
  refine call_ret d_weave_Name_1_ok (by simp) ?_
  have hl : load1 (Dx.newRow m [.int .i64 k, .int .i64 f]) ⟨m.n, 0, none⟩ = some (.int .i64 k) := load1_row m _ 0
  simp [hl]
  exact ret_1 (Ext.row _ _) (by simp)
def lowK (es : List (Int × Int)) : Option Nat := first es.length fun i => decide ((eAt es i).1 < 1)
theorem Index54_c (n : Nat) (ed : Value) (es : List (Int × Int)) (hl : es.length ≤ 1000) (m : M) (hm : m.base ≤ m.n) (hed : Rd m ed 2 edgeRow es) :
    CallV (ex Try.prog (n + 2)) 78 [ed, .func (.func 54) #[] #[]] m (iv (idxI (lowK es))) := by
  refine call_ret d_slices_IndexFunc_weave_Edge_weave_Edge_ok (by simp) ?_
  have hel := hed.len
  simp [hel]
  refine loop_run (c := c_slices_IndexFunc_weave_Edge_weave_Edge_10) rfl (Ret m _) (fun i t m' => Tm.get 0 t = ed ∧ Tm.get 1 t = .func (.func 54) #[] #[] ∧ Tm.get 7 t = iv es.length ∧ Tm.get 8 t = iv i ∧ Ext m m' ∧ ∀ j, j < i → decide ((eAt es j).1 < 1) = false) es.length (by omega)
    ⟨by simp, by simp, by simp, by simp, by simp, by simp⟩ (fun i t m' k hi hI hk => ?_)
  obtain ⟨h0, h1, h7, h8, hE, hbad⟩ := hI
  have hS := (Sees.refl hm).ext hE
  by_cases hil : i < es.length
  · obtain ⟨e, he⟩ : ∃ e, es[i]? = some e := ⟨_, List.getElem?_eq_getElem hil⟩
    have ⟨a1, a2, a3⟩ := (hed.sees hS).at he
    have a2' : ∀ m'', Sees m' m'' → loads m'' (adr 2 ed i) 2 = some [iv e.1, iv e.2] := a2
    have hd := dlt hil
    have w1 := nextI (i := i) (by omega)
    obtain ⟨v1, m1, g1, g2, rfl⟩ := Name1_c n e.1 e.2 m'
    have hge := eAt_of he
    simp [h0, h1, h7, h8, hd, a1, a2', hS.self, loadNS_ptr, g1]
    by_cases hb : e.1 < 1
    · simp [hb]
      refine ret_1 (hE.trans g2) ?_
      unfold lowK
      rw [first_some hil (by rw [hge]; simpa using hb) hbad]; simp [idxI]
    · simp [hb, h8, w1]
      refine hk hil _ _ ?_
      refine ⟨by simp [h0], by simp [h1], by simp [h7], by simp, hE.trans g2, fun j hj => ?_⟩
      rcases Nat.lt_succ_iff_lt_or_eq.1 hj with h | rfl
      · exact hbad j h
      · rw [hge]; simpa using hb
  obtain rfl : i = es.length := by omega
  simp [h7, h8]
  refine ret_1 hE ?_
  unfold lowK
  rw [first_none hbad]; simp [idxI]
theorem Contains_c (n : Nat) (ed : Value) (es : List (Int × Int)) (hl : es.length ≤ 1000) (m : M) (hm : m.base ≤ m.n) (hed : Rd m ed 2 edgeRow es) :
    CallV (ex Try.prog (n + 3)) 53 [ed, .func (.func 54) #[] #[]] m (.bool (lowK es).isSome) := by
  refine call_ret d_slices_ContainsFunc_weave_Edge_weave_Edge_ok (by simp) ?_
  obtain ⟨v1, m1, g1, g2, rfl⟩ := Index54_c n ed es hl m hm hed
  simp [g1]
  refine ret_1 g2 ?_
  cases h : lowK es with
  | none => simp [idxI]
  | some i => simp [idxI]
theorem eqFlat6 (l r : List Int) (h : l.length = 6) (h' : r.length = 6) : eqFlat [1, 1, 1, 1, 1, 1] (l.map fun x => iv x) (r.map fun x => iv x) = some (decide (l = r)) := by
  have := eqFlat_ints l r (by omega)
  have e : (l.map fun _ => 1) = [1, 1, 1, 1, 1, 1] := by
    rw [List.map_const', h]; rfl
  rw [e] at this; exact this
def rotK (es : List (Int × Int)) (t : Nat) : List Int := (List.range es.length).map fun i => (eAt es ((t + i) % es.length)).1
def pad (l : List Int) : List Int := l ++ List.replicate (6 - l.length) 0
def hitN (es : List (Int × Int)) (x : NX) : Bool := (List.range es.length).any fun t => decide (pad (rotK es t) = pad x.ks)
def nameF (es : List (Int × Int)) : Option NX := NMS.find? (hitN es)
def nameV (es : List (Int × Int)) : List UInt8 := if 6 < es.length then [] else if (lowK es).isSome then [] else match nameF es with
  | some x => x.name
  | none => []
theorem pad_len {l : List Int} (h : l.length ≤ 6) : (pad l).length = 6 := by unfold pad; rw [List.length_append, List.length_replicate]; omega
theorem nms_len : ∀ x ∈ NMS, x.ks.length ≤ 6 := by decide
theorem nmRow_eq (x : NX) : nmRow x = bS x.name :: (pad x.ks).map fun i => iv i := rfl
theorem nmRow_len {x : NX} (h : x ∈ NMS) : (nmRow x).length = 7 := by
  rw [nmRow_eq, List.length_cons, List.length_map, pad_len (nms_len x h)]
/-- one turn's kinds -/
theorem nm_kinds (n : Nat) {m0 m : M} {ed md : Value} {es : List (Int × Int)} {c1 B7 tt : Nat} {r : List (Nat × List Value)} (hl : es.length ≤ 6) (ht : tt < es.length) (hed : Rd m0 ed 2 edgeRow es) (hc1 : ∀ m'', Sees m0 m'' → ∀ o s, load1 m'' ⟨c1, o, s⟩ = [ed, md][o]?) (h : St m0 m ((B7, (List.replicate 6 (0 : Int)).map fun x => iv x) :: r)) (Q : Option Out → Prop) (kn0 kn kr : K) (ke : Nat → K) (t : Tm) (I : Tm → Prop) (hI : I t) (hIk : ∀ t i v, I t → i ∉ [1, 3, 5, 6, 7, 19, 20, 21, 25, 26, 29] → I (Tm.set i v t)) (hIf : ∀ t, I t → Tm.get 1 t = .pointer (some ⟨c1, 0, none⟩) ∧ Tm.get 3 t = iv es.length ∧ Tm.get 6 t = iv tt ∧ Tm.get 7 t = .pointer (some ⟨B7, 0, none⟩) ∧ Tm.get 29 t = iv es.length) (t30 : Tm.get 30 t = iv 0)
    (hq : ∀ t m, I t → St m0 m ((B7, (pad (rotK es tt)).map fun x => iv x) :: r) → Q (kn t m)) :
    Q (c_weave_Name_12 (ex Try.prog n) kn0 (outOf 4 kn ke) kr t m) := by
  have hrl : (rotK es tt).length = es.length := by unfold rotK; simp
  have pre : ∀ i, i ≤ es.length → ((rotK es tt).take i ++ List.replicate (6 - i) 0).length = 6 := fun i hi => by rw [List.length_append, List.length_take, List.length_replicate]; omega
  refine loop_run (c := c_weave_Name_12) rfl Q (fun i t m' => I t ∧ Tm.get 30 t = iv i ∧ St m0 m' ((B7, ((rotK es tt).take i ++ List.replicate (6 - i) 0).map fun x => iv x) :: r)) es.length (by omega)
    ⟨hI, t30, by simpa using h⟩ (fun i t m' k hi hJ hk => ?_)
  obtain ⟨hI, t30, st⟩ := hJ
  obtain ⟨t1, t3, t6, t7, t29⟩ := hIf t hI
  obtain ⟨q, hq1⟩ : ∃ q, q = es.length := ⟨_, rfl⟩
  rw [← hq1] at t3 t29
  by_cases hil : i < q
  · have hd := dlt hil
    have w1 := nextI (i := i) (by omega)
    obtain ⟨x, hx⟩ : ∃ x, x = (tt + i) % q := ⟨_, rfl⟩
    have hxl : x < q := by rw [hx]; exact Nat.mod_lt _ (by omega)
    have wki : IntKind.i64.wrap ((tt : Int) + (i : Int)) = (tt : Int) + (i : Int) := wrap64 _ (by omega) (by omega)
    have hr : binV .rem (.int .i64 ((tt : Int) + (i : Int))) (.int .i64 q) = some (.int .i64 x) := by have := binV_rem (a := tt + i) (b := q) (by omega); rwa [← hx, Int.natCast_add] at this
    obtain ⟨e, he⟩ : ∃ r, es[x]? = some r := ⟨_, List.getElem?_eq_getElem (by omega)⟩
    have S0 := st.sees
    have ⟨a1, _, a3⟩ := (hed.sees S0).at he
    have a30 : load1 m' ⟨(adr 2 ed x).block, (adr 2 ed x).off, none⟩ = some (iv e.1) := a3 m' 0 none S0.self (by simp [edgeRow])
    have lc := hc1 m' S0
    have iA : iaddrAV 6 1 (.pointer (some ⟨B7, 0, none⟩)) (.int .i64 (i : Int)) = some (.pointer (some ⟨B7, i, none⟩)) := by
      rcases (by omega : i = 0 ∨ i = 1 ∨ i = 2 ∨ i = 3 ∨ i = 4 ∨ i = 5) with rfl | rfl | rfl | rfl | rfl | rfl <;> rfl
    obtain ⟨m2', s1, s1', s2, s3, s4⟩ := st.storeAny 0 rfl (o := i) (v := iv e.1) (by rw [List.length_map, pre i (by omega)]; omega) rfl
    obtain ⟨m2, hm2⟩ : ∃ m2, m2 = behind m' m2' := ⟨_, rfl⟩
    rw [← hm2] at s2
    simp [t1, t3, t6, t7, t29, t30, hd, lc, wki, hr, a1, a30, iA, s1, ← hm2, w1]
    refine hk (by omega) _ _ ⟨?_, by simp, ?_⟩
    · repeat' (first | exact hI | refine hIk _ _ _ ?_ (by simp))
    · have hre : (rotK es tt)[i]? = some e.1 := by
        unfold rotK
        rw [List.getElem?_map, List.getElem?_range (by omega)]
        show some (eAt es ((tt + i) % es.length)).1 = some e.1
        rw [← hq1, ← hx, eAt_of he]
      have hset : (((rotK es tt).take i ++ List.replicate (6 - i) 0).map fun x => iv x).set i (iv e.1) = ((rotK es tt).take (i + 1) ++ List.replicate (6 - (i + 1)) 0).map fun x => iv x := by
        obtain ⟨hh, ee⟩ := List.getElem?_eq_some_iff.1 hre
        rw [List.take_succ_eq_append_getElem hh, ee, show 6 - i = (6 - (i + 1)) + 1 by omega, List.replicate_succ]
        have htl : ((rotK es tt).take i).length = i := by rw [List.length_take]; omega
        rw [List.map_append, List.map_append, List.map_append, List.set_append_right _ _ (by rw [List.length_map, htl]; exact Nat.le_refl _), List.length_map, htl, Nat.sub_self]
        simp
      have e0 : ((B7, ((rotK es tt).take i ++ List.replicate (6 - i) 0).map fun x => iv x) :: r).set 0 (B7, (((rotK es tt).take i ++ List.replicate (6 - i) 0).map fun x => iv x).set i (iv e.1)) = (B7, ((rotK es tt).take (i + 1) ++ List.replicate (6 - (i + 1)) 0).map fun x => iv x) :: r := by rw [hset]; rfl
      rw [← e0]; exact s2
  · obtain rfl : i = q := by omega
    have hd : ((i : Int) < (i : Int)) = False := eq_false (by omega)
    simp [t29, t30, hd]
    refine hq _ _ ?_ ?_
    · repeat' (first | exact hI | refine hIk _ _ _ ?_ (by simp))
    · have e : (rotK es tt).take i ++ List.replicate (6 - i) 0 = pad (rotK es tt) := by
        unfold pad; rw [List.take_of_length_le (by omega), hrl, hq1]
      rw [← e]; exact st
end Go.Sx

set_option linter.unusedSimpArgs false
set_option linter.unusedVariables false
namespace Go.Sx
open Go.Dx Go.Proofs
theorem find_none_step {p : NX → Bool} {l : List NX} {j : Nat} {x : NX} (h : (l.drop j).find? p = l.find? p) (hx : l[j]? = some x) (hp : p x = false) : (l.drop (j + 1)).find? p = l.find? p := by
  obtain ⟨hh, e⟩ := List.getElem?_eq_some_iff.1 hx
  rw [List.drop_eq_getElem_cons hh, e, List.find?_cons, hp] at h
  exact h
theorem Name_c (n : Nat) (ed md : Value) (es : List (Int × Int)) (m : M) (hm : m.base ≤ m.n) (hle : es.length < 4611686018427387904) (hed : Rd m ed 2 edgeRow es) :
    CallV (ex Try.prog (n + 4)) 27 [.agg #[ed, md]] m (bS (nameV es)) := by
  refine call_ret d_weave_Name_ok (by simp) ?_
  have st0 : St m m [] := St.nil hm (Ext.refl m)
  have st1 := st0.row [ed, md]
  obtain ⟨m1, hm1⟩ : ∃ m1, m1 = Dx.newRow m [ed, md] := ⟨_, rfl⟩
  rw [← hm1] at st1
  have l1 : ∀ m'', Sees m1 m'' → ∀ o s, load1 m'' ⟨m.n, o, s⟩ = [ed, md][o]? := fun m'' k o s => by rw [load1_sees k (st1.get 0 rfl).2.1]; exact (st1.get 0 rfl).2.2.load1 o s
  have S1 := st1.sees.self
  have l1' := l1 m1 S1
  have hel : lenS ed = some (iv es.length) := hed.len
  obtain ⟨q, hq⟩ : ∃ q, q = es.length := ⟨_, rfl⟩
  rw [← hq] at hel
  have hbs0 : Value.string ⟨#[]⟩ = bS [] := rfl
  by_cases h6 : 6 < q
  · have hd : ((6 : Int) < (q : Int)) = True := eq_true (by omega)
    have hd' : (6 < q) = True := eq_true h6
    simp [← hm1, l1', hel, hd, hd']
    refine ret_1 st1.ext ?_
    unfold nameV; rw [if_pos (by omega)]; simp [hbs0]
  have hd : ((6 : Int) < (q : Int)) = False := eq_false (by omega)
  have hd' : (6 < q) = False := eq_false h6
  obtain ⟨v2, m2, p1, p2, rfl⟩ := Contains_c n ed es (by omega) m1 st1.sees.base (hed.sees st1.sees)
  cases hlo : (lowK es).isSome with
  | true =>
    rw [hlo] at p1
    simp [← hm1, l1', hel, hd, hd', p1]
    refine ret_1 (st1.ext.trans p2) ?_
    unfold nameV; rw [if_neg (by omega), if_pos hlo]; simp [hbs0]
  | false =>
  rw [hlo] at p1
  have hg := names_c (n + 2) m2
  obtain ⟨m3, hm3⟩ : ∃ m3, m3 = Dx.newRow m2 (NMS.flatMap nmRow) := ⟨_, rfl⟩
  rw [← hm3] at hg
  have st2 := (st1.step p2).row (NMS.flatMap nmRow)
  rw [← hm3] at st2
  have S13 : Sees m1 m3 := (S1.ext p2).ext (by rw [hm3]; exact Ext.row _ _)
  have hn16 : lenS (.slice (some ⟨m2.n, 0, some 15⟩) 16 16) = some (iv 16) := rfl
  have h6z : List.replicate 6 (0 : Int) = [0, 0, 0, 0, 0, 0] := rfl
  simp [← hm1, l1', hel, hd, hd', p1, hg, hn16]
  have hnames : ∀ j x, NMS[j]? = some x → ∀ m'', Sees m3 m'' → loads m'' ⟨m2.n, j * 7, none⟩ 7 = some (nmRow x) := fun j x hx m'' k => by
    have hA := (st2.get 0 rfl).2.2
    have hB := (st2.get 0 rfl).2.1
    rw [loads_sees k hB]
    have hfl : (NMS.flatMap nmRow).length = 112 := rfl
    have hj : j < 16 := (List.getElem?_eq_some_iff.1 hx).1
    rw [hA.loads (by rw [hfl]; omega)]
    have : ∀ j, j < 16 → ∀ x, NMS[j]? = some x → ((NMS.flatMap nmRow).drop (j * 7)).take 7 = nmRow x := by
      intro j hj x hx
      rcases (by omega : j = 0 ∨ j = 1 ∨ j = 2 ∨ j = 3 ∨ j = 4 ∨ j = 5 ∨ j = 6 ∨ j = 7 ∨ j = 8 ∨ j = 9 ∨ j = 10 ∨ j = 11 ∨ j = 12 ∨ j = 13 ∨ j = 14 ∨ j = 15) with rfl | rfl | rfl | rfl | rfl | rfl | rfl | rfl | rfl | rfl | rfl | rfl | rfl | rfl | rfl | rfl <;> (cases hx; rfl)
    rw [this j hj x hx]
  refine loop_run (c := c_weave_Name_33) rfl (Ret m _) (fun j t m' => (Tm.get 1 t = .pointer (some ⟨m.n, 0, none⟩) ∧ Tm.get 3 t = iv q ∧ Tm.get 19 t = .slice (some ⟨m2.n, 0, some 15⟩) 16 16 ∧ Tm.get 20 t = iv 16) ∧ Tm.get 21 t = iv j ∧ Ext m3 m' ∧ (NMS.drop j).find? (hitN es) = nameF es) 16 (by omega)
    ⟨⟨by simp, by simp, by simp, by simp⟩, by simp, Ext.refl _, rfl⟩ (fun j t m' k hj hI hk => ?_)
  obtain ⟨⟨t1, t3, t19, t20⟩, t21, hE, hfd⟩ := hI
  have S3' : Sees m3 m' := st2.sees.self.ext hE
  have S1' : Sees m1 m' := S13.trans S3'
  have E0' : Ext m m' := st2.ext.trans hE
  by_cases hjl : j < 16
  · have hd16 : ((j : Int) < 16) = True := eq_true (by omega)
    have w1 := nextI (i := j) (by omega)
    obtain ⟨x, hx⟩ : ∃ x, NMS[j]? = some x := ⟨_, List.getElem?_eq_getElem (show j < NMS.length from hjl)⟩
    have hxm : x ∈ NMS := List.mem_of_getElem? hx
    have ix : iaddrSV 7 (.slice (some ⟨m2.n, 0, some 15⟩) 16 16) (.int .i64 (j : Int)) = some (.pointer (some ⟨m2.n, j * 7, none⟩)) := idxE (e := 7) (c := 15) m2.n 16 j hjl
    have lx := hnames j x hx m' S3'
    have stB := (St.nil (m0 := m') S1'.base (Ext.refl m')).row [.string ⟨#[]⟩, .int .i64 0, .int .i64 0, .int .i64 0, .int .i64 0, .int .i64 0, .int .i64 0]
    have hokx : ∀ v ∈ nmRow x, okC v = true := by
      rw [nmRow_eq]
      intro v hv
      rcases List.mem_cons.1 hv with e | hv
      · rw [e]; rfl
      · obtain ⟨i, _, rfl⟩ := List.mem_map.1 hv; rfl
    obtain ⟨m4, a1, a2, a3, a4⟩ := stB.fill 0 rfl (n := 7) (l' := nmRow x) rfl (nmRow_len hxm) hokx
    have a2' : St m' m4 [(m'.n, nmRow x)] := a2
    simp [t1, t3, t19, t20, t21, hd16, ix, lx, loadNS_ptr, a1]
    refine loop_run (c := c_weave_Name_25) rfl (Ret m _) (fun u t m'' => (Tm.get 1 t = .pointer (some ⟨m.n, 0, none⟩) ∧ Tm.get 3 t = iv q ∧ Tm.get 5 t = .pointer (some ⟨m'.n, 0, none⟩) ∧ Tm.get 19 t = .slice (some ⟨m2.n, 0, some 15⟩) 16 16 ∧ Tm.get 20 t = iv 16 ∧ Tm.get 21 t = iv j ∧ Tm.get 25 t = iv q) ∧ Tm.get 26 t = iv u ∧ St m' m'' [(m'.n, nmRow x)] ∧ ∀ u', u' < u → pad (rotK es u') ≠ pad x.ks) q (by omega)
      ⟨⟨by simp [t1], by simp [t3], by simp, by simp [t19], by simp [t20], by simp [t21], by simp⟩, by simp, a2', fun u' hu => by omega⟩ (fun u t m'' k' hu hI hk' => ?_)
    obtain ⟨⟨t1, t3, t5, t19, t20, t21, t25⟩, t26, stC, hno⟩ := hI
    have SC := stC.sees
    have E0'' : Ext m m'' := E0'.trans stC.ext
    by_cases hul : u < q
    · have hdu := dlt hul
      have wu := nextI (i := u) (by omega)
      have stD := stC.row [.int .i64 0, .int .i64 0, .int .i64 0, .int .i64 0, .int .i64 0, .int .i64 0]
      obtain ⟨M5, hM5⟩ : ∃ M5, M5 = Dx.newRow m'' [.int .i64 0, .int .i64 0, .int .i64 0, .int .i64 0, .int .i64 0, .int .i64 0] := ⟨_, rfl⟩
      rw [← hM5] at stD
      have stD' : St m' M5 ((m''.n, (List.replicate 6 (0 : Int)).map fun x => iv x) :: [(m'.n, nmRow x)]) := stD
      simp [t3, t25, t26, hdu, ← hM5]
      refine nm_kinds (n + 3) (m0 := m') (ed := ed) (md := md) (c1 := m.n) (tt := u) (by omega) (by omega) (hed.sees (st1.sees.trans S1')) (fun m'' k => l1 m'' (S1'.trans k)) stD' (Ret m _) _ _ _ _ _ (fun t => Tm.get 1 t = .pointer (some ⟨m.n, 0, none⟩) ∧ Tm.get 3 t = iv q ∧ Tm.get 5 t = .pointer (some ⟨m'.n, 0, none⟩) ∧ Tm.get 6 t = iv u ∧ Tm.get 7 t = .pointer (some ⟨m''.n, 0, none⟩) ∧ Tm.get 19 t = .slice (some ⟨m2.n, 0, some 15⟩) 16 16 ∧ Tm.get 20 t = iv 16 ∧ Tm.get 21 t = iv j ∧ Tm.get 25 t = iv q ∧ Tm.get 26 t = iv u ∧ Tm.get 29 t = iv q)
        ⟨by simp [t1], by simp [t3], by simp [t5], by simp, by simp, by simp [t19], by simp [t20], by simp [t21], by simp [t25], by simp [t26], by simp⟩ (fun t i v h hm => ?_) (fun t h => ⟨h.1, by rw [← hq]; exact h.2.1, h.2.2.2.1, h.2.2.2.2.1, by rw [← hq]; exact h.2.2.2.2.2.2.2.2.2.2⟩) (by simp) (fun t m6 hI stE => ?_)
      · simp only [List.mem_cons, List.not_mem_nil, or_false, not_or] at hm
        obtain ⟨b1, b2, b3, b4, b5, b6, b7, b8, b9, b10, b11⟩ := hm
        simp only [get_set]
        rw [if_neg (Ne.symm b1), if_neg (Ne.symm b2), if_neg (Ne.symm b3), if_neg (Ne.symm b4), if_neg (Ne.symm b5), if_neg (Ne.symm b6), if_neg (Ne.symm b7), if_neg (Ne.symm b8), if_neg (Ne.symm b9), if_neg (Ne.symm b10), if_neg (Ne.symm b11)]
        exact h
      · obtain ⟨t1, t3, t5, t6, t7, t19, t20, t21, t25, t26, t29⟩ := hI
        have hrl : (rotK es u).length ≤ 6 := by unfold rotK; simp; omega
        have l7 : loads m6 ⟨m''.n, 0, none⟩ 6 = some ((pad (rotK es u)).map fun x => iv x) := by
          rw [(stE.get 0 rfl).2.2.loads (n := 6) (by rw [List.length_map, pad_len hrl]; omega), List.drop_zero, List.take_of_length_le (by rw [List.length_map, pad_len hrl]; omega)]
        have l5 : loads m6 ⟨m'.n, 1, none⟩ 6 = some ((pad x.ks).map fun i => iv i) := by
          rw [(stE.get 1 rfl).2.2.loads (n := 6) (by rw [nmRow_len hxm]; omega), nmRow_eq, List.drop_succ_cons, List.drop_zero, List.take_of_length_le (by rw [List.length_map, pad_len (nms_len x hxm)]; omega)]
        have l50 : load1 m6 ⟨m'.n, 0, none⟩ = some (bS x.name) := by rw [(stE.get 1 rfl).2.2.load1, nmRow_eq]; rfl
        have heq := eqFlat6 (pad (rotK es u)) (pad x.ks) (pad_len hrl) (pad_len (nms_len x hxm))
        have EE : Ext m m6 := E0'.trans stE.ext
        by_cases hh : pad (rotK es u) = pad x.ks
        · rw [decide_eq_true hh] at heq
          rw [hh] at heq l7
          simp [t5, t7, l7, l5, loadNS_ptr, heq, l50]
          refine ret_1 EE ?_
          have hit : hitN es x = true := by
            unfold hitN
            rw [List.any_eq_true]
            exact ⟨u, by simp; omega, by simpa using hh⟩
          have hnf : nameF es = some x := by
            rw [← hfd]
            obtain ⟨hj', e⟩ := List.getElem?_eq_some_iff.1 hx
            rw [List.drop_eq_getElem_cons hj', e, List.find?_cons, hit]
          unfold nameV; rw [if_neg (by omega), if_neg (by simp [hlo]), hnf]; simp
        · simp [t5, t7, l7, l5, loadNS_ptr, heq, hh, t26, wu]
          refine hk' (by omega) _ _ ⟨⟨by simp [t1], by simp [t3], by simp [t5], by simp [t19], by simp [t20], by simp [t21], by simp [t25]⟩, by simp, stE.sub (fun p hp => List.mem_cons_of_mem _ hp) (by simp), fun u' hu' => ?_⟩
          rcases Nat.lt_succ_iff_lt_or_eq.1 hu' with h | h
          · exact hno u' h
          · rw [h]; exact hh
    · obtain rfl : u = q := by omega
      have hdu : ((u : Int) < (u : Int)) = False := eq_false (by omega)
      simp [t25, t26, hdu, t21, w1]
      have hmiss : hitN es x = false := by
        unfold hitN
        rw [List.any_eq_false]
        intro u' hu'
        have := hno u' (by simp at hu'; omega)
        simpa using this
      exact hk hjl _ _ ⟨⟨by simp [t1], by simp [t3], by simp [t19], by simp [t20]⟩, by simp, hE.trans stC.ext, find_none_step hfd hx hmiss⟩
  · obtain rfl : j = 16 := by omega
    simp [t20, t21]
    refine ret_1 E0' ?_
    have hnf : nameF es = none := by rw [← hfd]; rfl
    unfold nameV; rw [if_neg (by omega), if_neg (by simp [hlo]), hnf]; simp [hbs0]
end Go.Sx

set_option linter.unusedSimpArgs false
set_option linter.unusedVariables false
namespace Go.Dx
@[simp] theorem build_str2 (a b : ByteArray) : buildV [.string ⟨#[]⟩, .string ⟨#[]⟩] [(0, 1, .string a), (1, 1, .string b)] = some (.agg ⟨[.string a, .string b]⟩) := _root_.id rfl
set_option maxRecDepth 100000 in
@[simp] theorem build_tab (a0 a1 a2 a3 a4 a5 a6 a7 a8 a9 a10 a11 a12 a13 a14 a15 a16 a17 a18 a19 a20 a21 a22 a23 a24 a25 a26 a27 a28 a29 a30 a31 : Value) : buildV [.string ⟨#[]⟩, .string ⟨#[]⟩, .string ⟨#[]⟩, .string ⟨#[]⟩, .string ⟨#[]⟩, .string ⟨#[]⟩, .string ⟨#[]⟩, .string ⟨#[]⟩, .string ⟨#[]⟩, .string ⟨#[]⟩, .string ⟨#[]⟩, .string ⟨#[]⟩, .string ⟨#[]⟩, .string ⟨#[]⟩, .string ⟨#[]⟩, .string ⟨#[]⟩, .string ⟨#[]⟩, .string ⟨#[]⟩, .string ⟨#[]⟩, .string ⟨#[]⟩, .string ⟨#[]⟩, .string ⟨#[]⟩, .string ⟨#[]⟩, .string ⟨#[]⟩, .string ⟨#[]⟩, .string ⟨#[]⟩, .string ⟨#[]⟩, .string ⟨#[]⟩, .string ⟨#[]⟩, .string ⟨#[]⟩, .string ⟨#[]⟩, .string ⟨#[]⟩] [(0, 2, .agg ⟨[a0, a1]⟩), (2, 2, .agg ⟨[a2, a3]⟩), (4, 2, .agg ⟨[a4, a5]⟩), (6, 2, .agg ⟨[a6, a7]⟩), (8, 2, .agg ⟨[a8, a9]⟩), (10, 2, .agg ⟨[a10, a11]⟩), (12, 2, .agg ⟨[a12, a13]⟩), (14, 2, .agg ⟨[a14, a15]⟩), (16, 2, .agg ⟨[a16, a17]⟩), (18, 2, .agg ⟨[a18, a19]⟩), (20, 2, .agg ⟨[a20, a21]⟩), (22, 2, .agg ⟨[a22, a23]⟩), (24, 2, .agg ⟨[a24, a25]⟩), (26, 2, .agg ⟨[a26, a27]⟩), (28, 2, .agg ⟨[a28, a29]⟩), (30, 2, .agg ⟨[a30, a31]⟩)] = some (.agg ⟨[a0, a1, a2, a3, a4, a5, a6, a7, a8, a9, a10, a11, a12, a13, a14, a15, a16, a17, a18, a19, a20, a21, a22, a23, a24, a25, a26, a27, a28, a29, a30, a31]⟩) := by kernel_rfl
theorem bytesEq_iff : ∀ (a b : List UInt8), bytesEq a b = decide (a = b)
  | [], [] => rfl
  | [], b :: y => rfl
  | a :: x, [] => rfl
  | a :: x, b :: y => by
    show (bif Nat.beq a.toNat b.toNat then bytesEq x y else false) = _
    rw [bytesEq_iff x y]
    by_cases h : a = b
    · subst h; rw [Nat.beq_refl]; simp
    · have : Nat.beq a.toNat b.toNat = false := by
        cases q : Nat.beq a.toNat b.toNat with
        | false => rfl
        | true => exact absurd (UInt8.toNat_inj.1 (Nat.eq_of_beq_eq_true q)) h
      rw [this]; simp [h]
@[simp] theorem mB2s_ap (o : V) (x : Ex) (t : Tm) (m : M) : mB2s o x t m = b2sV m (o t) := _root_.id rfl
end Go.Dx
namespace Go.Sx
open Go.Dx Go.Proofs
theorem binV_strs (a b : List UInt8) : binV .eql (bS a) (bS b) = some (.bool (decide (a = b))) := by
  show some (Value.bool (bytesEq a b)) = _
  rw [bytesEq_iff]
structure RX where
  name : List UInt8
  dg : List UInt8
def RNS : List RX := [⟨[83, 66], [54, 50, 54, 50]⟩, ⟨[77, 80], [55, 49, 52, 50]⟩, ⟨[76, 66], [53, 49, 53, 49]⟩, ⟨[83], [55, 49, 53, 51]⟩, ⟨[82], [55, 51, 54, 50]⟩, ⟨[50, 43, 50, 87], [55, 51, 55, 51]⟩, ⟨[87, 82, 67], [49, 53, 49, 52, 50]⟩, ⟨[82, 87, 67], [49, 52, 50, 54, 50]⟩, ⟨[73, 83, 65, 50], [55, 49, 53, 49, 52, 50]⟩, ⟨[73, 82, 73, 87], [49, 52, 50, 49, 52, 50]⟩, ⟨[87, 43, 82, 87, 67], [55, 49, 52, 50, 54, 50]⟩, ⟨[51, 46, 83, 66], [54, 50, 54, 50, 54, 50]⟩, ⟨[51, 46, 76, 66], [53, 49, 53, 49, 53, 49]⟩, ⟨[67, 111, 82, 82], [49, 52, 50]⟩, ⟨[67, 111, 82, 87], [49, 53, 51]⟩, ⟨[67, 111, 87, 82], [54, 50, 51]⟩]
def rxRow (x : RX) : List Value := [bS x.name, bS x.dg]
def dRow (d : Int) : List Value := [.int .u8 (48 + d)]
def dgs (l : List Int) : List UInt8 := l.map fun d => UInt8.ofNat (48 + d).toNat
def okK (es : List (Int × Int)) (k : Nat) : Bool := (rotK es k).all fun d => decide (1 ≤ d) && decide (d ≤ 7)
def refHit (es : List (Int × Int)) (k : Nat) : Option RX := RNS.find? fun x => decide (x.dg = dgs (rotK es k))
def refF (es : List (Int × Int)) : List Nat → List UInt8
  | [] => []
  | k :: l => if okK es k then match refHit es k with
    | some x => x.name
    | none => refF es l
    else []
def refNameV (es : List (Int × Int)) : List UInt8 := if 6 < es.length then [] else refF es (List.range es.length)
theorem b2s_rows : ∀ (l : List Int), (∀ d ∈ l, 1 ≤ d ∧ d ≤ 7) → b2s (l.flatMap dRow) = some (dgs l)
  | [], _ => rfl
  | d :: l, h => by
    have ih := b2s_rows l fun x hx => h x (List.mem_cons_of_mem _ hx)
    show b2s (.int .u8 (48 + d) :: l.flatMap dRow) = _
    unfold b2s
    rw [ih]; rfl
/-- a turn's digits -/
theorem rn_digits (n : Nat) {m0 m : M} (hm : m0.base ≤ m0.n) {ed md : Value} {es : List (Int × Int)} {c1 kk : Nat} (hl : es.length ≤ 6) (hk : kk < es.length) (hed : Rd m0 ed 2 edgeRow es) (hc1 : ∀ m'', Sees m0 m'' → ∀ o s, load1 m'' ⟨c1, o, s⟩ = [ed, md][o]?) (hE : Ext m0 m) (Q : Option Out → Prop) (kn0 kn kr : K) (ke : Nat → K) (t : Tm) (I : Tm → Prop) (hI : I t) (hIk : ∀ t i v, I t → i ∉ [1, 3, 4, 5] → I (Tm.set i v t)) (hIf : ∀ t, I t → Tm.get 1 t = .pointer (some ⟨c1, 0, none⟩) ∧ Tm.get 4 t = iv es.length ∧ Tm.get 5 t = iv kk) (t6 : Tm.get 6 t = .slice none 0 0) (t7 : Tm.get 7 t = iv 0)
    (hbad : okK es kk = false → ∀ t m', Ext m0 m' → Tm.get 2 t = bS [] → Q (kr t m'))
    (hq : okK es kk = true → ∀ t m' g, I t → Tm.get 6 t = g → Ext m0 m' → Grown m0 m' g 1 dRow (rotK es kk) → Q (kn t m')) :
    Q (c_sextantref29_Name_13 (ex Try.prog n) kn0 (outOf 2 kn ke) kr t m) := by
  have hrl : (rotK es kk).length = es.length := by unfold rotK; simp
  obtain ⟨q, hq1⟩ : ∃ q, q = es.length := ⟨_, rfl⟩
  refine loop_run (c := c_sextantref29_Name_13) rfl Q (fun i t m' => I t ∧ Tm.get 7 t = iv i ∧ Ext m0 m' ∧ (∃ g, Tm.get 6 t = g ∧ Grown m0 m' g 1 dRow ((rotK es kk).take i)) ∧ ∀ d ∈ (rotK es kk).take i, 1 ≤ d ∧ d ≤ 7) q (by omega)
    ⟨hI, t7, hE, ⟨_, t6, by rw [List.take_zero]; exact .nil⟩, fun d hd => by simp at hd⟩ (fun i t m' k hi hJ hk' => ?_)
  obtain ⟨hI, t7, hE, ⟨g, t6, hg⟩, hok⟩ := hJ
  obtain ⟨t1, t4, t5⟩ := hIf t hI
  rw [← hq1] at t4
  by_cases hil : i < q
  · have hd := dlt hil
    have w1 := nextI (i := i) (by omega)
    obtain ⟨x, hx⟩ : ∃ x, x = (kk + i) % q := ⟨_, rfl⟩
    have hxl : x < q := by rw [hx]; exact Nat.mod_lt _ (by omega)
    have wki : IntKind.i64.wrap ((kk : Int) + (i : Int)) = (kk : Int) + (i : Int) := wrap64 _ (by omega) (by omega)
    have hr : binV .rem (.int .i64 ((kk : Int) + (i : Int))) (.int .i64 q) = some (.int .i64 x) := by have := binV_rem (a := kk + i) (b := q) (by omega); rwa [← hx, Int.natCast_add] at this
    obtain ⟨e, he⟩ : ∃ r, es[x]? = some r := ⟨_, List.getElem?_eq_getElem (by omega)⟩
    have S0 := (Sees.refl hm).ext hE
    have ⟨a1, _, a3⟩ := (hed.sees S0).at he
    have a30 : load1 m' ⟨(adr 2 ed x).block, (adr 2 ed x).off, none⟩ = some (iv e.1) := a3 m' 0 none S0.self (by simp [edgeRow])
    have lc := hc1 m' S0
    obtain ⟨d, hd1⟩ : ∃ d, d = e.1 := ⟨_, rfl⟩
    rw [← hd1] at a30
    have hre : (rotK es kk)[i]? = some d := by
      unfold rotK
      rw [List.getElem?_map, List.getElem?_range (by omega)]
      show some (eAt es ((kk + i) % es.length)).1 = some d
      rw [← hq1, ← hx, eAt_of he, hd1]
    have hbd : ¬ (1 ≤ d ∧ d ≤ 7) → okK es kk = false := fun h => by
      unfold okK
      rw [List.all_eq_false]
      exact ⟨d, List.mem_of_getElem? hre, by simpa using h⟩
    by_cases h1 : d < 1
    · simp [t1, t4, t5, t7, hd, lc, wki, hr, a1, a30, h1]
      exact hbad (hbd (by omega)) _ _ hE (by simp; rfl)
    by_cases h7 : 7 < d
    · simp [t1, t4, t5, t7, hd, lc, wki, hr, a1, a30, h1, h7]
      exact hbad (hbd (by omega)) _ _ hE (by simp; rfl)
    have w48 : IntKind.i64.wrap (48 + d) = 48 + d := wrap64 _ (by omega) (by omega)
    have c8 : convIV .u8 (.int .i64 (48 + d)) = some (.int .u8 (48 + d)) := by
      show some (Value.int .u8 (wrapF .u8 (48 + d))) = _
      rw [wrapF_eq]
      have : IntKind.u8.wrap (48 + d) = 48 + d := by
        unfold IntKind.wrap; simp [IntKind.bits, IntKind.signed]; omega
      rw [this]
    obtain ⟨M4, hM4⟩ : ∃ M4, M4 = Dx.newRow m' (dRow d) := ⟨_, rfl⟩
    have E4 : Ext m' M4 := by rw [hM4]; exact Ext.row _ _
    have hM4' : Dx.newRow m' [.int .u8 (48 + d)] = M4 := hM4.symm
    have htl : ((rotK es kk).take i).length = i := by rw [List.length_take]; omega
    obtain ⟨g', m5, p1, p2, p3, p4, p5, p6⟩ := (hg.ext E4).append (hE.trans E4) hm (by omega) (fun _ => rfl) (fun x => by simp [dRow, okC]) (x := d) (X := m'.n) (sp := some 3) (by rw [hM4]; exact (Arr.row m' _).loads (by simp [dRow])) (bytes := 1) (by rw [htl]; unfold most; omega) (by rw [htl]; omega)
    simp [t1, t4, t5, t6, t7, hd, lc, wki, hr, a1, a30, h1, h7, w48, c8, hM4', p1, w1]
    obtain ⟨hh, ee⟩ := List.getElem?_eq_some_iff.1 hre
    have hts : (rotK es kk).take (i + 1) = (rotK es kk).take i ++ [d] := by rw [List.take_succ_eq_append_getElem hh, ee]
    refine hk' (by omega) _ _ ⟨?_, by simp, p2, ⟨g', by simp, by rw [hts]; exact p3⟩, fun y hy => ?_⟩
    · repeat' (first | exact hI | refine hIk _ _ _ ?_ (by simp))
    · rw [hts] at hy
      rcases List.mem_append.1 hy with hy | hy
      · exact hok y hy
      · rw [List.mem_singleton.1 hy]; omega
  · obtain rfl : i = q := by omega
    have hd : ((i : Int) < (i : Int)) = False := eq_false (by omega)
    rw [List.take_of_length_le (by omega)] at hg hok
    have hokk : okK es kk = true := by
      unfold okK
      rw [List.all_eq_true]
      intro d hd
      have := hok d hd
      simpa using this
    simp [t4, t7, hd]
    refine hq hokk _ _ g ?_ (by simp [t6]) hE hg
    repeat' (first | exact hI | refine hIk _ _ _ ?_ (by simp))
end Go.Sx

set_option linter.unusedSimpArgs false
set_option linter.unusedVariables false
namespace Go.Sx
open Go.Dx Go.Proofs
theorem b2s_grown {m0 m : M} {g : Value} {l : List Int} (h : Grown m0 m g 1 dRow l) (hok : ∀ d ∈ l, 1 ≤ d ∧ d ≤ 7) : b2sV (forAny m) g = some (bS (dgs l), forAny m) := by
  have hr : Rd m g 1 dRow l := h.rd (f := dRow) (e := 1) (fun _ => rfl)
  rcases h with ⟨rfl, rfl⟩ | ⟨B, _, _, _, rfl, _⟩
  · rfl
  · have ha : loads m ⟨B, 0, some (code 1 false)⟩ (l.length * 1) = some (l.flatMap dRow) := hr.all
    rw [Nat.mul_one] at ha
    show ob (loads (forAny m) ⟨B, 0, some (code 1 false)⟩ l.length) _ = _
    rw [loads_any, ha, ob_some']
    show ob (b2s (l.flatMap dRow)) _ = _
    rw [b2s_rows l hok]; rfl
def RT : List Value := RNS.flatMap rxRow
theorem rt_get : ∀ j, j < 16 → ∀ x, RNS[j]? = some x → RT[j * 2 + 1]? = some (bS x.dg) ∧ RT[j * 2]? = some (bS x.name) := by
  intro j hj x hx
  rcases (by omega : j = 0 ∨ j = 1 ∨ j = 2 ∨ j = 3 ∨ j = 4 ∨ j = 5 ∨ j = 6 ∨ j = 7 ∨ j = 8 ∨ j = 9 ∨ j = 10 ∨ j = 11 ∨ j = 12 ∨ j = 13 ∨ j = 14 ∨ j = 15) with rfl | rfl | rfl | rfl | rfl | rfl | rfl | rfl | rfl | rfl | rfl | rfl | rfl | rfl | rfl | rfl <;> (cases hx; exact ⟨rfl, rfl⟩)
theorem find_none_step' {p : RX → Bool} {l : List RX} {j : Nat} {x : RX} (h : (l.drop j).find? p = l.find? p) (hx : l[j]? = some x) (hp : p x = false) : (l.drop (j + 1)).find? p = l.find? p := by
  obtain ⟨hh, e⟩ := List.getElem?_eq_some_iff.1 hx
  rw [List.drop_eq_getElem_cons hh, e, List.find?_cons, hp] at h
  exact h
theorem refName_c (n : Nat) (ed md : Value) (es : List (Int × Int)) (m : M) (hm : m.base ≤ m.n) (hle : es.length < 4611686018427387904) (hed : Rd m ed 2 edgeRow es) :
    CallV (ex Try.prog (n + 1)) 31 [.agg #[ed, md]] m (bS (refNameV es)) := by
  refine call_ret d_sextantref29_Name_ok (by simp) ?_
  have st0 : St m m [] := St.nil hm (Ext.refl m)
  have st1 := (st0.row [ed, md]).row [.string ⟨#[]⟩, .string ⟨#[]⟩, .string ⟨#[]⟩, .string ⟨#[]⟩, .string ⟨#[]⟩, .string ⟨#[]⟩, .string ⟨#[]⟩, .string ⟨#[]⟩, .string ⟨#[]⟩, .string ⟨#[]⟩, .string ⟨#[]⟩, .string ⟨#[]⟩, .string ⟨#[]⟩, .string ⟨#[]⟩, .string ⟨#[]⟩, .string ⟨#[]⟩, .string ⟨#[]⟩, .string ⟨#[]⟩, .string ⟨#[]⟩, .string ⟨#[]⟩, .string ⟨#[]⟩, .string ⟨#[]⟩, .string ⟨#[]⟩, .string ⟨#[]⟩, .string ⟨#[]⟩, .string ⟨#[]⟩, .string ⟨#[]⟩, .string ⟨#[]⟩, .string ⟨#[]⟩, .string ⟨#[]⟩, .string ⟨#[]⟩, .string ⟨#[]⟩]
  simp only [newRow_n] at st1
  obtain ⟨m2, a1, a2, a3, a4⟩ := st1.fill 0 rfl (n := 32) (l' := RT) rfl rfl (by
    intro v hv
    unfold RT at hv
    obtain ⟨x, _, hv⟩ := List.mem_flatMap.1 hv
    simp only [rxRow, List.mem_cons, List.not_mem_nil, or_false] at hv
    rcases hv with rfl | rfl <;> rfl)
  have a2' : St m m2 [(m.n + 1, RT), (m.n, [ed, md])] := a2
  have a1' : storeS 32 (.pointer (some ⟨m.n + 1, 0, none⟩)) (.agg ⟨[.string ⟨#[83, 66]⟩, .string ⟨#[54, 50, 54, 50]⟩, .string ⟨#[77, 80]⟩, .string ⟨#[55, 49, 52, 50]⟩, .string ⟨#[76, 66]⟩, .string ⟨#[53, 49, 53, 49]⟩, .string ⟨#[83]⟩, .string ⟨#[55, 49, 53, 51]⟩, .string ⟨#[82]⟩, .string ⟨#[55, 51, 54, 50]⟩, .string ⟨#[50, 43, 50, 87]⟩, .string ⟨#[55, 51, 55, 51]⟩, .string ⟨#[87, 82, 67]⟩, .string ⟨#[49, 53, 49, 52, 50]⟩, .string ⟨#[82, 87, 67]⟩, .string ⟨#[49, 52, 50, 54, 50]⟩, .string ⟨#[73, 83, 65, 50]⟩, .string ⟨#[55, 49, 53, 49, 52, 50]⟩, .string ⟨#[73, 82, 73, 87]⟩, .string ⟨#[49, 52, 50, 49, 52, 50]⟩, .string ⟨#[87, 43, 82, 87, 67]⟩, .string ⟨#[55, 49, 52, 50, 54, 50]⟩, .string ⟨#[51, 46, 83, 66]⟩, .string ⟨#[54, 50, 54, 50, 54, 50]⟩, .string ⟨#[51, 46, 76, 66]⟩, .string ⟨#[53, 49, 53, 49, 53, 49]⟩, .string ⟨#[67, 111, 82, 82]⟩, .string ⟨#[49, 52, 50]⟩, .string ⟨#[67, 111, 82, 87]⟩, .string ⟨#[49, 53, 51]⟩, .string ⟨#[67, 111, 87, 82]⟩, .string ⟨#[54, 50, 51]⟩]⟩) (Dx.newRow (Dx.newRow m [ed, md]) [.string ⟨#[]⟩, .string ⟨#[]⟩, .string ⟨#[]⟩, .string ⟨#[]⟩, .string ⟨#[]⟩, .string ⟨#[]⟩, .string ⟨#[]⟩, .string ⟨#[]⟩, .string ⟨#[]⟩, .string ⟨#[]⟩, .string ⟨#[]⟩, .string ⟨#[]⟩, .string ⟨#[]⟩, .string ⟨#[]⟩, .string ⟨#[]⟩, .string ⟨#[]⟩, .string ⟨#[]⟩, .string ⟨#[]⟩, .string ⟨#[]⟩, .string ⟨#[]⟩, .string ⟨#[]⟩, .string ⟨#[]⟩, .string ⟨#[]⟩, .string ⟨#[]⟩, .string ⟨#[]⟩, .string ⟨#[]⟩, .string ⟨#[]⟩, .string ⟨#[]⟩, .string ⟨#[]⟩, .string ⟨#[]⟩, .string ⟨#[]⟩, .string ⟨#[]⟩]) = some (undef, m2) := a1
  have l1 : ∀ m'', Sees m2 m'' → ∀ o s, load1 m'' ⟨m.n, o, s⟩ = [ed, md][o]? := fun m'' k o s => by rw [load1_sees k (a2'.get 1 rfl).2.1]; exact (a2'.get 1 rfl).2.2.load1 o s
  have lT : ∀ m'', Sees m2 m'' → ∀ o s, load1 m'' ⟨m.n + 1, o, s⟩ = RT[o]? := fun m'' k o s => by rw [load1_sees k (a2'.get 0 rfl).2.1]; exact (a2'.get 0 rfl).2.2.load1 o s
  have S2 := a2'.sees.self
  have l1' := l1 m2 S2
  have hel : lenS ed = some (iv es.length) := hed.len
  obtain ⟨q, hq⟩ : ∃ q, q = es.length := ⟨_, rfl⟩
  rw [← hq] at hel
  have hbs0 : Value.string ⟨#[]⟩ = bS [] := rfl
  simp [a1', l1', hel]
  have hR : ∀ k, k < q → (List.range q).drop k = k :: (List.range q).drop (k + 1) := fun k hk => by
    rw [List.drop_eq_getElem_cons (by simpa using hk)]; simp
  refine loop_run (c := c_sextantref29_Name_32) rfl (Ret m _) (fun k t m' => (Tm.get 1 t = .pointer (some ⟨m.n, 0, none⟩) ∧ Tm.get 3 t = .pointer (some ⟨m.n + 1, 0, none⟩) ∧ Tm.get 4 t = iv q) ∧ Tm.get 5 t = iv k ∧ Ext m2 m' ∧ (q ≤ 6 → refF es ((List.range q).drop k) = refF es (List.range q))) q (by omega)
    ⟨⟨by simp, by simp, by simp⟩, by simp, Ext.refl _, fun _ => rfl⟩ (fun k t m' kk hk hI hk' => ?_)
  obtain ⟨⟨t1, t3, t4⟩, t5, hE, hfd⟩ := hI
  have S' := S2.ext hE
  have E' := a2'.ext.trans hE
  by_cases hkl : k < q
  · have hd := dlt hkl
    have w1 := nextI (i := k) (by omega)
    by_cases h6 : 6 < q
    · have hd6 : ((q : Int) ≤ 6) = False := eq_false (by omega)
      have hd6' : (q ≤ 6) = False := eq_false (by omega)
      simp [t1, t3, t4, t5, hd, hd6, hd6']
      refine ret_1 E' ?_
      unfold refNameV; rw [if_pos (by omega)]; simp [hbs0]
    have hd6 : ((q : Int) ≤ 6) = True := eq_true (by omega)
    have hd6' : (q ≤ 6) = True := eq_true (by omega)
    have hfd' := hfd (by omega)
    simp [t1, t3, t4, t5, hd, hd6, hd6']
    refine rn_digits n (m0 := m') S'.base (ed := ed) (md := md) (c1 := m.n) (kk := k) (by omega) (by omega) (hed.sees (a2'.sees.trans S')) (fun m'' s => l1 m'' (S'.trans s)) (Ext.refl m') (Ret m _) _ _ _ _ _ (fun t => Tm.get 1 t = .pointer (some ⟨m.n, 0, none⟩) ∧ Tm.get 3 t = .pointer (some ⟨m.n + 1, 0, none⟩) ∧ Tm.get 4 t = iv q ∧ Tm.get 5 t = iv k) ⟨by simp [t1], by simp [t3], by simp [t4], by simp [t5]⟩ (fun t i v h hm => ?_) (fun t h => ⟨h.1, by rw [← hq]; exact h.2.2.1, h.2.2.2⟩) (by simp) (by simp) (fun hbad t m3 hE3 t2 => ?_) (fun hok t m3 g hI t6 hE3 hg => ?_)
    · simp only [List.mem_cons, List.not_mem_nil, or_false, not_or] at hm
      obtain ⟨b1, b2, b3, b4⟩ := hm
      simp only [get_set]
      rw [if_neg (Ne.symm b1), if_neg (Ne.symm b2), if_neg (Ne.symm b3), if_neg (Ne.symm b4)]
      exact h
    · refine ret_1 (E'.trans hE3) ?_
      rw [t2]
      have : refNameV es = [] := by
        unfold refNameV
        rw [if_neg (by omega), ← hq, ← hfd', hR k hkl, refF, hbad]; rfl
      rw [this]
    · obtain ⟨t1, t3, t4, t5⟩ := hI
      have hoks : ∀ d ∈ rotK es k, 1 ≤ d ∧ d ≤ 7 := fun d hd => by
        unfold okK at hok
        rw [List.all_eq_true] at hok
        have := hok d hd
        simpa using this
      simp
      refine loop_run (c := c_sextantref29_Name_24) rfl (Ret m _) (fun j t m'' => (Tm.get 1 t = .pointer (some ⟨m.n, 0, none⟩) ∧ Tm.get 3 t = .pointer (some ⟨m.n + 1, 0, none⟩) ∧ Tm.get 4 t = iv q ∧ Tm.get 5 t = iv k ∧ Tm.get 6 t = g) ∧ Tm.get 9 t = iv j ∧ Ext m3 m'' ∧ (RNS.drop j).find? (fun x => decide (x.dg = dgs (rotK es k))) = refHit es k) 16 (by omega)
        ⟨⟨by simp [t1], by simp [t3], by simp [t4], by simp [t5], by simp [t6]⟩, by simp, Ext.refl _, rfl⟩ (fun j t m'' kj hj hI hkj => ?_)
      obtain ⟨⟨t1, t3, t4, t5, t6⟩, t9, hE4, hfj⟩ := hI
      have S4 : Sees m2 m'' := (S'.ext hE3).ext hE4
      have E4 := (E'.trans hE3).trans hE4
      by_cases hjl : j < 16
      · have hd16 : ((j : Int) < 16) = True := eq_true (by omega)
        have wj := nextI (i := j) (by omega)
        obtain ⟨x, hx⟩ : ∃ x, RNS[j]? = some x := ⟨_, List.getElem?_eq_getElem (show j < RNS.length from hjl)⟩
        obtain ⟨r1, r2⟩ := rt_get j hjl x hx
        have i1 : iaddrAV 16 2 (.pointer (some ⟨m.n + 1, 0, none⟩)) (.int .i64 (j : Int)) = some (.pointer (some ⟨m.n + 1, j * 2, none⟩)) := by
          show (bif Nat.blt j 16 then addA (j * 2) ⟨m.n + 1, 0, none⟩ else none) = _
          rw [show Nat.blt j 16 = true from Nat.ble_eq_true_of_le hjl]
          show some (Value.pointer (some ⟨m.n + 1, 0 + j * 2, none⟩)) = _
          rw [Nat.zero_add]
        have i2 : iaddrAV 2 1 (.pointer (some ⟨m.n + 1, j * 2, none⟩)) (.int .i64 1) = some (.pointer (some ⟨m.n + 1, j * 2 + 1, none⟩)) := rfl
        have i3 : iaddrAV 2 1 (.pointer (some ⟨m.n + 1, j * 2, none⟩)) (.int .i64 0) = some (.pointer (some ⟨m.n + 1, j * 2, none⟩)) := rfl
        have lT1 := lT m'' S4
        have hb := b2s_grown (hg.ext hE4) hoks
        obtain ⟨m5, hm5⟩ : ∃ m5, m5 = behind m'' (forAny m'') := ⟨_, rfl⟩
        have E5 : Ext m'' m5 := by rw [hm5]; exact (Ext.refl (forAny m'')).behind
        have lT5 := lT m5 (S4.ext E5)
        have hlg : (forAny m'').log = [] := forAny_log _
        have hbe := binV_strs x.dg (dgs (rotK es k))
        by_cases hh : x.dg = dgs (rotK es k)
        · rw [decide_eq_true hh] at hbe
          simp [t1, t3, t4, t5, t6, t9, hd16, i1, i2, i3, lT1, r1, r2, hb, hlg, ← hm5, lT5, hbe]
          refine ret_1 (E4.trans E5) ?_
          have hrh : refHit es k = some x := by
            rw [← hfj]
            obtain ⟨hj', e⟩ := List.getElem?_eq_some_iff.1 hx
            rw [List.drop_eq_getElem_cons hj', e, List.find?_cons, decide_eq_true hh]
          have : refNameV es = x.name := by
            unfold refNameV
            rw [if_neg (by omega), ← hq, ← hfd', hR k hkl, refF, hok, hrh]; rfl
          simp [this]
        · rw [decide_eq_false hh] at hbe
          simp [t1, t3, t4, t5, t6, t9, hd16, i1, i2, i3, lT1, r1, r2, hb, hlg, ← hm5, lT5, hbe, wj]
          refine hkj hjl _ _ ⟨⟨by simp [t1], by simp [t3], by simp [t4], by simp [t5], by simp [t6]⟩, by simp, hE4.trans E5, find_none_step' hfj hx (decide_eq_false hh)⟩
      · obtain rfl : j = 16 := by omega
        simp [t5, t9, w1]
        refine hk' hkl _ _ ⟨⟨by simp [t1], by simp [t3], by simp [t4]⟩, by simp, (hE.trans hE3).trans hE4, fun _ => ?_⟩
        have hrh : refHit es k = none := by rw [← hfj]; rfl
        rw [← hfd', hR k hkl]
        conv => rhs; rw [refF, hok, hrh]
        rfl
  · obtain rfl : k = q := by omega
    have hd : ((k : Int) < (k : Int)) = False := eq_false (by omega)
    simp [t4, t5, hd]
    refine ret_1 E' ?_
    have : refNameV es = [] := by
      unfold refNameV
      by_cases h6 : 6 < es.length
      · rw [if_pos h6]
      · rw [if_neg h6, ← hq, ← hfd (by omega), List.drop_of_length_le (by simp)]; rfl
    rw [this]; simp [hbs0]
end Go.Sx

set_option linter.unusedSimpArgs false
set_option linter.unusedVariables false
namespace Go.Sx
open Go.Dx Go.Proofs
def rotL (r : Nat) (l : List Int) : List Int := (List.range l.length).map fun i => l.getD ((r + i) % l.length) 0
def toR (x : NX) : RX := ⟨x.name, dgs x.ks⟩
theorem rns_eq : RNS = NMS.map toR := by rfl
theorem nms_ok : ∀ x ∈ NMS, ∀ d ∈ x.ks, 1 ≤ d ∧ d ≤ 7 := by decide
theorem nms_uniq : ∀ x ∈ NMS, ∀ x' ∈ NMS, ∀ r, r < 6 → x'.ks = rotL r x.ks → x'.name = x.name := by decide +kernel
theorem pad_inj {l l' : List Int} (h : ∀ d ∈ l, 1 ≤ d) (h' : ∀ d ∈ l', 1 ≤ d) (e : pad l = pad l') : l = l' := by
  have key : ∀ l : List Int, (∀ d ∈ l, 1 ≤ d) → ∀ k, (l ++ List.replicate k 0).takeWhile (fun d => decide (d ≠ 0)) = l := by
    intro l
    induction l with
    | nil =>
      intro _ k
      cases k with
      | zero => rfl
      | succ k => rw [List.nil_append, List.replicate_succ, List.takeWhile_cons]; rfl
    | cons a l ih =>
      intro hl k
      have ha := hl a List.mem_cons_self
      rw [List.cons_append, List.takeWhile_cons, ih (fun d hd => hl d (List.mem_cons_of_mem _ hd)) k]
      have : decide (a ≠ 0) = true := decide_eq_true (by omega)
      rw [this]; rfl
  have h1 := key l h (6 - l.length)
  have h2 := key l' h' (6 - l'.length)
  unfold pad at e
  rw [← h1, e, h2]
theorem dgs_inj {l l' : List Int} (h : ∀ d ∈ l, 1 ≤ d ∧ d ≤ 7) (h' : ∀ d ∈ l', 1 ≤ d ∧ d ≤ 7) (e : dgs l = dgs l') : l = l' := by
  have key : ∀ l : List Int, (∀ d ∈ l, 1 ≤ d ∧ d ≤ 7) → (dgs l).map (fun u => (u.toNat : Int) - 48) = l := by
    intro l hl
    unfold dgs
    rw [List.map_map]
    conv => rhs; rw [← List.map_id l]
    refine List.map_congr_left fun d hd => ?_
    have := hl d hd
    rcases (by omega : d = 1 ∨ d = 2 ∨ d = 3 ∨ d = 4 ∨ d = 5 ∨ d = 6 ∨ d = 7) with rfl | rfl | rfl | rfl | rfl | rfl | rfl <;> rfl
  rw [← key l h, e, key l' h']
theorem rot_rot {es : List (Int × Int)} {t k : Nat} (ht : t < es.length) (hk : k < es.length) : rotK es k = rotL ((k + es.length - t) % es.length) (rotK es t) := by
  have hl : (rotK es t).length = es.length := by unfold rotK; simp
  unfold rotL
  rw [hl]
  unfold rotK
  refine List.map_congr_left fun i hi => ?_
  have hi' : i < es.length := by simpa using hi
  have hm : ((k + es.length - t) % es.length + i) % es.length < es.length := Nat.mod_lt _ (by omega)
  rw [List.getD_eq_getElem?_getD, List.getElem?_map, List.getElem?_range hm]
  show (eAt es ((k + i) % es.length)).1 = (eAt es ((t + ((k + es.length - t) % es.length + i) % es.length) % es.length)).1
  have : (t + ((k + es.length - t) % es.length + i) % es.length) % es.length = (k + i) % es.length := by
    rw [Nat.add_mod_mod, ← Nat.add_assoc, Nat.add_right_comm, Nat.add_mod_mod, show t + i + (k + es.length - t) = k + i + es.length by omega, Nat.add_mod_right]
  rw [this]
theorem refF_find {es : List (Int × Int)} : ∀ (l : List Nat), (∀ k ∈ l, okK es k = true) → refF es l = match l.findSome? (refHit es) with
    | some y => y.name
    | none => []
  | [], _ => rfl
  | k :: l, h => by
    rw [refF, h k List.mem_cons_self, List.findSome?_cons]
    cases refHit es k with
    | some y => rfl
    | none => exact refF_find l fun j hj => h j (List.mem_cons_of_mem _ hj)
theorem name_law (es : List (Int × Int)) : nameV es = refNameV es := by
  unfold nameV refNameV
  by_cases h6 : 6 < es.length
  · rw [if_pos h6, if_pos h6]
  rw [if_neg h6, if_neg h6]
  obtain ⟨n, hn⟩ : ∃ n, n = es.length := ⟨_, rfl⟩
  rcases Nat.eq_zero_or_pos n with h0 | hpos
  · have hes : es = [] := List.eq_nil_of_length_eq_zero (by omega)
    subst hes
    rfl
  have hK : ∀ t, t < n → ∀ d, d ∈ rotK es t ↔ ∃ i, i < n ∧ (eAt es i).1 = d := fun t ht d => by
    unfold rotK
    rw [List.mem_map]
    constructor
    · rintro ⟨i, hi, rfl⟩
      exact ⟨_, by rw [hn]; exact Nat.mod_lt _ (by omega), rfl⟩
    · rintro ⟨i, hi, rfl⟩
      refine ⟨(i + n - t) % n, by simp; rw [← hn]; exact Nat.mod_lt _ hpos, ?_⟩
      rw [← hn, Nat.add_mod_mod, show t + (i + n - t) = i + n by omega, Nat.add_mod_right, Nat.mod_eq_of_lt hi]
  have hokiff : ∀ t, t < n → (okK es t = true ↔ ∀ i, i < n → 1 ≤ (eAt es i).1 ∧ (eAt es i).1 ≤ 7) := fun t ht => by
    unfold okK
    rw [List.all_eq_true]
    constructor
    · intro h i hi
      have := h _ ((hK t ht _).2 ⟨i, hi, rfl⟩)
      simpa using this
    · intro h d hd
      obtain ⟨i, hi, rfl⟩ := (hK t ht d).1 hd
      have := h i hi
      simpa using this
  have hr0 : List.range es.length = 0 :: (List.range' 1 (n - 1)) := by
    rw [← hn, List.range_eq_range']
    obtain ⟨k, rfl⟩ : ∃ k, n = k + 1 := ⟨n - 1, by omega⟩
    rfl
  by_cases hok : ∀ i, i < n → 1 ≤ (eAt es i).1 ∧ (eAt es i).1 ≤ 7
  rotate_left
  · -- something is no kind
    have hb : okK es 0 = false := by
      cases h : okK es 0 with
      | false => rfl
      | true => exact absurd ((hokiff 0 hpos).1 h) hok
    have hr : refF es (List.range es.length) = [] := by rw [hr0, refF, hb]; rfl
    rw [hr]
    split
    · rfl
    · rename_i hlo
      have hlow : ∀ i, i < n → 1 ≤ (eAt es i).1 := fun i hi => by
        rcases Int.lt_or_le (eAt es i).1 1 with h | h
        · refine absurd ?_ hlo
          unfold lowK first
          rw [List.find?_isSome]
          exact ⟨i, by simpa using (by omega : i < es.length), by simpa using h⟩
        · exact h
      have hnf : nameF es = none := by
        unfold nameF
        rw [List.find?_eq_none]
        intro x hx hhit
        unfold hitN at hhit
        rw [List.any_eq_true] at hhit
        obtain ⟨t, ht, he⟩ := hhit
        have ht' : t < n := by rw [hn]; simpa using ht
        have he' : pad (rotK es t) = pad x.ks := by simpa using he
        have := pad_inj (fun d hd => by obtain ⟨i, hi, rfl⟩ := (hK t ht' d).1 hd; exact hlow i hi) (fun d hd => (nms_ok x hx d hd).1) he'
        refine hok fun i hi => ?_
        have hd := (hK t ht' _).2 ⟨i, hi, rfl⟩
        rw [this] at hd
        exact nms_ok x hx _ hd
      rw [hnf]
  · have hlo : (lowK es).isSome = false := by
      cases h : lowK es with
      | none => rfl
      | some i =>
        unfold lowK first at h
        have h2 := List.find?_some h
        have h3 := List.mem_of_find?_eq_some h
        have := (hok i (by rw [hn]; simpa using h3)).1
        simp at h2; omega
    rw [if_neg (by rw [hlo]; simp)]
    rw [refF_find _ fun k hk => (hokiff k (by rw [hn]; simpa using hk)).2 hok]
    have hKok : ∀ t, t < n → ∀ d ∈ rotK es t, 1 ≤ d ∧ d ≤ 7 := fun t ht d hd => by
      obtain ⟨i, hi, rfl⟩ := (hK t ht d).1 hd; exact hok i hi
    have hit_iff : ∀ x ∈ NMS, (hitN es x = true ↔ ∃ t, t < n ∧ rotK es t = x.ks) := fun x hx => by
      unfold hitN
      rw [List.any_eq_true]
      constructor
      · rintro ⟨t, ht, he⟩
        have ht' : t < n := by rw [hn]; simpa using ht
        exact ⟨t, ht', pad_inj (fun d hd => (hKok t ht' d hd).1) (fun d hd => (nms_ok x hx d hd).1) (by simpa using he)⟩
      · rintro ⟨t, ht, he⟩
        exact ⟨t, by simpa using (by omega : t < es.length), by rw [he]; simp⟩
    have ref_some : ∀ k y, k < n → refHit es k = some y → ∃ x ∈ NMS, x.name = y.name ∧ x.ks = rotK es k := fun k y hk hy => by
      unfold refHit at hy
      have h2 := List.find?_some hy
      have h3 := List.mem_of_find?_eq_some hy
      rw [rns_eq, List.mem_map] at h3
      obtain ⟨x, hx, rfl⟩ := h3
      exact ⟨x, hx, rfl, dgs_inj (nms_ok x hx) (hKok k hk) (of_decide_eq_true h2)⟩
    have ref_none : ∀ k, k < n → refHit es k = none → ∀ x ∈ NMS, x.ks ≠ rotK es k := fun k hk hy x hx he => by
      unfold refHit at hy
      rw [List.find?_eq_none] at hy
      refine hy (toR x) (by rw [rns_eq]; exact List.mem_map.2 ⟨x, hx, rfl⟩) ?_
      simp [toR, he]
    cases hnf : nameF es with
    | none =>
      have hall : (List.range es.length).findSome? (refHit es) = none := by
        rw [List.findSome?_eq_none_iff]
        intro k hk
        have hk' : k < n := by rw [hn]; simpa using hk
        cases h : refHit es k with
        | none => rfl
        | some y =>
          obtain ⟨x, hx, _, h2⟩ := ref_some k y hk' h
          unfold nameF at hnf
          rw [List.find?_eq_none] at hnf
          exact absurd ((hit_iff x hx).2 ⟨k, hk', h2.symm⟩) (by simpa using hnf x hx)
      rw [hall]
    | some x =>
      have hx : x ∈ NMS := List.mem_of_find?_eq_some hnf
      have hh : hitN es x = true := List.find?_some hnf
      obtain ⟨t, ht, hKt⟩ := (hit_iff x hx).1 hh
      cases hall : (List.range es.length).findSome? (refHit es) with
      | none =>
        rw [List.findSome?_eq_none_iff] at hall
        have h := hall t (by simpa using (by omega : t < es.length))
        exact absurd hKt.symm (ref_none t ht h x hx)
      | some y =>
        obtain ⟨k, hk, hy⟩ := List.exists_of_findSome?_eq_some hall
        have hk' : k < n := by rw [hn]; simpa using hk
        obtain ⟨x', hx', h1, h2⟩ := ref_some k y hk' hy
        have hrr := rot_rot (es := es) (t := t) (k := k) (by omega) (by omega)
        rw [hKt] at hrr
        have := nms_uniq x hx x' hx' ((k + es.length - t) % es.length) (by have := Nat.mod_lt (k + es.length - t) (show 0 < es.length by omega); omega) (by rw [h2, hrr])
        show x.name = y.name
        rw [← h1, this]
end Go.Sx

set_option linter.unusedSimpArgs false
set_option linter.unusedVariables false
namespace Go.Dx
theorem any_call {x : Ex} {g : Nat} {args : List Value} {m : M} {P : Value → M → Prop} (h : Dx.Call x g args (forAny m) P) : ∃ v m', x.f g args (forAny m) = some (v, m') ∧ m'.log = [] ∧ Ext m (behind m m') ∧ P v m' := by
  obtain ⟨v, m', h1, h2, h3⟩ := h
  exact ⟨v, m', h1, by rw [h2.log, forAny_log], h2.behind, h3⟩
theorem Rd.behind {α : Type} {m m' : M} {v : Value} {e : Nat} {f : α → List Value} {l : List α} (h : Rd m' v e f l) : Rd (Dx.behind m m') v e f l := h.congr (by rw [behind_n]; exact Nat.le_refl _) fun B _ => behind_obj _ _ _
end Go.Dx
namespace Go.Sx
open Go.Dx Go.Proofs
theorem WeaveCanons_c (ed md : Value) (es : List (Int × Int)) (ms : List Int) (m : M) (hm : m.base ≤ m.n) (he16 : es.length * 16 ≤ most) (hm8 : ms.length * 8 ≤ most) (hed : Rd m ed 2 edgeRow es) (hmd : Rd m md 1 modeRow ms) (hse : Sp 2 ed) (hsm : Sp 1 md) :
    CallV (Ex.step Try.prog (xA 9)) 9 [.agg #[ed, md]] m (.bool true) := by
  refine step_ret d_sextantlaw29_WeaveCanons_ok (by simp) ?_
  have hl : es.length < 4611686018427387904 := by unfold most at he16; omega
  have hl' : ms.length < 4611686018427387904 := by unfold most at hm8; omega
  have hcan : (canF (es, ms)).1.length = es.length ∧ (canF (es, ms)).2.length = ms.length := by
    unfold canF
    split
    · exact ⟨rfl, rfl⟩
    · exact can_len (es, ms) _ (es, ms) rfl rfl
  have st0 : St m m [] := St.nil hm (Ext.refl m)
  have st1 := st0.row [ed, md]
  obtain ⟨m1, hm1⟩ : ∃ m1, m1 = Dx.newRow m [ed, md] := ⟨_, rfl⟩
  rw [← hm1] at st1
  obtain ⟨m2, hm2⟩ : ∃ m2, m2 = behind m1 (forAny m1) := ⟨_, rfl⟩
  have E2 : Ext m1 m2 := by rw [hm2]; exact (Ext.refl (forAny m1)).behind
  have hlg : ∀ m, (forAny m).log = [] := fun m => forAny_log m
  have st2 := st1.step E2
  have lb : ∀ {m' : M}, St m m' [(m.n, [ed, md])] → loads m' ⟨m.n, 0, none⟩ 2 = some [ed, md] := fun h => (h.get 0 rfl).2.2.loads (n := 2) (by simp)
  have any {a : M} (k : Sees m a) : Sees m (forAny a) := sees_any k
  -- Canon, and Ref of it
  obtain ⟨v3, m3', a1, a2, a3, w1, w2, rfl, a4, a5, -, -⟩ := any_call (Canon_c 5 ed md es ms (forAny m2) (any st2.sees).base he16 hm8 (hed.sees (any st2.sees)) (hmd.sees (any st2.sees)) hse hsm)
  obtain ⟨m3, hm3⟩ : ∃ m3, m3 = behind m2 m3' := ⟨_, rfl⟩
  rw [← hm3] at a3
  have st3 := st2.step a3
  have a4' : Rd m3 w1 2 edgeRow (canF (es, ms)).1 := by rw [hm3]; exact a4.behind
  have a5' : Rd m3 w2 1 modeRow (canF (es, ms)).2 := by rw [hm3]; exact a5.behind
  obtain ⟨v4, m4', b1, b2, b3, w3, w4, rfl, b4, b5⟩ := any_call (Ref_c 8 w1 w2 _ _ (forAny m3) (any st3.sees).base (by rw [hcan.1]; exact he16) (by rw [hcan.2]; exact hm8) (a4'.sees (sees_any st3.sees.self)) (a5'.sees (sees_any st3.sees.self)))
  obtain ⟨m4, hm4⟩ : ∃ m4, m4 = behind m3 m4' := ⟨_, rfl⟩
  rw [← hm4] at b3
  have st4 := st3.step b3
  have b4' : Rd m4 w3 2 edgeRow (canF (es, ms)).1 := by rw [hm4]; exact b4.behind
  have b5' : Rd m4 w4 1 modeRow (canF (es, ms)).2 := by rw [hm4]; exact b5.behind
  -- Ref, and its Canon
  obtain ⟨v5, m5', c1, c2, c3, w5, w6, rfl, c4, c5⟩ := any_call (Ref_c 8 ed md es ms (forAny m4) (any st4.sees).base he16 hm8 (hed.sees (any st4.sees)) (hmd.sees (any st4.sees)))
  obtain ⟨m5, hm5⟩ : ∃ m5, m5 = behind m4 m5' := ⟨_, rfl⟩
  rw [← hm5] at c3
  have st5 := st4.step c3
  have c4' : Rd m5 w5 2 edgeRow es := by rw [hm5]; exact c4.behind
  have c5' : Rd m5 w6 1 modeRow ms := by rw [hm5]; exact c5.behind
  obtain ⟨v6, m6', d1, d2, d3, w7, w8, rfl, d4, d5⟩ := any_call (refCanon_c 7 w5 w6 es ms (forAny m5) (any st5.sees).base he16 (c4'.sees (sees_any st5.sees.self)) (c5'.sees (sees_any st5.sees.self)))
  obtain ⟨m6, hm6⟩ : ∃ m6, m6 = behind m5 m6' := ⟨_, rfl⟩
  rw [← hm6] at d3
  have st6 := st5.step d3
  have d4' : Rd m6 w7 2 edgeRow (canF (es, ms)).1 := by rw [hm6]; exact d4.behind
  have d5' : Rd m6 w8 1 modeRow (canF (es, ms)).2 := by rw [hm6]; exact d5.behind
  have S46 : Sees m4 m6 := (st4.sees.self.ext c3).ext d3
  obtain ⟨v7, m7', e1, e2, e3, rfl⟩ := any_call (Same29_c 8 w3 w4 w7 w8 _ _ (forAny m6) (any st6.sees).base (by rw [hcan.1]; exact hl) (by rw [hcan.2]; exact hl') (b4'.sees (sees_any S46)) (b5'.sees (sees_any S46)) (d4'.sees (sees_any st6.sees.self)) (d5'.sees (sees_any st6.sees.self)))
  obtain ⟨m7, hm7⟩ : ∃ m7, m7 = behind m6 m7' := ⟨_, rfl⟩
  rw [← hm7] at e3
  have st7 := st6.step e3
  -- the names
  obtain ⟨v8, m8', f1, f2, f3, rfl⟩ := any_call (Name_c 5 ed md es (forAny m7) (any st7.sees).base hl (hed.sees (any st7.sees)))
  obtain ⟨m8, hm8'⟩ : ∃ m8, m8 = behind m7 m8' := ⟨_, rfl⟩
  rw [← hm8'] at f3
  have st8 := st7.step f3
  obtain ⟨v9, m9', g1, g2, g3, w9, w10, rfl, g4, g5⟩ := any_call (Ref_c 8 ed md es ms (forAny m8) (any st8.sees).base he16 hm8 (hed.sees (any st8.sees)) (hmd.sees (any st8.sees)))
  obtain ⟨m9, hm9⟩ : ∃ m9, m9 = behind m8 m9' := ⟨_, rfl⟩
  rw [← hm9] at g3
  have st9 := st8.step g3
  have g4' : Rd m9 w9 2 edgeRow es := by rw [hm9]; exact g4.behind
  obtain ⟨v10, m10', h1, h2, h3, rfl⟩ := any_call (refName_c 8 w9 w10 es (forAny m9) (any st9.sees).base hl (g4'.sees (sees_any st9.sees.self)))
  obtain ⟨m10, hm10⟩ : ∃ m10, m10 = behind m9 m10' := ⟨_, rfl⟩
  rw [← hm10] at h3
  have st10 := st9.step h3
  rw [← name_law] at h1
  have hbe := binV_strs (nameV es) (nameV es)
  rw [decide_eq_true rfl] at hbe
  have l2 := lb st2
  have l4 := lb st4
  have l7 := lb st7
  have l8 := lb st8
  simp [← hm1, xA_aw, xA_f, hlg, ← hm2, l2, loadNS_ptr, a1, a2, ← hm3, b1, b2, ← hm4, l4, c1, c2, ← hm5, d1, d2, ← hm6, e1, e2, ← hm7, l7, f1, f2, ← hm8', l8, g1, g2, ← hm9, h1, h2, ← hm10, hbe]
  exact ret_1 st10.ext (by simp)
end Go.Sx
