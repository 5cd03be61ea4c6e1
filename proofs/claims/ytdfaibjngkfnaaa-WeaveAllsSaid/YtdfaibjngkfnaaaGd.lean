/- Contracts, second part. -/
import Derived.Test.YtdfaibjngkfnaaaGc
set_option linter.unusedVariables false
set_option linter.unusedSimpArgs false
set_option linter.defProp false
set_option linter.unusedSimpArgs false
set_option linter.unusedVariables false
namespace Go.Dx
/-- what lies below N stays, these apart -/
structure Rest (N : Nat) (ex : List Nat) (m m' : M) : Prop where
  n : m.n ≤ m'.n
  obj : ∀ B, B < N → B ∉ ex → m'.obj B = m.obj B
  base : m'.base = m.base
  log : m'.log = m.log
section
variable {N : Nat} {ex : List Nat} {a b c m m' : M}
theorem Rest.refl : Rest N ex m m := ⟨Nat.le_refl _, fun _ _ _ => rfl, rfl, rfl⟩
theorem Rest.trans (h : Rest N ex a b) (k : Rest N ex b c) : Rest N ex a c := ⟨Nat.le_trans h.n k.n, fun B hB he => (k.obj B hB he).trans (h.obj B hB he), k.base.trans h.base, k.log.trans h.log⟩
theorem Upto.rest (h : Upto N m m') (ex : List Nat) : Rest N ex m m' := ⟨h.n, fun B hB _ => h.obj B hB, h.base, h.log⟩
theorem Rest.less {N' : Nat} (h : Rest N ex m m') (hN : N' ≤ N) {ex' : List Nat} (he : ∀ B, B ∈ ex → B < N' → B ∈ ex') : Rest N' ex' m m' := ⟨h.n, fun B hB h' => h.obj B (by omega) fun h'' => h' (he B h'' hB), h.base, h.log⟩
theorem store1 {B o : Nat} {l : List Value} {v : Value} (h : Arr m B l) (ho : o < l.length) (hv : okC v = true) (hb : m.base ≤ B) :
    ∃ m2, storeS 1 (.pointer (some ⟨B, o, none⟩)) v m = some (undef, m2) ∧ Arr m2 B (l.set o v) ∧ m2.n = m.n ∧ m2.base = m.base ∧ m2.log = m.log ∧ ∀ X, X ≠ B → m2.obj X = m.obj X := by
  have hcv : cellsV v = some [v] := by cases v <;> first | rfl | simp [okC] at hv
  obtain ⟨s1, s2, s3, s4, s5, s6⟩ := stores_putN (o := o) (l := [v]) h (by simp; omega) (by simpa using hv)
  exact ⟨_, storeS_arr (n := 1) (o := o) h hcv rfl (by omega) (by simpa using hv), s2, s3, s4, s6 hb, s5⟩
theorem store1Any {B o : Nat} {l : List Value} {v : Value} (h : Arr m B l) (hB : B < m.n) (ho : o < l.length) (hv : okC v = true) (hb : m.base ≤ B) :
    ∃ m2, storeS 1 (.pointer (some ⟨B, o, none⟩)) v (forAny m) = some (undef, m2) ∧ m2.log = [B] ∧ Arr (behind m m2) B (l.set o v) ∧ (behind m m2).n = m.n ∧ (behind m m2).base = m.base ∧ (behind m m2).log = m.log ∧ ∀ X, X ≠ B → (behind m m2).obj X = m.obj X := by
  have hcv : cellsV v = some [v] := by cases v <;> first | rfl | simp [okC] at hv
  have h3' : Arr (forAny m) B l := h.congr (forAny_obj m B)
  obtain ⟨s1, s2, s3, s4, s5, s6⟩ := stores_putN (o := o) (l := [v]) (l0 := l) h3' (by simp; omega) (by simpa using hv)
  have hlog : (putN (forAny m) B o [v]).log = [B] := by
    obtain ⟨c, hc, hcl⟩ := h3'
    have : ∃ c', stores (forAny m) ⟨B, o, none⟩ [v] = some ((forAny m).put B (.cells c')) := by
      have hs : stores (forAny m) ⟨B, o, none⟩ [v] = ob (oCells ((forAny m).obj B)) fun c => ob (stn c o [v]) fun c' => some ((forAny m).put B (.cells c')) := rfl
      rw [hs, hc]
      obtain ⟨c', e', _⟩ := stn_of (vs := [v]) (o := o) hcl (by simp; omega) (by simpa using hv)
      exact ⟨c', by show ob (stn c o [v]) _ = _; rw [e']; rfl⟩
    obtain ⟨c', e'⟩ := this
    have hp : putN (forAny m) B o [v] = (forAny m).put B (.cells c') := by unfold putN; rw [e']; rfl
    rw [hp]
    cases m with | mk a nx bs wl =>
    show note nx B [] = [B]
    have h2' : B < nx := hB
    unfold note
    have : Nat.ble nx B = false := by
      cases q : Nat.ble nx B with
      | false => rfl
      | true => exact absurd (Nat.le_of_ble_eq_true q) (by omega)
    rw [this]; rfl
  refine ⟨_, storeS_arr (n := 1) (o := o) h3' hcv rfl (by omega) (by simpa using hv), hlog, s2.congr (behind_obj _ _ _), by rw [behind_n, s3, forAny_n], behind_base _ _, ?_, fun X hX => by rw [behind_obj, s5 X hX, forAny_obj]⟩
  rw [behind_log, hlog]
  exact notes_ge fun C hC => by rw [List.mem_singleton.1 hC]; exact hb
theorem Rd.congr {α : Type} {v : Value} {e : Nat} {f : α → List Value} {es : List α} (h : Rd m v e f es) (hn : m.n ≤ m'.n) (k : ∀ B, blk v = some B → m'.obj B = m.obj B) : Rd m' v e f es := by
  refine ⟨h.len, fun i r hr => ?_, by rw [firsts_congr k]; exact h.all, fun B hB => Nat.lt_of_lt_of_le (h.lt B hB) hn⟩
  obtain ⟨h1, h2, h3⟩ := h.row i r hr
  refine ⟨h1, Nat.lt_of_lt_of_le h2 hn, ?_⟩
  cases v with
  | slice a n c =>
    cases a with
    | none => cases h1
    | some a =>
      rw [← h3]
      unfold loads cellsOf
      rw [show (adr e (.slice (some a) n c) i).block = a.block from rfl, k _ rfl]
  | _ => cases h1
end
/-- a row of numbers -/
def nums (l : List Nat) : List Value := l.map fun (n : Nat) => Value.int .i64 (n : Int)
theorem nums_set (l : List Nat) (i x : Nat) : (nums l).set i (.int .i64 x) = nums (l.set i x) := by unfold nums; rw [List.map_set]
theorem nums_len (l : List Nat) : (nums l).length = l.length := by unfold nums; simp
theorem nums_get (l : List Nat) (i : Nat) (x : Nat) (h : l[i]? = some x) : (nums l)[i]? = some (.int .i64 x) := by unfold nums; simp [h]
theorem nums_rep (n : Nat) : rep n [Value.int .i64 0] = nums (List.replicate n 0) := by
  unfold nums
  induction n with
  | zero => rfl
  | succ n ih => unfold rep; rw [ih, List.replicate_succ]; rfl
/-- the address of an element of an array that was made -/
theorem made_idx (B n i : Nat) (h : i < n) : iaddrSV 1 (.slice (some ⟨B, 0, some 3⟩) n n) (.int .i64 i) = some (.pointer (some ⟨B, i, none⟩)) := by
  show (bif Nat.blt i n then addA (i * 1) ⟨B, 0, some 3⟩ else none) = _
  rw [show Nat.blt i n = true from Nat.ble_eq_true_of_le h]
  show some (Value.pointer (some ⟨B, 0 + i * 1, none⟩)) = _
  rw [Nat.zero_add, Nat.mul_one]
theorem made_rd {m : M} {B : Nat} {l : List Nat} (h : Arr m B (nums l)) (hB : B < m.n) : Rd m (.slice (some ⟨B, 0, some 3⟩) l.length l.length) 1 (fun (n : Nat) => [Value.int .i64 (n : Int)]) l := by
  refine ⟨rfl, fun i r hr => ?_, ?_, fun C hC => by cases hC; exact hB⟩
  · have hi := (List.getElem?_eq_some_iff.1 hr).1
    refine ⟨?_, hB, ?_⟩
    · rw [made_idx B _ i hi]
      show _ = some (Value.pointer (some ⟨B, 0 + i * 1, none⟩))
      rw [Nat.zero_add, Nat.mul_one]
    · show loads m ⟨B, 0 + i * 1, none⟩ 1 = _
      rw [Nat.zero_add, Nat.mul_one, h.loads (by rw [nums_len]; omega), List.take_one, List.head?_drop, nums_get l i r hr]; rfl
  · show loads m _ (l.length * 1) = _
    rw [h.loads (by rw [nums_len]; omega), List.drop_zero, Nat.mul_one, show l.length = (nums l).length from (nums_len l).symm, List.take_length]
    have key : ∀ l : List Nat, nums l = l.flatMap (fun (n : Nat) => [Value.int .i64 (n : Int)]) := by
      intro l
      unfold nums
      induction l with
      | nil => rfl
      | cons x l ih => rw [List.map_cons, ih, List.flatMap_cons]; rfl
    rw [key]
end Go.Dx
namespace Go.Dx
@[simp] theorem mMkslice_ap (e b : Nat) (zs : List Value) (l c : V) (x : Ex) (t : Tm) (m : M) : mMkslice e b zs l c x t m = mksliceS e b zs (l t) (c t) m := _root_.id rfl
theorem mk_nums {n : Nat} (h : n ≤ 1000) (m : M) : mksliceS 1 8 [.int .i64 0] (.int .i64 (n : Int)) (.int .i64 (n : Int)) m = some (.slice (some ⟨m.n, 0, some 3⟩) n n, newRow m (nums (List.replicate n 0))) := by
  show (bif Nat.ble n n && Nat.ble (n * 8) most && Nat.ble n 4611686018427387904 && Nat.ble (n * 1) 1048576 then some (Value.slice (some ⟨m.n, 0, some (code 1 true)⟩) n n, newRow m (rep n [.int .i64 0])) else none) = _
  rw [Nat.ble_eq_true_of_le (Nat.le_refl n), Nat.ble_eq_true_of_le (by unfold most; omega), Nat.ble_eq_true_of_le (by omega), Nat.ble_eq_true_of_le (by omega), nums_rep]
  rfl
@[simp] theorem meets_cons (l : List (Nat × FP)) (x : FP) (i : Nat) (inc : List Nat) : meets l x (i :: inc) = ((match fpAt i l with | some y => FP.meet y x | none => true) && meets l x inc) := rfl
@[simp] theorem fpAt_nil (i : Nat) : fpAt i [] = none := rfl
@[simp] theorem fpAt_cons (i j : Nat) (x : FP) (l : List (Nat × FP)) : fpAt i ((j, x) :: l) = if i = j then some x else fpAt i l := by
  show (bif Nat.beq i j then some x else fpAt i l) = _
  by_cases h : i = j
  · subst h; rw [Nat.beq_refl, if_pos rfl]; rfl
  · rw [if_neg h, beq_ne h]; rfl
@[simp] theorem meet_qq (a b : Option Nat) : FP.meet ⟨a, []⟩ ⟨b, []⟩ = true := rfl
@[simp] theorem meet_rw (B C : Nat) (b : Option Nat) : FP.meet ⟨some B, []⟩ ⟨b, [C]⟩ = !decide (B = C) := by
  show (!(Nat.beq B C || false)) = _
  by_cases h : B = C
  · subst h; simp [Nat.beq_refl]
  · rw [beq_ne h]; simp [h]
@[simp] theorem meet_w2 (B C : Nat) (b : Option Nat) : FP.meet ⟨b, [C]⟩ ⟨some B, []⟩ = !decide (B = C) := by
  show (!(Nat.beq B C || false)) = _
  by_cases h : B = C
  · subst h; simp [Nat.beq_refl]
  · rw [beq_ne h]; simp [h]
end Go.Dx

set_option linter.unusedSimpArgs false
set_option linter.unusedVariables false
namespace Go.Sx
open Go.Dx Go.Proofs
/-- a cell's chain -/
structure ChainOK (es : List (Int × Int)) (ce : List Nat) (b c : Nat) (l : List Nat) : Prop where
  ex : ∃ k0, k0 < es.length ∧ ce[(b + k0) % es.length]? = some c ∧ outAt es (ahN es.length ((b + k0) % es.length)) = false ∧
    (∀ k, k < k0 → ∃ c', ce[(b + k) % es.length]? = some c' ∧ (c' = c → outAt es (ahN es.length ((b + k) % es.length)) = true)) ∧ l[0]? = some ((b + k0) % es.length)
  ch : Chain es l
  len : l.length ≤ 1000
def valStep (es : List (Int × Int)) (s : List Nat × Nat) (i : Nat) : List Nat × Nat :=
  if fromE es i then (s.1.set i (s.2 + 1), s.2 + 1) else if (eAt es (ahN es.length i)).1 = 1 then (s.1.set i (s.1.getD (ahN es.length i) 0), s.2) else s
theorem valStep_len (es : List (Int × Int)) (s : List Nat × Nat) (i : Nat) : (valStep es s i).1.length = s.1.length := by unfold valStep; split <;> (try split) <;> simp
theorem valFold_len (es : List (Int × Int)) : ∀ (l : List Nat) (s : List Nat × Nat), (l.foldl (valStep es) s).1.length = s.1.length
  | [], _ => rfl
  | i :: l, s => by rw [List.foldl_cons, valFold_len es l, valStep_len]
theorem valFold_le (es : List (Int × Int)) : ∀ (l : List Nat) (s : List Nat × Nat), (l.foldl (valStep es) s).2 ≤ s.2 + l.length
  | [], _ => Nat.le_refl _
  | i :: l, s => by
    rw [List.foldl_cons]
    refine Nat.le_trans (valFold_le es l _) ?_
    have : (valStep es s i).2 ≤ s.2 + 1 := by unfold valStep; split <;> (try split) <;> simp
    simp; omega
theorem chain_c (n : Nat) (p : Addr) (c : Nat) (m : M) : (ex Try.prog (n + 1)).f 88 [.pointer (some p), iv c] m = some (.func (.func 101) #[] #[.pointer (some ⟨m.n, 0, none⟩), .pointer (some ⟨m.n + 1, 0, none⟩)], Dx.newRow (Dx.newRow m [.pointer (some p)]) [iv c]) := by
  have : Dx.Call (ex Try.prog (n + 1)) 88 [.pointer (some p), iv c] m fun v m' => v = .func (.func 101) #[] #[.pointer (some ⟨m.n, 0, none⟩), .pointer (some ⟨m.n + 1, 0, none⟩)] ∧ m' = Dx.newRow (Dx.newRow m [.pointer (some p)]) [iv c] := by
    refine call_ret d_w_plan_chain_ok (by simp) ?_
    have h1 : boxS (.pointer (some p)) m = some (.pointer (some ⟨m.n, 0, none⟩), Dx.newRow m [.pointer (some p)]) := rfl
    have h2 : ∀ m', boxS (.int .i64 (c : Int)) m' = some (.pointer (some ⟨m'.n, 0, none⟩), Dx.newRow m' [iv c]) := fun _ => rfl
    simp [h1, h2]
    exact ret_1 (by simp) (by simp)
  obtain ⟨v, m', e, -, rfl, rfl⟩ := this
  exact e
/-- one event of a chain gets its value -/
theorem val_round (n : Nat) (PB B1 B3 A7 L1 : Nat) (ed av : Value) (es : List (Int × Int)) (ce : List Nat) (b : Nat) (hes : es.length ≤ 16) (hok : ∀ (i : Nat) e, es[i]? = some e → badE e = false) (va : List Nat) (last : Nat) (hva : va.length = es.length) (hla : last ≤ 2000)
    (i : Nat) (hi : i < es.length) (T : Tm) (ca cb : Code) (m : M) (hm : m.base ≤ m.n) (hP : Pl m PB ed av es ce b) (p7 : ∀ s, load1 m ⟨PB, 7, s⟩ = some (.slice (some ⟨A7, 0, some 3⟩) es.length es.length)) (w1 : ∀ s, load1 m ⟨B1, 0, s⟩ = some (.pointer (some ⟨PB, 0, none⟩)))
    (hA : Arr m A7 (nums va)) (hB : Arr m B3 [iv last]) (h1 : B1 < m.n) (h7 : A7 < m.n) (h3 : B3 < m.n) (hL : L1 < m.n) (bA : m.base ≤ A7) (bB : m.base ≤ B3) (hAB : A7 ≠ B3) (hPA : PB ≠ A7) (hPB : PB ≠ B3) (h1A : B1 ≠ A7) (h1B : B1 ≠ B3) (hLA : L1 ≠ A7) (hLB : L1 ≠ B3)
    (heA : ∀ C, blk ed = some C → C ≠ A7 ∧ C ≠ B3) (hob : m.obj L1 = some (.loop 1 T 59 #[15] ca cb none)) (T1 : Tm.get 1 T = .pointer (some ⟨B1, 0, none⟩)) (T3 : Tm.get 3 T = .pointer (some ⟨B3, 0, none⟩)) :
    Rnd (fun e m2 => m2.obj L1 = some (.loop 1 T 59 #[15] ca cb none) ∧ e = none ∧ Dx.Rest m.n [A7, B3] m m2 ∧ Arr m2 A7 (nums (valStep es (va, last) i).1) ∧ Arr m2 B3 [iv (valStep es (va, last) i).2])
      (yb_weave_plan_values_1 (ex Try.prog (n + 2)) (endE none) exitE (endE (some .ret)) (Tm.set 4 (iv i) (Tm.set 15 (iv i) T)) m) := by
  unfold yb_weave_plan_values_1
  obtain ⟨e, he⟩ : ∃ e, es[i]? = some e := ⟨_, List.getElem?_eq_getElem hi⟩
  have hfe : fromE es i = fromI e.1 := by unfold fromE; rw [eAt_of he]
  obtain ⟨v1, m1, g1, g2, rfl⟩ := kind_c n PB ed es e i he (badE_kind (hok i e he)).1 (badE_kind (hok i e he)).2 m hm (hP.p0 none) hP.hed
  have hS := Sees.refl hm
  have hS1 := hS.ext g2
  have P1 := hP.sees hS1
  have w1' : ∀ s, load1 m1 ⟨B1, 0, s⟩ = some (.pointer (some ⟨PB, 0, none⟩)) := fun s => (load1_obj (g2.obj _ h1) 0 s).trans (w1 s)
  have p7' : ∀ s, load1 m1 ⟨PB, 7, s⟩ = some (.slice (some ⟨A7, 0, some 3⟩) es.length es.length) := fun s => (load1_obj (g2.obj _ hP.lt) 7 s).trans (p7 s)
  have hA1 := hA.ext g2 h7
  have hB1 := hB.ext g2 h3
  have ob1 : m1.obj L1 = some (.loop 1 T 59 #[15] ca cb none) := (g2.obj _ hL).trans hob
  have R1 : Dx.Rest m.n [A7, B3] m m1 := (g2.upto (Nat.le_refl _)).rest _
  have hidx : ∀ j, j < es.length → iaddrSV 1 (.slice (some ⟨A7, 0, some 3⟩) es.length es.length) (.int .i64 j) = some (.pointer (some ⟨A7, j, none⟩)) := fun j hj => made_idx A7 _ j hj
  simp [T1, T3, w1, g1, binV_kind_eq2]
  cases hf : fromI e.1 with
  | true =>
    have hstep : valStep es (va, last) i = (va.set i (last + 1), last + 1) := by unfold valStep; rw [hfe, hf]; rfl
    have wl := nextI (i := last) (by omega)
    obtain ⟨m2, s1, s2, s3, s4, s5, s6⟩ := store1 (o := 0) (v := iv (last + 1 : Nat)) hB1 (by simp) rfl (by rw [g2.base]; omega)
    have s2' : Arr m2 B3 [iv (last + 1 : Nat)] := s2
    have hA2 := hA1.congr (s6 A7 hAB)
    obtain ⟨m3, r1, r2, r3, r4, r5, r6, r7⟩ := store1Any (o := i) (v := iv (last + 1 : Nat)) hA2 (by rw [s3]; have := g2.n; omega) (by rw [nums_len]; omega) rfl (by rw [s4, g2.base]; omega)
    have lB3 := hB1.load1 0
    have lB3' := s2'.load1 0
    have w2 : ∀ s, load1 m2 ⟨B1, 0, s⟩ = some (.pointer (some ⟨PB, 0, none⟩)) := fun s => (load1_obj (s6 _ h1B) 0 s).trans (w1' s)
    have p72 : ∀ s, load1 m2 ⟨PB, 7, s⟩ = some (.slice (some ⟨A7, 0, some 3⟩) es.length es.length) := fun s => (load1_obj (s6 _ hPB) 7 s).trans (p7' s)
    rw [Int.natCast_add] at wl s1 r1
    have wl' : IntKind.i64.wrap ((last : Int) + 1) = (last : Int) + 1 := wl
    have s1' : storeS 1 (.pointer (some ⟨B3, 0, none⟩)) (.int .i64 ((last : Int) + 1)) m1 = some (undef, m2) := s1
    have r1' : storeS 1 (.pointer (some ⟨A7, i, none⟩)) (.int .i64 ((last : Int) + 1)) (forAny m2) = some (undef, m3) := r1
    simp [T1, T3, lB3, wl', s1', w2, p72, lB3', hidx i hi, r1']
    refine rnd_end ⟨by rw [r7 _ hLA, s6 _ hLB]; exact ob1, rfl, R1.trans ⟨by rw [r4, s3]; exact Nat.le_refl _, fun X _ hX => by simp at hX; rw [r7 _ hX.1, s6 _ hX.2], by rw [r5, s4], by rw [r6, s5]⟩, ?_, ?_⟩
    · rw [hstep]; have := r3; rw [show (iv ((last + 1 : Nat) : Int)) = Value.int .i64 ((last + 1 : Nat) : Int) from rfl, nums_set] at this; exact this
    · rw [hstep]; exact s2'.congr (r7 _ (Ne.symm hAB))
  | false =>
    have hai := ahN_lt hi
    obtain ⟨e', he'⟩ : ∃ e, es[ahN es.length i]? = some e := ⟨_, List.getElem?_eq_getElem hai⟩
    have ⟨d1, d2, d3⟩ := P1.hed.at he'
    have d4 : ∀ m'', Sees m1 m'' → load1 m'' ⟨(adr 2 ed (ahN es.length i)).block, (adr 2 ed (ahN es.length i)).off, none⟩ = some (iv e'.1) := fun m'' h => d3 m'' 0 none h (by simp [edgeRow])
    have c1 := Call.use (m0 := m1) fun m'' h => pahead_c (n + 1) PB ed es.length i hi (by omega) m'' ((P1.sees h).p0 none) P1.hed.len
    have wS : ∀ m'', Sees m1 m'' → ∀ s, load1 m'' ⟨B1, 0, s⟩ = some (.pointer (some ⟨PB, 0, none⟩)) := fun m'' h s => (load1_sees h (by have := g2.n; omega)).trans (w1' s)
    have pS : ∀ m'', Sees m1 m'' → ∀ s, load1 m'' ⟨PB, 0, s⟩ = some ed := fun m'' h => (P1.sees h).p0
    have hS1' := hS1.self
    simp (maxDischargeDepth := 30) [T1, T3, wS, pS, hS1', c1, d1, d4]
    obtain ⟨m2, hm2⟩ : ∃ m2, m2 = behind m1 (aft (ex Try.prog (n + 2)) 69 [Value.pointer (some ⟨PB, 0, none⟩), Value.int IntKind.i64 i] (forAny m1)) := ⟨_, rfl⟩
    have E2 : Ext m1 m2 := by rw [hm2]; simp (maxDischargeDepth := 30) [hS1', c1]
    rw [← hm2]
    have R2 : Dx.Rest m.n [A7, B3] m m2 := R1.trans ((E2.upto (g2.n)).rest _)
    have ob2 : m2.obj L1 = some (.loop 1 T 59 #[15] ca cb none) := (E2.obj _ (by have := g2.n; omega)).trans ob1
    have hA2 := hA1.ext E2 (by have := g2.n; omega)
    have hB2 := hB1.ext E2 (by have := g2.n; omega)
    by_cases hk : e'.1 = 1
    · have hstep : valStep es (va, last) i = (va.set i (va.getD (ahN es.length i) 0), last) := by unfold valStep; rw [hfe, hf, eAt_of he', if_neg (by simp), if_pos hk]
      obtain ⟨q, hq⟩ : ∃ q, va[ahN es.length i]? = some q := ⟨_, List.getElem?_eq_getElem (by omega)⟩
      have hqd : va.getD (ahN es.length i) 0 = q := by simp [hq]
      have hS2 := hS1'.ext E2
      have hS2' := hS2.self
      have c2 := Call.use (m0 := m2) fun m'' h => pahead_c (n + 1) PB ed es.length i hi (by omega) m'' ((P1.sees (hS2.trans h)).p0 none) P1.hed.len
      have wS2 : ∀ m'', Sees m2 m'' → ∀ s, load1 m'' ⟨B1, 0, s⟩ = some (.pointer (some ⟨PB, 0, none⟩)) := fun m'' h s => wS m'' (hS2.trans h) s
      have p7S : ∀ m'', Sees m2 m'' → ∀ s, load1 m'' ⟨PB, 7, s⟩ = some (.slice (some ⟨A7, 0, some 3⟩) es.length es.length) := fun m'' h s => (load1_sees (hS2.trans h) (by have := g2.n; have := hP.lt; omega)).trans (p7' s)
      have lA : ∀ m'', Sees m2 m'' → load1 m'' ⟨A7, ahN es.length i, none⟩ = some (iv q) := fun m'' h => by rw [load1_sees h (by have := g2.n; have := E2.n; omega), hA2.load1]; exact nums_get _ _ _ hq
      simp (maxDischargeDepth := 30) [hk, T1, T3, wS2, p7S, hS2', c2, hidx i hi, hidx _ hai, lA]
      obtain ⟨m3, hm3⟩ : ∃ m3, m3 = behind m2 (aft (ex Try.prog (n + 2)) 69 [Value.pointer (some ⟨PB, 0, none⟩), Value.int IntKind.i64 i] (forAny m2)) := ⟨_, rfl⟩
      have E3 : Ext m2 m3 := by rw [hm3]; simp (maxDischargeDepth := 30) [hS2', c2]
      rw [← hm3]
      have hA3 := hA2.ext E3 (by have := g2.n; have := E2.n; omega)
      obtain ⟨m4, r1, r2, r3, r4, r5, r6, r7⟩ := store1Any (o := i) (v := iv q) hA3 (by have := g2.n; have := E2.n; have := E3.n; omega) (by rw [nums_len]; omega) rfl (by rw [E3.base, E2.base, g2.base]; omega)
      simp [r1]
      refine rnd_end ⟨by rw [r7 _ hLA, E3.obj _ (by have := g2.n; have := E2.n; omega)]; exact ob2, rfl, R2.trans ⟨by rw [r4]; exact E3.n, fun X hX1 hX => by simp at hX; rw [r7 _ hX.1, E3.obj _ (by have := R2.n; omega)], by rw [r5, E3.base], by rw [r6, E3.log]⟩, ?_, ?_⟩
      · rw [hstep, hqd]; rw [nums_set] at r3; exact r3
      · rw [hstep]; exact (hB2.ext E3 (by have := g2.n; have := E2.n; omega)).congr (r7 _ (Ne.symm hAB))
    · have hstep : valStep es (va, last) i = (va, last) := by unfold valStep; rw [hfe, hf, eAt_of he', if_neg (by simp), if_neg hk]
      simp [hk]
      exact rnd_end ⟨ob2, rfl, R2, by rw [hstep]; exact hA2, by rw [hstep]; exact hB2⟩
end Go.Sx

set_option linter.unusedSimpArgs false
set_option linter.unusedVariables false
namespace Go.Sx
open Go.Dx Go.Proofs
theorem Pl.rest {m m' : M} {PB : Nat} {ed av : Value} {es : List (Int × Int)} {ce : List Nat} {b N : Nat} {ex : List Nat} (h : Pl m PB ed av es ce b) (k : Dx.Rest N ex m m') (h1 : PB < N) (h2 : PB ∉ ex) (h3 : ∀ C, blk ed = some C → C < N ∧ C ∉ ex) (h4 : ∀ C, blk av = some C → C < N ∧ C ∉ ex) : Pl m' PB ed av es ce b :=
  ⟨Nat.lt_of_lt_of_le h.lt k.n, fun s => (load1_obj (k.obj _ h1 h2) 0 s).trans (h.p0 s), fun s => (load1_obj (k.obj _ h1 h2) 2 s).trans (h.p2 s), fun s => (load1_obj (k.obj _ h1 h2) 6 s).trans (h.p6 s),
    h.hed.congr k.n fun B hB => k.obj B (h3 B hB).1 (h3 B hB).2, h.hav.congr k.n fun B hB => k.obj B (h4 B hB).1 (h4 B hB).2⟩
def valsF (es : List (Int × Int)) (ch : Nat → List Nat) (va : List Nat) (c : Nat) : List Nat := ((List.range c).foldl (fun va c => ((ch c).foldl (valStep es) (va, 0)).1) va)
theorem valsF_succ (es : List (Int × Int)) (ch : Nat → List Nat) (va : List Nat) (c : Nat) : valsF es ch va (c + 1) = ((ch c).foldl (valStep es) (valsF es ch va c, 0)).1 := by
  unfold valsF; rw [List.range_succ, List.foldl_append]; rfl
theorem valsF_len (es : List (Int × Int)) (ch : Nat → List Nat) (va : List Nat) : ∀ c, (valsF es ch va c).length = va.length
  | 0 => rfl
  | c + 1 => by rw [valsF_succ, valFold_len, valsF_len es ch va c]
theorem values_c (n : Nat) (PB A7 : Nat) (ed av : Value) (es : List (Int × Int)) (ce : List Nat) (b cells : Nat) (ch : Nat → List Nat) (va : List Nat) (hes : es.length ≤ 16) (hb : b < es.length) (hcells : cells ≤ 1000) (hok : ∀ (i : Nat) e, es[i]? = some e → badE e = false)
    (hva : va.length = es.length) (m : M) (hm : m.base ≤ m.n) (hP : Pl m PB ed av es ce b) (p4 : ∀ s, load1 m ⟨PB, 4, s⟩ = some (iv cells)) (p7 : ∀ s, load1 m ⟨PB, 7, s⟩ = some (.slice (some ⟨A7, 0, some 3⟩) es.length es.length)) (hA : Arr m A7 (nums va)) (h7 : A7 < m.n) (bA : m.base ≤ A7) (hPA : PB ≠ A7)
    (heA : ∀ C, blk ed = some C → C ≠ A7) (hvA : ∀ C, blk av = some C → C ≠ A7) (hch : ∀ c, c < cells → ChainOK es ce b c (ch c)) :
    ∃ m', (ex Try.prog (n + 7)).f 70 [.pointer (some ⟨PB, 0, none⟩)] m = some (.tuple #[], m') ∧ Dx.Rest m.n [A7] m m' ∧ Arr m' A7 (nums (valsF es ch va cells)) := by
  have main : ∃ v m', (ex Try.prog (n + 7)).f 70 [.pointer (some ⟨PB, 0, none⟩)] m = some (v, m') ∧ v = .tuple #[] ∧ Dx.Rest m.n [A7] m m' ∧ Arr m' A7 (nums (valsF es ch va cells)) := by
    refine call_ends d_w_plan_values_ok (by simp) ?_
    have hbox : boxS (.pointer (some ⟨PB, 0, none⟩)) m = some (.pointer (some ⟨m.n, 0, none⟩), Dx.newRow m [.pointer (some ⟨PB, 0, none⟩)]) := rfl
    obtain ⟨m1, hm1⟩ : ∃ m1, m1 = Dx.newRow m [.pointer (some ⟨PB, 0, none⟩)] := ⟨_, rfl⟩
    have E1 : Ext m m1 := by rw [hm1]; exact Ext.row _ _
    have n1 : m1.n = m.n + 1 := by rw [hm1, newRow_n]
    have lB1 : ∀ s, load1 m1 ⟨m.n, 0, s⟩ = some (.pointer (some ⟨PB, 0, none⟩)) := fun s => by rw [hm1, (Arr.row m _).load1]; rfl
    rw [← hm1] at hbox
    have p41 : ∀ s, load1 m1 ⟨PB, 4, s⟩ = some (iv cells) := fun s => (load1_obj (E1.obj _ hP.lt) 4 s).trans (p4 s)
    have P1 := hP.sees ((Sees.refl hm).ext E1)
    simp [hbox, lB1, p41]
    refine loop_run (c := c_w_plan_values_18) rfl (Ends _) (fun c t m' => Tm.get 1 t = .pointer (some ⟨m.n, 0, none⟩) ∧ Tm.get 8 t = iv cells ∧ Tm.get 9 t = iv c ∧ Dx.Rest m1.n [A7] m1 m' ∧ Arr m' A7 (nums (valsF es ch va c))) cells (by omega)
      ⟨by simp, by simp, by simp, Rest.refl, hA.ext E1 h7⟩ (fun c t m' k hc hI hk => ?_)
    obtain ⟨h1, h8, h9, hR, hAr⟩ := hI
    by_cases hcl : c < cells
    · have hd := dlt hcl
      have w1 := nextI (i := c) (by omega)
      have hbase : m'.base ≤ m'.n := by rw [hR.base, E1.base]; have := hR.n; omega
      obtain ⟨m2, s1, s2, s3, s4, s5, s6⟩ := store1 (o := 0) (v := iv 0) (Arr.row m' [.int .i64 0]) (by simp) rfl (by unfold Dx.newRow; rw [M.base_alloc]; exact hbase)
      rw [newRow_n] at s3
      have sobj : ∀ X, X < m'.n → m2.obj X = m'.obj X := fun X hX => (s6 X (by omega)).trans ((Ext.row m' _).obj X hX)
      have sbase : m2.base = m'.base := s4.trans (Ext.row m' [.int .i64 0]).base
      have slog : m2.log = m'.log := s5.trans (Ext.row m' [.int .i64 0]).log
      have lB1' : ∀ s, load1 m2 ⟨m.n, 0, s⟩ = some (.pointer (some ⟨PB, 0, none⟩)) := fun s => by
        rw [load1_obj ((sobj _ (by have := hR.n; omega)).trans (hR.obj _ (by omega) (by simp; omega)))]; exact lB1 s
      have hcc := chain_c (n + 5) ⟨PB, 0, none⟩ c m2
      simp [h1, h8, h9, hd, s1, lB1', hcc]
      obtain ⟨m3, hm3⟩ : ∃ m3, m3 = Dx.newRow (Dx.newRow m2 [.pointer (some ⟨PB, 0, none⟩)]) [iv c] := ⟨_, rfl⟩
      rw [← hm3]
      have E3 : Ext m2 m3 := by rw [hm3]; exact (Ext.row _ _).trans (Ext.row _ _)
      have n3 : m3.n = m2.n + 2 := by rw [hm3, newRow_n, newRow_n]
      generalize hT0 : Tm.set 14 _ _ = T0
      have t1 : Tm.get 1 T0 = .pointer (some ⟨m.n, 0, none⟩) := by rw [← hT0]; simp [h1]
      have t3 : Tm.get 3 T0 = .pointer (some ⟨m'.n, 0, none⟩) := by rw [← hT0]; simp
      have t8 : Tm.get 8 T0 = iv cells := by rw [← hT0]; simp [h8]
      have t9 : Tm.get 9 T0 = iv c := by rw [← hT0]; simp [h9]
      have t14 : Tm.get 14 T0 = .func (.func 101) #[] #[.pointer (some ⟨m2.n, 0, none⟩), .pointer (some ⟨m2.n + 1, 0, none⟩)] := by rw [← hT0]; simp
      clear hT0
      obtain ⟨T, hT⟩ : ∃ T, T = keepT [3, 1] T0 := ⟨_, rfl⟩
      have T1 : Tm.get 1 T = .pointer (some ⟨m.n, 0, none⟩) := by rw [hT]; exact (keep_get 1 (by omega) T0 _ (by simp) (by simp)).trans t1
      have T3 : Tm.get 3 T = .pointer (some ⟨m'.n, 0, none⟩) := by rw [hT]; exact (keep_get 3 (by omega) T0 _ (by simp) (by simp)).trans t3
      have ha := ya_weave_plan_values_1_ok
      have hbb := yb_weave_plan_values_1_ok
      obtain ⟨ca, hca⟩ : ∃ ca : Code, ca = (cL (cL (cR (cR (cR (cL (cL (cR (cR (cL (cL (cR (cR (bodyOf Try.f70)))))))))))))) := ⟨_, rfl⟩
      obtain ⟨cb, hcb⟩ : ∃ cb : Code, cb = (cR (cL (cR (cR (cR (cL (cL (cR (cR (cL (cL (cR (cR (bodyOf Try.f70)))))))))))))) := ⟨_, rfl⟩
      rw [← hca] at ha; rw [← hcb] at hbb
      obtain ⟨mE, hmE⟩ : ∃ mE, mE = m3.alloc (.loop 0 T 59 #[15] ca cb none) := ⟨_, rfl⟩
      have nE : mE.n = m3.n + 1 := by rw [hmE, M.n_alloc]
      have eE : ∀ X, X < m3.n → mE.obj X = m3.obj X := fun X hX => by rw [hmE, M.obj_alloc, if_neg (by omega)]
      have bE : mE.base = m.base := by rw [hmE, M.base_alloc, E3.base, sbase, hR.base, E1.base]
      have lE : mE.log = m.log := by rw [hmE, M.log_alloc, E3.log, slog, hR.log, E1.log]
      have RE : Dx.Rest m1.n [A7] m1 mE := hR.trans ⟨by omega, fun X hX _ => by rw [eE X (by have := hR.n; omega), E3.obj X (by have := hR.n; omega), sobj X (by have := hR.n; omega)], by rw [bE, hR.base, E1.base], by rw [lE, hR.log, E1.log]⟩
      have obE : mE.obj m3.n = some (.loop 0 T 59 #[15] ca cb none) := by rw [hmE, M.obj_alloc, if_pos rfl]
      have PE : Pl mE PB ed av es ce b := P1.rest RE (by have := hP.lt; omega) (by simpa using hPA) (fun C hC => ⟨by have := hP.hed.lt C hC; omega, by simpa using heA C hC⟩) (fun C hC => ⟨by have := hP.hav.lt C hC; omega, by simpa using hvA C hC⟩)
      have p7E : ∀ s, load1 mE ⟨PB, 7, s⟩ = some (.slice (some ⟨A7, 0, some 3⟩) es.length es.length) := fun s => by
        rw [load1_obj (RE.obj PB (by have := hP.lt; omega) (by simpa using hPA)), load1_obj (E1.obj _ hP.lt)]; exact p7 s
      have lB1E : ∀ s, load1 mE ⟨m.n, 0, s⟩ = some (.pointer (some ⟨PB, 0, none⟩)) := fun s => (load1_obj (RE.obj _ (by omega) (by simp; omega)) 0 s).trans (lB1 s)
      have hAE : Arr mE A7 (nums (valsF es ch va c)) := hAr.congr (by rw [eE _ (by have := hR.n; omega), E3.obj _ (by have := hR.n; omega), sobj _ (by have := hR.n; omega)])
      have hBE : Arr mE m'.n [iv 0] := by
        have : Arr m2 m'.n [iv 0] := s2
        exact this.congr (by rw [eE _ (by omega), E3.obj _ (by omega)])
      have w1E : ∀ s, load1 mE ⟨m2.n, 0, s⟩ = some (.pointer (some ⟨PB, 0, none⟩)) := fun s => by
        rw [load1_obj (eE _ (by omega)), hm3, load1_obj ((Ext.row (Dx.newRow m2 [.pointer (some ⟨PB, 0, none⟩)]) [iv c]).obj _ (by rw [newRow_n]; omega)), (Arr.row m2 _).load1]; rfl
      have w2E : ∀ s, load1 mE ⟨m2.n + 1, 0, s⟩ = some (iv c) := fun s => by
        have := (Arr.row (Dx.newRow m2 [.pointer (some ⟨PB, 0, none⟩)]) [iv c]).load1 0 s
        rw [newRow_n] at this
        rw [load1_obj (eE _ (by omega)), hm3, this]; rfl
      obtain ⟨⟨k0, hk0, hm1', hm2', hpre, hl0⟩, hcha, hlen⟩ := hch c hcl
      let S : Nat → List Nat × Nat := fun j => ((ch c).take j).foldl (valStep es) (valsF es ch va c, 0)
      have hSl : ∀ j, (S j).1.length = es.length := fun j => by simp only [S]; rw [valFold_len, valsF_len, hva]
      have hS2 : ∀ j, (S j).2 ≤ 2000 := fun j => by
        have := valFold_le es ((ch c).take j) (valsF es ch va c, 0)
        have h2 : ((ch c).take j).length ≤ 1000 := by rw [List.length_take]; omega
        simp only [S]; simp at this h2; omega
      obtain ⟨m5, hrun, j5⟩ := chain1_c (n + 2) m3.n PB m2.n (m2.n + 1) ed av es ce b c hes hb k0 hk0 hm1' hm2' hpre (ch c) hcha hl0 hlen
        (fun j m'' => Dx.Rest mE.n [A7, m'.n, m3.n] mE m'' ∧ Arr m'' A7 (nums (S j).1) ∧ Arr m'' m'.n [iv (S j).2] ∧ m''.obj m3.n = some (.loop 0 T 59 #[15] ca cb none)) mE (by rw [bE]; have := hR.n; omega)
        (fun j m'' h => ⟨h.1.base, h.1.n, PE.rest h.1 (by have := hP.lt; have := hR.n; omega) (by simp; have := hP.lt; have := hR.n; exact ⟨hPA, by omega, by omega⟩)
            (fun C hC => by have := hP.hed.lt C hC; have := hR.n; exact ⟨by omega, by simp; exact ⟨heA C hC, by omega, by omega⟩⟩) (fun C hC => by have := hP.hav.lt C hC; have := hR.n; exact ⟨by omega, by simp; exact ⟨hvA C hC, by omega, by omega⟩⟩),
          fun s => (load1_obj (h.1.obj _ (by omega) (by simp; have := hR.n; omega)) 0 s).trans (w1E s), fun s => (load1_obj (h.1.obj _ (by omega) (by simp; have := hR.n; omega)) 0 s).trans (w2E s)⟩)
        (fun j ma mb h u => ⟨h.1.trans (u.rest _), h.2.1.congr (u.obj _ (by have := hR.n; omega)), h.2.2.1.congr (u.obj _ (by omega)), (u.obj _ (by omega)).trans h.2.2.2⟩)
        (fun j x m'' hx h => by
          obtain ⟨r1, r2, r3, r4⟩ := h
          have hxl := hcha.lt x (List.mem_of_getElem? hx)
          obtain ⟨mp, hmp⟩ : ∃ mp, mp = m''.put m3.n (.loop 1 T 59 #[15] ca cb none) := ⟨_, rfl⟩
          have op : ∀ X, X ≠ m3.n → mp.obj X = m''.obj X := fun X hX => by rw [hmp, M.obj_put, if_neg hX]
          have np : mp.n = m''.n := by rw [hmp, M.n_put]
          have bp : mp.base = m''.base := by rw [hmp, M.base_put]
          have lp : mp.log = m''.log := by rw [hmp]; exact log_put_ge (by rw [r1.base, bE]; have := hR.n; omega) _
          have Rp : Dx.Rest mE.n [A7, m'.n, m3.n] mE mp := r1.trans ⟨by rw [np]; exact Nat.le_refl _, fun X _ hX => op X (by simp at hX; omega), bp, lp⟩
          have hmN := hR.n
          have hPlt := hP.lt
          have hrn := r1.n
          have hrd := yield_run (P := Try.prog) (n := n + 2) (L := m3.n) (args := [iv x]) (t' := Tm.set 15 (iv x) T) (t'' := Tm.set 4 (iv x) (Tm.set 15 (iv x) T)) (m := m'')
            (R := fun e m2 => e = none ∧ Dx.Rest mp.n [A7, m'.n] mp m2 ∧ Arr m2 A7 (nums (valStep es (S j) x).1) ∧ Arr m2 m'.n [iv (valStep es (S j) x).2]) r4 ha hbb rfl (by omega) (fun k => by unfold ya_weave_plan_values_1; simp) (by
              rw [← hmp]
              exact val_round n PB m.n m'.n A7 m3.n ed av es ce b hes hok (S j).1 (S j).2 (hSl j) (hS2 j) x hxl T ca cb mp (by rw [bp, r1.base, bE]; omega)
                (PE.rest Rp (by omega) (by simp; exact ⟨hPA, by omega, by omega⟩) (fun C hC => by have := hP.hed.lt C hC; exact ⟨by omega, by simp; exact ⟨heA C hC, by omega, by omega⟩⟩) (fun C hC => by have := hP.hav.lt C hC; exact ⟨by omega, by simp; exact ⟨hvA C hC, by omega, by omega⟩⟩))
                (fun s => (load1_obj (Rp.obj _ (by omega) (by simp; exact ⟨hPA, by omega, by omega⟩)) 7 s).trans (p7E s))
                (fun s => (load1_obj (Rp.obj _ (by omega) (by simp; omega)) 0 s).trans (lB1E s))
                (r2.congr (op _ (by omega))) (r3.congr (op _ (by omega))) (by omega) (by omega) (by omega) (by omega) (by rw [bp, r1.base, bE]; exact bA) (by rw [bp, r1.base, bE]; omega) (by omega) hPA (by omega) (by omega) (by omega) (by omega) (by omega)
                (fun C hC => by have := hP.hed.lt C hC; exact ⟨heA C hC, by omega⟩) (by rw [hmp, M.obj_put, if_pos rfl]) T1 T3)
          obtain ⟨e, mq, ho2, ⟨rfl, rq, aq, bq⟩, hrd⟩ := hrd
          have hSj : S (j + 1) = valStep es (S j) x := by
            simp only [S]
            obtain ⟨hjl, rfl⟩ := List.getElem?_eq_some_iff.1 hx
            rw [List.take_succ_eq_append_getElem hjl, List.foldl_append]; rfl
          have hqb : mq.base = m''.base := rq.base.trans bp
          have hlq : (mq.put m3.n (.loop 0 T 59 #[15] ca cb none)).log = mq.log := log_put_ge (by rw [hqb, r1.base, bE]; omega) _
          have hnq := rq.n
          rw [hSj]
          refine ⟨_, hrd, ⟨Rp.trans ⟨by rw [M.n_put]; exact hnq, fun X hX1 hX => ?_, by rw [M.base_put]; exact rq.base, by rw [hlq]; exact rq.log⟩, aq.congr (by rw [M.obj_put, if_neg (by omega)]), bq.congr (by rw [M.obj_put, if_neg (by omega)]), by rw [M.obj_put, if_pos rfl]⟩,
            ⟨by rw [M.n_put]; omega, fun X hX1 hX2 => ?_, by rw [M.base_put]; exact hqb, by rw [hlq, rq.log, lp]⟩⟩
          · simp at hX
            rw [M.obj_put, if_neg hX.2.2]; exact rq.obj X (by omega) (by simp; exact ⟨hX.1, hX.2.1⟩)
          · rw [M.obj_put, if_neg (by omega), rq.obj X (by omega) (by simp; omega), op X (by omega)])
        ⟨Rest.refl, by simpa [S] using hAE, by simpa [S] using hBE, obE⟩
      obtain ⟨r1, r2, r3, r4⟩ := j5
      have hSf : (S (ch c).length).1 = valsF es ch va (c + 1) := by rw [valsF_succ]; simp only [S]; rw [List.take_length]
      rw [hSf] at r2
      refine rf_run (c := c_w_plan_values_9) rfl (g := 101) (u := []) (v := [.pointer (some ⟨m2.n, 0, none⟩), .pointer (some ⟨m2.n + 1, 0, none⟩)]) t14 (r := .tuple #[]) (m1 := m5) (st := 0) (by rw [← hT, ← hca, ← hcb, ← hmE]; exact hrun) (by rw [hca, hcb] at r4; exact r4) (by omega) ?_
      unfold goOn
      simp [t9, w1]
      have hmN := hR.n
      refine hk hcl _ _ ?_
      refine ⟨by simp [t1], by simp [t8], by simp, RE.trans ?_, r2.congr (by rw [M.obj_put, if_neg (by omega)])⟩
      exact ⟨by rw [M.n_put]; exact r1.n, fun X hX1 hX => by simp at hX; rw [M.obj_put, if_neg (by omega)]; exact r1.obj X (by omega) (by simp; exact ⟨hX, by omega, by omega⟩), by rw [M.base_put]; exact r1.base, by rw [log_put_ge (by rw [r1.base, bE]; omega)]; exact r1.log⟩
    obtain rfl : c = cells := by omega
    simp [h8, h9]
    exact ends_0 ⟨rfl, ((E1.upto (Nat.le_refl _)).rest _).trans (hR.less (by omega) (fun B hB _ => hB)), hAr⟩
  obtain ⟨v, m', e, rfl, h⟩ := main
  exact ⟨m', e, h⟩
end Go.Sx

set_option linter.unusedSimpArgs false
set_option linter.unusedVariables false
namespace Go.Sx
open Go.Dx Go.Proofs
theorem ret_ones {m0 m : M} {Q : Value → M → Prop} {t : Tm} {p q r : Nat} {a b c : Addr} {u v w : Value} (h1 : Tm.get p t = .pointer (some a)) (h2 : Tm.get q t = .pointer (some b)) (h3 : Tm.get r t = .pointer (some c)) (l1 : load1 m a = some u) (l2 : load1 m b = some v) (l3 : load1 m c = some w)
    (he : Ext m0 m) (hq : Q (.tuple #[u, v, w]) m) : Ret m0 Q (resK [.one p, .one q, .one r] t m) := by
  refine ret_of (l := [u, v, w]) ?_ he hq
  simp only [resV, resOne, h1, h2, h3, vPtr_ptr, ob_some', l1, l2, l3]
/-- the state in which cycles are laid out, one event behind the other -/
structure LS where
  th : List Nat
  ce : List Nat
  wr : List Nat
  t : Nat
  c : Nat
def lstep (es : List (Int × Int)) (N : Nat) (s : LS) (i : Nat) : LS :=
  ⟨s.th.set i s.t, s.ce.set i (s.c % N), if fromE es i then s.wr.set (s.c % N) (s.wr.getD (s.c % N) 0 + 1) else s.wr, if outAt es i then s.t + 1 else s.t, if outAt es i then s.c else s.c + 1⟩
def layE (es : List (Int × Int)) (N : Nat) : List Nat → LS → Option Nat
  | [], _ => none
  | i :: l, s => if fromE es i = true ∧ 2 < s.wr.getD (s.c % N) 0 + 1 then some i else layE es N l (lstep es N s i)
def lay0 (n N : Nat) : LS := ⟨List.replicate n 0, List.replicate n 0, List.replicate N 0, 0, 0⟩
def lays (es : List (Int × Int)) (N : Nat) (l : List Nat) : LS := l.foldl (lstep es N) (lay0 es.length N)
/-- A laid-out cycle, at block PB. -/
structure Laid (m : M) (PB : Nat) (es : List (Int × Int)) (ms : List Int) (b N : Nat) (s : LS) (va : List Nat) : Prop where
  ex : ∃ ed md A5 A6 A7 A8, Pl m PB ed (.slice (some ⟨A6, 0, some 3⟩) es.length es.length) es s.ce b ∧ Rd m md 1 modeRow ms ∧
    (∀ s, load1 m ⟨PB, 1, s⟩ = some md) ∧ (∀ s, load1 m ⟨PB, 3, s⟩ = some (iv (es.length - N : Nat))) ∧ (∀ s, load1 m ⟨PB, 4, s⟩ = some (iv N)) ∧
    (∀ s, load1 m ⟨PB, 5, s⟩ = some (.slice (some ⟨A5, 0, some 3⟩) es.length es.length)) ∧ (∀ s, load1 m ⟨PB, 7, s⟩ = some (.slice (some ⟨A7, 0, some 3⟩) es.length es.length)) ∧ (∀ s, load1 m ⟨PB, 8, s⟩ = some (.slice (some ⟨A8, 0, some 3⟩) N N)) ∧
    Arr m A5 (nums s.th) ∧ Arr m A6 (nums s.ce) ∧ Arr m A7 (nums va) ∧ Arr m A8 (nums s.wr) ∧ A5 < m.n ∧ A6 < m.n ∧ A7 < m.n ∧ A8 < m.n
/-- what lay answers -/
def layA (es : List (Int × Int)) (ms : List Int) : Nat × Nat :=
  if (plainR es ms).2 ≠ 0 then plainR es ms else if cnt es < 2 ∨ es.length - cnt es < 1 then (0, 4) else
  match layE es (es.length - cnt es) (ordL es (begE es)) (lay0 es.length (es.length - cnt es)) with
  | some i => (i, 2)
  | none => (0, 0)
theorem plainR_ok {es : List (Int × Int)} {ms : List Int} (h : (plainR es ms).2 = 0) : ∀ (i : Nat) e, es[i]? = some e → badE e = false := by
  intro i e he
  unfold plainR at h
  by_cases h1 : 16 < es.length
  · rw [if_pos h1] at h; simp at h
  · rw [if_neg h1] at h
    by_cases h2 : ms.length ≠ es.length
    · rw [if_pos h2] at h; simp at h
    · rw [if_neg h2] at h
      cases hf : first es.length fun i => badE (eAt es i) with
      | some j => rw [hf] at h; simp at h
      | none =>
        unfold first at hf
        rw [List.find?_eq_none] at hf
        have := hf i (by simpa using (List.getElem?_eq_some_iff.1 he).1)
        rw [eAt_of he] at this
        simpa using this
def layQ (es : List (Int × Int)) (ms : List Int) (va : List Nat) (v : Value) (m : M) : Prop :=
  ((layA es ms).2 ≠ 0 ∧ v = .tuple #[.pointer none, iv (layA es ms).1, iv (layA es ms).2]) ∨
  ((layA es ms).2 = 0 ∧ ∃ PB, v = .tuple #[.pointer (some ⟨PB, 0, none⟩), iv 0, iv 0] ∧ Laid m PB es ms (begE es) (es.length - cnt es) (lays es (es.length - cnt es) (ordL es (begE es))) va)
end Go.Sx

set_option linter.unusedSimpArgs false
set_option linter.unusedVariables false
namespace Go.Sx
open Go.Dx Go.Proofs
/-- the numbers of lay's blocks, and the values that stay -/
structure LB where
  c0 : Nat
  r2 : Nat
  r3 : Nat
  r4 : Nat
  A5 : Nat
  A6 : Nat
  A7 : Nat
  PB : Nat
  q8 : Nat
  ed : Value
  md : Value
  v1 : Value
  v2 : Value
  n : Nat
  rest : List (Nat × List Value)
def LB.pl (u : LB) (b th ce : Nat) (s8 : Value) : List Value := [u.v1, u.v2, iv b, iv th, iv ce, .slice (some ⟨u.A5, 0, some 3⟩) u.n u.n, .slice (some ⟨u.A6, 0, some 3⟩) u.n u.n, .slice (some ⟨u.A7, 0, some 3⟩) u.n u.n, s8]
/-- lay's blocks ahead of the walk -/
def LB.σ (u : LB) (b th ce : Nat) : List (Nat × List Value) := [(u.q8, [.pointer (some ⟨u.PB, 0, none⟩)]), (u.PB, u.pl b th ce (.slice none 0 0)), (u.A7, nums (List.replicate u.n 0)), (u.A6, nums (List.replicate u.n 0)), (u.A5, nums (List.replicate u.n 0)),
  (u.r4, [.int .i64 0]), (u.r3, [.int .i64 0]), (u.r2, [.pointer none]), (u.c0, [u.ed, u.md])] ++ u.rest
/-- the temporaries that are kept -/
structure LT (u : LB) (t : Tm) : Prop where
  t1 : Tm.get 1 t = .pointer (some ⟨u.c0, 0, none⟩)
  t2 : Tm.get 2 t = .pointer (some ⟨u.r2, 0, none⟩)
  t3 : Tm.get 3 t = .pointer (some ⟨u.r3, 0, none⟩)
  t4 : Tm.get 4 t = .pointer (some ⟨u.r4, 0, none⟩)
  t8 : Tm.get 8 t = .pointer (some ⟨u.q8, 0, none⟩)
theorem lay_count (n : Nat) (u : LB) (es : List (Int × Int)) (hes : es.length ≤ 16) (m0 m : M) (hed : Rd m0 u.ed 2 edgeRow es) (Q : Option Out → Prop) (kn kr : K) (ke : Nat → K) (t : Tm) (hT : LT u t) (t42 : Tm.get 42 t = u.ed) (t43 : Tm.get 43 t = iv es.length) (t44 : Tm.get 44 t = iv 0)
    (hst : St m0 m (u.σ 0 0 0)) (hQ : ∀ t' m', LT u t' → St m0 m' (u.σ 0 (cnt es) (es.length - cnt es)) → Q (kn t' m')) : Q (c_w_lay_13 (ex Try.prog (n + 1)) kn (outOf 0 kn ke) kr t m) := by
  refine loop_run (c := c_w_lay_13) rfl Q (fun i t m' => LT u t ∧ Tm.get 42 t = u.ed ∧ Tm.get 43 t = iv es.length ∧ Tm.get 44 t = iv i ∧ St m0 m' (u.σ 0 (cnt (es.take i)) (i - cnt (es.take i)))) es.length (by omega)
    ⟨hT, t42, t43, t44, by simpa [cnt] using hst⟩ (fun i t m' k hi hI hk => ?_)
  obtain ⟨hT, h42, h43, h44, st⟩ := hI
  obtain ⟨h1, h2, h3, h4, h8⟩ := hT
  by_cases hil : i < es.length
  · obtain ⟨e, he⟩ : ∃ e, es[i]? = some e := ⟨_, List.getElem?_eq_getElem hil⟩
    have hS := st.sees
    have ⟨a1, a2, a3⟩ := (hed.sees hS).at he
    have a2' : loads m' (adr 2 u.ed i) 2 = some [iv e.1, iv e.2] := a2 m' hS.self
    have hd := dlt hil
    have w1 := nextI (i := i) (by omega)
    obtain ⟨m2, f1, f2, f3, f4, f5⟩ := local_fill' (m := m') hS.base (zs := [.int .i64 0, .int .i64 0]) (l := [iv e.1, iv e.2]) (v := .agg ⟨[iv e.1, iv e.2]⟩) (n := 2) rfl rfl rfl (by simp [okC])
    obtain ⟨v3, m3, g1, g2, rfl⟩ := outer_c n e.1 e.2 m2
    have st3 := (st.step f4).step g2
    have hc := cnt_succ he
    have hcl := cnt_le es i
    have l8 := (st3.get 0 rfl).2.2.load1 0
    have lp3 := (st3.get 1 rfl).2.2.load1 3
    have lp4 := (st3.get 1 rfl).2.2.load1 4
    simp [LB.pl] at lp3 lp4 l8
    simp [h1, h8, h42, h43, h44, hd, a1, a2', loadNS_ptr, f1, f3, g1, l8, lp3, lp4]
    by_cases ho : e.1 ≤ 3
    · have hoe : outerE e = true := by simpa [outerE] using ho
      rw [hoe, if_pos rfl] at hc
      obtain ⟨m4, s1, s2, s3, s4⟩ := st3.store 1 rfl (o := 3) (v := iv (cnt (es.take (i + 1)))) (by simp [LB.pl]) rfl
      have wc := nextI (i := cnt (es.take i)) (by omega)
      rw [← hc] at wc
      simp [ho, h8, l8, wc, lp3, s1, h44, w1]
      refine hk hil _ _ ?_
      refine ⟨⟨by simp [h1], by simp [h2], by simp [h3], by simp [h4], by simp [h8]⟩, by simp [h42], by simp [h43], by simp, ?_⟩
      rw [show i + 1 - cnt (es.take (i + 1)) = i - cnt (es.take i) by omega]
      exact s2
    · have hoe : outerE e = false := by simpa [outerE] using ho
      rw [hoe, if_neg (by simp)] at hc
      obtain ⟨d, hdd⟩ : ∃ d, d = i - cnt (es.take i) := ⟨_, rfl⟩
      obtain ⟨d', hdd'⟩ : ∃ d', d' = i + 1 - cnt (es.take (i + 1)) := ⟨_, rfl⟩
      obtain ⟨m4, s1, s2, s3, s4⟩ := st3.store 1 rfl (o := 4) (v := iv d') (by simp [LB.pl]) rfl
      have wc := nextI (i := d) (by omega)
      rw [show d + 1 = d' by omega] at wc
      rw [← hdd] at lp4
      simp [ho, h8, l8, wc, lp4, s1, h44, w1]
      refine hk hil _ _ ?_
      refine ⟨⟨by simp [h1], by simp [h2], by simp [h3], by simp [h4], by simp [h8]⟩, by simp [h42], by simp [h43], by simp, ?_⟩
      have : cnt (es.take (i + 1)) = cnt (es.take i) := by omega
      rw [hdd', this] at s2
      rw [this]
      exact s2
  obtain rfl : i = es.length := by omega
  rw [List.take_length] at st
  simp [h43, h44]
  exact hQ _ _ ⟨by simp [h1], by simp [h2], by simp [h3], by simp [h4], by simp [h8]⟩ st
theorem lay_begin (n : Nat) (u : LB) (es : List (Int × Int)) (hes : es.length ≤ 16) (m0 m : M) (hed : Rd m0 u.ed 2 edgeRow es) (h1d : ∀ m', Ext m0 m' → True) (hv1 : ∀ m' th ce b, St m0 m' (u.σ b th ce) → lenS u.v1 = some (iv es.length)) (th ce b : Nat) (hb : first es.length (begP es) = some b)
    (Q : Option Out → Prop) (kn kr : K) (ke : Nat → K) (t : Tm) (hT : LT u t)
    (hst : St m0 m (u.σ 0 th ce)) (hQ : ∀ t' m', LT u t' → St m0 m' (u.σ b th ce) → Q (kn t' m')) : Q (c_w_lay_23 (ex Try.prog (n + 1)) kn (outOf 2 kn ke) kr t m) := by
  obtain ⟨hbp, hbl, hbb⟩ : begP es b = true ∧ b < es.length ∧ ∀ j, j < b → begP es j = false := by
    unfold first at hb
    rw [List.find?_range_eq_some] at hb
    exact ⟨hb.1, by simpa using hb.2.1, fun j hj => by simpa using hb.2.2 j hj⟩
  refine loop_run (c := c_w_lay_23) rfl Q (fun i t m' => i ≤ b ∧ LT u t ∧ St m0 m' (u.σ i th ce)) (b + 1) (by omega)
    ⟨by omega, hT, hst⟩ (fun i t m' k hi hI hk => ?_)
  obtain ⟨hib, hT, st⟩ := hI
  obtain ⟨h1, h2, h3, h4, h8⟩ := hT
  have hS := st.sees
  have hil : i < es.length := by omega
  obtain ⟨e, he⟩ : ∃ e, es[ahN es.length i]? = some e := ⟨_, List.getElem?_eq_getElem (ahN_lt hil)⟩
  have ⟨a1, a2, a3⟩ := (hed.sees hS).at he
  have a2' : ∀ m'', Sees m' m'' → loads m'' (adr 2 u.ed (ahN es.length i)) 2 = some [iv e.1, iv e.2] := a2
  have w1 := nextI (i := i) (by omega)
  have hS' := hS.self
  have lc : ∀ m'', Sees m' m'' → ∀ s, load1 m'' ⟨u.c0, 0, s⟩ = some u.ed := fun m'' h s => by rw [load1_sees h (st.get 8 rfl).2.1, (st.get 8 rfl).2.2.load1]; rfl
  have l8 : ∀ m'', Sees m' m'' → ∀ s, load1 m'' ⟨u.q8, 0, s⟩ = some (.pointer (some ⟨u.PB, 0, none⟩)) := fun m'' h s => by rw [load1_sees h (st.get 0 rfl).2.1, (st.get 0 rfl).2.2.load1]; rfl
  have lp0 : ∀ m'', Sees m' m'' → ∀ s, load1 m'' ⟨u.PB, 0, s⟩ = some u.v1 := fun m'' h s => by rw [load1_sees h (st.get 1 rfl).2.1, (st.get 1 rfl).2.2.load1]; rfl
  have lp2 : ∀ m'', Sees m' m'' → ∀ s, load1 m'' ⟨u.PB, 2, s⟩ = some (iv i) := fun m'' h s => by rw [load1_sees h (st.get 1 rfl).2.1, (st.get 1 rfl).2.2.load1]; rfl
  have c1 := Call.use (m0 := m') fun m'' h => pahead_c n u.PB u.v1 es.length i hil (by omega) m'' (lp0 m'' h none) (hv1 m' th ce i st)
  have c2 := Call.use (m0 := m') fun m'' _ => outer_c n e.1 e.2 m''
  have hp : begP es i = decide (e.1 ≤ 3) := by unfold begP outAt; rw [eAt_of he]; rfl
  simp (maxDischargeDepth := 30) [h1, h8, lc, l8, lp0, lp2, loadNS_ptr, hS', a1, a2', c1, c2]
  obtain ⟨m2, hm2⟩ : ∃ m2, m2 = behind (behind m' (aft (ex Try.prog (n + 1)) 69 [Value.pointer (some ⟨u.PB, 0, none⟩), Value.int IntKind.i64 i] (forAny m')))
    (aft (ex Try.prog (n + 1)) 68 [Value.agg #[iv e.1, iv e.2]] (forAny (behind m' (aft (ex Try.prog (n + 1)) 69 [Value.pointer (some ⟨u.PB, 0, none⟩), Value.int IntKind.i64 i] (forAny m'))))) := ⟨_, rfl⟩
  have E2 : Ext m' m2 := by rw [hm2]; simp (maxDischargeDepth := 30) [hS', c1, c2]
  rw [← hm2]
  have st2 := st.step E2
  have hS2 := hS'.ext E2
  by_cases p6 : e.1 ≤ 3
  · obtain rfl : i = b := by
      rcases Nat.lt_or_ge i b with h | h
      · have := hbb i h; rw [hp, decide_eq_true p6] at this; cases this
      · omega
    simp [p6]
    exact hQ _ _ ⟨by simp [h1], by simp [h2], by simp [h3], by simp [h4], by simp [h8]⟩ st2
  · have hne : i ≠ b := by rintro rfl; rw [hp] at hbp; exact p6 (by simpa using hbp)
    obtain ⟨j, hj⟩ : ∃ j, j = i + 1 := ⟨_, rfl⟩
    rw [← hj] at w1 hk
    obtain ⟨m4, s1, s2, s3, s4⟩ := st2.store 1 rfl (o := 2) (v := iv j) (by simp [LB.pl]) rfl
    simp [p6, h8, l8, lp2, hS2, w1, s1]
    refine hk (by omega) _ _ ?_
    exact ⟨by omega, ⟨by simp [h1], by simp [h2], by simp [h3], by simp [h4], by simp [h8]⟩, s2⟩
end Go.Sx

set_option linter.unusedSimpArgs false
set_option linter.unusedVariables false
namespace Go.Sx
open Go.Dx Go.Proofs
/-- lay's further blocks -/
structure LC extends LB where
  A8 : Nat
  k11 : Nat
  k12 : Nat
  W : Nat
  N : Nat
  b : Nat
def LC.σ2 (u : LC) (s : LS) (r2 r3 r4 : Value) : List (Nat × List Value) := [(u.W, [.pointer (some ⟨u.PB, 0, none⟩)]), (u.k12, [iv s.c]), (u.k11, [iv s.t]), (u.A8, nums s.wr), (u.q8, [.pointer (some ⟨u.PB, 0, none⟩)]), (u.PB, u.pl u.b (u.n - u.N) u.N (.slice (some ⟨u.A8, 0, some 3⟩) u.N u.N)),
  (u.A7, nums (List.replicate u.n 0)), (u.A6, nums s.ce), (u.A5, nums s.th), (u.r4, [r4]), (u.r3, [r3]), (u.r2, [r2]), (u.c0, [u.ed, u.md])] ++ u.rest
theorem _root_.Go.Dx.St.putL {m0 m : M} {σ : List (Nat × List Value)} (h : St m0 m σ) {L : Nat} (hL : ∀ p ∈ σ, p.1 ≠ L) (h0 : m0.n ≤ L) (o : DObj) : St m0 (m.put L o) σ :=
  ⟨⟨by rw [M.n_put]; exact h.ext.n, fun X hX => by rw [M.obj_put, if_neg (by omega)]; exact h.ext.obj X hX, by rw [M.base_put]; exact h.ext.base, by rw [log_put_ge (by have := h.ext.base; have := h.base; omega)]; exact h.ext.log⟩, h.base,
    fun p hp => let ⟨h1, h2, h3⟩ := h.arr p hp; ⟨h1, by rw [M.n_put]; exact h2, h3.congr (by rw [M.obj_put, if_neg (hL p hp)])⟩, h.nd⟩
/-- a round's end: which counter goes on -/
theorem lay_tail (n : Nat) (u : LC) (es : List (Int × Int)) (m0 m : M) (hed : Rd m0 u.ed 2 edgeRow es) (s : LS) (hst16 : s.t ≤ 1000) (hsc16 : s.c ≤ 1000) (i : Nat) (hi : i < es.length) (L : Nat) (O : DObj) (t : Tm)
    (h1 : Tm.get 1 t = .pointer (some ⟨u.c0, 0, none⟩)) (t11 : Tm.get 11 t = .pointer (some ⟨u.k11, 0, none⟩)) (t12 : Tm.get 12 t = .pointer (some ⟨u.k12, 0, none⟩)) (t13 : Tm.get 13 t = iv i)
    (hst : St m0 m (u.σ2 s (.pointer none) (iv 0) (iv 0))) (hL : ∀ p ∈ u.σ2 s (.pointer none) (iv 0) (iv 0), p.1 ≠ L) (hL0 : L < m.n) (hob : m.obj L = some O) (P : Option E → M → Prop)
    (hP : ∀ m2, m2.obj L = some O → m.n ≤ m2.n → St m0 m2 (u.σ2 ⟨s.th, s.ce, s.wr, if outAt es i then s.t + 1 else s.t, if outAt es i then s.c else s.c + 1⟩ (.pointer none) (iv 0) (iv 0)) → P none m2) :
    Rnd P (c_w_lay_32 (ex Try.prog (n + 2)) (endE none) (outOf 5 (endE none) exitE) (endE (some E.ret)) t m) := by
  obtain ⟨e, he⟩ : ∃ e, es[i]? = some e := ⟨_, List.getElem?_eq_getElem hi⟩
  have hoe : outAt es i = decide (e.1 ≤ 3) := (outer_out he).symm
  have hS := hst.sees
  have ⟨a1, a2, a3⟩ := (hed.sees hS).at he
  have a2' : loads m (adr 2 u.ed i) 2 = some [iv e.1, iv e.2] := a2 m hS.self
  have lc : ∀ s, load1 m ⟨u.c0, 0, s⟩ = some u.ed := fun s => by rw [(hst.get 12 rfl).2.2.load1]; rfl
  obtain ⟨v3, m3, g1, g2, rfl⟩ := outer_c (n + 1) e.1 e.2 m
  rw [outer_out he] at g1
  have st3 := hst.step g2
  have lk11 : ∀ q, load1 m3 ⟨u.k11, 0, q⟩ = some (iv s.t) := fun q => by rw [(st3.get 2 rfl).2.2.load1]; rfl
  have lk12 : ∀ q, load1 m3 ⟨u.k12, 0, q⟩ = some (iv s.c) := fun q => by rw [(st3.get 1 rfl).2.2.load1]; rfl
  have hne : ∀ (k : Nat) b l, (u.σ2 s (.pointer none) (iv 0) (iv 0))[k]? = some (b, l) → L ≠ b := fun k b l hk => (hL _ (List.mem_of_getElem? hk)).symm
  have ob3 : m3.obj L = some O := by rw [g2.obj _ hL0]; exact hob
  simp [h1, t13, lc, a1, a2', loadNS_ptr, g1]
  cases ho : outAt es i with
  | true =>
    have w := nextI (i := s.t) (by omega)
    obtain ⟨j, hj⟩ : ∃ j, j = s.t + 1 := ⟨_, rfl⟩
    rw [← hj] at w
    obtain ⟨m4, r1, r2, r3, r4⟩ := st3.store 2 rfl (o := 0) (v := iv j) (by simp) rfl
    simp [t11, lk11, w, r1]
    refine rnd_end (hP _ (by rw [r4 _ (hne 2 _ _ rfl)]; exact ob3) (by rw [r3]; exact g2.n) ?_)
    rw [ho, ← hj]
    exact r2
  | false =>
    have w := nextI (i := s.c) (by omega)
    obtain ⟨j, hj⟩ : ∃ j, j = s.c + 1 := ⟨_, rfl⟩
    rw [← hj] at w
    obtain ⟨m4, r1, r2, r3, r4⟩ := st3.store 1 rfl (o := 0) (v := iv j) (by simp) rfl
    simp [t12, lk12, w, r1]
    refine rnd_end (hP _ (by rw [r4 _ (hne 1 _ _ rfl)]; exact ob3) (by rw [r3]; exact g2.n) ?_)
    rw [ho, ← hj]
    exact r2
/-- one event is laid out -/
theorem lay_round (n : Nat) (u : LC) (es : List (Int × Int)) (hes : es.length ≤ 16) (hok : ∀ (i : Nat) e, es[i]? = some e → badE e = false) (m0 m : M) (hed : Rd m0 u.ed 2 edgeRow es) (B1 : Nat) (rest' : List (Nat × List Value)) (hv1 : u.v1 = .slice (some ⟨B1, 0, some (code 2 false)⟩) es.length es.length) (hfe : u.rest = (B1, es.flatMap edgeRow) :: rest') (hne : es ≠ [])
    (hun : u.n = es.length) (hN : 0 < u.N) (hN16 : u.N ≤ 16) (s : LS) (hth : s.th.length = es.length) (hce : s.ce.length = es.length) (hwr : s.wr.length = u.N) (hst16 : s.t ≤ 1000) (hsc16 : s.c ≤ 1000) (hwb : ∀ x ∈ s.wr, x ≤ 1000) (i : Nat) (hi : i < es.length) (L : Nat) (T : Tm) (ca cb : Code) (hT : LT u.toLB T)
    (t11 : Tm.get 11 T = .pointer (some ⟨u.k11, 0, none⟩)) (t12 : Tm.get 12 T = .pointer (some ⟨u.k12, 0, none⟩)) (hst : St m0 m (u.σ2 s (.pointer none) (iv 0) (iv 0))) (hL : ∀ p ∈ u.σ2 s (.pointer none) (iv 0) (iv 0), p.1 ≠ L) (hL0 : L < m.n)
    (hob : m.obj L = some (.loop 1 T 173 #[106] ca cb none)) :
    Rnd (fun e m2 => m2.obj L = some (.loop 1 T 173 #[106] ca cb none) ∧ m.n ≤ m2.n ∧ ((e = none ∧ ¬ (fromE es i = true ∧ 2 < s.wr.getD (s.c % u.N) 0 + 1) ∧ St m0 m2 (u.σ2 (lstep es u.N s i) (.pointer none) (iv 0) (iv 0))) ∨
        (e = some .ret ∧ (fromE es i = true ∧ 2 < s.wr.getD (s.c % u.N) 0 + 1) ∧ ∃ s', St m0 m2 (u.σ2 s' (.pointer none) (iv i) (iv 2)))))
      (yb_weave_lay_1 (ex Try.prog (n + 2)) (endE none) exitE (endE (some .ret)) (Tm.set 13 (iv i) (Tm.set 106 (iv i) T)) m) := by
  suffices H : ∀ PP : Option E → M → Prop, (∀ e m2, (m2.obj L = some (.loop 1 T 173 #[106] ca cb none) ∧ m.n ≤ m2.n ∧ ((e = none ∧ ¬ (fromE es i = true ∧ 2 < s.wr.getD (s.c % u.N) 0 + 1) ∧ St m0 m2 (u.σ2 (lstep es u.N s i) (.pointer none) (iv 0) (iv 0))) ∨
        (e = some .ret ∧ (fromE es i = true ∧ 2 < s.wr.getD (s.c % u.N) 0 + 1) ∧ ∃ s', St m0 m2 (u.σ2 s' (.pointer none) (iv i) (iv 2))))) → PP e m2) → Rnd PP (yb_weave_lay_1 (ex Try.prog (n + 2)) (endE none) exitE (endE (some .ret)) (Tm.set 13 (iv i) (Tm.set 106 (iv i) T)) m) from H _ fun _ _ h => h
  intro PP hPP
  unfold yb_weave_lay_1
  obtain ⟨h1, h2, h3, h4, h8⟩ := hT
  obtain ⟨e, he⟩ : ∃ e, es[i]? = some e := ⟨_, List.getElem?_eq_getElem hi⟩
  have hfe' : fromE es i = fromI e.1 := by unfold fromE; rw [eAt_of he]
  have hoe : outAt es i = decide (e.1 ≤ 3) := (outer_out he).symm
  have hidx5 := made_idx u.A5 u.n i (by omega)
  have hidx6 := made_idx u.A6 u.n i (by omega)
  obtain ⟨r, hr⟩ : ∃ r, r = s.c % u.N := ⟨_, rfl⟩
  have hrN : r < u.N := by rw [hr]; exact Nat.mod_lt _ hN
  have hrem : binV .rem (.int .i64 (s.c : Int)) (.int .i64 (u.N : Int)) = some (.int .i64 (r : Int)) := by rw [hr]; exact binV_rem hN
  have hidx8 := made_idx u.A8 u.N r hrN
  have hLn : ∀ (k : Nat) b l s' v, (u.σ2 s' v (iv 0) (iv 0))[k]? = some (b, l) → L ≠ b := fun k b l s' v hk => by
    have h2 : (u.σ2 s' v (iv 0) (iv 0)).map (·.1) = (u.σ2 s (.pointer none) (iv 0) (iv 0)).map (·.1) := rfl
    have hb : b ∈ (u.σ2 s' v (iv 0) (iv 0)).map (·.1) := List.mem_map.2 ⟨_, List.mem_of_getElem? hk, rfl⟩
    rw [h2] at hb
    obtain ⟨p, hp, rfl⟩ := List.mem_map.1 hb
    exact (hL p hp).symm
  have hkA : u.k12 ≠ u.A5 := fun h => absurd (nodup_at hst.nd (i := 1) (j := 8) rfl rfl h) (by omega)
  have ld := hst.loads
  simp [Loads, LC.σ2, LB.pl] at ld
  -- the first two stores
  obtain ⟨m1', s1, s2, s3, s4, s5⟩ := hst.storeAny 8 rfl (o := i) (v := iv s.t) (by rw [nums_len]; omega) rfl
  obtain ⟨M1, hM1⟩ : ∃ M, M = behind m m1' := ⟨_, rfl⟩
  rw [← hM1] at s3 s4 s5
  obtain ⟨m2', r1, r2, r3, r4, r5⟩ := s3.storeAny 7 rfl (o := i) (v := iv r) (by rw [nums_len]; omega) rfl
  obtain ⟨M2, hM2⟩ : ∃ M, M = behind M1 m2' := ⟨_, rfl⟩
  rw [← hM2] at r3 r4 r5
  have st2 : St m0 M2 (u.σ2 ⟨s.th.set i s.t, s.ce.set i r, s.wr, s.t, s.c⟩ (.pointer none) (iv 0) (iv 0)) := by
    have := r3
    simp only [LC.σ2, List.cons_append, List.nil_append, List.set_cons_succ, List.set_cons_zero] at this
    rw [show (iv (r : Int)) = Value.int .i64 (r : Int) from rfl, show (iv (s.t : Int)) = Value.int .i64 (s.t : Int) from rfl, nums_set, nums_set] at this
    exact this
  have ob2 : M2.obj L = some (.loop 1 T 173 #[106] ca cb none) := by rw [r5 _ (hLn 7 _ _ s (.pointer none) rfl), s5 _ (hLn 8 _ _ s (.pointer none) rfl)]; exact hob
  have n2 : M2.n = m.n := by rw [r4, s4]
  have ld2 := st2.loads
  simp [Loads, LC.σ2, LB.pl] at ld2
  have hrd1 : ∀ m' s' v, St m0 m' (u.σ2 s' v (iv 0) (iv 0)) → Rd m' u.v1 2 edgeRow es := fun m' s' v h => by
    have := h.get (b := B1) (l := es.flatMap edgeRow) 13 (by unfold LC.σ2; rw [hfe]; rfl)
    have hG : Grown m0 m' u.v1 2 edgeRow es := .inr ⟨B1, this.1, this.2.1, hne, hv1, this.2.2⟩
    exact hG.rd edgeRow_len
  have hbk := badE_kind (hok i e he)
  obtain ⟨v3, m3, g1, g2, rfl⟩ := kind_c n u.PB u.v1 es e i he hbk.1 hbk.2 M2 st2.sees.base (by rw [(st2.get 5 rfl).2.2.load1]; rfl) (hrd1 _ _ _ st2)
  have st3 := st2.step g2
  have ld3 := st3.loads
  simp [Loads, LC.σ2, LB.pl] at ld3
  have ob3 : m3.obj L = some (.loop 1 T 173 #[106] ca cb none) := by rw [g2.obj _ (by omega)]; exact ob2
  rw [hun] at hidx5 hidx6
  simp [h1, h2, h3, h4, h8, t11, t12, ld, hun, hidx5, hidx6, hrem, s1, s2, hkA, ← hM1, r1, r2, ← hM2, ld2, g1, binV_kind_eq2]
  have hL' : ∀ s', ∀ p ∈ u.σ2 s' (.pointer none) (iv 0) (iv 0), p.1 ≠ L := fun s' p hp => by
    have h2 : (u.σ2 s' (.pointer none) (iv 0) (iv 0)).map (·.1) = (u.σ2 s (.pointer none) (iv 0) (iv 0)).map (·.1) := rfl
    have hb : p.1 ∈ (u.σ2 s' (.pointer none) (iv 0) (iv 0)).map (·.1) := List.mem_map.2 ⟨_, hp, rfl⟩
    rw [h2] at hb
    obtain ⟨p', hp', e⟩ := List.mem_map.1 hb
    rw [← e]; exact hL p' hp'
  obtain ⟨w, hw⟩ : ∃ w, s.wr[r]? = some w := ⟨_, List.getElem?_eq_getElem (by omega)⟩
  have hwd : s.wr.getD (s.c % u.N) 0 = w := by rw [← hr]; simp [hw]
  have hww : w ≤ 1000 := hwb w (List.mem_of_getElem? hw)
  cases hf : fromI e.1 with
  | false =>
    simp
    refine lay_tail n u es m0 m3 hed ⟨s.th.set i s.t, s.ce.set i r, s.wr, s.t, s.c⟩ hst16 hsc16 i hi L _ _ ?_ ?_ ?_ ?_ st3 (hL' _) (by have := g2.n; omega) ob3 _ (fun m5 o5 n5 st5 => hPP _ _ ⟨o5, by have := g2.n; omega, .inl ⟨rfl, ?_, ?_⟩⟩)
    · simp [h1]
    · simp [t11]
    · simp [t12]
    · simp
    · rw [hfe', hf]; simp
    · have : lstep es u.N s i = ⟨s.th.set i s.t, s.ce.set i r, s.wr, if outAt es i then s.t + 1 else s.t, if outAt es i then s.c else s.c + 1⟩ := by unfold lstep; rw [hfe', hf, ← hr]; simp
      rw [this]; exact st5
  | true =>
    have l6 : ∀ q, load1 m3 ⟨u.A6, i, q⟩ = some (iv r) := fun q => by rw [(st3.get 7 rfl).2.2.load1]; exact nums_get _ _ _ (by rw [List.getElem?_set_self (by omega)])
    have l8 : ∀ q, load1 m3 ⟨u.A8, r, q⟩ = some (iv w) := fun q => by rw [(st3.get 3 rfl).2.2.load1]; exact nums_get _ _ _ hw
    have ww := nextI (i := w) (by omega)
    obtain ⟨w', hw'⟩ : ∃ w', w' = w + 1 := ⟨_, rfl⟩
    rw [← hw'] at ww
    obtain ⟨m4', p1, p2, p3, p4, p5⟩ := st3.storeAny 3 rfl (o := r) (v := iv w') (by rw [nums_len]; show r < s.wr.length; omega) rfl
    obtain ⟨M4, hM4⟩ : ∃ M, M = behind m3 m4' := ⟨_, rfl⟩
    rw [← hM4] at p3 p4 p5
    have st4 : St m0 M4 (u.σ2 ⟨s.th.set i s.t, s.ce.set i r, s.wr.set r w', s.t, s.c⟩ (.pointer none) (iv 0) (iv 0)) := by
      have := p3
      simp only [LC.σ2, List.cons_append, List.nil_append, List.set_cons_succ, List.set_cons_zero] at this
      rw [show (iv (w' : Int)) = Value.int .i64 (w' : Int) from rfl, nums_set] at this
      exact this
    have ob4 : M4.obj L = some (.loop 1 T 173 #[106] ca cb none) := by rw [p5 _ (hLn 3 _ _ s (.pointer none) rfl)]; exact ob3
    have ld4 := st4.loads
    simp [Loads, LC.σ2, LB.pl] at ld4
    have l64 : ∀ q, load1 M4 ⟨u.A6, i, q⟩ = some (iv r) := fun q => by rw [(st4.get 7 rfl).2.2.load1]; exact nums_get _ _ _ (by rw [List.getElem?_set_self (by omega)])
    have l84 : ∀ q, load1 M4 ⟨u.A8, r, q⟩ = some (iv w') := fun q => by rw [(st4.get 3 rfl).2.2.load1]; exact nums_get _ _ _ (by rw [List.getElem?_set_self (by omega)])
    rw [hun] at ld3 ld4
    have g6 : (nums (s.ce.set i r))[i]? = some (iv r) := nums_get _ _ _ (by rw [List.getElem?_set_self (by omega)])
    have g8 : (nums s.wr)[r]? = some (iv w) := nums_get _ _ _ hw
    have g84 : (nums (s.wr.set r w'))[r]? = some (iv w') := nums_get _ _ _ (by rw [List.getElem?_set_self (by omega)])
    simp [h8, ld3, ld4, hidx6, hidx8, g6, g8, ww, p1, p2, ← hM4, g84]
    by_cases hbig : 2 < w'
    · have hb' : ((2 : Int) < (w' : Int)) = True := eq_true (by omega)
      obtain ⟨m5, c1, c2, c3, c4⟩ := st4.store 11 rfl (o := 0) (v := .pointer none) (by simp) rfl
      obtain ⟨m6, d1, d2, d3, d4⟩ := c2.store 10 rfl (o := 0) (v := iv i) (by simp) rfl
      obtain ⟨m7, f1, f2, f3, f4⟩ := d2.store 9 rfl (o := 0) (v := iv 2) (by simp) rfl
      simp [hb', h2, h3, h4, c1, d1, f1]
      refine rnd_end (hPP _ _ ⟨?_, ?_, .inr ⟨rfl, ⟨by rw [hfe', hf], by rw [hwd]; omega⟩, _, f2⟩⟩)
      · rw [f4 _ (hLn 9 _ _ s (.pointer none) rfl), d4 _ (hLn 10 _ _ s (.pointer none) rfl), c4 _ (hLn 11 _ _ s (.pointer none) rfl)]; exact ob4
      · have := g2.n; omega
    · have hb' : ((2 : Int) < (w' : Int)) = False := eq_false (by omega)
      simp [hb']
      refine lay_tail n u es m0 M4 hed ⟨s.th.set i s.t, s.ce.set i r, s.wr.set r w', s.t, s.c⟩ hst16 hsc16 i hi L _ _ ?_ ?_ ?_ ?_ st4 (hL' _) (by have := g2.n; omega) ob4 _ (fun m5 o5 n5 st5 => hPP _ _ ⟨o5, by have := g2.n; omega, .inl ⟨rfl, ?_, ?_⟩⟩)
      · simp [h1]
      · simp [t11]
      · simp [t12]
      · simp
      · rw [hwd]; omega
      · have : lstep es u.N s i = ⟨s.th.set i s.t, s.ce.set i r, s.wr.set r w', if outAt es i then s.t + 1 else s.t, if outAt es i then s.c else s.c + 1⟩ := by unfold lstep; rw [hfe', hf, hwd, ← hr, hw']; simp
        rw [this]; exact st5
end Go.Sx

set_option linter.unusedSimpArgs false
set_option linter.unusedVariables false
namespace Go.Sx
open Go.Dx Go.Proofs
theorem _root_.Go.Dx.St.addLast {m0 m : M} {σ : List (Nat × List Value)} (h : St m0 m σ) {B1 B2 : Nat} {l1 l2 : List Value} (h1 : Arr m B1 l1) (h2 : Arr m B2 l2) (k1 : ∀ p ∈ σ, p.1 < B1) (k2 : ∀ p ∈ σ, p.1 < B2) (a1 : m0.n ≤ B1) (b1 : B1 < m.n) (a2 : m0.n ≤ B2) (b2 : B2 < m.n) (hlt : B1 < B2) : St m0 m (σ ++ [(B1, l1), (B2, l2)]) := by
  refine ⟨h.ext, h.base, fun p hp => ?_, ?_⟩
  · rcases List.mem_append.1 hp with hp | hp
    · exact h.arr p hp
    · rcases List.mem_cons.1 hp with rfl | hp
      · exact ⟨a1, b1, h1⟩
      · rw [List.mem_singleton.1 hp]; exact ⟨a2, b2, h2⟩
  · rw [List.map_append, List.nodup_append]
    refine ⟨h.nd, by simp; omega, fun a ha b hb => ?_⟩
    obtain ⟨p, hp, rfl⟩ := List.mem_map.1 ha
    have := k1 p hp
    have := k2 p hp
    simp at hb
    omega
theorem _root_.Go.Dx.St.restTo {m0 m m' : M} {σ : List (Nat × List Value)} (h : St m0 m σ) (k : Nat) {b : Nat} {l l' : List Value} (hk : σ[k]? = some (b, l)) (hr : Dx.Rest m.n [b] m m') (ha : Arr m' b l') : St m0 m' (σ.set k (b, l')) := by
  obtain ⟨hk', hke⟩ := List.getElem?_eq_some_iff.1 hk
  obtain ⟨hb0, hb1, _⟩ := h.get k hk
  have hn := h.ext.n
  refine ⟨⟨Nat.le_trans hn hr.n, fun X hX => by rw [hr.obj X (by omega) (by simp; omega)]; exact h.ext.obj X hX, by rw [hr.base, h.ext.base], by rw [hr.log, h.ext.log]⟩, h.base, fun p hp => ?_, ?_⟩
  · obtain ⟨j, hj, rfl⟩ := List.getElem_of_mem hp
    rw [List.getElem_set]
    rw [List.length_set] at hj
    split
    · exact ⟨hb0, Nat.lt_of_lt_of_le hb1 hr.n, ha⟩
    · rename_i hne
      obtain ⟨h1, h2, h3⟩ := h.arr _ (List.getElem_mem hj)
      exact ⟨h1, Nat.lt_of_lt_of_le h2 hr.n, h3.congr (hr.obj _ h2 (by simp; exact fun e => hne (nodup_at h.nd (List.getElem?_eq_getElem hj) hk e).symm))⟩
  · have : (σ.set k (b, l')).map (·.1) = σ.map (·.1) := by
      rw [List.map_set]
      show (σ.map (·.1)).set k b = _
      refine List.ext_getElem (by simp) fun i h1 h2 => ?_
      rw [List.getElem_set]
      split
      · subst_vars; simp [hke]
      · rfl
    rw [this]; exact h.nd
theorem lstep_inv (es : List (Int × Int)) (n N k : Nat) (s : LS) (i : Nat) (h : s.th.length = n ∧ s.ce.length = n ∧ s.wr.length = N ∧ s.t ≤ k ∧ s.c ≤ k ∧ ∀ x ∈ s.wr, x ≤ k) :
    (lstep es N s i).th.length = n ∧ (lstep es N s i).ce.length = n ∧ (lstep es N s i).wr.length = N ∧ (lstep es N s i).t ≤ k + 1 ∧ (lstep es N s i).c ≤ k + 1 ∧ ∀ x ∈ (lstep es N s i).wr, x ≤ k + 1 := by
  obtain ⟨h1, h2, h3, h4, h5, h6⟩ := h
  have hget : s.wr.getD (s.c % N) 0 ≤ k := by
    rw [List.getD_eq_getElem?_getD]
    cases hg : s.wr[s.c % N]? with
    | none => simp
    | some x => exact h6 x (List.mem_of_getElem? hg)
  refine ⟨by simp [lstep, h1], by simp [lstep, h2], by unfold lstep; split <;> simp [h3], by show (if outAt es i then s.t + 1 else s.t) ≤ k + 1; split <;> omega, by show (if outAt es i then s.c else s.c + 1) ≤ k + 1; split <;> omega, fun x hx => ?_⟩
  unfold lstep at hx
  simp only at hx
  split at hx
  · rcases List.mem_or_eq_of_mem_set hx with h | rfl
    · have := h6 x h; omega
    · omega
  · have := h6 x hx; omega
theorem lfold_inv (es : List (Int × Int)) (n N : Nat) : ∀ (l : List Nat) (k : Nat) (s : LS), (s.th.length = n ∧ s.ce.length = n ∧ s.wr.length = N ∧ s.t ≤ k ∧ s.c ≤ k ∧ ∀ x ∈ s.wr, x ≤ k) →
    (l.foldl (lstep es N) s).th.length = n ∧ (l.foldl (lstep es N) s).ce.length = n ∧ (l.foldl (lstep es N) s).wr.length = N ∧ (l.foldl (lstep es N) s).t ≤ k + l.length ∧ (l.foldl (lstep es N) s).c ≤ k + l.length ∧ ∀ x ∈ (l.foldl (lstep es N) s).wr, x ≤ k + l.length
  | [], k, s, h => h
  | i :: l, k, s, h => by
    have := lfold_inv es n N l (k + 1) _ (lstep_inv es n N k s i h)
    rw [List.foldl_cons, List.length_cons, show k + (l.length + 1) = k + 1 + l.length by omega]
    exact this
set_option maxHeartbeats 1000000 in
theorem lay_c (n : Nat) (ed md : Value) (es : List (Int × Int)) (ms : List Int) (m : M) (hm : m.base ≤ m.n) (hl : es.length < 9223372036854775807) (hed : Rd m ed 2 edgeRow es) (hmd : Rd m md 1 modeRow ms) (ch : Nat → List Nat)
    (hch : (layA es ms).2 = 0 → ∀ c, c < es.length - cnt es → ChainOK es (lays es (es.length - cnt es) (ordL es (begE es))).ce (begE es) c (ch c)) :
    Dx.Call (ex Try.prog (n + 8)) 38 [.agg #[ed, md]] m (layQ es ms (valsF es ch (List.replicate es.length 0) (es.length - cnt es))) := by
  refine call_ret d_w_lay_ok (by simp) ?_
  obtain ⟨va, hva⟩ : ∃ va, va = valsF es ch (List.replicate es.length 0) (es.length - cnt es) := ⟨_, rfl⟩
  rw [← hva]
  have st0 : St m m [] := St.nil hm (Ext.refl m)
  have st1 := (((st0.row [ed, md]).row [.pointer none]).row [.int .i64 0]).row [.int .i64 0]
  simp only [newRow_n] at st1
  obtain ⟨m1, hm1⟩ : ∃ m1, m1 = Dx.newRow (Dx.newRow (Dx.newRow (Dx.newRow m [ed, md]) [.pointer none]) [.int .i64 0]) [.int .i64 0] := ⟨_, rfl⟩
  rw [← hm1] at st1
  have lb : ∀ m', St m m' [(m.n + 3, [.int .i64 0]), (m.n + 2, [.int .i64 0]), (m.n + 1, [.pointer none]), (m.n, [ed, md])] → loads m' ⟨m.n, 0, none⟩ 2 = some [ed, md] := fun m' h => (h.get 3 rfl).2.2.loads (by simp)
  obtain ⟨v2, m2, p1, p2, rfl⟩ := plain_c (n + 2) ed md es ms m1 st1.sees.base hl (hed.sees st1.sees) (hmd.sees st1.sees)
  obtain ⟨q1, hq1⟩ : ∃ q, q = (plainR es ms).1 := ⟨_, rfl⟩
  obtain ⟨q2, hq2⟩ : ∃ q, q = (plainR es ms).2 := ⟨_, rfl⟩
  rw [← hq1, ← hq2] at p1
  have st2 := st1.step p2
  have lb1 := lb m1 st1
  simp
  rw [← hm1]
  by_cases z : q2 = 0
  rotate_left
  · obtain ⟨m3, s1, s2, s3, s4⟩ := st2.store 2 rfl (o := 0) (v := .pointer none) (by simp) rfl
    obtain ⟨m4, r1, r2, r3, r4⟩ := s2.store 1 rfl (o := 0) (v := iv q1) (by simp) rfl
    obtain ⟨m5, u1, u2, u3, u4⟩ := r2.store 0 rfl (o := 0) (v := iv q2) (by simp) rfl
    simp [lb1, loadNS_ptr, p1, z, s1, r1, u1]
    have ld := u2.loads
    simp [Loads] at ld
    refine ret_ones (by simp) (by simp) (by simp) (ld.2.2.1 0 none) (ld.2.1 0 none) (ld.1 0 none) u2.ext (.inl ?_)
    have : layA es ms = (q1, q2) := by unfold layA; rw [if_pos (by rw [← hq2]; exact z), hq1, hq2]
    rw [this]; exact ⟨z, rfl⟩
  subst z
  obtain ⟨hl16, hml⟩ := plainR_len hq2.symm
  have hok := plainR_ok hq2.symm
  have hel := hed.len
  have ld2 := st2.loads
  simp [Loads] at ld2
  obtain ⟨v1, m3', c1, c2, c3, c4⟩ := CloneE_c (n + 6) ed es (by unfold most; omega) (forAny m2) (by simp [forAny_base]) (hed.sees (sees_any st2.sees))
  have st3 := st2.behind c2
  obtain ⟨M3, hM3⟩ : ∃ M, M = behind m2 m3' := ⟨_, rfl⟩
  rw [← hM3] at st3
  obtain ⟨v2, m4', d1, d2, d3, d4⟩ := CloneM_c (n + 6) md ms (by unfold most; omega) (forAny M3) (by simp [forAny_base]) (hmd.sees (sees_any st3.sees))
  have st4 := st3.behind d2
  obtain ⟨M4, hM4⟩ : ∃ M, M = behind M3 m4' := ⟨_, rfl⟩
  rw [← hM4] at st4
  obtain ⟨a1, k1, b1, hv1⟩ : ∃ a k b, v1 = .slice a k b := by
    have := c3.len
    cases v1 with
    | slice a k b => exact ⟨_, _, _, rfl⟩
    | _ => cases this
  obtain ⟨a2, k2, b2, hv2⟩ : ∃ a k b, v2 = .slice a k b := by
    have := d3.len
    cases v2 with
    | slice a k b => exact ⟨_, _, _, rfl⟩
    | _ => cases this
  have hR1 : Rd M4 v1 2 edgeRow es := by
    have h3 : Rd M3 v1 2 edgeRow es := c3.congr (by rw [hM3, behind_n]; exact Nat.le_refl _) (fun B _ => by rw [hM3, behind_obj])
    have : Ext M3 M4 := by rw [hM4]; exact d2.behind
    exact h3.congr this.n fun B hB => this.obj B (h3.lt B hB)
  have hR2 : Rd M4 v2 1 modeRow ms := d3.congr (by rw [hM4, behind_n]; exact Nat.le_refl _) (fun B _ => by rw [hM4, behind_obj])
  have ld3 := st3.loads
  simp [Loads] at ld3
  have mk := fun m' => mk_nums (n := es.length) (by omega) m'
  have hb1 : buildV [.slice none 0 0, .slice none 0 0] [(0, 1, v1), (1, 1, v2)] = some (.agg ⟨[v1, v2]⟩) := by rw [hv1, hv2]; rfl
  have hb2 : ∀ A, buildV [.slice none 0 0, .slice none 0 0, .int .i64 0, .int .i64 0, .int .i64 0, .slice none 0 0, .slice none 0 0, .slice none 0 0, .slice none 0 0]
      [(0, 2, .agg ⟨[v1, v2]⟩), (5, 1, .slice (some ⟨A, 0, some 3⟩) es.length es.length), (6, 1, .slice (some ⟨A + 1, 0, some 3⟩) es.length es.length), (7, 1, .slice (some ⟨A + 1 + 1, 0, some 3⟩) es.length es.length)] =
      some (.agg ⟨[v1, v2, .int .i64 0, .int .i64 0, .int .i64 0, .slice (some ⟨A, 0, some 3⟩) es.length es.length, .slice (some ⟨A + 1, 0, some 3⟩) es.length es.length, .slice (some ⟨A + 1 + 1, 0, some 3⟩) es.length es.length, .slice none 0 0]⟩) := fun A => rfl
  -- the clones' blocks
  obtain ⟨rest, hrest, str⟩ : ∃ rest : List (Nat × List Value), (rest = [] ∧ es = [] ∨ ∃ B1 B2, rest = [(B1, es.flatMap edgeRow), (B2, ms.flatMap modeRow)] ∧ v1 = .slice (some ⟨B1, 0, some (code 2 false)⟩) es.length es.length ∧ v2 = .slice (some ⟨B2, 0, some (code 1 false)⟩) ms.length ms.length) ∧
      St m M4 ([(m.n + 1 + 1 + 1, [.int .i64 0]), (m.n + 1 + 1, [.int .i64 0]), (m.n + 1, [.pointer none]), (m.n, [ed, md])] ++ rest) := by
    by_cases hne : es = []
    · exact ⟨[], .inl ⟨rfl, hne⟩, by simpa using st4⟩
    · have hnm : ms ≠ [] := by rintro rfl; exact hne (List.length_eq_zero_iff.1 (by simpa using hml.symm))
      obtain ⟨B1, e1⟩ := c4.2 hne
      obtain ⟨B2, e2⟩ := d4.2 hnm
      have hB1 := c4.1 B1 (by rw [e1]; rfl)
      have hB2 := d4.1 B2 (by rw [e2]; rfl)
      rw [forAny_n] at hB1 hB2
      have lB1 := c3.lt B1 (by rw [e1]; rfl)
      have lB2 := d3.lt B2 (by rw [e2]; rfl)
      have nM3 : M3.n = m3'.n := by rw [hM3, behind_n]
      have nM4 : M4.n = m4'.n := by rw [hM4, behind_n]
      have EM : Ext M3 M4 := by rw [hM4]; exact d2.behind
      have hA1 : Arr M4 B1 (es.flatMap edgeRow) := by
        have : Arr M3 B1 (es.flatMap edgeRow) := hB1.2.congr (by rw [hM3, behind_obj])
        exact this.ext EM (by omega)
      have hA2 : Arr M4 B2 (ms.flatMap modeRow) := hB2.2.congr (by rw [hM4, behind_obj])
      have hk2 := st2.arr
      refine ⟨_, .inr ⟨B1, B2, rfl, e1, e2⟩, st4.addLast hA1 hA2 ?_ ?_ (by have := st2.ext.n; omega) (by have := EM.n; omega) (by have := st3.ext.n; omega) (by omega) (by omega)⟩
      · intro p hp; have := (hk2 p hp).2.1; omega
      · intro p hp; have := (hk2 p hp).2.1; have := c2.n; rw [forAny_n] at this; omega
  have st5 := ((((str.row (nums (List.replicate es.length 0))).row (nums (List.replicate es.length 0))).row (nums (List.replicate es.length 0))).row [v1, v2, .int .i64 0, .int .i64 0, .int .i64 0, .slice (some ⟨M4.n, 0, some 3⟩) es.length es.length, .slice (some ⟨M4.n + 1, 0, some 3⟩) es.length es.length, .slice (some ⟨M4.n + 1 + 1, 0, some 3⟩) es.length es.length, .slice none 0 0]).row [.pointer none]
  simp only [newRow_n] at st5
  obtain ⟨m6', s1, s2, s3, s4, s5⟩ := st5.storeAny 0 rfl (o := 0) (v := .pointer (some ⟨M4.n + 1 + 1 + 1, 0, none⟩)) (by simp) rfl
  obtain ⟨M6, hM6⟩ : ∃ M6, M6 = behind (Dx.newRow (Dx.newRow (Dx.newRow (Dx.newRow (Dx.newRow M4 (nums (List.replicate es.length 0))) (nums (List.replicate es.length 0))) (nums (List.replicate es.length 0))) [v1, v2, .int .i64 0, .int .i64 0, .int .i64 0, .slice (some ⟨M4.n, 0, some 3⟩) es.length es.length, .slice (some ⟨M4.n + 1, 0, some 3⟩) es.length es.length, .slice (some ⟨M4.n + 1 + 1, 0, some 3⟩) es.length es.length, .slice none 0 0]) [.pointer none]) m6' := ⟨_, rfl⟩
  rw [← hM6] at s3 s4 s5
  obtain ⟨u, hu⟩ : ∃ u : LB, u = ⟨m.n, m.n + 1, m.n + 1 + 1, m.n + 1 + 1 + 1, M4.n, M4.n + 1, M4.n + 1 + 1, M4.n + 1 + 1 + 1, M4.n + 1 + 1 + 1 + 1, ed, md, v1, v2, es.length, rest⟩ := ⟨_, rfl⟩
  have st6 : St m M6 (u.σ 0 0 0) := by rw [hu]; exact s3
  have ld6 := (st6.get 8 rfl).2.2.load1
  have e0 : u.c0 = m.n := by rw [hu]
  have eed : u.ed = ed := by rw [hu]
  rw [e0, eed] at ld6
  simp [lb1, loadNS_ptr, p1, ld2, hel, c1, ← hM3, ld3, d1, ← hM4, hb1, mk, hb2, s1, c2.quietLog, d2.quietLog, ← hM6, ld6]
  refine lay_count (n + 6) u es hl16 m M6 (by rw [eed]; exact hed) (Ret m _) _ _ _ _ ?_ ?_ ?_ ?_ st6 (fun t7 M7 hT7 st7 => ?_)
  · rw [hu]; exact ⟨by simp, by simp, by simp, by simp, by simp⟩
  · rw [eed]; simp
  · simp
  · simp
  obtain ⟨h1, h2, h3, h4, h8⟩ := hT7
  obtain ⟨A, hA⟩ : ∃ q, q = cnt es := ⟨_, rfl⟩
  obtain ⟨N, hN⟩ : ∃ q, q = es.length - cnt es := ⟨_, rfl⟩
  rw [← hN, ← hA] at st7
  have ld7 := st7.loads
  simp [Loads, LB.σ, LB.pl] at ld7
  have egr : (A < 2 ∨ N < 1) → layA es ms = (0, 4) := fun h => by unfold layA; rw [if_neg (by rw [← hq2]; simp), if_pos (by rw [← hN, ← hA]; exact h)]
  by_cases a1 : A < 2 ∨ N < 1
  · obtain ⟨m8, w1, w2, w3, w4⟩ := st7.store 7 rfl (o := 0) (v := .pointer none) (by simp) rfl
    obtain ⟨m9, x1, x2, x3, x4⟩ := w2.store 6 rfl (o := 0) (v := iv 0) (by simp) rfl
    obtain ⟨m10, y1, y2, y3, y4⟩ := x2.store 5 rfl (o := 0) (v := iv 4) (by simp) rfl
    have fin : ∀ t, Tm.get 2 t = .pointer (some ⟨u.r2, 0, none⟩) → Tm.get 3 t = .pointer (some ⟨u.r3, 0, none⟩) → Tm.get 4 t = .pointer (some ⟨u.r4, 0, none⟩) → Ret m (layQ es ms va) (resK [.one 2, .one 3, .one 4] t m10) := fun t g2 g3 g4 => by
      refine ret_ones g2 g3 g4 (by rw [(y2.get 7 rfl).2.2.load1]; rfl) (by rw [(y2.get 6 rfl).2.2.load1]; rfl) (by rw [(y2.get 5 rfl).2.2.load1]; rfl) y2.ext (.inl ?_)
      rw [egr a1]; exact ⟨by simp, rfl⟩
    by_cases a2 : A < 2
    · have d1 : ((A : Int) < 2) = True := eq_true (by omega)
      simp [h2, h3, h4, h8, ld7, d1, a2, w1, x1, y1]
      exact fin _ (by simp [h2]) (by simp [h3]) (by simp [h4])
    · have d1 : ((A : Int) < 2) = False := eq_false (by omega)
      have d2 : ((N : Int) < 1) = True := eq_true (by omega)
      simp [h2, h3, h4, h8, ld7, d1, d2, a2, w1, x1, y1]
      exact fin _ (by simp [h2]) (by simp [h3]) (by simp [h4])
  have d1 : ((A : Int) < 2) = False := eq_false (by omega)
  have d2' : ((N : Int) < 1) = False := eq_false (by omega)
  have hlA : layA es ms = match layE es N (ordL es (begE es)) (lay0 es.length N) with
    | some i => (i, 2)
    | none => (0, 0) := by unfold layA; rw [if_neg (by rw [← hq2]; simp), if_neg (by rw [← hN, ← hA]; exact a1), ← hN] <;> rfl
  simp [h2, h3, h4, h8, ld7, d1, d2']
  have hcl : A ≤ es.length := by rw [hA]; unfold cnt; exact List.countP_le_length
  have hne : es ≠ [] := by rintro rfl; simp [cnt] at hA; omega
  obtain ⟨B1, B2, hr, hv1e, hv2e⟩ : ∃ B1 B2, rest = [(B1, es.flatMap edgeRow), (B2, ms.flatMap modeRow)] ∧ v1 = .slice (some ⟨B1, 0, some (code 2 false)⟩) es.length es.length ∧ v2 = .slice (some ⟨B2, 0, some (code 1 false)⟩) ms.length ms.length := by
    rcases hrest with ⟨_, h⟩ | h
    · exact absurd h hne
    · exact h
  have euv1 : u.v1 = .slice (some ⟨B1, 0, some (code 2 false)⟩) es.length es.length := by rw [hu]; exact hv1e
  have euv2 : u.v2 = .slice (some ⟨B2, 0, some (code 1 false)⟩) ms.length ms.length := by rw [hu]; exact hv2e
  have eun : u.n = es.length := by rw [hu]
  have eur : u.rest = [(B1, es.flatMap edgeRow), (B2, ms.flatMap modeRow)] := by rw [hu]; exact hr
  have hb := begE_ok (es := es) (by omega)
  obtain ⟨b, hbe⟩ : ∃ b, b = begE es := ⟨_, rfl⟩
  rw [← hbe] at hb hlA
  have hbl : b < es.length := by unfold first at hb; rw [List.find?_range_eq_some] at hb; simpa using hb.2.1
  refine lay_begin (n + 6) u es hl16 m M7 (by rw [eed]; exact hed) (fun _ _ => trivial) (fun _ _ _ _ _ => by rw [euv1]; rfl) A N b hb (Ret m _) _ _ _ _ ?_ st7 (fun t9 M9 hT9 st9 => ?_)
  · exact ⟨by simp [h1], by simp [h2], by simp [h3], by simp [h4], by simp [h8]⟩
  obtain ⟨h1, h2, h3, h4, h8⟩ := hT9
  have ld9 := st9.loads
  simp [Loads, LB.σ, LB.pl] at ld9
  have mkN := mk_nums (n := N) (by omega) M9
  have st10 := st9.row (nums (List.replicate N 0))
  obtain ⟨m11', w1, w2, w3, w4, w5⟩ := st10.storeAny 2 rfl (o := 8) (v := .slice (some ⟨M9.n, 0, some 3⟩) N N) (by simp [LB.pl]) rfl
  obtain ⟨M11, hM11⟩ : ∃ M, M = behind (Dx.newRow M9 (nums (List.replicate N 0))) m11' := ⟨_, rfl⟩
  rw [← hM11] at w3 w4 w5
  have st12 := (w3.row [.int .i64 0]).row [.int .i64 0]
  rw [newRow_n] at st12
  obtain ⟨M13, x1, x2, x3, x4⟩ := st12.store 1 rfl (o := 0) (v := iv 0) (by simp) rfl
  obtain ⟨M14, y1, y2, y3, y4⟩ := x2.store 0 rfl (o := 0) (v := iv 0) (by simp) rfl
  have lq : ∀ s, load1 M14 ⟨u.q8, 0, s⟩ = some (.pointer (some ⟨u.PB, 0, none⟩)) := fun s => by rw [(y2.get 3 rfl).2.2.load1]; rfl
  have hwk := walk_c (n + 6) ⟨u.PB, 0, none⟩ M14
  simp [h1, h2, h3, h4, h8, ld9, mkN, w1, w2, ← hM11, x1, y1, lq, hwk]
  obtain ⟨M15, hM15⟩ : ∃ M, M = Dx.newRow M14 [.pointer (some ⟨u.PB, 0, none⟩)] := ⟨_, rfl⟩
  have st15 := y2.row [.pointer (some ⟨u.PB, 0, none⟩)]
  rw [← hM15] at st15 ⊢
  have n15 : M15.n = M14.n + 1 := by rw [hM15, newRow_n]
  obtain ⟨v, hv⟩ : ∃ v : LC, v = { u with A8 := M9.n, k11 := M11.n, k12 := M11.n + 1, W := M14.n, N := N, b := b } := ⟨_, rfl⟩
  have evu : v.toLB = u := by rw [hv]
  have evN : v.N = N := by rw [hv]
  have stv : St m M15 (v.σ2 (lay0 es.length N) (.pointer none) (iv 0) (iv 0)) := by
    have e : u.n - N = A := by omega
    have : v.σ2 (lay0 es.length N) (.pointer none) (iv 0) (iv 0) = [(M14.n, [.pointer (some ⟨u.PB, 0, none⟩)]), (M11.n + 1, [iv 0]), (M11.n, [iv 0]), (M9.n, nums (List.replicate N 0)), (u.q8, [.pointer (some ⟨u.PB, 0, none⟩)]), (u.PB, u.pl b A N (.slice (some ⟨M9.n, 0, some 3⟩) N N)),
        (u.A7, nums (List.replicate u.n 0)), (u.A6, nums (List.replicate u.n 0)), (u.A5, nums (List.replicate u.n 0)), (u.r4, [iv 0]), (u.r3, [iv 0]), (u.r2, [.pointer none]), (u.c0, [u.ed, u.md])] ++ u.rest := by
      rw [hv]; unfold LC.σ2 lay0; rw [← eun]; simp only [e]; rfl
    rw [this]; exact st15
  generalize hT0 : Tm.set 105 _ _ = T0
  have T0' : LT v.toLB T0 := by rw [evu, ← hT0]; exact ⟨by simp [h1], by simp [h2], by simp [h3], by simp [h4], by simp [h8]⟩
  have t11 : Tm.get 11 T0 = .pointer (some ⟨v.k11, 0, none⟩) := by rw [← hT0, hv]; simp
  have t12 : Tm.get 12 T0 = .pointer (some ⟨v.k12, 0, none⟩) := by rw [← hT0, hv]; simp
  have t105 : Tm.get 105 T0 = .func (.func 71) #[] #[.pointer (some ⟨v.W, 0, none⟩)] := by rw [← hT0, hv]; simp
  clear hT0
  obtain ⟨T, hT⟩ : ∃ T, T = keepT [12, 11, 8, 4, 3, 2, 1] T0 := ⟨_, rfl⟩
  have kp : ∀ i, i ∈ [12, 11, 8, 4, 3, 2, 1] → Tm.get i T = Tm.get i T0 := fun i hi => by
    rw [hT]; exact keep_get i (by simp at hi; omega) T0 _ (by simp) hi
  have T' : LT v.toLB T := ⟨(kp 1 (by simp)).trans T0'.t1, (kp 2 (by simp)).trans T0'.t2, (kp 3 (by simp)).trans T0'.t3, (kp 4 (by simp)).trans T0'.t4, (kp 8 (by simp)).trans T0'.t8⟩
  have T11 := (kp 11 (by simp)).trans t11
  have T12 := (kp 12 (by simp)).trans t12
  obtain ⟨ca, hca⟩ : ∃ ca : Code, ca = (cL (cL (cR (cL (cR (cR (cR (cR (cR (cR (cR (cR (cR (bodyOf Try.f38)))))))))))))) := ⟨_, rfl⟩
  obtain ⟨cb, hcb⟩ : ∃ cb : Code, cb = (cR (cL (cR (cL (cR (cR (cR (cR (cR (cR (cR (cR (cR (bodyOf Try.f38)))))))))))))) := ⟨_, rfl⟩
  have ha := ya_weave_lay_1_ok
  have hbb := yb_weave_lay_1_ok
  rw [← hca] at ha; rw [← hcb] at hbb
  obtain ⟨mE, hmE⟩ : ∃ mE, mE = M15.alloc (.loop 0 T 173 #[106] ca cb none) := ⟨_, rfl⟩
  have nE : mE.n = M15.n + 1 := by rw [hmE, M.n_alloc]
  have EE : Ext M15 mE := by rw [hmE]; exact ⟨by rw [M.n_alloc]; omega, fun X hX => by rw [M.obj_alloc, if_neg (by omega)], M.base_alloc _ _, M.log_alloc _ _⟩
  have stE := stv.step EE
  have obE : mE.obj M15.n = some (.loop 0 T 173 #[106] ca cb none) := by rw [hmE, M.obj_alloc, if_pos rfl]
  have hkeys : ∀ s' (x y z : Value), ∀ p ∈ v.σ2 s' x y z, p.1 ≠ M15.n := fun s' x y z p hp => by
    have h2 : (v.σ2 s' x y z).map (·.1) = (v.σ2 (lay0 es.length N) (.pointer none) (iv 0) (iv 0)).map (·.1) := rfl
    have hb : p.1 ∈ (v.σ2 s' x y z).map (·.1) := List.mem_map.2 ⟨_, hp, rfl⟩
    rw [h2] at hb
    obtain ⟨p', hp', e⟩ := List.mem_map.1 hb
    have := (stv.arr p' hp').2.1
    omega
  have hm15 : m.n ≤ M15.n := stv.ext.n
  let S : Nat → LS := fun k => ((ordL es b).take k).foldl (lstep es N) (lay0 es.length N)
  have hol : (ordL es b).length = es.length := by unfold ordL; simp
  have hSi : ∀ k, k ≤ es.length → (S k).th.length = es.length ∧ (S k).ce.length = es.length ∧ (S k).wr.length = N ∧ (S k).t ≤ 1000 ∧ (S k).c ≤ 1000 ∧ ∀ x ∈ (S k).wr, x ≤ 1000 := fun k hk => by
    have := lfold_inv es es.length N ((ordL es b).take k) 0 (lay0 es.length N) ⟨by simp [lay0], by simp [lay0], by simp [lay0], by simp [lay0], by simp [lay0], fun x hx => by simp [lay0] at hx; omega⟩
    rw [List.length_take, hol, Nat.min_eq_left hk] at this
    obtain ⟨i1, i2, i3, i4, i5, i6⟩ := this
    exact ⟨i1, i2, i3, by simp only [S]; omega, by simp only [S]; omega, fun x hx => by have := i6 x hx; omega⟩
  have hedv : Rd m v.ed 2 edgeRow es := by rw [evu, eed]; exact hed
  have hwalk := walk1_c (n + 6) (.func (.yield M15.n) #[] #[]) v.PB v.W b es.length (by omega) (by omega) hbl
    (fun k m' => St m m' (v.σ2 (S k) (.pointer none) (iv 0) (iv 0)) ∧ m'.obj M15.n = some (.loop 0 T 173 #[106] ca cb none) ∧ M15.n < m'.n ∧ layE es N (ordL es b) (lay0 es.length N) = layE es N ((ordL es b).drop k) (S k))
    (fun m' => ∃ (s' : LS) (i : Nat), St m m' (v.σ2 s' (.pointer none) (iv i) (iv 2)) ∧ m'.obj M15.n = some (.loop 2 T 173 #[106] ca cb (some .ret)) ∧ layE es N (ordL es b) (lay0 es.length N) = some i)
    (fun k m' _ h => ⟨by rw [(h.1.get 0 rfl).2.2.load1]; rfl, ⟨v.v1, by rw [(h.1.get 5 rfl).2.2.load1]; rfl, by rw [evu, euv1]; rfl⟩, by rw [(h.1.get 5 rfl).2.2.load1, hv]; rfl⟩)
    (fun k m' hk h => by
      obtain ⟨st, hob, hLn, hE⟩ := h
      obtain ⟨i, hi⟩ : ∃ i, i = (b + k) % es.length := ⟨_, rfl⟩
      have hil : i < es.length := by rw [hi]; exact Nat.mod_lt _ (by omega)
      rw [← hi]
      have hki : (ordL es b)[k]? = some i := by
        rw [hi]; unfold ordL; rw [List.getElem?_map, List.getElem?_range hk]; rfl
      have hdrop : (ordL es b).drop k = i :: (ordL es b).drop (k + 1) := by
        obtain ⟨h, e⟩ := List.getElem?_eq_some_iff.1 hki
        rw [List.drop_eq_getElem_cons h, e]
      have hSk : S (k + 1) = lstep es N (S k) i := by
        obtain ⟨h, e⟩ := List.getElem?_eq_some_iff.1 hki
        simp only [S]
        rw [List.take_succ_eq_append_getElem h, List.foldl_append, e]; rfl
      rw [hdrop, layE] at hE
      obtain ⟨i1, i2, i3, i4, i5, i6⟩ := hSi k (by omega)
      have hrd := yield_run (P := Try.prog) (n := n + 5) (L := M15.n) (args := [iv i]) (t' := Tm.set 106 (iv i) T) (t'' := Tm.set 13 (iv i) (Tm.set 106 (iv i) T)) (m := m')
        (R := fun e m2 => m'.n ≤ m2.n ∧ ((e = none ∧ ¬ (fromE es i = true ∧ 2 < (S k).wr.getD ((S k).c % v.N) 0 + 1) ∧ St m m2 (v.σ2 (lstep es v.N (S k) i) (.pointer none) (iv 0) (iv 0))) ∨
          (e = some .ret ∧ (fromE es i = true ∧ 2 < (S k).wr.getD ((S k).c % v.N) 0 + 1) ∧ ∃ s', St m m2 (v.σ2 s' (.pointer none) (iv i) (iv 2))))) hob ha hbb rfl (by omega) (fun k => by unfold ya_weave_lay_1; simp) (by
          have hst1 := st.putL (hkeys _ _ _ _) hm15 (.loop 1 T 173 #[106] ca cb none)
          have := lay_round (n + 3) v es hl16 hok m (m'.put M15.n (.loop 1 T 173 #[106] ca cb none)) hedv B1 [(B2, ms.flatMap modeRow)] (by rw [evu]; exact euv1) (by rw [evu]; exact eur) hne (by rw [evu]; exact eun) (by rw [evN]; omega) (by rw [evN]; omega) (S k) i1 i2 (by rw [evN]; exact i3) i4 i5 i6 i hil M15.n T ca cb T' T11 T12
            hst1 (hkeys _ _ _ _) (by rw [M.n_put]; exact hLn) (by rw [M.obj_put, if_pos rfl])
          rw [M.n_put] at this
          exact this)
      obtain ⟨e, m2, ho2, ⟨hn2, hcase⟩, hrun⟩ := hrd
      rcases hcase with ⟨rfl, hno, st2⟩ | ⟨rfl, hyes, s', st2⟩
      · rw [evN] at hno st2
        rw [if_neg hno, ← hSk] at hE
        rw [← hSk] at st2
        exact .inl ⟨_, hrun, st2.putL (hkeys _ _ _ _) hm15 _, by rw [M.obj_put, if_pos rfl], by rw [M.n_put]; omega, hE⟩
      · rw [evN] at hyes
        rw [if_pos hyes] at hE
        exact .inr ⟨_, hrun, s', i, st2.putL (hkeys _ _ _ _) hm15 _, by rw [M.obj_put, if_pos rfl], hE⟩)
    mE ⟨by simpa [S] using stE, obE, by omega, by simp [S]⟩
  obtain ⟨m5, hw, hend⟩ := hwalk
  rcases hend with ⟨st5', ob5, hL5, hE5⟩ | ⟨s', i, st5', ob5, hE5⟩
  · -- laid out: the values
    rw [List.drop_eq_nil_of_le (by omega), layE] at hE5
    have hlz : layA es ms = (0, 0) := by rw [hlA, hE5]
    refine rf_run (c := c_w_lay_36) rfl (g := 71) (u := []) (v := [.pointer (some ⟨v.W, 0, none⟩)]) t105 (r := .tuple #[]) (m1 := m5) (st := 0) (by rw [← hT, ← hca, ← hcb, ← hmE]; exact hw) (by rw [hca, hcb] at ob5; exact ob5) (by omega) ?_
    unfold goOn
    obtain ⟨m16, hm16⟩ : ∃ m16, m16 = m5.put M15.n (.loop 3 T 173 #[106] (cL (cL (cR (cL (cR (cR (cR (cR (cR (cR (cR (cR (cR (bodyOf Try.f38)))))))))))))) (cR (cL (cR (cL (cR (cR (cR (cR (cR (cR (cR (cR (cR (bodyOf Try.f38)))))))))))))) none) := ⟨_, rfl⟩
    rw [← hm16]
    have st16 := st5'.putL (hkeys _ _ _ _) hm15 (.loop 3 T 173 #[106] (cL (cL (cR (cL (cR (cR (cR (cR (cR (cR (cR (cR (cR (bodyOf Try.f38)))))))))))))) (cR (cL (cR (cL (cR (cR (cR (cR (cR (cR (cR (cR (cR (bodyOf Try.f38)))))))))))))) none)
    rw [← hm16] at st16
    have l8v : v.q8 = u.q8 := by rw [hv]
    have lPv : v.PB = u.PB := by rw [hv]
    have hPl : Pl m16 v.PB v.v1 (.slice (some ⟨v.A6, 0, some 3⟩) es.length es.length) es (S es.length).ce b := by
      have g5 := st16.get 5 rfl
      have g7 := st16.get 7 rfl
      have g13 := st16.get (b := B1) (l := es.flatMap edgeRow) 13 (by unfold LC.σ2; rw [evu, eur]; rfl)
      have e6 : (S es.length).ce.length = es.length := (hSi es.length (Nat.le_refl _)).2.1
      refine ⟨g5.2.1, fun s => by rw [g5.2.2.load1]; rfl, fun s => by rw [g5.2.2.load1, hv]; rfl, fun s => by rw [g5.2.2.load1, hv]; show some (Value.slice (some ⟨u.A6, 0, some 3⟩) u.n u.n) = _; rw [eun], ?_, ?_⟩
      · have hG : Grown m m16 v.v1 2 edgeRow es := .inr ⟨B1, g13.1, g13.2.1, hne, by rw [evu]; exact euv1, g13.2.2⟩
        exact hG.rd edgeRow_len
      · have := made_rd g7.2.2 g7.2.1
        rw [e6] at this
        exact this
    obtain ⟨m17, hvr, hvR, hvA⟩ := values_c n v.PB v.A7 v.v1 (.slice (some ⟨v.A6, 0, some 3⟩) es.length es.length) es (S es.length).ce b N ch (List.replicate es.length 0) hl16 hbl (by omega) hok (by simp) m16 st16.sees.base hPl
      (fun s => by rw [(st16.get 5 rfl).2.2.load1, hv]; rfl) (fun s => by rw [(st16.get 5 rfl).2.2.load1, hv]; show some (Value.slice (some ⟨u.A7, 0, some 3⟩) u.n u.n) = _; rw [eun]) (by have := (st16.get 6 rfl).2.2; rwa [show v.toLB.n = es.length by rw [evu, eun]] at this) (st16.get 6 rfl).2.1
      (by rw [st16.ext.base]; have := (st16.get 6 rfl).1; omega) (fun h => absurd (nodup_at st16.nd (i := 5) (j := 6) rfl rfl h) (by omega))
      (fun C hC => by
        rw [evu, euv1] at hC; cases hC
        exact fun h => absurd (nodup_at st16.nd (i := 13) (j := 6) (p := (B1, es.flatMap edgeRow)) (by unfold LC.σ2; rw [evu, eur]; rfl) rfl h) (by omega))
      (fun C hC => by cases hC; exact fun h => absurd (nodup_at st16.nd (i := 7) (j := 6) rfl rfl h) (by omega))
      (fun c hc => by
        have := hch (by rw [hlz]) c (by omega)
        rw [← hN, ← hbe] at this
        simp only [S]
        rw [List.take_of_length_le (by omega)]
        exact this)
    have st17 := st16.restTo 6 rfl hvR hvA
    obtain ⟨m18, c1', c2', c3', c4'⟩ := st17.store 11 rfl (o := 0) (v := .pointer (some ⟨u.PB, 0, none⟩)) (by simp) rfl
    obtain ⟨m19, d1', d2', d3', d4'⟩ := c2'.store 10 rfl (o := 0) (v := iv 0) (by simp) rfl
    obtain ⟨m20, f1', f2', f3', f4'⟩ := d2'.store 9 rfl (o := 0) (v := iv 0) (by simp) rfl
    have lq16 : ∀ s, load1 m16 ⟨u.q8, 0, s⟩ = some (.pointer (some ⟨u.PB, 0, none⟩)) := fun s => by rw [← l8v, (st16.get 4 rfl).2.2.load1]; show some (Value.pointer (some ⟨v.PB, 0, none⟩)) = _; rw [lPv]
    have lq17 : ∀ s, load1 m17 ⟨u.q8, 0, s⟩ = some (.pointer (some ⟨u.PB, 0, none⟩)) := fun s => by rw [← l8v, (st17.get 4 rfl).2.2.load1]; show some (Value.pointer (some ⟨v.PB, 0, none⟩)) = _; rw [lPv]
    obtain ⟨g1, g2, g3, g4, g8⟩ := T0'
    rw [evu] at g1 g2 g3 g4 g8
    have er2 : v.r2 = u.r2 := by rw [evu]
    have er3 : v.r3 = u.r3 := by rw [evu]
    have er4 : v.r4 = u.r4 := by rw [evu]
    rw [er2] at c1'
    rw [er3] at d1'
    rw [er4] at f1'
    rw [lPv] at hvr
    simp [g1, g2, g3, g4, g8, lq16, hvr, lq17, c1', d1', f1']
    refine ret_ones (a := ⟨u.r2, 0, none⟩) (b := ⟨u.r3, 0, none⟩) (c := ⟨u.r4, 0, none⟩) (by simp [g2]) (by simp [g3]) (by simp [g4]) (by rw [← er2, (f2'.get 11 rfl).2.2.load1]; rfl) (by rw [← er3, (f2'.get 10 rfl).2.2.load1]; rfl) (by rw [← er4, (f2'.get 9 rfl).2.2.load1]; rfl) f2'.ext (.inr ⟨by rw [hlz], v.PB, by rw [lPv], ?_⟩)
    have hSf : S es.length = lays es N (ordL es b) := by simp only [S, lays]; rw [List.take_of_length_le (by omega)]
    rw [← hN, ← hbe, ← hSf]
    have g5 := f2'.get 5 rfl
    have q3 := f2'.get 3 rfl
    have q6 := f2'.get 6 rfl
    have q7 := f2'.get 7 rfl
    have q8' := f2'.get 8 rfl
    have g13 := f2'.get (b := B1) (l := es.flatMap edgeRow) 13 (by unfold LC.σ2; rw [evu, eur]; rfl)
    have g14 := f2'.get (b := B2) (l := ms.flatMap modeRow) 14 (by unfold LC.σ2; rw [evu, eur]; rfl)
    have e6 : (S es.length).ce.length = es.length := (hSi es.length (Nat.le_refl _)).2.1
    have hnm : ms ≠ [] := by rintro rfl; exact hne (List.length_eq_zero_iff.1 (by simpa using hml.symm))
    refine ⟨v.v1, v.v2, v.A5, v.A6, v.A7, v.A8, ⟨g5.2.1, fun s => by rw [g5.2.2.load1]; rfl, fun s => by rw [g5.2.2.load1, hv]; rfl, fun s => by rw [g5.2.2.load1, hv]; show some (Value.slice (some ⟨u.A6, 0, some 3⟩) u.n u.n) = _; rw [eun], ?_, ?_⟩, ?_, fun s => by rw [g5.2.2.load1]; rfl,
      fun s => by rw [g5.2.2.load1, hv]; show some (iv (u.n - N : Nat)) = _; rw [eun], fun s => by rw [g5.2.2.load1, hv]; rfl, fun s => by rw [g5.2.2.load1, hv]; show some (Value.slice (some ⟨u.A5, 0, some 3⟩) u.n u.n) = _; rw [eun], fun s => by rw [g5.2.2.load1, hv]; show some (Value.slice (some ⟨u.A7, 0, some 3⟩) u.n u.n) = _; rw [eun],
      fun s => by rw [g5.2.2.load1, hv]; rfl, q8'.2.2, q7.2.2, ?_, q3.2.2, q8'.2.1, q7.2.1, q6.2.1, q3.2.1⟩
    · have hG : Grown m m20 v.v1 2 edgeRow es := .inr ⟨B1, g13.1, g13.2.1, hne, by rw [evu]; exact euv1, g13.2.2⟩
      exact hG.rd edgeRow_len
    · have := made_rd q7.2.2 q7.2.1
      rw [e6] at this
      exact this
    · have hG : Grown m m20 v.v2 1 modeRow ms := .inr ⟨B2, g14.1, g14.2.1, hnm, by rw [evu]; exact euv2, g14.2.2⟩
      exact hG.rd modeRow_len
    · have := q6.2.2
      rw [hva, ← hN]; exact this
  · have hli : layA es ms = (i, 2) := by rw [hlA, hE5]
    refine rf_run (c := c_w_lay_36) rfl (g := 71) (u := []) (v := [.pointer (some ⟨v.W, 0, none⟩)]) t105 (r := .tuple #[]) (m1 := m5) (st := 2) (by rw [← hT, ← hca, ← hcb, ← hmE]; exact hw) (by rw [hca, hcb] at ob5; exact ob5) (by omega) ?_
    unfold goOn
    have st16 := st5'.putL (hkeys _ _ _ _) hm15 (.loop 3 T 173 #[106] (cL (cL (cR (cL (cR (cR (cR (cR (cR (cR (cR (cR (cR (bodyOf Try.f38)))))))))))))) (cR (cL (cR (cL (cR (cR (cR (cR (cR (cR (cR (cR (cR (bodyOf Try.f38)))))))))))))) (some .ret))
    obtain ⟨g1, g2, g3, g4, g8⟩ := T0'
    refine ret_ones g2 g3 g4 (by rw [(st16.get 11 rfl).2.2.load1]; rfl) (by rw [(st16.get 10 rfl).2.2.load1]; rfl) (by rw [(st16.get 9 rfl).2.2.load1]; rfl) st16.ext (.inl ?_)
    rw [hli]; exact ⟨by simp, rfl⟩
end Go.Sx
