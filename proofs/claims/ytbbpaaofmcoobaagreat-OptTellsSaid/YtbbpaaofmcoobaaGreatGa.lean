/- Rules for steps through compiled code. -/
import Derived.Test.YtbbpaaofmcoobaaGreatEc
import Derived.Test.YtbbpaaofmcoobaaGreatEd
import Derived.ChangeSame
import Derived.ProofKit
import Derived.Carry
set_option linter.unusedVariables false
set_option linter.unusedSimpArgs false
set_option linter.defProp false
namespace Go.Dx
open Go.RowKit
noncomputable section
def wn (zs : List Value) (ps : List (Nat × Nat × Value)) : Option Value := ob (Xz ps zs) fun l => some (.agg ⟨l⟩)
def eqFV (neg : Bool) (ks : List Nat) (x y : Value) : Option Value := ob (WY x) fun a => ob (WY y) fun b => ob (kA ks a b) fun r => some (.bool (bif neg then !r else r))
def eqBV (neg : Bool) (x y : Value) : Option Value := ob (jT x) fun a => ob (jT y) fun b => some (.bool (bif neg then !eqB a b else eqB a b))
def eqNV (neg : Bool) (k : Value → Option Bool) (both : Bool) (x y : Value) : Option Value := ob (eqN k both x y) fun b => some (.bool (bif neg then !b else b))
def Ww (k : IntKind) (x : Value) : Option Value := obp (fj x) fun _ n => some (.int k (vi k n))
def WO (x : Option Value) (d mx : Nat) : Option Nat := match x with
 | none => some d
 | some x => ob (xh x) fun n => bif Nat.ble n mx then some n else none
def bm (len cap : Nat) (lo hi mx : Option Value) : Option (Nat × Nat × Nat) :=
 bif hi.isNone && mx.isSome then none else
 ob (WO mx cap cap) fun m => ob (WO hi len m) fun h => ob (WO lo 0 h) fun l => some (l, h, m)
def slV (esz : Nat) (lo hi mx : Option Value) : Value → Option Value
 | .slice none _ _ => ob (bm 0 0 lo hi mx) fun _ => some (.slice none 0 0)
 | .slice (some a) len cap => ob a.spot fun cd => ob (bm len cap lo hi mx) fun r => bif !Nat.beq (cd / 2) esz then none else
   some (.slice (some (slA a esz r.1 r.2.2 (jS cd) (jS cd || mx.isSome))) (r.2.1 - r.1) (r.2.2 - r.1))
 | _ => none
def YL (off : Nat) (x : Value) : Option Value := ob (ja x) (dy off)
def qZ (esz : Nat) (x i : Value) : Option Value := ob (xh i) fun n => obp (vSl x) fun a len => bif Nat.blt n len then dy (n * esz) a else none
def yA (o : Value) (m : M) : Option (Value × M) := ob (zr o) fun l => some (.pointer (some ⟨m.n, 0, none⟩), newRow m l)
def kc (esz len : Nat) (zs : List Value) (ps : List (Nat × Nat × Value)) (m : M) : Option (Value × M) :=
 ob (Xz ps zs) fun l => some (.slice (some ⟨m.n, 0, some (code esz true)⟩) len len, newRow m l)
def Gu (o : Value) (m : M) : Option (Value × M) := ob (ja o) fun a => ob (load1 m a) (retM m)
def FV (n : Nat) (o : Value) (m : M) : Option (Value × M) := ob (ja o) fun a => ob (loads m a n) fun l => some (.agg ⟨l⟩, m)
def qH (n : Nat) (o v : Value) (m : M) : Option (Value × M) :=
 ob (ja o) fun a => ob (zr v) fun l => bif Nat.beq l.length n then ob (wA m a l) fun m' => some (undef, m') else none
def zo (esz bytes : Nat) (zs : List Value) (l c : Value) (m : M) : Option (Value × M) :=
 ob (xh l) fun l => ob (xh c) fun c =>
  bif Nat.ble l c && Nat.ble (c * bytes) qW && Nat.ble c 4611686018427387904 && Nat.ble (c * esz) 1048576 then
   some (.slice (some ⟨m.n, 0, some (code esz true)⟩) l c, newRow m (rep c zs)) else none
def Yr (x : Ex) (l : List DA) (k : List (Nat × FP) → K) : List (Nat × FP) → K := List.rec k (fun i _ ih => VV x i ih) l
inductive RS where
 | v (x : Value)
 | one (x : Value)
 | cell (x : Value) (n : Nat)
inductive BT where
 | lf
 | nd (k : Nat) (v : Ex → List Value → M → Option (Value × M)) (l r : BT)
def BT.look (t : BT) : Nat → Ex → List Value → M → Option (Value × M) :=
 BT.rec (fun _ _ _ _ => none) (fun k v _ _ il ir g => bif Nat.beq g k then v else bif Nat.blt g k then il g else ir g) t
def Fits (P : Program) (g : Nat) (v : Ex → List Value → M → Option (Value × M)) : Prop := ∀ x l m r, v x l m = some r → ob (we P g) (fc x l m) = some r
def BT.Fit (P : Program) : BT → Prop
 | .lf => True
 | .nd k v l r => Fits P k v ∧ l.Fit P ∧ r.Fit P
def xstep (P : Program) (t : BT) (x : Ex) : Ex := ⟨fun g => t.look g x, yldF P x⟩
def xs (P : Program) (t : BT) (n : Nat) : Ex := Nat.rec .bot (fun _ ih => xstep P t ih) n
end
end Go.Dx
namespace Go.Dx
open Go.RowKit
noncomputable section
abbrev tg (n : Nat) : V := Tm.get n
def cv (v : Value) : V := fun _ => v
def ip (d : Nat) (p : PO) : IS := Vs none (some d) (Za (CI.pure p) (some d))
def il (d : Nat) (a : V) (f : MO) : IS := Vs none (some d) (Za (CI.load a f) (some d))
def im (n d : Nat) (f : MO) : IS := Vs none (some d) (Za (CI.mem n f) (some d))
def im0 (n : Nat) (f : MO) : IS := Vs none none (Za (CI.mem n f) none)
def gd (g : Nat) (b : Bool) (d : Option Nat) (s : IS) : IS := Vs (some (g, b)) d s
inductive Tick where
 | tick
 | tock
def tick (_ : Tick) : Prop := True
@[simp] theorem tick_1 : tick .tick = tick .tock := _root_.id rfl
def dV (c : Bool) (a b : Option Out) : Option Out := cond c a b
@[simp] theorem bif_t (a b : Option Out) : dV true a b = a := _root_.id rfl
@[simp] theorem bif_f (a b : Option Out) : dV false a b = b := _root_.id rfl
@[congr] theorem ob_congr {α β : Type} {o o' : Option α} {k : α → Option β} {q : Prop} (h : o = o') (_ : tick .tick = q) : ob o k = ob o' k := by rw [h]
@[congr] theorem obp_congr {α β γ : Type} {o o' : Option (α × β)} {k : α → β → Option γ} {q : Prop} (h : o = o') (_ : tick .tick = q) : obp o k = obp o' k := by rw [h]
@[congr] theorem bif_congr {c c' : Bool} {a b : Option Out} {q : Prop} (h : c = c') (_ : tick .tick = q) : dV c a b = dV c' a b := by rw [h]
@[congr] theorem qa8 {c c' : Prop} [Decidable c] [Decidable c'] {a b : Option Out} {q : Prop} (h : c = c') (_ : tick .tick = q) : ite c a b = ite c' a b := by subst h; congr
section
variable (x : Ex) (k kn kr : K) (ke : Nat → K) (t : Tm) (m : M)
@[simp] theorem sSeq_ap (a b : SC) : qc a b x kn ke kr t m = a x (b x kn ke kr) ke kr t m := _root_.id rfl
@[simp] theorem sSkip_ap : qj x kn ke kr t m = kn t m := _root_.id rfl
@[simp] theorem sReg_ap (i : IS) : dU i x kn ke kr t m = i x kn t m := _root_.id rfl
@[simp] theorem Dp (l : List DA) : xS l x kn ke kr t m = Yr x l (fun _ => kn) [] t m := _root_.id rfl
@[simp] theorem sCond_ap (o : V) (a b : SC) : qi o a b x kn ke kr t m = ob (jT (o t)) fun c => dV c (a x kn ke kr t m) (b x kn ke kr t m) := _root_.id rfl
@[simp] theorem sBlock_ap (id : Nat) (a : SC) : qk id a x kn ke kr t m = a x kn (yg id kn ke) kr t m := _root_.id rfl
@[simp] theorem sExit_ap (id : Nat) : qJ id x kn ke kr t m = ke id t m := _root_.id rfl
@[simp] theorem sRet_ap : qu x kn ke kr t m = kr t m := _root_.id rfl
@[simp] theorem outOf_ap (id j : Nat) : yg id kn ke j t m = dV (Nat.beq j id) (kn t m) (ke j t m) := _root_.id rfl
theorem Yn (a : SC) : qT a x kn ke kr t m = QL (fun k => a x k ke kr) 1180591620717411303424 t m := rfl
@[simp] theorem seqI_nil : yb [] x k t m = k t m := _root_.id rfl
@[simp] theorem seqI_cons (s : IS) (l : List IS) : yb (s :: l) x k t m = s x (yb l x k) t m := _root_.id rfl
@[simp] theorem ip_ap (d : Nat) (p : PO) : ip d p x k t m = ob (p t) fun v => k (Tm.set d v t) m := _root_.id rfl
@[simp] theorem il_ap (d : Nat) (a : V) (f : MO) : il d a f x k t m = obp (f x t m) fun v m => k (Tm.set d v t) m := _root_.id rfl
@[simp] theorem im1_ap (d : Nat) (f : MO) : im 1 d f x k t m = obp (f x t m) fun v m => k (Tm.set d v t) m := _root_.id rfl
@[simp] theorem im3_ap (d : Nat) (f : MO) : im 3 d f x k t m = obp (f x t m) fun v m => k (Tm.set d v t) m := _root_.id rfl
@[simp] theorem im03_ap (f : MO) : im0 3 f x k t m = obp (f x t m) fun _ m => k t m := _root_.id rfl
@[simp] theorem gd_ap (g : Nat) (b : Bool) (d : Option Nat) (s : IS) : gd g b d s x k t m = ob (isB b (Tm.get g t)) fun c => dV c (s x k t m) (k (putD t d undef) m) := _root_.id rfl
@[simp] theorem qy {α β : Type} (a : α) (f : α → Option β) : ob (some a) f = f a := _root_.id rfl
@[simp] theorem obp_some' {α β γ : Type} (a : α) (b : β) (f : α → β → Option γ) : obp (some (a, b)) f = f a b := _root_.id rfl
@[simp] theorem putD_some (d : Nat) (v : Value) : putD t (some d) v = Tm.set d v t := _root_.id rfl
@[simp] theorem putD_none (v : Value) : putD t none v = t := _root_.id rfl
@[simp] theorem fx (i j : Nat) (v : Value) : Tm.get i (Tm.set j v t) = if i = j then v else Tm.get i t := by
 by_cases h : i = j
 ·subst h; rw [if_pos rfl, Tm.get_set_same]
 ·rw [if_neg h]
  show (bif Nat.beq i j then v else Tm.get i t) = _
  rw [gx h]; rfl
@[simp] theorem get_blank (i : Nat) : Tm.get i .blank = undef := _root_.id rfl
@[simp] theorem cv_ap (v : Value) : cv v t = v := _root_.id rfl
@[simp] theorem pMov_ap (a : V) : wY a t = some (a t) := _root_.id rfl
@[simp] theorem pPick_ap (c a b : V) : yU c a b t = ob (jT (c t)) fun q => some (bif q then a t else b t) := _root_.id rfl
@[simp] theorem pNilck_ap (a : V) : wK a t = bB (a t) := _root_.id rfl
@[simp] theorem pBin_ap (op : BinOp) (a b : V) : xG op a b t = zf op (a t) (b t) := _root_.id rfl
@[simp] theorem pUn_ap (op : UnOp) (a : V) : pUn op a t = unV op (a t) := _root_.id rfl
@[simp] theorem pEqB_ap (n : Bool) (a b : V) : Jo n a b t = eqBV n (a t) (b t) := _root_.id rfl
@[simp] theorem pEqN_ap (n : Bool) (q : Value → Option Bool) (h : Bool) (a b : V) : WP n q h a b t = eqNV n q h (a t) (b t) := _root_.id rfl
@[simp] theorem pEqF_ap (n : Bool) (q : List Nat) (a b : V) : Jp n q a b t = eqFV n q (a t) (b t) := _root_.id rfl
@[simp] theorem pFaddr_ap (o : Nat) (a : V) : qQ o a t = YL o (a t) := _root_.id rfl
@[simp] theorem qaa (e : Nat) (a b : V) : wz e a b t = qZ e (a t) (b t) := _root_.id rfl
@[simp] theorem pLen_ap (a : V) : pLen a t = qL (a t) := _root_.id rfl
@[simp] theorem qa2 (a : V) (i : Nat) : vu a i t = wZ i (a t) := _root_.id rfl
@[simp] theorem pBuild_ap (zs : List Value) (ps : List (Nat × Nat × V)) : qK zs ps t = wn zs (evP ps t) := _root_.id rfl
@[simp] theorem evP_nil : evP [] t = [] := _root_.id rfl
@[simp] theorem evP_cons (p : Nat × Nat × V) (l : List (Nat × Nat × V)) : evP (p :: l) t = (p.1, p.2.1, p.2.2 t) :: evP l t := _root_.id rfl
@[simp] theorem evs_nil : evs t [] = [] := _root_.id rfl
@[simp] theorem evs_cons (a : V) (l : List V) : evs t (a :: l) = a t :: evs t l := _root_.id rfl
@[simp] theorem mBox_ap (a : V) : kR a x t m = yA (a t) m := _root_.id rfl
@[simp] theorem mAlloc_ap (zs : List Value) : qA zs x t m = some (.pointer (some ⟨m.n, 0, none⟩), newRow m zs) := _root_.id rfl
@[simp] theorem mLoad1_ap (a : V) : qP a x t m = Gu (a t) m := _root_.id rfl
@[simp] theorem mLoadN_ap (n : Nat) (a : V) : kI n a x t m = FV n (a t) m := _root_.id rfl
@[simp] theorem mStore_ap (n : Nat) (a b : V) : wL n a b x t m = qH n (a t) (b t) m := _root_.id rfl
@[simp] theorem mCall_ap (g : Nat) (l : List V) : qt g l x t m = x.f g (evs t l) m := _root_.id rfl
@[simp] theorem qa7 (e b : Nat) (a c : V) : wx e b a c x t m = qS m e b (a t) (c t) := _root_.id rfl
@[simp] theorem vBool_b (b : Bool) : jT (.bool b) = some b := _root_.id rfl
@[simp] theorem isB_t (b : Bool) : isB true (.bool b) = some b := _root_.id rfl
@[simp] theorem eqBV_t (a b : Bool) : eqBV true (.bool a) (.bool b) = some (.bool (a != b)) := by cases a <;> cases b <;> rfl
@[simp] theorem isB_u (b : Bool) : isB b undef = some false := _root_.id rfl
@[simp] theorem isB_f (b : Bool) : isB false (.bool b) = some (!b) := _root_.id rfl
@[simp] theorem unV_not (b : Bool) : unV .not (.bool b) = some (.bool (!b)) := _root_.id rfl
theorem JG (op : BinOp) (kd : IntKind) (a b : Int) : bF op kd a kd b = binI op kd a b := by unfold bF; rw [Nat.beq_refl]; rfl
theorem kp (op : BinOp) (kd : IntKind) (a b : Int) : zf op (.int kd a) (.int kd b) = binI op kd a b := JG op kd a b
@[simp] theorem binV_lss (kd : IntKind) (a b : Int) : zf .lss (.int kd a) (.int kd b) = some (.bool (decide (a < b))) := by rw [kp]; show some (Value.bool (ltI a b)) = _; rw [jv]
@[simp] theorem binV_leq (kd : IntKind) (a b : Int) : zf .leq (.int kd a) (.int kd b) = some (.bool (decide (a ≤ b))) := by
 rw [kp]; show some (Value.bool (!ltI b a)) = _; rw [jv, ← decide_not]
 congr 2; exact decide_eq_decide.2 Int.not_lt
@[simp] theorem binV_gtr (kd : IntKind) (a b : Int) : zf .gtr (.int kd a) (.int kd b) = some (.bool (decide (b < a))) := by rw [kp]; show some (Value.bool (ltI b a)) = _; rw [jv]
@[simp] theorem binV_geq (kd : IntKind) (a b : Int) : zf .geq (.int kd a) (.int kd b) = some (.bool (decide (b ≤ a))) := by
 rw [kp]; show some (Value.bool (!ltI a b)) = _; rw [jv, ← decide_not]
 congr 2; exact decide_eq_decide.2 Int.not_lt
@[simp] theorem binV_eql (kd : IntKind) (a b : Int) : zf .eql (.int kd a) (.int kd b) = some (.bool (decide (a = b))) := by
 rw [kp]; show some (Value.bool (eqI a b)) = _; rw [vc]; congr 2
@[simp] theorem binV_neq (kd : IntKind) (a b : Int) : zf .neq (.int kd a) (.int kd b) = some (.bool (!decide (a = b))) := by
 rw [kp]; show some (Value.bool (!eqI a b)) = _; rw [vc]; congr 2
@[simp] theorem qC (kd : IntKind) (a b : Int) : zf .add (.int kd a) (.int kd b) = some (.int kd (kd.wrap (a + b))) := by rw [kp]; show some (Value.int kd (vi kd (a + b))) = _; rw [zE]
@[simp] theorem qz (kd : IntKind) (a b : Int) : zf .sub (.int kd a) (.int kd b) = some (.int kd (kd.wrap (a - b))) := by rw [kp]; show some (Value.int kd (vi kd (a - b))) = _; rw [zE]
@[simp] theorem qa6 (a : Addr) : Gu (.pointer (some a)) m = ob (load1 m a) (retM m) := _root_.id rfl
@[simp] theorem qa9 (o : Nat) (a : Addr) : YL o (.pointer (some a)) = some (.pointer (some ⟨a.block, a.off + o, none⟩)) := _root_.id rfl
@[simp] theorem boxS_agg (cs : Array Value) : yA (.agg cs) m = some (.pointer (some ⟨m.n, 0, none⟩), newRow m cs.toList) := _root_.id rfl
@[simp] theorem retM_ap (v : Value) : retM m v = some (v, m) := _root_.id rfl
theorem kl (l : List Value) (o n : Nat) (h : o + n ≤ l.length) : loads (newRow m l) ⟨m.n, o, none⟩ n = some ((l.drop o).take n) := by
 unfold loads cellsOf newRow
 simp only [M.obj_alloc, if_true]
 show ldn (mkn .lf 0 l) o n = _
 have key : ∀ n o, o + n ≤ l.length → ldn (mkn .lf 0 l) o n = some ((l.drop o).take n) := by
  intro n
  induction n with
  | zero => intro o _; simp [yS]
  | succ n ih =>
   intro o ho
   rw [jB, zF, if_pos (by simp; omega), ih (o + 1) (by omega)]
   have : o < l.length := by omega
   rw [Nat.sub_zero, qae this, List.drop_eq_getElem_cons this]
   rfl
 exact key n o h
theorem Vi (l : List Value) (o : Nat) : load1 (newRow m l) ⟨m.n, o, none⟩ = l[o]? := by
 unfold load1 cellsOf newRow
 simp only [M.obj_alloc, if_true]
 show A.get none o (mkn .lf 0 l) = l[o]?
 rw [zF, A.get_lf]
 split
 ·simp
 ·rename_i h; simp at h; simp [h]
end
structure Ext (m m' : M) : Prop where
 n : m.n ≤ m'.n
 obj : ∀ B, B < m.n → m'.obj B = m.obj B
 base : m'.base = m.base
 log : m'.log = m.log
theorem Ext.refl (m : M) : Ext m m := ⟨qah _, fun _ _ => rfl, rfl, rfl⟩
theorem Ext.trans {a b c : M} (h : Ext a b) (k : Ext b c) : Ext a c := ⟨qaq h.n k.n, fun B hB => (k.obj B (qaj hB h.n)).trans (h.obj B hB), k.base.trans h.base, k.log.trans h.log⟩
theorem Ext.row (m : M) (l : List Value) : Ext m (newRow m l) := ⟨by unfold newRow; rw [M.n_alloc]; omega, fun B hB => by unfold newRow; rw [M.obj_alloc, if_neg (by omega)], M.base_alloc _ _, M.log_alloc _ _⟩
theorem ex_f {P : Program} {g : Nat} {d : DFn} (hd : we P g = some d) (n : Nat) (args : List Value) (m : M) : (ex P (n + 1)).f g args m = fc (ex P n) args m d := by
 show ob (we P g) (fc (ex P n) args m) = _
 rw [hd]; rfl
theorem di (x : Ex) (args : List Value) (m : M) (c : SC) (nt : Nat) (res : List RV) (h : args.length ≤ nt) : fc x args m ⟨c, nt, res⟩ = ob (c x (kD res) noK (kD res) (jg .blank 0 args) m) ZS := by
 show (bif Nat.ble args.length nt then ob (c x (kD res) noK (kD res) (jg .blank 0 args) m) ZS else none) = _
 rw [qam h]; rfl
@[simp] theorem initT_nil (t : Tm) (i : Nat) : jg t i [] = t := _root_.id rfl
@[simp] theorem qa5 (t : Tm) (i : Nat) (v : Value) (l : List Value) : jg t i (v :: l) = jg (Tm.set i v t) (i + 1) l := _root_.id rfl
theorem Wo (res : List RV) (t : Tm) (m : M) : kD res t m = ob (yW t m res) fun l => fin (gO l) m := _root_.id rfl
@[simp] theorem WM (v : Value) (m : M) : ob (fin v m) ZS = some (v, m) := by
 show some (Tm.get 0 (Tm.set 0 v .blank), m) = _
 rw [Tm.get_set_same]
theorem wrap64 (n : Int) (h1 : -9223372036854775808 ≤ n) (h2 : n ≤ 9223372036854775807) : IntKind.i64.wrap n = n := by rw [IntKind.wrap_i64]; omega
structure Sl (m : M) (v : Value) (e : Nat) (rows : List (List Value)) : Prop where
 len : qL v = some (.int .i64 rows.length)
 row : ∀ (i : Nat) (r : List Value), rows[i]? = some r → ∃ B o, B < m.n ∧ qZ e v (.int .i64 i) = some (.pointer (some ⟨B, o, none⟩)) ∧ loads m ⟨B, o, none⟩ e = some r
theorem VF {m m' : M} (h : Ext m m') {B o n : Nat} (hB : B < m.n) : loads m' ⟨B, o, none⟩ n = loads m ⟨B, o, none⟩ n := by
 unfold loads cellsOf; rw [h.obj B hB]
theorem Sl.ext {m m' : M} (h : Ext m m') {v : Value} {e : Nat} {rows : List (List Value)} (hs : Sl m v e rows) : Sl m' v e rows :=
 ⟨hs.len, fun i r hr => let ⟨B, o, h1, h2, h3⟩ := hs.row i r hr; ⟨B, o, qaj h1 h.n, h2, by rw [VF h h1]; exact h3⟩⟩
theorem qf (n : Nat) (a : Addr) (m : M) : FV n (.pointer (some a)) m = ob (loads m a n) fun l => some (.agg ⟨l⟩, m) := rfl
end
end Go.Dx
namespace Go.Dx
noncomputable section
section
variable (x : Ex) (k : List (Nat × FP) → K) (fps : List (Nat × FP)) (t : Tm) (m : M)
@[simp] theorem anyL_nil : Yr x [] k = k := _root_.id rfl
@[simp] theorem anyL_cons (i : DA) (l : List DA) : Yr x (i :: l) k fps t m = VV x i (Yr x l k) fps t m := _root_.id rfl
@[simp] theorem any1_none (ci : CI) (d : Option Nat) (ix : Nat) (inc : List Nat) : VV x ⟨ci, d, none, ix, inc⟩ k fps t m = yL x ⟨ci, d, none, ix, inc⟩ k fps t m := _root_.id rfl
@[simp] theorem any1_some (ci : CI) (d : Option Nat) (g : Nat) (b : Bool) (ix : Nat) (inc : List Nat) : VV x ⟨ci, d, some (g, b), ix, inc⟩ k fps t m = ob (isB b (Tm.get g t)) fun c => dV c (yL x ⟨ci, d, some (g, b), ix, inc⟩ k fps t m) (k fps (putD t d undef) m) := _root_.id rfl
@[simp] theorem anyR_pure (p : PO) (d : Option Nat) (g : Option (Nat × Bool)) (ix : Nat) (inc : List Nat) : yL x ⟨.pure p, d, g, ix, inc⟩ k fps t m = ob (p t) fun v => k fps (putD t d v) m := _root_.id rfl
@[simp] theorem anyR_mem1 (f : MO) (d : Option Nat) (g : Option (Nat × Bool)) (ix : Nat) (inc : List Nat) : yL x ⟨.mem 1 f, d, g, ix, inc⟩ k fps t m = obp (f x t m) fun v m' => k fps (putD t d v) m' := _root_.id rfl
@[simp] theorem anyR_load (o : V) (f : MO) (d : Option Nat) (g : Option (Nat × Bool)) (ix : Nat) (inc : List Nat) : yL x ⟨.load o f, d, g, ix, inc⟩ k fps t m = obp (f x t m) fun v m' =>
 dV (meets fps ⟨ob (ja (o t)) fun a => some a.block, []⟩ inc) (k ((ix, ⟨ob (ja (o t)) fun a => some a.block, []⟩) :: fps) (putD t d v) m') none := _root_.id rfl
@[simp] theorem anyR_mem3 (f : MO) (d : Option Nat) (g : Option (Nat × Bool)) (ix : Nat) (inc : List Nat) : yL x ⟨.mem 3 f, d, g, ix, inc⟩ k fps t m = obp (f x t (qn m)) fun v m' =>
 dV (meets fps ⟨none, m'.log⟩ inc) (k ((ix, ⟨none, m'.log⟩) :: fps) (putD t d v) (behind m m')) none := _root_.id rfl
@[simp] theorem yT (a : Addr) : ja (.pointer (some a)) = some a := _root_.id rfl
end
def quiet : List (Nat × FP) → Prop
 | [] => True
 | p :: l => p.2.wr = [] ∧ quiet l
attribute [simp] qx wH qw
theorem Ext.behind {m m' : M} (h : Ext (qn m) m') : Ext m (behind m m') := by
 have hl := h.log
 cases m with | mk h0 nx bs wl =>
 cases m' with | mk h1 nx1 bs1 wl1 =>
 have e : wl1 = [] := hl
 subst e
 exact ⟨h.n, h.obj, rfl, rfl⟩
end
end Go.Dx
namespace Go.Dx
noncomputable section
structure Sees (m0 m : M) : Prop where
 n : m0.n ≤ m.n
 obj : ∀ B, B < m0.n → m.obj B = m0.obj B
 base : m.base ≤ m.n
theorem Sees.refl {m : M} (h : m.base ≤ m.n) : Sees m m := ⟨qah _, fun _ _ => rfl, h⟩
theorem Sees.self {a b : M} (h : Sees a b) : Sees b b := .refl h.base
theorem Sees.ext {a b c : M} (h : Sees a b) (k : Ext b c) : Sees a c := ⟨qaq h.n k.n, fun B hB => (k.obj B (qaj hB h.n)).trans (h.obj B hB), by rw [k.base]; exact qaq h.base k.n⟩
theorem Sees.trans {a b c : M} (h : Sees a b) (k : Sees b c) : Sees a c := ⟨qaq h.n k.n, fun B hB => (k.obj B (qaj hB h.n)).trans (h.obj B hB), k.base⟩
@[simp] theorem KB {a b : M} (h : Sees a b) : Sees a (qn b) := ⟨by rw [qx]; exact h.n, fun B hB => by rw [qw]; exact h.obj B hB, by rw [qx, ki]; exact qah _⟩
@[simp] theorem qm (m : M) (l : List Value) : (newRow m l).n = m.n + 1 := M.n_alloc _ _
attribute [simp] Ext.refl
def Call (x : Ex) (g : Nat) (args : List Value) (m : M) (P : Value → M → Prop) : Prop := ∃ v m', x.f g args m = some (v, m') ∧ Ext m m' ∧ P v m'
def FM (x : Ex) (g : Nat) (args : List Value) (m : M) : Value := match x.f g args m with
 | some (v, _) => v
 | none => undef
def aft (x : Ex) (g : Nat) (args : List Value) (m : M) : M := match x.f g args m with
 | some (_, m') => m'
 | none => m
section
variable {x : Ex} {g : Nat} {args : List Value} {m m0 : M} {P : Value → M → Prop} {v : Value}
theorem Call.all (h : Call x g args m P) : x.f g args m = some (FM x g args m, aft x g args m) ∧ Ext m (aft x g args m) ∧ P (FM x g args m) (aft x g args m) := by
 obtain ⟨v, m', e, h1, h2⟩ := h
 unfold FM aft; rw [e]; exact ⟨rfl, h1, h2⟩
abbrev CallV (x : Ex) (g : Nat) (args : List Value) (m : M) (v : Value) : Prop := Call x g args m fun u _ => u = v
theorem Call.mono {Q : Value → M → Prop} (h : Call x g args m P) (k : ∀ v m', Ext m m' → P v m' → Q v m') : Call x g args m Q := let ⟨v, m', e, h1, h2⟩ := h; ⟨v, m', e, h1, k _ _ h1 h2⟩
theorem CallV.of {m' : M} (h : x.f g args m = some (v, m')) (e : Ext m m') : CallV x g args m v := ⟨v, m', h, e, rfl⟩
end
def Ret (m0 : M) (P : Value → M → Prop) : Option Out → Prop := fun o => ∃ v m', ob o ZS = some (v, m') ∧ Ext m0 m' ∧ P v m'
theorem qp {P : Program} {g : Nat} {c : SC} {nt : Nat} {res : List RV} {n : Nat} {args : List Value} {m : M} {Q : Value → M → Prop} (hd : we P g = some ⟨c, nt, res⟩) (ha : args.length ≤ nt)
  (h : Ret m Q (c (ex P n) (kD res) noK (kD res) (jg .blank 0 args) m)) : Call (ex P (n + 1)) g args m Q := by
 obtain ⟨v, m', e, h1, h2⟩ := h
 exact ⟨v, m', by rw [ex_f hd, di _ _ _ _ _ _ ha]; exact e, h1, h2⟩
theorem gz {m0 m : M} {Q : Value → M → Prop} {res : List RV} {t : Tm} {l : List Value} (h : yW t m res = some l) (he : Ext m0 m) (hq : Q (gO l) m) : Ret m0 Q (kD res t m) := by
 refine ⟨gO l, m, ?_, he, hq⟩
 rw [Wo, h, qy, WM]
theorem qh {m0 m : M} {Q : Value → M → Prop} {t : Tm} {p : Nat} (he : Ext m0 m) (hq : Q (Tm.get p t) m) : Ret m0 Q (kD [.t p] t m) := gz (l := [_]) rfl he hq
theorem fy {m0 m : M} {Q : Value → M → Prop} {t : Tm} {p q : Nat} (he : Ext m0 m) (hq : Q (.tuple #[Tm.get p t, Tm.get q t]) m) : Ret m0 Q (kD [.t p, .t q] t m) := gz (l := [_, _]) rfl he hq
theorem Fu {x : Ex} {kn kr : K} {ke : Nat → K} {a : SC} (Q : Option Out → Prop) (I : Nat → Tm → M → Prop) (len : Nat) (hlen : len ≤ 9223372036854775807)
  (round : ∀ i t m (k : K), i ≤ len → I i t m → (i < len → ∀ t' m', I (i + 1) t' m' → Q (k t' m')) → Q (a x k ke kr t m)) {t : Tm} {m : M} (h0 : I 0 t m) : Q (qT a x kn ke kr t m) := by
 rw [Yn]
 have key : ∀ (N i : Nat) (t : Tm) (m : M), len < N + i → i ≤ len → I i t m → Q (QL (fun k => a x k ke kr) N t m) := by
  intro N
  induction N with
  | zero => intro i t m h1 h2; omega
  | succ N ih =>
   intro i t m h1 h2 hI
   exact round i t m (QL (fun k => a x k ke kr) N) h2 hI fun hi t' m' h3 => ih (i + 1) t' m' (by omega) (by omega) h3
 exact key _ 0 t m (by omega) (Nat.zero_le _) h0
def adr (e : Nat) (v : Value) (i : Nat) : Addr := match v with
 | .slice (some a) _ _ => ⟨a.block, a.off + i * e, none⟩
 | _ => ⟨0, 0, none⟩
def blk : Value → Option Nat
 | .slice (some a) _ _ => some a.block
 | _ => none
theorem yP {m m' : M} {e n : Nat} {v : Value} (h : ∀ B, blk v = some B → m'.obj B = m.obj B) : qI m' e n v = qI m e n v := by
 cases v with
 | slice a k c =>
  cases a with
  | none => rfl
  | some a =>
   show loads m' a _ = loads m a _
   unfold loads cellsOf; rw [h _ rfl]
 | _ => rfl
structure Rd {α : Type} (m : M) (v : Value) (e : Nat) (f : α → List Value) (es : List α) : Prop where
 len : qL v = some (.int .i64 es.length)
 row : ∀ (i : Nat) (r : α), es[i]? = some r → qZ e v (.int .i64 i) = some (.pointer (some (adr e v i))) ∧ (adr e v i).block < m.n ∧ loads m (adr e v i) e = some (f r)
 all : qI m e es.length v = some (es.flatMap f)
 lt : ∀ B, blk v = some B → B < m.n
theorem dK {m m' : M} (h : Sees m m') {B o n : Nat} {s : Option Nat} (hB : B < m.n) : loads m' ⟨B, o, s⟩ n = loads m ⟨B, o, s⟩ n := by
 unfold loads cellsOf; rw [h.obj B hB]
theorem kx {m m' : M} (h : Sees m m') {B o : Nat} {s : Option Nat} (hB : B < m.n) : load1 m' ⟨B, o, s⟩ = load1 m ⟨B, o, s⟩ := by
 unfold load1 cellsOf; rw [h.obj B hB]
theorem jK {m : M} {a : Addr} {n : Nat} {l : List Value} (h : loads m a n = some l) {o : Nat} {s : Option Nat} {v : Value} (hv : l[o]? = some v) : load1 m ⟨a.block, a.off + o, s⟩ = some v := by
 unfold loads at h; unfold load1
 cases hc : cellsOf m a.block with
 | none => rw [hc] at h; cases h
 | some c =>
  rw [hc] at h
  exact (gV h).2 o v hv
section
variable {α : Type} {m : M} {v : Value} {e : Nat} {f : α → List Value} {es : List α}
theorem Rd.sees {m' : M} (h : Rd m v e f es) (k : Sees m m') : Rd m' v e f es :=
 ⟨h.len, fun i r hr => let ⟨h1, h2, h3⟩ := h.row i r hr; ⟨h1, qaj h2 k.n, by
  rw [show adr e v i = ⟨(adr e v i).block, (adr e v i).off, (adr e v i).spot⟩ from rfl, dK k h2]; exact h3⟩, by rw [yP fun B hB => k.obj B (h.lt B hB)]; exact h.all, fun B hB => qaj (h.lt B hB) k.n⟩
theorem Rd.at (h : Rd m v e f es) {i : Nat} {r : α} (hr : es[i]? = some r) :
  qZ e v (.int .i64 i) = some (.pointer (some (adr e v i))) ∧ (∀ m', Sees m m' → loads m' (adr e v i) e = some (f r)) ∧ (∀ m' o s, Sees m m' → o < (f r).length → load1 m' ⟨(adr e v i).block, (adr e v i).off + o, s⟩ = (f r)[o]?) := by
 obtain ⟨h1, h2, h3⟩ := h.row i r hr
 have key : ∀ m', Sees m m' → loads m' (adr e v i) e = some (f r) := fun m' k => by
  rw [show adr e v i = ⟨(adr e v i).block, (adr e v i).off, (adr e v i).spot⟩ from rfl, dK k h2]; exact h3
 exact ⟨h1, key, fun m' o s k ho => by rw [jK (key m' k) (qae ho), qae ho]⟩
end
def Arr (m : M) (B : Nat) (l : List Value) : Prop := ∃ c, m.obj B = some (.cells c) ∧ ∀ i, A.get none i c = l[i]?
theorem Arr.congr {m m' : M} {B : Nat} {l : List Value} (h : Arr m B l) (e : m'.obj B = m.obj B) : Arr m' B l := let ⟨c, h1, h2⟩ := h; ⟨c, e.trans h1, h2⟩
theorem Arr.sees {m m' : M} {B : Nat} {l : List Value} (h : Arr m B l) (k : Sees m m') (hB : B < m.n) : Arr m' B l := h.congr (k.obj B hB)
theorem Arr.ext {m m' : M} {B : Nat} {l : List Value} (h : Arr m B l) (k : Ext m m') (hB : B < m.n) : Arr m' B l := h.congr (k.obj B hB)
theorem Arr.row (m : M) (l : List Value) : Arr (newRow m l) m.n l := by
 refine ⟨mkn .lf 0 l, by unfold newRow; rw [M.obj_alloc, if_pos rfl], fun i => ?_⟩
 rw [zF, A.get_lf]
 split
 ·simp
 ·rename_i h; simp at h; simp [h]
theorem ldn_of {c : C} {l : List Value} (h : ∀ i, A.get none i c = l[i]?) : ∀ (n o : Nat), o + n ≤ l.length → ldn c o n = some ((l.drop o).take n) := by
 intro n
 induction n with
 | zero => intro o _; simp [yS]
 | succ n ih =>
  intro o ho
  have : o < l.length := by omega
  rw [jB, h, qae this, ih (o + 1) (by omega), List.drop_eq_getElem_cons this]
  rfl
theorem Arr.loads {m : M} {B : Nat} {l : List Value} (h : Arr m B l) {o n : Nat} {s : Option Nat} (hn : o + n ≤ l.length) : loads m ⟨B, o, s⟩ n = some ((l.drop o).take n) := by
 obtain ⟨c, h1, h2⟩ := h
 unfold Dx.loads cellsOf
 rw [h1]; exact ldn_of h2 n o hn
theorem Arr.load1 {m : M} {B : Nat} {l : List Value} (h : Arr m B l) (o : Nat) (s : Option Nat) : load1 m ⟨B, o, s⟩ = l[o]? := by
 obtain ⟨c, h1, h2⟩ := h
 unfold Dx.load1 cellsOf
 rw [h1]; exact h2 o
def over (l : List Value) (o : Nat) : List Value → List Value
 | [] => l
 | v :: vs => over (l.set o v) (o + 1) vs
theorem yr : ∀ {vs l : List Value} {c : C} {o : Nat}, (∀ i, A.get none i c = l[i]?) → o + vs.length ≤ l.length → (∀ v ∈ vs, okC v = true) → ∃ c', stn c o vs = some c' ∧ ∀ i, A.get none i c' = (over l o vs)[i]?
 | [], l, c, o, h, _, _ => ⟨c, rfl, h⟩
 | v :: vs, l, c, o, h, hn, hv => by
  have ho : o < l.length := by simp at hn; omega
  obtain ⟨c', e, h'⟩ := yr (vs := vs) (l := l.set o v) (c := A.set none (some v) o c) (o := o + 1) (fun i => by
   by_cases hi : i = o
   ·subst hi; rw [A.get_set_same]; simp [ho]
   ·rw [A.get_set_ne _ _ hi, h, qb5 (by omega)]) (by simp at hn ⊢; omega) (fun u hu => hv u (qap _ hu))
  refine ⟨c', ?_, h'⟩
  show ob (A.get none o c) _ = _
  rw [h, qae ho]
  show (bif okC v then _ else none) = _
  rw [hv v (qay ..)]
  exact e
def zc (m : M) (B o : Nat) (l : List Value) : M := (wA m ⟨B, o, none⟩ l).getD m
theorem qY {m : M} {B o : Nat} {l l0 : List Value} (h : Arr m B l0) (hn : o + l.length ≤ l0.length) (hl : ∀ v ∈ l, okC v = true) :
  wA m ⟨B, o, none⟩ l = some (zc m B o l) ∧ Arr (zc m B o l) B (over l0 o l) ∧ (zc m B o l).n = m.n ∧ (zc m B o l).base = m.base ∧ (∀ X, X ≠ B → (zc m B o l).obj X = m.obj X) ∧ (m.base ≤ B → (zc m B o l).log = m.log) := by
 obtain ⟨c, h1, h2⟩ := h
 cases l with
 | nil => exact ⟨rfl, ⟨c, h1, h2⟩, rfl, rfl, fun _ _ => rfl, fun _ => rfl⟩
 | cons v vs =>
  obtain ⟨c', e, h'⟩ := yr h2 hn hl
  have key : wA m ⟨B, o, none⟩ (v :: vs) = some (m.put B (.cells c')) := by
   show ob (jb (m.obj B)) _ = _
   rw [h1]
   show ob (stn c o (v :: vs)) _ = _
   rw [e]; rfl
  have hp : zc m B o (v :: vs) = m.put B (.cells c') := by unfold zc; rw [key]; rfl
  rw [hp]
  refine ⟨key, ⟨c', by rw [M.obj_put, if_pos rfl], h'⟩, M.n_put _ _ _, M.base_put _ _ _, fun X hX => by rw [M.obj_put, if_neg hX], fun hb => ?_⟩
  cases m with | mk a b bs wl =>
  show note bs B wl = wl
  have h' : Nat.ble bs B = true := qam hb
  unfold note
  rw [h']; rfl
theorem Ge {m a : M} {B o : Nat} {l l0 : List Value} (h : Arr m B l0) (hn : o + l.length ≤ l0.length) (hl : ∀ v ∈ l, okC v = true) (hB : a.n ≤ B) (hb : a.base ≤ a.n) (k : Ext a m) : Ext a (zc m B o l) := by
 obtain ⟨_, _, h1, h2, h3, h4⟩ := qY h hn hl
 exact ⟨by rw [h1]; exact k.n, fun X hX => by rw [h3 X (by omega)]; exact k.obj X hX, by rw [h2, k.base], by rw [h4 (by rw [k.base]; omega), k.log]⟩
theorem wQ {m : M} {B o : Nat} {l0 : List Value} (h : Arr m B l0) {v : Value} {l : List Value} {n : Nat} (hv : zr v = some l) (hln : l.length = n) (hn : o + n ≤ l0.length) (hl : ∀ v ∈ l, okC v = true) :
  qH n (.pointer (some ⟨B, o, none⟩)) v m = some (undef, zc m B o l) := by
 have := (qY (o := o) (l := l) h (by omega) hl).1
 show ob (zr v) _ = _
 rw [hv]
 show (bif Nat.beq l.length n then _ else none) = _
 rw [hln, Nat.beq_refl]
 show ob (wA m ⟨B, o, none⟩ l) _ = _
 rw [this]; rfl
theorem JJ {m : M} (hm : m.base ≤ m.n) {zs l : List Value} {v : Value} {n : Nat} (hv : zr v = some l) (hz : zs.length = n) (hln : l.length = n) (hl : ∀ v ∈ l, okC v = true) :
  qH n (.pointer (some ⟨m.n, 0, none⟩)) v (newRow m zs) = some (undef, zc (newRow m zs) m.n 0 l) ∧ Arr (zc (newRow m zs) m.n 0 l) m.n (over zs 0 l) ∧ Ext m (zc (newRow m zs) m.n 0 l) ∧ m.n < (zc (newRow m zs) m.n 0 l).n := by
 have h := Arr.row m zs
 refine ⟨wQ h hv hln (by omega) hl, (qY (o := 0) (l := l) h (by omega) hl).2.1, Ge h (by omega) hl (qah _) hm (Ext.row _ _), ?_⟩
 rw [(qY (o := 0) (l := l) h (by omega) hl).2.2.1, qm]; omega
theorem bY : ∀ (l zs : List Value) (p : List Value), zs.length = l.length → over (p ++ zs) p.length l = p ++ l
 | [], zs, p, h => by cases zs <;> simp_all [over]
 | v :: l, zs, p, h => by
  cases zs with
  | nil => simp at h
  | cons z zs =>
   unfold over
   have := bY l zs (p ++ [v]) (by simpa using h)
   simp at this ⊢
   exact this
theorem vM {l zs : List Value} (h : zs.length = l.length) : over zs 0 l = l := bY l zs [] h
abbrev SeqR (c a b : SC) : Prop := ∀ (x : Ex) (n : K) (e : Nat → K) (r : K) (t : Tm) (m : M), c x n e r t m = a x (b x n e r) e r t m
abbrev BlockR (c : SC) (id : Nat) (a : SC) : Prop := ∀ (x : Ex) (n : K) (e : Nat → K) (r : K) (t : Tm) (m : M), c x n e r t m = a x n (yg id n e) r t m
theorem qR {c a b : SC} (h : c = qc a b) : SeqR c a b := by subst h; exact fun _ _ _ _ _ _ => rfl
theorem yo {c : SC} {id : Nat} {a : SC} (h : c = qk id a) : BlockR c id a := by subst h; exact fun _ _ _ _ _ _ => rfl
theorem KA {c : List IS} {a : IS} {l : List IS} (h : c = a :: l) : ∀ (x : Ex) (k : K) (t : Tm) (m : M), yb c x k t m = a x (yb l x k) t m := by subst h; exact fun _ _ _ _ => rfl
theorem Bl {c : List DA} {a : DA} {l : List DA} (h : c = a :: l) : ∀ (x : Ex) (k : List (Nat × FP) → K) (f : List (Nat × FP)) (t : Tm) (m : M), Yr x c k f t m = VV x a (Yr x l k) f t m := by subst h; exact fun _ _ _ _ _ => rfl
theorem qq {c a : SC} (hc : c = qT a) {x : Ex} {kn kr : K} {ke : Nat → K} (Q : Option Out → Prop) (I : Nat → Tm → M → Prop) (len : Nat) (hlen : len ≤ 9223372036854775807) {t : Tm} {m : M} (h0 : I 0 t m)
  (round : ∀ i t m (k : K), i ≤ len → I i t m → (i < len → ∀ t' m', I (i + 1) t' m' → Q (k t' m')) → Q (a x k ke kr t m)) : Q (c x kn ke kr t m) := by
 subst hc; exact Fu Q I len hlen round h0
theorem Zh {m : M} (hm : m.base ≤ m.n) {zs l : List Value} {v : Value} {n : Nat} (hv : zr v = some l) (hz : zs.length = n) (hln : l.length = n) (hl : ∀ v ∈ l, okC v = true) :
  ∃ m2, qH n (.pointer (some ⟨m.n, 0, none⟩)) v (newRow m zs) = some (undef, m2) ∧ (∀ o s, load1 m2 ⟨m.n, o, s⟩ = l[o]?) ∧ (∀ s, loads m2 ⟨m.n, 0, s⟩ n = some l) ∧ Ext m m2 ∧ m.n < m2.n := by
 obtain ⟨h1, h2, h3, h4⟩ := JJ hm hv hz hln hl
 rw [vM (by omega)] at h2
 exact ⟨_, h1, fun o s => h2.load1 o s, fun s => by rw [h2.loads (by omega), List.drop_zero, ← hln, List.take_length], h3, h4⟩
@[simp] theorem qab (x : Ex) (t : Tm) (m : M) (e n : Nat) (zs : List Value) (ps : List (Nat × Nat × V)) : qV e n zs ps x t m = kc e n zs (evP ps t) m := _root_.id rfl
theorem bS {c : C} {v : Value} {i : Nat} (h : A.get none i c = some v) : alive c = true := by
 cases c with
 | lf => rw [A.get_lf] at h; cases h
 | _ => rfl
def Grown {α : Type} (m0 m : M) (v : Value) (e : Nat) (f : α → List Value) (es : List α) : Prop :=
 (es = [] ∧ v = .slice none 0 0) ∨ ∃ B, m0.n ≤ B ∧ B < m.n ∧ es ≠ [] ∧ v = .slice (some ⟨B, 0, some (code e false)⟩) es.length es.length ∧ Arr m B (es.flatMap f)
section
variable {α : Type} {m0 m m' : M} {v : Value} {e : Nat} {f : α → List Value} {es : List α}
theorem Grown.nil : Grown m0 m (.slice none 0 0) e f ([] : List α) := .inl ⟨rfl, rfl⟩
theorem Grown.keep (h : Grown m0 m v e f es) (hn : m.n ≤ m'.n) (k : ∀ B, B < m.n → blk v = some B → m'.obj B = m.obj B) : Grown m0 m' v e f es := by
 rcases h with h | ⟨B, h1, h2, h3, rfl, h5⟩
 ·exact .inl h
 ·exact .inr ⟨B, h1, by omega, h3, rfl, h5.congr (k B h2 rfl)⟩
theorem Grown.ext (h : Grown m0 m v e f es) (k : Ext m m') : Grown m0 m' v e f es := h.keep k.n fun B hB _ => k.obj B hB
theorem Grown.lens (h : Grown m0 m v e f es) : qL v = some (.int .i64 es.length) := by
 rcases h with ⟨rfl, rfl⟩ | ⟨B, h1, h2, h3, rfl, h5⟩ <;> rfl
theorem qX (hf : ∀ x, (f x).length = e) : ∀ es : List α, (es.flatMap f).length = es.length * e
 | [] => by simp
 | x :: es => by simp [hf x, qX hf es, Nat.succ_mul, Nat.add_comm]
theorem zY (hf : ∀ x, (f x).length = e) : ∀ (es : List α) (i : Nat) (x : α), es[i]? = some x → ((es.flatMap f).drop (i * e)).take e = f x
 | [], i, x, h => by simp at h
 | y :: es, 0, x, h => by
  simp at h; subst h
  simp [← hf y]
 | y :: es, i + 1, x, h => by
  simp at h
  rw [List.flatMap_cons, List.drop_append, Nat.succ_mul, hf y, List.drop_eq_nil_of_le (by rw [hf y]; omega), List.nil_append, Nat.add_sub_cancel]
  exact zY hf es i x h
theorem Grown.rd (hf : ∀ x, (f x).length = e) (h : Grown m0 m v e f es) : Rd m v e f es := by
 refine ⟨h.lens, fun i r hr => ?_, ?_, ?_⟩
 rotate_left
 ·rcases h with ⟨rfl, rfl⟩ | ⟨B, h1, h2, h3, rfl, h5⟩
  ·rfl
  ·show loads m ⟨B, 0, some (code e false)⟩ (es.length * e) = _
   have hlen := qX hf es
   rw [h5.loads (by omega), List.drop_zero, ← hlen, List.take_length]
 ·rcases h with ⟨rfl, rfl⟩ | ⟨B, h1, h2, h3, rfl, h5⟩
  ·intro B hB; cases hB
  ·intro C hC; cases hC; exact h2
 have hi : i < es.length := (qag.1 hr).1
 rcases h with ⟨rfl, rfl⟩ | ⟨B, h1, h2, h3, rfl, h5⟩
 ·simp at hi
 ·refine ⟨?_, h2, ?_⟩
  ·show (bif Nat.blt i es.length then dy (i * e) _ else none) = _
   rw [show Nat.blt i es.length = true from qam hi]; rfl
  ·show loads m ⟨B, 0 + i * e, none⟩ e = _
   have := qb0 e (Nat.succ_le_of_lt hi)
   rw [h5.loads (by rw [qX hf, Nat.zero_add]; rw [Nat.succ_mul] at this; omega), Nat.zero_add, zY hf es i r hr]
theorem fw : ∀ {l : List Value}, (∀ v ∈ l, okC v = true) → jW l = true
 | [], _ => rfl
 | v :: l, h => by unfold jW; rw [h v (qay ..), fw fun u hu => h u (qap _ hu)]; rfl
theorem Grown.core (h : Grown m0 m v e f es) (he : 0 < e) (hf : ∀ x, (f x).length = e) (hok : ∀ x, ∀ v ∈ f x, okC v = true) {x : α} {X : Nat} {sp : Option Nat}
  (hx : loads m ⟨X, 0, sp⟩ e = some (f x)) (h0 : m0.n ≤ m.n) {bytes : Nat} (hm : (es.length + 1) * bytes ≤ qW) (hn : es.length + 1 ≤ 4611686018427387904) :
  ∃ v' m', qS m e bytes v (.slice (some ⟨X, 0, sp⟩) 1 1) = some (v', m') ∧ Grown m0 m' v' e f (es ++ [x]) ∧ m.n < m'.n ∧ m'.base = m.base ∧ (m'.log = m.log ∨ ∃ B, blk v = some B ∧ m0.n ≤ B ∧ m'.log = note m.base B m.log) ∧ (∀ B, B < m.n → blk v ≠ some B → m'.obj B = m.obj B) ∧ (∀ B, blk v' = some B → m.n ≤ B) := by
 have hk : (Nat.ble ((es.length + 1) * bytes) qW && Nat.ble (es.length + 1) 4611686018427387904) = true := by rw [qam hm, qam hn]; rfl
 have hfi : qI m e 1 (.slice (some ⟨X, 0, sp⟩) 1 1) = some (f x) := by unfold qI; rw [Nat.one_mul]; exact hx
 have hal : jW (es.flatMap f ++ f x) = true := fw fun u hu => by
  simp only [qb6, List.mem_flatMap] at hu
  rcases hu with ⟨y, _, h⟩ | h
  ·exact hok y u h
  ·exact hok x u h
 have hfl : (es ++ [x]).flatMap f = es.flatMap f ++ f x := by simp
 rcases h with ⟨rfl, rfl⟩ | ⟨B, h1, h2, h3, rfl, h5⟩
 ·refine ⟨_, _, ?_, .inr ⟨m.n, h0, by rw [qm]; omega, by simp, rfl, by simpa using Arr.row m (f x)⟩, by rw [qm]; omega, (Ext.row m (f x)).base, .inl (Ext.row m (f x)).log,
   fun B hB _ => (Ext.row m (f x)).obj B hB, fun B hB => by cases hB; exact qah _⟩
  show ob (qI m e 1 _) _ = _
  rw [hfi, qy]
  unfold vt
  have hlt : Nat.ble (0 + 1) 0 = false := rfl
  have hk' : (Nat.ble ((0 + 1) * bytes) qW && Nat.ble (0 + 1) 4611686018427387904) = true := hk
  rw [hlt, cond_false, hk', cond_true]
  rfl
 ·have hlt : Nat.ble (es.length + 1) es.length = false := by
   cases q : Nat.ble (es.length + 1) es.length with
   | false => rfl
   | true => exact absurd (qan q) (by omega)
  obtain ⟨c, hc, hcl⟩ := id h5
  have hpos : 0 < es.length := qb4.2 h3
  have hlen := qX hf es
  have hne : 0 < (es.flatMap f).length := by rw [hlen]; exact Nat.mul_pos hpos he
  have ha : alive c = true := bS (i := 0) (by rw [hcl, qae hne])
  refine ⟨.slice (some ⟨m.n, 0, some (code e false)⟩) (es.length + 1) (es.length + 1), (m.put B (.cells .lf)).alloc (.cells (mkn .lf 0 (es.flatMap f ++ f x))), ?_,
   .inr ⟨m.n, h0, by rw [M.n_alloc, M.n_put]; omega, by simp, by simp, ?_⟩, by rw [M.n_alloc, M.n_put]; omega, by rw [M.base_alloc, M.base_put], .inr ⟨B, rfl, h1, by rw [M.log_alloc]; cases m; rfl⟩, fun Y hY hne' => ?_, fun Y hY => by cases hY; exact qah _⟩
  ·show ob (qI m e 1 _) _ = _
   rw [hfi, qy]
   unfold vt
   rw [hlt, cond_false, hk, cond_true]
   have hold : qI m e es.length (.slice (some ⟨B, 0, some (code e false)⟩) es.length es.length) = some (es.flatMap f) := by
    show loads m ⟨B, 0, some (code e false)⟩ (es.length * e) = _
    rw [h5.loads (by omega), List.drop_zero, ← hlen, List.take_length]
   rw [hold, qy]
   unfold jC
   have hx' : jS (code e false) = false := by
    show Nat.beq (2 * e % 2) 1 = false
    rw [show 2 * e % 2 = 0 by omega]; rfl
   have hcd : Nat.beq (code e false / 2) e = true := by
    show Nat.beq (2 * e / 2) e = true
    rw [show 2 * e / 2 = e by omega]; exact Nat.beq_refl e
   show ob (some (code e false)) _ = _
   rw [qy, hx', cond_false]
   show ob (jb (m.obj B)) _ = _
   rw [hc]
   show (bif alive c && Nat.beq (code e false / 2) e && jW (es.flatMap f ++ f x) && Nat.blt 0 HI then _ else _) = _
   rw [ha, hcd, hal, show Nat.blt 0 HI = true from qam (by unfold HI; omega)]
   rfl
  ·rw [hfl]
   refine ⟨_, by rw [M.obj_alloc, M.n_put, if_pos rfl], fun i => ?_⟩
   rw [zF, A.get_lf]
   split
   ·simp
   ·rename_i h; rw [qb3 (by omega)]
  ·rw [M.obj_alloc, M.n_put, if_neg (by omega), M.obj_put, if_neg (by rintro rfl; exact hne' rfl)]
theorem vT {bs B : Nat} {wl : List Nat} (h : bs ≤ B) : note bs B wl = wl := by unfold note; rw [qam h]; rfl
theorem Grown.append (h : Grown m0 m v e f es) (hE : Ext m0 m) (hb : m0.base ≤ m0.n) (he : 0 < e) (hf : ∀ x, (f x).length = e) (hok : ∀ x, ∀ v ∈ f x, okC v = true) {x : α} {X : Nat} {sp : Option Nat}
  (hx : loads m ⟨X, 0, sp⟩ e = some (f x)) {bytes : Nat} (hm : (es.length + 1) * bytes ≤ qW) (hn : es.length + 1 ≤ 4611686018427387904) :
  ∃ v' m', qS m e bytes v (.slice (some ⟨X, 0, sp⟩) 1 1) = some (v', m') ∧ Ext m0 m' ∧ Grown m0 m' v' e f (es ++ [x]) ∧ m.n ≤ m'.n ∧ (∀ B, B < m.n → blk v ≠ some B → m'.obj B = m.obj B) ∧ (∀ B, blk v' = some B → m.n ≤ B) := by
 have hlow : ∀ B, blk v = some B → m0.n ≤ B := fun B hB => by
  rcases h with ⟨rfl, rfl⟩ | ⟨B', h1, _, _, rfl, _⟩
  ·cases hB
  ·cases hB; exact h1
 obtain ⟨v', m', h1, h2, h3, h4, h5, h6, h7⟩ := h.core he hf hok hx hE.n hm hn
 refine ⟨v', m', h1, ⟨by have := hE.n; omega, fun B hB => (h6 B (by have := hE.n; omega) fun hc => by have := hlow B hc; omega).trans (hE.obj B hB), by rw [h4, hE.base], ?_⟩, h2, by omega, h6, h7⟩
 rcases h5 with h5 | ⟨B, _, hB, h5⟩
 ·rw [h5, hE.log]
 ·rw [h5, vT (by rw [hE.base]; omega), hE.log]
end
@[simp] theorem extract_0 (a : Value) (l : List Value) : wZ 0 (.tuple ⟨a :: l⟩) = some a := _root_.id rfl
@[simp] theorem extract_1 (a b : Value) (l : List Value) : wZ 1 (.tuple ⟨a :: b :: l⟩) = some b := _root_.id rfl
@[simp] theorem extract_2 (a b c : Value) (l : List Value) : wZ 2 (.tuple ⟨a :: b :: c :: l⟩) = some c := _root_.id rfl
@[simp] theorem pNilck_p (a : Addr) : bB (.pointer (some a)) = some (.pointer (some a)) := _root_.id rfl
@[simp] theorem mCallv_ap (f : V) (l : List V) (x : Ex) (t : Tm) (m : M) : jx f l x t m = Wy x (evs t l) m (f t) := _root_.id rfl
@[simp] theorem qad (x : Ex) (l : List Value) (m : M) (g : Nat) (u v : List Value) : Wy x l m (.func (.func g) ⟨u⟩ ⟨v⟩) = x.f g (u ++ l ++ v) m := _root_.id rfl
@[simp] theorem pMkfn_ap (g : Nat) (a b : List V) (t : Tm) : dz g a b t = some (.func (.func g) ⟨evs t a⟩ ⟨evs t b⟩) := _root_.id rfl
end
def Sp (e : Nat) (v : Value) : Prop := v = .slice none 0 0 ∨ ∃ B o l c x, v = .slice (some ⟨B, o, some (code e x)⟩) l c ∧ l ≤ c
end Go.Dx
namespace Go.Dx
noncomputable section
@[simp] theorem Vx (m : M) (a : Addr) (n : Nat) : loads (qn m) a n = loads m a n := by unfold loads cellsOf; rw [qw]
@[simp] theorem meets_nil (l : List (Nat × FP)) (x : FP) : meets l x [] = true := rfl
theorem xF {bs : Nat} {wl : List Nat} : ∀ {l : List Nat}, (∀ B ∈ l, bs ≤ B) → notes bs wl l = wl
 | [], _ => rfl
 | B :: l, h => by
  show notes bs (note bs B wl) l = wl
  have : note bs B wl = wl := by unfold note; rw [qam (h B (qay ..))]; rfl
  rw [this]; exact xF fun C hC => h C (qap _ hC)
structure St (m0 m : M) (σ : List (Nat × List Value)) : Prop where
 ext : Ext m0 m
 base : m0.base ≤ m0.n
 arr : ∀ p ∈ σ, m0.n ≤ p.1 ∧ p.1 < m.n ∧ Arr m p.1 p.2
 nd : (σ.map (·.1)).Nodup
def Loads (m : M) : List (Nat × List Value) → Prop
 | [] => True
 | p :: σ => (∀ o s, load1 m ⟨p.1, o, s⟩ = p.2[o]?) ∧ Loads m σ
section
variable {m0 m m' : M} {σ : List (Nat × List Value)} {k b o : Nat} {l : List Value} {v : Value}
theorem St.nil (h : m0.base ≤ m0.n) (e : Ext m0 m) : St m0 m [] := ⟨e, h, (by simp), (by simp)⟩
theorem St.loads (h : St m0 m σ) : Loads m σ := by
 have := h.arr
 clear h
 induction σ with
 | nil => trivial
 | cons p σ ih => exact ⟨fun o s => (this p (qay ..)).2.2.load1 o s, ih fun q hq => this q (qap _ hq)⟩
theorem St.get (h : St m0 m σ) (k : Nat) (hk : σ[k]? = some (b, l)) : m0.n ≤ b ∧ b < m.n ∧ Arr m b l := h.arr _ (qaf hk)
theorem St.keep (h : St m0 m σ) (e : Ext m0 m') (hn : m.n ≤ m'.n) (ho : ∀ B, m0.n ≤ B → B < m.n → m'.obj B = m.obj B) : St m0 m' σ :=
 ⟨e, h.base, fun p hp => let ⟨h1, h2, h3⟩ := h.arr p hp; ⟨h1, by omega, h3.congr (ho _ h1 h2)⟩, h.nd⟩
theorem St.step (h : St m0 m σ) (e : Ext m m') : St m0 m' σ := h.keep (h.ext.trans e) e.n fun B _ hB => e.obj B hB
theorem St.sees (h : St m0 m σ) : Sees m0 m := (Sees.refl h.base).ext h.ext
theorem St.behind (h : St m0 m σ) (e : Ext (qn m) m') : St m0 (behind m m') σ := h.step e.behind
theorem St.row (h : St m0 m σ) (l : List Value) : St m0 (newRow m l) ((m.n, l) :: σ) := by
 have h' := h.step (Ext.row m l)
 refine ⟨h'.ext, h.base, fun p hp => ?_, ?_⟩
 ·rcases List.mem_cons.1 hp with rfl | hp
  ·exact ⟨h.ext.n, by rw [qm]; exact Nat.lt_succ_self _, Arr.row m l⟩
  ·exact h'.arr p hp
 ·rw [List.map_cons, List.nodup_cons]
  refine ⟨fun hm => ?_, h.nd⟩
  obtain ⟨q, hq, e⟩ := List.mem_map.1 hm
  have := (h.arr q hq).2.1
  omega
theorem Ki {σ : List (Nat × List Value)} (hn : (σ.map (·.1)).Nodup) {i j : Nat} {p q : Nat × List Value} (hi : σ[i]? = some p) (hj : σ[j]? = some q) (h : p.1 = q.1) : i = j := by
 obtain ⟨hi', rfl⟩ := qag.1 hi
 obtain ⟨hj', rfl⟩ := qag.1 hj
 have key : ∀ (l : List Nat), l.Nodup → ∀ (i j : Nat) (x : Nat), l[i]? = some x → l[j]? = some x → i = j := by
  intro l
  induction l with
  | nil => intro _ i j x h; simp at h
  | cons a l ih =>
   intro hn i j x h1 h2
   rw [List.nodup_cons] at hn
   cases i with
   | zero =>
    cases j with
    | zero => rfl
    | succ j => simp at h1 h2; subst h1; exact absurd (qaf h2) hn.1
   | succ i =>
    cases j with
    | zero => simp at h1 h2; subst h2; exact absurd (qaf h1) hn.1
    | succ j => simp at h1 h2; rw [ih hn.2 i j x h1 h2]
 exact key _ hn i j (σ[i]'hi').1 (by rw [qaw, qae hi']; rfl) (by rw [qaw, qae hj', h]; rfl)
theorem St.put' (h : St m0 m σ) (k : Nat) (hk : σ[k]? = some (b, l)) {l' : List Value} (hn : m'.n = m.n) (hb : m'.base = m.base) (hlog : m'.log = m.log) (ho : ∀ X, X ≠ b → m'.obj X = m.obj X) (ha : Arr m' b l') : St m0 m' (σ.set k (b, l')) := by
 obtain ⟨hk', hke⟩ := qag.1 hk
 have hb0 := (h.get k hk).1
 refine ⟨⟨by rw [hn]; exact h.ext.n, fun X hX => by rw [ho X (by omega)]; exact h.ext.obj X hX, by rw [hb, h.ext.base], by rw [hlog, h.ext.log]⟩, h.base, fun p hp => ?_, ?_⟩
 ·obtain ⟨j, hj, rfl⟩ := List.getElem_of_mem hp
  rw [List.getElem_set]
  rw [List.length_set] at hj
  split
  ·exact ⟨hb0, by rw [hn]; exact (h.get k hk).2.1, ha⟩
  ·rename_i hne
   obtain ⟨h1, h2, h3⟩ := h.arr _ (List.getElem_mem hj)
   refine ⟨h1, by rw [hn]; exact h2, h3.congr (ho _ fun e => hne ?_)⟩
   exact (Ki h.nd (qae hj) hk e).symm
 ·have : (σ.set k (b, l')).map (·.1) = σ.map (·.1) := by
   rw [List.map_set]
   show (σ.map (·.1)).set k b = _
   refine List.ext_getElem (by simp) fun i h1 h2 => ?_
   rw [List.getElem_set]
   split
   ·subst_vars; simp [hke]
   ·rfl
  rw [this]; exact h.nd
theorem St.store (h : St m0 m σ) (k : Nat) (hk : σ[k]? = some (b, l)) (ho : o < l.length) (hv : okC v = true) :
  ∃ m', qH 1 (.pointer (some ⟨b, o, none⟩)) v m = some (undef, m') ∧ St m0 m' (σ.set k (b, l.set o v)) ∧ m'.n = m.n ∧ (∀ X, X ≠ b → m'.obj X = m.obj X) := by
 obtain ⟨h1, h2, h3⟩ := h.get k hk
 have hcv : zr v = some [v] := by cases v <;> first | rfl | simp [okC] at hv
 have e := wQ (n := 1) (o := o) h3 hcv rfl (by omega) (by simpa using hv)
 obtain ⟨_, s2, s3, s4, s5, s6⟩ := qY (o := o) (l := [v]) h3 (by simp; omega) (by simpa using hv)
 exact ⟨_, e, h.put' k hk s3 s4 (s6 (by have := h.ext.base; have := h.base; omega)) s5 s2, s3, s5⟩
theorem St.storeAny (h : St m0 m σ) (k : Nat) (hk : σ[k]? = some (b, l)) (ho : o < l.length) (hv : okC v = true) :
  ∃ m', qH 1 (.pointer (some ⟨b, o, none⟩)) v (qn m) = some (undef, m') ∧ m'.log = [b] ∧ St m0 (Dx.behind m m') (σ.set k (b, l.set o v)) ∧ (Dx.behind m m').n = m.n ∧ (∀ X, X ≠ b → (Dx.behind m m').obj X = m.obj X) := by
 obtain ⟨h1, h2, h3⟩ := h.get k hk
 have hcv : zr v = some [v] := by cases v <;> first | rfl | simp [okC] at hv
 have h3' : Arr (qn m) b l := h3.congr (qw m b)
 have e := wQ (n := 1) (o := o) h3' hcv rfl (by omega) (by simpa using hv)
 obtain ⟨s1, s2, s3, s4, s5, s6⟩ := qY (o := o) (l := [v]) h3' (by simp; omega) (by simpa using hv)
 have hlog : (zc (qn m) b o [v]).log = [b] := by
  obtain ⟨c, hc, hcl⟩ := h3'
  have : ∃ c', wA (qn m) ⟨b, o, none⟩ [v] = some ((qn m).put b (.cells c')) := by
   have hs : wA (qn m) ⟨b, o, none⟩ [v] = ob (jb ((qn m).obj b)) fun c => ob (stn c o [v]) fun c' => some ((qn m).put b (.cells c')) := rfl
   rw [hs, hc]
   obtain ⟨c', e', _⟩ := yr (vs := [v]) (o := o) hcl (by simp; omega) (by simpa using hv)
   exact ⟨c', by show ob (stn c o [v]) _ = _; rw [e']; rfl⟩
  obtain ⟨c', e'⟩ := this
  have hp : zc (qn m) b o [v] = (qn m).put b (.cells c') := by unfold zc; rw [e']; rfl
  rw [hp]
  cases m with | mk a nx bs wl =>
  show note nx b [] = [b]
  have h2' : b < nx := h2
  unfold note
  have : Nat.ble nx b = false := by
   cases q : Nat.ble nx b with
   | false => rfl
   | true => exact absurd (qan q) (by omega)
  rw [this]; rfl
 refine ⟨_, e, hlog, h.put' k hk (by rw [wu, s3, qx]) (kh _ _) ?_ (fun X hX => by rw [qB, s5 X hX, qw]) (s2.congr (qB _ _ _)), by rw [wu, s3, qx], fun X hX => by rw [qB, s5 X hX, qw]⟩
 rw [km, hlog]
 refine xF fun B hB => ?_
 rw [qal.1 hB, h.ext.base]
 have := h.base
 omega
end
theorem Rd.lenV {α : Type} {m : M} {v : Value} {e : Nat} {f : α → List Value} {es : List α} (h : Rd m v e f es) : Dx.lenV v = some es.length := by
 have hl := h.len
 cases v with
 | slice a n cp =>
  have : some (Value.int .i64 (Int.ofNat n)) = some (Value.int .i64 (es.length : Int)) := hl
  injection this with this; injection this with _ this
  show some n = _
  rw [Int.ofNat.inj this]
 | _ => cases hl
end
end Go.Dx
namespace Go.Dx
noncomputable section
theorem vg {α : Type} {m : M} (hm : m.base ≤ m.n) {v : Value} {e : Nat} {f : α → List Value} {es : List α} (h : Rd m v e f es) (hf : ∀ x, (f x).length = e) (bytes : Nat) (hb : es.length * bytes ≤ qW) (hn : es.length ≤ 4611686018427387904) :
  ∃ v' m', qS (newRow m []) e bytes (.slice (some ⟨m.n, 0, some (code e true)⟩) 0 0) v = some (v', m') ∧ Ext m m' ∧ Rd m' v' e f es ∧ (∀ B, blk v' = some B → m.n ≤ B ∧ Arr m' B (es.flatMap f)) ∧ (es ≠ [] → v' = .slice (some ⟨m.n + 1, 0, some (code e false)⟩) es.length es.length) := by
 have h' := h.sees ((Sees.refl hm).ext (Ext.row m []))
 have e0 : qS (newRow m []) e bytes (.slice (some ⟨m.n, 0, some (code e true)⟩) 0 0) v = vt (newRow m []) e bytes 0 0 es.length (some ⟨m.n, 0, some (code e true)⟩) (es.flatMap f) := by
  show ob (lenV v) _ = _
  rw [h.lenV, qy]
  show ob (qI (newRow m []) e es.length v) _ = _
  rw [h'.all, qy]
 rw [e0]
 unfold vt
 by_cases hz : es = []
 ·subst hz
  refine ⟨_, _, rfl, Ext.row m [], ⟨rfl, fun i r hr => by simp at hr, ?_, fun B hB => by cases hB; show m.n < _; rw [qm]; omega⟩, fun B hB => by cases hB; exact ⟨qah _, Arr.row m []⟩, fun h => absurd rfl h⟩
  show loads (newRow m []) _ (0 * e) = _
  rw [Nat.zero_mul, (Arr.row m []).loads (by simp)]; rfl
 ·have hpos := qb4.2 hz
  have h1 : Nat.ble (0 + es.length) 0 = false := by
   cases q : Nat.ble (0 + es.length) 0 with
   | false => rfl
   | true => have := qan q; omega
  rw [h1, cond_false, Nat.zero_add, qam hb, qam hn]
  show ∃ v' m', ob (qI (newRow m []) e 0 (.slice (some ⟨m.n, 0, some (code e true)⟩) 0 0)) _ = _ ∧ _
  have h2 : qI (newRow m []) e 0 (.slice (some ⟨m.n, 0, some (code e true)⟩) 0 0) = some [] := by
   show loads (newRow m []) _ (0 * e) = _
   rw [Nat.zero_mul, (Arr.row m []).loads (by simp)]; rfl
  rw [h2]
  have hx : jS (code e true) = true := by
   show Nat.beq ((2 * e + 1) % 2) 1 = true
   rw [show (2 * e + 1) % 2 = 1 by omega]; rfl
  have hg : jC (newRow m []) e es.length (some ⟨m.n, 0, some (code e true)⟩) ([] ++ es.flatMap f) = some (.slice (some ⟨m.n + 1, 0, some (code e false)⟩) es.length es.length, newRow (newRow m []) (es.flatMap f)) := by
   unfold jC
   show ob (some (code e true)) _ = _
   rw [qy, hx, cond_true, qm]; rfl
  have hA : Arr (newRow (newRow m []) (es.flatMap f)) (m.n + 1) (es.flatMap f) := by have := Arr.row (newRow m []) (es.flatMap f); rwa [qm] at this
  refine ⟨_, _, hg, (Ext.row m []).trans (Ext.row _ _), ?_, fun B hB => by cases hB; exact ⟨Nat.le_succ _, hA⟩, fun _ => rfl⟩
  have hG : Grown m (newRow (newRow m []) (es.flatMap f)) (.slice (some ⟨m.n + 1, 0, some (code e false)⟩) es.length es.length) e f es := .inr ⟨m.n + 1, by omega, by rw [qm, qm]; omega, hz, rfl, hA⟩
  exact hG.rd hf
@[simp] theorem eqNV_ap (n : Bool) (q : Value → Option Bool) (h : Bool) (x y : Value) : eqNV n q h x y = ob (eqN q h x y) fun b => some (.bool (bif n then !b else b)) := _root_.id rfl
theorem KI {v : Value} {n : Int} (h : qL v = some (.int .i64 n)) : eqN Ws true v (.slice none 0 0) = some (match v with | .slice none _ _ => true | _ => false) := by
 cases v with
 | slice a n c => cases a <;> rfl
 | _ => cases h
end
end Go.Dx
namespace Go.Dx
open Go.RowKit Go.WideShapes Go.ChangeShapes
noncomputable section
attribute [local irreducible] A.get A.set HI
def snapC (fz : Nat × Nat) : Nat → List Value → C → C
 | _, [], c => c
 | j, v :: l, c => snapC fz (j + 1) l (match v with
  | .int k n => if fz.1 ≤ j ∧ j < fz.2 then c else A.set none (some (.int k n)) (j + HI) c
  | _ => c)
def snapO : Obj → jJ
 | .cells cs _ fz => .cells (snapC fz 0 cs.toList .lf)
 | _ => .cells .lf
def vh (l : List jJ) (m : M) : M := l.foldl M.alloc m
def kQ (w : World) : Phi := fun B => match w.heap[B]? with
 | some (.cells cs _ _) => some ⟨B, HI, cs.size⟩
 | _ => none
theorem fq : ∀ (l : List jJ) (m : M), (vh l m).n = m.n + l.length ∧ (vh l m).base = m.base ∧ (vh l m).log = m.log ∧ ∀ X, (vh l m).obj X = if m.n ≤ X ∧ X < m.n + l.length then l[X - m.n]? else m.obj X
 | [], m => ⟨rfl, rfl, rfl, fun X => by rw [if_neg (by simp)]; rfl⟩
 | o :: l, m => by
  obtain ⟨h1, h2, h3, h4⟩ := fq l (m.alloc o)
  rw [M.n_alloc] at h1 h4
  refine ⟨by show (vh l (m.alloc o)).n = _; rw [h1]; simp; omega, h2.trans (M.base_alloc _ _), h3.trans (M.log_alloc _ _), fun X => ?_⟩
  show (vh l (m.alloc o)).obj X = _
  rw [h4 X]
  by_cases e : X = m.n
  ·subst e
   rw [if_neg (by omega), if_pos (by simp), M.obj_alloc, if_pos rfl]; simp
  ·by_cases h : m.n + 1 ≤ X ∧ X < m.n + 1 + l.length
   ·rw [if_pos h, if_pos (by simp; omega), show X - m.n = (X - (m.n + 1)) + 1 by omega, List.getElem?_cons_succ]
   ·rw [if_neg h, if_neg (by simp; omega), M.obj_alloc, if_neg e]
theorem KT {m : M} {B : Nat} {s : Option Nat} : ∀ (l : List Value) (o : Nat), l ≠ [] → (∀ j, j < l.length → load1 m ⟨B, o + j, s⟩ = l[j]?) → loads m ⟨B, o, s⟩ l.length = some l := by
 intro l o hne h
 have h0 := h 0 (qb4.2 hne)
 unfold load1 at h0
 cases hc : cellsOf m B with
 | none =>
  simp only [hc] at h0
  have : l[0]? = none := h0.symm
  rw [List.getElem?_eq_none_iff] at this
  exact absurd (List.length_eq_zero_iff.1 (by omega)) hne
 | some c =>
  have hg : ∀ j, j < l.length → A.get none (o + j) c = l[j]? := fun j hj => by
   have := h j hj
   unfold load1 at this
   simp only [hc] at this
   exact this
  unfold loads
  simp only [hc]
  show ldn c o l.length = some l
  have key : ∀ (l : List Value) (o : Nat), (∀ j, j < l.length → A.get none (o + j) c = l[j]?) → ldn c o l.length = some l := by
   intro l
   induction l with
   | nil => intro o _; rfl
   | cons x l ih =>
    intro o hg
    rw [List.length_cons, jB]
    have h0 := hg 0 (by simp)
    rw [Nat.add_zero] at h0
    rw [h0, ih (o + 1) (fun j hj => by have := hg (j + 1) (by simp; omega); rw [show o + (j + 1) = o + 1 + j by omega] at this; rw [this, List.getElem?_cons_succ])]
    rfl
  exact key l o hg
section
variable {H : Type} {enc : TypeId × Value → H} {P : Program} {w : World}
end
end
end Go.Dx
namespace Go.Dx
open Go.RowKit Go.WideShapes Go.ChangeShapes
theorem JY {P : Program} {w : World} {r : Reach} {b0 : Nat} {u e : TypeId} {a : Addr} {l c : Nat} (hu : P.underlying u = some (.slice e)) (h : Cell.okWide P w r b0 u (.slice (some a) l c)) : a.spot = none ∧ ∃ cs e fz, w.heap[a.block]? = some (.cells cs e fz) := by
 simp only [Cell.okWide, hu, Cell.ok] at h
 obtain ⟨_, _, _, h2, row, cells, h3, _⟩ := h
 refine ⟨h2, ?_⟩
 unfold World.shape? at h3
 split at h3
 ·exact ⟨_, _, _, by assumption⟩
 ·cases h3
end Go.Dx
namespace Go.Sx
open Go.Dx
noncomputable section
abbrev mv (d s : Nat) : IS := ip d (wY (tg s))
abbrev mc (d : Nat) (v : Value) : IS := ip d (wY (cv v))
abbrev fa (d o s : Nat) : IS := ip d (qQ o (tg s))
abbrev ia (d e x i : Nat) : IS := ip d (wz e (tg x) (tg i))
abbrev l1 (d s : Nat) : IS := il d (tg s) (qP (tg s))
abbrev ln (d n s : Nat) : IS := il d (tg s) (kI n (tg s))
abbrev bt (d : Nat) (o : BinOp) (a b : Nat) : IS := ip d (xG o (tg a) (tg b))
abbrev bv (d : Nat) (o : BinOp) (a : Nat) (v : Value) : IS := ip d (xG o (tg a) (cv v))
abbrev sto (n a b : Nat) : IS := im0 3 (wL n (tg a) (tg b))
abbrev lne (d s : Nat) : IS := ip d (pLen (tg s))
abbrev pkt (d a b : Nat) : IS := ip d (yU (tg a) (cv (.bool true)) (tg b))
abbrev pkf (d a b : Nat) : IS := ip d (yU (tg a) (tg b) (cv (.bool false)))
abbrev gf (g d : Nat) (s : IS) : IS := gd g false (some d) s
abbrev gt (g d : Nat) (s : IS) : IS := gd g true (some d) s
abbrev xt (d s i : Nat) : IS := ip d (vu (tg s) i)
abbrev rg (l : List IS) : SC := dU (yb l)
end
end Go.Sx
