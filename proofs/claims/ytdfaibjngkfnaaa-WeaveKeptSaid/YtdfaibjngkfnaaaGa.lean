/- Rules for steps through compiled code. -/
import Derived.Test.YtdfaibjngkfnaaaEc
import Derived.Test.YtdfaibjngkfnaaaEd
import Derived.ChangeSame
import Derived.ProofKit
import Derived.Carry
set_option linter.unusedVariables false
set_option linter.unusedSimpArgs false
set_option linter.defProp false
namespace Go.Dx
open Go.RowKit
noncomputable section
def km (zs : List Value) (ps : List (Nat × Nat × Value)) : Option Value := ob (Xg ps zs) fun l => some (.agg ⟨l⟩)
def eqFV (neg : Bool) (ks : List Nat) (x y : Value) : Option Value := ob (Zb x) fun a => ob (Zb y) fun b => ob (wZ ks a b) fun r => some (.bool (bif neg then !r else r))
def eqBV (neg : Bool) (x y : Value) : Option Value := ob (xf x) fun a => ob (xf y) fun b => some (.bool (bif neg then !eqB a b else eqB a b))
def eqNV (neg : Bool) (k : Value → Option Bool) (both : Bool) (x y : Value) : Option Value := ob (eqN k both x y) fun b => some (.bool (bif neg then !b else b))
def Ff (k : IntKind) (x : Value) : Option Value := obp (fE x) fun _ n => some (.int k (yp k n))
def fO (x : Option Value) (d mx : Nat) : Option Nat := match x with
 | none => some d
 | some x => ob (vT x) fun n => bif Nat.ble n mx then some n else none
def yP (len cap : Nat) (lo hi mx : Option Value) : Option (Nat × Nat × Nat) :=
 bif hi.isNone && mx.isSome then none else
 ob (fO mx cap cap) fun m => ob (fO hi len m) fun h => ob (fO lo 0 h) fun l => some (l, h, m)
def slV (esz : Nat) (lo hi mx : Option Value) : Value → Option Value
 | .slice none _ _ => ob (yP 0 0 lo hi mx) fun _ => some (.slice none 0 0)
 | .slice (some a) len cap => ob a.spot fun cd => ob (yP len cap lo hi mx) fun r => bif !Nat.beq (cd / 2) esz then none else
   some (.slice (some (slA a esz r.1 r.2.2 (xB cd) (xB cd || mx.isSome))) (r.2.1 - r.1) (r.2.2 - r.1))
 | _ => none
def Fs (off : Nat) (x : Value) : Option Value := ob (jc x) (fK off)
def Xn (len esz : Nat) (x i : Value) : Option Value := ob (vT i) fun n => ob (jc x) fun a => bif Nat.blt n len then fK (n * esz) a else none
def wX (esz : Nat) (x i : Value) : Option Value := ob (vT i) fun n => obp (vSl x) fun a len => bif Nat.blt n len then fK (n * esz) a else none
def Zj (o : Value) (m : M) : Option (Value × M) := ob (ze o) fun l => some (.pointer (some ⟨m.n, 0, none⟩), newRow m l)
def ko (esz len : Nat) (zs : List Value) (ps : List (Nat × Nat × Value)) (m : M) : Option (Value × M) :=
 ob (Xg ps zs) fun l => some (.slice (some ⟨m.n, 0, some (code esz true)⟩) len len, newRow m l)
def FF (o : Value) (m : M) : Option (Value × M) := ob (jc o) fun a => ob (load1 m a) (retM m)
def FG (n : Nat) (o : Value) (m : M) : Option (Value × M) := ob (jc o) fun a => ob (loads m a n) fun l => some (.agg ⟨l⟩, m)
def wh (n : Nat) (o v : Value) (m : M) : Option (Value × M) :=
 ob (jc o) fun a => ob (ze v) fun l => bif Nat.beq l.length n then ob (wF m a l) fun m' => some (undef, m') else none
def dk (esz bytes : Nat) (zs : List Value) (l c : Value) (m : M) : Option (Value × M) :=
 ob (vT l) fun l => ob (vT c) fun c =>
  bif Nat.ble l c && Nat.ble (c * bytes) most && Nat.ble c 4611686018427387904 && Nat.ble (c * esz) 1048576 then
   some (.slice (some ⟨m.n, 0, some (code esz true)⟩) l c, newRow m (rep c zs)) else none
def anyL (x : Ex) (l : List DA) (k : List (Nat × FP) → K) : List (Nat × FP) → K := List.rec k (fun i _ ih => any1 x i ih) l
inductive RS where
 | v (x : Value)
 | one (x : Value)
 | cell (x : Value) (n : Nat)
def cL : Code → Code
 | .seq a _ | .cond _ a _ | .block _ a | .loop a | .rangeFunc _ _ a _ => a
 | c => c
def cR : Code → Code
 | .seq _ b | .cond _ _ b | .rangeFunc _ _ _ b => b
 | c => c
def qW (f : Func) : Code := match f.body with
 | some c => c
 | none => .skip
inductive BT where
 | lf
 | nd (k : Nat) (v : Ex → List Value → M → Option (Value × M)) (l r : BT)
def BT.look (t : BT) : Nat → Ex → List Value → M → Option (Value × M) :=
 BT.rec (fun _ _ _ _ => none) (fun k v _ _ il ir g => bif Nat.beq g k then v else bif Nat.blt g k then il g else ir g) t
def Fits (P : Program) (g : Nat) (v : Ex → List Value → M → Option (Value × M)) : Prop := ∀ x l m r, v x l m = some r → ob (wn P g) (yS x l m) = some r
def BT.Fit (P : Program) : BT → Prop
 | .lf => True
 | .nd k v l r => Fits P k v ∧ l.Fit P ∧ r.Fit P
def xstep (P : Program) (t : BT) (x : Ex) : Ex := ⟨fun g => t.look g x, JH P x⟩
def xs (P : Program) (t : BT) (n : Nat) : Ex := Nat.rec .bot (fun _ ih => xstep P t ih) n
end
end Go.Dx
namespace Go.Dx
open Go.RowKit
noncomputable section
abbrev tg (n : Nat) : V := Tm.get n
def cv (v : Value) : V := fun _ => v
def ip (d : Nat) (p : PO) : IS := VE none (some d) (gW (CI.pure p) (some d))
def il (d : Nat) (a : V) (f : MO) : IS := VE none (some d) (gW (CI.load a f) (some d))
def im (n d : Nat) (f : MO) : IS := VE none (some d) (gW (CI.mem n f) (some d))
def im0 (n : Nat) (f : MO) : IS := VE none none (gW (CI.mem n f) none)
def gd (g : Nat) (b : Bool) (d : Option Nat) (s : IS) : IS := VE (some (g, b)) d s
inductive Tick where
 | tick
 | tock
def tick (_ : Tick) : Prop := True
@[simp] theorem tick_1 : tick .tick = tick .tock := _root_.id rfl
def dH (c : Bool) (a b : Option Out) : Option Out := cond c a b
@[simp] theorem bif_t (a b : Option Out) : dH true a b = a := _root_.id rfl
@[simp] theorem bif_f (a b : Option Out) : dH false a b = b := _root_.id rfl
@[congr] theorem ob_congr {α β : Type} {o o' : Option α} {k : α → Option β} {q : Prop} (h : o = o') (_ : tick .tick = q) : ob o k = ob o' k := by rw [h]
@[congr] theorem obp_congr {α β γ : Type} {o o' : Option (α × β)} {k : α → β → Option γ} {q : Prop} (h : o = o') (_ : tick .tick = q) : obp o k = obp o' k := by rw [h]
@[congr] theorem bif_congr {c c' : Bool} {a b : Option Out} {q : Prop} (h : c = c') (_ : tick .tick = q) : dH c a b = dH c' a b := by rw [h]
@[congr] theorem DO {c c' : Prop} [Decidable c] [Decidable c'] {a b : Option Out} {q : Prop} (h : c = c') (_ : tick .tick = q) : ite c a b = ite c' a b := by subst h; congr
section
variable (x : Ex) (k kn kr : K) (ke : Nat → K) (t : Tm) (m : M)
@[simp] theorem sSeq_ap (a b : SC) : qa a b x kn ke kr t m = a x (b x kn ke kr) ke kr t m := _root_.id rfl
@[simp] theorem sSkip_ap : ql x kn ke kr t m = kn t m := _root_.id rfl
@[simp] theorem sReg_ap (i : IS) : sReg i x kn ke kr t m = i x kn t m := _root_.id rfl
@[simp] theorem sAny_ap (l : List DA) : wz l x kn ke kr t m = anyL x l (fun _ => kn) [] t m := _root_.id rfl
@[simp] theorem sCond_ap (o : V) (a b : SC) : qj o a b x kn ke kr t m = ob (xf (o t)) fun c => dH c (a x kn ke kr t m) (b x kn ke kr t m) := _root_.id rfl
@[simp] theorem sBlock_ap (id : Nat) (a : SC) : qg id a x kn ke kr t m = a x kn (kK id kn ke) kr t m := _root_.id rfl
@[simp] theorem sExit_ap (id : Nat) : qM id x kn ke kr t m = ke id t m := _root_.id rfl
@[simp] theorem sRet_ap : qG x kn ke kr t m = kr t m := _root_.id rfl
@[simp] theorem outOf_ap (id j : Nat) : kK id kn ke j t m = dH (Nat.beq j id) (kn t m) (ke j t m) := _root_.id rfl
theorem VG (a : SC) : qO a x kn ke kr t m = Qo (fun k => a x k ke kr) 1180591620717411303424 t m := rfl
@[simp] theorem seqI_nil : dz [] x k t m = k t m := _root_.id rfl
@[simp] theorem seqI_cons (s : IS) (l : List IS) : dz (s :: l) x k t m = s x (dz l x k) t m := _root_.id rfl
@[simp] theorem ip_ap (d : Nat) (p : PO) : ip d p x k t m = ob (p t) fun v => k (Tm.set d v t) m := _root_.id rfl
@[simp] theorem il_ap (d : Nat) (a : V) (f : MO) : il d a f x k t m = obp (f x t m) fun v m => k (Tm.set d v t) m := _root_.id rfl
@[simp] theorem im1_ap (d : Nat) (f : MO) : im 1 d f x k t m = obp (f x t m) fun v m => k (Tm.set d v t) m := _root_.id rfl
@[simp] theorem im3_ap (d : Nat) (f : MO) : im 3 d f x k t m = obp (f x t m) fun v m => k (Tm.set d v t) m := _root_.id rfl
@[simp] theorem im03_ap (f : MO) : im0 3 f x k t m = obp (f x t m) fun _ m => k t m := _root_.id rfl
@[simp] theorem gd_ap (g : Nat) (b : Bool) (d : Option Nat) (s : IS) : gd g b d s x k t m = ob (isB b (Tm.get g t)) fun c => dH c (s x k t m) (k (putD t d undef) m) := _root_.id rfl
@[simp] theorem qD {α β : Type} (a : α) (f : α → Option β) : ob (some a) f = f a := _root_.id rfl
@[simp] theorem Qv {α β γ : Type} (a : α) (b : β) (f : α → β → Option γ) : obp (some (a, b)) f = f a b := _root_.id rfl
@[simp] theorem putD_some (d : Nat) (v : Value) : putD t (some d) v = Tm.set d v t := _root_.id rfl
@[simp] theorem putD_none (v : Value) : putD t none v = t := _root_.id rfl
@[simp] theorem kz (i j : Nat) (v : Value) : Tm.get i (Tm.set j v t) = if i = j then v else Tm.get i t := by
 by_cases h : i = j
 ·subst h; rw [if_pos rfl, Tm.get_set_same]
 ·rw [if_neg h]
  show (bif Nat.beq i j then v else Tm.get i t) = _
  rw [fM h]; rfl
@[simp] theorem get_blank (i : Nat) : Tm.get i .blank = undef := _root_.id rfl
@[simp] theorem cv_ap (v : Value) : cv v t = v := _root_.id rfl
@[simp] theorem pMov_ap (a : V) : qn a t = some (a t) := _root_.id rfl
@[simp] theorem pPick_ap (c a b : V) : kY c a b t = ob (xf (c t)) fun q => some (bif q then a t else b t) := _root_.id rfl
@[simp] theorem pNilck_ap (a : V) : qz a t = dl (a t) := _root_.id rfl
@[simp] theorem pBin_ap (op : BinOp) (a b : V) : kg op a b t = jm op (a t) (b t) := _root_.id rfl
@[simp] theorem pUn_ap (op : UnOp) (a : V) : pUn op a t = unV op (a t) := _root_.id rfl
@[simp] theorem pEqB_ap (n : Bool) (a b : V) : pEqB n a b t = eqBV n (a t) (b t) := _root_.id rfl
@[simp] theorem pEqN_ap (n : Bool) (q : Value → Option Bool) (h : Bool) (a b : V) : WA n q h a b t = eqNV n q h (a t) (b t) := _root_.id rfl
@[simp] theorem pEqF_ap (n : Bool) (q : List Nat) (a b : V) : Wz n q a b t = eqFV n q (a t) (b t) := _root_.id rfl
@[simp] theorem pFaddr_ap (o : Nat) (a : V) : qe o a t = Fs o (a t) := _root_.id rfl
@[simp] theorem DU (e : Nat) (a b : V) : qh e a b t = wX e (a t) (b t) := _root_.id rfl
@[simp] theorem DT (n e : Nat) (a b : V) : jr n e a b t = Xn n e (a t) (b t) := _root_.id rfl
@[simp] theorem pLen_ap (a : V) : vN a t = kG (a t) := _root_.id rfl
@[simp] theorem Dw (a : V) (i : Nat) : jU a i t = xx i (a t) := _root_.id rfl
@[simp] theorem pBuild_ap (zs : List Value) (ps : List (Nat × Nat × V)) : wg zs ps t = km zs (evP ps t) := _root_.id rfl
@[simp] theorem evP_nil : evP [] t = [] := _root_.id rfl
@[simp] theorem evP_cons (p : Nat × Nat × V) (l : List (Nat × Nat × V)) : evP (p :: l) t = (p.1, p.2.1, p.2.2 t) :: evP l t := _root_.id rfl
@[simp] theorem evs_nil : evs t [] = [] := _root_.id rfl
@[simp] theorem evs_cons (a : V) (l : List V) : evs t (a :: l) = a t :: evs t l := _root_.id rfl
@[simp] theorem mBox_ap (a : V) : wT a x t m = Zj (a t) m := _root_.id rfl
@[simp] theorem mAlloc_ap (zs : List Value) : qL zs x t m = some (.pointer (some ⟨m.n, 0, none⟩), newRow m zs) := _root_.id rfl
@[simp] theorem mLoad1_ap (a : V) : qc a x t m = FF (a t) m := _root_.id rfl
@[simp] theorem mLoadN_ap (n : Nat) (a : V) : qP n a x t m = FG n (a t) m := _root_.id rfl
@[simp] theorem mStore_ap (n : Nat) (a b : V) : qF n a b x t m = wh n (a t) (b t) m := _root_.id rfl
@[simp] theorem mCall_ap (g : Nat) (l : List V) : qp g l x t m = x.f g (evs t l) m := _root_.id rfl
@[simp] theorem DQ (e b : Nat) (a c : V) : qQ e b a c x t m = qX m e b (a t) (c t) := _root_.id rfl
@[simp] theorem Dt (e b : Nat) (zs : List Value) (a c : V) : ji e b zs a c x t m = xp m e b zs (a t) (c t) := _root_.id rfl
@[simp] theorem vBool_b (b : Bool) : xf (.bool b) = some b := _root_.id rfl
@[simp] theorem isB_t (b : Bool) : isB true (.bool b) = some b := _root_.id rfl
@[simp] theorem eqBV_f (a b : Bool) : eqBV false (.bool a) (.bool b) = some (.bool (a == b)) := by cases a <;> cases b <;> rfl
@[simp] theorem isB_u (b : Bool) : isB b undef = some false := _root_.id rfl
@[simp] theorem isB_f (b : Bool) : isB false (.bool b) = some (!b) := _root_.id rfl
@[simp] theorem unV_not (b : Bool) : unV .not (.bool b) = some (.bool (!b)) := _root_.id rfl
theorem Zi (op : BinOp) (kd : IntKind) (a b : Int) : bN op kd a kd b = binI op kd a b := by unfold bN; rw [Nat.beq_refl]; rfl
theorem zC (op : BinOp) (kd : IntKind) (a b : Int) : jm op (.int kd a) (.int kd b) = binI op kd a b := Zi op kd a b
@[simp] theorem binV_lss (kd : IntKind) (a b : Int) : jm .lss (.int kd a) (.int kd b) = some (.bool (decide (a < b))) := by rw [zC]; show some (Value.bool (ltI a b)) = _; rw [xl]
@[simp] theorem binV_leq (kd : IntKind) (a b : Int) : jm .leq (.int kd a) (.int kd b) = some (.bool (decide (a ≤ b))) := by
 rw [zC]; show some (Value.bool (!ltI b a)) = _; rw [xl, ← decide_not]
 congr 2; exact decide_eq_decide.2 Int.not_lt
@[simp] theorem binV_gtr (kd : IntKind) (a b : Int) : jm .gtr (.int kd a) (.int kd b) = some (.bool (decide (b < a))) := by rw [zC]; show some (Value.bool (ltI b a)) = _; rw [xl]
@[simp] theorem binV_geq (kd : IntKind) (a b : Int) : jm .geq (.int kd a) (.int kd b) = some (.bool (decide (b ≤ a))) := by
 rw [zC]; show some (Value.bool (!ltI a b)) = _; rw [xl, ← decide_not]
 congr 2; exact decide_eq_decide.2 Int.not_lt
@[simp] theorem binV_eql (kd : IntKind) (a b : Int) : jm .eql (.int kd a) (.int kd b) = some (.bool (decide (a = b))) := by
 rw [zC]; show some (Value.bool (eqI a b)) = _; rw [vE]; congr 2
@[simp] theorem binV_neq (kd : IntKind) (a b : Int) : jm .neq (.int kd a) (.int kd b) = some (.bool (!decide (a = b))) := by
 rw [zC]; show some (Value.bool (!eqI a b)) = _; rw [vE]; congr 2
@[simp] theorem binV_add (kd : IntKind) (a b : Int) : jm .add (.int kd a) (.int kd b) = some (.int kd (kd.wrap (a + b))) := by rw [zC]; show some (Value.int kd (yp kd (a + b))) = _; rw [jZ]
@[simp] theorem binV_sub (kd : IntKind) (a b : Int) : jm .sub (.int kd a) (.int kd b) = some (.int kd (kd.wrap (a - b))) := by rw [zC]; show some (Value.int kd (yp kd (a - b))) = _; rw [jZ]
theorem xq {a b : Nat} (hb : 0 < b) : jm .rem (.int .i64 a) (.int .i64 b) = some (.int .i64 ((a % b : Nat) : Int)) := by
 rw [zC]
 show vh (Op.intDiv .rem .i64 (a : Int) (b : Int)) = _
 unfold Op.intDiv
 rw [if_neg (by omega)]
 have e : (a : Int).tmod (b : Int) = ((a % b : Nat) : Int) := by rw [Int.ofNat_tmod]
 show some (Value.int _ ((a : Int).tmod b)) = _
 rw [e]
@[simp] theorem DP (a : Addr) : FF (.pointer (some a)) m = ob (load1 m a) (retM m) := _root_.id rfl
@[simp] theorem DM (o : Nat) (a : Addr) : Fs o (.pointer (some a)) = some (.pointer (some ⟨a.block, a.off + o, none⟩)) := _root_.id rfl
@[simp] theorem boxS_agg (cs : Array Value) : Zj (.agg cs) m = some (.pointer (some ⟨m.n, 0, none⟩), newRow m cs.toList) := _root_.id rfl
@[simp] theorem retM_ap (v : Value) : retM m v = some (v, m) := _root_.id rfl
theorem xD (l : List Value) (o n : Nat) (h : o + n ≤ l.length) : loads (newRow m l) ⟨m.n, o, none⟩ n = some ((l.drop o).take n) := by
 unfold loads cellsOf newRow
 simp only [M.obj_alloc, if_true]
 show ldn (mkn .lf 0 l) o n = _
 have key : ∀ n o, o + n ≤ l.length → ldn (mkn .lf 0 l) o n = some ((l.drop o).take n) := by
  intro n
  induction n with
  | zero => intro o _; simp [ff]
  | succ n ih =>
   intro o ho
   rw [jS, zG, if_pos (by simp; omega), ih (o + 1) (by omega)]
   have : o < l.length := by omega
   rw [Nat.sub_zero, DW this, List.drop_eq_getElem_cons this]
   rfl
 exact key n o h
theorem jB (l : List Value) (o : Nat) : load1 (newRow m l) ⟨m.n, o, none⟩ = l[o]? := by
 unfold load1 cellsOf newRow
 simp only [M.obj_alloc, if_true]
 show A.get none o (mkn .lf 0 l) = l[o]?
 rw [zG, A.get_lf]
 split
 ·simp
 ·rename_i h; simp at h; simp [h]
end
structure Ext (m m' : M) : Prop where
 n : m.n ≤ m'.n
 obj : ∀ B, B < m.n → m'.obj B = m.obj B
 base : m'.base = m.base
 log : m'.log = m.log
theorem Ext.refl (m : M) : Ext m m := ⟨DZ _, fun _ _ => rfl, rfl, rfl⟩
theorem Ext.trans {a b c : M} (h : Ext a b) (k : Ext b c) : Ext a c := ⟨qa8 h.n k.n, fun B hB => (k.obj B (qa1 hB h.n)).trans (h.obj B hB), k.base.trans h.base, k.log.trans h.log⟩
theorem Ext.row (m : M) (l : List Value) : Ext m (newRow m l) := ⟨by unfold newRow; rw [M.n_alloc]; omega, fun B hB => by unfold newRow; rw [M.obj_alloc, if_neg (by omega)], M.base_alloc _ _, M.log_alloc _ _⟩
theorem ex_f {P : Program} {g : Nat} {d : DFn} (hd : wn P g = some d) (n : Nat) (args : List Value) (m : M) : (ex P (n + 1)).f g args m = yS (ex P n) args m d := by
 show ob (wn P g) (yS (ex P n) args m) = _
 rw [hd]; rfl
theorem bQ (x : Ex) (args : List Value) (m : M) (c : SC) (nt : Nat) (res : List RV) (h : args.length ≤ nt) : yS x args m ⟨c, nt, res⟩ = ob (c x (zq res) noK (zq res) (jQ .blank 0 args) m) Jm := by
 show (bif Nat.ble args.length nt then ob (c x (zq res) noK (zq res) (jQ .blank 0 args) m) Jm else none) = _
 rw [qa4 h]; rfl
@[simp] theorem initT_nil (t : Tm) (i : Nat) : jQ t i [] = t := _root_.id rfl
@[simp] theorem DN (t : Tm) (i : Nat) (v : Value) (l : List Value) : jQ t i (v :: l) = jQ (Tm.set i v t) (i + 1) l := _root_.id rfl
theorem XG (res : List RV) (t : Tm) (m : M) : zq res t m = ob (yj t m res) fun l => fin (dM l) m := _root_.id rfl
@[simp] theorem Gq (t : Tm) (m : M) : yj t m [] = some [] := _root_.id rfl
@[simp] theorem Xh (v : Value) (m : M) : ob (fin v m) Jm = some (v, m) := by
 show some (Tm.get 0 (Tm.set 0 v .blank), m) = _
 rw [Tm.get_set_same]
theorem wrap64 (n : Int) (h1 : -9223372036854775808 ≤ n) (h2 : n ≤ 9223372036854775807) : IntKind.i64.wrap n = n := by rw [IntKind.wrap_i64]; omega
structure Sl (m : M) (v : Value) (e : Nat) (rows : List (List Value)) : Prop where
 len : kG v = some (.int .i64 rows.length)
 row : ∀ (i : Nat) (r : List Value), rows[i]? = some r → ∃ B o, B < m.n ∧ wX e v (.int .i64 i) = some (.pointer (some ⟨B, o, none⟩)) ∧ loads m ⟨B, o, none⟩ e = some r
theorem Vk {m m' : M} (h : Ext m m') {B o n : Nat} (hB : B < m.n) : loads m' ⟨B, o, none⟩ n = loads m ⟨B, o, none⟩ n := by
 unfold loads cellsOf; rw [h.obj B hB]
theorem Sl.ext {m m' : M} (h : Ext m m') {v : Value} {e : Nat} {rows : List (List Value)} (hs : Sl m v e rows) : Sl m' v e rows :=
 ⟨hs.len, fun i r hr => let ⟨B, o, h1, h2, h3⟩ := hs.row i r hr; ⟨B, o, qa1 h1 h.n, h2, by rw [Vk h h1]; exact h3⟩⟩
theorem qf (n : Nat) (a : Addr) (m : M) : FG n (.pointer (some a)) m = ob (loads m a n) fun l => some (.agg ⟨l⟩, m) := rfl
end
end Go.Dx
namespace Go.Dx
noncomputable section
section
variable (x : Ex) (k : List (Nat × FP) → K) (fps : List (Nat × FP)) (t : Tm) (m : M)
@[simp] theorem anyL_nil : anyL x [] k = k := _root_.id rfl
@[simp] theorem anyL_cons (i : DA) (l : List DA) : anyL x (i :: l) k fps t m = any1 x i (anyL x l k) fps t m := _root_.id rfl
@[simp] theorem any1_none (ci : CI) (d : Option Nat) (ix : Nat) (inc : List Nat) : any1 x ⟨ci, d, none, ix, inc⟩ k fps t m = yL x ⟨ci, d, none, ix, inc⟩ k fps t m := _root_.id rfl
@[simp] theorem any1_some (ci : CI) (d : Option Nat) (g : Nat) (b : Bool) (ix : Nat) (inc : List Nat) : any1 x ⟨ci, d, some (g, b), ix, inc⟩ k fps t m = ob (isB b (Tm.get g t)) fun c => dH c (yL x ⟨ci, d, some (g, b), ix, inc⟩ k fps t m) (k fps (putD t d undef) m) := _root_.id rfl
@[simp] theorem anyR_pure (p : PO) (d : Option Nat) (g : Option (Nat × Bool)) (ix : Nat) (inc : List Nat) : yL x ⟨.pure p, d, g, ix, inc⟩ k fps t m = ob (p t) fun v => k fps (putD t d v) m := _root_.id rfl
@[simp] theorem anyR_mem1 (f : MO) (d : Option Nat) (g : Option (Nat × Bool)) (ix : Nat) (inc : List Nat) : yL x ⟨.mem 1 f, d, g, ix, inc⟩ k fps t m = obp (f x t m) fun v m' => k fps (putD t d v) m' := _root_.id rfl
@[simp] theorem anyR_load (o : V) (f : MO) (d : Option Nat) (g : Option (Nat × Bool)) (ix : Nat) (inc : List Nat) : yL x ⟨.load o f, d, g, ix, inc⟩ k fps t m = obp (f x t m) fun v m' =>
 dH (meets fps ⟨ob (jc (o t)) fun a => some a.block, []⟩ inc) (k ((ix, ⟨ob (jc (o t)) fun a => some a.block, []⟩) :: fps) (putD t d v) m') none := _root_.id rfl
@[simp] theorem anyR_mem3 (f : MO) (d : Option Nat) (g : Option (Nat × Bool)) (ix : Nat) (inc : List Nat) : yL x ⟨.mem 3 f, d, g, ix, inc⟩ k fps t m = obp (f x t (qi m)) fun v m' =>
 dH (meets fps ⟨none, m'.log⟩ inc) (k ((ix, ⟨none, m'.log⟩) :: fps) (putD t d v) (behind m m')) none := _root_.id rfl
@[simp] theorem xK (a : Addr) : jc (.pointer (some a)) = some a := _root_.id rfl
end
def quiet : List (Nat × FP) → Prop
 | [] => True
 | p :: l => p.2.wr = [] ∧ quiet l
@[simp] theorem quiet_nil : quiet [] = True := _root_.id rfl
@[simp] theorem DV (j : Nat) (r : Option Nat) (l : List (Nat × FP)) : quiet ((j, ⟨r, []⟩) :: l) = quiet l := by
 show (_ ∧ _) = _; simp
theorem Gm {l : List (Nat × FP)} (h : quiet l) {i : Nat} {y : FP} (e : xz i l = some y) : y.wr = [] := by
 induction l with
 | nil => cases e
 | cons p l ih =>
  obtain ⟨j, z⟩ := p
  unfold xz at e
  cases hb : Nat.beq i j with
  | true => rw [hb] at e; cases e; exact h.1
  | false => rw [hb] at e; exact ih h.2 e
@[simp] theorem Dv {l : List (Nat × FP)} (h : quiet l) (r : Option Nat) (inc : List Nat) : meets l ⟨r, []⟩ inc = true := by
 induction inc with
 | nil => rfl
 | cons i inc ih =>
  unfold meets
  cases e : xz i l with
  | none => simpa using ih
  | some y =>
   have hy := Gm h e
   show (FP.meet y ⟨r, []⟩ && meets l ⟨r, []⟩ inc) = true
   rw [ih]
   unfold FP.meet
   rw [hy]; rfl
attribute [simp] qw qE qB
theorem Ext.behind {m m' : M} (h : Ext (qi m) m') : Ext m (behind m m') := by
 have hl := h.log
 cases m with | mk h0 nx bs wl =>
 cases m' with | mk h1 nx1 bs1 wl1 =>
 have e : wl1 = [] := hl
 subst e
 exact ⟨h.n, h.obj, rfl, rfl⟩
theorem Ext.quietLog {m m' : M} (h : Ext (qi m) m') : m'.log = [] := h.log.trans (qE m)
end
end Go.Dx
namespace Go.Dx
noncomputable section
structure Sees (m0 m : M) : Prop where
 n : m0.n ≤ m.n
 obj : ∀ B, B < m0.n → m.obj B = m0.obj B
 base : m.base ≤ m.n
theorem Sees.refl {m : M} (h : m.base ≤ m.n) : Sees m m := ⟨DZ _, fun _ _ => rfl, h⟩
theorem Sees.self {a b : M} (h : Sees a b) : Sees b b := .refl h.base
theorem Sees.ext {a b c : M} (h : Sees a b) (k : Ext b c) : Sees a c := ⟨qa8 h.n k.n, fun B hB => (k.obj B (qa1 hB h.n)).trans (h.obj B hB), by rw [k.base]; exact qa8 h.base k.n⟩
theorem Sees.trans {a b c : M} (h : Sees a b) (k : Sees b c) : Sees a c := ⟨qa8 h.n k.n, fun B hB => (k.obj B (qa1 hB h.n)).trans (h.obj B hB), k.base⟩
@[simp] theorem sees_row {a b : M} (h : Sees a b) (l : List Value) : Sees a (newRow b l) := h.ext (Ext.row _ _)
@[simp] theorem qA {a b : M} (h : Sees a b) : Sees a (qi b) := ⟨by rw [qw]; exact h.n, fun B hB => by rw [qB]; exact h.obj B hB, by rw [qw, ky]; exact DZ _⟩
@[simp] theorem Dz {a b c : M} (h : Sees a b) (k : Ext (qi b) c) : Sees a (behind b c) := h.ext k.behind
@[simp] theorem yG (m : M) (l : List Value) : (newRow m l).log = m.log := M.log_alloc _ _
@[simp] theorem qk (m : M) (l : List Value) : (newRow m l).n = m.n + 1 := M.n_alloc _ _
@[simp] theorem ext_row {a b : M} (h : Ext a b) (l : List Value) : Ext a (newRow b l) := h.trans (Ext.row _ _)
@[simp] theorem DL {a b c : M} (h : Ext a b) (k : Ext (qi b) c) : Ext a (behind b c) := h.trans k.behind
attribute [simp] Ext.refl
def Call (x : Ex) (g : Nat) (args : List Value) (m : M) (P : Value → M → Prop) : Prop := ∃ v m', x.f g args m = some (v, m') ∧ Ext m m' ∧ P v m'
def Gp (x : Ex) (g : Nat) (args : List Value) (m : M) : Value := match x.f g args m with
 | some (v, _) => v
 | none => undef
def aft (x : Ex) (g : Nat) (args : List Value) (m : M) : M := match x.f g args m with
 | some (_, m') => m'
 | none => m
section
variable {x : Ex} {g : Nat} {args : List Value} {m m0 : M} {P : Value → M → Prop} {v : Value}
theorem Call.all (h : Call x g args m P) : x.f g args m = some (Gp x g args m, aft x g args m) ∧ Ext m (aft x g args m) ∧ P (Gp x g args m) (aft x g args m) := by
 obtain ⟨v, m', e, h1, h2⟩ := h
 unfold Gp aft; rw [e]; exact ⟨rfl, h1, h2⟩
abbrev CallV (x : Ex) (g : Nat) (args : List Value) (m : M) (v : Value) : Prop := Call x g args m fun u _ => u = v
theorem Call.mono {Q : Value → M → Prop} (h : Call x g args m P) (k : ∀ v m', Ext m m' → P v m' → Q v m') : Call x g args m Q := let ⟨v, m', e, h1, h2⟩ := h; ⟨v, m', e, h1, k _ _ h1 h2⟩
theorem Call.use (h : ∀ m, Sees m0 m → CallV x g args m v) :
  (∀ m, Sees m0 m → x.f g args m = some (v, aft x g args m)) ∧ (∀ a m, Sees m0 m → Ext a m → Ext a (aft x g args m)) ∧ (∀ a m, Sees m0 m → Sees a m → Sees a (aft x g args m)) ∧
   ∀ m, Sees m0 m → (aft x g args m).log = m.log := by
 refine ⟨fun m k => ?_, fun a m k e => e.trans (h m k).all.2.1, fun a m k e => e.ext (h m k).all.2.1, fun m k => (h m k).all.2.1.log⟩
 have := (h m k).all; rw [this.1, this.2.2]
theorem CallV.of {m' : M} (h : x.f g args m = some (v, m')) (e : Ext m m') : CallV x g args m v := ⟨v, m', h, e, rfl⟩
end
def Ret (m0 : M) (P : Value → M → Prop) : Option Out → Prop := fun o => ∃ v m', ob o Jm = some (v, m') ∧ Ext m0 m' ∧ P v m'
theorem qv {P : Program} {g : Nat} {c : SC} {nt : Nat} {res : List RV} {n : Nat} {args : List Value} {m : M} {Q : Value → M → Prop} (hd : wn P g = some ⟨c, nt, res⟩) (ha : args.length ≤ nt)
  (h : Ret m Q (c (ex P n) (zq res) noK (zq res) (jQ .blank 0 args) m)) : Call (ex P (n + 1)) g args m Q := by
 obtain ⟨v, m', e, h1, h2⟩ := h
 exact ⟨v, m', by rw [ex_f hd, bQ _ _ _ _ _ _ ha]; exact e, h1, h2⟩
theorem vk {m0 m : M} {Q : Value → M → Prop} {res : List RV} {t : Tm} {l : List Value} (h : yj t m res = some l) (he : Ext m0 m) (hq : Q (dM l) m) : Ret m0 Q (zq res t m) := by
 refine ⟨dM l, m, ?_, he, hq⟩
 rw [XG, h, qD, Xh]
theorem qH {m0 m : M} {Q : Value → M → Prop} {t : Tm} {p : Nat} (he : Ext m0 m) (hq : Q (Tm.get p t) m) : Ret m0 Q (zq [.t p] t m) := vk (l := [_]) rfl he hq
theorem gQ {m0 m : M} {Q : Value → M → Prop} {t : Tm} {p q : Nat} (he : Ext m0 m) (hq : Q (.tuple #[Tm.get p t, Tm.get q t]) m) : Ret m0 Q (zq [.t p, .t q] t m) := vk (l := [_, _]) rfl he hq
theorem FI {x : Ex} {kn kr : K} {ke : Nat → K} {a : SC} (Q : Option Out → Prop) (I : Nat → Tm → M → Prop) (len : Nat) (hlen : len ≤ 9223372036854775807)
  (round : ∀ i t m (k : K), i ≤ len → I i t m → (i < len → ∀ t' m', I (i + 1) t' m' → Q (k t' m')) → Q (a x k ke kr t m)) {t : Tm} {m : M} (h0 : I 0 t m) : Q (qO a x kn ke kr t m) := by
 rw [VG]
 have key : ∀ (N i : Nat) (t : Tm) (m : M), len < N + i → i ≤ len → I i t m → Q (Qo (fun k => a x k ke kr) N t m) := by
  intro N
  induction N with
  | zero => intro i t m h1 h2; omega
  | succ N ih =>
   intro i t m h1 h2 hI
   exact round i t m (Qo (fun k => a x k ke kr) N) h2 hI fun hi t' m' h3 => ih (i + 1) t' m' (by omega) (by omega) h3
 exact key _ 0 t m (by omega) (Nat.zero_le _) h0
def adr (e : Nat) (v : Value) (i : Nat) : Addr := match v with
 | .slice (some a) _ _ => ⟨a.block, a.off + i * e, none⟩
 | _ => ⟨0, 0, none⟩
def blk : Value → Option Nat
 | .slice (some a) _ _ => some a.block
 | _ => none
theorem yY {m m' : M} {e n : Nat} {v : Value} (h : ∀ B, blk v = some B → m'.obj B = m.obj B) : wG m' e n v = wG m e n v := by
 cases v with
 | slice a k c =>
  cases a with
  | none => rfl
  | some a =>
   show loads m' a _ = loads m a _
   unfold loads cellsOf; rw [h _ rfl]
 | _ => rfl
structure Rd {α : Type} (m : M) (v : Value) (e : Nat) (f : α → List Value) (es : List α) : Prop where
 len : kG v = some (.int .i64 es.length)
 row : ∀ (i : Nat) (r : α), es[i]? = some r → wX e v (.int .i64 i) = some (.pointer (some (adr e v i))) ∧ (adr e v i).block < m.n ∧ loads m (adr e v i) e = some (f r)
 all : wG m e es.length v = some (es.flatMap f)
 lt : ∀ B, blk v = some B → B < m.n
theorem kO {m m' : M} (h : Sees m m') {B o n : Nat} {s : Option Nat} (hB : B < m.n) : loads m' ⟨B, o, s⟩ n = loads m ⟨B, o, s⟩ n := by
 unfold loads cellsOf; rw [h.obj B hB]
theorem qy {m m' : M} (h : Sees m m') {B o : Nat} {s : Option Nat} (hB : B < m.n) : load1 m' ⟨B, o, s⟩ = load1 m ⟨B, o, s⟩ := by
 unfold load1 cellsOf; rw [h.obj B hB]
theorem vH {m : M} {a : Addr} {n : Nat} {l : List Value} (h : loads m a n = some l) {o : Nat} {s : Option Nat} {v : Value} (hv : l[o]? = some v) : load1 m ⟨a.block, a.off + o, s⟩ = some v := by
 unfold loads at h; unfold load1
 cases hc : cellsOf m a.block with
 | none => rw [hc] at h; cases h
 | some c =>
  rw [hc] at h
  exact (bn h).2 o v hv
section
variable {α : Type} {m : M} {v : Value} {e : Nat} {f : α → List Value} {es : List α}
theorem Rd.sees {m' : M} (h : Rd m v e f es) (k : Sees m m') : Rd m' v e f es :=
 ⟨h.len, fun i r hr => let ⟨h1, h2, h3⟩ := h.row i r hr; ⟨h1, qa1 h2 k.n, by
  rw [show adr e v i = ⟨(adr e v i).block, (adr e v i).off, (adr e v i).spot⟩ from rfl, kO k h2]; exact h3⟩, by rw [yY fun B hB => k.obj B (h.lt B hB)]; exact h.all, fun B hB => qa1 (h.lt B hB) k.n⟩
theorem Rd.at (h : Rd m v e f es) {i : Nat} {r : α} (hr : es[i]? = some r) :
  wX e v (.int .i64 i) = some (.pointer (some (adr e v i))) ∧ (∀ m', Sees m m' → loads m' (adr e v i) e = some (f r)) ∧ (∀ m' o s, Sees m m' → o < (f r).length → load1 m' ⟨(adr e v i).block, (adr e v i).off + o, s⟩ = (f r)[o]?) := by
 obtain ⟨h1, h2, h3⟩ := h.row i r hr
 have key : ∀ m', Sees m m' → loads m' (adr e v i) e = some (f r) := fun m' k => by
  rw [show adr e v i = ⟨(adr e v i).block, (adr e v i).off, (adr e v i).spot⟩ from rfl, kO k h2]; exact h3
 exact ⟨h1, key, fun m' o s k ho => by rw [vH (key m' k) (DW ho), DW ho]⟩
theorem Rd.at1 {g : α → Value} (h : Rd m v 1 (fun a => [g a]) es) {i : Nat} {r : α} (hr : es[i]? = some r) :
  wX 1 v (.int .i64 i) = some (.pointer (some (adr 1 v i))) ∧ ∀ m', Sees m m' → load1 m' (adr 1 v i) = some (g r) := by
 obtain ⟨h1, h2, h3⟩ := h.at hr
 refine ⟨h1, fun m' k => ?_⟩
 have := h3 m' 0 (adr 1 v i).spot k (by simp)
 exact this
end
theorem wj {m m' : M} {l : List Value} (h : Sees (newRow m l) m') : (∀ o n s, o + n ≤ l.length → loads m' ⟨m.n, o, s⟩ n = some ((l.drop o).take n)) ∧ ∀ o s, load1 m' ⟨m.n, o, s⟩ = l[o]? := by
 have hB : m.n < (newRow m l).n := by rw [qk]; omega
 exact ⟨fun o n s hn => by rw [kO h hB]; exact xD m l o n hn, fun o s => by rw [qy h hB]; exact jB m l o⟩
def Arr (m : M) (B : Nat) (l : List Value) : Prop := ∃ c, m.obj B = some (.cells c) ∧ ∀ i, A.get none i c = l[i]?
theorem Arr.congr {m m' : M} {B : Nat} {l : List Value} (h : Arr m B l) (e : m'.obj B = m.obj B) : Arr m' B l := let ⟨c, h1, h2⟩ := h; ⟨c, e.trans h1, h2⟩
theorem Arr.sees {m m' : M} {B : Nat} {l : List Value} (h : Arr m B l) (k : Sees m m') (hB : B < m.n) : Arr m' B l := h.congr (k.obj B hB)
theorem Arr.ext {m m' : M} {B : Nat} {l : List Value} (h : Arr m B l) (k : Ext m m') (hB : B < m.n) : Arr m' B l := h.congr (k.obj B hB)
theorem Arr.row (m : M) (l : List Value) : Arr (newRow m l) m.n l := by
 refine ⟨mkn .lf 0 l, by unfold newRow; rw [M.obj_alloc, if_pos rfl], fun i => ?_⟩
 rw [zG, A.get_lf]
 split
 ·simp
 ·rename_i h; simp at h; simp [h]
theorem ldn_of {c : C} {l : List Value} (h : ∀ i, A.get none i c = l[i]?) : ∀ (n o : Nat), o + n ≤ l.length → ldn c o n = some ((l.drop o).take n) := by
 intro n
 induction n with
 | zero => intro o _; simp [ff]
 | succ n ih =>
  intro o ho
  have : o < l.length := by omega
  rw [jS, h, DW this, ih (o + 1) (by omega), List.drop_eq_getElem_cons this]
  rfl
theorem Arr.loads {m : M} {B : Nat} {l : List Value} (h : Arr m B l) {o n : Nat} {s : Option Nat} (hn : o + n ≤ l.length) : loads m ⟨B, o, s⟩ n = some ((l.drop o).take n) := by
 obtain ⟨c, h1, h2⟩ := h
 unfold Dx.loads cellsOf
 rw [h1]; exact ldn_of h2 n o hn
theorem Arr.load1 {m : M} {B : Nat} {l : List Value} (h : Arr m B l) (o : Nat) (s : Option Nat) : load1 m ⟨B, o, s⟩ = l[o]? := by
 obtain ⟨c, h1, h2⟩ := h
 unfold Dx.load1 cellsOf
 rw [h1]; exact h2 o
def over (l : List Value) (o : Nat) : List Value → List Value
 | [] => l
 | v :: vs => over (l.set o v) (o + 1) vs
theorem dB : ∀ {vs l : List Value} {c : C} {o : Nat}, (∀ i, A.get none i c = l[i]?) → o + vs.length ≤ l.length → (∀ v ∈ vs, okC v = true) → ∃ c', stn c o vs = some c' ∧ ∀ i, A.get none i c' = (over l o vs)[i]?
 | [], l, c, o, h, _, _ => ⟨c, rfl, h⟩
 | v :: vs, l, c, o, h, hn, hv => by
  have ho : o < l.length := by simp at hn; omega
  obtain ⟨c', e, h'⟩ := dB (vs := vs) (l := l.set o v) (c := A.set none (some v) o c) (o := o + 1) (fun i => by
   by_cases hi : i = o
   ·subst hi; rw [A.get_set_same]; simp [ho]
   ·rw [A.get_set_ne _ _ hi, h, List.getElem?_set_ne (by omega)]) (by simp at hn ⊢; omega) (fun u hu => hv u (qa7 _ hu))
  refine ⟨c', ?_, h'⟩
  show ob (A.get none o c) _ = _
  rw [h, DW ho]
  show (bif okC v then _ else none) = _
  rw [hv v (qae ..)]
  exact e
def js (m : M) (B o : Nat) (l : List Value) : M := (wF m ⟨B, o, none⟩ l).getD m
theorem wV {m : M} {B o : Nat} {l l0 : List Value} (h : Arr m B l0) (hn : o + l.length ≤ l0.length) (hl : ∀ v ∈ l, okC v = true) :
  wF m ⟨B, o, none⟩ l = some (js m B o l) ∧ Arr (js m B o l) B (over l0 o l) ∧ (js m B o l).n = m.n ∧ (js m B o l).base = m.base ∧ (∀ X, X ≠ B → (js m B o l).obj X = m.obj X) ∧ (m.base ≤ B → (js m B o l).log = m.log) := by
 obtain ⟨c, h1, h2⟩ := h
 cases l with
 | nil => exact ⟨rfl, ⟨c, h1, h2⟩, rfl, rfl, fun _ _ => rfl, fun _ => rfl⟩
 | cons v vs =>
  obtain ⟨c', e, h'⟩ := dB h2 hn hl
  have key : wF m ⟨B, o, none⟩ (v :: vs) = some (m.put B (.cells c')) := by
   show ob (vd (m.obj B)) _ = _
   rw [h1]
   show ob (stn c o (v :: vs)) _ = _
   rw [e]; rfl
  have hp : js m B o (v :: vs) = m.put B (.cells c') := by unfold js; rw [key]; rfl
  rw [hp]
  refine ⟨key, ⟨c', by rw [M.obj_put, if_pos rfl], h'⟩, M.n_put _ _ _, M.base_put _ _ _, fun X hX => by rw [M.obj_put, if_neg hX], fun hb => ?_⟩
  cases m with | mk a b bs wl =>
  show note bs B wl = wl
  have h' : Nat.ble bs B = true := qa4 hb
  unfold note
  rw [h']; rfl
theorem Fp {m a : M} {B o : Nat} {l l0 : List Value} (h : Arr m B l0) (hn : o + l.length ≤ l0.length) (hl : ∀ v ∈ l, okC v = true) (hB : a.n ≤ B) (hb : a.base ≤ a.n) (k : Ext a m) : Ext a (js m B o l) := by
 obtain ⟨_, _, h1, h2, h3, h4⟩ := wV h hn hl
 exact ⟨by rw [h1]; exact k.n, fun X hX => by rw [h3 X (by omega)]; exact k.obj X hX, by rw [h2, k.base], by rw [h4 (by rw [k.base]; omega), k.log]⟩
theorem zr {m : M} {B o : Nat} {l0 : List Value} (h : Arr m B l0) {v : Value} {l : List Value} {n : Nat} (hv : ze v = some l) (hln : l.length = n) (hn : o + n ≤ l0.length) (hl : ∀ v ∈ l, okC v = true) :
  wh n (.pointer (some ⟨B, o, none⟩)) v m = some (undef, js m B o l) := by
 have := (wV (o := o) (l := l) h (by omega) hl).1
 show ob (ze v) _ = _
 rw [hv]
 show (bif Nat.beq l.length n then _ else none) = _
 rw [hln, Nat.beq_refl]
 show ob (wF m ⟨B, o, none⟩ l) _ = _
 rw [this]; rfl
theorem Jd {m : M} (hm : m.base ≤ m.n) {zs l : List Value} {v : Value} {n : Nat} (hv : ze v = some l) (hz : zs.length = n) (hln : l.length = n) (hl : ∀ v ∈ l, okC v = true) :
  wh n (.pointer (some ⟨m.n, 0, none⟩)) v (newRow m zs) = some (undef, js (newRow m zs) m.n 0 l) ∧ Arr (js (newRow m zs) m.n 0 l) m.n (over zs 0 l) ∧ Ext m (js (newRow m zs) m.n 0 l) ∧ m.n < (js (newRow m zs) m.n 0 l).n := by
 have h := Arr.row m zs
 refine ⟨zr h hv hln (by omega) hl, (wV (o := 0) (l := l) h (by omega) hl).2.1, Fp h (by omega) hl (DZ _) hm (Ext.row _ _), ?_⟩
 rw [(wV (o := 0) (l := l) h (by omega) hl).2.2.1, qk]; omega
theorem fq : ∀ (l zs : List Value) (p : List Value), zs.length = l.length → over (p ++ zs) p.length l = p ++ l
 | [], zs, p, h => by cases zs <;> simp_all [over]
 | v :: l, zs, p, h => by
  cases zs with
  | nil => simp at h
  | cons z zs =>
   unfold over
   have := fq l zs (p ++ [v]) (by simpa using h)
   simp at this ⊢
   exact this
theorem gq {l zs : List Value} (h : zs.length = l.length) : over zs 0 l = l := fq l zs [] h
abbrev SeqR (c a b : SC) : Prop := ∀ (x : Ex) (n : K) (e : Nat → K) (r : K) (t : Tm) (m : M), c x n e r t m = a x (b x n e r) e r t m
theorem qT {c a b : SC} (h : c = qa a b) : SeqR c a b := by subst h; exact fun _ _ _ _ _ _ => rfl
theorem Gd {c : List IS} {a : IS} {l : List IS} (h : c = a :: l) : ∀ (x : Ex) (k : K) (t : Tm) (m : M), dz c x k t m = a x (dz l x k) t m := by subst h; exact fun _ _ _ _ => rfl
theorem qm {c a : SC} (hc : c = qO a) {x : Ex} {kn kr : K} {ke : Nat → K} (Q : Option Out → Prop) (I : Nat → Tm → M → Prop) (len : Nat) (hlen : len ≤ 9223372036854775807) {t : Tm} {m : M} (h0 : I 0 t m)
  (round : ∀ i t m (k : K), i ≤ len → I i t m → (i < len → ∀ t' m', I (i + 1) t' m' → Q (k t' m')) → Q (a x k ke kr t m)) : Q (c x kn ke kr t m) := by
 subst hc; exact FI Q I len hlen round h0
theorem xd {m : M} (hm : m.base ≤ m.n) {zs l : List Value} {v : Value} {n : Nat} (hv : ze v = some l) (hz : zs.length = n) (hln : l.length = n) (hl : ∀ v ∈ l, okC v = true) :
  ∃ m2, wh n (.pointer (some ⟨m.n, 0, none⟩)) v (newRow m zs) = some (undef, m2) ∧ (∀ o s, load1 m2 ⟨m.n, o, s⟩ = l[o]?) ∧ (∀ s, loads m2 ⟨m.n, 0, s⟩ n = some l) ∧ Ext m m2 ∧ m.n < m2.n := by
 obtain ⟨h1, h2, h3, h4⟩ := Jd hm hv hz hln hl
 rw [gq (by omega)] at h2
 exact ⟨_, h1, fun o s => h2.load1 o s, fun s => by rw [h2.loads (by omega), List.drop_zero, ← hln, List.take_length], h3, h4⟩
@[simp] theorem DR (x : Ex) (t : Tm) (m : M) (e n : Nat) (zs : List Value) (ps : List (Nat × Nat × V)) : qR e n zs ps x t m = ko e n zs (evP ps t) m := _root_.id rfl
@[simp] theorem DC (m : M) (z : Value) (k : IntKind) (a : Int) : ko 1 1 (rep 1 [z]) [(0, 1, .int k a)] m = some (.slice (some ⟨m.n, 0, some 3⟩) 1 1, newRow m [.int k a]) := _root_.id rfl
theorem zX {m : M} {B : Nat} (h : m.base ≤ B) (o : zJ) : (m.put B o).log = m.log := by
 cases m with | mk a b bs wl =>
 show note bs B wl = wl
 have h' : Nat.ble bs B = true := qa4 h
 unfold note
 rw [h']; rfl
theorem Kd {c : C} {v : Value} {i : Nat} (h : A.get none i c = some v) : alive c = true := by
 cases c with
 | lf => rw [A.get_lf] at h; cases h
 | _ => rfl
def Grown {α : Type} (m0 m : M) (v : Value) (e : Nat) (f : α → List Value) (es : List α) : Prop :=
 (es = [] ∧ v = .slice none 0 0) ∨ ∃ B, m0.n ≤ B ∧ B < m.n ∧ es ≠ [] ∧ v = .slice (some ⟨B, 0, some (code e false)⟩) es.length es.length ∧ Arr m B (es.flatMap f)
section
variable {α : Type} {m0 m m' : M} {v : Value} {e : Nat} {f : α → List Value} {es : List α}
theorem Grown.nil : Grown m0 m (.slice none 0 0) e f ([] : List α) := .inl ⟨rfl, rfl⟩
theorem Grown.keep (h : Grown m0 m v e f es) (hn : m.n ≤ m'.n) (k : ∀ B, B < m.n → blk v = some B → m'.obj B = m.obj B) : Grown m0 m' v e f es := by
 rcases h with h | ⟨B, h1, h2, h3, rfl, h5⟩
 ·exact .inl h
 ·exact .inr ⟨B, h1, by omega, h3, rfl, h5.congr (k B h2 rfl)⟩
theorem Grown.ext (h : Grown m0 m v e f es) (k : Ext m m') : Grown m0 m' v e f es := h.keep k.n fun B hB _ => k.obj B hB
theorem Grown.lens (h : Grown m0 m v e f es) : kG v = some (.int .i64 es.length) := by
 rcases h with ⟨rfl, rfl⟩ | ⟨B, h1, h2, h3, rfl, h5⟩ <;> rfl
theorem wi (hf : ∀ x, (f x).length = e) : ∀ es : List α, (es.flatMap f).length = es.length * e
 | [] => by simp
 | x :: es => by simp [hf x, wi hf es, Nat.succ_mul, Nat.add_comm]
theorem zv (hf : ∀ x, (f x).length = e) : ∀ (es : List α) (i : Nat) (x : α), es[i]? = some x → ((es.flatMap f).drop (i * e)).take e = f x
 | [], i, x, h => by simp at h
 | y :: es, 0, x, h => by
  simp at h; subst h
  simp [← hf y]
 | y :: es, i + 1, x, h => by
  simp at h
  rw [List.flatMap_cons, List.drop_append, Nat.succ_mul, hf y, List.drop_eq_nil_of_le (by rw [hf y]; omega), List.nil_append, Nat.add_sub_cancel]
  exact zv hf es i x h
theorem Grown.rd (hf : ∀ x, (f x).length = e) (h : Grown m0 m v e f es) : Rd m v e f es := by
 refine ⟨h.lens, fun i r hr => ?_, ?_, ?_⟩
 rotate_left
 ·rcases h with ⟨rfl, rfl⟩ | ⟨B, h1, h2, h3, rfl, h5⟩
  ·rfl
  ·show loads m ⟨B, 0, some (code e false)⟩ (es.length * e) = _
   have hlen := wi hf es
   rw [h5.loads (by omega), List.drop_zero, ← hlen, List.take_length]
 ·rcases h with ⟨rfl, rfl⟩ | ⟨B, h1, h2, h3, rfl, h5⟩
  ·intro B hB; cases hB
  ·intro C hC; cases hC; exact h2
 have hi : i < es.length := (DY.1 hr).1
 rcases h with ⟨rfl, rfl⟩ | ⟨B, h1, h2, h3, rfl, h5⟩
 ·simp at hi
 ·refine ⟨?_, h2, ?_⟩
  ·show (bif Nat.blt i es.length then fK (i * e) _ else none) = _
   rw [show Nat.blt i es.length = true from qa4 hi]; rfl
  ·show loads m ⟨B, 0 + i * e, none⟩ e = _
   have := qag e (Nat.succ_le_of_lt hi)
   rw [h5.loads (by rw [wi hf, Nat.zero_add]; rw [Nat.succ_mul] at this; omega), Nat.zero_add, zv hf es i r hr]
theorem bL : ∀ {l : List Value}, (∀ v ∈ l, okC v = true) → vq l = true
 | [], _ => rfl
 | v :: l, h => by unfold vq; rw [h v (qae ..), bL fun u hu => h u (qa7 _ hu)]; rfl
theorem Grown.core (h : Grown m0 m v e f es) (he : 0 < e) (hf : ∀ x, (f x).length = e) (hok : ∀ x, ∀ v ∈ f x, okC v = true) {x : α} {X : Nat} {sp : Option Nat}
  (hx : loads m ⟨X, 0, sp⟩ e = some (f x)) (h0 : m0.n ≤ m.n) {bytes : Nat} (hm : (es.length + 1) * bytes ≤ most) (hn : es.length + 1 ≤ 4611686018427387904) :
  ∃ v' m', qX m e bytes v (.slice (some ⟨X, 0, sp⟩) 1 1) = some (v', m') ∧ Grown m0 m' v' e f (es ++ [x]) ∧ m.n < m'.n ∧ m'.base = m.base ∧ (m'.log = m.log ∨ ∃ B, blk v = some B ∧ m0.n ≤ B ∧ m'.log = note m.base B m.log) ∧ (∀ B, B < m.n → blk v ≠ some B → m'.obj B = m.obj B) ∧ (∀ B, blk v' = some B → m.n ≤ B) := by
 have hk : (Nat.ble ((es.length + 1) * bytes) most && Nat.ble (es.length + 1) 4611686018427387904) = true := by rw [qa4 hm, qa4 hn]; rfl
 have hfi : wG m e 1 (.slice (some ⟨X, 0, sp⟩) 1 1) = some (f x) := by unfold wG; rw [Nat.one_mul]; exact hx
 have hal : vq (es.flatMap f ++ f x) = true := bL fun u hu => by
  simp only [List.mem_append, List.mem_flatMap] at hu
  rcases hu with ⟨y, _, h⟩ | h
  ·exact hok y u h
  ·exact hok x u h
 have hfl : (es ++ [x]).flatMap f = es.flatMap f ++ f x := by simp
 rcases h with ⟨rfl, rfl⟩ | ⟨B, h1, h2, h3, rfl, h5⟩
 ·refine ⟨_, _, ?_, .inr ⟨m.n, h0, by rw [qk]; omega, by simp, rfl, by simpa using Arr.row m (f x)⟩, by rw [qk]; omega, (Ext.row m (f x)).base, .inl (Ext.row m (f x)).log,
   fun B hB _ => (Ext.row m (f x)).obj B hB, fun B hB => by cases hB; exact DZ _⟩
  show ob (wG m e 1 _) _ = _
  rw [hfi, qD]
  unfold yt
  have hlt : Nat.ble (0 + 1) 0 = false := rfl
  have hk' : (Nat.ble ((0 + 1) * bytes) most && Nat.ble (0 + 1) 4611686018427387904) = true := hk
  rw [hlt, cond_false, hk', cond_true]
  rfl
 ·have hlt : Nat.ble (es.length + 1) es.length = false := by
   cases q : Nat.ble (es.length + 1) es.length with
   | false => rfl
   | true => exact absurd (qa5 q) (by omega)
  obtain ⟨c, hc, hcl⟩ := id h5
  have hpos : 0 < es.length := qai.2 h3
  have hlen := wi hf es
  have hne : 0 < (es.flatMap f).length := by rw [hlen]; exact Nat.mul_pos hpos he
  have ha : alive c = true := Kd (i := 0) (by rw [hcl, DW hne])
  refine ⟨.slice (some ⟨m.n, 0, some (code e false)⟩) (es.length + 1) (es.length + 1), (m.put B (.cells .lf)).alloc (.cells (mkn .lf 0 (es.flatMap f ++ f x))), ?_,
   .inr ⟨m.n, h0, by rw [M.n_alloc, M.n_put]; omega, by simp, by simp, ?_⟩, by rw [M.n_alloc, M.n_put]; omega, by rw [M.base_alloc, M.base_put], .inr ⟨B, rfl, h1, by rw [M.log_alloc]; cases m; rfl⟩, fun Y hY hne' => ?_, fun Y hY => by cases hY; exact DZ _⟩
  ·show ob (wG m e 1 _) _ = _
   rw [hfi, qD]
   unfold yt
   rw [hlt, cond_false, hk, cond_true]
   have hold : wG m e es.length (.slice (some ⟨B, 0, some (code e false)⟩) es.length es.length) = some (es.flatMap f) := by
    show loads m ⟨B, 0, some (code e false)⟩ (es.length * e) = _
    rw [h5.loads (by omega), List.drop_zero, ← hlen, List.take_length]
   rw [hold, qD]
   unfold gM
   have hx' : xB (code e false) = false := by
    show Nat.beq (2 * e % 2) 1 = false
    rw [show 2 * e % 2 = 0 by omega]; rfl
   have hcd : Nat.beq (code e false / 2) e = true := by
    show Nat.beq (2 * e / 2) e = true
    rw [show 2 * e / 2 = e by omega]; exact Nat.beq_refl e
   show ob (some (code e false)) _ = _
   rw [qD, hx', cond_false]
   show ob (vd (m.obj B)) _ = _
   rw [hc]
   show (bif alive c && Nat.beq (code e false / 2) e && vq (es.flatMap f ++ f x) && Nat.blt 0 HI then _ else _) = _
   rw [ha, hcd, hal, show Nat.blt 0 HI = true from qa4 (by unfold HI; omega)]
   rfl
  ·rw [hfl]
   refine ⟨_, by rw [M.obj_alloc, M.n_put, if_pos rfl], fun i => ?_⟩
   rw [zG, A.get_lf]
   split
   ·simp
   ·rename_i h; rw [qah (by omega)]
  ·rw [M.obj_alloc, M.n_put, if_neg (by omega), M.obj_put, if_neg (by rintro rfl; exact hne' rfl)]
theorem ya {bs B : Nat} {wl : List Nat} (h : bs ≤ B) : note bs B wl = wl := by unfold note; rw [qa4 h]; rfl
theorem Grown.append (h : Grown m0 m v e f es) (hE : Ext m0 m) (hb : m0.base ≤ m0.n) (he : 0 < e) (hf : ∀ x, (f x).length = e) (hok : ∀ x, ∀ v ∈ f x, okC v = true) {x : α} {X : Nat} {sp : Option Nat}
  (hx : loads m ⟨X, 0, sp⟩ e = some (f x)) {bytes : Nat} (hm : (es.length + 1) * bytes ≤ most) (hn : es.length + 1 ≤ 4611686018427387904) :
  ∃ v' m', qX m e bytes v (.slice (some ⟨X, 0, sp⟩) 1 1) = some (v', m') ∧ Ext m0 m' ∧ Grown m0 m' v' e f (es ++ [x]) ∧ m.n ≤ m'.n ∧ (∀ B, B < m.n → blk v ≠ some B → m'.obj B = m.obj B) ∧ (∀ B, blk v' = some B → m.n ≤ B) := by
 have hlow : ∀ B, blk v = some B → m0.n ≤ B := fun B hB => by
  rcases h with ⟨rfl, rfl⟩ | ⟨B', h1, _, _, rfl, _⟩
  ·cases hB
  ·cases hB; exact h1
 obtain ⟨v', m', h1, h2, h3, h4, h5, h6, h7⟩ := h.core he hf hok hx hE.n hm hn
 refine ⟨v', m', h1, ⟨by have := hE.n; omega, fun B hB => (h6 B (by have := hE.n; omega) fun hc => by have := hlow B hc; omega).trans (hE.obj B hB), by rw [h4, hE.base], ?_⟩, h2, by omega, h6, h7⟩
 rcases h5 with h5 | ⟨B, _, hB, h5⟩
 ·rw [h5, hE.log]
 ·rw [h5, ya (by rw [hE.base]; omega), hE.log]
theorem Grown.appendAny (h : Grown m0 m v e f es) (hE : Ext m0 m) (hb : m0.base ≤ m0.n) (he : 0 < e) (hf : ∀ x, (f x).length = e) (hok : ∀ x, ∀ v ∈ f x, okC v = true) {x : α} {X : Nat} {sp : Option Nat}
  (hx : loads m ⟨X, 0, sp⟩ e = some (f x)) {bytes : Nat} (hm : (es.length + 1) * bytes ≤ most) (hn : es.length + 1 ≤ 4611686018427387904) :
  ∃ v' m', qX (qi m) e bytes v (.slice (some ⟨X, 0, sp⟩) 1 1) = some (v', m') ∧ (m'.log = [] ∨ ∃ B, blk v = some B ∧ m'.log = [B]) ∧ Ext m0 (behind m m') ∧ Grown m0 (behind m m') v' e f (es ++ [x]) ∧ m.n ≤ (behind m m').n ∧ (∀ B, B < m.n → blk v ≠ some B → (behind m m').obj B = m.obj B) ∧ (∀ B, blk v' = some B → m.n ≤ B) := by
 have hlow : ∀ B, blk v = some B → m0.n ≤ B ∧ B < m.n := fun B hB => by
  rcases h with ⟨rfl, rfl⟩ | ⟨B', h1, h2, _, rfl, _⟩
  ·cases hB
  ·cases hB; exact ⟨h1, h2⟩
 have hA : Grown m0 (qi m) v e f es := h.keep (by rw [qw]; exact DZ _) fun B _ _ => qB _ _
 have hx' : loads (qi m) ⟨X, 0, sp⟩ e = some (f x) := by unfold loads cellsOf at hx ⊢; rw [qB]; exact hx
 obtain ⟨v', m', h1, h2, h3, h4, h5, h6, h7⟩ := hA.core he hf hok hx' (by rw [qw]; exact hE.n) hm hn
 rw [qw] at h3 h6 h7
 have hlog : m'.log = [] ∨ ∃ B, blk v = some B ∧ m'.log = [B] := by
  rcases h5 with h5 | ⟨B, hB, _, h5⟩
  ·exact .inl (by rw [h5, qE])
  ·refine .inr ⟨B, hB, ?_⟩
   rw [h5, ky, qE]
   have := (hlow B hB).2
   unfold note
   have h' : Nat.ble m.n B = false := by
    cases q : Nat.ble m.n B with
    | false => rfl
    | true => exact absurd (qa5 q) (by omega)
   rw [h']; rfl
 refine ⟨v', m', h1, hlog, ⟨by rw [qY]; have := hE.n; omega, fun B hB => ?_, by rw [kw, hE.base], ?_⟩, h2.keep (by rw [qY]; exact DZ _) fun B _ _ => qC _ _ _, by rw [qY]; omega, fun B hB hne => by rw [qC, h6 B hB hne, qB], h7⟩
 ·rw [qC, h6 B (by have := hE.n; omega) fun hc => by have := (hlow B hc).1; omega, qB]; exact hE.obj B hB
 ·rw [kM, ← hE.log]
  rcases hlog with h | ⟨B, hB, h⟩
  ·rw [h]; rfl
  ·rw [h]
   show notes m.base (note m.base B m.log) [] = m.log
   rw [ya (by rw [hE.base]; have := (hlow B hB).1; omega)]; rfl
end
@[simp] theorem extract_0 (a : Value) (l : List Value) : xx 0 (.tuple ⟨a :: l⟩) = some a := _root_.id rfl
@[simp] theorem extract_1 (a b : Value) (l : List Value) : xx 1 (.tuple ⟨a :: b :: l⟩) = some b := _root_.id rfl
@[simp] theorem extract_2 (a b c : Value) (l : List Value) : xx 2 (.tuple ⟨a :: b :: c :: l⟩) = some c := _root_.id rfl
@[simp] theorem pNilck_p (a : Addr) : dl (.pointer (some a)) = some (.pointer (some a)) := _root_.id rfl
@[simp] theorem mCallv_ap (f : V) (l : List V) (x : Ex) (t : Tm) (m : M) : vI f l x t m = vA x (evs t l) m (f t) := _root_.id rfl
@[simp] theorem DK (x : Ex) (l : List Value) (m : M) (g : Nat) (u v : List Value) : vA x l m (.func (.func g) ⟨u⟩ ⟨v⟩) = x.f g (u ++ l ++ v) m := _root_.id rfl
@[simp] theorem pMkfn_ap (g : Nat) (a b : List V) (t : Tm) : KO g a b t = some (.func (.func g) ⟨evs t a⟩ ⟨evs t b⟩) := _root_.id rfl
end
def Sp (e : Nat) (v : Value) : Prop := v = .slice none 0 0 ∨ ∃ B o l c x, v = .slice (some ⟨B, o, some (code e x)⟩) l c ∧ l ≤ c
end Go.Dx
namespace Go.Dx
noncomputable section
@[simp] theorem Vi (m : M) (a : Addr) : load1 (qi m) a = load1 m a := by unfold load1 cellsOf; rw [qB]
@[simp] theorem Vj (m : M) (a : Addr) (n : Nat) : loads (qi m) a n = loads m a n := by unfold loads cellsOf; rw [qB]
@[simp] theorem Ws (m m' : M) (a : Addr) : load1 (behind m m') a = load1 m' a := by unfold load1 cellsOf; rw [qC]
@[simp] theorem meets_nil (l : List (Nat × FP)) (x : FP) : meets l x [] = true := rfl
theorem fm {bs : Nat} {wl : List Nat} : ∀ {l : List Nat}, (∀ B ∈ l, bs ≤ B) → notes bs wl l = wl
 | [], _ => rfl
 | B :: l, h => by
  show notes bs (note bs B wl) l = wl
  have : note bs B wl = wl := by unfold note; rw [qa4 (h B (qae ..))]; rfl
  rw [this]; exact fm fun C hC => h C (qa7 _ hC)
structure St (m0 m : M) (σ : List (Nat × List Value)) : Prop where
 ext : Ext m0 m
 base : m0.base ≤ m0.n
 arr : ∀ p ∈ σ, m0.n ≤ p.1 ∧ p.1 < m.n ∧ Arr m p.1 p.2
 nd : (σ.map (·.1)).Nodup
def vw (m : M) : List (Nat × List Value) → Prop
 | [] => True
 | p :: σ => (∀ o s, load1 m ⟨p.1, o, s⟩ = p.2[o]?) ∧ vw m σ
section
variable {m0 m m' : M} {σ : List (Nat × List Value)} {k b o : Nat} {l : List Value} {v : Value}
theorem St.nil (h : m0.base ≤ m0.n) (e : Ext m0 m) : St m0 m [] := ⟨e, h, (by simp), (by simp)⟩
theorem St.loads (h : St m0 m σ) : vw m σ := by
 have := h.arr
 clear h
 induction σ with
 | nil => trivial
 | cons p σ ih => exact ⟨fun o s => (this p (qae ..)).2.2.load1 o s, ih fun q hq => this q (qa7 _ hq)⟩
theorem St.get (h : St m0 m σ) (k : Nat) (hk : σ[k]? = some (b, l)) : m0.n ≤ b ∧ b < m.n ∧ Arr m b l := h.arr _ (DX hk)
theorem St.keep (h : St m0 m σ) (e : Ext m0 m') (hn : m.n ≤ m'.n) (ho : ∀ B, m0.n ≤ B → B < m.n → m'.obj B = m.obj B) : St m0 m' σ :=
 ⟨e, h.base, fun p hp => let ⟨h1, h2, h3⟩ := h.arr p hp; ⟨h1, by omega, h3.congr (ho _ h1 h2)⟩, h.nd⟩
theorem St.step (h : St m0 m σ) (e : Ext m m') : St m0 m' σ := h.keep (h.ext.trans e) e.n fun B _ hB => e.obj B hB
theorem St.sees (h : St m0 m σ) : Sees m0 m := (Sees.refl h.base).ext h.ext
theorem St.behind (h : St m0 m σ) (e : Ext (qi m) m') : St m0 (behind m m') σ := h.step e.behind
theorem St.row (h : St m0 m σ) (l : List Value) : St m0 (newRow m l) ((m.n, l) :: σ) := by
 have h' := h.step (Ext.row m l)
 refine ⟨h'.ext, h.base, fun p hp => ?_, ?_⟩
 ·rcases List.mem_cons.1 hp with rfl | hp
  ·exact ⟨h.ext.n, by rw [qk]; exact Nat.lt_succ_self _, Arr.row m l⟩
  ·exact h'.arr p hp
 ·rw [List.map_cons, List.nodup_cons]
  refine ⟨fun hm => ?_, h.nd⟩
  obtain ⟨q, hq, e⟩ := List.mem_map.1 hm
  have := (h.arr q hq).2.1
  omega
theorem xE {σ : List (Nat × List Value)} (hn : (σ.map (·.1)).Nodup) {i j : Nat} {p q : Nat × List Value} (hi : σ[i]? = some p) (hj : σ[j]? = some q) (h : p.1 = q.1) : i = j := by
 obtain ⟨hi', rfl⟩ := DY.1 hi
 obtain ⟨hj', rfl⟩ := DY.1 hj
 have key : ∀ (l : List Nat), l.Nodup → ∀ (i j : Nat) (x : Nat), l[i]? = some x → l[j]? = some x → i = j := by
  intro l
  induction l with
  | nil => intro _ i j x h; simp at h
  | cons a l ih =>
   intro hn i j x h1 h2
   rw [List.nodup_cons] at hn
   cases i with
   | zero =>
    cases j with
    | zero => rfl
    | succ j => simp at h1 h2; subst h1; exact absurd (DX h2) hn.1
   | succ i =>
    cases j with
    | zero => simp at h1 h2; subst h2; exact absurd (DX h1) hn.1
    | succ j => simp at h1 h2; rw [ih hn.2 i j x h1 h2]
 exact key _ hn i j (σ[i]'hi').1 (by rw [qac, DW hi']; rfl) (by rw [qac, DW hj', h]; rfl)
theorem St.put' (h : St m0 m σ) (k : Nat) (hk : σ[k]? = some (b, l)) {l' : List Value} (hn : m'.n = m.n) (hb : m'.base = m.base) (hlog : m'.log = m.log) (ho : ∀ X, X ≠ b → m'.obj X = m.obj X) (ha : Arr m' b l') : St m0 m' (σ.set k (b, l')) := by
 obtain ⟨hk', hke⟩ := DY.1 hk
 have hb0 := (h.get k hk).1
 refine ⟨⟨by rw [hn]; exact h.ext.n, fun X hX => by rw [ho X (by omega)]; exact h.ext.obj X hX, by rw [hb, h.ext.base], by rw [hlog, h.ext.log]⟩, h.base, fun p hp => ?_, ?_⟩
 ·obtain ⟨j, hj, rfl⟩ := List.getElem_of_mem hp
  rw [List.getElem_set]
  rw [List.length_set] at hj
  split
  ·exact ⟨hb0, by rw [hn]; exact (h.get k hk).2.1, ha⟩
  ·rename_i hne
   obtain ⟨h1, h2, h3⟩ := h.arr _ (List.getElem_mem hj)
   refine ⟨h1, by rw [hn]; exact h2, h3.congr (ho _ fun e => hne ?_)⟩
   exact (xE h.nd (DW hj) hk e).symm
 ·have : (σ.set k (b, l')).map (·.1) = σ.map (·.1) := by
   rw [List.map_set]
   show (σ.map (·.1)).set k b = _
   refine List.ext_getElem (by simp) fun i h1 h2 => ?_
   rw [List.getElem_set]
   split
   ·subst_vars; simp [hke]
   ·rfl
  rw [this]; exact h.nd
theorem St.store (h : St m0 m σ) (k : Nat) (hk : σ[k]? = some (b, l)) (ho : o < l.length) (hv : okC v = true) :
  ∃ m', wh 1 (.pointer (some ⟨b, o, none⟩)) v m = some (undef, m') ∧ St m0 m' (σ.set k (b, l.set o v)) ∧ m'.n = m.n ∧ (∀ X, X ≠ b → m'.obj X = m.obj X) := by
 obtain ⟨h1, h2, h3⟩ := h.get k hk
 have hcv : ze v = some [v] := by cases v <;> first | rfl | simp [okC] at hv
 have e := zr (n := 1) (o := o) h3 hcv rfl (by omega) (by simpa using hv)
 obtain ⟨_, s2, s3, s4, s5, s6⟩ := wV (o := o) (l := [v]) h3 (by simp; omega) (by simpa using hv)
 exact ⟨_, e, h.put' k hk s3 s4 (s6 (by have := h.ext.base; have := h.base; omega)) s5 s2, s3, s5⟩
theorem St.storeAny (h : St m0 m σ) (k : Nat) (hk : σ[k]? = some (b, l)) (ho : o < l.length) (hv : okC v = true) :
  ∃ m', wh 1 (.pointer (some ⟨b, o, none⟩)) v (qi m) = some (undef, m') ∧ m'.log = [b] ∧ St m0 (Dx.behind m m') (σ.set k (b, l.set o v)) ∧ (Dx.behind m m').n = m.n ∧ (∀ X, X ≠ b → (Dx.behind m m').obj X = m.obj X) := by
 obtain ⟨h1, h2, h3⟩ := h.get k hk
 have hcv : ze v = some [v] := by cases v <;> first | rfl | simp [okC] at hv
 have h3' : Arr (qi m) b l := h3.congr (qB m b)
 have e := zr (n := 1) (o := o) h3' hcv rfl (by omega) (by simpa using hv)
 obtain ⟨s1, s2, s3, s4, s5, s6⟩ := wV (o := o) (l := [v]) h3' (by simp; omega) (by simpa using hv)
 have hlog : (js (qi m) b o [v]).log = [b] := by
  obtain ⟨c, hc, hcl⟩ := h3'
  have : ∃ c', wF (qi m) ⟨b, o, none⟩ [v] = some ((qi m).put b (.cells c')) := by
   have hs : wF (qi m) ⟨b, o, none⟩ [v] = ob (vd ((qi m).obj b)) fun c => ob (stn c o [v]) fun c' => some ((qi m).put b (.cells c')) := rfl
   rw [hs, hc]
   obtain ⟨c', e', _⟩ := dB (vs := [v]) (o := o) hcl (by simp; omega) (by simpa using hv)
   exact ⟨c', by show ob (stn c o [v]) _ = _; rw [e']; rfl⟩
  obtain ⟨c', e'⟩ := this
  have hp : js (qi m) b o [v] = (qi m).put b (.cells c') := by unfold js; rw [e']; rfl
  rw [hp]
  cases m with | mk a nx bs wl =>
  show note nx b [] = [b]
  have h2' : b < nx := h2
  unfold note
  have : Nat.ble nx b = false := by
   cases q : Nat.ble nx b with
   | false => rfl
   | true => exact absurd (qa5 q) (by omega)
  rw [this]; rfl
 refine ⟨_, e, hlog, h.put' k hk (by rw [qY, s3, qw]) (kw _ _) ?_ (fun X hX => by rw [qC, s5 X hX, qB]) (s2.congr (qC _ _ _)), by rw [qY, s3, qw], fun X hX => by rw [qC, s5 X hX, qB]⟩
 rw [kM, hlog]
 refine fm fun B hB => ?_
 rw [qa3.1 hB, h.ext.base]
 have := h.base
 omega
end
@[simp] theorem vFn_f (g : Nat) (u v : Array Value) : vFn (.func (.func g) u v) = some (g, u, v) := _root_.id rfl
theorem sRf_ap (o : V) (nt : Nat) (ps : Array Tmp) (a b : Code) (ks : List Nat) (x : Ex) (kn kr : K) (ke : Nat → K) (t : Tm) (m : M) : sRf o nt ps a b ks x kn ke kr t m = obp (vFn (o t)) fun g uv => rfGo nt ps a b ks x kn ke kr t m g uv.1 uv.2 := rfl
theorem Db (nt : Nat) (ps : Array Tmp) (a b : Code) (ks : List Nat) (x : Ex) (kn kr : K) (ke : Nat → K) (t : Tm) (m : M) (g : Nat) (u v : Array Value) :
  rfGo nt ps a b ks x kn ke kr t m g u v = obp (x.f g (u.toList ++ [.func (.yield m.n) #[] #[]] ++ v.toList) (m.alloc (.loop 0 (zM ks t) nt ps a b none))) (endL m.n t kn ke kr) := rfl
theorem gC {c : SC} {o : V} {nt : Nat} {ps : Array Tmp} {a b : Code} {ks : List Nat} (hc : c = sRf o nt ps a b ks) {x : Ex} {kn kr : K} {ke : Nat → K} {t : Tm} {m : M} {Q : Option Out → Prop} {g : Nat} {u v : List Value} (ho : o t = .func (.func g) ⟨u⟩ ⟨v⟩)
  {r : Value} {m1 : M} (hf : x.f g (u ++ [.func (.yield m.n) #[] #[]] ++ v) (m.alloc (.loop 0 (zM ks t) nt ps a b none)) = some (r, m1)) {st : Nat} {t' : Tm} {pend : Option E} (hl : m1.obj m.n = some (.loop st t' nt ps a b pend)) (hst : st ≠ 1)
  (hq : Q (fZ kn ke kr pend t (m1.put m.n (.loop 3 t' nt ps a b pend)))) : Q (c x kn ke kr t m) := by
 have e : c x kn ke kr t m = fZ kn ke kr pend t (m1.put m.n (.loop 3 t' nt ps a b pend)) := by
  rw [hc, sRf_ap, ho, vFn_f, Qv, Db]
  show obp (x.f g (u ++ [.func (.yield m.n) #[] #[]] ++ v) _) _ = _
  rw [hf, Qv]
  show (match m1.obj m.n with | some (.loop st t' nt ps a b pend) => bif Nat.beq st 1 then none else fZ kn ke kr pend t (m1.put m.n (.loop 3 t' nt ps a b pend)) | _ => none) = _
  rw [hl]
  show (bif Nat.beq st 1 then none else _) = _
  have : Nat.beq st 1 = false := by
   cases q : Nat.beq st 1 with
   | false => rfl
   | true => exact absurd (qa9 q) hst
  rw [this]; rfl
 rw [e]; exact hq
def Rnd (P : Option E → M → Prop) : Option Out → Prop := fun o => ∃ e m, o = some ⟨e, .blank, m⟩ ∧ P e m
theorem kE {P : Option E → M → Prop} {e : Option E} {t : Tm} {m : M} (h : P e m) : Rnd P (kC e t m) := ⟨e, m, rfl, h⟩
theorem xM {P : Program} {n L : Nat} {t : Tm} {nt : Nat} {ps : Array Tmp} {a b : Code} {sa sb : SC} {args : List Value} {t' t'' : Tm} {m : M} {R : Option E → M → Prop} (hobj : m.obj L = some (.loop 0 t nt ps a b none)) (ha : kc P nt a = some sa) (hb : kc P nt b = some sb)
  (hp : vi nt t ps.toList args = some t') (hnt : nt ≤ 512) (hsa : ∀ k : K, sa (ex P n) k noK (fun _ _ => none) t' m = k t'' m)
  (hrun : Rnd (fun e m2 => m2.obj L = some (.loop 1 t nt ps a b none) ∧ R e m2) (sb (ex P n) (kC none) zL (kC (some .ret)) t'' (m.put L (.loop 1 t nt ps a b none)))) :
  ∃ e m2, m2.obj L = some (.loop 1 t nt ps a b none) ∧ R e m2 ∧ (ex P (n + 1)).y L args m = some (Value.bool e.isNone, m2.put L (.loop (match e with | none => 0 | some _ => 2) t nt ps a b e)) := by
 obtain ⟨e, m2, h1, h2, h3⟩ := hrun
 refine ⟨e, m2, h2, h3, ?_⟩
 show JH P (ex P n) L args m = _
 unfold JH
 rw [hobj]
 show ob (kc P nt a) _ = _
 rw [ha, qD, hb, qD, hp, qD, qa4 hnt, cond_true, hsa]
 show ob (gD (ex P n) L sb t'' m) _ = _
 unfold gD
 rw [hobj]
 show ob (sb (ex P n) (kC none) zL (kC (some .ret)) t'' (m.put L (.loop 1 t nt ps a b none))) (y3 L) = _
 rw [h1, qD]
 cases e with
 | none => show (match m2.obj L with | some (.loop _ t nt ps a b _) => some (Value.bool true, m2.put L (.loop 0 t nt ps a b none)) | _ => none) = _; rw [h2]; rfl
 | some e => show (match m2.obj L with | some (.loop _ t nt ps a b _) => some (Value.bool false, m2.put L (.loop 2 t nt ps a b (some e))) | _ => none) = _; rw [h2]; rfl
theorem Rd.lenV {α : Type} {m : M} {v : Value} {e : Nat} {f : α → List Value} {es : List α} (h : Rd m v e f es) : Dx.lenV v = some es.length := by
 have hl := h.len
 cases v with
 | slice a n cp =>
  have : some (Value.int .i64 (Int.ofNat n)) = some (Value.int .i64 (es.length : Int)) := hl
  injection this with this; injection this with _ this
  show some n = _
  rw [Int.ofNat.inj this]
 | _ => cases hl
end
end Go.Dx
namespace Go.Dx
noncomputable section
theorem yN {α : Type} {m : M} (hm : m.base ≤ m.n) {v : Value} {e : Nat} {f : α → List Value} {es : List α} (h : Rd m v e f es) (hf : ∀ x, (f x).length = e) (bytes : Nat) (hb : es.length * bytes ≤ most) (hn : es.length ≤ 4611686018427387904) :
  ∃ v' m', qX (newRow m []) e bytes (.slice (some ⟨m.n, 0, some (code e true)⟩) 0 0) v = some (v', m') ∧ Ext m m' ∧ Rd m' v' e f es ∧ (∀ B, blk v' = some B → m.n ≤ B ∧ Arr m' B (es.flatMap f)) ∧ (es ≠ [] → v' = .slice (some ⟨m.n + 1, 0, some (code e false)⟩) es.length es.length) := by
 have h' := h.sees ((Sees.refl hm).ext (Ext.row m []))
 have e0 : qX (newRow m []) e bytes (.slice (some ⟨m.n, 0, some (code e true)⟩) 0 0) v = yt (newRow m []) e bytes 0 0 es.length (some ⟨m.n, 0, some (code e true)⟩) (es.flatMap f) := by
  show ob (lenV v) _ = _
  rw [h.lenV, qD]
  show ob (wG (newRow m []) e es.length v) _ = _
  rw [h'.all, qD]
 rw [e0]
 unfold yt
 by_cases hz : es = []
 ·subst hz
  refine ⟨_, _, rfl, Ext.row m [], ⟨rfl, fun i r hr => by simp at hr, ?_, fun B hB => by cases hB; show m.n < _; rw [qk]; omega⟩, fun B hB => by cases hB; exact ⟨DZ _, Arr.row m []⟩, fun h => absurd rfl h⟩
  show loads (newRow m []) _ (0 * e) = _
  rw [Nat.zero_mul, (Arr.row m []).loads (by simp)]; rfl
 ·have hpos := qai.2 hz
  have h1 : Nat.ble (0 + es.length) 0 = false := by
   cases q : Nat.ble (0 + es.length) 0 with
   | false => rfl
   | true => have := qa5 q; omega
  rw [h1, cond_false, Nat.zero_add, qa4 hb, qa4 hn]
  show ∃ v' m', ob (wG (newRow m []) e 0 (.slice (some ⟨m.n, 0, some (code e true)⟩) 0 0)) _ = _ ∧ _
  have h2 : wG (newRow m []) e 0 (.slice (some ⟨m.n, 0, some (code e true)⟩) 0 0) = some [] := by
   show loads (newRow m []) _ (0 * e) = _
   rw [Nat.zero_mul, (Arr.row m []).loads (by simp)]; rfl
  rw [h2]
  have hx : xB (code e true) = true := by
   show Nat.beq ((2 * e + 1) % 2) 1 = true
   rw [show (2 * e + 1) % 2 = 1 by omega]; rfl
  have hg : gM (newRow m []) e es.length (some ⟨m.n, 0, some (code e true)⟩) ([] ++ es.flatMap f) = some (.slice (some ⟨m.n + 1, 0, some (code e false)⟩) es.length es.length, newRow (newRow m []) (es.flatMap f)) := by
   unfold gM
   show ob (some (code e true)) _ = _
   rw [qD, hx, cond_true, qk]; rfl
  have hA : Arr (newRow (newRow m []) (es.flatMap f)) (m.n + 1) (es.flatMap f) := by have := Arr.row (newRow m []) (es.flatMap f); rwa [qk] at this
  refine ⟨_, _, hg, (Ext.row m []).trans (Ext.row _ _), ?_, fun B hB => by cases hB; exact ⟨Nat.le_succ _, hA⟩, fun _ => rfl⟩
  have hG : Grown m (newRow (newRow m []) (es.flatMap f)) (.slice (some ⟨m.n + 1, 0, some (code e false)⟩) es.length es.length) e f es := .inr ⟨m.n + 1, by omega, by rw [qk, qk]; omega, hz, rfl, hA⟩
  exact hG.rd hf
@[simp] theorem eqNV_ap (n : Bool) (q : Value → Option Bool) (h : Bool) (x y : Value) : eqNV n q h x y = ob (eqN q h x y) fun b => some (.bool (bif n then !b else b)) := _root_.id rfl
theorem Kr {v : Value} {n : Int} (h : kG v = some (.int .i64 n)) : eqN Wv true v (.slice none 0 0) = some (match v with | .slice none _ _ => true | _ => false) := by
 cases v with
 | slice a n c => cases a <;> rfl
 | _ => cases h
end
end Go.Dx
namespace Go.Dx
open Go.RowKit Go.WideShapes Go.ChangeShapes
noncomputable section
attribute [local irreducible] A.get A.set HI
def gS (fz : Nat × Nat) : Nat → List Value → C → C
 | _, [], c => c
 | j, v :: l, c => gS fz (j + 1) l (match v with
  | .int k n => if fz.1 ≤ j ∧ j < fz.2 then c else A.set none (some (.int k n)) (j + HI) c
  | _ => c)
def Gy : Obj → zJ
 | .cells cs _ fz => .cells (gS fz 0 cs.toList .lf)
 | _ => .cells .lf
def xN (l : List zJ) (m : M) : M := l.foldl M.alloc m
def snap0 (w : World) : M := xN (w.heap.toList.map Gy) M.empty
def snapM (w : World) : M := qi (snap0 w)
def snapP (w : World) : Phi := fun B => match w.heap[B]? with
 | some (.cells cs _ _) => some ⟨B, HI, cs.size⟩
 | _ => none
theorem yg (fz : Nat × Nat) : ∀ (l : List Value) (j : Nat) (c : C) (i : Nat), A.get none i (gS fz j l c) = if j + HI ≤ i ∧ i < j + HI + l.length then
  (match l[i - HI - j]? with
   | some (.int k n) => if fz.1 ≤ i - HI ∧ i - HI < fz.2 then A.get none i c else some (.int k n)
   | _ => A.get none i c) else A.get none i c
 | [], j, c, i => by
  show A.get none i c = _
  rw [if_neg (by simp)]
 | v :: l, j, c, i => by
  unfold gS
  rw [yg fz l (j + 1)]
  by_cases h1 : i = j + HI
  ·subst h1
   rw [if_neg (by omega), if_pos (by simp), show j + HI - HI - j = 0 by omega, List.getElem?_cons_zero, show j + HI - HI = j by omega]
   cases v with
   | int k n =>
    simp only
    by_cases hz : fz.1 ≤ j ∧ j < fz.2
    ·rw [if_pos hz, if_pos hz]
    ·rw [if_neg hz, if_neg hz, A.get_set_same]
   | _ => rfl
  ·have hc : A.get none i (match v with
     | .int k n => if fz.1 ≤ j ∧ j < fz.2 then c else A.set none (some (.int k n)) (j + HI) c
     | _ => c) = A.get none i c := by
    cases v with
    | int k n =>
     simp only
     split
     ·rfl
     ·rw [A.get_set_ne _ _ h1]
    | _ => rfl
   by_cases h2 : j + 1 + HI ≤ i ∧ i < j + 1 + HI + l.length
   ·rw [if_pos h2, if_pos (by simp; omega), show i - HI - j = (i - HI - (j + 1)) + 1 by omega, List.getElem?_cons_succ, hc]
   ·rw [if_neg h2, if_neg (by simp; omega), hc]
theorem yK : ∀ (l : List zJ) (m : M), (xN l m).n = m.n + l.length ∧ (xN l m).base = m.base ∧ (xN l m).log = m.log ∧ ∀ X, (xN l m).obj X = if m.n ≤ X ∧ X < m.n + l.length then l[X - m.n]? else m.obj X
 | [], m => ⟨rfl, rfl, rfl, fun X => by rw [if_neg (by simp)]; rfl⟩
 | o :: l, m => by
  obtain ⟨h1, h2, h3, h4⟩ := yK l (m.alloc o)
  rw [M.n_alloc] at h1 h4
  refine ⟨by show (xN l (m.alloc o)).n = _; rw [h1]; simp; omega, h2.trans (M.base_alloc _ _), h3.trans (M.log_alloc _ _), fun X => ?_⟩
  show (xN l (m.alloc o)).obj X = _
  rw [h4 X]
  by_cases e : X = m.n
  ·subst e
   rw [if_neg (by omega), if_pos (by simp), M.obj_alloc, if_pos rfl]; simp
  ·by_cases h : m.n + 1 ≤ X ∧ X < m.n + 1 + l.length
   ·rw [if_pos h, if_pos (by simp; omega), show X - m.n = (X - (m.n + 1)) + 1 by omega, List.getElem?_cons_succ]
   ·rw [if_neg h, if_neg (by simp; omega), M.obj_alloc, if_neg e]
theorem snap_facts (w : World) : (snapM w).n = w.heap.size ∧ (snapM w).base = w.heap.size ∧ (snapM w).log = [] ∧ ∀ X, (snapM w).obj X = (w.heap[X]?).map Gy := by
 obtain ⟨h1, h2, h3, h4⟩ := yK (w.heap.toList.map Gy) M.empty
 have hn : M.empty.n = 0 := rfl
 have hn' : (snap0 w).n = w.heap.size := by show (xN _ _).n = _; rw [h1, hn]; simp
 refine ⟨by unfold snapM; rw [qw, hn'], by unfold snapM; rw [ky, hn'], qE _, fun X => ?_⟩
 unfold snapM
 rw [qB]
 show (xN _ _).obj X = _
 rw [h4 X, hn]
 by_cases h : X < w.heap.size
 ·rw [if_pos (by simp; omega)]; simp [h]
 ·rw [if_neg (by simp; omega), Array.getElem?_eq_none (by omega)]
  exact A3.get_lf none X
theorem R.snap (w : World) : R (snapP w) (snapM w) w := by
 obtain ⟨h1, h2, h3, h4⟩ := snap_facts w
 refine ⟨fun B hB => by rw [h4, Array.getElem?_eq_none (by omega)]; rfl, fun B l hB hl => ?_, fun B₁ B₂ l₁ l₂ _ _ hl1 hl2 he hne => ?_⟩
 ·unfold snapP at hl
  split at hl
  ·rename_i cs e fz hx
   cases hl
   have hob : (snapM w).obj B = some (.cells (gS fz 0 cs.toList .lf)) := by rw [h4, hx]; rfl
   refine ⟨.cells (gS fz 0 cs.toList .lf), hob, cs, e, fz, hx, rfl, ⟨fun _ h => absurd h (Nat.lt_irrefl _), fun i v hi => ?_⟩, fun i v hi => ?_⟩
   ·rw [yg] at hi
    split at hi
    ·split at hi
     ·split at hi
      ·rw [A.get_lf] at hi; cases hi
      ·assumption
     ·rw [A.get_lf] at hi; cases hi
    ·rw [A.get_lf] at hi; cases hi
   ·rw [yg] at hi
    split at hi
    ·rename_i hr
     split at hi
     ·rename_i k n hg
      split at hi
      ·rw [A.get_lf] at hi; cases hi
      ·cases hi
       refine ⟨by show HI ≤ i; omega, .int k n, ?_, .int k n⟩
       rw [Nat.sub_zero] at hg
       simpa using hg
     ·rw [A.get_lf] at hi; cases hi
    ·rw [A.get_lf] at hi; cases hi
  ·cases hl
 ·unfold snapP at hl1 hl2
  split at hl1 <;> cases hl1
  split at hl2 <;> cases hl2
  exact absurd he hne
theorem VH {w : World} {b i : Nat} {k : IntKind} {n : Int} (h : w.cell? ⟨b, i, none⟩ = some (.int k n)) (hz : w.frozen? ⟨b, i, none⟩ = false) (s : Option Nat) :
  load1 (snapM w) ⟨b, i + HI, s⟩ = some (.int k n) ∧ b < w.heap.size ∧ ∃ cs e fz, w.heap[b]? = some (.cells cs e fz) ∧ i < cs.size := by
 obtain ⟨h1, h2, h3, h4⟩ := snap_facts w
 unfold World.cell? at h
 split at h
 ·rename_i cs e fz hx
  simp only [Option.isSome_none, Bool.false_eq_true, if_false] at h
  have hi : i < cs.size := (qa0.1 h).1
  refine ⟨?_, (qa0.1 hx).1, cs, e, fz, hx, hi⟩
  have hob : (snapM w).obj b = some (.cells (gS fz 0 cs.toList .lf)) := by rw [h4, hx]; rfl
  have hld : ∀ o, load1 (snapM w) ⟨b, o, s⟩ = A.get none o (gS fz 0 cs.toList .lf) := fun o => by unfold load1 cellsOf; rw [hob]; rfl
  have hg : cs.toList[i]? = some (.int k n) := by simpa using h
  have hzz : ¬ (fz.1 ≤ i ∧ i < fz.2) := by
   simp only [World.frozen?, hx] at hz
   simpa using hz
  rw [hld, yg]
  generalize HI = H
  rw [if_pos (by simp; omega), show i + H - H = i by omega, Nat.sub_zero, hg]
  simp only
  rw [if_neg hzz]
 ·cases h
theorem snap_call {P : Program} {x : Ex} (hx : jG P x) {g : Nat} {args : List Value} {w : World} {b : Bool} (h : CallV x g args (snapM w) (.bool b)) (args' : Array Value) (ha : VRels (snapP w) args args'.toList) :
  Calls P g args' w fun e w' => e = .returned (.bool b) ∧ Below w.heap.size w w' := by
 obtain ⟨h1, h2, h3, h4⟩ := snap_facts w
 obtain ⟨v, m', e, hE, rfl⟩ := h
 obtain ⟨_, _, hc⟩ := hx.f _ _ _ _ _ e
 refine (hc (snapP w) w args' (R.snap w) ha (fun B hB _ => ?_)).mono ?_
 ·unfold snapP; rw [h1] at hB; rw [Array.getElem?_eq_none (by omega)]
 ·rintro e w' ⟨φ', v', rfl, _, hs, hr⟩
  refine ⟨by rw [hr.bool_inv], hs.os, hs.tape, hs.output, hs.size, fun k hk => hs.frame k hk fun B l hl hb ht => ?_⟩
  obtain ⟨q1, q2, _⟩ := ht
  have hB : B < w.heap.size := by rw [← h1]; exact q1
  rcases q2 with q | q
  ·rw [hE.base, h2] at q; omega
  ·rw [hE.log, h3] at q; cases q
theorem KC {m : M} {B : Nat} {s : Option Nat} : ∀ (l : List Value) (o : Nat), l ≠ [] → (∀ j, j < l.length → load1 m ⟨B, o + j, s⟩ = l[j]?) → loads m ⟨B, o, s⟩ l.length = some l := by
 intro l o hne h
 have h0 := h 0 (qai.2 hne)
 unfold load1 at h0
 cases hc : cellsOf m B with
 | none =>
  simp only [hc] at h0
  have : l[0]? = none := h0.symm
  rw [List.getElem?_eq_none_iff] at this
  exact absurd (List.length_eq_zero_iff.1 (by omega)) hne
 | some c =>
  have hg : ∀ j, j < l.length → A.get none (o + j) c = l[j]? := fun j hj => by
   have := h j hj
   unfold load1 at this
   simp only [hc] at this
   exact this
  unfold loads
  simp only [hc]
  show ldn c o l.length = some l
  have key : ∀ (l : List Value) (o : Nat), (∀ j, j < l.length → A.get none (o + j) c = l[j]?) → ldn c o l.length = some l := by
   intro l
   induction l with
   | nil => intro o _; rfl
   | cons x l ih =>
    intro o hg
    rw [List.length_cons, jS]
    have h0 := hg 0 (by simp)
    rw [Nat.add_zero] at h0
    rw [h0, ih (o + 1) (fun j hj => by have := hg (j + 1) (by simp; omega); rw [show o + (j + 1) = o + 1 + j by omega] at this; rw [this, List.getElem?_cons_succ])]
    rfl
  exact key l o hg
section
variable {H : Type} {enc : TypeId × Value → H} {P : Program} {w : World}
theorem arg_slice {α : Type} [Inhabited α] {t e : TypeId} {sz : Nat} {f : α → List Value} {held : Bool} (ht : P.underlying t = some (.slice e)) (hC : P.cellsOf e = sz) (hpos : 0 < sz) (hrow : ∀ n cs y, DataW.trod enc P w 0 (fun _ => true) held n e cs = some y → ∃ x : α, cs = f x)
  (hint : ∀ x, (f x).length = sz ∧ ∀ v ∈ f x, ∃ k n, v = .int k n) {v : Value} {y : DataW H × List MemPlace} {fuel : Nat} (hf : DataW.trod enc P w 0 (fun _ => true) held fuel t [v] = some y)
  (hsp : ∀ a l c, v = .slice (some a) l c → a.spot = none ∧ ∃ cs e fz, w.heap[a.block]? = some (.cells cs e fz)) (hz : ∀ b off, MemPlace.cell b off ∈ y.2 → w.frozen? ⟨b, off, none⟩ = false) :
  ∃ av es, VRel (snapP w) av v ∧ Rd (snapM w) av sz f es ∧ ((es = [] ∨ ∃ elems spare, y.1 = .slice elems spare ∧ elems.length = es.length) ∧ Sp sz av) := by
 rcases DataW.trod_slice ht hf with ⟨hv, hy⟩ | ⟨a, len, cap, elems, rest, n, _, hv, hy, _, hlc, _, hel, hE, hR, _⟩
 ·cases hv
  exact ⟨.slice none 0 0, [], .slN, ⟨rfl, fun i r hr => by simp at hr, rfl, fun B hB => by cases hB⟩, .inl rfl, .inl rfl⟩
 ·cases hv
  obtain ⟨hs0, cs0, e0, fz0, hh⟩ := hsp a len cap rfl
  obtain ⟨b, off, spot⟩ := a
  simp only at hs0 hh
  subst hs0
  obtain ⟨hrl, hR⟩ := hR rfl
  subst hy
  have hblt : b < w.heap.size := (qa0.1 hh).1
  have hφ : snapP w b = some ⟨b, HI, cs0.size⟩ := by unfold snapP; rw [hh]
  have hex : ∀ i, i < cap → ∃ x : α, ∀ j, j < sz → w.cell? ⟨b, off + (i * sz + j), none⟩ = (f x)[j]? := fun i hi => by
   have key : ∃ z, (w.cells? 0 ((⟨b, off, none⟩ : Addr).add (i * P.cellsOf e)) (P.cellsOf e)).bind (DataW.trod enc P w 0 (fun _ => true) held n e) = some z := by
    by_cases h : i < len
    ·exact ⟨_, (hE i h).trans (DW (by omega))⟩
    ·have := hR (i - len) (by omega)
     rw [show len + (i - len) = i by omega] at this
     exact ⟨_, this.trans (DW (by omega))⟩
   obtain ⟨z, hz'⟩ := key
   rw [Option.bind_eq_some_iff] at hz'
   obtain ⟨cs, hcs, hz'⟩ := hz'
   obtain ⟨x, rfl⟩ := hrow _ _ _ hz'
   obtain ⟨_, hl, hcell⟩ := World.cells?_some hcs
   refine ⟨x, fun j hj => ?_⟩
   have := hcell j (by rw [hC]; exact hj)
   rw [← this, hC, add_plain, add_plain, Nat.add_assoc]
  obtain ⟨X, hX⟩ : ∃ X : Nat → α, ∀ i, i < cap → ∀ j, j < sz → w.cell? ⟨b, off + (i * sz + j), none⟩ = (f (X i))[j]? := by
   have hex' : ∀ i, ∃ x : α, i < cap → ∀ j, j < sz → w.cell? ⟨b, off + (i * sz + j), none⟩ = (f x)[j]? := fun i => by
    by_cases h : i < cap
    ·obtain ⟨x, hx⟩ := hex i h; exact ⟨x, fun _ => hx⟩
    ·exact ⟨default, fun h' => absurd h' h⟩
   exact ⟨fun i => (hex' i).choose, fun i hi => (hex' i).choose_spec hi⟩
  have hfz : ∀ i j, i < cap → j < sz → w.frozen? ⟨b, off + (i * sz + j), none⟩ = false := fun i j hi hj => by
   refine hz b _ (List.mem_append_left _ ?_)
   unfold MemPlace.row
   refine List.mem_map.2 ⟨i * sz + j, ?_, rfl⟩
   rw [List.mem_range, hel, hrl, hC, show len + (cap - len) = cap by omega]
   have := qag sz (Nat.succ_le_of_lt hi)
   rw [Nat.succ_mul] at this
   omega
  have hcell : ∀ i j, i < cap → j < sz → ∀ s, load1 (snapM w) ⟨b, off + HI + (i * sz + j), s⟩ = (f (X i))[j]? ∧ off + (i * sz + j) < cs0.size := fun i j hi hj s => by
   have h1 := hX i hi j hj
   have hjl : j < (f (X i)).length := by rw [(hint _).1]; exact hj
   obtain ⟨k, q, hkq⟩ := (hint (X i)).2 _ (List.getElem_mem hjl)
   rw [DW hjl, hkq] at h1
   obtain ⟨g1, _, cs, e', fz, g2, g3⟩ := VH h1 (hfz i j hi hj) s
   rw [hh] at g2; cases g2
   refine ⟨?_, g3⟩
   rw [DW hjl, hkq, ← g1]
   congr 2
   omega
  refine ⟨.slice (some ⟨b, off + HI, some (code sz true)⟩) len cap, (List.range len).map X, ?_, ⟨by simp [kG], fun i r hr => ?_, ?_, fun B hB => by cases hB; show b < _; rw [(snap_facts w).1]; exact hblt⟩, ?_, .inr ⟨b, off + HI, len, cap, true, rfl, hlc⟩⟩
  ·by_cases h0 : 0 < cap
   ·refine .sl b off (code sz true) len cap cap ⟨b, HI, cs0.size⟩ hφ hlc (DZ _) (fun _ => rfl) ?_
    have hcd : code sz true / 2 = sz := by show (2 * sz + 1) / 2 = sz; omega
    rw [hcd]
    have := (hcell (cap - 1) (sz - 1) (by omega) (by omega) none).2
    have h2 : (cap - 1) * sz + (sz - 1) + 1 = cap * sz := by
     obtain ⟨c, rfl⟩ : ∃ c, cap = c + 1 := ⟨cap - 1, by omega⟩
     rw [Nat.add_sub_cancel, Nat.succ_mul]; omega
    show off + cap * sz ≤ cs0.size
    omega
   ·have hc0 : cap = 0 := by omega
    have hl0 : len = 0 := by omega
    subst hc0; subst hl0
    exact .slE b _ _ _ ⟨b, HI, cs0.size⟩ hφ
  ·rw [qac] at hr
   have hi : i < len := by
    rcases Nat.lt_or_ge i len with h | h
    ·exact h
    ·rw [qah (l := List.range len) (by simpa using h)] at hr; cases hr
   rw [List.getElem?_range hi] at hr
   cases hr
   refine ⟨?_, by show b < _; rw [(snap_facts w).1]; exact hblt, ?_⟩
   ·show (bif Nat.blt i len then fK (i * sz) _ else none) = _
    rw [show Nat.blt i len = true from qa4 hi]; rfl
   ·show loads (snapM w) ⟨b, off + HI + i * sz, none⟩ sz = _
    have := KC (m := snapM w) (B := b) (s := none) (f (X i)) (off + HI + i * sz) (fun h => by have := (hint (X i)).1; rw [h] at this; simp at this; omega) (fun j hj => by
     rw [(hint (X i)).1] at hj
     have := (hcell i j (by omega) hj none).1
     rw [← this, Nat.add_assoc])
    rw [(hint (X i)).1] at this
    exact this
  ·show loads (snapM w) ⟨b, off + HI, some (code sz true)⟩ (((List.range len).map X).length * sz) = _
   have hfl := wi (f := f) (fun x => (hint x).1) ((List.range len).map X)
   by_cases h0 : len = 0
   ·subst h0
    obtain ⟨c, hc⟩ : ∃ c, (snapM w).obj b = some (.cells c) := ⟨_, by rw [(snap_facts w).2.2.2, hh]; rfl⟩
    rw [List.range_zero, List.map_nil, List.length_nil, Nat.zero_mul]
    unfold loads cellsOf
    simp only [hc]
    rfl
   ·have := KC (m := snapM w) (B := b) (s := some (code sz true)) (((List.range len).map X).flatMap f) (off + HI) (fun h => by
     have h1 := hfl
     rw [h, List.length_map, List.length_range, List.length_nil] at h1
     have := Nat.mul_pos (show 0 < len by omega) hpos
     omega) (fun q hq => by
     rw [hfl] at hq
     rw [List.length_map, List.length_range] at hq
     have hdiv : q / sz < len := by rw [Nat.div_lt_iff_lt_mul hpos]; exact hq
     have hmod := Nat.mod_lt q hpos
     have hdm := Nat.div_add_mod q sz
     have h1 := (hcell (q / sz) (q % sz) (by omega) hmod (some (code sz true))).1
     rw [show q / sz * sz + q % sz = q by rw [Nat.mul_comm]; exact hdm] at h1
     rw [h1]
     have h2 := zv (f := f) (fun x => (hint x).1) ((List.range len).map X) (q / sz) (X (q / sz)) (by rw [qac, List.getElem?_range hdiv]; rfl)
     rw [← h2, List.getElem?_take, if_pos hmod, List.getElem?_drop]
     congr 1
     rw [Nat.mul_comm]; exact hdm)
    rw [hfl] at this
    exact this
  ·by_cases h0 : len = 0
   ·subst h0; exact .inl rfl
   ·exact .inr ⟨_, _, rfl, by simp [hel]⟩
end
end
end Go.Dx
namespace Go.Dx
open Go.RowKit Go.WideShapes Go.ChangeShapes
theorem slice_lies {P : Program} {w : World} {r : Reach} {b0 : Nat} {u e : TypeId} {a : Addr} {l c : Nat} (hu : P.underlying u = some (.slice e)) (h : Cell.okWide P w r b0 u (.slice (some a) l c)) : a.spot = none ∧ ∃ cs e fz, w.heap[a.block]? = some (.cells cs e fz) := by
 simp only [Cell.okWide, hu, Cell.ok] at h
 obtain ⟨_, _, _, h2, row, cells, h3, _⟩ := h
 refine ⟨h2, ?_⟩
 unfold World.shape? at h3
 split at h3
 ·exact ⟨_, _, _, by assumption⟩
 ·cases h3
theorem weigh_agg2 {H : Type} {P : Program} {t t0 t1 : TypeId} {fs : Array Field} {d0 d1 : DataW H} {ts : List TypeId} {ds : List (DataW H)} (hs : P.underlying t = some (.struct fs)) (hf : fs.toList.map (·.type) = [t0, t1])
  (h : (DataW.weightsEach P (t :: ts) (.agg [d0, d1] :: ds)).all (· ≤ reachBytes) = true) : (∀ n ∈ d0.weights P t0, n ≤ reachBytes) ∧ ∀ n ∈ d1.weights P t1, n ≤ reachBytes := by
 have h' := List.all_eq_true.1 h
 have e : DataW.weightsEach P (t :: ts) (.agg [d0, d1] :: ds) = (d0.weights P t0 ++ (d1.weights P t1 ++ [])) ++ DataW.weightsEach P ts ds := by
  simp only [DataW.weightsEach, DataW.weights, hs, hf]
 rw [e] at h'
 exact ⟨fun n hn => by simpa using h' n (by simp [hn]), fun n hn => by simpa using h' n (by simp [hn])⟩
end Go.Dx
namespace Go.Sx
open Go.Dx
noncomputable section
abbrev mv (d s : Nat) : IS := ip d (qn (tg s))
abbrev mc (d : Nat) (v : Value) : IS := ip d (qn (cv v))
abbrev fa (d o s : Nat) : IS := ip d (qe o (tg s))
abbrev ia (d e x i : Nat) : IS := ip d (qh e (tg x) (tg i))
abbrev l1 (d s : Nat) : IS := il d (tg s) (qc (tg s))
abbrev ln (d n s : Nat) : IS := il d (tg s) (qP n (tg s))
abbrev bt (d : Nat) (o : BinOp) (a b : Nat) : IS := ip d (kg o (tg a) (tg b))
abbrev bv (d : Nat) (o : BinOp) (a : Nat) (v : Value) : IS := ip d (kg o (tg a) (cv v))
abbrev sto (n a b : Nat) : IS := im0 3 (qF n (tg a) (tg b))
abbrev lne (d s : Nat) : IS := ip d (vN (tg s))
abbrev pkt (d a b : Nat) : IS := ip d (kY (tg a) (cv (.bool true)) (tg b))
abbrev pkf (d a b : Nat) : IS := ip d (kY (tg a) (tg b) (cv (.bool false)))
abbrev gf (g d : Nat) (s : IS) : IS := gd g false (some d) s
abbrev gt (g d : Nat) (s : IS) : IS := gd g true (some d) s
abbrev xt (d s i : Nat) : IS := ip d (jU (tg s) i)
abbrev rg (l : List IS) : SC := sReg (dz l)
end
end Go.Sx
