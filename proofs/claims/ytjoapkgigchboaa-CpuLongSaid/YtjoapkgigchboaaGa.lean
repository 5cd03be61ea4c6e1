/- Rules for steps through compiled code. -/
import Derived.Test.YtjoapkgigchboaaEc
import Derived.Test.YtjoapkgigchboaaEd
import Derived.ChangeSame
import Derived.ProofKit
import Derived.Carry
set_option linter.unusedVariables false
set_option linter.unusedSimpArgs false
set_option linter.defProp false
namespace Go.Dx
open Go.RowKit
noncomputable section
def buildV (zs : List Value) (ps : List (Nat × Nat × Value)) : Option Value := ob (fillL ps zs) fun l => some (.agg ⟨l⟩)
def eqNV (neg : Bool) (k : Value → Option Bool) (both : Bool) (x y : Value) : Option Value := ob (eqN k both x y) fun b => some (.bool (bif neg then !b else b))
def convIV (k : IntKind) (x : Value) : Option Value := obp (vInt x) fun _ n => some (.int k (wrapF k n))
def faddrV (off : Nat) (x : Value) : Option Value := ob (vPtr x) (addA off)
def fieldV (agg : Bool) (off n : Nat) (x : Value) : Option Value := ob (vAgg x) fun cs => aggOr agg ((cs.drop off).take n)
def iaddrAV (len esz : Nat) (x i : Value) : Option Value := ob (vNat i) fun n => ob (vPtr x) fun a => bif Nat.blt n len then addA (n * esz) a else none
def iaddrSV (esz : Nat) (x i : Value) : Option Value := ob (vNat i) fun n => obp (vSl x) fun a len => bif Nat.blt n len then addA (n * esz) a else none
def sidxV (x i : Value) : Option Value := ob (vNat i) fun n => ob (vStr x) fun s => ob (s[n]?) fun b => some (byteV b)
def boxS (o : Value) (m : M) : Option (Value × M) := ob (cellsV o) fun l => some (.pointer (some ⟨m.n, 0, none⟩), newRow m l)
def bsliceS (esz len : Nat) (zs : List Value) (ps : List (Nat × Nat × Value)) (m : M) : Option (Value × M) :=
  ob (fillL ps zs) fun l => some (.slice (some ⟨m.n, 0, some (code esz true)⟩) len len, newRow m l)
def load1S (o : Value) (m : M) : Option (Value × M) := ob (vPtr o) fun a => ob (load1 m a) (retM m)
def loadNS (n : Nat) (o : Value) (m : M) : Option (Value × M) := ob (vPtr o) fun a => ob (loads m a n) fun l => some (.agg ⟨l⟩, m)
def storeS (n : Nat) (o v : Value) (m : M) : Option (Value × M) :=
  ob (vPtr o) fun a => ob (cellsV v) fun l => bif Nat.beq l.length n then ob (stores m a l) fun m' => some (undef, m') else none
def anyL (x : Ex) (l : List DA) (k : List (Nat × FP) → K) : List (Nat × FP) → K := List.rec k (fun i _ ih => any1 x i ih) l
inductive RS where
  | v (x : Value)
  | one (x : Value)
  | cell (x : Value) (n : Nat)
inductive BT where
  | lf
  | nd (k : Nat) (v : Ex → List Value → M → Option (Value × M)) (l r : BT)
def BT.look (t : BT) : Nat → Ex → List Value → M → Option (Value × M) :=
  BT.rec (fun _ _ _ _ => none) (fun k v _ _ il ir g => bif Nat.beq g k then v else bif Nat.blt g k then il g else ir g) t
def Fits (P : Program) (g : Nat) (v : Ex → List Value → M → Option (Value × M)) : Prop := ∀ x l m r, v x l m = some r → ob (fnOf P g) (callF x l m) = some r
def BT.Fit (P : Program) : BT → Prop
  | .lf => True
  | .nd k v l r => Fits P k v ∧ l.Fit P ∧ r.Fit P
def xstep (P : Program) (t : BT) (x : Ex) : Ex := ⟨fun g => t.look g x, yldF P x⟩
def xs (P : Program) (t : BT) (n : Nat) : Ex := Nat.rec .bot (fun _ ih => xstep P t ih) n
end
end Go.Dx
namespace Go.Dx
open Go.RowKit
noncomputable section
abbrev tg (n : Nat) : V := Tm.get n
def cv (v : Value) : V := fun _ => v
def ip (d : Nat) (p : PO) : IS := runG none (some d) (runI (CI.pure p) (some d))
def il (d : Nat) (a : V) (f : MO) : IS := runG none (some d) (runI (CI.load a f) (some d))
def im (n d : Nat) (f : MO) : IS := runG none (some d) (runI (CI.mem n f) (some d))
def im0 (n : Nat) (f : MO) : IS := runG none none (runI (CI.mem n f) none)
def gd (g : Nat) (b : Bool) (d : Option Nat) (s : IS) : IS := runG (some (g, b)) d s
inductive Tick where
  | tick
  | tock
def tick (_ : Tick) : Prop := True
@[simp] theorem tick_1 : tick .tick = tick .tock := _root_.id rfl
def bifO (c : Bool) (a b : Option Out) : Option Out := cond c a b
@[simp] theorem bif_t (a b : Option Out) : bifO true a b = a := _root_.id rfl
@[simp] theorem bif_f (a b : Option Out) : bifO false a b = b := _root_.id rfl
@[congr] theorem ob_congr {α β : Type} {o o' : Option α} {k : α → Option β} {q : Prop} (h : o = o') (_ : tick .tick = q) : ob o k = ob o' k := by rw [h]
@[congr] theorem obp_congr {α β γ : Type} {o o' : Option (α × β)} {k : α → β → Option γ} {q : Prop} (h : o = o') (_ : tick .tick = q) : obp o k = obp o' k := by rw [h]
@[congr] theorem bif_congr {c c' : Bool} {a b : Option Out} {q : Prop} (h : c = c') (_ : tick .tick = q) : bifO c a b = bifO c' a b := by rw [h]
@[congr] theorem ite_congr1 {c c' : Prop} [Decidable c] [Decidable c'] {a b : Option Out} {q : Prop} (h : c = c') (_ : tick .tick = q) : ite c a b = ite c' a b := by subst h; congr
section
variable (x : Ex) (k kn kr : K) (ke : Nat → K) (t : Tm) (m : M)
@[simp] theorem sSkip_ap : sSkip x kn ke kr t m = kn t m := _root_.id rfl
@[simp] theorem sReg_ap (i : IS) : sReg i x kn ke kr t m = i x kn t m := _root_.id rfl
@[simp] theorem sAny_ap (l : List DA) : sAny l x kn ke kr t m = anyL x l (fun _ => kn) [] t m := _root_.id rfl
@[simp] theorem sExit_ap (id : Nat) : sExit id x kn ke kr t m = ke id t m := _root_.id rfl
@[simp] theorem sRet_ap : sRet x kn ke kr t m = kr t m := _root_.id rfl
@[simp] theorem outOf_ap (id j : Nat) : outOf id kn ke j t m = bifO (Nat.beq j id) (kn t m) (ke j t m) := _root_.id rfl
theorem sLoop_ap' (a : SC) : sLoop a x kn ke kr t m = loopK (fun k => a x k ke kr) 1180591620717411303424 t m := rfl
@[simp] theorem seqI_nil : seqI [] x k t m = k t m := _root_.id rfl
@[simp] theorem seqI_cons (s : IS) (l : List IS) : seqI (s :: l) x k t m = s x (seqI l x k) t m := _root_.id rfl
@[simp] theorem ip_ap (d : Nat) (p : PO) : ip d p x k t m = ob (p t) fun v => k (Tm.set d v t) m := _root_.id rfl
@[simp] theorem il_ap (d : Nat) (a : V) (f : MO) : il d a f x k t m = obp (f x t m) fun v m => k (Tm.set d v t) m := _root_.id rfl
@[simp] theorem im1_ap (d : Nat) (f : MO) : im 1 d f x k t m = obp (f x t m) fun v m => k (Tm.set d v t) m := _root_.id rfl
@[simp] theorem im3_ap (d : Nat) (f : MO) : im 3 d f x k t m = obp (f x t m) fun v m => k (Tm.set d v t) m := _root_.id rfl
@[simp] theorem im03_ap (f : MO) : im0 3 f x k t m = obp (f x t m) fun _ m => k t m := _root_.id rfl
@[simp] theorem gd_ap (g : Nat) (b : Bool) (d : Option Nat) (s : IS) : gd g b d s x k t m = ob (isB b (Tm.get g t)) fun c => bifO c (s x k t m) (k (putD t d undef) m) := _root_.id rfl
@[simp] theorem ob_some' {α β : Type} (a : α) (f : α → Option β) : ob (some a) f = f a := _root_.id rfl
@[simp] theorem obp_some' {α β γ : Type} (a : α) (b : β) (f : α → β → Option γ) : obp (some (a, b)) f = f a b := _root_.id rfl
@[simp] theorem putD_some (d : Nat) (v : Value) : putD t (some d) v = Tm.set d v t := _root_.id rfl
@[simp] theorem putD_none (v : Value) : putD t none v = t := _root_.id rfl
@[simp] theorem get_set (i j : Nat) (v : Value) : Tm.get i (Tm.set j v t) = if i = j then v else Tm.get i t := by
  by_cases h : i = j
  · subst h; rw [if_pos rfl, Tm.get_set_same]
  · rw [if_neg h]
    show (bif Nat.beq i j then v else Tm.get i t) = _
    rw [beq_ne h]; rfl
@[simp] theorem get_blank (i : Nat) : Tm.get i .blank = undef := _root_.id rfl
@[simp] theorem cv_ap (v : Value) : cv v t = v := _root_.id rfl
@[simp] theorem pMov_ap (a : V) : pMov a t = some (a t) := _root_.id rfl
@[simp] theorem pPick_ap (c a b : V) : pPick c a b t = ob (vBool (c t)) fun q => some (bif q then a t else b t) := _root_.id rfl
@[simp] theorem pNilck_ap (a : V) : pNilck a t = nilckV (a t) := _root_.id rfl
@[simp] theorem pBin_ap (op : BinOp) (a b : V) : pBin op a b t = binV op (a t) (b t) := _root_.id rfl
@[simp] theorem pUn_ap (op : UnOp) (a : V) : pUn op a t = unV op (a t) := _root_.id rfl
@[simp] theorem pEqN_ap (n : Bool) (q : Value → Option Bool) (h : Bool) (a b : V) : pEqN n q h a b t = eqNV n q h (a t) (b t) := _root_.id rfl
@[simp] theorem pFaddr_ap (o : Nat) (a : V) : pFaddr o a t = faddrV o (a t) := _root_.id rfl
@[simp] theorem pField_ap (g : Bool) (o n : Nat) (a : V) : pField g o n a t = fieldV g o n (a t) := _root_.id rfl
@[simp] theorem pIaddrS_ap (e : Nat) (a b : V) : pIaddrS e a b t = iaddrSV e (a t) (b t) := _root_.id rfl
@[simp] theorem pIaddrA_ap (n e : Nat) (a b : V) : pIaddrA n e a b t = iaddrAV n e (a t) (b t) := _root_.id rfl
@[simp] theorem pLen_ap (a : V) : pLen a t = lenS (a t) := _root_.id rfl
@[simp] theorem pExtract_ap (a : V) (i : Nat) : pExtract a i t = extractV i (a t) := _root_.id rfl
@[simp] theorem pBuild_ap (zs : List Value) (ps : List (Nat × Nat × V)) : pBuild zs ps t = buildV zs (evP ps t) := _root_.id rfl
@[simp] theorem evP_nil : evP [] t = [] := _root_.id rfl
@[simp] theorem evP_cons (p : Nat × Nat × V) (l : List (Nat × Nat × V)) : evP (p :: l) t = (p.1, p.2.1, p.2.2 t) :: evP l t := _root_.id rfl
@[simp] theorem evs_nil : evs t [] = [] := _root_.id rfl
@[simp] theorem evs_cons (a : V) (l : List V) : evs t (a :: l) = a t :: evs t l := _root_.id rfl
@[simp] theorem mBox_ap (a : V) : mBox a x t m = boxS (a t) m := _root_.id rfl
@[simp] theorem mAlloc_ap (zs : List Value) : mAlloc zs x t m = some (.pointer (some ⟨m.n, 0, none⟩), newRow m zs) := _root_.id rfl
@[simp] theorem mLoad1_ap (a : V) : mLoad1 a x t m = load1S (a t) m := _root_.id rfl
@[simp] theorem mLoadN_ap (n : Nat) (a : V) : mLoadN n a x t m = loadNS n (a t) m := _root_.id rfl
@[simp] theorem mStore_ap (n : Nat) (a b : V) : mStore n a b x t m = storeS n (a t) (b t) m := _root_.id rfl
@[simp] theorem mCall_ap (g : Nat) (l : List V) : mCall g l x t m = x.f g (evs t l) m := _root_.id rfl
@[simp] theorem mAppend_ap (e b : Nat) (a c : V) : mAppend e b a c x t m = appendV m e b (a t) (c t) := _root_.id rfl
@[simp] theorem vBool_b (b : Bool) : vBool (.bool b) = some b := _root_.id rfl
@[simp] theorem isB_t (b : Bool) : isB true (.bool b) = some b := _root_.id rfl
@[simp] theorem isB_u (b : Bool) : isB b undef = some false := _root_.id rfl
@[simp] theorem isB_f (b : Bool) : isB false (.bool b) = some (!b) := _root_.id rfl
@[simp] theorem unV_not (b : Bool) : unV .not (.bool b) = some (.bool (!b)) := _root_.id rfl
theorem binII_same (op : BinOp) (kd : IntKind) (a b : Int) : binII op kd a kd b = binI op kd a b := by unfold binII; rw [Nat.beq_refl]; rfl
theorem binV_int (op : BinOp) (kd : IntKind) (a b : Int) : binV op (.int kd a) (.int kd b) = binI op kd a b := binII_same op kd a b
@[simp] theorem binV_lss (kd : IntKind) (a b : Int) : binV .lss (.int kd a) (.int kd b) = some (.bool (decide (a < b))) := by rw [binV_int]; show some (Value.bool (ltI a b)) = _; rw [ltI_eq]
@[simp] theorem binV_leq (kd : IntKind) (a b : Int) : binV .leq (.int kd a) (.int kd b) = some (.bool (decide (a ≤ b))) := by
  rw [binV_int]; show some (Value.bool (!ltI b a)) = _; rw [ltI_eq, ← decide_not]
  congr 2; exact decide_eq_decide.2 Int.not_lt
@[simp] theorem binV_gtr (kd : IntKind) (a b : Int) : binV .gtr (.int kd a) (.int kd b) = some (.bool (decide (b < a))) := by rw [binV_int]; show some (Value.bool (ltI b a)) = _; rw [ltI_eq]
@[simp] theorem binV_geq (kd : IntKind) (a b : Int) : binV .geq (.int kd a) (.int kd b) = some (.bool (decide (b ≤ a))) := by
  rw [binV_int]; show some (Value.bool (!ltI a b)) = _; rw [ltI_eq, ← decide_not]
  congr 2; exact decide_eq_decide.2 Int.not_lt
@[simp] theorem binV_eql (kd : IntKind) (a b : Int) : binV .eql (.int kd a) (.int kd b) = some (.bool (decide (a = b))) := by
  rw [binV_int]; show some (Value.bool (eqI a b)) = _; rw [eqI_eq]; congr 2
@[simp] theorem binV_neq (kd : IntKind) (a b : Int) : binV .neq (.int kd a) (.int kd b) = some (.bool (!decide (a = b))) := by
  rw [binV_int]; show some (Value.bool (!eqI a b)) = _; rw [eqI_eq]; congr 2
@[simp] theorem binV_add (kd : IntKind) (a b : Int) : binV .add (.int kd a) (.int kd b) = some (.int kd (kd.wrap (a + b))) := by rw [binV_int]; show some (Value.int kd (wrapF kd (a + b))) = _; rw [wrapF_eq]
@[simp] theorem binV_sub (kd : IntKind) (a b : Int) : binV .sub (.int kd a) (.int kd b) = some (.int kd (kd.wrap (a - b))) := by rw [binV_int]; show some (Value.int kd (wrapF kd (a - b))) = _; rw [wrapF_eq]
@[simp] theorem load1S_ptr (a : Addr) : load1S (.pointer (some a)) m = ob (load1 m a) (retM m) := _root_.id rfl
@[simp] theorem faddrV_ptr (o : Nat) (a : Addr) : faddrV o (.pointer (some a)) = some (.pointer (some ⟨a.block, a.off + o, none⟩)) := _root_.id rfl
@[simp] theorem retM_ap (v : Value) : retM m v = some (v, m) := _root_.id rfl
theorem load1_row (l : List Value) (o : Nat) : load1 (newRow m l) ⟨m.n, o, none⟩ = l[o]? := by
  unfold load1 cellsOf newRow
  simp only [M.obj_alloc, if_true]
  show A.get none o (mkn .lf 0 l) = l[o]?
  rw [mkn_get, A.get_lf]
  split
  · simp
  · rename_i h; simp at h; simp [h]
end
structure Ext (m m' : M) : Prop where
  n : m.n ≤ m'.n
  obj : ∀ B, B < m.n → m'.obj B = m.obj B
  base : m'.base = m.base
  log : m'.log = m.log
theorem Ext.refl (m : M) : Ext m m := ⟨Nat.le_refl _, fun _ _ => rfl, rfl, rfl⟩
theorem Ext.trans {a b c : M} (h : Ext a b) (k : Ext b c) : Ext a c := ⟨Nat.le_trans h.n k.n, fun B hB => (k.obj B (Nat.lt_of_lt_of_le hB h.n)).trans (h.obj B hB), k.base.trans h.base, k.log.trans h.log⟩
theorem Ext.row (m : M) (l : List Value) : Ext m (newRow m l) := ⟨by unfold newRow; rw [M.n_alloc]; omega, fun B hB => by unfold newRow; rw [M.obj_alloc, if_neg (by omega)], M.base_alloc _ _, M.log_alloc _ _⟩
theorem ex_f {P : Program} {g : Nat} {d : DFn} (hd : fnOf P g = some d) (n : Nat) (args : List Value) (m : M) : (ex P (n + 1)).f g args m = callF (ex P n) args m d := by
  show ob (fnOf P g) (callF (ex P n) args m) = _
  rw [hd]; rfl
theorem callF_ap (x : Ex) (args : List Value) (m : M) (c : SC) (nt : Nat) (res : List RV) (h : args.length ≤ nt) : callF x args m ⟨c, nt, res⟩ = ob (c x (resK res) noK (resK res) (initT .blank 0 args) m) outV := by
  show (bif Nat.ble args.length nt then ob (c x (resK res) noK (resK res) (initT .blank 0 args) m) outV else none) = _
  rw [Nat.ble_eq_true_of_le h]; rfl
@[simp] theorem initT_nil (t : Tm) (i : Nat) : initT t i [] = t := _root_.id rfl
@[simp] theorem initT_cons (t : Tm) (i : Nat) (v : Value) (l : List Value) : initT t i (v :: l) = initT (Tm.set i v t) (i + 1) l := _root_.id rfl
theorem resK_ap (res : List RV) (t : Tm) (m : M) : resK res t m = ob (resV t m res) fun l => fin (tupV l) m := _root_.id rfl
@[simp] theorem fin_out (v : Value) (m : M) : ob (fin v m) outV = some (v, m) := by
  show some (Tm.get 0 (Tm.set 0 v .blank), m) = _
  rw [Tm.get_set_same]
theorem wrap64 (n : Int) (h1 : -9223372036854775808 ≤ n) (h2 : n ≤ 9223372036854775807) : IntKind.i64.wrap n = n := by rw [IntKind.wrap_i64]; omega
structure Sl (m : M) (v : Value) (e : Nat) (rows : List (List Value)) : Prop where
  len : lenS v = some (.int .i64 rows.length)
  row : ∀ (i : Nat) (r : List Value), rows[i]? = some r → ∃ B o, B < m.n ∧ iaddrSV e v (.int .i64 i) = some (.pointer (some ⟨B, o, none⟩)) ∧ loads m ⟨B, o, none⟩ e = some r
theorem loads_ext {m m' : M} (h : Ext m m') {B o n : Nat} (hB : B < m.n) : loads m' ⟨B, o, none⟩ n = loads m ⟨B, o, none⟩ n := by
  unfold loads cellsOf; rw [h.obj B hB]
theorem Sl.ext {m m' : M} (h : Ext m m') {v : Value} {e : Nat} {rows : List (List Value)} (hs : Sl m v e rows) : Sl m' v e rows :=
  ⟨hs.len, fun i r hr => let ⟨B, o, h1, h2, h3⟩ := hs.row i r hr; ⟨B, o, Nat.lt_of_lt_of_le h1 h.n, h2, by rw [loads_ext h h1]; exact h3⟩⟩
theorem loadNS_ptr (n : Nat) (a : Addr) (m : M) : loadNS n (.pointer (some a)) m = ob (loads m a n) fun l => some (.agg ⟨l⟩, m) := rfl
end
end Go.Dx
namespace Go.Dx
noncomputable section
section
variable (x : Ex) (k : List (Nat × FP) → K) (fps : List (Nat × FP)) (t : Tm) (m : M)
@[simp] theorem anyL_nil : anyL x [] k = k := _root_.id rfl
@[simp] theorem anyL_cons (i : DA) (l : List DA) : anyL x (i :: l) k fps t m = any1 x i (anyL x l k) fps t m := _root_.id rfl
@[simp] theorem any1_none (ci : CI) (d : Option Nat) (ix : Nat) (inc : List Nat) : any1 x ⟨ci, d, none, ix, inc⟩ k fps t m = anyR x ⟨ci, d, none, ix, inc⟩ k fps t m := _root_.id rfl
@[simp] theorem any1_some (ci : CI) (d : Option Nat) (g : Nat) (b : Bool) (ix : Nat) (inc : List Nat) : any1 x ⟨ci, d, some (g, b), ix, inc⟩ k fps t m = ob (isB b (Tm.get g t)) fun c => bifO c (anyR x ⟨ci, d, some (g, b), ix, inc⟩ k fps t m) (k fps (putD t d undef) m) := _root_.id rfl
@[simp] theorem anyR_pure (p : PO) (d : Option Nat) (g : Option (Nat × Bool)) (ix : Nat) (inc : List Nat) : anyR x ⟨.pure p, d, g, ix, inc⟩ k fps t m = ob (p t) fun v => k fps (putD t d v) m := _root_.id rfl
@[simp] theorem anyR_mem1 (f : MO) (d : Option Nat) (g : Option (Nat × Bool)) (ix : Nat) (inc : List Nat) : anyR x ⟨.mem 1 f, d, g, ix, inc⟩ k fps t m = obp (f x t m) fun v m' => k fps (putD t d v) m' := _root_.id rfl
@[simp] theorem anyR_load (o : V) (f : MO) (d : Option Nat) (g : Option (Nat × Bool)) (ix : Nat) (inc : List Nat) : anyR x ⟨.load o f, d, g, ix, inc⟩ k fps t m = obp (f x t m) fun v m' =>
  bifO (meets fps ⟨ob (vPtr (o t)) fun a => some a.block, []⟩ inc) (k ((ix, ⟨ob (vPtr (o t)) fun a => some a.block, []⟩) :: fps) (putD t d v) m') none := _root_.id rfl
@[simp] theorem anyR_mem3 (f : MO) (d : Option Nat) (g : Option (Nat × Bool)) (ix : Nat) (inc : List Nat) : anyR x ⟨.mem 3 f, d, g, ix, inc⟩ k fps t m = obp (f x t (forAny m)) fun v m' =>
  bifO (meets fps ⟨none, m'.log⟩ inc) (k ((ix, ⟨none, m'.log⟩) :: fps) (putD t d v) (behind m m')) none := _root_.id rfl
@[simp] theorem vPtr_ptr (a : Addr) : vPtr (.pointer (some a)) = some a := _root_.id rfl
end
def quiet : List (Nat × FP) → Prop
  | [] => True
  | p :: l => p.2.wr = [] ∧ quiet l
attribute [simp] forAny_n forAny_log forAny_obj
theorem Ext.behind {m m' : M} (h : Ext (forAny m) m') : Ext m (behind m m') := by
  have hl := h.log
  cases m with | mk h0 nx bs wl =>
  cases m' with | mk h1 nx1 bs1 wl1 =>
  have e : wl1 = [] := hl
  subst e
  exact ⟨h.n, h.obj, rfl, rfl⟩
end
end Go.Dx
namespace Go.Dx
noncomputable section
structure Sees (m0 m : M) : Prop where
  n : m0.n ≤ m.n
  obj : ∀ B, B < m0.n → m.obj B = m0.obj B
  base : m.base ≤ m.n
theorem Sees.refl {m : M} (h : m.base ≤ m.n) : Sees m m := ⟨Nat.le_refl _, fun _ _ => rfl, h⟩
theorem Sees.self {a b : M} (h : Sees a b) : Sees b b := .refl h.base
theorem Sees.ext {a b c : M} (h : Sees a b) (k : Ext b c) : Sees a c := ⟨Nat.le_trans h.n k.n, fun B hB => (k.obj B (Nat.lt_of_lt_of_le hB h.n)).trans (h.obj B hB), by rw [k.base]; exact Nat.le_trans h.base k.n⟩
theorem Sees.trans {a b c : M} (h : Sees a b) (k : Sees b c) : Sees a c := ⟨Nat.le_trans h.n k.n, fun B hB => (k.obj B (Nat.lt_of_lt_of_le hB h.n)).trans (h.obj B hB), k.base⟩
@[simp] theorem newRow_n (m : M) (l : List Value) : (newRow m l).n = m.n + 1 := M.n_alloc _ _
attribute [simp] Ext.refl
def Call (x : Ex) (g : Nat) (args : List Value) (m : M) (P : Value → M → Prop) : Prop := ∃ v m', x.f g args m = some (v, m') ∧ Ext m m' ∧ P v m'
def resOf (x : Ex) (g : Nat) (args : List Value) (m : M) : Value := match x.f g args m with
  | some (v, _) => v
  | none => undef
def aft (x : Ex) (g : Nat) (args : List Value) (m : M) : M := match x.f g args m with
  | some (_, m') => m'
  | none => m
section
variable {x : Ex} {g : Nat} {args : List Value} {m m0 : M} {P : Value → M → Prop} {v : Value}
theorem Call.all (h : Call x g args m P) : x.f g args m = some (resOf x g args m, aft x g args m) ∧ Ext m (aft x g args m) ∧ P (resOf x g args m) (aft x g args m) := by
  obtain ⟨v, m', e, h1, h2⟩ := h
  unfold resOf aft; rw [e]; exact ⟨rfl, h1, h2⟩
abbrev CallV (x : Ex) (g : Nat) (args : List Value) (m : M) (v : Value) : Prop := Call x g args m fun u _ => u = v
theorem Call.mono {Q : Value → M → Prop} (h : Call x g args m P) (k : ∀ v m', Ext m m' → P v m' → Q v m') : Call x g args m Q := let ⟨v, m', e, h1, h2⟩ := h; ⟨v, m', e, h1, k _ _ h1 h2⟩
theorem CallV.of {m' : M} (h : x.f g args m = some (v, m')) (e : Ext m m') : CallV x g args m v := ⟨v, m', h, e, rfl⟩
end
def Ret (m0 : M) (P : Value → M → Prop) : Option Out → Prop := fun o => ∃ v m', ob o outV = some (v, m') ∧ Ext m0 m' ∧ P v m'
theorem call_ret {P : Program} {g : Nat} {c : SC} {nt : Nat} {res : List RV} {n : Nat} {args : List Value} {m : M} {Q : Value → M → Prop} (hd : fnOf P g = some ⟨c, nt, res⟩) (ha : args.length ≤ nt)
    (h : Ret m Q (c (ex P n) (resK res) noK (resK res) (initT .blank 0 args) m)) : Call (ex P (n + 1)) g args m Q := by
  obtain ⟨v, m', e, h1, h2⟩ := h
  exact ⟨v, m', by rw [ex_f hd, callF_ap _ _ _ _ _ _ ha]; exact e, h1, h2⟩
theorem ret_of {m0 m : M} {Q : Value → M → Prop} {res : List RV} {t : Tm} {l : List Value} (h : resV t m res = some l) (he : Ext m0 m) (hq : Q (tupV l) m) : Ret m0 Q (resK res t m) := by
  refine ⟨tupV l, m, ?_, he, hq⟩
  rw [resK_ap, h, ob_some', fin_out]
theorem ret_0 {m0 m : M} {Q : Value → M → Prop} {t : Tm} (he : Ext m0 m) (hq : Q (tupV []) m) : Ret m0 Q (resK [] t m) := ret_of (l := []) rfl he hq
theorem ret_1 {m0 m : M} {Q : Value → M → Prop} {t : Tm} {p : Nat} (he : Ext m0 m) (hq : Q (Tm.get p t) m) : Ret m0 Q (resK [.t p] t m) := ret_of (l := [_]) rfl he hq
theorem ret_2 {m0 m : M} {Q : Value → M → Prop} {t : Tm} {p q : Nat} (he : Ext m0 m) (hq : Q (.tuple #[Tm.get p t, Tm.get q t]) m) : Ret m0 Q (resK [.t p, .t q] t m) := ret_of (l := [_, _]) rfl he hq
theorem ret_3 {m0 m : M} {Q : Value → M → Prop} {t : Tm} {p q r : Nat} (he : Ext m0 m) (hq : Q (.tuple #[Tm.get p t, Tm.get q t, Tm.get r t]) m) : Ret m0 Q (resK [.t p, .t q, .t r] t m) := ret_of (l := [_, _, _]) rfl he hq
theorem loop_cps {x : Ex} {kn kr : K} {ke : Nat → K} {a : SC} (Q : Option Out → Prop) (I : Nat → Tm → M → Prop) (len : Nat) (hlen : len ≤ 9223372036854775807)
    (round : ∀ i t m (k : K), i ≤ len → I i t m → (i < len → ∀ t' m', I (i + 1) t' m' → Q (k t' m')) → Q (a x k ke kr t m)) {t : Tm} {m : M} (h0 : I 0 t m) : Q (sLoop a x kn ke kr t m) := by
  rw [sLoop_ap']
  have key : ∀ (N i : Nat) (t : Tm) (m : M), len < N + i → i ≤ len → I i t m → Q (loopK (fun k => a x k ke kr) N t m) := by
    intro N
    induction N with
    | zero => intro i t m h1 h2; omega
    | succ N ih =>
      intro i t m h1 h2 hI
      exact round i t m (loopK (fun k => a x k ke kr) N) h2 hI fun hi t' m' h3 => ih (i + 1) t' m' (by omega) (by omega) h3
  exact key _ 0 t m (by omega) (Nat.zero_le _) h0
def adr (e : Nat) (v : Value) (i : Nat) : Addr := match v with
  | .slice (some a) _ _ => ⟨a.block, a.off + i * e, none⟩
  | _ => ⟨0, 0, none⟩
def blk : Value → Option Nat
  | .slice (some a) _ _ => some a.block
  | _ => none
theorem firsts_congr {m m' : M} {e n : Nat} {v : Value} (h : ∀ B, blk v = some B → m'.obj B = m.obj B) : firsts m' e n v = firsts m e n v := by
  cases v with
  | slice a k c =>
    cases a with
    | none => rfl
    | some a =>
      show loads m' a _ = loads m a _
      unfold loads cellsOf; rw [h _ rfl]
  | _ => rfl
structure Rd {α : Type} (m : M) (v : Value) (e : Nat) (f : α → List Value) (es : List α) : Prop where
  len : lenS v = some (.int .i64 es.length)
  row : ∀ (i : Nat) (r : α), es[i]? = some r → iaddrSV e v (.int .i64 i) = some (.pointer (some (adr e v i))) ∧ (adr e v i).block < m.n ∧ loads m (adr e v i) e = some (f r)
  all : firsts m e es.length v = some (es.flatMap f)
  lt : ∀ B, blk v = some B → B < m.n
theorem loads_sees {m m' : M} (h : Sees m m') {B o n : Nat} {s : Option Nat} (hB : B < m.n) : loads m' ⟨B, o, s⟩ n = loads m ⟨B, o, s⟩ n := by
  unfold loads cellsOf; rw [h.obj B hB]
theorem load1_sees {m m' : M} (h : Sees m m') {B o : Nat} {s : Option Nat} (hB : B < m.n) : load1 m' ⟨B, o, s⟩ = load1 m ⟨B, o, s⟩ := by
  unfold load1 cellsOf; rw [h.obj B hB]
theorem load1_of_loads {m : M} {a : Addr} {n : Nat} {l : List Value} (h : loads m a n = some l) {o : Nat} {s : Option Nat} {v : Value} (hv : l[o]? = some v) : load1 m ⟨a.block, a.off + o, s⟩ = some v := by
  unfold loads at h; unfold load1
  cases hc : cellsOf m a.block with
  | none => rw [hc] at h; cases h
  | some c =>
    rw [hc] at h
    exact (ldn_get h).2 o v hv
section
variable {α : Type} {m : M} {v : Value} {e : Nat} {f : α → List Value} {es : List α}
theorem Rd.sees {m' : M} (h : Rd m v e f es) (k : Sees m m') : Rd m' v e f es :=
  ⟨h.len, fun i r hr => let ⟨h1, h2, h3⟩ := h.row i r hr; ⟨h1, Nat.lt_of_lt_of_le h2 k.n, by
    rw [show adr e v i = ⟨(adr e v i).block, (adr e v i).off, (adr e v i).spot⟩ from rfl, loads_sees k h2]; exact h3⟩, by rw [firsts_congr fun B hB => k.obj B (h.lt B hB)]; exact h.all, fun B hB => Nat.lt_of_lt_of_le (h.lt B hB) k.n⟩
theorem Rd.at (h : Rd m v e f es) {i : Nat} {r : α} (hr : es[i]? = some r) :
    iaddrSV e v (.int .i64 i) = some (.pointer (some (adr e v i))) ∧ (∀ m', Sees m m' → loads m' (adr e v i) e = some (f r)) ∧ (∀ m' o s, Sees m m' → o < (f r).length → load1 m' ⟨(adr e v i).block, (adr e v i).off + o, s⟩ = (f r)[o]?) := by
  obtain ⟨h1, h2, h3⟩ := h.row i r hr
  have key : ∀ m', Sees m m' → loads m' (adr e v i) e = some (f r) := fun m' k => by
    rw [show adr e v i = ⟨(adr e v i).block, (adr e v i).off, (adr e v i).spot⟩ from rfl, loads_sees k h2]; exact h3
  exact ⟨h1, key, fun m' o s k ho => by rw [load1_of_loads (key m' k) (List.getElem?_eq_getElem ho), List.getElem?_eq_getElem ho]⟩
theorem Rd.at1 {g : α → Value} (h : Rd m v 1 (fun a => [g a]) es) {i : Nat} {r : α} (hr : es[i]? = some r) :
    iaddrSV 1 v (.int .i64 i) = some (.pointer (some (adr 1 v i))) ∧ ∀ m', Sees m m' → load1 m' (adr 1 v i) = some (g r) := by
  obtain ⟨h1, h2, h3⟩ := h.at hr
  refine ⟨h1, fun m' k => ?_⟩
  have := h3 m' 0 (adr 1 v i).spot k (by simp)
  exact this
end
def Arr (m : M) (B : Nat) (l : List Value) : Prop := ∃ c, m.obj B = some (.cells c) ∧ ∀ i, A.get none i c = l[i]?
theorem Arr.congr {m m' : M} {B : Nat} {l : List Value} (h : Arr m B l) (e : m'.obj B = m.obj B) : Arr m' B l := let ⟨c, h1, h2⟩ := h; ⟨c, e.trans h1, h2⟩
theorem Arr.sees {m m' : M} {B : Nat} {l : List Value} (h : Arr m B l) (k : Sees m m') (hB : B < m.n) : Arr m' B l := h.congr (k.obj B hB)
theorem Arr.ext {m m' : M} {B : Nat} {l : List Value} (h : Arr m B l) (k : Ext m m') (hB : B < m.n) : Arr m' B l := h.congr (k.obj B hB)
theorem Arr.row (m : M) (l : List Value) : Arr (newRow m l) m.n l := by
  refine ⟨mkn .lf 0 l, by unfold newRow; rw [M.obj_alloc, if_pos rfl], fun i => ?_⟩
  rw [mkn_get, A.get_lf]
  split
  · simp
  · rename_i h; simp at h; simp [h]
theorem ldn_of {c : C} {l : List Value} (h : ∀ i, A.get none i c = l[i]?) : ∀ (n o : Nat), o + n ≤ l.length → ldn c o n = some ((l.drop o).take n) := by
  intro n
  induction n with
  | zero => intro o _; simp [ldn_zero]
  | succ n ih =>
    intro o ho
    have : o < l.length := by omega
    rw [ldn_succ, h, List.getElem?_eq_getElem this, ih (o + 1) (by omega), List.drop_eq_getElem_cons this]
    rfl
theorem Arr.loads {m : M} {B : Nat} {l : List Value} (h : Arr m B l) {o n : Nat} {s : Option Nat} (hn : o + n ≤ l.length) : loads m ⟨B, o, s⟩ n = some ((l.drop o).take n) := by
  obtain ⟨c, h1, h2⟩ := h
  unfold Dx.loads cellsOf
  rw [h1]; exact ldn_of h2 n o hn
theorem Arr.load1 {m : M} {B : Nat} {l : List Value} (h : Arr m B l) (o : Nat) (s : Option Nat) : load1 m ⟨B, o, s⟩ = l[o]? := by
  obtain ⟨c, h1, h2⟩ := h
  unfold Dx.load1 cellsOf
  rw [h1]; exact h2 o
def over (l : List Value) (o : Nat) : List Value → List Value
  | [] => l
  | v :: vs => over (l.set o v) (o + 1) vs
theorem over_length : ∀ (vs l : List Value) (o : Nat), (over l o vs).length = l.length
  | [], _, _ => rfl
  | v :: vs, l, o => by unfold over; rw [over_length vs]; simp
theorem stn_of : ∀ {vs l : List Value} {c : C} {o : Nat}, (∀ i, A.get none i c = l[i]?) → o + vs.length ≤ l.length → (∀ v ∈ vs, okC v = true) → ∃ c', stn c o vs = some c' ∧ ∀ i, A.get none i c' = (over l o vs)[i]?
  | [], l, c, o, h, _, _ => ⟨c, rfl, h⟩
  | v :: vs, l, c, o, h, hn, hv => by
    have ho : o < l.length := by simp at hn; omega
    obtain ⟨c', e, h'⟩ := stn_of (vs := vs) (l := l.set o v) (c := A.set none (some v) o c) (o := o + 1) (fun i => by
      by_cases hi : i = o
      · subst hi; rw [A.get_set_same]; simp [ho]
      · rw [A.get_set_ne _ _ hi, h, List.getElem?_set_ne (by omega)]) (by simp at hn ⊢; omega) (fun u hu => hv u (List.mem_cons_of_mem _ hu))
    refine ⟨c', ?_, h'⟩
    show ob (A.get none o c) _ = _
    rw [h, List.getElem?_eq_getElem ho]
    show (bif okC v then _ else none) = _
    rw [hv v (List.mem_cons_self ..)]
    exact e
def putN (m : M) (B o : Nat) (l : List Value) : M := (stores m ⟨B, o, none⟩ l).getD m
theorem stores_putN {m : M} {B o : Nat} {l l0 : List Value} (h : Arr m B l0) (hn : o + l.length ≤ l0.length) (hl : ∀ v ∈ l, okC v = true) :
    stores m ⟨B, o, none⟩ l = some (putN m B o l) ∧ Arr (putN m B o l) B (over l0 o l) ∧ (putN m B o l).n = m.n ∧ (putN m B o l).base = m.base ∧ (∀ X, X ≠ B → (putN m B o l).obj X = m.obj X) ∧ (m.base ≤ B → (putN m B o l).log = m.log) := by
  obtain ⟨c, h1, h2⟩ := h
  cases l with
  | nil => exact ⟨rfl, ⟨c, h1, h2⟩, rfl, rfl, fun _ _ => rfl, fun _ => rfl⟩
  | cons v vs =>
    obtain ⟨c', e, h'⟩ := stn_of h2 hn hl
    have key : stores m ⟨B, o, none⟩ (v :: vs) = some (m.put B (.cells c')) := by
      show ob (oCells (m.obj B)) _ = _
      rw [h1]
      show ob (stn c o (v :: vs)) _ = _
      rw [e]; rfl
    have hp : putN m B o (v :: vs) = m.put B (.cells c') := by unfold putN; rw [key]; rfl
    rw [hp]
    refine ⟨key, ⟨c', by rw [M.obj_put, if_pos rfl], h'⟩, M.n_put _ _ _, M.base_put _ _ _, fun X hX => by rw [M.obj_put, if_neg hX], fun hb => ?_⟩
    cases m with | mk a b bs wl =>
    show note bs B wl = wl
    have h' : Nat.ble bs B = true := Nat.ble_eq_true_of_le hb
    unfold note
    rw [h']; rfl
theorem ext_putN {m a : M} {B o : Nat} {l l0 : List Value} (h : Arr m B l0) (hn : o + l.length ≤ l0.length) (hl : ∀ v ∈ l, okC v = true) (hB : a.n ≤ B) (hb : a.base ≤ a.n) (k : Ext a m) : Ext a (putN m B o l) := by
  obtain ⟨_, _, h1, h2, h3, h4⟩ := stores_putN h hn hl
  exact ⟨by rw [h1]; exact k.n, fun X hX => by rw [h3 X (by omega)]; exact k.obj X hX, by rw [h2, k.base], by rw [h4 (by rw [k.base]; omega), k.log]⟩
theorem storeS_arr {m : M} {B o : Nat} {l0 : List Value} (h : Arr m B l0) {v : Value} {l : List Value} {n : Nat} (hv : cellsV v = some l) (hln : l.length = n) (hn : o + n ≤ l0.length) (hl : ∀ v ∈ l, okC v = true) :
    storeS n (.pointer (some ⟨B, o, none⟩)) v m = some (undef, putN m B o l) := by
  have := (stores_putN (o := o) (l := l) h (by omega) hl).1
  show ob (cellsV v) _ = _
  rw [hv]
  show (bif Nat.beq l.length n then _ else none) = _
  rw [hln, Nat.beq_refl]
  show ob (stores m ⟨B, o, none⟩ l) _ = _
  rw [this]; rfl
theorem local_fill {m : M} (hm : m.base ≤ m.n) {zs l : List Value} {v : Value} {n : Nat} (hv : cellsV v = some l) (hz : zs.length = n) (hln : l.length = n) (hl : ∀ v ∈ l, okC v = true) :
    storeS n (.pointer (some ⟨m.n, 0, none⟩)) v (newRow m zs) = some (undef, putN (newRow m zs) m.n 0 l) ∧ Arr (putN (newRow m zs) m.n 0 l) m.n (over zs 0 l) ∧ Ext m (putN (newRow m zs) m.n 0 l) ∧ m.n < (putN (newRow m zs) m.n 0 l).n := by
  have h := Arr.row m zs
  refine ⟨storeS_arr h hv hln (by omega) hl, (stores_putN (o := 0) (l := l) h (by omega) hl).2.1, ext_putN h (by omega) hl (Nat.le_refl _) hm (Ext.row _ _), ?_⟩
  rw [(stores_putN (o := 0) (l := l) h (by omega) hl).2.2.1, newRow_n]; omega
theorem over_all : ∀ (l zs : List Value) (p : List Value), zs.length = l.length → over (p ++ zs) p.length l = p ++ l
  | [], zs, p, h => by cases zs <;> simp_all [over]
  | v :: l, zs, p, h => by
    cases zs with
    | nil => simp at h
    | cons z zs =>
      unfold over
      have := over_all l zs (p ++ [v]) (by simpa using h)
      simp at this ⊢
      exact this
theorem over_fill {l zs : List Value} (h : zs.length = l.length) : over zs 0 l = l := over_all l zs [] h
abbrev SeqR (c a b : SC) : Prop := ∀ (x : Ex) (n : K) (e : Nat → K) (r : K) (t : Tm) (m : M), c x n e r t m = a x (b x n e r) e r t m
abbrev CondR (c : SC) (o : V) (a b : SC) : Prop := ∀ (x : Ex) (n : K) (e : Nat → K) (r : K) (t : Tm) (m : M), c x n e r t m = ob (vBool (o t)) fun q => bifO q (a x n e r t m) (b x n e r t m)
abbrev BlockR (c : SC) (id : Nat) (a : SC) : Prop := ∀ (x : Ex) (n : K) (e : Nat → K) (r : K) (t : Tm) (m : M), c x n e r t m = a x n (outOf id n e) r t m
theorem seq_rule {c a b : SC} (h : c = sSeq a b) : SeqR c a b := by subst h; exact fun _ _ _ _ _ _ => rfl
theorem cond_rule {c : SC} {o : V} {a b : SC} (h : c = sCond o a b) : CondR c o a b := by subst h; exact fun _ _ _ _ _ _ => rfl
theorem block_rule {c : SC} {id : Nat} {a : SC} (h : c = sBlock id a) : BlockR c id a := by subst h; exact fun _ _ _ _ _ _ => rfl
theorem ops_rule {c : List IS} {a : IS} {l : List IS} (h : c = a :: l) : ∀ (x : Ex) (k : K) (t : Tm) (m : M), seqI c x k t m = a x (seqI l x k) t m := by subst h; exact fun _ _ _ _ => rfl
theorem das_rule {c : List DA} {a : DA} {l : List DA} (h : c = a :: l) : ∀ (x : Ex) (k : List (Nat × FP) → K) (f : List (Nat × FP)) (t : Tm) (m : M), anyL x c k f t m = any1 x a (anyL x l k) f t m := by subst h; exact fun _ _ _ _ _ => rfl
theorem loop_run {c a : SC} (hc : c = sLoop a) {x : Ex} {kn kr : K} {ke : Nat → K} (Q : Option Out → Prop) (I : Nat → Tm → M → Prop) (len : Nat) (hlen : len ≤ 9223372036854775807) {t : Tm} {m : M} (h0 : I 0 t m)
    (round : ∀ i t m (k : K), i ≤ len → I i t m → (i < len → ∀ t' m', I (i + 1) t' m' → Q (k t' m')) → Q (a x k ke kr t m)) : Q (c x kn ke kr t m) := by
  subst hc; exact loop_cps Q I len hlen round h0
theorem local_fill' {m : M} (hm : m.base ≤ m.n) {zs l : List Value} {v : Value} {n : Nat} (hv : cellsV v = some l) (hz : zs.length = n) (hln : l.length = n) (hl : ∀ v ∈ l, okC v = true) :
    ∃ m2, storeS n (.pointer (some ⟨m.n, 0, none⟩)) v (newRow m zs) = some (undef, m2) ∧ (∀ o s, load1 m2 ⟨m.n, o, s⟩ = l[o]?) ∧ (∀ s, loads m2 ⟨m.n, 0, s⟩ n = some l) ∧ Ext m m2 ∧ m.n < m2.n := by
  obtain ⟨h1, h2, h3, h4⟩ := local_fill hm hv hz hln hl
  rw [over_fill (by omega)] at h2
  exact ⟨_, h1, fun o s => h2.load1 o s, fun s => by rw [h2.loads (by omega), List.drop_zero, ← hln, List.take_length], h3, h4⟩
@[simp] theorem mBslice_ap (x : Ex) (t : Tm) (m : M) (e n : Nat) (zs : List Value) (ps : List (Nat × Nat × V)) : mBslice e n zs ps x t m = bsliceS e n zs (evP ps t) m := _root_.id rfl
theorem log_put_ge {m : M} {B : Nat} (h : m.base ≤ B) (o : DObj) : (m.put B o).log = m.log := by
  cases m with | mk a b bs wl =>
  show note bs B wl = wl
  have h' : Nat.ble bs B = true := Nat.ble_eq_true_of_le h
  unfold note
  rw [h']; rfl
theorem alive_of {c : C} {v : Value} {i : Nat} (h : A.get none i c = some v) : alive c = true := by
  cases c with
  | lf => rw [A.get_lf] at h; cases h
  | _ => rfl
def Grown {α : Type} (m0 m : M) (v : Value) (e : Nat) (f : α → List Value) (es : List α) : Prop :=
  (es = [] ∧ v = .slice none 0 0) ∨ ∃ B, m0.n ≤ B ∧ B < m.n ∧ es ≠ [] ∧ v = .slice (some ⟨B, 0, some (code e false)⟩) es.length es.length ∧ Arr m B (es.flatMap f)
section
variable {α : Type} {m0 m m' : M} {v : Value} {e : Nat} {f : α → List Value} {es : List α}
theorem Grown.nil : Grown m0 m (.slice none 0 0) e f ([] : List α) := .inl ⟨rfl, rfl⟩
theorem Grown.keep (h : Grown m0 m v e f es) (hn : m.n ≤ m'.n) (k : ∀ B, B < m.n → blk v = some B → m'.obj B = m.obj B) : Grown m0 m' v e f es := by
  rcases h with h | ⟨B, h1, h2, h3, rfl, h5⟩
  · exact .inl h
  · exact .inr ⟨B, h1, by omega, h3, rfl, h5.congr (k B h2 rfl)⟩
theorem Grown.ext (h : Grown m0 m v e f es) (k : Ext m m') : Grown m0 m' v e f es := h.keep k.n fun B hB _ => k.obj B hB
theorem Grown.lens (h : Grown m0 m v e f es) : lenS v = some (.int .i64 es.length) := by
  rcases h with ⟨rfl, rfl⟩ | ⟨B, h1, h2, h3, rfl, h5⟩ <;> rfl
theorem flatMap_len (hf : ∀ x, (f x).length = e) : ∀ es : List α, (es.flatMap f).length = es.length * e
  | [] => by simp
  | x :: es => by simp [hf x, flatMap_len hf es, Nat.succ_mul, Nat.add_comm]
theorem flatMap_get (hf : ∀ x, (f x).length = e) : ∀ (es : List α) (i : Nat) (x : α), es[i]? = some x → ((es.flatMap f).drop (i * e)).take e = f x
  | [], i, x, h => by simp at h
  | y :: es, 0, x, h => by
    simp at h; subst h
    simp [← hf y]
  | y :: es, i + 1, x, h => by
    simp at h
    rw [List.flatMap_cons, List.drop_append, Nat.succ_mul, hf y, List.drop_eq_nil_of_le (by rw [hf y]; omega), List.nil_append, Nat.add_sub_cancel]
    exact flatMap_get hf es i x h
theorem Grown.rd (hf : ∀ x, (f x).length = e) (h : Grown m0 m v e f es) : Rd m v e f es := by
  refine ⟨h.lens, fun i r hr => ?_, ?_, ?_⟩
  rotate_left
  · rcases h with ⟨rfl, rfl⟩ | ⟨B, h1, h2, h3, rfl, h5⟩
    · rfl
    · show loads m ⟨B, 0, some (code e false)⟩ (es.length * e) = _
      have hlen := flatMap_len hf es
      rw [h5.loads (by omega), List.drop_zero, ← hlen, List.take_length]
  · rcases h with ⟨rfl, rfl⟩ | ⟨B, h1, h2, h3, rfl, h5⟩
    · intro B hB; cases hB
    · intro C hC; cases hC; exact h2
  have hi : i < es.length := (List.getElem?_eq_some_iff.1 hr).1
  rcases h with ⟨rfl, rfl⟩ | ⟨B, h1, h2, h3, rfl, h5⟩
  · simp at hi
  · refine ⟨?_, h2, ?_⟩
    · show (bif Nat.blt i es.length then addA (i * e) _ else none) = _
      rw [show Nat.blt i es.length = true from Nat.ble_eq_true_of_le hi]; rfl
    · show loads m ⟨B, 0 + i * e, none⟩ e = _
      have := Nat.mul_le_mul_right e (Nat.succ_le_of_lt hi)
      rw [h5.loads (by rw [flatMap_len hf, Nat.zero_add]; rw [Nat.succ_mul] at this; omega), Nat.zero_add, flatMap_get hf es i r hr]
theorem allOk_of : ∀ {l : List Value}, (∀ v ∈ l, okC v = true) → allOk l = true
  | [], _ => rfl
  | v :: l, h => by unfold allOk; rw [h v (List.mem_cons_self ..), allOk_of fun u hu => h u (List.mem_cons_of_mem _ hu)]; rfl
theorem Grown.core (h : Grown m0 m v e f es) (he : 0 < e) (hf : ∀ x, (f x).length = e) (hok : ∀ x, ∀ v ∈ f x, okC v = true) {x : α} {X : Nat} {sp : Option Nat}
    (hx : loads m ⟨X, 0, sp⟩ e = some (f x)) (h0 : m0.n ≤ m.n) {bytes : Nat} (hm : (es.length + 1) * bytes ≤ most) (hn : es.length + 1 ≤ 4611686018427387904) :
    ∃ v' m', appendV m e bytes v (.slice (some ⟨X, 0, sp⟩) 1 1) = some (v', m') ∧ Grown m0 m' v' e f (es ++ [x]) ∧ m.n < m'.n ∧ m'.base = m.base ∧ (m'.log = m.log ∨ ∃ B, blk v = some B ∧ m0.n ≤ B ∧ m'.log = note m.base B m.log) ∧ (∀ B, B < m.n → blk v ≠ some B → m'.obj B = m.obj B) ∧ (∀ B, blk v' = some B → m.n ≤ B) := by
  have hk : (Nat.ble ((es.length + 1) * bytes) most && Nat.ble (es.length + 1) 4611686018427387904) = true := by rw [Nat.ble_eq_true_of_le hm, Nat.ble_eq_true_of_le hn]; rfl
  have hfi : firsts m e 1 (.slice (some ⟨X, 0, sp⟩) 1 1) = some (f x) := by unfold firsts; rw [Nat.one_mul]; exact hx
  have hal : allOk (es.flatMap f ++ f x) = true := allOk_of fun u hu => by
    simp only [List.mem_append, List.mem_flatMap] at hu
    rcases hu with ⟨y, _, h⟩ | h
    · exact hok y u h
    · exact hok x u h
  have hfl : (es ++ [x]).flatMap f = es.flatMap f ++ f x := by simp
  rcases h with ⟨rfl, rfl⟩ | ⟨B, h1, h2, h3, rfl, h5⟩
  · refine ⟨_, _, ?_, .inr ⟨m.n, h0, by rw [newRow_n]; omega, by simp, rfl, by simpa using Arr.row m (f x)⟩, by rw [newRow_n]; omega, (Ext.row m (f x)).base, .inl (Ext.row m (f x)).log,
      fun B hB _ => (Ext.row m (f x)).obj B hB, fun B hB => by cases hB; exact Nat.le_refl _⟩
    show ob (firsts m e 1 _) _ = _
    rw [hfi, ob_some']
    unfold appW
    have hlt : Nat.ble (0 + 1) 0 = false := rfl
    have hk' : (Nat.ble ((0 + 1) * bytes) most && Nat.ble (0 + 1) 4611686018427387904) = true := hk
    rw [hlt, cond_false, hk', cond_true]
    rfl
  · have hlt : Nat.ble (es.length + 1) es.length = false := by
      cases q : Nat.ble (es.length + 1) es.length with
      | false => rfl
      | true => exact absurd (Nat.le_of_ble_eq_true q) (by omega)
    obtain ⟨c, hc, hcl⟩ := id h5
    have hpos : 0 < es.length := List.length_pos_iff.2 h3
    have hlen := flatMap_len hf es
    have hne : 0 < (es.flatMap f).length := by rw [hlen]; exact Nat.mul_pos hpos he
    have ha : alive c = true := alive_of (i := 0) (by rw [hcl, List.getElem?_eq_getElem hne])
    refine ⟨.slice (some ⟨m.n, 0, some (code e false)⟩) (es.length + 1) (es.length + 1), (m.put B (.cells .lf)).alloc (.cells (mkn .lf 0 (es.flatMap f ++ f x))), ?_,
      .inr ⟨m.n, h0, by rw [M.n_alloc, M.n_put]; omega, by simp, by simp, ?_⟩, by rw [M.n_alloc, M.n_put]; omega, by rw [M.base_alloc, M.base_put], .inr ⟨B, rfl, h1, by rw [M.log_alloc]; cases m; rfl⟩, fun Y hY hne' => ?_, fun Y hY => by cases hY; exact Nat.le_refl _⟩
    · show ob (firsts m e 1 _) _ = _
      rw [hfi, ob_some']
      unfold appW
      rw [hlt, cond_false, hk, cond_true]
      have hold : firsts m e es.length (.slice (some ⟨B, 0, some (code e false)⟩) es.length es.length) = some (es.flatMap f) := by
        show loads m ⟨B, 0, some (code e false)⟩ (es.length * e) = _
        rw [h5.loads (by omega), List.drop_zero, ← hlen, List.take_length]
      rw [hold, ob_some']
      unfold growV
      have hx' : isEx (code e false) = false := by
        show Nat.beq (2 * e % 2) 1 = false
        rw [show 2 * e % 2 = 0 by omega]; rfl
      have hcd : Nat.beq (code e false / 2) e = true := by
        show Nat.beq (2 * e / 2) e = true
        rw [show 2 * e / 2 = e by omega]; exact Nat.beq_refl e
      show ob (some (code e false)) _ = _
      rw [ob_some', hx', cond_false]
      show ob (oCells (m.obj B)) _ = _
      rw [hc]
      show (bif alive c && Nat.beq (code e false / 2) e && allOk (es.flatMap f ++ f x) && Nat.blt 0 HI then _ else _) = _
      rw [ha, hcd, hal, show Nat.blt 0 HI = true from Nat.ble_eq_true_of_le (by unfold HI; omega)]
      rfl
    · rw [hfl]
      refine ⟨_, by rw [M.obj_alloc, M.n_put, if_pos rfl], fun i => ?_⟩
      rw [mkn_get, A.get_lf]
      split
      · simp
      · rename_i h; rw [List.getElem?_eq_none (by omega)]
    · rw [M.obj_alloc, M.n_put, if_neg (by omega), M.obj_put, if_neg (by rintro rfl; exact hne' rfl)]
theorem note_ge {bs B : Nat} {wl : List Nat} (h : bs ≤ B) : note bs B wl = wl := by unfold note; rw [Nat.ble_eq_true_of_le h]; rfl
theorem Grown.append (h : Grown m0 m v e f es) (hE : Ext m0 m) (hb : m0.base ≤ m0.n) (he : 0 < e) (hf : ∀ x, (f x).length = e) (hok : ∀ x, ∀ v ∈ f x, okC v = true) {x : α} {X : Nat} {sp : Option Nat}
    (hx : loads m ⟨X, 0, sp⟩ e = some (f x)) {bytes : Nat} (hm : (es.length + 1) * bytes ≤ most) (hn : es.length + 1 ≤ 4611686018427387904) :
    ∃ v' m', appendV m e bytes v (.slice (some ⟨X, 0, sp⟩) 1 1) = some (v', m') ∧ Ext m0 m' ∧ Grown m0 m' v' e f (es ++ [x]) ∧ m.n ≤ m'.n ∧ (∀ B, B < m.n → blk v ≠ some B → m'.obj B = m.obj B) ∧ (∀ B, blk v' = some B → m.n ≤ B) := by
  have hlow : ∀ B, blk v = some B → m0.n ≤ B := fun B hB => by
    rcases h with ⟨rfl, rfl⟩ | ⟨B', h1, _, _, rfl, _⟩
    · cases hB
    · cases hB; exact h1
  obtain ⟨v', m', h1, h2, h3, h4, h5, h6, h7⟩ := h.core he hf hok hx hE.n hm hn
  refine ⟨v', m', h1, ⟨by have := hE.n; omega, fun B hB => (h6 B (by have := hE.n; omega) fun hc => by have := hlow B hc; omega).trans (hE.obj B hB), by rw [h4, hE.base], ?_⟩, h2, by omega, h6, h7⟩
  rcases h5 with h5 | ⟨B, _, hB, h5⟩
  · rw [h5, hE.log]
  · rw [h5, note_ge (by rw [hE.base]; omega), hE.log]
end
@[simp] theorem extract_0 (a : Value) (l : List Value) : extractV 0 (.tuple ⟨a :: l⟩) = some a := _root_.id rfl
@[simp] theorem extract_1 (a b : Value) (l : List Value) : extractV 1 (.tuple ⟨a :: b :: l⟩) = some b := _root_.id rfl
@[simp] theorem extract_2 (a b c : Value) (l : List Value) : extractV 2 (.tuple ⟨a :: b :: c :: l⟩) = some c := _root_.id rfl
@[simp] theorem pNilck_p (a : Addr) : nilckV (.pointer (some a)) = some (.pointer (some a)) := _root_.id rfl
@[simp] theorem mCallv_ap (f : V) (l : List V) (x : Ex) (t : Tm) (m : M) : mCallv f l x t m = callvV x (evs t l) m (f t) := _root_.id rfl
@[simp] theorem callv_func (x : Ex) (l : List Value) (m : M) (g : Nat) (u v : List Value) : callvV x l m (.func (.func g) ⟨u⟩ ⟨v⟩) = x.f g (u ++ l ++ v) m := _root_.id rfl
end
end Go.Dx
namespace Go.Dx
noncomputable section
@[simp] theorem loads_any (m : M) (a : Addr) (n : Nat) : loads (forAny m) a n = loads m a n := by unfold loads cellsOf; rw [forAny_obj]
@[simp] theorem meets_nil (l : List (Nat × FP)) (x : FP) : meets l x [] = true := rfl
theorem notes_ge {bs : Nat} {wl : List Nat} : ∀ {l : List Nat}, (∀ B ∈ l, bs ≤ B) → notes bs wl l = wl
  | [], _ => rfl
  | B :: l, h => by
    show notes bs (note bs B wl) l = wl
    have : note bs B wl = wl := by unfold note; rw [Nat.ble_eq_true_of_le (h B (List.mem_cons_self ..))]; rfl
    rw [this]; exact notes_ge fun C hC => h C (List.mem_cons_of_mem _ hC)
structure St (m0 m : M) (σ : List (Nat × List Value)) : Prop where
  ext : Ext m0 m
  base : m0.base ≤ m0.n
  arr : ∀ p ∈ σ, m0.n ≤ p.1 ∧ p.1 < m.n ∧ Arr m p.1 p.2
  nd : (σ.map (·.1)).Nodup
def Loads (m : M) : List (Nat × List Value) → Prop
  | [] => True
  | p :: σ => (∀ o s, load1 m ⟨p.1, o, s⟩ = p.2[o]?) ∧ Loads m σ
section
variable {m0 m m' : M} {σ : List (Nat × List Value)} {k b o : Nat} {l : List Value} {v : Value}
theorem St.nil (h : m0.base ≤ m0.n) (e : Ext m0 m) : St m0 m [] := ⟨e, h, (by simp), (by simp)⟩
theorem St.loads (h : St m0 m σ) : Loads m σ := by
  have := h.arr
  clear h
  induction σ with
  | nil => trivial
  | cons p σ ih => exact ⟨fun o s => (this p (List.mem_cons_self ..)).2.2.load1 o s, ih fun q hq => this q (List.mem_cons_of_mem _ hq)⟩
theorem St.get (h : St m0 m σ) (k : Nat) (hk : σ[k]? = some (b, l)) : m0.n ≤ b ∧ b < m.n ∧ Arr m b l := h.arr _ (List.mem_of_getElem? hk)
theorem St.keep (h : St m0 m σ) (e : Ext m0 m') (hn : m.n ≤ m'.n) (ho : ∀ B, m0.n ≤ B → B < m.n → m'.obj B = m.obj B) : St m0 m' σ :=
  ⟨e, h.base, fun p hp => let ⟨h1, h2, h3⟩ := h.arr p hp; ⟨h1, by omega, h3.congr (ho _ h1 h2)⟩, h.nd⟩
theorem St.step (h : St m0 m σ) (e : Ext m m') : St m0 m' σ := h.keep (h.ext.trans e) e.n fun B _ hB => e.obj B hB
theorem St.sees (h : St m0 m σ) : Sees m0 m := (Sees.refl h.base).ext h.ext
theorem St.behind (h : St m0 m σ) (e : Ext (forAny m) m') : St m0 (behind m m') σ := h.step e.behind
theorem St.row (h : St m0 m σ) (l : List Value) : St m0 (newRow m l) ((m.n, l) :: σ) := by
  have h' := h.step (Ext.row m l)
  refine ⟨h'.ext, h.base, fun p hp => ?_, ?_⟩
  · rcases List.mem_cons.1 hp with rfl | hp
    · exact ⟨h.ext.n, by rw [newRow_n]; exact Nat.lt_succ_self _, Arr.row m l⟩
    · exact h'.arr p hp
  · rw [List.map_cons, List.nodup_cons]
    refine ⟨fun hm => ?_, h.nd⟩
    obtain ⟨q, hq, e⟩ := List.mem_map.1 hm
    have := (h.arr q hq).2.1
    omega
theorem nodup_at {σ : List (Nat × List Value)} (hn : (σ.map (·.1)).Nodup) {i j : Nat} {p q : Nat × List Value} (hi : σ[i]? = some p) (hj : σ[j]? = some q) (h : p.1 = q.1) : i = j := by
  obtain ⟨hi', rfl⟩ := List.getElem?_eq_some_iff.1 hi
  obtain ⟨hj', rfl⟩ := List.getElem?_eq_some_iff.1 hj
  have key : ∀ (l : List Nat), l.Nodup → ∀ (i j : Nat) (x : Nat), l[i]? = some x → l[j]? = some x → i = j := by
    intro l
    induction l with
    | nil => intro _ i j x h; simp at h
    | cons a l ih =>
      intro hn i j x h1 h2
      rw [List.nodup_cons] at hn
      cases i with
      | zero =>
        cases j with
        | zero => rfl
        | succ j => simp at h1 h2; subst h1; exact absurd (List.mem_of_getElem? h2) hn.1
      | succ i =>
        cases j with
        | zero => simp at h1 h2; subst h2; exact absurd (List.mem_of_getElem? h1) hn.1
        | succ j => simp at h1 h2; rw [ih hn.2 i j x h1 h2]
  exact key _ hn i j (σ[i]'hi').1 (by rw [List.getElem?_map, List.getElem?_eq_getElem hi']; rfl) (by rw [List.getElem?_map, List.getElem?_eq_getElem hj', h]; rfl)
theorem St.put' (h : St m0 m σ) (k : Nat) (hk : σ[k]? = some (b, l)) {l' : List Value} (hn : m'.n = m.n) (hb : m'.base = m.base) (hlog : m'.log = m.log) (ho : ∀ X, X ≠ b → m'.obj X = m.obj X) (ha : Arr m' b l') : St m0 m' (σ.set k (b, l')) := by
  obtain ⟨hk', hke⟩ := List.getElem?_eq_some_iff.1 hk
  have hb0 := (h.get k hk).1
  refine ⟨⟨by rw [hn]; exact h.ext.n, fun X hX => by rw [ho X (by omega)]; exact h.ext.obj X hX, by rw [hb, h.ext.base], by rw [hlog, h.ext.log]⟩, h.base, fun p hp => ?_, ?_⟩
  · obtain ⟨j, hj, rfl⟩ := List.getElem_of_mem hp
    rw [List.getElem_set]
    rw [List.length_set] at hj
    split
    · exact ⟨hb0, by rw [hn]; exact (h.get k hk).2.1, ha⟩
    · rename_i hne
      obtain ⟨h1, h2, h3⟩ := h.arr _ (List.getElem_mem hj)
      refine ⟨h1, by rw [hn]; exact h2, h3.congr (ho _ fun e => hne ?_)⟩
      exact (nodup_at h.nd (List.getElem?_eq_getElem hj) hk e).symm
  · have : (σ.set k (b, l')).map (·.1) = σ.map (·.1) := by
      rw [List.map_set]
      show (σ.map (·.1)).set k b = _
      refine List.ext_getElem (by simp) fun i h1 h2 => ?_
      rw [List.getElem_set]
      split
      · subst_vars; simp [hke]
      · rfl
    rw [this]; exact h.nd
theorem St.store (h : St m0 m σ) (k : Nat) (hk : σ[k]? = some (b, l)) (ho : o < l.length) (hv : okC v = true) :
    ∃ m', storeS 1 (.pointer (some ⟨b, o, none⟩)) v m = some (undef, m') ∧ St m0 m' (σ.set k (b, l.set o v)) ∧ m'.n = m.n ∧ (∀ X, X ≠ b → m'.obj X = m.obj X) := by
  obtain ⟨h1, h2, h3⟩ := h.get k hk
  have hcv : cellsV v = some [v] := by cases v <;> first | rfl | simp [okC] at hv
  have e := storeS_arr (n := 1) (o := o) h3 hcv rfl (by omega) (by simpa using hv)
  obtain ⟨_, s2, s3, s4, s5, s6⟩ := stores_putN (o := o) (l := [v]) h3 (by simp; omega) (by simpa using hv)
  exact ⟨_, e, h.put' k hk s3 s4 (s6 (by have := h.ext.base; have := h.base; omega)) s5 s2, s3, s5⟩
theorem St.storeAny (h : St m0 m σ) (k : Nat) (hk : σ[k]? = some (b, l)) (ho : o < l.length) (hv : okC v = true) :
    ∃ m', storeS 1 (.pointer (some ⟨b, o, none⟩)) v (forAny m) = some (undef, m') ∧ m'.log = [b] ∧ St m0 (Dx.behind m m') (σ.set k (b, l.set o v)) ∧ (Dx.behind m m').n = m.n ∧ (∀ X, X ≠ b → (Dx.behind m m').obj X = m.obj X) := by
  obtain ⟨h1, h2, h3⟩ := h.get k hk
  have hcv : cellsV v = some [v] := by cases v <;> first | rfl | simp [okC] at hv
  have h3' : Arr (forAny m) b l := h3.congr (forAny_obj m b)
  have e := storeS_arr (n := 1) (o := o) h3' hcv rfl (by omega) (by simpa using hv)
  obtain ⟨s1, s2, s3, s4, s5, s6⟩ := stores_putN (o := o) (l := [v]) h3' (by simp; omega) (by simpa using hv)
  have hlog : (putN (forAny m) b o [v]).log = [b] := by
    obtain ⟨c, hc, hcl⟩ := h3'
    have : ∃ c', stores (forAny m) ⟨b, o, none⟩ [v] = some ((forAny m).put b (.cells c')) := by
      have hs : stores (forAny m) ⟨b, o, none⟩ [v] = ob (oCells ((forAny m).obj b)) fun c => ob (stn c o [v]) fun c' => some ((forAny m).put b (.cells c')) := rfl
      rw [hs, hc]
      obtain ⟨c', e', _⟩ := stn_of (vs := [v]) (o := o) hcl (by simp; omega) (by simpa using hv)
      exact ⟨c', by show ob (stn c o [v]) _ = _; rw [e']; rfl⟩
    obtain ⟨c', e'⟩ := this
    have hp : putN (forAny m) b o [v] = (forAny m).put b (.cells c') := by unfold putN; rw [e']; rfl
    rw [hp]
    cases m with | mk a nx bs wl =>
    show note nx b [] = [b]
    have h2' : b < nx := h2
    unfold note
    have : Nat.ble nx b = false := by
      cases q : Nat.ble nx b with
      | false => rfl
      | true => exact absurd (Nat.le_of_ble_eq_true q) (by omega)
    rw [this]; rfl
  refine ⟨_, e, hlog, h.put' k hk (by rw [behind_n, s3, forAny_n]) (behind_base _ _) ?_ (fun X hX => by rw [behind_obj, s5 X hX, forAny_obj]) (s2.congr (behind_obj _ _ _)), by rw [behind_n, s3, forAny_n], fun X hX => by rw [behind_obj, s5 X hX, forAny_obj]⟩
  rw [behind_log, hlog]
  refine notes_ge fun B hB => ?_
  rw [List.mem_singleton.1 hB, h.ext.base]
  have := h.base
  omega
end
theorem Rd.lenV {α : Type} {m : M} {v : Value} {e : Nat} {f : α → List Value} {es : List α} (h : Rd m v e f es) : Dx.lenV v = some es.length := by
  have hl := h.len
  cases v with
  | slice a n cp =>
    have : some (Value.int .i64 (Int.ofNat n)) = some (Value.int .i64 (es.length : Int)) := hl
    injection this with this; injection this with _ this
    show some n = _
    rw [Int.ofNat.inj this]
  | _ => cases hl
end
end Go.Dx
namespace Go.Dx
noncomputable section
theorem append_clone {α : Type} {m : M} (hm : m.base ≤ m.n) {v : Value} {e : Nat} {f : α → List Value} {es : List α} (h : Rd m v e f es) (hf : ∀ x, (f x).length = e) (bytes : Nat) (hb : es.length * bytes ≤ most) (hn : es.length ≤ 4611686018427387904) :
    ∃ v' m', appendV (newRow m []) e bytes (.slice (some ⟨m.n, 0, some (code e true)⟩) 0 0) v = some (v', m') ∧ Ext m m' ∧ Rd m' v' e f es ∧ (∀ B, blk v' = some B → m.n ≤ B ∧ Arr m' B (es.flatMap f)) ∧ (es ≠ [] → v' = .slice (some ⟨m.n + 1, 0, some (code e false)⟩) es.length es.length) := by
  have h' := h.sees ((Sees.refl hm).ext (Ext.row m []))
  have e0 : appendV (newRow m []) e bytes (.slice (some ⟨m.n, 0, some (code e true)⟩) 0 0) v = appW (newRow m []) e bytes 0 0 es.length (some ⟨m.n, 0, some (code e true)⟩) (es.flatMap f) := by
    show ob (lenV v) _ = _
    rw [h.lenV, ob_some']
    show ob (firsts (newRow m []) e es.length v) _ = _
    rw [h'.all, ob_some']
  rw [e0]
  unfold appW
  by_cases hz : es = []
  · subst hz
    refine ⟨_, _, rfl, Ext.row m [], ⟨rfl, fun i r hr => by simp at hr, ?_, fun B hB => by cases hB; show m.n < _; rw [newRow_n]; omega⟩, fun B hB => by cases hB; exact ⟨Nat.le_refl _, Arr.row m []⟩, fun h => absurd rfl h⟩
    show loads (newRow m []) _ (0 * e) = _
    rw [Nat.zero_mul, (Arr.row m []).loads (by simp)]; rfl
  · have hpos := List.length_pos_iff.2 hz
    have h1 : Nat.ble (0 + es.length) 0 = false := by
      cases q : Nat.ble (0 + es.length) 0 with
      | false => rfl
      | true => have := Nat.le_of_ble_eq_true q; omega
    rw [h1, cond_false, Nat.zero_add, Nat.ble_eq_true_of_le hb, Nat.ble_eq_true_of_le hn]
    show ∃ v' m', ob (firsts (newRow m []) e 0 (.slice (some ⟨m.n, 0, some (code e true)⟩) 0 0)) _ = _ ∧ _
    have h2 : firsts (newRow m []) e 0 (.slice (some ⟨m.n, 0, some (code e true)⟩) 0 0) = some [] := by
      show loads (newRow m []) _ (0 * e) = _
      rw [Nat.zero_mul, (Arr.row m []).loads (by simp)]; rfl
    rw [h2]
    have hx : isEx (code e true) = true := by
      show Nat.beq ((2 * e + 1) % 2) 1 = true
      rw [show (2 * e + 1) % 2 = 1 by omega]; rfl
    have hg : growV (newRow m []) e es.length (some ⟨m.n, 0, some (code e true)⟩) ([] ++ es.flatMap f) = some (.slice (some ⟨m.n + 1, 0, some (code e false)⟩) es.length es.length, newRow (newRow m []) (es.flatMap f)) := by
      unfold growV
      show ob (some (code e true)) _ = _
      rw [ob_some', hx, cond_true, newRow_n]; rfl
    have hA : Arr (newRow (newRow m []) (es.flatMap f)) (m.n + 1) (es.flatMap f) := by have := Arr.row (newRow m []) (es.flatMap f); rwa [newRow_n] at this
    refine ⟨_, _, hg, (Ext.row m []).trans (Ext.row _ _), ?_, fun B hB => by cases hB; exact ⟨Nat.le_succ _, hA⟩, fun _ => rfl⟩
    have hG : Grown m (newRow (newRow m []) (es.flatMap f)) (.slice (some ⟨m.n + 1, 0, some (code e false)⟩) es.length es.length) e f es := .inr ⟨m.n + 1, by omega, by rw [newRow_n, newRow_n]; omega, hz, rfl, hA⟩
    exact hG.rd hf
@[simp] theorem eqNV_ap (n : Bool) (q : Value → Option Bool) (h : Bool) (x y : Value) : eqNV n q h x y = ob (eqN q h x y) fun b => some (.bool (bif n then !b else b)) := _root_.id rfl
theorem eqN_nilS {v : Value} {n : Int} (h : lenS v = some (.int .i64 n)) : eqN nilS true v (.slice none 0 0) = some (match v with | .slice none _ _ => true | _ => false) := by
  cases v with
  | slice a n c => cases a <;> rfl
  | _ => cases h
end
end Go.Dx
namespace Go.Dx
noncomputable section
abbrev RmR (c : SC) (pre : List IS) (nt : Nat) (p : RmP) (a : SC) : Prop := ∀ (x : Ex) (kn : K) (ke : Nat → K) (kr : K) (t : Tm) (m : M), c x kn ke kr t m = seqI pre x (rmGo nt p a x kn ke kr) t m
theorem rm_rule {c : SC} {p : RmP} {nt : Nat} {a : SC} {pre : List IS} (h : c = sRm nt p a) (hp : p.pre = pre) : RmR c pre nt p a := by subst h; subst hp; exact fun _ _ _ _ _ _ => rfl
abbrev RdR (p : RmP) (c : SC) (asn : List IS) (nx mo pr nxt : Nat) : Prop := ∀ (x : Ex) (m : M) (k v : Value) (t : Tm), rmRound p c x m (k, v) t = seqI asn x (c x endK (outOf nxt endK exitK) retK) (Tm.set pr (.tuple #[k, v]) (Tm.set mo (.bool true) (Tm.set nx junkV t))) m
theorem rd_rule {p : RmP} {c : SC} {asn : List IS} {nx mo pr nxt : Nat} (h1 : p.asn = asn) (h2 : p.nx = nx) (h3 : p.mo = mo) (h4 : p.pr = pr) (h5 : p.nxt = nxt) : RdR p c asn nx mo pr nxt := by subst h1 h2 h3 h4 h5; exact fun _ _ _ _ _ => rfl
def RmE (R : Option E → Tm → M → Prop) : Option Out → Prop := fun o => ∃ e t m, o = some ⟨e, t, m⟩ ∧ R e t m
theorem rm_end {R : Option E → Tm → M → Prop} {t : Tm} {m : M} (h : R none t m) : RmE R (endK t m) := ⟨_, _, _, rfl, h⟩
theorem rm_ret {R : Option E → Tm → M → Prop} {t : Tm} {m : M} (h : R (some .ret) t m) : RmE R (retK t m) := ⟨_, _, _, rfl, h⟩
theorem rmEs_of {m : M} {B : Nat} {es : List (Value × Value)} (h : m.obj B = some (.map es)) (hi : ∀ p ∈ es, isInt p.1 = true) : rmEs (.map (some B)) m = some es := by
  show ob (oMap (m.obj B)) _ = _
  rw [h]
  show (bif es.all (fun p => isInt p.1) then some es else none) = _
  rw [List.all_eq_true.2 hi]; rfl
theorem rm_run {nt : Nat} {p : RmP} {c : SC} {x : Ex} {kn kr : K} {ke : Nat → K} {t : Tm} {m : M} {Q : Option Out → Prop} {es : List (Value × Value)} (hnt : nt ≤ 512) (hes : rmEs (p.o t) m = some es) (e : Option E) (m1 : M) (L : List (Nat × Value))
    (I : List Nat → Tm → Prop) (h0 : I [] (Tm.set p.it junkV t))
    (hround : ∀ seen t j k v, es[j]? = some (k, v) → j ∉ seen → I seen t → RmE (fun e' t' m' => (e' = none ∧ m' = m ∧ I (j :: seen) t') ∨ (e' = e ∧ e' ≠ none ∧ m' = m1 ∧ ∀ q ∈ L, Tm.get q.1 t' = q.2)) (rmRound p c x m (k, v) t))
    (hdone : ∀ seen t, (∀ j, j < es.length → j ∈ seen) → I seen t → e = none ∧ m1 = m ∧ ∀ q ∈ L, Tm.get q.1 t = q.2)
    (hL : ∀ q ∈ L, q.1 < nt ∧ q.1 ≠ p.nx ∧ q.1 ≠ p.mo) (hnx : p.nx < 512) (hmo : p.mo < 512)
    (hk : ∀ t', (∀ q ∈ L, Tm.get q.1 t' = q.2) → Q (goOn kn (outOf p.out kn ke) kr e t' m1)) : Q (rmGo nt p c x kn ke kr t m) := by
  have key : ∀ seen t o, RmOut (rmRound p c x m) es m seen t o → I seen t → ∃ t', o = some ⟨e, t', m1⟩ ∧ ∀ q ∈ L, Tm.get q.1 t' = q.2 := by
    intro seen t o h
    induction h with
    | done seen t h =>
      intro hI
      obtain ⟨h1, h2, h3⟩ := hdone seen t h hI
      exact ⟨t, by rw [h1, h2], h3⟩
    | stuck seen t j kv hj hs h =>
      intro hI
      obtain ⟨_, _, _, h1, _⟩ := hround seen t j kv.1 kv.2 hj hs hI
      rw [show ((kv.1, kv.2) : Value × Value) = kv from rfl, h] at h1; cases h1
    | moved seen t j kv t' m' hj hs h hm =>
      intro hI
      obtain ⟨_, _, _, h1, h2⟩ := hround seen t j kv.1 kv.2 hj hs hI
      rw [show ((kv.1, kv.2) : Value × Value) = kv from rfl, h] at h1; cases h1
      rcases h2 with ⟨_, h2, _⟩ | ⟨_, h2, _⟩
      · exact absurd h2 hm
      · exact absurd rfl h2
    | leave seen t j kv e0 t' m' hj hs h =>
      intro hI
      obtain ⟨_, _, _, h1, h2⟩ := hround seen t j kv.1 kv.2 hj hs hI
      rw [show ((kv.1, kv.2) : Value × Value) = kv from rfl, h] at h1; cases h1
      rcases h2 with ⟨h2, _⟩ | ⟨h2, _, h3, h4⟩
      · cases h2
      · exact ⟨t', by rw [h2, h3], h4⟩
    | next seen t j kv t' o hj hs h hn ih =>
      intro hI
      obtain ⟨_, _, _, h1, h2⟩ := hround seen t j kv.1 kv.2 hj hs hI
      rw [show ((kv.1, kv.2) : Value × Value) = kv from rfl, h] at h1; cases h1
      rcases h2 with ⟨_, _, h2⟩ | ⟨_, h2, _⟩
      · exact ih h2
      · exact absurd rfl h2
  obtain ⟨o0, ho0⟩ := RmOut.exists (rd := rmRound p c x m) (es := es) (m := m) _ [] (Tm.set p.it junkV t) (Nat.le_refl _)
  have hg : RmGood (rmRound p c x m) es m (Tm.set p.it junkV t) e m1 := fun o ho => let ⟨t', h, _⟩ := key _ _ _ ho h0; ⟨t', h⟩
  have hx : ∃ p1 : Option E × M, RmGood (rmRound p c x m) es m (Tm.set p.it junkV t) p1.1 p1.2 := ⟨(e, m1), hg⟩
  obtain ⟨t0, ht0, hl0⟩ := key _ _ _ ho0 h0
  subst ht0
  have hres : rmRes nt (rmRound p c x m) es m (Tm.set p.it junkV t) = some ⟨e, star nt fun t' => RmOut (rmRound p c x m) es m [] (Tm.set p.it junkV t) (some ⟨e, t', m1⟩), m1⟩ := by
    unfold rmRes
    rw [dif_pos hx]
    obtain ⟨t2, h2⟩ := hx.choose_spec _ ho0
    have e1 : hx.choose.1 = e := by cases h2; rfl
    have e2 : hx.choose.2 = m1 := by cases h2; rfl
    rw [e1, e2]
  have he : rmGo nt p c x kn ke kr t m = rmEnd p kn ke kr ⟨e, star nt fun t' => RmOut (rmRound p c x m) es m [] (Tm.set p.it junkV t) (some ⟨e, t', m1⟩), m1⟩ := by
    show ob (rmEs (p.o t) m) _ = _
    rw [hes]
    show ob (rmRes nt (rmRound p c x m) es m (Tm.set p.it junkV t)) _ = _
    rw [hres]; rfl
  rw [he]
  refine hk _ fun q hq => ?_
  obtain ⟨q1, q2, q3⟩ := hL q hq
  rw [Tm.get_set_ne (by omega) hmo q3, Tm.get_set_ne (by omega) hnx q2, star_get hnt q1]
  refine starV_is (t := t0) ho0 fun t' ht' => ?_
  obtain ⟨t2, h2, h3⟩ := key _ _ _ ht' h0
  cases h2
  exact h3 q hq
end
end Go.Dx
namespace Go.Dx
open Go.RowKit Go.WideShapes Go.ChangeShapes
noncomputable section
attribute [local irreducible] A.get A.set HI
section
variable {H : Type} {enc : TypeId × Value → H} {P : Program} {w : World}
end
end
end Go.Dx
namespace Go.Dx
open Go.RowKit Go.WideShapes Go.ChangeShapes
end Go.Dx
