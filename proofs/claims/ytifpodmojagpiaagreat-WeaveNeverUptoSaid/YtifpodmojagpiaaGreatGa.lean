/- Rules for steps through compiled code. -/
import Derived.Test.YtifpodmojagpiaaGreatEc
import Derived.Test.YtifpodmojagpiaaGreatEd
import Derived.ChangeSame
import Derived.ProofKit
import Derived.Carry
set_option linter.unusedVariables false
set_option linter.unusedSimpArgs false
set_option linter.defProp false
namespace Go.Dx
@[match_pattern] abbrev zS : Value := .slice none 0 0
@[match_pattern] abbrev zI : Value := .int .i64 0
@[match_pattern] abbrev zU : Value := .int .u64 0
@[match_pattern] abbrev zF : Value := .bool false
@[match_pattern] abbrev zT : Value := .bool true
abbrev pt (B o : Nat) : Value := .pointer (some ⟨B, o, none⟩)
end Go.Dx
namespace Go.Dx
open Go.RowKit
noncomputable section
def qW (zs:List Value)(ps:List (Nat × Nat × Value)):Option Value:=ob (YS ps zs) λl=>some (.agg ⟨l⟩)
def eqBV (neg:Bool)(x y:Value):Option Value:=ob (xK x) λa=>ob (xK y) λb=>some (.bool (bif neg then !eqB a b else eqB a b))
def eqNV (neg:Bool)(k:Value->Option Bool)(both:Bool)(x y:Value):Option Value:=ob (eqN k both x y) λb=>some (.bool (bif neg then !b else b))
def bZ (k:IntKind)(x:Value):Option Value:=obp (bJ x) λ_ n=>some (.int k (vv k n))
def qap (off:Nat)(x:Value):Option Value:=ob (jj x) (WW off)
def qaq (agg:Bool)(off n:Nat)(x:Value):Option Value:=ob (XP x) λcs=>QN agg ((cs.drop off).take n)
def wZ (esz:Nat)(x i:Value):Option Value:=ob (xW i) λn=>obp (vSl x) λa len=>bif Nat.blt n len then WW (n*esz) a else none
def sidxV (x i:Value):Option Value:=ob (xW i) λn=>ob (Qq x) λs=>ob (s[n]?) λb=>some (xy b)
def yf (o:Value)(m:M):Option (Value × M):=ob (zy o) λl=>some (.pointer (some ⟨m.n,0,none⟩),newRow m l)
def ki (esz len:Nat)(zs:List Value)(ps:List (Nat × Nat × Value))(m:M):Option (Value × M) :=
 ob (YS ps zs) λl=>some (.slice (some ⟨m.n,0,some (code esz true)⟩) len len,newRow m l)
def qaw (o:Value)(m:M):Option (Value × M):=ob (jj o) λa=>ob (load1 m a) (retM m)
def qax (n:Nat)(o:Value)(m:M):Option (Value × M):=ob (jj o) λa=>ob (loads m a n) λl=>some (.agg ⟨l⟩,m)
def wt (n:Nat)(o v:Value)(m:M):Option (Value × M) :=
 ob (jj o) λa=>ob (zy v) λl=>bif Nat.beq l.length n then ob (wx m a l) λm'=>some (undef,m') else none
def bi (esz bytes:Nat)(zs:List Value)(l c:Value)(m:M):Option (Value × M) :=
 ob (xW l) λl=>ob (xW c) λc =>
  bif Nat.ble l c&&Nat.ble (c*bytes) most&&Nat.ble c 4611686018427387904&&Nat.ble (c*esz) 1048576 then
   some (.slice (some ⟨m.n,0,some (code esz true)⟩) l c,newRow m (rep c zs)) else none
def Gh (x:Ex)(l:List DA)(k:List (Nat × FP)->K):List (Nat × FP)->K:=List.rec k (λi _ ih=>Gg x i ih) l
inductive RS where
 | v (x:Value)
 | one (x:Value)
 | cell (x:Value) (n:Nat)
def qex (m:M):RS->Option Value
 | .v x=>some x
 | .one x=>ob (jj x) λa=>load1 m a
 | .cell x n=>ob (jj x) λa=>ob (loads m a n) λc=>some (.agg ⟨c⟩)
def resS (m:M):List RS->Option (List Value)
 | []=>some []
 | r::l=>ob (qex m r) λv=>ob (resS m l) λvs=>some (v::vs)
def fB (l:List RS)(m:M):Option Out:=ob (resS m l) λl=>fin (yj l) m
def cL:Code->Code
 | .seq a _ | .cond _ a _ | .block _ a | .loop a | .rangeFunc _ _ a _=>a
 | c=>c
def cR:Code->Code
 | .seq _ b | .cond _ _ b | .rangeFunc _ _ _ b=>b
 | c=>c
def wu (f:Func):Code:=match f.body with
 | some c=>c
 | none=>.skip
inductive BT where
 | lf
 | nd (k:Nat) (v:Ex->List Value->M->Option (Value × M)) (l r:BT)
def BT.look (t:BT):Nat->Ex->List Value->M->Option (Value × M) :=
 BT.rec (λ_ _ _ _=>none) (λk v _ _ il ir g=>bif Nat.beq g k then v else bif Nat.blt g k then il g else ir g) t
def Fits (P:Program)(g:Nat)(v:Ex->List Value->M->Option (Value × M)):Prop:=∀x l m r,v x l m=some r->ob (qZ P g) (gH x l m)=some r
def BT.Fit (P:Program):BT->Prop
 | .lf=>True
 | .nd k v l r=>Fits P k v/\l.Fit P/\r.Fit P
def xstep (P:Program)(t:BT)(x:Ex):Ex:=⟨λg=>t.look g x,YF P x⟩
def xs (P:Program)(t:BT)(n:Nat):Ex:=Nat.rec .bot (λ_ ih=>xstep P t ih) n
end
end Go.Dx
namespace Go.Dx
open Go.RowKit
noncomputable section
abbrev tg (n:Nat):V:=Tm.get n
def cv (v:Value):V:=λ_=>v
def ip (d:Nat)(p:PO):IS:=Bs none (some d) (XI (CI.pure p) (some d))
def il (d:Nat)(a:V)(f:MO):IS:=Bs none (some d) (XI (CI.load a f) (some d))
def im (n d:Nat)(f:MO):IS:=Bs none (some d) (XI (CI.mem n f) (some d))
def im0 (n:Nat)(f:MO):IS:=Bs none none (XI (CI.mem n f) none)
def gd (g:Nat)(b:Bool)(d:Option Nat)(s:IS):IS:=Bs (some (g,b)) d s
inductive Tick where
 | tick
 | tock
def tick (_:Tick):Prop:=True
@[simp] theorem tick_1:tick .tick=tick .tock:=_root_.id rfl
def WY (c:Bool)(a b:Option Out):Option Out:=cond c a b
@[simp] theorem bif_t (a b:Option Out):WY true a b=a:=_root_.id rfl
@[simp] theorem bif_f (a b:Option Out):WY false a b=b:=_root_.id rfl
@[congr] theorem ob_congr {α β:Type} {o o':Option α} {k:α->Option β} {q:Prop} (h:o=o') (_:tick .tick=q):ob o k=ob o' k:=by rw[h]
@[congr] theorem obp_congr {α β γ:Type} {o o':Option (α × β)} {k:α->β->Option γ} {q:Prop} (h:o=o') (_:tick .tick=q):obp o k=obp o' k:=by rw[h]
@[congr] theorem bif_congr {c c':Bool} {a b:Option Out} {q:Prop} (h:c=c') (_:tick .tick=q):WY c a b=WY c' a b:=by rw[h]
@[congr] theorem qgf {c c':Prop} [Decidable c] [Decidable c'] {a b:Option Out} {q:Prop} (h:c=c') (_:tick .tick=q):ite c a b=ite c' a b:=by subst h;congr
section
variable (x:Ex)(k kn kr:K)(ke:Nat->K)(t:Tm)(m:M)
@[simp] theorem sSeq_ap (a b:SC):qb a b x kn ke kr t m=a x (b x kn ke kr) ke kr t m:=_root_.id rfl
@[simp] theorem sSkip_ap:qj x kn ke kr t m=kn t m:=_root_.id rfl
@[simp] theorem sReg_ap (i:IS):sReg i x kn ke kr t m=i x kn t m:=_root_.id rfl
@[simp] theorem qf7 (l:List DA):wo l x kn ke kr t m=Gh x l (λ_=>kn) [] t m:=_root_.id rfl
@[simp] theorem sCond_ap (o:V) (a b:SC):qg o a b x kn ke kr t m=ob (xK (o t)) λc=>WY c (a x kn ke kr t m) (b x kn ke kr t m):=_root_.id rfl
@[simp] theorem sBlock_ap (id:Nat) (a:SC):qn id a x kn ke kr t m=a x kn (jN id kn ke) kr t m:=_root_.id rfl
@[simp] theorem sExit_ap (id:Nat):wX id x kn ke kr t m=ke id t m:=_root_.id rfl
@[simp] theorem sRet_ap:qw x kn ke kr t m=kr t m:=_root_.id rfl
@[simp] theorem outOf_ap (id j:Nat):jN id kn ke j t m=WY (Nat.beq j id) (kn t m) (ke j t m):=_root_.id rfl
theorem Bv (a:SC):kh a x kn ke kr t m=KE (λk=>a x k ke kr) 1180591620717411303424 t m:=rfl
@[simp] theorem seqI_nil:Kb [] x k t m=k t m:=_root_.id rfl
@[simp] theorem seqI_cons (s:IS) (l:List IS):Kb (s::l) x k t m=s x (Kb l x k) t m:=_root_.id rfl
@[simp] theorem ip_ap (d:Nat) (p:PO):ip d p x k t m=ob (p t) λv=>k (Tm.set d v t) m:=_root_.id rfl
@[simp] theorem il_ap (d:Nat) (a:V) (f:MO):il d a f x k t m=obp (f x t m) λv m=>k (Tm.set d v t) m:=_root_.id rfl
@[simp] theorem im1_ap (d:Nat) (f:MO):im 1 d f x k t m=obp (f x t m) λv m=>k (Tm.set d v t) m:=_root_.id rfl
@[simp] theorem im3_ap (d:Nat) (f:MO):im 3 d f x k t m=obp (f x t m) λv m=>k (Tm.set d v t) m:=_root_.id rfl
@[simp] theorem im03_ap (f:MO):im0 3 f x k t m=obp (f x t m) λ_ m=>k t m:=_root_.id rfl
@[simp] theorem gd_ap (g:Nat) (b:Bool) (d:Option Nat) (s:IS):gd g b d s x k t m=ob (isB b (Tm.get g t)) λc=>WY c (s x k t m) (k (putD t d undef) m):=_root_.id rfl
@[simp] theorem qS {α β:Type} (a:α) (f:α->Option β):ob (some a) f=f a:=_root_.id rfl
@[simp] theorem KM {α β γ:Type} (a:α) (b:β) (f:α->β->Option γ):obp (some (a,b)) f=f a b:=_root_.id rfl
@[simp] theorem putD_some (d:Nat) (v:Value):putD t (some d) v=Tm.set d v t:=_root_.id rfl
@[simp] theorem putD_none (v:Value):putD t none v=t:=_root_.id rfl
@[simp] theorem jT (i j:Nat) (v:Value):Tm.get i (Tm.set j v t)=if i=j then v else Tm.get i t:=by
 by_cases h:i=j
 .subst h;rw[if_pos rfl,Tm.get_set_same]
 .rw[if_neg h]
  show (bif Nat.beq i j then v else Tm.get i t)=_
  rw[bQ h];rfl
@[simp] theorem get_blank (i:Nat):Tm.get i .blank=undef:=_root_.id rfl
@[simp] theorem cv_ap (v:Value):cv v t=v:=_root_.id rfl
@[simp] theorem pMov_ap (a:V):bm a t=some (a t):=_root_.id rfl
@[simp] theorem pPick_ap (c a b:V):jb c a b t=ob (xK (c t)) λq=>some (bif q then a t else b t):=_root_.id rfl
@[simp] theorem pNilck_ap (a:V):qk a t=dD (a t):=_root_.id rfl
@[simp] theorem pBin_ap (op:BinOp) (a b:V):Xt op a b t=zh op (a t) (b t):=_root_.id rfl
@[simp] theorem pUn_ap (op:UnOp) (a:V):pUn op a t=unV op (a t):=_root_.id rfl
@[simp] theorem pEqB_ap (n:Bool) (a b:V):ZS n a b t=eqBV n (a t) (b t):=_root_.id rfl
@[simp] theorem pEqN_ap (n:Bool) (q:Value->Option Bool) (h:Bool) (a b:V):Qo n q h a b t=eqNV n q h (a t) (b t):=_root_.id rfl
@[simp] theorem pFaddr_ap (o:Nat) (a:V):dH o a t=qap o (a t):=_root_.id rfl
@[simp] theorem pField_ap (g:Bool) (o n:Nat) (a:V):WG g o n a t=qaq g o n (a t):=_root_.id rfl
@[simp] theorem qgl (e:Nat) (a b:V):yY e a b t=wZ e (a t) (b t):=_root_.id rfl
@[simp] theorem pLen_ap (a:V):WH a t=za (a t):=_root_.id rfl
@[simp] theorem qg2 (a:V) (i:Nat):xq a i t=vf i (a t):=_root_.id rfl
@[simp] theorem pBuild_ap (zs:List Value) (ps:List (Nat × Nat × V)):qJ zs ps t=qW zs (evP ps t):=_root_.id rfl
@[simp] theorem evP_nil:evP [] t=[]:=_root_.id rfl
@[simp] theorem evP_cons (p:Nat × Nat × V) (l:List (Nat × Nat × V)):evP (p::l) t=(p.1,p.2.1,p.2.2 t)::evP l t:=_root_.id rfl
@[simp] theorem evs_nil:evs t []=[]:=_root_.id rfl
@[simp] theorem evs_cons (a:V) (l:List V):evs t (a::l)=a t::evs t l:=_root_.id rfl
@[simp] theorem mBox_ap (a:V):kE a x t m=yf (a t) m:=_root_.id rfl
@[simp] theorem mAlloc_ap (zs:List Value):qK zs x t m=some (.pointer (some ⟨m.n,0,none⟩),newRow m zs):=_root_.id rfl
@[simp] theorem mLoad1_ap (a:V):fY a x t m=qaw (a t) m:=_root_.id rfl
@[simp] theorem mLoadN_ap (n:Nat) (a:V):fZ n a x t m=qax n (a t) m:=_root_.id rfl
@[simp] theorem mStore_ap (n:Nat) (a b:V):wR n a b x t m=wt n (a t) (b t) m:=_root_.id rfl
@[simp] theorem mCall_ap (g:Nat) (l:List V):ql g l x t m=x.f g (evs t l) m:=_root_.id rfl
@[simp] theorem qgh (e b:Nat) (a c:V):wg e b a c x t m=wY m e b (a t) (c t):=_root_.id rfl
@[simp] theorem vBool_b (b:Bool):xK (.bool b)=some b:=_root_.id rfl
@[simp] theorem isB_t (b:Bool):isB true (.bool b)=some b:=_root_.id rfl
@[simp] theorem eqBV_t (a b:Bool):eqBV true (.bool a) (.bool b)=some (.bool (a != b)):=by cases a<;>cases b<;>rfl
@[simp] theorem isB_u (b:Bool):isB b undef=some false:=_root_.id rfl
@[simp] theorem isB_f (b:Bool):isB false (.bool b)=some (!b):=_root_.id rfl
@[simp] theorem unV_not (b:Bool):unV .not (.bool b)=some (.bool (!b)):=_root_.id rfl
theorem XX (op:BinOp)(kd:IntKind)(a b:Int):QT op kd a kd b=binI op kd a b:=by unfold QT;rw[Nat.beq_refl];rfl
theorem kQ (op:BinOp)(kd:IntKind)(a b:Int):zh op (.int kd a) (.int kd b)=binI op kd a b:=XX op kd a b
@[simp] theorem binV_lss (kd:IntKind) (a b:Int):zh .lss (.int kd a) (.int kd b)=some (.bool (decide (a<b))):=by rw[kQ];show some (Value.bool (ltI a b))=_;rw[xn]
@[simp] theorem binV_leq (kd:IntKind) (a b:Int):zh .leq (.int kd a) (.int kd b)=some (.bool (decide (a<=b))):=by
 rw[kQ];show some (Value.bool (!ltI b a))=_;rw[xn,<-decide_not]
 congr 2;exact decide_eq_decide.2 Int.not_lt
@[simp] theorem binV_gtr (kd:IntKind) (a b:Int):zh .gtr (.int kd a) (.int kd b)=some (.bool (decide (b<a))):=by rw[kQ];show some (Value.bool (ltI b a))=_;rw[xn]
@[simp] theorem binV_geq (kd:IntKind) (a b:Int):zh .geq (.int kd a) (.int kd b)=some (.bool (decide (b<=a))):=by
 rw[kQ];show some (Value.bool (!ltI a b))=_;rw[xn,<-decide_not]
 congr 2;exact decide_eq_decide.2 Int.not_lt
@[simp] theorem binV_eql (kd:IntKind) (a b:Int):zh .eql (.int kd a) (.int kd b)=some (.bool (decide (a=b))):=by
 rw[kQ];show some (Value.bool (eqI a b))=_;rw[vD];congr 2
@[simp] theorem binV_neq (kd:IntKind) (a b:Int):zh .neq (.int kd a) (.int kd b)=some (.bool (!decide (a=b))):=by
 rw[kQ];show some (Value.bool (!eqI a b))=_;rw[vD];congr 2
@[simp] theorem qC (kd:IntKind) (a b:Int):zh .add (.int kd a) (.int kd b)=some (.int kd (kd.wrap (a+b))):=by rw[kQ];show some (Value.int kd (vv kd (a+b)))=_;rw[zD]
@[simp] theorem qY (kd:IntKind) (a b:Int):zh .sub (.int kd a) (.int kd b)=some (.int kd (kd.wrap (a-b))):=by rw[kQ];show some (Value.int kd (vv kd (a-b)))=_;rw[zD]
theorem gC {a b:Nat}(hb:0<b):zh .rem (.int .i64 a) (.int .i64 b)=some (.int .i64 ((a%b:Nat):Int)):=by
 rw[kQ]
 show jd (Op.intDiv .rem .i64 (a:Int) (b:Int))=_
 unfold Op.intDiv
 rw[if_neg (by omega)]
 have e:(a:Int).tmod (b:Int)=((a%b:Nat):Int):=by rw[Int.ofNat_tmod]
 show some (Value.int _ ((a:Int).tmod b))=_
 rw[e]
@[simp] theorem qgg (a:Addr):qaw (.pointer (some a)) m=ob (load1 m a) (retM m):=_root_.id rfl
@[simp] theorem qgd (o:Nat) (a:Addr):qap o (.pointer (some a))=some (.pointer (some ⟨a.block,a.off+o,none⟩)):=_root_.id rfl
@[simp] theorem boxS_agg (cs:Array Value):yf (.agg cs) m=some (.pointer (some ⟨m.n,0,none⟩),newRow m cs.toList):=_root_.id rfl
@[simp] theorem retM_ap (v:Value):retM m v=some (v,m):=_root_.id rfl
theorem yU (l:List Value)(o n:Nat)(h:o+n<=l.length):loads (newRow m l) ⟨m.n,o,none⟩ n=some ((l.drop o).take n):=by
 unfold loads cellsOf newRow
 simp only[M.obj_alloc,if_true]
 show ldn (mkn .lf 0 l) o n=_
 have key:∀n o,o+n<=l.length->ldn (mkn .lf 0 l) o n=some ((l.drop o).take n):=by
  intro n
  induction n with
  | zero=>intro o _;simp[Wx]
  | succ n ih =>
   intro o ho
   rw[gV,zZ,if_pos (by simp;omega),ih (o+1) (by omega)]
   have:o<l.length:=by omega
   rw[Nat.sub_zero,qgn this,List.drop_eq_getElem_cons this]
   rfl
 exact key n o h
theorem vk (l:List Value)(o:Nat):load1 (newRow m l) ⟨m.n,o,none⟩=l[o]?:=by
 unfold load1 cellsOf newRow
 simp only[M.obj_alloc,if_true]
 show A.get none o (mkn .lf 0 l)=l[o]?
 rw[zZ,A.get_lf]
 split
 .simp
 .rename_i h;simp at h;simp[h]
end
structure Ext (m m':M):Prop where
 n:m.n<=m'.n
 obj:∀B,B<m.n->m'.obj B=m.obj B
 base:m'.base=m.base
 log:m'.log=m.log
theorem Ext.refl (m:M):Ext m m:=⟨qgq _,λ_ _=>rfl,rfl,rfl⟩
theorem Ext.trans {a b c:M}(h:Ext a b)(k:Ext b c):Ext a c:=⟨qgz h.n k.n,λB hB=>(k.obj B (qgs hB h.n)).trans (h.obj B hB),k.base.trans h.base,k.log.trans h.log⟩
theorem Ext.row (m:M)(l:List Value):Ext m (newRow m l):=⟨by unfold newRow;rw[M.n_alloc];omega,λB hB=>by unfold newRow;rw[M.obj_alloc,if_neg (by omega)],M.base_alloc _ _,M.log_alloc _ _⟩
theorem ex_f {P:Program}{g:Nat}{d:DFn}(hd:qZ P g=some d)(n:Nat)(args:List Value)(m:M):(ex P (n+1)).f g args m=gH (ex P n) args m d:=by
 show ob (qZ P g) (gH (ex P n) args m)=_
 rw[hd];rfl
theorem gI (x:Ex)(args:List Value)(m:M)(c:SC)(nt:Nat)(res:List RV)(h:args.length<=nt):gH x args m ⟨c,nt,res⟩=ob (c x (kO res) noK (kO res) (jl .blank 0 args) m) WF:=by
 show (bif Nat.ble args.length nt then ob (c x (kO res) noK (kO res) (jl .blank 0 args) m) WF else none)=_
 rw[qgv h];rfl
@[simp] theorem initT_nil (t:Tm) (i:Nat):jl t i []=t:=_root_.id rfl
@[simp] theorem qge (t:Tm) (i:Nat) (v:Value) (l:List Value):jl t i (v::l)=jl (Tm.set i v t) (i+1) l:=_root_.id rfl
theorem vS (res:List RV)(t:Tm)(m:M):kO res t m=ob (vT t m res) λl=>fin (yj l) m:=_root_.id rfl
@[simp] theorem qc5 (t:Tm) (m:M):vT t m []=some []:=_root_.id rfl
@[simp] theorem vG (v:Value) (m:M):ob (fin v m) WF=some (v,m):=by
 show some (Tm.get 0 (Tm.set 0 v .blank),m)=_
 rw[Tm.get_set_same]
theorem wrap64 (n:Int)(h1:-9223372036854775808<=n)(h2:n<=9223372036854775807):IntKind.i64.wrap n=n:=by rw[IntKind.wrap_i64];omega
structure Sl (m:M)(v:Value)(e:Nat)(rows:List (List Value)):Prop where
 len:za v=some (.int .i64 rows.length)
 row:∀(i:Nat) (r:List Value),rows[i]?=some r->∃B o,B<m.n/\wZ e v (.int .i64 i)=some (.pointer (some ⟨B,o,none⟩))/\loads m ⟨B,o,none⟩ e=some r
theorem GQ {m m':M}(h:Ext m m'){B o n:Nat}(hB:B<m.n):loads m' ⟨B,o,none⟩ n=loads m ⟨B,o,none⟩ n:=by
 unfold loads cellsOf;rw[h.obj B hB]
theorem dx {m m':M}(h:Ext m m'){B o:Nat}(hB:B<m.n):load1 m' ⟨B,o,none⟩=load1 m ⟨B,o,none⟩:=by
 unfold load1 cellsOf;rw[h.obj B hB]
theorem Sl.ext {m m':M}(h:Ext m m'){v:Value}{e:Nat}{rows:List (List Value)}(hs:Sl m v e rows):Sl m' v e rows :=
 ⟨hs.len,λi r hr=>let ⟨B,o,h1,h2,h3⟩:=hs.row i r hr;⟨B,o,qgs h1 h.n,h2,by rw[GQ h h1];exact h3⟩⟩
theorem qe (n:Nat)(a:Addr)(m:M):qax n (.pointer (some a)) m=ob (loads m a n) λl=>some (.agg ⟨l⟩,m):=rfl
end
end Go.Dx
namespace Go.Dx
noncomputable section
section
variable (x:Ex)(k:List (Nat × FP)->K)(fps:List (Nat × FP))(t:Tm)(m:M)
@[simp] theorem anyL_nil:Gh x [] k=k:=_root_.id rfl
@[simp] theorem anyL_cons (i:DA) (l:List DA):Gh x (i::l) k fps t m=Gg x i (Gh x l k) fps t m:=_root_.id rfl
@[simp] theorem any1_none (ci:CI) (d:Option Nat) (ix:Nat) (inc:List Nat):Gg x ⟨ci,d,none,ix,inc⟩ k fps t m=gy x ⟨ci,d,none,ix,inc⟩ k fps t m:=_root_.id rfl
@[simp] theorem any1_some (ci:CI) (d:Option Nat) (g:Nat) (b:Bool) (ix:Nat) (inc:List Nat):Gg x ⟨ci,d,some (g,b),ix,inc⟩ k fps t m=ob (isB b (Tm.get g t)) λc=>WY c (gy x ⟨ci,d,some (g,b),ix,inc⟩ k fps t m) (k fps (putD t d undef) m):=_root_.id rfl
@[simp] theorem anyR_pure (p:PO) (d:Option Nat) (g:Option (Nat × Bool)) (ix:Nat) (inc:List Nat):gy x ⟨.pure p,d,g,ix,inc⟩ k fps t m=ob (p t) λv=>k fps (putD t d v) m:=_root_.id rfl
@[simp] theorem anyR_mem1 (f:MO) (d:Option Nat) (g:Option (Nat × Bool)) (ix:Nat) (inc:List Nat):gy x ⟨.mem 1 f,d,g,ix,inc⟩ k fps t m=obp (f x t m) λv m'=>k fps (putD t d v) m':=_root_.id rfl
@[simp] theorem anyR_load (o:V) (f:MO) (d:Option Nat) (g:Option (Nat × Bool)) (ix:Nat) (inc:List Nat):gy x ⟨.load o f,d,g,ix,inc⟩ k fps t m=obp (f x t m) λv m' =>
 WY (meets fps ⟨ob (jj (o t)) λa=>some a.block,[]⟩ inc) (k ((ix,⟨ob (jj (o t)) λa=>some a.block,[]⟩)::fps) (putD t d v) m') none:=_root_.id rfl
@[simp] theorem anyR_mem3 (f:MO) (d:Option Nat) (g:Option (Nat × Bool)) (ix:Nat) (inc:List Nat):gy x ⟨.mem 3 f,d,g,ix,inc⟩ k fps t m=obp (f x t (qc m)) λv m' =>
 WY (meets fps ⟨none,m'.log⟩ inc) (k ((ix,⟨none,m'.log⟩)::fps) (putD t d v) (behind m m')) none:=_root_.id rfl
@[simp] theorem yO (a:Addr):jj (.pointer (some a))=some a:=_root_.id rfl
end
def quiet:List (Nat × FP)->Prop
 | []=>True
 | p::l=>p.2.wr=[]/\quiet l
@[simp] theorem quiet_nil:quiet []=True:=_root_.id rfl
@[simp] theorem qgm (j:Nat) (r:Option Nat) (l:List (Nat × FP)):quiet ((j,⟨r,[]⟩)::l)=quiet l:=by
 show (_/\_)=_;simp
theorem qc3 {l:List (Nat × FP)}(h:quiet l){i:Nat}{y:FP}(e:vg i l=some y):y.wr=[]:=by
 induction l with
 | nil=>cases e
 | cons p l ih =>
  obtain⟨j,z⟩:=p
  unfold vg at e
  cases hb:Nat.beq i j with
  | true=>rw[hb]at e;cases e;exact h.1
  | false=>rw[hb]at e;exact ih h.2 e
@[simp] theorem qg0 {l:List (Nat × FP)} (h:quiet l) (r:Option Nat) (inc:List Nat):meets l ⟨r,[]⟩ inc=true:=by
 induction inc with
 | nil=>rfl
 | cons i inc ih =>
  unfold meets
  cases e:vg i l with
  | none=>simpa using ih
  | some y =>
   have hy:=qc3 h e
   show (FP.meet y ⟨r,[]⟩&&meets l ⟨r,[]⟩ inc)=true
   rw[ih]
   unfold FP.meet
   rw[hy];rfl
attribute [simp] qt wh qm
theorem Ext.behind {m m':M}(h:Ext (qc m) m'):Ext m (behind m m'):=by
 have hl:=h.log
 cases m with | mk h0 nx bs wl =>
 cases m' with | mk h1 nx1 bs1 wl1 =>
 have e:wl1=[]:=hl
 subst e
 exact⟨h.n,h.obj,rfl,rfl⟩
theorem Ext.quietLog {m m':M}(h:Ext (qc m) m'):m'.log=[]:=h.log.trans (wh m)
end
end Go.Dx
namespace Go.Dx
noncomputable section
structure Sees (m0 m:M):Prop where
 n:m0.n<=m.n
 obj:∀B,B<m0.n->m.obj B=m0.obj B
 base:m.base<=m.n
theorem Sees.refl {m:M}(h:m.base<=m.n):Sees m m:=⟨qgq _,λ_ _=>rfl,h⟩
theorem Sees.self {a b:M}(h:Sees a b):Sees b b:=.refl h.base
theorem Sees.ext {a b c:M}(h:Sees a b)(k:Ext b c):Sees a c:=⟨qgz h.n k.n,λB hB=>(k.obj B (qgs hB h.n)).trans (h.obj B hB),by rw[k.base];exact qgz h.base k.n⟩
theorem Sees.trans {a b c:M}(h:Sees a b)(k:Sees b c):Sees a c:=⟨qgz h.n k.n,λB hB=>(k.obj B (qgs hB h.n)).trans (h.obj B hB),k.base⟩
@[simp] theorem sees_row {a b:M} (h:Sees a b) (l:List Value):Sees a (newRow b l):=h.ext (Ext.row _ _)
@[simp] theorem qB {a b:M} (h:Sees a b):Sees a (qc b):=⟨by rw[qt];exact h.n,λB hB=>by rw[qm];exact h.obj B hB,by rw[qt,wW];exact qgq _⟩
@[simp] theorem qg4 {a b c:M} (h:Sees a b) (k:Ext (qc b) c):Sees a (behind b c):=h.ext k.behind
@[simp] theorem qz (m:M) (l:List Value):(newRow m l).n=m.n+1:=M.n_alloc _ _
@[simp] theorem ext_row {a b:M} (h:Ext a b) (l:List Value):Ext a (newRow b l):=h.trans (Ext.row _ _)
@[simp] theorem qgc {a b c:M} (h:Ext a b) (k:Ext (qc b) c):Ext a (behind b c):=h.trans k.behind
attribute [simp] Ext.refl
def Call (x:Ex)(g:Nat)(args:List Value)(m:M)(P:Value->M->Prop):Prop:=∃v m',x.f g args m=some (v,m')/\Ext m m'/\P v m'
def qc4 (x:Ex)(g:Nat)(args:List Value)(m:M):Value:=match x.f g args m with
 | some (v,_)=>v
 | none=>undef
def aft (x:Ex)(g:Nat)(args:List Value)(m:M):M:=match x.f g args m with
 | some (_,m')=>m'
 | none=>m
section
variable {x:Ex}{g:Nat}{args:List Value}{m m0:M}{P:Value->M->Prop}{v:Value}
theorem Call.all (h:Call x g args m P):x.f g args m=some (qc4 x g args m,aft x g args m)/\Ext m (aft x g args m)/\P (qc4 x g args m) (aft x g args m):=by
 obtain⟨v,m',e,h1,h2⟩:=h
 unfold qc4 aft;rw[e];exact⟨rfl,h1,h2⟩
abbrev CallV (x:Ex)(g:Nat)(args:List Value)(m:M)(v:Value):Prop:=Call x g args m λu _=>u=v
theorem Call.mono {Q:Value->M->Prop}(h:Call x g args m P)(k:∀v m',Ext m m'->P v m'->Q v m'):Call x g args m Q:=let ⟨v,m',e,h1,h2⟩:=h;⟨v,m',e,h1,k _ _ h1 h2⟩
theorem Call.use (h:∀m,Sees m0 m->CallV x g args m v) :
  (∀m,Sees m0 m->x.f g args m=some (v,aft x g args m))/\(∀a m,Sees m0 m->Ext a m->Ext a (aft x g args m))/\(∀a m,Sees m0 m->Sees a m->Sees a (aft x g args m)) /\
   ∀m,Sees m0 m->(aft x g args m).log=m.log:=by
 refine⟨λm k=>?_,λa m k e=>e.trans (h m k).all.2.1,λa m k e=>e.ext (h m k).all.2.1,λm k=>(h m k).all.2.1.log⟩
 have:=(h m k).all;rw[this.1,this.2.2]
theorem CallV.of {m':M}(h:x.f g args m=some (v,m'))(e:Ext m m'):CallV x g args m v:=⟨v,m',h,e,rfl⟩
end
def Ret (m0:M)(P:Value->M->Prop):Option Out->Prop:=λo=>∃v m',ob o WF=some (v,m')/\Ext m0 m'/\P v m'
theorem qy {P:Program}{g:Nat}{c:SC}{nt:Nat}{res:List RV}{n:Nat}{args:List Value}{m:M}{Q:Value->M->Prop}(hd:qZ P g=some ⟨c,nt,res⟩)(ha:args.length<=nt)
  (h:Ret m Q (c (ex P n) (kO res) noK (kO res) (jl .blank 0 args) m)):Call (ex P (n+1)) g args m Q:=by
 obtain⟨v,m',e,h1,h2⟩:=h
 exact⟨v,m',by rw[ex_f hd,gI _ _ _ _ _ _ ha];exact e,h1,h2⟩
theorem dM {m0 m:M}{Q:Value->M->Prop}{res:List RV}{t:Tm}{l:List Value}(h:vT t m res=some l)(he:Ext m0 m)(hq:Q (yj l) m):Ret m0 Q (kO res t m):=by
 refine⟨yj l,m,?_,he,hq⟩
 rw[vS,h,qS,vG]
theorem qc6 {m0 m:M}{Q:Value->M->Prop}{t:Tm}(he:Ext m0 m)(hq:Q (yj []) m):Ret m0 Q (kO [] t m):=dM (l:=[]) rfl he hq
theorem qp {m0 m:M}{Q:Value->M->Prop}{t:Tm}{p:Nat}(he:Ext m0 m)(hq:Q (Tm.get p t) m):Ret m0 Q (kO [.t p] t m):=dM (l:=[_]) rfl he hq
theorem yK {m0 m:M}{Q:Value->M->Prop}{t:Tm}{p q:Nat}(he:Ext m0 m)(hq:Q (.tuple #[Tm.get p t,Tm.get q t]) m):Ret m0 Q (kO [.t p,.t q] t m):=dM (l:=[_,_]) rfl he hq
theorem qb0 {x:Ex}{kn kr:K}{ke:Nat->K}{a:SC}(Q:Option Out->Prop)(I:Nat->Tm->M->Prop)(len:Nat)(hlen:len<=9223372036854775807)
  (round:∀i t m (k:K),i<=len->I i t m->(i<len->∀t' m',I (i+1) t' m'->Q (k t' m'))->Q (a x k ke kr t m)) {t:Tm} {m:M} (h0:I 0 t m):Q (kh a x kn ke kr t m):=by
 rw[Bv]
 have key:∀(N i:Nat) (t:Tm) (m:M),len<N+i->i<=len->I i t m->Q (KE (λk=>a x k ke kr) N t m):=by
  intro N
  induction N with
  | zero=>intro i t m h1 h2;omega
  | succ N ih =>
   intro i t m h1 h2 hI
   exact round i t m (KE (λk=>a x k ke kr) N) h2 hI λhi t' m' h3=>ih (i+1) t' m' (by omega) (by omega) h3
 exact key _ 0 t m (by omega) (Nat.zero_le _) h0
def adr (e:Nat)(v:Value)(i:Nat):Addr:=match v with
 | .slice (some a) _ _=>⟨a.block,a.off+i*e,none⟩
 | _=>⟨0,0,none⟩
def blk:Value->Option Nat
 | .slice (some a) _ _=>some a.block
 | _=>none
theorem gR {m m':M}{e n:Nat}{v:Value}(h:∀B,blk v=some B->m'.obj B=m.obj B):kl m' e n v=kl m e n v:=by
 cases v with
 | slice a k c =>
  cases a with
  | none=>rfl
  | some a =>
   show loads m' a _=loads m a _
   unfold loads cellsOf;rw[h _ rfl]
 | _=>rfl
structure Rd {α:Type}(m:M)(v:Value)(e:Nat)(f:α->List Value)(es:List α):Prop where
 len:za v=some (.int .i64 es.length)
 row:∀(i:Nat) (r:α),es[i]?=some r->wZ e v (.int .i64 i)=some (.pointer (some (adr e v i)))/\(adr e v i).block<m.n/\loads m (adr e v i) e=some (f r)
 all:kl m e es.length v=some (es.flatMap f)
 lt:∀B,blk v=some B->B<m.n
theorem fX {m m':M}(h:Sees m m'){B o n:Nat}{s:Option Nat}(hB:B<m.n):loads m' ⟨B,o,s⟩ n=loads m ⟨B,o,s⟩ n:=by
 unfold loads cellsOf;rw[h.obj B hB]
theorem qQ {m m':M}(h:Sees m m'){B o:Nat}{s:Option Nat}(hB:B<m.n):load1 m' ⟨B,o,s⟩=load1 m ⟨B,o,s⟩:=by
 unfold load1 cellsOf;rw[h.obj B hB]
theorem Wy {m:M}{a:Addr}{n:Nat}{l:List Value}(h:loads m a n=some l){o:Nat}{s:Option Nat}{v:Value}(hv:l[o]?=some v):load1 m ⟨a.block,a.off+o,s⟩=some v:=by
 unfold loads at h;unfold load1
 cases hc:cellsOf m a.block with
 | none=>rw[hc]at h;cases h
 | some c =>
  rw[hc]at h
  exact (Qy h).2 o v hv
section
variable {α:Type}{m:M}{v:Value}{e:Nat}{f:α->List Value}{es:List α}
theorem Rd.sees {m':M}(h:Rd m v e f es)(k:Sees m m'):Rd m' v e f es :=
 ⟨h.len,λi r hr=>let ⟨h1,h2,h3⟩:=h.row i r hr;⟨h1,qgs h2 k.n,by
  rw[show adr e v i=⟨(adr e v i).block,(adr e v i).off,(adr e v i).spot⟩ from rfl,fX k h2];exact h3⟩,by rw[gR λB hB=>k.obj B (h.lt B hB)];exact h.all,λB hB=>qgs (h.lt B hB) k.n⟩
theorem Rd.at (h:Rd m v e f es){i:Nat}{r:α}(hr:es[i]?=some r) :
  wZ e v (.int .i64 i)=some (.pointer (some (adr e v i)))/\(∀m',Sees m m'->loads m' (adr e v i) e=some (f r))/\(∀m' o s,Sees m m'->o<(f r).length->load1 m' ⟨(adr e v i).block,(adr e v i).off+o,s⟩=(f r)[o]?):=by
 obtain⟨h1,h2,h3⟩:=h.row i r hr
 have key:∀m',Sees m m'->loads m' (adr e v i) e=some (f r):=λm' k=>by
  rw[show adr e v i=⟨(adr e v i).block,(adr e v i).off,(adr e v i).spot⟩ from rfl,fX k h2];exact h3
 exact⟨h1,key,λm' o s k ho=>by rw[Wy (key m' k) (qgn ho),qgn ho]⟩
theorem Rd.at1 {g:α->Value}(h:Rd m v 1 (λa=>[g a]) es){i:Nat}{r:α}(hr:es[i]?=some r) :
  wZ 1 v (.int .i64 i)=some (.pointer (some (adr 1 v i)))/\∀m',Sees m m'->load1 m' (adr 1 v i)=some (g r):=by
 obtain⟨h1,h2,h3⟩:=h.at hr
 refine⟨h1,λm' k=>?_⟩
 have:=h3 m' 0 (adr 1 v i).spot k (by simp)
 exact this
end
theorem gD {m m':M}{l:List Value}(h:Sees (newRow m l) m'):(∀o n s,o+n<=l.length->loads m' ⟨m.n,o,s⟩ n=some ((l.drop o).take n))/\∀o s,load1 m' ⟨m.n,o,s⟩=l[o]?:=by
 have hB:m.n<(newRow m l).n:=by rw[qz];omega
 exact⟨λo n s hn=>by rw[fX h hB];exact yU m l o n hn,λo s=>by rw[qQ h hB];exact vk m l o⟩
def Arr (m:M)(B:Nat)(l:List Value):Prop:=∃c,m.obj B=some (.cells c)/\∀i,A.get none i c=l[i]?
theorem Arr.congr {m m':M}{B:Nat}{l:List Value}(h:Arr m B l)(e:m'.obj B=m.obj B):Arr m' B l:=let ⟨c,h1,h2⟩:=h;⟨c,e.trans h1,h2⟩
theorem Arr.sees {m m':M}{B:Nat}{l:List Value}(h:Arr m B l)(k:Sees m m')(hB:B<m.n):Arr m' B l:=h.congr (k.obj B hB)
theorem Arr.ext {m m':M}{B:Nat}{l:List Value}(h:Arr m B l)(k:Ext m m')(hB:B<m.n):Arr m' B l:=h.congr (k.obj B hB)
theorem Arr.row (m:M)(l:List Value):Arr (newRow m l) m.n l:=by
 refine⟨mkn .lf 0 l,by unfold newRow;rw[M.obj_alloc,if_pos rfl],λi=>?_⟩
 rw[zZ,A.get_lf]
 split
 .simp
 .rename_i h;simp at h;simp[h]
theorem ldn_of {c:C}{l:List Value}(h:∀i,A.get none i c=l[i]?):∀(n o:Nat),o+n<=l.length->ldn c o n=some ((l.drop o).take n):=by
 intro n
 induction n with
 | zero=>intro o _;simp[Wx]
 | succ n ih =>
  intro o ho
  have:o<l.length:=by omega
  rw[gV,h,qgn this,ih (o+1) (by omega),List.drop_eq_getElem_cons this]
  rfl
theorem Arr.loads {m:M}{B:Nat}{l:List Value}(h:Arr m B l){o n:Nat}{s:Option Nat}(hn:o+n<=l.length):loads m ⟨B,o,s⟩ n=some ((l.drop o).take n):=by
 obtain⟨c,h1,h2⟩:=h
 unfold Dx.loads cellsOf
 rw[h1];exact ldn_of h2 n o hn
theorem Arr.load1 {m:M}{B:Nat}{l:List Value}(h:Arr m B l)(o:Nat)(s:Option Nat):load1 m ⟨B,o,s⟩=l[o]?:=by
 obtain⟨c,h1,h2⟩:=h
 unfold Dx.load1 cellsOf
 rw[h1];exact h2 o
def over (l:List Value)(o:Nat):List Value->List Value
 | []=>l
 | v::vs=>over (l.set o v) (o+1) vs
theorem jH:∀(vs l:List Value) (o:Nat),(over l o vs).length=l.length
 | [],_,_=>rfl
 | v::vs,l,o=>by unfold over;rw[jH vs];simp
theorem dS:∀{vs l:List Value} {c:C} {o:Nat},(∀i,A.get none i c=l[i]?)->o+vs.length<=l.length->(∀v∈vs,okC v=true)->∃c',stn c o vs=some c'/\∀i,A.get none i c'=(over l o vs)[i]?
 | [],l,c,o,h,_,_=>⟨c,rfl,h⟩
 | v::vs,l,c,o,h,hn,hv=>by
  have ho:o<l.length:=by simp at hn;omega
  obtain⟨c',e,h'⟩:=dS (vs:=vs) (l:=l.set o v) (c:=A.set none (some v) o c) (o:=o+1) (λi=>by
   by_cases hi:i=o
   .subst hi;rw[A.get_set_same];simp[ho]
   .rw[A.get_set_ne _ _ hi,h,qhb (by omega)]) (by simp at hn ⊢;omega) (λu hu=>hv u (qgy _ hu))
  refine⟨c',?_,h'⟩
  show ob (A.get none o c) _=_
  rw[h,qgn ho]
  show (bif okC v then _ else none)=_
  rw[hv v (qh6 ..)]
  exact e
def ji (m:M)(B o:Nat)(l:List Value):M:=(wx m ⟨B,o,none⟩ l).getD m
theorem wD {m:M}{B o:Nat}{l l0:List Value}(h:Arr m B l0)(hn:o+l.length<=l0.length)(hl:∀v∈l,okC v=true) :
  wx m ⟨B,o,none⟩ l=some (ji m B o l)/\Arr (ji m B o l) B (over l0 o l)/\(ji m B o l).n=m.n/\(ji m B o l).base=m.base/\(∀X,X≠B->(ji m B o l).obj X=m.obj X)/\(m.base<=B->(ji m B o l).log=m.log):=by
 obtain⟨c,h1,h2⟩:=h
 cases l with
 | nil=>exact⟨rfl,⟨c,h1,h2⟩,rfl,rfl,λ_ _=>rfl,λ_=>rfl⟩
 | cons v vs =>
  obtain⟨c',e,h'⟩:=dS h2 hn hl
  have key:wx m ⟨B,o,none⟩ (v::vs)=some (m.put B (.cells c')):=by
   show ob (vN (m.obj B)) _=_
   rw[h1]
   show ob (stn c o (v::vs)) _=_
   rw[e];rfl
  have hp:ji m B o (v::vs)=m.put B (.cells c'):=by unfold ji;rw[key];rfl
  rw[hp]
  refine⟨key,⟨c',by rw[M.obj_put,if_pos rfl],h'⟩,M.n_put _ _ _,M.base_put _ _ _,λX hX=>by rw[M.obj_put,if_neg hX],λhb=>?_⟩
  cases m with | mk a b bs wl =>
  show note bs B wl=wl
  have h':Nat.ble bs B=true:=qgv hb
  unfold note
  rw[h'];rfl
theorem qao {m a:M}{B o:Nat}{l l0:List Value}(h:Arr m B l0)(hn:o+l.length<=l0.length)(hl:∀v∈l,okC v=true)(hB:a.n<=B)(hb:a.base<=a.n)(k:Ext a m):Ext a (ji m B o l):=by
 obtain⟨_,_,h1,h2,h3,h4⟩:=wD h hn hl
 exact⟨by rw[h1];exact k.n,λX hX=>by rw[h3 X (by omega)];exact k.obj X hX,by rw[h2,k.base],by rw[h4 (by rw[k.base];omega),k.log]⟩
theorem kf {m:M}{B o:Nat}{l0:List Value}(h:Arr m B l0){v:Value}{l:List Value}{n:Nat}(hv:zy v=some l)(hln:l.length=n)(hn:o+n<=l0.length)(hl:∀v∈l,okC v=true) :
  wt n (.pointer (some ⟨B,o,none⟩)) v m=some (undef,ji m B o l):=by
 have:=(wD (o:=o) (l:=l) h (by omega) hl).1
 show ob (zy v) _=_
 rw[hv]
 show (bif Nat.beq l.length n then _ else none)=_
 rw[hln,Nat.beq_refl]
 show ob (wx m ⟨B,o,none⟩ l) _=_
 rw[this];rfl
theorem VW {m:M}(hm:m.base<=m.n){zs l:List Value}{v:Value}{n:Nat}(hv:zy v=some l)(hz:zs.length=n)(hln:l.length=n)(hl:∀v∈l,okC v=true) :
  wt n (.pointer (some ⟨m.n,0,none⟩)) v (newRow m zs)=some (undef,ji (newRow m zs) m.n 0 l)/\Arr (ji (newRow m zs) m.n 0 l) m.n (over zs 0 l)/\Ext m (ji (newRow m zs) m.n 0 l)/\m.n<(ji (newRow m zs) m.n 0 l).n:=by
 have h:=Arr.row m zs
 refine⟨kf h hv hln (by omega) hl,(wD (o:=0) (l:=l) h (by omega) hl).2.1,qao h (by omega) hl (qgq _) hm (Ext.row _ _),?_⟩
 rw[(wD (o:=0) (l:=l) h (by omega) hl).2.2.1,qz];omega
theorem Xr:∀(l zs:List Value) (p:List Value),zs.length=l.length->over (p++zs) p.length l=p++l
 | [],zs,p,h=>by cases zs<;>simp_all [over]
 | v::l,zs,p,h=>by
  cases zs with
  | nil=>simp at h
  | cons z zs =>
   unfold over
   have:=Xr l zs (p++[v]) (by simpa using h)
   simp at this ⊢
   exact this
theorem kG {l zs:List Value}(h:zs.length=l.length):over zs 0 l=l:=Xr l zs [] h
abbrev SeqR (c a b:SC):Prop:=∀(x:Ex) (n:K) (e:Nat->K) (r:K) (t:Tm) (m:M),c x n e r t m=a x (b x n e r) e r t m
abbrev BlockR (c:SC)(id:Nat)(a:SC):Prop:=∀(x:Ex) (n:K) (e:Nat->K) (r:K) (t:Tm) (m:M),c x n e r t m=a x n (jN id n e) r t m
theorem wQ {c a b:SC}(h:c=qb a b):SeqR c a b:=by subst h;exact λ_ _ _ _ _ _=>rfl
theorem fM {c:SC}{id:Nat}{a:SC}(h:c=qn id a):BlockR c id a:=by subst h;exact λ_ _ _ _ _ _=>rfl
theorem qae {c:List DA}{a:DA}{l:List DA}(h:c=a::l):∀(x:Ex) (k:List (Nat × FP)->K) (f:List (Nat × FP)) (t:Tm) (m:M),Gh x c k f t m=Gg x a (Gh x l k) f t m:=by subst h;exact λ_ _ _ _ _=>rfl
theorem qR {c a:SC}(hc:c=kh a){x:Ex}{kn kr:K}{ke:Nat->K}(Q:Option Out->Prop)(I:Nat->Tm->M->Prop)(len:Nat)(hlen:len<=9223372036854775807){t:Tm}{m:M}(h0:I 0 t m)
  (round:∀i t m (k:K),i<=len->I i t m->(i<len->∀t' m',I (i+1) t' m'->Q (k t' m'))->Q (a x k ke kr t m)):Q (c x kn ke kr t m):=by
 subst hc;exact qb0 Q I len hlen round h0
theorem jE {m:M}(hm:m.base<=m.n){zs l:List Value}{v:Value}{n:Nat}(hv:zy v=some l)(hz:zs.length=n)(hln:l.length=n)(hl:∀v∈l,okC v=true) :
  ∃m2,wt n (.pointer (some ⟨m.n,0,none⟩)) v (newRow m zs)=some (undef,m2)/\(∀o s,load1 m2 ⟨m.n,o,s⟩=l[o]?)/\(∀s,loads m2 ⟨m.n,0,s⟩ n=some l)/\Ext m m2/\m.n<m2.n:=by
 obtain⟨h1,h2,h3,h4⟩:=VW hm hv hz hln hl
 rw[kG (by omega)]at h2
 exact⟨_,h1,λo s=>h2.load1 o s,λs=>by rw[h2.loads (by omega),List.drop_zero,<-hln,List.take_length],h3,h4⟩
@[simp] theorem qgi (x:Ex) (t:Tm) (m:M) (e n:Nat) (zs:List Value) (ps:List (Nat × Nat × V)):qX e n zs ps x t m=ki e n zs (evP ps t) m:=_root_.id rfl
@[simp] theorem qg6 (m:M) (z:Value) (k:IntKind) (a:Int):ki 1 1 (rep 1 [z]) [(0,1,.int k a)] m=some (.slice (some ⟨m.n,0,some 3⟩) 1 1,newRow m [.int k a]):=_root_.id rfl
theorem xm {m:M}{B:Nat}(h:m.base<=B)(o:zV):(m.put B o).log=m.log:=by
 cases m with | mk a b bs wl =>
 show note bs B wl=wl
 have h':Nat.ble bs B=true:=qgv h
 unfold note
 rw[h'];rfl
theorem Jx {c:C}{v:Value}{i:Nat}(h:A.get none i c=some v):alive c=true:=by
 cases c with
 | lf=>rw[A.get_lf]at h;cases h
 | _=>rfl
def Grown {α:Type}(m0 m:M)(v:Value)(e:Nat)(f:α->List Value)(es:List α):Prop :=
 (es=[]/\v=.slice none 0 0)\/∃B,m0.n<=B/\B<m.n/\es≠[]/\v=.slice (some ⟨B,0,some (code e false)⟩) es.length es.length/\Arr m B (es.flatMap f)
section
variable {α:Type}{m0 m m':M}{v:Value}{e:Nat}{f:α->List Value}{es:List α}
theorem Grown.nil:Grown m0 m (.slice none 0 0) e f ([]:List α):=.inl ⟨rfl,rfl⟩
theorem Grown.keep (h:Grown m0 m v e f es)(hn:m.n<=m'.n)(k:∀B,B<m.n->blk v=some B->m'.obj B=m.obj B):Grown m0 m' v e f es:=by
 rcases h with h | ⟨B,h1,h2,h3,rfl,h5⟩
 .exact .inl h
 .exact .inr ⟨B,h1,by omega,h3,rfl,h5.congr (k B h2 rfl)⟩
theorem Grown.ext (h:Grown m0 m v e f es)(k:Ext m m'):Grown m0 m' v e f es:=h.keep k.n λB hB _=>k.obj B hB
theorem Grown.lens (h:Grown m0 m v e f es):za v=some (.int .i64 es.length):=by
 rcases h with ⟨rfl,rfl⟩ | ⟨B,h1,h2,h3,rfl,h5⟩<;>rfl
theorem wP (hf:∀x,(f x).length=e):∀es:List α,(es.flatMap f).length=es.length*e
 | []=>by simp
 | x::es=>by simp[hf x,wP hf es,Nat.succ_mul,Nat.add_comm]
theorem jz (hf:∀x,(f x).length=e):∀(es:List α) (i:Nat) (x:α),es[i]?=some x->((es.flatMap f).drop (i*e)).take e=f x
 | [],i,x,h=>by simp at h
 | y::es,0,x,h=>by
  simp at h;subst h
  simp[<-hf y]
 | y::es,i+1,x,h=>by
  simp at h
  rw[List.flatMap_cons,List.drop_append,Nat.succ_mul,hf y,List.drop_eq_nil_of_le (by rw[hf y];omega),List.nil_append,Nat.add_sub_cancel]
  exact jz hf es i x h
theorem Grown.rd (hf:∀x,(f x).length=e)(h:Grown m0 m v e f es):Rd m v e f es:=by
 refine⟨h.lens,λi r hr=>?_,?_,?_⟩
 rotate_left
 .rcases h with ⟨rfl,rfl⟩ | ⟨B,h1,h2,h3,rfl,h5⟩
  .rfl
  .show loads m ⟨B,0,some (code e false)⟩ (es.length*e)=_
   have hlen:=wP hf es
   rw[h5.loads (by omega),List.drop_zero,<-hlen,List.take_length]
 .rcases h with ⟨rfl,rfl⟩ | ⟨B,h1,h2,h3,rfl,h5⟩
  .intro B hB;cases hB
  .intro C hC;cases hC;exact h2
 have hi:i<es.length:=(qgp.1 hr).1
 rcases h with ⟨rfl,rfl⟩ | ⟨B,h1,h2,h3,rfl,h5⟩
 .simp at hi
 .refine⟨?_,h2,?_⟩
  .show (bif Nat.blt i es.length then WW (i*e) _ else none)=_
   rw[show Nat.blt i es.length=true from qgv hi];rfl
  .show loads m ⟨B,0+i*e,none⟩ e=_
   have:=qh8 e (Nat.succ_le_of_lt hi)
   rw[h5.loads (by rw[wP hf,Nat.zero_add];rw[Nat.succ_mul]at this;omega),Nat.zero_add,jz hf es i r hr]
theorem QO:∀{l:List Value},(∀v∈l,okC v=true)->fE l=true
 | [],_=>rfl
 | v::l,h=>by unfold fE;rw[h v (qh6 ..),QO λu hu=>h u (qgy _ hu)];rfl
theorem Grown.core (h:Grown m0 m v e f es)(he:0<e)(hf:∀x,(f x).length=e)(hok:∀x,∀v∈f x,okC v=true){x:α}{X:Nat}{sp:Option Nat}
  (hx:loads m ⟨X,0,sp⟩ e=some (f x)) (h0:m0.n<=m.n) {bytes:Nat} (hm:(es.length+1)*bytes<=most) (hn:es.length+1<=4611686018427387904) :
  ∃v' m',wY m e bytes v (.slice (some ⟨X,0,sp⟩) 1 1)=some (v',m')/\Grown m0 m' v' e f (es++[x])/\m.n<m'.n/\m'.base=m.base/\(m'.log=m.log\/∃B,blk v=some B/\m0.n<=B/\m'.log=note m.base B m.log)/\(∀B,B<m.n->blk v≠some B->m'.obj B=m.obj B)/\(∀B,blk v'=some B->m.n<=B):=by
 have hk:(Nat.ble ((es.length+1)*bytes) most&&Nat.ble (es.length+1) 4611686018427387904)=true:=by rw[qgv hm,qgv hn];rfl
 have hfi:kl m e 1 (.slice (some ⟨X,0,sp⟩) 1 1)=some (f x):=by unfold kl;rw[Nat.one_mul];exact hx
 have hal:fE (es.flatMap f++f x)=true:=QO λu hu=>by
  simp only[qhc,List.mem_flatMap]at hu
  rcases hu with ⟨y,_,h⟩ | h
  .exact hok y u h
  .exact hok x u h
 have hfl:(es++[x]).flatMap f=es.flatMap f++f x:=by simp
 rcases h with ⟨rfl,rfl⟩ | ⟨B,h1,h2,h3,rfl,h5⟩
 .refine⟨_,_,?_,.inr ⟨m.n,h0,by rw[qz];omega,by simp,rfl,by simpa using Arr.row m (f x)⟩,by rw[qz];omega,(Ext.row m (f x)).base,.inl (Ext.row m (f x)).log,
   λB hB _=>(Ext.row m (f x)).obj B hB,λB hB=>by cases hB;exact qgq _⟩
  show ob (kl m e 1 _) _=_
  rw[hfi,qS]
  unfold QP
  have hlt:Nat.ble (0+1) 0=false:=rfl
  have hk':(Nat.ble ((0+1)*bytes) most&&Nat.ble (0+1) 4611686018427387904)=true:=hk
  rw[hlt,cond_false,hk',cond_true]
  rfl
 .have hlt:Nat.ble (es.length+1) es.length=false:=by
   cases q:Nat.ble (es.length+1) es.length with
   | false=>rfl
   | true=>exact absurd (qgw q) (by omega)
  obtain⟨c,hc,hcl⟩:=id h5
  have hpos:0<es.length:=List.length_pos_iff.2 h3
  have hlen:=wP hf es
  have hne:0<(es.flatMap f).length:=by rw[hlen];exact Nat.mul_pos hpos he
  have ha:alive c=true:=Jx (i:=0) (by rw[hcl,qgn hne])
  refine⟨.slice (some ⟨m.n,0,some (code e false)⟩) (es.length+1) (es.length+1),(m.put B (.cells .lf)).alloc (.cells (mkn .lf 0 (es.flatMap f++f x))),?_,
   .inr ⟨m.n,h0,by rw[M.n_alloc,M.n_put];omega,by simp,by simp,?_⟩,by rw[M.n_alloc,M.n_put];omega,by rw[M.base_alloc,M.base_put],.inr ⟨B,rfl,h1,by rw[M.log_alloc];cases m;rfl⟩,λY hY hne'=>?_,λY hY=>by cases hY;exact qgq _⟩
  .show ob (kl m e 1 _) _=_
   rw[hfi,qS]
   unfold QP
   rw[hlt,cond_false,hk,cond_true]
   have hold:kl m e es.length (.slice (some ⟨B,0,some (code e false)⟩) es.length es.length)=some (es.flatMap f):=by
    show loads m ⟨B,0,some (code e false)⟩ (es.length*e)=_
    rw[h5.loads (by omega),List.drop_zero,<-hlen,List.take_length]
   rw[hold,qS]
   unfold Ws
   have hx':fC (code e false)=false:=by
    show Nat.beq (2*e%2) 1=false
    rw[show 2*e%2=0 by omega];rfl
   have hcd:Nat.beq (code e false/2) e=true:=by
    show Nat.beq (2*e/2) e=true
    rw[show 2*e/2=e by omega];exact Nat.beq_refl e
   show ob (some (code e false)) _=_
   rw[qS,hx',cond_false]
   show ob (vN (m.obj B)) _=_
   rw[hc]
   show (bif alive c&&Nat.beq (code e false/2) e&&fE (es.flatMap f++f x)&&Nat.blt 0 HI then _ else _)=_
   rw[ha,hcd,hal,show Nat.blt 0 HI=true from qgv (by unfold HI;omega)]
   rfl
  .rw[hfl]
   refine⟨_,by rw[M.obj_alloc,M.n_put,if_pos rfl],λi=>?_⟩
   rw[zZ,A.get_lf]
   split
   .simp
   .rename_i h;rw[qha (by omega)]
  .rw[M.obj_alloc,M.n_put,if_neg (by omega),M.obj_put,if_neg (by rintro rfl;exact hne' rfl)]
theorem QC {bs B:Nat}{wl:List Nat}(h:bs<=B):note bs B wl=wl:=by unfold note;rw[qgv h];rfl
theorem Grown.append (h:Grown m0 m v e f es)(hE:Ext m0 m)(hb:m0.base<=m0.n)(he:0<e)(hf:∀x,(f x).length=e)(hok:∀x,∀v∈f x,okC v=true){x:α}{X:Nat}{sp:Option Nat}
  (hx:loads m ⟨X,0,sp⟩ e=some (f x)) {bytes:Nat} (hm:(es.length+1)*bytes<=most) (hn:es.length+1<=4611686018427387904) :
  ∃v' m',wY m e bytes v (.slice (some ⟨X,0,sp⟩) 1 1)=some (v',m')/\Ext m0 m'/\Grown m0 m' v' e f (es++[x])/\m.n<=m'.n/\(∀B,B<m.n->blk v≠some B->m'.obj B=m.obj B)/\(∀B,blk v'=some B->m.n<=B):=by
 have hlow:∀B,blk v=some B->m0.n<=B:=λB hB=>by
  rcases h with ⟨rfl,rfl⟩ | ⟨B',h1,_,_,rfl,_⟩
  .cases hB
  .cases hB;exact h1
 obtain⟨v',m',h1,h2,h3,h4,h5,h6,h7⟩:=h.core he hf hok hx hE.n hm hn
 refine⟨v',m',h1,⟨by have:=hE.n;omega,λB hB=>(h6 B (by have:=hE.n;omega) λhc=>by have:=hlow B hc;omega).trans (hE.obj B hB),by rw[h4,hE.base],?_⟩,h2,by omega,h6,h7⟩
 rcases h5 with h5 | ⟨B,_,hB,h5⟩
 .rw[h5,hE.log]
 .rw[h5,QC (by rw[hE.base];omega),hE.log]
theorem Grown.appendAny (h:Grown m0 m v e f es)(hE:Ext m0 m)(hb:m0.base<=m0.n)(he:0<e)(hf:∀x,(f x).length=e)(hok:∀x,∀v∈f x,okC v=true){x:α}{X:Nat}{sp:Option Nat}
  (hx:loads m ⟨X,0,sp⟩ e=some (f x)) {bytes:Nat} (hm:(es.length+1)*bytes<=most) (hn:es.length+1<=4611686018427387904) :
  ∃v' m',wY (qc m) e bytes v (.slice (some ⟨X,0,sp⟩) 1 1)=some (v',m')/\(m'.log=[]\/∃B,blk v=some B/\m'.log=[B])/\Ext m0 (behind m m')/\Grown m0 (behind m m') v' e f (es++[x])/\m.n<=(behind m m').n/\(∀B,B<m.n->blk v≠some B->(behind m m').obj B=m.obj B)/\(∀B,blk v'=some B->m.n<=B):=by
 have hlow:∀B,blk v=some B->m0.n<=B/\B<m.n:=λB hB=>by
  rcases h with ⟨rfl,rfl⟩ | ⟨B',h1,h2,_,rfl,_⟩
  .cases hB
  .cases hB;exact⟨h1,h2⟩
 have hA:Grown m0 (qc m) v e f es:=h.keep (by rw[qt];exact qgq _) λB _ _=>qm _ _
 have hx':loads (qc m) ⟨X,0,sp⟩ e=some (f x):=by unfold loads cellsOf at hx ⊢;rw[qm];exact hx
 obtain⟨v',m',h1,h2,h3,h4,h5,h6,h7⟩:=hA.core he hf hok hx' (by rw[qt];exact hE.n) hm hn
 rw[qt]at h3 h6 h7
 have hlog:m'.log=[]\/∃B,blk v=some B/\m'.log=[B]:=by
  rcases h5 with h5 | ⟨B,hB,_,h5⟩
  .exact .inl (by rw[h5,wh])
  .refine .inr ⟨B,hB,?_⟩
   rw[h5,wW,wh]
   have:=(hlow B hB).2
   unfold note
   have h':Nat.ble m.n B=false:=by
    cases q:Nat.ble m.n B with
    | false=>rfl
    | true=>exact absurd (qgw q) (by omega)
   rw[h'];rfl
 refine⟨v',m',h1,hlog,⟨by rw[wb];have:=hE.n;omega,λB hB=>?_,by rw[kj,hE.base],?_⟩,h2.keep (by rw[wb];exact qgq _) λB _ _=>qx _ _ _,by rw[wb];omega,λB hB hne=>by rw[qx,h6 B hB hne,qm],h7⟩
 .rw[qx,h6 B (by have:=hE.n;omega) λhc=>by have:=(hlow B hc).1;omega,qm];exact hE.obj B hB
 .rw[km,<-hE.log]
  rcases hlog with h | ⟨B,hB,h⟩
  .rw[h];rfl
  .rw[h]
   show notes m.base (note m.base B m.log) []=m.log
   rw[QC (by rw[hE.base];have:=(hlow B hB).1;omega)];rfl
end
@[simp] theorem extract_0 (a:Value) (l:List Value):vf 0 (.tuple ⟨a::l⟩)=some a:=_root_.id rfl
@[simp] theorem extract_1 (a b:Value) (l:List Value):vf 1 (.tuple ⟨a::b::l⟩)=some b:=_root_.id rfl
@[simp] theorem extract_2 (a b c:Value) (l:List Value):vf 2 (.tuple ⟨a::b::c::l⟩)=some c:=_root_.id rfl
@[simp] theorem pNilck_p (a:Addr):dD (.pointer (some a))=some (.pointer (some a)):=_root_.id rfl
@[simp] theorem mCallv_ap (f:V) (l:List V) (x:Ex) (t:Tm) (m:M):jq f l x t m=vA x (evs t l) m (f t):=_root_.id rfl
@[simp] theorem jo (x:Ex) (l:List Value) (m:M) (g:Nat) (u v:List Value):vA x l m (.func (.func g) ⟨u⟩ ⟨v⟩)=x.f g (u++l++v) m:=_root_.id rfl
@[simp] theorem qgj (tab:List (Nat × Nat)) (f:V) (l:List V) (x:Ex) (t:Tm) (m:M):zG tab f l x t m=Qx x tab (evs t l) m (f t):=_root_.id rfl
@[simp] theorem qe8 (x:Ex) (tab:List (Nat × Nat)) (l:List Value) (m:M) (t:Nat) (v:Value):Qx x tab l m (.iface t v)=ob (Yz tab t) λf=>x.f f (v::l) m:=_root_.id rfl
@[simp] theorem pMkfn_ap (g:Nat) (a b:List V) (t:Tm):fI g a b t=some (.func (.func g) ⟨evs t a⟩ ⟨evs t b⟩):=_root_.id rfl
end
def Sp (e:Nat)(v:Value):Prop:=v=.slice none 0 0\/∃B o l c x,v=.slice (some ⟨B,o,some (code e x)⟩) l c/\l<=c
end Go.Dx
namespace Go.Dx
noncomputable section
@[simp] theorem GP (m:M) (a:Addr) (n:Nat):loads (qc m) a n=loads m a n:=by unfold loads cellsOf;rw[qm]
@[simp] theorem Zy (m m':M) (a:Addr):load1 (behind m m') a=load1 m' a:=by unfold load1 cellsOf;rw[qx]
@[simp] theorem meets_nil (l:List (Nat × FP)) (x:FP):meets l x []=true:=rfl
theorem yE {bs:Nat}{wl:List Nat}:∀{l:List Nat},(∀B∈l,bs<=B)->notes bs wl l=wl
 | [],_=>rfl
 | B::l,h=>by
  show notes bs (note bs B wl) l=wl
  have:note bs B wl=wl:=by unfold note;rw[qgv (h B (qh6 ..))];rfl
  rw[this];exact yE λC hC=>h C (qgy _ hC)
structure St (m0 m:M)(σ:List (Nat × List Value)):Prop where
 ext:Ext m0 m
 base:m0.base<=m0.n
 arr:∀p∈σ,m0.n<=p.1/\p.1<m.n/\Arr m p.1 p.2
 nd:(σ.map (·.1)).Nodup
def yl (m:M):List (Nat × List Value)->Prop
 | []=>True
 | p::σ=>(∀o s,load1 m ⟨p.1,o,s⟩=p.2[o]?)/\yl m σ
section
variable {m0 m m':M}{σ:List (Nat × List Value)}{k b o:Nat}{l:List Value}{v:Value}
theorem St.nil (h:m0.base<=m0.n)(e:Ext m0 m):St m0 m []:=⟨e,h,(by simp),(by simp)⟩
theorem St.loads (h:St m0 m σ):yl m σ:=by
 have:=h.arr
 clear h
 induction σ with
 | nil=>trivial
 | cons p σ ih=>exact⟨λo s=>(this p (qh6 ..)).2.2.load1 o s,ih λq hq=>this q (qgy _ hq)⟩
theorem St.get (h:St m0 m σ)(k:Nat)(hk:σ[k]?=some (b,l)):m0.n<=b/\b<m.n/\Arr m b l:=h.arr _ (qgo hk)
theorem St.keep (h:St m0 m σ)(e:Ext m0 m')(hn:m.n<=m'.n)(ho:∀B,m0.n<=B->B<m.n->m'.obj B=m.obj B):St m0 m' σ :=
 ⟨e,h.base,λp hp=>let ⟨h1,h2,h3⟩:=h.arr p hp;⟨h1,by omega,h3.congr (ho _ h1 h2)⟩,h.nd⟩
theorem St.step (h:St m0 m σ)(e:Ext m m'):St m0 m' σ:=h.keep (h.ext.trans e) e.n λB _ hB=>e.obj B hB
theorem St.sees (h:St m0 m σ):Sees m0 m:=(Sees.refl h.base).ext h.ext
theorem St.behind (h:St m0 m σ)(e:Ext (qc m) m'):St m0 (behind m m') σ:=h.step e.behind
theorem St.row (h:St m0 m σ)(l:List Value):St m0 (newRow m l) ((m.n,l)::σ):=by
 have h':=h.step (Ext.row m l)
 refine⟨h'.ext,h.base,λp hp=>?_,?_⟩
 .rcases List.mem_cons.1 hp with rfl | hp
  .exact⟨h.ext.n,by rw[qz];exact Nat.lt_succ_self _,Arr.row m l⟩
  .exact h'.arr p hp
 .rw[List.map_cons,List.nodup_cons]
  refine⟨λhm=>?_,h.nd⟩
  obtain⟨q,hq,e⟩:=List.mem_map.1 hm
  have:=(h.arr q hq).2.1
  omega
theorem xp {σ:List (Nat × List Value)}(hn:(σ.map (·.1)).Nodup){i j:Nat}{p q:Nat × List Value}(hi:σ[i]?=some p)(hj:σ[j]?=some q)(h:p.1=q.1):i=j:=by
 obtain⟨hi',rfl⟩:=qgp.1 hi
 obtain⟨hj',rfl⟩:=qgp.1 hj
 have key:∀(l:List Nat),l.Nodup->∀(i j:Nat) (x:Nat),l[i]?=some x->l[j]?=some x->i=j:=by
  intro l
  induction l with
  | nil=>intro _ i j x h;simp at h
  | cons a l ih =>
   intro hn i j x h1 h2
   rw[List.nodup_cons]at hn
   cases i with
   | zero =>
    cases j with
    | zero=>rfl
    | succ j=>simp at h1 h2;subst h1;exact absurd (qgo h2) hn.1
   | succ i =>
    cases j with
    | zero=>simp at h1 h2;subst h2;exact absurd (qgo h1) hn.1
    | succ j=>simp at h1 h2;rw[ih hn.2 i j x h1 h2]
 exact key _ hn i j (σ[i]'hi').1 (by rw[qh4,qgn hi'];rfl) (by rw[qh4,qgn hj',h];rfl)
theorem St.put' (h:St m0 m σ)(k:Nat)(hk:σ[k]?=some (b,l)){l':List Value}(hn:m'.n=m.n)(hb:m'.base=m.base)(hlog:m'.log=m.log)(ho:∀X,X≠b->m'.obj X=m.obj X)(ha:Arr m' b l'):St m0 m' (σ.set k (b,l')):=by
 obtain⟨hk',hke⟩:=qgp.1 hk
 have hb0:=(h.get k hk).1
 refine⟨⟨by rw[hn];exact h.ext.n,λX hX=>by rw[ho X (by omega)];exact h.ext.obj X hX,by rw[hb,h.ext.base],by rw[hlog,h.ext.log]⟩,h.base,λp hp=>?_,?_⟩
 .obtain⟨j,hj,rfl⟩:=List.getElem_of_mem hp
  rw[List.getElem_set]
  rw[List.length_set]at hj
  split
  .exact⟨hb0,by rw[hn];exact (h.get k hk).2.1,ha⟩
  .rename_i hne
   obtain⟨h1,h2,h3⟩:=h.arr _ (List.getElem_mem hj)
   refine⟨h1,by rw[hn];exact h2,h3.congr (ho _ λe=>hne ?_)⟩
   exact (xp h.nd (qgn hj) hk e).symm
 .have:(σ.set k (b,l')).map (·.1)=σ.map (·.1):=by
   rw[List.map_set]
   show (σ.map (·.1)).set k b=_
   refine List.ext_getElem (by simp) λi h1 h2=>?_
   rw[List.getElem_set]
   split
   .subst_vars;simp[hke]
   .rfl
  rw[this];exact h.nd
theorem St.store (h:St m0 m σ)(k:Nat)(hk:σ[k]?=some (b,l))(ho:o<l.length)(hv:okC v=true) :
  ∃m',wt 1 (.pointer (some ⟨b,o,none⟩)) v m=some (undef,m')/\St m0 m' (σ.set k (b,l.set o v))/\m'.n=m.n/\(∀X,X≠b->m'.obj X=m.obj X):=by
 obtain⟨h1,h2,h3⟩:=h.get k hk
 have hcv:zy v=some [v]:=by cases v<;>first | rfl | simp[okC]at hv
 have e:=kf (n:=1) (o:=o) h3 hcv rfl (by omega) (by simpa using hv)
 obtain⟨_,s2,s3,s4,s5,s6⟩:=wD (o:=o) (l:=[v]) h3 (by simp;omega) (by simpa using hv)
 exact⟨_,e,h.put' k hk s3 s4 (s6 (by have:=h.ext.base;have:=h.base;omega)) s5 s2,s3,s5⟩
theorem St.storeAny (h:St m0 m σ)(k:Nat)(hk:σ[k]?=some (b,l))(ho:o<l.length)(hv:okC v=true) :
  ∃m',wt 1 (.pointer (some ⟨b,o,none⟩)) v (qc m)=some (undef,m')/\m'.log=[b]/\St m0 (Dx.behind m m') (σ.set k (b,l.set o v))/\(Dx.behind m m').n=m.n/\(∀X,X≠b->(Dx.behind m m').obj X=m.obj X):=by
 obtain⟨h1,h2,h3⟩:=h.get k hk
 have hcv:zy v=some [v]:=by cases v<;>first | rfl | simp[okC]at hv
 have h3':Arr (qc m) b l:=h3.congr (qm m b)
 have e:=kf (n:=1) (o:=o) h3' hcv rfl (by omega) (by simpa using hv)
 obtain⟨s1,s2,s3,s4,s5,s6⟩:=wD (o:=o) (l:=[v]) h3' (by simp;omega) (by simpa using hv)
 have hlog:(ji (qc m) b o [v]).log=[b]:=by
  obtain⟨c,hc,hcl⟩:=h3'
  have:∃c',wx (qc m) ⟨b,o,none⟩ [v]=some ((qc m).put b (.cells c')):=by
   have hs:wx (qc m) ⟨b,o,none⟩ [v]=ob (vN ((qc m).obj b)) λc=>ob (stn c o [v]) λc'=>some ((qc m).put b (.cells c')):=rfl
   rw[hs,hc]
   obtain⟨c',e',_⟩:=dS (vs:=[v]) (o:=o) hcl (by simp;omega) (by simpa using hv)
   exact⟨c',by show ob (stn c o [v]) _=_;rw[e'];rfl⟩
  obtain⟨c',e'⟩:=this
  have hp:ji (qc m) b o [v]=(qc m).put b (.cells c'):=by unfold ji;rw[e'];rfl
  rw[hp]
  cases m with | mk a nx bs wl =>
  show note nx b []=[b]
  have h2':b<nx:=h2
  unfold note
  have:Nat.ble nx b=false:=by
   cases q:Nat.ble nx b with
   | false=>rfl
   | true=>exact absurd (qgw q) (by omega)
  rw[this];rfl
 refine⟨_,e,hlog,h.put' k hk (by rw[wb,s3,qt]) (kj _ _) ?_ (λX hX=>by rw[qx,s5 X hX,qm]) (s2.congr (qx _ _ _)),by rw[wb,s3,qt],λX hX=>by rw[qx,s5 X hX,qm]⟩
 rw[km,hlog]
 refine yE λB hB=>?_
 rw[qgu.1 hB,h.ext.base]
 have:=h.base
 omega
end
@[simp] theorem vFn_f (g:Nat) (u v:Array Value):vFn (.func (.func g) u v)=some (g,u,v):=_root_.id rfl
theorem sRf_ap (o:V)(nt:Nat)(ps:Array Tmp)(a b:Code)(ks:List Nat)(x:Ex)(kn kr:K)(ke:Nat->K)(t:Tm)(m:M):sRf o nt ps a b ks x kn ke kr t m=obp (vFn (o t)) λg uv=>rfGo nt ps a b ks x kn ke kr t m g uv.1 uv.2:=rfl
theorem qf0 (nt:Nat)(ps:Array Tmp)(a b:Code)(ks:List Nat)(x:Ex)(kn kr:K)(ke:Nat->K)(t:Tm)(m:M)(g:Nat)(u v:Array Value) :
  rfGo nt ps a b ks x kn ke kr t m g u v=obp (x.f g (u.toList++[.func (.yield m.n) #[] #[]]++v.toList) (m.alloc (.loop 0 (xj ks t) nt ps a b none))) (endL m.n t kn ke kr):=rfl
theorem WO {c:SC}{o:V}{nt:Nat}{ps:Array Tmp}{a b:Code}{ks:List Nat}(hc:c=sRf o nt ps a b ks){x:Ex}{kn kr:K}{ke:Nat->K}{t:Tm}{m:M}{Q:Option Out->Prop}{g:Nat}{u v:List Value}(ho:o t=.func (.func g) ⟨u⟩ ⟨v⟩)
  {r:Value} {m1:M} (hf:x.f g (u++[.func (.yield m.n) #[] #[]]++v) (m.alloc (.loop 0 (xj ks t) nt ps a b none))=some (r,m1)) {st:Nat} {t':Tm} {pend:Option E} (hl:m1.obj m.n=some (.loop st t' nt ps a b pend)) (hst:st≠1)
  (hq:Q (vI kn ke kr pend t (m1.put m.n (.loop 3 t' nt ps a b pend)))):Q (c x kn ke kr t m):=by
 have e:c x kn ke kr t m=vI kn ke kr pend t (m1.put m.n (.loop 3 t' nt ps a b pend)):=by
  rw[hc,sRf_ap,ho,vFn_f,KM,qf0]
  show obp (x.f g (u++[.func (.yield m.n) #[] #[]]++v) _) _=_
  rw[hf,KM]
  show (match m1.obj m.n with | some (.loop st t' nt ps a b pend)=>bif Nat.beq st 1 then none else vI kn ke kr pend t (m1.put m.n (.loop 3 t' nt ps a b pend)) | _=>none)=_
  rw[hl]
  show (bif Nat.beq st 1 then none else _)=_
  have:Nat.beq st 1=false:=by
   cases q:Nat.beq st 1 with
   | false=>rfl
   | true=>exact absurd (qh0 q) hst
  rw[this];rfl
 rw[e];exact hq
def Rnd (P:Option E->M->Prop):Option Out->Prop:=λo=>∃e m,o=some ⟨e,.blank,m⟩/\P e m
theorem zJ {P:Option E->M->Prop}{e:Option E}{t:Tm}{m:M}(h:P e m):Rnd P (zW e t m):=⟨e,m,rfl,h⟩
theorem fy {P:Program}{n L:Nat}{t:Tm}{nt:Nat}{ps:Array Tmp}{a b:Code}{sa sb:SC}{args:List Value}{t' t'':Tm}{m:M}{R:Option E->M->Prop}(hobj:m.obj L=some (.loop 0 t nt ps a b none))(ha:cCode P nt a=some sa)(hb:cCode P nt b=some sb)
  (hp:fe nt t ps.toList args=some t') (hnt:nt<=512) (hsa:∀k:K,sa (ex P n) k noK (λ_ _=>none) t' m=k t'' m)
  (hrun:Rnd (λe m2=>m2.obj L=some (.loop 1 t nt ps a b none)/\R e m2) (sb (ex P n) (zW none) vZ (zW (some .ret)) t'' (m.put L (.loop 1 t nt ps a b none)))) :
  ∃e m2,m2.obj L=some (.loop 1 t nt ps a b none)/\R e m2/\(ex P (n+1)).y L args m=some (Value.bool e.isNone,m2.put L (.loop (match e with | none=>0 | some _=>2) t nt ps a b e)):=by
 obtain⟨e,m2,h1,h2,h3⟩:=hrun
 refine⟨e,m2,h2,h3,?_⟩
 show YF P (ex P n) L args m=_
 unfold YF
 rw[hobj]
 show ob (cCode P nt a) _=_
 rw[ha,qS,hb,qS,hp,qS,qgv hnt,cond_true,hsa]
 show ob (dN (ex P n) L sb t'' m) _=_
 unfold dN
 rw[hobj]
 show ob (sb (ex P n) (zW none) vZ (zW (some .ret)) t'' (m.put L (.loop 1 t nt ps a b none))) (y3 L)=_
 rw[h1,qS]
 cases e with
 | none=>show (match m2.obj L with | some (.loop _ t nt ps a b _)=>some (Value.bool true,m2.put L (.loop 0 t nt ps a b none)) | _=>none)=_;rw[h2];rfl
 | some e=>show (match m2.obj L with | some (.loop _ t nt ps a b _)=>some (Value.bool false,m2.put L (.loop 2 t nt ps a b (some e))) | _=>none)=_;rw[h2];rfl
theorem Rd.lenV {α:Type}{m:M}{v:Value}{e:Nat}{f:α->List Value}{es:List α}(h:Rd m v e f es):Dx.lenV v=some es.length:=by
 have hl:=h.len
 cases v with
 | slice a n cp =>
  have:some (Value.int .i64 (Int.ofNat n))=some (Value.int .i64 (es.length:Int)):=hl
  injection this with this;injection this with _ this
  show some n=_
  rw[Int.ofNat.inj this]
 | _=>cases hl
end
end Go.Dx
namespace Go.Dx
noncomputable section
theorem jQ {α:Type}{m:M}(hm:m.base<=m.n){v:Value}{e:Nat}{f:α->List Value}{es:List α}(h:Rd m v e f es)(hf:∀x,(f x).length=e)(bytes:Nat)(hb:es.length*bytes<=most)(hn:es.length<=4611686018427387904) :
  ∃v' m',wY (newRow m []) e bytes (.slice (some ⟨m.n,0,some (code e true)⟩) 0 0) v=some (v',m')/\Ext m m'/\Rd m' v' e f es/\(∀B,blk v'=some B->m.n<=B/\Arr m' B (es.flatMap f))/\(es≠[]->v'=.slice (some ⟨m.n+1,0,some (code e false)⟩) es.length es.length):=by
 have h':=h.sees ((Sees.refl hm).ext (Ext.row m []))
 have e0:wY (newRow m []) e bytes (.slice (some ⟨m.n,0,some (code e true)⟩) 0 0) v=QP (newRow m []) e bytes 0 0 es.length (some ⟨m.n,0,some (code e true)⟩) (es.flatMap f):=by
  show ob (lenV v) _=_
  rw[h.lenV,qS]
  show ob (kl (newRow m []) e es.length v) _=_
  rw[h'.all,qS]
 rw[e0]
 unfold QP
 by_cases hz:es=[]
 .subst hz
  refine⟨_,_,rfl,Ext.row m [],⟨rfl,λi r hr=>by simp at hr,?_,λB hB=>by cases hB;show m.n<_;rw[qz];omega⟩,λB hB=>by cases hB;exact⟨qgq _,Arr.row m []⟩,λh=>absurd rfl h⟩
  show loads (newRow m []) _ (0*e)=_
  rw[Nat.zero_mul,(Arr.row m []).loads (by simp)];rfl
 .have hpos:=List.length_pos_iff.2 hz
  have h1:Nat.ble (0+es.length) 0=false:=by
   cases q:Nat.ble (0+es.length) 0 with
   | false=>rfl
   | true=>have:=qgw q;omega
  rw[h1,cond_false,Nat.zero_add,qgv hb,qgv hn]
  show ∃v' m',ob (kl (newRow m []) e 0 (.slice (some ⟨m.n,0,some (code e true)⟩) 0 0)) _=_/\_
  have h2:kl (newRow m []) e 0 (.slice (some ⟨m.n,0,some (code e true)⟩) 0 0)=some []:=by
   show loads (newRow m []) _ (0*e)=_
   rw[Nat.zero_mul,(Arr.row m []).loads (by simp)];rfl
  rw[h2]
  have hx:fC (code e true)=true:=by
   show Nat.beq ((2*e+1)%2) 1=true
   rw[show (2*e+1)%2=1 by omega];rfl
  have hg:Ws (newRow m []) e es.length (some ⟨m.n,0,some (code e true)⟩) ([]++es.flatMap f)=some (.slice (some ⟨m.n+1,0,some (code e false)⟩) es.length es.length,newRow (newRow m []) (es.flatMap f)):=by
   unfold Ws
   show ob (some (code e true)) _=_
   rw[qS,hx,cond_true,qz];rfl
  have hA:Arr (newRow (newRow m []) (es.flatMap f)) (m.n+1) (es.flatMap f):=by have:=Arr.row (newRow m []) (es.flatMap f);rwa [qz]at this
  refine⟨_,_,hg,(Ext.row m []).trans (Ext.row _ _),?_,λB hB=>by cases hB;exact⟨Nat.le_succ _,hA⟩,λ_=>rfl⟩
  have hG:Grown m (newRow (newRow m []) (es.flatMap f)) (.slice (some ⟨m.n+1,0,some (code e false)⟩) es.length es.length) e f es:=.inr ⟨m.n+1,by omega,by rw[qz,qz];omega,hz,rfl,hA⟩
  exact hG.rd hf
@[simp] theorem eqNV_ap (n:Bool) (q:Value->Option Bool) (h:Bool) (x y:Value):eqNV n q h x y=ob (eqN q h x y) λb=>some (.bool (bif n then !b else b)):=_root_.id rfl
theorem gO {v:Value}{n:Int}(h:za v=some (.int .i64 n)):eqN yC true v (.slice none 0 0)=some (match v with | .slice none _ _=>true | _=>false):=by
 cases v with
 | slice a n c=>cases a<;>rfl
 | _=>cases h
end
end Go.Dx
namespace Go.Dx
noncomputable section
end
end Go.Dx
namespace Go.Dx
open Go.RowKit Go.WideShapes Go.ChangeShapes
noncomputable section
attribute [local irreducible] A.get A.set HI
def Qh (fz:Nat × Nat):Nat->List Value->C->C
 | _,[],c=>c
 | j,v::l,c=>Qh fz (j+1) l (match v with
  | .int k n=>if fz.1<=j/\j<fz.2 then c else A.set none (some (.int k n)) (j+HI) c
  | _=>c)
def qcj:Obj->zV
 | .cells cs _ fz=>.cells (Qh fz 0 cs.toList .lf)
 | _=>.cells .lf
def vw (l:List zV)(m:M):M:=l.foldl M.alloc m
def snap0 (w:World):M:=vw (w.heap.toList.map qcj) M.empty
def snapM (w:World):M:=qc (snap0 w)
def snapP (w:World):Phi:=λB=>match w.heap[B]? with
 | some (.cells cs _ _)=>some ⟨B,HI,cs.size⟩
 | _=>none
theorem fo (fz:Nat × Nat):∀(l:List Value) (j:Nat) (c:C) (i:Nat),A.get none i (Qh fz j l c)=if j+HI<=i/\i<j+HI+l.length then
  (match l[i-HI-j]? with
   | some (.int k n)=>if fz.1<=i-HI/\i-HI<fz.2 then A.get none i c else some (.int k n)
   | _=>A.get none i c) else A.get none i c
 | [],j,c,i=>by
  show A.get none i c=_
  rw[if_neg (by simp)]
 | v::l,j,c,i=>by
  unfold Qh
  rw[fo fz l (j+1)]
  by_cases h1:i=j+HI
  .subst h1
   rw[if_neg (by omega),if_pos (by simp),show j+HI-HI-j=0 by omega,List.getElem?_cons_zero,show j+HI-HI=j by omega]
   cases v with
   | int k n =>
    simp only
    by_cases hz:fz.1<=j/\j<fz.2
    .rw[if_pos hz,if_pos hz]
    .rw[if_neg hz,if_neg hz,A.get_set_same]
   | _=>rfl
  .have hc:A.get none i (match v with
     | .int k n=>if fz.1<=j/\j<fz.2 then c else A.set none (some (.int k n)) (j+HI) c
     | _=>c)=A.get none i c:=by
    cases v with
    | int k n =>
     simp only
     split
     .rfl
     .rw[A.get_set_ne _ _ h1]
    | _=>rfl
   by_cases h2:j+1+HI<=i/\i<j+1+HI+l.length
   .rw[if_pos h2,if_pos (by simp;omega),show i-HI-j=(i-HI-(j+1))+1 by omega,List.getElem?_cons_succ,hc]
   .rw[if_neg h2,if_neg (by simp;omega),hc]
theorem gx:∀(l:List zV) (m:M),(vw l m).n=m.n+l.length/\(vw l m).base=m.base/\(vw l m).log=m.log/\∀X,(vw l m).obj X=if m.n<=X/\X<m.n+l.length then l[X-m.n]? else m.obj X
 | [],m=>⟨rfl,rfl,rfl,λX=>by rw[if_neg (by simp)];rfl⟩
 | o::l,m=>by
  obtain⟨h1,h2,h3,h4⟩:=gx l (m.alloc o)
  rw[M.n_alloc]at h1 h4
  refine⟨by show (vw l (m.alloc o)).n=_;rw[h1];simp;omega,h2.trans (M.base_alloc _ _),h3.trans (M.log_alloc _ _),λX=>?_⟩
  show (vw l (m.alloc o)).obj X=_
  rw[h4 X]
  by_cases e:X=m.n
  .subst e
   rw[if_neg (by omega),if_pos (by simp),M.obj_alloc,if_pos rfl];simp
  .by_cases h:m.n+1<=X/\X<m.n+1+l.length
   .rw[if_pos h,if_pos (by simp;omega),show X-m.n=(X-(m.n+1))+1 by omega,List.getElem?_cons_succ]
   .rw[if_neg h,if_neg (by simp;omega),M.obj_alloc,if_neg e]
theorem snap_facts (w:World):(snapM w).n=w.heap.size/\(snapM w).base=w.heap.size/\(snapM w).log=[]/\∀X,(snapM w).obj X=(w.heap[X]?).map qcj:=by
 obtain⟨h1,h2,h3,h4⟩:=gx (w.heap.toList.map qcj) M.empty
 have hn:M.empty.n=0:=rfl
 have hn':(snap0 w).n=w.heap.size:=by show (vw _ _).n=_;rw[h1,hn];simp
 refine⟨by unfold snapM;rw[qt,hn'],by unfold snapM;rw[wW,hn'],wh _,λX=>?_⟩
 unfold snapM
 rw[qm]
 show (vw _ _).obj X=_
 rw[h4 X,hn]
 by_cases h:X<w.heap.size
 .rw[if_pos (by simp;omega)];simp[h]
 .rw[if_neg (by simp;omega),Array.getElem?_eq_none (by omega)]
  exact A3.get_lf none X
theorem R.snap (w:World):R (snapP w) (snapM w) w:=by
 obtain⟨h1,h2,h3,h4⟩:=snap_facts w
 refine⟨λB hB=>by rw[h4,Array.getElem?_eq_none (by omega)];rfl,λB l hB hl=>?_,λB₁ B₂ l₁ l₂ _ _ hl1 hl2 he hne=>?_⟩
 .unfold snapP at hl
  split at hl
  .rename_i cs e fz hx
   cases hl
   have hob:(snapM w).obj B=some (.cells (Qh fz 0 cs.toList .lf)):=by rw[h4,hx];rfl
   refine⟨.cells (Qh fz 0 cs.toList .lf),hob,cs,e,fz,hx,rfl,⟨λ_ h=>absurd h (Nat.lt_irrefl _),λi v hi=>?_⟩,λi v hi=>?_⟩
   .rw[fo]at hi
    split at hi
    .split at hi
     .split at hi
      .rw[A.get_lf]at hi;cases hi
      .assumption
     .rw[A.get_lf]at hi;cases hi
    .rw[A.get_lf]at hi;cases hi
   .rw[fo]at hi
    split at hi
    .rename_i hr
     split at hi
     .rename_i k n hg
      split at hi
      .rw[A.get_lf]at hi;cases hi
      .cases hi
       refine⟨by show HI<=i;omega,.int k n,?_,.int k n⟩
       rw[Nat.sub_zero]at hg
       simpa using hg
     .rw[A.get_lf]at hi;cases hi
    .rw[A.get_lf]at hi;cases hi
  .cases hl
 .unfold snapP at hl1 hl2
  split at hl1<;>cases hl1
  split at hl2<;>cases hl2
  exact absurd he hne
theorem Bx {w:World}{b i:Nat}{k:IntKind}{n:Int}(h:w.cell? ⟨b,i,none⟩=some (.int k n))(hz:w.frozen? ⟨b,i,none⟩=false)(s:Option Nat) :
  load1 (snapM w) ⟨b,i+HI,s⟩=some (.int k n)/\b<w.heap.size/\∃cs e fz,w.heap[b]?=some (.cells cs e fz)/\i<cs.size:=by
 obtain⟨h1,h2,h3,h4⟩:=snap_facts w
 unfold World.cell? at h
 split at h
 .rename_i cs e fz hx
  simp only[Option.isSome_none,Bool.false_eq_true,if_false]at h
  have hi:i<cs.size:=(qgr.1 h).1
  refine⟨?_,(qgr.1 hx).1,cs,e,fz,hx,hi⟩
  have hob:(snapM w).obj b=some (.cells (Qh fz 0 cs.toList .lf)):=by rw[h4,hx];rfl
  have hld:∀o,load1 (snapM w) ⟨b,o,s⟩=A.get none o (Qh fz 0 cs.toList .lf):=λo=>by unfold load1 cellsOf;rw[hob];rfl
  have hg:cs.toList[i]?=some (.int k n):=by simpa using h
  have hzz:¬(fz.1<=i/\i<fz.2):=by
   simp only[World.frozen?,hx]at hz
   simpa using hz
  rw[hld,fo]
  generalize HI=H
  rw[if_pos (by simp;omega),show i+H-H=i by omega,Nat.sub_zero,hg]
  simp only
  rw[if_neg hzz]
 .cases h
theorem snap_call {P:Program}{x:Ex}(hx:jn P x){g:Nat}{args:List Value}{w:World}{b:Bool}(h:CallV x g args (snapM w) (.bool b))(args':Array Value)(ha:VRels (snapP w) args args'.toList) :
  Calls P g args' w λe w'=>e=.returned (.bool b)/\Below w.heap.size w w':=by
 obtain⟨h1,h2,h3,h4⟩:=snap_facts w
 obtain⟨v,m',e,hE,rfl⟩:=h
 obtain⟨_,_,hc⟩:=hx.f _ _ _ _ _ e
 refine (hc (snapP w) w args' (R.snap w) ha (λB hB _=>?_)).mono ?_
 .unfold snapP;rw[h1]at hB;rw[Array.getElem?_eq_none (by omega)]
 .rintro e w' ⟨φ',v',rfl,_,hs,hr⟩
  refine⟨by rw[hr.bool_inv],hs.os,hs.tape,hs.output,hs.size,λk hk=>hs.frame k hk λB l hl hb ht=>?_⟩
  obtain⟨q1,q2,_⟩:=ht
  have hB:B<w.heap.size:=by rw[<-h1];exact q1
  rcases q2 with q | q
  .rw[hE.base,h2]at q;omega
  .rw[hE.log,h3]at q;cases q
theorem Xb {m:M}{B:Nat}{s:Option Nat}:∀(l:List Value) (o:Nat),l≠[]->(∀j,j<l.length->load1 m ⟨B,o+j,s⟩=l[j]?)->loads m ⟨B,o,s⟩ l.length=some l:=by
 intro l o hne h
 have h0:=h 0 (List.length_pos_iff.2 hne)
 unfold load1 at h0
 cases hc:cellsOf m B with
 | none =>
  simp only[hc]at h0
  have:l[0]?=none:=h0.symm
  rw[List.getElem?_eq_none_iff]at this
  exact absurd (List.length_eq_zero_iff.1 (by omega)) hne
 | some c =>
  have hg:∀j,j<l.length->A.get none (o+j) c=l[j]?:=λj hj=>by
   have:=h j hj
   unfold load1 at this
   simp only[hc]at this
   exact this
  unfold loads
  simp only[hc]
  show ldn c o l.length=some l
  have key:∀(l:List Value) (o:Nat),(∀j,j<l.length->A.get none (o+j) c=l[j]?)->ldn c o l.length=some l:=by
   intro l
   induction l with
   | nil=>intro o _;rfl
   | cons x l ih =>
    intro o hg
    rw[List.length_cons,gV]
    have h0:=hg 0 (by simp)
    rw[Nat.add_zero]at h0
    rw[h0,ih (o+1) (λj hj=>by have:=hg (j+1) (by simp;omega);rw[show o+(j+1)=o+1+j by omega]at this;rw[this,List.getElem?_cons_succ])]
    rfl
  exact key l o hg
section
variable {H:Type}{enc:TypeId × Value->H}{P:Program}{w:World}
theorem arg_slice {α:Type}[Inhabited α]{t e:TypeId}{sz:Nat}{f:α->List Value}{held:Bool}(ht:P.underlying t=some (.slice e))(hC:P.cellsOf e=sz)(hpos:0<sz)(hrow:∀n cs y,DataW.trod enc P w 0 (λ_=>true) held n e cs=some y->∃x:α,cs=f x)
  (hint:∀x,(f x).length=sz/\∀v∈f x,∃k n,v=.int k n) {v:Value} {y:DataW H × List MemPlace} {fuel:Nat} (hf:DataW.trod enc P w 0 (λ_=>true) held fuel t [v]=some y)
  (hsp:∀a l c,v=.slice (some a) l c->a.spot=none/\∃cs e fz,w.heap[a.block]?=some (.cells cs e fz)) (hz:∀b off,MemPlace.cell b off∈y.2->w.frozen? ⟨b,off,none⟩=false) :
  ∃av es,VRel (snapP w) av v/\Rd (snapM w) av sz f es/\((es=[]\/∃elems spare,y.1=.slice elems spare/\elems.length=es.length)/\Sp sz av):=by
 rcases DataW.trod_slice ht hf with ⟨hv,hy⟩ | ⟨a,len,cap,elems,rest,n,_,hv,hy,_,hlc,_,hel,hE,hR,_⟩
 .cases hv
  exact⟨.slice none 0 0,[],.slN,⟨rfl,λi r hr=>by simp at hr,rfl,λB hB=>by cases hB⟩,.inl rfl,.inl rfl⟩
 .cases hv
  obtain⟨hs0,cs0,e0,fz0,hh⟩:=hsp a len cap rfl
  obtain⟨b,off,spot⟩:=a
  simp only at hs0 hh
  subst hs0
  obtain⟨hrl,hR⟩:=hR rfl
  subst hy
  have hblt:b<w.heap.size:=(qgr.1 hh).1
  have hφ:snapP w b=some ⟨b,HI,cs0.size⟩:=by unfold snapP;rw[hh]
  have hex:∀i,i<cap->∃x:α,∀j,j<sz->w.cell? ⟨b,off+(i*sz+j),none⟩=(f x)[j]?:=λi hi=>by
   have key:∃z,(w.cells? 0 ((⟨b,off,none⟩:Addr).add (i*P.cellsOf e)) (P.cellsOf e)).bind (DataW.trod enc P w 0 (λ_=>true) held n e)=some z:=by
    by_cases h:i<len
    .exact⟨_,(hE i h).trans (qgn (by omega))⟩
    .have:=hR (i-len) (by omega)
     rw[show len+(i-len)=i by omega]at this
     exact⟨_,this.trans (qgn (by omega))⟩
   obtain⟨z,hz'⟩:=key
   rw[Option.bind_eq_some_iff]at hz'
   obtain⟨cs,hcs,hz'⟩:=hz'
   obtain⟨x,rfl⟩:=hrow _ _ _ hz'
   obtain⟨_,hl,hcell⟩:=World.cells?_some hcs
   refine⟨x,λj hj=>?_⟩
   have:=hcell j (by rw[hC];exact hj)
   rw[<-this,hC,add_plain,add_plain,Nat.add_assoc]
  obtain⟨X,hX⟩:∃X:Nat->α,∀i,i<cap->∀j,j<sz->w.cell? ⟨b,off+(i*sz+j),none⟩=(f (X i))[j]?:=by
   have hex':∀i,∃x:α,i<cap->∀j,j<sz->w.cell? ⟨b,off+(i*sz+j),none⟩=(f x)[j]?:=λi=>by
    by_cases h:i<cap
    .obtain⟨x,hx⟩:=hex i h;exact⟨x,λ_=>hx⟩
    .exact⟨default,λh'=>absurd h' h⟩
   exact⟨λi=>(hex' i).choose,λi hi=>(hex' i).choose_spec hi⟩
  have hfz:∀i j,i<cap->j<sz->w.frozen? ⟨b,off+(i*sz+j),none⟩=false:=λi j hi hj=>by
   refine hz b _ (List.mem_append_left _ ?_)
   unfold MemPlace.row
   refine List.mem_map.2 ⟨i*sz+j,?_,rfl⟩
   rw[List.mem_range,hel,hrl,hC,show len+(cap-len)=cap by omega]
   have:=qh8 sz (Nat.succ_le_of_lt hi)
   rw[Nat.succ_mul]at this
   omega
  have hcell:∀i j,i<cap->j<sz->∀s,load1 (snapM w) ⟨b,off+HI+(i*sz+j),s⟩=(f (X i))[j]?/\off+(i*sz+j)<cs0.size:=λi j hi hj s=>by
   have h1:=hX i hi j hj
   have hjl:j<(f (X i)).length:=by rw[(hint _).1];exact hj
   obtain⟨k,q,hkq⟩:=(hint (X i)).2 _ (List.getElem_mem hjl)
   rw[qgn hjl,hkq]at h1
   obtain⟨g1,_,cs,e',fz,g2,g3⟩:=Bx h1 (hfz i j hi hj) s
   rw[hh]at g2;cases g2
   refine⟨?_,g3⟩
   rw[qgn hjl,hkq,<-g1]
   congr 2
   omega
  refine⟨.slice (some ⟨b,off+HI,some (code sz true)⟩) len cap,(List.range len).map X,?_,⟨by simp[za],λi r hr=>?_,?_,λB hB=>by cases hB;show b<_;rw[(snap_facts w).1];exact hblt⟩,?_,.inr ⟨b,off+HI,len,cap,true,rfl,hlc⟩⟩
  .by_cases h0:0<cap
   .refine .sl b off (code sz true) len cap cap ⟨b,HI,cs0.size⟩ hφ hlc (qgq _) (λ_=>rfl) ?_
    have hcd:code sz true/2=sz:=by show (2*sz+1)/2=sz;omega
    rw[hcd]
    have:=(hcell (cap-1) (sz-1) (by omega) (by omega) none).2
    have h2:(cap-1)*sz+(sz-1)+1=cap*sz:=by
     obtain⟨c,rfl⟩:∃c,cap=c+1:=⟨cap-1,by omega⟩
     rw[Nat.add_sub_cancel,Nat.succ_mul];omega
    show off+cap*sz<=cs0.size
    omega
   .have hc0:cap=0:=by omega
    have hl0:len=0:=by omega
    subst hc0;subst hl0
    exact .slE b _ _ _ ⟨b,HI,cs0.size⟩ hφ
  .rw[qh4]at hr
   have hi:i<len:=by
    rcases Nat.lt_or_ge i len with h | h
    .exact h
    .rw[qha (l:=List.range len) (by simpa using h)]at hr;cases hr
   rw[List.getElem?_range hi]at hr
   cases hr
   refine⟨?_,by show b<_;rw[(snap_facts w).1];exact hblt,?_⟩
   .show (bif Nat.blt i len then WW (i*sz) _ else none)=_
    rw[show Nat.blt i len=true from qgv hi];rfl
   .show loads (snapM w) ⟨b,off+HI+i*sz,none⟩ sz=_
    have:=Xb (m:=snapM w) (B:=b) (s:=none) (f (X i)) (off+HI+i*sz) (λh=>by have:=(hint (X i)).1;rw[h]at this;simp at this;omega) (λj hj=>by
     rw[(hint (X i)).1]at hj
     have:=(hcell i j (by omega) hj none).1
     rw[<-this,Nat.add_assoc])
    rw[(hint (X i)).1]at this
    exact this
  .show loads (snapM w) ⟨b,off+HI,some (code sz true)⟩ (((List.range len).map X).length*sz)=_
   have hfl:=wP (f:=f) (λx=>(hint x).1) ((List.range len).map X)
   by_cases h0:len=0
   .subst h0
    obtain⟨c,hc⟩:∃c,(snapM w).obj b=some (.cells c):=⟨_,by rw[(snap_facts w).2.2.2,hh];rfl⟩
    rw[List.range_zero,List.map_nil,List.length_nil,Nat.zero_mul]
    unfold loads cellsOf
    simp only[hc]
    rfl
   .have:=Xb (m:=snapM w) (B:=b) (s:=some (code sz true)) (((List.range len).map X).flatMap f) (off+HI) (λh=>by
     have h1:=hfl
     rw[h,List.length_map,List.length_range,List.length_nil]at h1
     have:=Nat.mul_pos (show 0<len by omega) hpos
     omega) (λq hq=>by
     rw[hfl]at hq
     rw[List.length_map,List.length_range]at hq
     have hdiv:q/sz<len:=by rw[Nat.div_lt_iff_lt_mul hpos];exact hq
     have hmod:=Nat.mod_lt q hpos
     have hdm:=Nat.div_add_mod q sz
     have h1:=(hcell (q/sz) (q%sz) (by omega) hmod (some (code sz true))).1
     rw[show q/sz*sz+q%sz=q by rw[Nat.mul_comm];exact hdm]at h1
     rw[h1]
     have h2:=jz (f:=f) (λx=>(hint x).1) ((List.range len).map X) (q/sz) (X (q/sz)) (by rw[qh4,List.getElem?_range hdiv];rfl)
     rw[<-h2,List.getElem?_take,if_pos hmod,List.getElem?_drop]
     congr 1
     rw[Nat.mul_comm];exact hdm)
    rw[hfl]at this
    exact this
  .by_cases h0:len=0
   .subst h0;exact .inl rfl
   .exact .inr ⟨_,_,rfl,by simp[hel]⟩
end
end
end Go.Dx
namespace Go.Dx
open Go.RowKit Go.WideShapes Go.ChangeShapes
theorem slice_lies {P:Program}{w:World}{r:Reach}{b0:Nat}{u e:TypeId}{a:Addr}{l c:Nat}(hu:P.underlying u=some (.slice e))(h:Cell.okWide P w r b0 u (.slice (some a) l c)):a.spot=none/\∃cs e fz,w.heap[a.block]?=some (.cells cs e fz):=by
 simp only[Cell.okWide,hu,Cell.ok]at h
 obtain⟨_,_,_,h2,row,cells,h3,_⟩:=h
 refine⟨h2,?_⟩
 unfold World.shape? at h3
 split at h3
 .exact⟨_,_,_,by assumption⟩
 .cases h3
end Go.Dx
namespace Go.Sx
open Go.Dx
noncomputable section
abbrev mv (d s:Nat):IS:=ip d (bm (tg s))
abbrev mc (d:Nat)(v:Value):IS:=ip d (bm (cv v))
abbrev fa (d o s:Nat):IS:=ip d (dH o (tg s))
abbrev ia (d e x i:Nat):IS:=ip d (yY e (tg x) (tg i))
abbrev l1 (d s:Nat):IS:=il d (tg s) (fY (tg s))
abbrev ln (d n s:Nat):IS:=il d (tg s) (fZ n (tg s))
abbrev bt (d:Nat)(o:BinOp)(a b:Nat):IS:=ip d (Xt o (tg a) (tg b))
abbrev bv (d:Nat)(o:BinOp)(a:Nat)(v:Value):IS:=ip d (Xt o (tg a) (cv v))
abbrev sto (n a b:Nat):IS:=im0 3 (wR n (tg a) (tg b))
abbrev lne (d s:Nat):IS:=ip d (WH (tg s))
abbrev pkt (d a b:Nat):IS:=ip d (jb (tg a) (cv (.bool true)) (tg b))
abbrev pkf (d a b:Nat):IS:=ip d (jb (tg a) (tg b) (cv (.bool false)))
abbrev gf (g d:Nat)(s:IS):IS:=gd g false (some d) s
abbrev gt (g d:Nat)(s:IS):IS:=gd g true (some d) s
abbrev xt (d s i:Nat):IS:=ip d (xq (tg s) i)
abbrev rg (l:List IS):SC:=sReg (Kb l)
abbrev iv0 (n:Int):Value:=.int .i64 n
abbrev kP (p:PO):CI:=CI.pure p
abbrev kM (s:Nat):CI:=CI.pure (bm (tg s))
abbrev kF (o s:Nat):CI:=CI.pure (dH o (tg s))
abbrev kI (e x i:Nat):CI:=CI.pure (yY e (tg x) (tg i))
abbrev kK (s:Nat):CI:=CI.pure (qk (tg s))
abbrev kL (s:Nat):CI:=CI.load (tg s) (fY (tg s))
abbrev kN (n s:Nat):CI:=CI.load (tg s) (fZ n (tg s))
abbrev kB (o:BinOp)(a b:Nat):CI:=CI.pure (Xt o (tg a) (tg b))
abbrev kV (o:BinOp)(a:Nat)(v:Value):CI:=CI.pure (Xt o (tg a) (cv v))
abbrev wA (c:CI)(d i:Nat):DA:=⟨c,some d,none,i,[]⟩
abbrev wT (c:CI)(d g i:Nat):DA:=⟨c,some d,some (g,true),i,[]⟩
abbrev wF (c:CI)(d g i:Nat):DA:=⟨c,some d,some (g,false),i,[]⟩
abbrev wI (c:CI)(d:Nat)(l:List Nat)(i:Nat):DA:=⟨c,some d,none,i,l⟩
abbrev kS (n a b i:Nat):DA:=⟨CI.mem 3 (wR n (tg a) (tg b)),none,none,i,[]⟩
end
end Go.Sx
