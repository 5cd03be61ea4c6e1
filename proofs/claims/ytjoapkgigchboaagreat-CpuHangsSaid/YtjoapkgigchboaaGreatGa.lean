/- Rules for steps through compiled code. -/
import Derived.Test.YtjoapkgigchboaaGreatEc
import Derived.Test.YtjoapkgigchboaaGreatEd
import Derived.ChangeSame
import Derived.ProofKit
import Derived.Carry
set_option linter.unusedVariables false
set_option linter.unusedSimpArgs false
set_option linter.defProp false
namespace Go.Dx
@[match_pattern] abbrev zS : Value := .slice none 0 0
@[match_pattern] abbrev zI : Value := .int .i64 0
@[match_pattern] abbrev zU : Value := .int .u64 0
abbrev pt (B o : Nat) : Value := .pointer (some ⟨B, o, none⟩)
end Go.Dx
namespace Go.Dx
open Go.RowKit
noncomputable section
def wN (zs:List Value)(ps:List (Nat × Nat × Value)):Option Value:=ob (JR ps zs) λl=>some (.agg ⟨l⟩)
def eqBV (neg:Bool)(x y:Value):Option Value:=ob (vy x) λa=>ob (vy y) λb=>some (.bool (bif neg then !eqB a b else eqB a b))
def eqNV (neg:Bool)(k:Value->Option Bool)(both:Bool)(x y:Value):Option Value:=ob (eqN k both x y) λb=>some (.bool (bif neg then !b else b))
def xH (k:IntKind)(x:Value):Option Value:=obp (de x) λ_ n=>some (.int k (yj k n))
def Wa (x:Option Value)(d mx:Nat):Option Nat:=match x with
 | none=>some d
 | some x=>ob (vo x) λn=>bif Nat.ble n mx then some n else none
def fF (len cap:Nat)(lo hi mx:Option Value):Option (Nat × Nat × Nat) :=
 bif hi.isNone&&mx.isSome then none else
 ob (Wa mx cap cap) λm=>ob (Wa hi len m) λh=>ob (Wa lo 0 h) λl=>some (l,h,m)
def slV (esz:Nat)(lo hi mx:Option Value):Value->Option Value
 | .slice none _ _=>ob (fF 0 0 lo hi mx) λ_=>some (.slice none 0 0)
 | .slice (some a) len cap=>ob a.spot λcd=>ob (fF len cap lo hi mx) λr=>bif !Nat.beq (cd/2) esz then none else
   some (.slice (some (slA a esz r.1 r.2.2 (vH cd) (vH cd||mx.isSome))) (r.2.1-r.1) (r.2.2-r.1))
 | _=>none
def qaj (off:Nat)(x:Value):Option Value:=ob (xu x) (gS off)
def zi (len esz:Nat)(x i:Value):Option Value:=ob (vo i) λn=>ob (xu x) λa=>bif Nat.blt n len then gS (n*esz) a else none
def jU (esz:Nat)(x i:Value):Option Value:=ob (vo i) λn=>obp (vSl x) λa len=>bif Nat.blt n len then gS (n*esz) a else none
def Zk (x i:Value):Option Value:=ob (vo i) λn=>ob (Qc x) λs=>ob (s[n]?) λb=>some (xL b)
def jv (o:Value)(m:M):Option (Value × M):=ob (jH o) λl=>some (.pointer (some ⟨m.n,0,none⟩),newRow m l)
def jR (esz len:Nat)(zs:List Value)(ps:List (Nat × Nat × Value))(m:M):Option (Value × M) :=
 ob (JR ps zs) λl=>some (.slice (some ⟨m.n,0,some (code esz true)⟩) len len,newRow m l)
def qb5 (o:Value)(m:M):Option (Value × M):=ob (xu o) λa=>ob (load1 m a) (retM m)
def qb6 (n:Nat)(o:Value)(m:M):Option (Value × M):=ob (xu o) λa=>ob (loads m a n) λl=>some (.agg ⟨l⟩,m)
def qB (n:Nat)(o v:Value)(m:M):Option (Value × M) :=
 ob (xu o) λa=>ob (jH v) λl=>bif Nat.beq l.length n then ob (stores m a l) λm'=>some (undef,m') else none
def FR (x:Ex)(l:List DA)(k:List (Nat × FP)->K):List (Nat × FP)->K:=List.rec k (λi _ ih=>FQ x i ih) l
inductive RS where
 | v (x:Value)
 | one (x:Value)
 | cell (x:Value) (n:Nat)
def cL:Code->Code
 | .seq a _ | .cond _ a _ | .block _ a | .loop a | .rangeFunc _ _ a _=>a
 | c=>c
inductive BT where
 | lf
 | nd (k:Nat) (v:Ex->List Value->M->Option (Value × M)) (l r:BT)
def BT.look (t:BT):Nat->Ex->List Value->M->Option (Value × M) :=
 BT.rec (λ_ _ _ _=>none) (λk v _ _ il ir g=>bif Nat.beq g k then v else bif Nat.blt g k then il g else ir g) t
def Fits (P:Program)(g:Nat)(v:Ex->List Value->M->Option (Value × M)):Prop:=∀x l m r,v x l m=some r->ob (qS P g) (callF x l m)=some r
def BT.Fit (P:Program):BT->Prop
 | .lf=>True
 | .nd k v l r=>Fits P k v/\l.Fit P/\r.Fit P
def xstep (P:Program)(t:BT)(x:Ex):Ex:=⟨λg=>t.look g x,Bv P x⟩
def xs (P:Program)(t:BT)(n:Nat):Ex:=Nat.rec .bot (λ_ ih=>xstep P t ih) n
end
end Go.Dx
namespace Go.Dx
open Go.RowKit
noncomputable section
abbrev tg (n:Nat):V:=Tm.get n
def cv (v:Value):V:=λ_=>v
def ip (d:Nat)(p:PO):IS:=Bh none (some d) (XJ (CI.pure p) (some d))
def il (d:Nat)(a:V)(f:MO):IS:=Bh none (some d) (XJ (CI.load a f) (some d))
def im (n d:Nat)(f:MO):IS:=Bh none (some d) (XJ (CI.mem n f) (some d))
def im0 (n:Nat)(f:MO):IS:=Bh none none (XJ (CI.mem n f) none)
def gd (g:Nat)(b:Bool)(d:Option Nat)(s:IS):IS:=Bh (some (g,b)) d s
inductive Tick where
 | tick
 | tock
def tick (_:Tick):Prop:=True
@[simp] theorem tick_1:tick .tick=tick .tock:=_root_.id rfl
def Ki (c:Bool)(a b:Option Out):Option Out:=cond c a b
@[simp] theorem bif_t (a b:Option Out):Ki true a b=a:=_root_.id rfl
@[simp] theorem bif_f (a b:Option Out):Ki false a b=b:=_root_.id rfl
@[congr] theorem ob_congr {α β:Type} {o o':Option α} {k:α->Option β} {q:Prop} (h:o=o') (_:tick .tick=q):ob o k=ob o' k:=by rw[h]
@[congr] theorem obp_congr {α β γ:Type} {o o':Option (α × β)} {k:α->β->Option γ} {q:Prop} (h:o=o') (_:tick .tick=q):obp o k=obp o' k:=by rw[h]
@[congr] theorem bif_congr {c c':Bool} {a b:Option Out} {q:Prop} (h:c=c') (_:tick .tick=q):Ki c a b=Ki c' a b:=by rw[h]
@[congr] theorem qg6 {c c':Prop} [Decidable c] [Decidable c'] {a b:Option Out} {q:Prop} (h:c=c') (_:tick .tick=q):ite c a b=ite c' a b:=by subst h;congr
section
variable (x:Ex)(k kn kr:K)(ke:Nat->K)(t:Tm)(m:M)
@[simp] theorem sSeq_ap (a b:SC):qa a b x kn ke kr t m=a x (b x kn ke kr) ke kr t m:=_root_.id rfl
@[simp] theorem sSkip_ap:qh x kn ke kr t m=kn t m:=_root_.id rfl
@[simp] theorem sReg_ap (i:IS):Jk i x kn ke kr t m=i x kn t m:=_root_.id rfl
@[simp] theorem QM (l:List DA):qK l x kn ke kr t m=FR x l (λ_=>kn) [] t m:=_root_.id rfl
@[simp] theorem sCond_ap (o:V) (a b:SC):qe o a b x kn ke kr t m=ob (vy (o t)) λc=>Ki c (a x kn ke kr t m) (b x kn ke kr t m):=_root_.id rfl
@[simp] theorem sBlock_ap (id:Nat) (a:SC):ql id a x kn ke kr t m=a x kn (ju id kn ke) kr t m:=_root_.id rfl
@[simp] theorem sExit_ap (id:Nat):qV id x kn ke kr t m=ke id t m:=_root_.id rfl
@[simp] theorem sRet_ap:qo x kn ke kr t m=kr t m:=_root_.id rfl
@[simp] theorem outOf_ap (id j:Nat):ju id kn ke j t m=Ki (Nat.beq j id) (kn t m) (ke j t m):=_root_.id rfl
theorem Bj (a:SC):qW a x kn ke kr t m=KS (λk=>a x k ke kr) 1180591620717411303424 t m:=rfl
@[simp] theorem seqI_nil:yd [] x k t m=k t m:=_root_.id rfl
@[simp] theorem seqI_cons (s:IS) (l:List IS):yd (s::l) x k t m=s x (yd l x k) t m:=_root_.id rfl
@[simp] theorem ip_ap (d:Nat) (p:PO):ip d p x k t m=ob (p t) λv=>k (Tm.set d v t) m:=_root_.id rfl
@[simp] theorem il_ap (d:Nat) (a:V) (f:MO):il d a f x k t m=obp (f x t m) λv m=>k (Tm.set d v t) m:=_root_.id rfl
@[simp] theorem im1_ap (d:Nat) (f:MO):im 1 d f x k t m=obp (f x t m) λv m=>k (Tm.set d v t) m:=_root_.id rfl
@[simp] theorem im3_ap (d:Nat) (f:MO):im 3 d f x k t m=obp (f x t m) λv m=>k (Tm.set d v t) m:=_root_.id rfl
@[simp] theorem im03_ap (f:MO):im0 3 f x k t m=obp (f x t m) λ_ m=>k t m:=_root_.id rfl
@[simp] theorem gd_ap (g:Nat) (b:Bool) (d:Option Nat) (s:IS):gd g b d s x k t m=ob (isB b (Tm.get g t)) λc=>Ki c (s x k t m) (k (putD t d undef) m):=_root_.id rfl
@[simp] theorem qN {α β:Type} (a:α) (f:α->Option β):ob (some a) f=f a:=_root_.id rfl
@[simp] theorem obp_some' {α β γ:Type} (a:α) (b:β) (f:α->β->Option γ):obp (some (a,b)) f=f a b:=_root_.id rfl
@[simp] theorem putD_some (d:Nat) (v:Value):putD t (some d) v=Tm.set d v t:=_root_.id rfl
@[simp] theorem putD_none (v:Value):putD t none v=t:=_root_.id rfl
@[simp] theorem get_set (i j:Nat) (v:Value):Tm.get i (Tm.set j v t)=if i=j then v else Tm.get i t:=by
 by_cases h:i=j
 .subst h;rw[if_pos rfl,Tm.get_set_same]
 .rw[if_neg h]
  show (bif Nat.beq i j then v else Tm.get i t)=_
  rw[dl h];rfl
@[simp] theorem get_blank (i:Nat):Tm.get i .blank=undef:=_root_.id rfl
@[simp] theorem cv_ap (v:Value):cv v t=v:=_root_.id rfl
@[simp] theorem pMov_ap (a:V):WT a t=some (a t):=_root_.id rfl
@[simp] theorem pPick_ap (c a b:V):zD c a b t=ob (vy (c t)) λq=>some (bif q then a t else b t):=_root_.id rfl
@[simp] theorem pNilck_ap (a:V):qM a t=WO (a t):=_root_.id rfl
@[simp] theorem pBin_ap (op:BinOp) (a b:V):vK op a b t=ky op (a t) (b t):=_root_.id rfl
@[simp] theorem pUn_ap (op:UnOp) (a:V):pUn op a t=unV op (a t):=_root_.id rfl
@[simp] theorem pEqB_ap (n:Bool) (a b:V):Xv n a b t=eqBV n (a t) (b t):=_root_.id rfl
@[simp] theorem pEqN_ap (n:Bool) (q:Value->Option Bool) (h:Bool) (a b:V):QB n q h a b t=eqNV n q h (a t) (b t):=_root_.id rfl
@[simp] theorem pFaddr_ap (o:Nat) (a:V):dM o a t=qaj o (a t):=_root_.id rfl
@[simp] theorem qgc (e:Nat) (a b:V):vv e a b t=jU e (a t) (b t):=_root_.id rfl
@[simp] theorem qgb (n e:Nat) (a b:V):qp n e a b t=zi n e (a t) (b t):=_root_.id rfl
@[simp] theorem pLen_ap (a:V):GV a t=jW (a t):=_root_.id rfl
@[simp] theorem qg1 (a:V) (i:Nat):vi a i t=vT i (a t):=_root_.id rfl
@[simp] theorem pBuild_ap (zs:List Value) (ps:List (Nat × Nat × V)):wy zs ps t=wN zs (evP ps t):=_root_.id rfl
@[simp] theorem evP_nil:evP [] t=[]:=_root_.id rfl
@[simp] theorem evP_cons (p:Nat × Nat × V) (l:List (Nat × Nat × V)):evP (p::l) t=(p.1,p.2.1,p.2.2 t)::evP l t:=_root_.id rfl
@[simp] theorem evs_nil:evs t []=[]:=_root_.id rfl
@[simp] theorem evs_cons (a:V) (l:List V):evs t (a::l)=a t::evs t l:=_root_.id rfl
@[simp] theorem mBox_ap (a:V):zR a x t m=jv (a t) m:=_root_.id rfl
@[simp] theorem mAlloc_ap (zs:List Value):wt zs x t m=some (.pointer (some ⟨m.n,0,none⟩),newRow m zs):=_root_.id rfl
@[simp] theorem mLoad1_ap (a:V):gE a x t m=qb5 (a t) m:=_root_.id rfl
@[simp] theorem mLoadN_ap (n:Nat) (a:V):gF n a x t m=qb6 n (a t) m:=_root_.id rfl
@[simp] theorem mStore_ap (n:Nat) (a b:V):zt n a b x t m=qB n (a t) (b t) m:=_root_.id rfl
@[simp] theorem mCall_ap (g:Nat) (l:List V):qi g l x t m=x.f g (evs t l) m:=_root_.id rfl
@[simp] theorem qg8 (e b:Nat) (a c:V):kY e b a c x t m=wZ m e b (a t) (c t):=_root_.id rfl
@[simp] theorem vBool_b (b:Bool):vy (.bool b)=some b:=_root_.id rfl
@[simp] theorem isB_t (b:Bool):isB true (.bool b)=some b:=_root_.id rfl
@[simp] theorem eqBV_t (a b:Bool):eqBV true (.bool a) (.bool b)=some (.bool (a != b)):=by cases a<;>cases b<;>rfl
@[simp] theorem eqBV_f (a b:Bool):eqBV false (.bool a) (.bool b)=some (.bool (a==b)):=by cases a<;>cases b<;>rfl
@[simp] theorem isB_u (b:Bool):isB b undef=some false:=_root_.id rfl
@[simp] theorem isB_f (b:Bool):isB false (.bool b)=some (!b):=_root_.id rfl
@[simp] theorem unV_not (b:Bool):unV .not (.bool b)=some (.bool (!b)):=_root_.id rfl
theorem Vf (op:BinOp)(kd:IntKind)(a b:Int):QX op kd a kd b=binI op kd a b:=by unfold QX;rw[Nat.beq_refl];rfl
theorem wW (op:BinOp)(kd:IntKind)(a b:Int):ky op (.int kd a) (.int kd b)=binI op kd a b:=Vf op kd a b
@[simp] theorem binV_lss (kd:IntKind) (a b:Int):ky .lss (.int kd a) (.int kd b)=some (.bool (decide (a<b))):=by rw[wW];show some (Value.bool (ltI a b))=_;rw[vI]
@[simp] theorem binV_leq (kd:IntKind) (a b:Int):ky .leq (.int kd a) (.int kd b)=some (.bool (decide (a<=b))):=by
 rw[wW];show some (Value.bool (!ltI b a))=_;rw[vI,<-decide_not]
 congr 2;exact decide_eq_decide.2 Int.not_lt
@[simp] theorem binV_gtr (kd:IntKind) (a b:Int):ky .gtr (.int kd a) (.int kd b)=some (.bool (decide (b<a))):=by rw[wW];show some (Value.bool (ltI b a))=_;rw[vI]
@[simp] theorem binV_geq (kd:IntKind) (a b:Int):ky .geq (.int kd a) (.int kd b)=some (.bool (decide (b<=a))):=by
 rw[wW];show some (Value.bool (!ltI a b))=_;rw[vI,<-decide_not]
 congr 2;exact decide_eq_decide.2 Int.not_lt
@[simp] theorem binV_eql (kd:IntKind) (a b:Int):ky .eql (.int kd a) (.int kd b)=some (.bool (decide (a=b))):=by
 rw[wW];show some (Value.bool (eqI a b))=_;rw[gw];congr 2
@[simp] theorem binV_neq (kd:IntKind) (a b:Int):ky .neq (.int kd a) (.int kd b)=some (.bool (!decide (a=b))):=by
 rw[wW];show some (Value.bool (!eqI a b))=_;rw[gw];congr 2
@[simp] theorem zN (kd:IntKind) (a b:Int):ky .add (.int kd a) (.int kd b)=some (.int kd (kd.wrap (a+b))):=by rw[wW];show some (Value.int kd (yj kd (a+b)))=_;rw[jD]
@[simp] theorem zO (kd:IntKind) (a b:Int):ky .sub (.int kd a) (.int kd b)=some (.int kd (kd.wrap (a-b))):=by rw[wW];show some (Value.int kd (yj kd (a-b)))=_;rw[jD]
@[simp] theorem qg7 (a:Addr):qb5 (.pointer (some a)) m=ob (load1 m a) (retM m):=_root_.id rfl
@[simp] theorem qg4 (o:Nat) (a:Addr):qaj o (.pointer (some a))=some (.pointer (some ⟨a.block,a.off+o,none⟩)):=_root_.id rfl
@[simp] theorem retM_ap (v:Value):retM m v=some (v,m):=_root_.id rfl
theorem KQ (l:List Value)(o:Nat):load1 (newRow m l) ⟨m.n,o,none⟩=l[o]?:=by
 unfold load1 cellsOf newRow
 simp only[M.obj_alloc,if_true]
 show A.get none o (mkn .lf 0 l)=l[o]?
 rw[jF,A.get_lf]
 split
 .simp
 .rename_i h;simp at h;simp[h]
end
structure Ext (m m':M):Prop where
 n:m.n<=m'.n
 obj:∀B,B<m.n->m'.obj B=m.obj B
 base:m'.base=m.base
 log:m'.log=m.log
theorem Ext.refl (m:M):Ext m m:=⟨qgg _,λ_ _=>rfl,rfl,rfl⟩
theorem Ext.trans {a b c:M}(h:Ext a b)(k:Ext b c):Ext a c:=⟨qgp h.n k.n,λB hB=>(k.obj B (qgi hB h.n)).trans (h.obj B hB),k.base.trans h.base,k.log.trans h.log⟩
theorem Ext.row (m:M)(l:List Value):Ext m (newRow m l):=⟨by unfold newRow;rw[M.n_alloc];omega,λB hB=>by unfold newRow;rw[M.obj_alloc,if_neg (by omega)],M.base_alloc _ _,M.log_alloc _ _⟩
theorem ex_f {P:Program}{g:Nat}{d:DFn}(hd:qS P g=some d)(n:Nat)(args:List Value)(m:M):(ex P (n+1)).f g args m=callF (ex P n) args m d:=by
 show ob (qS P g) (callF (ex P n) args m)=_
 rw[hd];rfl
theorem Wd (x:Ex)(args:List Value)(m:M)(c:SC)(nt:Nat)(res:List RV)(h:args.length<=nt):callF x args m ⟨c,nt,res⟩=ob (c x (kQ res) noK (kQ res) (vg .blank 0 args) m) VT:=by
 show (bif Nat.ble args.length nt then ob (c x (kQ res) noK (kQ res) (vg .blank 0 args) m) VT else none)=_
 rw[qgl h];rfl
@[simp] theorem initT_nil (t:Tm) (i:Nat):vg t i []=t:=_root_.id rfl
@[simp] theorem qg5 (t:Tm) (i:Nat) (v:Value) (l:List Value):vg t i (v::l)=vg (Tm.set i v t) (i+1) l:=_root_.id rfl
theorem bV (res:List RV)(t:Tm)(m:M):kQ res t m=ob (gK t m res) λl=>fin (gL l) m:=_root_.id rfl
@[simp] theorem bp (v:Value) (m:M):ob (fin v m) VT=some (v,m):=by
 show some (Tm.get 0 (Tm.set 0 v .blank),m)=_
 rw[Tm.get_set_same]
theorem wrap64 (n:Int)(h1:-9223372036854775808<=n)(h2:n<=9223372036854775807):IntKind.i64.wrap n=n:=by rw[IntKind.wrap_i64];omega
structure Sl (m:M)(v:Value)(e:Nat)(rows:List (List Value)):Prop where
 len:jW v=some (.int .i64 rows.length)
 row:∀(i:Nat) (r:List Value),rows[i]?=some r->∃B o,B<m.n/\jU e v (.int .i64 i)=some (.pointer (some ⟨B,o,none⟩))/\loads m ⟨B,o,none⟩ e=some r
theorem GE {m m':M}(h:Ext m m'){B o n:Nat}(hB:B<m.n):loads m' ⟨B,o,none⟩ n=loads m ⟨B,o,none⟩ n:=by
 unfold loads cellsOf;rw[h.obj B hB]
theorem Sl.ext {m m':M}(h:Ext m m'){v:Value}{e:Nat}{rows:List (List Value)}(hs:Sl m v e rows):Sl m' v e rows :=
 ⟨hs.len,λi r hr=>let ⟨B,o,h1,h2,h3⟩:=hs.row i r hr;⟨B,o,qgi h1 h.n,h2,by rw[GE h h1];exact h3⟩⟩
theorem qd (n:Nat)(a:Addr)(m:M):qb6 n (.pointer (some a)) m=ob (loads m a n) λl=>some (.agg ⟨l⟩,m):=rfl
end
end Go.Dx
namespace Go.Dx
noncomputable section
section
variable (x:Ex)(k:List (Nat × FP)->K)(fps:List (Nat × FP))(t:Tm)(m:M)
@[simp] theorem anyL_nil:FR x [] k=k:=_root_.id rfl
@[simp] theorem anyL_cons (i:DA) (l:List DA):FR x (i::l) k fps t m=FQ x i (FR x l k) fps t m:=_root_.id rfl
@[simp] theorem any1_none (ci:CI) (d:Option Nat) (ix:Nat) (inc:List Nat):FQ x ⟨ci,d,none,ix,inc⟩ k fps t m=anyR x ⟨ci,d,none,ix,inc⟩ k fps t m:=_root_.id rfl
@[simp] theorem any1_some (ci:CI) (d:Option Nat) (g:Nat) (b:Bool) (ix:Nat) (inc:List Nat):FQ x ⟨ci,d,some (g,b),ix,inc⟩ k fps t m=ob (isB b (Tm.get g t)) λc=>Ki c (anyR x ⟨ci,d,some (g,b),ix,inc⟩ k fps t m) (k fps (putD t d undef) m):=_root_.id rfl
@[simp] theorem anyR_pure (p:PO) (d:Option Nat) (g:Option (Nat × Bool)) (ix:Nat) (inc:List Nat):anyR x ⟨.pure p,d,g,ix,inc⟩ k fps t m=ob (p t) λv=>k fps (putD t d v) m:=_root_.id rfl
@[simp] theorem anyR_mem1 (f:MO) (d:Option Nat) (g:Option (Nat × Bool)) (ix:Nat) (inc:List Nat):anyR x ⟨.mem 1 f,d,g,ix,inc⟩ k fps t m=obp (f x t m) λv m'=>k fps (putD t d v) m':=_root_.id rfl
@[simp] theorem anyR_load (o:V) (f:MO) (d:Option Nat) (g:Option (Nat × Bool)) (ix:Nat) (inc:List Nat):anyR x ⟨.load o f,d,g,ix,inc⟩ k fps t m=obp (f x t m) λv m' =>
 Ki (meets fps ⟨ob (xu (o t)) λa=>some a.block,[]⟩ inc) (k ((ix,⟨ob (xu (o t)) λa=>some a.block,[]⟩)::fps) (putD t d v) m') none:=_root_.id rfl
@[simp] theorem anyR_mem3 (f:MO) (d:Option Nat) (g:Option (Nat × Bool)) (ix:Nat) (inc:List Nat):anyR x ⟨.mem 3 f,d,g,ix,inc⟩ k fps t m=obp (f x t (qg m)) λv m' =>
 Ki (meets fps ⟨none,m'.log⟩ inc) (k ((ix,⟨none,m'.log⟩)::fps) (putD t d v) (behind m m')) none:=_root_.id rfl
@[simp] theorem yg (a:Addr):xu (.pointer (some a))=some a:=_root_.id rfl
end
def quiet:List (Nat × FP)->Prop
 | []=>True
 | p::l=>p.2.wr=[]/\quiet l
attribute [simp] qq wU qw
theorem Ext.behind {m m':M}(h:Ext (qg m) m'):Ext m (behind m m'):=by
 have hl:=h.log
 cases m with | mk h0 nx bs wl =>
 cases m' with | mk h1 nx1 bs1 wl1 =>
 have e:wl1=[]:=hl
 subst e
 exact⟨h.n,h.obj,rfl,rfl⟩
end
end Go.Dx
namespace Go.Dx
noncomputable section
structure Sees (m0 m:M):Prop where
 n:m0.n<=m.n
 obj:∀B,B<m0.n->m.obj B=m0.obj B
 base:m.base<=m.n
theorem Sees.refl {m:M}(h:m.base<=m.n):Sees m m:=⟨qgg _,λ_ _=>rfl,h⟩
theorem Sees.self {a b:M}(h:Sees a b):Sees b b:=.refl h.base
theorem Sees.ext {a b c:M}(h:Sees a b)(k:Ext b c):Sees a c:=⟨qgp h.n k.n,λB hB=>(k.obj B (qgi hB h.n)).trans (h.obj B hB),by rw[k.base];exact qgp h.base k.n⟩
theorem Sees.trans {a b c:M}(h:Sees a b)(k:Sees b c):Sees a c:=⟨qgp h.n k.n,λB hB=>(k.obj B (qgi hB h.n)).trans (h.obj B hB),k.base⟩
@[simp] theorem qQ (m:M) (l:List Value):(newRow m l).n=m.n+1:=M.n_alloc _ _
attribute [simp] Ext.refl
def Call (x:Ex)(g:Nat)(args:List Value)(m:M)(P:Value->M->Prop):Prop:=∃v m',x.f g args m=some (v,m')/\Ext m m'/\P v m'
def qci (x:Ex)(g:Nat)(args:List Value)(m:M):Value:=match x.f g args m with
 | some (v,_)=>v
 | none=>undef
def aft (x:Ex)(g:Nat)(args:List Value)(m:M):M:=match x.f g args m with
 | some (_,m')=>m'
 | none=>m
section
variable {x:Ex}{g:Nat}{args:List Value}{m m0:M}{P:Value->M->Prop}{v:Value}
theorem Call.all (h:Call x g args m P):x.f g args m=some (qci x g args m,aft x g args m)/\Ext m (aft x g args m)/\P (qci x g args m) (aft x g args m):=by
 obtain⟨v,m',e,h1,h2⟩:=h
 unfold qci aft;rw[e];exact⟨rfl,h1,h2⟩
abbrev CallV (x:Ex)(g:Nat)(args:List Value)(m:M)(v:Value):Prop:=Call x g args m λu _=>u=v
theorem Call.mono {Q:Value->M->Prop}(h:Call x g args m P)(k:∀v m',Ext m m'->P v m'->Q v m'):Call x g args m Q:=let ⟨v,m',e,h1,h2⟩:=h;⟨v,m',e,h1,k _ _ h1 h2⟩
theorem CallV.of {m':M}(h:x.f g args m=some (v,m'))(e:Ext m m'):CallV x g args m v:=⟨v,m',h,e,rfl⟩
end
def Ret (m0:M)(P:Value->M->Prop):Option Out->Prop:=λo=>∃v m',ob o VT=some (v,m')/\Ext m0 m'/\P v m'
theorem qj {P:Program}{g:Nat}{c:SC}{nt:Nat}{res:List RV}{n:Nat}{args:List Value}{m:M}{Q:Value->M->Prop}(hd:qS P g=some ⟨c,nt,res⟩)(ha:args.length<=nt)
  (h:Ret m Q (c (ex P n) (kQ res) noK (kQ res) (vg .blank 0 args) m)):Call (ex P (n+1)) g args m Q:=by
 obtain⟨v,m',e,h1,h2⟩:=h
 exact⟨v,m',by rw[ex_f hd,Wd _ _ _ _ _ _ ha];exact e,h1,h2⟩
theorem dR {m0 m:M}{Q:Value->M->Prop}{res:List RV}{t:Tm}{l:List Value}(h:gK t m res=some l)(he:Ext m0 m)(hq:Q (gL l) m):Ret m0 Q (kQ res t m):=by
 refine⟨gL l,m,?_,he,hq⟩
 rw[bV,h,qN,bp]
theorem qcj {m0 m:M}{Q:Value->M->Prop}{t:Tm}(he:Ext m0 m)(hq:Q (gL []) m):Ret m0 Q (kQ [] t m):=dR (l:=[]) rfl he hq
theorem qx {m0 m:M}{Q:Value->M->Prop}{t:Tm}{p:Nat}(he:Ext m0 m)(hq:Q (Tm.get p t) m):Ret m0 Q (kQ [.t p] t m):=dR (l:=[_]) rfl he hq
theorem jc {m0 m:M}{Q:Value->M->Prop}{t:Tm}{p q:Nat}(he:Ext m0 m)(hq:Q (.tuple #[Tm.get p t,Tm.get q t]) m):Ret m0 Q (kQ [.t p,.t q] t m):=dR (l:=[_,_]) rfl he hq
theorem XE {m0 m:M}{Q:Value->M->Prop}{t:Tm}{p q r:Nat}(he:Ext m0 m)(hq:Q (.tuple #[Tm.get p t,Tm.get q t,Tm.get r t]) m):Ret m0 Q (kQ [.t p,.t q,.t r] t m):=dR (l:=[_,_,_]) rfl he hq
theorem qb9 {x:Ex}{kn kr:K}{ke:Nat->K}{a:SC}(Q:Option Out->Prop)(I:Nat->Tm->M->Prop)(len:Nat)(hlen:len<=9223372036854775807)
  (round:∀i t m (k:K),i<=len->I i t m->(i<len->∀t' m',I (i+1) t' m'->Q (k t' m'))->Q (a x k ke kr t m)) {t:Tm} {m:M} (h0:I 0 t m):Q (qW a x kn ke kr t m):=by
 rw[Bj]
 have key:∀(N i:Nat) (t:Tm) (m:M),len<N+i->i<=len->I i t m->Q (KS (λk=>a x k ke kr) N t m):=by
  intro N
  induction N with
  | zero=>intro i t m h1 h2;omega
  | succ N ih =>
   intro i t m h1 h2 hI
   exact round i t m (KS (λk=>a x k ke kr) N) h2 hI λhi t' m' h3=>ih (i+1) t' m' (by omega) (by omega) h3
 exact key _ 0 t m (by omega) (Nat.zero_le _) h0
def adr (e:Nat)(v:Value)(i:Nat):Addr:=match v with
 | .slice (some a) _ _=>⟨a.block,a.off+i*e,none⟩
 | _=>⟨0,0,none⟩
def blk:Value->Option Nat
 | .slice (some a) _ _=>some a.block
 | _=>none
theorem bq {m m':M}{e n:Nat}{v:Value}(h:∀B,blk v=some B->m'.obj B=m.obj B):zh m' e n v=zh m e n v:=by
 cases v with
 | slice a k c =>
  cases a with
  | none=>rfl
  | some a =>
   show loads m' a _=loads m a _
   unfold loads cellsOf;rw[h _ rfl]
 | _=>rfl
structure Rd {α:Type}(m:M)(v:Value)(e:Nat)(f:α->List Value)(es:List α):Prop where
 len:jW v=some (.int .i64 es.length)
 row:∀(i:Nat) (r:α),es[i]?=some r->jU e v (.int .i64 i)=some (.pointer (some (adr e v i)))/\(adr e v i).block<m.n/\loads m (adr e v i) e=some (f r)
 all:zh m e es.length v=some (es.flatMap f)
 lt:∀B,blk v=some B->B<m.n
theorem xk {m m':M}(h:Sees m m'){B o n:Nat}{s:Option Nat}(hB:B<m.n):loads m' ⟨B,o,s⟩ n=loads m ⟨B,o,s⟩ n:=by
 unfold loads cellsOf;rw[h.obj B hB]
theorem VF {m m':M}(h:Sees m m'){B o:Nat}{s:Option Nat}(hB:B<m.n):load1 m' ⟨B,o,s⟩=load1 m ⟨B,o,s⟩:=by
 unfold load1 cellsOf;rw[h.obj B hB]
theorem WD {m:M}{a:Addr}{n:Nat}{l:List Value}(h:loads m a n=some l){o:Nat}{s:Option Nat}{v:Value}(hv:l[o]?=some v):load1 m ⟨a.block,a.off+o,s⟩=some v:=by
 unfold loads at h;unfold load1
 cases hc:cellsOf m a.block with
 | none=>rw[hc]at h;cases h
 | some c =>
  rw[hc]at h
  exact (bD h).2 o v hv
section
variable {α:Type}{m:M}{v:Value}{e:Nat}{f:α->List Value}{es:List α}
theorem Rd.sees {m':M}(h:Rd m v e f es)(k:Sees m m'):Rd m' v e f es :=
 ⟨h.len,λi r hr=>let ⟨h1,h2,h3⟩:=h.row i r hr;⟨h1,qgi h2 k.n,by
  rw[show adr e v i=⟨(adr e v i).block,(adr e v i).off,(adr e v i).spot⟩ from rfl,xk k h2];exact h3⟩,by rw[bq λB hB=>k.obj B (h.lt B hB)];exact h.all,λB hB=>qgi (h.lt B hB) k.n⟩
theorem Rd.at (h:Rd m v e f es){i:Nat}{r:α}(hr:es[i]?=some r) :
  jU e v (.int .i64 i)=some (.pointer (some (adr e v i)))/\(∀m',Sees m m'->loads m' (adr e v i) e=some (f r))/\(∀m' o s,Sees m m'->o<(f r).length->load1 m' ⟨(adr e v i).block,(adr e v i).off+o,s⟩=(f r)[o]?):=by
 obtain⟨h1,h2,h3⟩:=h.row i r hr
 have key:∀m',Sees m m'->loads m' (adr e v i) e=some (f r):=λm' k=>by
  rw[show adr e v i=⟨(adr e v i).block,(adr e v i).off,(adr e v i).spot⟩ from rfl,xk k h2];exact h3
 exact⟨h1,key,λm' o s k ho=>by rw[WD (key m' k) (qgd ho),qgd ho]⟩
theorem Rd.at1 {g:α->Value}(h:Rd m v 1 (λa=>[g a]) es){i:Nat}{r:α}(hr:es[i]?=some r) :
  jU 1 v (.int .i64 i)=some (.pointer (some (adr 1 v i)))/\∀m',Sees m m'->load1 m' (adr 1 v i)=some (g r):=by
 obtain⟨h1,h2,h3⟩:=h.at hr
 refine⟨h1,λm' k=>?_⟩
 have:=h3 m' 0 (adr 1 v i).spot k (by simp)
 exact this
end
def Arr (m:M)(B:Nat)(l:List Value):Prop:=∃c,m.obj B=some (.cells c)/\∀i,A.get none i c=l[i]?
theorem Arr.congr {m m':M}{B:Nat}{l:List Value}(h:Arr m B l)(e:m'.obj B=m.obj B):Arr m' B l:=let ⟨c,h1,h2⟩:=h;⟨c,e.trans h1,h2⟩
theorem Arr.sees {m m':M}{B:Nat}{l:List Value}(h:Arr m B l)(k:Sees m m')(hB:B<m.n):Arr m' B l:=h.congr (k.obj B hB)
theorem Arr.ext {m m':M}{B:Nat}{l:List Value}(h:Arr m B l)(k:Ext m m')(hB:B<m.n):Arr m' B l:=h.congr (k.obj B hB)
theorem Arr.row (m:M)(l:List Value):Arr (newRow m l) m.n l:=by
 refine⟨mkn .lf 0 l,by unfold newRow;rw[M.obj_alloc,if_pos rfl],λi=>?_⟩
 rw[jF,A.get_lf]
 split
 .simp
 .rename_i h;simp at h;simp[h]
theorem ldn_of {c:C}{l:List Value}(h:∀i,A.get none i c=l[i]?):∀(n o:Nat),o+n<=l.length->ldn c o n=some ((l.drop o).take n):=by
 intro n
 induction n with
 | zero=>intro o _;simp[Xc]
 | succ n ih =>
  intro o ho
  have:o<l.length:=by omega
  rw[yT,h,qgd this,ih (o+1) (by omega),List.drop_eq_getElem_cons this]
  rfl
theorem Arr.loads {m:M}{B:Nat}{l:List Value}(h:Arr m B l){o n:Nat}{s:Option Nat}(hn:o+n<=l.length):loads m ⟨B,o,s⟩ n=some ((l.drop o).take n):=by
 obtain⟨c,h1,h2⟩:=h
 unfold Dx.loads cellsOf
 rw[h1];exact ldn_of h2 n o hn
theorem Arr.load1 {m:M}{B:Nat}{l:List Value}(h:Arr m B l)(o:Nat)(s:Option Nat):load1 m ⟨B,o,s⟩=l[o]?:=by
 obtain⟨c,h1,h2⟩:=h
 unfold Dx.load1 cellsOf
 rw[h1];exact h2 o
def over (l:List Value)(o:Nat):List Value->List Value
 | []=>l
 | v::vs=>over (l.set o v) (o+1) vs
theorem Qt:∀(vs l:List Value) (o:Nat),(over l o vs).length=l.length
 | [],_,_=>rfl
 | v::vs,l,o=>by unfold over;rw[Qt vs];simp
theorem Qa:∀{vs l:List Value} {c:C} {o:Nat},(∀i,A.get none i c=l[i]?)->o+vs.length<=l.length->(∀v∈vs,okC v=true)->∃c',stn c o vs=some c'/\∀i,A.get none i c'=(over l o vs)[i]?
 | [],l,c,o,h,_,_=>⟨c,rfl,h⟩
 | v::vs,l,c,o,h,hn,hv=>by
  have ho:o<l.length:=by simp at hn;omega
  obtain⟨c',e,h'⟩:=Qa (vs:=vs) (l:=l.set o v) (c:=A.set none (some v) o c) (o:=o+1) (λi=>by
   by_cases hi:i=o
   .subst hi;rw[A.get_set_same];simp[ho]
   .rw[A.get_set_ne _ _ hi,h,List.getElem?_set_ne (by omega)]) (by simp at hn ⊢;omega) (λu hu=>hv u (qgo _ hu))
  refine⟨c',?_,h'⟩
  show ob (A.get none o c) _=_
  rw[h,qgd ho]
  show (bif okC v then _ else none)=_
  rw[hv v (qgw ..)]
  exact e
def xf (m:M)(B o:Nat)(l:List Value):M:=(stores m ⟨B,o,none⟩ l).getD m
theorem kg {m:M}{B o:Nat}{l l0:List Value}(h:Arr m B l0)(hn:o+l.length<=l0.length)(hl:∀v∈l,okC v=true) :
  stores m ⟨B,o,none⟩ l=some (xf m B o l)/\Arr (xf m B o l) B (over l0 o l)/\(xf m B o l).n=m.n/\(xf m B o l).base=m.base/\(∀X,X≠B->(xf m B o l).obj X=m.obj X)/\(m.base<=B->(xf m B o l).log=m.log):=by
 obtain⟨c,h1,h2⟩:=h
 cases l with
 | nil=>exact⟨rfl,⟨c,h1,h2⟩,rfl,rfl,λ_ _=>rfl,λ_=>rfl⟩
 | cons v vs =>
  obtain⟨c',e,h'⟩:=Qa h2 hn hl
  have key:stores m ⟨B,o,none⟩ (v::vs)=some (m.put B (.cells c')):=by
   show ob (yy (m.obj B)) _=_
   rw[h1]
   show ob (stn c o (v::vs)) _=_
   rw[e];rfl
  have hp:xf m B o (v::vs)=m.put B (.cells c'):=by unfold xf;rw[key];rfl
  rw[hp]
  refine⟨key,⟨c',by rw[M.obj_put,if_pos rfl],h'⟩,M.n_put _ _ _,M.base_put _ _ _,λX hX=>by rw[M.obj_put,if_neg hX],λhb=>?_⟩
  cases m with | mk a b bs wl =>
  show note bs B wl=wl
  have h':Nat.ble bs B=true:=qgl hb
  unfold note
  rw[h'];rfl
theorem qai {m a:M}{B o:Nat}{l l0:List Value}(h:Arr m B l0)(hn:o+l.length<=l0.length)(hl:∀v∈l,okC v=true)(hB:a.n<=B)(hb:a.base<=a.n)(k:Ext a m):Ext a (xf m B o l):=by
 obtain⟨_,_,h1,h2,h3,h4⟩:=kg h hn hl
 exact⟨by rw[h1];exact k.n,λX hX=>by rw[h3 X (by omega)];exact k.obj X hX,by rw[h2,k.base],by rw[h4 (by rw[k.base];omega),k.log]⟩
theorem kX {m:M}{B o:Nat}{l0:List Value}(h:Arr m B l0){v:Value}{l:List Value}{n:Nat}(hv:jH v=some l)(hln:l.length=n)(hn:o+n<=l0.length)(hl:∀v∈l,okC v=true) :
  qB n (.pointer (some ⟨B,o,none⟩)) v m=some (undef,xf m B o l):=by
 have:=(kg (o:=o) (l:=l) h (by omega) hl).1
 show ob (jH v) _=_
 rw[hv]
 show (bif Nat.beq l.length n then _ else none)=_
 rw[hln,Nat.beq_refl]
 show ob (stores m ⟨B,o,none⟩ l) _=_
 rw[this];rfl
theorem VG {m:M}(hm:m.base<=m.n){zs l:List Value}{v:Value}{n:Nat}(hv:jH v=some l)(hz:zs.length=n)(hln:l.length=n)(hl:∀v∈l,okC v=true) :
  qB n (.pointer (some ⟨m.n,0,none⟩)) v (newRow m zs)=some (undef,xf (newRow m zs) m.n 0 l)/\Arr (xf (newRow m zs) m.n 0 l) m.n (over zs 0 l)/\Ext m (xf (newRow m zs) m.n 0 l)/\m.n<(xf (newRow m zs) m.n 0 l).n:=by
 have h:=Arr.row m zs
 refine⟨kX h hv hln (by omega) hl,(kg (o:=0) (l:=l) h (by omega) hl).2.1,qai h (by omega) hl (qgg _) hm (Ext.row _ _),?_⟩
 rw[(kg (o:=0) (l:=l) h (by omega) hl).2.2.1,qQ];omega
theorem Xu:∀(l zs:List Value) (p:List Value),zs.length=l.length->over (p++zs) p.length l=p++l
 | [],zs,p,h=>by cases zs<;>simp_all [over]
 | v::l,zs,p,h=>by
  cases zs with
  | nil=>simp at h
  | cons z zs =>
   unfold over
   have:=Xu l zs (p++[v]) (by simpa using h)
   simp at this ⊢
   exact this
theorem ya {l zs:List Value}(h:zs.length=l.length):over zs 0 l=l:=Xu l zs [] h
abbrev SeqR (c a b:SC):Prop:=∀(x:Ex) (n:K) (e:Nat->K) (r:K) (t:Tm) (m:M),c x n e r t m=a x (b x n e r) e r t m
theorem zu {c a b:SC}(h:c=qa a b):SeqR c a b:=by subst h;exact λ_ _ _ _ _ _=>rfl
theorem bN {c:List IS}{a:IS}{l:List IS}(h:c=a::l):∀(x:Ex) (k:K) (t:Tm) (m:M),yd c x k t m=a x (yd l x k) t m:=by subst h;exact λ_ _ _ _=>rfl
theorem JF {c:List DA}{a:DA}{l:List DA}(h:c=a::l):∀(x:Ex) (k:List (Nat × FP)->K) (f:List (Nat × FP)) (t:Tm) (m:M),FR x c k f t m=FQ x a (FR x l k) f t m:=by subst h;exact λ_ _ _ _ _=>rfl
theorem qF {c a:SC}(hc:c=qW a){x:Ex}{kn kr:K}{ke:Nat->K}(Q:Option Out->Prop)(I:Nat->Tm->M->Prop)(len:Nat)(hlen:len<=9223372036854775807){t:Tm}{m:M}(h0:I 0 t m)
  (round:∀i t m (k:K),i<=len->I i t m->(i<len->∀t' m',I (i+1) t' m'->Q (k t' m'))->Q (a x k ke kr t m)):Q (c x kn ke kr t m):=by
 subst hc;exact qb9 Q I len hlen round h0
theorem vu {m:M}(hm:m.base<=m.n){zs l:List Value}{v:Value}{n:Nat}(hv:jH v=some l)(hz:zs.length=n)(hln:l.length=n)(hl:∀v∈l,okC v=true) :
  ∃m2,qB n (.pointer (some ⟨m.n,0,none⟩)) v (newRow m zs)=some (undef,m2)/\(∀o s,load1 m2 ⟨m.n,o,s⟩=l[o]?)/\(∀s,loads m2 ⟨m.n,0,s⟩ n=some l)/\Ext m m2/\m.n<m2.n:=by
 obtain⟨h1,h2,h3,h4⟩:=VG hm hv hz hln hl
 rw[ya (by omega)]at h2
 exact⟨_,h1,λo s=>h2.load1 o s,λs=>by rw[h2.loads (by omega),List.drop_zero,<-hln,List.take_length],h3,h4⟩
@[simp] theorem qg9 (x:Ex) (t:Tm) (m:M) (e n:Nat) (zs:List Value) (ps:List (Nat × Nat × V)):kU e n zs ps x t m=jR e n zs (evP ps t) m:=_root_.id rfl
@[simp] theorem Vg (m:M) (z:Value) (k:IntKind) (a:Int):jR 1 1 (rep 1 [z]) [(0,1,.int k a)] m=some (.slice (some ⟨m.n,0,some 3⟩) 1 1,newRow m [.int k a]):=_root_.id rfl
theorem VH {m:M}{B:Nat}(h:m.base<=B)(o:DObj):(m.put B o).log=m.log:=by
 cases m with | mk a b bs wl =>
 show note bs B wl=wl
 have h':Nat.ble bs B=true:=qgl h
 unfold note
 rw[h'];rfl
theorem Jw {c:C}{v:Value}{i:Nat}(h:A.get none i c=some v):alive c=true:=by
 cases c with
 | lf=>rw[A.get_lf]at h;cases h
 | _=>rfl
def Grown {α:Type}(m0 m:M)(v:Value)(e:Nat)(f:α->List Value)(es:List α):Prop :=
 (es=[]/\v=.slice none 0 0)\/∃B,m0.n<=B/\B<m.n/\es≠[]/\v=.slice (some ⟨B,0,some (code e false)⟩) es.length es.length/\Arr m B (es.flatMap f)
section
variable {α:Type}{m0 m m':M}{v:Value}{e:Nat}{f:α->List Value}{es:List α}
theorem Grown.nil:Grown m0 m (.slice none 0 0) e f ([]:List α):=.inl ⟨rfl,rfl⟩
theorem Grown.keep (h:Grown m0 m v e f es)(hn:m.n<=m'.n)(k:∀B,B<m.n->blk v=some B->m'.obj B=m.obj B):Grown m0 m' v e f es:=by
 rcases h with h | ⟨B,h1,h2,h3,rfl,h5⟩
 .exact .inl h
 .exact .inr ⟨B,h1,by omega,h3,rfl,h5.congr (k B h2 rfl)⟩
theorem Grown.ext (h:Grown m0 m v e f es)(k:Ext m m'):Grown m0 m' v e f es:=h.keep k.n λB hB _=>k.obj B hB
theorem Grown.lens (h:Grown m0 m v e f es):jW v=some (.int .i64 es.length):=by
 rcases h with ⟨rfl,rfl⟩ | ⟨B,h1,h2,h3,rfl,h5⟩<;>rfl
theorem wG (hf:∀x,(f x).length=e):∀es:List α,(es.flatMap f).length=es.length*e
 | []=>by simp
 | x::es=>by simp[hf x,wG hf es,Nat.succ_mul,Nat.add_comm]
theorem xC (hf:∀x,(f x).length=e):∀(es:List α) (i:Nat) (x:α),es[i]?=some x->((es.flatMap f).drop (i*e)).take e=f x
 | [],i,x,h=>by simp at h
 | y::es,0,x,h=>by
  simp at h;subst h
  simp[<-hf y]
 | y::es,i+1,x,h=>by
  simp at h
  rw[List.flatMap_cons,List.drop_append,Nat.succ_mul,hf y,List.drop_eq_nil_of_le (by rw[hf y];omega),List.nil_append,Nat.add_sub_cancel]
  exact xC hf es i x h
theorem Grown.rd (hf:∀x,(f x).length=e)(h:Grown m0 m v e f es):Rd m v e f es:=by
 refine⟨h.lens,λi r hr=>?_,?_,?_⟩
 rotate_left
 .rcases h with ⟨rfl,rfl⟩ | ⟨B,h1,h2,h3,rfl,h5⟩
  .rfl
  .show loads m ⟨B,0,some (code e false)⟩ (es.length*e)=_
   have hlen:=wG hf es
   rw[h5.loads (by omega),List.drop_zero,<-hlen,List.take_length]
 .rcases h with ⟨rfl,rfl⟩ | ⟨B,h1,h2,h3,rfl,h5⟩
  .intro B hB;cases hB
  .intro C hC;cases hC;exact h2
 have hi:i<es.length:=(qgf.1 hr).1
 rcases h with ⟨rfl,rfl⟩ | ⟨B,h1,h2,h3,rfl,h5⟩
 .simp at hi
 .refine⟨?_,h2,?_⟩
  .show (bif Nat.blt i es.length then gS (i*e) _ else none)=_
   rw[show Nat.blt i es.length=true from qgl hi];rfl
  .show loads m ⟨B,0+i*e,none⟩ e=_
   have:=qgx e (Nat.succ_le_of_lt hi)
   rw[h5.loads (by rw[wG hf,Nat.zero_add];rw[Nat.succ_mul]at this;omega),Nat.zero_add,xC hf es i r hr]
theorem QU:∀{l:List Value},(∀v∈l,okC v=true)->yG l=true
 | [],_=>rfl
 | v::l,h=>by unfold yG;rw[h v (qgw ..),QU λu hu=>h u (qgo _ hu)];rfl
theorem Grown.core (h:Grown m0 m v e f es)(he:0<e)(hf:∀x,(f x).length=e)(hok:∀x,∀v∈f x,okC v=true){x:α}{X:Nat}{sp:Option Nat}
  (hx:loads m ⟨X,0,sp⟩ e=some (f x)) (h0:m0.n<=m.n) {bytes:Nat} (hm:(es.length+1)*bytes<=most) (hn:es.length+1<=4611686018427387904) :
  ∃v' m',wZ m e bytes v (.slice (some ⟨X,0,sp⟩) 1 1)=some (v',m')/\Grown m0 m' v' e f (es++[x])/\m.n<m'.n/\m'.base=m.base/\(m'.log=m.log\/∃B,blk v=some B/\m0.n<=B/\m'.log=note m.base B m.log)/\(∀B,B<m.n->blk v≠some B->m'.obj B=m.obj B)/\(∀B,blk v'=some B->m.n<=B):=by
 have hk:(Nat.ble ((es.length+1)*bytes) most&&Nat.ble (es.length+1) 4611686018427387904)=true:=by rw[qgl hm,qgl hn];rfl
 have hfi:zh m e 1 (.slice (some ⟨X,0,sp⟩) 1 1)=some (f x):=by unfold zh;rw[Nat.one_mul];exact hx
 have hal:yG (es.flatMap f++f x)=true:=QU λu hu=>by
  simp only[qh1,List.mem_flatMap]at hu
  rcases hu with ⟨y,_,h⟩ | h
  .exact hok y u h
  .exact hok x u h
 have hfl:(es++[x]).flatMap f=es.flatMap f++f x:=by simp
 rcases h with ⟨rfl,rfl⟩ | ⟨B,h1,h2,h3,rfl,h5⟩
 .refine⟨_,_,?_,.inr ⟨m.n,h0,by rw[qQ];omega,by simp,rfl,by simpa using Arr.row m (f x)⟩,by rw[qQ];omega,(Ext.row m (f x)).base,.inl (Ext.row m (f x)).log,
   λB hB _=>(Ext.row m (f x)).obj B hB,λB hB=>by cases hB;exact qgg _⟩
  show ob (zh m e 1 _) _=_
  rw[hfi,qN]
  unfold QV
  have hlt:Nat.ble (0+1) 0=false:=rfl
  have hk':(Nat.ble ((0+1)*bytes) most&&Nat.ble (0+1) 4611686018427387904)=true:=hk
  rw[hlt,cond_false,hk',cond_true]
  rfl
 .have hlt:Nat.ble (es.length+1) es.length=false:=by
   cases q:Nat.ble (es.length+1) es.length with
   | false=>rfl
   | true=>exact absurd (qgm q) (by omega)
  obtain⟨c,hc,hcl⟩:=id h5
  have hpos:0<es.length:=qh0.2 h3
  have hlen:=wG hf es
  have hne:0<(es.flatMap f).length:=by rw[hlen];exact Nat.mul_pos hpos he
  have ha:alive c=true:=Jw (i:=0) (by rw[hcl,qgd hne])
  refine⟨.slice (some ⟨m.n,0,some (code e false)⟩) (es.length+1) (es.length+1),(m.put B (.cells .lf)).alloc (.cells (mkn .lf 0 (es.flatMap f++f x))),?_,
   .inr ⟨m.n,h0,by rw[M.n_alloc,M.n_put];omega,by simp,by simp,?_⟩,by rw[M.n_alloc,M.n_put];omega,by rw[M.base_alloc,M.base_put],.inr ⟨B,rfl,h1,by rw[M.log_alloc];cases m;rfl⟩,λY hY hne'=>?_,λY hY=>by cases hY;exact qgg _⟩
  .show ob (zh m e 1 _) _=_
   rw[hfi,qN]
   unfold QV
   rw[hlt,cond_false,hk,cond_true]
   have hold:zh m e es.length (.slice (some ⟨B,0,some (code e false)⟩) es.length es.length)=some (es.flatMap f):=by
    show loads m ⟨B,0,some (code e false)⟩ (es.length*e)=_
    rw[h5.loads (by omega),List.drop_zero,<-hlen,List.take_length]
   rw[hold,qN]
   unfold Qo
   have hx':vH (code e false)=false:=by
    show Nat.beq (2*e%2) 1=false
    rw[show 2*e%2=0 by omega];rfl
   have hcd:Nat.beq (code e false/2) e=true:=by
    show Nat.beq (2*e/2) e=true
    rw[show 2*e/2=e by omega];exact Nat.beq_refl e
   show ob (some (code e false)) _=_
   rw[qN,hx',cond_false]
   show ob (yy (m.obj B)) _=_
   rw[hc]
   show (bif alive c&&Nat.beq (code e false/2) e&&yG (es.flatMap f++f x)&&Nat.blt 0 HI then _ else _)=_
   rw[ha,hcd,hal,show Nat.blt 0 HI=true from qgl (by unfold HI;omega)]
   rfl
  .rw[hfl]
   refine⟨_,by rw[M.obj_alloc,M.n_put,if_pos rfl],λi=>?_⟩
   rw[jF,A.get_lf]
   split
   .simp
   .rename_i h;rw[qgz (by omega)]
  .rw[M.obj_alloc,M.n_put,if_neg (by omega),M.obj_put,if_neg (by rintro rfl;exact hne' rfl)]
theorem fL {bs B:Nat}{wl:List Nat}(h:bs<=B):note bs B wl=wl:=by unfold note;rw[qgl h];rfl
theorem Grown.append (h:Grown m0 m v e f es)(hE:Ext m0 m)(hb:m0.base<=m0.n)(he:0<e)(hf:∀x,(f x).length=e)(hok:∀x,∀v∈f x,okC v=true){x:α}{X:Nat}{sp:Option Nat}
  (hx:loads m ⟨X,0,sp⟩ e=some (f x)) {bytes:Nat} (hm:(es.length+1)*bytes<=most) (hn:es.length+1<=4611686018427387904) :
  ∃v' m',wZ m e bytes v (.slice (some ⟨X,0,sp⟩) 1 1)=some (v',m')/\Ext m0 m'/\Grown m0 m' v' e f (es++[x])/\m.n<=m'.n/\(∀B,B<m.n->blk v≠some B->m'.obj B=m.obj B)/\(∀B,blk v'=some B->m.n<=B):=by
 have hlow:∀B,blk v=some B->m0.n<=B:=λB hB=>by
  rcases h with ⟨rfl,rfl⟩ | ⟨B',h1,_,_,rfl,_⟩
  .cases hB
  .cases hB;exact h1
 obtain⟨v',m',h1,h2,h3,h4,h5,h6,h7⟩:=h.core he hf hok hx hE.n hm hn
 refine⟨v',m',h1,⟨by have:=hE.n;omega,λB hB=>(h6 B (by have:=hE.n;omega) λhc=>by have:=hlow B hc;omega).trans (hE.obj B hB),by rw[h4,hE.base],?_⟩,h2,by omega,h6,h7⟩
 rcases h5 with h5 | ⟨B,_,hB,h5⟩
 .rw[h5,hE.log]
 .rw[h5,fL (by rw[hE.base];omega),hE.log]
end
@[simp] theorem extract_0 (a:Value) (l:List Value):vT 0 (.tuple ⟨a::l⟩)=some a:=_root_.id rfl
@[simp] theorem extract_1 (a b:Value) (l:List Value):vT 1 (.tuple ⟨a::b::l⟩)=some b:=_root_.id rfl
@[simp] theorem extract_2 (a b c:Value) (l:List Value):vT 2 (.tuple ⟨a::b::c::l⟩)=some c:=_root_.id rfl
@[simp] theorem pNilck_p (a:Addr):WO (.pointer (some a))=some (.pointer (some a)):=_root_.id rfl
@[simp] theorem mCallv_ap (f:V) (l:List V) (x:Ex) (t:Tm) (m:M):zQ f l x t m=Zu x (evs t l) m (f t):=_root_.id rfl
@[simp] theorem qg3 (x:Ex) (l:List Value) (m:M) (g:Nat) (u v:List Value):Zu x l m (.func (.func g) ⟨u⟩ ⟨v⟩)=x.f g (u++l++v) m:=_root_.id rfl
end
def Sp (e:Nat)(v:Value):Prop:=v=.slice none 0 0\/∃B o l c x,v=.slice (some ⟨B,o,some (code e x)⟩) l c/\l<=c
end Go.Dx
namespace Go.Dx
noncomputable section
@[simp] theorem GD (m:M) (a:Addr) (n:Nat):loads (qg m) a n=loads m a n:=by unfold loads cellsOf;rw[qw]
@[simp] theorem meets_nil (l:List (Nat × FP)) (x:FP):meets l x []=true:=rfl
theorem fg {bs:Nat}{wl:List Nat}:∀{l:List Nat},(∀B∈l,bs<=B)->notes bs wl l=wl
 | [],_=>rfl
 | B::l,h=>by
  show notes bs (note bs B wl) l=wl
  have:note bs B wl=wl:=by unfold note;rw[qgl (h B (qgw ..))];rfl
  rw[this];exact fg λC hC=>h C (qgo _ hC)
structure St (m0 m:M)(σ:List (Nat × List Value)):Prop where
 ext:Ext m0 m
 base:m0.base<=m0.n
 arr:∀p∈σ,m0.n<=p.1/\p.1<m.n/\Arr m p.1 p.2
 nd:(σ.map (·.1)).Nodup
def Loads (m:M):List (Nat × List Value)->Prop
 | []=>True
 | p::σ=>(∀o s,load1 m ⟨p.1,o,s⟩=p.2[o]?)/\Loads m σ
section
variable {m0 m m':M}{σ:List (Nat × List Value)}{k b o:Nat}{l:List Value}{v:Value}
theorem St.nil (h:m0.base<=m0.n)(e:Ext m0 m):St m0 m []:=⟨e,h,(by simp),(by simp)⟩
theorem St.loads (h:St m0 m σ):Loads m σ:=by
 have:=h.arr
 clear h
 induction σ with
 | nil=>trivial
 | cons p σ ih=>exact⟨λo s=>(this p (qgw ..)).2.2.load1 o s,ih λq hq=>this q (qgo _ hq)⟩
theorem St.get (h:St m0 m σ)(k:Nat)(hk:σ[k]?=some (b,l)):m0.n<=b/\b<m.n/\Arr m b l:=h.arr _ (qge hk)
theorem St.keep (h:St m0 m σ)(e:Ext m0 m')(hn:m.n<=m'.n)(ho:∀B,m0.n<=B->B<m.n->m'.obj B=m.obj B):St m0 m' σ :=
 ⟨e,h.base,λp hp=>let ⟨h1,h2,h3⟩:=h.arr p hp;⟨h1,by omega,h3.congr (ho _ h1 h2)⟩,h.nd⟩
theorem St.step (h:St m0 m σ)(e:Ext m m'):St m0 m' σ:=h.keep (h.ext.trans e) e.n λB _ hB=>e.obj B hB
theorem St.sees (h:St m0 m σ):Sees m0 m:=(Sees.refl h.base).ext h.ext
theorem St.behind (h:St m0 m σ)(e:Ext (qg m) m'):St m0 (behind m m') σ:=h.step e.behind
theorem St.row (h:St m0 m σ)(l:List Value):St m0 (newRow m l) ((m.n,l)::σ):=by
 have h':=h.step (Ext.row m l)
 refine⟨h'.ext,h.base,λp hp=>?_,?_⟩
 .rcases List.mem_cons.1 hp with rfl | hp
  .exact⟨h.ext.n,by rw[qQ];exact Nat.lt_succ_self _,Arr.row m l⟩
  .exact h'.arr p hp
 .rw[List.map_cons,List.nodup_cons]
  refine⟨λhm=>?_,h.nd⟩
  obtain⟨q,hq,e⟩:=List.mem_map.1 hm
  have:=(h.arr q hq).2.1
  omega
theorem Xq {σ:List (Nat × List Value)}(hn:(σ.map (·.1)).Nodup){i j:Nat}{p q:Nat × List Value}(hi:σ[i]?=some p)(hj:σ[j]?=some q)(h:p.1=q.1):i=j:=by
 obtain⟨hi',rfl⟩:=qgf.1 hi
 obtain⟨hj',rfl⟩:=qgf.1 hj
 have key:∀(l:List Nat),l.Nodup->∀(i j:Nat) (x:Nat),l[i]?=some x->l[j]?=some x->i=j:=by
  intro l
  induction l with
  | nil=>intro _ i j x h;simp at h
  | cons a l ih =>
   intro hn i j x h1 h2
   rw[List.nodup_cons]at hn
   cases i with
   | zero =>
    cases j with
    | zero=>rfl
    | succ j=>simp at h1 h2;subst h1;exact absurd (qge h2) hn.1
   | succ i =>
    cases j with
    | zero=>simp at h1 h2;subst h2;exact absurd (qge h1) hn.1
    | succ j=>simp at h1 h2;rw[ih hn.2 i j x h1 h2]
 exact key _ hn i j (σ[i]'hi').1 (by rw[qgu,qgd hi'];rfl) (by rw[qgu,qgd hj',h];rfl)
theorem St.put' (h:St m0 m σ)(k:Nat)(hk:σ[k]?=some (b,l)){l':List Value}(hn:m'.n=m.n)(hb:m'.base=m.base)(hlog:m'.log=m.log)(ho:∀X,X≠b->m'.obj X=m.obj X)(ha:Arr m' b l'):St m0 m' (σ.set k (b,l')):=by
 obtain⟨hk',hke⟩:=qgf.1 hk
 have hb0:=(h.get k hk).1
 refine⟨⟨by rw[hn];exact h.ext.n,λX hX=>by rw[ho X (by omega)];exact h.ext.obj X hX,by rw[hb,h.ext.base],by rw[hlog,h.ext.log]⟩,h.base,λp hp=>?_,?_⟩
 .obtain⟨j,hj,rfl⟩:=List.getElem_of_mem hp
  rw[List.getElem_set]
  rw[List.length_set]at hj
  split
  .exact⟨hb0,by rw[hn];exact (h.get k hk).2.1,ha⟩
  .rename_i hne
   obtain⟨h1,h2,h3⟩:=h.arr _ (List.getElem_mem hj)
   refine⟨h1,by rw[hn];exact h2,h3.congr (ho _ λe=>hne ?_)⟩
   exact (Xq h.nd (qgd hj) hk e).symm
 .have:(σ.set k (b,l')).map (·.1)=σ.map (·.1):=by
   rw[List.map_set]
   show (σ.map (·.1)).set k b=_
   refine List.ext_getElem (by simp) λi h1 h2=>?_
   rw[List.getElem_set]
   split
   .subst_vars;simp[hke]
   .rfl
  rw[this];exact h.nd
theorem St.store (h:St m0 m σ)(k:Nat)(hk:σ[k]?=some (b,l))(ho:o<l.length)(hv:okC v=true) :
  ∃m',qB 1 (.pointer (some ⟨b,o,none⟩)) v m=some (undef,m')/\St m0 m' (σ.set k (b,l.set o v))/\m'.n=m.n/\(∀X,X≠b->m'.obj X=m.obj X):=by
 obtain⟨h1,h2,h3⟩:=h.get k hk
 have hcv:jH v=some [v]:=by cases v<;>first | rfl | simp[okC]at hv
 have e:=kX (n:=1) (o:=o) h3 hcv rfl (by omega) (by simpa using hv)
 obtain⟨_,s2,s3,s4,s5,s6⟩:=kg (o:=o) (l:=[v]) h3 (by simp;omega) (by simpa using hv)
 exact⟨_,e,h.put' k hk s3 s4 (s6 (by have:=h.ext.base;have:=h.base;omega)) s5 s2,s3,s5⟩
theorem St.storeAny (h:St m0 m σ)(k:Nat)(hk:σ[k]?=some (b,l))(ho:o<l.length)(hv:okC v=true) :
  ∃m',qB 1 (.pointer (some ⟨b,o,none⟩)) v (qg m)=some (undef,m')/\m'.log=[b]/\St m0 (Dx.behind m m') (σ.set k (b,l.set o v))/\(Dx.behind m m').n=m.n/\(∀X,X≠b->(Dx.behind m m').obj X=m.obj X):=by
 obtain⟨h1,h2,h3⟩:=h.get k hk
 have hcv:jH v=some [v]:=by cases v<;>first | rfl | simp[okC]at hv
 have h3':Arr (qg m) b l:=h3.congr (qw m b)
 have e:=kX (n:=1) (o:=o) h3' hcv rfl (by omega) (by simpa using hv)
 obtain⟨s1,s2,s3,s4,s5,s6⟩:=kg (o:=o) (l:=[v]) h3' (by simp;omega) (by simpa using hv)
 have hlog:(xf (qg m) b o [v]).log=[b]:=by
  obtain⟨c,hc,hcl⟩:=h3'
  have:∃c',stores (qg m) ⟨b,o,none⟩ [v]=some ((qg m).put b (.cells c')):=by
   have hs:stores (qg m) ⟨b,o,none⟩ [v]=ob (yy ((qg m).obj b)) λc=>ob (stn c o [v]) λc'=>some ((qg m).put b (.cells c')):=rfl
   rw[hs,hc]
   obtain⟨c',e',_⟩:=Qa (vs:=[v]) (o:=o) hcl (by simp;omega) (by simpa using hv)
   exact⟨c',by show ob (stn c o [v]) _=_;rw[e'];rfl⟩
  obtain⟨c',e'⟩:=this
  have hp:xf (qg m) b o [v]=(qg m).put b (.cells c'):=by unfold xf;rw[e'];rfl
  rw[hp]
  cases m with | mk a nx bs wl =>
  show note nx b []=[b]
  have h2':b<nx:=h2
  unfold note
  have:Nat.ble nx b=false:=by
   cases q:Nat.ble nx b with
   | false=>rfl
   | true=>exact absurd (qgm q) (by omega)
  rw[this];rfl
 refine⟨_,e,hlog,h.put' k hk (by rw[wg,s3,qq]) (kZ _ _) ?_ (λX hX=>by rw[qz,s5 X hX,qw]) (s2.congr (qz _ _ _)),by rw[wg,s3,qq],λX hX=>by rw[qz,s5 X hX,qw]⟩
 rw[zd,hlog]
 refine fg λB hB=>?_
 rw[qgk.1 hB,h.ext.base]
 have:=h.base
 omega
end
theorem Rd.lenV {α:Type}{m:M}{v:Value}{e:Nat}{f:α->List Value}{es:List α}(h:Rd m v e f es):Dx.lenV v=some es.length:=by
 have hl:=h.len
 cases v with
 | slice a n cp =>
  have:some (Value.int .i64 (Int.ofNat n))=some (Value.int .i64 (es.length:Int)):=hl
  injection this with this;injection this with _ this
  show some n=_
  rw[Int.ofNat.inj this]
 | _=>cases hl
end
end Go.Dx
namespace Go.Dx
noncomputable section
theorem xO {α:Type}{m:M}(hm:m.base<=m.n){v:Value}{e:Nat}{f:α->List Value}{es:List α}(h:Rd m v e f es)(hf:∀x,(f x).length=e)(bytes:Nat)(hb:es.length*bytes<=most)(hn:es.length<=4611686018427387904) :
  ∃v' m',wZ (newRow m []) e bytes (.slice (some ⟨m.n,0,some (code e true)⟩) 0 0) v=some (v',m')/\Ext m m'/\Rd m' v' e f es/\(∀B,blk v'=some B->m.n<=B/\Arr m' B (es.flatMap f))/\(es≠[]->v'=.slice (some ⟨m.n+1,0,some (code e false)⟩) es.length es.length):=by
 have h':=h.sees ((Sees.refl hm).ext (Ext.row m []))
 have e0:wZ (newRow m []) e bytes (.slice (some ⟨m.n,0,some (code e true)⟩) 0 0) v=QV (newRow m []) e bytes 0 0 es.length (some ⟨m.n,0,some (code e true)⟩) (es.flatMap f):=by
  show ob (lenV v) _=_
  rw[h.lenV,qN]
  show ob (zh (newRow m []) e es.length v) _=_
  rw[h'.all,qN]
 rw[e0]
 unfold QV
 by_cases hz:es=[]
 .subst hz
  refine⟨_,_,rfl,Ext.row m [],⟨rfl,λi r hr=>by simp at hr,?_,λB hB=>by cases hB;show m.n<_;rw[qQ];omega⟩,λB hB=>by cases hB;exact⟨qgg _,Arr.row m []⟩,λh=>absurd rfl h⟩
  show loads (newRow m []) _ (0*e)=_
  rw[Nat.zero_mul,(Arr.row m []).loads (by simp)];rfl
 .have hpos:=qh0.2 hz
  have h1:Nat.ble (0+es.length) 0=false:=by
   cases q:Nat.ble (0+es.length) 0 with
   | false=>rfl
   | true=>have:=qgm q;omega
  rw[h1,cond_false,Nat.zero_add,qgl hb,qgl hn]
  show ∃v' m',ob (zh (newRow m []) e 0 (.slice (some ⟨m.n,0,some (code e true)⟩) 0 0)) _=_/\_
  have h2:zh (newRow m []) e 0 (.slice (some ⟨m.n,0,some (code e true)⟩) 0 0)=some []:=by
   show loads (newRow m []) _ (0*e)=_
   rw[Nat.zero_mul,(Arr.row m []).loads (by simp)];rfl
  rw[h2]
  have hx:vH (code e true)=true:=by
   show Nat.beq ((2*e+1)%2) 1=true
   rw[show (2*e+1)%2=1 by omega];rfl
  have hg:Qo (newRow m []) e es.length (some ⟨m.n,0,some (code e true)⟩) ([]++es.flatMap f)=some (.slice (some ⟨m.n+1,0,some (code e false)⟩) es.length es.length,newRow (newRow m []) (es.flatMap f)):=by
   unfold Qo
   show ob (some (code e true)) _=_
   rw[qN,hx,cond_true,qQ];rfl
  have hA:Arr (newRow (newRow m []) (es.flatMap f)) (m.n+1) (es.flatMap f):=by have:=Arr.row (newRow m []) (es.flatMap f);rwa [qQ]at this
  refine⟨_,_,hg,(Ext.row m []).trans (Ext.row _ _),?_,λB hB=>by cases hB;exact⟨Nat.le_succ _,hA⟩,λ_=>rfl⟩
  have hG:Grown m (newRow (newRow m []) (es.flatMap f)) (.slice (some ⟨m.n+1,0,some (code e false)⟩) es.length es.length) e f es:=.inr ⟨m.n+1,by omega,by rw[qQ,qQ];omega,hz,rfl,hA⟩
  exact hG.rd hf
@[simp] theorem eqNV_ap (n:Bool) (q:Value->Option Bool) (h:Bool) (x y:Value):eqNV n q h x y=ob (eqN q h x y) λb=>some (.bool (bif n then !b else b)):=_root_.id rfl
theorem bh {v:Value}{n:Int}(h:jW v=some (.int .i64 n)):eqN WM true v (.slice none 0 0)=some (match v with | .slice none _ _=>true | _=>false):=by
 cases v with
 | slice a n c=>cases a<;>rfl
 | _=>cases h
end
end Go.Dx
namespace Go.Dx
noncomputable section
abbrev RmR (c:SC)(pre:List IS)(nt:Nat)(p:RmP)(a:SC):Prop:=∀(x:Ex) (kn:K) (ke:Nat->K) (kr:K) (t:Tm) (m:M),c x kn ke kr t m=yd pre x (rmGo nt p a x kn ke kr) t m
theorem qf5 {c:SC}{p:RmP}{nt:Nat}{a:SC}{pre:List IS}(h:c=sRm nt p a)(hp:p.pre=pre):RmR c pre nt p a:=by subst h;subst hp;exact λ_ _ _ _ _ _=>rfl
abbrev RdR (p:RmP)(c:SC)(asn:List IS)(nx mo pr nxt:Nat):Prop:=∀(x:Ex) (m:M) (k v:Value) (t:Tm),zk p c x m (k,v) t=yd asn x (c x Gn (ju nxt Gn qag) retK) (Tm.set pr (.tuple #[k,v]) (Tm.set mo (.bool true) (Tm.set nx jt t))) m
theorem qex {p:RmP}{c:SC}{asn:List IS}{nx mo pr nxt:Nat}(h1:p.asn=asn)(h2:p.nx=nx)(h3:p.mo=mo)(h4:p.pr=pr)(h5:p.nxt=nxt):RdR p c asn nx mo pr nxt:=by subst h1 h2 h3 h4 h5;exact λ_ _ _ _ _=>rfl
def RmE (R:Option E->Tm->M->Prop):Option Out->Prop:=λo=>∃e t m,o=some ⟨e,t,m⟩/\R e t m
theorem qcl {R:Option E->Tm->M->Prop}{t:Tm}{m:M}(h:R none t m):RmE R (Gn t m):=⟨_,_,_,rfl,h⟩
theorem rm_ret {R:Option E->Tm->M->Prop}{t:Tm}{m:M}(h:R (some .ret) t m):RmE R (retK t m):=⟨_,_,_,rfl,h⟩
theorem qf4 {m:M}{B:Nat}{es:List (Value × Value)}(h:m.obj B=some (.map es))(hi:∀p∈es,isInt p.1=true):Yf (.map (some B)) m=some es:=by
 show ob (WS (m.obj B)) _=_
 rw[h]
 show (bif es.all (λp=>isInt p.1) then some es else none)=_
 rw[List.all_eq_true.2 hi];rfl
theorem qcm {nt:Nat}{p:RmP}{c:SC}{x:Ex}{kn kr:K}{ke:Nat->K}{t:Tm}{m:M}{Q:Option Out->Prop}{es:List (Value × Value)}(hnt:nt<=512)(hes:Yf (p.o t) m=some es)(e:Option E)(m1:M)(L:List (Nat × Value))
  (I:List Nat->Tm->Prop) (h0:I [] (Tm.set p.it jt t))
  (hround:∀seen t j k v,es[j]?=some (k,v)->j ∉ seen->I seen t->RmE (λe' t' m'=>(e'=none/\m'=m/\I (j::seen) t')\/(e'=e/\e'≠none/\m'=m1/\∀q∈L,Tm.get q.1 t'=q.2)) (zk p c x m (k,v) t))
  (hdone:∀seen t,(∀j,j<es.length->j∈seen)->I seen t->e=none/\m1=m/\∀q∈L,Tm.get q.1 t=q.2)
  (hL:∀q∈L,q.1<nt/\q.1≠p.nx/\q.1≠p.mo) (hnx:p.nx<512) (hmo:p.mo<512)
  (hk:∀t',(∀q∈L,Tm.get q.1 t'=q.2)->Q (goOn kn (ju p.out kn ke) kr e t' m1)):Q (rmGo nt p c x kn ke kr t m):=by
 have key:∀seen t o,RmOut (zk p c x m) es m seen t o->I seen t->∃t',o=some ⟨e,t',m1⟩/\∀q∈L,Tm.get q.1 t'=q.2:=by
  intro seen t o h
  induction h with
  | done seen t h =>
   intro hI
   obtain⟨h1,h2,h3⟩:=hdone seen t h hI
   exact⟨t,by rw[h1,h2],h3⟩
  | stuck seen t j kv hj hs h =>
   intro hI
   obtain⟨_,_,_,h1,_⟩:=hround seen t j kv.1 kv.2 hj hs hI
   rw[show ((kv.1,kv.2):Value × Value)=kv from rfl,h]at h1;cases h1
  | moved seen t j kv t' m' hj hs h hm =>
   intro hI
   obtain⟨_,_,_,h1,h2⟩:=hround seen t j kv.1 kv.2 hj hs hI
   rw[show ((kv.1,kv.2):Value × Value)=kv from rfl,h]at h1;cases h1
   rcases h2 with ⟨_,h2,_⟩ | ⟨_,h2,_⟩
   .exact absurd h2 hm
   .exact absurd rfl h2
  | leave seen t j kv e0 t' m' hj hs h =>
   intro hI
   obtain⟨_,_,_,h1,h2⟩:=hround seen t j kv.1 kv.2 hj hs hI
   rw[show ((kv.1,kv.2):Value × Value)=kv from rfl,h]at h1;cases h1
   rcases h2 with ⟨h2,_⟩ | ⟨h2,_,h3,h4⟩
   .cases h2
   .exact⟨t',by rw[h2,h3],h4⟩
  | next seen t j kv t' o hj hs h hn ih =>
   intro hI
   obtain⟨_,_,_,h1,h2⟩:=hround seen t j kv.1 kv.2 hj hs hI
   rw[show ((kv.1,kv.2):Value × Value)=kv from rfl,h]at h1;cases h1
   rcases h2 with ⟨_,_,h2⟩ | ⟨_,h2,_⟩
   .exact ih h2
   .exact absurd rfl h2
 obtain⟨o0,ho0⟩:=RmOut.exists (rd:=zk p c x m) (es:=es) (m:=m) _ [] (Tm.set p.it jt t) (qgg _)
 have hg:Zp (zk p c x m) es m (Tm.set p.it jt t) e m1:=λo ho=>let ⟨t',h,_⟩:=key _ _ _ ho h0;⟨t',h⟩
 have hx:∃p1:Option E × M,Zp (zk p c x m) es m (Tm.set p.it jt t) p1.1 p1.2:=⟨(e,m1),hg⟩
 obtain⟨t0,ht0,hl0⟩:=key _ _ _ ho0 h0
 subst ht0
 have hres:Zh nt (zk p c x m) es m (Tm.set p.it jt t)=some ⟨e,star nt λt'=>RmOut (zk p c x m) es m [] (Tm.set p.it jt t) (some ⟨e,t',m1⟩),m1⟩:=by
  unfold Zh
  rw[dif_pos hx]
  obtain⟨t2,h2⟩:=hx.choose_spec _ ho0
  have e1:hx.choose.1=e:=by cases h2;rfl
  have e2:hx.choose.2=m1:=by cases h2;rfl
  rw[e1,e2]
 have he:rmGo nt p c x kn ke kr t m=rmEnd p kn ke kr ⟨e,star nt λt'=>RmOut (zk p c x m) es m [] (Tm.set p.it jt t) (some ⟨e,t',m1⟩),m1⟩:=by
  show ob (Yf (p.o t) m) _=_
  rw[hes]
  show ob (Zh nt (zk p c x m) es m (Tm.set p.it jt t)) _=_
  rw[hres];rfl
 rw[he]
 refine hk _ λq hq=>?_
 obtain⟨q1,q2,q3⟩:=hL q hq
 rw[Tm.get_set_ne (by omega) hmo q3,Tm.get_set_ne (by omega) hnx q2,XO hnt q1]
 refine qcw (t:=t0) ho0 λt' ht'=>?_
 obtain⟨t2,h2,h3⟩:=key _ _ _ ht' h0
 cases h2
 exact h3 q hq
end
end Go.Dx
namespace Go.Dx
open Go.RowKit Go.WideShapes Go.ChangeShapes
noncomputable section
attribute [local irreducible] A.get A.set HI
def gn:Value->Option Value
 | .int k n=>some (.int k n)
 | .bool b=>some (.bool b)
 | _=>none
theorem qb1 {φ:Phi}{v u:Value}(h:gn v=some u):VRel φ u v:=by
 unfold gn at h
 split at h
 .cases h;exact .int _ _
 .cases h;exact .bool _
 .cases h
def Qw (fz:Nat × Nat):Nat->List Value->C->C
 | _,[],c=>c
 | j,v::l,c=>Qw fz (j+1) l (match gn v with
  | some u=>if fz.1<=j/\j<fz.2 then c else A.set none (some u) (j+HI) c
  | none=>c)
def qcs:Obj->DObj
 | .cells cs _ fz=>.cells (Qw fz 0 cs.toList .lf)
 | _=>.cells .lf
def yk (l:List DObj)(m:M):M:=l.foldl M.alloc m
def snap0 (w:World):M:=yk (w.heap.toList.map qcs) M.empty
def snapM (w:World):M:=qg (snap0 w)
def yJ (w:World):Phi:=λB=>match w.heap[B]? with
 | some (.cells cs _ _)=>some ⟨B,HI,cs.size⟩
 | _=>none
theorem fU (fz:Nat × Nat):∀(l:List Value) (j:Nat) (c:C) (i:Nat),A.get none i (Qw fz j l c)=if j+HI<=i/\i<j+HI+l.length then
  (match (l[i-HI-j]?).bind gn with
   | some u=>if fz.1<=i-HI/\i-HI<fz.2 then A.get none i c else some u
   | none=>A.get none i c) else A.get none i c
 | [],j,c,i=>by
  show A.get none i c=_
  rw[if_neg (by simp)]
 | v::l,j,c,i=>by
  unfold Qw
  rw[fU fz l (j+1)]
  by_cases h1:i=j+HI
  .subst h1
   rw[if_neg (by omega),if_pos (by simp),show j+HI-HI-j=0 by omega,List.getElem?_cons_zero,show j+HI-HI=j by omega]
   rw[Option.bind_some]
   cases gn v with
   | some u =>
    simp only
    by_cases hz:fz.1<=j/\j<fz.2
    .rw[if_pos hz,if_pos hz]
    .rw[if_neg hz,if_neg hz,A.get_set_same]
   | none=>rfl
  .have hc:A.get none i (match gn v with
     | some u=>if fz.1<=j/\j<fz.2 then c else A.set none (some u) (j+HI) c
     | none=>c)=A.get none i c:=by
    cases gn v with
    | some u =>
     simp only
     split
     .rfl
     .rw[A.get_set_ne _ _ h1]
    | none=>rfl
   by_cases h2:j+1+HI<=i/\i<j+1+HI+l.length
   .rw[if_pos h2,if_pos (by simp;omega),show i-HI-j=(i-HI-(j+1))+1 by omega,List.getElem?_cons_succ,hc]
   .rw[if_neg h2,if_neg (by simp;omega),hc]
theorem gU:∀(l:List DObj) (m:M),(yk l m).n=m.n+l.length/\(yk l m).base=m.base/\(yk l m).log=m.log/\∀X,(yk l m).obj X=if m.n<=X/\X<m.n+l.length then l[X-m.n]? else m.obj X
 | [],m=>⟨rfl,rfl,rfl,λX=>by rw[if_neg (by simp)];rfl⟩
 | o::l,m=>by
  obtain⟨h1,h2,h3,h4⟩:=gU l (m.alloc o)
  rw[M.n_alloc]at h1 h4
  refine⟨by show (yk l (m.alloc o)).n=_;rw[h1];simp;omega,h2.trans (M.base_alloc _ _),h3.trans (M.log_alloc _ _),λX=>?_⟩
  show (yk l (m.alloc o)).obj X=_
  rw[h4 X]
  by_cases e:X=m.n
  .subst e
   rw[if_neg (by omega),if_pos (by simp),M.obj_alloc,if_pos rfl];simp
  .by_cases h:m.n+1<=X/\X<m.n+1+l.length
   .rw[if_pos h,if_pos (by simp;omega),show X-m.n=(X-(m.n+1))+1 by omega,List.getElem?_cons_succ]
   .rw[if_neg h,if_neg (by simp;omega),M.obj_alloc,if_neg e]
theorem snap_facts (w:World):(snapM w).n=w.heap.size/\(snapM w).base=w.heap.size/\(snapM w).log=[]/\∀X,(snapM w).obj X=(w.heap[X]?).map qcs:=by
 obtain⟨h1,h2,h3,h4⟩:=gU (w.heap.toList.map qcs) M.empty
 have hn:M.empty.n=0:=rfl
 have hn':(snap0 w).n=w.heap.size:=by show (yk _ _).n=_;rw[h1,hn];simp
 refine⟨by unfold snapM;rw[qq,hn'],by unfold snapM;rw[wS,hn'],wU _,λX=>?_⟩
 unfold snapM
 rw[qw]
 show (yk _ _).obj X=_
 rw[h4 X,hn]
 by_cases h:X<w.heap.size
 .rw[if_pos (by simp;omega)];simp[h]
 .rw[if_neg (by simp;omega),Array.getElem?_eq_none (by omega)]
  exact A3.get_lf none X
theorem R.snap (w:World):R (yJ w) (snapM w) w:=by
 obtain⟨h1,h2,h3,h4⟩:=snap_facts w
 refine⟨λB hB=>by rw[h4,Array.getElem?_eq_none (by omega)];rfl,λB l hB hl=>?_,λB₁ B₂ l₁ l₂ _ _ hl1 hl2 he hne=>?_⟩
 .unfold yJ at hl
  split at hl
  .rename_i cs e fz hx
   cases hl
   have hob:(snapM w).obj B=some (.cells (Qw fz 0 cs.toList .lf)):=by rw[h4,hx];rfl
   refine⟨.cells (Qw fz 0 cs.toList .lf),hob,cs,e,fz,hx,rfl,⟨λ_ h=>absurd h (Nat.lt_irrefl _),λi v hi=>?_⟩,λi v hi=>?_⟩
   .rw[fU]at hi
    split at hi
    .split at hi
     .split at hi
      .rw[A.get_lf]at hi;cases hi
      .assumption
     .rw[A.get_lf]at hi;cases hi
    .rw[A.get_lf]at hi;cases hi
   .rw[fU]at hi
    split at hi
    .rename_i hr
     split at hi
     .rename_i u hg
      split at hi
      .rw[A.get_lf]at hi;cases hi
      .cases hi
       rw[Nat.sub_zero,Option.bind_eq_some_iff]at hg
       obtain⟨x,hx1,hx2⟩:=hg
       refine⟨by show HI<=i;omega,x,?_,qb1 hx2⟩
       simpa using hx1
     .rw[A.get_lf]at hi;cases hi
    .rw[A.get_lf]at hi;cases hi
  .cases hl
 .unfold yJ at hl1 hl2
  split at hl1<;>cases hl1
  split at hl2<;>cases hl2
  exact absurd he hne
theorem Bo {w:World}{b i:Nat}{v:Value}(hkv:gn v=some v)(h:w.cell? ⟨b,i,none⟩=some v)(hz:w.frozen? ⟨b,i,none⟩=false)(s:Option Nat) :
  load1 (snapM w) ⟨b,i+HI,s⟩=some v/\b<w.heap.size/\∃cs e fz,w.heap[b]?=some (.cells cs e fz)/\i<cs.size:=by
 obtain⟨h1,h2,h3,h4⟩:=snap_facts w
 unfold World.cell? at h
 split at h
 .rename_i cs e fz hx
  simp only[Option.isSome_none,Bool.false_eq_true,if_false]at h
  have hi:i<cs.size:=(qgh.1 h).1
  refine⟨?_,(qgh.1 hx).1,cs,e,fz,hx,hi⟩
  have hob:(snapM w).obj b=some (.cells (Qw fz 0 cs.toList .lf)):=by rw[h4,hx];rfl
  have hld:∀o,load1 (snapM w) ⟨b,o,s⟩=A.get none o (Qw fz 0 cs.toList .lf):=λo=>by unfold load1 cellsOf;rw[hob];rfl
  have hg:cs.toList[i]?=some v:=by simpa using h
  have hzz:¬(fz.1<=i/\i<fz.2):=by
   simp only[World.frozen?,hx]at hz
   simpa using hz
  rw[hld,fU]
  generalize HI=H
  rw[if_pos (by simp;omega),show i+H-H=i by omega,Nat.sub_zero,hg,Option.bind_some,hkv]
  simp only
  rw[if_neg hzz]
 .cases h
theorem snap_call {P:Program}{x:Ex}(hx:xe P x){g:Nat}{args:List Value}{w:World}{b:Bool}(h:CallV x g args (snapM w) (.bool b))(args':Array Value)(ha:VRels (yJ w) args args'.toList) :
  Calls P g args' w λe w'=>e=.returned (.bool b)/\Below w.heap.size w w':=by
 obtain⟨h1,h2,h3,h4⟩:=snap_facts w
 obtain⟨v,m',e,hE,rfl⟩:=h
 obtain⟨_,_,hc⟩:=hx.f _ _ _ _ _ e
 refine (hc (yJ w) w args' (R.snap w) ha (λB hB _=>?_)).mono ?_
 .unfold yJ;rw[h1]at hB;rw[Array.getElem?_eq_none (by omega)]
 .rintro e w' ⟨φ',v',rfl,_,hs,hr⟩
  refine⟨by rw[hr.bool_inv],hs.os,hs.tape,hs.output,hs.size,λk hk=>hs.frame k hk λB l hl hb ht=>?_⟩
  obtain⟨q1,q2,_⟩:=ht
  have hB:B<w.heap.size:=by rw[<-h1];exact q1
  rcases q2 with q | q
  .rw[hE.base,h2]at q;omega
  .rw[hE.log,h3]at q;cases q
theorem Xf {m:M}{B:Nat}{s:Option Nat}:∀(l:List Value) (o:Nat),l≠[]->(∀j,j<l.length->load1 m ⟨B,o+j,s⟩=l[j]?)->loads m ⟨B,o,s⟩ l.length=some l:=by
 intro l o hne h
 have h0:=h 0 (qh0.2 hne)
 unfold load1 at h0
 cases hc:cellsOf m B with
 | none =>
  simp only[hc]at h0
  have:l[0]?=none:=h0.symm
  rw[List.getElem?_eq_none_iff]at this
  exact absurd (List.length_eq_zero_iff.1 (by omega)) hne
 | some c =>
  have hg:∀j,j<l.length->A.get none (o+j) c=l[j]?:=λj hj=>by
   have:=h j hj
   unfold load1 at this
   simp only[hc]at this
   exact this
  unfold loads
  simp only[hc]
  show ldn c o l.length=some l
  have key:∀(l:List Value) (o:Nat),(∀j,j<l.length->A.get none (o+j) c=l[j]?)->ldn c o l.length=some l:=by
   intro l
   induction l with
   | nil=>intro o _;rfl
   | cons x l ih =>
    intro o hg
    rw[List.length_cons,yT]
    have h0:=hg 0 (by simp)
    rw[Nat.add_zero]at h0
    rw[h0,ih (o+1) (λj hj=>by have:=hg (j+1) (by simp;omega);rw[show o+(j+1)=o+1+j by omega]at this;rw[this,List.getElem?_cons_succ])]
    rfl
  exact key l o hg
section
variable {H:Type}{enc:TypeId × Value->H}{P:Program}{w:World}
theorem FU {α:Type}[Inhabited α]{t e:TypeId}{sz:Nat}{f:α->List Value}{held:Bool}(ht:P.underlying t=some (.slice e))(hC:P.cellsOf e=sz)(hpos:0<sz)(hrow:∀n cs y,DataW.trod enc P w 0 (λ_=>true) held n e cs=some y->∃x:α,cs=f x)
  (hint:∀x,(f x).length=sz/\∀v∈f x,gn v=some v) {v:Value} {y:DataW H × List MemPlace} {fuel:Nat} (hf:DataW.trod enc P w 0 (λ_=>true) held fuel t [v]=some y)
  (hsp:∀a l c,v=.slice (some a) l c->a.spot=none/\∃cs e fz,w.heap[a.block]?=some (.cells cs e fz)) (hz:∀b off,MemPlace.cell b off∈y.2->w.frozen? ⟨b,off,none⟩=false) :
  ∃av es,VRel (yJ w) av v/\Rd (snapM w) av sz f es/\((es=[]\/∃elems spare,y.1=.slice elems spare/\elems.length=es.length)/\Sp sz av):=by
 rcases DataW.trod_slice ht hf with ⟨hv,hy⟩ | ⟨a,len,cap,elems,rest,n,_,hv,hy,_,hlc,_,hel,hE,hR,_⟩
 .cases hv
  exact⟨.slice none 0 0,[],.slN,⟨rfl,λi r hr=>by simp at hr,rfl,λB hB=>by cases hB⟩,.inl rfl,.inl rfl⟩
 .cases hv
  obtain⟨hs0,cs0,e0,fz0,hh⟩:=hsp a len cap rfl
  obtain⟨b,off,spot⟩:=a
  simp only at hs0 hh
  subst hs0
  obtain⟨hrl,hR⟩:=hR rfl
  subst hy
  have hblt:b<w.heap.size:=(qgh.1 hh).1
  have hφ:yJ w b=some ⟨b,HI,cs0.size⟩:=by unfold yJ;rw[hh]
  have hex:∀i,i<cap->∃x:α,∀j,j<sz->w.cell? ⟨b,off+(i*sz+j),none⟩=(f x)[j]?:=λi hi=>by
   have key:∃z,(w.cells? 0 ((⟨b,off,none⟩:Addr).add (i*P.cellsOf e)) (P.cellsOf e)).bind (DataW.trod enc P w 0 (λ_=>true) held n e)=some z:=by
    by_cases h:i<len
    .exact⟨_,(hE i h).trans (qgd (by omega))⟩
    .have:=hR (i-len) (by omega)
     rw[show len+(i-len)=i by omega]at this
     exact⟨_,this.trans (qgd (by omega))⟩
   obtain⟨z,hz'⟩:=key
   rw[Option.bind_eq_some_iff]at hz'
   obtain⟨cs,hcs,hz'⟩:=hz'
   obtain⟨x,rfl⟩:=hrow _ _ _ hz'
   obtain⟨_,hl,hcell⟩:=World.cells?_some hcs
   refine⟨x,λj hj=>?_⟩
   have:=hcell j (by rw[hC];exact hj)
   rw[<-this,hC,add_plain,add_plain,Nat.add_assoc]
  obtain⟨X,hX⟩:∃X:Nat->α,∀i,i<cap->∀j,j<sz->w.cell? ⟨b,off+(i*sz+j),none⟩=(f (X i))[j]?:=by
   have hex':∀i,∃x:α,i<cap->∀j,j<sz->w.cell? ⟨b,off+(i*sz+j),none⟩=(f x)[j]?:=λi=>by
    by_cases h:i<cap
    .obtain⟨x,hx⟩:=hex i h;exact⟨x,λ_=>hx⟩
    .exact⟨default,λh'=>absurd h' h⟩
   exact⟨λi=>(hex' i).choose,λi hi=>(hex' i).choose_spec hi⟩
  have hfz:∀i j,i<cap->j<sz->w.frozen? ⟨b,off+(i*sz+j),none⟩=false:=λi j hi hj=>by
   refine hz b _ (List.mem_append_left _ ?_)
   unfold MemPlace.row
   refine List.mem_map.2 ⟨i*sz+j,?_,rfl⟩
   rw[List.mem_range,hel,hrl,hC,show len+(cap-len)=cap by omega]
   have:=qgx sz (Nat.succ_le_of_lt hi)
   rw[Nat.succ_mul]at this
   omega
  have hcell:∀i j,i<cap->j<sz->∀s,load1 (snapM w) ⟨b,off+HI+(i*sz+j),s⟩=(f (X i))[j]?/\off+(i*sz+j)<cs0.size:=λi j hi hj s=>by
   have h1:=hX i hi j hj
   have hjl:j<(f (X i)).length:=by rw[(hint _).1];exact hj
   have hkq:=(hint (X i)).2 _ (List.getElem_mem hjl)
   rw[qgd hjl]at h1
   obtain⟨g1,_,cs,e',fz,g2,g3⟩:=Bo hkq h1 (hfz i j hi hj) s
   rw[hh]at g2;cases g2
   refine⟨?_,g3⟩
   rw[qgd hjl,<-g1]
   congr 2
   omega
  refine⟨.slice (some ⟨b,off+HI,some (code sz true)⟩) len cap,(List.range len).map X,?_,⟨by simp[jW],λi r hr=>?_,?_,λB hB=>by cases hB;show b<_;rw[(snap_facts w).1];exact hblt⟩,?_,.inr ⟨b,off+HI,len,cap,true,rfl,hlc⟩⟩
  .by_cases h0:0<cap
   .refine .sl b off (code sz true) len cap cap ⟨b,HI,cs0.size⟩ hφ hlc (qgg _) (λ_=>rfl) ?_
    have hcd:code sz true/2=sz:=by show (2*sz+1)/2=sz;omega
    rw[hcd]
    have:=(hcell (cap-1) (sz-1) (by omega) (by omega) none).2
    have h2:(cap-1)*sz+(sz-1)+1=cap*sz:=by
     obtain⟨c,rfl⟩:∃c,cap=c+1:=⟨cap-1,by omega⟩
     rw[Nat.add_sub_cancel,Nat.succ_mul];omega
    show off+cap*sz<=cs0.size
    omega
   .have hc0:cap=0:=by omega
    have hl0:len=0:=by omega
    subst hc0;subst hl0
    exact .slE b _ _ _ ⟨b,HI,cs0.size⟩ hφ
  .rw[qgu]at hr
   have hi:i<len:=by
    rcases Nat.lt_or_ge i len with h | h
    .exact h
    .rw[qgz (l:=List.range len) (by simpa using h)]at hr;cases hr
   rw[List.getElem?_range hi]at hr
   cases hr
   refine⟨?_,by show b<_;rw[(snap_facts w).1];exact hblt,?_⟩
   .show (bif Nat.blt i len then gS (i*sz) _ else none)=_
    rw[show Nat.blt i len=true from qgl hi];rfl
   .show loads (snapM w) ⟨b,off+HI+i*sz,none⟩ sz=_
    have:=Xf (m:=snapM w) (B:=b) (s:=none) (f (X i)) (off+HI+i*sz) (λh=>by have:=(hint (X i)).1;rw[h]at this;simp at this;omega) (λj hj=>by
     rw[(hint (X i)).1]at hj
     have:=(hcell i j (by omega) hj none).1
     rw[<-this,Nat.add_assoc])
    rw[(hint (X i)).1]at this
    exact this
  .show loads (snapM w) ⟨b,off+HI,some (code sz true)⟩ (((List.range len).map X).length*sz)=_
   have hfl:=wG (f:=f) (λx=>(hint x).1) ((List.range len).map X)
   by_cases h0:len=0
   .subst h0
    obtain⟨c,hc⟩:∃c,(snapM w).obj b=some (.cells c):=⟨_,by rw[(snap_facts w).2.2.2,hh];rfl⟩
    rw[List.range_zero,List.map_nil,List.length_nil,Nat.zero_mul]
    unfold loads cellsOf
    simp only[hc]
    rfl
   .have:=Xf (m:=snapM w) (B:=b) (s:=some (code sz true)) (((List.range len).map X).flatMap f) (off+HI) (λh=>by
     have h1:=hfl
     rw[h,List.length_map,List.length_range,List.length_nil]at h1
     have:=Nat.mul_pos (show 0<len by omega) hpos
     omega) (λq hq=>by
     rw[hfl]at hq
     rw[List.length_map,List.length_range]at hq
     have hdiv:q/sz<len:=by rw[Nat.div_lt_iff_lt_mul hpos];exact hq
     have hmod:=Nat.mod_lt q hpos
     have hdm:=Nat.div_add_mod q sz
     have h1:=(hcell (q/sz) (q%sz) (by omega) hmod (some (code sz true))).1
     rw[show q/sz*sz+q%sz=q by rw[Nat.mul_comm];exact hdm]at h1
     rw[h1]
     have h2:=xC (f:=f) (λx=>(hint x).1) ((List.range len).map X) (q/sz) (X (q/sz)) (by rw[qgu,List.getElem?_range hdiv];rfl)
     rw[<-h2,List.getElem?_take,if_pos hmod,List.getElem?_drop]
     congr 1
     rw[Nat.mul_comm];exact hdm)
    rw[hfl]at this
    exact this
  .by_cases h0:len=0
   .subst h0;exact .inl rfl
   .exact .inr ⟨_,_,rfl,by simp[hel]⟩
end
end
end Go.Dx
namespace Go.Dx
open Go.RowKit Go.WideShapes Go.ChangeShapes
theorem Yk {P:Program}{w:World}{r:Reach}{b0:Nat}{u e:TypeId}{a:Addr}{l c:Nat}(hu:P.underlying u=some (.slice e))(h:Cell.okWide P w r b0 u (.slice (some a) l c)):a.spot=none/\∃cs e fz,w.heap[a.block]?=some (.cells cs e fz):=by
 simp only[Cell.okWide,hu,Cell.ok]at h
 obtain⟨_,_,_,h2,row,cells,h3,_⟩:=h
 refine⟨h2,?_⟩
 unfold World.shape? at h3
 split at h3
 .exact⟨_,_,_,by assumption⟩
 .cases h3
end Go.Dx
namespace Go.Sx
open Go.Dx
noncomputable section
abbrev mv (d s:Nat):IS:=ip d (WT (tg s))
abbrev mc (d:Nat)(v:Value):IS:=ip d (WT (cv v))
abbrev fa (d o s:Nat):IS:=ip d (dM o (tg s))
abbrev ia (d e x i:Nat):IS:=ip d (vv e (tg x) (tg i))
abbrev l1 (d s:Nat):IS:=il d (tg s) (gE (tg s))
abbrev ln (d n s:Nat):IS:=il d (tg s) (gF n (tg s))
abbrev bt (d:Nat)(o:BinOp)(a b:Nat):IS:=ip d (vK o (tg a) (tg b))
abbrev bv (d:Nat)(o:BinOp)(a:Nat)(v:Value):IS:=ip d (vK o (tg a) (cv v))
abbrev sto (n a b:Nat):IS:=im0 3 (zt n (tg a) (tg b))
abbrev lne (d s:Nat):IS:=ip d (GV (tg s))
abbrev pkt (d a b:Nat):IS:=ip d (zD (tg a) (cv (.bool true)) (tg b))
abbrev pkf (d a b:Nat):IS:=ip d (zD (tg a) (tg b) (cv (.bool false)))
abbrev gf (g d:Nat)(s:IS):IS:=gd g false (some d) s
abbrev gt (g d:Nat)(s:IS):IS:=gd g true (some d) s
abbrev xt (d s i:Nat):IS:=ip d (vi (tg s) i)
abbrev rg (l:List IS):SC:=Jk (yd l)
abbrev kP (p:PO):CI:=CI.pure p
abbrev kM (s:Nat):CI:=CI.pure (WT (tg s))
abbrev kF (o s:Nat):CI:=CI.pure (dM o (tg s))
abbrev kI (e x i:Nat):CI:=CI.pure (vv e (tg x) (tg i))
abbrev kK (s:Nat):CI:=CI.pure (qM (tg s))
abbrev kL (s:Nat):CI:=CI.load (tg s) (gE (tg s))
abbrev kN (n s:Nat):CI:=CI.load (tg s) (gF n (tg s))
abbrev kB (o:BinOp)(a b:Nat):CI:=CI.pure (vK o (tg a) (tg b))
abbrev kV (o:BinOp)(a:Nat)(v:Value):CI:=CI.pure (vK o (tg a) (cv v))
abbrev wA (c:CI)(d i:Nat):DA:=⟨c,some d,none,i,[]⟩
abbrev wT (c:CI)(d g i:Nat):DA:=⟨c,some d,some (g,true),i,[]⟩
abbrev wF (c:CI)(d g i:Nat):DA:=⟨c,some d,some (g,false),i,[]⟩
abbrev wI (c:CI)(d:Nat)(l:List Nat)(i:Nat):DA:=⟨c,some d,none,i,l⟩
abbrev kS (n a b i:Nat):DA:=⟨CI.mem 3 (zt n (tg a) (tg b)),none,none,i,[]⟩
end
end Go.Sx
