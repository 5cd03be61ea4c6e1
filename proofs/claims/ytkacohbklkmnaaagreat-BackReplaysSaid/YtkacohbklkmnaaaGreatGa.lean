/- Rules for steps through compiled code. -/
import Derived.Test.YtkacohbklkmnaaaGreatEc
import Derived.Test.YtkacohbklkmnaaaGreatEd
import Derived.ChangeSame
import Derived.ProofKit
import Derived.Carry
set_option linter.unusedVariables false
set_option linter.unusedSimpArgs false
set_option linter.defProp false
namespace Go.Dx
@[match_pattern] abbrev zS : Value := .slice none 0 0
@[match_pattern] abbrev zI : Value := .int .i64 0
@[match_pattern] abbrev zU : Value := .int .u64 0
@[match_pattern] abbrev zF : Value := .bool false
@[match_pattern] abbrev zT : Value := .bool true
abbrev pt (B o : Nat) : Value := .pointer (some ⟨B, o, none⟩)
end Go.Dx
namespace Go.Dx
open Go.RowKit
noncomputable section
def wg (zs:List Value)(ps:List (Nat × Nat × Value)):Option Value:=ob (fU ps zs) λl=>some (.agg ⟨l⟩)
def eqFV (neg:Bool)(ks:List Nat)(x y:Value):Option Value:=ob (ZE x) λa=>ob (ZE y) λb=>ob (kj ks a b) λr=>some (.bool (bif neg then !r else r))
def eqBV (neg:Bool)(x y:Value):Option Value:=ob (xE x) λa=>ob (xE y) λb=>some (.bool (bif neg then !eqB a b else eqB a b))
def eqNV (neg:Bool)(k:Value->Option Bool)(both:Bool)(x y:Value):Option Value:=ob (eqN k both x y) λb=>some (.bool (bif neg then !b else b))
def Qe (k:IntKind)(x:Value):Option Value:=obp (gM x) λ_ n=>some (.int k (xI k n))
def gV (x:Option Value)(d mx:Nat):Option Nat:=match x with
 | none=>some d
 | some x=>ob (xQ x) λn=>bif Nat.ble n mx then some n else none
def fI (len cap:Nat)(lo hi mx:Option Value):Option (Nat × Nat × Nat) :=
 bif hi.isNone&&mx.isSome then none else
 ob (gV mx cap cap) λm=>ob (gV hi len m) λh=>ob (gV lo 0 h) λl=>some (l,h,m)
def slV (esz:Nat)(lo hi mx:Option Value):Value->Option Value
 | .slice none _ _=>ob (fI 0 0 lo hi mx) λ_=>some (.slice none 0 0)
 | .slice (some a) len cap=>ob a.spot λcd=>ob (fI len cap lo hi mx) λr=>bif !Nat.beq (cd/2) esz then none else
   some (.slice (some (slA a esz r.1 r.2.2 (vA cd) (vA cd||mx.isSome))) (r.2.1-r.1) (r.2.2-r.1))
 | _=>none
def qba (off:Nat)(x:Value):Option Value:=ob (jj x) (yO off)
def wJ (esz:Nat)(x i:Value):Option Value:=ob (xQ i) λn=>obp (vSl x) λa len=>bif Nat.blt n len then yO (n*esz) a else none
def XE (o:Value)(m:M):Option (Value × M):=ob (zk o) λl=>some (.pointer (some ⟨m.n,0,none⟩),newRow m l)
def wH (esz len:Nat)(zs:List Value)(ps:List (Nat × Nat × Value))(m:M):Option (Value × M) :=
 ob (fU ps zs) λl=>some (.slice (some ⟨m.n,0,some (code esz true)⟩) len len,newRow m l)
def qbh (o:Value)(m:M):Option (Value × M):=ob (jj o) λa=>ob (load1 m a) (retM m)
def qbi (n:Nat)(o:Value)(m:M):Option (Value × M):=ob (jj o) λa=>ob (loads m a n) λl=>some (.agg ⟨l⟩,m)
def ww (n:Nat)(o v:Value)(m:M):Option (Value × M) :=
 ob (jj o) λa=>ob (zk v) λl=>bif Nat.beq l.length n then ob (wQ m a l) λm'=>some (undef,m') else none
def gu (esz bytes:Nat)(zs:List Value)(l c:Value)(m:M):Option (Value × M) :=
 ob (xQ l) λl=>ob (xQ c) λc =>
  bif Nat.ble l c&&Nat.ble (c*bytes) wk&&Nat.ble c 4611686018427387904&&Nat.ble (c*esz) 1048576 then
   some (.slice (some ⟨m.n,0,some (code esz true)⟩) l c,newRow m (rep c zs)) else none
def FX (x:Ex)(l:List DA)(k:List (Nat × FP)->K):List (Nat × FP)->K:=List.rec k (λi _ ih=>FW x i ih) l
inductive RS where
 | v (x:Value)
 | one (x:Value)
 | cell (x:Value) (n:Nat)
def qfy (m:M):RS->Option Value
 | .v x=>some x
 | .one x=>ob (jj x) λa=>load1 m a
 | .cell x n=>ob (jj x) λa=>ob (loads m a n) λc=>some (.agg ⟨c⟩)
def resS (m:M):List RS->Option (List Value)
 | []=>some []
 | r::l=>ob (qfy m r) λv=>ob (resS m l) λvs=>some (v::vs)
def jn (l:List RS)(m:M):Option Out:=ob (resS m l) λl=>fin (bR l) m
def cL:Code->Code
 | .seq a _ | .cond _ a _ | .block _ a | .loop a | .rangeFunc _ _ a _=>a
 | c=>c
def cR:Code->Code
 | .seq _ b | .cond _ _ b | .rangeFunc _ _ _ b=>b
 | c=>c
def Kz (f:Func):Code:=match f.body with
 | some c=>c
 | none=>.skip
inductive BT where
 | lf
 | nd (k:Nat) (v:Ex->List Value->M->Option (Value × M)) (l r:BT)
def BT.look (t:BT):Nat->Ex->List Value->M->Option (Value × M) :=
 BT.rec (λ_ _ _ _=>none) (λk v _ _ il ir g=>bif Nat.beq g k then v else bif Nat.blt g k then il g else ir g) t
def Fits (P:Program)(g:Nat)(v:Ex->List Value->M->Option (Value × M)):Prop:=∀x l m r,v x l m=some r->ob (qI P g) (fM x l m)=some r
def BT.Fit (P:Program):BT->Prop
 | .lf=>True
 | .nd k v l r=>Fits P k v/\l.Fit P/\r.Fit P
def xstep (P:Program)(t:BT)(x:Ex):Ex:=⟨λg=>t.look g x,Xt P x⟩
def xs (P:Program)(t:BT)(n:Nat):Ex:=Nat.rec .bot (λ_ ih=>xstep P t ih) n
end
noncomputable section
abbrev tg (n:Nat):V:=Tm.get n
def cv (v:Value):V:=λ_=>v
def ip (d:Nat)(p:PO):IS:=Bx none (some d) (Xl (CI.pure p) (some d))
def il (d:Nat)(a:V)(f:MO):IS:=Bx none (some d) (Xl (CI.load a f) (some d))
def im (n d:Nat)(f:MO):IS:=Bx none (some d) (Xl (CI.mem n f) (some d))
def im0 (n:Nat)(f:MO):IS:=Bx none none (Xl (CI.mem n f) none)
def gd (g:Nat)(b:Bool)(d:Option Nat)(s:IS):IS:=Bx (some (g,b)) d s
inductive Tick where
 | tick
 | tock
def tick (_:Tick):Prop:=True
@[simp] theorem tick_1:tick .tick=tick .tock:=_root_.id rfl
def Wd (c:Bool)(a b:Option Out):Option Out:=cond c a b
@[simp] theorem bif_t (a b:Option Out):Wd true a b=a:=_root_.id rfl
@[simp] theorem bif_f (a b:Option Out):Wd false a b=b:=_root_.id rfl
@[congr] theorem ob_congr {α β:Type} {o o':Option α} {k:α->Option β} {q:Prop} (h:o=o') (_:tick .tick=q):ob o k=ob o' k:=by rw[h]
@[congr] theorem obp_congr {α β γ:Type} {o o':Option (α × β)} {k:α->β->Option γ} {q:Prop} (h:o=o') (_:tick .tick=q):obp o k=obp o' k:=by rw[h]
@[congr] theorem bif_congr {c c':Bool} {a b:Option Out} {q:Prop} (h:c=c') (_:tick .tick=q):Wd c a b=Wd c' a b:=by rw[h]
@[congr] theorem qgx {c c':Prop} [Decidable c] [Decidable c'] {a b:Option Out} {q:Prop} (h:c=c') (_:tick .tick=q):ite c a b=ite c' a b:=by subst h;congr
section
variable (x:Ex)(k kn kr:K)(ke:Nat->K)(t:Tm)(m:M)
@[simp] theorem sSeq_ap (a b:SC):qa a b x kn ke kr t m=a x (b x kn ke kr) ke kr t m:=_root_.id rfl
@[simp] theorem sSkip_ap:qg x kn ke kr t m=kn t m:=_root_.id rfl
@[simp] theorem sReg_ap (i:IS):sReg i x kn ke kr t m=i x kn t m:=_root_.id rfl
@[simp] theorem qg9 (l:List DA):wy l x kn ke kr t m=FX x l (λ_=>kn) [] t m:=_root_.id rfl
@[simp] theorem sCond_ap (o:V) (a b:SC):qd o a b x kn ke kr t m=ob (xE (o t)) λc=>Wd c (a x kn ke kr t m) (b x kn ke kr t m):=_root_.id rfl
@[simp] theorem sBlock_ap (id:Nat) (a:SC):qj id a x kn ke kr t m=a x kn (gz id kn ke) kr t m:=_root_.id rfl
@[simp] theorem sExit_ap (id:Nat):qR id x kn ke kr t m=ke id t m:=_root_.id rfl
@[simp] theorem sRet_ap:qk x kn ke kr t m=kr t m:=_root_.id rfl
@[simp] theorem outOf_ap (id j:Nat):gz id kn ke j t m=Wd (Nat.beq j id) (kn t m) (ke j t m):=_root_.id rfl
theorem BA (a:SC):qU a x kn ke kr t m=WS (λk=>a x k ke kr) 1180591620717411303424 t m:=rfl
@[simp] theorem seqI_nil:yQ [] x k t m=k t m:=_root_.id rfl
@[simp] theorem seqI_cons (s:IS) (l:List IS):yQ (s::l) x k t m=s x (yQ l x k) t m:=_root_.id rfl
@[simp] theorem ip_ap (d:Nat) (p:PO):ip d p x k t m=ob (p t) λv=>k (Tm.set d v t) m:=_root_.id rfl
@[simp] theorem il_ap (d:Nat) (a:V) (f:MO):il d a f x k t m=obp (f x t m) λv m=>k (Tm.set d v t) m:=_root_.id rfl
@[simp] theorem im1_ap (d:Nat) (f:MO):im 1 d f x k t m=obp (f x t m) λv m=>k (Tm.set d v t) m:=_root_.id rfl
@[simp] theorem im3_ap (d:Nat) (f:MO):im 3 d f x k t m=obp (f x t m) λv m=>k (Tm.set d v t) m:=_root_.id rfl
@[simp] theorem im03_ap (f:MO):im0 3 f x k t m=obp (f x t m) λ_ m=>k t m:=_root_.id rfl
@[simp] theorem gd_ap (g:Nat) (b:Bool) (d:Option Nat) (s:IS):gd g b d s x k t m=ob (isB b (Tm.get g t)) λc=>Wd c (s x k t m) (k (putD t d undef) m):=_root_.id rfl
@[simp] theorem qQ {α β:Type} (a:α) (f:α->Option β):ob (some a) f=f a:=_root_.id rfl
@[simp] theorem Kb {α β γ:Type} (a:α) (b:β) (f:α->β->Option γ):obp (some (a,b)) f=f a b:=_root_.id rfl
@[simp] theorem putD_some (d:Nat) (v:Value):putD t (some d) v=Tm.set d v t:=_root_.id rfl
@[simp] theorem putD_none (v:Value):putD t none v=t:=_root_.id rfl
@[simp] theorem dD (i j:Nat) (v:Value):Tm.get i (Tm.set j v t)=if i=j then v else Tm.get i t:=by
 by_cases h:i=j
 .subst h;rw[qhz rfl,Tm.get_set_same]
 .rw[qhy h];show (bif Nat.beq i j then v else Tm.get i t)=_
  rw[gT h];rfl
@[simp] theorem get_blank (i:Nat):Tm.get i .blank=undef:=_root_.id rfl
@[simp] theorem cv_ap (v:Value):cv v t=v:=_root_.id rfl
@[simp] theorem pMov_ap (a:V):QM a t=some (a t):=_root_.id rfl
@[simp] theorem pPick_ap (c a b:V):wx c a b t=ob (xE (c t)) λq=>some (bif q then a t else b t):=_root_.id rfl
@[simp] theorem pNilck_ap (a:V):qC a t=bu (a t):=_root_.id rfl
@[simp] theorem pBin_ap (op:BinOp) (a b:V):dp op a b t=ze op (a t) (b t):=_root_.id rfl
@[simp] theorem pUn_ap (op:UnOp) (a:V):pUn op a t=unV op (a t):=_root_.id rfl
@[simp] theorem pEqB_ap (n:Bool) (a b:V):VY n a b t=eqBV n (a t) (b t):=_root_.id rfl
@[simp] theorem pEqN_ap (n:Bool) (q:Value->Option Bool) (h:Bool) (a b:V):Zh n q h a b t=eqNV n q h (a t) (b t):=_root_.id rfl
@[simp] theorem pEqF_ap (n:Bool) (q:List Nat) (a b:V):bC n q a b t=eqFV n q (a t) (b t):=_root_.id rfl
@[simp] theorem pFaddr_ap (o:Nat) (a:V):bD o a t=qba o (a t):=_root_.id rfl
@[simp] theorem qh4 (e:Nat) (a b:V):zV e a b t=wJ e (a t) (b t):=_root_.id rfl
@[simp] theorem pLen_ap (a:V):vE a t=wB (a t):=_root_.id rfl
@[simp] theorem qgr (a:V) (i:Nat):xp a i t=wo i (a t):=_root_.id rfl
@[simp] theorem pBuild_ap (zs:List Value) (ps:List (Nat × Nat × V)):qH zs ps t=wg zs (evP ps t):=_root_.id rfl
@[simp] theorem evP_nil:evP [] t=[]:=_root_.id rfl
@[simp] theorem evP_cons (p:Nat × Nat × V) (l:List (Nat × Nat × V)):evP (p::l) t=(p.1,p.2.1,p.2.2 t)::evP l t:=_root_.id rfl
@[simp] theorem evs_nil:evs t []=[]:=_root_.id rfl
@[simp] theorem evs_cons (a:V) (l:List V):evs t (a::l)=a t::evs t l:=_root_.id rfl
@[simp] theorem mBox_ap (a:V):wC a x t m=XE (a t) m:=_root_.id rfl
@[simp] theorem mAlloc_ap (zs:List Value):qy zs x t m=some (.pointer (some ⟨m.n,0,none⟩),newRow m zs):=_root_.id rfl
@[simp] theorem mLoad1_ap (a:V):vX a x t m=qbh (a t) m:=_root_.id rfl
@[simp] theorem mLoadN_ap (n:Nat) (a:V):fh n a x t m=qbi n (a t) m:=_root_.id rfl
@[simp] theorem mStore_ap (n:Nat) (a b:V):ki n a b x t m=ww n (a t) (b t) m:=_root_.id rfl
@[simp] theorem mCall_ap (g:Nat) (l:List V):qo g l x t m=x.f g (evs t l) m:=_root_.id rfl
@[simp] theorem qgz (e b:Nat) (a c:V):wa e b a c x t m=wZ m e b (a t) (c t):=_root_.id rfl
@[simp] theorem vBool_b (b:Bool):xE (.bool b)=some b:=_root_.id rfl
@[simp] theorem isB_t (b:Bool):isB true (.bool b)=some b:=_root_.id rfl
@[simp] theorem eqBV_t (a b:Bool):eqBV true (.bool a) (.bool b)=some (.bool (a != b)):=by cases a<;>cases b<;>rfl
@[simp] theorem isB_u (b:Bool):isB b undef=some false:=_root_.id rfl
@[simp] theorem isB_f (b:Bool):isB false (.bool b)=some (!b):=_root_.id rfl
@[simp] theorem unV_not (b:Bool):unV .not (.bool b)=some (.bool (!b)):=_root_.id rfl
theorem XD (op:BinOp)(kd:IntKind)(a b:Int):dV op kd a kd b=binI op kd a b:=by unfold dV;rw[Nat.beq_refl];rfl
theorem kH (op:BinOp)(kd:IntKind)(a b:Int):ze op (.int kd a) (.int kd b)=binI op kd a b:=XD op kd a b
@[simp] theorem binV_lss (kd:IntKind) (a b:Int):ze .lss (.int kd a) (.int kd b)=some (.bool (decide (a<b))):=by rw[kH];show some (Value.bool (ltI a b))=_;rw[jJ]
@[simp] theorem binV_leq (kd:IntKind) (a b:Int):ze .leq (.int kd a) (.int kd b)=some (.bool (decide (a<=b))):=by
 rw[kH];show some (Value.bool (!ltI b a))=_;rw[jJ,<-decide_not]
 congr 2;exact decide_eq_decide.2 Int.not_lt
@[simp] theorem binV_gtr (kd:IntKind) (a b:Int):ze .gtr (.int kd a) (.int kd b)=some (.bool (decide (b<a))):=by rw[kH];show some (Value.bool (ltI b a))=_;rw[jJ]
@[simp] theorem binV_geq (kd:IntKind) (a b:Int):ze .geq (.int kd a) (.int kd b)=some (.bool (decide (b<=a))):=by
 rw[kH];show some (Value.bool (!ltI a b))=_;rw[jJ,<-decide_not]
 congr 2;exact decide_eq_decide.2 Int.not_lt
@[simp] theorem binV_eql (kd:IntKind) (a b:Int):ze .eql (.int kd a) (.int kd b)=some (.bool (decide (a=b))):=by
 rw[kH];show some (Value.bool (eqI a b))=_;rw[jI];congr 2
@[simp] theorem binV_neq (kd:IntKind) (a b:Int):ze .neq (.int kd a) (.int kd b)=some (.bool (!decide (a=b))):=by
 rw[kH];show some (Value.bool (!eqI a b))=_;rw[jI];congr 2
@[simp] theorem qw (kd:IntKind) (a b:Int):ze .add (.int kd a) (.int kd b)=some (.int kd (kd.wrap (a+b))):=by rw[kH];show some (Value.int kd (xI kd (a+b)))=_;rw[zC]
@[simp] theorem qz (kd:IntKind) (a b:Int):ze .sub (.int kd a) (.int kd b)=some (.int kd (kd.wrap (a-b))):=by rw[kH];show some (Value.int kd (xI kd (a-b)))=_;rw[zC]
@[simp] theorem qgy (a:Addr):qbh (.pointer (some a)) m=ob (load1 m a) (retM m):=_root_.id rfl
@[simp] theorem qgv (o:Nat) (a:Addr):qba o (.pointer (some a))=some (.pointer (some ⟨a.block,a.off+o,none⟩)):=_root_.id rfl
@[simp] theorem Dc (cs:Array Value):XE (.agg cs) m=some (.pointer (some ⟨m.n,0,none⟩),newRow m cs.toList):=_root_.id rfl
@[simp] theorem retM_ap (v:Value):retM m v=some (v,m):=_root_.id rfl
theorem zE (l:List Value)(o n:Nat)(h:o+n<=l.length):loads (newRow m l) ⟨m.n,o,none⟩ n=some ((l.drop o).take n):=by
 unfold loads cellsOf newRow;simp only[M.obj_alloc,if_true];show ldn (mkn .lf 0 l) o n=_;have key:∀n o,o+n<=l.length->ldn (mkn .lf 0 l) o n=some ((l.drop o).take n):=by
  intro n
  induction n with
  | zero=>intro o _;simp[QD]
  | succ n ih =>
   intro o ho;rw[vg,zQ,qhz (by simp;omega),ih (o+1) (by omega)];have:o<l.length:=by omega
   rw[Nat.sub_zero,qh5 this,List.drop_eq_getElem_cons this];rfl
 exact key n o h
theorem GL (l:List Value)(o:Nat):load1 (newRow m l) ⟨m.n,o,none⟩=l[o]?:=by
 unfold load1 cellsOf newRow;simp only[M.obj_alloc,if_true];show A.get none o (mkn .lf 0 l)=l[o]?;rw[zQ,A.get_lf];split
 .simp
 .rename_i h;simp at h;simp[h]
end
structure Ext (m m':M):Prop where
 n:m.n<=m'.n
 obj:∀B,B<m.n->m'.obj B=m.obj B
 base:m'.base=m.base
 log:m'.log=m.log
theorem Ext.refl (m:M):Ext m m:=⟨qh8 _,λ_ _=>rfl,rfl,rfl⟩
theorem Ext.trans {a b c:M}(h:Ext a b)(k:Ext b c):Ext a c:=⟨qhh h.n k.n,λB hB=>(k.obj B (qha hB h.n)).trans (h.obj B hB),k.base.trans h.base,k.log.trans h.log⟩
theorem Ext.row (m:M)(l:List Value):Ext m (newRow m l):=⟨by unfold newRow;rw[M.n_alloc];omega,λB hB=>by unfold newRow;rw[M.obj_alloc,qhy (by omega)],M.base_alloc _ _,M.log_alloc _ _⟩
theorem ex_f {P:Program}{g:Nat}{d:DFn}(hd:qI P g=some d)(n:Nat)(args:List Value)(m:M):(ex P (n+1)).f g args m=fM (ex P n) args m d:=by
 show ob (qI P g) (fM (ex P n) args m)=_;rw[hd];rfl
theorem fN (x:Ex)(args:List Value)(m:M)(c:SC)(nt:Nat)(res:List RV)(h:args.length<=nt):fM x args m ⟨c,nt,res⟩=ob (c x (wN res) noK (wN res) (jk .blank 0 args) m) JQ:=by
 show (bif Nat.ble args.length nt then ob (c x (wN res) noK (wN res) (jk .blank 0 args) m) JQ else none)=_
 rw[qhd h];rfl
@[simp] theorem initT_nil (t:Tm) (i:Nat):jk t i []=t:=_root_.id rfl
@[simp] theorem qgw (t:Tm) (i:Nat) (v:Value) (l:List Value):jk t i (v::l)=jk (Tm.set i v t) (i+1) l:=_root_.id rfl
theorem dI (res:List RV)(t:Tm)(m:M):wN res t m=ob (yg t m res) λl=>fin (bR l) m:=_root_.id rfl
@[simp] theorem qd2 (t:Tm) (m:M):yg t m []=some []:=_root_.id rfl
@[simp] theorem dC (v:Value) (m:M):ob (fin v m) JQ=some (v,m):=by
 show some (Tm.get 0 (Tm.set 0 v .blank),m)=_;rw[Tm.get_set_same]
theorem wrap64 (n:Int)(h1:-9223372036854775808<=n)(h2:n<=9223372036854775807):IntKind.i64.wrap n=n:=by rw[IntKind.wrap_i64];omega
structure Sl (m:M)(v:Value)(e:Nat)(rows:List (List Value)):Prop where
 len:wB v=some (.int .i64 rows.length)
 row:∀(i:Nat) (r:List Value),rows[i]?=some r->∃B o,B<m.n/\wJ e v (.int .i64 i)=some (.pointer (some ⟨B,o,none⟩))/\loads m ⟨B,o,none⟩ e=some r
theorem GN {m m':M}(h:Ext m m'){B o n:Nat}(hB:B<m.n):loads m' ⟨B,o,none⟩ n=loads m ⟨B,o,none⟩ n:=by
 unfold loads cellsOf;rw[h.obj B hB]
theorem Sl.ext {m m':M}(h:Ext m m'){v:Value}{e:Nat}{rows:List (List Value)}(hs:Sl m v e rows):Sl m' v e rows :=
 ⟨hs.len,λi r hr=>let ⟨B,o,h1,h2,h3⟩:=hs.row i r hr;⟨B,o,qha h1 h.n,h2,by rw[GN h h1];exact h3⟩⟩
theorem qb (n:Nat)(a:Addr)(m:M):qbi n (.pointer (some a)) m=ob (loads m a n) λl=>some (.agg ⟨l⟩,m):=rfl
end
noncomputable section
section
variable (x:Ex)(k:List (Nat × FP)->K)(fps:List (Nat × FP))(t:Tm)(m:M)
@[simp] theorem anyL_nil:FX x [] k=k:=_root_.id rfl
@[simp] theorem anyL_cons (i:DA) (l:List DA):FX x (i::l) k fps t m=FW x i (FX x l k) fps t m:=_root_.id rfl
@[simp] theorem any1_none (ci:CI) (d:Option Nat) (ix:Nat) (inc:List Nat):FW x ⟨ci,d,none,ix,inc⟩ k fps t m=fF x ⟨ci,d,none,ix,inc⟩ k fps t m:=_root_.id rfl
@[simp] theorem any1_some (ci:CI) (d:Option Nat) (g:Nat) (b:Bool) (ix:Nat) (inc:List Nat):FW x ⟨ci,d,some (g,b),ix,inc⟩ k fps t m=ob (isB b (Tm.get g t)) λc=>Wd c (fF x ⟨ci,d,some (g,b),ix,inc⟩ k fps t m) (k fps (putD t d undef) m):=_root_.id rfl
@[simp] theorem anyR_pure (p:PO) (d:Option Nat) (g:Option (Nat × Bool)) (ix:Nat) (inc:List Nat):fF x ⟨.pure p,d,g,ix,inc⟩ k fps t m=ob (p t) λv=>k fps (putD t d v) m:=_root_.id rfl
@[simp] theorem anyR_mem1 (f:MO) (d:Option Nat) (g:Option (Nat × Bool)) (ix:Nat) (inc:List Nat):fF x ⟨.mem 1 f,d,g,ix,inc⟩ k fps t m=obp (f x t m) λv m'=>k fps (putD t d v) m':=_root_.id rfl
@[simp] theorem anyR_load (o:V) (f:MO) (d:Option Nat) (g:Option (Nat × Bool)) (ix:Nat) (inc:List Nat):fF x ⟨.load o f,d,g,ix,inc⟩ k fps t m=obp (f x t m) λv m' =>
 Wd (meets fps ⟨ob (jj (o t)) λa=>some a.block,[]⟩ inc) (k ((ix,⟨ob (jj (o t)) λa=>some a.block,[]⟩)::fps) (putD t d v) m') none:=_root_.id rfl
@[simp] theorem anyR_mem3 (f:MO) (d:Option Nat) (g:Option (Nat × Bool)) (ix:Nat) (inc:List Nat):fF x ⟨.mem 3 f,d,g,ix,inc⟩ k fps t m=obp (f x t (ql m)) λv m' =>
 Wd (meets fps ⟨none,m'.log⟩ inc) (k ((ix,⟨none,m'.log⟩)::fps) (putD t d v) (behind m m')) none:=_root_.id rfl
@[simp] theorem yo (a:Addr):jj (.pointer (some a))=some a:=_root_.id rfl
end
def quiet:List (Nat × FP)->Prop
 | []=>True
 | p::l=>p.2.wr=[]/\quiet l
attribute [simp] qt wu qx
theorem Ext.behind {m m':M}(h:Ext (ql m) m'):Ext m (behind m m'):=by
 have hl:=h.log;cases m with | mk h0 nx bs wl =>
 cases m' with | mk h1 nx1 bs1 wl1 =>
 have e:wl1=[]:=hl;subst e;exact⟨h.n,h.obj,rfl,rfl⟩
end
noncomputable section
structure Sees (m0 m:M):Prop where
 n:m0.n<=m.n
 obj:∀B,B<m0.n->m.obj B=m0.obj B
 base:m.base<=m.n
theorem Sees.refl {m:M}(h:m.base<=m.n):Sees m m:=⟨qh8 _,λ_ _=>rfl,h⟩
theorem Sees.self {a b:M}(h:Sees a b):Sees b b:=.refl h.base
theorem Sees.ext {a b c:M}(h:Sees a b)(k:Ext b c):Sees a c:=⟨qhh h.n k.n,λB hB=>(k.obj B (qha hB h.n)).trans (h.obj B hB),by rw[k.base];exact qhh h.base k.n⟩
theorem Sees.trans {a b c:M}(h:Sees a b)(k:Sees b c):Sees a c:=⟨qhh h.n k.n,λB hB=>(k.obj B (qha hB h.n)).trans (h.obj B hB),k.base⟩
@[simp] theorem qp {a b:M} (h:Sees a b):Sees a (ql b):=⟨by rw[qt];exact h.n,λB hB=>by rw[qx];exact h.obj B hB,by rw[qt,qW];exact qh8 _⟩
@[simp] theorem wL (m:M) (l:List Value):(newRow m l).n=m.n+1:=M.n_alloc _ _
attribute [simp] Ext.refl
def Call (x:Ex)(g:Nat)(args:List Value)(m:M)(P:Value->M->Prop):Prop:=∃v m',x.f g args m=some (v,m')/\Ext m m'/\P v m'
def qd1 (x:Ex)(g:Nat)(args:List Value)(m:M):Value:=match x.f g args m with
 | some (v,_)=>v
 | none=>undef
def aft (x:Ex)(g:Nat)(args:List Value)(m:M):M:=match x.f g args m with
 | some (_,m')=>m'
 | none=>m
section
variable {x:Ex}{g:Nat}{args:List Value}{m m0:M}{P:Value->M->Prop}{v:Value}
theorem Call.all (h:Call x g args m P):x.f g args m=some (qd1 x g args m,aft x g args m)/\Ext m (aft x g args m)/\P (qd1 x g args m) (aft x g args m):=by
 obtain⟨v,m',e,h1,h2⟩:=h;unfold qd1 aft;rw[e];exact⟨rfl,h1,h2⟩
abbrev CallV (x:Ex)(g:Nat)(args:List Value)(m:M)(v:Value):Prop:=Call x g args m λu _=>u=v
theorem Call.mono {Q:Value->M->Prop}(h:Call x g args m P)(k:∀v m',Ext m m'->P v m'->Q v m'):Call x g args m Q:=let ⟨v,m',e,h1,h2⟩:=h;⟨v,m',e,h1,k _ _ h1 h2⟩
theorem CallV.of {m':M}(h:x.f g args m=some (v,m'))(e:Ext m m'):CallV x g args m v:=⟨v,m',h,e,rfl⟩
end
def Ret (m0:M)(P:Value->M->Prop):Option Out->Prop:=λo=>∃v m',ob o JQ=some (v,m')/\Ext m0 m'/\P v m'
theorem qm {P:Program}{g:Nat}{c:SC}{nt:Nat}{res:List RV}{n:Nat}{args:List Value}{m:M}{Q:Value->M->Prop}(hd:qI P g=some ⟨c,nt,res⟩)(ha:args.length<=nt)
  (h:Ret m Q (c (ex P n) (wN res) noK (wN res) (jk .blank 0 args) m)):Call (ex P (n+1)) g args m Q:=by
 obtain⟨v,m',e,h1,h2⟩:=h;exact⟨v,m',by rw[ex_f hd,fN _ _ _ _ _ _ ha];exact e,h1,h2⟩
theorem yh {m0 m:M}{Q:Value->M->Prop}{res:List RV}{t:Tm}{l:List Value}(h:yg t m res=some l)(he:Ext m0 m)(hq:Q (bR l) m):Ret m0 Q (wN res t m):=by
 refine⟨bR l,m,?_,he,hq⟩;rw[dI,h,qQ,dC]
theorem qf {m0 m:M}{Q:Value->M->Prop}{t:Tm}{p:Nat}(he:Ext m0 m)(hq:Q (Tm.get p t) m):Ret m0 Q (wN [.t p] t m):=yh (l:=[_]) rfl he hq
theorem kg {m0 m:M}{Q:Value->M->Prop}{t:Tm}{p q:Nat}(he:Ext m0 m)(hq:Q (.tuple #[Tm.get p t,Tm.get q t]) m):Ret m0 Q (wN [.t p,.t q] t m):=yh (l:=[_,_]) rfl he hq
theorem vk {m0 m:M}{Q:Value->M->Prop}{t:Tm}{p q r:Nat}(he:Ext m0 m)(hq:Q (.tuple #[Tm.get p t,Tm.get q t,Tm.get r t]) m):Ret m0 Q (wN [.t p,.t q,.t r] t m):=yh (l:=[_,_,_]) rfl he hq
theorem qbl {x:Ex}{kn kr:K}{ke:Nat->K}{a:SC}(Q:Option Out->Prop)(I:Nat->Tm->M->Prop)(len:Nat)(hlen:len<=9223372036854775807)
  (round:∀i t m (k:K),i<=len->I i t m->(i<len->∀t' m',I (i+1) t' m'->Q (k t' m'))->Q (a x k ke kr t m)) {t:Tm} {m:M} (h0:I 0 t m):Q (qU a x kn ke kr t m):=by
 rw[BA];have key:∀(N i:Nat) (t:Tm) (m:M),len<N+i->i<=len->I i t m->Q (WS (λk=>a x k ke kr) N t m):=by
  intro N
  induction N with
  | zero=>intro i t m h1 h2;omega
  | succ N ih =>
   intro i t m h1 h2 hI;exact round i t m (WS (λk=>a x k ke kr) N) h2 hI λhi t' m' h3=>ih (i+1) t' m' (by omega) (by omega) h3
 exact key _ 0 t m (by omega) (Nat.zero_le _) h0
def adr (e:Nat)(v:Value)(i:Nat):Addr:=match v with
 | .slice (some a) _ _=>⟨a.block,a.off+i*e,none⟩
 | _=>⟨0,0,none⟩
def blk:Value->Option Nat
 | .slice (some a) _ _=>some a.block
 | _=>none
theorem fX {m m':M}{e n:Nat}{v:Value}(h:∀B,blk v=some B->m'.obj B=m.obj B):kU m' e n v=kU m e n v:=by
 cases v with
 | slice a k c =>
  cases a with
  | none=>rfl
  | some a =>
   show loads m' a _=loads m a _;unfold loads cellsOf;rw[h _ rfl]
 | _=>rfl
structure Rd {α:Type}(m:M)(v:Value)(e:Nat)(f:α->List Value)(es:List α):Prop where
 len:wB v=some (.int .i64 es.length)
 row:∀(i:Nat) (r:α),es[i]?=some r->wJ e v (.int .i64 i)=some (.pointer (some (adr e v i)))/\(adr e v i).block<m.n/\loads m (adr e v i) e=some (f r)
 all:kU m e es.length v=some (es.flatMap f)
 lt:∀B,blk v=some B->B<m.n
theorem zY {m m':M}(h:Sees m m'){B o n:Nat}{s:Option Nat}(hB:B<m.n):loads m' ⟨B,o,s⟩ n=loads m ⟨B,o,s⟩ n:=by
 unfold loads cellsOf;rw[h.obj B hB]
theorem wi {m m':M}(h:Sees m m'){B o:Nat}{s:Option Nat}(hB:B<m.n):load1 m' ⟨B,o,s⟩=load1 m ⟨B,o,s⟩:=by
 unfold load1 cellsOf;rw[h.obj B hB]
theorem QE {m:M}{a:Addr}{n:Nat}{l:List Value}(h:loads m a n=some l){o:Nat}{s:Option Nat}{v:Value}(hv:l[o]?=some v):load1 m ⟨a.block,a.off+o,s⟩=some v:=by
 unfold loads at h;unfold load1;cases hc:cellsOf m a.block with
 | none=>rw[hc]at h;cases h
 | some c =>
  rw[hc]at h;exact (dE h).2 o v hv
section
variable {α:Type}{m:M}{v:Value}{e:Nat}{f:α->List Value}{es:List α}
theorem Rd.sees {m':M}(h:Rd m v e f es)(k:Sees m m'):Rd m' v e f es :=
 ⟨h.len,λi r hr=>let ⟨h1,h2,h3⟩:=h.row i r hr;⟨h1,qha h2 k.n,by
  rw[show adr e v i=⟨(adr e v i).block,(adr e v i).off,(adr e v i).spot⟩ from rfl,zY k h2];exact h3⟩,by rw[fX λB hB=>k.obj B (h.lt B hB)];exact h.all,λB hB=>qha (h.lt B hB) k.n⟩
theorem Rd.at (h:Rd m v e f es){i:Nat}{r:α}(hr:es[i]?=some r) :
  wJ e v (.int .i64 i)=some (.pointer (some (adr e v i)))/\(∀m',Sees m m'->loads m' (adr e v i) e=some (f r))/\(∀m' o s,Sees m m'->o<(f r).length->load1 m' ⟨(adr e v i).block,(adr e v i).off+o,s⟩=(f r)[o]?):=by
 obtain⟨h1,h2,h3⟩:=h.row i r hr;have key:∀m',Sees m m'->loads m' (adr e v i) e=some (f r):=λm' k=>by
  rw[show adr e v i=⟨(adr e v i).block,(adr e v i).off,(adr e v i).spot⟩ from rfl,zY k h2];exact h3
 exact⟨h1,key,λm' o s k ho=>by rw[QE (key m' k) (qh5 ho),qh5 ho]⟩
theorem Rd.at1 {g:α->Value}(h:Rd m v 1 (λa=>[g a]) es){i:Nat}{r:α}(hr:es[i]?=some r) :
  wJ 1 v (.int .i64 i)=some (.pointer (some (adr 1 v i)))/\∀m',Sees m m'->load1 m' (adr 1 v i)=some (g r):=by
 obtain⟨h1,h2,h3⟩:=h.at hr;refine⟨h1,λm' k=>?_⟩;have:=h3 m' 0 (adr 1 v i).spot k (by simp);exact this
end
def Arr (m:M)(B:Nat)(l:List Value):Prop:=∃c,m.obj B=some (.cells c)/\∀i,A.get none i c=l[i]?
theorem Arr.congr {m m':M}{B:Nat}{l:List Value}(h:Arr m B l)(e:m'.obj B=m.obj B):Arr m' B l:=let ⟨c,h1,h2⟩:=h;⟨c,e.trans h1,h2⟩
theorem Arr.sees {m m':M}{B:Nat}{l:List Value}(h:Arr m B l)(k:Sees m m')(hB:B<m.n):Arr m' B l:=h.congr (k.obj B hB)
theorem Arr.ext {m m':M}{B:Nat}{l:List Value}(h:Arr m B l)(k:Ext m m')(hB:B<m.n):Arr m' B l:=h.congr (k.obj B hB)
theorem Arr.row (m:M)(l:List Value):Arr (newRow m l) m.n l:=by
 refine⟨mkn .lf 0 l,by unfold newRow;rw[M.obj_alloc,qhz rfl],λi=>?_⟩;rw[zQ,A.get_lf];split
 .simp
 .rename_i h;simp at h;simp[h]
theorem ldn_of {c:C}{l:List Value}(h:∀i,A.get none i c=l[i]?):∀(n o:Nat),o+n<=l.length->ldn c o n=some ((l.drop o).take n):=by
 intro n
 induction n with
 | zero=>intro o _;simp[QD]
 | succ n ih =>
  intro o ho;have:o<l.length:=by omega
  rw[vg,h,qh5 this,ih (o+1) (by omega),List.drop_eq_getElem_cons this];rfl
theorem Arr.loads {m:M}{B:Nat}{l:List Value}(h:Arr m B l){o n:Nat}{s:Option Nat}(hn:o+n<=l.length):loads m ⟨B,o,s⟩ n=some ((l.drop o).take n):=by
 obtain⟨c,h1,h2⟩:=h;unfold Dx.loads cellsOf;rw[h1];exact ldn_of h2 n o hn
theorem Arr.load1 {m:M}{B:Nat}{l:List Value}(h:Arr m B l)(o:Nat)(s:Option Nat):load1 m ⟨B,o,s⟩=l[o]?:=by
 obtain⟨c,h1,h2⟩:=h;unfold Dx.load1 cellsOf;rw[h1];exact h2 o
def over (l:List Value)(o:Nat):List Value->List Value
 | []=>l
 | v::vs=>over (l.set o v) (o+1) vs
theorem jF:∀(vs l:List Value) (o:Nat),(over l o vs).length=l.length
 | [],_,_=>rfl
 | v::vs,l,o=>by unfold over;rw[jF vs];simp
theorem QV:∀{vs l:List Value} {c:C} {o:Nat},(∀i,A.get none i c=l[i]?)->o+vs.length<=l.length->(∀v∈vs,okC v=true)->∃c',stn c o vs=some c'/\∀i,A.get none i c'=(over l o vs)[i]?
 | [],l,c,o,h,_,_=>⟨c,rfl,h⟩
 | v::vs,l,c,o,h,hn,hv=>by
  have ho:o<l.length:=by simp at hn;omega
  obtain⟨c',e,h'⟩:=QV (vs:=vs) (l:=l.set o v) (c:=A.set none (some v) o c) (o:=o+1) (λi=>by
   by_cases hi:i=o
   .subst hi;rw[A.get_set_same];simp[ho]
   .rw[A.get_set_ne _ _ hi,h,qht (by omega)]) (by simp at hn ⊢;omega) (λu hu=>hv u (qhg _ hu))
  refine⟨c',?_,h'⟩;show ob (A.get none o c) _=_;rw[h,qh5 ho];show (bif okC v then _ else none)=_
  rw[hv v (qho ..)];exact e
def jK (m:M)(B o:Nat)(l:List Value):M:=(wQ m ⟨B,o,none⟩ l).getD m
theorem wY {m:M}{B o:Nat}{l l0:List Value}(h:Arr m B l0)(hn:o+l.length<=l0.length)(hl:∀v∈l,okC v=true) :
  wQ m ⟨B,o,none⟩ l=some (jK m B o l)/\Arr (jK m B o l) B (over l0 o l)/\(jK m B o l).n=m.n/\(jK m B o l).base=m.base/\(∀X,X≠B->(jK m B o l).obj X=m.obj X)/\(m.base<=B->(jK m B o l).log=m.log):=by
 obtain⟨c,h1,h2⟩:=h;cases l with
 | nil=>exact⟨rfl,⟨c,h1,h2⟩,rfl,rfl,λ_ _=>rfl,λ_=>rfl⟩
 | cons v vs =>
  obtain⟨c',e,h'⟩:=QV h2 hn hl;have key:wQ m ⟨B,o,none⟩ (v::vs)=some (m.put B (.cells c')):=by
   show ob (fu (m.obj B)) _=_;rw[h1];show ob (stn c o (v::vs)) _=_;rw[e];rfl
  have hp:jK m B o (v::vs)=m.put B (.cells c'):=by unfold jK;rw[key];rfl
  rw[hp];refine⟨key,⟨c',by rw[M.obj_put,qhz rfl],h'⟩,M.n_put _ _ _,M.base_put _ _ _,λX hX=>by rw[M.obj_put,qhy hX],λhb=>?_⟩;cases m with | mk a b bs wl =>
  show note bs B wl=wl;have h':Nat.ble bs B=true:=qhd hb;unfold note;rw[h'];rfl
theorem qb9 {m a:M}{B o:Nat}{l l0:List Value}(h:Arr m B l0)(hn:o+l.length<=l0.length)(hl:∀v∈l,okC v=true)(hB:a.n<=B)(hb:a.base<=a.n)(k:Ext a m):Ext a (jK m B o l):=by
 obtain⟨_,_,h1,h2,h3,h4⟩:=wY h hn hl;exact⟨by rw[h1];exact k.n,λX hX=>by rw[h3 X (by omega)];exact k.obj X hX,by rw[h2,k.base],by rw[h4 (by rw[k.base];omega),k.log]⟩
theorem kQ {m:M}{B o:Nat}{l0:List Value}(h:Arr m B l0){v:Value}{l:List Value}{n:Nat}(hv:zk v=some l)(hln:l.length=n)(hn:o+n<=l0.length)(hl:∀v∈l,okC v=true) :
  ww n (.pointer (some ⟨B,o,none⟩)) v m=some (undef,jK m B o l):=by
 have:=(wY (o:=o) (l:=l) h (by omega) hl).1;show ob (zk v) _=_;rw[hv];show (bif Nat.beq l.length n then _ else none)=_
 rw[hln,Nat.beq_refl];show ob (wQ m ⟨B,o,none⟩ l) _=_;rw[this];rfl
theorem VF {m:M}(hm:m.base<=m.n){zs l:List Value}{v:Value}{n:Nat}(hv:zk v=some l)(hz:zs.length=n)(hln:l.length=n)(hl:∀v∈l,okC v=true) :
  ww n (.pointer (some ⟨m.n,0,none⟩)) v (newRow m zs)=some (undef,jK (newRow m zs) m.n 0 l)/\Arr (jK (newRow m zs) m.n 0 l) m.n (over zs 0 l)/\Ext m (jK (newRow m zs) m.n 0 l)/\m.n<(jK (newRow m zs) m.n 0 l).n:=by
 have h:=Arr.row m zs;refine⟨kQ h hv hln (by omega) hl,(wY (o:=0) (l:=l) h (by omega) hl).2.1,qb9 h (by omega) hl (qh8 _) hm (Ext.row _ _),?_⟩;rw[(wY (o:=0) (l:=l) h (by omega) hl).2.2.1,wL];omega
theorem JR:∀(l zs:List Value) (p:List Value),zs.length=l.length->over (p++zs) p.length l=p++l
 | [],zs,p,h=>by cases zs<;>simp_all [over]
 | v::l,zs,p,h=>by
  cases zs with
  | nil=>simp at h
  | cons z zs =>
   unfold over;have:=JR l zs (p++[v]) (by simpa using h);simp at this ⊢;exact this
theorem kX {l zs:List Value}(h:zs.length=l.length):over zs 0 l=l:=JR l zs [] h
abbrev SeqR (c a b:SC):Prop:=∀(x:Ex) (n:K) (e:Nat->K) (r:K) (t:Tm) (m:M),c x n e r t m=a x (b x n e r) e r t m
abbrev BlockR (c:SC)(id:Nat)(a:SC):Prop:=∀(x:Ex) (n:K) (e:Nat->K) (r:K) (t:Tm) (m:M),c x n e r t m=a x n (gz id n e) r t m
theorem qF {c a b:SC}(h:c=qa a b):SeqR c a b:=by subst h;exact λ_ _ _ _ _ _=>rfl
theorem dX {c:SC}{id:Nat}{a:SC}(h:c=qj id a):BlockR c id a:=by subst h;exact λ_ _ _ _ _ _=>rfl
theorem QK {c:List IS}{a:IS}{l:List IS}(h:c=a::l):∀(x:Ex) (k:K) (t:Tm) (m:M),yQ c x k t m=a x (yQ l x k) t m:=by subst h;exact λ_ _ _ _=>rfl
theorem qay {c:List DA}{a:DA}{l:List DA}(h:c=a::l):∀(x:Ex) (k:List (Nat × FP)->K) (f:List (Nat × FP)) (t:Tm) (m:M),FX x c k f t m=FW x a (FX x l k) f t m:=by subst h;exact λ_ _ _ _ _=>rfl
theorem qq {c a:SC}(hc:c=qU a){x:Ex}{kn kr:K}{ke:Nat->K}(Q:Option Out->Prop)(I:Nat->Tm->M->Prop)(len:Nat)(hlen:len<=9223372036854775807){t:Tm}{m:M}(h0:I 0 t m)
  (round:∀i t m (k:K),i<=len->I i t m->(i<len->∀t' m',I (i+1) t' m'->Q (k t' m'))->Q (a x k ke kr t m)):Q (c x kn ke kr t m):=by
 subst hc;exact qbl Q I len hlen round h0
theorem wK {m:M}(hm:m.base<=m.n){zs l:List Value}{v:Value}{n:Nat}(hv:zk v=some l)(hz:zs.length=n)(hln:l.length=n)(hl:∀v∈l,okC v=true) :
  ∃m2,ww n (.pointer (some ⟨m.n,0,none⟩)) v (newRow m zs)=some (undef,m2)/\(∀o s,load1 m2 ⟨m.n,o,s⟩=l[o]?)/\(∀s,loads m2 ⟨m.n,0,s⟩ n=some l)/\Ext m m2/\m.n<m2.n:=by
 obtain⟨h1,h2,h3,h4⟩:=VF hm hv hz hln hl;rw[kX (by omega)]at h2;exact⟨_,h1,λo s=>h2.load1 o s,λs=>by rw[h2.loads (by omega),List.drop_zero,<-hln,List.take_length],h3,h4⟩
@[simp] theorem qh0 (x:Ex) (t:Tm) (m:M) (e n:Nat) (zs:List Value) (ps:List (Nat × Nat × V)):qX e n zs ps x t m=wH e n zs (evP ps t) m:=_root_.id rfl
@[simp] theorem qgs (m:M) (z:Value) (k:IntKind) (a:Int):wH 1 1 (rep 1 [z]) [(0,1,.int k a)] m=some (.slice (some ⟨m.n,0,some 3⟩) 1 1,newRow m [.int k a]):=_root_.id rfl
theorem VG {m:M}{B:Nat}(h:m.base<=B)(o:DObj):(m.put B o).log=m.log:=by
 cases m with | mk a b bs wl =>
 show note bs B wl=wl;have h':Nat.ble bs B=true:=qhd h;unfold note;rw[h'];rfl
theorem BX {c:C}{v:Value}{i:Nat}(h:A.get none i c=some v):alive c=true:=by
 cases c with
 | lf=>rw[A.get_lf]at h;cases h
 | _=>rfl
def Grown {α:Type}(m0 m:M)(v:Value)(e:Nat)(f:α->List Value)(es:List α):Prop :=
 (es=[]/\v=.slice none 0 0)\/∃B,m0.n<=B/\B<m.n/\es≠[]/\v=.slice (some ⟨B,0,some (code e false)⟩) es.length es.length/\Arr m B (es.flatMap f)
section
variable {α:Type}{m0 m m':M}{v:Value}{e:Nat}{f:α->List Value}{es:List α}
theorem Grown.nil:Grown m0 m (.slice none 0 0) e f ([]:List α):=.inl ⟨rfl,rfl⟩
theorem Grown.keep (h:Grown m0 m v e f es)(hn:m.n<=m'.n)(k:∀B,B<m.n->blk v=some B->m'.obj B=m.obj B):Grown m0 m' v e f es:=by
 rcases h with h | ⟨B,h1,h2,h3,rfl,h5⟩
 .exact .inl h
 .exact .inr ⟨B,h1,by omega,h3,rfl,h5.congr (k B h2 rfl)⟩
theorem Grown.ext (h:Grown m0 m v e f es)(k:Ext m m'):Grown m0 m' v e f es:=h.keep k.n λB hB _=>k.obj B hB
theorem Grown.lens (h:Grown m0 m v e f es):wB v=some (.int .i64 es.length):=by
 rcases h with ⟨rfl,rfl⟩ | ⟨B,h1,h2,h3,rfl,h5⟩<;>rfl
theorem wU (hf:∀x,(f x).length=e):∀es:List α,(es.flatMap f).length=es.length*e
 | []=>by simp
 | x::es=>by simp[hf x,wU hf es,Nat.succ_mul,Nat.add_comm]
theorem xy (hf:∀x,(f x).length=e):∀(es:List α) (i:Nat) (x:α),es[i]?=some x->((es.flatMap f).drop (i*e)).take e=f x
 | [],i,x,h=>by simp at h
 | y::es,0,x,h=>by
  simp at h;subst h;simp[<-hf y]
 | y::es,i+1,x,h=>by
  simp at h;rw[List.flatMap_cons,List.drop_append,Nat.succ_mul,hf y,List.drop_eq_nil_of_le (by rw[hf y];omega),List.nil_append,Nat.add_sub_cancel];exact xy hf es i x h
theorem Grown.rd (hf:∀x,(f x).length=e)(h:Grown m0 m v e f es):Rd m v e f es:=by
 refine⟨h.lens,λi r hr=>?_,?_,?_⟩
 rotate_left
 .rcases h with ⟨rfl,rfl⟩ | ⟨B,h1,h2,h3,rfl,h5⟩
  .rfl
  .show loads m ⟨B,0,some (code e false)⟩ (es.length*e)=_;have hlen:=wU hf es;rw[h5.loads (by omega),List.drop_zero,<-hlen,List.take_length]
 .rcases h with ⟨rfl,rfl⟩ | ⟨B,h1,h2,h3,rfl,h5⟩
  .intro B hB;cases hB
  .intro C hC;cases hC;exact h2
 have hi:i<es.length:=(qh7.1 hr).1;rcases h with ⟨rfl,rfl⟩ | ⟨B,h1,h2,h3,rfl,h5⟩
 .simp at hi
 .refine⟨?_,h2,?_⟩
  .show (bif Nat.blt i es.length then yO (i*e) _ else none)=_
   rw[show Nat.blt i es.length=true from qhd hi];rfl
  .show loads m ⟨B,0+i*e,none⟩ e=_;have:=qhq e (Nat.succ_le_of_lt hi);rw[h5.loads (by rw[wU hf,Nat.zero_add];rw[Nat.succ_mul]at this;omega),Nat.zero_add,xy hf es i r hr]
theorem ZO:∀{l:List Value},(∀v∈l,okC v=true)->yR l=true
 | [],_=>rfl
 | v::l,h=>by unfold yR;rw[h v (qho ..),ZO λu hu=>h u (qhg _ hu)];rfl
theorem Grown.core (h:Grown m0 m v e f es)(he:0<e)(hf:∀x,(f x).length=e)(hok:∀x,∀v∈f x,okC v=true){x:α}{X:Nat}{sp:Option Nat}
  (hx:loads m ⟨X,0,sp⟩ e=some (f x)) (h0:m0.n<=m.n) {bytes:Nat} (hm:(es.length+1)*bytes<=wk) (hn:es.length+1<=4611686018427387904) :
  ∃v' m',wZ m e bytes v (.slice (some ⟨X,0,sp⟩) 1 1)=some (v',m')/\Grown m0 m' v' e f (es++[x])/\m.n<m'.n/\m'.base=m.base/\(m'.log=m.log\/∃B,blk v=some B/\m0.n<=B/\m'.log=note m.base B m.log)/\(∀B,B<m.n->blk v≠some B->m'.obj B=m.obj B)/\(∀B,blk v'=some B->m.n<=B):=by
 have hk:(Nat.ble ((es.length+1)*bytes) wk&&Nat.ble (es.length+1) 4611686018427387904)=true:=by rw[qhd hm,qhd hn];rfl
 have hfi:kU m e 1 (.slice (some ⟨X,0,sp⟩) 1 1)=some (f x):=by unfold kU;rw[Nat.one_mul];exact hx
 have hal:yR (es.flatMap f++f x)=true:=ZO λu hu=>by
  simp only[qhu,List.mem_flatMap]at hu;rcases hu with ⟨y,_,h⟩ | h
  .exact hok y u h
  .exact hok x u h
 have hfl:(es++[x]).flatMap f=es.flatMap f++f x:=by simp
 rcases h with ⟨rfl,rfl⟩ | ⟨B,h1,h2,h3,rfl,h5⟩
 .refine⟨_,_,?_,.inr ⟨m.n,h0,by rw[wL];omega,by simp,rfl,by simpa using Arr.row m (f x)⟩,by rw[wL];omega,(Ext.row m (f x)).base,.inl (Ext.row m (f x)).log,
   λB hB _=>(Ext.row m (f x)).obj B hB,λB hB=>by cases hB;exact qh8 _⟩
  show ob (kU m e 1 _) _=_;rw[hfi,qQ];unfold Kx;have hlt:Nat.ble (0+1) 0=false:=rfl;have hk':(Nat.ble ((0+1)*bytes) wk&&Nat.ble (0+1) 4611686018427387904)=true:=hk;rw[hlt,cond_false,hk',cond_true];rfl
 .have hlt:Nat.ble (es.length+1) es.length=false:=by
   cases q:Nat.ble (es.length+1) es.length with
   | false=>rfl
   | true=>exact absurd (qhe q) (by omega)
  obtain⟨c,hc,hcl⟩:=id h5;have hpos:0<es.length:=List.length_pos_iff.2 h3;have hlen:=wU hf es;have hne:0<(es.flatMap f).length:=by rw[hlen];exact Nat.mul_pos hpos he
  have ha:alive c=true:=BX (i:=0) (by rw[hcl,qh5 hne]);refine⟨.slice (some ⟨m.n,0,some (code e false)⟩) (es.length+1) (es.length+1),(m.put B (.cells .lf)).alloc (.cells (mkn .lf 0 (es.flatMap f++f x))),?_,
   .inr ⟨m.n,h0,by rw[M.n_alloc,M.n_put];omega,by simp,by simp,?_⟩,by rw[M.n_alloc,M.n_put];omega,by rw[M.base_alloc,M.base_put],.inr ⟨B,rfl,h1,by rw[M.log_alloc];cases m;rfl⟩,λY hY hne'=>?_,λY hY=>by cases hY;exact qh8 _⟩
  .show ob (kU m e 1 _) _=_;rw[hfi,qQ];unfold Kx;rw[hlt,cond_false,hk,cond_true];have hold:kU m e es.length (.slice (some ⟨B,0,some (code e false)⟩) es.length es.length)=some (es.flatMap f):=by
    show loads m ⟨B,0,some (code e false)⟩ (es.length*e)=_;rw[h5.loads (by omega),List.drop_zero,<-hlen,List.take_length]
   rw[hold,qQ];unfold WN;have hx':vA (code e false)=false:=by
    show Nat.beq (2*e%2) 1=false;rw[show 2*e%2=0 by omega];rfl
   have hcd:Nat.beq (code e false/2) e=true:=by
    show Nat.beq (2*e/2) e=true;rw[show 2*e/2=e by omega];exact Nat.beq_refl e
   show ob (some (code e false)) _=_;rw[qQ,hx',cond_false];show ob (fu (m.obj B)) _=_;rw[hc];show (bif alive c&&Nat.beq (code e false/2) e&&yR (es.flatMap f++f x)&&Nat.blt 0 HI then _ else _)=_
   rw[ha,hcd,hal,show Nat.blt 0 HI=true from qhd (by unfold HI;omega)];rfl
  .rw[hfl];refine⟨_,by rw[M.obj_alloc,M.n_put,qhz rfl],λi=>?_⟩;rw[zQ,A.get_lf];split
   .simp
   .rename_i h;rw[qhs (by omega)]
  .rw[M.obj_alloc,M.n_put,qhy (by omega),M.obj_put,qhy (by rintro rfl;exact hne' rfl)]
theorem gv {bs B:Nat}{wl:List Nat}(h:bs<=B):note bs B wl=wl:=by unfold note;rw[qhd h];rfl
theorem Grown.append (h:Grown m0 m v e f es)(hE:Ext m0 m)(hb:m0.base<=m0.n)(he:0<e)(hf:∀x,(f x).length=e)(hok:∀x,∀v∈f x,okC v=true){x:α}{X:Nat}{sp:Option Nat}
  (hx:loads m ⟨X,0,sp⟩ e=some (f x)) {bytes:Nat} (hm:(es.length+1)*bytes<=wk) (hn:es.length+1<=4611686018427387904) :
  ∃v' m',wZ m e bytes v (.slice (some ⟨X,0,sp⟩) 1 1)=some (v',m')/\Ext m0 m'/\Grown m0 m' v' e f (es++[x])/\m.n<=m'.n/\(∀B,B<m.n->blk v≠some B->m'.obj B=m.obj B)/\(∀B,blk v'=some B->m.n<=B):=by
 have hlow:∀B,blk v=some B->m0.n<=B:=λB hB=>by
  rcases h with ⟨rfl,rfl⟩ | ⟨B',h1,_,_,rfl,_⟩
  .cases hB
  .cases hB;exact h1
 obtain⟨v',m',h1,h2,h3,h4,h5,h6,h7⟩:=h.core he hf hok hx hE.n hm hn;refine⟨v',m',h1,⟨by have:=hE.n;omega,λB hB=>(h6 B (by have:=hE.n;omega) λhc=>by have:=hlow B hc;omega).trans (hE.obj B hB),by rw[h4,hE.base],?_⟩,h2,by omega,h6,h7⟩;rcases h5 with h5 | ⟨B,_,hB,h5⟩
 .rw[h5,hE.log]
 .rw[h5,gv (by rw[hE.base];omega),hE.log]
theorem Grown.appendAny (h:Grown m0 m v e f es)(hE:Ext m0 m)(hb:m0.base<=m0.n)(he:0<e)(hf:∀x,(f x).length=e)(hok:∀x,∀v∈f x,okC v=true){x:α}{X:Nat}{sp:Option Nat}
  (hx:loads m ⟨X,0,sp⟩ e=some (f x)) {bytes:Nat} (hm:(es.length+1)*bytes<=wk) (hn:es.length+1<=4611686018427387904) :
  ∃v' m',wZ (ql m) e bytes v (.slice (some ⟨X,0,sp⟩) 1 1)=some (v',m')/\(m'.log=[]\/∃B,blk v=some B/\m'.log=[B])/\Ext m0 (behind m m')/\Grown m0 (behind m m') v' e f (es++[x])/\m.n<=(behind m m').n/\(∀B,B<m.n->blk v≠some B->(behind m m').obj B=m.obj B)/\(∀B,blk v'=some B->m.n<=B):=by
 have hlow:∀B,blk v=some B->m0.n<=B/\B<m.n:=λB hB=>by
  rcases h with ⟨rfl,rfl⟩ | ⟨B',h1,h2,_,rfl,_⟩
  .cases hB
  .cases hB;exact⟨h1,h2⟩
 have hA:Grown m0 (ql m) v e f es:=h.keep (by rw[qt];exact qh8 _) λB _ _=>qx _ _;have hx':loads (ql m) ⟨X,0,sp⟩ e=some (f x):=by unfold loads cellsOf at hx ⊢;rw[qx];exact hx
 obtain⟨v',m',h1,h2,h3,h4,h5,h6,h7⟩:=hA.core he hf hok hx' (by rw[qt];exact hE.n) hm hn;rw[qt]at h3 h6 h7;have hlog:m'.log=[]\/∃B,blk v=some B/\m'.log=[B]:=by
  rcases h5 with h5 | ⟨B,hB,_,h5⟩
  .exact .inl (by rw[h5,wu])
  .refine .inr ⟨B,hB,?_⟩;rw[h5,qW,wu];have:=(hlow B hB).2;unfold note;have h':Nat.ble m.n B=false:=by
    cases q:Nat.ble m.n B with
    | false=>rfl
    | true=>exact absurd (qhe q) (by omega)
   rw[h'];rfl
 refine⟨v',m',h1,hlog,⟨by rw[wj];have:=hE.n;omega,λB hB=>?_,by rw[kC,hE.base],?_⟩,h2.keep (by rw[wj];exact qh8 _) λB _ _=>qB _ _ _,by rw[wj];omega,λB hB hne=>by rw[qB,h6 B hB hne,qx],h7⟩
 .rw[qB,h6 B (by have:=hE.n;omega) λhc=>by have:=(hlow B hc).1;omega,qx];exact hE.obj B hB
 .rw[ku,<-hE.log];rcases hlog with h | ⟨B,hB,h⟩
  .rw[h];rfl
  .rw[h];show notes m.base (note m.base B m.log) []=m.log;rw[gv (by rw[hE.base];have:=(hlow B hB).1;omega)];rfl
end
@[simp] theorem extract_0 (a:Value) (l:List Value):wo 0 (.tuple ⟨a::l⟩)=some a:=_root_.id rfl
@[simp] theorem extract_1 (a b:Value) (l:List Value):wo 1 (.tuple ⟨a::b::l⟩)=some b:=_root_.id rfl
@[simp] theorem pNilck_p (a:Addr):bu (.pointer (some a))=some (.pointer (some a)):=_root_.id rfl
@[simp] theorem mCallv_ap (f:V) (l:List V) (x:Ex) (t:Tm) (m:M):vC f l x t m=Qb x (evs t l) m (f t):=_root_.id rfl
@[simp] theorem qgu (x:Ex) (l:List Value) (m:M) (g:Nat) (u v:List Value):Qb x l m (.func (.func g) ⟨u⟩ ⟨v⟩)=x.f g (u++l++v) m:=_root_.id rfl
@[simp] theorem qh1 (tab:List (Nat × Nat)) (f:V) (l:List V) (x:Ex) (t:Tm) (m:M):zP tab f l x t m=gh x tab (evs t l) m (f t):=_root_.id rfl
@[simp] theorem pMkfn_ap (g:Nat) (a b:List V) (t:Tm):JS g a b t=some (.func (.func g) ⟨evs t a⟩ ⟨evs t b⟩):=_root_.id rfl
end
def Sp (e:Nat)(v:Value):Prop:=v=.slice none 0 0\/∃B o l c x,v=.slice (some ⟨B,o,some (code e x)⟩) l c/\l<=c
noncomputable section
@[simp] theorem GM (m:M) (a:Addr) (n:Nat):loads (ql m) a n=loads m a n:=by unfold loads cellsOf;rw[qx]
@[simp] theorem wD (m m':M) (a:Addr):load1 (behind m m') a=load1 m' a:=by unfold load1 cellsOf;rw[qB]
@[simp] theorem qep (m m':M) (a:Addr) (n:Nat):loads (behind m m') a n=loads m' a n:=by unfold loads cellsOf;rw[qB]
@[simp] theorem behind_n' (m m':M):(behind m m').n=m'.n:=wj m m'
@[simp] theorem meets_nil (l:List (Nat × FP)) (x:FP):meets l x []=true:=rfl
theorem yb {bs:Nat}{wl:List Nat}:∀{l:List Nat},(∀B∈l,bs<=B)->notes bs wl l=wl
 | [],_=>rfl
 | B::l,h=>by
  show notes bs (note bs B wl) l=wl;have:note bs B wl=wl:=by unfold note;rw[qhd (h B (qho ..))];rfl
  rw[this];exact yb λC hC=>h C (qhg _ hC)
structure St (m0 m:M)(σ:List (Nat × List Value)):Prop where
 ext:Ext m0 m
 base:m0.base<=m0.n
 arr:∀p∈σ,m0.n<=p.1/\p.1<m.n/\Arr m p.1 p.2
 nd:(σ.map (·.1)).Nodup
def Loads (m:M):List (Nat × List Value)->Prop
 | []=>True
 | p::σ=>(∀o s,load1 m ⟨p.1,o,s⟩=p.2[o]?)/\Loads m σ
section
variable {m0 m m':M}{σ:List (Nat × List Value)}{k b o:Nat}{l:List Value}{v:Value}
theorem St.nil (h:m0.base<=m0.n)(e:Ext m0 m):St m0 m []:=⟨e,h,(by simp),(by simp)⟩
theorem St.loads (h:St m0 m σ):Loads m σ:=by
 have:=h.arr;clear h
 induction σ with
 | nil=>trivial
 | cons p σ ih=>exact⟨λo s=>(this p (qho ..)).2.2.load1 o s,ih λq hq=>this q (qhg _ hq)⟩
theorem St.get (h:St m0 m σ)(k:Nat)(hk:σ[k]?=some (b,l)):m0.n<=b/\b<m.n/\Arr m b l:=h.arr _ (qh6 hk)
theorem St.keep (h:St m0 m σ)(e:Ext m0 m')(hn:m.n<=m'.n)(ho:∀B,m0.n<=B->B<m.n->m'.obj B=m.obj B):St m0 m' σ :=
 ⟨e,h.base,λp hp=>let ⟨h1,h2,h3⟩:=h.arr p hp;⟨h1,by omega,h3.congr (ho _ h1 h2)⟩,h.nd⟩
theorem St.step (h:St m0 m σ)(e:Ext m m'):St m0 m' σ:=h.keep (h.ext.trans e) e.n λB _ hB=>e.obj B hB
theorem St.sees (h:St m0 m σ):Sees m0 m:=(Sees.refl h.base).ext h.ext
theorem St.behind (h:St m0 m σ)(e:Ext (ql m) m'):St m0 (behind m m') σ:=h.step e.behind
theorem St.row (h:St m0 m σ)(l:List Value):St m0 (newRow m l) ((m.n,l)::σ):=by
 have h':=h.step (Ext.row m l);refine⟨h'.ext,h.base,λp hp=>?_,?_⟩
 .rcases List.mem_cons.1 hp with rfl | hp
  .exact⟨h.ext.n,by rw[wL];exact Nat.lt_succ_self _,Arr.row m l⟩
  .exact h'.arr p hp
 .rw[List.map_cons,List.nodup_cons];refine⟨λhm=>?_,h.nd⟩;obtain⟨q,hq,e⟩:=List.mem_map.1 hm;have:=(h.arr q hq).2.1;omega
theorem QJ {σ:List (Nat × List Value)}(hn:(σ.map (·.1)).Nodup){i j:Nat}{p q:Nat × List Value}(hi:σ[i]?=some p)(hj:σ[j]?=some q)(h:p.1=q.1):i=j:=by
 obtain⟨hi',rfl⟩:=qh7.1 hi;obtain⟨hj',rfl⟩:=qh7.1 hj;have key:∀(l:List Nat),l.Nodup->∀(i j:Nat) (x:Nat),l[i]?=some x->l[j]?=some x->i=j:=by
  intro l
  induction l with
  | nil=>intro _ i j x h;simp at h
  | cons a l ih =>
   intro hn i j x h1 h2;rw[List.nodup_cons]at hn;cases i with
   | zero =>
    cases j with
    | zero=>rfl
    | succ j=>simp at h1 h2;subst h1;exact absurd (qh6 h2) hn.1
   | succ i =>
    cases j with
    | zero=>simp at h1 h2;subst h2;exact absurd (qh6 h1) hn.1
    | succ j=>simp at h1 h2;rw[ih hn.2 i j x h1 h2]
 exact key _ hn i j (σ[i]'hi').1 (by rw[qhm,qh5 hi'];rfl) (by rw[qhm,qh5 hj',h];rfl)
theorem St.put' (h:St m0 m σ)(k:Nat)(hk:σ[k]?=some (b,l)){l':List Value}(hn:m'.n=m.n)(hb:m'.base=m.base)(hlog:m'.log=m.log)(ho:∀X,X≠b->m'.obj X=m.obj X)(ha:Arr m' b l'):St m0 m' (σ.set k (b,l')):=by
 obtain⟨hk',hke⟩:=qh7.1 hk;have hb0:=(h.get k hk).1;refine⟨⟨by rw[hn];exact h.ext.n,λX hX=>by rw[ho X (by omega)];exact h.ext.obj X hX,by rw[hb,h.ext.base],by rw[hlog,h.ext.log]⟩,h.base,λp hp=>?_,?_⟩
 .obtain⟨j,hj,rfl⟩:=List.getElem_of_mem hp;rw[List.getElem_set];rw[List.length_set]at hj;split
  .exact⟨hb0,by rw[hn];exact (h.get k hk).2.1,ha⟩
  .rename_i hne;obtain⟨h1,h2,h3⟩:=h.arr _ (List.getElem_mem hj);refine⟨h1,by rw[hn];exact h2,h3.congr (ho _ λe=>hne ?_)⟩;exact (QJ h.nd (qh5 hj) hk e).symm
 .have:(σ.set k (b,l')).map (·.1)=σ.map (·.1):=by
   rw[List.map_set];show (σ.map (·.1)).set k b=_;refine List.ext_getElem (by simp) λi h1 h2=>?_;rw[List.getElem_set];split
   .subst_vars;simp[hke]
   .rfl
  rw[this];exact h.nd
theorem St.store (h:St m0 m σ)(k:Nat)(hk:σ[k]?=some (b,l))(ho:o<l.length)(hv:okC v=true) :
  ∃m',ww 1 (.pointer (some ⟨b,o,none⟩)) v m=some (undef,m')/\St m0 m' (σ.set k (b,l.set o v))/\m'.n=m.n/\(∀X,X≠b->m'.obj X=m.obj X):=by
 obtain⟨h1,h2,h3⟩:=h.get k hk;have hcv:zk v=some [v]:=by cases v<;>first | rfl | simp[okC]at hv
 have e:=kQ (n:=1) (o:=o) h3 hcv rfl (by omega) (by simpa using hv);obtain⟨_,s2,s3,s4,s5,s6⟩:=wY (o:=o) (l:=[v]) h3 (by simp;omega) (by simpa using hv);exact⟨_,e,h.put' k hk s3 s4 (s6 (by have:=h.ext.base;have:=h.base;omega)) s5 s2,s3,s5⟩
theorem St.storeAny (h:St m0 m σ)(k:Nat)(hk:σ[k]?=some (b,l))(ho:o<l.length)(hv:okC v=true) :
  ∃m',ww 1 (.pointer (some ⟨b,o,none⟩)) v (ql m)=some (undef,m')/\m'.log=[b]/\St m0 (Dx.behind m m') (σ.set k (b,l.set o v))/\(Dx.behind m m').n=m.n/\(∀X,X≠b->(Dx.behind m m').obj X=m.obj X):=by
 obtain⟨h1,h2,h3⟩:=h.get k hk;have hcv:zk v=some [v]:=by cases v<;>first | rfl | simp[okC]at hv
 have h3':Arr (ql m) b l:=h3.congr (qx m b);have e:=kQ (n:=1) (o:=o) h3' hcv rfl (by omega) (by simpa using hv);obtain⟨s1,s2,s3,s4,s5,s6⟩:=wY (o:=o) (l:=[v]) h3' (by simp;omega) (by simpa using hv);have hlog:(jK (ql m) b o [v]).log=[b]:=by
  obtain⟨c,hc,hcl⟩:=h3';have:∃c',wQ (ql m) ⟨b,o,none⟩ [v]=some ((ql m).put b (.cells c')):=by
   have hs:wQ (ql m) ⟨b,o,none⟩ [v]=ob (fu ((ql m).obj b)) λc=>ob (stn c o [v]) λc'=>some ((ql m).put b (.cells c')):=rfl;rw[hs,hc];obtain⟨c',e',_⟩:=QV (vs:=[v]) (o:=o) hcl (by simp;omega) (by simpa using hv);exact⟨c',by show ob (stn c o [v]) _=_;rw[e'];rfl⟩
  obtain⟨c',e'⟩:=this;have hp:jK (ql m) b o [v]=(ql m).put b (.cells c'):=by unfold jK;rw[e'];rfl
  rw[hp];cases m with | mk a nx bs wl =>
  show note nx b []=[b];have h2':b<nx:=h2;unfold note;have:Nat.ble nx b=false:=by
   cases q:Nat.ble nx b with
   | false=>rfl
   | true=>exact absurd (qhe q) (by omega)
  rw[this];rfl
 refine⟨_,e,hlog,h.put' k hk (by rw[wj,s3,qt]) (kC _ _) ?_ (λX hX=>by rw[qB,s5 X hX,qx]) (s2.congr (qB _ _ _)),by rw[wj,s3,qt],λX hX=>by rw[qB,s5 X hX,qx]⟩;rw[ku,hlog];refine yb λB hB=>?_;rw[qhc.1 hB,h.ext.base];have:=h.base;omega
end
@[simp] theorem vFn_f (g:Nat) (u v:Array Value):vFn (.func (.func g) u v)=some (g,u,v):=_root_.id rfl
theorem sRf_ap (o:V)(nt:Nat)(ps:Array Tmp)(a b:Code)(ks:List Nat)(x:Ex)(kn kr:K)(ke:Nat->K)(t:Tm)(m:M):sRf o nt ps a b ks x kn ke kr t m=obp (vFn (o t)) λg uv=>rfGo nt ps a b ks x kn ke kr t m g uv.1 uv.2:=rfl
theorem qg1 (nt:Nat)(ps:Array Tmp)(a b:Code)(ks:List Nat)(x:Ex)(kn kr:K)(ke:Nat->K)(t:Tm)(m:M)(g:Nat)(u v:Array Value) :
  rfGo nt ps a b ks x kn ke kr t m g u v=obp (x.f g (u.toList++[.func (.yield m.n) #[] #[]]++v.toList) (m.alloc (.loop 0 (vL ks t) nt ps a b none))) (endL m.n t kn ke kr):=rfl
theorem rf_run {c:SC}{o:V}{nt:Nat}{ps:Array Tmp}{a b:Code}{ks:List Nat}(hc:c=sRf o nt ps a b ks){x:Ex}{kn kr:K}{ke:Nat->K}{t:Tm}{m:M}{Q:Option Out->Prop}{g:Nat}{u v:List Value}(ho:o t=.func (.func g) ⟨u⟩ ⟨v⟩)
  {r:Value} {m1:M} (hf:x.f g (u++[.func (.yield m.n) #[] #[]]++v) (m.alloc (.loop 0 (vL ks t) nt ps a b none))=some (r,m1)) {st:Nat} {t':Tm} {pend:Option E} (hl:m1.obj m.n=some (.loop st t' nt ps a b pend)) (hst:st≠1)
  (hq:Q (vb kn ke kr pend t (m1.put m.n (.loop 3 t' nt ps a b pend)))):Q (c x kn ke kr t m):=by
 have e:c x kn ke kr t m=vb kn ke kr pend t (m1.put m.n (.loop 3 t' nt ps a b pend)):=by
  rw[hc,sRf_ap,ho,vFn_f,Kb,qg1];show obp (x.f g (u++[.func (.yield m.n) #[] #[]]++v) _) _=_;rw[hf,Kb];show (match m1.obj m.n with | some (.loop st t' nt ps a b pend)=>bif Nat.beq st 1 then none else vb kn ke kr pend t (m1.put m.n (.loop 3 t' nt ps a b pend)) | _=>none)=_
  rw[hl];show (bif Nat.beq st 1 then none else _)=_
  have:Nat.beq st 1=false:=by
   cases q:Nat.beq st 1 with
   | false=>rfl
   | true=>exact absurd (qhi q) hst
  rw[this];rfl
 rw[e];exact hq
def Rnd (P:Option E->M->Prop):Option Out->Prop:=λo=>∃e m,o=some ⟨e,.blank,m⟩/\P e m
theorem Zv {P:Option E->M->Prop}{e:Option E}{t:Tm}{m:M}(h:P e m):Rnd P (di e t m):=⟨e,m,rfl,h⟩
theorem Rd.lenV {α:Type}{m:M}{v:Value}{e:Nat}{f:α->List Value}{es:List α}(h:Rd m v e f es):Dx.lenV v=some es.length:=by
 have hl:=h.len;cases v with
 | slice a n cp =>
  have:some (Value.int .i64 (Int.ofNat n))=some (Value.int .i64 (es.length:Int)):=hl;injection this with this;injection this with _ this;show some n=_;rw[Int.ofNat.inj this]
 | _=>cases hl
end
noncomputable section
theorem jN {α:Type}{m:M}(hm:m.base<=m.n){v:Value}{e:Nat}{f:α->List Value}{es:List α}(h:Rd m v e f es)(hf:∀x,(f x).length=e)(bytes:Nat)(hb:es.length*bytes<=wk)(hn:es.length<=4611686018427387904) :
  ∃v' m',wZ (newRow m []) e bytes (.slice (some ⟨m.n,0,some (code e true)⟩) 0 0) v=some (v',m')/\Ext m m'/\Rd m' v' e f es/\(∀B,blk v'=some B->m.n<=B/\Arr m' B (es.flatMap f))/\(es≠[]->v'=.slice (some ⟨m.n+1,0,some (code e false)⟩) es.length es.length):=by
 have h':=h.sees ((Sees.refl hm).ext (Ext.row m []));have e0:wZ (newRow m []) e bytes (.slice (some ⟨m.n,0,some (code e true)⟩) 0 0) v=Kx (newRow m []) e bytes 0 0 es.length (some ⟨m.n,0,some (code e true)⟩) (es.flatMap f):=by
  show ob (lenV v) _=_;rw[h.lenV,qQ];show ob (kU (newRow m []) e es.length v) _=_;rw[h'.all,qQ]
 rw[e0];unfold Kx;by_cases hz:es=[]
 .subst hz;refine⟨_,_,rfl,Ext.row m [],⟨rfl,λi r hr=>by simp at hr,?_,λB hB=>by cases hB;show m.n<_;rw[wL];omega⟩,λB hB=>by cases hB;exact⟨qh8 _,Arr.row m []⟩,λh=>absurd rfl h⟩;show loads (newRow m []) _ (0*e)=_;rw[Nat.zero_mul,(Arr.row m []).loads (by simp)];rfl
 .have hpos:=List.length_pos_iff.2 hz;have h1:Nat.ble (0+es.length) 0=false:=by
   cases q:Nat.ble (0+es.length) 0 with
   | false=>rfl
   | true=>have:=qhe q;omega
  rw[h1,cond_false,Nat.zero_add,qhd hb,qhd hn];show ∃v' m',ob (kU (newRow m []) e 0 (.slice (some ⟨m.n,0,some (code e true)⟩) 0 0)) _=_/\_;have h2:kU (newRow m []) e 0 (.slice (some ⟨m.n,0,some (code e true)⟩) 0 0)=some []:=by
   show loads (newRow m []) _ (0*e)=_;rw[Nat.zero_mul,(Arr.row m []).loads (by simp)];rfl
  rw[h2];have hx:vA (code e true)=true:=by
   show Nat.beq ((2*e+1)%2) 1=true;rw[show (2*e+1)%2=1 by omega];rfl
  have hg:WN (newRow m []) e es.length (some ⟨m.n,0,some (code e true)⟩) ([]++es.flatMap f)=some (.slice (some ⟨m.n+1,0,some (code e false)⟩) es.length es.length,newRow (newRow m []) (es.flatMap f)):=by
   unfold WN;show ob (some (code e true)) _=_;rw[qQ,hx,cond_true,wL];rfl
  have hA:Arr (newRow (newRow m []) (es.flatMap f)) (m.n+1) (es.flatMap f):=by have:=Arr.row (newRow m []) (es.flatMap f);rwa [wL]at this
  refine⟨_,_,hg,(Ext.row m []).trans (Ext.row _ _),?_,λB hB=>by cases hB;exact⟨Nat.le_succ _,hA⟩,λ_=>rfl⟩;have hG:Grown m (newRow (newRow m []) (es.flatMap f)) (.slice (some ⟨m.n+1,0,some (code e false)⟩) es.length es.length) e f es:=.inr ⟨m.n+1,by omega,by rw[wL,wL];omega,hz,rfl,hA⟩;exact hG.rd hf
@[simp] theorem eqNV_ap (n:Bool) (q:Value->Option Bool) (h:Bool) (x y:Value):eqNV n q h x y=ob (eqN q h x y) λb=>some (.bool (bif n then !b else b)):=_root_.id rfl
theorem Jd {v:Value}{n:Int}(h:wB v=some (.int .i64 n)):eqN Zb true v (.slice none 0 0)=some (match v with | .slice none _ _=>true | _=>false):=by
 cases v with
 | slice a n c=>cases a<;>rfl
 | _=>cases h
end
noncomputable section
abbrev RmR (c:SC)(pre:List IS)(nt:Nat)(p:RmP)(a:SC):Prop:=∀(x:Ex) (kn:K) (ke:Nat->K) (kr:K) (t:Tm) (m:M),c x kn ke kr t m=yQ pre x (rmGo nt p a x kn ke kr) t m
theorem qg4 {c:SC}{p:RmP}{nt:Nat}{a:SC}{pre:List IS}(h:c=sRm nt p a)(hp:p.pre=pre):RmR c pre nt p a:=by subst h;subst hp;exact λ_ _ _ _ _ _=>rfl
abbrev RdR (p:RmP)(c:SC)(asn:List IS)(nx mo pr nxt:Nat):Prop:=∀(x:Ex) (m:M) (k v:Value) (t:Tm),kA p c x m (k,v) t=yQ asn x (c x GD (gz nxt GD qb8) retK) (Tm.set pr (.tuple #[k,v]) (Tm.set mo (.bool true) (Tm.set nx zA t))) m
theorem qfu {p:RmP}{c:SC}{asn:List IS}{nx mo pr nxt:Nat}(h1:p.asn=asn)(h2:p.nx=nx)(h3:p.mo=mo)(h4:p.pr=pr)(h5:p.nxt=nxt):RdR p c asn nx mo pr nxt:=by subst h1 h2 h3 h4 h5;exact λ_ _ _ _ _=>rfl
def RmE (R:Option E->Tm->M->Prop):Option Out->Prop:=λo=>∃e t m,o=some ⟨e,t,m⟩/\R e t m
theorem qd5 {R:Option E->Tm->M->Prop}{t:Tm}{m:M}(h:R none t m):RmE R (GD t m):=⟨_,_,_,rfl,h⟩
theorem qg2 {m:M}{B:Nat}{es:List (Value × Value)}(h:m.obj B=some (.map es))(hi:∀p∈es,isInt p.1=true):Bv (.map (some B)) m=some es:=by
 show ob (dm (m.obj B)) _=_;rw[h];show (bif es.all (λp=>isInt p.1) then some es else none)=_
 rw[List.all_eq_true.2 hi];rfl
theorem rm_run {nt:Nat}{p:RmP}{c:SC}{x:Ex}{kn kr:K}{ke:Nat->K}{t:Tm}{m:M}{Q:Option Out->Prop}{es:List (Value × Value)}(hnt:nt<=512)(hes:Bv (p.o t) m=some es)(e:Option E)(m1:M)(L:List (Nat × Value))
  (I:List Nat->Tm->Prop) (h0:I [] (Tm.set p.it zA t))
  (hround:∀seen t j k v,es[j]?=some (k,v)->j ∉ seen->I seen t->RmE (λe' t' m'=>(e'=none/\m'=m/\I (j::seen) t')\/(e'=e/\e'≠none/\m'=m1/\∀q∈L,Tm.get q.1 t'=q.2)) (kA p c x m (k,v) t))
  (hdone:∀seen t,(∀j,j<es.length->j∈seen)->I seen t->e=none/\m1=m/\∀q∈L,Tm.get q.1 t=q.2)
  (hL:∀q∈L,q.1<nt/\q.1≠p.nx/\q.1≠p.mo) (hnx:p.nx<512) (hmo:p.mo<512)
  (hk:∀t',(∀q∈L,Tm.get q.1 t'=q.2)->Q (vb kn (gz p.out kn ke) kr e t' m1)):Q (rmGo nt p c x kn ke kr t m):=by
 have key:∀seen t o,RmOut (kA p c x m) es m seen t o->I seen t->∃t',o=some ⟨e,t',m1⟩/\∀q∈L,Tm.get q.1 t'=q.2:=by
  intro seen t o h
  induction h with
  | done seen t h =>
   intro hI;obtain⟨h1,h2,h3⟩:=hdone seen t h hI;exact⟨t,by rw[h1,h2],h3⟩
  | stuck seen t j kv hj hs h =>
   intro hI;obtain⟨_,_,_,h1,_⟩:=hround seen t j kv.1 kv.2 hj hs hI;rw[show ((kv.1,kv.2):Value × Value)=kv from rfl,h]at h1;cases h1
  | moved seen t j kv t' m' hj hs h hm =>
   intro hI;obtain⟨_,_,_,h1,h2⟩:=hround seen t j kv.1 kv.2 hj hs hI;rw[show ((kv.1,kv.2):Value × Value)=kv from rfl,h]at h1;cases h1;rcases h2 with ⟨_,h2,_⟩ | ⟨_,h2,_⟩
   .exact absurd h2 hm
   .exact absurd rfl h2
  | leave seen t j kv e0 t' m' hj hs h =>
   intro hI;obtain⟨_,_,_,h1,h2⟩:=hround seen t j kv.1 kv.2 hj hs hI;rw[show ((kv.1,kv.2):Value × Value)=kv from rfl,h]at h1;cases h1;rcases h2 with ⟨h2,_⟩ | ⟨h2,_,h3,h4⟩
   .cases h2
   .exact⟨t',by rw[h2,h3],h4⟩
  | next seen t j kv t' o hj hs h hn ih =>
   intro hI;obtain⟨_,_,_,h1,h2⟩:=hround seen t j kv.1 kv.2 hj hs hI;rw[show ((kv.1,kv.2):Value × Value)=kv from rfl,h]at h1;cases h1;rcases h2 with ⟨_,_,h2⟩ | ⟨_,h2,_⟩
   .exact ih h2
   .exact absurd rfl h2
 obtain⟨o0,ho0⟩:=RmOut.exists (rd:=kA p c x m) (es:=es) (m:=m) _ [] (Tm.set p.it zA t) (qh8 _);have hg:gP (kA p c x m) es m (Tm.set p.it zA t) e m1:=λo ho=>let ⟨t',h,_⟩:=key _ _ _ ho h0;⟨t',h⟩;have hx:∃p1:Option E × M,gP (kA p c x m) es m (Tm.set p.it zA t) p1.1 p1.2:=⟨(e,m1),hg⟩;obtain⟨t0,ht0,hl0⟩:=key _ _ _ ho0 h0;subst ht0;have hres:Km nt (kA p c x m) es m (Tm.set p.it zA t)=some ⟨e,star nt λt'=>RmOut (kA p c x m) es m [] (Tm.set p.it zA t) (some ⟨e,t',m1⟩),m1⟩:=by
  rw[Xh];unfold bI;rw[dif_pos hx];obtain⟨t2,h2⟩:=hx.choose_spec _ ho0;have e1:hx.choose.1=e:=by cases h2;rfl
  have e2:hx.choose.2=m1:=by cases h2;rfl
  rw[e1,e2]
 have he:rmGo nt p c x kn ke kr t m=rmEnd p kn ke kr ⟨e,star nt λt'=>RmOut (kA p c x m) es m [] (Tm.set p.it zA t) (some ⟨e,t',m1⟩),m1⟩:=by
  show ob (Bv (p.o t) m) _=_;rw[hes];show ob (Km nt (kA p c x m) es m (Tm.set p.it zA t)) _=_;rw[hres];rfl
 rw[he];refine hk _ λq hq=>?_;obtain⟨q1,q2,q3⟩:=hL q hq;rw[Tm.get_set_ne (by omega) hmo q3,Tm.get_set_ne (by omega) hnx q2,Xm hnt q1];refine qdj (t:=t0) ho0 λt' ht'=>?_;obtain⟨t2,h2,h3⟩:=key _ _ _ ht' h0;cases h2;exact h3 q hq
end
end Go.Dx
namespace Go.Dx
open Go.RowKit Go.WideShapes Go.ChangeShapes
noncomputable section
attribute [local irreducible] A.get A.set HI
def snapC (fz:Nat × Nat):Nat->List Value->C->C
 | _,[],c=>c
 | j,v::l,c=>snapC fz (j+1) l (match v with
  | .int k n=>if fz.1<=j/\j<fz.2 then c else A.set none (some (.int k n)) (j+HI) c
  | _=>c)
def snapO:Obj->DObj
 | .cells cs _ fz=>.cells (snapC fz 0 cs.toList .lf)
 | _=>.cells .lf
def vq (l:List DObj)(m:M):M:=l.foldl M.alloc m
def km (w:World):Phi:=λB=>match w.heap[B]? with
 | some (.cells cs _ _)=>some ⟨B,HI,cs.size⟩
 | _=>none
theorem fE:∀(l:List DObj) (m:M),(vq l m).n=m.n+l.length/\(vq l m).base=m.base/\(vq l m).log=m.log/\∀X,(vq l m).obj X=if m.n<=X/\X<m.n+l.length then l[X-m.n]? else m.obj X
 | [],m=>⟨rfl,rfl,rfl,λX=>by rw[qhy (by simp)];rfl⟩
 | o::l,m=>by
  obtain⟨h1,h2,h3,h4⟩:=fE l (m.alloc o);rw[M.n_alloc]at h1 h4;refine⟨by show (vq l (m.alloc o)).n=_;rw[h1];simp;omega,h2.trans (M.base_alloc _ _),h3.trans (M.log_alloc _ _),λX=>?_⟩;show (vq l (m.alloc o)).obj X=_;rw[h4 X];by_cases e:X=m.n
  .subst e;rw[qhy (by omega),qhz (by simp),M.obj_alloc,qhz rfl];simp
  .by_cases h:m.n+1<=X/\X<m.n+1+l.length
   .rw[qhz h,qhz (by simp;omega),show X-m.n=(X-(m.n+1))+1 by omega,List.getElem?_cons_succ]
   .rw[qhy h,qhy (by simp;omega),M.obj_alloc,qhy e]
theorem Jx {m:M}{B:Nat}{s:Option Nat}:∀(l:List Value) (o:Nat),l≠[]->(∀j,j<l.length->load1 m ⟨B,o+j,s⟩=l[j]?)->loads m ⟨B,o,s⟩ l.length=some l:=by
 intro l o hne h;have h0:=h 0 (List.length_pos_iff.2 hne);unfold load1 at h0;cases hc:cellsOf m B with
 | none =>
  simp only[hc]at h0;have:l[0]?=none:=h0.symm;rw[List.getElem?_eq_none_iff]at this;exact absurd (List.length_eq_zero_iff.1 (by omega)) hne
 | some c =>
  have hg:∀j,j<l.length->A.get none (o+j) c=l[j]?:=λj hj=>by
   have:=h j hj;unfold load1 at this;simp only[hc]at this;exact this
  unfold loads;simp only[hc];show ldn c o l.length=some l;have key:∀(l:List Value) (o:Nat),(∀j,j<l.length->A.get none (o+j) c=l[j]?)->ldn c o l.length=some l:=by
   intro l
   induction l with
   | nil=>intro o _;rfl
   | cons x l ih =>
    intro o hg;rw[List.length_cons,vg];have h0:=hg 0 (by simp);rw[Nat.add_zero]at h0;rw[h0,ih (o+1) (λj hj=>by have:=hg (j+1) (by simp;omega);rw[show o+(j+1)=o+1+j by omega]at this;rw[this,List.getElem?_cons_succ])];rfl
  exact key l o hg
section
variable {H:Type}{enc:TypeId × Value->H}{P:Program}{w:World}
end
end
end Go.Dx
namespace Go.Dx
open Go.RowKit Go.WideShapes Go.ChangeShapes
theorem QS {P:Program}{w:World}{r:Reach}{b0:Nat}{u e:TypeId}{a:Addr}{l c:Nat}(hu:P.underlying u=some (.slice e))(h:Cell.okWide P w r b0 u (.slice (some a) l c)):a.spot=none/\∃cs e fz,w.heap[a.block]?=some (.cells cs e fz):=by
 simp only[Cell.okWide,hu,Cell.ok]at h;obtain⟨_,_,_,h2,row,cells,h3,_⟩:=h;refine⟨h2,?_⟩;unfold World.shape? at h3;split at h3
 .exact⟨_,_,_,by assumption⟩
 .cases h3
end Go.Dx
namespace Go.Sx
open Go.Dx
noncomputable section
abbrev mv (d s:Nat):IS:=ip d (QM (tg s))
abbrev mc (d:Nat)(v:Value):IS:=ip d (QM (cv v))
abbrev fa (d o s:Nat):IS:=ip d (bD o (tg s))
abbrev ia (d e x i:Nat):IS:=ip d (zV e (tg x) (tg i))
abbrev l1 (d s:Nat):IS:=il d (tg s) (vX (tg s))
abbrev ln (d n s:Nat):IS:=il d (tg s) (fh n (tg s))
abbrev bt (d:Nat)(o:BinOp)(a b:Nat):IS:=ip d (dp o (tg a) (tg b))
abbrev bv (d:Nat)(o:BinOp)(a:Nat)(v:Value):IS:=ip d (dp o (tg a) (cv v))
abbrev sto (n a b:Nat):IS:=im0 3 (ki n (tg a) (tg b))
abbrev lne (d s:Nat):IS:=ip d (vE (tg s))
abbrev pkt (d a b:Nat):IS:=ip d (wx (tg a) (cv (.bool true)) (tg b))
abbrev pkf (d a b:Nat):IS:=ip d (wx (tg a) (tg b) (cv (.bool false)))
abbrev gf (g d:Nat)(s:IS):IS:=gd g false (some d) s
abbrev gt (g d:Nat)(s:IS):IS:=gd g true (some d) s
abbrev xt (d s i:Nat):IS:=ip d (xp (tg s) i)
abbrev rg (l:List IS):SC:=sReg (yQ l)
abbrev kP (p:PO):CI:=CI.pure p
abbrev kM (s:Nat):CI:=CI.pure (QM (tg s))
abbrev kF (o s:Nat):CI:=CI.pure (bD o (tg s))
abbrev kI (e x i:Nat):CI:=CI.pure (zV e (tg x) (tg i))
abbrev kK (s:Nat):CI:=CI.pure (qC (tg s))
abbrev kL (s:Nat):CI:=CI.load (tg s) (vX (tg s))
abbrev kN (n s:Nat):CI:=CI.load (tg s) (fh n (tg s))
abbrev kB (o:BinOp)(a b:Nat):CI:=CI.pure (dp o (tg a) (tg b))
abbrev kV (o:BinOp)(a:Nat)(v:Value):CI:=CI.pure (dp o (tg a) (cv v))
abbrev wA (c:CI)(d i:Nat):DA:=⟨c,some d,none,i,[]⟩
abbrev wT (c:CI)(d g i:Nat):DA:=⟨c,some d,some (g,true),i,[]⟩
abbrev wF (c:CI)(d g i:Nat):DA:=⟨c,some d,some (g,false),i,[]⟩
abbrev wI (c:CI)(d:Nat)(l:List Nat)(i:Nat):DA:=⟨c,some d,none,i,l⟩
abbrev kS (n a b i:Nat):DA:=⟨CI.mem 3 (ki n (tg a) (tg b)),none,none,i,[]⟩
end
end Go.Sx
