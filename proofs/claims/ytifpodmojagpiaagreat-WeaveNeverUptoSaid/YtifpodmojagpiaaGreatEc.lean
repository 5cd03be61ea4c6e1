/- The evaluator over an abstract heap, third part. -/
import Derived.Test.YtifpodmojagpiaaGreatEb
import Derived.OrdersIn
import Derived.RangeFuncNested
import Derived.LoopNIn
import Derived.Maps.RangeRun
set_option linter.unusedVariables false
set_option linter.unusedSimpArgs false
set_option linter.defProp false
namespace Go.Dx
open Go.RowKit
def Fw (r:Option Nat):Fence:={ Fence.wide with round:=r }
theorem QJ (r:Option Nat)(n:Nat):(Fw r).depth.isSome=true->1<=n:=λh=>by simp[Fw,Fence.wide]at h
def Enters (P : Program) (g : Nat) : Prop := ∃ fn, P.funcs[g]? = some fn ∧ (fn.name == "runtime.NumGoroutine") = false ∧ fn.body.isNone = false
theorem Enters.run {P:Program}{g:Nat}(h:Enters P g)(args:Array Value)(w:World):(callFunc g args).run P w=.ok (.enter g args) w:=by
 obtain⟨fn,h1,h2,h3⟩:=h
 have h2' : fn.name ≠ "runtime.NumGoroutine" := by simpa using h2
 have h3':fn.body≠none:=by intro e;rw[e]at h3;cases h3
 simp[callFunc,h1,h2',h3']
def Back (φ:Phi)(m:M)(w:World)(v:Value)(m':M)(e:Ending)(w':World):Prop:=∃φ' v',e=.returned v'/\R φ' m' w'/\Step φ m w φ' m' w'/\VRel φ' v v'
def BO (P:Program)(g:Nat)(args:List Value)(m:M)(v:Value)(m':M):Prop :=
 ∀φ w (args':Array Value),R φ m w->VRels φ args args'.toList->Free φ m.n m'.n->Calls P g args' w (Back φ m w v m')
def De (P:Program)(L:Nat)(args:List Value)(m:M)(v:Value)(m':M):Prop :=
 ∀r0 n φ w (args':Array Value) l,R φ m w->VRels φ args args'.toList->Free φ m.n m'.n->φ L=some l ->
  ∃r,w.heap[l.b]?=some (.loop r)/\args'.size=r.params.size /\
   RoundIn (Fw r0) n P l.b r.fn ((r.params.zip args').foldl (λtmps (t,a)=>tmps.setIfInBounds t a) r.tmps) r.assign r.body w (Back φ m w v m')
structure jn (P:Program)(x:Ex):Prop where
 f:∀g args m v m',x.f g args m=some (v,m')->DStep m m'/\Enters P g/\BO P g args m v m'
 y:∀L args m v m',x.y L args m=some (v,m')->DStep m m'/\De P L args m v m'
theorem JE {P:Program}{r:Option Nat}{n:Nat}{g:Nat}{args:Array Value}{w:World}{Q:Ending->World->Prop}(h:Calls P g args w Q):CallsIn (Fw r) n P g args w Q :=
 callsIn_wide (n:=n) |>.2 h
def Loud (P:Program)(nt:Nat)(o:Oper)(x:Ex)(f:MO):Prop :=
 ∀t m v m',f x t m=some (v,m')->DStep m m'/\∀r n φ w a next Q,R φ m w->OpR φ nt t a o.op.operands.toList->Free φ m.n m'.n ->
  (∀φ' w' v',Step φ m w φ' m' w'->R φ' m' w'->VRel φ' v v'->next (a.put o.dst v') w')->o.wpIn (Fw r) n P a w next Q
section
variable {P:Program}{nt:Nat}{o:Oper}
theorem kw {r:Option Nat}{n:Nat}{a:Act}{w w':World}{next:Act->World->Prop}{Q:Exit->Act->World->Prop}{v:Value}(hd:∀c,o.op≠.defer c)(h:(execOp a.eval o).run P w=.ok (.value v) w')(hk:next (a.put o.dst v) w') :
  o.wpIn (Fw r) n P a w next Q:=by
 refine⟨λ_ _=>trivial,?_⟩
 rw[Oper.semAt_eq _ _ _ hd,h]
 exact hk
theorem Loud.of_step {x:Ex}{f:MO}(hnd:∀c,o.op≠.defer c)(h:jJ P nt o f)(hd:∀x t m v m',f x t m=some (v,m')->DStep m m'):Loud P nt o x f:=by
 intro t m v m' hf
 refine⟨hd _ _ _ _ _ hf,λr n φ w a next Q hR hr hfree hk=>?_⟩
 obtain⟨φ',w',nx,v',h1,h2,h3,h4,h5⟩:=h x t m v m' hf φ w a hR hr hfree
 refine⟨λ_ _=>trivial,?_⟩
 rw[Oper.semAt_eq _ _ _ hnd,h1]
 rcases h2 with rfl | ⟨rfl,rfl⟩
 .exact hk φ' w' v' h4 h3 h5
 .exact hk φ' w' undef h4 h3 h5
theorem gw {r:Option Nat}{n:Nat}{a:Act}{w:World}{next:Act->World->Prop}{Q:Exit->Act->World->Prop}{g:Nat}{args:Array Value}{R:Ending->World->Prop}(hd:∀c,o.op≠.defer c)
  (h:(execOp a.eval o).run P w=.ok (.enter g args) w) (hc:Calls P g args w R) (hk:∀e w',R e w'->∃v',e=.returned v'/\next (a.put o.dst v') w'):o.wpIn (Fw r) n P a w next Q:=by
 refine⟨λ_ _=>trivial,?_⟩
 rw[Oper.semAt_eq _ _ _ hd,h]
 refine⟨QJ r n,(JE hc).mono λe w' he=>?_⟩
 obtain⟨v',rfl,hv⟩:=hk e w' he
 exact hv
theorem YD {r:Option Nat}{n:Nat}{a:Act}{w:World}{next:Act->World->Prop}{Q:Exit->Act->World->Prop}{l f:Nat}{tmps:Array Value}{as bo:Code}{R:Ending->World->Prop}(hd:∀c,o.op≠.defer c)
  (h:(execOp a.eval o).run P w=.ok (.round l f tmps as bo) w) (hc:RoundIn (Fw r) (n-1) P l f tmps as bo w R) (hk:∀e w',R e w'->∃v',e=.returned v'/\next (a.put o.dst v') w'):o.wpIn (Fw r) n P a w next Q:=by
 refine⟨λ_ _=>trivial,?_⟩
 rw[Oper.semAt_eq _ _ _ hd,h]
 refine⟨QJ r n,hc.mono λe w' he=>?_⟩
 obtain⟨v',rfl,hv⟩:=hk e w' he
 exact hv
theorem vc {c:Call}{y:Operand}(ho:o.op=.call c)(hc:c.callee=.value y):y∈o.op.operands.toList/\∀x∈c.args.toList,x∈o.op.operands.toList:=by
 rw[ho]
 simp only[Op.operands,Call.operands,hc]
 refine⟨by simp,λx hx=>?_⟩
 simp
 exact .inr (by simpa using hx)
theorem Loud.call {x:Ex}(hx:jn P x){c:Call}{g:Nat}{fs:List V}(ho:o.op=.call c)(hc:c.callee=.value (.func g))(hf:zA nt c.args.toList=some fs):Loud P nt o x (ql g fs):=by
 intro t m v m' h
 obtain⟨h1,h2,h3⟩:=hx.f _ _ _ _ _ h
 refine⟨h1,λr n φ w a next Q hR hr hfree hk=>?_⟩
 have hargs:=zO hr hf (vc ho hc).2
 have hrel:VRels φ (evs t fs) (c.args.map a.eval).toList:=by rw[Array.toList_map];exact hargs
 refine gw (λc' e=>by rw[ho]at e;cases e) (g:=g) (args:=c.args.map a.eval) ?_ (h3 φ w _ hR hrel hfree) (λe w' ⟨φ',v',e1,e2,e3,e4⟩=>⟨v',e1,hk φ' w' v' e3 e2 e4⟩)
 simp only[execOp,ho,resolve,hc,Sem.run_bind]
 show Result.andThen ((Deferred.ofValue (.func (.func g) #[] #[]) (c.args.map a.eval)).run P w) _=_
 simp[Deferred.ofValue,invoke,h2.run]
theorem Loud.callv {x:Ex}(hx:jn P x){c:Call}{y:Operand}{g:V}{fs:List V}(ho:o.op=.call c)(hc:c.callee=.value y)(hg:qH nt y=some g)(hf:zA nt c.args.toList=some fs):Loud P nt o x (jq g fs):=by
 intro t m v m' h
 unfold jq vA at h
 split at h
 .rename_i q b e hq
  obtain⟨h1,h2,h3⟩:=hx.f _ _ _ _ _ h
  refine⟨h1,λr n φ w a next Q hR hr hfree hk=>?_⟩
  have hargs:=zO hr hf (vc ho hc).2
  have hy:=qi hg hr (vc ho hc).1
  rw[hq]at hy
  generalize hye:a.eval y=u at hy
  cases hy with
  | fn _ _ b' _ e' hb he =>
   have hrel:VRels φ (b.toList++evs t fs++e.toList) ((b'++c.args.map a.eval)++e').toList:=by
    rw[Array.toList_append,Array.toList_append,Array.toList_map];exact (hb.append hargs).append he
   refine gw (λc' e=>by rw[ho]at e;cases e) (g:=q) (args:=(b'++c.args.map a.eval)++e') ?_ (h3 φ w _ hR hrel hfree) (λe w' ⟨φ',v',e1,e2,e3,e4⟩=>⟨v',e1,hk φ' w' v' e3 e2 e4⟩)
   simp only[execOp,ho,resolve,hc,Sem.run_bind,hye]
   simp[Deferred.ofValue,invoke,h2.run]
 .rename_i l b e hq
  obtain⟨h1,h3⟩:=hx.y _ _ _ _ _ h
  refine⟨h1,λr n φ w a next Q hR hr hfree hk=>?_⟩
  have hargs:=zO hr hf (vc ho hc).2
  have hy:=qi hg hr (vc ho hc).1
  rw[hq]at hy
  generalize hye:a.eval y=u at hy
  cases hy with
  | yield _ L hL =>
   have hrel:VRels φ (evs t fs) (c.args.map a.eval).toList:=by rw[Array.toList_map];exact hargs
   obtain⟨rr,q1,q2,q3⟩:=h3 r (n-1) φ w _ L hR hrel hfree hL
   refine YD (λc' e=>by rw[ho]at e;cases e) ?_ q3 (λe w' ⟨φ',v',e1,e2,e3,e4⟩=>⟨v',e1,hk φ' w' v' e3 e2 e4⟩)
   simp only[execOp,ho,resolve,hc,Sem.run_bind,hye]
   have:=run_yield (P:=P) q1 q2
   simp[Deferred.ofValue,invoke,this]
 .cases h
theorem Kp {c:Call}{y:Operand}{name:String}(ho:o.op=.call c)(hc:c.callee=.invoke y name):y∈o.op.operands.toList/\∀x∈c.args.toList,x∈o.op.operands.toList:=by
 rw[ho]
 simp only[Op.operands,Call.operands,hc]
 refine⟨by simp,λx hx=>?_⟩
 simp
 exact .inr (by simpa using hx)
theorem dT {name:String}{t f:Nat}:∀{l:List Nat},Yz (yA P name l) t=some f->ZE P name t=some f
 | [],h=>by cases h
 | u::l,h=>by
  unfold yA at h
  split at h
  .rename_i g hg
   unfold Yz at h
   cases hb:Nat.beq u t with
   | true=>rw[hb]at h;cases qh0 hb;exact hg.trans h
   | false=>rw[hb]at h;exact dT h
  .exact dT h
theorem VZ {name:String}{t f:Nat}(h:ZE P name t=some f)(v:Value)(k:Nat)(w:World):(method (k+1) t v name).run P w=.ok (f,v) w:=by
 unfold ZE at h
 split at h
 .rename_i e hu
  obtain⟨i,hi,h⟩:=qa h
  obtain⟨m,hm,h⟩:=qa h
  split at h
  .rename_i hp
   have hp':m.path.toList=[]:=by simpa using hp
   split at h
   .rename_i g hg
    cases h
    simp[method,typeInfo,hi,hm,hp',follow,hg,receiverAt,underlying,hu,Place.get]
   .cases h
  .cases h
 .cases h
theorem Loud.invoke {x:Ex}(hx:jn P x){c:Call}{y:Operand}{name:String}{g:V}{fs:List V}(ho:o.op=.call c)(hc:c.callee=.invoke y name)(hg:qH nt y=some g)(hf:zA nt c.args.toList=some fs):Loud P nt o x (zG (ZF P name) g fs):=by
 intro t m v m' h
 unfold zG Qx at h
 split at h
 .rename_i ty rv hq
  obtain⟨q,hq2,h⟩:=qa h
  have hmeth:=dT hq2
  obtain⟨h1,h2,h3⟩:=hx.f _ _ _ _ _ h
  refine⟨h1,λr n φ w a next Q hR hr hfree hk=>?_⟩
  have hargs:=zO hr hf (Kp ho hc).2
  have hy:=qi hg hr (Kp ho hc).1
  rw[hq]at hy
  generalize hye:a.eval y=u at hy
  cases hy with
  | iface _ _ rv' hrv =>
   have hrel:VRels φ (rv::evs t fs) (#[rv']++c.args.map a.eval).toList:=by
    rw[Array.toList_append,Array.toList_map];exact .cons _ _ _ _ hrv hargs
   refine gw (λc' e=>by rw[ho]at e;cases e) (g:=q) (args:=#[rv']++c.args.map a.eval) ?_ (h3 φ w _ hR hrel hfree) (λe w' ⟨φ',v',e1,e2,e3,e4⟩=>⟨v',e1,hk φ' w' v' e3 e2 e4⟩)
   simp only[execOp,ho,resolve,hc,Sem.run_bind,hye]
   have hme:∀w,(method (P.types.size+Made.depth) ty rv' name).run P w=.ok (q,rv') w:=λw=>VZ hmeth rv' (P.types.size+99) w
   have h0:(#[Value.iface ty rv']++c.args.map a.eval)[0]?=some (Value.iface ty rv'):=by
    rw[Array.getElem?_append_left (show 0<(#[Value.iface ty rv']).size from Nat.zero_lt_one)];rfl
   have hx2:(c.args.map a.eval).extract 0 c.args.size=c.args.map a.eval:=by
    have:=Array.extract_size (xs:=c.args.map a.eval)
    rwa [Array.size_map]at this
   simp[Go.invoke,callMethod,h0,hme,hx2,h2.run]
 .cases h
inductive OpK (P:Program) (nt:Nat) (o:Oper) (x:Ex):CI->Prop
 | pure (p:PO) (h:wz P nt o p):OpK P nt o x (CI.pure p)
 | row (f:MO) (h:dX P nt o f):OpK P nt o x (CI.mem 1 f)
 | load (y:V) (f:MO) (h:bK P nt o f (CI.load y f).rd):OpK P nt o x (CI.load y f)
 | loud (ci:CI) (h1:ci.cl=3) (h2:∀t,ci.rd t=none) (h:Loud P nt o x ci.m):OpK P nt o x ci
theorem vB {x:Ex}(hx:jn P x):(∀c,o.op≠.defer c)/\OpK P nt o x (zB P nt o)\/zB P nt o=CI.bad:=by
 unfold zB
 cases h0:cOp P nt o with
 | none=>exact .inr rfl
 | some ci =>
  obtain⟨h1,h2⟩:=Gm h0
  refine .inl ⟨h2,?_⟩
  show OpK P nt o x ci
  cases h1 with
  | pure p h=>exact .pure p h
  | row f h=>exact .row f h
  | load y f h=>exact .load y f h
  | step f h hd=>exact .loud _ rfl (λ_=>rfl) (Loud.of_step h2 h hd)
  | call c g fs ho hc hf=>exact .loud _ rfl (λ_=>rfl) (Loud.call hx ho hc hf)
  | callv c y g fs ho hc hg hf=>exact .loud _ rfl (λ_=>rfl) (Loud.callv hx ho hc hg hf)
  | invoke c y name g fs ho hc hg hf=>exact .loud _ rfl (λ_=>rfl) (Loud.invoke hx ho hc hg hf)
end
end Go.Dx
namespace Go.Dx
open Go.RowKit
theorem Free.sub {φ:Phi}{a b c d:Nat}(h:Free φ a b)(h1:a<=c)(h2:d<=b):Free φ c d:=λB hc hd=>h B (by omega) (by omega)
theorem Free.step {φ φ':Phi}{m m':M}{w w':World}(h:Step φ m w φ' m' w'){b:Nat}(hf:Free φ m.n b):Free φ' m'.n b:=by
 intro B h1 h2
 have:=h.d.n
 rw[h.ext B (.inr h1)]
 exact hf B (by omega) h2
noncomputable def Wa (ci:CI):MO:=bif Nat.beq ci.cl 0 then λ_ t m=>ob (ci.p t) λv=>some (v,m) else ci.m
theorem qf5 (ci:CI)(d:Option Nat)(x:Ex)(k:K)(t:Tm)(m:M):XI ci d x k t m=obp (Wa ci x t m) λv m'=>k (putD t d v) m':=by
 unfold XI Wa
 cases hc:Nat.beq ci.cl 0 with
 | true =>
  simp only[cond_true]
  cases d with
  | none =>
   show ob (ci.p t) _=obp (ob (ci.p t) _) _
   cases ci.p t<;>rfl
  | some d =>
   show ob (ci.p t) _=obp (ob (ci.p t) _) _
   cases ci.p t<;>rfl
 | false =>
  simp only[cond_false]
  cases d<;>rfl
section
variable {P:Program}{nt:Nat}{o:Oper}{x:Ex}
theorem OpK.loudly {ci:CI}(hnd:∀c,o.op≠.defer c)(h:OpK P nt o x ci):Loud P nt o x (Wa ci):=by
 cases h with
 | pure p h =>
  intro t m v m' hf
  obtain⟨u,hu,hf⟩:=qa (show ob (p t) (λv=>some (v,m))=some (v,m') from hf)
  cases hf
  refine⟨DStep.refl _,λr n φ w a next Q hR hr hfree hk=>?_⟩
  obtain⟨v',h1,h2⟩:=h t v hu φ w a hr
  exact kw hnd h1 (hk φ w v' (Step.refl _ _ _) hR h2)
 | row f h =>
  intro t m v m' hf
  obtain⟨l,hm,hind,hrun⟩:=h x t m v m' hf
  subst hm
  refine⟨DStep.alloc _ _,λr n φ w a next Q hR hr hfree hk=>?_⟩
  obtain⟨d,cs,e,fz,v',h1,h2,h3,h4⟩:=hrun φ w a hr
  have hfm:φ m.n=none:=hfree m.n (qgq _) (by unfold newRow;rw[M.n_alloc];omega)
  obtain⟨φ',k1,k2,k3⟩:=hR.rowTo hfm h2 h3 d
  exact kw hnd h1 (hk φ' _ v' k3 k2 (h4 φ' k3.le k1))
 | load y f h =>
  intro t m v m' hf
  obtain⟨hm,B,hB,hind,hrun⟩:=h x t m v m' hf
  subst hm
  refine⟨DStep.refl _,λr n φ w a next Q hR hr hfree hk=>?_⟩
  obtain⟨v',h1,h2⟩:=hrun φ w a hr (λl ob hl hob=>by
   obtain⟨ob',h3,h4⟩:=hR.obj B l (hR.lt hob) hl
   rw[hob]at h3;cases h3;exact h4)
  exact kw hnd h1 (hk φ w v' (Step.refl _ _ _) hR h2)
 | loud _ h1 h2 h =>
  have:Wa ci=ci.m:=by unfold Wa;rw[h1];rfl
  rw[this];exact h
theorem bS {ops:Array Oper}{g':Option (Nat × Bool)}(hg:xf nt ops o.guard=some g'){φ:Phi}{t:Tm}{a:Act}(hs:a.tmps.size=nt)
  (hr:∀p b,g'=some (p,b)->VRel φ (Tm.get p t) (a.tmps.getD p undef)) {c:Bool} (hc:xN t g'=some c):Region.wanted o (yielded ops a.tmps)=c:=by
 unfold Region.wanted
 cases hgd:o.guard with
 | none =>
  rw[hgd]at hg;cases hg;cases hc;rfl
 | some kb =>
  obtain⟨k,b⟩:=kb
  rw[hgd]at hg
  unfold xf at hg
  obtain⟨p,hp,hg⟩:=qa hg
  split at hg
  .rename_i hlt
   cases hg
   have hv:=hr p b rfl
   have hget:a.tmps[p]?=some (a.tmps.getD p undef):=by
    have:p<a.tmps.size:=by rw[hs];exact hlt
    simp[this]
   simp only[yielded,hp,Option.bind_some,hget]
   unfold xN isB at hc
   simp only at hc
   revert hv hc
   generalize Tm.get p t=u
   generalize a.tmps.getD p undef=u'
   intro hc hv
   cases hv<;>dsimp only at hc ⊢<;>cases hc
   all_goals first | rfl | skip
   rename_i c
   cases b<;>cases c<;>rfl
  .cases hg
theorem TR.putD {φ:Phi}{t:Tm}{a:Act}(h:TR φ nt t a.tmps){d:Option Nat}(hd:vb nt o.dst=some d){v v':Value}(hv:VRel φ v v'):TR φ nt (putD t d v) (a.put o.dst v').tmps:=by
 unfold vb at hd
 cases hdst:o.dst with
 | none=>rw[hdst]at hd;cases hd;exact h
 | some p =>
  rw[hdst]at hd
  simp only at hd
  split at hd
  .rename_i hlt;cases hd;exact h.set hlt hv
  .cases hd
theorem put_defers (a:Act)(d:Option Tmp)(v:Value):(a.put d v).defers=a.defers:=by cases d<;>rfl
structure KA (ops:Array Oper)(a a':Act):Prop where
 df:a'.defers=a.defers
 tm:∀i,(∀o∈ops.toList,o.dst≠some i)->a'.tmps.getD i undef=a.tmps.getD i undef
theorem KA.refl (ops:Array Oper)(a:Act):KA ops a a:=⟨rfl,λ_ _=>rfl⟩
theorem KA.trans {ops:Array Oper}{a b c:Act}(h:KA ops a b)(k:KA ops b c):KA ops a c:=⟨k.df.trans h.df,λi hi=>(k.tm i hi).trans (h.tm i hi)⟩
theorem fg (a:Act){q:Option Tmp}{y:Tmp}(v:Value)(h:q≠some y):(a.put q v).tmps.getD y undef=a.tmps.getD y undef:=by
 cases q with
 | none=>rfl
 | some d =>
  have e:d≠y:=λe=>h (by rw[e])
  simp[Act.put,Array.getElem?_setIfInBounds_ne e]
theorem KA.put {ops:Array Oper}{o:Oper}{i:Nat}(h:ops[i]?=some o)(a:Act)(v:Value):KA ops a (a.put o.dst v) :=
 ⟨put_defers _ _ _,λy hy=>fg a v (hy o (by
  have:ops.toList[i]?=some o:=by simpa using h
  exact qgo this))⟩
theorem QG (hx:jn P x){ops:Array Oper}:∀(l:List Oper) (i:Nat) (iss:List IS),(∃z,ops.toList.drop i=l++z)->gG P nt ops l=some iss->∀(k:K) (t:Tm) (m:M) (out:Out),Kb iss x k t m=some out ->
  ∃t' m',k t' m'=some out/\DStep m m'/\∀r n φ w a Q js,R φ m w->TR φ nt t a.tmps->Free φ m.n m'.n ->
   (∀φ' w' a',Step φ m w φ' m' w'->R φ' m' w'->TR φ' nt t' a'.tmps->KA ops a a'->wpOpsIn (Fw r) n P ops Q js a' w')->wpOpsIn (Fw r) n P ops Q (List.range' i l.length++js) a w
 | [],i,iss,hl,hc,k,t,m,out,h=>by
  cases hc
  exact⟨t,m,h,DStep.refl _,λr n φ w a Q js hR hT hF hk=>hk φ w a (Step.refl _ _ _) hR hT (KA.refl _ _)⟩
 | o::l,i,iss,hl,hc,k,t,m,out,h=>by
  rw[gG]at hc
  obtain⟨g,hg,hc⟩:=qa hc
  obtain⟨d,hd,hc⟩:=qa hc
  obtain⟨r0,hr0,hc⟩:=qa hc
  cases hc
  obtain⟨z,hl⟩:=hl
  have hoi:ops[i]?=some o:=by
   have:(ops.toList.drop i)[0]?=some o:=by rw[hl];rfl
   rw[List.getElem?_drop]at this
   simpa using this
  have hl':∃z,ops.toList.drop (i+1)=l++z:=by
   refine⟨z,?_⟩
   have:=congrArg (List.drop 1) hl
   rw[List.drop_drop]at this
   simpa [Nat.add_comm]using this
  have hrange:∀js:List Nat,List.range' i (o::l).length++js=i::(List.range' (i+1) l.length++js):=by simp[List.range'_succ]
  have ran:∀(h:XI (zB P nt o) d x (Kb r0 x k) t m=some out),∃t' m',k t' m'=some out/\DStep m m'/\∀r n φ w a Q js,Region.wanted o (yielded ops a.tmps)=true->R φ m w->TR φ nt t a.tmps->Free φ m.n m'.n ->
    (∀φ' w' a',Step φ m w φ' m' w'->R φ' m' w'->TR φ' nt t' a'.tmps->KA ops a a'->wpOpsIn (Fw r) n P ops Q js a' w')->wpOpsIn (Fw r) n P ops Q (List.range' i (o::l).length++js) a w:=by
   intro h
   rw[qf5]at h
   obtain⟨v,m1,he,h⟩:=ky h
   rcases vB (nt:=nt) (o:=o) hx with ⟨hnd,hK⟩ | hbad
   .obtain⟨e1,e2⟩:=hK.loudly hnd t m v m1 he
    obtain⟨t',m',q1,q2,q3⟩:=QG hx l (i+1) r0 hl' hr0 k _ m1 out h
    refine⟨t',m',q1,e1.trans q2,λr n φ w a Q js hw hR hT hF hk=>?_⟩
    rw[hrange]
    simp only[wpOpsIn,hoi,hw,if_true]
    refine e2 r n φ w a _ Q hR (hT.opR _) (hF.sub (qgq _) q2.n) (λφ' w' v' s1 s2 s3=>?_)
    refine q3 r n φ' w' _ Q js s2 ((hT.mono s1.le).putD hd s3) (Free.step s1 hF) (λφ'' w'' a'' s4 s5 s6 s7=>hk φ'' w'' a'' (s1.trans s4) s5 s6 ((KA.put hoi _ _).trans s7))
   .rw[hbad]at he;cases he
  cases hgc:g with
  | none =>
   rw[hgc]at h
   obtain⟨t',m',q1,q2,q3⟩:=ran h
   refine⟨t',m',q1,q2,λr n φ w a Q js hR hT hF hk=>q3 r n φ w a Q js ?_ hR hT hF hk⟩
   exact bS hg (φ:=φ) (t:=t) hT.size (λp b e=>by rw[hgc]at e;cases e) (by rw[hgc];rfl)
  | some gb =>
   obtain⟨p,b⟩:=gb
   rw[hgc]at h
   obtain⟨c,hcb,h⟩:=qa (show ob (isB b (Tm.get p t)) _=some out from h)
   have hp:p<nt:=by
    unfold xf at hg
    split at hg
    .cases hg;cases hgc
    .obtain⟨p',hp',hg⟩:=qa hg
     split at hg
     .rename_i hlt;cases hg;cases hgc;exact hlt
     .cases hg
   have hwant:∀(φ:Phi) (a:Act),TR φ nt t a.tmps->Region.wanted o (yielded ops a.tmps)=c:=λφ a hT =>
    bS hg (φ:=φ) (t:=t) hT.size (λp' b' e=>by rw[hgc]at e;cases e;exact hT.rel p hp) (by rw[hgc];exact hcb)
   cases c with
   | true =>
    obtain⟨t',m',q1,q2,q3⟩:=ran h
    exact⟨t',m',q1,q2,λr n φ w a Q js hR hT hF hk=>q3 r n φ w a Q js (hwant φ a hT) hR hT hF hk⟩
   | false =>
    obtain⟨t',m',q1,q2,q3⟩:=QG hx l (i+1) r0 hl' hr0 k _ m out h
    refine⟨t',m',q1,q2,λr n φ w a Q js hR hT hF hk=>?_⟩
    rw[hrange]
    have hw:=hwant φ a hT
    simp only[wpOpsIn,hoi,hw,Bool.false_eq_true,if_false]
    refine⟨λ_ _=>trivial,q3 r n φ w _ Q js hR (hT.putD hd (xc φ)) hF (λφ'' w'' a'' s4 s5 s6 s7=>hk φ'' w'' a'' s4 s5 s6 ((KA.put hoi _ _).trans s7))⟩
theorem seq_ok (hx:jn P x){ops:Array Oper}(l:List Oper)(i:Nat)(iss:List IS)(hl:ops.toList.drop i=l)(hc:gG P nt ops l=some iss)(k:K)(t:Tm)(m:M)(out:Out)(h:Kb iss x k t m=some out) :
  ∃t' m',k t' m'=some out/\DStep m m'/\∀r n φ w a Q,R φ m w->TR φ nt t a.tmps->Free φ m.n m'.n ->
   (∀φ' w' a',Step φ m w φ' m' w'->R φ' m' w'->TR φ' nt t' a'.tmps->KA ops a a'->Q .normal a' w')->wpOpsIn (Fw r) n P ops Q (List.range' i l.length) a w:=by
 obtain⟨t',m',h1,h2,h3⟩:=QG hx l i iss ⟨[],by rw[List.append_nil];exact hl⟩ hc k t m out h
 refine⟨t',m',h1,h2,λr n φ w a Q hR hT hF hk=>?_⟩
 have:=h3 r n φ w a Q [] hR hT hF hk
 rwa [List.append_nil]at this
end
end Go.Dx
namespace Go.Dx
open Go.RowKit
theorem dF {bs X:Nat}:∀{l wl:List Nat},X∈wl->X∈notes bs wl l
 | [],_,h=>h
 | _::l,_,h=>dF (l:=l) (Xg h)
theorem dE {bs X:Nat}(hb:X<bs):∀{l wl:List Nat},X∈l->X∈notes bs wl l
 | B::l,wl,h=>by
  rcases List.mem_cons.1 h with h | h
  .subst h;exact dF (l:=l) (KJ hb)
  .exact dE (l:=l) hb h
theorem KK {bs X:Nat}:∀{l wl:List Nat},X∈notes bs wl l->X ∉ l->X∈wl
 | [],_,h,_=>h
 | B::l,wl,h,hn=>by
  have h1:X≠B:=λe=>hn (by rw[e];simp)
  have h2:X ∉ l:=λe=>hn (by simp[e])
  exact (bc (KK (l:=l) h h2)).resolve_left h1
section
variable (m m':M)
theorem qm (B:Nat):(qc m).obj B=m.obj B:=by cases m;rfl
theorem qt:(qc m).n=m.n:=by cases m;rfl
theorem wW:(qc m).base=m.n:=by cases m;rfl
theorem wh:(qc m).log=[]:=by cases m;rfl
theorem qx (B:Nat):(behind m m').obj B=m'.obj B:=by cases m;cases m';rfl
theorem wb:(behind m m').n=m'.n:=by cases m;cases m';rfl
theorem kj:(behind m m').base=m.base:=by cases m;cases m';rfl
theorem km:(behind m m').log=notes m.base m.log m'.log:=by cases m;cases m';rfl
end
theorem bL {m m1:M}(h:DStep (qc m) m1){B:Nat}(hB:B<m.n):Wr m1 B ↔ B∈m1.log:=by
 unfold Wr
 rw[h.base,wW]
 constructor
 .rintro (h | h)
  .omega
  .exact h
 .exact .inr
theorem wN {m m':M}{B:Nat}(h:m'.obj B=m.obj B):dead m' B ↔ dead m B:=by unfold dead;rw[h]
theorem DStep.behind {m m1:M}(h:DStep (qc m) m1):DStep m (behind m m1) where
 n:=by rw[wb,<-qt m];exact h.n
 base:=kj m m1
 log B hB:=by rw[km];exact dF hB
 same B hB hw:=by
  rw[qx,h.same B (by rw[qt];exact hB) (λe=>?_),qm]
  have e:=(bL h hB).1 e
  refine hw ?_
  unfold Wr
  rw[kj,km]
  rcases Nat.lt_or_ge B m.base with h1 | h1
  .exact .inr (dE h1 e)
  .exact .inl h1
 dead B hB hd:=by
  rw[wN (qx m m1 B)]
  exact h.dead B (by rw[qt];exact hB) ((wN (qm m B)).2 hd)
 kind B hB:=by rw[qx,h.kind B (by rw[qt];exact hB),qm]
 wf hw B hB:=by
  rw[wb]at hB
  rw[qx]
  exact h.wf (λB hB=>by rw[qt]at hB;rw[qm];exact hw B hB) B hB
def Closed (ops:Array Oper)(S:Nat->Bool):Prop:=∀(j:Nat) (o:Oper),ops[j]?=some o->S j=true->∀e∈o.after.toList,Region.binds .any e=true->S e.on=true
theorem KG (acc:List Nat)(i:Nat):∀(l:List Edge) (s:Nat),(l.foldl (λs e=>if Region.binds .any e then s|||2^e.on|||acc.getD e.on 0 else s) s).testBit i=true ->
  s.testBit i=true\/∃e∈l,Region.binds .any e=true/\(i=e.on\/(acc.getD e.on 0).testBit i=true)
 | [],s,h=>.inl h
 | e::l,s,h=>by
  rw[List.foldl_cons]at h
  rcases KG acc i l _ h with h | ⟨e',he,hb,h⟩
  .split at h
   .rename_i hb
    rw[Nat.testBit_or,Nat.testBit_or]at h
    simp only[Bool.or_eq_true]at h
    rcases h with (h | h) | h
    .exact .inl h
    .rw[Nat.testBit_two_pow]at h
     exact .inr ⟨e,by simp,hb,.inl (by simpa using (of_decide_eq_true h).symm)⟩
    .exact .inr ⟨e,by simp,hb,.inr h⟩
   .exact .inl h
  .exact .inr ⟨e',by simp[he],hb,h⟩
theorem qb4 {acc:List Nat}{o:Oper}{i:Nat}(h:(Xf acc o).testBit i=true):∃e∈o.after.toList,Region.binds .any e=true/\(i=e.on\/(acc.getD e.on 0).testBit i=true):=by
 unfold Xf at h
 rcases KG acc i _ _ h with h | h
 .simp at h
 .exact h
theorem ba:∀(l:List Oper) (acc:List Nat),∃r,zP acc l=acc++r
 | [],acc=>⟨[],by simp[zP]⟩
 | o::l,acc=>by
  obtain⟨r,hr⟩:=ba l (acc++[Xf acc o])
  exact⟨Xf acc o::r,by rw[zP,hr];simp⟩
theorem KH:∀(l:List Oper) (acc:List Nat) (j:Nat) (o:Oper),l[j]?=some o->(zP acc l).getD (acc.length+j) 0=Xf ((zP acc l).take (acc.length+j)) o
 | [],_,_,_,h=>by simp at h
 | o'::l,acc,j,o,h=>by
  cases j with
  | zero =>
   simp at h;subst h
   rw[zP]
   obtain⟨r,hr⟩:=ba l (acc++[Xf acc o'])
   rw[hr]
   simp
  | succ j =>
   have:=KH l (acc++[Xf acc o']) j o (by simpa using h)
   rw[zP]
   simp only[qgx,List.length_cons,List.length_nil]at this
   rw[show acc.length+(j+1)=acc.length+(0+1)+j by omega]
   exact this
theorem Do {l:List Oper}{i j:Nat}{o:Oper}(ho:l[j]?=some o)(h:((zP [] l).getD j 0).testBit i=true) :
  ∃e∈o.after.toList,Region.binds .any e=true/\(i=e.on\/e.on<j/\((zP [] l).getD e.on 0).testBit i=true):=by
 have:=KH l [] j o ho
 simp only[List.length_nil,Nat.zero_add]at this
 rw[this]at h
 obtain⟨e,he,hb,h⟩:=qb4 h
 refine⟨e,he,hb,h.imp id λh=>?_⟩
 by_cases hlt:e.on<j
 .refine⟨hlt,?_⟩
  rw[List.getD_eq_getElem?_getD,List.getElem?_take,if_pos hlt,<-List.getD_eq_getElem?_getD]at h
  exact h
 .rw[List.getD_eq_getElem?_getD,List.getElem?_take,if_neg hlt]at h
  simp at h
theorem Closed.bit {ops:Array Oper}{S:Nat->Bool}(hS:Closed ops S){i:Nat}:∀(j:Nat) (o:Oper),ops[j]?=some o->(∀e∈o.after.toList,Region.binds .any e=true->S e.on=true) ->
  ((zP [] ops.toList).getD j 0).testBit i=true->S i=true:=by
 intro j
 induction j using Nat.strongRecOn with
 | _ j ih =>
  intro o ho he h
  have ho':ops.toList[j]?=some o:=by simpa using ho
  obtain⟨e,h1,h2,h3⟩:=Do ho' h
  have hs:=he e h1 h2
  rcases h3 with h3 | ⟨h3,h4⟩
  .rw[h3];exact hs
  .have hlen:e.on<ops.size:=by
    have:=(qgr.1 ho).1
    omega
   exact ih e.on h3 ops[e.on] (by simp[hlen]) (hS e.on ops[e.on] (by simp[hlen]) hs) h4
structure Ready (ops:Array Oper)(S:Nat->Bool)(i:Nat)(o:Oper):Prop where
 get:ops[i]?=some o
 no:S i=false
 edges:∀e∈o.after.toList,Region.binds .any e=true->S e.on=true
def add (S:Nat->Bool)(i:Nat):Nat->Bool:=λj=>if j=i then true else S j
def Cmp (ops:Array Oper)(i j:Nat):Prop:=((zP [] ops.toList).getD (max i j) 0).testBit (min i j)=true
theorem Cmp.symm {ops:Array Oper}{i j:Nat}(h:Cmp ops i j):Cmp ops j i:=by unfold Cmp at *;rw[Nat.max_comm,Nat.min_comm];exact h
theorem Ready.before {ops:Array Oper}{S:Nat->Bool}{i:Nat}{o:Oper}(hS:Closed ops S)(h:Ready ops S i o){j:Nat}{o':Oper}(hj:ops[j]?=some o')(hne:j≠i)(hc:Cmp ops i j):(j<i ↔ S j=true):=by
 unfold Cmp at hc
 rcases Nat.lt_or_ge j i with hlt | hge
 .rw[Nat.max_eq_left (by omega),Nat.min_eq_right (by omega)]at hc
  exact⟨λ_=>hS.bit i o h.get h.edges hc,λ_=>hlt⟩
 .rw[Nat.max_eq_right (by omega),Nat.min_eq_left (by omega)]at hc
  refine⟨λhh=>by omega,λhs=>?_⟩
  have:=hS.bit j o' hj (hS j o' hj hs) hc
  rw[h.no]at this;cases this
theorem xZ {S:Nat->Bool}{i:Nat}:add S i i=true:=by simp[add]
theorem yo {S:Nat->Bool}{i j:Nat}(h:j≠i):add S i j=S j:=by simp[add,h]
theorem XU {S:Nat->Bool}{i j:Nat}(h:S j=true):add S i j=true:=by unfold add;split<;>simp[h]
theorem Ready.closed {ops:Array Oper}{S:Nat->Bool}{i:Nat}{o:Oper}(hS:Closed ops S)(h:Ready ops S i o):Closed ops (add S i):=by
 intro j o' hj hs e he hb
 by_cases e1:j=i
 .subst e1
  rw[h.get]at hj;cases hj
  exact XU (h.edges e he hb)
 .rw[yo e1]at hs
  exact XU (hS j o' hj hs e he hb)
theorem Ready.before' {ops:Array Oper}{S:Nat->Bool}{i:Nat}{o:Oper}(hS:Closed ops S)(h:Ready ops S i o){j:Nat}{o':Oper}(hj:ops[j]?=some o')(hc:j≠i->Cmp ops i j):(j<i+1 ↔ add S i j=true):=by
 by_cases e:j=i
 .subst e;simp[xZ]
 .rw[yo e,<-h.before hS hj e (hc e)]
  omega
theorem gk {ops:Array Oper}(h:KT ops (zP [] ops.toList)=true){j:Nat}{o:Oper}(ho:ops[j]?=some o) :
  (∀e∈o.after.toList,Region.binds .any e=true->e.on<j)/\∀(i:Nat) (p:Oper),i<j->ops[i]?=some p->Cmp ops i j\/p.apart ops o=true:=by
 unfold KT at h
 rw[List.all_eq_true]at h
 have hm:(o,j)∈ops.toList.zipIdx:=by
  rw[List.mem_zipIdx_iff_getElem?]
  simpa using ho
 have:=h _ hm
 simp only[qgt,List.all_eq_true]at this
 refine⟨λe he hb=>?_,λi p hi hp=>?_⟩
 .have:=this.1 e he
  simp only[hb,Bool.not_true,Bool.false_or,decide_eq_true_eq]at this
  exact this
 .have:=this.2 i (by simpa using hi)
  simp only[hp,Bool.or_eq_true]at this
  refine this.imp (λh=>?_) id
  unfold Cmp
  rw[Nat.max_eq_right (by omega),Nat.min_eq_left (by omega)]
  exact h
theorem Jz {ops:Array Oper}(h:KT ops (zP [] ops.toList)=true){i j:Nat}{p o:Oper}(hp:ops[i]?=some p)(ho:ops[j]?=some o)(hne:i≠j)(hc:¬Cmp ops i j) :
  (∀d,p.dst=some d->d ∉ o.looksAt ops)/\∀d,p.dst=some d->o.dst≠some d:=by
 rcases Nat.lt_or_gt_of_ne hne with hlt | hgt
 .rcases (gk h ho).2 i p hlt hp with h1 | h1
  .exact absurd h1 hc
  .have:=Oper.apart_spec h1
   exact⟨this.1,this.2.1⟩
 .rcases (gk h hp).2 j o hgt ho with h1 | h1
  .exact absurd h1.symm hc
  .have:=Oper.apart_spec h1
   exact⟨this.2.2,λd hd he=>this.2.1 d he hd⟩
section
variable (P:Program)(nt:Nat)(x:Ex)
inductive Stp (o:Oper) (g:Option (Nat × Bool)) (d:Option Nat) (t:Tm) (m:M):Tm->M->List Nat->Option FP->Prop
 | skip (h:xN t g=some false):Stp o g d t m (putD t d undef) m [] none
 | run (v:Value) (m1:M) (h:xN t g=some true) (he:Wa (zB P nt o) x t (qc m)=some (v,m1)) :
   Stp o g d t m (putD t d v) (behind m m1) m1.log (bif Nat.ble 2 (zB P nt o).cl then some ⟨(zB P nt o).rd t,m1.log⟩ else none)
end
section
variable {P:Program}{nt:Nat}{x:Ex}
theorem WA {fps:List (Nat × FP)}{y:FP}:∀{l:List Nat},meets fps y l=true->∀i∈l,∀z,vg i fps=some z->FP.meet z y=true
 | [],_,i,hi,_,_=>by cases hi
 | j::l,h,i,hi,z,hz=>by
  unfold meets at h
  rw[qgt]at h
  rcases List.mem_cons.1 hi with e | e
  .subst e
   have:=h.1
   rw[hz]at this
   exact this
  .exact WA h.2 i e z hz
theorem fF (m:M):behind m (qc m)=m:=by cases m;rfl
theorem XW (m:M)(l:List Value):behind m (newRow (qc m) l)=newRow m l:=by cases m;rfl
theorem Dk (hx:jn P x){o:Oper}{d:Option Nat}{g:Option (Nat × Bool)}{ix:Nat}{inc:List Nat}{k:List (Nat × FP)->K}{fps:List (Nat × FP)}{t:Tm}{m:M}{out:Out}
  (h:gy x ⟨zB P nt o,d,g,ix,inc⟩ k fps t m=some out) :
  ∃v m1,Wa (zB P nt o) x t (qc m)=some (v,m1) /\
   ((Nat.ble 2 (zB P nt o).cl=false/\k fps (putD t d v) (behind m m1)=some out) \/
    (Nat.ble 2 (zB P nt o).cl=true/\meets fps ⟨(zB P nt o).rd t,m1.log⟩ inc=true/\k ((ix,⟨(zB P nt o).rd t,m1.log⟩)::fps) (putD t d v) (behind m m1)=some out)):=by
 rcases vB (nt:=nt) (o:=o) hx with ⟨hnd,hK⟩ | hbad
 .revert h
  generalize zB P nt o=ci at hK
  intro h
  cases hK with
  | pure p hp =>
   obtain⟨v,hv,h⟩:=qa (show ob (p t) (λv=>k fps (putD t d v) m)=some out from h)
   refine⟨v,qc m,?_,.inl ⟨rfl,by rw[fF];exact h⟩⟩
   show ob (p t) (λv=>some (v,qc m))=_
   rw[hv];rfl
  | row f hf =>
   obtain⟨v,m',hv,h⟩:=ky (show obp (f x t m) (λv m'=>k fps (putD t d v) m')=some out from h)
   obtain⟨l,hm,hind,_⟩:=hf x t m v m' hv
   refine⟨v,newRow (qc m) l,hind x (qc m) (qt m),.inl ⟨rfl,?_⟩⟩
   rw[XW,<-hm];exact h
  | load y f hf =>
   obtain⟨v,m',hv,h2⟩:=ky (show obp (f x t m) (λv m'=>bif meets fps ⟨(CI.load y f).rd t,[]⟩ inc then k ((ix,⟨(CI.load y f).rd t,[]⟩)::fps) (putD t d v) m' else none)=some out from h)
   obtain⟨hm,B,hB,hind,_⟩:=hf x t m v m' hv
   subst hm
   refine⟨v,qc m',hind x (qc m') (qm m' B),.inr ⟨rfl,?_⟩⟩
   rw[wh,fF]
   cases hmt:meets fps ⟨(CI.load y f).rd t,[]⟩ inc with
   | false=>rw[hmt]at h2;cases h2
   | true=>rw[hmt]at h2;exact⟨rfl,h2⟩
  | loud _ h1 h2 hf =>
   have e:gy x ⟨ci,d,g,ix,inc⟩ k fps=any4 x ⟨ci,d,g,ix,inc⟩ k fps:=by unfold gy;simp only[h1];rfl
   rw[e]at h
   obtain⟨v,m',hv,h⟩:=ky (show obp (ci.m x t (qc m)) (λv m'=>bif meets fps ⟨ci.rd t,m'.log⟩ inc then k ((ix,⟨ci.rd t,m'.log⟩)::fps) (putD t d v) (behind m m') else none)=some out from h)
   have e2:Wa ci=ci.m:=by unfold Wa;rw[h1];rfl
   refine⟨v,m',by rw[e2];exact hv,.inr ⟨by rw[h1];rfl,?_⟩⟩
   cases hmt:meets fps ⟨ci.rd t,m'.log⟩ inc with
   | false=>rw[hmt]at h;cases h
   | true=>rw[hmt]at h;exact⟨rfl,h⟩
 .rw[hbad]at h
  have e:gy x ⟨CI.bad,d,g,ix,inc⟩ k fps t m=none:=rfl
  rw[e]at h;cases h
theorem Kj (hx:jn P x){ops:Array Oper}{cls ms:List Nat}(hcls:∀j o,ops[j]?=some o->cls.getD j 0=(zB P nt o).cl){k:K}{out:Out}:∀(l:List Oper) (i:Nat) (das:List DA),ops.toList.drop i=l->JC P nt ops cls ms l i=some das->∀(fps:List (Nat × FP)) (t:Tm) (m:M),XV x k das fps t m=some out ->
  ∃(T:Nat->Tm) (H:Nat->M) (W:Nat->List Nat) (F:Nat->Option FP),T i=t/\H i=m/\k (T (i+l.length)) (H (i+l.length))=some out /\
   ∀j o,i<=j->ops[j]?=some o->∃g d,xf nt ops o.guard=some g/\vb nt o.dst=some d/\Stp P nt x o g d (T j) (H j) (T (j+1)) (H (j+1)) (W j) (F j) /\
    ∀y,F j=some y->∀j'∈Zu cls ms j,∀z,(if j'<i then vg j' fps else F j')=some z->FP.meet z y=true
 | [],i,das,hl,hc,fps,t,m,h=>by
  cases hc
  refine⟨λ_=>t,λ_=>m,λ_=>[],λ_=>none,rfl,rfl,h,λj o hj ho=>?_⟩
  have h1:=(qgr.1 ho).1
  have h2:=List.drop_eq_nil_iff.1 hl
  simp at h2
  omega
 | o::l,i,das,hl,hc,fps,t,m,h=>by
  rw[JC]at hc
  obtain⟨g,hg,hc⟩:=qa hc
  obtain⟨d,hd,hc⟩:=qa hc
  obtain⟨r,hr,hc⟩:=qa hc
  cases hc
  have hoi:ops[i]?=some o:=by
   have:(ops.toList.drop i)[0]?=some o:=by rw[hl];rfl
   rw[List.getElem?_drop]at this
   simpa using this
  have hl':ops.toList.drop (i+1)=l:=by
   have:=congrArg (List.drop 1) hl
   rw[List.drop_drop]at this
   simpa [Nat.add_comm]using this
  have front:∀(t':Tm) (m':M) (w0:List Nat) (f0:Option FP) (fps':List (Nat × FP)),XV x k r fps' t' m'=some out->Stp P nt x o g d t m t' m' w0 f0 ->
    (∀y,f0=some y->∀j'∈Zu cls ms i,∀z,vg j' fps=some z->FP.meet z y=true)->(∀j',j'<i->vg j' fps'=vg j' fps)->(∀z,f0=some z->vg i fps'=some z) ->
    ∃(T:Nat->Tm) (H:Nat->M) (W:Nat->List Nat) (F:Nat->Option FP),T i=t/\H i=m/\k (T (i+(o::l).length)) (H (i+(o::l).length))=some out /\
     ∀j o,i<=j->ops[j]?=some o->∃g d,xf nt ops o.guard=some g/\vb nt o.dst=some d/\Stp P nt x o g d (T j) (H j) (T (j+1)) (H (j+1)) (W j) (F j) /\
      ∀y,F j=some y->∀j'∈Zu cls ms j,∀z,(if j'<i then vg j' fps else F j')=some z->FP.meet z y=true:=by
   intro t' m' w0 f0 fps' hk hst hmt hlow hi0
   obtain⟨T,H,W,F,q1,q2,q3,q4⟩:=Kj hx hcls l (i+1) r hl' hr fps' t' m' hk
   refine⟨λj=>if j<=i then t else T j,λj=>if j<=i then m else H j,λj=>if j<=i then w0 else W j,λj=>if j<=i then f0 else F j,by simp,by simp,?_,λj oj hj hoj=>?_⟩
   .have e1:¬i+(o::l).length<=i:=by simp
    simp only[if_neg e1]
    rw[show i+(o::l).length=i+1+l.length by simp;omega]
    exact q3
   .by_cases e:j=i
    .subst e
     rw[hoi]at hoj;cases hoj
     refine⟨g,d,hg,hd,?_,λy hy j' hj' z hz=>?_⟩
     .have e1:¬j+1<=j:=by omega
      simp only[if_neg e1,qgq,if_true,q1,q2]
      exact hst
     .simp only[qgq,if_true]at hy
      have hlt:j'<j:=by
       unfold Zu at hj'
       have:=(List.mem_filter.1 hj').1
       simpa using this
      rw[if_pos hlt]at hz
      exact hmt y hy j' hj' z hz
    .obtain⟨g',d',r1,r2,r3,r4⟩:=q4 j oj (by omega) hoj
     have e1:¬j<=i:=by omega
     have e2:¬j+1<=i:=by omega
     refine⟨g',d',r1,r2,?_,λy hy j' hj' z hz=>?_⟩
     .simp only[if_neg e1,if_neg e2]
      exact r3
     .simp only[if_neg e1]at hy
      refine r4 y hy j' hj' z ?_
      by_cases h1:j'<i
      .rw[if_pos h1]at hz
       rw[if_pos (by omega),hlow j' h1]
       exact hz
      .rw[if_neg h1]at hz
       by_cases h2:j'=i
       .subst h2
        simp only[qgq,if_true]at hz
        rw[if_pos (by omega)]
        exact hi0 z hz
       .have h3:¬j'<=i:=by omega
        simp only[if_neg h3]at hz
        rw[if_neg (by omega)]
        exact hz
  have ran:xN t g=some true->gy x ⟨zB P nt o,d,g,i,Zu cls ms i⟩ (XV x k r) fps t m=some out->∃(T:Nat->Tm) (H:Nat->M) (W:Nat->List Nat) (F:Nat->Option FP),T i=t/\H i=m/\k (T (i+(o::l).length)) (H (i+(o::l).length))=some out /\
     ∀j o,i<=j->ops[j]?=some o->∃g d,xf nt ops o.guard=some g/\vb nt o.dst=some d/\Stp P nt x o g d (T j) (H j) (T (j+1)) (H (j+1)) (W j) (F j) /\
      ∀y,F j=some y->∀j'∈Zu cls ms j,∀z,(if j'<i then vg j' fps else F j')=some z->FP.meet z y=true:=by
   intro hc h
   obtain⟨v,m1,he,h⟩:=Dk hx h
   have hst:=Stp.run (P:=P) (nt:=nt) (x:=x) (o:=o) (g:=g) (d:=d) (t:=t) (m:=m) v m1 hc he
   rcases h with ⟨hb,h⟩ | ⟨hb,hm,h⟩
   .rw[hb]at hst
    exact front _ _ _ _ _ h hst (λy hy=>by cases hy) (λ_ _=>rfl) (λz hz=>by cases hz)
   .rw[hb]at hst
    refine front _ _ _ _ _ h hst (λy hy j' hj' z hz=>?_) (λj' hj'=>?_) (λz hz=>?_)
    .cases hy;exact WA hm j' hj' z hz
    .show (bif Nat.beq j' i then _ else vg j' fps)=_
     have:Nat.beq j' i=false:=by
      cases e:Nat.beq j' i with
      | false=>rfl
      | true=>have:=qh0 e;omega
     rw[this];rfl
    .show (bif Nat.beq i i then _ else vg i fps)=_
     rw[Nat.beq_refl];exact hz
  cases hgg:g with
  | none =>
   rw[hgg]at ran h
   exact ran rfl h
  | some gb =>
   obtain⟨q,b⟩:=gb
   rw[hgg]at ran h front
   obtain⟨c,hc,h⟩:=qa (show ob (isB b (Tm.get q t)) (λc=>bif c then gy x ⟨zB P nt o,d,some (q,b),i,Zu cls ms i⟩ (XV x k r) fps t m else XV x k r fps (putD t d undef) m)=some out from h)
   cases c with
   | false=>exact front _ _ [] none fps h (.skip hc) (λy hy=>by cases hy) (λ_ _=>rfl) (λz hz=>by cases hz)
   | true=>exact ran hc h
end
end Go.Dx
namespace Go.Dx
open Go.RowKit
section
variable {P:Program}{nt:Nat}{x:Ex}{o:Oper}
inductive Did (P:Program) (nt:Nat) (x:Ex) (o:Oper) (t:Tm) (m:M) (v:Value):M->List Nat->Option FP->Prop
 | pure (p:PO) (h:wz P nt o p) (hp:p t=some v):Did P nt x o t m v (behind m (qc m)) [] none
 | row (f:MO) (m1:M) (h:dX P nt o f) (hf:f x t (qc m)=some (v,m1)):Did P nt x o t m v (behind m m1) [] none
 | load (f:MO) (rd:Tm->Option Nat) (h:bK P nt o f rd) (hf:f x t (qc m)=some (v,qc m)):Did P nt x o t m v (behind m (qc m)) [] (some ⟨rd t,[]⟩)
 | loud (f:MO) (m1:M) (h:Loud P nt o x f) (hf:f x t (qc m)=some (v,m1)):Did P nt x o t m v (behind m m1) m1.log (some ⟨none,m1.log⟩)
theorem Stp.inv (hx:jn P x){g:Option (Nat × Bool)}{d:Option Nat}{t t':Tm}{m m':M}{w:List Nat}{f:Option FP}(h:Stp P nt x o g d t m t' m' w f) :
  (xN t g=some false/\t'=putD t d undef/\m'=m/\w=[]/\f=none) \/
  (xN t g=some true/\(∀c,o.op≠.defer c)/\∃v,t'=putD t d v/\Did P nt x o t m v m' w f):=by
 cases h with
 | skip h=>exact .inl ⟨h,rfl,rfl,rfl,rfl⟩
 | run v m1 h he =>
  refine .inr ⟨h,?_⟩
  rcases vB (nt:=nt) (o:=o) hx with ⟨hnd,hK⟩ | hbad
  .refine⟨hnd,v,rfl,?_⟩
   revert he
   generalize zB P nt o=ci at hK
   intro he
   cases hK with
   | pure p hp =>
    obtain⟨u,hu,he⟩:=qa (show ob (p t) (λv=>some (v,qc m))=some (v,m1) from he)
    cases he
    have:=Did.pure (P:=P) (nt:=nt) (x:=x) (o:=o) (m:=m) p hp hu
    rw[wh];exact this
   | row f hf =>
    obtain⟨l,hm,_⟩:=hf x t _ v m1 he
    have:=Did.row (P:=P) (nt:=nt) (x:=x) (o:=o) (m:=m) f m1 hf he
    have e:m1.log=[]:=by rw[hm];show ((qc m).alloc _).log=_;rw[M.log_alloc,wh]
    rw[e];exact this
   | load y f hf =>
    obtain⟨hm,_⟩:=hf x t _ v m1 he
    subst hm
    have:=Did.load (P:=P) (nt:=nt) (x:=x) (o:=o) (m:=m) f _ hf he
    rw[wh];exact this
   | loud _ h1 h2 hf =>
    have e:Wa ci=ci.m:=by unfold Wa;rw[h1];rfl
    rw[e]at he
    have:=Did.loud (P:=P) (nt:=nt) (x:=x) (o:=o) (m:=m) ci.m m1 hf he
    rw[h1,h2];exact this
  .rw[hbad]at he;cases he
theorem Did.dstep {t:Tm}{m m':M}{v:Value}{w:List Nat}{f:Option FP}(h:Did P nt x o t m v m' w f):DStep m m'/\∀B,B<m.n->B ∉ w->m'.obj B=m.obj B:=by
 cases h with
 | pure p h hp=>exact⟨(DStep.refl _).behind,λB hB hw=>by rw[qx,qm]⟩
 | row f m1 h hf =>
  obtain⟨l,hm,_⟩:=h x t _ v m1 hf
  subst hm
  refine⟨(DStep.alloc _ _).behind,λB hB hw=>?_⟩
  rw[qx]
  show ((qc m).alloc _).obj B=_
  rw[M.obj_alloc,qt,if_neg (by omega),qm]
 | load f rd h hf=>exact⟨(DStep.refl _).behind,λB hB hw=>by rw[qx,qm]⟩
 | loud f m1 h hf =>
  have hd:=(h t _ v m1 hf).1
  refine⟨hd.behind,λB hB hw=>?_⟩
  rw[qx,hd.same B (by rw[qt];exact hB) (λe=>hw ((bL hd hB).1 e)),qm]
theorem Stp.dstep (hx:jn P x){g:Option (Nat × Bool)}{d:Option Nat}{t t':Tm}{m m':M}{w:List Nat}{f:Option FP}(h:Stp P nt x o g d t m t' m' w f):DStep m m'/\∀B,B<m.n->B ∉ w->m'.obj B=m.obj B:=by
 rcases h.inv hx with ⟨_,_,h,_⟩ | ⟨_,_,v,_,h⟩
 .subst h;exact⟨DStep.refl _,λ_ _ _=>rfl⟩
 .exact h.dstep
theorem Stp.fp (hx:jn P x){g:Option (Nat × Bool)}{d:Option Nat}{t t':Tm}{m m':M}{w:List Nat}{f:Option FP}(h:Stp P nt x o g d t m t' m' w f)(hw:w≠[]):∃y,f=some y/\y.wr=w:=by
 rcases h.inv hx with ⟨_,_,_,h,_⟩ | ⟨_,_,v,_,h⟩
 .exact absurd h hw
 .cases h with
  | loud f m1 h hf=>exact⟨_,rfl,rfl⟩
  | _=>exact absurd rfl hw
structure Trace (P:Program)(nt:Nat)(x:Ex)(ops:Array Oper)(T:Nat->Tm)(H:Nat->M)(W:Nat->List Nat)(F:Nat->Option FP):Prop where
 hx:jn P x
 reg:KT ops (zP [] ops.toList)=true
 tl:nt<=512
 wf:∀B,(H 0).n<=B->(H 0).obj B=none
 step:∀j o,ops[j]?=some o->∃g d,xf nt ops o.guard=some g/\vb nt o.dst=some d/\Stp P nt x o g d (T j) (H j) (T (j+1)) (H (j+1)) (W j) (F j)
 meet:∀i j y z,i<j->j<ops.size->F i=some y->F j=some z->¬Cmp ops i j->FP.meet y z=true
variable {ops:Array Oper}{T:Nat->Tm}{H:Nat->M}{W:Nat->List Nat}{F:Nat->Option FP}
def Wp (H:Nat->M)(W:Nat->List Nat)(j B:Nat):Prop:=B∈W j/\B<(H j).n
theorem Trace.dstep (h:Trace P nt x ops T H W F){j:Nat}(hj:j<ops.size):DStep (H j) (H (j+1))/\∀B,B<(H j).n->¬Wp H W j B->(H (j+1)).obj B=(H j).obj B:=by
 obtain⟨g,d,_,_,hs⟩:=h.step j ops[j] (by simp[hj])
 have:=hs.dstep h.hx
 exact⟨this.1,λB hB hw=>this.2 B hB λe=>hw ⟨e,hB⟩⟩
theorem Trace.mono (h:Trace P nt x ops T H W F){i:Nat}:∀j,i<=j->j<=ops.size->DStep (H i) (H j)
 | 0,h1,_=>by obtain rfl:i=0:=by omega
              exact DStep.refl _
 | j+1,h1,h2=>by
  by_cases e:i=j+1
  .subst e;exact DStep.refl _
  .exact (h.mono j (by omega) (by omega)).trans (h.dstep (by omega)).1
theorem Trace.le (h:Trace P nt x ops T H W F){i j:Nat}(hij:i<=j)(hj:j<=ops.size):(H i).n<=(H j).n:=(h.mono j hij hj).n
theorem Trace.obj_eq (h:Trace P nt x ops T H W F){p B:Nat}:∀p',p<=p'->p'<=ops.size->B<(H p).n->(∀j,p<=j->j<p'->¬Wp H W j B)->(H p').obj B=(H p).obj B
 | 0,h1,_,_,_=>by obtain rfl:p=0:=by omega
                  rfl
 | p'+1,h1,h2,hB,hn=>by
  by_cases e:p=p'+1
  .subst e;rfl
  .rw[(h.dstep (j:=p') (by omega)).2 B (qgs hB (h.le (by omega) (by omega))) (hn p' (by omega) (by omega))]
   exact h.obj_eq p' (by omega) (by omega) hB (λj h3 h4=>hn j h3 (by omega))
theorem YM {nt:Nat}{q:Option Tmp}{d:Option Nat}(h:vb nt q=some d):d=q/\∀y,q=some y->y<nt:=by
 unfold vb at h
 cases q with
 | none=>cases h;exact⟨rfl,λy hy=>by cases hy⟩
 | some p =>
  simp only at h
  split at h
  .rename_i hlt;cases h;exact⟨rfl,λy hy=>by cases hy;exact hlt⟩
  .cases h
theorem Stp.tmps {g:Option (Nat × Bool)}{d:Option Nat}{t t':Tm}{m m':M}{w:List Nat}{f:Option FP}(h:Stp P nt x o g d t m t' m' w f):∃v,t'=putD t d v:=by
 cases h with
 | skip=>exact⟨_,rfl⟩
 | run v=>exact⟨_,rfl⟩
theorem Trace.tmp_eq (h:Trace P nt x ops T H W F){p y:Nat}(hy:y<nt):∀p',p<=p'->p'<=ops.size->(∀j o,p<=j->j<p'->ops[j]?=some o->o.dst≠some y)->Tm.get y (T p')=Tm.get y (T p)
 | 0,h1,_,_=>by obtain rfl:p=0:=by omega
                rfl
 | p'+1,h1,h2,hn=>by
  by_cases e:p=p'+1
  .subst e;rfl
  .have ho:ops[p']?=some ops[p']:=by simp[show p'<ops.size by omega]
   obtain⟨g,d,_,hd,hs⟩:=h.step p' _ ho
   obtain⟨v,hv⟩:=hs.tmps
   have hne:=hn p' _ (by omega) (by omega) ho
   obtain⟨rfl,hlt⟩:=YM hd
   rw[<-h.tmp_eq hy p' (by omega) (by omega) (λj o h3 h4=>hn j o h3 (by omega)),hv]
   cases hq:(ops[p']'(by omega)).dst with
   | none=>rfl
   | some q =>
    have h1:q<nt:=hlt q hq
    have h2:=h.tl
    exact Tm.get_set_ne (qgs hy h2) (qgs h1 h2) (λe=>hne (by rw[hq,e])) _ _
def FitT (ops:Array Oper)(S:Nat->Bool)(y p:Nat):Prop:=p<=ops.size/\∀j o,ops[j]?=some o->o.dst=some y->(j<p ↔ S j=true)
def Fit (ops:Array Oper)(H:Nat->M)(W:Nat->List Nat)(S:Nat->Bool)(B p:Nat):Prop:=p<=ops.size/\B<(H p).n/\∀j,j<ops.size->Wp H W j B->(j<p ↔ S j=true)
variable {S:Nat->Bool}
theorem FitT.uniq (h:Trace P nt x ops T H W F){y p q:Nat}(hy:y<nt)(hp:FitT ops S y p)(hq:FitT ops S y q):Tm.get y (T q)=Tm.get y (T p):=by
 have key:∀p q,FitT ops S y p->FitT ops S y q->p<=q->Tm.get y (T q)=Tm.get y (T p):=λp q hp hq hpq =>
  h.tmp_eq hy q hpq hq.1 λj o h1 h2 ho hd=>by
   have:=(hp.2 j o ho hd).2 ((hq.2 j o ho hd).1 h2)
   omega
 rcases Nat.le_total p q with e | e
 .exact key p q hp hq e
 .exact (key q p hq hp e).symm
theorem Fit.uniq (h:Trace P nt x ops T H W F){B p q:Nat}(hp:Fit ops H W S B p)(hq:Fit ops H W S B q):(H q).obj B=(H p).obj B:=by
 have key:∀p q,Fit ops H W S B p->Fit ops H W S B q->p<=q->(H q).obj B=(H p).obj B:=λp q hp hq hpq =>
  h.obj_eq q hpq hq.1 hp.2.1 λj h1 h2 hw=>by
   have hj:j<ops.size:=qgs h2 hq.1
   have:=(hp.2.2 j hj hw).2 ((hq.2.2 j hj hw).1 h2)
   omega
 rcases Nat.le_total p q with e | e
 .exact key p q hp hq e
 .exact (key q p hq hp e).symm
theorem Trace.fp (h:Trace P nt x ops T H W F){j B:Nat}(hj:j<ops.size)(hw:Wp H W j B):∃y,F j=some y/\y.wr=W j/\B∈y.wr:=by
 obtain⟨g,d,_,_,hs⟩:=h.step j ops[j] (by simp[hj])
 obtain⟨y,h1,h2⟩:=hs.fp h.hx (λe=>by rw[Wp,e]at hw;cases hw.1)
 exact⟨y,h1,h2,by rw[h2];exact hw.1⟩
theorem ZD {B:Nat}:∀{l:List Nat},B∈l->ZC B l=true
 | C::l,h=>by
  show (Nat.beq B C||ZC B l)=true
  rcases List.mem_cons.1 h with e | e
  .subst e;simp
  .rw[ZD e,Bool.or_true]
theorem Fl {y z:FP}{B:Nat}(h:FP.meet y z=true)(hy:B∈y.wr):z.wr=[]/\∃C,z.rd=some C/\C≠B:=by
 unfold FP.meet at h
 split at h
 .rename_i e _;rw[e]at hy;cases hy
 .rename_i e _;rw[e]at hy;cases hy
 .rename_i e _
  refine⟨e,?_⟩
  unfold FP.clear at h
  split at h
  .rename_i e2;rw[e2]at hy;cases hy
  .split at h
   .rename_i C hC
    refine⟨C,hC,λe=>?_⟩
    subst e
    rw[ZD hy]at h;cases h
   .cases h
 .cases h
theorem GT {y z:FP}(h:FP.meet y z=true):FP.meet z y=true:=by
 unfold FP.meet at *
 cases hy:y.wr<;>cases hz:z.wr<;>simp only[hy,hz]at h ⊢<;>exact h
theorem Trace.meets (h:Trace P nt x ops T H W F){i j:Nat}{y z:FP}(hi:i<ops.size)(hj:j<ops.size)(hne:i≠j)(hy:F i=some y)(hz:F j=some z)(hc:¬Cmp ops i j):FP.meet y z=true:=by
 rcases Nat.lt_or_gt_of_ne hne with hlt | hgt
 .exact h.meet i j y z hlt hj hy hz hc
 .exact GT (h.meet j i z y hgt hi hz hy λe=>hc e.symm)
theorem Trace.wr_wr (h:Trace P nt x ops T H W F){i j B:Nat}(hi:i<ops.size)(hj:j<ops.size)(hne:i≠j)(h1:Wp H W i B)(h2:Wp H W j B):Cmp ops i j:=by
 refine Classical.byContradiction λhc=>?_
 obtain⟨y,hy,_,hyB⟩:=h.fp hi h1
 obtain⟨z,hz,_,hzB⟩:=h.fp hj h2
 have:=(Fl (h.meets hi hj hne hy hz hc) hyB).1
 rw[this]at hzB;cases hzB
theorem Trace.rd_wr (h:Trace P nt x ops T H W F){i j B:Nat}{z:FP}(hi:i<ops.size)(hj:j<ops.size)(hne:j≠i)(hz:F i=some z)(hrd:z.rd=none\/z.rd=some B)(h2:Wp H W j B):Cmp ops i j:=by
 refine Classical.byContradiction λhc=>?_
 obtain⟨y,hy,_,hyB⟩:=h.fp hj h2
 obtain⟨_,C,hC,hne'⟩:=Fl (h.meets hj hi hne hy hz λe=>hc e.symm) hyB
 rcases hrd with e | e
 .rw[e]at hC;cases hC
 .rw[e]at hC;cases hC;exact hne' rfl
theorem Wf (h:Trace P nt x ops T H W F)(hS:Closed ops S){i B:Nat}(hr:Ready ops S i o){z:FP}(hz:F i=some z)(hrd:z.rd=none\/z.rd=some B)(hB:B<(H i).n):Fit ops H W S B i:=by
 have hi:i<ops.size:=(qgr.1 hr.get).1
 refine⟨by omega,hB,λj hj hw=>?_⟩
 by_cases e:j=i
 .subst e;simp[hr.no]
 .exact hr.before hS (j:=j) (o':=ops[j]) (by simp[hj]) e (h.rd_wr hi hj e hz hrd hw)
theorem qar (h:Trace P nt x ops T H W F)(hS:Closed ops S){i B:Nat}(hr:Ready ops S i o)(hw:Wp H W i B):Fit ops H W S B i/\Fit ops H W (add S i) B (i+1):=by
 have hi:i<ops.size:=(qgr.1 hr.get).1
 refine⟨⟨by omega,hw.2,λj hj hw'=>?_⟩,by omega,qgs hw.2 (h.le (by omega) (by omega)),λj hj hw'=>?_⟩
 .by_cases e:j=i
  .subst e;simp[hr.no]
  .exact hr.before hS (j:=j) (o':=ops[j]) (by simp[hj]) e (h.wr_wr hi hj (λx=>e x.symm) hw hw')
 .exact hr.before' hS (j:=j) (o':=ops[j]) (by simp[hj]) λe=>h.wr_wr hi hj (λx=>e x.symm) hw hw'
theorem qe4 (h:Trace P nt x ops T H W F)(hS:Closed ops S){i B:Nat}(hr:Ready ops S i o){z:FP}(hz:F i=some z)(hrd:z.rd=none\/z.rd=some B)(hB:B<(H i).n):Fit ops H W (add S i) B (i+1):=by
 have hi:i<ops.size:=(qgr.1 hr.get).1
 refine⟨by omega,qgs hB (h.le (by omega) (by omega)),λj hj hw=>?_⟩
 exact hr.before' hS (j:=j) (o':=ops[j]) (by simp[hj]) λe=>h.rd_wr hi hj e hz hrd hw
theorem Fit.add {i B p:Nat}(hp:Fit ops H W S B p)(hw:¬Wp H W i B):Fit ops H W (add S i) B p :=
 ⟨hp.1,hp.2.1,λj hj hw'=>by rw[yo (λe=>hw (by subst e;exact hw'))];exact hp.2.2 j hj hw'⟩
end
end Go.Dx
namespace Go.Dx
open Go.RowKit
section
variable {P:Program}{nt:Nat}{x:Ex}{o:Oper}
variable {ops:Array Oper}{T:Nat->Tm}{H:Nat->M}{W:Nat->List Nat}{F:Nat->Option FP}
variable {φ0:Phi}{w0:World}{ds0:Act}
def Tc (ops:Array Oper)(H:Nat->M)(W:Nat->List Nat)(S:Nat->Bool)(B:Nat):Prop:=B<(H 0).n/\¬dead (H 0) B/\∃j,j<ops.size/\S j=true/\Wp H W j B
theorem Tc.add {S:Nat->Bool}{B i:Nat}(h:Tc ops H W S B):Tc ops H W (add S i) B:=by
 obtain⟨h1,h2,j,h3,h4,h5⟩:=h
 exact⟨h1,h2,j,h3,XU h4,h5⟩
structure Inv (nt:Nat)(ops:Array Oper)(T:Nat->Tm)(H:Nat->M)(W:Nat->List Nat)(φ0:Phi)(w0:World)(ds0:Act)(S:Nat->Bool)(φ:Phi)(w:World)(a:Act):Prop where
 cl:Closed ops S
 ph:∀B,(B<(H 0).n\/(H ops.size).n<=B)->φ B=φ0 B
 le:PLe φ0 φ
 new:∀j,j<ops.size->S j=false->∀B,(H j).n<=B->B<(H (j+1)).n->φ B=none
 tm:∀y,y<nt->∃q,FitT ops S y q/\VRel φ (Tm.get y (T q)) (a.tmps.getD y undef)
 ts:a.tmps.size=nt
 ob:∀B l,B<(H ops.size).n->φ B=some l->∃p o,Fit ops H W S B p/\(H p).obj B=some o/\ObjRel φ w o l
 al:∀B1 B2 l1 l2,B1<(H ops.size).n->B2<(H ops.size).n->φ B1=some l1->φ B2=some l2->l1.b=l2.b->B1≠B2->∃p,(Fit ops H W S B1 p/\dead (H p) B1)\/(Fit ops H W S B2 p/\dead (H p) B2)
 wm:∀j,j<ops.size->S j=true->∀B,Wp H W j B->∃l,φ B=some l
 fr:∀B l,(H 0).n<=B->B<(H ops.size).n->φ B=some l->w0.heap.size<=l.b\/∃B0 l0,Tc ops H W S B0/\φ0 B0=some l0/\l0.b=l.b
 frame:∀b,b<w0.heap.size->(∀B l,φ0 B=some l->l.b=b->¬Tc ops H W S B)->w.heap[b]?=w0.heap[b]?
 os:w.os=w0.os
 tape:w.tape=w0.tape
 output:w.output=w0.output
 size:w0.heap.size<=w.heap.size
 df:KA ops ds0 a
structure Eff (ops:Array Oper)(H:Nat->M)(W:Nat->List Nat)(S:Nat->Bool)(i:Nat)(φ:Phi)(w:World)(φ':Phi)(w':World):Prop where
 le:PLe φ φ'
 ext:∀B,(B<(H i).n\/(H (i+1)).n<=B)->φ' B=φ B
 nob:∀B l,(H i).n<=B->B<(H (i+1)).n->φ' B=some l->∃o,(H (i+1)).obj B=some o/\ObjRel φ' w' o l
 wob:∀B,Wp H W i B->∃l o,φ B=some l/\(H (i+1)).obj B=some o/\ObjRel φ' w' o l
 keep:∀B l o p,B<(H ops.size).n->φ B=some l->¬Wp H W i B->Fit ops H W S B p->(H p).obj B=some o->ObjRel φ w o l->ObjRel φ' w' o l
 al:∀B1 B2 l1 l2,(H i).n<=B1->B1<(H (i+1)).n->B2<(H ops.size).n->φ' B1=some l1->φ' B2=some l2->l1.b=l2.b->B1≠B2 ->
  ∃p,(Fit ops H W (add S i) B1 p/\dead (H p) B1)\/(Fit ops H W (add S i) B2 p/\dead (H p) B2)
 fr:∀B l,(H i).n<=B->B<(H (i+1)).n->φ' B=some l->w.heap.size<=l.b\/∃B0 l0,Wp H W i B0/\¬dead (H i) B0/\φ B0=some l0/\l0.b=l.b
 frame:∀b,b<w.heap.size->(∀B l,φ B=some l->l.b=b->Wp H W i B->dead (H i) B)->w'.heap[b]?=w.heap[b]?
 os:w'.os=w.os
 tape:w'.tape=w.tape
 output:w'.output=w.output
 size:w.heap.size<=w'.heap.size
variable {S:Nat->Bool}{φ φ':Phi}{w w':World}{a:Act}
theorem Xy (a:Act)(d:Option Tmp)(v:Value):(a.put d v).tmps.size=a.tmps.size:=by cases d<;>simp[Act.put]
theorem bz (a:Act){d:Tmp}(v:Value)(h:d<a.tmps.size):(a.put (some d) v).tmps.getD d undef=v:=by simp[Act.put,h]
theorem YU (h:Trace P nt x ops T H W F)(hI:Inv nt ops T H W φ0 w0 ds0 S φ w a){i B:Nat}(hr:Ready ops S i o)(h1:(H i).n<=B)(h2:B<(H (i+1)).n):Fit ops H W (add S i) B (i+1):=by
 have hi:i<ops.size:=(qgr.1 hr.get).1
 refine⟨by omega,h2,λj hj hw=>?_⟩
 by_cases e:j=i
 .subst e;simp[xZ]
 .have hlt:¬j<i:=λhlt=>by
   have:=h.le (i:=j) (j:=i) (by omega) (by omega)
   have:=hw.2
   omega
  rw[yo e]
  constructor
  .intro;omega
  .intro hs
   obtain⟨l,hl⟩:=hI.wm j hj hs B hw
   rw[hI.new i hi hr.no B h1 h2]at hl;cases hl
theorem Inv.next (h:Trace P nt x ops T H W F)(hI:Inv nt ops T H W φ0 w0 ds0 S φ w a){i:Nat}(hr:Ready ops S i o)(he:Eff ops H W S i φ w φ' w'){d:Option Nat}{v v':Value}(hd:vb nt o.dst=some d)(hT:T (i+1)=putD (T i) d v)(hv:VRel φ' v v') :
  Inv nt ops T H W φ0 w0 ds0 (add S i) φ' w' (a.put o.dst v'):=by
 have hi:i<ops.size:=(qgr.1 hr.get).1
 have hS:=hI.cl
 obtain⟨rfl,hdlt⟩:=YM hd
 have n0:(H 0).n<=(H i).n:=h.le (Nat.zero_le _) (by omega)
 have n1:(H i).n<=(H (i+1)).n:=h.le (by omega) (by omega)
 have n2:(H (i+1)).n<=(H ops.size).n:=h.le (by omega) (qgq _)
 have dd:∀B,B<(H 0).n->dead (H 0) B->dead (H i) B:=(h.mono i (Nat.zero_le _) (by omega)).dead
 have old:∀B,¬((H i).n<=B/\B<(H (i+1)).n)->φ' B=φ B:=λB hB=>he.ext B (by omega)
 refine⟨hr.closed hS,λB hB=>?_,hI.le.trans he.le,λj hj hs B h1 h2=>?_,λy hy=>?_,?_,λB l hB hl=>?_,λB1 B2 l1 l2 hB1 hB2 hl1 hl2 hb hne=>?_,λj hj hs B hw=>?_,λB l h1 h2 hl=>?_,λb hb hno=>?_,he.os.trans hI.os,he.tape.trans hI.tape,he.output.trans hI.output,qgz hI.size he.size,?_⟩
 .rw[old B (by omega)];exact hI.ph B hB
 .have e:j≠i:=λe=>by subst e;rw[xZ]at hs;cases hs
  rw[yo e]at hs
  rw[old B ?_]
  .exact hI.new j hj hs B h1 h2
  .rcases Nat.lt_or_gt_of_ne e with hlt | hgt
   .have:=h.le (i:=j+1) (j:=i) (by omega) (by omega);omega
   .have:=h.le (i:=i+1) (j:=j) (by omega) (by omega);omega
 .by_cases e:o.dst=some y
  .refine⟨i+1,⟨by omega,λj o' hj hd'=>?_⟩,?_⟩
   .refine hr.before' hS hj λhne=>?_
    refine Classical.byContradiction λhc=>?_
    exact (Jz h.reg hr.get hj (λx=>hne x.symm) hc).2 y e hd'
   .rw[hT,e,bz a v' (by rw[hI.ts];exact hy)]
    show VRel φ' (Tm.get y (Tm.set y v (T i))) v'
    rw[Tm.get_set_same];exact hv
  .obtain⟨q,h1,h2⟩:=hI.tm y hy
   refine⟨q,⟨h1.1,λj o' hj hd'=>?_⟩,?_⟩
   .rw[yo (λej=>by subst ej;rw[hr.get]at hj;cases hj;exact e hd')]
    exact h1.2 j o' hj hd'
   .rw[fg a v' e];exact h2.mono he.le
 .rw[Xy];exact hI.ts
 .by_cases hnew:(H i).n<=B/\B<(H (i+1)).n
  .obtain⟨o',h1,h2⟩:=he.nob B l hnew.1 hnew.2 hl
   exact⟨i+1,o',YU h hI hr hnew.1 hnew.2,h1,h2⟩
  .rw[old B hnew]at hl
   by_cases hw:Wp H W i B
   .obtain⟨l',o',h1,h2,h3⟩:=he.wob B hw
    rw[hl]at h1;cases h1
    exact⟨i+1,o',(qar h hS hr hw).2,h2,h3⟩
   .obtain⟨p,o',h1,h2,h3⟩:=hI.ob B l hB hl
    exact⟨p,o',h1.add hw,h2,he.keep B l o' p hB hl hw h1 h2 h3⟩
 .by_cases hn1:(H i).n<=B1/\B1<(H (i+1)).n
  .exact he.al B1 B2 l1 l2 hn1.1 hn1.2 hB2 hl1 hl2 hb hne
  .by_cases hn2:(H i).n<=B2/\B2<(H (i+1)).n
   .obtain⟨p,hp⟩:=he.al B2 B1 l2 l1 hn2.1 hn2.2 hB1 hl2 hl1 hb.symm (λe=>hne e.symm)
    exact⟨p,hp.symm⟩
   .rw[old B1 hn1]at hl1
    rw[old B2 hn2]at hl2
    have go:∀B p,Fit ops H W S B p->dead (H p) B->∃p,Fit ops H W (add S i) B p/\dead (H p) B:=λB p hp hdp=>by
     by_cases hw:Wp H W i B
     .obtain⟨f1,f2⟩:=qar h hS hr hw
      refine⟨i+1,f2,(h.dstep hi).1.dead B hw.2 ?_⟩
      exact (wN (Fit.uniq h hp f1)).2 hdp
     .exact⟨p,hp.add hw,hdp⟩
    obtain⟨p,hp | hp⟩:=hI.al B1 B2 l1 l2 hB1 hB2 hl1 hl2 hb hne
    .obtain⟨q,hq⟩:=go B1 p hp.1 hp.2
     exact⟨q,.inl hq⟩
    .obtain⟨q,hq⟩:=go B2 p hp.1 hp.2
     exact⟨q,.inr hq⟩
 .by_cases e:j=i
  .subst e
   obtain⟨l,_,h1,_⟩:=he.wob B hw
   exact⟨l,he.le B l h1⟩
  .rw[yo e]at hs
   obtain⟨l,h1⟩:=hI.wm j hj hs B hw
   exact⟨l,he.le B l h1⟩
 .by_cases hnew:(H i).n<=B/\B<(H (i+1)).n
  .rcases he.fr B l hnew.1 hnew.2 hl with h3 | ⟨B0,l0,h3,h4,h5,h6⟩
   .exact .inl (qgz hI.size h3)
   .by_cases h7:B0<(H 0).n
    .rw[hI.ph B0 (.inl h7)]at h5
     exact .inr ⟨B0,l0,⟨h7,λe=>h4 (dd B0 h7 e),i,hi,xZ,h3⟩,h5,h6⟩
    .rcases hI.fr B0 l0 (by omega) (by have:=h3.2;omega) h5 with h8 | ⟨B3,l3,h8,h9,h10⟩
     .exact .inl (by rw[<-h6];exact h8)
     .exact .inr ⟨B3,l3,h8.add,h9,h10.trans h6⟩
  .rw[old B hnew]at hl
   rcases hI.fr B l h1 h2 hl with h3 | ⟨B0,l0,h3,h4,h5⟩
   .exact .inl h3
   .exact .inr ⟨B0,l0,h3.add,h4,h5⟩
 .rw[he.frame b (qgs hb hI.size) ?_,hI.frame b hb λB l hl hlb ht=>hno B l hl hlb ht.add]
  intro B l hl hlb hw
  refine Classical.byContradiction λhnd=>?_
  by_cases h7:B<(H 0).n
  .rw[hI.ph B (.inl h7)]at hl
   exact hno B l hl hlb ⟨h7,λe=>hnd (dd B h7 e),i,hi,xZ,hw⟩
  .rcases hI.fr B l (by omega) (by have:=hw.2;omega) hl with h8 | ⟨B3,l3,h8,h9,h10⟩
   .omega
   .exact hno B3 l3 h9 (h10.trans hlb) h8.add
 .exact hI.df.trans (KA.put hr.get _ _)
theorem Eff.quiet {i:Nat}(hn:(H (i+1)).n=(H i).n)(hw:W i=[]):Eff ops H W S i φ w φ w where
 le:=PLe.refl φ
 ext _ _:=rfl
 nob B l h1 h2 _:=by omega
 wob B h:=by rw[Wp,hw]at h;cases h.1
 keep B l o p _ _ _ _ _ h:=h
 al B1 B2 l1 l2 h1 h2 _ _ _ _ _:=by omega
 fr B l h1 h2 _:=by omega
 frame _ _ _:=rfl
 os:=rfl
 tape:=rfl
 output:=rfl
 size:=qgq _
theorem qf4 {φ:Phi}{w:World}{l:List Value}{cs:Array Value}{e:TypeId}{fz:Nat × Nat}(hfz:FzOK cs.size fz)(hl:VRels φ l (cs.toList.take l.length)) :
  ObjRel φ (w.alloc (.cells cs e fz)) (.cells (mkn .lf 0 l)) ⟨w.heap.size,0,cs.size⟩:=by
 have hc:∀i v,A.get none i (mkn .lf 0 l)=some v->0<=i/\∃v',cs[i-0]?=some v'/\VRel φ v v':=λi v hi=>⟨Nat.zero_le _,by
  rw[zZ,A.get_lf]at hi
  split at hi
  .obtain⟨v',hv',hr⟩:=hl.get hi
   refine⟨v',?_,hr⟩
   rw[List.getElem?_take]at hv'
   split at hv'
   .simpa using hv'
   .cases hv'
  .cases hi⟩
 exact⟨cs,e,fz,kC w _,rfl,FzC.of hfz hc,hc⟩
theorem Eff.row {i:Nat}(h:Trace P nt x ops T H W F)(hI:Inv nt ops T H W φ0 w0 ds0 S φ w a)(hr:Ready ops S i o){l:List Value}{cs:Array Value}{e:TypeId}{fz:Nat × Nat}{d:Nat}(hfz:FzOK cs.size fz)(hl:VRels φ l (cs.toList.take l.length))
  (hn:(H (i+1)).n=(H i).n+1) (hob:(H (i+1)).obj (H i).n=some (.cells (mkn .lf 0 l))) (hw:W i=[]) :
  Eff ops H W S i φ w (PSet φ (H i).n ⟨w.heap.size,0,cs.size⟩) ((World.to w d).alloc (.cells cs e fz)):=by
 have hi:i<ops.size:=(qgr.1 hr.get).1
 have hnone:φ (H i).n=none:=hI.new i hi hr.no _ (qgq _) (by omega)
 have hle:=PSet.le (l:=⟨w.heap.size,0,cs.size⟩) hnone
 have hold:∀X,X≠(H i).n->PSet φ (H i).n ⟨w.heap.size,0,cs.size⟩ X=φ X:=λX hX=>by unfold PSet;rw[if_neg hX]
 have hnew:PSet φ (H i).n ⟨w.heap.size,0,cs.size⟩ (H i).n=some ⟨w.heap.size,0,cs.size⟩:=by unfold PSet;rw[if_pos rfl]
 have hwp:∀B,¬Wp H W i B:=λB h=>by rw[Wp,hw]at h;cases h.1
 refine⟨hle,λB hB=>hold B (by omega),λB l' h1 h2 hl'=>?_,λB hB=>absurd hB (hwp B),λB l' o' p hB hl' _ _ _ ho'=>?_,λB1 B2 l1 l2 h1 h2 h3 hl1 hl2 hb hne=>?_,λB l' h1 h2 hl'=>?_,λb hb _=>?_,rfl,rfl,rfl,by simp[World.to]⟩
 .obtain rfl:B=(H i).n:=by omega
  rw[hnew]at hl';cases hl'
  exact⟨_,hob,qf4 (w:=World.to w d) hfz ((VRels.mono hle) hl)⟩
 .exact (ho'.mono hle).world (zd (World.to w d) _ ho'.lt)
 .obtain rfl:B1=(H i).n:=by omega
  rw[hnew]at hl1;cases hl1
  rw[hold B2 (λe=>hne e.symm)]at hl2
  obtain⟨p,o',_,_,h4⟩:=hI.ob B2 l2 h3 hl2
  have:=h4.lt
  simp only at hb
  omega
 .obtain rfl:B=(H i).n:=by omega
  rw[hnew]at hl';cases hl'
  exact .inl (qgq _)
 .exact zd (World.to w d) _ hb
theorem Gz {φ φ':Phi}{w w':World}{l l0:Loc}{o0 o0':zV}(h:ObjRel φ w (.cells .lf) l)(hb:l0.b=l.b)(h0:ObjRel φ w o0 l0)(h0':ObjRel φ' w' o0' l0)(hk:kindOf (some o0')=kindOf (some o0)):ObjRel φ' w' (.cells .lf) l:=by
 obtain⟨cs,e,fz,k1,k2,k3,_⟩:=h
 cases o0 with
 | loop st t nt ps a b pend =>
  obtain⟨r,k4,_⟩:=h0
  rw[hb,k1]at k4;cases k4
 | map es =>
  obtain⟨es',c,k4,_⟩:=h0
  rw[hb,k1]at k4;cases k4
 | cells c0 =>
  obtain⟨cs1,e1,fz1,k4,k5,_,_⟩:=h0
  rw[hb,k1]at k4;cases k4
  cases o0' with
  | loop=>cases hk
  | map=>cases hk
  | cells c0' =>
   obtain⟨cs2,e2,fz2,k6,k7,k8,_⟩:=h0'
   exact⟨cs2,e2,fz2,by rw[<-hb];exact k6,by omega,FzC.lf,λi v hi=>by rw[A.get_lf]at hi;cases hi⟩
theorem Inv.toR (h:Trace P nt x ops T H W F)(hI:Inv nt ops T H W φ0 w0 ds0 S φ w a){i:Nat}(hr:Ready ops S i o){z:FP}(hz:F i=some z)(hrd:z.rd=none):R φ (qc (H i)) w:=by
 have hi:i<ops.size:=(qgr.1 hr.get).1
 have hn:(H i).n<=(H ops.size).n:=h.le (by omega) (qgq _)
 refine⟨λB hB=>?_,λB l hB hl=>?_,λB₁ B₂ l₁ l₂ h1 h2 hl1 hl2 hb hne=>?_⟩
 .rw[qt]at hB
  rw[qm]
  exact (h.mono i (Nat.zero_le _) (by omega)).wf h.wf B hB
 .rw[qt]at hB
  rw[qm]
  obtain⟨p,o',h1,h2,h3⟩:=hI.ob B l (by omega) hl
  exact⟨o',by rw[Fit.uniq h h1 (Wf h hI.cl hr hz (.inl hrd) hB)];exact h2,h3⟩
 .rw[qt]at h1 h2
  rw[wN (qm (H i) B₁),wN (qm (H i) B₂)]
  obtain⟨p,hp | hp⟩:=hI.al B₁ B₂ l₁ l₂ (by omega) (by omega) hl1 hl2 hb hne
  .exact .inl ((wN (Fit.uniq h hp.1 (Wf h hI.cl hr hz (.inl hrd) h1))).2 hp.2)
  .exact .inr ((wN (Fit.uniq h hp.1 (Wf h hI.cl hr hz (.inl hrd) h2))).2 hp.2)
theorem Eff.loud {i:Nat}(h:Trace P nt x ops T H W F)(hI:Inv nt ops T H W φ0 w0 ds0 S φ w a)(hr:Ready ops S i o){m1:M}(hF:F i=some ⟨none,m1.log⟩)(hW:W i=m1.log)(hH:H (i+1)=behind (H i) m1)
  (hs:Step φ (qc (H i)) w φ' m1 w') (hR:R φ' m1 w'):Eff ops H W S i φ w φ' w':=by
 have hi:i<ops.size:=(qgr.1 hr.get).1
 have hS:=hI.cl
 have hR0:=hI.toR h hr hF rfl
 have n1:(H i).n<=(H (i+1)).n:=h.le (by omega) (by omega)
 have n2:(H (i+1)).n<=(H ops.size).n:=h.le (by omega) (qgq _)
 have en:(H (i+1)).n=m1.n:=by rw[hH,wb]
 have eo:∀B,(H (i+1)).obj B=m1.obj B:=λB=>by rw[hH,qx]
 have fitI:∀B,B<(H i).n->Fit ops H W S B i:=λB hB=>Wf h hS hr hF (.inl rfl) hB
 have fitI':∀B,B<(H (i+1)).n->Fit ops H W (add S i) B (i+1):=λB hB=>by
  by_cases hlt:B<(H i).n
  .exact qe4 h hS hr hF (.inl rfl) hlt
  .exact YU h hI hr (by omega) hB
 have wr:∀B,B<(H i).n->(Wr m1 B ↔ Wp H W i B):=λB hB=>by rw[bL hs.d hB];unfold Wp;rw[hW];exact⟨λe=>⟨e,hB⟩,λe=>e.1⟩
 have hext:∀B,(B<(H i).n\/(H (i+1)).n<=B)->φ' B=φ B:=λB hB=>hs.ext B (by rw[qt,<-en];exact hB)
 have tou:∀B,Tou (qc (H i)) m1 B->B<(H i).n/\Wp H W i B/\¬dead (H i) B:=λB ht=>by
  have h1:B<(H i).n:=by have:=ht.1;rwa [qt]at this
  exact⟨h1,(wr B h1).1 ht.2.1,λe=>ht.2.2 ((wN (qm (H i) B)).2 e)⟩
 have mapped:∀B,Wp H W i B->∃l,φ B=some l:=λB hw=>by
  refine hs.wrm B (by rw[qt];exact hw.2) ((wr B hw.2).2 hw) λe=>?_
  rcases e with e | e
  .rw[wW]at e;have:=hw.2;omega
  .rw[wh]at e;cases e
 refine⟨hs.le,hext,λB l h1 h2 hl=>?_,λB hw=>?_,λB l o' p hB hl hw hp ho' hor=>?_,λB1 B2 l1 l2 h1 h2 h3 hl1 hl2 hb hne=>?_,λB l h1 h2 hl=>?_,λb hb hno=>?_,hs.os,hs.tape,hs.output,hs.size⟩
 .rw[eo];exact hR.obj B l (by rw[<-en];exact h2) hl
 .obtain⟨l,hl⟩:=mapped B hw
  obtain⟨o',h1,h2⟩:=hR.obj B l (by have:=hw.2;omega) (hs.le B l hl)
  exact⟨l,o',hl,by rw[eo];exact h1,h2⟩
 .by_cases hex:∃B0 l0,φ B0=some l0/\l0.b=l.b/\Tou (qc (H i)) m1 B0
  .obtain⟨B0,l0,hl0,hb0,ht⟩:=hex
   obtain⟨t1,t2,t3⟩:=tou B0 ht
   have hne:B≠B0:=λe=>hw (by rw[e];exact t2)
   have hdB:dead (H p) B:=by
    obtain⟨q,hq | hq⟩:=hI.al B B0 l l0 hB (by omega) hl hl0 hb0.symm hne
    .exact (wN (Fit.uniq h hq.1 hp)).2 hq.2
    .exact absurd ((wN (Fit.uniq h hq.1 (fitI B0 t1))).2 hq.2) t3
   unfold dead at hdB
   rw[hdB]at ho';cases ho'
   obtain⟨o0,k1,k2⟩:=hR0.obj B0 l0 (by rw[qt];exact t1) hl0
   obtain⟨o0',k3,k4⟩:=hR.obj B0 l0 (by omega) (hs.le B0 l0 hl0)
   refine Gz hor hb0 k2 k4 ?_
   rw[<-k3,<-k1]
   exact hs.d.kind B0 (by rw[qt];exact t1)
  .refine (hor.mono hs.le).world (hs.frame l.b hor.lt λB0 l0 hl0 hb0 ht=>hex ⟨B0,l0,hl0,hb0,ht⟩)
 .by_cases hlt:B2<(H (i+1)).n
  .refine⟨i+1,?_⟩
   rw[wN (eo B1),wN (eo B2)]
   exact (hR.inj B1 B2 l1 l2 (by omega) (by omega) hl1 hl2 hb hne).imp (λe=>⟨fitI' B1 h2,e⟩) (λe=>⟨fitI' B2 hlt,e⟩)
  .rw[hext B2 (by omega)]at hl2
   rcases hs.fresh B1 l1 (by rw[qt];exact h1) (by omega) hl1 with h4 | ⟨B0,l0,ht,h5,h6⟩
   .obtain⟨p,o',_,_,h7⟩:=hI.ob B2 l2 h3 hl2
    have:=h7.lt
    omega
   .obtain⟨t1,t2,t3⟩:=tou B0 ht
    obtain⟨q,hq | hq⟩:=hI.al B0 B2 l0 l2 (by omega) h3 h5 hl2 (h6.trans hb) (by omega)
    .exact absurd ((wN (Fit.uniq h hq.1 (fitI B0 t1))).2 hq.2) t3
    .exact⟨q,.inr ⟨hq.1.add λe=>by have:=e.2;omega,hq.2⟩⟩
 .rcases hs.fresh B l (by rw[qt];exact h1) (by omega) hl with h4 | ⟨B0,l0,ht,h5,h6⟩
  .exact .inl h4
  .obtain⟨t1,t2,t3⟩:=tou B0 ht
   exact .inr ⟨B0,l0,t2,t3,h5,h6⟩
 .refine hs.frame b hb λB l hl hlb ht=>?_
  obtain⟨t1,t2,t3⟩:=tou B ht
  exact t3 (hno B l hl hlb t2)
theorem qaz {i:Nat}(ops:Array Oper)(o:Oper)(h:Operand.tmp i∈o.op.operands.toList):i∈o.looksAt ops :=
 List.mem_append_left _ (List.mem_filterMap.2 ⟨.tmp i,h,rfl⟩)
theorem Inv.looks (h:Trace P nt x ops T H W F)(hI:Inv nt ops T H W φ0 w0 ds0 S φ w a){i y:Nat}(hr:Ready ops S i o)(hy:y<nt)(hl:y∈o.looksAt ops):VRel φ (Tm.get y (T i)) (a.tmps.getD y undef):=by
 have hi:i<ops.size:=(qgr.1 hr.get).1
 obtain⟨q,h1,h2⟩:=hI.tm y hy
 rw[FitT.uniq h hy h1 (q:=i) ⟨by omega,λj o' hj hd=>?_⟩]
 .exact h2
 .by_cases e:j=i
  .subst e;simp[hr.no]
  .refine hr.before hI.cl hj e ?_
   refine Classical.byContradiction λhc=>?_
   exact (Jz h.reg hj hr.get e λx=>hc x.symm).1 y hd hl
theorem any_op (h:Trace P nt x ops T H W F)(hI:Inv nt ops T H W φ0 w0 ds0 S φ w a){i:Nat}(hr:Ready ops S i o){r:Option Nat}{n:Nat}{Q:Exit->Act->World->Prop}{K:Act->World->Prop}
  (hk:∀φ' w' a',Inv nt ops T H W φ0 w0 ds0 (add S i) φ' w' a'->K a' w'):wpOpIn (Fw r) n P ops Q i K a w:=by
 have hi:i<ops.size:=(qgr.1 hr.get).1
 obtain⟨g,d,hg,hd,hst⟩:=h.step i o hr.get
 have hwant:∀c,xN (T i) g=some c->Region.wanted o (yielded ops a.tmps)=c:=λc hc=>by
  refine bS hg (φ:=φ) hI.ts (λp b e=>?_) hc
  subst e
  unfold xf at hg
  split at hg
  .cases hg
  .rename_i k b' hgd
   obtain⟨p',hp',hg⟩:=qa hg
   split at hg
   .rename_i hlt
    cases hg
    refine hI.looks h hr hlt ?_
    unfold Oper.looksAt
    rw[hgd]
    exact List.mem_append_right _ (by simp[hp'])
   .cases hg
 have hop:OpR φ nt (T i) a o.op.operands.toList:=λy hy hlt=>hI.looks h hr hlt (qaz ops o hy)
 unfold wpOpIn
 rw[hr.get]
 rcases hst.inv h.hx with ⟨hw,hT,hH,hW,hF⟩ | ⟨hw,hnd,v,hT,hdid⟩
 .simp only[hwant _ hw,Bool.false_eq_true,if_false]
  exact⟨λ_ _=>trivial,hk φ w _ (hI.next h hr (Eff.quiet (by rw[hH]) hW) hd hT (xc φ))⟩
 .simp only[hwant _ hw,if_true]
  revert hdid
  generalize hHi:H (i+1)=Hi
  generalize hWi:W i=Wi
  generalize hFi:F i=Fi
  intro hdid
  cases hdid with
  | pure p hp hpv =>
   obtain⟨v',h1,h2⟩:=hp (T i) v hpv φ w a hop
   exact kw hnd h1 (hk φ w _ (hI.next h hr (Eff.quiet (by rw[hHi,wb,qt]) hWi) hd hT h2))
  | row f m1 hf hfv =>
   obtain⟨l,hm,hind,hrun⟩:=hf x (T i) _ v m1 hfv
   obtain⟨dr,cs,e,fz,v',h1,h2,h3,h4⟩:=hrun φ w a hop
   have hn:(H (i+1)).n=(H i).n+1:=by rw[hHi,wb,hm];unfold newRow;rw[M.n_alloc,qt]
   have hnone:φ (H i).n=none:=hI.new i hi hr.no _ (qgq _) (by omega)
   refine kw hnd h1 (hk _ _ _ (hI.next h hr (Eff.row h hI hr h2 h3 hn ?_ hWi) hd hT (h4 _ (PSet.le hnone) ?_)))
   .rw[hHi,qx,hm];unfold newRow;rw[M.obj_alloc,qt,if_pos rfl]
   .rw[qt];unfold PSet;rw[if_pos rfl]
  | load f rd hf hfv =>
   obtain⟨hm,B,hB,hind,hrun⟩:=hf x (T i) _ v _ hfv
   obtain⟨v',h1,h2⟩:=hrun φ w a hop (λl ob hl hob=>by
    rw[qm]at hob
    have hlt:B<(H i).n:=by
     rcases Nat.lt_or_ge B (H i).n with e | e
     .exact e
     .rw[(h.mono i (Nat.zero_le _) (by omega)).wf h.wf B e]at hob;cases hob
    obtain⟨p,o',k1,k2,k3⟩:=hI.ob B l (qgs hlt (h.le (by omega) (qgq _))) hl
    rw[<-Fit.uniq h k1 (Wf h hI.cl hr hFi (.inr hB) hlt),hob]at k2
    cases k2;exact k3)
   exact kw hnd h1 (hk φ w _ (hI.next h hr (Eff.quiet (by rw[hHi,wb,qt]) hWi) hd hT h2))
  | loud f m1 hf hfv =>
   refine (hf (T i) _ v m1 hfv).2 r n φ w a K Q (hI.toR h hr hFi rfl) hop ?_ (λφ' w' v' e1 e2 e3=>?_)
   .intro B h1 h2
    rw[qt]at h1
    exact hI.new i hi hr.no B h1 (by rw[hHi,wb];exact h2)
   .exact hk φ' w' _ (hI.next h hr (Eff.loud h hI hr hFi hWi hHi e1 e2) hd hT e3)
end
end Go.Dx
namespace Go.Dx
open Go.RowKit
def unl (S:Nat->Bool):Nat->Nat
 | 0=>0
 | n+1=>unl S n+(bif S n then 0 else 1)
theorem qd0 (S:Nat->Bool):∀n,unl S n<=n
 | 0=>qgq _
 | n+1=>by have:=qd0 S n;unfold unl;cases S n<;>simp<;>omega
theorem Jk {S:Nat->Bool}{i:Nat}(h:S i=false):∀n,unl S n=unl (add S i) n+(if i<n then 1 else 0)
 | 0=>by simp[unl]
 | n+1=>by
  have:=Jk h n
  unfold unl
  by_cases e:n=i
  .subst e
   rw[xZ,h,this]
   simp
  .rw[yo e,this]
   by_cases e2:i<n
   .rw[if_pos e2,if_pos (by omega)];omega
   .rw[if_neg e2,if_neg (by omega)];rfl
theorem bQ {a b:Nat}(h:a≠b):Nat.beq a b=false:=by
 cases e:Nat.beq a b with
 | false=>rfl
 | true=>exact absurd (qh0 e) h
section
variable {P:Program}{nt:Nat}{x:Ex}
variable {ops:Array Oper}{T:Nat->Tm}{H:Nat->M}{W:Nat->List Nat}{F:Nat->Option FP}
variable {φ0:Phi}{w0:World}{ds0:Act}
def kR (l:Array Bool):Nat->Bool:=λj=>l.getD j false
theorem VV {l:Array Bool}{i:Nat}(h:i<l.size):kR (l.setIfInBounds i true)=add (kR l) i:=by
 funext j
 unfold kR add
 by_cases e:j=i
 .subst e;simp[h]
 .have e':i≠j:=λx=>e x.symm
  simp[e,Array.getElem?_setIfInBounds_ne e']
theorem mem_ready {l:Array Bool}(hs:l.size=ops.size){i:Nat}(h:i∈Region.ready .any ops l):∃o,Ready ops (kR l) i o:=by
 unfold Region.ready at h
 rw[List.mem_filter]at h
 obtain⟨h1,h2⟩:=h
 have hi:i<ops.size:=by simpa using h1
 rw[qgt]at h2
 refine⟨ops[i],by simp[hi],?_,λe he hb=>?_⟩
 .have:=h2.1
  unfold kR
  have hi':i<l.size:=by omega
  simp[hi']at this ⊢
  exact this
 .have h3:=h2.2
  simp only[Array.getElem?_eq_getElem hi,Option.map_some,Option.getD_some,Array.all_eq_true']at h3
  have:=h3 e (by simpa using he)
  rw[hb]at this
  simpa [kR]using this
theorem KS (h:Trace P nt x ops T H W F){l:Array Bool}(hs:l.size=ops.size)(hn:Region.ready .any ops l=[]):∀j,j<ops.size->kR l j=true:=by
 intro j
 induction j using Nat.strongRecOn with
 | _ j ih =>
  intro hj
  refine Classical.byContradiction λhl=>?_
  have hl':kR l j=false:=by simpa using hl
  have:j∈Region.ready .any ops l:=by
   unfold Region.ready
   rw[List.mem_filter]
   refine⟨by simpa using hj,?_⟩
   rw[qgt]
   constructor
   .have hj':j<l.size:=by omega
    unfold kR at hl'
    simp[hj']at hl' ⊢
    exact hl'
   .simp only[Array.getElem?_eq_getElem hj,Option.map_some,Option.getD_some,Array.all_eq_true']
    intro e he
    cases hb:Region.binds .any e with
    | false=>rfl
    | true =>
     have hlt:=(gk h.reg (j:=j) (o:=ops[j]) (by simp[hj])).1 e (by simpa using he) hb
     have:=ih e.on hlt (by omega)
     simpa [kR]using this
  rw[hn]at this;cases this
theorem YI (h:Trace P nt x ops T H W F){r:Option Nat}{n:Nat}{Q:Exit->Act->World->Prop}
  (hk:∀S φ w a,(∀j,j<ops.size->S j=true)->Inv nt ops T H W φ0 w0 ds0 S φ w a->Q .normal a w):∀(fuel:Nat) (l:Array Bool) (φ:Phi) (w:World) (a:Act),l.size=ops.size->unl (kR l) ops.size<=fuel ->
   Inv nt ops T H W φ0 w0 ds0 (kR l) φ w a->wpAnyIn (Fw r) n P .any ops Q fuel l a w
 | 0,l,φ,w,a,hs,hu,hI=>by
  have hn:Region.ready .any ops l=[]:=by
   cases hr:Region.ready .any ops l with
   | nil=>rfl
   | cons i t =>
    obtain⟨o,ho⟩:=mem_ready (ops:=ops) hs (i:=i) (by rw[hr];simp)
    have:=Jk ho.no ops.size
    have hi:i<ops.size:=(qgr.1 ho.get).1
    rw[if_pos hi]at this
    omega
  exact⟨hn,hk _ _ _ _ (KS h hs hn) hI⟩
 | fuel+1,l,φ,w,a,hs,hu,hI=>by
  refine⟨λhn=>hk _ _ _ _ (KS h hs hn) hI,λi hi=>?_⟩
  obtain⟨o,ho⟩:=mem_ready hs hi
  have hil:i<ops.size:=(qgr.1 ho.get).1
  refine any_op h hI ho λφ' w' a' hI'=>?_
  have e:=VV (l:=l) (i:=i) (by omega)
  refine YI h hk fuel _ φ' w' a' (by simp[hs]) ?_ (by rw[e];exact hI')
  rw[e]
  have:=Jk ho.no ops.size
  rw[if_pos hil]at this
  omega
theorem Inv.start (h:Trace P nt x ops T H W F){a:Act}(hR:R φ0 (H 0) w0)(hT:TR φ0 nt (T 0) a.tmps)(hF:Free φ0 (H 0).n (H ops.size).n):Inv nt ops T H W φ0 w0 a (λ_=>false) φ0 w0 a where
 cl j o _ hs:=by cases hs
 ph _ _:=rfl
 le:=PLe.refl _
 new j hj _ B h1 h2:=hF B (qgz (h.le (Nat.zero_le _) (by omega)) h1) (qgs h2 (h.le (by omega) (qgq _)))
 tm y hy:=⟨0,⟨Nat.zero_le _,λj o _ _=>by simp⟩,hT.rel y hy⟩
 ts:=hT.size
 ob B l hB hl:=by
  have hlt:B<(H 0).n:=by
   rcases Nat.lt_or_ge B (H 0).n with e | e
   .exact e
   .rw[hF B e hB]at hl;cases hl
  obtain⟨o,h1,h2⟩:=hR.obj B l hlt hl
  exact⟨0,o,⟨Nat.zero_le _,hlt,λj _ _=>by simp⟩,h1,h2⟩
 al B1 B2 l1 l2 hB1 hB2 hl1 hl2 hb hne:=by
  have lt:∀B l,B<(H ops.size).n->φ0 B=some l->B<(H 0).n:=λB l hB hl=>by
   rcases Nat.lt_or_ge B (H 0).n with e | e
   .exact e
   .rw[hF B e hB]at hl;cases hl
  refine⟨0,(hR.inj B1 B2 l1 l2 (lt _ _ hB1 hl1) (lt _ _ hB2 hl2) hl1 hl2 hb hne).imp (λe=>⟨⟨Nat.zero_le _,lt _ _ hB1 hl1,λj _ _=>by simp⟩,e⟩) (λe=>⟨⟨Nat.zero_le _,lt _ _ hB2 hl2,λj _ _=>by simp⟩,e⟩)⟩
 wm j _ hs:=by cases hs
 fr B l h1 h2 hl:=by rw[hF B h1 h2]at hl;cases hl
 frame _ _ _:=rfl
 os:=rfl
 tape:=rfl
 output:=rfl
 size:=qgq _
 df:=KA.refl _ _
theorem Inv.finish (h:Trace P nt x ops T H W F){S:Nat->Bool}{φ:Phi}{w:World}{a:Act}(hS:∀j,j<ops.size->S j=true)(hI:Inv nt ops T H W φ0 w0 ds0 S φ w a) :
  R φ (H ops.size) w/\Step φ0 (H 0) w0 φ (H ops.size) w/\TR φ nt (T ops.size) a.tmps/\KA ops ds0 a:=by
 have hd:=h.mono (i:=0) ops.size (Nat.zero_le _) (qgq _)
 have fit:∀B,B<(H ops.size).n->Fit ops H W S B ops.size:=λB hB=>⟨qgq _,hB,λj hj _=>by simp[hS j hj,hj]⟩
 have wr:∀j B,j<ops.size->Wp H W j B->B<(H 0).n->Wr (H ops.size) B:=λj B hj hw h0=>by
  obtain⟨g,d,_,_,hst⟩:=h.step j ops[j] (by simp[hj])
  rcases hst.inv h.hx with ⟨_,_,_,hW,_⟩ | ⟨_,_,v,_,hdid⟩
  .rw[Wp,hW]at hw;cases hw.1
  .have:Wr (H (j+1)) B:=by
    revert hdid hw
    generalize hHj:H (j+1)=Hj
    unfold Wp
    generalize W j=Wj
    generalize F j=Fj
    intro hw hdid
    cases hdid with
    | loud f m1 hf hfv =>
     unfold Wr
     rw[kj,km]
     rcases Nat.lt_or_ge B (H j).base with e | e
     .exact .inr (dE e hw.1)
     .exact .inl e
    | _=>cases hw.1
   exact this.mono (h.mono _ (by omega) (qgq _))
 have tc:∀B,Tc ops H W S B->Tou (H 0) (H ops.size) B:=λB ht=>by
  obtain⟨h1,h2,j,h3,h4,h5⟩:=ht
  exact⟨h1,wr j B h3 h5 h1,h2⟩
 refine⟨⟨hd.wf h.wf,λB l hB hl=>?_,λB₁ B₂ l₁ l₂ h1 h2 hl1 hl2 hb hne=>?_⟩,⟨hd,hI.le,hI.ph,λB l h1 h2 hl=>?_,λB hB h1 h2=>?_,hI.os,hI.tape,hI.output,hI.size,λb hb hno=>?_⟩,⟨hI.ts,h.tl,λy hy=>?_⟩,hI.df⟩
 .obtain⟨p,o,h1,h2,h3⟩:=hI.ob B l hB hl
  exact⟨o,by rw[Fit.uniq h h1 (fit B hB)];exact h2,h3⟩
 .obtain⟨p,hp | hp⟩:=hI.al B₁ B₂ l₁ l₂ h1 h2 hl1 hl2 hb hne
  .exact .inl ((wN (Fit.uniq h hp.1 (fit _ h1))).2 hp.2)
  .exact .inr ((wN (Fit.uniq h hp.1 (fit _ h2))).2 hp.2)
 .rcases hI.fr B l h1 h2 hl with h3 | ⟨B0,l0,h3,h4,h5⟩
  .exact .inl h3
  .exact .inr ⟨B0,l0,tc B0 h3,h4,h5⟩
 .-- some operation wrote it
  refine Classical.byContradiction λhno=>h2 ?_
  have key:∀p,p<=ops.size->Wr (H p) B->Wr (H 0) B:=by
   intro p
   induction p with
   | zero=>exact λ_ h=>h
   | succ p ih =>
    intro hp hw
    refine ih (by omega) ?_
    obtain⟨g,d,_,_,hst⟩:=h.step p ops[p] (by simp[show p<ops.size by omega])
    have hBp:B<(H p).n:=qgs hB (h.le (Nat.zero_le _) (by omega))
    have hnw:¬Wp H W p B:=λe=>by
     obtain⟨l,hl⟩:=hI.wm p (by omega) (hS p (by omega)) B e
     rw[hI.ph B (.inl hB)]at hl
     exact hno ⟨l,hl⟩
    rcases hst.inv h.hx with ⟨_,_,hH,_⟩ | ⟨_,_,v,_,hdid⟩
    .rw[hH]at hw;exact hw
    .revert hdid hw hnw
     generalize H (p+1)=Hp
     unfold Wp
     generalize W p=Wj
     generalize F p=Fj
     intro hw hnw hdid
     have old:∀(m1:M),B ∉ m1.log->Wr (behind (H p) m1) B->Wr (H p) B:=λm1 hn hw=>by
      rcases hw with e | e
      .rw[kj]at e;exact .inl e
      .rw[km]at e
       exact .inr (KK e hn)
     cases hdid with
     | loud f m1 hf hfv=>exact old m1 (λe=>hnw ⟨e,hBp⟩) hw
     | row f m1 hf hfv =>
      obtain⟨l,hm,_⟩:=hf _ _ _ _ _ hfv
      refine old m1 (λe=>?_) hw
      rw[hm]at e
      have:((qc (H p)).alloc (.cells (mkn .lf 0 l))).log=[]:=by rw[M.log_alloc,wh]
      unfold newRow at e
      rw[this]at e;cases e
     | pure=>exact old _ (by rw[wh];simp) hw
     | load=>exact old _ (by rw[wh];simp) hw
  exact key ops.size (qgq _) h1
 .exact hI.frame b hb λB l hl hlb ht=>hno B l hl hlb (tc B ht)
 .obtain⟨q,h1,h2⟩:=hI.tm y hy
  rw[FitT.uniq h hy h1 (q:=ops.size) ⟨qgq _,λj o hj _=>by
   have:j<ops.size:=(qgr.1 hj).1
   simp[hS j this,this]⟩]
  exact h2
theorem FP.meet_nil {y z:FP}(h1:y.wr=[])(h2:z.wr=[]):FP.meet y z=true:=by unfold FP.meet;rw[h1,h2]
theorem any_ok (hx:jn P x)(hP:P.follows .mixedOrders=true)(ht:nt<=512){ops:Array Oper}{das:List DA}(hreg:KT ops (zP [] ops.toList)=true)
  (hc:JC P nt ops (ops.toList.map λo=>(zB P nt o).cl) (zP [] ops.toList) ops.toList 0=some das) {k:K} {t:Tm} {m:M} {out:Out} (h:XV x k das [] t m=some out) :
  ∃t' m',k t' m'=some out/\DStep m m'/\∀r n id φ w a Q,R φ m w->TR φ nt t a.tmps->Free φ m.n m'.n ->
   (∀φ' w' a',Step φ m w φ' m' w'->R φ' m' w'->TR φ' nt t' a'.tmps->KA ops a a'->Q .normal a' w')->(Code.region id ops true).wpIn (Fw r) n P Q a w:=by
 have hcls:∀j o,ops[j]?=some o->(ops.toList.map λo=>(zB P nt o).cl).getD j 0=(zB P nt o).cl:=by
  intro j o ho
  have:ops.toList[j]?=some o:=by simpa using ho
  simp[this]
 obtain⟨T,H,W,F,h1,h2,h3,h4⟩:=Kj hx hcls ops.toList 0 das rfl hc [] t m h
 simp only[Nat.zero_add,Array.length_toList]at h3
 have hstep:∀j o,ops[j]?=some o->∃g d,xf nt ops o.guard=some g/\vb nt o.dst=some d/\Stp P nt x o g d (T j) (H j) (T (j+1)) (H (j+1)) (W j) (F j):=λj o ho=>by
  obtain⟨g,d,q1,q2,q3,_⟩:=h4 j o (Nat.zero_le _) ho
  exact⟨g,d,q1,q2,q3⟩
 have hmeet:∀i j y z,i<j->j<ops.size->F i=some y->F j=some z->¬Cmp ops i j->FP.meet y z=true:=by
  intro i j y z hij hj hy hz hcm
  obtain⟨g,d,q1,q2,q3,q4⟩:=h4 j ops[j] (Nat.zero_le _) (by simp[hj])
  obtain⟨g',d',p1,p2,p3,_⟩:=h4 i (ops[i]'(by omega)) (Nat.zero_le _) (by simp[show i<ops.size by omega])
  have hbit:(((zP [] ops.toList).getD j 0).testBit i)=false:=by
   unfold Cmp at hcm
   rw[Nat.max_eq_right (by omega),Nat.min_eq_left (by omega)]at hcm
   simpa using hcm
  have cls2:∀(q:Nat) (hq:q<ops.size) (g:Option (Nat × Bool)) (d:Option Nat) (u:FP),F q=some u->Stp P nt x ops[q] g d (T q) (H q) (T (q+1)) (H (q+1)) (W q) (F q)->2<=(zB P nt ops[q]).cl/\((zB P nt ops[q]).cl=2->u.wr=[]):=by
   intro q hq g d u hu hs
   revert hs hu
   generalize F q=Fq
   generalize W q=Wq
   generalize T (q+1)=Tq
   generalize H (q+1)=Hq
   intro hu hs
   cases hs with
   | skip=>cases hu
   | run v m1 hw he =>
    cases hb:Nat.ble 2 (zB P nt ops[q]).cl with
    | false=>rw[hb]at hu;cases hu
    | true =>
     refine⟨qgw hb,λhcl=>?_⟩
     rw[hb]at hu
     cases hu
     rcases vB (nt:=nt) (o:=ops[q]) hx with ⟨hnd,hK⟩ | hbad
     .revert hcl he hb
      generalize zB P nt ops[q]=ci at hK
      intro he hb hcl
      cases hK with
      | pure=>cases hcl
      | row=>cases hcl
      | load y f hf =>
       obtain⟨hm,_⟩:=hf _ _ _ _ _ he
       show m1.log=[]
       rw[hm,wh]
      | loud _ e1=>rw[e1]at hcl;cases hcl
     .rw[hbad]at he;cases he
  obtain⟨a1,a2⟩:=cls2 j hj g d z hz q3
  obtain⟨b1,b2⟩:=cls2 i (by omega) g' d' y hy p3
  by_cases hboth:(zB P nt (ops[i]'(by omega))).cl=2/\(zB P nt ops[j]).cl=2
  .exact FP.meet_nil (b2 hboth.1) (a2 hboth.2)
  .refine q4 z hz i ?_ y (by rw[if_neg (by omega)];exact hy)
   unfold Zu
   rw[List.mem_filter]
   refine⟨by simpa using hij,?_⟩
   rw[hcls j ops[j] (by simp[hj]),hcls i (ops[i]'(by omega)) (by simp[show i<ops.size by omega]),hbit]
   unfold both3
   rw[qgv b1,qgv a1]
   simp only[Bool.true_and,Bool.not_false,Bool.and_true,Bool.not_eq_true',Bool.and_eq_false_iff]
   by_cases e:(zB P nt (ops[i]'(by omega))).cl=2
   .refine .inr ?_
    have:(zB P nt ops[j]).cl≠2:=λe2=>hboth ⟨e,e2⟩
    exact bQ this
   .exact .inl (bQ e)
 have hchain:∀p,p<=ops.size->DStep (H 0) (H p):=by
  intro p
  induction p with
  | zero=>exact λ_=>DStep.refl _
  | succ p ih =>
   intro hp
   obtain⟨g,d,_,_,hs⟩:=hstep p ops[p] (by simp[show p<ops.size by omega])
   exact (ih (by omega)).trans (hs.dstep hx).1
 refine⟨T ops.size,H ops.size,h3,by rw[<-h2];exact hchain _ (qgq _),λr n id φ w a Q hR hT hF hk=>?_⟩
 have htr:Trace P nt x ops T H W F:=⟨hx,hreg,ht,by rw[h2];exact hR.wf,hstep,hmeet⟩
 refine wpIn_region_any hP ?_
 have hR':R φ (H 0) { w with drawn:=w.drawn+1 }:=by rw[h2];exact hR.heapEq rfl
 have hI:=Inv.start htr hR' (by rw[h1];exact hT) (by rw[h2];exact hF)
 refine YI htr (φ0:=φ) (w0:={ w with drawn:=w.drawn+1 }) (ds0:=a) (λS φ' w' a' hS hI'=>?_) ops.size _ φ _ a (by simp) (qd0 _ _) ?_
 .obtain⟨e1,e2,e3,e4⟩:=hI'.finish htr hS
  rw[h2]at e2
  exact hk φ' w' a' ((Step.to (w.drawn+1)).trans e2) e1 e3 e4
 .have:kR (Array.replicate ops.size false)=λ_=>false:=by
   funext j
   unfold kR
   by_cases e:j<ops.size<;>simp[e]
  rw[this];exact hI
end
end Go.Dx
namespace Go.Dx
open Go.RowKit
theorem qc1 {a b:Option Nat}(h:qO a b=true):a=b:=by
 unfold qO at h
 split at h
 .rfl
 .rw[qh0 h]
 .cases h
theorem qA_of {a b:Addr}(h:qA a b=true):a=b:=by
 unfold qA at h
 simp only[qgt]at h
 obtain⟨⟨h1,h2⟩,h3⟩:=h
 cases a;cases b
 rw[Addr.mk.injEq]
 exact⟨qh0 h1,qh0 h2,qc1 h3⟩
theorem Ja {α:Type}{f:α->α->Bool}(hf:∀a b,f a b=true->a=b){a b:Option α}(h:qOp f a b=true):a=b:=by
 unfold qOp at h
 split at h
 .rfl
 .rw[hf _ _ h]
 .cases h
theorem Xz {f:Value->Value->Bool}(hf:∀a b,f a b=true->a=b):∀{l k:List Value},qL f l k=true->l=k
 | [],[],_=>rfl
 | [],_::_,h=>by cases h
 | _::_,[],h=>by cases h
 | a::l,b::k,h=>by
  unfold qL at h
  rw[qgt]at h
  rw[hf a b h.1,Xz hf h.2]
theorem QR {α:Type}{a b:Array α}(h:a.toList=b.toList):a=b:=Array.toList_inj.1 h
theorem qc2 {a b:Value}(h:qV0 a b=true):a=b:=by
 unfold qV0 at h
 split at h
 .rename_i x y;cases x<;>cases y<;>first | rfl | cases h
 .rw[qgt]at h
  have h2:=h.2
  rw[vD]at h2
  rename_i k x k' y
  have h3:x=y:=by simpa using h2
  rw[Wv h.1,h3]
 .rename_i x y
  rw[xe]at h
  have:=show x.data.toList=y.data.toList by simpa using h
  cases x with | mk x=>cases y with | mk y=>rw[show x=y from QR this]
 .rw[Ja (λ_ _=>qA_of) h]
 .simp only[qgt]at h
  rw[Ja (λ_ _=>qA_of) h.1.1,qh0 h.1.2,qh0 h.2]
 .rw[qc1 h]
 .rw[qc1 h]
 .rfl
 .rfl
 .cases h
theorem FE:∀{n:Nat} {a b:Value},qV n a b=true->a=b:=by
 intro n
 induction n with
 | zero=>intro a b h;exact qc2 h
 | succ n ih =>
  intro a b h
  have ih':∀a b,qV n a b=true->a=b:=λ_ _=>ih
  unfold qV at h
  split at h
  .simp only[qgt]at h
   rw[qh0 h.1.1,QR (Xz ih' h.1.2),QR (Xz ih' h.2)]
  .simp only[qgt]at h
   rw[qh0 h.1,ih h.2]
  .rw[QR (Xz ih' h)]
  .rw[QR (Xz ih' h)]
  .exact qc2 h
theorem Bp (a:Value):qNe0 a a=false:=by
 cases a with
 | bool b=>cases b<;>rfl
 | int k n=>show (!(Nat.beq (ik k) (ik k)&&eqI n n))=false;rw[vD];simp
 | pointer x =>
  show (!qOp qA x x)=false
  cases x with
  | none=>rfl
  | some a=>cases a with | mk b o s=>cases s<;>simp[qOp,qA,qO]
 | _=>simp[qNe0]
theorem FD {a b:Value}(h:qNe0 a b=true):a≠b:=by
 intro e
 subst e
 rw[Bp]at h
 cases h
theorem ZZ {f:Value->Value->Bool}(hf:∀a b,f a b=true->a≠b):∀{l k:List Value},qNeL f l k=true->l≠k
 | [],[],h=>by cases h
 | [],_::_,h=>by cases h
 | _::_,[],h=>by cases h
 | a::l,b::k,h=>by
  unfold qNeL at h
  rw[Bool.or_eq_true]at h
  intro e
  cases e
  rcases h with h | h
  .exact hf _ _ h rfl
  .exact ZZ hf h rfl
theorem qNe_of:∀{n:Nat} {a b:Value},qNe n a b=true->a≠b:=by
 intro n
 induction n with
 | zero=>intro a b h;exact FD h
 | succ n ih =>
  intro a b h
  have ih':∀a b,qNe n a b=true->a≠b:=λ_ _=>ih
  unfold qNe at h
  split at h
  .intro e;cases e;exact ZZ ih' h rfl
  .intro e;cases e;exact ZZ ih' h rfl
  .exact FD h
section
variable {α:Type}{f:α->α->Bool}(hf:∀a b,f a b=true->a=b)
include hf
theorem FB {x y:N α}(h:qN f x y=true):x=y:=by
 cases x;cases y
 unfold qN at h
 simp only[qgt]at h
 obtain⟨⟨⟨⟨⟨⟨⟨h0,h1⟩,h2⟩,h3⟩,h4⟩,h5⟩,h6⟩,h7⟩:=h
 rw[hf _ _ h0,hf _ _ h1,hf _ _ h2,hf _ _ h3,hf _ _ h4,hf _ _ h5,hf _ _ h6,hf _ _ h7]
theorem KR:∀{x y:T α},qT f x y=true->x=y
 | .lf,.lf,_=>rfl
 | .lf,.nd ..,h=>by cases h
 | .nd ..,.lf,h=>by cases h
 | .nd v a b c d,.nd v' a' b' c' d',h=>by
  unfold qT at h
  simp only[qgt]at h
  obtain⟨⟨⟨⟨h0,h1⟩,h2⟩,h3⟩,h4⟩:=h
  rw[hf _ _ h0,KR h1,KR h2,KR h3,KR h4]
end
theorem qc0:∀{l k:List (Value × Value)},qEs l k=true->l=k
 | [],[],_=>rfl
 | [],_::_,h=>by cases h
 | _::_,[],h=>by cases h
 | (a,b)::l,(c,d)::k,h=>by
  unfold qEs at h
  simp only[qgt]at h
  rw[FE h.1.1,FE h.1.2,qc0 h.2]
theorem qD_of {a b:zV}(h:qD a b=true):a=b:=by
 unfold qD at h
 split at h
 .rw[KR (λ_ _=>FB (λ_ _=>Ja (λ_ _=>FE))) h]
 .rw[qc0 h]
 .cases h
theorem XA:∀{l k:List Nat},FC l k=true->l=k
 | [],[],_=>rfl
 | [],_::_,h=>by cases h
 | _::_,[],h=>by cases h
 | a::l,b::k,h=>by
  unfold FC at h
  rw[qgt]at h
  rw[qh0 h.1,XA h.2]
theorem qM_of {a b:M}(h:qM a b=true):a=b:=by
 cases a;cases b
 unfold qM at h
 simp only[qgt]at h
 obtain⟨⟨⟨h1,h2⟩,h3⟩,h4⟩:=h
 rw[M.mk.injEq]
 exact⟨KR (λ_ _=>FB (λ_ _=>FB (λ_ _=>FB (λ_ _=>Ja (λ_ _=>qD_of))))) h4,qh0 h1,qh0 h2,XA h3⟩
theorem qE_of {a b:Option E}(h:qE a b=true):a=b:=by
 unfold qE at h
 split at h
 .rfl
 .rw[qh0 h]
 .rfl
 .cases h
theorem yJ {j:Nat}:∀{l:List Nat},ZY j l=true ↔ j∈l
 | []=>by simp[ZY]
 | a::l=>by
  unfold ZY
  rw[Bool.or_eq_true,yJ,List.mem_cons]
  exact or_congr ⟨λh=>qh0 h,λh=>by subst h;exact Nat.beq_refl j⟩ Iff.rfl
section
variable {rd:Value × Value->Tm->Option Out}{es:List (Value × Value)}{m:M}
def BU (rd:Value × Value->Tm->Option Out)(es:List (Value × Value))(m:M)(seen:List Nat)(t:Tm)(l:List Out):Prop:=∀o,RmOut rd es m seen t o ↔ ∃u∈l,o=some u
inductive RmFst (rd:Value × Value->Tm->Option Out) (es:List (Value × Value)) (m:M) (seen:List Nat) (t:Tm) (j:Nat) (kv:Value × Value):Option Out->Prop
 | stuck (h:rd kv t=none):RmFst rd es m seen t j kv none
 | moved (t':Tm) (m':M) (h:rd kv t=some ⟨none,t',m'⟩) (hm:m'≠m):RmFst rd es m seen t j kv none
 | leave (e:E) (t':Tm) (m':M) (h:rd kv t=some ⟨some e,t',m'⟩):RmFst rd es m seen t j kv (some ⟨some e,t',m'⟩)
 | next (t':Tm) (o:Option Out) (h:rd kv t=some ⟨none,t',m⟩) (hn:RmOut rd es m (j::seen) t' o):RmFst rd es m seen t j kv o
theorem RmOut.fst {seen:List Nat}{t:Tm}{o:Option Out}(h:RmOut rd es m seen t o):((∀j,j<es.length->j∈seen)/\o=some ⟨none,t,m⟩)\/∃j kv,es[j]?=some kv/\j ∉ seen/\RmFst rd es m seen t j kv o:=by
 cases h with
 | done _ _ h=>exact .inl ⟨h,rfl⟩
 | stuck _ _ j kv hj hs h=>exact .inr ⟨j,kv,hj,hs,.stuck h⟩
 | moved _ _ j kv t' m' hj hs h hm=>exact .inr ⟨j,kv,hj,hs,.moved t' m' h hm⟩
 | leave _ _ j kv e t' m' hj hs h=>exact .inr ⟨j,kv,hj,hs,.leave e t' m' h⟩
 | next _ _ j kv t' o hj hs h hn=>exact .inr ⟨j,kv,hj,hs,.next t' o h hn⟩
theorem RmFst.out {seen:List Nat}{t:Tm}{o:Option Out}{j:Nat}{kv:Value × Value}(hj:es[j]?=some kv)(hs:j ∉ seen)(h:RmFst rd es m seen t j kv o):RmOut rd es m seen t o:=by
 cases h with
 | stuck h=>exact .stuck seen t j kv hj hs h
 | moved t' m' h hm=>exact .moved seen t j kv t' m' hj hs h hm
 | leave e t' m' h=>exact .leave seen t j kv e t' m' hj hs h
 | next t' o h hn=>exact .next seen t j kv t' o hj hs h hn
theorem qdw {ih:List Nat->Tm->Option (List Out)}(hih:∀seen t l,ih seen t=some l->BU rd es m seen t l){seen:List Nat}{t:Tm}{j:Nat}{kv:Value × Value}{l:List Out}(h:enm1 ih m seen j (rd kv t)=some l) :
  ∀o,RmFst rd es m seen t j kv o ↔ ∃u∈l,o=some u:=by
 unfold enm1 at h
 cases hr:rd kv t with
 | none=>rw[hr]at h;cases h
 | some u =>
  obtain⟨e,t',m'⟩:=u
  rw[hr]at h
  cases e with
  | some e =>
   simp only[ob]at h
   cases h
   intro o
   constructor
   .intro ho
    cases ho with
    | stuck h=>rw[hr]at h;cases h
    | moved _ _ h=>rw[hr]at h;cases h
    | leave _ _ _ h=>rw[hr]at h;cases h;exact⟨_,List.mem_singleton_self _,rfl⟩
    | next _ _ h=>rw[hr]at h;cases h
   .rintro ⟨u,hu,rfl⟩
    rw[qgu]at hu
    subst hu
    exact .leave e t' m' hr
  | none =>
   simp only[ob]at h
   cases hq:qM m' m with
   | false=>rw[hq]at h;cases h
   | true =>
    rw[hq]at h
    have hm:=qM_of hq
    subst hm
    have hj:=hih _ _ _ (show ih (j::seen) t'=some l from h)
    intro o
    constructor
    .intro ho
     cases ho with
     | stuck h=>rw[hr]at h;cases h
     | moved _ _ h hm=>rw[hr]at h;cases h;exact absurd rfl hm
     | leave _ _ _ h=>rw[hr]at h;cases h
     | next _ _ h hn=>rw[hr]at h;cases h;exact (hj o).1 hn
    .intro ho
     exact .next t' o hr ((hj o).2 ho)
theorem Gi {α:Type}{a b:Option (List α)}{l:List α}(h:appO a b=some l):∃x y,a=some x/\b=some y/\l=x++y:=by
 cases a with
 | none=>cases h
 | some x =>
  cases b with
  | none=>cases h
  | some y=>cases h;exact⟨x,y,rfl,rfl,rfl⟩
theorem qdx {ih:List Nat->Tm->Option (List Out)}(hih:∀seen t l,ih seen t=some l->BU rd es m seen t l){seen:List Nat}{t:Tm}:∀(r:List (Value × Value)) (j:Nat) (l:List Out),(∀i,r[i]?=es[j+i]?)->enmL rd ih m seen t j r=some l ->
  ∀o,(∃i kv,es[i]?=some kv/\j<=i/\i ∉ seen/\RmFst rd es m seen t i kv o) ↔ ∃u∈l,o=some u:=by
 intro r
 induction r with
 | nil =>
  intro j l hr h o
  cases h
  constructor
  .rintro ⟨i,kv,hi,hj,_⟩
   have:=hr (i-j)
   rw[show j+(i-j)=i by omega,hi]at this
   cases this
  .rintro ⟨u,hu,_⟩
   cases hu
 | cons kv r ihr =>
  intro j l hr h o
  have hj0:es[j]?=some kv:=by have:=hr 0;simpa using this.symm
  have hr':∀i,r[i]?=es[j+1+i]?:=λi=>by have:=hr (i+1);rw[show j+1+i=j+(i+1) by omega,<-this];rfl
  unfold enmL at h
  cases hm:ZY j seen with
  | true =>
   rw[hm]at h
   rw[<-ihr (j+1) l hr' h o]
   have hjs:=yJ.1 hm
   constructor
   .rintro ⟨i,kv',h1,h2,h3,h4⟩
    refine⟨i,kv',h1,?_,h3,h4⟩
    rcases Nat.lt_or_eq_of_le h2 with h | h
    .exact h
    .subst h;exact absurd hjs h3
   .rintro ⟨i,kv',h1,h2,h3,h4⟩
    exact⟨i,kv',h1,by omega,h3,h4⟩
  | false =>
   rw[hm]at h
   have hjs:j ∉ seen:=λhc=>by rw[yJ.2 hc]at hm;cases hm
   obtain⟨x,y,hx,hy,rfl⟩:=Gi h
   have g1:=qdw hih hx o
   have g2:=ihr (j+1) y hr' hy o
   constructor
   .rintro ⟨i,kv',h1,h2,h3,h4⟩
    rcases Nat.lt_or_eq_of_le h2 with hlt | he
    .obtain⟨u,hu,e⟩:=g2.1 ⟨i,kv',h1,hlt,h3,h4⟩
     exact⟨u,List.mem_append_right _ hu,e⟩
    .subst he
     rw[hj0]at h1;cases h1
     obtain⟨u,hu,e⟩:=g1.1 h4
     exact⟨u,List.mem_append_left _ hu,e⟩
   .rintro ⟨u,hu,e⟩
    rcases qhc.1 hu with hu | hu
    .exact⟨j,kv,hj0,qgq _,hjs,g1.2 ⟨u,hu,e⟩⟩
    .obtain⟨i,kv',h1,h2,h3,h4⟩:=g2.2 ⟨u,hu,e⟩
     exact⟨i,kv',h1,by omega,h3,h4⟩
theorem enm_ok:∀(n:Nat) (seen:List Nat) (t:Tm) (l:List Out),enm rd es m n seen t=some l->BU rd es m seen t l:=by
 intro n
 induction n with
 | zero=>intro seen t l h;cases h
 | succ n ih =>
  intro seen t l h o
  unfold enm at h
  cases ha:(List.range es.length).all (λj=>ZY j seen) with
  | true =>
   rw[ha]at h
   cases h
   have hall:∀j,j<es.length->j∈seen:=λj hj=>yJ.1 (List.all_eq_true.1 ha j (by simpa using hj))
   constructor
   .intro ho
    rcases ho.fst with ⟨_,rfl⟩ | ⟨j,kv,hj,hs,_⟩
    .exact⟨_,List.mem_singleton_self _,rfl⟩
    .exact absurd (hall j (qgp.1 hj).1) hs
   .rintro ⟨u,hu,rfl⟩
    rw[qgu]at hu
    subst hu
    exact .done seen t hall
  | false =>
   rw[ha]at h
   have g:=qdx (λseen t l h=>ih seen t l h) es 0 l (λi=>by simp) h o
   rw[<-g]
   constructor
   .intro ho
    rcases ho.fst with ⟨hall,_⟩ | ⟨j,kv,hj,hs,hf⟩
    .exfalso
     have:(List.range es.length).all (λj=>ZY j seen)=true:=List.all_eq_true.2 λj hj=>yJ.2 (hall j (by simpa using hj))
     rw[this]at ha;cases ha
    .exact⟨j,kv,hj,Nat.zero_le _,hs,hf⟩
   .rintro ⟨j,kv,hj,_,hs,hf⟩
    exact hf.out hj hs
theorem Di {t0:Tm}{ts:List Tm}{i:Nat}{v:Value}(h:agree t0 ts i=some v){G:Tm->Prop}(hG:∀t,G t ↔ t=t0\/t∈ts):WS G i=v:=by
 unfold agree at h
 unfold WS
 cases h1:ts.all (λt=>qV 3 (Tm.get i t0) (Tm.get i t)) with
 | true =>
  rw[h1]at h
  cases h
  have hx:∃v,∀t,G t->Tm.get i t=v:=⟨Tm.get i t0,λt ht=>by
   rcases (hG t).1 ht with rfl | ht
   .rfl
   .exact (FE (List.all_eq_true.1 h1 t ht)).symm⟩
  rw[dif_pos hx]
  exact (hx.choose_spec t0 ((hG t0).2 (.inl rfl))).symm
 | false =>
  rw[h1]at h
  cases h2:ts.any (λt=>qNe 3 (Tm.get i t0) (Tm.get i t)) with
  | false=>rw[h2]at h;cases h
  | true =>
   rw[h2]at h
   cases h
   rw[dif_neg]
   rintro ⟨v,hv⟩
   obtain⟨t,ht,hq⟩:=List.any_eq_true.1 h2
   exact qNe_of hq ((hv t0 ((hG t0).2 (.inl rfl))).trans (hv t ((hG t).2 (.inr ht))).symm)
theorem Kf {t0:Tm}{ts:List Tm}{G:Tm->Prop}(hG:∀t,G t ↔ t=t0\/t∈ts):∀{l:List Nat} {t:Tm},bO t0 ts l=some t->KV G l=t
 | [],t,h=>by cases h;rfl
 | i::l,t,h=>by
  unfold bO at h
  cases h1:agree t0 ts i with
  | none=>rw[h1]at h;cases h
  | some v =>
   rw[h1]at h
   cases h2:bO t0 ts l with
   | none=>simp only[ob]at h;rw[h2]at h;cases h
   | some t' =>
    simp only[ob]at h
    rw[h2]at h
    cases h
    unfold KV
    rw[Di h1 hG,Kf hG h2]
theorem qc8 {nt:Nat}{t:Tm}{o:Out}(h:FM nt rd es m t=some o):WP nt rd es m t=some o:=by
 unfold FM at h
 cases hb:Nat.blt 5 es.length with
 | true=>rw[hb]at h;cases h
 | false =>
  rw[hb]at h
  cases he:enm rd es m (es.length+1) [] t with
  | none=>simp only[cond_false]at h;rw[he]at h;cases h
  | some l =>
   simp only[cond_false]at h
   rw[he]at h
   simp only[ob]at h
   have hJ:=enm_ok _ _ _ _ he
   cases l with
   | nil=>cases h
   | cons o0 l =>
    simp only at h
    cases ha:l.all (λo=>qE o0.e o.e&&qM o0.m o.m) with
    | false=>rw[ha]at h;cases h
    | true =>
     rw[ha]at h
     cases hg:bO o0.t (l.map (·.t)) (List.range nt) with
     | none=>simp only[cond_true]at h;rw[hg]at h;cases h
     | some t' =>
      simp only[cond_true]at h
      rw[hg]at h
      cases h
      have hsame:∀u∈o0::l,u.e=o0.e/\u.m=o0.m:=by
       intro u hu
       rcases List.mem_cons.1 hu with rfl | hu
       .exact⟨rfl,rfl⟩
       .have:=List.all_eq_true.1 ha u hu
        rw[qgt]at this
        exact⟨(qE_of this.1).symm,(qM_of this.2).symm⟩
      have hgood:Zd rd es m t o0.e o0.m:=by
       intro o ho
       obtain⟨u,hu,rfl⟩:=(hJ o).1 ho
       obtain⟨h1,h2⟩:=hsame u hu
       exact⟨u.t,by rw[<-h1,<-h2]⟩
      have hx:∃p:Option E × M,Zd rd es m t p.1 p.2:=⟨(o0.e,o0.m),hgood⟩
      unfold WP
      rw[dif_pos hx]
      have ho0:RmOut rd es m [] t (some o0):=(hJ _).2 ⟨o0,qh6,rfl⟩
      obtain⟨t2,h2⟩:=hx.choose_spec _ ho0
      have e1:hx.choose.1=o0.e:=by have:=congrArg Out.e (Option.some.inj h2);exact this.symm
      have e2:hx.choose.2=o0.m:=by have:=congrArg Out.m (Option.some.inj h2);exact this.symm
      rw[e1,e2]
      have hst:(star nt λt'=>RmOut rd es m [] t (some ⟨o0.e,t',o0.m⟩))=t':=by
       refine Kf (λt1=>?_) hg
       constructor
       .intro h1
        obtain⟨u,hu,e⟩:=(hJ _).1 h1
        have:=congrArg Out.t (Option.some.inj e)
        rcases List.mem_cons.1 hu with rfl | hu
        .exact .inl this
        .exact .inr (List.mem_map.2 ⟨u,hu,this.symm⟩)
       .rintro (rfl | h1)
        .exact ho0
        .obtain⟨u,hu,rfl⟩:=List.mem_map.1 h1
         obtain⟨h3,h4⟩:=hsame u (qgy _ hu)
         rw[<-h3,<-h4]
         exact (hJ _).2 ⟨u,qgy _ hu,rfl⟩
      rw[hst]
theorem qc7 {nt:Nat}{t:Tm}:FL nt rd es m t=WP nt rd es m t:=by
 unfold FL
 cases h:FM nt rd es m t with
 | none=>rfl
 | some o=>exact (qc8 h).symm
end
end Go.Dx
namespace Go.Dx
open Go.RowKit
section
variable {P:Program}{nt:Nat}{x:Ex}{φ φ':Phi}{m m':M}{w w':World}
theorem KW (G:Tm->Prop)(i:Nat)(hi:i<512):∀(l:List Nat),(∀k∈l,k<512)->Tm.get i (KV G l)=if i∈l then WS G i else .chan (some 0)
 | [],_=>by
  rw[if_neg (by simp)]
  rfl
 | k::l,h=>by
  have ih:=KW G i hi l (λk' hk'=>h k' (by simp[hk']))
  show Tm.get i (Tm.set k (WS G k) (KV G l))=_
  by_cases e:i=k
  .subst e;rw[Tm.get_set_same,if_pos (by simp)]
  .rw[Tm.get_set_ne hi (h k (by simp)) e,ih]
   simp[e]
theorem qco {G:Tm->Prop}{i:Nat}(ht:nt<=512)(hi:i<nt):Tm.get i (star nt G)=WS G i:=by
 unfold star
 rw[KW G i (by omega) _ (λk hk=>by rw[List.mem_range]at hk;omega),if_pos (by simpa using hi)]
theorem qcp {G:Tm->Prop}{t:Tm}{a:Array Value}(hg:G t)(h:TR φ nt t a):TR φ nt (star nt G) a:=by
 refine⟨h.size,h.le,λi hi=>?_⟩
 rw[qco h.le hi]
 unfold WS
 split
 .rename_i hx
  rw[<-hx.choose_spec t hg]
  exact h.rel i hi
 .exact .junk _
variable {rd:Value × Value->Tm->Option Out}{es:List (Value × Value)}
def Jl (n:Nat)(seen:List Nat):Nat:=((List.range n).filter λj=>decide (j ∉ seen)).length
theorem ft {n j:Nat}{seen:List Nat}(hj:j<n)(hs:j ∉ seen):Jl n (j::seen)<Jl n seen :=
 Go.filter_lt _ _ (λx hx=>by simp at hx ⊢;exact hx.2) j (by simpa using hs) (by simp) (List.range n) (by simpa using hj)
theorem RmOut.exists:∀(n:Nat) (seen:List Nat) (t:Tm),Jl es.length seen<=n->∃o,RmOut rd es m seen t o:=by
 intro n
 induction n with
 | zero =>
  intro seen t h
  refine⟨_,.done seen t λj hj=>Classical.byContradiction λhc=>?_⟩
  have:=ft hj hc
  omega
 | succ n ih =>
  intro seen t h
  by_cases hall:∀j,j<es.length->j∈seen
  .exact⟨_,.done seen t hall⟩
  .obtain⟨j,hj⟩:=Classical.not_forall.1 hall
   obtain⟨hj,hs⟩:=Classical.not_imp.1 hj
   have hkv:es[j]?=some es[j]:=by simp[hj]
   cases hr:rd es[j] t with
   | none=>exact⟨_,.stuck seen t j _ hkv hs hr⟩
   | some o =>
    obtain⟨e,t',m'⟩:=o
    cases e with
    | some e=>exact⟨_,.leave seen t j _ e t' m' hkv hs hr⟩
    | none =>
     by_cases hm:m'=m
     .subst hm
      have:=ft hj hs
      obtain⟨o,ho⟩:=ih (j::seen) t' (by omega)
      exact⟨o,.next seen t j _ t' o hkv hs hr ho⟩
     .exact⟨_,.moved seen t j _ t' m' hkv hs hr hm⟩
theorem RmOut.dstep (hd:∀kv t e t' m',rd kv t=some ⟨e,t',m'⟩->DStep m m'){seen:List Nat}{t:Tm}{o:Option Out}(h:RmOut rd es m seen t o):∀e t' m',o=some ⟨e,t',m'⟩->DStep m m':=by
 induction h with
 | done=>intro e t' m' h;cases h;exact DStep.refl _
 | stuck=>intro e t' m' h;cases h
 | moved=>intro e t' m' h;cases h
 | leave seen t j kv e t' m' hj hs h=>intro e t' m' he;cases he;exact hd _ _ _ _ _ h
 | next seen t j kv t' o hj hs h hn ih=>exact ih
theorem Yt {t:Tm}{out:Out}(h:FL nt rd es m t=some out):∃e m1,out=⟨e,star nt λt'=>RmOut rd es m [] t (some ⟨e,t',m1⟩),m1⟩/\Zd rd es m t e m1/\∃t',RmOut rd es m [] t (some ⟨e,t',m1⟩):=by
 rw[qc7]at h
 unfold WP at h
 split at h
 .rename_i hx
  cases h
  obtain⟨o,ho⟩:=RmOut.exists (rd:=rd) (es:=es) (m:=m) _ [] t (qgq _)
  obtain⟨t',he⟩:=hx.choose_spec o ho
  exact⟨_,_,rfl,hx.choose_spec,t',by rw[<-he];exact ho⟩
 .cases h
theorem R.iter (hR:R φ m w){D:Nat}{a:Option Nat}{b:Nat}{s:Array Nat}{c:Nat}(h:w.heap[D]?=some (.mapIter a b s c))(O:Obj):R φ m (zN w D O):=by
 refine⟨hR.wf,λB l hB hl=>?_,hR.inj⟩
 obtain⟨o,h1,h2⟩:=hR.obj B l hB hl
 have hlt:=(qgr.1 h).1
 refine⟨o,h1,h2.world ?_⟩
 rw[kJ _ hlt,if_neg]
 intro e
 cases o with
 | cells c=>obtain⟨cs,e',fz,h3,_⟩:=h2;rw[e,h]at h3;cases h3
 | loop=>obtain⟨r,h3,_⟩:=h2;rw[e,h]at h3;cases h3
 | map es=>obtain⟨es',c,h3,_⟩:=h2;rw[e,h]at h3;cases h3
theorem Step.iter (hs:Step φ m w φ' m' w'){D:Nat}(hD:w.heap.size<=D)(O:Obj):Step φ m w φ' m' (zN w' D O) :=
 ⟨hs.d,hs.le,hs.ext,hs.fresh,hs.wrm,hs.os,hs.tape,hs.output,by simpa [zN]using hs.size,λb hb hno=>by
  have:(zN w' D O).heap[b]?=w'.heap[b]?:=by
   unfold zN
   simp[Array.getElem?_setIfInBounds_ne (show D≠b by omega)]
  rw[this]
  exact hs.frame b hb hno⟩
theorem VU (hR:R φ m w)(hs:Step φ m w φ' m' w'){D:Nat}{a:Option Nat}{b:Nat}{s:Array Nat}{c:Nat}(h:w.heap[D]?=some (.mapIter a b s c)):w'.heap[D]?=some (.mapIter a b s c):=by
 rw[hs.frame D (qgr.1 h).1 ?_]
 .exact h
 .intro B l hl hb ht
  obtain⟨o,_,h2⟩:=hR.obj B l ht.1 hl
  cases o with
  | cells c=>obtain⟨cs,e,fz,h3,_⟩:=h2;rw[hb,h]at h3;cases h3
  | loop=>obtain⟨r,h3,_⟩:=h2;rw[hb,h]at h3;cases h3
  | map es=>obtain⟨es',c,h3,_⟩:=h2;rw[hb,h]at h3;cases h3
theorem Step.same_phi (hs:Step φ m w φ' m w'):φ'=φ:=by
 funext B
 refine hs.ext B ?_
 omega
theorem ZR {o:Oper}{ty:TypeId}{y:Operand}{it:Nat}(h:ZQ o=some (ty,y,it)):o.guard=none/\o.op=.range ty y/\o.dst=some it:=by
 unfold ZQ yI at h
 split at h
 .rename_i hg
  simp only[cond_true]at h
  split at h
  .rename_i e
   obtain⟨d,hd,h⟩:=qa h
   cases h
   exact⟨hg,e,hd⟩
  .cases h
 .cases h
theorem Xp {o:Oper}{i d:Nat}(h:Yj o=some (i,d)):o.guard=none/\o.op=.next (.tmp i) false/\o.dst=some d:=by
 unfold Yj yI at h
 split at h
 .rename_i hg
  simp only[cond_true]at h
  split at h
  .rename_i e
   obtain⟨d',hd,h⟩:=qa h
   cases h
   exact⟨hg,e,hd⟩
  .cases h
 .cases h
theorem Yi {o:Oper}{i d:Nat}(h:qbp o=some (i,d)):o.guard=none/\o.op=.extract (.tmp i) 0/\o.dst=some d:=by
 unfold qbp yI at h
 split at h
 .rename_i hg
  simp only[cond_true]at h
  split at h
  .rename_i e
   obtain⟨d',hd,h⟩:=qa h
   cases h
   exact⟨hg,e,hd⟩
  .cases h
 .cases h
theorem ZP {o:Oper}{i d:Nat}(h:ZO o=some (i,d)):o.guard=none/\o.op=.entry (.tmp i)/\o.dst=some d:=by
 unfold ZO yI at h
 split at h
 .rename_i hg
  simp only[cond_true]at h
  split at h
  .rename_i e
   obtain⟨d',hd,h⟩:=qa h
   cases h
   exact⟨hg,e,hd⟩
  .cases h
 .cases h
theorem dz {i:Nat}{l:List Oper}(h:yz i l=false):∀o∈l,o.dst≠some i:=by
 intro o ho e
 unfold yz at h
 rw[List.any_eq_false]at h
 have:=h o ho
 rw[e]at this
 simp at this
structure RmOK (P:Program)(nt:Nat)(ops1:Array Oper)(out:Nat)(ops2:Array Oper)(mo:Operand)(out2 nxt:Nat)(ops3:Array Oper)(code:Code)(p:RmP)(o1 o2 o3 o4:Oper)(rest:List Oper)(ty:TypeId)(y:Operand):Prop where
 l1:ops1.toList=ops1.toList.dropLast++[o1]
 l2:ops2.toList=[o2,o3]
 l3:ops3.toList=o4::rest
 g1:o1.guard=none
 e1:o1.op=.range ty y
 d1:o1.dst=some p.it
 g2:o2.guard=none
 e2:o2.op=.next (.tmp p.it) false
 d2:o2.dst=some p.nx
 g3:o3.guard=none
 e3:o3.op=.extract (.tmp p.nx) 0
 d3:o3.dst=some p.mo
 g4:o4.guard=none
 e4:o4.op=.entry (.tmp p.it)
 d4:o4.dst=some p.pr
 mo:mo=.tmp p.mo
 ht:∃a b,P.underlying ty=some (.map a b)
 out2:out2=out
 outp:p.out=out
 nxtp:p.nxt=nxt
 n1:p.it<nt
 n2:p.nx<nt
 n3:p.mo<nt
 n4:p.pr<nt
 q1:p.it≠p.nx
 q2:p.it≠p.mo
 q3:p.it≠p.pr
 q4:p.nx≠p.mo
 k1:∀o∈rest,o.dst≠some p.it
 k2:makes p.it code=false
 o:qH nt y=some p.o
 pre:gG P nt ops1 ops1.toList.dropLast=some p.pre
 asn:gG P nt ops3 rest=some p.asn
theorem Br {ops1:Array Oper}{out:Nat}{ops2:Array Oper}{mo:Operand}{out2 nxt:Nat}{ops3:Array Oper}{code:Code}{p:RmP}(h:rmOf P nt ops1 out ops2 mo out2 nxt ops3 code=some p) :
  ∃o1 o2 o3 o4 rest ty y,RmOK P nt ops1 out ops2 mo out2 nxt ops3 code p o1 o2 o3 o4 rest ty y:=by
 unfold rmOf at h
 obtain⟨o1,h1,h⟩:=qa h
 obtain⟨ty,yi,h2,h⟩:=ky h
 obtain⟨y,it⟩:=yi
 simp only at h
 split at h
 .rename_i o2 o3 o4 rest mo0 hl2 hl3 _ _
  obtain⟨it2,nx,h3,h⟩:=ky h
  obtain⟨nx2,mo2,h4,h⟩:=ky h
  obtain⟨it3,pr,h5,h⟩:=ky h
  obtain⟨g1,e1,d1⟩:=ZR h2
  obtain⟨g2,e2,d2⟩:=Xp h3
  obtain⟨g3,e3,d3⟩:=Yi h4
  obtain⟨g4,e4,d4⟩:=ZP h5
  cases hc:(VT P ty&&Nat.beq out2 out&&Nat.beq it2 it&&Nat.beq it3 it&&Nat.beq nx2 nx&&Nat.beq mo2 mo0&&Nat.blt it nt&&Nat.blt nx nt&&Nat.blt mo0 nt&&Nat.blt pr nt && !Nat.beq it nx && !Nat.beq it mo0 && !Nat.beq it pr && !Nat.beq nx mo0 && !yz it rest && !makes it code) with
  | false=>rw[hc]at h;cases h
  | true =>
   rw[hc]at h
   simp only[qgt,Bool.not_eq_true',and_assoc]at hc
   obtain⟨c1,c2,c3,c4,c5,c6,c7,c8,c9,c10,c11,c12,c13,c14,c15,c16⟩:=hc
   obtain⟨f,hf,h⟩:=qa h
   obtain⟨pre,hpre,h⟩:=qa h
   obtain⟨asn,hasn,h⟩:=qa h
   cases h
   have c3:=qh0 c3
   have c4:=qh0 c4
   have c5:=qh0 c5
   have c6:=qh0 c6
   subst c3 c4 c5 c6
   have ne:∀{a b:Nat},Nat.beq a b=false->a≠b:=λh e=>by subst e;simp at h
   refine⟨o1,o2,o3,o4,rest,ty,y,⟨?_,hl2,hl3,g1,e1,d1,g2,e2,d2,g3,e3,d3,g4,e4,d4,rfl,?_,qh0 c2,rfl,rfl,qgw c7,qgw c8,qgw c9,qgw c10,ne c11,ne c12,ne c13,ne c14,dz c15,c16,hf,hpre,hasn⟩⟩
   .have hne:ops1.toList≠[]:=λe=>by rw[e]at h1;cases h1
    rw[List.getLast?_eq_some_getLast hne]at h1
    cases h1
    exact (List.dropLast_concat_getLast hne).symm
   .unfold VT at c1
    split at c1
    .exact⟨_,_,by assumption⟩
    .cases c1
 .cases h
end
end Go.Dx
namespace Go.Dx
open Go.RowKit
def ve:Option E->Exit
 | none=>.normal
 | some (.exit i)=>.exit i
 | some .ret=>.ret
def InR (r:Option Nat)(φ:Phi)(m:M):Prop:=∀l0,r=some l0->∃L l,φ L=some l/\l.b=l0/\L<m.n/\kindOf (m.obj L)=2
structure Dfr (n0:Nat)(w:World)(ds:List Deferred):Prop where
 le:n0<=w.heap.size
 mark:∀d∈ds,∃D,d.target=.collected D/\n0<=D/\w.heap[D]?=some (.deferred (some []))
 ne:ds.Pairwise λa b=>a.target≠b.target
section
variable {P:Program}{nt:Nat}{x:Ex}{φ φ':Phi}{m m':M}{w w':World}
theorem InR.step {r:Option Nat}(h:InR r φ m)(hs:Step φ m w φ' m' w'):InR r φ' m':=λl0 e=>by
 obtain⟨L,l,h1,h2,h3,h4⟩:=h l0 e
 exact⟨L,l,hs.le L l h1,h2,qgs h3 hs.d.n,by rw[hs.d.kind L h3];exact h4⟩
theorem yr (hR:R φ m w)(hs:Step φ m w φ' m' w'){D:Nat}{x:Option (List Deferred)}(h:w.heap[D]?=some (.deferred x)):w'.heap[D]?=some (.deferred x):=by
 rw[hs.frame D (qgr.1 h).1 ?_]
 .exact h
 .intro B l hl hb ht
  obtain⟨o,_,h2⟩:=hR.obj B l ht.1 hl
  cases o with
  | cells c=>obtain⟨cs,e,fz,h3,_⟩:=h2;rw[hb,h]at h3;cases h3
  | loop=>obtain⟨r,h3,_⟩:=h2;rw[hb,h]at h3;cases h3
  | map es=>obtain⟨es',c,h3,_⟩:=h2;rw[hb,h]at h3;cases h3
theorem Dfr.step (hR:R φ m w)(hs:Step φ m w φ' m' w'){n0:Nat}{ds:List Deferred}(h:Dfr n0 w ds):Dfr n0 w' ds :=
 ⟨qgz h.le hs.size,λd hd=>let ⟨D,h1,h2,h3⟩:=h.mark d hd;⟨D,h1,h2,yr hR hs h3⟩,h.ne⟩
structure KC (r:Option Nat)(c:Code)(a a':Act):Prop where
 df:r.isSome=true->a'.defers=a.defers
 tm:∀i,makes i c=false->a'.tmps.getD i undef=a.tmps.getD i undef
theorem KC.refl (r:Option Nat)(c:Code)(a:Act):KC r c a a:=⟨λ_=>rfl,λ_ _=>rfl⟩
theorem KC.trans {r:Option Nat}{c:Code}{a b d:Act}(h:KC r c a b)(k:KC r c b d):KC r c a d:=⟨λhr=>(k.df hr).trans (h.df hr),λi hi=>(k.tm i hi).trans (h.tm i hi)⟩
theorem KC.sub {r:Option Nat}{c c':Code}{a a':Act}(h:KC r c a a')(hm:∀i,makes i c'=false->makes i c=false):KC r c' a a':=⟨h.df,λi hi=>h.tm i (hm i hi)⟩
theorem KA.kc {r:Option Nat}{id:Nat}{ops:Array Oper}{draw:Bool}{a a':Act}(h:KA ops a a'):KC r (.region id ops draw) a a':=⟨λ_=>h.df,λi hi=>h.tm i (dz hi)⟩
theorem Kc {i:Nat}{a b:Code}(h:makes i (.seq a b)=false):makes i a=false/\makes i b=false:=by
 change (makes i a||makes i b)=false at h
 simpa using h
theorem condL {i:Nat}{o:Operand}{a b:Code}(h:makes i (.cond o a b)=false):makes i a=false/\makes i b=false:=by
 change (makes i a||makes i b)=false at h
 simpa using h
def Jc (P:Program)(nt:Nat)(c:Code)(e:Option E)(t:Tm)(m:M)(t':Tm)(m':M):Prop :=
 ∀r n n0 φ w a Q,R φ m w->TR φ nt t a.tmps->Free φ m.n m'.n->InR r φ m->Dfr n0 w a.defers ->
  (∀φ' w' a',Step φ m w φ' m' w'->R φ' m' w'->TR φ' nt t' a'.tmps->Dfr n0 w' a'.defers->KC r c a a'->Q (ve e) a' w')->c.wpIn (Fw r) n P Q a w
theorem R.extra (hR:R φ m w)(O:Obj):R φ m (w.alloc O)/\Step φ m w φ m (w.alloc O):=by
 refine⟨⟨hR.wf,λB l hB hl=>?_,hR.inj⟩,⟨DStep.refl m,PLe.refl φ,λ_ _=>rfl,λB _ h1 h2=>by omega,λB _ h1 h2=>absurd h1 h2,rfl,rfl,rfl,by simp,λb hb _=>zd w O hb⟩⟩
 obtain⟨o,h1,h2⟩:=hR.obj B l hB hl
 exact⟨o,h1,h2.world (zd w O h2.lt)⟩
theorem R.aside (hR:R φ m w){D:Nat}{x:Option (List Deferred)}(h:w.heap[D]?=some (.deferred x))(y:Option (List Deferred)):R φ m (w.putObj D (.deferred y)):=by
 refine⟨hR.wf,λB l hB hl=>?_,hR.inj⟩
 obtain⟨o,h1,h2⟩:=hR.obj B l hB hl
 refine⟨o,h1,h2.world (World.putObj_heap_other λe=>?_)⟩
 cases o with
 | cells c=>obtain⟨cs,e',fz,h3,_⟩:=h2;rw[e,h]at h3;cases h3
 | loop=>obtain⟨r,h3,_⟩:=h2;rw[e,h]at h3;cases h3
 | map es=>obtain⟨es',c,h3,_⟩:=h2;rw[e,h]at h3;cases h3
theorem dU {Q:Exit->Act->World->Prop}{a:Act}{w:World}{e:E}{K:Act->World->Prop}(h:Q (ve (some e)) a w):Exit.then K Q (ve (some e)) a w:=by cases e<;>exact h
theorem dK (w:World)(b:Nat)(O:Obj):w.putObj b O=zN w b O:=rfl
theorem dt (i:Nat)(hi:i<512)(t:Tm):∀(ks:List Nat),(∀k∈ks,k<512)->Tm.get i (xj ks t)=if i∈ks then Tm.get i t else .chan (some 0)
 | [],_=>by
  rw[if_neg (by simp)]
  rfl
 | k::ks,h=>by
  have ih:=dt i hi t ks (λk' hk'=>h k' (by simp[hk']))
  show Tm.get i (Tm.set k (Tm.get k t) (xj ks t))=_
  by_cases e:i=k
  .subst e;rw[Tm.get_set_same,if_pos (by simp)]
  .rw[Tm.get_set_ne hi (h k (by simp)) e,ih]
   simp[e]
theorem GK {a:Array Value}{t:Tm}(h:TR φ nt t a){ks:List Nat}(hk:∀k∈ks,k<nt):TR φ nt (xj ks t) a:=by
 refine⟨h.size,h.le,λi hi=>?_⟩
 have:=h.le
 rw[dt i (by omega) t ks (λk hk'=>qgs (hk k hk') this)]
 split
 .exact h.rel i hi
 .exact .junk _
theorem bR (m:Nat):∀(n:Nat),∀k∈bitsOf n m,k<n
 | 0,k,h=>by cases h
 | n+1,k,h=>by
  change k∈(bif Nat.beq (Nat.land (Nat.shiftRight m n) 1) 1 then n::bitsOf n m else bitsOf n m) at h
  cases hb:Nat.beq (Nat.land (Nat.shiftRight m n) 1) 1 with
  | false=>rw[hb]at h;have:=bR m n k h;omega
  | true =>
   rw[hb]at h
   rcases List.mem_cons.1 h with e | e
   .omega
   .have:=bR m n k e;omega
theorem qau (used made:Nat):∀k∈keeps nt used made,k<nt:=bR _ nt
theorem cells2 {φ:Phi}{k k' v v':Value}(hk:VRel φ k k')(hv:VRel φ v v'):VRel φ (.tuple #[k,v]) (.tuple #[k',v']):=.tuple _ _ (.cons _ _ _ _ hk (.cons _ _ _ _ hv .nil))
theorem Fu {ops:Array Oper}{l:List Oper}(h:ops.toList=l)(i:Nat):ops[i]?=l[i]?:=by rw[<-h];simp
theorem jY {o:Oper}(h:o.guard=none)(f:Nat->Option Bool):Region.wanted o f=true:=by unfold Region.wanted;rw[h]
theorem GJ {φ:Phi}{v:Value}(h:isInt v=true):VRel φ v v:=by
 obtain⟨k,n,rfl⟩:=fU h
 exact .int k n
def Da (P:Program)(nt:Nat)(p:RmP)(Bk:Code)(m1:M)(kv:Value × Value)(t:Tm)(e:Option E)(t':Tm)(m':M):Prop :=
 ∀r n n0 φ w a Q k' v',R φ m1 w->TR φ nt (Tm.set p.mo (.bool true) (Tm.set p.nx xF t)) a.tmps->(Instr.entry (a.tmps.getD p.it undef)).run P w=.ok (.tuple #[k',v']) w->VRel φ kv.1 k'->VRel φ kv.2 v'->Free φ m1.n m'.n->InR r φ m1->Dfr n0 w a.defers ->
  (∀φ' w' a',Step φ m1 w φ' m' w'->R φ' m' w'->TR φ' nt t' a'.tmps->Dfr n0 w' a'.defers->KC r Bk a a'->Q (ve e) a' w')->Bk.wpIn (Fw r) n P Q a w
theorem XH (hx:jn P x){i3 out nxt out2:Nat}{ops1 ops2 ops3:Array Oper}{mo:Operand}{code:Code}{p:RmP}{o1 o2 o3 o4:Oper}{rest:List Oper}{ty:TypeId}{y:Operand}
  (ok:RmOK P nt ops1 out ops2 mo out2 nxt ops3 code p o1 o2 o3 o4 rest ty y) {c:SC}
  (ih:∀(kn:K) (ke:Nat->K) (kr:K) (t:Tm) (m:M) (out:Out),c x kn ke kr t m=some out->∃e t' m',vI kn ke kr e t' m'=some out/\DStep m m'/\Jc P nt code e t m t' m')
  {m1:M} {kv:Value × Value} {t:Tm} {e:Option E} {t':Tm} {m':M} (h:jU p c x m1 kv t=some ⟨e,t',m'⟩) :
  DStep m1 m'/\Da P nt p (.block nxt (.seq (.region i3 ops3 false) code)) m1 kv t e t' m':=by
 unfold jU at h
 have hdrop:ops3.toList.drop 1=rest:=by rw[ok.l3];rfl
 obtain⟨t2,m2,h1,h2,h3⟩:=seq_ok hx rest 1 p.asn hdrop ok.asn _ _ _ _ h
 obtain⟨e1,t3,m3,h4,h5,h6⟩:=ih _ _ _ _ _ _ h1
 have hout:t3=t'/\m3=m'/\∀(Q:Exit->Act->World->Prop) a w,Q (ve e) a w->Exit.inBlock nxt Q (ve e1) a w:=by
  cases e1 with
  | none=>cases h4;exact⟨rfl,rfl,λQ a w h=>h⟩
  | some e1 =>
   cases e1 with
   | ret=>cases h4;exact⟨rfl,rfl,λQ a w h=>h⟩
   | exit j =>
    change (bif Nat.beq j p.nxt then endK t3 m3 else exitK j t3 m3)=some _ at h4
    rw[ok.nxtp]at h4
    cases hj:Nat.beq j nxt with
    | true =>
     rw[hj]at h4
     cases h4
     have:=qh0 hj
     exact⟨rfl,rfl,λQ a w h=>by simp only[ve,Exit.inBlock,this,if_true];exact h⟩
    | false =>
     rw[hj]at h4
     cases h4
     have:j≠nxt:=λe=>by subst e;simp at hj
     exact⟨rfl,rfl,λQ a w h=>by simp only[ve,Exit.inBlock,this,if_false];exact h⟩
 obtain⟨rfl,rfl,hblk⟩:=hout
 refine⟨h2.trans h5,λr n n0 φ w a Q k' v' hR hT hent hk' hv' hF hI hD hk=>wpIn_block (wpIn_seq (wpIn_region ?_))⟩
 have hsz:ops3.size=rest.length+1:=by rw[<-Array.length_toList,ok.l3];rfl
 have hrange:List.range ops3.size=0::List.range' 1 rest.length:=by rw[hsz,List.range_eq_range',List.range'_succ]
 have h0:ops3[0]?=some o4:=by rw[Fu ok.l3];rfl
 rw[hrange]
 simp only[wpOpsIn,h0,jY ok.g4,if_true]
 have hd4:vb nt o4.dst=some (some p.pr):=by
  unfold vb
  rw[ok.d4]
  simp only
  rw[if_pos ok.n4]
 refine kw (v:=.tuple #[k',v']) (w':=w) (λc e=>by rw[ok.e4]at e;cases e) ?_ ?_
 .simp only[execOp,ok.e4,Act.eval,Sem.run_bind,hent,Result.andThen_ok]
  rfl
 .refine h3 r n φ w _ _ hR (hT.putD hd4 (cells2 hk' hv')) (hF.sub (qgq _) h5.n) λφ1 w1 a1 s1 R1 T1 K1=>?_
  have ka:=(KA.put h0 a (.tuple #[k',v'])).trans K1
  have hD1:Dfr n0 w1 a1.defers:=by rw[ka.df];exact hD.step hR s1
  refine h6 r n n0 φ1 w1 a1 _ R1 T1 (Free.step s1 hF) (hI.step s1) hD1 λφ2 w2 a2 s2 R2 T2 D2 K2=>?_
  have hKC0:KC r (.seq (.region i3 ops3 false) code) a a2:=(ka.kc (r:=r) (id:=i3) (draw:=false)).sub (λi hi=>(Kc (a:=.region i3 ops3 false) (b:=code) hi).1) |>.trans (K2.sub λi hi=>(Kc (a:=.region i3 ops3 false) (b:=code) hi).2)
  have hKC:KC r (.block nxt (.seq (.region i3 ops3 false) code)) a a2:=hKC0.sub λi hi=>hi
  have hq:=hblk Q a2 w2 (hk φ2 w2 a2 (s1.trans s2) R2 T2 D2 hKC)
  exact hq
def vl (out:Nat):Option E->Exit
 | none=>.exit out
 | some e=>ve (some e)
theorem QU {l:List MapEntry}{c:Nat}(h:Births l c){en:MapEntry}(he:en∈l):en.born<l.length/\l[en.born]?=some en:=by
 obtain⟨i,hi,rfl⟩:=List.getElem_of_mem he
 have:(l.map (·.born))[i]?=(List.range l.length)[i]?:=by rw[h.1]
 have hb:l[i].born=i:=by simpa [hi]using this
 rw[hb]
 exact⟨hi,by simp[hi]⟩
theorem Gk {l:List MapEntry}{c:Nat}(h:Births l c){i:Nat}(hi:i<l.length):l[i].born=i:=by
 have:(l.map (·.born))[i]?=(List.range l.length)[i]?:=by rw[h.1]
 simpa [hi]using this
theorem Zi {l:List MapEntry}{c:Nat}(h:Births l c):(l.map (·.born)).Nodup:=by rw[h.1];exact List.nodup_range
theorem rm_ok (hx:jn P x)(ht:nt<=512){i1 i2 i3 out nxt out2:Nat}{ops1 ops2 ops3:Array Oper}{mo:Operand}{code:Code}{p:RmP}{o1 o2 o3 o4:Oper}{rest:List Oper}{ty:TypeId}{y:Operand}
  (ok:RmOK P nt ops1 out ops2 mo out2 nxt ops3 code p o1 o2 o3 o4 rest ty y) (c:SC)
  (ih:∀(kn:K) (ke:Nat->K) (kr:K) (t:Tm) (m:M) (out:Out),c x kn ke kr t m=some out->∃e t' m',vI kn ke kr e t' m'=some out/\DStep m m'/\Jc P nt code e t m t' m')
  {kn:K} {ke:Nat->K} {kr:K} {t:Tm} {m:M} {o:Out} (h:sRm nt p c x kn ke kr t m=some o) :
  ∃e t' m',vI kn ke kr e t' m'=some o/\DStep m m'/\Jc P nt (.seq (.region i1 ops1 false) (.block out (.loop (.seq (.region i2 ops2 false) (.seq (.cond mo .skip (.exit out2)) (.block nxt (.seq (.region i3 ops3 false) code))))))) e t m t' m':=by
 unfold sRm at h
 obtain⟨t1,m1,h1,h2,h3⟩:=QG hx ops1.toList.dropLast 0 p.pre ⟨[o1],by rw[List.drop_zero];exact ok.l1⟩ ok.pre _ _ _ _ h
 unfold rmGo at h1
 obtain⟨es,hes,h1⟩:=qa h1
 obtain⟨ou,hres,hend⟩:=qa h1
 obtain⟨e,m2,rfl,hgood,tw,hw⟩:=Yt hres
 obtain⟨t0,ht0⟩:=qhd (Tm.set p.it xF t1)
 rw[<-ht0]at hgood hw hend
 obtain⟨G,hG⟩:∃G:Tm->Prop,G=λt'=>RmOut (jU p c x m1) es m1 [] t0 (some ⟨e,t',m2⟩):=⟨_,rfl⟩
 rw[<-hG]at hend
 obtain⟨T',hT'⟩:=qhd (Tm.set p.mo xF (Tm.set p.nx xF (star nt G)))
 change vI kn (jN p.out kn ke) kr e (Tm.set p.mo xF (Tm.set p.nx xF (star nt G))) m2=some o at hend
 rw[<-hT']at hend
 have hd12:DStep m1 m2:=hw.dstep (λkv t e t' m' hr=>(XH (i3:=i3) hx ok ih hr).1) _ _ _ rfl
 obtain⟨B,hB,hob,hint⟩:∃B,p.o t1=.map (some B)/\m1.obj B=some (.map es)/\∀q∈es,isInt q.1=true:=by
  unfold rmEs at hes
  split at hes
  .rename_i B hv
   obtain⟨es0,h5,h6⟩:=qa hes
   cases hc:es0.all (λp=>isInt p.1) with
   | false=>rw[hc]at h6;cases h6
   | true =>
    rw[hc]at h6;cases h6
    unfold Yd at h5
    split at h5
    .rename_i hob
     cases h5
     rw[List.all_eq_true]at hc
     exact⟨B,hv,hob,hc⟩
    .cases h5
  .cases hes
 obtain⟨eF,hF1,hF2⟩:∃eF,vI kn ke kr eF T' m2=some o/\∀(Q:Exit->Act->World->Prop) a w,Q (ve eF) a w->Exit.inBlock out Q (vl out e) a w:=by
  cases e with
  | none=>exact⟨none,hend,λQ a w h=>by simp only[vl,Exit.inBlock,if_true];exact h⟩
  | some e =>
   cases e with
   | ret=>exact⟨some .ret,hend,λQ a w h=>h⟩
   | exit j =>
    change (bif Nat.beq j p.out then kn T' m2 else ke j T' m2)=some o at hend
    rw[ok.outp]at hend
    cases hj:Nat.beq j out with
    | true =>
     rw[hj]at hend
     have:=qh0 hj
     exact⟨none,hend,λQ a w h=>by simp only[vl,ve,Exit.inBlock,this,if_true];exact h⟩
    | false =>
     rw[hj]at hend
     have:j≠out:=λe=>by subst e;simp at hj
     exact⟨some (.exit j),hend,λQ a w h=>by simp only[vl,ve,Exit.inBlock,this,if_false];exact h⟩
 refine⟨eF,T',m2,hF1,h2.trans hd12,λr n n0 φ w a Q hR hT hF hI hD hk=>wpIn_seq (wpIn_region ?_)⟩
 obtain⟨Bk,hBk⟩:=qhd (Code.block nxt (.seq (.region i3 ops3 false) code))
 obtain⟨body,hbody⟩:=qhd (Code.seq (.region i2 ops2 false) (.seq (.cond mo .skip (.exit out2)) Bk))
 have hround:∀{kv:Value × Value} {t:Tm} {e:Option E} {t':Tm} {m':M},jU p c x m1 kv t=some ⟨e,t',m'⟩->DStep m1 m'/\Da P nt p Bk m1 kv t e t' m':=λhr=>by rw[hBk];exact XH hx ok ih hr
 have hmk:∀i,makes i body=false->i≠p.nx/\i≠p.mo/\makes i Bk=false:=λi hi=>by
  rw[hbody]at hi
  obtain⟨q1,q2⟩:=Kc hi
  have q3:=dz (i:=i) (l:=ops2.toList) q1
  rw[ok.l2]at q3
  refine⟨λe=>q3 o2 (by simp) (by rw[ok.d2,e]),λe=>q3 o3 (by simp) (by rw[ok.d3,e]),(Kc q2).2⟩
 have hit:makes p.it Bk=false:=by
  rw[hBk]
  change (yz p.it ops3.toList||makes p.it code)=false
  rw[ok.k2,Bool.or_false,ok.l3]
  cases hm:yz p.it (o4::rest) with
  | false=>rfl
  | true =>
   exfalso
   unfold yz at hm
   rw[List.any_eq_true]at hm
   obtain⟨o,ho,hb⟩:=hm
   have hd:o.dst=some p.it:=by
    split at hb
    .rename_i d hd
     rw[hd,qh0 hb]
    .cases hb
   rcases List.mem_cons.1 ho with e | e
   .subst e
    rw[ok.d4]at hd
    exact ok.q3 (Option.some.inj hd).symm
   .exact ok.k1 o e hd
 have hs2:ops2.size=2:=by rw[<-Array.length_toList,ok.l2];rfl
 have hr2:List.range ops2.size=[0,1]:=by rw[hs2];rfl
 have ha0:ops2[0]?=some o2:=by rw[Fu ok.l2];rfl
 have ha1:ops2[1]?=some o3:=by rw[Fu ok.l2];rfl
 have hdn:vb nt o2.dst=some (some p.nx):=by
  unfold vb
  rw[ok.d2]
  simp only
  rw[if_pos ok.n2]
 have hdm:vb nt o3.dst=some (some p.mo):=by
  unfold vb
  rw[ok.d3]
  simp only
  rw[if_pos ok.n3]
 have one:∀(φ:Phi) (w0:World) (r0:Nat) (l:Loc),φ B=some l->w0.heap.size<=r0->InR r φ m1->Free φ m1.n m2.n->∀(seen:List Nat) (sn:Array Nat) (ta:Tm) (w:World) (a0 a:Act) (Q:Exit->Act->World->Prop) (K:Act->World->Prop),
   (∀j,j∈seen ↔ sn.contains j=true)->(∀o,RmOut (jU p c x m1) es m1 seen ta o->∃t',o=some ⟨e,t',m2⟩/\G t')->R φ m1 w->Step φ m1 w0 φ m1 w->TR φ nt ta a.tmps->KC r body a0 a->Dfr n0 w a.defers ->
   a.tmps.getD p.it undef=.pointer (some ⟨r0,0,none⟩)->w.heap[r0]?=some (.mapIter (some l.b) es.length sn es.length) ->
   (∀j (sn':Array Nat) ta' w' a',j<es.length->j ∉ seen->(∀i,i∈j::seen ↔ sn'.contains i=true)->(∀o,RmOut (jU p c x m1) es m1 (j::seen) ta' o->∃t',o=some ⟨e,t',m2⟩/\G t')->R φ m1 w'->Step φ m1 w0 φ m1 w'->TR φ nt ta' a'.tmps->KC r body a0 a'->Dfr n0 w' a'.defers ->
    a'.tmps.getD p.it undef=.pointer (some ⟨r0,0,none⟩)->w'.heap[r0]?=some (.mapIter (some l.b) es.length sn' es.length)->K a' w') ->
   (∀φ' w' a',Step φ m1 w0 φ' m2 w'->R φ' m2 w'->TR φ' nt T' a'.tmps->Dfr n0 w' a'.defers->KC r body a0 a'->Q (vl out e) a' w')->body.wpIn (Fw r) n P (Exit.then K Q) a w:=by
  intro φ w0 r0 l hl hr0 hI hF seen sn ta w a0 a Q K hseen hall hR hst hT hKC hD hitv hrit hK hk
  obtain⟨ob',hob1,hob2⟩:=hR.obj B l (hR.lt hob) hl
  rw[hob]at hob1;cases hob1
  obtain⟨es',ck,hmap,hkeys,hvals,hbirth⟩:=hob2
  have hlen:es'.toList.length=es.length:=by
   have:=congrArg List.length hkeys
   simpa using this.symm
  have hck:ck=es.length:=by rw[hbirth.2,hlen]
  have hold:∀z∈es'.toList,z.born<es.length:=λz hz=>by rw[<-hlen];exact (QU hbirth hz).1
  have hev:a.eval (.tmp p.it)=.pointer (some ⟨r0,0,none⟩):=hitv
  have finT:∀{φ':Phi} {t':Tm} {a':Array Value},G t'->TR φ' nt t' a'->TR φ' nt (star nt G) a':=λhg hT=>qcp hg hT
  have kcput:∀(v1 v2:Value),KC r body a0 ((a.put o2.dst v1).put o3.dst v2):=λv1 v2=>hKC.trans (by
   have:=(KA.put ha0 a v1).trans (KA.put ha1 _ v2)
   rw[hbody]
   exact (this.kc (r:=r) (id:=i2) (draw:=false)).sub λi hi=>(Kc (a:=.region i2 ops2 false) hi).1)
  have hitput:∀(v1 v2:Value),((a.put o2.dst v1).put o3.dst v2).tmps.getD p.it undef=.pointer (some ⟨r0,0,none⟩):=λv1 v2=>by
   rw[fg _ _ (by rw[ok.d3];exact λe=>ok.q2 (Option.some.inj e).symm),fg _ _ (by rw[ok.d2];exact λe=>ok.q1 (Option.some.inj e).symm)]
   exact hitv
  have hext:∀(vs:Array Value) (v:Value) (w:World),vs[0]?=some v->(execOp (a.put o2.dst (.tuple vs)).eval o3).run P w=.ok (.value v) w:=λvs v w hv=>by
   have hx:(a.put o2.dst (.tuple vs)).eval (.tmp p.nx)=.tuple vs:=by
    rw[ok.d2]
    exact bz a _ (by rw[hT.size];exact ok.n2)
   simp only[execOp,ok.e3,hx,Instr.extract,hv,Sem.run_bind,Sem.run_pure,Result.andThen_ok]
  have hmoev:∀(v1 v2:Value),((a.put o2.dst v1).put o3.dst v2).eval mo=v2:=λv1 v2=>by
   rw[ok.mo,ok.d3]
   exact bz _ _ (by rw[Xy,hT.size];exact ok.n3)
  rw[hbody]
  refine wpIn_seq (wpIn_region ?_)
  rw[hr2]
  simp only[wpOpsIn,ha0,ha1,jY ok.g2,jY ok.g3,if_true]
  rcases run_next_at w o2.type r0 l.b es.length es.length sn es' ck hrit hmap hold (qgq _) with ⟨hz,hrun⟩ | ⟨en,hen,w1,hw1,hrun⟩
  .-- none is left
   refine kw (v:=.tuple #[.bool false]) (w':=w) (λc e=>by rw[ok.e2]at e;cases e) ?_ ?_
   .simp only[execOp,ok.e2,hev,Sem.run_bind]
    rw[hrun]
    rfl
   .refine kw (v:=.bool false) (w':=w) (λc e=>by rw[ok.e3]at e;cases e) (hext _ _ _ rfl) ?_
    refine wpIn_seq (wpIn_cond_false (hmoev _ _) (wpIn_exit ?_))
    have hdone:∀j,j<es.length->j∈seen:=λj hj=>by
     have hj':j<es'.toList.length:=by omega
     have:=all_seen es' sn hz es'.toList[j] (List.getElem_mem hj')
     rw[Gk hbirth hj']at this
     exact (hseen j).2 this
    obtain⟨t',h5,h6⟩:=hall _ (.done seen ta hdone)
    cases h5
    rw[ok.out2]
    refine hk φ w _ hst hR ?_ (by rw[put_defers,put_defers];exact hD) (kcput _ _)
    rw[hT']
    exact ((finT h6 hT).putD hdn (.junk _)).putD hdm (.junk _)
  .-- one that is left
   obtain⟨hen1,hen2⟩:=mem_left hen
   obtain⟨hjl,hjg⟩:=QU hbirth hen1
   have hjl':en.born<es.length:=by omega
   have hjs:en.born ∉ seen:=λe=>by rw[(hseen _).1 e]at hen2;cases hen2
   have hkv:es[en.born]?=some es[en.born]:=by simp[hjl']
   have hkey:en.key=es[en.born].1:=by
    have:=congrArg (λl=>l[en.born]?) hkeys
    simp only[qh4,hjg,hkv,Option.map_some,Option.some.injEq]at this
    exact this.symm
   have hval:VRel φ es[en.born].2 en.val:=by
    obtain⟨v',q1,q2⟩:=hvals.get (i:=en.born) (v:=es[en.born].2) (by rw[qh4,hkv];rfl)
    rw[qh4,hjg]at q1
    cases q1
    exact q2
   have hkrel:VRel φ es[en.born].1 en.key:=by rw[hkey];exact GJ (hint _ (List.getElem_mem hjl'))
   obtain⟨w2,hw2⟩:=qhd (zN w1 r0 (.mapIter (some l.b) es.length (sn.push en.born) ck))
   have hh1:w1.heap=w.heap:=by rcases hw1 with rfl | rfl<;>rfl
   have hR1:R φ m1 w1:=hR.heapEq hh1
   have hst1:Step φ m1 w0 φ m1 w1:=by
    rcases hw1 with rfl | rfl
    .exact hst
    .exact hst.trans (Step.to (w.drawn+1))
   have hrit1:w1.heap[r0]?=some (.mapIter (some l.b) es.length sn es.length):=by rw[hh1];exact hrit
   have hrlt:=(qgr.1 hrit1).1
   have hR2:R φ m1 w2:=by rw[hw2];exact hR1.iter hrit1 _
   have hst2:Step φ m1 w0 φ m1 w2:=by rw[hw2];exact hst1.iter hr0 _
   have hrit2:w2.heap[r0]?=some (.mapIter (some l.b) es.length (sn.push en.born) ck):=by rw[hw2,kJ _ hrlt,if_pos rfl]
   have hmap2:w2.heap[l.b]?=some (.map es' ck):=by
    rw[hw2,kJ _ hrlt,if_neg,hh1]
    .exact hmap
    .intro e
     rw[e,hrit]at hmap
     cases hmap
   have hD2:∀{ds},Dfr n0 w ds->Dfr n0 w2 ds:=λhd=>⟨by rw[hw2];simpa [zN,hh1]using hd.le,λd hd'=>by
    obtain⟨D,q1,q2,q3⟩:=hd.mark d hd'
    refine⟨D,q1,q2,?_⟩
    have hne:D≠r0:=λe=>by rw[e,hrit]at q3;cases q3
    rw[hw2,kJ _ hrlt,if_neg hne,hh1]
    exact q3,hd.ne⟩
   have hseen':∀i,i∈en.born::seen ↔ (sn.push en.born).contains i=true:=λi=>by
    rw[contains_push,List.mem_cons,Bool.or_eq_true,hseen i]
    constructor
    .rintro (e | e)
     .exact .inr (by rw[e];simp)
     .exact .inl e
    .rintro (e | e)
     .exact .inr e
     .exact .inl (by simpa using e)
   refine kw (v:=.tuple #[.bool true,en.key,en.val]) (w':=w2) (λc e=>by rw[ok.e2]at e;cases e) ?_ ?_
   .rw[hw2]
    simp only[execOp,ok.e2,hev,Sem.run_bind]
    rw[hrun]
    rfl
   .refine kw (v:=.bool true) (w':=w2) (λc e=>by rw[ok.e3]at e;cases e) (hext _ _ _ rfl) ?_
    refine wpIn_seq (wpIn_cond_true (hmoev _ _) (wpIn_skip ?_))
    show Bk.wpIn (Fw r) n P (Exit.then K Q) _ w2
    obtain⟨a2,ha2⟩:=qhd ((a.put o2.dst (.tuple #[.bool true,en.key,en.val])).put o3.dst (.bool true))
    rw[<-ha2]
    have hTa:TR φ nt (Tm.set p.mo (.bool true) (Tm.set p.nx xF ta)) a2.tmps:=by
     rw[ha2]
     exact (hT.putD hdn (.junk _)).putD hdm (.bool _)
    have hita:a2.tmps.getD p.it undef=.pointer (some ⟨r0,0,none⟩):=by rw[ha2];exact hitput _ _
    have hda:a2.defers=a.defers:=by rw[ha2,put_defers,put_defers]
    have hkca:KC r body a0 a2:=by rw[ha2];exact kcput _ _
    have hent:(Instr.entry (a2.tmps.getD p.it undef)).run P w2=.ok (.tuple #[en.key,en.val]) w2:=by
     rw[hita]
     exact run_entry_at w2 r0 l.b es.length sn es' ck en hrit2 hmap2 hen1 (Zi hbirth)
    cases hrr:jU p c x m1 es[en.born] ta with
    | none=>obtain⟨t',q1,_⟩:=hall _ (.stuck seen ta en.born _ hkv hjs hrr);cases q1
    | some ou =>
     obtain⟨e1,t3,m3⟩:=ou
     obtain⟨hds,hJ⟩:=hround hrr
     cases e1 with
     | some e1 =>
      obtain⟨t',q1,q2⟩:=hall _ (.leave seen ta en.born _ e1 t3 m3 hkv hjs hrr)
      cases q1
      refine hJ r n n0 φ w2 a2 _ en.key en.val hR2 hTa hent hkrel hval hF hI (by rw[hda];exact hD2 hD) λφ' w' a' s1 R1 T1 D1 K1=>?_
      refine dU (hk φ' w' a' (hst2.trans s1) R1 ?_ D1 (hkca.trans (K1.sub λi hi=>(hmk i hi).2.2)))
      rw[hT']
      have:=finT q2 T1
      refine⟨this.size,this.le,λi hi=>?_⟩
      have hle:=this.le
      by_cases e1:i=p.mo
      .subst e1;rw[Tm.get_set_same];exact .junk _
      .rw[Tm.get_set_ne (by omega) (by have:=ok.n3;omega) e1]
       by_cases e2:i=p.nx
       .subst e2;rw[Tm.get_set_same];exact .junk _
       .rw[Tm.get_set_ne (by omega) (by have:=ok.n2;omega) e2];exact this.rel i hi
     | none =>
      by_cases hm:m3=m1
      .subst hm
       refine hJ r n n0 φ w2 a2 _ en.key en.val hR2 hTa hent hkrel hval (λB h1 h2=>by omega) hI (by rw[hda];exact hD2 hD) λφ' w' a' s1 R1 T1 D1 K1=>?_
       obtain rfl:=s1.same_phi
       refine hK en.born (sn.push en.born) t3 w' a' hjl' hjs hseen' (λo ho=>hall o (.next seen ta en.born _ t3 o hkv hjs hrr ho)) R1 (hst2.trans s1) T1 (hkca.trans (K1.sub λi hi=>(hmk i hi).2.2)) D1 ?_ ?_
       .rw[K1.tm p.it hit];exact hita
       .rw[VU hR2 s1 hrit2,hck]
      .obtain⟨t',q1,_⟩:=hall _ (.moved seen ta en.born _ t3 m3 hkv hjs hrr hm);cases q1
 have key:∀(φ:Phi) (w0:World) (r0:Nat) (l:Loc),φ B=some l->w0.heap.size<=r0->InR r φ m1->Free φ m1.n m2.n->∀(N:Nat) (seen:List Nat) (sn:Array Nat) (ta:Tm) (w:World) (a0 a:Act) (Q:Exit->Act->World->Prop),Jl es.length seen<=N ->
   (∀j,j∈seen ↔ sn.contains j=true)->(∀o,RmOut (jU p c x m1) es m1 seen ta o->∃t',o=some ⟨e,t',m2⟩/\G t')->R φ m1 w->Step φ m1 w0 φ m1 w->TR φ nt ta a.tmps->KC r body a0 a->Dfr n0 w a.defers ->
   a.tmps.getD p.it undef=.pointer (some ⟨r0,0,none⟩)->w.heap[r0]?=some (.mapIter (some l.b) es.length sn es.length) ->
   (∀φ' w' a',Step φ m1 w0 φ' m2 w'->R φ' m2 w'->TR φ' nt T' a'.tmps->Dfr n0 w' a'.defers->KC r body a0 a'->Q (vl out e) a' w')->Code.roundsIn (Fw r) n P body Q (N+1) a w:=by
  intro φ w0 r0 l hl hr0 hI hF N
  induction N with
  | zero =>
   intro seen sn ta w a0 a Q hN hseen hall hR hst hT hKC hD hitv hrit hk
   rw[roundsIn_succ]
   refine one φ w0 r0 l hl hr0 hI hF seen sn ta w a0 a Q _ hseen hall hR hst hT hKC hD hitv hrit (λj sn' ta' w' a' hj hjs _ _ _ _ _ _ _ _ _=>?_) hk
   have:=ft hj hjs
   omega
  | succ N ihN =>
   intro seen sn ta w a0 a Q hN hseen hall hR hst hT hKC hD hitv hrit hk
   rw[roundsIn_succ]
   refine one φ w0 r0 l hl hr0 hI hF seen sn ta w a0 a Q _ hseen hall hR hst hT hKC hD hitv hrit (λj sn' ta' w' a' hj hjs g1 g2 g3 g4 g5 g6 g7 g8 g9=>?_) hk
   have:=ft hj hjs
   exact ihN (j::seen) sn' ta' w' a0 a' Q (by omega) g1 g2 g3 g4 g5 g6 g7 g8 g9 hk
 have hs1:ops1.size=ops1.toList.dropLast.length+1:=by
  have:=congrArg List.length ok.l1
  simpa using this
 have hr1:List.range ops1.size=List.range' 0 ops1.toList.dropLast.length++[ops1.toList.dropLast.length]:=by
  rw[hs1,List.range_eq_range',List.range'_concat]
  simp
 have ho1:ops1[ops1.toList.dropLast.length]?=some o1:=by
  rw[Fu ok.l1]
  simp
 rw[hr1]
 refine h3 r n φ w a _ _ hR hT (hF.sub (qgq _) hd12.n) λφ1 w1 a1 s1 R1 T1 K1=>?_
 simp only[wpOpsIn,ho1,jY ok.g1,if_true]
 have hlB:B<m1.n:=R1.lt hob
 have hyr:=qi ok.o (T1.opR [y]) (by simp)
 rw[hB]at hyr
 obtain⟨l,hl,hyv⟩:=hyr.map_inv
 obtain⟨ob',hob1,hob2⟩:=R1.obj B l hlB hl
 rw[hob]at hob1;cases hob1
 obtain⟨es',ck,hmap,hkeys,hvals,hbirth⟩:=hob2
 have hck:ck=es.length:=by
  have:=congrArg List.length hkeys
  rw[hbirth.2]
  simpa using this.symm
 obtain⟨kt,et,hty⟩:=ok.ht
 have hx1:=R1.extra (.mapIter (some l.b) ck #[] ck)
 obtain⟨a2,ha2⟩:=qhd (a1.put o1.dst (.pointer (some ⟨w1.heap.size,0,none⟩)))
 refine kw (v:=.pointer (some ⟨w1.heap.size,0,none⟩)) (w':=w1.alloc (.mapIter (some l.b) ck #[] ck)) (λc e=>by rw[ok.e1]at e;cases e) ?_ ?_
 .simp only[execOp,ok.e1,hyv,Sem.run_bind,run_range_map w1 ty kt et l.b es' ck hty hmap,Result.andThen_ok]
  rfl
 .rw[<-ha2]
  have hd1:vb nt o1.dst=some (some p.it):=by
   unfold vb
   rw[ok.d1]
   simp only
   rw[if_pos ok.n1]
  have hD1:Dfr n0 w1 a1.defers:=by rw[K1.df];exact hD.step hR s1
  have hT2:TR φ1 nt t0 a2.tmps:=by
   rw[ha2,ht0]
   exact T1.putD hd1 (.junk _)
  have hK2:KA ops1 a a2:=by rw[ha2];exact K1.trans (KA.put ho1 _ _)
  show (Code.block out (.loop (.seq (.region i2 ops2 false) (.seq (.cond mo .skip (.exit out2)) (.block nxt (.seq (.region i3 ops3 false) code)))))).wpIn (Fw r) n P Q a2 _
  rw[<-hBk,<-hbody]
  refine wpIn_block (wpIn_loop_rounds _ (key φ1 w1 w1.heap.size l hl (qgq _) (hI.step s1) (Free.step s1 (hF)) _ [] #[] t0 _ a2 a2 _ (qgq _) (λj=>by simp) ?_ hx1.1 hx1.2 hT2 (KC.refl _ _ _) ?_ ?_ ?_ λφ' w' a' g1 g2 g3 g4 g5=>?_))
  .intro o ho
   obtain⟨t',q1⟩:=hgood o ho
   subst q1
   exact⟨t',rfl,by rw[hG];exact ho⟩
  .rw[ha2,put_defers]
   exact hD1.step R1 hx1.2
  .rw[ha2,ok.d1]
   exact bz _ _ (by rw[T1.size];exact ok.n1)
  .rw[kC,hck]
  .refine hF2 Q a' w' (hk φ' w' a' (s1.trans g1) g2 g3 g4 ?_)
   have h1:KC r (.region i1 ops1 false) a a2:=hK2.kc
   refine (h1.sub λi hi=>?_).trans (g5.sub λi hi=>?_)
   .exact (Kc (a:=.region i1 ops1 false) hi).1
   .have:=(Kc (a:=.region i1 ops1 false) hi).2
    rw[hbody,hBk]
    exact this
theorem Gl {a b:Code}{sc:SC}(h:cCode P nt (.seq a b)=some sc) :
  (∃i1 ops1 out i2 ops2 mo out2 nxt i3 ops3 code p c,a=.region i1 ops1 false/\b=.block out (.loop (.seq (.region i2 ops2 false) (.seq (.cond mo .skip (.exit out2)) (.block nxt (.seq (.region i3 ops3 false) code))))) /\
   rmOf P nt ops1 out ops2 mo out2 nxt ops3 code=some p/\cCode P nt code=some c/\sc=sRm nt p c) \/
  ∃sa sb,cCode P nt a=some sa/\cCode P nt b=some sb/\sc=qb sa sb:=by
 have gen:ob (cCode P nt a) (λa=>ob (cCode P nt b) λb=>some (qb a b))=some sc->∃sa sb,cCode P nt a=some sa/\cCode P nt b=some sb/\sc=qb sa sb:=λhc=>by
  obtain⟨sa,hsa,hc⟩:=qa hc
  obtain⟨sb,hsb,hc⟩:=qa hc
  cases hc
  exact⟨sa,sb,hsa,hsb,rfl⟩
 rw[cCode.eq_def]at h
 split at h<;>rename_i heq
 all_goals first
  | (cases heq;done)
  | skip
 .cases heq
  split at h
  .rename_i p hp
   obtain⟨c,hcode,h⟩:=qa h
   cases h
   exact .inl ⟨_,_,_,_,_,_,_,_,_,_,_,p,c,rfl,rfl,hp,hcode,rfl⟩
  .exact .inr (gen h)
 .cases heq
  exact .inr (gen h)
 .cases h
theorem Zk (hx:jn P x)(hP:P.follows .mixedOrders=true)(ht:nt<=512):∀(c:Code) (sc:SC),cCode P nt c=some sc->∀(kn:K) (ke:Nat->K) (kr:K) (t:Tm) (m:M) (out:Out),sc x kn ke kr t m=some out ->
  ∃e t' m',vI kn ke kr e t' m'=some out/\DStep m m'/\Jc P nt c e t m t' m':=by
 intro c
 obtain⟨N,hN⟩:∃N,SizeOf.sizeOf c<N:=⟨_,Nat.lt_succ_self _⟩
 induction N generalizing c with
 | zero=>omega
 | succ N IH =>
 cases c with
 | skip =>
  intro sc hc kn ke kr t m out h
  cases hc
  exact⟨none,t,m,h,DStep.refl _,λr n n0 φ w a Q hR hT hF hI hD hk=>wpIn_skip (hk φ w a (Step.refl _ _ _) hR hT hD (KC.refl _ _ _))⟩
 | region id ops draw =>
  intro sc hc kn ke kr t m out h
  unfold cCode cReg at hc
  cases draw with
  | true =>
   simp only[cond_true]at hc
   split at hc
   .rename_i hreg
    obtain⟨das,hdas,hc⟩:=qa hc
    cases hc
    obtain⟨t',m',h1,h2,h3⟩:=any_ok hx hP ht hreg hdas h
    exact⟨none,t',m',h1,h2,λr n n0 φ w a Q hR hT hF hI hD hk=>h3 r n id φ w a Q hR hT hF λφ' w' a' e1 e2 e3 e4=>hk φ' w' a' e1 e2 e3 (by rw[e4.df];exact hD.step hR e1) e4.kc⟩
   .cases hc
  | false =>
   simp only[cond_false]at hc
   obtain⟨l,hl,hc⟩:=qa hc
   cases hc
   obtain⟨t',m',h1,h2,h3⟩:=seq_ok hx ops.toList 0 l rfl hl kn t m out h
   refine⟨none,t',m',h1,h2,λr n n0 φ w a Q hR hT hF hI hD hk=>wpIn_region ?_⟩
   have:=h3 r n φ w a Q hR hT hF λφ' w' a' e1 e2 e3 e4=>hk φ' w' a' e1 e2 e3 (by rw[e4.df];exact hD.step hR e1) e4.kc
   rw[Array.length_toList]at this
   rw[List.range_eq_range']
   exact this
 | seq a b =>
  have iha:=IH a (by simp at hN;omega)
  have ihb:=IH b (by simp at hN;omega)
  intro sc hc kn ke kr t m out h
  have both:∀(sa sb:SC),cCode P nt a=some sa->cCode P nt b=some sb->sa x (sb x kn ke kr) ke kr t m=some out->∃e t' m',vI kn ke kr e t' m'=some out/\DStep m m'/\Jc P nt (.seq a b) e t m t' m':=λsa sb hsa hsb h=>by
   obtain⟨e,t1,m1,h1,h2,h3⟩:=iha sa hsa _ _ _ _ _ _ h
   cases e with
   | none =>
    obtain⟨e',t2,m2,h4,h5,h6⟩:=ihb sb hsb _ _ _ _ _ _ h1
    refine⟨e',t2,m2,h4,h2.trans h5,λr n n0 φ w a Q hR hT hF hI hD hk=>wpIn_seq ?_⟩
    refine h3 r n n0 φ w a _ hR hT (hF.sub (qgq _) h5.n) hI hD λφ' w' a' e1 e2 e3 e4 e5=>?_
    exact h6 r n n0 φ' w' a' Q e2 e3 (Free.step e1 hF) (hI.step e1) e4 λφ'' w'' a'' f1 f2 f3 f4 f5=>hk φ'' w'' a'' (e1.trans f1) f2 f3 f4 ((e5.sub λi hi=>(Kc hi).1).trans (f5.sub λi hi=>(Kc hi).2))
   | some e =>
    refine⟨some e,t1,m1,by cases e<;>exact h1,h2,λr n n0 φ w a Q hR hT hF hI hD hk=>wpIn_seq ?_⟩
    exact h3 r n n0 φ w a _ hR hT hF hI hD λφ' w' a' e1 e2 e3 e4 e5=>dU (hk φ' w' a' e1 e2 e3 e4 (e5.sub λi hi=>(Kc hi).1))
  rcases Gl hc with ⟨i1,ops1,out0,i2,ops2,mo,out2,nxt,i3,ops3,code,p,c,rfl,rfl,hp,hcode,rfl⟩ | ⟨sa,sb,hsa,hsb,rfl⟩
  .obtain⟨o1,o2,o3,o4,rest,ty,y,hok⟩:=Br hp
   exact rm_ok hx ht hok c (IH code (by simp at hN;omega) c hcode) h
  .exact both sa sb hsa hsb h
 | cond o a b =>
  have iha:=IH a (by simp at hN;omega)
  have ihb:=IH b (by simp at hN;omega)
  intro sc hc kn ke kr t m out h
  unfold cCode at hc
  obtain⟨f,hf,hc⟩:=qa hc
  obtain⟨sa,hsa,hc⟩:=qa hc
  obtain⟨sb,hsb,hc⟩:=qa hc
  cases hc
  obtain⟨c,hcb,h⟩:=qa (show ob (xK (f t)) (λc=>bif c then sa x kn ke kr t m else sb x kn ke kr t m)=some out from h)
  have hval:=jw hcb
  have key:∀{φ:Phi} {a:Act},TR φ nt t a.tmps->a.eval o=.bool c:=λ{φ a} hT=>by
   have:=qi hf (hT.opR [o]) (by simp)
   rw[hval]at this
   exact this.bool_inv
  cases c with
  | true =>
   obtain⟨e,t1,m1,h1,h2,h3⟩:=iha sa hsa _ _ _ _ _ _ h
   exact⟨e,t1,m1,h1,h2,λr n n0 φ w a Q hR hT hF hI hD hk=>wpIn_cond_true (key hT) (h3 r n n0 φ w a Q hR hT hF hI hD λφ' w' a' e1 e2 e3 e4 e5=>hk φ' w' a' e1 e2 e3 e4 (e5.sub λi hi=>(condL hi).1))⟩
  | false =>
   obtain⟨e,t1,m1,h1,h2,h3⟩:=ihb sb hsb _ _ _ _ _ _ h
   exact⟨e,t1,m1,h1,h2,λr n n0 φ w a Q hR hT hF hI hD hk=>wpIn_cond_false (key hT) (h3 r n n0 φ w a Q hR hT hF hI hD λφ' w' a' e1 e2 e3 e4 e5=>hk φ' w' a' e1 e2 e3 e4 (e5.sub λi hi=>(condL hi).2))⟩
 | block id b =>
  have ih:=IH b (by simp at hN;omega)
  intro sc hc kn ke kr t m out h
  unfold cCode at hc
  obtain⟨sb,hsb,hc⟩:=qa hc
  cases hc
  obtain⟨e,t1,m1,h1,h2,h3⟩:=ih sb hsb _ _ _ _ _ _ h
  have done:∀e',vI kn ke kr e' t1 m1=some out->(∀(Q:Exit->Act->World->Prop) a w,Q (ve e') a w->Exit.inBlock id Q (ve e) a w)->∃e t' m',vI kn ke kr e t' m'=some out/\DStep m m'/\Jc P nt (.block id b) e t m t' m':=λe' g1 g2 =>
   ⟨e',t1,m1,g1,h2,λr n n0 φ w a Q hR hT hF hI hD hk=>wpIn_block (h3 r n n0 φ w a _ hR hT hF hI hD λφ' w' a' e1 e2 e3 e4 e5=>g2 Q a' w' (hk φ' w' a' e1 e2 e3 e4 (e5.sub λi hi=>hi)))⟩
  cases e with
  | none=>exact done none h1 λQ a w h=>h
  | some e =>
   cases e with
   | ret=>exact done (some .ret) h1 λQ a w h=>h
   | exit j =>
    change (bif Nat.beq j id then kn t1 m1 else ke j t1 m1)=some out at h1
    cases hj:Nat.beq j id with
    | true =>
     rw[hj]at h1
     have:=qh0 hj
     exact done none h1 λQ a w h=>by simp only[ve,Exit.inBlock,this,if_true];exact h
    | false =>
     rw[hj]at h1
     have:j≠id:=λe=>by subst e;simp at hj
     exact done (some (.exit j)) h1 λQ a w h=>by simp only[ve,Exit.inBlock,this,if_false];exact h
 | loop b =>
  have ih:=IH b (by simp at hN;omega)
  intro sc hc kn ke kr t m out h
  unfold cCode at hc
  obtain⟨sb,hsb,hc⟩:=qa hc
  cases hc
  have key:∀(N:Nat) (t:Tm) (m:M),KE (λk=>sb x k ke kr) N t m=some out->∃e t' m' k,vI kn ke kr (some e) t' m'=some out/\DStep m m' /\
    ∀r n n0 φ w a Q,R φ m w->TR φ nt t a.tmps->Free φ m.n m'.n->InR r φ m->Dfr n0 w a.defers ->
     (∀φ' w' a',Step φ m w φ' m' w'->R φ' m' w'->TR φ' nt t' a'.tmps->Dfr n0 w' a'.defers->KC r b a a'->Q (ve (some e)) a' w')->Code.roundsIn (Fw r) n P b Q k a w:=by
   intro N
   induction N with
   | zero=>intro t m h;cases h
   | succ N ihN =>
    intro t m h
    obtain⟨e,t1,m1,h1,h2,h3⟩:=ih sb hsb _ _ _ _ _ _ (show sb x (KE (λk=>sb x k ke kr) N) ke kr t m=some out from h)
    cases e with
    | none =>
     obtain⟨e',t2,m2,k,h4,h5,h6⟩:=ihN t1 m1 h1
     refine⟨e',t2,m2,k+1,h4,h2.trans h5,λr n n0 φ w a Q hR hT hF hI hD hk=>?_⟩
     rw[roundsIn_succ]
     refine h3 r n n0 φ w a _ hR hT (hF.sub (qgq _) h5.n) hI hD λφ' w' a' e1 e2 e3 e4 e5=>?_
     exact h6 r n n0 φ' w' a' Q e2 e3 (Free.step e1 hF) (hI.step e1) e4 λφ'' w'' a'' f1 f2 f3 f4 f5=>hk φ'' w'' a'' (e1.trans f1) f2 f3 f4 (e5.trans f5)
    | some e =>
     refine⟨e,t1,m1,1,?_,h2,λr n n0 φ w a Q hR hT hF hI hD hk=>?_⟩
     .cases e<;>exact h1
     .rw[roundsIn_succ]
      exact h3 r n n0 φ w a _ hR hT hF hI hD λφ' w' a' e1 e2 e3 e4 e5=>dU (hk φ' w' a' e1 e2 e3 e4 e5)
  obtain⟨e,t',m',k,h1,h2,h3⟩:=key 1180591620717411303424 t m h
  exact⟨some e,t',m',h1,h2,λr n n0 φ w a Q hR hT hF hI hD hk=>wpIn_loop_rounds k (h3 r n n0 φ w a Q hR hT hF hI hD λφ' w' a' e1 e2 e3 e4 e5=>hk φ' w' a' e1 e2 e3 e4 (e5.sub λi hi=>hi))⟩
 | exit id =>
  intro sc hc kn ke kr t m out h
  cases hc
  exact⟨some (.exit id),t,m,h,DStep.refl _,λr n n0 φ w a Q hR hT hF hI hD hk=>wpIn_exit (hk φ w a (Step.refl _ _ _) hR hT hD (KC.refl _ _ _))⟩
 | ret =>
  intro sc hc kn ke kr t m out h
  cases hc
  exact⟨some .ret,t,m,h,DStep.refl _,λr n n0 φ w a Q hR hT hF hI hD hk=>wpIn_ret (hk φ w a (Step.refl _ _ _) hR hT hD (KC.refl _ _ _))⟩
 | rangeFunc o ps as bo =>
  intro sc hc kn ke kr t m out h
  unfold cCode at hc
  split at hc
  .rename_i hps
   obtain⟨f,hf,hc⟩:=qa hc
   obtain⟨ks,hks⟩:=qhd (keeps nt (ye as (ye bo 0)) (Fs ps.toList (yb as (yb bo 0))))
   have hklt:∀k∈ks,k<nt:=by rw[hks];exact qau _ _
   rw[<-hks]at hc
   clear hks
   cases hc
   obtain⟨g,uv,hg,h⟩:=ky (show obp (vFn (f t)) (λg uv=>Prod.rec (rfGo nt ps as bo ks x kn ke kr t m g) uv)=some out from h)
   obtain⟨u,v⟩:=uv
   obtain⟨val,m1,hcall,h⟩:=ky (show obp (x.f g (u.toList++[.func (.yield m.n) #[] #[]]++v.toList) (m.alloc (.loop 0 (xj ks t) nt ps as bo none))) (endL m.n t kn ke kr)=some out from h)
   unfold endL at h
   split at h
   .rename_i st t' nt' ps' a' b' pend hob
    cases hst:Nat.beq st 1 with
    | true=>rw[hst]at h;cases h
    | false =>
     rw[hst]at h
     obtain⟨d1,hent,hJ⟩:=hx.f _ _ _ _ _ hcall
     have dal:=DStep.alloc m (.loop 0 (xj ks t) nt ps as bo none)
     have hLlt:m.n<m1.n:=by have:=d1.n;rw[M.n_alloc]at this;omega
     have dput:DStep m1 (m1.put m.n (.loop 3 t' nt' ps' a' b' pend)):=DStep.put _ _ _ (λe=>by unfold dead at e;rw[hob]at e;cases e) (by rw[hob];rfl)
     refine⟨pend,t,m1.put m.n (.loop 3 t' nt' ps' a' b' pend),h,(dal.trans d1).trans dput,λr n n0 φ w a Q hR hT hF hI hD hk=>?_⟩
     have hfv:f t=.func (.func g) u v:=by
      unfold vFn at hg
      split at hg
      .rename_i e;cases hg;exact e
      .cases hg
     have hval:=qi hf (hT.opR [o]) (by simp)
     rw[hfv]at hval
     generalize hev:a.eval o=ov at hval
     cases hval with
     | fn _ _ u' _ v' hu hv =>
      rw[M.n_put]at hF
      have hFm:φ m.n=none:=hF m.n (qgq _) hLlt
      have main:∀(W0:World) (mark:List Deferred) (fn D:Nat),R φ m W0->Step φ m w φ m W0->Dfr n0 (W0.alloc (.loop { state:=.ready,pending:=none,fn,tmps:=a.tmps,params:=ps,assign:=as,body:=bo,defers:=D })) (mark++a.defers)->(r.isSome=true->mark=[]) ->
        (Instr.enterLoop fn a.tmps ps as bo (Fw r).round).run P w=.ok (W0.heap.size,mark) (W0.alloc (.loop { state:=.ready,pending:=none,fn,tmps:=a.tmps,params:=ps,assign:=as,body:=bo,defers:=D })) ->
        ∃(l:Nat) (mark:List Deferred) (w₁:World) (d:Deferred) (w₁':World) (f:FuncId) (args:Array Value) (w₂:World),
         (Instr.enterLoop fn a.tmps ps as bo (Fw r).round).run P w=.ok (l,mark) w₁ /\
         (resolve a.eval (rangeCall o l) 0).run P w₁=.ok d w₁' /\
         (∀f',Target.leads P w₁' d.target d.args=some f'->(Fw r).fn f') /\
         (invoke d.target d.args).run P w₁'=.ok (.enter f args) w₂ /\
         ((Fw r).depth.isSome=true->1<=n) /\
         CallsIn (Fw r) (n-1) P f args w₂ (rangePost (Fw r) n P l Q { a with defers:=mark++a.defers }):=by
       intro W0 mark fn D hR0 hs0 hD0 hmark hrun
       obtain⟨φ1,hφ1⟩:=qhd (PSet φ m.n ⟨W0.heap.size,0,0⟩)
       obtain⟨W1,hW1⟩:=qhd (W0.alloc (.loop { state:=.ready,pending:=none,fn,tmps:=a.tmps,params:=ps,assign:=as,body:=bo,defers:=D }))
       have hal:=hR0.alloc hFm (o:=.loop 0 (xj ks t) nt ps as bo none) (O:=.loop { state:=.ready,pending:=none,fn,tmps:=a.tmps,params:=ps,assign:=as,body:=bo,defers:=D }) (n:=0) (d:=0)
        ⟨_,kC W0 _,trivial,trivial,rfl,rfl,rfl,(GK hT hklt).mono (PSet.le hFm)⟩
       rw[<-hφ1,<-hW1]at hal
       obtain⟨hR1,hs1⟩:=hal
       have hφL:φ1 m.n=some ⟨W0.heap.size,0,0⟩:=by rw[hφ1];unfold PSet;rw[if_pos rfl]
       rw[<-hW1]at hrun hD0
       have hargs:VRels φ1 (u.toList++[.func (.yield m.n) #[] #[]]++v.toList) ((u' ++ #[Value.func (.yield W0.heap.size) #[] #[]])++v').toList:=by
        rw[Array.toList_append,Array.toList_append]
        exact (((VRels.mono hs1.le) hu).append (.cons _ _ _ _ (.yield m.n _ hφL) .nil)).append ((VRels.mono hs1.le) hv)
       have hF1:Free φ1 (m.alloc (.loop 0 (xj ks t) nt ps as bo none)).n m1.n:=λB h1 h2=>by
        rw[M.n_alloc]at h1
        rw[hs1.ext B (.inr (by rw[M.n_alloc];exact h1))]
        exact hF B (by omega) h2
       refine⟨W0.heap.size,mark,W1,{ target:=.fn (.func g) v',args:=u' ++ #[Value.func (.yield W0.heap.size) #[] #[]] },W1,g,(u' ++ #[Value.func (.yield W0.heap.size) #[] #[]])++v',W1,hrun,?_,λ_ _=>trivial,?_,QJ r n,?_⟩
       .simp only[resolve,hev]
        simp[Deferred.ofValue,Act.eval]
       .simp[invoke,hent.run]
       .refine (JE (hJ φ1 W1 _ hR1 hargs hF1)).mono ?_
        rintro e w2 ⟨φ2,v2,rfl,hR2,hs2,_⟩
        have hφ2:φ2 m.n=some ⟨W0.heap.size,0,0⟩:=hs2.le _ _ hφL
        obtain⟨ob',ho1,ho2⟩:=hR2.obj m.n _ hLlt hφ2
        rw[hob]at ho1;cases ho1
        obtain⟨rr,q1,q2,q3,q4,q5,q6,q7⟩:=ho2
        simp only at q1
        have hbusy:rr.state≠.busy:=by
         intro e
         rw[e]at q2
         have hne:st≠1:=λe=>by subst e;simp at hst
         unfold qcn at q2
         split at q2
         .cases ‹LoopState.busy=.ready›
         .exact hne rfl
         .cases ‹LoopState.busy=.done›
         .cases ‹LoopState.busy=.exhausted›
         .exact q2
        have hend:=run_endLoop (P:=P) q1 hbusy
        have hput:=hR2.put (B:=m.n) (l:=⟨W0.heap.size,0,0⟩) (o:=.loop 3 t' nt' ps' a' b' pend) (O:=.loop { rr with state:=.exhausted }) hLlt hφ2 (λe=>by unfold dead at e;rw[hob]at e;cases e) (by rw[hob];rfl)
         (λo' l' hb hr' ho'=>by
          subst ho'
          obtain⟨cs,e,fz,k1,_⟩:=hr'
          rw[hb]at k1
          rw[q1]at k1;cases k1)
         (⟨{ rr with state:=.exhausted },by rw[kJ _ (qgr.1 q1).1,if_pos rfl],trivial,q3,q4,q5,q6,q7⟩)
        obtain⟨hR3,hs3⟩:=hput
        rw[<-dK]at hR3 hs3
        have hstep:Step φ m w φ2 (m1.put m.n (.loop 3 t' nt' ps' a' b' pend)) (w2.putObj W0.heap.size (.loop { rr with state:=.exhausted })):=(hs0.trans (hs1.trans hs2)).trans hs3
        have hQ:Q (ve pend) { a with defers:=mark++a.defers } (w2.putObj W0.heap.size (.loop { rr with state:=.exhausted })):=by
         refine hk φ2 _ _ hstep hR3 (hT.mono hstep.le) ?_ ⟨λhr=>by simp[hmark hr],λ_ _=>rfl⟩
         exact (hD0.step hR1 hs2).step hR2 hs3
        refine⟨rr.pending,_,hend,?_⟩
        unfold fb at q3
        split at q3
        .rename_i e1;rw[e1]at hQ ⊢;exact hQ
        .rename_i e1;rw[e1]at hQ ⊢;subst q3;exact wpIn_exit hQ
        .rename_i e1;rw[e1]at hQ ⊢;exact wpIn_ret hQ
        .exact q3.elim
      refine wpIn_rangeFunc λfn hfn=>?_
      cases r with
      | none =>
       have hx1:=hR.extra (.deferred (some []))
       refine main (w.alloc (.deferred (some []))) [{ target:=.collected w.heap.size,args:=#[] }] fn w.heap.size hx1.1 hx1.2 ?_ (λe=>by cases e) ?_
       .have hD1:Dfr n0 (w.alloc (.deferred (some []))) a.defers:=hD.step hR hx1.2
        have hx2:=hx1.1.extra (.loop { state:=.ready,pending:=none,fn,tmps:=a.tmps,params:=ps,assign:=as,body:=bo,defers:=w.heap.size })
        have hD2:=hD1.step hx1.1 hx2.2
        refine⟨hD2.le,λd hd=>?_,?_⟩
        .rcases List.mem_cons.1 hd with e | e
         .subst e
          exact⟨w.heap.size,rfl,hD.le,yr hx1.1 hx2.2 (kC w _)⟩
         .exact hD2.mark d e
        .refine List.pairwise_cons.2 ⟨λd hd e=>?_,hD.ne⟩
         obtain⟨D,k1,_,k3⟩:=hD.mark d hd
         rw[k1]at e
         simp only[Target.collected.injEq]at e
         have:=(qgr.1 k3).1
         omega
       .have:=run_enterLoop_outer (P:=P) (w:=w) fn a.tmps ps as bo
        rw[World.size_alloc]
        exact this
      | some l0 =>
       obtain⟨L,l,k1,k2,k3,k4⟩:=hI l0 rfl
       obtain⟨oo,k5,k6⟩:=hR.obj L l k3 k1
       rw[k5]at k4
       cases oo with
       | cells=>cases k4
       | map=>cases k4
       | loop =>
        obtain⟨r0,k7,_⟩:=k6
        rw[k2]at k7
        refine main w [] fn r0.defers hR (Step.refl _ _ _) ?_ (λ_=>rfl) (run_enterLoop_inner k7 fn a.tmps ps as bo)
        exact hD.step hR (hR.extra _).2
   .cases h
  .cases hc
 | _=>intro sc hc;cases hc
end
end Go.Dx
namespace Go.Dx
open Go.RowKit
section
variable {P:Program}{nt:Nat}{x:Ex}{φ φ':Phi}{m m':M}{w w':World}
theorem KB:∀(l:List Value) (t:Tm) (i j:Nat),i+l.length<=512->j<512->Tm.get j (jl t i l)=if i<=j/\j<i+l.length then l.getD (j-i) undef else Tm.get j t
 | [],t,i,j,_,_=>by rw[jl,if_neg (by simp)]
 | v::l,t,i,j,h,hj=>by
  simp only[List.length_cons]at h
  rw[jl,KB l _ (i+1) j (by omega) hj]
  by_cases e:j=i
  .subst e
   rw[if_neg (by omega),if_pos (by simp),Tm.get_set_same]
   simp
  .rw[Tm.get_set_ne hj (by omega) e]
   by_cases e2:i+1<=j/\j<i+1+l.length
   .rw[if_pos e2,if_pos (by simp;omega)]
    rw[show j-i=(j-(i+1))+1 by omega]
    simp
   .rw[if_neg e2,if_neg (by simp;omega)]
theorem TR.init (ht:nt<=512){args:List Value}{args':Array Value}(h:VRels φ args args'.toList)(hl:args.length<=nt):TR φ nt (jl .blank 0 args) (args'++Array.replicate (nt-args'.size) undef):=by
 have hlen:args.length=args'.size:=by have:=h.length;simpa using this
 refine⟨by simp;omega,ht,λi hi=>?_⟩
 rw[KB args _ 0 i (by omega) (by omega)]
 by_cases e:i<args.length
 .rw[if_pos (by omega)]
  obtain⟨v',h1,h2⟩:=h.get (i:=i) (v:=args[i]) (by simp[e])
  have e':i<args'.size:=by omega
  have h3:args'[i]=v':=by simpa [e']using h1
  have:(args'++Array.replicate (nt-args'.size) undef).getD i undef=v':=by
   simp[Array.getElem?_append,e',h3]
  rw[this]
  have:args.getD (i-0) undef=args[i]:=by simp[e]
  rw[this];exact h2
 .rw[if_neg (by omega),Tm.get_blank]
  have:(args'++Array.replicate (nt-args'.size) undef).getD i undef=undef:=by
   have e':¬i<args'.size:=by omega
   simp[Array.getElem?_append,e']
   rw[Array.getElem?_replicate]
   split<;>rfl
  rw[this];exact xc φ
theorem Qg:∀{ps:List Tmp} {t t':Tm} {args args':List Value} {a:Array Value},fe nt t ps args=some t'->TR φ nt t a->VRels φ args args' ->
  args'.length=ps.length/\TR φ nt t' ((ps.zip args').foldl (λtmps (t,a)=>tmps.setIfInBounds t a) a)
 | [],t,t',args,args',a,h,hT,hv=>by
  cases args with
  | nil=>cases h;cases hv;exact⟨rfl,hT⟩
  | cons=>cases h
 | p::ps,t,t',args,args',a,h,hT,hv=>by
  cases args with
  | nil=>cases h
  | cons v vs =>
   cases hv with
   | cons _ v' _ l' h1 h2 =>
    unfold fe at h
    cases hb:Nat.blt p nt with
    | false=>rw[hb]at h;cases h
    | true =>
     rw[hb]at h
     have hlt:p<nt:=by
      exact qgw hb
     obtain⟨e1,e2⟩:=Qg h (hT.set hlt h1) h2
     exact⟨by simp[e1],e2⟩
def dL (a:Array Value):ResultVar->Sem Value
 | .tmp t=>pure (a.getD t undef)
 | .cell p t=>do loadVar t (<-asAddr (a.getD p undef))
theorem qey {a:Array Value}{t:Tm}(hR:R φ m w)(hT:TR φ nt t a){r:ResultVar}{rv:RV}{v:Value}(hc:cRes P nt r=some rv)(h:gm t m rv=some v):∃v',(dL a r).run P w=.ok v' w/\VRel φ v v':=by
 cases r with
 | tmp p =>
  change (if p<nt then some (RV.t p) else none)=some rv at hc
  split at hc
  .rename_i hlt
   cases hc;cases h
   exact⟨_,rfl,hT.rel p hlt⟩
  .cases hc
 | cell p ty =>
  change (ob (P.underlying ty) λd=>ob (wV P ty) λn=>if p<nt then some (if kA d then RV.cell p n else RV.one p) else none)=some rv at hc
  obtain⟨d,hd,hc⟩:=qa hc
  obtain⟨n,hn,hc⟩:=qa hc
  split at hc
  .rename_i hlt
   have hrel:=hT.rel p hlt
   cases hagg:kA d with
   | false =>
    rw[hagg]at hc
    cases hc
    obtain⟨ad,had,h⟩:=qa (show ob (jj (Tm.get p t)) (λa=>load1 m a)=some v from h)
    unfold load1 at h
    obtain⟨c,hcc,h⟩:=qa h
    rw[zQ had]at hrel
    obtain⟨o',l,hl,hao,hpv⟩:=hrel.ptr_inv
    have hob:=wa hcc
    obtain⟨ob',k1,k2⟩:=hR.obj ad.block l (hR.lt hob) hl
    rw[hob]at k1;cases k1
    obtain⟨v',k3,k4⟩:=Xa (P:=P) k2 (o:=o') (by rw[<-bu hao];exact h)
    refine⟨v',?_,k4⟩
    simp only[dL,hpv,asAddr,loadVar,Sem.run_bind,Sem.run_pure,Result.andThen_ok,ju hd,hagg,Bool.false_eq_true,if_false]
    exact k3
   | true =>
    rw[hagg]at hc
    cases hc
    obtain⟨ad,had,h⟩:=qa (show ob (jj (Tm.get p t)) (λa=>ob (loads m a n) λc=>some (.agg ⟨c⟩))=some v from h)
    obtain⟨ls,hls,h⟩:=qa h
    cases h
    unfold loads at hls
    obtain⟨c,hcc,hls⟩:=qa hls
    rw[zQ had]at hrel
    obtain⟨o',l,hl,hao,hpv⟩:=hrel.ptr_inv
    have hob:=wa hcc
    obtain⟨ob',k1,k2⟩:=hR.obj ad.block l (hR.lt hob) hl
    rw[hob]at k1;cases k1
    obtain⟨vs',k3,k4⟩:=dy (P:=P) k2 (o:=o') (n:=n) (by rw[<-bu hao];exact hls)
    refine⟨.agg vs',?_,.agg _ _ k4⟩
    simp only[dL,hpv,asAddr,loadVar,Sem.run_bind,Sem.run_pure,Result.andThen_ok,ju hd,hagg,if_true,wB hn,k3]
  .cases hc
theorem XE {a:Array Value}{t:Tm}(hR:R φ m w)(hT:TR φ nt t a):∀{rs:List ResultVar} {rvs:List RV} {vs:List Value},JD P nt rs=some rvs->vT t m rvs=some vs ->
  ∃vs',(rs.mapM (dL a)).run P w=.ok vs' w/\VRels φ vs vs'
 | [],rvs,vs,hc,h=>by cases hc;cases h;exact⟨[],rfl,.nil⟩
 | r::rs,rvs,vs,hc,h=>by
  rw[JD]at hc
  obtain⟨rv,h1,hc⟩:=qa hc
  obtain⟨rvs',h2,hc⟩:=qa hc
  cases hc
  rw[vT]at h
  obtain⟨v,h3,h⟩:=qa h
  obtain⟨vs0,h4,h⟩:=qa h
  cases h
  obtain⟨v',k1,k2⟩:=qey hR hT h1 h3
  obtain⟨vs',k3,k4⟩:=XE hR hT h2 h4
  refine⟨v'::vs',?_,.cons _ _ _ _ k2 k4⟩
  rw[List.mapM_cons]
  simp only[Sem.run_bind,k1,Result.andThen_ok,k3,Sem.run_pure]
theorem qez {fn:Func}{a:Array Value}{t:Tm}(hR:R φ m w)(hT:TR φ nt t a){rvs:List RV}{vs:List Value}(hc:JD P nt fn.results.toList=some rvs)(h:vT t m rvs=some vs) :
  ∃v',(results fn a).run P w=.ok v' w/\VRel φ (yj vs) v':=by
 obtain⟨vs',h1,h2⟩:=XE hR hT hc h
 have hm:(fn.results.mapM (dL a)).run P w=.ok vs'.toArray w:=by
  rw[Array.mapM_eq_mapM_toList]
  simp only[Sem.run_map,h1,Result.andThen_ok]
 have he:results fn a=(do let vs <-fn.results.mapM (dL a);pure (if h:vs.size=1 then vs[0] else .tuple vs)):=by
  unfold results
  congr 1
 rw[he]
 simp only[Sem.run_bind,hm,Result.andThen_ok,Sem.run_pure]
 refine⟨_,rfl,?_⟩
 cases h2 with
 | nil=>exact .tuple _ _ .nil
 | cons v v' l l' e1 e2 =>
  cases e2 with
  | nil=>exact e1
  | cons v2 v2' l2 l2' e3 e4 =>
   rw[dif_neg (by simp)]
   exact .tuple _ _ (.cons _ _ _ _ e1 (.cons _ _ _ _ e3 e4))
theorem Step.aside (hs:Step φ m w φ' m' w'){D:Nat}(hD:w.heap.size<=D)(O:Obj):Step φ m w φ' m' (w'.putObj D O) :=
 ⟨hs.d,hs.le,hs.ext,hs.fresh,hs.wrm,hs.os,hs.tape,hs.output,by simpa [World.putObj]using hs.size,λb hb hno=>by rw[World.putObj_heap_other (by omega)];exact hs.frame b hb hno⟩
theorem JZ {n:Nat}{fn:Func}{a:Array Value}{v:Value}(hv:∀w',R φ' m' w'->∃v',(results fn a).run P w'=.ok v' w'/\VRel φ' v v'):∀(ds:List Deferred) (w':World),R φ' m' w'->Step φ m w φ' m' w'->Dfr w.heap.size w' ds ->
  LeavesInM (Fw none) n P fn a (Back φ m w v m') ds .returning w'
 | [],w',hR,hs,_=>by
  obtain⟨v',h1,h2⟩:=hv w' hR
  exact⟨v',h1,φ',v',rfl,hR,hs,h2⟩
 | d::ds,w',hR,hs,hD=>by
  obtain⟨D,h1,h2,h3⟩:=hD.mark d (by simp)
  refine⟨by simp,.inl ⟨D,_,h1,run_takeDeferred h3,?_⟩⟩
  refine JZ hv ds _ (hR.aside h3 none) (hs.aside h2 _) ⟨by simpa [World.putObj]using hD.le,λd' hd'=>?_,(List.pairwise_cons.1 hD.ne).2⟩
  obtain⟨D',k1,k2,k3⟩:=hD.mark d' (by simp[hd'])
  refine⟨D',k1,k2,?_⟩
  rw[World.putObj_heap_other]
  .exact k3
  .intro e
   have:=(List.pairwise_cons.1 hD.ne).1 d' hd'
   rw[h1,k1,e]at this
   exact this rfl
theorem DB (hx:jn P x)(hP:P.follows .mixedOrders=true){g:Nat}{d:DFn}{args:List Value}{v:Value}(hd:qZ P g=some d)(h:gH x args m d=some (v,m')):DStep m m'/\Enters P g/\BO P g args m v m':=by
 unfold qZ at hd
 obtain⟨fn,hfn,hd⟩:=qa hd
 unfold cFn at hd
 obtain⟨c,hc,hd⟩:=qa hd
 split at hd
 .cases hd
 .rename_i hg
  rw[Bool.or_eq_true,not_or]at hg
  have ht:fn.ntmps<=512:=by
   have:=hg.2
   simp at this;exact this
  have hname : (fn.name == "runtime.NumGoroutine") = false := by simpa using hg.1
  obtain⟨sc,hsc,hd⟩:=qa hd
  obtain⟨rvs,hrvs,hd⟩:=qa hd
  cases hd
  change (bif Nat.ble args.length fn.ntmps then ob (sc x (kO rvs) noK (kO rvs) (jl .blank 0 args) m) WF else none)=some (v,m') at h
  cases hb:Nat.ble args.length fn.ntmps with
  | false=>rw[hb]at h;cases h
  | true =>
   rw[hb]at h
   have hlen:=qgw hb
   obtain⟨out,ho,h⟩:=qa h
   obtain⟨e,t1,m1,h1,h2,h3⟩:=Zk hx hP ht c sc hsc _ _ _ _ _ _ ho
   have hout:kO rvs t1 m1=some out/\(ve e=.normal\/ve e=.ret):=by
    cases e with
    | none=>exact⟨h1,.inl rfl⟩
    | some e =>
     cases e with
     | exit i=>cases h1
     | ret=>exact⟨h1,.inr rfl⟩
   obtain⟨hout,he⟩:=hout
   obtain⟨vs,hvs,hout⟩:=qa (show ob (vT t1 m1 rvs) (λl=>fin (yj l) m1)=some out from hout)
   cases hout
   change some (Tm.get 0 (Tm.set 0 (yj vs) .blank),m1)=some (v,m') at h
   rw[Tm.get_set_same]at h
   cases h
   refine⟨h2,⟨fn,hfn,hname,by rw[hc];rfl⟩,λφ w args' hR hargs hF=>?_⟩
   refine callsIn_wide (n:=0) |>.1 ?_
   have key:CallsIn (Fw none) 0 P g args' w (Back φ m w (yj vs) m'):=by
    refine callsIn_of_wp_marks hfn hc trivial ?_
    have hsz:args.length=args'.size:=by have:=hargs.length;simpa using this
    refine h3 none 0 w.heap.size φ w _ _ hR (TR.init ht hargs hlen) hF (λ_ e=>by cases e) ⟨qgq _,by simp,List.Pairwise.nil⟩ λφ' w' a' e1 e2 e3 e4 _=>?_
    have:=JZ (P:=P) (n:=0) (fn:=fn) (a:=a'.tmps) (v:=yj vs) (φ:=φ) (m:=m) (w:=w) (λw2 hR2=>qez hR2 e3 hrvs hvs) a'.defers w' e2 e1 e4
    rcases he with he | he<;>rw[he]<;>exact this
   exact key
theorem qfr {L:Nat}{e:Option E}{t:Tm}{v:Value}(h:y3 L ⟨e,t,m⟩=some (v,m')) :
  ∃st t nt ps a b pend,m.obj L=some (.loop st t nt ps a b pend)/\v=.bool e.isNone/\m'=m.put L (.loop (if e.isNone then 0 else 2) t nt ps a b e):=by
 unfold y3 at h
 simp only at h
 split at h
 .rename_i hob
  split at h<;>(cases h;exact⟨_,_,_,_,_,_,_,hob,rfl,rfl⟩)
 .cases h
theorem qfs (hx:jn P x)(hP:P.follows .mixedOrders=true){L:Nat}{args:List Value}{v:Value}(h:YF P x L args m=some (v,m')):DStep m m'/\De P L args m v m':=by
 unfold YF at h
 split at h
 .rename_i st t nt ps a b pend hob
  obtain⟨sa,hsa,h⟩:=qa h
  obtain⟨sb,hsb,h⟩:=qa h
  obtain⟨t0,ht0,h⟩:=qa h
  cases hb:Nat.ble nt 512 with
  | false=>rw[hb]at h;cases h
  | true =>
   rw[hb]at h
   have ht:=qgw hb
   obtain⟨o2,ho1,h⟩:=qa (show ob (sa x (dN x L sb) noK (λ_ _=>none) t0 m) (y3 L)=some (v,m') from h)
   obtain⟨e1,t1,m1,g1,d1,j1⟩:=Zk hx hP ht a sa hsa _ _ _ _ _ _ ho1
   have he1:e1=none/\dN x L sb t1 m1=some o2:=by
    cases e1 with
    | none=>exact⟨rfl,g1⟩
    | some e=>cases e<;>cases g1
   obtain⟨rfl,g1'⟩:=he1
   unfold dN at g1'
   split at g1'
   .rename_i st1 t1' nt1 ps1 a1 b1 pend1 hob1
    cases hst:Nat.beq st1 0 with
    | false=>rw[hst]at g1';cases g1'
    | true =>
     rw[hst]at g1'
     obtain rfl:=qh0 hst
     obtain⟨e2,t2,m2,g2,d2,j2⟩:=Zk hx hP ht b sb hsb _ _ _ _ _ _ (show sb x (zW none) vZ (zW (some .ret)) t1 (m1.put L (.loop 1 t1' nt1 ps1 a1 b1 pend1))=some o2 from g1')
     have hout:o2=⟨e2,.blank,m2⟩:=by
      cases e2 with
      | none=>cases g2;rfl
      | some e=>cases e<;>cases g2<;>rfl
     subst hout
     obtain⟨st2,t2',nt2,ps2,a2,b2,pend2,hob2,hv,hm0⟩:=qfr h
     .-- the memory behind the round
      obtain⟨o3,hm',hk3⟩:∃o3,m'=m2.put L o3/\o3=.loop (if e2.isNone then 0 else 2) t2' nt2 ps2 a2 b2 e2:=⟨_,hm0,rfl⟩
      clear hm0
      subst hv
      subst hm'
      have p1:DStep m1 (m1.put L (.loop 1 t1' nt1 ps1 a1 b1 pend1)):=DStep.put _ _ _ (λe=>by unfold dead at e;rw[hob1]at e;cases e) (by rw[hob1];rfl)
      have p2:DStep m2 (m2.put L o3):=DStep.put _ _ _ (λe=>by unfold dead at e;rw[hob2]at e;cases e) (by rw[hob2,hk3];rfl)
      refine⟨((d1.trans p1).trans d2).trans p2,λr0 n φ w args' l hR hargs hF hl=>?_⟩
      have hLn:L<m.n:=hR.lt hob
      obtain⟨ob',q0,q⟩:=hR.obj L l hLn hl
      rw[hob]at q0;cases q0
      obtain⟨r,q1,q2,q3,q4,q5,q6,q7⟩:=q
      obtain⟨z1,z2⟩:=Qg ht0 q7 hargs
      refine⟨r,q1,by rw[q4];simpa using z1,?_⟩
      refine roundIn_of_wpIn (F:=Fw r0) trivial ?_
      rw[q5,q6]
      have hfold:(r.params.zip args').foldl (λtmps (t,a)=>tmps.setIfInBounds t a) r.tmps=(ps.toList.zip args'.toList).foldl (λtmps (t,a)=>tmps.setIfInBounds t a) r.tmps:=by
       rw[q4,<-Array.foldl_toList,Array.toList_zip]
      rw[hfold]
      rw[M.n_put]at hF
      have hn1:=d1.n
      have hn2:m1.n<=m2.n:=by have:=d2.n;rw[M.n_put]at this;exact this
      have hin:InR (some l.b) φ m:=λl0 e=>by cases e;exact⟨L,l,hl,rfl,hLn,by rw[hob];rfl⟩
      refine j1 (some l.b) n 0 φ w _ _ hR z2 (hF.sub (qgq _) hn2) hin ⟨Nat.zero_le _,by simp,List.Pairwise.nil⟩ λφ1 w1 a1' s1 R1 T1 D1 _=>?_
      have hl1:=s1.le L l hl
      obtain⟨ob1,u0,u⟩:=R1.obj L l (by omega) hl1
      rw[hob1]at u0;cases u0
      obtain⟨r1,u1,u2,u3,u4,u5,u6,u7⟩:=u
      have hready:r1.state=.ready:=by
       unfold qcn at u2
       split at u2<;>first | rfl | contradiction | skip
       all_goals first | assumption | exact u2.elim | skip
      refine⟨_,run_beginRound u1 hready,?_⟩
      have hput1:=R1.put (B:=L) (l:=l) (o:=.loop 1 t1' nt1 ps1 a1 b1 pend1) (O:=.loop { r1 with state:=.busy }) (by omega) hl1 (λe=>by unfold dead at e;rw[hob1]at e;cases e) (by rw[hob1];rfl)
       (λo' l' hb hr' ho'=>by
        subst ho'
        obtain⟨cs,e,fz,k1,_⟩:=hr'
        rw[hb]at k1
        rw[u1]at k1;cases k1)
       (⟨{ r1 with state:=.busy },by rw[kJ _ (qgr.1 u1).1,if_pos rfl],trivial,u3,u4,u5,u6,u7⟩)
      rw[<-dK]at hput1
      obtain⟨R1',s1'⟩:=hput1
      have hin1:InR (some l.b) φ1 (m1.put L (.loop 1 t1' nt1 ps1 a1 b1 pend1)):=(hin.step s1).step s1'
      refine j2 (some l.b) n 0 φ1 _ a1' _ R1' T1 ?_ hin1 (D1.step R1 s1') λφ2 w2 a2' s2 R2 T2 _ _=>?_
      .have:=Free.step s1 hF
       intro B k1 k2
       rw[M.n_put]at k1
       exact this B k1 k2
      have hl2:=s2.le L l hl1
      obtain⟨ob2,y0,y⟩:=R2.obj L l (by omega) hl2
      rw[hob2]at y0;cases y0
      obtain⟨r2,y1,y2,y3,y4,y5,y6,y7⟩:=y
      have hput2:∀(jump:Option Code),fb e2 jump->R φ2 (m2.put L o3) (w2.putObj l.b (.loop { r2 with state:=if jump.isNone then .ready else .done,pending:=jump })) /\
        Step φ2 m2 w2 φ2 (m2.put L o3) (w2.putObj l.b (.loop { r2 with state:=if jump.isNone then .ready else .done,pending:=jump })):=by
       intro jump hj
       have hsome:jump.isNone=e2.isNone:=by
        unfold fb at hj
        split at hj<;>first | rfl | exact hj.elim
       rw[dK]
       refine R2.put (B:=L) (l:=l) (by omega) hl2 (λe=>by unfold dead at e;rw[hob2]at e;cases e) (by rw[hob2,hk3];rfl)
        (λo' l' hb hr' ho'=>by
         subst ho'
         obtain⟨cs,e,fz,k1,_⟩:=hr'
         rw[hb]at k1
         rw[y1]at k1;cases k1) ?_
       rw[hk3]
       refine⟨{ r2 with state:=if jump.isNone then .ready else .done,pending:=jump },by rw[kJ _ (qgr.1 y1).1,if_pos rfl],?_,hj,y4,y5,y6,y7⟩
       rw[<-hsome]
       cases jump<;>trivial
      have fin:∀(jump:Option Code),fb e2 jump->∃v w',(Instr.endRound l.b jump).run P w2=.ok v w'/\Back φ m w (.bool e2.isNone) (m2.put L o3) (.returned v) w':=λjump hj=>by
       obtain⟨R3,s3⟩:=hput2 jump hj
       have hsome:jump.isNone=e2.isNone:=by
        unfold fb at hj
        split at hj<;>first | rfl | exact hj.elim
       refine⟨_,_,run_endRound jump y1,φ2,_,rfl,R3,((s1.trans s1').trans s2).trans s3,?_⟩
       rw[hsome]
       exact .bool _
      cases e2 with
      | none=>exact fin none trivial
      | some e =>
       cases e with
       | exit i=>exact fin (some (.exit i)) rfl
       | ret=>exact fin (some .ret) trivial
   .cases g1'
 .cases h
theorem Ex.step_ok (hx:jn P x)(hP:P.follows .mixedOrders=true):jn P (Ex.step P x) where
 f g args m v m' h:=by
  obtain⟨d,hd,h⟩:=qa (show ob (qZ P g) (gH x args m)=some (v,m') from h)
  exact DB hx hP hd h
 y L args m v m' h:=qfs hx hP h
theorem YP (hP:P.follows .mixedOrders=true):∀n,jn P (ex P n)
 | 0=>⟨λ_ _ _ _ _ h=>(by cases h),λ_ _ _ _ _ h=>(by cases h)⟩
 | n+1=>Ex.step_ok (YP hP n) hP
theorem R.empty (w:World):R (λ_=>none) M.empty w:=⟨λB _=>A3.get_lf none B,λ_ _ _ h=>(by cases h),λ_ _ _ _ _ _ h=>(by cases h)⟩
end
end Go.Dx
