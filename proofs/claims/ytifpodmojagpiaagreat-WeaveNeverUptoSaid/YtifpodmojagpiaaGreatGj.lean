/- Contracts. -/
import Derived.Test.YtifpodmojagpiaaGreatGi
import Derived.Test.YtifpodmojagpiaaGreatGh
import Derived.Test.YtifpodmojagpiaaGreatGa
import Derived.Test.YtifpodmojagpiaaGreatPost
import Derived.WideKeyArgs
set_option linter.unusedVariables false
set_option linter.unusedSimpArgs false
set_option linter.defProp false
set_option maxHeartbeats 1000000
namespace Go.Sx
open Go.Dx Go.Proofs
theorem GG (k:Nat)(v:U):wU k [⟨1,v,0,0⟩]=true:=by
 simp[wU,okN,zi,bI,List.range_succ]
theorem GF (k:Nat)(v:U)(h:v.1<k):wU k [⟨2,v,0,0⟩]=true:=by
 simp[wU,okN,zi,bI,List.range_succ,h]
inductive AbW (N:Nat) (k:Nat):AB->Prop where
 | fen (f:Int) (h:2<=f/\f<=5):AbW N k (fenA f)
 | st (c:Nat) (m:Int) (v:Nat) (hc:c<N) (hm:m=1\/m=3\/m=5):AbW N k (stA c m v)
 | ld (d c:Nat) (m:Int) (hd:d<k) (hc:c<N) (hm:m=1\/m=2\/m=5):AbW N k (ldA d c m)
 | pr (j:Nat) (hj:j<k) (h2:j<18446744073709551616):AbW N k (prA j)
theorem Gf {N k na:Nat}{a:Ac}{b:AB}(h:ActR a b)(hb:AbW N k b)(hi:a.ixs=[])(hf:a.fs=[])(ht:a.to=0)(hN:N<=4096):bN N k na a=true:=by
 obtain⟨op,dst,base,size,ix,ev,fv,mode,to,line,col,ixs,ees,fs⟩:=a
 obtain⟨h1,h2,h3,h4,h5,h6⟩:=h
 simp only at h1 h2 h3 h4 h5 h6 hi hf ht
 subst h4 hi hf ht
 cases hb with
 | fen f hff =>
  subst h1 h2 h3 h5 h6
  simp[bN,jF,gL,plB,esB,toB,pD,pP,pE,pF,pT,abE,hff]
 | st c m v hc hm =>
  subst h1 h2 h3 h5 h6
  have hx:=GG k ⟨v%18446744073709551616,Nat.mod_lt _ (by omega)⟩
  have hmx:max (1:Int) 0=1:=rfl
  have hcc:(c:Int)<=(N:Int)-1:=by omega
  simp[bN,jF,gL,plB,esB,toB,pD,pP,pE,pF,pT,abE,jL,hm,hx,hmx,hcc]
 | ld d c m hd hc hm =>
  subst h1 h2 h3 h5 h6
  have hmx:max (1:Int) 0=1:=rfl
  have hcc:(c:Int)<=(N:Int)-1:=by omega
  simp[bN,jF,gL,plB,esB,toB,pD,pP,pE,pF,pT,abE,jL,hm,hmx,hcc,hd]
 | pr j hj h2' =>
  subst h1 h2 h3 h5 h6
  have hx:=GF k ⟨j%18446744073709551616,Nat.mod_lt _ (by omega)⟩ (by show j%_<k;rw[Nat.mod_eq_of_lt h2'];exact hj)
  simp[bN,jF,gL,plB,esB,toB,pD,pP,pE,pF,pT,abE,hx]
def WV (r:AR):Ac:=⟨r.op,r.dst,r.base,0,zS,eV r.e,zS,r.mode,0,0,0,[],abE (r.e.map (·.2)),[]⟩
theorem ym (r:AR):ActR (WV r) r.era:=⟨rfl,rfl,rfl,rfl,rfl,rfl⟩
theorem qdi {m:M}{r:AR}(h:∀B op v,r.e=some (B,op,v)->B<m.n/\Arr m B (xM op v)/\v<18446744073709551616):AcOK m (WV r):=by
 have r0:Rd m zS 4 qP []:=⟨rfl,λi x hx=>by simp at hx,rfl,λB hB=>by cases hB⟩
 refine⟨r0,?_,r0,by simp[WV],?_,by simp[WV]⟩
 .show Rd m (eV r.e) 4 qP (abE (r.e.map (·.2)))
  cases he:r.e with
  | none=>exact r0
  | some p =>
   obtain⟨B,op,v⟩:=p
   obtain⟨h1,h2,h3⟩:=h B op v he
   have:=xJ (m:=m) (B:=B) (c:=9) (e:=4) (f:=qP) (λ_=>rfl) (l:=[(⟨op,⟨v%18446744073709551616,Nat.mod_lt _ (by omega)⟩,0,0⟩:Nd)]) (by
    have e:([(⟨op,⟨v%18446744073709551616,Nat.mod_lt _ (by omega)⟩,0,0⟩:Nd)]).flatMap qP=xM op v:=by
     show qP _++[]=_
     unfold qP xM
     simp[Nat.mod_eq_of_lt h3]
    rw[e];exact h2) h1
   exact this
 .show (abE (r.e.map (·.2))).length<=_
  cases r.e with
  | none=>simp[abE]
  | some p=>simp[abE]
section
variable {es:List (Int × Int)}{ms:List Int}{TH CE VA:Nat->Nat}{N:Nat}{l:List Nat}
theorem fen_ok {i:Nat}(hE:∀(i:Nat) e,es[i]?=some e->zx e=false)(hi:i<es.length)(h0:yu es i≠0):2<=yu es i/\yu es i<=5:=by
 have hal:=fL hi
 have:=hE (ahN es.length i) (eAt es (ahN es.length i)) (by unfold eAt;rw[List.getD_eq_getElem?_getD,qgn hal];rfl)
 unfold zx at this
 have h2:=of_decide_eq_false this
 have h3:(eAt es (ahN es.length i)).2=yu es i:=rfl
 rw[h3]at h2
 omega
theorem qb8 {i:Nat}(hM:∀i,i<es.length->QS (eAt es i).1 (mAt ms i)=false)(hi:i<es.length):(qu es i=true->mAt ms i=1\/mAt ms i=3\/mAt ms i=5)/\(qu es i=false->mAt ms i=1\/mAt ms i=2\/mAt ms i=5):=by
 have h:=hM i hi
 unfold QS at h
 have h2:=of_decide_eq_false h
 have h3:zv (eAt es i).1=qu es i:=rfl
 rw[h3]at h2
 constructor
 .intro e
  rw[e]at h2
  simp at h2
  omega
 .intro e
  rw[e]at h2
  simp at h2
  omega
theorem ab_w (hE:∀(i:Nat) e,es[i]?=some e->zx e=false)(hM:∀i,i<es.length->QS (eAt es i).1 (mAt ms i)=false)(hl:∀i∈l,i<es.length)(hc:∀i∈l,CE i<N)(hln:l.length<=1000)(t:Nat) :
  ∀b∈abL es ms TH CE VA l t,AbW N (body es ms TH CE VA l t).loc b:=λb hb=>by
 obtain⟨p,hp⟩:=qh9 hb
 have hap:=xx (es:=es) (ms:=ms) (TH:=TH) (CE:=CE) (VA:=VA) l t
 have hll:(body es ms TH CE VA l t).loc<=l.length:=by
  rw[hap.loc]
  exact qgz List.countP_le_length (List.length_filter_le _ _)
 rcases Zg hp with ⟨_,⟨f,rfl,i,hi,rfl,h0⟩ | ⟨i,hi,hfi,rfl⟩ | ⟨i,hi,hfi,rfl⟩⟩ | ⟨_,rfl,hk⟩
 .have hil:i∈l:=(List.mem_filter.1 hi).1
  exact .fen _ (fen_ok hE (hl i hil) h0)
 .have hil:=(jS hi).1
  exact .st _ _ _ (hc i hil) ((qb8 hM (hl i hil)).1 hfi)
 .have hil:=(jS hi).1
  refine .ld _ _ _ ?_ (hc i hil) ((qb8 hM (hl i hil)).2 hfi)
  have:=(qgp.1 (dh hi (show rdB es i=true by simp[rdB,hfi]))).1
  rw[hap.loc]
  rw[<-List.countP_eq_length_filter]at this
  exact this
 .exact .pr _ hk (by omega)
end
end Go.Sx
namespace Go.Sx
open Go.Dx Go.Proofs
set_option maxRecDepth 10000
theorem WF {m:M}{av:Value}{l:List Nat}(h:Rd m av 1 ku l){i:Nat}{p:Nat}(hi:l[i]?=some p):wZ 1 av (iv i)=some (.pointer (some (adr 1 av i)))/\∀m'',Sees m m''->load1 m'' (adr 1 av i)=some (.int .u64 p):=Rd.at1 (g:=λ(x:Nat)=>.int .u64 (x:Int)) h hi
theorem valAt {m:M}{av:Value}{l:List Value}(h:Rd m av 1 (λv:Value=>[v]) l){i:Nat}{p:Value}(hi:l[i]?=some p):wZ 1 av (iv i)=some (.pointer (some (adr 1 av i)))/\∀m'',Sees m m''->load1 m'' (adr 1 av i)=some p:=Rd.at1 (g:=λ(x:Value)=>x) h hi
theorem FV {α:Type}{a b:List α}{i:Nat}{x y:α}(h:a.take i=b.take i)(ha:a[i]?=some x)(hb:b[i]?=some y):(x=y->a.take (i+1)=b.take (i+1))/\(x≠y->a≠b):=by
 constructor
 .rintro rfl
  rw[List.take_add_one,List.take_add_one,h,ha,hb]
 .rintro hne rfl
  rw[ha]at hb
  cases hb
  exact hne rfl
theorem KL (N:Nat){m:M}(hm:m.base<=m.n){av bv:Value}{la lb:List Nat}(ha:Rd m av 1 ku la)(hb:Rd m bv 1 ku lb)(hl:la.length<=4611686018427387904):CallV (ex Tryz.prog (N+1)) 8 [av,bv] m (.bool (decide (la=lb))):=by
 refine qy da4_ok (by simp) ?_
 have l1:=ha.len
 have l2:=hb.len
 by_cases hlen:la.length=lb.length
 .have d1:((la.length:Int)=(lb.length:Int))=True:=eq_true (by omega)
  simp[l1,l2,d1]
  refine qR (c:=Dy) rfl (Ret m _) (λi t m'=>m'=m/\Tm.get 0 t=av/\Tm.get 1 t=bv/\Tm.get 5 t=iv i/\la.take i=lb.take i) la.length (by omega) ⟨rfl,by simp,by simp,by simp,by simp⟩ (λi t m' k hi hI hk=>?_)
  obtain⟨rfl,t0,t1,t5,he⟩:=hI
  by_cases hil:i<la.length
  .have dl:((i:Int)<(la.length:Int))=True:=eq_true (by omega)
   obtain⟨x,hx⟩:∃x,la[i]?=some x:=⟨_,qgn hil⟩
   obtain⟨y,hy⟩:∃y,lb[i]?=some y:=⟨_,qgn (by omega)⟩
   obtain⟨a1,a2⟩:=WF ha hx
   obtain⟨b1,b2⟩:=WF hb hy
   have a2':=a2 m' (Sees.refl hm)
   have b2':=b2 m' (Sees.refl hm)
   obtain⟨e1,e2⟩:=FV he hx hy
   have w1:=wL (i:=i) (by omega)
   by_cases hxy:x=y
   .have dxy:((x:Int)=(y:Int))=True:=eq_true (by omega)
    simp[t0,t1,t5,l1,dl,a1,a2',b1,b2',hxy,w1]
    exact hk hil _ _ ⟨rfl,by simp[t0],by simp[t1],by simp,e1 hxy⟩
   .have dxy:((x:Int)=(y:Int))=False:=eq_false (by omega)
    have hne:¬la=lb:=e2 hxy
    have hd:decide (la=lb)=false:=decide_eq_false hne
    simp[t0,t1,t5,l1,dl,a1,a2',b1,b2',dxy]
    rw[hd]
    refine qp (Ext.refl m') ?_
    simp
  .obtain rfl:i=la.length:=by omega
   rw[List.take_length,hlen,List.take_length]at he
   have hd:decide (la=lb)=true:=decide_eq_true he
   simp[t0,t5,l1]
   rw[hd]
   refine qp (Ext.refl m') ?_
   simp
 .have d1:((la.length:Int)=(lb.length:Int))=False:=eq_false (by omega)
  have hne:¬la=lb:=λe=>hlen (by rw[e])
  simp[l1,l2,d1]
  exact qp (Ext.refl _) (by simp[hne])
theorem qe9 (N:Nat){m:M}(hm:m.base<=m.n){av bv:Value}{asv bsv:List Value}{LA LB:List (List Nat)}(ha:Rd m av 1 (λv:Value=>[v]) asv)(hb:Rd m bv 1 (λv:Value=>[v]) bsv)(h1:asv.length=LA.length)(h2:bsv.length=LB.length)(hl:asv.length<=1000000)
  (hA:∀(i:Nat) v x,asv[i]?=some v->LA[i]?=some x->Rd m v 1 ku x/\x.length<=4611686018427387904) (hB:∀(i:Nat) v x,bsv[i]?=some v->LB[i]?=some x->Rd m v 1 ku x):CallV (ex Tryz.prog (N+2)) 7 [av,bv] m (.bool (decide (LA=LB))):=by
 refine qy da3_ok (by simp) ?_
 have l1:=ha.len
 have l2:=hb.len
 rw[h1]at l1
 rw[h2]at l2
 by_cases hlen:LA.length=LB.length
 .have d1:((LA.length:Int)=(LB.length:Int))=True:=eq_true (by omega)
  simp[l1,l2,d1]
  refine qR (c:=Dw) rfl (Ret m _) (λi t m'=>Ext m m'/\Tm.get 0 t=av/\Tm.get 1 t=bv/\Tm.get 5 t=iv i/\LA.take i=LB.take i) LA.length (by omega) ⟨Ext.refl m,by simp,by simp,by simp,by simp⟩ (λi t m' k hi hI hk=>?_)
  obtain⟨hE,t0,t1,t5,he⟩:=hI
  have S1:=(Sees.refl hm).ext hE
  by_cases hil:i<LA.length
  .have dl:((i:Int)<(LA.length:Int))=True:=eq_true (by omega)
   obtain⟨v,hv⟩:∃v,asv[i]?=some v:=⟨_,qgn (by omega)⟩
   obtain⟨u,hu⟩:∃u,bsv[i]?=some u:=⟨_,qgn (by omega)⟩
   obtain⟨x,hx⟩:∃x,LA[i]?=some x:=⟨_,qgn hil⟩
   obtain⟨y,hy⟩:∃y,LB[i]?=some y:=⟨_,qgn (by omega)⟩
   obtain⟨a1,a2⟩:=valAt ha hv
   obtain⟨b1,b2⟩:=valAt hb hu
   have a2':=a2 m' S1
   have b2':=b2 m' S1
   obtain⟨x1,x2⟩:=hA i v x hv hx
   obtain⟨w,m2',c1,c2,c3,rfl⟩:=wq (KL N (m:=qc m') (qB S1).base (x1.sees (qB S1)) ((hB i u y hu hy).sees (qB S1)) x2)
   obtain⟨m2,hm2⟩:=qhd (behind m' m2')
   rw[<-hm2]at c3
   obtain⟨e1,e2⟩:=FV he hx hy
   have w1:=wL (i:=i) (by omega)
   by_cases hxy:x=y
   .simp[t0,t1,t5,l1,dl,a1,a2',b1,b2',c1,c2,<-hm2,hxy,w1]
    exact hk hil _ _ ⟨hE.trans c3,by simp[t0],by simp[t1],by simp,e1 hxy⟩
   .have hne:¬LA=LB:=e2 hxy
    simp[t0,t1,t5,l1,dl,a1,a2',b1,b2',c1,c2,<-hm2,hxy]
    exact qp (hE.trans c3) (by simp[hne])
  .obtain rfl:i=LA.length:=by omega
   rw[List.take_length,hlen,List.take_length]at he
   simp[t0,t5,l1]
   exact qp hE (by simp[he])
 .have d1:((LA.length:Int)=(LB.length:Int))=False:=eq_false (by omega)
  have hne:¬LA=LB:=λe=>hlen (by rw[e])
  simp[l1,l2,d1]
  exact qp (Ext.refl _) (by simp[hne])
end Go.Sx
namespace Go.Sx
open Go.Dx Go.Proofs
set_option maxRecDepth 10000
theorem _root_.Go.Dx.NH.list {ν α:Type}{m0 m:M}{W:List Nat}{A:ν->Nat}{C:ν->Option (List Value)}{σ:List (Nat × List Value)}(h:NH m0 m W A C σ){a:ν}{e:Nat}{f:α->List Value}{l:List α}(hf:∀x,(f x).length=e)(hc:C a=gl (l.flatMap f))(he:0<e):Rd m (gv (A a) e l.length) e f l:=by
 have hlen:=wP hf l
 cases l with
 | nil=>exact⟨rfl,λi r hr=>by simp at hr,rfl,λB hB=>by cases hB⟩
 | cons x l =>
  have hne:(x::l).flatMap f≠[]:=λe2=>by
   rw[e2,List.length_nil,List.length_cons]at hlen
   exact absurd hlen (Nat.ne_of_lt (Nat.mul_pos (Nat.succ_pos _) he))
  rw[wv hne]at hc
  obtain⟨_,h2,h3⟩:=h.hx a _ hc
  exact xJ hf h3 h2
theorem flatO (l:List U):(l.map (·.1)).flatMap ku=lsR l:=by
 induction l with
 | nil=>rfl
 | cons x l ih=>rw[List.map_cons,List.flatMap_cons,ih];rfl
theorem YW {α:Type}(g:α->Value)(l:List α):(l.flatMap λx=>[g x])=l.map g:=by
 induction l with
 | nil=>rfl
 | cons x l ih=>rw[List.flatMap_cons,ih];rfl
abbrev YL (b:Bool):List Value:=[.bool b]
def xI (A:Nm->Nat)(S:RS):List Value:=(List.range S.outs.length).map λt=>gv (A (.out t)) 1 (S.outs.getD t []).length
theorem qcl {p:Pg}{n:Nat}{picks:List Int}{m m' m'':M}{A:Nm->Nat}{l:List (Nat × Value)}{curs:Nat->List Ac}{Bh:Nat}(h:SR p n picks m m' A l curs Bh)(hm:m.base<=m.n)(e:Ext m' m''){S:RS}(hS:S=wk curs picks (S0 n l)) :
  Rd m'' (gv Bh 1 p.ths.length) 1 YL ((List.range p.ths.length).map λt=>Qc curs S t)/\Rd m'' (gv (A .outb) 1 S.outs.length) 1 (λv:Value=>[v]) (xI A S) /\
   (∀(t:Nat) o,S.outs[t]?=some o->Rd m'' (gv (A (.out t)) 1 o.length) 1 ku (o.map (·.1)))/\Rd m'' (.slice (some ⟨A .cb,0,some 3⟩) S.cells.length S.cells.length) 1 ku (S.cells.map (·.1)):=by
 have x:=NH.ext h.nh e
 rw[<-hS]at x
 have hs:=ZK curs S p.ths.length
 have ne:∀{a:Nm},a≠.co S.co.length->qf (qo 88 A (nx curs S p.ths.length)) (.co S.co.length) (gl (hL curs S p.ths.length)) a=qo 88 A (nx curs S p.ths.length) a/\qf A (.co S.co.length) Bh a=A a:=λh=>⟨qh h,qh h⟩
 refine⟨?_,?_,λt o ho=>?_,?_⟩
 .have:=x.list (a:=Nm.co S.co.length) (e:=1) (f:=YL) (l:=(List.range p.ths.length).map λt=>Qc curs S t) (λ_=>rfl) (by
   rw[qG,YW (λb:Bool=>Value.bool b)]
   unfold hL
   rw[List.map_map];rfl) (by omega)
  rw[qG,List.length_map,List.length_range]at this
  exact this
 .have:=x.list (a:=Nm.outb) (e:=1) (f:=λv:Value=>[v]) (l:=xI A S) (λ_=>rfl) (by
   rw[(ne (by simp)).1,YW (λv:Value=>v),List.map_id']
   show gl _=_
   rw[hs.outs];rfl) (by omega)
  rw[(ne (by simp)).2]at this
  rwa [show (xI A S).length=S.outs.length by unfold xI;simp]at this
 .have:=x.list (a:=Nm.out t) (e:=1) (f:=ku) (l:=o.map (·.1)) (λ_=>rfl) (by
   rw[(ne (by simp)).1]
   show (nx curs S p.ths.length).outs[t]?.bind _=_
   rw[hs.outs,ho]
   show gl (lsR o)=_
   rw[flatO]) (by omega)
  rw[(ne (by simp)).2,List.length_map]at this
  exact this
 .have hc:qf (qo 88 A (nx curs S p.ths.length)) (.co S.co.length) (gl (hL curs S p.ths.length)) .cb=some (lsR S.cells):=by
   rw[(ne (by simp)).1]
   show some (lsR (nx curs S p.ths.length).cells)=_
   rw[hs.cells]
  obtain⟨_,h2,h3⟩:=x.hx _ _ hc
  rw[(ne (by simp)).2]at h2 h3
  have:=xJ (c:=3) (e:=1) (f:=ku) (λ_=>rfl) (l:=S.cells.map (·.1)) (by rw[flatO];exact h3) h2
  rwa [List.length_map]at this
theorem qcg {es:List (Int × Int)}{ms:List Int}{TH CE VA:Nat->Nat}{N nt:Nat}{l:List Nat}{lq:List (Nat × Value)}(hl:lq.length=nt)(hloc:∀(t:Nat) q,lq[t]?=some q->q.1=(body es ms TH CE VA l t).loc):Sim es ms TH CE VA l N nt (S0 N lq) []:=by
 rw[Kd]
 refine⟨λt ht=>?_,by simp[hl],by simp[RSb],λc hc=>?_,by simp,by simp[RSb],Nat.zero_le _⟩
 .obtain⟨q,hq⟩:∃q,lq[t]?=some q:=⟨_,qgn (by omega)⟩
  refine⟨Ql q,[],by simp[qh4,hq],by simp[qh4,hq],⟨rfl,Nat.zero_le _,?_,?_,λr i p _ hp=>by simp at hp,?_,λk u hk=>by simp at hk⟩⟩
  .show (List.replicate q.1 u0).length=_
   rw[List.length_replicate,hloc t q hq]
  .show []=List.take (bY es ms TH CE VA l t 0) _
   unfold bY
   simp
  .show 0=0-_
   omega
 .show (cellAt _ c).1=0
  unfold cellAt
  simp only[RSb]
  rw[List.getD_eq_getElem?_getD,List.getElem?_replicate]
  simp[hc,u0]
end Go.Sx
namespace Go.Sx
open Go.Dx Go.Proofs
set_option maxRecDepth 10000
def aw:Dx.Pre:=⟨4,[],.bool true,[]⟩
noncomputable def xA (N:Nat):Ex:=⟨λg args m=>bif Nat.beq g 4 then (exg Tryz.prog [aw] 1).f g args m else (ex Tryz.prog N).f g args m,(ex Tryz.prog N).y⟩
theorem xA_f (N g:Nat)(args:List Value)(m:M)(h:g≠4):(xA N).f g args m=(ex Tryz.prog N).f g args m:=by
 show (bif Nat.beq g 4 then _ else _)=_
 rw[bQ h];rfl
theorem xA_aw (N:Nat)(m:M):(xA N).f 4 [] m=some (.bool true,m):=rfl
theorem xA_ok (hP:Tryz.prog.follows .mixedOrders=true)(haw:PreOK Tryz.prog aw)(N:Nat):jn Tryz.prog (xA N):=by
 refine⟨λg args m v m' h=>?_,(YP hP N).y⟩
 change (bif Nat.beq g 4 then (exg Tryz.prog [aw] 1).f g args m else (ex Tryz.prog N).f g args m)=some (v,m') at h
 cases hb:Nat.beq g 4 with
 | true=>rw[hb]at h;exact (exg_ok hP (l:=[aw]) (λp hp=>by rw[qgu.1 hp];exact haw) 1).f g args m v m' h
 | false=>rw[hb]at h;exact (YP hP N).f g args m v m' h
theorem step_ret {P:Program}{x:Ex}{g:Nat}{c:SC}{nt:Nat}{res:List RV}{args:List Value}{m:M}{Q:Value->M->Prop}(hd:qZ P g=some ⟨c,nt,res⟩)(ha:args.length<=nt)
  (h:Ret m Q (c x (kO res) noK (kO res) (jl .blank 0 args) m)):Dx.Call (Ex.step P x) g args m Q:=by
 obtain⟨v,m',e,h1,h2⟩:=h
 refine⟨v,m',?_,h1,h2⟩
 show ob (qZ P g) (gH x args m)=_
 rw[hd,qS,gI _ _ _ _ _ _ ha];exact e
section
variable {es:List (Int × Int)}{ms:List Int}{TH CE VA WR:Nat->Nat}{N nt:Nat}{l:List Nat}
def pgW (N:Nat)(tsl:Value)(nt:Nat)(loc:Nat->Nat)(va:Nat->Value)(A:Nat->List AR):Pg:=⟨N,tsl,(List.range nt).map λj=>⟨loc j,va j,(A j).map WV⟩⟩
structure WvH (es:List (Int × Int))(ms:List Int)(TH CE VA WR:Nat->Nat)(N nt:Nat)(l:List Nat):Prop where
 gl:GL es N l CE VA WR
 ed:Qr es l TH CE VA
 hl:∀i,i∈l ↔ i<es.length
 h0:0<es.length
 th:∀i∈l,TH i<nt
 ln:l.length<=16
 nn:N<=16
 nt:nt<=16
 vs:∀i,VA i<1000000
 bE:∀(i:Nat) e,es[i]?=some e->zx e=false
 bM:∀i,i<es.length->QS (eAt es i).1 (mAt ms i)=false
theorem WL {tsl:Value}{loc:Nat->Nat}{va:Nat->Value}{A:Nat->List AR}{t:Nat}{th:Th}(h:(pgW N tsl nt loc va A).ths[t]?=some th):t<nt/\th=⟨loc t,va t,(A t).map WV⟩:=by
 have hl:=(qgp.1 h).1
 simp[pgW]at hl
 simp only[pgW]at h
 rw[qh4,List.getElem?_range hl]at h
 cases h
 exact⟨hl,rfl⟩
theorem pgW_b {tsl:Value}{loc:Nat->Nat}{va:Nat->Value}{A:Nat->List AR}(H:WvH es ms TH CE VA WR N nt l)(hloc:∀j,j<nt->loc j=(body es ms TH CE VA l j).loc)(hA:∀j,j<nt->(A j).map AR.era=abL es ms TH CE VA l j):pgB (pgW N tsl nt loc va A)=true:=by
 unfold pgB
 simp only[qgt,decide_eq_true_eq,List.all_eq_true]
 have hN:=H.nn
 have hT:=H.nt
 refine⟨⟨by show (0:Int)<=(N:Int);omega,by show (N:Int)<=4096;omega⟩,by simp[pgW];omega,λth hth=>?_⟩
 obtain⟨t,ht⟩:=qh9 hth
 obtain⟨htn,rfl⟩:=WL ht
 unfold thB
 simp only[qgt,decide_eq_true_eq,List.all_eq_true]
 have hap:=xx (es:=es) (ms:=ms) (TH:=TH) (CE:=CE) (VA:=VA) l t
 have hl1:(body es ms TH CE VA l t).loc<=l.length:=by
  rw[hap.loc]
  exact qgz List.countP_le_length (List.length_filter_le _ _)
 have hl2:=H.ln
 have hal:(A t).length<=48:=by
  have:=congrArg List.length (hA t htn)
  rw[List.length_map]at this
  rw[this]
  have h3:=Zf (es:=es) (ms:=ms) (TH:=TH) (CE:=CE) (VA:=VA) (l:=l) t
  have h4:(evs TH l t).length<=l.length:=List.length_filter_le _ _
  omega
 refine⟨⟨by omega,by rw[hloc t htn];omega⟩,by rw[List.length_map];omega,λa ha=>?_⟩
 obtain⟨r,hr,rfl⟩:=List.mem_map.1 ha
 have hb:r.era∈abL es ms TH CE VA l t:=by rw[<-hA t htn];exact List.mem_map.2 ⟨r,hr,rfl⟩
 rw[show ((loc t:Nat):Int).toNat=loc t from qh1 _,hloc t htn]
 exact Gf (ym r) (ab_w H.bE H.bM (λi hi=>(H.hl i).1 hi) (λi hi=>H.gl.ce i hi) (by omega) t _ hb) rfl rfl rfl (by omega)
theorem pgW_pk {tsl:Value}{loc:Nat->Nat}{va:Nat->Value}{A:Nat->List AR}(H:WvH es ms TH CE VA WR N nt l)(hloc:∀j,j<nt->loc j=(body es ms TH CE VA l j).loc)(hA:∀j,j<nt->(A j).map AR.era=abL es ms TH CE VA l j)(picks:List Int):PK (pgW N tsl nt loc va A) N picks picks.length /\
  ∀(lq:List (Nat × Value)) (curs:Nat->List Ac),lq.length=nt->AdL (pgW N tsl nt loc va A) lq curs->(∀t,nt<=t->curs t=[])->NvH es ms TH CE VA l N nt curs/\(∀t,NP (curs t))/\Sim es ms TH CE VA l N nt (S0 N lq) []/\TG (S0 N lq) curs N/\IV (S0 N lq) (S0 N lq).used:=by
 have hB:=pgW_b (tsl:=tsl) (va:=va) H hloc hA
 have hnp:∀th∈(pgW N tsl nt loc va A).ths,∀a∈th.acts,a.op≠4/\a.op≠5/\a.op≠6:=λth hth a ha=>by
  obtain⟨t,ht⟩:=qh9 hth
  obtain⟨htn,rfl⟩:=WL ht
  obtain⟨r,hr,rfl⟩:=List.mem_map.1 ha
  have hb:r.era∈abL es ms TH CE VA l t:=by rw[<-hA t htn];exact List.mem_map.2 ⟨r,hr,rfl⟩
  have hw:=ab_w H.bE H.bM (λi hi=>(H.hl i).1 hi) (λi hi=>H.gl.ce i hi) (by have:=H.ln;omega) t _ hb
  have ho:=(ym r).op
  revert ho
  generalize r.era=b at hw
  intro ho
  cases hw<;>(simp only at ho;omega)
 have hlt:(pgW N tsl nt loc va A).ths.length=nt:=by simp[pgW]
 have key:∀(lq:List (Nat × Value)) (curs:Nat->List Ac),lq.length=nt->AdL (pgW N tsl nt loc va A) lq curs->(∀t,nt<=t->curs t=[])->NvH es ms TH CE VA l N nt curs/\(∀t,NP (curs t))/\Sim es ms TH CE VA l N nt (S0 N lq) []/\TG (S0 N lq) curs N/\IV (S0 N lq) (S0 N lq).used:=by
  intro lq curs h1 h2 h3
  refine⟨⟨λt ht=>?_,H.vs,H.gl.nd,λi hi=>H.gl.ce i hi,by have:=H.ln;omega⟩,h2.np (by rw[h1,hlt]) (λt ht=>h3 t (by rw[hlt]at ht;exact ht)) hnp,?_,Dc hB h2 N,Db N lq⟩
  .obtain⟨q,hq⟩:∃q,lq[t]?=some q:=⟨_,qgn (by omega)⟩
   obtain⟨th,k1,k2,k3⟩:=h2.loc t q hq
   obtain⟨_,rfl⟩:=WL k1
   have hlen:=congrArg List.length (hA t ht)
   rw[List.length_map]at hlen
   refine⟨by rw[k3.1,List.length_map,hlen],λk b hb=>?_⟩
   rw[<-hA t ht,qh4]at hb
   cases hr:(A t)[k]? with
   | none=>rw[hr]at hb;cases hb
   | some r =>
    rw[hr]at hb
    cases hb
    obtain⟨a',j1,j2⟩:=k3.2 k (WV r) (by rw[qh4,hr];rfl)
    obtain⟨x,y,z,rfl⟩:=j2
    exact⟨_,j1,(ym r).1,(ym r).2,(ym r).3,(ym r).4,(ym r).5,(ym r).6⟩
  .refine qcg h1 λt q hq=>?_
   obtain⟨th,k1,k2,k3⟩:=h2.loc t q hq
   obtain⟨htn,rfl⟩:=WL k1
   rw[k2,<-hloc t htn]
   exact qh1 _
 refine⟨⟨hnp,λlq curs h1 h2 h3 i hi=>?_⟩,key⟩
 obtain⟨k1,k2,k3,k4,k5⟩:=key lq curs (by rw[h1,hlt]) h2 (λt ht=>h3 t (by rw[hlt];exact ht))
 obtain⟨tr,s1,_⟩:=fm k1 k2 (picks.take i) _ [] k3 k4 k5
 obtain⟨b1,b2⟩:=s1.bd
 obtain⟨_,_,u1,_⟩:=zM k2 (picks.take i) (S0 N lq) k4 k5
 have hu0:(S0 N lq).used=0:=by rw[Kd];rfl
 rw[hu0,List.length_take]at u1
 have hl2:=H.ln
 have hn2:=H.nn
 exact⟨by omega,by omega,λhlt2=>by omega⟩
end
end Go.Sx
namespace Go.Dx
theorem Dl {α:Type}{m:M}{w:Value}{e:Nat}{f:α->List Value}(h:Rd m w e f ([]:List α))(bytes:Nat):wY m e bytes zS w=some (zS,m):=by
 show ob (lenV w) _=_
 rw[h.lenV,qS]
 show ob (kl m e 0 w) _=_
 have:=h.all
 rw[List.length_nil]at this
 rw[this,qS]
 rfl
theorem qdl {α:Type}{m:M}{w:Value}{e:Nat}{f:α->List Value}{ms:List α}(h:Rd m w e f ms)(hne:ms≠[])(bytes:Nat)(hb:ms.length*bytes<=most)(hn:ms.length<=4611686018427387904) :
  wY m e bytes zS w=some (.slice (some ⟨m.n,0,some (code e false)⟩) ms.length ms.length,newRow m (ms.flatMap f)):=by
 have hpos:=List.length_pos_iff.2 hne
 show ob (lenV w) _=_
 rw[h.lenV,qS]
 show ob (kl m e ms.length w) _=_
 rw[h.all,qS]
 unfold QP
 have h1:Nat.ble (0+ms.length) 0=false:=by
  cases q:Nat.ble (0+ms.length) 0 with
  | false=>rfl
  | true=>have:=qgw q;omega
 rw[h1,cond_false,Nat.zero_add,qgv hb,qgv hn]
 rfl
end Go.Dx
namespace Go.Sx
open Go.Dx Go.Proofs
set_option maxRecDepth 10000
structure PL (m1 M:M)(σ:List (Nat × List Value))(v:Value)(L:List Int):Prop where
 ex:∃(A:Unit->Nat) (C:Unit->Option (List Value)),NH m1 M [] A C σ/\C ()=gl (L.map iv)/\v=gv (A ()) 1 L.length
theorem ivok (L:List Int):∀u∈L.map iv,okC u=true:=λu hu=>by
 obtain⟨x,_,rfl⟩:=List.mem_map.1 hu
 rfl
theorem PL.start {m1 M:M}{σ:List (Nat × List Value)}(h:NH m1 M [] (λ_:Unit=>0) (λ_=>none) σ){pv:Value}{picks:List Int}(hp:Rd M pv 1 intRow picks)(hl:picks.length<=1000000000):∃M' v,wY M 1 8 zS pv=some (v,M')/\PL m1 M' σ v picks:=by
 by_cases hne:picks=[]
 .subst hne
  exact⟨M,_,Dl hp 8,⟨_,_,h,rfl,rfl⟩⟩
 .have e:=qdl hp hne 8 (by unfold most;omega) (by omega)
  have hf:picks.flatMap intRow=picks.map iv:=YW (λx:Int=>iv x) picks
  have hpos:=List.length_pos_iff.2 hne
  have x:=(h.row (picks.flatMap intRow)).name (a:=()) rfl
  refine⟨_,_,e,⟨_,_,x,by rw[qG,hf,wv (by simp[hne])],?_⟩⟩
  rw[qG]
  obtain⟨k,hk⟩:∃k,picks.length=k+1:=⟨picks.length-1,by omega⟩
  rw[hk];rfl
theorem PL.push {m1 M:M}{σ:List (Nat × List Value)}{v:Value}{L:List Int}(h:PL m1 M σ v L)(hl:L.length<=1000000000)(x:Int) :
  ∃M' v',wY (Dx.newRow M [iv x]) 1 8 v (.slice (some ⟨M.n,0,some 3⟩) 1 1)=some (v',M')/\PL m1 M' σ v' (L++[x]):=by
 obtain⟨A,C,h1,h2,rfl⟩:=h.ex
 have y:=h1.row [iv x]
 have lx:loads (Dx.newRow M [iv x]) ⟨M.n,0,some 3⟩ 1=some [iv x]:=y.blds 0 rfl (o:=0) (n:=1) (some 3) (by simp)
 have g:=GV.gv (A:=A) (C:=C) (a:=()) (e:=1) (n:=L.length) (l:=L.map iv) h2 (by simp) (by omega) (ivok L)
 obtain⟨mq,c1,y2,_⟩:=y.push (bytes:=8) g (by omega) lx (λu hu=>by simp at hu;subst hu;rfl) (by unfold most;omega) (by omega)
 refine⟨mq,_,c1,⟨_,_,y2.tail,by rw[qG,h2,zE,wv (by simp),List.map_append];rfl,?_⟩⟩
 rw[qG,qgx];rfl
theorem PL.rd {m1 M:M}{σ:List (Nat × List Value)}{v:Value}{L:List Int}(h:PL m1 M σ v L):Rd M v 1 intRow L:=by
 obtain⟨A,C,h1,h2,rfl⟩:=h.ex
 exact h1.list (f:=intRow) (λ_=>rfl) (by rw[h2,YW (λx:Int=>iv x)]) (by omega)
theorem PL.xt {m1 M:M}{σ:List (Nat × List Value)}{v:Value}{L:List Int}(h:PL m1 M σ v L):Ext m1 M:=by
 obtain⟨A,C,h1,_⟩:=h.ex
 exact h1.toExt
theorem PL.at {m1 M:M}{σ:List (Nat × List Value)}{v:Value}{L:List Int}(h:PL m1 M σ v L)(k:Nat){B:Nat}{l:List Value}(hk:σ[k]?=some (B,l)):B<M.n/\Arr M B l:=by
 obtain⟨A,C,h1,_⟩:=h.ex
 exact (h1.ow.get k hk).2
theorem XG (nt k:Nat):(yh nt k).length=k*nt:=by
 induction k with
 | zero=>simp[yh]
 | succ k ih=>show (yh nt k++rnd nt).length=_;rw[qgx,ih];simp[rnd,Nat.succ_mul]
theorem qc9 {nt j:Nat}(h:j<nt):(rnd nt).take (j+1)=(rnd nt).take j++[(j:Int)]:=by
 rw[List.take_add_one]
 congr 1
 unfold rnd
 rw[qh4,List.getElem?_range h];rfl
theorem qf2 (nt:Nat):(rnd nt).take nt=rnd nt:=List.take_of_length_le (by simp[rnd])
theorem Bm {x:Ex}{kr kn:K}{ke:Nat->K}{Q:Option Out->Prop}{m1:M}{σ:List (Nat × List Value)}{b5 b6 nt:Nat}{tsl:Value}{k5:Nat}{cv0:Value}{picks:List Int}(hσ:σ[k5]?=some (b5,[cv0,tsl]))(ll:za tsl=some (iv nt))(hnt:nt<=16)(hpl:picks.length<=100000000)
  {t:Tm} {M0:M} (h5:Tm.get 5 t=.pointer (some ⟨b5,0,none⟩)) (h6:Tm.get 6 t=.pointer (some ⟨b6,0,none⟩)) (h8:PL m1 M0 σ (Tm.get 8 t) picks)
  (hk:∀t' M',Tm.get 5 t'=.pointer (some ⟨b5,0,none⟩)->Tm.get 6 t'=.pointer (some ⟨b6,0,none⟩)->PL m1 M' σ (Tm.get 8 t') (picks++yh nt 60)->Q (kn t' M')) :
  Q (XZ x kn ke kr t M0):=by
 simp only[Kn,Gn]
 simp
 refine qR (c:=Dr) rfl Q (λi t m'=>Tm.get 5 t=.pointer (some ⟨b5,0,none⟩)/\Tm.get 6 t=.pointer (some ⟨b6,0,none⟩)/\Tm.get 9 t=iv i/\PL m1 m' σ (Tm.get 8 t) (picks++yh nt i)) 60 (by omega)
  ⟨by simp[h5],by simp[h6],by simp,by simpa [yh]using h8⟩ (λi t m' k hi hI hk1=>?_)
 obtain⟨t5,t6,t9,p8⟩:=hI
 by_cases hil:i<60
 .have dl:((i:Int)<60)=True:=eq_true (by omega)
  simp[t9,dl]
  refine qR (c:=Dq) rfl Q (λj t m'=>Tm.get 5 t=.pointer (some ⟨b5,0,none⟩)/\Tm.get 6 t=.pointer (some ⟨b6,0,none⟩)/\Tm.get 9 t=iv i/\Tm.get 10 t=iv j/\PL m1 m' σ (Tm.get 8 t) (picks++yh nt i++(rnd nt).take j)) nt (by omega)
   ⟨by simp[t5],by simp[t6],by simp[t9],by simp,by simpa using p8⟩ (λj t m' k2 hj hI hk2=>?_)
  obtain⟨t5,t6,t9,t10,p8⟩:=hI
  have l5:load1 m' ⟨b5,1,none⟩=some tsl:=by rw[(p8.at k5 hσ).2.load1];rfl
  have hr:=XG nt i
  have hi2:i*nt<=60*16:=Nat.mul_le_mul (by omega) hnt
  have ht2:((rnd nt).take j).length<=16:=by rw[List.length_take];simp[rnd];omega
  by_cases hjl:j<nt
  .have dj:((j:Int)<(nt:Int))=True:=eq_true (by omega)
   obtain⟨M',v',a1,a2⟩:=p8.push (by rw[qgx,qgx];omega) (j:Int)
   have w1:=wL (i:=j) (by omega)
   simp[t5,t10,l5,ll,dj,a1,w1]
   exact hk2 hjl _ _ ⟨by simp[t5],by simp[t6],by simp[t9],by simp,by rw[qc9 hjl,<-List.append_assoc];simpa using a2⟩
  .obtain rfl:j=nt:=by omega
   have w1:=wL (i:=i) (by omega)
   simp[t5,t10,l5,ll,t9,w1]
   refine hk1 hil _ _ ⟨by simp[t5],by simp[t6],by simp,?_⟩
   rw[qf2,List.append_assoc]at p8
   simpa [yh]using p8
 .obtain rfl:i=60:=by omega
  simp[t9]
  exact hk _ _ (by simp[t5]) (by simp[t6]) (by simpa using p8)
end Go.Sx
namespace Go.Sx
open Go.Dx Go.Proofs
set_option maxRecDepth 10000
theorem blAt {m:M}{av:Value}{l:List Bool}(h:Rd m av 1 YL l){i:Nat}{p:Bool}(hi:l[i]?=some p):wZ 1 av (iv i)=some (.pointer (some (adr 1 av i)))/\∀m'',Sees m m''->load1 m'' (adr 1 av i)=some (.bool p):=Rd.at1 (g:=λ(x:Bool)=>.bool x) h hi
theorem GI {x:Ex}{kr kn:K}{ke:Nat->K}{Q:Option Out->Prop}{M0:M}{b6 b11:Nat}{hv:Value}{bs:List Bool}(hm:M0.base<=M0.n)(hh:load1 M0 ⟨b11,10,none⟩=some hv)(hr:Rd M0 hv 1 YL bs)(hb:∀b∈bs,b=true)(hl:bs.length<=100000)
  {t:Tm} (h6:Tm.get 6 t=.pointer (some ⟨b6,0,none⟩)) (h11:Tm.get 11 t=.pointer (some ⟨b11,0,none⟩))
  (hk:∀t',Tm.get 6 t'=.pointer (some ⟨b6,0,none⟩)->Tm.get 11 t'=.pointer (some ⟨b11,0,none⟩)->Q (kn t' M0)) :
  Q (Va x kn ke kr t M0):=by
 simp only[Ko,Gp]
 simp
 have ll:=hr.len
 refine qR (c:=Dt) rfl Q (λi t m'=>m'=M0/\Tm.get 6 t=.pointer (some ⟨b6,0,none⟩)/\Tm.get 11 t=.pointer (some ⟨b11,0,none⟩)/\Tm.get 12 t=iv i) bs.length (by omega)
  ⟨rfl,by simp[h6],by simp[h11],by simp⟩ (λi t m' k hi hI hk1=>?_)
 obtain⟨rfl,t6,t11,t12⟩:=hI
 by_cases hil:i<bs.length
 .have dl:((i:Int)<(bs.length:Int))=True:=eq_true (by omega)
  obtain⟨b,hbi⟩:∃b,bs[i]?=some b:=⟨_,qgn hil⟩
  have hbt:=hb b (qgo hbi)
  subst hbt
  obtain⟨a1,a2⟩:=blAt hr hbi
  have a2':=a2 m' (Sees.refl hm)
  have w1:=wL (i:=i) (by omega)
  simp[t11,t12,hh,ll,dl,a1,a2',w1]
  exact hk1 hil _ _ ⟨rfl,by simp[t6],by simp[t11],by simp⟩
 .obtain rfl:i=bs.length:=by omega
  simp[t11,t12,hh,ll]
  exact hk _ (by simp[t6]) (by simp[t11])
theorem GU {x:Ex}{ke:Nat->K}{m0 M0:M}{b6 b11:Nat}{ov av osl fsl:Value}{asv bsv:List Value}{LA LB:List (List Nat)}{la lb:List Nat}{N:Nat}{kr:K}{Q:Value->M->Prop}(hx:∀g args m,g≠4->x.f g args m=(ex Tryz.prog (N+2)).f g args m)(he0:Ext m0 M0)(hm:M0.base<=M0.n)
  (h9:load1 M0 ⟨b11,9,none⟩=some ov) (h8:load1 M0 ⟨b11,8,none⟩=some av) (h61:load1 M0 ⟨b6,1,none⟩=some osl) (h60:load1 M0 ⟨b6,0,none⟩=some fsl) (hb6:b6<M0.n) (hb11:b11<M0.n)
  (r1:Rd M0 ov 1 (λv:Value=>[v]) asv) (r2:Rd M0 osl 1 (λv:Value=>[v]) bsv) (e1:asv.length=LA.length) (e2:bsv.length=LB.length) (hl:asv.length<=1000000)
  (hA:∀(i:Nat) v x,asv[i]?=some v->LA[i]?=some x->Rd M0 v 1 ku x/\x.length<=4611686018427387904) (hB:∀(i:Nat) v x,bsv[i]?=some v->LB[i]?=some x->Rd M0 v 1 ku x)
  (r3:Rd M0 av 1 ku la) (r4:Rd M0 fsl 1 ku lb) (hl2:la.length<=4611686018427387904) (hne:LA=LB->la=lb->False)
  {t:Tm} (h6:Tm.get 6 t=.pointer (some ⟨b6,0,none⟩)) (h11:Tm.get 11 t=.pointer (some ⟨b11,0,none⟩))
  (hk:∀t' M',Tm.get 4 t'=.bool true->Ext m0 M'->Ret m0 Q (kr t' M')) (kn:K):Ret m0 Q (Vb x kn ke kr t M0):=by
 obtain⟨w,M1,c1,c2,rfl⟩:=qe9 N hm r1 r2 e1 e2 hl hA hB
 have S1:=(Sees.refl hm).ext c2
 have E1:=he0.trans c2
 have l8:load1 M1 ⟨b11,8,none⟩=some av:=(dx c2 hb11).trans h8
 have l60:load1 M1 ⟨b6,0,none⟩=some fsl:=(dx c2 hb6).trans h60
 by_cases hL:LA=LB
 .obtain⟨w,M2,d1,d2,rfl⟩:=KL (N+1) S1.base (r3.sees S1) (r4.sees S1) hl2
  have hd:decide (la=lb)=false:=decide_eq_false λh=>hne hL h
  simp[h6,h11,h9,h61,hx,c1,hL,l8,l60,d1,hd]
  exact hk _ _ (by simp) (E1.trans d2)
 .simp[h6,h11,h9,h61,hx,c1,hL]
  exact hk _ _ (by simp) E1
end Go.Sx
namespace Go.Dx
theorem Rd.map {α β:Type}{m:M}{v:Value}{e:Nat}{f:β->List Value}{g:α->β}{l:List α}(h:Rd m v e f (l.map g)):Rd m v e (λx=>f (g x)) l :=
 ⟨by rw[h.len,List.length_map],λi r hr=>h.row i (g r) (by rw[qh4,hr];rfl),by have:=h.all;rwa [List.length_map,List.flatMap_map]at this,h.lt⟩
theorem Rd.unmap {α β:Type}{m:M}{v:Value}{e:Nat}{f:β->List Value}{g:α->β}{l:List α}(h:Rd m v e (λx=>f (g x)) l):Rd m v e f (l.map g) :=
 ⟨by rw[h.len,List.length_map],λi r hr=>by
  rw[qh4]at hr
  cases hx:l[i]? with
  | none=>rw[hx]at hr;cases hr
  | some x=>rw[hx]at hr;cases hr;exact h.row i x hx,by rw[List.length_map,List.flatMap_map];exact h.all,h.lt⟩
end Go.Dx
namespace Go.Sx
open Go.Dx Go.Proofs
set_option maxRecDepth 10000
theorem Xw {es:List (Int × Int)}{ms:List Int}(h:(wn es ms).2=0):∀i,i<es.length->QS (eAt es i).1 (mAt ms i)=false:=by
 intro i hi
 unfold wn at h
 by_cases h1:16<es.length
 .rw[if_pos h1]at h;simp at h
 .rw[if_neg h1]at h
  by_cases h2:ms.length≠es.length
  .rw[if_pos h2]at h;simp at h
  .rw[if_neg h2]at h
   cases hf:first es.length λi=>zx (eAt es i) with
   | some j=>rw[hf]at h;simp at h
   | none =>
    rw[hf]at h
    cases hg:first es.length (WX es) with
    | some j=>simp[hg]at h
    | none =>
     cases hk:first es.length λi=>QS (eAt es i).1 (mAt ms i) with
     | some j=>simp[hg,hk]at h
     | none =>
      unfold first at hk
      rw[List.find?_eq_none]at hk
      have:=hk i (by simpa using hi)
      simpa using this
theorem wv_law (es:List (Int × Int))(ms:List Int)(ch:Nat->List Nat)(h0:(zj es ms).2=0)(hch:∀c,c<es.length-cnt es->kU es (xk es (es.length-cnt es) (wi es (wM es))).ce (wM es) c (ch c)) :
  WvH es ms (kY es (wM es) false) (kY es (wM es) true) (xX es (fD es)) (wrR es (wM es)) (es.length-cnt es) (cnt es) (wi es (wM es)):=by
 have hp:(wn es ms).2=0/\¬(cnt es<2\/es.length-cnt es<1):=by
  unfold zj at h0
  by_cases h1:(wn es ms).2≠0
  .rw[if_pos h1]at h0;exact absurd h0 h1
  .rw[if_neg h1]at h0
   by_cases h2:cnt es<2\/es.length-cnt es<1
   .rw[if_pos h2]at h0;simp at h0
   .exact⟨by omega,h2⟩
 have hlaw:=(Zx es ms ch h0 hch).2
 have hgl:=(gl_law es ms ch h0 hch).2.2
 have hlen:=(jr hp.1).1
 have hc:cnt es<=es.length:=List.countP_le_length
 have hm:∀i,i∈wi es (wM es) ↔ i<es.length:=λi=>by
  constructor
  .intro h
   unfold wi at h
   obtain⟨k,hk,rfl⟩:=List.mem_map.1 h
   have:=List.mem_range.1 hk
   exact Nat.mod_lt _ (by omega)
  .exact Xh
 exact⟨hgl,qai es ms ch h0 hch,hm,by omega,λi hi=>hlaw.tl i ((hm i).1 hi),by unfold wi;simp;exact hlen,by omega,by omega,hlaw.vs,fc hp.1,Xw hp.1⟩
section
variable {es:List (Int × Int)}{ms:List Int}{TH CE VA WR:Nat->Nat}{N nt:Nat}{l:List Nat}
theorem ab_v (hV:∀i,VA i<1000000)(hln:l.length<=1000)(t:Nat):∀b∈abL es ms TH CE VA l t,∀op v,b.2.2.2.2=some (op,v)->v<18446744073709551616:=λb hb op v hv=>by
 obtain⟨p,hp⟩:=qh9 hb
 have hap:=xx (es:=es) (ms:=ms) (TH:=TH) (CE:=CE) (VA:=VA) l t
 have hll:(body es ms TH CE VA l t).loc<=l.length:=by
  rw[hap.loc]
  exact qgz List.countP_le_length (List.length_filter_le _ _)
 rcases Zg hp with ⟨_,⟨f,rfl,i,hi,rfl,h0⟩ | ⟨i,hi,hfi,rfl⟩ | ⟨i,hi,hfi,rfl⟩⟩ | ⟨_,rfl,hk⟩
 .cases hv
 .cases hv
  have:=hV i
  omega
 .cases hv
 .cases hv
  omega
theorem pgW_ok {m:M}{tsl:Value}{loc:Nat->Nat}{va:Nat->Value}{A:Nat->List AR}(H:WvH es ms TH CE VA WR N nt l)(hA:∀j,j<nt->(A j).map AR.era=abL es ms TH CE VA l j)
  (h2:Rd m tsl 2 (λp:Int × Value=>[iv p.1,p.2]) ((List.range nt).map λ(j:Nat)=>(((loc j:Nat):Int),(va j:Value)))) (h3:∀j,j<nt->Rd m (va j) 11 xO (A j))
  (h4:∀j,j<nt->∀r,r∈A j->∀B op v,r.e=some (B,op,v)->B<m.n/\Arr m B (xM op v)):PgOK m (pgW N tsl nt loc va A):=by
 have hT:=H.nt
 refine⟨?_,λth hth=>?_,by simp[pgW];omega⟩
 .have:=Rd.map h2
  exact Rd.unmap (f:=FW) (g:=λ(j:Nat)=>(⟨loc j,va j,(A j).map WV⟩:Th)) this
 .obtain⟨t,ht⟩:=qh9 hth
  obtain⟨htn,rfl⟩:=WL ht
  refine⟨Rd.unmap (f:=qd) (g:=WV) (h3 t htn),λa ha=>?_,?_⟩
  .obtain⟨r,hr,rfl⟩:=List.mem_map.1 ha
   refine qdi λB op v he=>?_
   obtain⟨k1,k2⟩:=h4 t htn r hr B op v he
   refine⟨k1,k2,?_⟩
   have hb:r.era∈abL es ms TH CE VA l t:=by rw[<-hA t htn];exact List.mem_map.2 ⟨r,hr,rfl⟩
   exact ab_v H.vs (by have:=H.ln;omega) t _ hb op v (by unfold AR.era;rw[he];rfl)
  .show ((A t).map WV).length<=_
   have:=congrArg List.length (hA t htn)
   rw[List.length_map]at this
   rw[List.length_map,this]
   have h3:=Zf (es:=es) (ms:=ms) (TH:=TH) (CE:=CE) (VA:=VA) (l:=l) t
   have h4:(evs TH l t).length<=l.length:=List.length_filter_le _ _
   have:=H.ln
   omega
end
end Go.Sx
namespace Go.Sx
open Go.Dx Go.Proofs
set_option maxRecDepth 10000
section
variable {es:List (Int × Int)}{ms:List Int}{TH CE VA WR:Nat->Nat}{N nt:Nat}{l:List Nat}
theorem qca (H:WvH es ms TH CE VA WR N nt l){curs:Nat->List Ac}{lq:List (Nat × Value)}(hH:NvH es ms TH CE VA l N nt curs)(hn:∀t,NP (curs t))(hs:Sim es ms TH CE VA l N nt (S0 N lq) [])(hG:TG (S0 N lq) curs N)(hI:IV (S0 N lq) (S0 N lq).used)(picks:List Int)
  {S:RS} (hS:S=wk curs (picks++yh nt 60) (S0 N lq)):(∀t,t<nt->Qc curs S t=true)/\S.outs.length=nt/\(∀(t:Nat) o,S.outs[t]?=some o->o.length<=1000)/\S.cells.length=N /\
   (S.outs.map (λo=>o.map (·.1))=(List.range nt).map (λt=>(body es ms TH CE VA l t).outs)->S.cells.map (·.1)=(List.range N).map WR->False):=by
 rw[dI]at hS
 obtain⟨tr1,s1,_,_⟩:=fm hH hn picks _ [] hs hG hI
 obtain⟨g1,i1,_⟩:=zM hn picks _ hG hI
 obtain⟨tr2,s2,a2⟩:=XJ hH hn s1 g1 i1 60
 obtain⟨g2,i2,_⟩:=zM hn (yh nt 60) _ g1 i1
 rw[<-hS]at s2 a2 g2 i2
 have hd:=qdv s2 a2 (by have:=H.ln;omega)
 have hbd:=s2.bd
 have hln:=H.ln
 have hol:S.outs.length=nt:=i2.outs.trans s2.ln
 refine⟨λt ht=>?_,hol,λt o ho=>?_,s2.cl,λh1 h2=>?_⟩
 .obtain⟨x,hx,hw⟩:=GB hH s2 hd g2 ht
  unfold Qc
  rw[hx]
  exact decide_eq_true hw
 .have:=i2.outN t o ho
  omega
 .refine VD hH H.gl H.ed H.hl H.h0 H.th s2 hd (λt ht o ho=>?_) h2
  have h3:(S.outs.map (λo=>o.map (·.1)))[t]?=some (o.map (·.1)):=by rw[qh4,ho];rfl
  rw[h1,qh4,List.getElem?_range ht]at h3
  exact (Option.some.inj h3).symm
end
end Go.Sx
namespace Go.Sx
open Go.Dx Go.Proofs
set_option maxRecDepth 10000
theorem WeaveNever_c (ed md pv:Value)(es:List (Int × Int))(ms picks:List Int)(m:M)(hm:m.base<=m.n)(hl:es.length<9223372036854775807)(hed:Rd m ed 2 edgeRow es)(hmd:Rd m md 1 modeRow ms)(hpk:Rd m pv 1 intRow picks)(hpl:picks.length<=10000000) :
  CallV (Ex.step Tryz.prog (xA 20)) 3 [.agg #[ed,md],pv] m (.bool true):=by
 obtain⟨ch,hch⟩:=Gw es ms
 refine step_ret da0_ok (by simp) ?_
 have st0:St m m []:=St.nil hm (Ext.refl m)
 have st1:=st0.row [ed,md]
 have hb:loads (Dx.newRow m [ed,md]) ⟨m.n,0,none⟩ 2=some [ed,md]:=yU m _ 0 2 (by simp)
 obtain⟨mA,hmA⟩:=qhd (Dx.newRow m [ed,md])
 have hA:mA.base<=mA.n:=by rw[hmA];exact st1.sees.base
 have bx:yf (.agg ⟨[ed,md]⟩) m=some (.pointer (some ⟨m.n,0,none⟩),mA):=by rw[hmA];rfl
 rw[<-hmA]at st1 hb
 obtain⟨v1,m1,c1,c2,c3⟩:=qdh 11 ed md es ms mA hA hl (hed.sees st1.sees) (hmd.sees st1.sees) ch hch _ _ _ _ (λh=>(Zx es ms ch h (hch h)).2)
 have S1:=(Sees.refl hA).ext c2
 have x0:=((NH.empty S1.base (ν:=Unit) (λ_=>0)).row [zI,zS]).row [zS,zS]
 simp only[qz]at x0
 have stf:∀(a1 a2 b1 b2:Value),okC a1=true->okC a2=true->okC b1=true->okC b2=true->∃Ma Mb,wt 2 (.pointer (some ⟨m1.n,0,none⟩)) (.agg ⟨[a1,a2]⟩) (Dx.newRow (Dx.newRow m1 [zI,zS]) [zS,zS])=some (undef,Ma) /\
   wt 2 (.pointer (some ⟨m1.n+1,0,none⟩)) (.agg ⟨[b1,b2]⟩) Ma=some (undef,Mb)/\NH m1 Mb [] (λ_:Unit=>0) (λ_=>none) [(m1.n+1,[b1,b2]),(m1.n,[a1,a2])]:=by
  intro a1 a2 b1 b2 o1 o2 o3 o4
  obtain⟨Ma,e1,y1,_⟩:=x0.bsetN 1 rfl (o:=0) (n:=2) (l':=[a1,a2]) (by omega) rfl (by simp) (by simp[o1,o2])
  obtain⟨Mb,e2,y2,_⟩:=y1.bsetN 0 rfl (o:=0) (n:=2) (l':=[b1,b2]) (by omega) rfl (by simp) (by simp[o3,o4])
  exact⟨Ma,Mb,e1,e2,y2⟩
 have ff:=λg args m h=>xA_f 20 g args m h
 rcases c3 with ⟨hz,rfl⟩ | ⟨hz,hW⟩
 .obtain⟨q2,hq2⟩:=qhd ((zj es ms).2)
  rw[<-hq2]at hz c1
  have hz':¬((q2:Int)=0):=by omega
  obtain⟨Ma,Mb,e1,e2,y⟩:=stf (iv 0) zS zS zS rfl rfl rfl rfl
  have l5:load1 Mb ⟨m1.n,1,none⟩=some zS:=y.bld 1 rfl 1 none
  have e1':wt 2 (.pointer (some ⟨m1.n,0,none⟩)) (.agg ⟨[zI,zS]⟩) (Dx.newRow (Dx.newRow m1 [zI,zS]) [zS,zS])=some (undef,Ma):=e1
  simp[bx,xA_aw,hb,qe,ff,c1,e1',e2,hz',hz,l5]
  exact qp (st1.ext.trans (c2.trans y.toExt)) (by simp;rfl)
 .obtain⟨TH,hTH⟩:=qhd (kY es (wM es) false)
  obtain⟨CE,hCE⟩:=qhd (kY es (wM es) true)
  obtain⟨VA,hVA⟩:=qhd (xX es (fD es))
  obtain⟨WR,hWR⟩:=qhd (wrR es (wM es))
  obtain⟨N,hN⟩:=qhd (es.length-cnt es)
  obtain⟨nt,hnt⟩:=qhd (cnt es)
  obtain⟨l,hl⟩:=qhd (wi es (wM es))
  have H:=wv_law es ms ch hz (hch hz)
  rw[<-hTH,<-hCE,<-hVA,<-hWR,<-hN,<-hnt,<-hl]at H
  rw[<-hTH,<-hCE,<-hVA,<-hWR,<-hN,<-hnt,<-hl]at hW
  obtain⟨tsl,osl,fsl,loc,va,vo,A,rfl,w1,w2,w3,w4,-⟩:=hW
  obtain⟨Ma,Mb,e1,e2,y⟩:=stf (iv N) tsl fsl osl rfl w2.okV w1.okV w3.okV
  have hE1:=y.toExt
  have hSb:=S1.ext hE1
  have hloc:∀j,j<nt->loc j=(body es ms TH CE VA l j).loc:=λj hj=>by have:=(w4 j hj).1;simp only[VS]at this;exact this
  have hAr:∀j,j<nt->(A j).map AR.era=abL es ms TH CE VA l j:=λj hj=>by have:=(w4 j hj).2.1;simp only[VS]at this;exact this
  have hpM:Rd Mb pv 1 intRow picks:=(hpk.sees st1.sees).sees hSb
  obtain⟨Mc,pv',d1,d2⟩:=PL.start y hpM (by omega)
  have ll:za tsl=some (iv nt):=by have:=w2.len;rw[this,List.length_map,List.length_range]
  simp[bx,xA_aw,hb,qe,ff,c1,e1,e2,d1,-Kn]
  refine Bm (picks:=picks) (k5:=1) (b5:=m1.n) (b6:=m1.n+1) rfl ll H.nt (by omega) (by simp) (by simp) (by simpa using d2) λt1 M1 t5 t6 p8=>?_
  obtain⟨pvL,hpvL⟩:=qhd (Tm.get 8 t1)
  rw[<-hpvL]at p8
  obtain⟨PL,hPL⟩:=qhd (picks++yh nt 60)
  rw[<-hPL]at p8
  have hPLl:PL.length<=20000000:=by
   rw[hPL,qgx,XG]
   have:=H.nt
   omega
  have xE:=p8.xt
  have SM:=(Sees.refl S1.base).ext xE
  have rdL:=p8.rd
  obtain⟨p,hp⟩:=qhd (pgW N tsl nt loc va A)
  have hPgOK:PgOK M1 p:=by
   rw[hp]
   exact (pgW_ok H hAr w2 (λj hj=>(w4 j hj).2.2.1) (λj hj=>(w4 j hj).2.2.2.2)).sees SM
  have hPgB:pgB p=true:=by rw[hp];exact pgW_b H hloc hAr
  obtain⟨pk1,pk2⟩:=pgW_pk (tsl:=tsl) (va:=va) H hloc hAr PL
  rw[<-hp]at pk1 pk2
  have hpn:p.cells=N:=by rw[hp];rfl
  have hpt:p.ths.length=nt:=by rw[hp];simp[pgW]
  have l5:loads M1 ⟨m1.n,0,none⟩ 2=some [iv N,tsl]:=by rw[(p8.at 1 rfl).2.loads (by simp)];rfl
  obtain⟨m3,A3,lq,curs,Bh,g1,g2⟩:=Dd 11 SM.base hPgOK hPgB hpn rdL (by omega) (fuel:=(PL.length:Int)) (by omega) pk1
  obtain⟨S,hS⟩:=qhd (wk curs PL (S0 N lq))
  rw[<-hS,hpt]at g1
  have g1':(ex Tryz.prog 20).f 6 [.agg ⟨[iv N,tsl]⟩,pvL,iv (PL.length:Int)] M1=some (.tuple #[.agg ⟨wj A3 S (gv Bh 1 nt)⟩,iv 0],m3):=by
   have:pgV p=.agg ⟨[iv N,tsl]⟩:=by rw[hp];rfl
   rw[this]at g1
   exact g1
  obtain⟨q1,q2,q3,q4,q5⟩:=pk2 lq curs (by rw[g2.len,hpt]) g2.ad (λt ht=>g2.out t (by rw[hpt];exact ht))
  obtain⟨f1,f2,f3,f4,f5⟩:=qca H q1 q2 q3 q4 q5 picks (S:=S) (by rw[hS,hPL])
  have z0:=(NH.empty g2.nh.mb (ν:=Unit) (λ_=>0)).row Z12
  obtain⟨m4,hm4⟩:=qhd (Dx.newRow m3 Z12)
  have hm4':Dx.newRow m3 [zI,zS,zS,zS,zS,zS,zS,zS,zS,zS,zS,zI]=m4:=hm4.symm
  rw[<-hm4]at z0
  obtain⟨m5,h1,z1,_⟩:=z0.bsetN 0 rfl (o:=0) (n:=12) (l':=wj A3 S (gv Bh 1 nt)) (by omega) rfl (by simp) (by
   intro v hv
   simp only[wj,List.mem_cons,List.not_mem_nil,or_false]at hv
   rcases hv with rfl | rfl | rfl | rfl | rfl | rfl | rfl | rfl | rfl | rfl | rfl | rfl<;>first | rfl | exact JT _ _ _)
  have E35:=z1.toExt
  obtain⟨u1,u2,u3,u4⟩:=qcl g2 SM.base E35 hS
  rw[hpt]at u1
  have lr:∀o s,load1 m5 ⟨m3.n,o,s⟩=(wj A3 S (gv Bh 1 nt))[o]?:=λo s=>z1.bld 0 rfl o s
  have E15:=g2.nh.toExt.trans E35
  have S15:=SM.ext E15
  have l6:∀o,load1 m5 ⟨m1.n+1,o,none⟩=[fsl,osl][o]?:=λo=>by
   rw[dx E15 (p8.at 0 rfl).1,(p8.at 0 rfl).2.load1]
  have hlp:za pvL=some (iv (PL.length:Int)):=rdL.len
  simp[t5,t6,<-hpvL,l5,qe,hlp,ff,g1',hm4',h1,-Ko,-Gq]
  refine GI (b6:=m1.n+1) (b11:=m3.n) (hv:=gv Bh 1 nt) S15.base (lr 10 none) u1 (λb hb=>?_) (by simp;have:=H.nt;omega) (by simp[t6]) (by simp) λt2 v6 v11=>?_
  .obtain⟨t,ht,rfl⟩:=List.mem_map.1 hb
   exact f1 t (List.mem_range.1 ht)
  have hlo:∀(i:Nat) v x,(xI A3 S)[i]?=some v->(S.outs.map λo=>o.map (·.1))[i]?=some x->∃o,S.outs[i]?=some o/\x=o.map (·.1)/\v=gv (A3 (.out i)) 1 o.length:=by
   intro i v x hv hx
   rw[qh4]at hx
   cases ho:S.outs[i]? with
   | none=>rw[ho]at hx;cases hx
   | some o =>
    rw[ho]at hx
    cases hx
    have hi:=(qgp.1 ho).1
    unfold xI at hv
    rw[qh4,List.getElem?_range hi]at hv
    simp only[Option.map_some,List.getD_eq_getElem?_getD,ho,Option.getD_some,Option.some.injEq]at hv
    exact⟨o,rfl,rfl,hv.symm⟩
  refine GU (N:=18) (b6:=m1.n+1) (b11:=m3.n) (LA:=S.outs.map λo=>o.map (·.1)) (LB:=(List.range nt).map λt=>(body es ms TH CE VA l t).outs) ff (st1.ext.trans (c2.trans (xE.trans E15))) S15.base (lr 9 none) (lr 8 none) (l6 1) (l6 0) (by have:=(p8.at 0 rfl).1;have:=E15.n;omega) (z1.ow.get 0 rfl).2.1 u2 (w3.sees (SM.ext E15)) (by simp[xI]) (by simp) (by simp[xI,f2];have:=H.nt;omega)
   (λi v x hv hx=>?_) (λi v x hv hx=>?_) u4 (w1.sees (SM.ext E15)) (by simp[f4];have:=H.nn;omega) f5 v6 v11 (λt' M' t4 eM=>qp eM (by simp[t4])) _
  .obtain⟨o,ho,rfl,rfl⟩:=hlo i v x hv hx
   refine⟨u3 i o ho,?_⟩
   have:=f3 i o ho
   rw[List.length_map];omega
  .have hi:i<nt:=by
    have:=(qgp.1 hv).1
    simpa using this
   rw[qh4,List.getElem?_range hi]at hv hx
   cases hv;cases hx
   have:=(w4 i hi).2.2.2.1
   simp only[VS]at this
   exact this.sees (SM.ext E15)
end Go.Sx
namespace Go.Dx
open Go.RowKit Go.WideShapes Go.ChangeShapes
noncomputable section
attribute [local irreducible] A.get A.set HI
section
variable {H:Type}{enc:TypeId × Value->H}{P:Program}{w:World}
end
end
end Go.Dx
namespace Go.Dx
open Go.RowKit Go.WideShapes Go.ChangeShapes
section
variable {H:Type}{enc:TypeId × Value->H}{P:Program}
theorem args_stay (hl:laidOutB P=true){W W':World}:∀(ts:List TypeId) (vs:List Value) (ds:List (DataW H)) (ps:List MemPlace),(ts.all λt=>P.readableRec t&&decide (t<P.types.size))=true ->
  DataW.TrodAll enc P W 0 (λ_=>true) true ts vs ds ps->(∀p∈ps,W.sameAt W' p)->∀sp:Nat->Bool,(∀p∈ps,sp p.block=true)->DataW.TrodAll enc P W' 0 sp true ts vs ds ps
 | [],vs,ds,ps,_,h,_,_,_=>by
  obtain⟨rfl,rfl,rfl⟩:=trodAll_nil h
  exact rfl
 | t::ts,vs,ds,ps,ha,h,hs,sp,hsp=>by
  obtain⟨v,vs',d,ds',p,q,rfl,rfl,rfl,h1,h2⟩:=trodAll_cons h
  simp only[List.all_cons,qgt,decide_eq_true_eq]at ha
  exact⟨p,q,WideElems.Trod_stays hl ha.1.1 ha.1.2 h1 (λx hx=>hs x (List.mem_append_left _ hx)) (λx hx=>hsp x (List.mem_append_left _ hx)),
   args_stay hl ts vs' ds' q ha.2 h2 (λx hx=>hs x (List.mem_append_right _ hx)) sp (λx hx=>hsp x (List.mem_append_right _ hx)),rfl⟩
end
end Go.Dx
