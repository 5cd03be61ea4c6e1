/- The evaluator over an abstract heap, second part. -/
import Derived.Test.YtifpodmojagpiaaGreatEa
import Derived.Laws.AppendOwn
set_option linter.unusedVariables false
set_option linter.unusedSimpArgs false
set_option linter.defProp false
namespace Go.Dx
open Go.RowKit
section
variable {P:Program}{nt:Nat}{o:Oper}
theorem yt {k:Value->Option Bool}{both:Bool}{x y:Value}{r:Bool}(h:eqN k both x y=some r) :
  (k x=some true/\k y=some true/\both=true/\r=true)\/(k x=some true/\k y=some false/\r=false)\/(k x=some false/\k y=some true/\r=false):=by
 unfold eqN at h
 obtain⟨a,ha,h⟩:=qa h
 obtain⟨b,hb,h⟩:=qa h
 cases a<;>cases b<;>cases both<;>first | (cases h;done) | (cases h;simp[ha,hb])
theorem je (op:BinOp)(t:TypeId)(x y:Operand)(w:World)(h:isC x=true\/isC y=true):(eqGuard op t x y .nilIface .nilIface).run P w=.ok () w:=by
 unfold eqGuard
 rcases h with h | h
 .cases x<;>first | (cases h;done) | skip
  cases op<;>simp
 .cases y<;>first | (cases h;done) | skip
  cases op<;>simp
theorem ZN {neg:Bool}{op:BinOp}{ty tz:TypeId}{x y:Operand}{f g:V}{k:Value->Option Bool}{both:Bool}(ho:o.op=.binOp op ty x y tz)(hop:op=(if neg then .neq else .eql))
  (hk:∀(φ:Phi) (w:World) (u v u' v':Value) (r:Bool),eqN k both u v=some r->VRel φ u u'->VRel φ v v'->(Op.equal ty u' v').run P w=.ok r w /\
   (∀op':BinOp,(op'=.eql->binOp op' ty u' v'=(do pure (.bool (<-Op.equal ty u' v'))))/\(op'=.neq->binOp op' ty u' v'=(do pure (.bool (!(<-Op.equal ty u' v')))))) /\
   ((u'=.nilIface/\v'=.nilIface->both=true)/\¬((∃c,u'=.agg c)/\(∃c,v'=.agg c))))
  (hboth:both=true->(k=Qm->(isC x||isC y)=true)/\(k≠Qm->∀φ u u',k u=some true->VRel φ u u'->u'≠.nilIface)) (hkk:k=Qm\/k≠Qm)
  (hf:qH nt x=some f) (hg:qH nt y=some g):wz P nt o (Qo neg k both f g):=by
 intro t v hv φ w a hr
 have h1:=qi hf hr (x:=x) (by simp[ho,Op.operands])
 have h2:=qi hg hr (x:=y) (by simp[ho,Op.operands])
 unfold Qo at hv
 obtain⟨r,hr',hv⟩:=qa hv
 cases hv
 obtain⟨e1,e2,e3,e4⟩:=hk φ w _ _ _ _ _ hr' h1 h2
 refine⟨_,dk (neg:=neg) (r:=r) ho hop ?_ e1 e2,.bool _⟩
 by_cases hn:a.eval x=.nilIface/\a.eval y=.nilIface
 .have hb:=e3 hn
  have hb2:=hboth hb
  rcases yt hr' with ⟨q1,q2,_⟩ | ⟨q1,q2,_⟩ | ⟨q1,q2,_⟩
  .rcases hkk with hki | hki
   .have hc:=hb2.1 hki
    rw[hn.1,hn.2]
    exact je _ _ _ _ w (by simpa using hc)
   .exact absurd hn.1 (hb2.2 hki φ _ _ q1 h1)
  .rcases hkk with hki | hki
   .have hc:=hb2.1 hki
    rw[hn.1,hn.2]
    exact je _ _ _ _ w (by simpa using hc)
   .exact absurd hn.1 (hb2.2 hki φ _ _ q1 h1)
  .rcases hkk with hki | hki
   .have hc:=hb2.1 hki
    rw[hn.1,hn.2]
    exact je _ _ _ _ w (by simpa using hc)
   .exact absurd hn.2 (hb2.2 hki φ _ _ q2 h2)
 .exact zq _ _ _ _ _ _ _ hn e4
theorem qeg {ty e:TypeId}(hu:P.underlying ty=some (.pointer e))(φ:Phi)(w:World)(u v u' v':Value)(r:Bool)(h:eqN GY true u v=some r)(h1:VRel φ u u')(h2:VRel φ v v') :
  (Op.equal ty u' v').run P w=.ok r w /\
   (∀op':BinOp,(op'=.eql->binOp op' ty u' v'=(do pure (.bool (<-Op.equal ty u' v'))))/\(op'=.neq->binOp op' ty u' v'=(do pure (.bool (!(<-Op.equal ty u' v')))))) /\
   ((u'=.nilIface/\v'=.nilIface->true=true)/\¬((∃c,u'=.agg c)/\(∃c,v'=.agg c))):=by
 have hp:∀{x x':Value} {b:Bool},GY x=some b->VRel φ x x'->∃p:Option Addr,x'=.pointer p/\p.isNone=b:=by
  intro x x' b hx hr
  unfold GY at hx
  split at hx
  .cases hx;cases hr;exact⟨_,rfl,rfl⟩
  .cases hx;obtain⟨o,l,_,_,rfl⟩:=hr.ptr_inv;exact⟨_,rfl,rfl⟩
  .cases hx
 have key:∀(p q:Option Addr),(p.isNone=true\/q.isNone=true)->(Op.equal ty (.pointer p) (.pointer q)).run P w=.ok (p.isNone&&q.isNone) w:=by
  intro p q hpq
  show (Op.equalIn (9999+1) ty (.pointer p) (.pointer q)).run P w=_
  cases p with
  | none=>rw[Op.equalIn];simp[run_underlying hu]
  | some p =>
   cases q with
   | none=>rw[Op.equalIn];simp[run_underlying hu]
   | some q=>simp at hpq
 rcases yt h with ⟨q1,q2,_,rfl⟩ | ⟨q1,q2,rfl⟩ | ⟨q1,q2,rfl⟩ <;>
  (obtain⟨p,rfl,hpn⟩:=hp q1 h1
   obtain⟨q,rfl,hqn⟩:=hp q2 h2
   refine⟨by rw[key p q (by simp[hpn,hqn])];simp[hpn,hqn],λop'=>⟨λe=>by subst e;rfl,λe=>by subst e;rfl⟩,λ_=>rfl,by simp⟩)
theorem qeh {ty e:TypeId}(hu:P.underlying ty=some (.slice e))(φ:Phi)(w:World)(u v u' v':Value)(r:Bool)(h:eqN yC true u v=some r)(h1:VRel φ u u')(h2:VRel φ v v') :
  (Op.equal ty u' v').run P w=.ok r w /\
   (∀op':BinOp,(op'=.eql->binOp op' ty u' v'=(do pure (.bool (<-Op.equal ty u' v'))))/\(op'=.neq->binOp op' ty u' v'=(do pure (.bool (!(<-Op.equal ty u' v')))))) /\
   ((u'=.nilIface/\v'=.nilIface->true=true)/\¬((∃c,u'=.agg c)/\(∃c,v'=.agg c))):=by
 have hp:∀{x x':Value} {b:Bool},yC x=some b->VRel φ x x'->∃(p:Option Addr) (n c:Nat),x'=.slice p n c/\p.isNone=b:=by
  intro x x' b hx hr
  unfold yC at hx
  split at hx
  .cases hx;cases hr;exact⟨_,_,_,rfl,rfl⟩
  .cases hx;cases hr<;>exact⟨_,_,_,rfl,rfl⟩
  .cases hx
 have key:∀(p q:Option Addr) (n c n' c':Nat),(p.isNone=true\/q.isNone=true)->(Op.equal ty (.slice p n c) (.slice q n' c')).run P w=.ok (p.isNone&&q.isNone) w:=by
  intro p q n c n' c' hpq
  show (Op.equalIn (9999+1) ty (.slice p n c) (.slice q n' c')).run P w=_
  cases p with
  | none=>rw[Op.equalIn];simp[run_underlying hu]
  | some p =>
   cases q with
   | none=>rw[Op.equalIn];simp[run_underlying hu]
   | some q=>simp at hpq
 rcases yt h with ⟨q1,q2,_,rfl⟩ | ⟨q1,q2,rfl⟩ | ⟨q1,q2,rfl⟩ <;>
  (obtain⟨p,n,c,rfl,hpn⟩:=hp q1 h1
   obtain⟨q,n',c',rfl,hqn⟩:=hp q2 h2
   refine⟨by rw[key p q n c n' c' (by simp[hpn,hqn])];simp[hpn,hqn],λop'=>⟨λe=>by subst e;rfl,λe=>by subst e;rfl⟩,λ_=>rfl,by simp⟩)
theorem qee {ty:TypeId}{ps rs:Array TypeId}{va:Bool}(hu:P.underlying ty=some (.func ps rs va))(φ:Phi)(w:World)(u v u' v':Value)(r:Bool)(h:eqN Xj true u v=some r)(h1:VRel φ u u')(h2:VRel φ v v') :
  (Op.equal ty u' v').run P w=.ok r w /\
   (∀op':BinOp,(op'=.eql->binOp op' ty u' v'=(do pure (.bool (<-Op.equal ty u' v'))))/\(op'=.neq->binOp op' ty u' v'=(do pure (.bool (!(<-Op.equal ty u' v')))))) /\
   ((u'=.nilIface/\v'=.nilIface->true=true)/\¬((∃c,u'=.agg c)/\(∃c,v'=.agg c))):=by
 have hp:∀{x x':Value} {b:Bool},Xj x=some b->VRel φ x x'->(b=true/\x'=.nilFunc)\/(b=false/\∃f p q,x'=.func f p q):=by
  intro x x' b hx hr
  unfold Xj at hx
  split at hx
  .cases hx;cases hr;exact .inl ⟨rfl,rfl⟩
  .cases hx;cases hr<;>exact .inr ⟨rfl,_,_,_,rfl⟩
  .cases hx
 rcases yt h with ⟨q1,q2,_,rfl⟩ | ⟨q1,q2,rfl⟩ | ⟨q1,q2,rfl⟩ <;>
  (rcases hp q1 h1 with ⟨hb,rfl⟩ | ⟨hb,f,p,q,rfl⟩<;>first | (cases hb;done) | skip
   rcases hp q2 h2 with ⟨hb2,rfl⟩ | ⟨hb2,f2,p2,r2,rfl⟩<;>first | (cases hb2;done) | skip
   refine⟨?_,λop'=>⟨λe=>by subst e;rfl,λe=>by subst e;rfl⟩,λ_=>rfl,by simp⟩
   show (Op.equalIn (9999+1) ty _ _).run P w=_
   rw[Op.equalIn];simp[run_underlying hu])
theorem qef {ty:TypeId}{ms:Array (String × TypeId)}{both:Bool}(hu:P.underlying ty=some (.interface ms))(φ:Phi)(w:World)(u v u' v':Value)(r:Bool)(h:eqN Qm both u v=some r)(h1:VRel φ u u')(h2:VRel φ v v') :
  (Op.equal ty u' v').run P w=.ok r w /\
   (∀op':BinOp,(op'=.eql->binOp op' ty u' v'=(do pure (.bool (<-Op.equal ty u' v'))))/\(op'=.neq->binOp op' ty u' v'=(do pure (.bool (!(<-Op.equal ty u' v')))))) /\
   ((u'=.nilIface/\v'=.nilIface->both=true)/\¬((∃c,u'=.agg c)/\(∃c,v'=.agg c))):=by
 have hp:∀{x x':Value} {b:Bool},Qm x=some b->VRel φ x x'->(b=true/\x'=.nilIface)\/(b=false/\∃f p,x'=.iface f p):=by
  intro x x' b hx hr
  unfold Qm at hx
  split at hx
  .cases hx;cases hr;exact .inl ⟨rfl,rfl⟩
  .cases hx;cases hr;exact .inr ⟨rfl,_,_,rfl⟩
  .cases hx
 rcases yt h with ⟨q1,q2,hbb,rfl⟩ | ⟨q1,q2,rfl⟩ | ⟨q1,q2,rfl⟩
 .rcases hp q1 h1 with ⟨hb,rfl⟩ | ⟨hb,f,p,rfl⟩<;>first | (cases hb;done) | skip
  rcases hp q2 h2 with ⟨hb2,rfl⟩ | ⟨hb2,f2,p2,rfl⟩<;>first | (cases hb2;done) | skip
  refine⟨?_,λop'=>⟨λe=>by subst e;rfl,λe=>by subst e;rfl⟩,λ_=>hbb,by simp⟩
  show (Op.equalIn (9999+1) ty _ _).run P w=_
  rw[Op.equalIn];simp[run_underlying hu]
 .rcases hp q1 h1 with ⟨hb,rfl⟩ | ⟨hb,f,p,rfl⟩<;>first | (cases hb;done) | skip
  rcases hp q2 h2 with ⟨hb2,rfl⟩ | ⟨hb2,f2,p2,rfl⟩<;>first | (cases hb2;done) | skip
  refine⟨?_,λop'=>⟨λe=>by subst e;rfl,λe=>by subst e;rfl⟩,by simp,by simp⟩
  show (Op.equalIn (9999+1) ty _ _).run P w=_
  rw[Op.equalIn];simp[run_underlying hu]
 .rcases hp q1 h1 with ⟨hb,rfl⟩ | ⟨hb,f,p,rfl⟩<;>first | (cases hb;done) | skip
  rcases hp q2 h2 with ⟨hb2,rfl⟩ | ⟨hb2,f2,p2,rfl⟩<;>first | (cases hb2;done) | skip
  refine⟨?_,λop'=>⟨λe=>by subst e;rfl,λe=>by subst e;rfl⟩,by simp,by simp⟩
  show (Op.equalIn (9999+1) ty _ _).run P w=_
  rw[Op.equalIn];simp[run_underlying hu]
theorem qbh {s:TypeId}{x:Operand}{fi n:Nat}{fs:Array Field}{fd:Field}{f:V}(ho:o.op=.fieldAddr s x fi)(hu:P.underlying s=some (.struct fs))(hfd:fs[fi]?=some fd)(hn:wV P fd.type=some n)(hn0:n≠0)
  (hf:qH nt x=some f):wz P nt o (dH fd.offset f):=by
 intro t v hv φ w a hr
 have h1:=qi hf hr (x:=x) (by simp[ho,Op.operands])
 unfold dH WW at hv
 obtain⟨p,hp,hv⟩:=qa hv
 cases hv
 rw[zQ hp]at h1
 obtain⟨oo,l,hl,hpe,he⟩:=h1.ptr_inv
 refine⟨.pointer (some ⟨l.b,oo+fd.offset,none⟩),?_,?_⟩
 .simp only[execOp,ho,he,Instr.fieldAt,Instr.sureAddr,fieldPlace,Sem.run_bind,run_underlying hu,Result.andThen_ok,hfd,wB hn,Sem.run_pure,if_neg hn0,Addr.add_eq]
 .rw[hpe]
  have:oo+l.d+fd.offset=oo+fd.offset+l.d:=by omega
  simp only
  rw[this]
  exact .ptr _ _ _ hl
theorem qbo {l:List Value}{v:Value}(h:one l=some v):l=[v]:=by
 unfold one at h;split at h<;>cases h;rfl
theorem Wc {t:TypeId}{d:TypeDesc}{n off:Nat}{cs:List Value}{cs':Array Value}{φ:Phi}{v:Value}(hu:P.underlying t=some d)(hn:kA d=true->wV P t=some n)(hn1:kA d=false->n=1)
  (hr:VRels φ cs cs'.toList) (hv:QN (kA d) ((cs.drop off).take n)=some v) (w:World):∃v',(part t cs' off).run P w=.ok v' w/\VRel φ v v':=by
 unfold QN at hv
 cases hd:kA d with
 | true =>
  rw[hd]at hv
  cases hv
  refine⟨_,Bu hu hd (hn hd) w,.agg _ _ ?_⟩
  have:=(hr.drop off).take n
  simpa [List.extract_eq_take_drop]using this
 | false =>
  rw[hd]at hv
  have h1:=qbo hv
  have:=hn1 hd
  subst this
  have h2:cs[off]?=some v:=by
   have:(List.take 1 (cs.drop off))[0]?=some v:=by rw[h1];rfl
   simpa [List.getElem?_take,List.getElem?_drop]using this
  obtain⟨v',h3,h4⟩:=hr.get h2
  exact⟨v',yL hu hd (by simpa using h3) w,h4⟩
theorem qbi {s:TypeId}{x:Operand}{fi n:Nat}{fs:Array Field}{fd:Field}{d:TypeDesc}{f:V}(ho:o.op=.field s x fi)(hu:P.underlying s=some (.struct fs))(hfd:fs[fi]?=some fd)(hd:P.underlying fd.type=some d)(hn:wV P fd.type=some n)
  (hf:qH nt x=some f):wz P nt o (WG (kA d) fd.offset (if kA d then n else 1) f):=by
 intro t v hv φ w a hr
 have h1:=qi hf hr (x:=x) (by simp[ho,Op.operands])
 unfold WG at hv
 obtain⟨p,hp,hv⟩:=qa hv
 rw[fu hp]at h1
 obtain⟨ys,he,hys⟩:=h1.agg_inv
 obtain⟨v',h2,h3⟩:=Wc (n:=if kA d then n else 1) hd (λh=>by rw[if_pos h];exact hn) (λh=>by rw[h];rfl) hys hv w
 exact⟨v',by simp[execOp,ho,he,Instr.field,run_underlying hu,hfd,asAgg,h2],h3⟩
theorem gT {v v':Value}{n:Nat}{φ:Phi}(h:xW v=some n)(hr:VRel φ v v'):∃k,v'=.int k (n:Int):=by
 obtain⟨k,rfl⟩:=Za h
 exact⟨k,hr.int_inv⟩
theorem Be {ty e:TypeId}{x i:Operand}{len k:Nat}{f g:V}(ho:o.op=.indexAddr ty x i)(hu:P.underlying ty=some (.array len e))(hk:wV P e=some k)
  (hf:qH nt x=some f) (hg:qH nt i=some g):wz P nt o (ZT len k f g):=by
 intro t v hv φ w a hr
 have h1:=qi hf hr (x:=x) (by simp[ho,Op.operands])
 have h2:=qi hg hr (x:=i) (by simp[ho,Op.operands])
 unfold ZT at hv
 obtain⟨n,hn,hv⟩:=qa hv
 obtain⟨p,hp,hv⟩:=qa hv
 obtain⟨kk,hi⟩:=gT hn h2
 rw[zQ hp]at h1
 obtain⟨oo,l,hl,hpe,he⟩:=h1.ptr_inv
 cases hb:Nat.blt n len with
 | false=>rw[hb]at hv;cases hv
 | true =>
  rw[hb]at hv
  cases hv
  have hlt:n<len:=by simpa [Nat.blt_eq]using hb
  refine⟨.pointer (some ⟨l.b,oo+n*k,none⟩),?_,?_⟩
  .simp only[execOp,ho,he,hi,Instr.indexAt,asIntOf,Instr.sureAddr,Sem.run_bind,run_underlying hu,Result.andThen_ok,Sem.run_pure]
   rw[if_pos ⟨by omega,by omega⟩]
   simp[wB hk,Addr.add_eq]
  .rw[hpe]
   have:oo+l.d+n*k=oo+n*k+l.d:=by omega
   simp only
   rw[this]
   exact .ptr _ _ _ hl
theorem qd3 {v:Value}{a:Addr}{n:Nat}(h:vSl v=some (a,n)):∃c,v=.slice (some a) n c:=by
 unfold vSl at h;split at h<;>cases h;exact⟨_,rfl⟩
theorem Bf {ty e:TypeId}{x i:Operand}{k:Nat}{f g:V}(ho:o.op=.indexAddr ty x i)(hu:P.underlying ty=some (.slice e))(hk:wV P e=some k)
  (hf:qH nt x=some f) (hg:qH nt i=some g):wz P nt o (yY k f g):=by
 intro t v hv φ w a hr
 have h1:=qi hf hr (x:=x) (by simp[ho,Op.operands])
 have h2:=qi hg hr (x:=i) (by simp[ho,Op.operands])
 unfold yY at hv
 obtain⟨n,hn,hv⟩:=qa hv
 obtain⟨p,len,hp,hv⟩:=ky hv
 obtain⟨kk,hi⟩:=gT hn h2
 obtain⟨c,hpe⟩:=qd3 hp
 rw[hpe]at h1
 cases hb:Nat.blt n len with
 | false=>rw[hb]at hv;cases hv
 | true =>
  rw[hb]at hv
  cases hv
  have hlt:n<len:=by simpa [Nat.blt_eq]using hb
  generalize hx:a.eval x=u at h1
  cases h1 with
  | slE=>omega
  | sl B oo cd _ _ cap' l hl e1 e2 e3 e4 =>
   refine⟨.pointer (some ⟨l.b,oo+n*k,none⟩),?_,?_⟩
   .simp only[execOp,ho,hx,hi,Instr.indexAt,asIntOf,Sem.run_bind,run_underlying hu,Result.andThen_ok,Sem.run_pure]
    rw[if_pos ⟨by omega,by omega⟩]
    simp[wB hk,Addr.add_eq]
   .have:oo+l.d+n*k=oo+n*k+l.d:=by omega
    simp only
    rw[this]
    exact .ptr _ _ _ hl
theorem ok_idx {ty e:TypeId}{x i:Operand}{len k:Nat}{d:TypeDesc}{f g:V}(ho:o.op=.index ty x i)(hu:P.underlying ty=some (.array len e))(hd:P.underlying e=some d)(hk:wV P e=some k)(hk1:kA d=false->k=1)
  (hf:qH nt x=some f) (hg:qH nt i=some g):wz P nt o (ZU len (kA d) k f g):=by
 intro t v hv φ w a hr
 have h1:=qi hf hr (x:=x) (by simp[ho,Op.operands])
 have h2:=qi hg hr (x:=i) (by simp[ho,Op.operands])
 unfold ZU at hv
 obtain⟨n,hn,hv⟩:=qa hv
 obtain⟨p,hp,hv⟩:=qa hv
 obtain⟨kk,hi⟩:=gT hn h2
 rw[fu hp]at h1
 obtain⟨ys,he,hys⟩:=h1.agg_inv
 cases hb:Nat.blt n len with
 | false=>rw[hb]at hv;cases hv
 | true =>
  rw[hb]at hv
  change QN (kA d) ((p.drop (n*k)).take k)=some v at hv
  have hlt:n<len:=by simpa [Nat.blt_eq]using hb
  obtain⟨v',h3,h4⟩:=Wc (n:=k) hd (λ_=>hk) hk1 hys hv w
  refine⟨v',?_,h4⟩
  simp only[execOp,ho,he,hi,Instr.index,asIntOf,Sem.run_bind,run_underlying hu,Result.andThen_ok,Sem.run_pure]
  rw[if_pos ⟨by omega,by omega⟩]
  simp[wB hk,h3]
theorem qes {ty:TypeId}{x i:Operand}{f g:V}(ho:o.op=.index ty x i)(hu:P.underlying ty=some .string)
  (hf:qH nt x=some f) (hg:qH nt i=some g):wz P nt o (Xu f g):=by
 intro t v hv φ w a hr
 have h1:=qi hf hr (x:=x) (by simp[ho,Op.operands])
 have h2:=qi hg hr (x:=i) (by simp[ho,Op.operands])
 unfold Xu at hv
 obtain⟨n,hn,hv⟩:=qa hv
 obtain⟨p,hp,hv⟩:=qa hv
 obtain⟨b,hb,hv⟩:=qa hv
 cases hv
 obtain⟨kk,hi⟩:=gT hn h2
 rw[zt hp]at h1
 unfold mkS at h1
 have h1:=h1.string_inv
 have hlt:n<p.length:=(qgp.1 hb).1
 have hget:(⟨⟨p⟩⟩:ByteArray)[n]?=some b:=by
  have hs:(⟨⟨p⟩⟩:ByteArray).size=p.length:=rfl
  rw[getElem?_pos (⟨⟨p⟩⟩:ByteArray) n (by omega)]
  congr 1
  have:=qgp.1 hb
  obtain⟨_,h⟩:=this
  rw[<-h];rfl
 refine⟨_,?_,.int _ _⟩
 simp only[execOp,ho,h1,hi,Instr.index,asIntOf,Sem.run_bind,run_underlying hu,Result.andThen_ok,Sem.run_pure]
 rw[if_pos (by omega)]
 simp[hget]
theorem Yg {x:Operand}{i:Nat}{f:V}(ho:o.op=.extract x i)(hf:qH nt x=some f):wz P nt o (xq f i):=by
 intro t v hv φ w a hr
 have h1:=qi hf hr (x:=x) (by simp[ho,Op.operands])
 unfold xq vf at hv
 split at hv
 .rename_i vs hvs
  rw[hvs]at h1
  generalize hx:a.eval x=u at h1
  cases h1 with
  | tuple _ ys h =>
   obtain⟨v',h2,h3⟩:=h.get hv
   exact⟨v',by simp at h2;simp[execOp,ho,hx,Instr.extract,h2],h3⟩
 .cases hv
theorem kT {b:Builtin}{c:Call}(ho:o.op=.call c)(hb:c.callee=.builtin b)(ρ:Operand->Value)(w:World) :
  ∃cs,(execOp ρ o).run P w=(builtin b c.argTypes o.type cs (c.args.map ρ)).run P w:=by
 refine⟨c.args.map fun | .const _=>true | _=>false,?_⟩
 simp only[execOp,ho,resolve,hb,Sem.run_bind,Sem.run_pure,Result.andThen_ok,invoke]
 rfl
theorem kX {c:Call}{l:List Operand}(h:c.args.toList=l):c.args=⟨l⟩:=by rw[<-Array.toArray_toList (xs:=c.args),h]
theorem zk {c:Call}{b:Builtin}(ho:o.op=.call c)(hb:c.callee=.builtin b):∀x∈c.args.toList,x∈o.op.operands.toList:=by
 intro x hx
 simp[ho,Op.operands,Call.operands,hb]
 simpa using hx
theorem ok_len {c:Call}{ty e:TypeId}{x:Operand}{f:V}(ho:o.op=.call c)(hb:c.callee=.builtin .len)(ht:c.argTypes[0]?=some ty)(ha:c.args.toList=[x])
  (hu:P.underlying ty=some (.slice e)) (hf:qH nt x=some f):wz P nt o (WH f):=by
 intro t v hv φ w a hr
 have h1:=qi hf hr (x:=x) (zk ho hb x (by simp[ha]))
 obtain⟨cs,h2⟩:=kT (P:=P) ho hb a.eval w
 unfold WH za at hv
 split at hv
 .rename_i b n c0 hs
  cases hv
  rw[hs]at h1
  refine⟨_,?_,.int _ _⟩
  rw[h2,kX ha]
  have:∃b' c',a.eval x=.slice b' n c':=by
   generalize a.eval x=u at h1
   cases h1<;>exact⟨_,_,rfl⟩
  obtain⟨b',c',he⟩:=this
  simp[builtin,Builtin.len_,ht,he,run_underlying hu,goInt]
 .cases hv
theorem qem {c:Call}{ty:TypeId}{x:Operand}{f:V}(ho:o.op=.call c)(hb:c.callee=.builtin .len)(ht:c.argTypes[0]?=some ty)(ha:c.args.toList=[x])
  (hu:P.underlying ty=some .string) (hf:qH nt x=some f):wz P nt o (qbv f):=by
 intro t v hv φ w a hr
 have h1:=qi hf hr (x:=x) (zk ho hb x (by simp[ha]))
 obtain⟨cs,h2⟩:=kT (P:=P) ho hb a.eval w
 unfold qbv at hv
 obtain⟨l,hl,hv⟩:=qa hv
 cases hv
 rw[zt hl]at h1
 unfold mkS at h1
 have h1:=h1.string_inv
 refine⟨_,?_,.int _ _⟩
 rw[h2,kX ha]
 simp[builtin,Builtin.len_,ht,h1,run_underlying hu,goInt]
 rfl
theorem qen {c:Call}{ty e:TypeId}{n:Nat}{x:Operand}(ho:o.op=.call c)(hb:c.callee=.builtin .len)(ht:c.argTypes[0]?=some ty)(ha:c.args.toList=[x])
  (hu:P.underlying ty=some (.array n e)):wz P nt o (pLenc n):=by
 intro t v hv φ w a hr
 obtain⟨cs,h2⟩:=kT (P:=P) ho hb a.eval w
 cases hv
 refine⟨_,?_,.int _ _⟩
 rw[h2,kX ha]
 simp[builtin,Builtin.len_,ht,run_underlying hu,goInt]
theorem ok_cap {c:Call}{ty e:TypeId}{x:Operand}{f:V}(ho:o.op=.call c)(hb:c.callee=.builtin .cap)(ht:c.argTypes[0]?=some ty)(ha:c.args.toList=[x])
  (hu:P.underlying ty=some (.slice e)) (hf:qH nt x=some f):wz P nt o (pCap f):=by
 intro t v hv φ w a hr
 have h1:=qi hf hr (x:=x) (zk ho hb x (by simp[ha]))
 obtain⟨cs,h2⟩:=kT (P:=P) ho hb a.eval w
 have key:∀(b:Option Addr) (n k:Nat),a.eval x=.slice b n k->(execOp a.eval o).run P w=.ok (.value (.int .i64 (.ofNat k))) w:=by
  intro b n k he
  rw[h2,kX ha]
  simp[builtin,Builtin.cap_,ht,he,run_underlying hu,goInt]
 unfold pCap capV at hv
 split at hv
 .rename_i n k hs
  cases hv
  rw[hs]at h1
  generalize hx:a.eval x=u at h1
  cases h1
  exact⟨_,key _ _ _ hx,.int _ _⟩
 .rename_i ad n k hs
  obtain⟨cd,hcd,hv⟩:=qa hv
  cases he:fC cd with
  | false=>rw[he]at hv;cases hv
  | true =>
   rw[he]at hv
   cases hv
   rw[hs]at h1
   generalize hx:a.eval x=u at h1
   cases h1 with
   | slE=>exact⟨_,key _ _ _ hx,.int _ _⟩
   | sl B oo cd' _ _ cap' l hl e1 e2 e3 e4 =>
    cases hcd
    have:=e3 he
    subst this
    exact⟨_,key _ _ _ hx,.int _ _⟩
 .cases hv
theorem qb6 {φ:Phi}{mx:Bool}{x y v x' y':Value}(h:minV mx x y=some v)(hx:VRel φ x x')(hy:VRel φ y y')(w:World):((if mx then Builtin.max2 x' y' else Builtin.min2 x' y'):Sem Value).run P w=.ok v w/\∃k n,v=.int k n:=by
 unfold minV at h
 split at h
 .rename_i k a k' b
  have hx:=hx.int_inv
  have hy:=hy.int_inv
  subst hx;subst hy
  cases hc:Nat.beq (ik k) (ik k') with
  | false=>rw[hc]at h;cases h
  | true =>
   rw[hc]at h
   cases h
   refine⟨?_,_,_,rfl⟩
   cases mx
   .simp[Builtin.min2,xn]
   .simp[Builtin.max2,xn]
 .cases h
theorem Fp {φ:Phi}{mx:Bool}(w:World):∀{l l':List Value} {v v' u:Value},mmV mx v l=some u->VRel φ v v'->VRels φ l l'->∃u',(l'.foldlM (if mx then Builtin.max2 else Builtin.min2) v':Sem Value).run P w=.ok u' w/\VRel φ u u'
 | [],_,v,v',u,h,hv,hl=>by
  cases hl;cases h
  exact⟨v',by simp,hv⟩
 | x::l,_,v,v',u,h,hv,hl=>by
  cases hl with
  | cons _ x' _ l' hx hl =>
   rw[mmV]at h
   split at h
   .rename_i q hq
    obtain⟨h1,k,n,rfl⟩:=qb6 (P:=P) hq hv hx w
    obtain⟨u',h2,h3⟩:=Fp w h (.int k n) hl
    refine⟨u',?_,h3⟩
    rw[List.foldlM_cons,Sem.run_bind]
    have:((if mx=true then Builtin.max2 else Builtin.min2) v' x':Sem Value)=(if mx=true then Builtin.max2 v' x' else Builtin.min2 v' x'):=by cases mx<;>rfl
    rw[this,h1]
    exact h2
   .cases h
theorem ok_mm {c:Call}{mx:Bool}{fs:List V}(ho:o.op=.call c)(hb:c.callee=.builtin (if mx then .max else .min))(hf:zA nt c.args.toList=some fs):wz P nt o (pMm mx fs):=by
 intro t v hv φ w a hr
 have h1:=zO hr hf (zk ho hb)
 obtain⟨cs,h2⟩:=kT (P:=P) ho hb a.eval w
 unfold pMm mmL at hv
 split at hv
 .rename_i x l hs
  rw[hs]at h1
  generalize hq:List.map a.eval c.args.toList=q at h1
  cases h1 with
  | cons _ x' _ l' hx hl =>
   obtain⟨u',h3,h4⟩:=Fp (P:=P) w hv hx hl
   refine⟨u',?_,h4⟩
   rw[h2]
   cases mx
   .simp only[Bool.false_eq_true,if_false]at h3 ⊢
    simp[builtin,Builtin.min_,hq,h3]
   .simp only[if_true]at h3 ⊢
    simp[builtin,Builtin.max_,hq,h3]
 .cases hv
end
end Go.Dx
namespace Go.Dx
open Go.RowKit
theorem fN {φ:Phi}{v v':Value}{l:List Value}(h:zy v=some l)(hr:VRel φ v v'):VRels φ l v'.cells.toList:=by
 have hj:v≠.chan (some 0):=by intro e;subst e;cases h
 have:=hr.cells hj
 have hl:l=v.cells.toList:=by
  cases v<;>first | (cases h;rfl) | cases h
 rw[hl];exact this
theorem Kz (off:Nat):∀(l:List Value) (k:Nat) (cs:Array Value),off+k+l.length<=cs.size ->
  ((l.zipIdx k).foldl (λ(cs:Array Value) (p:Value × Nat)=>cs.setIfInBounds (off+p.2) p.1) cs).toList=cs.toList.take (off+k)++l++cs.toList.drop (off+k+l.length)
 | [],k,cs,_=>by simp
 | v::l,k,cs,h=>by
  simp only[List.length_cons]at h
  rw[List.zipIdx_cons,List.foldl_cons,Kz off l (k+1) _ (by simp;omega)]
  simp only[Array.toList_setIfInBounds]
  have hlt:off+k<cs.toList.length:=by simp;omega
  have e1:(cs.toList.set (off+k) v).take (off+(k+1))=cs.toList.take (off+k)++[v]:=by
   rw[show off+(k+1)=off+k+1 by omega,List.take_succ_eq_append_getElem (by simpa using hlt)]
   rw[List.take_set_of_le (by omega)]
   simp
  have e2:(cs.toList.set (off+k) v).drop (off+(k+1)+l.length)=cs.toList.drop (off+k+(l.length+1)):=by
   rw[List.drop_set_of_lt (by omega)]
   congr 1;omega
  rw[e1,e2]
  simp
theorem gQ {φ:Phi}{nt:Nat}{t:Tm}{a:Act}{all:List Operand}(hr:OpR φ nt t a all)(place:Nat->Option (Nat × Nat)) :
  ∀(ps:List (Nat × Operand)) (qs:List (Nat × Nat × V)) (zs l:List Value) (cs:Array Value),Wd qs t zs=some l->VRels φ zs cs.toList ->
   qs.length=ps.length->(∀(j:Nat) (p:Nat × Operand) (q:Nat × Nat × V),ps[j]?=some p->qs[j]?=some q->place p.1=some (q.1,q.2.1)/\qH nt p.2=some q.2.2/\p.2∈all) ->
   ∃cs',Instr.fill place cs (ps.map λp=>(p.1,a.eval p.2))=some cs'/\VRels φ l cs'.toList
 | [],[],zs,l,cs,h,hz,_,_=>by cases h;exact⟨cs,rfl,hz⟩
 | [],_::_,_,_,_,_,_,hlen,_=>by simp at hlen
 | _::_,[],_,_,_,_,_,hlen,_=>by simp at hlen
 | p::ps,q::qs,zs,l,cs,h,hz,hlen,hpq=>by
  obtain⟨off,n,f⟩:=q
  obtain⟨h1,h2,h3⟩:=hpq 0 p (off,n,f) rfl rfl
  simp only at h1 h2
  rw[Wd]at h
  obtain⟨c,hc,h⟩:=qa h
  cases hb:(Nat.beq c.length n&&Nat.ble (off+n) zs.length) with
  | false=>rw[hb]at h;cases h
  | true =>
   rw[hb]at h
   change Wd qs t (zs.take off++c++zs.drop (off+n))=some l at h
   simp only[qgt]at hb
   have hn:=qh0 hb.1
   have hle:=qgw hb.2
   have hv:=fN hc (qi h2 hr h3)
   have hvl:=hv.length
   have hzl:=hz.length
   simp only[Array.length_toList]at hvl hzl
   have hz':VRels φ (zs.take off++c++zs.drop (off+n)) (((a.eval p.2).cells.zipIdx.foldl (λ(cs:Array Value) (p:Value × Nat)=>cs.setIfInBounds (off+p.2) p.1) cs).toList):=by
    have:=Kz off (a.eval p.2).cells.toList 0 cs (by simp;omega)
    rw[<-Array.foldl_toList,Array.toList_zipIdx,this]
    simp only[Nat.add_zero]
    have e:off+(a.eval p.2).cells.toList.length=off+n:=by simp;omega
    rw[e]
    exact ((hz.take off).append hv).append (hz.drop _)
   obtain⟨cs',h5,h6⟩:=gQ hr place ps qs _ l _ h hz' (by simpa using hlen) (λj p' q' hp' hq'=>hpq (j+1) p' q' (by simpa using hp') (by simpa using hq'))
   refine⟨cs',?_,h6⟩
   rw[List.map_cons,Instr.fill]
   simp only[h1]
   rw[if_neg]
   .exact h5
   .simp;omega
theorem gF {P:Program}{nt:Nat}{fs:Array Field}:∀{ps:List (Nat × Operand)} {qs:List (Nat × Nat × V)},gE P nt fs ps=some qs ->
  qs.length=ps.length/\∀(j:Nat) (p:Nat × Operand) (q:Nat × Nat × V),ps[j]?=some p->qs[j]?=some q->(∃f,fs[p.1]?=some f/\q.1=f.offset/\wV P f.type=some q.2.1)/\qH nt p.2=some q.2.2
 | [],qs,h=>by cases h;simp
 | (i,x)::ps,qs,h=>by
  rw[gE]at h
  obtain⟨f,hf,h⟩:=qa h
  obtain⟨n,hn,h⟩:=qa h
  obtain⟨o,ho,h⟩:=qa h
  obtain⟨r,hr,h⟩:=qa h
  cases h
  obtain⟨h1,h2⟩:=gF hr
  refine⟨by simp[h1],λj p q hp hq=>?_⟩
  cases j with
  | zero=>simp at hp hq;subst hp;subst hq;exact⟨⟨f,hf,rfl,hn⟩,ho⟩
  | succ j=>exact h2 j p q (by simpa using hp) (by simpa using hq)
theorem vz {nt n:Nat}:∀{ps:List (Nat × Operand)} {qs:List (Nat × Nat × V)},vx nt n ps=some qs ->
  qs.length=ps.length/\∀(j:Nat) (p:Nat × Operand) (q:Nat × Nat × V),ps[j]?=some p->qs[j]?=some q->(q.1=p.1*n/\q.2.1=n)/\qH nt p.2=some q.2.2
 | [],qs,h=>by cases h;simp
 | (i,x)::ps,qs,h=>by
  rw[vx]at h
  obtain⟨o,ho,h⟩:=qa h
  obtain⟨r,hr,h⟩:=qa h
  cases h
  obtain⟨h1,h2⟩:=vz hr
  refine⟨by simp[h1],λj p q hp hq=>?_⟩
  cases j with
  | zero=>simp at hp hq;subst hp;subst hq;exact⟨⟨rfl,rfl⟩,ho⟩
  | succ j=>exact h2 j p q (by simpa using hp) (by simpa using hq)
theorem jv {P:Program}{t:TypeId}{zs:List Value}(h:jI P t=some zs)(w:World):∃z,(zeroValue t).run P w=.ok z w/\z.cells.toList=zs/\xR z=true:=by
 unfold jI at h
 obtain⟨i,hi,h⟩:=qa h
 obtain⟨z,hz,h⟩:=qa h
 split at h
 .rename_i hc
  cases h
  exact⟨z,by simp[zeroValue,typeInfo,hi,hz],rfl,hc⟩
 .cases h
theorem zl {φ:Phi}{z:Value}(h:xR z=true):VRels φ z.cells.toList z.cells.toList:=by
 have hj:z≠.chan (some 0):=by intro e;subst e;cases h
 exact (xh h).cells hj
theorem Qd {P:Program}(w:World):∀(fs:List Field) (h:∀f∈fs,∃n,wV P f.type=some n),
  ∃l:List (Nat × Nat),(fs.mapM (λf=>do pure (f.offset,<-sizeOf f.type):Field->Sem (Nat × Nat))).run P w=.ok l w/\l.length=fs.length/\∀(i:Nat) f n,fs[i]?=some f->wV P f.type=some n->l[i]?=some (f.offset,n)
 | [],_=>⟨[],by simp,rfl,by simp⟩
 | f::fs,h=>by
  obtain⟨n,hn⟩:=h f (by simp)
  obtain⟨l,h1,h2,h3⟩:=Qd w fs (λg hg=>h g (by simp[hg]))
  refine⟨(f.offset,n)::l,?_,by simp[h2],λi g k hg hk=>?_⟩
  .rw[List.mapM_cons]
   simp only[Sem.run_bind,wB hn,Result.andThen_ok,Sem.run_pure,h1]
  .cases i with
   | zero=>simp at hg;subst hg;rw[hn]at hk;cases hk;rfl
   | succ i=>exact h3 i g k (by simpa using hg) hk
section
variable {P:Program}{nt:Nat}{o:Oper}
theorem Bd {ty:TypeId}{ps:Array (Nat × Operand)}{fs:Array Field}{zs:List Value}{qs:List (Nat × Nat × V)}(ho:o.op=.build ty ps)(hu:P.underlying ty=some (.struct fs))(hz:jI P ty=some zs)
  (hall:fs.toList.all (λf=>(wV P f.type).isSome)=true) (hq:gE P nt fs ps.toList=some qs):wz P nt o (qJ zs qs):=by
 intro t v hv φ w a hr
 unfold qJ at hv
 obtain⟨l,hl,hv⟩:=qa hv
 cases hv
 obtain⟨z,hz1,hz2,hz3⟩:=jv hz w
 obtain⟨h1,h2⟩:=gF hq
 obtain⟨pl,hp1,hp2,hp3⟩:=Qd (P:=P) w fs.toList (λf hf=>by
  have:=List.all_eq_true.1 hall f hf
  cases e:wV P f.type with
  | none=>rw[e]at this;cases this
  | some n=>exact⟨n,rfl⟩)
 obtain⟨cs',h3,h4⟩:=gQ hr (λi=>pl[i]?) ps.toList qs zs l z.cells hl (by rw[hz2];have:=zl (φ:=φ) hz3;rw[hz2]at this;exact this) h1 (λj p q hp hq=>by
  obtain⟨⟨f,hf,he,hn⟩,hc⟩:=h2 j p q hp hq
  refine⟨?_,hc,?_⟩
  .have:=hp3 p.1 f q.2.1 (by simpa using hf) hn
   rw[this,<-he]
  .simp only[ho,Op.operands]
   simp
   have:=qgo hp
   exact⟨p.1,by simpa using this⟩)
 refine⟨.agg cs',?_,.agg _ _ h4⟩
 have hm:(fs.mapM (λf=>do pure (f.offset,<-sizeOf f.type):Field->Sem (Nat × Nat))).run P w=.ok pl.toArray w:=by
  rw[Array.mapM_eq_mapM_toList]
  simp only[Sem.run_map,hp1,Result.andThen_ok]
 simp only[execOp,ho,Instr.build,Sem.run_bind,hz1,Result.andThen_ok,run_underlying hu,hm]
 have hpp:(λx:Nat=>pl.toArray[x]?)=λi=>pl[i]?:=by funext i;simp
 have hps:(ps.map λx=>(x.1,a.eval x.2)).toList=ps.toList.map λp=>(p.1,a.eval p.2):=by simp
 rw[hpp,hps,h3]
 rfl
theorem Bb {ty e:TypeId}{len n:Nat}{ps:Array (Nat × Operand)}{zs:List Value}{qs:List (Nat × Nat × V)}(ho:o.op=.build ty ps)(hu:P.underlying ty=some (.array len e))(hz:jI P ty=some zs)
  (hn:wV P e=some n) (hq:vx nt n ps.toList=some qs):wz P nt o (qJ zs qs):=by
 intro t v hv φ w a hr
 unfold qJ at hv
 obtain⟨l,hl,hv⟩:=qa hv
 cases hv
 obtain⟨z,hz1,hz2,hz3⟩:=jv hz w
 obtain⟨h1,h2⟩:=vz hq
 obtain⟨cs',h3,h4⟩:=gQ hr (λi=>some (i*n,n)) ps.toList qs zs l z.cells hl (by rw[hz2];have:=zl (φ:=φ) hz3;rw[hz2]at this;exact this) h1 (λj p q hp hq=>by
  obtain⟨⟨he,hn'⟩,hc⟩:=h2 j p q hp hq
  refine⟨by rw[he,hn'],hc,?_⟩
  simp only[ho,Op.operands]
  simp
  have:=qgo hp
  exact⟨p.1,by simpa using this⟩)
 refine⟨.agg cs',?_,.agg _ _ h4⟩
 simp only[execOp,ho,Instr.build,Sem.run_bind,hz1,Result.andThen_ok,run_underlying hu,wB hn]
 have hps:(ps.map λx=>(x.1,a.eval x.2)).toList=ps.toList.map λp=>(p.1,a.eval p.2):=by simp
 rw[hps,h3]
 rfl
end
end Go.Dx
namespace Go.Dx
open Go.RowKit
theorem zK {nt:Nat}{x:Option Operand}{f:Option V}(h:fA nt x=some f):(x=none/\f=none)\/∃y g,x=some y/\f=some g/\qH nt y=some g:=by
 cases x with
 | none=>cases h;exact .inl ⟨rfl,rfl⟩
 | some y =>
  unfold fA at h
  simp only at h
  cases e:qH nt y with
  | none=>rw[e]at h;cases h
  | some g=>rw[e]at h;cases h;exact .inr ⟨y,g,rfl,rfl,e⟩
section
variable {P:Program}{nt:Nat}{o:Oper}{φ:Phi}{t:Tm}{a:Act}{all:List Operand}
theorem jZ (hr:OpR φ nt t a all){y:Operand}{g:V}(hc:qH nt y=some g)(hy:y∈all){d mx n:Nat}(hb:bound t (some g) d mx=some n)(c:BoundsCode){mx':Nat}(hle:mx<=mx')(w:World) :
  n<=mx/\(Instr.sliceBound (a.eval y) mx' c).run P w=.ok n w:=by
 unfold bound at hb
 obtain⟨k,hk,hb⟩:=qa hb
 cases he:Nat.ble k mx with
 | false=>rw[he]at hb;cases hb
 | true =>
  rw[he]at hb
  cases hb
  have hle':=qgw he
  obtain⟨kk,hv⟩:=gT hk (qi hc hr hy)
  refine⟨hle',?_⟩
  simp only[Instr.sliceBound,hv,asIntOf,Sem.run_bind,Sem.run_pure,Result.andThen_ok]
  rw[if_pos ⟨by omega,by omega⟩]
  simp
theorem xd (hr:OpR φ nt t a all){lo hi mx:Option Operand}{lo' hi' mx':Option V}(hlo:fA nt lo=some lo')(hhi:fA nt hi=some hi')(hmx:fA nt mx=some mx')
  (hall:∀x,(lo=some x\/hi=some x\/mx=some x)->x∈all) {len cap cap' l h m:Nat} (hb:bounds t len cap lo' hi' mx'=some (l,h,m)) (hcap:cap<=cap') (hlen:len<=cap) (sl:Bool) (w:World) :
  l<=h/\h<=m/\m<=cap/\mx'.isSome=mx.isSome/\(mx=none->m=cap)/\(Instr.sliceBounds sl len cap' (lo.map a.eval) (hi.map a.eval) (mx.map a.eval)).run P w=.ok (l,h,if mx.isSome then m else cap') w:=by
 unfold bounds at hb
 cases hc:(hi'.isNone&&mx'.isSome) with
 | true=>rw[hc]at hb;cases hb
 | false =>
  rw[hc]at hb
  simp only[cond_false]at hb
  obtain⟨m0,hm,hb⟩:=qa hb
  obtain⟨h0,hh,hb⟩:=qa hb
  obtain⟨l0,hl,hb⟩:=qa hb
  cases hb
  rcases zK hmx with ⟨rfl,rfl⟩ | ⟨y2,g2,rfl,rfl,hg2⟩
  .cases hm
   rcases zK hhi with ⟨rfl,rfl⟩ | ⟨y3,g3,rfl,rfl,hg3⟩
   .cases hh
    rcases zK hlo with ⟨rfl,rfl⟩ | ⟨y1,g1,rfl,rfl,hg1⟩
    .cases hl
     refine⟨Nat.zero_le _,hlen,qgq _,rfl,λ_=>rfl,?_⟩
     simp[Instr.sliceBounds,Sem.run_bind,Sem.run_pure,Result.andThen_ok]
    .obtain⟨q1,q2⟩:=jZ (P:=P) hr hg1 (hall _ (.inl rfl)) hl .sliceB (qgq _) w
     refine⟨q1,hlen,qgq _,rfl,λ_=>rfl,?_⟩
     simp[Instr.sliceBounds,Sem.run_bind,Sem.run_pure,Result.andThen_ok,q2]
   .obtain⟨q3,q4⟩:=jZ (P:=P) hr hg3 (hall _ (.inr (.inl rfl))) hh (if sl then .sliceAcap else .sliceAlen) hcap w
    rcases zK hlo with ⟨rfl,rfl⟩ | ⟨y1,g1,rfl,rfl,hg1⟩
    .cases hl
     refine⟨Nat.zero_le _,q3,qgq _,rfl,λ_=>rfl,?_⟩
     simp[Instr.sliceBounds,Sem.run_bind,Sem.run_pure,Result.andThen_ok,q4]
    .obtain⟨q1,q2⟩:=jZ (P:=P) hr hg1 (hall _ (.inl rfl)) hl .sliceB (qgq _) w
     refine⟨q1,q3,qgq _,rfl,λ_=>rfl,?_⟩
     simp[Instr.sliceBounds,Sem.run_bind,Sem.run_pure,Result.andThen_ok,q4,q2]
  .obtain⟨q5,q6⟩:=jZ (P:=P) hr hg2 (hall _ (.inr (.inr rfl))) hm (if sl then .slice3Acap else .slice3Alen) hcap w
   rcases zK hhi with ⟨rfl,rfl⟩ | ⟨y3,g3,rfl,rfl,hg3⟩
   .simp at hc
   .obtain⟨q3,q4⟩:=jZ (P:=P) hr hg3 (hall _ (.inr (.inl rfl))) hh .slice3B (qgq _) w
    rcases zK hlo with ⟨rfl,rfl⟩ | ⟨y1,g1,rfl,rfl,hg1⟩
    .cases hl
     refine⟨Nat.zero_le _,q3,q5,rfl,(λe=>by cases e),?_⟩
     simp[Instr.sliceBounds,Sem.run_bind,Sem.run_pure,Result.andThen_ok,q6,q4]
    .obtain⟨q1,q2⟩:=jZ (P:=P) hr hg1 (hall _ (.inl rfl)) hl .slice3C (qgq _) w
     refine⟨q1,q3,q5,rfl,(λe=>by cases e),?_⟩
     simp[Instr.sliceBounds,Sem.run_bind,Sem.run_pure,Result.andThen_ok,q6,q4,q2]
end
theorem jy (esz:Nat)(e:Bool):code esz e/2=esz:=by
 unfold code;cases e
 .show 2*esz/2=esz;omega
 .show (2*esz+1)/2=esz;omega
theorem vh (esz:Nat)(e:Bool):fC (code esz e)=e:=by
 unfold code fC;cases e
 .show Nat.beq (2*esz%2) 1=false
  have:2*esz%2=0:=by omega
  rw[this];rfl
 .show Nat.beq ((2*esz+1)%2) 1=true
  have:(2*esz+1)%2=1:=by omega
  rw[this];rfl
section
variable {P:Program}{nt:Nat}{o:Oper}
theorem dR {ty:TypeId}{x:Operand}{lo hi mx:Option Operand}(ho:o.op=.slice ty x lo hi mx):x∈o.op.operands.toList/\∀y,(lo=some y\/hi=some y\/mx=some y)->y∈o.op.operands.toList:=by
 rw[ho]
 simp only[Op.operands]
 refine⟨by simp,λy hy=>?_⟩
 rcases hy with rfl | rfl | rfl<;>simp
theorem ok_slice {ty e:TypeId}{x:Operand}{lo hi mx:Option Operand}{esz:Nat}{f:V}{lo' hi' mx':Option V}(ho:o.op=.slice ty x lo hi mx)(hu:P.underlying ty=some (.slice e))(hn:wV P e=some esz)
  (hf:qH nt x=some f) (hlo:fA nt lo=some lo') (hhi:fA nt hi=some hi') (hmx:fA nt mx=some mx'):wz P nt o (Yn esz f lo' hi' mx'):=by
 intro t v hv φ w a hr
 obtain⟨hx,hall⟩:=dR ho
 have h1:=qi hf hr (x:=x) hx
 unfold Yn qci at hv
 have run:∀(b:Option Addr) (n c l h m:Nat),a.eval x=.slice b n c->(Instr.sliceBounds true n c (lo.map a.eval) (hi.map a.eval) (mx.map a.eval)).run P w=.ok (l,h,m) w ->
   (execOp a.eval o).run P w=.ok (.value (.slice (if m=l then b else b.map (·.add (l*esz))) (h-l) (m-l))) w:=by
  intro b n c l h m he hs
  simp only[execOp,ho,he,Instr.sliceAt,Instr.slice,Sem.run_bind,run_underlying hu,Result.andThen_ok,hs,wB hn,Sem.run_pure]
 split at hv
 .rename_i n c hs
  obtain⟨⟨l,h,m⟩,hb,hv⟩:=qa hv
  cases hv
  rw[hs]at h1
  generalize hxe:a.eval x=u at h1
  cases h1
  obtain⟨q1,q2,q3,_,_,q4⟩:=xd (P:=P) hr hlo hhi hmx hall hb (qgq _) (qgq _) true w
  have:m=0:=by omega
  have:h=0:=by omega
  have:l=0:=by omega
  subst m;subst h;subst l
  refine⟨_,run _ _ _ _ _ _ hxe q4,?_⟩
  simp
  exact .slN
 .rename_i ad n c hs
  obtain⟨cd,hcd,hv⟩:=qa hv
  obtain⟨⟨l,h,m⟩,hb,hv⟩:=qa hv
  simp only at hv
  cases hq:(!Nat.beq (cd/2) esz) with
  | true=>rw[hq]at hv;cases hv
  | false =>
   rw[hq]at hv
   simp only[cond_false]at hv
   cases hv
   have hesz:cd/2=esz:=qh0 (by simpa using hq)
   rw[hs]at h1
   generalize hxe:a.eval x=u at h1
   cases h1 with
   | slE B oo cd' a' l0 hl0 =>
    cases hcd
    obtain⟨q1,q2,q3,_,_,q4⟩:=xd (P:=P) hr hlo hhi hmx hall hb (qgq _) (qgq _) true w
    have:m=0:=by omega
    have:h=0:=by omega
    have:l=0:=by omega
    subst m;subst h;subst l
    refine⟨_,run _ _ _ _ _ _ hxe q4,?_⟩
    simp
    exact .slE _ _ _ _ l0 hl0
   | sl B oo cd' _ _ cap' L hl e1 e2 e3 e4 =>
    cases hcd
    obtain⟨q1,q2,q3,q5,q6,q4⟩:=xd (P:=P) hr hlo hhi hmx hall hb e2 e1 true w
    refine⟨_,run _ _ _ _ _ _ hxe q4,?_⟩
    generalize hm':(if mx.isSome=true then m else cap')=m' at *
    have hmm:m<=m':=by
     rw[<-hm'];split
     .exact qgq _
     .omega
    have hmc:m'<=cap':=by
     rw[<-hm'];split<;>omega
    by_cases hz:m'=l
    .have:m=l:=by omega
     subst m
     have:h=l:=by omega
     subst h
     rw[if_pos hz]
     simp only[hz,Nat.sub_self]
     unfold slA
     exact .slE _ _ _ _ L hl
    .rw[if_neg hz]
     simp only[Option.map_some,Addr.add_eq]
     unfold slA
     have hoff:(bif fC cd&&Nat.beq m l then oo+L.d else oo+L.d+l*esz)=oo+l*esz+L.d:=by
      cases hc:(fC cd&&Nat.beq m l) with
      | false=>show oo+L.d+l*esz=_;omega
      | true =>
       simp only[qgt]at hc
       have hml:=qh0 hc.2
       have:=e3 hc.1
       exfalso
       apply hz
       rw[<-hm']
       split
       .exact hml
       .rename_i hns
        have:=q6 (by simpa using hns)
        omega
     simp only
     rw[hoff]
     refine .sl _ _ _ _ _ _ L hl (by omega) (by omega) (λhex=>?_) ?_
     .rw[vh]at hex
      congr 1
      rw[<-hm']
      split
      .rfl
      .rename_i hns
       have hmn:mx=none:=by simpa using hns
       rw[q5,hmn]at hex
       simp at hex
       have:=e3 hex
       have:=q6 hmn
       omega
     .rw[jy]
      rw[hesz]at e4
      have:(m'-l)*esz+l*esz=m'*esz:=by rw[<-Nat.add_mul];congr 1;omega
      have:m'*esz<=cap'*esz:=qh8 _ hmc
      omega
 .cases hv
theorem extract_data (p:List UInt8)(l h:Nat):(⟨⟨p⟩⟩:ByteArray).extract l h=⟨⟨(p.drop l).take (h-l)⟩⟩:=by
 apply ByteArray.ext
 rw[ByteArray.data_extract]
 apply Array.ext'
 simp[List.extract_eq_take_drop]
theorem Bi {ty:TypeId}{x:Operand}{lo hi:Option Operand}{f:V}{lo' hi':Option V}(ho:o.op=.slice ty x lo hi none)(hu:P.underlying ty=some .string)
  (hf:qH nt x=some f) (hlo:fA nt lo=some lo') (hhi:fA nt hi=some hi'):wz P nt o (ZW f lo' hi'):=by
 intro t v hv φ w a hr
 obtain⟨hx,hall⟩:=dR ho
 have h1:=qi hf hr (x:=x) hx
 unfold ZW at hv
 obtain⟨p,hp,hv⟩:=qa hv
 obtain⟨⟨l,h,m⟩,hb,hv⟩:=qa hv
 cases hv
 rw[zt hp]at h1
 unfold mkS at h1
 have h1:=h1.string_inv
 obtain⟨q1,q2,q3,_,_,q4⟩:=xd (P:=P) hr hlo hhi (mx:=none) (mx':=none) rfl (λy hy=>hall y (by rcases hy with h | h | h<;>first | exact .inl h | exact .inr (.inl h) | cases h)) hb (qgq _) (qgq _) false w
 refine⟨.string ((⟨⟨p⟩⟩:ByteArray).extract l h),?_,?_⟩
 .have hs:(⟨⟨p⟩⟩:ByteArray).size=p.length:=rfl
  simp only[execOp,ho,h1,Instr.sliceAt,Instr.slice,Sem.run_bind,run_underlying hu,Result.andThen_ok,Option.map_none,Option.isSome_none,Bool.false_eq_true,if_false,hs,Sem.run_pure]
  simp only[Option.map_none]at q4
  rw[q4]
  rfl
 .rw[extract_data]
  exact .string _
end
end Go.Dx
namespace Go.Dx
open Go.RowKit
def World.to (w:World)(d:Nat):World:={ w with drawn:=d }
def dX (P:Program)(nt:Nat)(o:Oper)(f:MO):Prop :=
 ∀x t m v m',f x t m=some (v,m')->∃l,m'=newRow m l/\(∀x2 m2,m2.n=m.n->f x2 t m2=some (v,newRow m2 l)) /\
  ∀φ w a,OpR φ nt t a o.op.operands.toList->∃(d:Nat) (cs:Array Value) (e:TypeId) (fz:Nat × Nat) (v':Value),
   (execOp a.eval o).run P w=.ok (.value v') ((World.to w d).alloc (.cells cs e fz))/\FzOK cs.size fz/\VRels φ l (cs.toList.take l.length) /\
   ∀φ',PLe φ φ'->φ' m.n=some ⟨w.heap.size,0,cs.size⟩->VRel φ' v v'
theorem R.heapEq {φ:Phi}{m:M}{w w':World}(h:R φ m w)(hw:w'.heap=w.heap):R φ m w' :=
 ⟨h.wf,λB l hB hl=>let ⟨o,h1,h2⟩:=h.obj B l hB hl;⟨o,h1,h2.world (by rw[hw])⟩,h.inj⟩
theorem Step.to {φ:Phi}{m:M}{w:World}(d:Nat):Step φ m w φ m (World.to w d) :=
 ⟨DStep.refl m,PLe.refl φ,λ_ _=>rfl,λB _ h1 h2=>by omega,λB _ h1 h2=>absurd h1 h2,rfl,rfl,rfl,qgq _,λ_ _ _=>rfl⟩
theorem R.rowTo {φ:Phi}{m:M}{w:World}(h:R φ m w)(hf:φ m.n=none){l:List Value}{cs:Array Value}{e:TypeId}{fz:Nat × Nat}(hfz:FzOK cs.size fz)
  (hl:VRels φ l (cs.toList.take l.length)) (d:Nat) :
  ∃φ',φ' m.n=some ⟨w.heap.size,0,cs.size⟩/\R φ' (newRow m l) ((World.to w d).alloc (.cells cs e fz))/\Step φ m w φ' (newRow m l) ((World.to w d).alloc (.cells cs e fz)):=by
 obtain⟨φ',h1,h2,h3⟩:=(h.heapEq (w':=World.to w d) rfl).row hf hfz hl (e:=e)
 exact⟨φ',h1,h2,(Step.to d).trans h3⟩
section
variable {P:Program}{nt:Nat}{o:Oper}
theorem dP (w:World):World.to w w.drawn=w:=by cases w;rfl
theorem noFz {n:Nat}:FzOK n (0,0):=.inl rfl
theorem qbc {ty:TypeId}{zs:List Value}(ho:o.op=.alloc ty)(hz:jI P ty=some zs):dX P nt o (qK zs):=by
 intro x t m v m' h
 unfold qK at h
 cases h
 refine⟨zs,rfl,λx2 m2 hm=>by unfold qK;rw[hm],λφ w a hr=>?_⟩
 obtain⟨z,h1,h2,h3⟩:=jv hz w
 refine⟨w.drawn,z.cells,ty,(0,0),.pointer (some ⟨w.heap.size,0,none⟩),?_,noFz,?_,λφ' hp hm=>?_⟩
 .simp[execOp,ho,Instr.alloc,h1,newVar,Go.newRow,dP]
 .rw[<-h2,List.take_length]
  exact zl h3
 .exact .ptr m.n 0 _ hm
theorem ok_box {ty:TypeId}{y:Operand}{f:V}(ho:o.op=.box ty y)(hf:qH nt y=some f):dX P nt o (kE f):=by
 intro x t m v m' h
 unfold kE at h
 obtain⟨l,hl,h⟩:=qa h
 cases h
 refine⟨l,rfl,λx2 m2 hm=>by unfold kE;rw[hl];show some _=_;rw[hm],λφ w a hr=>?_⟩
 have h1:=fN hl (qi hf hr (by simp[ho,Op.operands]))
 refine⟨w.drawn,(a.eval y).cells,ty,(0,0),.pointer (some ⟨w.heap.size,0,none⟩),?_,noFz,?_,λφ' hp hm=>?_⟩
 .simp[execOp,ho,Instr.box,newVar,Go.newRow,dP]
 .rw[h1.length,List.take_length]
  exact h1
 .exact .ptr m.n 0 _ hm
theorem xr (zs:List Value):∀k,(rep k zs).length=k*zs.length
 | 0=>by simp[rep]
 | k+1=>by rw[rep,qgx,xr zs k,Nat.add_mul];omega
theorem FH (zs:List Value):∀(k i:Nat),i<k*zs.length->(rep k zs)[i]?=zs[i%zs.length]?
 | 0,i,h=>by simp at h
 | k+1,i,h=>by
  rw[rep]
  by_cases hi:i<zs.length
  .rw[qh2 hi,Nat.mod_eq_of_lt hi]
  .have:i-zs.length<k*zs.length:=by rw[Nat.add_mul]at h;omega
   rw[qh3 (by omega),FH zs k _ this]
   congr 1
   exact (Nat.mod_eq_sub_mod (by omega)).symm
theorem fh (z:Array Value)(k:Nat):((Array.range (k*z.size)).map (λi=>z[i%z.size]!)).toList=rep k z.toList:=by
 apply List.ext_getElem?
 intro i
 by_cases hi:i<k*z.size
 .rw[FH _ _ _ (by simpa using hi)]
  have hz:0<z.size:=by
   rcases Nat.eq_zero_or_pos z.size with e | e
   .rw[e]at hi;omega
   .exact e
  have hm:i%z.size<z.size:=Nat.mod_lt _ hz
  simp[hi,hm]
 .rw[qha (by simp;omega),qha (by rw[xr];simp;omega)]
theorem bC {φ:Phi}{zs zs':List Value}(h:VRels φ zs zs'):∀k,VRels φ (rep k zs) (rep k zs')
 | 0=>.nil
 | k+1=>h.append (bC h k)
theorem Yq (f:Nat->Value):(Array.range 0).map f=#[]:=by simp
theorem Ba {ty e:TypeId}{len n:Nat}{ps:Array (Nat × Operand)}{zs:List Value}{qs:List (Nat × Nat × V)}(ho:o.op=.buildSlice ty len ps)(hu:P.underlying ty=some (.slice e))(hn:wV P e=some n)(hz:jI P e=some zs)
  (hc:(decide (len*n<=65536)&&n != 0&&zs.length==n)=true) (hq:vx nt n ps.toList=some qs):dX P nt o (qX n len (rep len zs) qs):=by
 intro x t m v m' h
 unfold qX at h
 obtain⟨l,hl,h⟩:=qa h
 cases h
 refine⟨l,rfl,λx2 m2 hm=>by unfold qX;rw[hl];show some _=_;rw[hm],λφ w a hr=>?_⟩
 simp only[qgt,decide_eq_true_eq,bne_iff_ne,beq_iff_eq]at hc
 obtain⟨⟨c1,c2⟩,c3⟩:=hc
 obtain⟨z,hz1,hz2,hz3⟩:=jv hz w
 have hzn:z.cells.size=n:=by rw[<-c3,<-hz2];simp
 obtain⟨h1,h2⟩:=vz hq
 have hz0:VRels φ zs z.cells.toList:=by have:=zl (φ:=φ) hz3;rw[hz2]at this;rw[hz2];exact this
 obtain⟨cs',h3,h4⟩:=gQ hr (λi=>some (i*n,n)) ps.toList qs (rep len zs) l ((Array.range (len*n)).map (λi=>z.cells[i%z.cells.size]!)) hl (by
   have:=fh z.cells len
   rw[hzn]at this
   rw[hzn,this];exact bC hz0 len) h1 (λj p q hp hq=>by
  obtain⟨⟨he,hn'⟩,hc⟩:=h2 j p q hp hq
  refine⟨by rw[he,hn'],hc,?_⟩
  simp only[ho,Op.operands]
  simp
  have:=qgo hp
  exact⟨p.1,by simpa using this⟩)
 have hlen:l.length=len*n:=by
  have:∀(qs:List (Nat × Nat × V)) (zs l:List Value),Wd qs t zs=some l->l.length=zs.length:=by
   intro qs
   induction qs with
   | nil=>intro zs l h;cases h;rfl
   | cons q qs ih =>
    intro zs l h
    obtain⟨off,k,f⟩:=q
    rw[Wd]at h
    obtain⟨c,hc,h⟩:=qa h
    cases hb:(Nat.beq c.length k&&Nat.ble (off+k) zs.length) with
    | false=>rw[hb]at h;cases h
    | true =>
     rw[hb]at h
     simp only[qgt]at hb
     have e1:=qh0 hb.1
     have e2:=qgw hb.2
     rw[ih _ _ h]
     simp;omega
  rw[this _ _ _ hl,xr,c3]
 have hsz:cs'.size=len*n:=by rw[<-hlen,h4.length];simp
 refine⟨w.drawn,cs',e,(0,0),.slice (some ⟨w.heap.size,0,none⟩) len len,?_,noFz,?_,λφ' hp hm=>?_⟩
 .have hps:(ps.map λx=>(x.1,a.eval x.2)).toList=ps.toList.map λp=>(p.1,a.eval p.2):=by simp
  simp only[execOp,ho,Instr.buildSlice,Sem.run_bind,run_underlying hu,Result.andThen_ok,wB hn]
  rw[if_neg (by omega)]
  by_cases e0:len*n=0
  .rw[e0]at h3
   simp only[e0,if_true,Sem.run_bind,Sem.run_pure,Result.andThen_ok]
   rw[hps]
   rw[Yq]at h3
   simp only[Yq]
   rw[h3]
   simp[Go.newRow,dP]
  .rw[if_neg e0]
   simp only[Sem.run_bind,hz1,Sem.run_pure,Result.andThen_ok]
   rw[hps,h3]
   simp[Go.newRow,dP]
 .rw[h4.length,List.take_length]
  exact h4
 .have:=VRel.sl (φ:=φ') m.n 0 (code n true) len len len ⟨w.heap.size,0,cs'.size⟩ hm (qgq _) (qgq _) (λ_=>rfl) (by rw[jy,hsz];simp)
  simpa using this
theorem qfi (l:List UInt8):(l.map λb=>Value.int .u8 b.toNat)=l.map xy:=rfl
theorem ok_s2b {ty dst e:TypeId}{y:Operand}{f:V}(ho:o.op=.convert ty dst y)(hs:P.underlying ty=some .string)(hd:P.underlying dst=some (.slice e))(he:P.underlying e=some (.int .u8))(hf:qH nt y=some f):dX P nt o (mS2b f):=by
 intro x t m v m' h
 unfold mS2b at h
 obtain⟨s,hs',h⟩:=qa h
 cases hb:Nat.ble s.length most with
 | false=>rw[hb]at h;cases h
 | true =>
  rw[hb]at h
  cases h
  have hle:=qgw hb
  refine⟨s.map xy,rfl,λx2 m2 hm=>by unfold mS2b;rw[hs'];show (bif Nat.ble s.length most then some (_,_) else none)=_;rw[hb,hm];rfl,λφ w a hr=>?_⟩
  have h1:=qi hf hr (x:=y) (by simp[ho,Op.operands])
  rw[zt hs']at h1
  unfold mkS at h1
  have h2:=h1.string_inv
  have hcap:s.length<=grownCap w s.length 0 e:=grownCap_ge w _ _ _
  have hsz:(⟨⟨s⟩⟩:ByteArray).size=s.length:=rfl
  let cs:Array Value:=(⟨s.map xy⟩:Array Value)++Array.replicate (grownCap w s.length 0 e-s.length) (.int .u8 0)
  have hcs:cs.size=grownCap w s.length 0 e:=by simp[cs];omega
  refine⟨w.drawn+1,cs,e,(cs.size,cs.size+1),.slice (some ⟨w.heap.size,0,none⟩) s.length (grownCap w s.length 0 e),?_,Or.inr (qgq _),?_,λφ' hp hm=>?_⟩
  .have hmap:((⟨⟨s⟩⟩:ByteArray).data.map λb=>Value.int .u8 b.toNat)=⟨s.map xy⟩:=by
    apply Array.ext'
    simp[qfi]
   have hch:(choose (.appendCap s.length 0 e)).run P w=.ok (grownCap w s.length 0 e) w.drew:=by
    rw[run_choose_drew,if_neg (by simp[Question.forced])]
    rfl
   have hw:(w.drew.alloc (.cells cs e)).shape? w.heap.size=some (e,cs.size):=by
    have:(w.drew.alloc (.cells cs e)).heap[w.heap.size]?=some (.cells cs e):=kC w.drew _
    unfold World.shape?
    rw[this]
   have hfr:((w.drew.alloc (.cells cs e)).freeze ⟨w.heap.size,cs.size,none⟩ 1)=(World.to w (w.drawn+1)).alloc (.cells cs e (cs.size,cs.size+1)):=by
    unfold World.freeze
    rw[if_neg (by omega)]
    show World.mk _ _ _ _ _=World.mk _ _ _ _ _
    congr 1
    apply Array.ext_getElem?
    intro i
    rw[Array.getElem?_modify]
    show _=(w.heap.push (.cells cs e (cs.size,cs.size+1)))[i]?
    have hp:(w.drew.alloc (.cells cs e)).heap=w.heap.push (.cells cs e):=rfl
    rw[hp]
    by_cases ei:w.heap.size=i
    .subst ei;simp
    .simp only[ei,if_false]
     by_cases hl:i<w.heap.size
     .rw[Array.getElem?_push_lt hl,Array.getElem?_push_lt hl]
     .rw[Array.getElem?_eq_none (by simp;omega),Array.getElem?_eq_none (by simp;omega)]
   simp only[execOp,ho,convert,Sem.run_bind,run_underlying hs,run_underlying hd,Result.andThen_ok,h2,run_underlying he,Conv.stringToBytes,hsz,hch,hmap,Go.newRow,run_newObj_alloc,Sem.run_pure,markStringish,run_shape]
   have hd':w.drew.heap.size=w.heap.size:=rfl
   simp only[hd']
   rw[hw]
   simp only[Sem.run_bind,run_freeze,Result.andThen_ok,Sem.run_pure]
   rw[hfr]
  .rw[List.length_map]
   have:cs.toList.take s.length=s.map xy:=by simp[cs]
   rw[this]
   exact dp (by simp[xy,Wg])
  .have:=VRel.sl (φ:=φ') m.n 0 (code 1 false) s.length s.length (grownCap w s.length 0 e) ⟨w.heap.size,0,cs.size⟩ hm (qgq _) hcap (λh=>by rw[vh]at h;cases h) (by rw[jy,hcs];simp)
   simpa using this
theorem Zv {φ:Phi}{v v':Value}{n:Nat}(h:xW v=some n)(hr:VRel φ v v'):∃k,v'=.int k (n:Int):=by
 obtain⟨k,rfl⟩:=Za h
 exact⟨k,hr.int_inv⟩
theorem Yh {ty e:TypeId}{i:TypeInfo}{zs:List Value}{x y:Operand}{f g:V}(ho:o.op=.makeSlice ty x y)(hu:P.underlying ty=some (.slice e))(hi:P.info? e=some i)(hsz:i.size≠0)(hz:jI P e=some zs)(hzl:zs.length=i.size)
  (hf:qH nt x=some f) (hg:qH nt y=some g):dX P nt o (kH i.size i.bytes zs f g):=by
 intro x0 t m v m' h
 unfold kH at h
 obtain⟨l,hl,h⟩:=qa h
 obtain⟨c,hc,h⟩:=qa h
 cases hb:(Nat.ble l c&&Nat.ble (c*i.bytes) most&&Nat.ble c 4611686018427387904&&Nat.ble (c*i.size) 1048576) with
 | false=>rw[hb]at h;cases h
 | true =>
  rw[hb]at h
  cases h
  refine⟨rep c zs,rfl,λx2 m2 hm=>by unfold kH;rw[hl,hc];show (bif _ then some (_,_) else none)=_;rw[hb,hm];rfl,λφ w a hr=>?_⟩
  simp only[qgt]at hb
  obtain⟨⟨⟨b1,b2⟩,b3⟩,b4⟩:=hb
  have b1:=qgw b1
  have b2:=qgw b2
  have b3:=qgw b3
  have b4:=qgw b4
  unfold most at b2
  obtain⟨k1,e1⟩:=Zv hl (qi hf hr (x:=x) (by simp[ho,Op.operands]))
  obtain⟨k2,e2⟩:=Zv hc (qi hg hr (x:=y) (by simp[ho,Op.operands]))
  obtain⟨z,hz1,hz2,hz3⟩:=jv hz w
  have hzn:z.cells.size=i.size:=by rw[<-hzl,<-hz2];simp
  have wl:IntKind.i64.wrap (l:Int)=(l:Int):=IntWalk.i64_in _ ⟨by omega,by omega⟩
  have wc:IntKind.i64.wrap (c:Int)=(c:Int):=IntWalk.i64_in _ ⟨by omega,by omega⟩
  have hbi:(i.bytes:Int)*(c:Int)<=140737488355328:=by
   have:i.bytes*c<=140737488355328:=by rw[Nat.mul_comm];exact b2
   have:=Int.ofNat_le.2 this
   rw[Int.natCast_mul]at this
   exact this
  have hrep:((Array.range (c*i.size)).map (λj=>z.cells[j%z.cells.size]!)).toList=rep c zs:=by
   have:=fh z.cells c
   rw[hzn]at this
   rw[hzn,this,hz2]
  refine⟨w.drawn,(Array.range (c*i.size)).map (λj=>z.cells[j%z.cells.size]!),e,(0,0),.slice (some ⟨w.heap.size,0,none⟩) l c,?_,noFz,?_,λφ' hp hm=>?_⟩
  .have hti:(typeInfo e).run P w=.ok i w:=by simp[typeInfo,hi]
   have hso:(sizeOf e).run P w=.ok i.size w:=by simp[sizeOf,typeInfo,hi]
   have ha1:(asInt (a.eval x)).run P w=.ok (l:Int) w:=by rw[e1];rfl
   have ha2:(asInt (a.eval y)).run P w=.ok (c:Int) w:=by rw[e2];rfl
   simp only[execOp,ho]
   unfold Instr.makeSlice
   simp only[Sem.run_bind,run_underlying hu,Result.andThen_ok,ha1,ha2,hti]
   rw[wl,wc]
   rw[if_neg (by
    simp only[Bool.or_eq_true,decide_eq_true_eq,not_or,gt_iff_lt,Int.not_lt]
    exact⟨⟨⟨by omega,Int.le_trans hbi (by decide)⟩,by omega⟩,by omega⟩)]
   simp only[Sem.run_bind,run_askRoom,Result.andThen_ok,qh1,hso]
   by_cases e0:c*i.size=0
   .rw[if_pos e0]
    simp only[Sem.run_bind,Sem.run_pure,Result.andThen_ok,e0,Yq]
    simp[Go.newRow,dP]
   .rw[if_neg e0]
    simp only[Sem.run_bind,hz1,Sem.run_pure,Result.andThen_ok]
    simp[Go.newRow,dP]
  .rw[hrep,xr,hzl]
   rw[List.take_of_length_le (Nat.le_of_eq (by rw[xr,hzl]))]
   have:=zl (φ:=φ) hz3
   rw[hz2]at this
   exact bC this c
  .have:=VRel.sl (φ:=φ') m.n 0 (code i.size true) l c c ⟨w.heap.size,0,((Array.range (c*i.size)).map (λj=>z.cells[j%z.cells.size]!)).size⟩ hm b1 (qgq _) (λ_=>rfl) (by rw[jy];simp)
   simpa using this
end
end Go.Dx
namespace Go.Dx
open Go.RowKit
def bK (P:Program)(nt:Nat)(o:Oper)(f:MO)(rd:Tm->Option Nat):Prop :=
 ∀x t m v m',f x t m=some (v,m')->m'=m/\∃B,rd t=some B/\(∀x2 m2,m2.obj B=m.obj B->f x2 t m2=some (v,m2)) /\
  ∀φ w a,OpR φ nt t a o.op.operands.toList->(∀l ob,φ B=some l->m.obj B=some ob->ObjRel φ w ob l)->∃v',(execOp a.eval o).run P w=.ok (.value v') w/\VRel φ v v'
theorem xQ {m m2:M}{B:Nat}(h:m2.obj B=m.obj B):cellsOf m2 B=cellsOf m B:=by unfold cellsOf;rw[h]
theorem bu {a:Addr}{o' d:Nat}(h:a=⟨a.block,o'+d,none⟩):a.off=o'+d:=congrArg Addr.off h
section
variable {P:Program}{nt:Nat}{o:Oper}
theorem qbj {ty:TypeId}{d:TypeDesc}{y:Operand}{f:V}(ho:o.op=.load ty y)(hu:P.underlying ty=some d)(hd:kA d=false)(hf:qH nt y=some f) :
  bK P nt o (fY f) (λt=>ob (jj (f t)) λa=>some a.block):=by
 intro x t m v m' h
 unfold fY at h
 obtain⟨a0,ha,h⟩:=qa h
 obtain⟨u,hu',h⟩:=qa h
 cases h
 refine⟨rfl,a0.block,by show ob (jj (f t)) _=_;rw[ha];rfl,λx2 m2 h2=>?_,λφ w a hr hobj=>?_⟩
 .unfold fY load1
  unfold load1 at hu'
  rw[ha];show ob (ob (cellsOf m2 a0.block) _) _=_
  rw[xQ h2,hu'];rfl
 .have h1:=qi hf hr (x:=y) (by simp[ho,Op.operands])
  rw[zQ ha]at h1
  obtain⟨o',l,hl,he,hv⟩:=h1.ptr_inv
  unfold load1 at hu'
  obtain⟨c,hc,hu'⟩:=qa hu'
  have hrel:=hobj l _ hl (wa hc)
  rw[bu he]at hu'
  obtain⟨v',h3,h4⟩:=Xa (P:=P) hrel hu'
  refine⟨v',?_,h4⟩
  simp only[execOp,ho,hv,Instr.loadAt,Instr.sureAddr,loadVar,Sem.run_bind,Sem.run_pure,Result.andThen_ok,ju hu,hd,Bool.false_eq_true,if_false,h3]
theorem qbk {ty:TypeId}{d:TypeDesc}{n:Nat}{y:Operand}{f:V}(ho:o.op=.load ty y)(hu:P.underlying ty=some d)(hd:kA d=true)(hn:wV P ty=some n)(hf:qH nt y=some f) :
  bK P nt o (fZ n f) (λt=>ob (jj (f t)) λa=>some a.block):=by
 intro x t m v m' h
 unfold fZ at h
 obtain⟨a0,ha,h⟩:=qa h
 obtain⟨u,hu',h⟩:=qa h
 cases h
 refine⟨rfl,a0.block,by show ob (jj (f t)) _=_;rw[ha];rfl,λx2 m2 h2=>?_,λφ w a hr hobj=>?_⟩
 .unfold fZ loads
  unfold loads at hu'
  rw[ha];show ob (ob (cellsOf m2 a0.block) _) _=_
  rw[xQ h2,hu'];rfl
 .have h1:=qi hf hr (x:=y) (by simp[ho,Op.operands])
  rw[zQ ha]at h1
  obtain⟨o',l,hl,he,hv⟩:=h1.ptr_inv
  unfold loads at hu'
  obtain⟨c,hc,hu'⟩:=qa hu'
  have hrel:=hobj l _ hl (wa hc)
  rw[bu he]at hu'
  obtain⟨v',h3,h4⟩:=dy (P:=P) hrel hu'
  refine⟨.agg v',?_,.agg _ _ h4⟩
  simp only[execOp,ho,hv,Instr.loadAt,Instr.sureAddr,loadVar,Sem.run_bind,Sem.run_pure,Result.andThen_ok,ju hu,hd,if_true,wB hn,h3]
theorem GZ {ty e:TypeId}{y:Operand}{lo hi mx:Option Operand}{n esz:Nat}{f:V}{lo' hi' mx':Option V}(ho:o.op=.slice ty y lo hi mx)(hu:P.underlying ty=some (.array n e))(hn:wV P e=some esz)
  (hf:qH nt y=some f) (hlo:fA nt lo=some lo') (hhi:fA nt hi=some hi') (hmx:fA nt mx=some mx') :
  bK P nt o (QA n esz f lo' hi' mx') (λt=>ob (jj (f t)) λa=>some a.block):=by
 intro x t m v m' h
 unfold QA at h
 obtain⟨a0,ha,h⟩:=qa h
 obtain⟨⟨l,hh,mm⟩,hb,h⟩:=qa h
 cases hz:Nat.beq (n*esz) 0 with
 | true=>rw[hz]at h;cases h
 | false =>
  rw[hz]at h
  obtain⟨u,hu',h⟩:=qa h
  cases h
  refine⟨rfl,a0.block,by show ob (jj (f t)) _=_;rw[ha];rfl,λx2 m2 h2=>?_,λφ w a hr hobj=>?_⟩
  .unfold QA
   rw[ha]
   show ob (bounds t n n lo' hi' mx') _=_
   rw[hb]
   show (bif Nat.beq (n*esz) 0 then none else ob (load1 m2 _) _)=_
   rw[hz]
   unfold load1 at hu' ⊢
   rw[xQ h2]
   show ob (ob (cellsOf m a0.block) _) _=_
   rw[hu'];rfl
  .obtain⟨hx,hall⟩:=dR ho
   have h1:=qi hf hr hx
   rw[zQ ha]at h1
   obtain⟨o',L,hl,he,hv⟩:=h1.ptr_inv
   unfold load1 at hu'
   obtain⟨c,hc,hu'⟩:=qa hu'
   have hrel:=hobj L _ hl (wa hc)
   obtain⟨q1,q2,q3,q5,q6,q4⟩:=xd (P:=P) hr hlo hhi hmx hall hb (qgq _) (qgq _) false w
   have hoff:=bu he
   have hne:n*esz≠0:=λe0=>by rw[e0]at hz;cases hz
   have hlen:o'+n*esz<=L.n:=by
    obtain⟨cs,e0,fz,_,k2,_,k4⟩:=hrel
    simp only at hu'
    obtain⟨k5,v',k6,_⟩:=k4 _ _ hu'
    have:=(qgr.1 k6).1
    omega
   have hmm':(if mx.isSome=true then mm else n)=mm:=by
    split
    .rfl
    .rename_i hns
     have:mx=none:=by simpa using hns
     exact (q6 this).symm
   rw[hmm']at q4
   have hrun:(execOp a.eval o).run P w=.ok (.value (.slice (some (if mm=l then ⟨L.b,o',none⟩ else Addr.add ⟨L.b,o',none⟩ (l*esz))) (hh-l) (mm-l))) w:=by
    simp only[execOp,ho,hv,Instr.sliceAt,Sem.run_bind,run_underlying hu,Result.andThen_ok,Instr.sureAddr,Sem.run_pure,q4,wB hn]
   refine⟨_,hrun,?_⟩
   by_cases hml:mm=l
   .subst hml
    have:hh=mm:=by omega
    subst this
    rw[if_pos rfl]
    simp only[Nat.sub_self]
    unfold slA
    exact .slE _ _ _ _ L hl
   .rw[if_neg hml]
    unfold slA
    have:(true&&Nat.beq mm l)=false:=by
     cases e0:Nat.beq mm l with
     | false=>rfl
     | true=>exact absurd (qh0 e0) hml
    simp only[this,cond_false,Addr.add_eq]
    rw[hoff,show o'+L.d+l*esz=o'+l*esz+L.d by omega]
    refine .sl _ _ _ _ _ _ L hl (by omega) (qgq _) (λ_=>rfl) ?_
    rw[jy]
    have h3:(mm-l)*esz+l*esz=mm*esz:=by rw[<-Nat.add_mul];congr 1;omega
    have h4:mm*esz<=n*esz:=qh8 _ q3
    omega
end
def jJ (P:Program)(nt:Nat)(o:Oper)(f:MO):Prop :=
 ∀x t m v m',f x t m=some (v,m')->∀φ w a,R φ m w->OpR φ nt t a o.op.operands.toList->Free φ m.n m'.n ->
  ∃φ' w' nx v',(execOp a.eval o).run P w=.ok nx w'/\(nx=.value v'\/nx=.skip/\v'=undef)/\R φ' m' w'/\Step φ m w φ' m' w'/\VRel φ' v v'
theorem R.lt {φ:Phi}{m:M}{w:World}(h:R φ m w){B:Nat}{o:zV}(hb:m.obj B=some o):B<m.n:=by
 rcases Nat.lt_or_ge B m.n with h1 | h1
 .exact h1
 .rw[h.wf B h1]at hb;cases hb
theorem xc (φ:Phi):VRel φ undef undef:=xh (v:=undef) rfl
section
variable {P:Program}{nt:Nat}{o:Oper}
theorem qbn {ty:TypeId}{y z:Operand}{n:Nat}{f g:V}(ho:o.op=.store ty y z)(hn:wV P ty=some n)(hf:qH nt y=some f)(hg:qH nt z=some g):jJ P nt o (wR n f g):=by
 intro x t m v m' h φ w a hR hr hfree
 unfold wR at h
 obtain⟨a0,ha,h⟩:=qa h
 obtain⟨l,hl,h⟩:=qa h
 cases hb:Nat.beq l.length n with
 | false=>rw[hb]at h;cases h
 | true =>
  rw[hb]at h
  obtain⟨m1,hm,h⟩:=qa h
  cases h
  have hlen:=qh0 hb
  have h1:=qi hf hr (x:=y) (by simp[ho,Op.operands])
  have h2:=fN hl (qi hg hr (x:=z) (by simp[ho,Op.operands]))
  rw[zQ ha]at h1
  obtain⟨o',L,hL,he,hv⟩:=h1.ptr_inv
  have hB:l=[]\/a0.block<m.n:=by
   cases l with
   | nil=>exact .inl rfl
   | cons u l =>
    unfold wx at hm
    obtain⟨c,hc,_⟩:=qa hm
    exact .inr (hR.lt (wa hc))
  have hstore:∃w',(storeCells ⟨L.b,o',none⟩ (a.eval z).cells.toList).run P w=.ok () w'/\R φ m' w'/\Step φ m w φ m' w':=by
   rcases hB with rfl | hB
   .have:m'=m:=by unfold wx at hm;cases hm;rfl
    subst this
    have:(a.eval z).cells.toList=[]:=qh5 h2.length.symm
    rw[this]
    exact⟨w,by simp[storeCells],hR,Step.refl _ _ _⟩
   .exact hR.store hB hL h2 (by rw[he]at hm;exact hm)
  obtain⟨w',h3,h4,h5⟩:=hstore
  refine⟨φ,w',.skip,undef,?_,.inr ⟨rfl,rfl⟩,h4,h5,xc φ⟩
  have hs:¬((a.eval z).cells.size≠n):=by
   have:=h2.length
   simp at this
   omega
  simp only[execOp,ho,hv,Instr.storeAt,Instr.sureAddr,storeVar,Sem.run_bind,Sem.run_pure,Result.andThen_ok,wB hn,if_neg hs,h3]
theorem Fc {φ:Phi}{x x':Value}{n:Nat}(h:lenV x=some n)(hr:VRel φ x x')(w:World):(Builtin.lenOf x').run P w=.ok n w:=by
 unfold lenV at h
 split at h
 .cases h
  cases hr<;>rfl
 .cases h
  cases hr
  rfl
 .cases h
theorem Kk {φ:Phi}:∀l:List UInt8,VRels φ (l.map xy) (l.map xy)
 | []=>.nil
 | b::l=>.cons _ _ _ _ (.int _ _) (Kk l)
theorem xi {φ:Phi}{m:M}{w:World}(hR:R φ m w){esz n k:Nat}{x x':Value}{l:List Value}(hl:lenV x=some k)(hn:n<=k)(h:kl m esz n x=some l)(hr:VRel φ x x') :
  ∃cs,(Builtin.firstCells esz n x').run P w=.ok cs w/\VRels φ l cs.toList:=by
 unfold kl at h
 split at h
 .rename_i ad len cap
  cases hl
  cases hr with
  | slE B oo cd a' l0 hl0 =>
   have:n=0:=by omega
   subst this
   rw[Nat.zero_mul]at h
   have:l=[]:=by unfold loads at h;obtain⟨c,_,h⟩:=qa h;cases h;rfl
   subst this
   exact⟨#[],by simp[Builtin.firstCells,loadCells,loadCellsFrom],.nil⟩
  | sl B oo cd _ _ cap' L hL e1 e2 e3 e4 =>
   unfold loads at h
   obtain⟨c,hc,h⟩:=qa h
   have hobj:=wa hc
   simp only at hobj h
   obtain⟨ob',h5,h6⟩:=hR.obj B L (hR.lt hobj) hL
   rw[hobj]at h5;cases h5
   obtain⟨vs,h7,h8⟩:=dy (P:=P) h6 h
   exact⟨vs,by simp only[Builtin.firstCells];exact h7,h8⟩
 .cases h
  cases hr
  exact⟨#[],by simp[Builtin.firstCells],.nil⟩
 .rename_i s
  cases he:Nat.beq esz 1 with
  | false=>rw[he]at h;cases h
  | true =>
  rw[he]at h
  cases h
  cases hr
  refine⟨_,rfl,?_⟩
  have hd:s=⟨⟨s.data.toList⟩⟩:=by cases s;rfl
  have:(((s.extract 0 n).data.map λb=>Value.int .u8 b.toNat):Array Value).toList=(s.data.toList.take n).map xy:=by
   rw[hd,extract_data]
   show (((s.data.toList.drop 0).take (n-0)).toArray.map _).toList=_
   rw[List.map_toArray]
   show List.map xy _=_
   simp
  rw[this]
  exact Kk _
 .cases h
theorem xS {m:M}{esz n k:Nat}{x:Value}{l:List Value}(hl:lenV x=some k)(hn:n<=k)(h:kl m esz n x=some l)(hs:(∃a len cap,x=.slice (some a) len cap)\/(∃s,x=.string s)\/n=0):l.length=n*esz:=by
 unfold kl at h
 split at h
 .unfold loads at h
  obtain⟨c,_,h⟩:=qa h
  exact (Qy h).1
 .cases h
  rcases hs with ⟨a,len,cap,e⟩ | ⟨s,e⟩ | rfl
  .cases e
  .cases e
  .simp
 .rename_i s
  cases he:Nat.beq esz 1 with
  | false=>rw[he]at h;cases h
  | true =>
   rw[he]at h
   cases h
   cases hl
   have:=qh0 he
   subst this
   rw[List.length_map,List.length_take,Nat.mul_one];omega
 .cases h
end
end Go.Dx
namespace Go.Dx
open Go.RowKit
theorem Dj {c:C}(h:alive c=true):c≠.lf:=by intro e;subst e;cases h
theorem R.notDead {m:M}{B:Nat}{c:C}(hc:m.obj B=some (.cells c))(ha:alive c=true):¬dead m B:=by
 intro hd
 unfold dead at hd
 rw[hc]at hd
 exact Dj ha (by cases hd;rfl)
theorem R.kill {φ:Phi}{m:M}{w:World}(h:R φ m w){B:Nat}{c:C}(hc:m.obj B=some (.cells c))(ha:alive c=true){l0:Loc}(hl0:φ B=some l0) :
  R φ (m.put B (.cells .lf)) w/\Step φ m w φ (m.put B (.cells .lf)) w:=by
 have hB:=h.lt hc
 have hd:=R.notDead hc ha
 have hds:=DStep.put m (.cells .lf) B hd (by rw[hc];rfl)
 refine⟨⟨λX hX=>by rw[M.n_put]at hX;rw[M.obj_put,if_neg (by omega)];exact h.wf X hX,λX lx hX hlx=>?_,λB₁ B₂ l₁ l₂ h1 h2 hl1 hl2 he hne=>?_⟩,⟨hds,PLe.refl φ,λ_ _=>rfl,λX lx h1 h2 _=>?_,λX _ h1 h2=>(fJ m (.cells .lf) B X h1).elim (λe=>by subst e;exact⟨l0,hl0⟩) (λe=>absurd e h2),rfl,rfl,rfl,qgq _,λ_ _ _=>rfl⟩⟩
 .rw[M.n_put]at hX
  rw[M.obj_put]
  by_cases e:X=B
  .subst e
   rw[if_pos rfl]
   obtain⟨x,hx,hr⟩:=h.obj X lx hX hlx
   rw[hc]at hx;cases hx
   obtain⟨cs,e,fz,h1,h2,h3,_⟩:=hr
   exact⟨_,rfl,cs,e,fz,h1,h2,FzC.lf,λi v hi=>by rw[A.get_lf]at hi;cases hi⟩
  .rw[if_neg e]
   exact h.obj X lx hX hlx
 .rw[M.n_put]at h1 h2
  exact (h.inj B₁ B₂ l₁ l₂ h1 h2 hl1 hl2 he hne).imp (hds.dead B₁ h1) (hds.dead B₂ h2)
 .rw[M.n_put]at h2;omega
theorem R.over {φ:Phi}{m:M}{w:World}(h:R φ m w){B:Nat}{l:Loc}{c:C}(hl:φ B=some l)(hc:m.obj B=some (.cells c))(ha:alive c=true)(hf:φ m.n=none){w':World}
  {cs:Array Value} {e:TypeId} {fz:Nat × Nat} (hw:∀X,w'.heap[X]?=if X=l.b then some (.cells cs e fz) else w.heap[X]?) (hsz:w'.heap.size=w.heap.size) (hos:w'.os=w.os) (htp:w'.tape=w.tape) (hout:w'.output=w.output)
  (hcs:cs.size=l.n) (hfz:FzOK cs.size fz) {c2:C} (h2:∀i v,A.get none i c2=some v->l.d<=i/\∃v',cs[i-l.d]?=some v'/\VRel φ v v') :
  R (PSet φ m.n l) ((m.put B (.cells .lf)).alloc (.cells c2)) w'/\Step φ m w (PSet φ m.n l) ((m.put B (.cells .lf)).alloc (.cells c2)) w':=by
 have hB:=h.lt hc
 have hd:=R.notDead hc ha
 have hle:PLe φ (PSet φ m.n l):=PSet.le hf
 have hold:∀X,X≠m.n->PSet φ m.n l X=φ X:=λX hX=>by unfold PSet;rw[if_neg hX]
 have hnew:PSet φ m.n l m.n=some l:=by unfold PSet;rw[if_pos rfl]
 have hds1:=DStep.put m (.cells .lf) B hd (by rw[hc];rfl)
 have hds:=hds1.trans (DStep.alloc (m.put B (.cells .lf)) (.cells c2))
 have hn:((m.put B (.cells .lf)).alloc (.cells c2)).n=m.n+1:=by rw[M.n_alloc,M.n_put]
 have hobj:∀X,((m.put B (.cells .lf)).alloc (.cells c2)).obj X=if X=m.n then some (.cells c2) else if X=B then some (.cells .lf) else m.obj X:=by
  intro X;rw[M.obj_alloc,M.n_put,M.obj_put]
 obtain⟨x0,hx0,hr0⟩:=h.obj B l hB hl
 rw[hc]at hx0;cases hx0
 obtain⟨cs0,e0,fz0,k1,k2,_,_⟩:=hr0
 refine⟨⟨λX hX=>by rw[hn]at hX;rw[hobj,if_neg (by omega),if_neg (by omega)];exact h.wf X (by omega),λX lx hX hlx=>?_,λB₁ B₂ l₁ l₂ h1 h2' hl1 hl2 he hne=>?_⟩,⟨hds,hle,λX hX=>hold X (by rw[hn]at hX;omega),λX lx h1 h2' hlx=>?_,λX _ h1 h2'=>(fJ m (.cells .lf) B X (QK _ _ _ h1)).elim (λe=>by subst e;exact⟨l,hl⟩) (λe=>absurd e h2'),hos,htp,hout,Nat.le_of_eq hsz.symm,λb hb hno=>?_⟩⟩
 .rw[hn]at hX
  rw[hobj]
  by_cases e1:X=m.n
  .subst e1
   rw[hnew]at hlx;cases hlx
   rw[if_pos rfl]
   exact⟨_,rfl,cs,e,fz,by rw[hw,if_pos rfl],hcs,FzC.of hfz h2,λi v hi=>let ⟨a,v',b,c⟩:=h2 i v hi;⟨a,v',b,c.mono hle⟩⟩
  .rw[if_neg e1]
   rw[hold X e1]at hlx
   by_cases e2:X=B
   .subst e2
    rw[hl]at hlx;cases hlx
    rw[if_pos rfl]
    exact⟨_,rfl,cs,e,fz,by rw[hw,if_pos rfl],hcs,FzC.lf,λi v hi=>by rw[A.get_lf]at hi;cases hi⟩
   .rw[if_neg e2]
    obtain⟨x,hx,hr⟩:=h.obj X lx (by omega) hlx
    by_cases eb:lx.b=l.b
    .rcases h.inj X B lx l (by omega) hB hlx hl eb e2 with hdx | hdx
     .have hxd:x=.cells .lf:=by unfold dead at hdx;rw[hdx]at hx;exact (Option.some.inj hx).symm
      subst hxd
      obtain⟨cs1,e3,f3,q1,q2,_,_⟩:=hr
      rw[eb,k1]at q1
      cases q1
      exact⟨_,hx,cs,e,fz,by rw[hw,if_pos eb],by rw[hcs,<-k2,q2],FzC.lf,λi v hi=>by rw[A.get_lf]at hi;cases hi⟩
     .exact absurd hdx hd
    .exact⟨x,hx,(hr.mono hle).world (by rw[hw,if_neg eb])⟩
 .rw[hn]at h1 h2'
  have other:∀X lx,X≠m.n->X<m.n+1->PSet φ m.n l X=some lx->lx.b=l.b->dead ((m.put B (.cells .lf)).alloc (.cells c2)) X:=by
   intro X lx hX hlt hlx hb
   rw[hold X hX]at hlx
   by_cases e2:X=B
   .subst e2
    unfold dead
    rw[hobj,if_neg hX,if_pos rfl]
   .rcases h.inj X B lx l (by omega) hB hlx hl hb e2 with hdx | hdx
    .exact hds.dead X (by omega) hdx
    .exact absurd hdx hd
  by_cases e1:B₁=m.n
  .subst e1
   rw[hnew]at hl1;cases hl1
   exact .inr (other B₂ l₂ (λe=>hne e.symm) h2' hl2 he.symm)
  .by_cases e2:B₂=m.n
   .subst e2
    rw[hnew]at hl2;cases hl2
    exact .inl (other B₁ l₁ e1 h1 hl1 he)
   .rw[hold B₁ e1]at hl1
    rw[hold B₂ e2]at hl2
    exact (h.inj B₁ B₂ l₁ l₂ (by omega) (by omega) hl1 hl2 he hne).imp (hds.dead B₁ (by omega)) (hds.dead B₂ (by omega))
 .rw[hn]at h2'
  obtain rfl:X=m.n:=by omega
  rw[hnew]at hlx;cases hlx
  exact .inr ⟨B,l,⟨hB,(Ze m (.cells .lf) B).mono (DStep.alloc _ _),hd⟩,hl,rfl⟩
 .rw[hw]
  split
  .rename_i eb
   exact absurd ⟨hB,(Ze m (.cells .lf) B).mono (DStep.alloc _ _),hd⟩ (hno B l hl eb.symm)
  .rfl
section
variable {P:Program}{nt:Nat}{o:Oper}
theorem YK:∀{l:List Value} {r:List UInt8},b2s l=some r->∃ns:List Int,l=ns.map (Value.int .u8)/\r=ns.map λn=>UInt8.ofNat n.toNat
 | [],r,h=>by cases h;exact⟨[],rfl,rfl⟩
 | v::l,r,h=>by
  unfold b2s at h
  split at h
  .rename_i e;cases e
  .rename_i n l' e
   cases e
   split at h
   .rename_i r' hr'
    cases h
    obtain⟨ns,h1,h2⟩:=YK hr'
    exact⟨n::ns,by rw[h1];rfl,by rw[h2];rfl⟩
   .cases h
  .cases h
theorem JW {φ:Phi}:∀{ns:List Int} {l:List Value},VRels φ (ns.map (Value.int .u8)) l->l=ns.map (Value.int .u8)
 | [],_,h=>by cases h;rfl
 | n::ns,_,h=>by
  cases h with
  | cons _ v' _ l' h1 h2=>rw[h1.int_inv,JW h2];rfl
theorem KF (w:World):∀(ns:List Int) (s:ByteArray),
  (forIn (m:=Sem) (ns.map (Value.int .u8)) s (λc s=>match c with
   | .int .u8 n=>(pure (ForInStep.yield (s.push (UInt8.ofNat n.toNat))):Sem (ForInStep ByteArray))
   | _ => do stuck "bytesToString: byte expected"; pure (ForInStep.yield s))).run P w = .ok ⟨⟨s.data.toList ++ ns.map fun n => UInt8.ofNat n.toNat⟩⟩ w
 | [],s=>by simp
 | n::ns,s=>by
  simp only[List.map_cons,List.forIn_cons,Sem.run_bind,Sem.run_pure,Result.andThen_ok]
  rw[KF w ns]
  simp[ByteArray.push]
theorem ok_b2s {ty dst e:TypeId}{y:Operand}{f:V}(ho:o.op=.convert ty dst y)(hs:P.underlying ty=some (.slice e))(hd:P.underlying dst=some .string)(he:P.underlying e=some (.int .u8))(hf:qH nt y=some f) :
  jJ P nt o (mB2s f):=by
 intro x t m v m' h φ w a hR hr hfree
 have h1:=qi hf hr (x:=y) (by simp[ho,Op.operands])
 have key:∀s,(Conv.bytesToString (a.eval y)).run P w=.ok (.string s) w->(∃b n c,a.eval y=.slice b n c)->(execOp a.eval o).run P w=.ok (.value (.string s)) w:=by
  intro s hrun ⟨b,n,c,hy⟩
  rw[hy]at hrun
  cases b<;>simp only[execOp,ho,convert,Sem.run_bind,run_underlying hs,run_underlying hd,Result.andThen_ok,hy,run_underlying he,hrun,Sem.run_pure]
 unfold mB2s b2sV at h
 split at h
 .rename_i n c hy
  cases h
  rw[hy]at h1
  generalize hye:a.eval y=u at h1
  cases h1
  exact⟨φ,w,_,.string .empty,key .empty (by rw[hye];rfl) ⟨_,_,_,hye⟩,.inl rfl,hR,Step.refl _ _ _,.string _⟩
 .rename_i ad n c hy
  obtain⟨l,hl,h⟩:=qa h
  obtain⟨r,hr',h⟩:=qa h
  cases h
  rw[hy]at h1
  obtain⟨ns,e1,e2⟩:=YK hr'
  have hfc:=xi (P:=P) hR (esz:=1) (n:=n) (k:=n) (x:=.slice (some ad) n c) (l:=l) rfl (qgq _) (by unfold kl;rw[Nat.mul_one];exact hl) h1
  obtain⟨cs,h2,h3⟩:=hfc
  rw[e1]at h3
  have h4:=JW h3
  obtain⟨b',c',hye⟩:∃b' c',a.eval y=.slice (some b') n c':=by
   generalize a.eval y=u at h1
   cases h1<;>exact⟨_,_,rfl⟩
  rw[hye]at h2
  simp only[Builtin.firstCells,Nat.mul_one]at h2
  refine⟨φ,w,_,.string ⟨⟨r⟩⟩,key ⟨⟨r⟩⟩ ?_ ⟨_,_,_,hye⟩,.inl rfl,hR,Step.refl _ _ _,.string _⟩
  rw[hye]
  simp only[Conv.bytesToString,Sem.run_bind,h2,Result.andThen_ok]
  rw[<-Array.forIn_toList,h4]
  have:=KF (P:=P) w ns ByteArray.empty
  rw[e2]
  exact (congrArg (λr=>Result.andThen r (λa w'=>Sem.run P (pure (Value.string a)) w')) this).trans rfl
 .cases h
theorem qeo {ty e':TypeId}{y:Operand}{f:V}(ho:o.op=.convert ty ty y)(hs:P.underlying ty=some (.slice e'))(he:P.underlying e'=some (.int .u8))(hf:qH nt y=some f) :
  jJ P nt o (Xe f):=by
 intro x t m v m' h φ w a hR hr hfree
 have h1:=qi hf hr (x:=y) (by simp[ho,Op.operands])
 unfold Xe qb3 at h
 split at h
 .rename_i ad n c hy
  obtain⟨cs,hc,h⟩:=qa h
  cases hb:(alive cs&&Nat.blt 0 c&&Nat.blt ad.off HI) with
  | false=>rw[hb]at h;cases h
  | true =>
   rw[hb]at h
   cases h
   simp only[qgt]at hb
   have hcpos:0<c:=by have:=hb.1.2;rw[Nat.blt_eq]at this;exact this
   rw[hy]at h1
   have hobj:=wa hc
   generalize hye:a.eval y=u at h1
   cases h1 with
   | slE=>omega
   | sl B oo cd _ _ cap' L hL e1 e2 e3 e4 =>
    simp only at hobj
    have hB:=hR.lt hobj
    have hd:=R.notDead hobj hb.1.1
    obtain⟨ob',h5,h6⟩:=hR.obj B L hB hL
    rw[hobj]at h5;cases h5
    obtain⟨cs0,e0,fz,k1,k2,k3',k4⟩:=h6
    have k3:FzOK cs0.size fz:=k3'.1 hb.1.1 (by have:=hb.2;rw[Nat.blt_eq]at this;simp only at this;omega)
    have hlt:L.b<w.heap.size:=(qgr.1 k1).1
    let fz':Nat × Nat:=if fz.1==fz.2 then (cs0.size,cs0.size+1) else (min fz.1 cs0.size,max fz.2 (cs0.size+1))
    have hfz':FzOK cs0.size fz':=by
     right
     show cs0.size<=(if fz.1==fz.2 then (cs0.size,cs0.size+1) else (min fz.1 cs0.size,max fz.2 (cs0.size+1))).1
     split
     .exact qgq _
     .rename_i hne
      rcases k3 with k3 | k3
      .simp[k3]at hne
      .show cs0.size<=min fz.1 cs0.size
       omega
    have hfreeze:w.freeze ⟨L.b,cs0.size,none⟩ 1=zN w L.b (.cells cs0 e0 fz'):=by
     unfold World.freeze
     rw[if_neg (by omega)]
     show World.mk _ _ _ _ _=World.mk _ _ _ _ _
     congr 1
     apply Array.ext_getElem?
     intro i
     rw[Array.getElem?_modify]
     by_cases ei:L.b=i
     .subst ei
      rw[if_pos rfl,k1]
      obtain⟨z1,z2⟩:=fz
      simp[hlt,fz']
     .rw[if_neg ei,Array.getElem?_setIfInBounds_ne ei]
    have hput:=hR.put (o:=.cells cs) (O:=.cells cs0 e0 fz') hB hL hd (by rw[hobj]) (QZ k1 rfl) (by
     refine⟨cs0,e0,fz',by rw[kJ _ hlt,if_pos rfl],k2,FzC.of hfz' k4,k4⟩)
    refine⟨φ,zN w L.b (.cells cs0 e0 fz'),_,.slice (some ⟨L.b,oo,none⟩) n cap',?_,.inl rfl,hput.1,hput.2,.sl B oo cd n c cap' L hL e1 e2 e3 e4⟩
    have hsh:w.shape? L.b=some (e0,cs0.size):=by unfold World.shape?;rw[k1]
    simp only[execOp,ho,convert,Sem.run_bind,run_underlying hs,Result.andThen_ok,hye,run_underlying he,beq_self_eq_true,markStringish,run_shape,hsh,run_freeze,hfreeze,Sem.run_pure]
 .cases h
theorem xv (z:Array Value)(n:Nat):(Builtin.zeroCells z n).size=n*z.size:=by simp[Builtin.zeroCells]
theorem jV {ts:Array TypeId}{ty t u e:TypeId}{du:TypeDesc}{i:TypeInfo}{b:Option Addr}{sl sc n:Nat}{x':Value}{cs:Array Value}{w w':World}(ht:ts[0]?=some t)(htu:ts[1]?=some u)(hu:P.underlying t=some (.slice e))(hdu:P.underlying u=some du)(hni:∀k,du≠.int k)
  (hi:P.info? e=some i) (hx:(Builtin.lenOf x').run P w=.ok n w) (hf:(Builtin.firstCells i.size n x').run P w=.ok cs w) (hroom:sl+n<=sc)
  (hst:∀a,b=some a->(storeCells (a.add (sl*i.size)) cs.toList).run P w=.ok () w') (hno:b=none->w'=w) :
  (Builtin.append_ ts ty #[.slice b sl sc,x']).run P w=.ok (.slice b (sl+n) sc) w':=by
 have hz:(match du with | .int _=>true | _=>false)=false:=by cases du<;>first | rfl | exact absurd rfl (hni _)
 have hso:(sizeOf e).run P w=.ok i.size w:=by simp[sizeOf,typeInfo,hi]
 cases b with
 | none =>
  have:=hno rfl
  subst this
  simp[Builtin.append_,ht,htu,run_underlying hu,run_underlying hdu,hso,hx,hf,hroom,hz]
 | some a =>
  have:=hst a rfl
  simp[Builtin.append_,ht,htu,run_underlying hu,run_underlying hdu,hso,hx,hf,hroom,hz,this]
theorem Je {ts:Array TypeId}{ty t u e:TypeId}{du:TypeDesc}{i:TypeInfo}{z:Value}{b:Option Addr}{sl sc n:Nat}{x':Value}{cs old:Array Value}{w:World}(ht:ts[0]?=some t)(htu:ts[1]?=some u)(hu:P.underlying t=some (.slice e))(hdu:P.underlying u=some du)(hni:∀k,du≠.int k)
  (hi:P.info? e=some i) (hz:i.zero=some z) (hx:(Builtin.lenOf x').run P w=.ok n w) (hf:(Builtin.firstCells i.size n x').run P w.drew=.ok cs w.drew) (ho:(Builtin.firstCells i.size sl (.slice b sl sc)).run P w.drew=.ok old w.drew)
  (hg:sc<sl+n) (h63:sl+n<=4611686018427387904) (hb:(sl+n)*i.bytes<=most) :
  (Builtin.append_ ts ty #[.slice b sl sc,x']).run P w=.ok (.slice (some ⟨w.heap.size,0,none⟩) (sl+n) (grownCap w (sl+n) sc e))
    (w.drew.alloc (.cells (old++cs++Builtin.zeroCells z.cells (grownCap w (sl+n) sc e-(sl+n))) e)):=by
 have hzz:(match du with | .int _=>true | _=>false)=false:=by cases du<;>first | rfl | exact absurd rfl (hni _)
 have hso:(sizeOf e).run P w=.ok i.size w:=by simp[sizeOf,typeInfo,hi]
 have hti:∀w,(typeInfo e).run P w=.ok i w:=by intro w;simp[typeInfo,hi]
 have hzv:∀w,(zeroValue e).run P w=.ok z w:=by intro w;simp[zeroValue,typeInfo,hi,hz]
 have hn:¬(sl+n<=sc):=by omega
 have hfit:=growslice_fits hg (by unfold most at hb;exact hb)
 have hfit':¬(281474976710656<Builtin.nextslicecap (sl+n) sc*i.bytes):=by omega
 have hmx:¬(((sl+n:Nat):Int)>IntKind.i64.max/\(false=true\/i.bytes=0)):=by
  rintro ⟨h1,_⟩
  have:IntKind.i64.max=9223372036854775807:=rfl
  rw[this]at h1
  omega
 have hch:(choose (.appendCap (sl+n) sc e)).run P w=.ok (grownCap w (sl+n) sc e) w.drew:=by
  rw[run_choose_drew,if_neg (by simp[Question.forced])]
  rfl
 have hmx2:¬(9223372036854775807<((sl:Int)+(n:Int))/\i.bytes=0):=by omega
 have hmax:IntKind.i64.max=9223372036854775807:=rfl
 have hfo:(Question.appendCap (sl+n) sc e).forced=false:=rfl
 simp[Builtin.append_,ht,htu,run_underlying hu,run_underlying hdu,hso,hti,hzv,hx,hf,ho,hn,hzz,hfit',hmx2,hmax,hfo,Go.newRow,Sem.run_bind,grownCap]
theorem Kh:∀{l:List Value},fE l=true->∀v∈l,okC v=true
 | [],_,v,h=>by cases h
 | u::l,h,v,hv=>by
  unfold fE at h
  simp only[qgt]at h
  rcases List.mem_cons.1 hv with rfl | hv
  .exact h.1
  .exact Kh h.2 v hv
theorem vH {φ:Phi}{x x':Value}{k:Nat}(hl:lenV x=some k)(hr:VRel φ x x'):(∃a len cap,x=.slice (some a) len cap)\/(∃s,x=.string s)\/k=0:=by
 unfold lenV at hl
 split at hl
 .cases hl
  cases hr
  .exact .inr (.inr rfl)
  .exact .inl ⟨_,_,_,rfl⟩
  .exact .inl ⟨_,_,_,rfl⟩
 .exact .inr (.inl ⟨_,rfl⟩)
 .cases hl
theorem GH {φ:Phi}{old new:List Value}{cs:Array Value}{off:Nat}(h:VRels φ (old++new) (cs.toList.take (old++new).length)){i:Nat}{v:Value}(hi:A.get none i (mkn .lf off (old++new))=some v) :
  off<=i/\∃v',cs[i-off]?=some v'/\VRel φ v v':=by
 rw[zZ,A.get_lf]at hi
 split at hi
 .rename_i hin
  obtain⟨v',hv',hr⟩:=h.get hi
  refine⟨hin.1,v',?_,hr⟩
  rw[List.getElem?_take]at hv'
  split at hv'
  .simpa using hv'
  .cases hv'
 .cases hi
theorem KN {c:Call}{ty tu e:TypeId}{du:TypeDesc}{i:TypeInfo}{z:Value}{y s:Operand}{f g:V}(ho:o.op=.call c)(hb:c.callee=.builtin .append)(ht:c.argTypes[0]?=some ty)(htu:c.argTypes[1]?=some tu)(ha:c.args.toList=[s,y])
  (hu:P.underlying ty=some (.slice e)) (hdu:P.underlying tu=some du) (hni:∀k,du≠.int k) (hi:P.info? e=some i) (hz:i.zero=some z) (hzs:z.cells.size=i.size) (hf:qH nt s=some f) (hg:qH nt y=some g) :
  jJ P nt o (wg i.size i.bytes f g):=by
 intro x t m v m' h φ w a hR hr hfree
 have h1:=qi hf hr (zk ho hb s (by simp[ha]))
 have h2:=qi hg hr (zk ho hb y (by simp[ha]))
 obtain⟨cs0,hrun⟩:=kT (P:=P) ho hb a.eval w
 have hargs:c.args.map a.eval=#[a.eval s,a.eval y]:=by rw[kX ha];simp
 rw[hargs]at hrun
 unfold wg wY at h
 split at h
 .rename_i base len cap hfs
  obtain⟨n,hn,h⟩:=qa h
  obtain⟨new,hnew,h⟩:=qa h
  rw[hfs]at h1
  have hlen:=Fc (P:=P) hn h2 w
  obtain⟨cn,hcn,hcr⟩:=xi (P:=P) hR hn (qgq _) hnew h2
  have hR':R φ m w.drew:=hR.heapEq rfl
  obtain⟨cn',hcn',hcr'⟩:=xi (P:=P) hR' hn (qgq _) hnew h2
  have hnl:new.length=n*i.size:=xS hn (qgq _) hnew (vH hn h2)
  unfold QP at h
  cases hroom:Nat.ble (len+n) cap with
  | true =>
   rw[hroom]at h
   simp only[cond_true]at h
   have hroom:=qgw hroom
   unfold qbs at h
   split at h
   .cases h
    generalize hse:a.eval s=u at h1
    cases h1
    have hn0:n=0:=by omega
    subst hn0
    refine⟨φ,w,.value (.slice none 0 0),.slice none 0 0,?_,.inl rfl,hR,Step.refl _ _ _,.slN⟩
    rw[hrun,hse]
    have:=jV (P:=P) (w:=w) (w':=w) (b:=none) (sl:=0) (sc:=0) (ty:=o.type) ht htu hu hdu hni hi hlen hcn (qgq _) (λa e=>by cases e) (λ_=>rfl)
    simp only[builtin,Sem.run_bind,this,Result.andThen_ok,Sem.run_pure]
   .rename_i ad
    obtain⟨m1,hm1,h⟩:=qa h
    cases h
    generalize hse:a.eval s=u at h1
    cases h1 with
    | slE B oo cd a' l0 hl0 =>
     have hn0:n=0:=by omega
     subst hn0
     have hnil:new=[]:=qh5 (by simpa using hnl)
     subst hnil
     have hm:m'=m:=by unfold wx at hm1;cases hm1;rfl
     subst hm
     have hcn0:cn.toList=[]:=qh5 hcr.length.symm
     refine⟨φ,w,.value (.slice (some a') 0 0),_,?_,.inl rfl,hR,Step.refl _ _ _,.slE _ _ _ _ l0 hl0⟩
     rw[hrun,hse]
     have:=jV (P:=P) (w:=w) (w':=w) (b:=some a') (sl:=0) (sc:=0) (ty:=o.type) ht htu hu hdu hni hi hlen hcn (qgq _) (λa _=>by rw[hcn0];simp[storeCells]) (λe=>by cases e)
     simp only[builtin,Sem.run_bind,this,Result.andThen_ok,Sem.run_pure]
    | sl B oo cd _ _ cap' L hL e1 e2 e3 e4 =>
     have hst:∃w',(storeCells ⟨L.b,oo+len*i.size,none⟩ cn.toList).run P w=.ok () w'/\R φ m' w'/\Step φ m w φ m' w':=by
      simp only at hm1
      cases hcase:new with
      | nil =>
       rw[hcase]at hm1 hcr
       have hm:m'=m:=by unfold wx at hm1;cases hm1;rfl
       subst hm
       have hcn0:cn.toList=[]:=qh5 hcr.length.symm
       exact⟨w,by rw[hcn0];simp[storeCells],hR,Step.refl _ _ _⟩
      | cons n1 n2 =>
       have hB:B<m.n:=by
        rw[hcase]at hm1
        unfold wx at hm1
        obtain⟨c,hc,_⟩:=qa hm1
        exact hR.lt (wa hc)
       exact hR.store (P:=P) (o:=oo+len*i.size) hB hL hcr (by rw[show oo+len*i.size+L.d=oo+L.d+len*i.size by omega];exact hm1)
     obtain⟨w',q1,q2,q3⟩:=hst
     refine⟨φ,w',.value (.slice (some ⟨L.b,oo,none⟩) (len+n) cap'),_,?_,.inl rfl,q2,q3,.sl _ _ _ _ _ _ L hL hroom e2 e3 e4⟩
     rw[hrun,hse]
     have:=jV (P:=P) (w:=w) (w':=w') (b:=some ⟨L.b,oo,none⟩) (sl:=len) (sc:=cap') (ty:=o.type) ht htu hu hdu hni hi hlen hcn (by omega) (λa e=>by cases e;rw[Addr.add_eq];exact q1) (λe=>by cases e)
     simp only[builtin,Sem.run_bind,this,Result.andThen_ok,Sem.run_pure]
  | false =>
   rw[hroom]at h
   simp only[cond_false]at h
   have hroom:cap<len+n:=by
    rcases Nat.lt_or_ge cap (len+n) with h' | h'
    .exact h'
    .rw[qgv h']at hroom;cases hroom
   cases hbd:(Nat.ble ((len+n)*i.bytes) most&&Nat.ble (len+n) 4611686018427387904) with
   | false=>rw[hbd]at h;cases h
   | true =>
    rw[hbd]at h
    simp only[cond_true]at h
    simp only[qgt]at hbd
    have hbd1:=qgw hbd.1
    have hbd2:=qgw hbd.2
    obtain⟨old,hold,h⟩:=qa h
    have hln:lenV (.slice base len cap)=some len:=rfl
    obtain⟨co',hco',hcor'⟩:=xi (P:=P) hR' hln (qgq _) hold h1
    have hol:old.length=len*i.size:=xS hln (qgq _) hold (vH hln h1)
    have grow:∀(b':Option Addr) (cap':Nat),a.eval s=.slice b' len cap'->cap'<len+n->∃cells:Array Value,cells.size=grownCap w (len+n) cap' e*i.size/\VRels φ (old++new) (cells.toList.take (old++new).length) /\
      (execOp a.eval o).run P w=.ok (.value (.slice (some ⟨w.heap.size,0,none⟩) (len+n) (grownCap w (len+n) cap' e))) (w.drew.alloc (.cells cells e)):=by
     intro b' cap' hse hlt
     rw[hse]at hco'
     have hco2:(Builtin.firstCells i.size len (.slice b' len cap')).run P w.drew=.ok co' w.drew:=hco'
     have hg:=Je (P:=P) (ty:=o.type) ht htu hu hdu hni hi hz hlen hcn' hco2 hlt hbd2 hbd1
     have hge:=grownCap_ge w (len+n) cap' e
     refine⟨co'++cn'++Builtin.zeroCells z.cells (grownCap w (len+n) cap' e-(len+n)),?_,?_,?_⟩
     rotate_left 2
     .rw[hrun,hse]
      simp only[builtin,Sem.run_bind,hg,Result.andThen_ok,Sem.run_pure]
     .have l1:=hcor'.length
      have l2:=hcr'.length
      simp only[Array.length_toList]at l1 l2
      rw[Array.size_append,Array.size_append,xv,hzs,<-l1,<-l2,hol,hnl,<-Nat.add_mul,<-Nat.add_mul]
      congr 1
      omega
     .have hv:=hcor'.append hcr'
      have:(co'++cn'++Builtin.zeroCells z.cells (grownCap w (len+n) cap' e-(len+n))).toList.take (old++new).length=co'.toList++cn'.toList:=by
       rw[hv.length,Array.toList_append,Array.toList_append]
       exact List.take_left
      rw[this]
      exact hv
    have lift:∀(cells:Array Value) (k cap':Nat),cells.size=grownCap w (len+n) cap' e*i.size->k=w.heap.size->∀(φ':Phi) (N off:Nat),φ' N=some ⟨w.heap.size,off,cells.size⟩ ->
      VRel φ' (.slice (some ⟨N,off,some (code i.size false)⟩) (len+n) (len+n)) (.slice (some ⟨w.heap.size,0,none⟩) (len+n) (grownCap w (len+n) cap' e)):=by
     intro cells k cap' hcs _ φ' N off hN
     have:=VRel.sl (φ:=φ') N 0 (code i.size false) (len+n) (len+n) (grownCap w (len+n) cap' e) ⟨w.heap.size,off,cells.size⟩ hN (qgq _) (grownCap_ge _ _ _ _) (λhx=>by rw[vh]at hx;cases hx) (by rw[jy];show 0+_<=cells.size;omega)
     simpa using this
    have fresh:∀(b':Option Addr) (cap':Nat),a.eval s=.slice b' len cap'->cap'<len+n->v=.slice (some ⟨m.n,0,some (code i.size false)⟩) (len+n) (len+n)->m'=newRow m (old++new) ->
      ∃φ' w' nx v',(execOp a.eval o).run P w=.ok nx w'/\(nx=.value v'\/nx=.skip/\v'=undef)/\R φ' m' w'/\Step φ m w φ' m' w'/\VRel φ' v v':=by
     intro b' cap' hse hlt hv hm
     subst hv;subst hm
     obtain⟨cells,g1,g2,g3⟩:=grow b' cap' hse hlt
     have hfm:φ m.n=none:=hfree m.n (qgq _) (by unfold newRow;rw[M.n_alloc];omega)
     obtain⟨φ',k1,k2,k3⟩:=hR.rowTo hfm (fz:=(0,0)) (.inl rfl) g2 (w.drawn+1) (e:=e)
     exact⟨φ',_,_,_,g3,.inl rfl,k2,k3,lift cells _ cap' g1 rfl φ' m.n 0 k1⟩
    unfold Ws at h
    cases base with
    | none =>
     cases h
     generalize hse:a.eval s=u at h1
     cases h1
     exact fresh none 0 hse hroom rfl rfl
    | some ad =>
     simp only at h
     obtain⟨cd,hcd,h⟩:=qa h
     cases hex:fC cd with
     | true =>
      rw[hex]at h
      cases h
      generalize hse:a.eval s=u at h1
      cases h1 with
      | slE B oo cd' a' l0 hl0=>exact fresh _ 0 hse hroom rfl rfl
      | sl B oo cd' _ _ cap' L hL e1 e2 e3 e4 =>
       cases hcd
       have:=e3 hex
       subst this
       exact fresh _ cap hse hroom rfl rfl
     | false =>
      rw[hex]at h
      simp only[cond_false]at h
      obtain⟨cc,hcc,h⟩:=qa h
      cases hal:(alive cc&&Nat.beq (cd/2) i.size&&fE (old++new)&&Nat.blt ad.off HI) with
      | false=>rw[hal]at h;cases h
      | true =>
       rw[hal]at h
       cases h
       simp only[qgt]at hal
       obtain⟨⟨⟨hal1,hal2⟩,hal3⟩,hal4⟩:=hal
       have hcde:=qh0 hal2
       have hobj:=wa hcc
       have hfm:φ m.n=none:=hfree m.n (qgq _) (by rw[M.n_alloc,M.n_put];omega)
       have killed:∀(b':Option Addr) (cap':Nat),a.eval s=.slice b' len cap'->cap'<len+n->∀l0,φ ad.block=some l0 ->
         ∃φ' w' nx v',(execOp a.eval o).run P w=.ok nx w'/\(nx=.value v'\/nx=.skip/\v'=undef)/\R φ' ((m.put ad.block (.cells .lf)).alloc (.cells (mkn .lf ad.off (old++new)))) w' /\
          Step φ m w φ' ((m.put ad.block (.cells .lf)).alloc (.cells (mkn .lf ad.off (old++new)))) w'/\VRel φ' (.slice (some ⟨m.n,ad.off,some (code i.size false)⟩) (len+n) (len+n)) v':=by
        intro b' cap' hse hlt l0 hl0
        obtain⟨cells,g1,g2,g3⟩:=grow b' cap' hse hlt
        obtain⟨k1,k2⟩:=hR.kill hobj hal1 hl0
        have hn1:(m.put ad.block (.cells .lf)).n=m.n:=M.n_put _ _ _
        obtain⟨k3,k4⟩:=(k1.heapEq (w':=w.drew) rfl).alloc (o:=.cells (mkn .lf ad.off (old++new))) (O:=.cells cells e) (n:=cells.size) (d:=ad.off) (by rw[hn1];exact hfm) (by
         refine⟨cells,e,(0,0),kC _ _,rfl,FzC.zero,λj u hj=>?_⟩
         obtain⟨q1,u',q2,q3⟩:=GH g2 hj
         exact⟨q1,u',q2,q3.mono (PSet.le (by rw[hn1];exact hfm))⟩)
        refine⟨_,_,_,_,g3,.inl rfl,k3,k2.trans ((Step.to (w.drawn+1)).trans k4),lift cells _ cap' g1 rfl _ m.n ad.off ?_⟩
        unfold PSet
        rw[hn1,if_pos rfl]
        rfl
       generalize hse:a.eval s=u at h1
       cases h1 with
       | slE B oo cd' a' l0 hl0=>exact killed _ 0 hse hroom l0 hl0
       | sl B oo cd' _ _ cap' L hL e1 e2 e3 e4 =>
        cases hcd
        by_cases hlt:cap'<len+n
        .exact killed _ cap' hse hlt L hL
        .have hroom':len+n<=cap':=by omega
         simp only at hobj
         unfold kl loads at hold
         obtain⟨cc',hcc',hld⟩:=qa hold
         rw[hcc]at hcc'
         cases hcc'
         simp only at hld
         obtain⟨ob',h5,h6⟩:=hR.obj B L (hR.lt hobj) hL
         rw[hobj]at h5;cases h5
         obtain⟨c1,t1,fz,k1,k2,k3',k4⟩:=h6
         have k3:FzOK c1.size fz:=k3'.1 hal1 (by have:=hal4;rw[Nat.blt_eq]at this;simp only at this;omega)
         have hb1:L.b<w.heap.size:=(qgr.1 k1).1
         have l2:=hcr.length
         have hmul:(len+n)*i.size<=cap'*i.size:=qh8 _ hroom'
         rw[Nat.add_mul]at hmul
         rw[hcde]at e4
         have hbound:oo+len*i.size+0+cn.toList.length<=c1.size:=by omega
         have hok:∀u∈cn.toList,u.oneCell'=true:=by
          intro u hu
          obtain⟨j,hj⟩:=qh9 hu
          obtain⟨u0,hu0,hur⟩:=hcr.get' hj
          exact hur.oneCell (Kh hal3 u0 (List.mem_append_right _ (qgo hu0)))
         have hst:=xu (P:=P) (o:=oo+len*i.size) cn.toList 0 c1 w k1 hbound (λk h1 h2=>k3.not k (by omega)) hok
         have hwz:∀X,(if cn.toList=[] then w else zN w L.b (.cells (wcs c1 (oo+len*i.size+0) cn.toList) t1 fz)).heap[X]?=if X=L.b then some (.cells (wcs c1 (oo+len*i.size+0) cn.toList) t1 fz) else w.heap[X]?:=by
          intro X
          by_cases hnil:cn.toList=[]
          .rw[if_pos hnil,hnil]
           by_cases hX:X=L.b
           .subst hX;rw[if_pos rfl];exact k1
           .rw[if_neg hX]
          .rw[if_neg hnil,kJ _ hb1]
         obtain⟨r1,r2⟩:=hR.over hL hobj hal1 hfm hwz (by split<;>simp[zN]) (by split<;>rfl) (by split<;>rfl) (by split<;>rfl) (by rw[vu];exact k2) (by rw[vu];exact k3) (c2:=mkn .lf (oo+L.d) (old++new)) (by
          intro j u hj
          rw[zZ,A.get_lf]at hj
          split at hj
          .rename_i hin
           refine⟨by omega,?_⟩
           rw[QH _ _ _ _ hbound]
           by_cases hjo:j-(oo+L.d)<old.length
           .rw[qh2 hjo]at hj
            have hg:=(Qy hld).2 _ _ hj
            obtain⟨_,u',q1,q2⟩:=k4 _ _ hg
            refine⟨u',?_,q2⟩
            rw[if_neg (by omega),<-q1]
            congr 1
            omega
           .rw[qh3 (by omega)]at hj
            obtain⟨u',q1,q2⟩:=hcr.get hj
            have hlt2:=(qgp.1 q1).1
            refine⟨u',?_,q2⟩
            rw[if_pos (by omega),<-q1]
            congr 1
            omega
          .cases hj)
         refine⟨_,_,.value (.slice (some ⟨L.b,oo,none⟩) (len+n) cap'),_,?_,.inl rfl,r1,r2,?_⟩
         .rw[hrun,hse]
          have:=jV (P:=P) (w:=w) (b:=some ⟨L.b,oo,none⟩) (sl:=len) (sc:=cap') (ty:=o.type) ht htu hu hdu hni hi hlen hcn hroom' (λa e=>by cases e;rw[Addr.add_eq];exact hst) (λe=>by cases e)
          simp only[builtin,Sem.run_bind,this,Result.andThen_ok,Sem.run_pure]
         .exact .sl m.n oo (code i.size false) (len+n) (len+n) cap' L (by unfold PSet;rw[if_pos rfl]) (qgq _) hroom' (λhx=>by rw[vh]at hx;cases hx) (by rw[jy];exact e4)
 .cases h
theorem Yy {e:TypeId}{i:TypeInfo}{zs:List Value}(h:jI P e=some zs)(hi:P.info? e=some i):∃z,i.zero=some z/\z.cells.toList=zs/\xR z=true:=by
 unfold jI at h
 obtain⟨i',hi',h⟩:=qa h
 rw[hi]at hi'
 cases hi'
 obtain⟨z,hz,h⟩:=qa h
 cases hc:xR z with
 | false=>rw[hc]at h;simp at h
 | true=>rw[hc]at h;simp at h;exact⟨z,hz,h,hc⟩
theorem qcb {ts:Array TypeId}{ty t u e:TypeId}{k:IntKind}{i:TypeInfo}{z:Value}{n:Nat}{x':Value}{w:World}(ht:ts[0]?=some t)(htu:ts[1]?=some u)(hu:P.underlying t=some (.slice e))(hdu:P.underlying u=some (.int k))
  (hi:P.info? e=some i) (hz:i.zero=some z) (hx:(asInt x').run P w=.ok (n:Int) w) (hs:i.size≠0) (hp:0<n) (h63:n<=4611686018427387904) (hb:n*i.bytes<=most) :
  (Builtin.append_ ts ty #[.slice none 0 0,x']).run P w=.ok (.slice (some ⟨w.heap.size,0,none⟩) n (grownCap w n 0 e))
    (w.drew.alloc (.cells (Builtin.zeroCells z.cells n++Builtin.zeroCells z.cells (grownCap w n 0 e-n)) e)):=by
 have hso:(sizeOf e).run P w=.ok i.size w:=by simp[sizeOf,typeInfo,hi]
 have hti:∀w,(typeInfo e).run P w=.ok i w:=by intro w;simp[typeInfo,hi]
 have hzv:∀w,(zeroValue e).run P w=.ok z w:=by intro w;simp[zeroValue,typeInfo,hi,hz]
 have wl:IntKind.i64.wrap (n:Int)=(n:Int):=IntWalk.i64_in _ ⟨by omega,by omega⟩
 have hl0:¬((n:Int)<0):=by omega
 have hbi:(n:Int)*(i.bytes:Int)<=140737488355328:=by
  have:=Int.ofNat_le.2 hb
  unfold most at this
  rw[Int.natCast_mul]at this
  exact this
 have hlb:¬(281474976710656<(n:Int)*(i.bytes:Int)):=by omega
 have hn:¬(n=0):=by omega
 have hfit:=growslice_fits (need:=0+n) (old:=0) (by omega) (by unfold most at hb;simpa using hb)
 have hfit':¬(281474976710656<Builtin.nextslicecap n 0*i.bytes):=by simpa using hfit
 have hmax:IntKind.i64.max=9223372036854775807:=rfl
 have hmx:¬(9223372036854775807<(n:Int)):=by omega
 have hfo:(Question.appendCap n 0 e).forced=false:=rfl
 have hns:¬(n*i.size=0):=by
  intro h;rcases Nat.mul_eq_zero.1 h with h | h<;>omega
 simp[Builtin.append_,ht,htu,run_underlying hu,run_underlying hdu,hso,hti,hzv,hx,wl,hl0,hlb,hn,hfit',hmax,hmx,hfo,Builtin.firstCells,Go.newRow,Sem.run_bind,grownCap]
 exact λh=>absurd h hns
theorem Ye {c:Call}{ty tu e:TypeId}{k:IntKind}{i:TypeInfo}{zs:List Value}{y s:Operand}{f g:V}(ho:o.op=.call c)(hb:c.callee=.builtin .append)(ht:c.argTypes[0]?=some ty)(htu:c.argTypes[1]?=some tu)(ha:c.args.toList=[s,y])
  (hu:P.underlying ty=some (.slice e)) (hdu:P.underlying tu=some (.int k)) (hi:P.info? e=some i) (hs:i.size≠0) (hz:jI P e=some zs) (hzl:zs.length=i.size) (hf:qH nt s=some f) (hg:qH nt y=some g) :
  jJ P nt o (yx i.size i.bytes zs f g):=by
 intro x t m v m' h φ w a hR hr hfree
 have h1:=qi hf hr (zk ho hb s (by simp[ha]))
 have h2:=qi hg hr (zk ho hb y (by simp[ha]))
 obtain⟨cs0,hrun⟩:=kT (P:=P) ho hb a.eval w
 have hargs:c.args.map a.eval=#[a.eval s,a.eval y]:=by rw[kX ha];simp
 rw[hargs]at hrun
 unfold yx QQ at h
 split at h
 .rename_i hfs
  obtain⟨n,hn,h⟩:=qa h
  rw[hfs]at h1
  cases hbd:(Nat.blt 0 n&&Nat.ble (n*i.bytes) most&&Nat.ble n 4611686018427387904) with
  | false=>rw[hbd]at h;cases h
  | true =>
   rw[hbd]at h
   cases h
   simp only[qgt]at hbd
   have b1:0<n:=by have:=hbd.1.1;rw[Nat.blt_eq]at this;exact this
   have b2:=qgw hbd.1.2
   have b3:=qgw hbd.2
   generalize hse:a.eval s=u' at h1
   cases h1
   obtain⟨k1,e1⟩:=Zv hn h2
   obtain⟨z,hzi,hz2,hz3⟩:=Yy hz hi
   have hzn:z.cells.size=i.size:=by rw[<-hzl,<-hz2];simp
   have hax:(asInt (a.eval y)).run P w=.ok (n:Int) w:=by rw[e1];rfl
   have hgo:=qcb (P:=P) (ty:=o.type) (w:=w) ht htu hu hdu hi hzi hax hs b1 b3 b2
   have hge:=grownCap_ge w n 0 e
   have hfm:φ m.n=none:=hfree m.n (qgq _) (by unfold newRow;rw[M.n_alloc];omega)
   obtain⟨cells,hcells⟩:=qhd (Builtin.zeroCells z.cells n++Builtin.zeroCells z.cells (grownCap w n 0 e-n))
   rw[<-hcells]at hgo
   have hsz:cells.size=grownCap w n 0 e*i.size:=by
    rw[hcells,Array.size_append,xv,xv,hzn,<-Nat.add_mul]
    congr 1
    omega
   have hzc:(Builtin.zeroCells z.cells n).toList=rep n zs:=by
    have:=fh z.cells n
    rw[<-hz2];exact this
   have hrel:VRels φ (rep n zs) (cells.toList.take (rep n zs).length):=by
    have:cells.toList.take (rep n zs).length=rep n zs:=by
     rw[hcells,Array.toList_append,hzc]
     exact List.take_left
    rw[this]
    have:=zl (φ:=φ) hz3
    rw[hz2]at this
    exact bC this n
   obtain⟨φ',k1',k2,k3⟩:=hR.rowTo hfm (fz:=(0,0)) (.inl rfl) hrel (w.drawn+1) (e:=e)
   refine⟨φ',_,.value (.slice (some ⟨w.heap.size,0,none⟩) n (grownCap w n 0 e)),_,?_,.inl rfl,k2,k3,?_⟩
   .rw[hrun,hse]
    simp only[builtin,Sem.run_bind,hgo,Result.andThen_ok,Sem.run_pure]
    rfl
   .have:=VRel.sl (φ:=φ') m.n 0 (code i.size false) n n (grownCap w n 0 e) ⟨w.heap.size,0,cells.size⟩ k1' (qgq _) hge (λhx=>by rw[vh]at hx;cases hx) (by rw[jy];show 0+_<=cells.size;omega)
    simpa using this
 .cases h
theorem qel {c:Call}{ty e:TypeId}{i:TypeInfo}{y s:Operand}{f g:V}(ho:o.op=.call c)(hb:c.callee=.builtin .copy)(ht:c.argTypes[0]?=some ty)(ha:c.args.toList=[s,y])
  (hu:P.underlying ty=some (.slice e)) (hi:P.info? e=some i) (hf:qH nt s=some f) (hg:qH nt y=some g):jJ P nt o (Xd i.size f g):=by
 intro x t m v m' h φ w a hR hr hfree
 have h1:=qi hf hr (zk ho hb s (by simp[ha]))
 have h2:=qi hg hr (zk ho hb y (by simp[ha]))
 obtain⟨cs0,hrun⟩:=kT (P:=P) ho hb a.eval w
 have hargs:c.args.map a.eval=#[a.eval s,a.eval y]:=by rw[kX ha];simp
 rw[hargs]at hrun
 have hso:(sizeOf e).run P w=.ok i.size w:=by simp[sizeOf,typeInfo,hi]
 unfold Xd copyV at h
 split at h
 .rename_i base len cap hfs
  obtain⟨k,hk,h⟩:=qa h
  obtain⟨l,hl,h⟩:=qa h
  rw[hfs]at h1
  have hlen:=Fc (P:=P) hk h2 w
  have hmin:(bif Nat.ble k len then k else len)=Nat.min k len:=by
   cases hb:Nat.ble k len with
   | true=>have:=qgw hb;exact (Nat.min_eq_left this).symm
   | false =>
    have:len<=k:=by
     rcases Nat.le_total k len with h' | h'
     .rw[qgv h']at hb;cases hb
     .exact h'
    exact (Nat.min_eq_right this).symm
  rw[hmin]at h hl
  have hmk:Nat.min k len<=k:=Nat.min_le_left _ _
  obtain⟨cn,hcn,hcr⟩:=xi (P:=P) hR hk hmk hl h2
  have hll:l.length=Nat.min k len*i.size:=xS hk hmk hl (by
   rcases vH hk h2 with h' | h' | h'
   .exact .inl h'
   .exact .inr (.inl h')
   .exact .inr (.inr (by omega)))
  obtain⟨b',c',hse⟩:∃b' c',a.eval s=.slice b' len c':=by
   generalize a.eval s=u at h1
   cases h1<;>exact⟨_,_,rfl⟩
  have done:∀w',(∀ad,b'=some ad->(storeCells ad cn.toList).run P w=.ok () w')->(b'=none->w'=w)->(execOp a.eval o).run P w=.ok (.value (.int .i64 (Nat.min k len:Nat))) w':=by
   intro w' hst hno
   rw[hrun,hse]
   cases b' with
   | none =>
    have:=hno rfl
    subst this
    simp[builtin,Builtin.copy_,ht,run_underlying hu,hlen,hso,hcn,goInt]
   | some ad =>
    have:=hst ad rfl
    simp[builtin,Builtin.copy_,ht,run_underlying hu,hlen,hso,hcn,goInt,this]
  rw[hse]at h1
  unfold qad at h
  cases base with
  | none =>
   cases h
   cases h1
   exact⟨φ,w,_,_,done w (λad e=>by cases e) (λ_=>rfl),.inl rfl,hR,Step.refl _ _ _,.int _ _⟩
  | some ad =>
   obtain⟨m1,hm1,h⟩:=qa h
   cases h
   cases h1 with
   | slE B oo cd a' l0 hl0 =>
    have hnil:l=[]:=qh5 (by rw[hll];have:Nat.min k 0=0:=Nat.min_zero k;rw[this];simp)
    subst hnil
    have hm:m'=m:=by unfold wx at hm1;cases hm1;rfl
    subst hm
    have hcn0:cn.toList=[]:=qh5 hcr.length.symm
    exact⟨φ,w,_,_,done w (λad _=>by rw[hcn0];simp[storeCells]) (λe=>by cases e),.inl rfl,hR,Step.refl _ _ _,.int _ _⟩
   | sl B oo cd _ _ cap' L hL e1 e2 e3 e4 =>
    have hst:∃w',(storeCells ⟨L.b,oo,none⟩ cn.toList).run P w=.ok () w'/\R φ m' w'/\Step φ m w φ m' w':=by
     simp only at hm1
     cases hcase:l with
     | nil =>
      rw[hcase]at hm1 hcr
      have hm:m'=m:=by unfold wx at hm1;cases hm1;rfl
      subst hm
      have hcn0:cn.toList=[]:=qh5 hcr.length.symm
      exact⟨w,by rw[hcn0];simp[storeCells],hR,Step.refl _ _ _⟩
     | cons n1 n2 =>
      have hB:B<m.n:=by
       rw[hcase]at hm1
       unfold wx at hm1
       obtain⟨c,hc,_⟩:=qa hm1
       exact hR.lt (wa hc)
      exact hR.store (P:=P) (o:=oo) hB hL hcr hm1
    obtain⟨w',q1,q2,q3⟩:=hst
    exact⟨φ,w',_,_,done w' (λad e=>by cases e;exact q1) (λe=>by cases e),.inl rfl,q2,q3,.int _ _⟩
 .cases h
theorem qbd {c:Call}{ty e:TypeId}{zs:List Value}{s:Operand}{f:V}(ho:o.op=.call c)(hb:c.callee=.builtin .clear)(ht:c.argTypes[0]?=some ty)(ha:c.args.toList=[s])
  (hu:P.underlying ty=some (.slice e)) (hz:jI P e=some zs) (hf:qH nt s=some f):jJ P nt o (Wz zs f):=by
 intro x t m v m' h φ w a hR hr hfree
 have h1:=qi hf hr (zk ho hb s (by simp[ha]))
 obtain⟨cs0,hrun⟩:=kT (P:=P) ho hb a.eval w
 have hargs:c.args.map a.eval=#[a.eval s]:=by rw[kX ha];simp
 rw[hargs]at hrun
 obtain⟨z,hzr,hz2,hz3⟩:=jv hz w
 unfold Wz Vw at h
 split at h
 .rename_i base len cap hfs
  rw[hfs]at h1
  have hzc:(Builtin.zeroCells z.cells len).toList=rep len zs:=by
   have:=fh z.cells len
   rw[<-hz2];exact this
  have hcr:VRels φ (rep len zs) (rep len zs):=by
   have:=zl (φ:=φ) hz3
   rw[hz2]at this
   exact bC this len
  obtain⟨b',c',hse⟩:∃b' c',a.eval s=.slice b' len c':=by
   generalize a.eval s=u at h1
   cases h1<;>exact⟨_,_,rfl⟩
  have done:∀w',(∀ad,b'=some ad->(storeCells ad (rep len zs)).run P w=.ok () w')->(b'=none->w'=w)->(execOp a.eval o).run P w=.ok (.value (.tuple #[])) w':=by
   intro w' hst hno
   rw[hrun,hse]
   cases b' with
   | none =>
    have:=hno rfl
    subst this
    simp[builtin,Builtin.clear_,ht,run_underlying hu]
   | some ad =>
    have:=hst ad rfl
    rw[<-hzc]at this
    cases len with
    | zero =>
     have e0:(Builtin.zeroCells z.cells 0).toList=[]:=by
      have:=hzc;rw[this];rfl
     rw[e0]at this
     have:w'=w:=by simpa [storeCells]using this.symm
     subst this
     simp[builtin,Builtin.clear_,ht,run_underlying hu]
    | succ k=>simp[builtin,Builtin.clear_,ht,run_underlying hu,hzr,this]
  rw[hse]at h1
  unfold Vx at h
  cases base with
  | none =>
   cases h
   cases h1
   exact⟨φ,w,_,_,done w (λad e=>by cases e) (λ_=>rfl),.inl rfl,hR,Step.refl _ _ _,.tuple _ _ .nil⟩
  | some ad =>
   obtain⟨m1,hm1,h⟩:=qa h
   cases h
   cases h1 with
   | slE B oo cd a' l0 hl0 =>
    have hm:m'=m:=by
     change wx m _ []=some m' at hm1
     unfold wx at hm1;cases hm1;rfl
    subst hm
    exact⟨φ,w,_,_,done w (λad _=>by show (storeCells ad []).run P w=_;simp[storeCells]) (λe=>by cases e),.inl rfl,hR,Step.refl _ _ _,.tuple _ _ .nil⟩
   | sl B oo cd _ _ cap' L hL e1 e2 e3 e4 =>
    have hst:∃w',(storeCells ⟨L.b,oo,none⟩ (rep len zs)).run P w=.ok () w'/\R φ m' w'/\Step φ m w φ m' w':=by
     simp only at hm1
     cases hcase:rep len zs with
     | nil =>
      rw[hcase]at hm1
      have hm:m'=m:=by unfold wx at hm1;cases hm1;rfl
      subst hm
      exact⟨w,by simp[storeCells],hR,Step.refl _ _ _⟩
     | cons n1 n2 =>
      have hB:B<m.n:=by
       rw[hcase]at hm1
       unfold wx at hm1
       obtain⟨c,hc,_⟩:=qa hm1
       exact hR.lt (wa hc)
      rw[<-hcase]
      exact hR.store (P:=P) (o:=oo) hB hL hcr hm1
    obtain⟨w',q1,q2,q3⟩:=hst
    exact⟨φ,w',_,_,done w' (λad e=>by cases e;exact q1) (λe=>by cases e),.inl rfl,q2,q3,.tuple _ _ .nil⟩
 .cases h
end
theorem jR {m m':M}{a:Addr}{l:List Value}(h:wx m a l=some m'):DStep m m':=by
 cases l with
 | nil=>unfold wx at h;cases h;exact DStep.refl _
 | cons v l =>
  unfold wx at h
  obtain⟨c,hc,h⟩:=qa h
  obtain⟨c',hc',h⟩:=qa h
  cases h
  have hobj:=wa hc
  refine DStep.put m _ _ (λhd=>?_) (by rw[hobj];rfl)
  unfold dead at hd
  rw[hobj]at hd
  have:c=.lf:=by cases hd;rfl
  have h2:=(FR hc').2.1 0 (by simp)
  rw[this,A.get_lf]at h2
  cases h2
theorem JL {n:Nat}{f g:V}{x:Ex}{t:Tm}{m m':M}{v:Value}(h:wR n f g x t m=some (v,m')):DStep m m':=by
 unfold wR at h
 obtain⟨a0,ha,h⟩:=qa h
 obtain⟨l,hl,h⟩:=qa h
 cases hb:Nat.beq l.length n with
 | false=>rw[hb]at h;cases h
 | true =>
  rw[hb]at h
  obtain⟨m1,hm,h⟩:=qa h
  cases h
  exact jR hm
theorem GC {f:V}{x:Ex}{t:Tm}{m m':M}{v:Value}(h:mB2s f x t m=some (v,m')):DStep m m':=by
 unfold mB2s b2sV at h
 split at h
 .cases h;exact DStep.refl _
 .obtain⟨l,hl,h⟩:=qa h
  obtain⟨r,hr',h⟩:=qa h
  cases h
  exact DStep.refl _
 .cases h
theorem VF {f:V}{x:Ex}{t:Tm}{m m':M}{v:Value}(h:Xe f x t m=some (v,m')):DStep m m':=by
 unfold Xe qb3 at h
 split at h
 .rename_i ad n c _
  obtain⟨cs,hc,h⟩:=qa h
  cases hb:(alive cs&&Nat.blt 0 c&&Nat.blt ad.off HI) with
  | false=>rw[hb]at h;cases h
  | true =>
   rw[hb]at h
   cases h
   simp only[qgt]at hb
   have hobj:=wa hc
   exact DStep.put m _ _ (R.notDead hobj hb.1.1) (by rw[hobj])
 .cases h
theorem VE {esz:Nat}{f g:V}{x:Ex}{t:Tm}{m m':M}{v:Value}(h:Xd esz f g x t m=some (v,m')):DStep m m':=by
 unfold Xd copyV at h
 split at h
 .obtain⟨k,hk,h⟩:=qa h
  obtain⟨l,hl,h⟩:=qa h
  unfold qad at h
  split at h
  .cases h;exact DStep.refl _
  .obtain⟨m1,hm1,h⟩:=qa h
   cases h
   exact jR hm1
 .cases h
theorem JK {zs:List Value}{f:V}{x:Ex}{t:Tm}{m m':M}{v:Value}(h:Wz zs f x t m=some (v,m')):DStep m m':=by
 unfold Wz Vw at h
 split at h
 .unfold Vx at h
  split at h
  .cases h;exact DStep.refl _
  .obtain⟨m1,hm1,h⟩:=qa h
   cases h
   exact jR hm1
 .cases h
theorem Ka {esz bytes:Nat}{zs:List Value}{f g:V}{x:Ex}{t:Tm}{m m':M}{v:Value}(h:yx esz bytes zs f g x t m=some (v,m')):DStep m m':=by
 unfold yx QQ at h
 split at h
 .obtain⟨n,hn,h⟩:=qa h
  cases hbd:(Nat.blt 0 n&&Nat.ble (n*bytes) most&&Nat.ble n 4611686018427387904) with
  | false=>rw[hbd]at h;cases h
  | true=>rw[hbd]at h;cases h;exact DStep.alloc _ _
 .cases h
theorem gM {esz bytes:Nat}{f g:V}{x:Ex}{t:Tm}{m m':M}{v:Value}(h:wg esz bytes f g x t m=some (v,m')):DStep m m':=by
 unfold wg wY at h
 split at h
 .rename_i base len cap _
  obtain⟨n,hn,h⟩:=qa h
  obtain⟨new,hnew,h⟩:=qa h
  unfold QP at h
  cases hroom:Nat.ble (len+n) cap with
  | true =>
   rw[hroom]at h
   simp only[cond_true]at h
   unfold qbs at h
   cases base with
   | none=>cases h;exact DStep.refl _
   | some ad =>
    obtain⟨m1,hm1,h⟩:=qa h
    cases h
    exact jR hm1
  | false =>
   rw[hroom]at h
   simp only[cond_false]at h
   cases hbd:(Nat.ble ((len+n)*bytes) most&&Nat.ble (len+n) 4611686018427387904) with
   | false=>rw[hbd]at h;cases h
   | true =>
    rw[hbd]at h
    simp only[cond_true]at h
    obtain⟨old,hold,h⟩:=qa h
    unfold Ws at h
    cases base with
    | none=>cases h;exact DStep.alloc _ _
    | some ad =>
     simp only at h
     obtain⟨cd,hcd,h⟩:=qa h
     cases hex:fC cd with
     | true=>rw[hex]at h;cases h;exact DStep.alloc _ _
     | false =>
      rw[hex]at h
      simp only[cond_false]at h
      obtain⟨cc,hcc,h⟩:=qa h
      cases hal:(alive cc&&Nat.beq (cd/2) esz&&fE (old++new)&&Nat.blt ad.off HI) with
      | false=>rw[hal]at h;cases h
      | true =>
       rw[hal]at h
       cases h
       simp only[qgt]at hal
       have hobj:=wa hcc
       exact (DStep.put m _ _ (R.notDead hobj hal.1.1.1) (by rw[hobj];rfl)).trans (DStep.alloc _ _)
 .cases h
end Go.Dx
namespace Go.Dx
open Go.RowKit
section
variable {P:Program}{nt:Nat}{o:Oper}
theorem fV {a b:Value}{r:Bool}(h:YZ a b=some r):∃k x y,a=.int k x/\b=.int k y/\r=(x==y):=by
 unfold YZ at h
 split at h
 .rename_i k x k' y
  cases hb:Nat.beq (ik k) (ik k') with
  | false=>rw[hb]at h;cases h
  | true =>
   rw[hb]at h
   cases h
   obtain rfl:=Wv hb
   exact⟨k,x,y,rfl,rfl,vD x y⟩
 .cases h
theorem fU {v:Value}(h:isInt v=true):∃k n,v=.int k n:=by cases v<;>first | exact⟨_,_,rfl⟩ | cases h
theorem jW {kt:TypeId}{k:IntKind}(hu:P.underlying kt=some (.int k))(e:Bool)(v:Value)(w:World):(Instr.checkKey e 10000 kt v).run P w=.ok () w:=by
 rw[Instr.checkKey]
 simp only[Sem.run_bind,run_underlying hu,Result.andThen_ok]
 rfl
theorem JQ {φ:Phi}{kd:IntKind}{k:Value}:∀{es:List (Value × Value)} {es':List MapEntry} {r:Option Value} (i:Nat),QB k es=some r->es.map (·.1)=es'.map (·.key)->VRels φ (es.map (·.2)) (es'.map (·.val)) ->
  (∃v v' j e,r=some v/\Instr.findNow (.int kd) k es' i=some (some (i+j,v'))/\VRel φ v v'/\es'[j]?=some e/\e.val=v'/\e.key=k)\/(r=none/\Instr.findNow (.int kd) k es' i=some none)
 | [],es',r,i,h,hk,hv=>by
  cases es' with
  | nil=>cases h;exact .inr ⟨rfl,rfl⟩
  | cons=>simp at hk
 | p::l,es',r,i,h,hk,hv=>by
  cases es' with
  | nil=>simp at hk
  | cons e es' =>
   simp only[List.map_cons,List.cons.injEq]at hk
   rw[QB]at h
   obtain⟨b,hb,h⟩:=qa h
   obtain⟨kk,x,y,e1,e2,e3⟩:=fV hb
   rw[hk.1]at e2
   have hs:Instr.sameNow (.int kd) k e.key=some b:=by
    rw[e1,e2,e3];simp[Instr.sameNow]
   cases hv with
   | cons _ _ _ _ hv1 hv2 =>
    cases b with
    | true =>
     cases h
     refine .inl ⟨p.2,e.val,0,e,rfl,?_,hv1,rfl,rfl,?_⟩
     .rw[Instr.findNow,hs];rfl
     .rw[e1,e2]
      have:x=y:=by simpa using e3.symm
      rw[this]
    | false =>
     rcases JQ (kd:=kd) (i+1) h hk.2 hv2 with ⟨v,v',j,e',q1,q2,q3,q4,q5,q6⟩ | ⟨q1,q2⟩
     .refine .inl ⟨v,v',j+1,e',q1,?_,q3,by simpa using q4,q5,q6⟩
      rw[Instr.findNow,hs]
      simp only
      rw[q2,show i+1+j=i+(j+1) by omega]
     .refine .inr ⟨q1,?_⟩
      rw[Instr.findNow,hs]
      exact q2
theorem VRel.map_inv {φ:Phi}{B:Nat}{v':Value}(h:VRel φ (.map (some B)) v'):∃l,φ B=some l/\v'=.map (some l.b):=by
 cases h with
 | map B l h=>exact⟨l,h,rfl⟩
theorem Births.modify {es:List MapEntry}{c:Nat}(h:Births es c)(j:Nat)(f:MapEntry->MapEntry)(hf:∀e,(f e).born=e.born):Births (es.modify j f) c:=by
 have hm:∀(l:List MapEntry) (j:Nat),(l.modify j f).map (·.born)=l.map (·.born):=by
  intro l
  induction l with
  | nil=>intro j;simp
  | cons x l ih =>
   intro j
   cases j with
   | zero=>simp[hf]
   | succ j=>simp[ih]
 exact⟨by rw[hm,List.length_modify];exact h.1,by rw[List.length_modify];exact h.2⟩
theorem Births.push {es:List MapEntry}{c:Nat}(h:Births es c)(e:MapEntry)(he:e.born=c):Births (es++[e]) (c+1):=by
 refine⟨?_,by simp[h.2]⟩
 rw[List.map_append,h.1,qgx,List.length_singleton,List.range_succ,List.map_singleton,he,h.2]
theorem Xn {ty:TypeId}{q:Option Operand}(ho:o.op=.makeMap ty q)(hq:q=none\/(∃k n,q=some (.const (.int k n)))/\∃a b,P.underlying ty=some (.map a b)):jJ P nt o Zz:=by
 intro x t m v m' h φ w a hR hr hfree
 cases h
 have hf:φ m.n=none:=hfree m.n (qgq _) (by rw[M.n_alloc];omega)
 obtain⟨h1,h2⟩:=hR.alloc hf (o:=.map []) (O:=.map #[] 0) (n:=0) (d:=0) ⟨#[],0,kC w _,rfl,.nil,rfl,rfl⟩
 refine⟨_,_,_,_,?_,.inl rfl,h1,h2,.map m.n ⟨w.heap.size,0,0⟩ (by unfold PSet;rw[if_pos rfl])⟩
 rcases hq with rfl | ⟨⟨k,n,rfl⟩,kt,et,hu⟩
 .simp[execOp,ho,Instr.makeMap,run_newObj_alloc]
 .simp[execOp,ho,Instr.makeMap,run_newObj_alloc,run_underlying hu,Act.eval,asInt,asIntOf]
theorem Bg {ty kt et:TypeId}{kk:IntKind}{i:TypeInfo}{z:Value}{ok:Bool}{y q:Operand}{f g:V}(ho:o.op=.lookup ty y q ok)(hu:P.underlying ty=some (.map kt et))(hk:P.underlying kt=some (.int kk))(hi:P.info? et=some i)(hz:i.zero=some z)(hc:xR z=true)
  (hf:qH nt y=some f) (hg:qH nt q=some g):jJ P nt o (gZ z ok f g):=by
 intro x t m v m' h φ w a hR hr hfree
 unfold gZ at h
 cases hint:isInt (g t) with
 | false=>rw[hint]at h;cases h
 | true =>
  rw[hint]at h
  obtain⟨es,hes,h⟩:=qa h
  obtain⟨r,hrr,h⟩:=qa h
  cases h
  have h1:=qi hf hr (x:=y) (by simp[ho,Op.operands])
  have h2:=qi hg hr (x:=q) (by simp[ho,Op.operands])
  obtain⟨kq,nq,hgt⟩:=fU hint
  rw[hgt]at h2
  have hq:=h2.int_inv
  have hent:∃es':Array MapEntry,(a.eval y=.map none/\es'=#[]\/∃b c,a.eval y=.map (some b)/\w.heap[b]?=some (.map es' c))/\es.map (·.1)=es'.toList.map (·.key)/\VRels φ (es.map (·.2)) (es'.toList.map (·.val)):=by
   unfold mapOf at hes
   split at hes
   .rename_i e
    rw[e]at h1
    cases hes
    generalize a.eval y=u at h1
    cases h1
    exact⟨#[],.inl ⟨rfl,rfl⟩,rfl,.nil⟩
   .rename_i B e
    rw[e]at h1
    obtain⟨l,hl,hv⟩:=h1.map_inv
    unfold Yd at hes
    split at hes
    .rename_i es0 hob
     cases hes
     obtain⟨o',k1,k2⟩:=hR.obj B l (hR.lt hob) hl
     rw[hob]at k1;cases k1
     obtain⟨es',c,k3,k4,k5,_⟩:=k2
     exact⟨es',.inr ⟨l.b,c,hv,k3⟩,k4,k5⟩
    .cases hes
   .cases hes
  obtain⟨es',hcase,hkeys,hvals⟩:=hent
  have hzero:(zeroValue et).run P w=.ok z w:=by simp[zeroValue,typeInfo,hi,hz]
  rw[hgt]at hrr
  have hfind:=JQ (kd:=kk) 0 hrr hkeys hvals
  have run:∀u,(∀rv,(Instr.findNow (.int kk) (.int kq nq) es'.toList 0=some rv->(match rv with | some (_,v)=>(.ok (if ok then .tuple #[v,.bool true] else v) w:Result Value) | none=>.ok (if ok then .tuple #[z,.bool false] else z) w)=.ok u w))->(∃rv,Instr.findNow (.int kk) (.int kq nq) es'.toList 0=some rv)->(execOp a.eval o).run P w=.ok (.value u) w:=by
   intro u hu' ⟨rv,hrv⟩
   have hu2:=hu' rv hrv
   have hfk:(Instr.findKey kt (.int kq nq) es'.toList).run P w=.ok rv w:=by
    unfold Instr.findKey
    simp only[Sem.run_bind,run_underlying hk,Result.andThen_ok,hrv]
    rfl
   rcases hcase with ⟨e1,e2⟩ | ⟨b,c,e1,e2⟩
   .subst e2
    simp only[execOp,ho,hq,e1,Instr.lookup,Sem.run_bind,run_underlying hu,Result.andThen_ok,Sem.run_pure,jW hk,hfk]
    cases rv with
    | none=>cases ok<;>simp_all [hzero]
    | some p=>cases ok<;>simp_all
   .have hg2:(getObj b).run P w=.ok (.map es' c) w:=by simp[getObj,Sem.run,e2]
    simp only[execOp,ho,hq,e1,Instr.lookup,Sem.run_bind,run_underlying hu,Result.andThen_ok,Sem.run_pure,jW hk,hfk,hg2]
    cases rv with
    | none=>cases ok<;>simp_all [hzero]
    | some p=>cases ok<;>simp_all
  rcases hfind with ⟨v,v',j,e,q1,q2,q3,q4,q5,q6⟩ | ⟨q1,q2⟩
  .subst q1
   refine⟨φ,w,.value (if ok then .tuple #[v',.bool true] else v'),_,run _ (λrv hrv=>?_) ⟨_,q2⟩,.inl rfl,hR,Step.refl _ _ _,?_⟩
   .rw[q2]at hrv;cases hrv;rfl
   .unfold found
    cases ok
    .exact q3
    .exact .tuple _ _ (.cons _ _ _ _ q3 (.cons _ _ _ _ (.bool _) .nil))
  .subst q1
   refine⟨φ,w,.value (if ok then .tuple #[z,.bool false] else z),_,run _ (λrv hrv=>?_) ⟨_,q2⟩,.inl rfl,hR,Step.refl _ _ _,?_⟩
   .rw[q2]at hrv;cases hrv;rfl
   .unfold found
    cases ok
    .exact xh hc
    .exact .tuple _ _ (.cons _ _ _ _ (xh hc) (.cons _ _ _ _ (.bool _) .nil))
theorem Jf (k:IntKind)(n:Int):Instr.sameBits 10000 (.int k n) (.int k n)=true:=by
 unfold Instr.sameBits
 simp
theorem FA {φ:Phi}{kd:IntKind}{k v v':Value}(hv':VRel φ v v'):∀{es es2:List (Value × Value)} {es':List MapEntry} (i:Nat),gh k v es=some es2->es.map (·.1)=es'.map (·.key)->VRels φ (es.map (·.2)) (es'.map (·.val)) ->
  (∃u j e,Instr.findNow (.int kd) k es' i=some (some (i+j,u))/\es'[j]?=some e/\e.key=k/\es2.map (·.1)=(es'.modify j λe:MapEntry=>{ e with key:=k,val:=v' }).map (·.key)/\VRels φ (es2.map (·.2)) ((es'.modify j λe:MapEntry=>{ e with key:=k,val:=v' }).map (·.val))) \/
  (Instr.findNow (.int kd) k es' i=some none/\∀c,es2.map (·.1)=(es'++[({ key:=k,val:=v',born:=c }:MapEntry)]).map (·.key)/\VRels φ (es2.map (·.2)) ((es'++[({ key:=k,val:=v',born:=c }:MapEntry)]).map (·.val)))
 | [],es2,es',i,h,hk,hv=>by
  cases es' with
  | cons=>simp at hk
  | nil =>
   rw[gh]at h
   cases hi:isInt k with
   | false=>rw[hi]at h;cases h
   | true=>rw[hi]at h;cases h;exact .inr ⟨rfl,λc=>⟨rfl,.cons _ _ _ _ hv' .nil⟩⟩
 | p::l,es2,es',i,h,hk,hv=>by
  cases es' with
  | nil=>simp at hk
  | cons e es' =>
   simp only[List.map_cons,List.cons.injEq]at hk
   rw[gh]at h
   obtain⟨b,hb,h⟩:=qa h
   obtain⟨kk,x,y,e1,e2,e3⟩:=fV hb
   have e2':=e2
   rw[hk.1]at e2
   have hs:Instr.sameNow (.int kd) k e.key=some b:=by
    rw[e1,e2,e3];simp[Instr.sameNow]
   cases hv with
   | cons _ _ _ _ hv1 hv2 =>
    cases b with
    | true =>
     cases h
     have hxy:x=y:=by simpa using e3.symm
     refine .inl ⟨e.val,0,e,?_,rfl,?_,?_,?_⟩
     .rw[Instr.findNow,hs];rfl
     .rw[e1,e2,hxy]
     .simp[hk.2,e2',e1,hxy]
     .simpa using VRels.cons _ _ _ _ hv' hv2
    | false =>
     obtain⟨l',hl',h⟩:=qa h
     cases h
     rcases FA (kd:=kd) hv' (i+1) hl' hk.2 hv2 with ⟨u,j,e',q1,q2,q3,q4,q5⟩ | ⟨q1,q2⟩
     .refine .inl ⟨u,j+1,e',?_,by simpa using q2,q3,?_,?_⟩
      .rw[Instr.findNow,hs]
       simp only
       rw[q1,show i+1+j=i+(j+1) by omega]
      .simp[hk.1,q4]
      .simpa using VRels.cons _ _ _ _ hv1 q5
     .refine .inr ⟨?_,λc=>?_⟩
      .rw[Instr.findNow,hs]
       exact q1
      .obtain⟨r1,r2⟩:=q2 c
       exact⟨by simp[hk.1,r1],by simpa using VRels.cons _ _ _ _ hv1 r2⟩
theorem bk {ty kt et:TypeId}{kk:IntKind}{y q r:Operand}{f g h0:V}(ho:o.op=.mapUpdate ty y q r\/o.op=.insert ty y q r)(hu:P.underlying ty=some (.map kt et))(hk:P.underlying kt=some (.int kk))
  (hf:qH nt y=some f) (hg:qH nt q=some g) (hh:qH nt r=some h0):jJ P nt o (VX f g h0)/\∀x t m v m',VX f g h0 x t m=some (v,m')->DStep m m':=by
 have hops:o.op.operands=#[y,q,r]:=by rcases ho with ho | ho<;>rw[ho]<;>rfl
 constructor
 .intro x t m v m' h φ w a hR hr hfree
  obtain⟨B,hB,h⟩:=qa (show ob (vMap (f t)) _=some (v,m') from h)
  obtain⟨es,hes,h⟩:=qa h
  obtain⟨es2,hput,h⟩:=qa h
  cases h
  have h1:=qi hf hr (x:=y) (by simp[hops])
  have h2:=qi hg hr (x:=q) (by simp[hops])
  have h3:=qi hh hr (x:=r) (by simp[hops])
  have hft:f t=.map (some B):=by
   unfold vMap at hB
   split at hB
   .rename_i e;rw[e,hB]
   .cases hB
  rw[hft]at h1
  obtain⟨l,hl,hv⟩:=h1.map_inv
  unfold Yd at hes
  split at hes
  .rename_i es0 hob
   cases hes
   have hBn:=hR.lt hob
   obtain⟨o',k1,k2⟩:=hR.obj B l hBn hl
   rw[hob]at k1;cases k1
   obtain⟨es',c,k3,k4,k5,k6⟩:=k2
   have hkey:∃kq nq,g t=.int kq nq:=by
    cases es with
    | nil =>
     rw[gh]at hput
     cases hi:isInt (g t) with
     | false=>rw[hi]at hput;cases hput
     | true=>exact fU hi
    | cons p es =>
     rw[gh]at hput
     obtain⟨b,hb,_⟩:=qa hput
     obtain⟨kk,x,y,e1,_⟩:=fV hb
     exact⟨kk,x,e1⟩
   obtain⟨kq,nq,hgt⟩:=hkey
   rw[hgt]at h2 hput
   have hq:=h2.int_inv
   have hg2:(getObj l.b).run P w=.ok (.map es' c) w:=by simp[getObj,Sem.run,k3]
   have hset:∀O,(setObj l.b O).run P w=.ok () (zN w l.b O):=λO=>by simp[setObj,Sem.run,k3,zN]
   have hlt:l.b<w.heap.size:=(qgr.1 k3).1
   have fin:∀(es3:Array MapEntry) (c3:Nat),es2.map (·.1)=es3.toList.map (·.key)->VRels φ (es2.map (·.2)) (es3.toList.map (·.val))->Births es3.toList c3 ->
     R φ (m.put B (.map es2)) (zN w l.b (.map es3 c3))/\Step φ m w φ (m.put B (.map es2)) (zN w l.b (.map es3 c3)):=λes3 c3 g1 g2 g3 =>
    hR.put hBn hl (λe=>by unfold dead at e;rw[hob]at e;cases e) (by rw[hob];rfl)
     (λo' l' hb hr' ho'=>by
      subst ho'
      obtain⟨cs,e,fz,j1,_⟩:=hr'
      rw[hb,k3]at j1;cases j1)
     ⟨es3,c3,by rw[kJ _ hlt,if_pos rfl],g1,g2,g3⟩
   rcases FA (kd:=kk) h3 0 hput k4 k5 with ⟨u,j,e,q1,q2,q3,q4,q5⟩ | ⟨q1,q2⟩
   .have hfk:(Instr.findKey kt (.int kq nq) es'.toList).run P w=.ok (some (j,u)) w:=by
     unfold Instr.findKey
     rw[Nat.zero_add]at q1
     simp only[Sem.run_bind,run_underlying hk,Result.andThen_ok,q1]
     rfl
    have hmod:(es'.modify j λe=>{ e with key:=.int kq nq,val:=a.eval r }).toList=es'.toList.modify j λe=>{ e with key:=.int kq nq,val:=a.eval r }:=by simp
    obtain⟨g1,g2⟩:=fin (es'.modify j λe=>{ e with key:=.int kq nq,val:=a.eval r }) c (by rw[hmod];exact q4) (by rw[hmod];exact q5) (by rw[hmod];exact k6.modify _ _ λ_=>rfl)
    refine⟨φ,_,.skip,undef,?_,.inr ⟨rfl,rfl⟩,g1,g2,xc φ⟩
    have hej:es'[j]?=some e:=by simpa using q2
    have hks:(Instr.keyThatStays (((es'[j]?).map (·.key)).getD (.int kq nq)) (.int kq nq)).run P w=.ok (.int kq nq) w:=by
     rw[hej]
     simp only[Option.map_some,Option.getD_some,q3]
     unfold Instr.keyThatStays
     rw[Jf]
     rfl
    rcases ho with ho | ho<;>simp only[execOp,ho,hv,hq,Instr.mapUpdate,Sem.run_bind,run_underlying hu,Result.andThen_ok,hg2,jW hk,hfk,hks,hset]<;>rfl
   .obtain⟨r1,r2⟩:=q2 c
    have hfk:(Instr.findKey kt (.int kq nq) es'.toList).run P w=.ok none w:=by
     unfold Instr.findKey
     simp only[Sem.run_bind,run_underlying hk,Result.andThen_ok,q1]
     rfl
    obtain⟨g1,g2⟩:=fin (es'.push { key:=.int kq nq,val:=a.eval r,born:=c }) (c+1) (by simpa using r1) (by simpa using r2) (by simpa using k6.push _ rfl)
    refine⟨φ,_,.skip,undef,?_,.inr ⟨rfl,rfl⟩,g1,g2,xc φ⟩
    rcases ho with ho | ho<;>simp only[execOp,ho,hv,hq,Instr.mapUpdate,Sem.run_bind,run_underlying hu,Result.andThen_ok,hg2,jW hk,hfk,hset]<;>rfl
  .cases hes
 .intro x t m v m' h
  obtain⟨B,hB,h⟩:=qa (show ob (vMap (f t)) _=some (v,m') from h)
  obtain⟨es,hes,h⟩:=qa h
  obtain⟨es2,hput,h⟩:=qa h
  cases h
  unfold Yd at hes
  split at hes
  .rename_i es0 hob
   exact DStep.put _ _ _ (λe=>by unfold dead at e;rw[hob]at e;cases e) (by rw[hob];rfl)
  .cases hes
theorem Qa {x:Ex}{t:Tm}{m m':M}{v:Value}(h:Zz x t m=some (v,m')):DStep m m':=by cases h;exact DStep.alloc _ _
theorem Zm {z:Value}{ok:Bool}{f g:V}{x:Ex}{t:Tm}{m m':M}{v:Value}(h:gZ z ok f g x t m=some (v,m')):DStep m m':=by
 unfold gZ at h
 cases hint:isInt (g t) with
 | false=>rw[hint]at h;cases h
 | true =>
  rw[hint]at h
  obtain⟨es,hes,h⟩:=qa h
  obtain⟨r,hrr,h⟩:=qa h
  cases h
  exact DStep.refl _
end
end Go.Dx
namespace Go.Dx
open Go.RowKit
inductive OpC (P:Program) (nt:Nat) (o:Oper):CI->Prop
 | pure (p:PO) (h:wz P nt o p):OpC P nt o (CI.pure p)
 | row (f:MO) (h:dX P nt o f):OpC P nt o (CI.mem 1 f)
 | load (y:V) (f:MO) (h:bK P nt o f (CI.load y f).rd):OpC P nt o (CI.load y f)
 | step (f:MO) (h:jJ P nt o f) (hd:∀x t m v m',f x t m=some (v,m')->DStep m m'):OpC P nt o (CI.mem 3 f)
 | call (c:Call) (g:Nat) (fs:List V) (ho:o.op=.call c) (hc:c.callee=.value (.func g)) (hf:zA nt c.args.toList=some fs):OpC P nt o (CI.mem 3 (ql g fs))
 | callv (c:Call) (y:Operand) (g:V) (fs:List V) (ho:o.op=.call c) (hc:c.callee=.value y) (hg:qH nt y=some g) (hf:zA nt c.args.toList=some fs):OpC P nt o (CI.mem 3 (jq g fs))
 | invoke (c:Call) (y:Operand) (name:String) (g:V) (fs:List V) (ho:o.op=.call c) (hc:c.callee=.invoke y name) (hg:qH nt y=some g) (hf:zA nt c.args.toList=some fs):OpC P nt o (CI.mem 3 (zG (ZF P name) g fs))
section
variable {P:Program}{nt:Nat}{o:Oper}
theorem Wb {k:Value->Option Bool}(h:k=GY\/k=yC\/k=Xj):(true=true->(k=Qm->false=true)/\(k≠Qm->∀(φ:Phi) (u u':Value),k u=some true->VRel φ u u'->u'≠.nilIface))/\k≠Qm:=by
 have hne:k≠Qm:=by
  intro e
  rcases h with h | h | h
  .rw[h]at e;have:=congrFun e .nilIface;cases this
  .rw[h]at e;have:=congrFun e .nilIface;cases this
  .rw[h]at e;have:=congrFun e .nilIface;cases this
 refine⟨λ_=>⟨λe=>absurd e hne,λ_ φ u u' hu hr=>?_⟩,hne⟩
 intro e
 subst e
 rcases h with rfl | rfl | rfl
 .cases hr<;>cases hu
 .cases hr<;>cases hu
 .cases hr<;>cases hu
theorem Kl {neg:Bool}{op:BinOp}{ty tz:TypeId}{x y:Operand}{f g:V}{ci:CI}(ho:o.op=.binOp op ty x y tz)(hop:op=(if neg then .neq else .eql))(hf:qH nt x=some f)(hg:qH nt y=some g)
  (h:cEq P neg ty (isC x||isC y) f g=some ci):OpC P nt o ci:=by
 unfold cEq at h
 split at h
 .rename_i hu;cases h;exact .pure _ (ok_eqB ho hop hu hf hg)
 .cases h;rw[<-hop];exact .pure _ (Yf ho hf hg)
 .cases h;rw[<-hop];exact .pure _ (Yf ho hf hg)
 .rename_i e hu;cases h
  have hb:=Wb (k:=GY) (.inl rfl)
  exact .pure _ (ZN ho hop (qeg hu) (λ_=>⟨λe=>absurd e hb.2,(hb.1 rfl).2⟩) (.inr hb.2) hf hg)
 .rename_i e hu;cases h
  have hb:=Wb (k:=yC) (.inr (.inl rfl))
  exact .pure _ (ZN ho hop (qeh hu) (λ_=>⟨λe=>absurd e hb.2,(hb.1 rfl).2⟩) (.inr hb.2) hf hg)
 .rename_i hu;cases h
  have hb:=Wb (k:=Xj) (.inr (.inr rfl))
  exact .pure _ (ZN ho hop (qee hu) (λ_=>⟨λe=>absurd e hb.2,(hb.1 rfl).2⟩) (.inr hb.2) hf hg)
 .rename_i hu;cases h
  exact .pure _ (ZN ho hop (qef hu) (λhl=>⟨λ_=>hl,λhne=>absurd rfl hne⟩) (.inl rfl) hf hg)
 .rename_i fs hu
  split at h
  .cases h
  .rename_i hc
   obtain⟨ks,hk,h⟩:=qa h
   cases h
   simp only[Bool.not_eq_true,Bool.or_eq_false_iff]at hc
   exact .pure _ (qbg ho hop hc.2 (dO hu hc.1 hk) hf hg)
 .rename_i n e hu
  split at h
  .cases h
  .rename_i hc
   obtain⟨k,hk,h⟩:=qa h
   split at h
   .rename_i hk1
    obtain⟨k2,hk2,h⟩:=qa h
    cases h
    have hk1:k=1:=by simpa using hk1
    subst hk1
    exact .pure _ (qbg ho hop (by simpa using hc) (Qp hu hk2 hk) hf hg)
   .cases h
 .cases h
theorem yQ {nt:Nat}{xs:List Operand}{f:V}(h:zA nt xs=some [f]):∃x,xs=[x]/\qH nt x=some f:=by
 cases xs with
 | nil=>cases h
 | cons x xs =>
  rw[zA]at h
  obtain⟨v,hv,h⟩:=qa h
  obtain⟨vs,hvs,h⟩:=qa h
  cases h
  cases xs with
  | nil=>exact⟨x,rfl,hv⟩
  | cons y ys =>
   rw[zA]at hvs
   obtain⟨_,_,hvs⟩:=qa hvs
   obtain⟨_,_,hvs⟩:=qa hvs
   cases hvs
theorem Km {nt:Nat}{xs:List Operand}{f g:V}(h:zA nt xs=some [f,g]):∃x y,xs=[x,y]/\qH nt x=some f/\qH nt y=some g:=by
 cases xs with
 | nil=>cases h
 | cons x xs =>
  rw[zA]at h
  obtain⟨v,hv,h⟩:=qa h
  obtain⟨vs,hvs,h⟩:=qa h
  cases h
  obtain⟨y,rfl,hy⟩:=yQ hvs
  exact⟨x,y,rfl,hv,hy⟩
theorem QW {c:Call}{b:Builtin}{fs:List V}{ci:CI}(ho:o.op=.call c)(hb:c.callee=.builtin b)(hf:zA nt c.args.toList=some fs)(h:QV P b c.argTypes fs=some ci):OpC P nt o ci:=by
 unfold QV at h
 split at h
 .obtain⟨x,hx,hxf⟩:=yQ hf
  obtain⟨t,ht,h⟩:=qa h
  split at h
  .rename_i hu;cases h;exact .pure _ (qen ho hb ht hx hu)
  .rename_i hu;cases h;exact .pure _ (qem ho hb ht hx hu hxf)
  .rename_i hu;cases h;exact .pure _ (ok_len ho hb ht hx hu hxf)
  .cases h
 .obtain⟨x,hx,hxf⟩:=yQ hf
  obtain⟨t,ht,h⟩:=qa h
  split at h
  .rename_i hu;cases h;exact .pure _ (ok_cap ho hb ht hx hu hxf)
  .cases h
 .obtain⟨x,y,hx,hxf,hyf⟩:=Km hf
  obtain⟨t,ht,h⟩:=qa h
  obtain⟨u,hu,h⟩:=qa h
  split at h
  .rename_i hdt hdu
   obtain⟨i,hi,h⟩:=qa h
   obtain⟨z,hz,h⟩:=qa h
   split at h
   .rename_i hs
    cases h
    exact .step _ (KN ho hb ht hu hx hdt hdu (by intro k e;cases e) hi hz (by simpa using hs) hxf hyf) (λ_ _ _ _ _ h=>gM h)
   .cases h
  .rename_i hdt hdu
   obtain⟨i,hi,h⟩:=qa h
   obtain⟨z,hz,h⟩:=qa h
   split at h
   .rename_i hs
    cases h
    exact .step _ (KN ho hb ht hu hx hdt hdu (by intro k e;cases e) hi hz (by simpa using hs) hxf hyf) (λ_ _ _ _ _ h=>gM h)
   .cases h
  .rename_i hdt hdu
   obtain⟨i,hi,h⟩:=qa h
   split at h
   .cases h
   .rename_i hs0
    obtain⟨zs,hz,h⟩:=qa h
    split at h
    .rename_i hs
     cases h
     exact .step _ (Ye ho hb ht hu hx hdt hdu hi (by simpa using hs0) hz (by simpa using hs) hxf hyf) (λ_ _ _ _ _ h=>Ka h)
    .cases h
  .cases h
 .obtain⟨x,y,hx,hxf,hyf⟩:=Km hf
  obtain⟨t,ht,h⟩:=qa h
  split at h
  .rename_i hdt
   obtain⟨i,hi,h⟩:=qa h
   cases h
   exact .step _ (qel ho hb ht hx hdt hi hxf hyf) (λ_ _ _ _ _ h=>VE h)
  .cases h
 .obtain⟨x,hx,hxf⟩:=yQ hf
  obtain⟨t,ht,h⟩:=qa h
  split at h
  .rename_i hdt
   obtain⟨zs,hz,h⟩:=qa h
   cases h
   exact .step _ (qbd ho hb ht hx hdt hz hxf) (λ_ _ _ _ _ h=>JK h)
  .cases h
 .cases h;exact .pure _ (ok_mm (mx:=false) ho (by simpa using hb) hf)
 .cases h;exact .pure _ (ok_mm (mx:=true) ho (by simpa using hb) hf)
 .cases h
theorem Gm {ci:CI}(h:cOp P nt o=some ci):OpC P nt o ci/\∀c,o.op≠.defer c:=by
 refine⟨?_,λc hc=>by unfold cOp at h;rw[hc]at h;cases h⟩
 unfold cOp at h
 split at h
 .rename_i x ho
  obtain⟨f,hf,h⟩:=qa h;cases h;exact .pure _ (qbl (.inl ho) hf)
 .rename_i x ho
  obtain⟨f,hf,h⟩:=qa h;cases h;exact .pure _ (qbl (.inr ho) hf)
 .rename_i x y z ho
  obtain⟨f,hf,h⟩:=qa h
  obtain⟨g,hg,h⟩:=qa h
  obtain⟨k,hk,h⟩:=qa h
  cases h;exact .pure _ (qer ho hf hg hk)
 .rename_i t ho
  obtain⟨zs,hz,h⟩:=qa h;cases h;exact .row _ (qbc ho hz)
 .rename_i ty x ho
  obtain⟨f,hf,h⟩:=qa h;cases h;exact .row _ (ok_box ho hf)
 .rename_i t ps ho
  obtain⟨zs,hz,h⟩:=qa h
  split at h
  .rename_i fs hu
   split at h
   .rename_i hall
    obtain⟨qs,hq,h⟩:=qa h
    cases h;exact .pure _ (Bd ho hu hz hall hq)
   .cases h
  .rename_i n e hu
   obtain⟨n,hn,h⟩:=qa h
   obtain⟨qs,hq,h⟩:=qa h
   cases h;exact .pure _ (Bb ho hu hz hn hq)
  .cases h
 .rename_i t len ps ho
  split at h
  .rename_i e hu
   obtain⟨n,hn,h⟩:=qa h
   obtain⟨zs,hz,h⟩:=qa h
   split at h
   .rename_i hc
    obtain⟨qs,hq,h⟩:=qa h
    cases h;exact .row _ (Ba ho hu hn hz hc hq)
   .cases h
  .cases h
 .rename_i t y ho
  obtain⟨d,hd,h⟩:=qa h
  obtain⟨f,hf,h⟩:=qa h
  split at h
  .rename_i ha
   obtain⟨n,hn,h⟩:=qa h
   cases h;exact .load _ _ (qbk ho hd ha hn hf)
  .rename_i ha
   cases h;exact .load _ _ (qbj ho hd (by simpa using ha) hf)
 .rename_i t y z ho
  obtain⟨n,hn,h⟩:=qa h
  obtain⟨f,hf,h⟩:=qa h
  obtain⟨g,hg,h⟩:=qa h
  cases h;exact .step _ (qbn ho hn hf hg) (λ_ _ _ _ _ h=>JL h)
 .rename_i x ho
  obtain⟨f,hf,h⟩:=qa h;cases h;exact .pure _ (qbm ho hf)
 .rename_i op t x y tz ho
  obtain⟨f,hf,h⟩:=qa h
  obtain⟨g,hg,h⟩:=qa h
  split at h
  .exact Kl ho rfl hf hg h
  .exact Kl ho rfl hf hg h
  .cases h;exact .pure _ (Xo ho (.inl rfl) hf hg)
  .cases h;exact .pure _ (Xo ho (.inr rfl) hf hg)
  .cases h;exact .pure _ (Yf ho hf hg)
 .rename_i op t x ho
  obtain⟨f,hf,h⟩:=qa h;cases h;exact .pure _ (ok_un ho hf)
 .rename_i s d x ho
  obtain⟨f,hf,h⟩:=qa h
  split at h
  .rename_i k0 k hs hd;cases h;exact .pure _ (qbe ho hs hd hf)
  .rename_i hs hd;cases h;exact .pure _ (qbf ho hs hd hf)
  .rename_i e hs hd
   split at h
   .rename_i he;cases h;exact .row _ (ok_s2b ho hs hd he hf)
   .cases h
  .rename_i e hs hd
   split at h
   .rename_i he;cases h;exact .step _ (ok_b2s ho hs hd he hf) (λ_ _ _ _ _ h=>GC h)
   .cases h
  .rename_i e0 e hs hd
   split at h
   .rename_i he
    split at h
    .rename_i hsd
     cases h
     have hsd:s=d:=by simpa using hsd
     subst hsd
     exact .step _ (qeo ho hd he hf) (λ_ _ _ _ _ h=>VF h)
    .cases h
   .cases h
  .cases h
 .rename_i t x ho
  split at h
  .cases h
  .rename_i d hni hd
   obtain⟨f,hf,h⟩:=qa h
   cases h;exact .pure _ (qeq ho hd (λms e=>hni ms e) hf)
  .cases h
 .rename_i x xt u ok ho
  split at h
  .rename_i e hd
   obtain⟨i,hi,h⟩:=qa h
   split at h
   .rename_i hz
    obtain⟨f,hf,h⟩:=qa h
    cases h;exact .pure _ (qek ho hd hi hz hf)
   .cases h
  .cases h
 .rename_i fn a b ho
  split at h
  .obtain⟨f,hf,h⟩:=qa h
   obtain⟨g,hg,h⟩:=qa h
   cases h;exact .pure _ (qep ho hf hg)
  .cases h
 .rename_i t l c ho
  split at h
  .rename_i e hu
   obtain⟨i,hi,h⟩:=qa h
   split at h
   .cases h
   .rename_i hsz
    obtain⟨zs,hz,h⟩:=qa h
    split at h
    .cases h
    .rename_i hzl
     obtain⟨f,hf,h⟩:=qa h
     obtain⟨g,hg,h⟩:=qa h
     cases h
     exact .row _ (Yh ho hu hi (by simpa using hsz) hz (by simpa using hzl) hf hg)
  .cases h
 .rename_i t x lo hi mx ho
  obtain⟨f,hf,h⟩:=qa h
  obtain⟨lo',hlo,h⟩:=qa h
  obtain⟨hi',hhi,h⟩:=qa h
  obtain⟨mx',hmx,h⟩:=qa h
  split at h
  .rename_i e hu
   obtain⟨n,hn,h⟩:=qa h
   cases h;exact .pure _ (ok_slice ho hu hn hf hlo hhi hmx)
  .rename_i hu
   split at h
   .cases h
   .rename_i hns
    cases h
    rcases zK hmx with ⟨rfl,rfl⟩ | ⟨y,g,rfl,rfl,_⟩
    .exact .pure _ (Bi ho hu hf hlo hhi)
    .simp at hns
  .rename_i n e hu
   obtain⟨k,hk,h⟩:=qa h
   cases h;exact .load _ _ (GZ ho hu hk hf hlo hhi hmx)
  .cases h
 .rename_i s x fi ho
  split at h
  .rename_i fs hu
   obtain⟨fd,hfd,h⟩:=qa h
   obtain⟨n,hn,h⟩:=qa h
   split at h
   .cases h
   .rename_i hn0
    obtain⟨f,hf,h⟩:=qa h
    cases h;exact .pure _ (qbh ho hu hfd hn (by simpa using hn0) hf)
  .cases h
 .rename_i s x fi ho
  split at h
  .rename_i fs hu
   obtain⟨fd,hfd,h⟩:=qa h
   obtain⟨d,hd,h⟩:=qa h
   obtain⟨n,hn,h⟩:=qa h
   obtain⟨f,hf,h⟩:=qa h
   cases h;exact .pure _ (qbi ho hu hfd hd hn hf)
  .cases h
 .rename_i t x i ho
  obtain⟨f,hf,h⟩:=qa h
  obtain⟨g,hg,h⟩:=qa h
  split at h
  .rename_i n e hu
   obtain⟨k,hk,h⟩:=qa h
   cases h;exact .pure _ (Be ho hu hk hf hg)
  .rename_i e hu
   obtain⟨k,hk,h⟩:=qa h
   cases h;exact .pure _ (Bf ho hu hk hf hg)
  .cases h
 .rename_i t x i ho
  obtain⟨f,hf,h⟩:=qa h
  obtain⟨g,hg,h⟩:=qa h
  split at h
  .rename_i n e hu
   obtain⟨d,hd,h⟩:=qa h
   obtain⟨k,hk,h⟩:=qa h
   split at h
   .rename_i hc
    cases h
    exact .pure _ (ok_idx ho hu hd hk (λhag=>by simpa [hag]using hc) hf hg)
   .cases h
  .rename_i hu
   cases h;exact .pure _ (qes ho hu hf hg)
  .cases h
 .rename_i x i ho
  obtain⟨f,hf,h⟩:=qa h;cases h;exact .pure _ (Yg ho hf)
 .rename_i t q ho
  split at h
  .rename_i e1 e2
   cases h
   exact .step _ (Xn ho (.inl rfl)) λ_ _ _ _ _=>Qa
  .rename_i e2
   cases h
   exact .step _ (Xn ho (.inr ⟨⟨_,_,rfl⟩,_,_,e2⟩)) λ_ _ _ _ _=>Qa
  .cases h
 .rename_i t y q ok ho
  split at h
  .rename_i kt et hu
   split at h
   .rename_i kk hk
    obtain⟨i,hi,h⟩:=qa h
    obtain⟨z,hz,h⟩:=qa h
    split at h
    .rename_i hc
     obtain⟨f,hf,h⟩:=qa h
     obtain⟨g,hg,h⟩:=qa h
     cases h
     exact .step _ (Bg ho hu hk hi hz hc hf hg) λ_ _ _ _ _=>Zm
    .cases h
   .cases h
  .cases h
 .rename_i t y q r ho
  split at h
  .rename_i kt et hu
   split at h
   .rename_i kk hk
    obtain⟨f,hf,h⟩:=qa h
    obtain⟨g,hg,h⟩:=qa h
    obtain⟨h0,hh,h⟩:=qa h
    cases h
    exact .step _ (bk (.inl ho) hu hk hf hg hh).1 (bk (.inl ho) hu hk hf hg hh).2
   .cases h
  .cases h
 .rename_i t y q r ho
  split at h
  .rename_i kt et hu
   split at h
   .rename_i kk hk
    obtain⟨f,hf,h⟩:=qa h
    obtain⟨g,hg,h⟩:=qa h
    obtain⟨h0,hh,h⟩:=qa h
    cases h
    exact .step _ (bk (.inr ho) hu hk hf hg hh).1 (bk (.inr ho) hu hk hf hg hh).2
   .cases h
  .cases h
 .rename_i c ho
  obtain⟨fs,hfs,h⟩:=qa h
  split at h
  .rename_i g hc
   cases h;exact .call c g fs ho hc hfs
  .rename_i y hy hc
   obtain⟨g,hg,h⟩:=qa h
   cases h;exact .callv c y g fs ho hc hg hfs
  .rename_i b hb
   exact QW ho hb hfs h
  .rename_i y name hc
   obtain⟨g,hg,h⟩:=qa h
   cases h;exact .invoke c y name g fs ho hc hg hfs
 .cases h
end
end Go.Dx
