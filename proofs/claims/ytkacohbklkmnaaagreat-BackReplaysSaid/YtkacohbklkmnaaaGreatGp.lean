/- Contracts. -/
import Derived.Test.YtkacohbklkmnaaaGreatGo
import Derived.Test.YtkacohbklkmnaaaGreatGm
import Derived.Test.YtkacohbklkmnaaaGreatGf
set_option linter.unusedVariables false
set_option linter.unusedSimpArgs false
set_option linter.defProp false
set_option maxHeartbeats 2000000
namespace Go.Sx
open Go.Dx Go.Proofs
set_option maxRecDepth 10000
theorem fR {EV:List Ev5}{kind:Int}{w:Wt}{l:List Nat}(h:evM EV kind w l=true):∃x l' e,l=x::l'/\EV[x]?=some e/\e.kind=kind/\e.mode=w.mode/\(kind=3\/e.loc=w.loc)/\(kind=2->e.val=w.val):=by
 cases l with
 | nil=>simp[evM]at h
 | cons x l' =>
  unfold evM at h;simp only at h;cases he:EV[x]? with
  | none=>rw[he]at h;cases h
  | some e =>
   rw[he]at h;simp only[qhb,Bool.or_eq_true,qi3,Bool.not_eq_true']at h;refine⟨x,l',e,rfl,he,h.1,h.2.1,h.2.2.1,λhk=>?_⟩;rcases h.2.2.2 with h' | h'
   .simp[hk]at h'
   .exact h'
theorem KM {EV:List Ev5}{kind:Int}{w:Wt}{x:Nat}{l':List Nat}{e:Ev5}(he:EV[x]?=some e)(h1:e.kind=kind)(h2:e.mode=w.mode)(h3:kind=3\/e.loc=w.loc)(h4:kind=2->e.val=w.val):evM EV kind w (x::l')=true:=by
 unfold evM;simp only;rw[he];simp only[qhb,Bool.or_eq_true,qi3,Bool.not_eq_true'];refine⟨h1,h2,h3,?_⟩;by_cases hk:kind=2
 .exact .inr (h4 hk)
 .exact .inl (qhw hk)
theorem qb6 {EV:List Ev5}{l:List Nat}{c x:Nat}{e:Ev5}(h:l[c]?=some x)(he:EV[x]?=some e):evL EV (l.take (c+1))=evL EV (l.take c)++[e]:=by
 unfold evL;rw[take_at h,List.filterMap_append];simp[he]
theorem rds_at {EV:List Ev5}{l:List Nat}{c x:Nat}{e:Ev5}(h:l[c]?=some x)(he:EV[x]?=some e)(hk:e.kind=1):(ky EV l)[(ky EV (l.take c)).length]?=some e.val:=by
 have h1:ky EV l=ky EV (l.take (c+1))++ky EV (l.drop (c+1)):=by
  unfold ky;rw[<-List.filterMap_append,List.take_append_drop]
 rw[h1,QP h he,qhz hk,List.append_assoc,qhl (qh8 _),Nat.sub_self];rfl
theorem drop_at {l:List Nat}{c x:Nat}(h:l[c]?=some x):l.drop c=x::l.drop (c+1):=by
 obtain⟨h1,h2⟩:=qh7.1 h;rw[List.drop_eq_getElem_cons h1,h2]
structure RY (EV:List Ev5)(RM:List (Int × Int))(l0:List Nat)(b:Bs)(r:Rn):Prop where
 at_:∃c,c<=l0.length/\b.l=l0.drop c/\r.evs=evL EV (l0.take c)/\r.used=(ky EV (l0.take c)).length/\(b.s.opn=true->∃x,0<c/\l0[c-1]?=some x/\b.opn=x)
 outs:b.r.outs=r.outs
 rmw:b.r.rmw=r.rmw.map λq=>(atL l0 q.1,atL l0 q.2)
 inR:∀q∈b.r.rmw,q∈RM
theorem Jh (s:Ms)(a:Ac)(v:U):(qY s a v).asked=false:=by
 unfold qY jn;split
 .split
  .rfl
  .split
   .rfl
   .split<;>rfl
 .split
  .rfl
  .split<;>rfl
theorem KP {s:Ms}{a:Ac}{v:U}(h0:s.opn=false)(h:(qY s a v).opn=true):(qY s a v).at_=s.at_/\s.now.what=1/\s.now.ex=true:=by
 unfold qY at h ⊢;by_cases h1:s.now.what=1/\s.now.ex=true
 .rw[qhz h1]at h ⊢;by_cases h2:a.op≠6\/(zf s.ls a.es).1=v.1
  .rw[qhz h2];exact⟨rfl,h1⟩
  .rw[qhy h2]at h;exfalso;unfold jn at h;split at h
   .cases h
   .split at h
    .rw[show _=s.opn from rfl,h0]at h;cases h
    .rw[show _=s.opn from rfl,h0]at h;cases h
 .rw[qhy h1]at h;exfalso;unfold jn at h;split at h
  .cases h
  .split at h
   .rw[show _=s.opn from rfl,h0]at h;cases h
   .rw[show _=s.opn from rfl,h0]at h;cases h
theorem qbd {s:Ms}{a:Ac}(h:s.now.what=2)(v w:U):qY s a v=qY s a w:=by
 have f:∀v,qY s a v=jn { s with asked:=false } a v:=λv=>by
  unfold qY;rw[qhy (λhc=>by have:=hc.1;omega)]
 rw[f,f];unfold jn;split
 .rfl
 .rw[qhy (show ¬s.now.what=1 by omega)];rw[qhy (show ¬s.now.what=1 by omega)]
structure SN (acts:List Ac)(s:Ms)(a:Ac):Prop where
 act:acts[s.at_]?=some a
 own:ownB a=false
 nx:wW s a=s
theorem FC {acts:List Ac}{s:Ms}{a:Ac}(hs:s.asked=false)(ha:acts[(qG acts s).at_]?=some a)(how:ownB a=false):SN acts (qG acts s) a:=by
 refine⟨ha,how,?_⟩;have h1:=JG (acts:=acts) hs;have h2:=JH (acts:=acts) hs;unfold jl at h2;rw[ha]at h2;simp only[how,Bool.false_eq_true,if_false]at h2;show Ms.mk _ _ _ _ _ _=_;rw[<-h2,<-h1]
theorem sn_now {acts:List Ac}{s:Ms}{a:Ac}(h:SN acts s a):s.now=qi s a:=by
 have:=h.nx;rw[<-this];show qi s a=qi (wW s a) a;rw[this]
theorem JJ {acts:List Ac}{s:Ms}{a:Ac}(hs:s.asked=false)(ha:acts[s.at_]?=some a)(how:ownB a=false):qG acts s=wW s a:=by
 rw[ft hs,jh _ (show acts[({ s with asked:=true }:Ms).at_]?=some a from ha) how];unfold bg jl;simp only[ha,how];rfl
section
variable {EV:List Ev5}{RM:List (Int × Int)}{l0:List Nat}{th:Int}{acts:List Ac}{b:Bs}{r:Rn}{a:Ac}
def EvT (EV:List Ev5)(l0:List Nat)(th:Int):Prop:=∀x∈l0,∃e,EV[x]?=some e/\e.th=th/\(e.kind=3->e.loc=-1/\e.val=u0)
def yT (acts:List Ac)(EV:List Ev5)(RM:List (Int × Int))(b:Bs)(S:Ms)(a:Ac):Option Bs :=
 if (qi S a).what=1 then
  if evM EV 1 (qi S a) b.l then some ⟨qY S a (Vy EV b.l),b.l.tail,if (qi S a).ex then hd b.l b.opn else b.opn,b.r⟩ else none
 else if (qi S a).what=2 then
  if (qi S a).ex then
   if PaB RM b.opn b.l&&evM EV 2 (qi S a) b.l then some ⟨qY S a u1,b.l.tail,-1,{ b.r with rmw:=b.r.rmw++[(b.opn,hd b.l b.opn)] }⟩ else none
  else if evM EV 2 (qi S a) b.l then some ⟨qY S a u0,b.l.tail,b.opn,b.r⟩ else none
 else if (qi S a).what=3 then
  if evM EV 3 (qi S a) b.l then some ⟨qY S a u0,b.l.tail,b.opn,b.r⟩ else none
 else if b.r.outs.length<100000 then some ⟨qY S a u0,b.l,b.opn,{ b.r with outs:=b.r.outs++[(qi S a).val] }⟩ else none
theorem yI (f:Nat)(ha:acts[(qG acts b.s).at_]?=some a)(how:ownB a=false):jf acts EV RM (f+1) b=match yT acts EV RM b (qG acts b.s) a with
  | none=>none
  | some b'=>jf acts EV RM f b':=by
 conv=>lhs;unfold jf
 rw[ha];simp only[how,Bool.false_eq_true,if_false];unfold yT;split
 .split<;>rfl
 .split
  .split
   .split<;>rfl
   .split<;>rfl
  .split
   .split<;>rfl
   .split<;>rfl
theorem FB {c:Nat}{x:Nat}{e:Ev5}{r':Rn}{b':Bs}(hc:l0[c]?=some x)(he:EV[x]?=some e)(hbl:b.l=l0.drop c)(hev:r.evs=evL EV (l0.take c))(hu:r.used=(ky EV (l0.take c)).length)
  (h1:b'.l=b.l.tail) (h2:r'.evs=r.evs++[e]) (h3:r'.used=if e.kind=1 then r.used+1 else r.used) (h4:b'.s.opn=true->b'.opn=x) (ho:b'.r.outs=r'.outs) (hm:b'.r.rmw=r'.rmw.map λq=>(atL l0 q.1,atL l0 q.2)) (hi:∀q∈b'.r.rmw,q∈RM):RY EV RM l0 b' r':=by
 have hcl:=(qh7.1 hc).1;refine⟨⟨c+1,by omega,?_,?_,?_,λhb=>⟨x,by omega,by simpa using hc,h4 hb⟩⟩,ho,hm,hi⟩
 .rw[h1,hbl,drop_at hc];rfl
 .rw[h2,hev,qb6 hc he]
 .rw[h3,hu,QP hc he];split
  .simp
  .rfl
theorem vn {w:Wt}{v:U}(h4:w.what≠4)(h2:¬(w.what=2/\w.ex=true))(r:Rn):kh th w v r=⟨r.evs++[wR th w v],r.outs,r.rmw,r.used⟩:=by
 unfold kh;rw[qhy h4,qhy h2]
theorem FG {w:Wt}{v:U}(h2:w.what=2)(hx:w.ex=true)(r:Rn):kh th w v r=⟨r.evs++[wR th w v],r.outs,r.rmw++[((r.evs.length:Int)-1,(r.evs.length:Int))],r.used⟩:=by
 unfold kh;rw[qhy (by omega),qhz ⟨h2,hx⟩]
theorem Xo {w:Wt}{v:U}(h4:w.what=4)(r:Rn):kh th w v r=⟨r.evs,r.outs++[w.val],r.rmw,r.used⟩:=by
 unfold kh;rw[qhz h4]
theorem ZB {S:Ms}{b':Bs}(H:RY EV RM l0 b r)(hT:EvT EV l0 th)(hS:SN acts S a)(hop:1<=a.op/\a.op<=10)(hso:S.opn=b.s.opn)(hoo:b.s.opn=true->a.op=4\/a.op=5\/a.op=6)(h:yT acts EV RM b S a=some b')(hln:b.r.outs.length<=100000) :
  ∃y,zv th (ky EV l0) a S r=.inr y/\RY EV RM l0 b' y.2/\b'.s=y.1/\b'.r.outs.length<=100000:=by
 obtain⟨⟨c,hc1,hc2,hc3,hc4,hc5⟩,ho,hm,hi⟩:=H;have hnow:=sn_now hS;have hno:=YZ hS.own;have look:∀{x:Nat} {l':List Nat} {e:Ev5},b.l=x::l'->EV[x]?=some e->l0[c]?=some x/\e.th=th/\(e.kind=3->e.loc=-1/\e.val=u0):=λ{x l' e} hb he=>by
  rw[hc2]at hb;have hlt:c<l0.length:=by
   refine Classical.byContradiction λhn=>?_;rw[List.drop_eq_nil_of_le (by omega)]at hb;cases hb
  have hx:l0[c]?=some x:=by
   rw[List.drop_eq_getElem_cons hlt]at hb;cases hb;exact qh5 hlt
  obtain⟨e',q1,q2,q3⟩:=hT x (qh6 hx);rw[he]at q1;cases q1;exact⟨hx,q2,q3⟩
 have fo:∀v,(qY S a v).opn=true->S.opn=false->(qi S a).what=1/\(qi S a).ex=true:=λv hv h0=>by
  have:=KP h0 hv;rw[hnow]at this;exact this.2
 unfold yT at h;unfold zv;rw[hS.nx];have hwh:=xc S a;rcases hwh with q | q | q | q
 .rw[qhz q]at h ⊢;split at h
  .rename_i hM;cases h;obtain⟨x,l',e,p1,p2,p3,p4,p5,_⟩:=fR hM;obtain⟨hx,hth,_⟩:=look p1 p2;have hrd:=rds_at hx p2 p3;rw[<-hc4]at hrd;have hfv:Vy EV b.l=e.val:=by rw[p1];unfold Vy;simp only[p2]
   have hev:wR th (qi S a) e.val=e:=by
    unfold wR;rw[qhz q];rcases p5 with h5 | h5
    .omega
    .obtain⟨e1,e2,e3,e4,e5⟩:=e;simp only at hth p3 p4 h5;rw[hth,p3,<-p4,<-h5]
   rw[hrd,hfv];simp only;rw[vn (by omega) (by omega),hev];refine⟨_,rfl,?_,rfl,hln⟩;refine FB hx p2 hc2 hc3 hc4 rfl rfl (by rw[qhz p3]) (λhb=>?_) ho hm hi;have h0:S.opn=false:=by
    cases hc:S.opn with
    | false=>rfl
    | true =>
     have h6:=hoo (by rw[<-hso];exact hc);have hw:=q;unfold qi at hw;rw[qhy (by omega),qhy (by omega),qhy (by omega),qhy (by omega),hc]at hw;simp at hw
   have:=(fo _ hb h0).2;show (if (qi S a).ex then hd b.l b.opn else b.opn)=_
   rw[qhz this,p1];rfl
  .cases h
 .rw[qhy (by omega),qhz q]at h;rw[qhy (by omega)];have nof:∀v,(qY S a v).opn=true->False:=λv hv=>by
   cases hc:S.opn with
   | false=>have:=(fo v hv hc).1;omega
   | true =>
    have h6:=hoo (by rw[<-hso];exact hc);have hx:(qi S a).ex=true:=by
     unfold qi;rw[qhy (by omega),qhy (by omega),qhy (by omega),qhy (by omega),hc];rfl
    unfold qY at hv;rw[hnow,qhy (λhc=>by have:=hc.1;omega)]at hv;unfold jn at hv;rw[qhz (show (qi S a).ex=true/\S.opn=true from ⟨hx,hc⟩)]at hv;cases hv
  cases hx:(qi S a).ex with
  | true =>
   rw[hx,qhz rfl]at h;split at h
   .rename_i hM;cases h;rw[qhb]at hM;obtain⟨x,l',e,p1,p2,p3,p4,p5,p6⟩:=fR hM.2;obtain⟨hxl,hth,_⟩:=look p1 p2;have hP:=hM.1;unfold PaB at hP;rw[p1]at hP;simp only[qhb,qi3]at hP;have hev:wR th (qi S a) u0=e:=by
     unfold wR;rw[qhy (by omega),qhz q];rcases p5 with h5 | h5
     .omega
     .obtain⟨e1,e2,e3,e4,e5⟩:=e;simp only at hth p3 p4 h5 p6;rw[hth,p3,<-p4,<-h5,p6 trivial]
    have hbo:b.s.opn=true:=by
     rw[<-hso];cases hc:S.opn with
     | true=>rfl
     | false =>
      have h6:=jy S a hS.own hop hx;have hw:=q;unfold qi at hw;rw[qhy (by omega),qhy (by omega),qhy (by omega),qhy (by omega),hc]at hw;simp at hw
    obtain⟨z,z1,z2,z3⟩:=hc5 hbo;rw[FG q hx,hev,qbd (by rw[hnow];exact q) u0 u1];have hlen:r.evs.length=c:=by
     rw[hc3,xx (λi hi=>?_),List.length_take]
     .omega
     .obtain⟨e',q1,_⟩:=hT i (List.mem_of_mem_take hi);exact (qh7.1 q1).1
    refine⟨_,rfl,?_,rfl,hln⟩;refine FB hxl p2 hc2 hc3 hc4 rfl rfl (by rw[qhy (by omega)]) (λhb=>(nof _ hb).elim) ho ?_ ?_
    .show b.r.rmw++[(b.opn,hd b.l b.opn)]=List.map _ (r.rmw++[((r.evs.length:Int)-1,(r.evs.length:Int))]);rw[List.map_append,hm,p1,hlen]
     congr 1
     have h1:atL l0 ((c:Int)-1)=b.opn:=by
      unfold atL;rw[show ((c:Int)-1).toNat=c-1 by omega,List.getD_eq_getElem?_getD,z2,z3];rfl
     have h2:atL l0 (c:Int)=x:=by
      unfold atL;rw[qhj,List.getD_eq_getElem?_getD,hxl];rfl
     show [(b.opn,(x:Int))]=[(atL l0 ((c:Int)-1),atL l0 (c:Int))];rw[h1,h2]
    .intro p hp;rw[qhu]at hp;rcases hp with hp | hp
     .exact hi p hp
     .rw[qhc]at hp;rw[hp,p1];exact hP.2
   .cases h
  | false =>
   rw[hx,qhy (by simp)]at h;split at h
   .rename_i hM;cases h;obtain⟨x,l',e,p1,p2,p3,p4,p5,p6⟩:=fR hM;obtain⟨hxl,hth,_⟩:=look p1 p2;have hev:wR th (qi S a) u0=e:=by
     unfold wR;rw[qhy (by omega),qhz q];rcases p5 with h5 | h5
     .omega
     .obtain⟨e1,e2,e3,e4,e5⟩:=e;simp only at hth p3 p4 h5 p6;rw[hth,p3,<-p4,<-h5,p6 trivial]
    rw[vn (by omega) (by rw[hx];simp),hev];refine⟨_,rfl,?_,rfl,hln⟩;exact FB hxl p2 hc2 hc3 hc4 rfl rfl (by rw[qhy (by omega)]) (λhb=>(nof _ hb).elim) ho hm hi
   .cases h
 .rw[qhy (by omega),qhy (by omega),qhz q]at h;rw[qhy (by omega)];have hS0:S.opn=false:=by
   cases hc:S.opn with
   | false=>rfl
   | true =>
    have h6:=hoo (by rw[<-hso];exact hc);have hw:=q;unfold qi at hw;rw[qhy (by omega),qhy (by omega),qhy (by omega),qhy (by omega),hc]at hw;simp at hw
  split at h
  .rename_i hM;cases h;obtain⟨x,l',e,p1,p2,p3,p4,p5,p6⟩:=fR hM;obtain⟨hxl,hth,h3⟩:=look p1 p2;have h3':=h3 p3;have hev:wR th (qi S a) u0=e:=by
    unfold wR;rw[qhy (by omega),qhy (by omega)];obtain⟨e1,e2,e3,e4,e5⟩:=e;simp only at hth p3 p4 h3';rw[hth,p3,<-p4,h3'.1,h3'.2]
   rw[vn (by omega) (by omega),hev];refine⟨_,rfl,?_,rfl,hln⟩;exact FB hxl p2 hc2 hc3 hc4 rfl rfl (by rw[qhy (by omega)]) (λhb=>by have:=(fo _ hb hS0).1;omega) ho hm hi
  .cases h
 .rw[qhy (by omega),qhy (by omega),qhy (by omega)]at h;rw[qhy (by omega)];have hS0:S.opn=false:=by
   cases hc:S.opn with
   | false=>rfl
   | true =>
    have h6:=hoo (by rw[<-hso];exact hc);have hw:=q;unfold qi at hw;rw[qhy (by omega),qhy (by omega),qhy (by omega),qhy (by omega),hc]at hw;simp at hw
  split at h
  .rename_i hlt;cases h;rw[Xo q];refine⟨_,rfl,⟨⟨c,hc1,hc2,hc3,hc4,λhb=>by have:=(fo _ hb hS0).1;omega⟩,by show b.r.outs++_=r.outs++_;rw[ho],hm,hi⟩,rfl,by simp;omega⟩
  .cases h
end
structure Pfx (EV:List Ev5)(RM:List (Int × Int))(l0:List Nat)(r:Rn):Prop where
 ev:∃t,r.evs++t=evL EV l0
 rm:∀q∈r.rmw,(atL l0 q.1,atL l0 q.2)∈RM
 ou:r.outs.length<=100000
section
variable {EV:List Ev5}{RM:List (Int × Int)}{l0:List Nat}{th:Int}{acts:List Ac}{b:Bs}{r:Rn}{a:Ac}
theorem qdl {S:Ms}{y:Ms × Rn}(H:RY EV RM l0 b r)(hT:EvT EV l0 th)(hS:SN acts S a)(hop:1<=a.op/\a.op<=10)(hso:S.opn=b.s.opn)(h:zv th (ky EV l0) a S r=.inr y)(hp:Pfx EV RM l0 y.2):∃b',yT acts EV RM b S a=some b':=by
 obtain⟨⟨c,hc1,hc2,hc3,hc4,hc5⟩,ho,hm,hi⟩:=H;obtain⟨⟨t,ht⟩,hrm,hou⟩:=hp;have hlok:∀i∈l0,i<EV.length:=λi hi=>by
  obtain⟨e',q1,_⟩:=hT i hi;exact (qh7.1 q1).1
 have hlen:r.evs.length=c:=by
  rw[hc3,xx (λi hi=>hlok i (List.mem_of_mem_take hi)),List.length_take];omega
 have look:∀{e:Ev5},y.2.evs=r.evs++[e]->∃x,l0[c]?=some x/\EV[x]?=some e/\b.l=x::l0.drop (c+1):=λ{e} he=>by
  rw[he,List.append_assoc]at ht;have h1:(evL EV l0)[c]?=some e:=by
   rw[<-ht,qhl (by omega),hlen,Nat.sub_self];rfl
  have hlt:c<l0.length:=by
   have:=(qh7.1 h1).1;rw[xx hlok]at this;exact this
  obtain⟨x,hx⟩:∃x,l0[c]?=some x:=⟨_,qh5 hlt⟩;rw[qb2 hlok hx]at h1;exact⟨x,hx,h1,by rw[hc2,drop_at hx]⟩
 unfold zv at h;rw[hS.nx]at h;unfold yT;have hwh:=xc S a;rcases hwh with q | q | q | q
 .rw[qhz q]at h ⊢;cases hr:(ky EV l0)[r.used]? with
  | none=>rw[hr]at h;cases h
  | some v =>
   rw[hr]at h;simp only at h;rw[vn (by omega) (by omega)]at h;cases h;obtain⟨x,h1,h2,h3⟩:=look rfl;have he:wR th (qi S a) v=⟨th,1,(qi S a).loc,v,(qi S a).mode⟩:=by unfold wR;rw[qhz q]
   rw[he]at h2;rw[h3,qhz (KM h2 rfl rfl (.inr rfl) (λhc=>by cases hc))];exact⟨_,rfl⟩
 .rw[qhy (by omega)]at h;rw[qhy (by omega),qhz q];have he:wR th (qi S a) u0=⟨th,2,(qi S a).loc,(qi S a).val,(qi S a).mode⟩:=by unfold wR;rw[qhy (by omega),qhz q]
  cases hx:(qi S a).ex with
  | true =>
   rw[FG q hx]at h;cases h;obtain⟨x,h1,h2,h3⟩:=look rfl;rw[he]at h2;have hbo:b.s.opn=true:=by
    rw[<-hso];cases hc:S.opn with
    | true=>rfl
    | false =>
     have h6:=jy S a hS.own hop hx;have hw:=q;unfold qi at hw;rw[qhy (by omega),qhy (by omega),qhy (by omega),qhy (by omega),hc]at hw;simp at hw
   obtain⟨z,z1,z2,z3⟩:=hc5 hbo;have hq:=hrm ((r.evs.length:Int)-1,(r.evs.length:Int)) (by simp);have a1:atL l0 ((r.evs.length:Int)-1)=b.opn:=by
    unfold atL;rw[hlen,show ((c:Int)-1).toNat=c-1 by omega,List.getD_eq_getElem?_getD,z2,z3];rfl
   have a2:atL l0 (r.evs.length:Int)=x:=by
    unfold atL;rw[hlen,qhj,List.getD_eq_getElem?_getD,h1];rfl
   simp only at hq;rw[a1,a2]at hq;have hP:PaB RM b.opn b.l=true:=by
    unfold PaB;rw[h3];simp only[qhb,qi3];exact⟨by rw[z3];omega,hq⟩
   rw[qhz rfl,hP,h3,qhz (by rw[KM h2 rfl rfl (.inr rfl) (λ_=>rfl)];rfl)];exact⟨_,rfl⟩
  | false =>
   rw[vn (by omega) (by rw[hx];simp)]at h;cases h;obtain⟨x,h1,h2,h3⟩:=look rfl;rw[he]at h2;rw[qhy (by simp),h3,qhz (KM h2 rfl rfl (.inr rfl) (λ_=>rfl))];exact⟨_,rfl⟩
 .rw[qhy (by omega)]at h;rw[qhy (by omega),qhy (by omega),qhz q];have he:wR th (qi S a) u0=⟨th,3,-1,u0,(qi S a).mode⟩:=by unfold wR;rw[qhy (by omega),qhy (by omega)]
  rw[vn (by omega) (by omega)]at h;cases h;obtain⟨x,h1,h2,h3⟩:=look rfl;rw[he]at h2;rw[h3,qhz (KM h2 rfl rfl (.inl rfl) (λhc=>by cases hc))];exact⟨_,rfl⟩
 .rw[qhy (by omega)]at h;rw[qhy (by omega),qhy (by omega),qhy (by omega)];rw[Xo q]at h;cases h;have:b.r.outs.length<100000:=by
   rw[ho];simp at hou;omega
  rw[qhz this];exact⟨_,rfl⟩
end
theorem qe5 {acts:List Ac}:∀(f:Nat) (s:Ms),(adv acts f s).opn=s.opn:=by
 intro f
 induction f with
 | zero=>intro s;rw[jA]
 | succ f ih =>
  intro s;cases ha:acts[s.at_]? with
  | none=>rw[jz _ ha]
  | some a =>
   cases ho:ownB a with
   | true=>rw[xw _ ha ho,ih,(Kd s a).2]
   | false=>rw[jh _ ha ho]
section
variable {EV:List Ev5}{RM:List (Int × Int)}{l0:List Nat}{th:Int}{acts:List Ac}{b:Bs}{r:Rn}{a:Ac}{reads:List U}
theorem Ws (s:Ms):zv th reads a (wW s a) r=zv th reads a s r:=by
 have hw:qi (wW s a) a=qi s a:=ZG rfl rfl (λ_=>rfl);have hn:wW (wW s a) a=wW s a:=by
  show Ms.mk _ _ (qi (wW s a) a) _ _ _=Ms.mk _ _ (qi s a) _ _ _;rw[hw];rfl
 unfold zv;rw[hw,hn]
theorem fH {s:Ms}{y:Ms × Rn}(h:zv th reads a s r=.inr y):y.1.asked=false/\(s.opn=false->y.1.opn=true->y.1.at_=s.at_/\(qi s a).what=1/\(qi s a).ex=true):=by
 unfold zv at h;split at h
 .split at h
  .cases h
  .cases h;exact⟨Jh _ _ _,λh0 h1=>KP (s:=wW s a) h0 h1⟩
 .cases h;exact⟨Jh _ _ _,λh0 h1=>KP (s:=wW s a) h0 h1⟩
theorem Wo {S:Ms}{b':Bs}(h:yT acts EV RM b S a=some b')(hn:b.r.outs.length<=100000):b'.l.length+(100000-b'.r.outs.length)+1=b.l.length+(100000-b.r.outs.length)/\b'.r.outs.length<=100000:=by
 have key:∀{k:Int} {w:Wt},evM EV k w b.l=true->b.l.tail.length+1=b.l.length:=λhM=>by
  have:=Qj hM;rw[List.length_tail];omega
 unfold yT at h;split at h
 .split at h
  .rename_i hM;cases h;have:=key hM;exact⟨by show b.l.tail.length+(100000-b.r.outs.length)+1=b.l.length+(100000-b.r.outs.length);omega,hn⟩
  .cases h
 .split at h
  .split at h
   .split at h
    .rename_i hM;cases h;rw[qhb]at hM;have:=key hM.2;exact⟨by show b.l.tail.length+(100000-b.r.outs.length)+1=b.l.length+(100000-b.r.outs.length);omega,hn⟩
    .cases h
   .split at h
    .rename_i hM;cases h;have:=key hM;exact⟨by show b.l.tail.length+(100000-b.r.outs.length)+1=b.l.length+(100000-b.r.outs.length);omega,hn⟩
    .cases h
  .split at h
   .split at h
    .rename_i hM;cases h;have:=key hM;exact⟨by show b.l.tail.length+(100000-b.r.outs.length)+1=b.l.length+(100000-b.r.outs.length);omega,hn⟩
    .cases h
   .split at h
    .cases h;simp;omega
    .cases h
theorem dY {s:Ms}{y:Ms × Rn}(h:zv th reads a s r=.inr y):(∃t,r.evs++t=y.2.evs)/\(∀q∈r.rmw,q∈y.2.rmw)/\r.outs.length<=y.2.outs.length:=by
 have key:∀(w:Wt) (v:U) (r':Rn),r'.evs=r.evs->r'.rmw=r.rmw->r'.outs=r.outs->(∃t,r.evs++t=(kh th w v r').evs)/\(∀q∈r.rmw,q∈(kh th w v r').rmw)/\r.outs.length<=(kh th w v r').outs.length:=λw v r' h1 h2 h3=>by
  unfold kh;split
  .exact⟨⟨[],by simp[h1]⟩,λq hq=>by rw[<-h2]at hq;exact hq,by simp[h3]⟩
  .refine⟨⟨_,by rw[<-h1]⟩,λq hq=>?_,by simp[h3]⟩;simp only;split
   .rw[h2];exact List.mem_append_left _ hq
   .rw[h2];exact hq
 unfold zv at h;split at h
 .split at h
  .cases h
  .cases h;exact key _ _ _ rfl rfl rfl
 .cases h;exact key _ _ _ rfl rfl rfl
theorem Pfx.back {r r':Rn}(h:Pfx EV RM l0 r')(k:(∃t,r.evs++t=r'.evs)/\(∀q∈r.rmw,q∈r'.rmw)/\r.outs.length<=r'.outs.length):Pfx EV RM l0 r:=by
 obtain⟨⟨t,ht⟩,k2,k3⟩:=k;obtain⟨t',ht'⟩:=h.ev;exact⟨⟨t++t',by rw[<-ht',<-ht,List.append_assoc]⟩,λq hq=>h.rm q (k2 q hq),qhh k3 h.ou⟩
theorem qe2 {s:Ms}{y:Ms × Rn}(h:dS th reads a s r=.inr y):(∃t,r.evs++t=y.2.evs)/\(∀q∈r.rmw,q∈y.2.rmw)/\r.outs.length<=y.2.outs.length:=by
 unfold dS at h;cases hb:zv th reads a s r with
 | inl l=>rw[hb]at h;cases h
 | inr x =>
  rw[hb]at h;simp only at h;have h1:=dY hb;split at h
  .obtain⟨⟨t2,q1⟩,q2,q3⟩:=dY h;obtain⟨⟨t1,p1⟩,p2,p3⟩:=h1;exact⟨⟨t1++t2,by rw[<-List.append_assoc,p1,q1]⟩,λq hq=>q2 q (p2 q hq),qhh p3 q3⟩
  .cases h;exact h1
structure RB0 (EV:List Ev5)(RM:List (Int × Int))(l0:List Nat)(b:Bs)(r:Rn):Prop where
 ry:RY EV RM l0 b r
 opn:b.s.opn=false
 ask:b.s.asked=false
 ou:b.r.outs.length<=100000
theorem JI {s:Ms}(h:s.asked=false)(h0:s.opn=false):(qG acts s).opn=false:=by
 rw[ft h];show (adv acts 100000 _).opn=false;rw[qe5];exact h0
theorem act_B {f:Nat}{rr:Rn}(H:RB0 EV RM l0 b r)(hT:EvT EV l0 th)(ha:acts[(qG acts b.s).at_]?=some a)(how:ownB a=false)(hop:1<=a.op/\a.op<=10)(h:jf acts EV RM (f+1) b=some rr) :
  ∃x,wX th (ky EV l0) a (qG acts b.s).ls r=.inr x/\∃b' f',f'<=f/\jf acts EV RM f' b'=some rr/\RB0 EV RM l0 b' x.2/\b'.s.at_=(qG acts b.s).at_+1/\b'.s.ls=jc (qG acts b.s).ls a x.1:=by
 have hS:=FC H.ask ha how;have hS0:=JI (acts:=acts) H.ask H.opn;obtain⟨S,hSd⟩:=qi4 (qG acts b.s);rw[yI f ha how]at h;rw[<-hSd]at h hS hS0 ha ⊢;cases hb:yT acts EV RM b S a with
 | none=>rw[hb]at h;cases h
 | some b1 =>
  rw[hb]at h;simp only at h;obtain⟨y1,e1,e2,e3,e4⟩:=ZB H.ry hT hS hop (by rw[hS0,H.opn]) (λhc=>by rw[H.opn]at hc;cases hc) hb H.ou;have k1:=fH e1;obtain⟨s1,s2⟩:=QU (th:=th) (reads:=ky EV l0) (r:=r) how hop hS0;have fin:∀y b' f',dS th (ky EV l0) a S r=.inr y->f'<=f->jf acts EV RM f' b'=some rr->RY EV RM l0 b' y.2->b'.s=y.1->y.1.asked=false->b'.r.outs.length<=100000->∃x,wX th (ky EV l0) a S.ls r=.inr x/\∃b' f',f'<=f/\jf acts EV RM f' b'=some rr/\RB0 EV RM l0 b' x.2/\b'.s.at_=S.at_+1/\b'.s.ls=jc S.ls a x.1:=λy b' f' hy hf hr hry hs hask hou=>by
   cases hst:wX th (ky EV l0) a S.ls r with
   | inl l=>rw[s1 l hst]at hy;cases hy
   | inr x =>
    obtain⟨y',p1,p2,p3,p4,p5⟩:=s2 x hst;rw[hy]at p1;cases p1;exact⟨x,rfl,b',f',hf,hr,⟨by rw[<-p5];exact hry,by rw[hs];exact p4,by rw[hs];exact hask,hou⟩,by rw[hs];exact p2,by rw[hs];exact p3⟩
  have hact:dS th (ky EV l0) a S r=if y1.1.opn then zv th (ky EV l0) a y1.1 y1.2 else .inr y1:=by
   unfold dS;rw[e1]
  cases ho:y1.1.opn with
  | false =>
   rw[ho,qhy (by simp)]at hact;exact fin y1 b1 f hact (qh8 _) h e2 e3 k1.1 e4
  | true =>
   rw[ho,qhz rfl]at hact;obtain⟨a1,a2,a3⟩:=k1.2 hS0 ho;cases f with
   | zero=>cases h
   | succ f =>
    have hat1:acts[b1.s.at_]?=some a:=by rw[e3,a1];exact ha
    have hask1:b1.s.asked=false:=by rw[e3];exact k1.1
    have hS2e:=JJ hask1 hat1 how;have hat2:acts[(qG acts b1.s).at_]?=some a:=by rw[hS2e];exact hat1
    rw[yI f hat2 how]at h;have hS2:=FC hask1 hat2 how;rw[hS2e]at h hS2;cases hb2:yT acts EV RM b1 (wW b1.s a) a with
    | none=>rw[hb2]at h;cases h
    | some b2 =>
     rw[hb2]at h;simp only at h;have hop3:=jy S a how hop a3;obtain⟨y2,g1,g2,g3,g4⟩:=ZB e2 hT hS2 hop rfl (λ_=>hop3) hb2 e4;rw[Ws,e3]at g1;rw[g1]at hact;exact fin y2 b2 f hact (by omega) h g2 g3 (fH g1).1 g4
theorem act_A {x:U × Rn}(H:RB0 EV RM l0 b r)(hT:EvT EV l0 th)(ha:acts[(qG acts b.s).at_]?=some a)(how:ownB a=false)(hop:1<=a.op/\a.op<=10)(h:wX th (ky EV l0) a (qG acts b.s).ls r=.inr x)(hp:Pfx EV RM l0 x.2) :
  ∃b',RB0 EV RM l0 b' x.2/\b'.s.at_=(qG acts b.s).at_+1/\b'.s.ls=jc (qG acts b.s).ls a x.1/\∃d,(b'.l.length+(100000-b'.r.outs.length))+d=b.l.length+(100000-b.r.outs.length)/\∀f,jf acts EV RM (f+d) b=jf acts EV RM f b':=by
 have hS:=FC H.ask ha how;have hS0:=JI (acts:=acts) H.ask H.opn;have rs:=λf=>yI (EV:=EV) (RM:=RM) f ha how;obtain⟨S,hSd⟩:=qi4 (qG acts b.s);rw[<-hSd]at h hS hS0 ha ⊢;simp only[<-hSd]at rs;obtain⟨s1,s2⟩:=QU (th:=th) (reads:=ky EV l0) (r:=r) how hop hS0;obtain⟨y,p1,p2,p3,p4,p5⟩:=s2 x h;rw[<-p5]at hp ⊢;cases hb1:zv th (ky EV l0) a S r with
 | inl l =>
  unfold dS at p1;rw[hb1]at p1;cases p1
 | inr y1 =>
  have hact:dS th (ky EV l0) a S r=if y1.1.opn then zv th (ky EV l0) a y1.1 y1.2 else .inr y1:=by
   unfold dS;rw[hb1]
  rw[p1]at hact;have k1:=fH hb1;have hp1:Pfx EV RM l0 y1.2:=by
   split at hact
   .exact hp.back (dY hact.symm)
   .cases hact;exact hp
  obtain⟨b1,hbb⟩:=qdl H.ry hT hS hop (by rw[hS0,H.opn]) hb1 hp1;obtain⟨y1',e1,e2,e3,e4⟩:=ZB H.ry hT hS hop (by rw[hS0,H.opn]) (λhc=>by rw[H.opn]at hc;cases hc) hbb H.ou;rw[hb1]at e1;cases e1;have n1:=Wo hbb H.ou;cases ho:y1.1.opn with
  | false =>
   rw[ho,qhy (by simp)]at hact;cases hact;exact⟨b1,⟨e2,by rw[e3];exact ho,by rw[e3];exact k1.1,e4⟩,by rw[e3];exact p2,by rw[e3];exact p3,1,n1.1,λf=>by rw[rs,hbb]⟩
  | true =>
   rw[ho,qhz rfl]at hact;obtain⟨a1,a2,a3⟩:=k1.2 hS0 ho;have hat1:acts[b1.s.at_]?=some a:=by rw[e3,a1];exact ha
   have hask1:b1.s.asked=false:=by rw[e3];exact k1.1
   have hS2e:=JJ hask1 hat1 how;have hat2:acts[(qG acts b1.s).at_]?=some a:=by rw[hS2e];exact hat1
   have hS2:=FC hask1 hat2 how;have rs2:=λf=>yI (EV:=EV) (RM:=RM) f hat2 how;rw[hS2e]at hS2;simp only[hS2e]at rs2;have hop3:=jy S a how hop a3;have hb2:zv th (ky EV l0) a (wW b1.s a) y1.2=.inr y:=by rw[Ws,e3];exact hact.symm
   obtain⟨b2,hbb2⟩:=qdl e2 hT hS2 hop rfl hb2 hp;obtain⟨y2,g1,g2,g3,g4⟩:=ZB e2 hT hS2 hop rfl (λ_=>hop3) hbb2 e4;rw[hb2]at g1;cases g1;have n2:=Wo hbb2 e4;exact⟨b2,⟨g2,by rw[g3];exact p4,by rw[g3];exact (fH hb2).1,g4⟩,by rw[g3];exact p2,by rw[g3];exact p3,2,by omega,λf=>by
    rw[show f+2=(f+1)+1 from rfl,rs,hbb];show jf acts EV RM (f+1) b1=_;rw[rs2,hbb2]⟩
end
section
variable {EV:List Ev5}{RM:List (Int × Int)}{l0:List Nat}{th:Int}{acts:List Ac}{b:Bs}{r:Rn}{a:Ac}{reads:List U}
theorem qdg:∀(G own i:Nat) (ls:List U) (r rf:Rn),zc th reads acts G own i ls r=some rf->zc th reads acts (G+1) own i ls r=some rf:=by
 intro G
 induction G with
 | zero=>intro own i ls r rf h;cases h
 | succ G ih =>
  intro own i ls r rf h;unfold zc at h ⊢;cases ha:acts[i]? with
  | none=>rw[ha]at h;exact h
  | some a =>
   rw[ha]at h;simp only at h ⊢;cases how:ownB a with
   | true =>
    rw[how,qhz rfl]at h;rw[qhz rfl];split at h
    .cases h
    .rename_i hne;rw[qhy hne];exact ih _ _ _ _ _ h
   | false =>
    rw[how,qhy (by simp)]at h;rw[qhy (by simp)];cases hs:wX th reads a ls r with
    | inl l=>rw[hs]at h;cases h
    | inr x =>
     rw[hs]at h;simp only at h ⊢;split at h
     .cases h
     .rename_i hne;rw[qhy hne];exact ih _ _ _ _ _ h
theorem QT {G G' own i:Nat}{ls:List U}{r rf:Rn}(h:zc th reads acts G own i ls r=some rf)(hG:G<=G'):zc th reads acts G' own i ls r=some rf:=by
 induction hG with
 | refl=>exact h
 | step _ ih=>exact qdg _ _ _ _ _ _ ih
theorem own_A:∀(k own G:Nat) (s:Ms) (rf:Rn),own+k=100000->zc th reads acts G own s.at_ s.ls r=some rf->∃G' own',G'<=G/\zc th reads acts G' own' (adv acts k s).at_ (adv acts k s).ls r=some rf/\∀a,acts[(adv acts k s).at_]?=some a->ownB a=false:=by
 intro k
 induction k with
 | zero =>
  intro own G s rf hk h;rw[jA];refine⟨G,own,qh8 _,h,λa ha=>?_⟩;cases how:ownB a with
  | false=>rfl
  | true =>
   cases G with
   | zero=>cases h
   | succ G =>
    unfold zc at h;rw[ha]at h;simp only at h;rw[how,qhz rfl,qhz (by omega)]at h;cases h
 | succ k ih =>
  intro own G s rf hk h;cases ha:acts[s.at_]? with
  | none =>
   rw[jz _ ha];exact⟨G,own,qh8 _,h,λa h'=>by rw[ha]at h';cases h'⟩
  | some a =>
   cases how:ownB a with
   | false =>
    rw[jh _ ha how];exact⟨G,own,qh8 _,h,λa' h'=>by rw[ha]at h';cases h';exact how⟩
   | true =>
    rw[xw _ ha how];cases G with
    | zero=>cases h
    | succ G =>
     unfold zc at h;rw[ha]at h;simp only at h;rw[how,qhz rfl,qhy (by omega)]at h;obtain⟨q1,q2⟩:=qce (a:=a) (s:=mk0 s.at_ s.ls) (s':=s) rfl rfl;rw[q1,q2]at h;obtain⟨G',own',g1,g2,g3⟩:=ih (own+1) G (kW s a) rf (by omega) h;exact⟨G',own',by omega,g2,g3⟩
theorem own_B:∀(k own:Nat) (s:Ms),own+k<=100000->∀(G:Nat) (rf:Rn),(∀own',zc th reads acts G own' (adv acts k s).at_ (adv acts k s).ls r=some rf)->zc th reads acts (G+k) own s.at_ s.ls r=some rf:=by
 intro k
 induction k with
 | zero=>intro own s hk G rf h;rw[jA]at h;exact h own
 | succ k ih =>
  intro own s hk G rf h;cases ha:acts[s.at_]? with
  | none=>rw[jz _ ha]at h;exact QT (h own) (by omega)
  | some a =>
   cases how:ownB a with
   | false=>rw[jh _ ha how]at h;exact QT (h own) (by omega)
   | true =>
    rw[xw _ ha how]at h;have:=ih (own+1) (kW s a) (by omega) G rf h;obtain⟨q1,q2⟩:=qce (a:=a) (s:=mk0 s.at_ s.ls) (s':=s) rfl rfl;rw[<-q1,<-q2]at this;show zc th reads acts (G+k+1) own s.at_ s.ls r=some rf;unfold zc;rw[ha];simp only;rw[how,qhz rfl,qhy (by omega)];exact this
theorem YY {s:Ms}(h:s.asked=false):∃A,A=adv acts 100000 { s with asked:=true }/\(qG acts s).at_=A.at_/\(qG acts s).ls=A.ls:=by
 obtain⟨A,hA⟩:=qi4 (adv acts 100000 { s with asked:=true });refine⟨A,hA,?_,?_⟩
 .rw[ft h,<-hA];rfl
 .rw[ft h,<-hA];rfl
theorem own_A' {G:Nat}{s:Ms}{rf:Rn}(hs:s.asked=false)(h:zc th reads acts G 0 s.at_ s.ls r=some rf):∃G' own',G'<=G/\zc th reads acts G' own' (qG acts s).at_ (qG acts s).ls r=some rf/\∀a,acts[(qG acts s).at_]?=some a->ownB a=false:=by
 obtain⟨A,hA,h1,h2⟩:=YY (acts:=acts) hs;obtain⟨k,hk⟩:=qi4 (100000);rw[<-hk]at hA;have:=own_A (th:=th) (reads:=reads) (acts:=acts) (r:=r) k 0 G { s with asked:=true } rf (by omega) h;rw[<-hA]at this;rw[h1,h2];exact this
theorem own_B' {G:Nat}{s:Ms}{rf:Rn}(hs:s.asked=false)(h:∀own',zc th reads acts G own' (qG acts s).at_ (qG acts s).ls r=some rf):zc th reads acts (G+100000) 0 s.at_ s.ls r=some rf:=by
 obtain⟨A,hA,h1,h2⟩:=YY (acts:=acts) hs;obtain⟨k,hk⟩:=qi4 (100000);rw[<-hk]at hA ⊢;have:=own_B (th:=th) (reads:=reads) (acts:=acts) (r:=r) k 0 { s with asked:=true } (by omega) G rf;rw[<-hA]at this;rw[h1,h2]at h;exact this h
structure FinP (EV:List Ev5)(RM:List (Int × Int))(l0:List Nat)(rf rr:Rn):Prop where
 ev:rf.evs=evL EV l0
 us:rf.used=(ky EV l0).length
 ou:rr.outs=rf.outs
 rm:rr.rmw=rf.rmw.map λq=>(atL l0 q.1,atL l0 q.2)
 inR:∀q∈rr.rmw,q∈RM
theorem run_B (hT:EvT EV l0 th)(hl0:l0.length<=256)(hop:∀a∈acts,1<=a.op/\a.op<=10):∀(f:Nat) (b:Bs) (r rr:Rn),RB0 EV RM l0 b r->jf acts EV RM f b=some rr->∃rf,zc th (ky EV l0) acts (f*100001) 0 b.s.at_ b.s.ls r=some rf/\FinP EV RM l0 rf rr:=by
 intro f
 induction f using Nat.strongRecOn with
 | _ f ih =>
  intro b r rr H h;cases f with
  | zero=>cases h
  | succ f =>
   have key:∀{G:Nat} {rf:Rn},(∀own',zc th (ky EV l0) acts G own' (qG acts b.s).at_ (qG acts b.s).ls r=some rf)->G<=f*100001+1->zc th (ky EV l0) acts ((f+1)*100001) 0 b.s.at_ b.s.ls r=some rf:=λ{G rf} hg hG=>by
    exact QT (own_B' H.ask hg) (by omega)
   cases ha:acts[(qG acts b.s).at_]? with
   | none =>
    unfold jf at h;rw[ha]at h;simp only at h;split at h
    .rename_i hl;cases h;obtain⟨⟨c,c1,c2,c3,c4,c5⟩,o1,o2,o3⟩:=H.ry;have hc:l0.length<=c:=by
      rw[hl]at c2;have:=congrArg List.length c2;rw[List.length_drop]at this;simp at this;omega
     rw[List.take_of_length_le hc]at c3 c4;refine⟨r,key (G:=1) (λown'=>?_) (by omega),c3,c4,o1,o2,o3⟩;unfold zc;rw[ha]
    .cases h
   | some a =>
    cases how:ownB a with
    | true =>
     unfold jf at h;rw[ha]at h;simp only at h;rw[how,qhz rfl]at h;cases h
    | false =>
     obtain⟨x,e1,b',f',e2,e3,e4,e5,e6⟩:=act_B H hT ha how (hop a (qh6 ha)) h;obtain⟨rf,g1,g2⟩:=ih f' (by omega) b' x.2 rr e4 e3;refine⟨rf,key (G:=f*100001+1) (λown'=>?_) (qh8 _),g2⟩;unfold zc;rw[ha];simp only;rw[how,qhy (by simp),e1];simp only;rw[qhy ?_]
     .rw[e5,e6]at g1;exact QT g1 (qhq _ e2)
     .intro hb;obtain⟨⟨c,c1,c2,c3,c4,c5⟩,o1,_⟩:=e4.ry;rcases hb with hb | hb
      .have:=e4.ou;rw[o1]at this;omega
      .rw[c3]at hb;have:(evL EV (l0.take c)).length<=(l0.take c).length:=List.length_filterMap_le _ _;rw[List.length_take]at this;omega
theorem qde (hop:∀a∈acts,1<=a.op/\a.op<=10):∀(G own i:Nat) (ls:List U) (r rf:Rn),zc th reads acts G own i ls r=some rf->Pfx EV RM l0 rf->Pfx EV RM l0 r:=by
 intro G
 induction G with
 | zero=>intro own i ls r rf h;cases h
 | succ G ih =>
  intro own i ls r rf h hp;unfold zc at h;cases ha:acts[i]? with
  | none=>rw[ha]at h;cases h;exact hp
  | some a =>
   rw[ha]at h;simp only at h;cases how:ownB a with
   | true =>
    rw[how,qhz rfl]at h;split at h
    .cases h
    .exact ih _ _ _ _ _ h hp
   | false =>
    rw[how,qhy (by simp)]at h;cases hs:wX th reads a ls r with
    | inl l=>rw[hs]at h;cases h
    | inr x =>
     rw[hs]at h;simp only at h;split at h
     .cases h
     .have hx:=ih _ _ _ _ _ h hp;obtain⟨_,s2⟩:=QU (th:=th) (reads:=reads) (r:=r) (s:=⟨0,ls,wt0,false,u0,false⟩) how (hop a (qh6 ha)) rfl;obtain⟨y,p1,_,_,_,p5⟩:=s2 x hs;rw[<-p5]at hx;exact hx.back (qe2 p1)
theorem run_A (hT:EvT EV l0 th)(hl0:l0.length<=256)(hop:∀a∈acts,1<=a.op/\a.op<=10):∀(G:Nat) (b:Bs) (r rf:Rn),RB0 EV RM l0 b r->zc th (ky EV l0) acts G 0 b.s.at_ b.s.ls r=some rf->Pfx EV RM l0 rf->rf.evs=evL EV l0->∀F,b.l.length+(100000-b.r.outs.length)+1<=F->∃rr,jf acts EV RM F b=some rr/\rr.outs=rf.outs/\rr.rmw=rf.rmw.map λq=>(atL l0 q.1,atL l0 q.2):=by
 intro G
 induction G using Nat.strongRecOn with
 | _ G ih =>
  intro b r rf H h hp hev F hF;obtain⟨F',rfl⟩:∃F',F=F'+1:=⟨F-1,by omega⟩;obtain⟨G',own',g1,g2',g3'⟩:=own_A' H.ask h;cases G' with
  | zero=>cases g2'
  | succ G' =>
   unfold zc at g2';cases ha:acts[(qG acts b.s).at_]? with
   | none =>
    rw[ha]at g2';cases g2';obtain⟨⟨c,c1,c2,c3,c4,c5⟩,o1,o2,o3⟩:=H.ry;have hlok:∀i∈l0,i<EV.length:=λi hi=>by
     obtain⟨e',q1,_⟩:=hT i hi;exact (qh7.1 q1).1
    have hc:l0.length<=c:=by
     have:=congrArg List.length (c3.symm.trans hev);rw[xx (λi hi=>hlok i (List.mem_of_mem_take hi)),xx hlok,List.length_take]at this;omega
    refine⟨b.r,?_,o1,o2⟩;unfold jf;rw[ha];simp only;rw[qhz (by rw[c2,List.drop_eq_nil_of_le hc])]
   | some a =>
    have how:=g3' a ha;rw[ha]at g2';simp only at g2';rw[how,qhy (by simp)]at g2';cases hs:wX th (ky EV l0) a (qG acts b.s).ls r with
    | inl l=>rw[hs]at g2';cases g2'
    | inr x =>
     rw[hs]at g2';simp only at g2';split at g2'
     .cases g2'
     .have hx:=qde hop _ _ _ _ _ _ g2' hp;obtain⟨b',e1,e2,e3,d,e4,e5⟩:=act_A H hT ha how (hop a (qh6 ha)) hs hx;rw[<-e2,<-e3]at g2';obtain⟨rr,q1,q2,q3⟩:=ih G' (by omega) b' x.2 rf e1 g2' hp hev (F'+1-d) (by omega);refine⟨rr,?_,q2,q3⟩;have:=e5 (F'+1-d);rw[show F'+1-d+d=F'+1 by omega]at this;rw[this,q1]
end
def lt1 (p q:Int × Int):Prop:=p.1<q.1
theorem sub_of {B:List (Int × Int)}(hB:B.Pairwise lt1):∀{A:List (Int × Int)},A.Pairwise lt1->(∀p∈A,p∈B)->A.Sublist B:=by
 induction B with
 | nil=>intro A hA h;cases A with
  | nil=>exact List.Sublist.slnil
  | cons a A=>exact absurd (h a (by simp)) (by simp)
 | cons b B ih =>
  intro A hA h;rw[List.pairwise_cons]at hB;cases A with
  | nil=>exact List.nil_sublist _
  | cons a A =>
   rw[List.pairwise_cons]at hA;rcases List.mem_cons.1 (h a (by simp)) with rfl | ha
   .refine List.Sublist.cons_cons _ (ih hB.2 hA.2 λp hp=>?_);rcases List.mem_cons.1 (h p (by simp[hp])) with rfl | hp'
    .have:=hA.1 _ hp;unfold lt1 at this;omega
    .exact hp'
   .have hba:=hB.1 a ha;refine List.Sublist.cons _ (ih hB.2 (List.pairwise_cons.2 hA) λp hp=>?_);rcases List.mem_cons.1 (h p hp) with rfl | hp'
    .rcases List.mem_cons.1 hp with rfl | hp2
     .exact ha
     .have:=hA.1 _ hp2;unfold lt1 at this hba;omega
    .exact hp'
theorem qga {A B:List (Int × Int)}(hA:A.Pairwise lt1)(hB:B.Pairwise lt1)(h:∀p∈A,p∈B)(hl:A.length=B.length):A=B:=(sub_of hB hA h).eq_of_length hl
theorem rm_srt {EV:List Ev5}{NX:List Int}{RM:List (Int × Int)}(h:rmP EV NX RM):RM.Pairwise lt1:=by
 rw[List.pairwise_iff_getElem];have key:∀(d i:Nat) p q,RM[i]?=some p->RM[i+d+1]?=some q->lt1 p q:=by
  intro d
  induction d with
  | zero =>
   intro i p q hp hq;have:=h (i+1) q hq;unfold rmB at this;simp only[qhb]at this;have ho:=this.1;unfold fw at ho;simp only at ho;rw[hp]at ho;have ho':p.1<q.1:=qi2 ho;exact ho'
  | succ d ih =>
   intro i p q hp hq;obtain⟨z,hz⟩:∃z,RM[i+d+1]?=some z:=⟨_,qh5 (by have:=(qh7.1 hq).1;omega)⟩;have h1:=ih i p z hp hz;have:=h (i+d+1+1) q hq;unfold rmB at this;simp only[qhb]at this;have ho:=this.1;unfold fw at ho;simp only at ho;rw[hz]at ho;have h2:=qi2 ho;unfold lt1 at h1 ⊢;omega
 intro i j hi hj hij;exact key (j-i-1) i _ _ (qh5 hi) (by rw[show i+(j-i-1)+1=j by omega];exact qh5 hj)
theorem ZA {th:Int}{reads:List U}{acts:List Ac}(P:Rn->Prop)(hst:∀a∈acts,ownB a=false->∀ls r x,wX th reads a ls r=.inr x->¬yZ x.2->P r->P x.2):∀(G own i:Nat) (ls:List U) (r rf:Rn),zc th reads acts G own i ls r=some rf->P r->P rf:=by
 intro G
 induction G with
 | zero=>intro own i ls r rf h;cases h
 | succ G ih =>
  intro own i ls r rf h hb;unfold zc at h;cases ha:acts[i]? with
  | none=>rw[ha]at h;cases h;exact hb
  | some a =>
   rw[ha]at h;simp only at h;cases how:ownB a with
   | true =>
    rw[how,qhz rfl]at h;split at h
    .cases h
    .exact ih _ _ _ _ _ h hb
   | false =>
    rw[how,qhy (by simp)]at h;cases hs:wX th reads a ls r with
    | inl l=>rw[hs]at h;cases h
    | inr x =>
     rw[hs]at h;simp only at h;split at h
     .cases h
     .rename_i hnb;exact ih _ _ _ _ _ h (hst a (qh6 ha) how ls r x hs hnb hb)
theorem qfr {A:List (Int × Int)}{p:Int × Int}(h:A.Pairwise lt1)(hp:∀q∈A,lt1 q p):(A++[p]).Pairwise lt1:=by
 rw[List.pairwise_append];exact⟨h,by simp,λa ha b hb=>by rw[qhc]at hb;subst hb;exact hp a ha⟩
theorem qdm {th:Int}{reads:List U}{a:Ac}{ls:List U}{r:Rn}{x:U × Rn}(how:ownB a=false)(hop:1<=a.op/\a.op<=10)(h:wX th reads a ls r=.inr x)(hb:PIn r)(hs:r.rmw.Pairwise lt1):x.2.rmw.Pairwise lt1:=by
 unfold wX at h;split at h
 .split at h
  .cases h
  .rename_i v hv;cases h;show (zh th ls a (qi (mk0 0 ls) a) v _).rmw.Pairwise lt1;unfold zh;split
   .simp only[zu];refine qfr hs λq hq=>?_;have:=hb q hq;unfold lt1;simp;omega
   .exact hs
 .rename_i hw;cases h;show (kh th (qi (mk0 0 ls) a) u0 r).rmw.Pairwise lt1;unfold kh;split
  .exact hs
  .rw[qhy]
   .exact hs
   .intro ⟨h1,h2⟩;have:=jy (mk0 0 ls) a how hop h2;apply hw;unfold qi;rw[qhy (by omega),qhy (by omega),qhy (by omega),qhy (by omega)];rfl
theorem qgf (EV:List Ev5)(th:Int):(thL EV th).Pairwise (· < ·):=by
 unfold thL thN;exact List.Pairwise.filter _ List.pairwise_lt_range
theorem FH {EV:List Ev5}{th:Int}{x:Nat}(h:x∈thL EV th):∃e,EV[x]?=some e/\e.th=th:=by
 unfold thL thN at h;have:=(List.mem_filter.1 h).2;cases he:EV[x]? with
 | none=>rw[he]at this;cases this
 | some e=>rw[he]at this;exact⟨e,rfl,qi2 this⟩
theorem evT_of {EV:List Ev5}{N n:Nat}(h:EvG N EV):EvT EV (thL EV n) n:=λx hx=>by
 obtain⟨e,h1,h2⟩:=FH hx;refine⟨e,h1,h2,λhk=>?_⟩;have hN:N<=x:=by
  refine Classical.byContradiction λhc=>?_;have:=h.ini x (by omega);rw[h1]at this;cases this;simp[e0]at h2
 have:=h.evs x e hN h1;unfold evB lcB at this;rw[qhz hk]at this;simp only[qhb,qi3]at this;exact⟨this.2.1,Subtype.ext this.2.2⟩
section
variable {p:Pg}{g:Gp}{N n:Nat}{NX:List Int}{t:Th}
theorem start0 (EV:List Ev5)(RM:List (Int × Int))(l0:List Nat)(k:Nat):RB0 EV RM l0 ⟨ms0 k,l0,-1,⟨[],[],[],0⟩⟩ ⟨[],[],[],0⟩ :=
 ⟨⟨⟨0,Nat.zero_le _,by simp,by simp[evL],by simp[ky],λh=>by simp[ms0]at h⟩,rfl,rfl,λq hq=>by simp at hq⟩,rfl,rfl,by simp⟩
theorem Fx (hB:pgB p=true)(ht:p.ths[n]?=some t)(hE:EvG N g.ev)(hR:rmP g.ev NX g.rm) :
  (∀r,vN p g n r->∃rf,Zs p g n=some rf/\rf.outs=r.outs)/\(∀rf,Zs p g n=some rf->∃r,vN p g n r/\r.outs=rf.outs):=by
 have htB:thB p.cells t=true:=by
  have:=hB;unfold pgB at this;simp only[qhb]at this;exact List.all_eq_true.1 this.2.2 t (qh6 ht)
 unfold thB at htB;simp only[qhb,qi3]at htB;obtain⟨_,hacts⟩:=htB;have hop:∀a∈t.acts,1<=a.op/\a.op<=10:=λa ha=>(dR (List.all_eq_true.1 hacts.2 a ha)).op;have hT:EvT g.ev (thL g.ev n) n:=evT_of hE;have hl0:(thL g.ev n).length<=256:=qhh (vJ _ _ _) hE.n2;have h0:=start0 g.ev g.rm (thL g.ev n) t.loc.toNat;have hsrc:dh t n (ky g.ev (thL g.ev n))=zc n (ky g.ev (thL g.ev n)) t.acts gI 0 (ms0 t.loc.toNat).at_ (ms0 t.loc.toNat).ls ⟨[],[],[],0⟩:=rfl;have hlok:∀i∈thL g.ev n,i<g.ev.length:=λi hi=>by
  obtain⟨e',q1,_⟩:=hT i hi;exact (qh7.1 q1).1
 refine⟨λr hr=>?_,λrf hrf=>?_⟩
 .obtain⟨h1,h2⟩:=hr;unfold Zu at h1;rw[ht]at h1;obtain⟨rf,q1,q2⟩:=run_B hT hl0 hop _ _ _ _ h0 h1;have q1':=QT q1 (show ((thL g.ev n).length+100001)*100001<=gI by unfold gI;omega);refine⟨rf,?_,q2.ou.symm⟩;unfold Zs;rw[ht];simp only;rw[hsrc,q1'];simp only;rw[qhz];refine⟨q2.ev,q2.us,?_,λq hq=>?_⟩
  .rw[<-h2,q2.rm,List.length_map]
  .exact q2.inR _ (by rw[q2.rm];exact List.mem_map.2 ⟨q,hq,rfl⟩)
 .unfold Zs at hrf;rw[ht]at hrf;simp only at hrf;cases hs:dh t n (ky g.ev (thL g.ev n)) with
  | none=>rw[hs]at hrf;cases hrf
  | some r' =>
   rw[hs]at hrf;simp only at hrf;split at hrf
   .rename_i hF;cases hrf;obtain⟨f1,f2,f3,f4⟩:=hF;have hpin:PIn rf:=FD hop _ _ _ _ _ _ hs (λp hp=>by simp at hp);have hsrt:=ZA (λr=>PIn r/\r.rmw.Pairwise lt1) (λa ha how ls r x hx _ hP=>⟨Xn how (hop a ha) hx hP.1,qdm how (hop a ha) hx hP.1 hP.2⟩) _ _ _ _ _ _ hs ⟨λp hp=>by simp at hp,by simp⟩;have hou:rf.outs.length<=100000:=ZA (λr=>r.outs.length<=100000) (λa ha how ls r x hx hnb hP=>by unfold yZ at hnb;omega) _ _ _ _ _ _ hs (by simp);rw[hsrc]at hs;obtain⟨rr,q1,q2,q3⟩:=run_A hT hl0 hop _ _ _ _ h0 hs ⟨⟨[],by rw[List.append_nil];exact f1⟩,f4,hou⟩ f1 ((thL g.ev n).length+100001) (by simp);refine⟨rr,⟨by unfold Zu;rw[ht];exact q1,?_⟩,q2⟩;have hlen:rf.evs.length=(thL g.ev n).length:=by rw[f1,xx hlok]
    rw[q3];refine qga ?_ ((rm_srt hR).filter _) (λq hq=>?_) (by rw[List.length_map];exact f3)
    .rw[List.pairwise_map];refine List.Pairwise.imp_of_mem (λ{a b} ha hb hab=>?_) hsrt.2;have pa:=hpin a ha;have pb:=hpin b hb;have hsl:=List.pairwise_iff_getElem.1 (qgf g.ev n) a.1.toNat b.1.toNat (by omega) (by omega) (by unfold lt1 at hab;omega);unfold lt1;simp only[atL];rw[List.getD_eq_getElem?_getD,List.getD_eq_getElem?_getD,qh5 (by omega),qh5 (by omega)];simp;exact hsl
    .obtain⟨z,hz,rfl⟩:=List.mem_map.1 hq;have pz:=hpin z hz;refine List.mem_filter.2 ⟨f4 z hz,?_⟩;obtain⟨x,hx⟩:∃x,(thL g.ev n)[z.1.toNat]?=some x:=⟨_,qh5 (by omega)⟩;obtain⟨e,e1,e2⟩:=FH (qh6 hx);have:atL (thL g.ev n) z.1=x:=by unfold atL;rw[List.getD_eq_getElem?_getD,hx];rfl
     simp only[this,qhj,e1,e2];simp
   .cases hrf
end
theorem ZP {α:Type}{f:α->Bool}{p q:List α}(hl:p.length=q.length)(h:∀(j:Nat) x,q[j]?=some x->∃y,p[j]?=some y/\f y=f x):p.all f=q.all f:=by
 have hm:p.map f=q.map f:=by
  refine List.ext_getElem? λj=>?_;rw[qhm,qhm];cases hq:q[j]? with
  | none=>rw[qhs (by have:=List.getElem?_eq_none_iff.1 hq;omega)]
  | some x=>obtain⟨y,h1,h2⟩:=h j x hq;rw[h1,Option.map_some,Option.map_some,h2]
 have e:∀l:List α,l.all f=(l.map f).all id:=λl=>by simp[List.all_map]
 rw[e,e,hm]
theorem BU {cells:Int}{k na:Nat}{a b:Ac}(h:AcEq a b):yY cells k na a=yY cells k na b:=by obtain⟨x,y,z,rfl⟩:=h;rfl
theorem qgg {cells:Int}{t u:Th}(h:ThEq t u):thB cells t=thB cells u:=by
 unfold thB;rw[h.loc,h.len]
 congr 2
 exact ZP h.len λj x hx=>let ⟨y,h1,h2⟩:=h.acts j x hx;⟨y,h1,BU h2⟩
theorem qfe {p q:Pg}(h:PgEq p q):pgB p=pgB q:=by
 unfold pgB;rw[h.cells,h.len]
 congr 2
 exact ZP h.len λj x hx=>let ⟨y,h1,h2⟩:=h.ths j x hx;⟨y,h1,qgg h2⟩
def AnsR (p:Pg)(g:Gp)(hn:Int)(LL:List (List U))(at_ bad:Int):Prop :=
 (¬(pgB p=true/\hn=p.cells)/\LL=[]/\at_=0/\bad=1) \/
 ((pgB p=true/\hn=p.cells)/\¬WFs hn g/\LL=[]/\at_=0/\bad=4) \/
 ((pgB p=true/\hn=p.cells)/\WFs hn g/\∃n:Nat,n<64/\vS p g n/\(∀k<n,¬vS p g k)/\LL=[]/\at_=n/\bad=8) \/
 ((pgB p=true/\hn=p.cells)/\WFs hn g/\(∀k<64,¬vS p g k)/\LL.length=p.ths.length/\(∀(i:Nat) l,LL[i]?=some l->bG p g i=some l)/\at_=0/\bad=0)
theorem qe7 {p:Pg}{g:Gp}{hn:Int}{LL LL':List (List U)}{a b a' b':Int}(h:AnsR p g hn LL a b)(h':AnsR p g hn LL' a' b'):LL=LL'/\a=a'/\b=b':=by
 rcases h with ⟨h1,h2,h3,h4⟩ | ⟨h1,hw,h2,h3,h4⟩ | ⟨h1,hw,n,hn64,hb,hk,h2,h3,h4⟩ | ⟨h1,hw,hall,hl,hi,h3,h4⟩
 .rcases h' with ⟨g1,g2,g3,g4⟩ | ⟨g1,_⟩ | ⟨g1,_⟩ | ⟨g1,_⟩
  .exact⟨h2.trans g2.symm,h3.trans g3.symm,h4.trans g4.symm⟩
  .exact absurd g1 h1
  .exact absurd g1 h1
  .exact absurd g1 h1
 .rcases h' with ⟨g1,_⟩ | ⟨g1,gw,g2,g3,g4⟩ | ⟨g1,gw,_⟩ | ⟨g1,gw,_⟩
  .exact absurd h1 g1
  .exact⟨h2.trans g2.symm,h3.trans g3.symm,h4.trans g4.symm⟩
  .exact absurd gw hw
  .exact absurd gw hw
 .rcases h' with ⟨g1,_⟩ | ⟨g1,gw,_⟩ | ⟨g1,gw,n',gn64,gb,gk,g2,g3,g4⟩ | ⟨g1,gw,gall,_⟩
  .exact absurd h1 g1
  .exact absurd hw gw
  .have:n=n':=by
    rcases Nat.lt_trichotomy n n' with hlt | he | hlt
    .exact absurd hb (gk n hlt)
    .exact he
    .exact absurd gb (hk n' hlt)
   subst this;exact⟨h2.trans g2.symm,h3.trans g3.symm,h4.trans g4.symm⟩
  .exact absurd hb (gall n hn64)
 .rcases h' with ⟨g1,_⟩ | ⟨g1,gw,_⟩ | ⟨g1,gw,n',gn64,gb,gk,g2,g3,g4⟩ | ⟨g1,gw,gall,gl,gi,g3,g4⟩
  .exact absurd h1 g1
  .exact absurd hw gw
  .exact absurd gb (hall n' gn64)
  .refine⟨List.ext_getElem? λi=>?_,h3.trans g3.symm,h4.trans g4.symm⟩;by_cases hi':i<LL.length
   .obtain⟨l,hl'⟩:∃l,LL[i]?=some l:=⟨_,qh5 hi'⟩;obtain⟨l',gl'⟩:∃l,LL'[i]?=some l:=⟨_,qh5 (by omega)⟩;have e1:=hi i l hl';have e2:=gi i l' gl';rw[e1]at e2;cases e2;rw[hl',gl']
   .rw[qhs (by omega),qhs (by omega)]
theorem qcz {p:Pg}{g:Gp}{n:Nat}{l:List U}(h:bG p g n=some l):l.length<=100000:=by
 unfold bG at h;cases hr:Zs p g n with
 | none=>rw[hr]at h;cases h
 | some r =>
  rw[hr]at h;cases h;unfold Zs at hr;cases ht:p.ths[n]? with
  | none=>rw[ht]at hr;cases hr
  | some t =>
   rw[ht]at hr;simp only at hr;cases hs:dh t n (ky g.ev (thL g.ev n)) with
   | none=>rw[hs]at hr;cases hr
   | some r' =>
    rw[hs]at hr;simp only at hr;split at hr
    .cases hr;exact ZA (λr=>r.outs.length<=100000) (λa ha how ls r x hx hnb hP=>by unfold yZ at hnb;omega) _ _ _ _ _ _ hs (by simp)
    .cases hr
theorem qe6 {p:Pg}{g:Gp}{hn:Int}{LL:List (List U)}{a b:Int}(h:AnsR p g hn LL a b):LL.length<=64/\∀l∈LL,l.length<=100000:=by
 rcases h with ⟨_,rfl,_⟩ | ⟨_,_,rfl,_⟩ | ⟨_,_,_,_,_,_,rfl,_⟩ | ⟨h1,hw,hall,hl,hi,h3,h4⟩
 .simp
 .simp
 .simp
 .refine⟨by rw[hl];exact Zl h1.1,λl hm=>?_⟩;obtain⟨i,hi'⟩:=qhr hm;exact qcz (hi i l hi')
theorem qfw {m m':M}{p:Pg}{h:Gh}{g:Gp}{v:Value}(H:RrsQ m p h g v m'):∃ov vs LL a b,v=.tuple #[ov,iv a,iv b]/\AnsR p g h.n LL a b/\TolN m m' ov vs LL:=by
 obtain⟨h1,h2,h3⟩:=H;by_cases hc:pgB p=true/\h.n=p.cells
 .by_cases hw:WFs h.n g
  .rcases h3 hc hw with ⟨n,n1,n2,n3,rfl⟩ | ⟨a1,ov,vs,LL,rfl,q1,q2,q3⟩
   .exact⟨_,[],[],n,8,rfl,.inr (.inr (.inl ⟨hc,hw,n,n1,n2,n3,rfl,rfl,rfl⟩)),TolN.nil⟩
   .exact⟨ov,vs,LL,0,0,rfl,.inr (.inr (.inr ⟨hc,hw,a1,q1,q2,rfl,rfl⟩)),q3⟩
  .exact⟨_,[],[],0,4,h2 hc hw,.inr (.inl ⟨hc,hw,rfl,rfl,rfl⟩),TolN.nil⟩
 .exact⟨_,[],[],0,1,h1 hc,.inl ⟨hc,rfl,rfl,rfl⟩,TolN.nil⟩
theorem Kl {p q:Pg}(he:PgEq p q)(g:Gp){n:Nat}(hn:n<q.ths.length):Zu p g n=Zu q g n:=by
 obtain⟨u,hu⟩:∃u,q.ths[n]?=some u:=⟨_,qh5 hn⟩;obtain⟨t,ht,e⟩:=he.ths n u hu;unfold Zu;rw[ht,hu];simp only;rw[e.loc];exact FA e.len e.acts _ _
theorem qea {p q:Pg}{g:Gp}{N:Nat}{NX:List Int}(he:PgEq p q)(hB:pgB q=true)(hE:EvG N g.ev)(hR:rmP g.ev NX g.rm)(n:Nat):fG p g n ↔ vS q g n:=by
 unfold fG vS;rw[he.len];by_cases hn:n<q.ths.length
 .rw[qhz hn,qhz hn];obtain⟨u,hu⟩:∃u,q.ths[n]?=some u:=⟨_,qh5 hn⟩;obtain⟨k1,k2⟩:=Fx hB hu hE hR;have hrep:∀r,vN p g n r ↔ vN q g n r:=λr=>by unfold vN;rw[Kl he g hn]
  constructor
  .intro h;unfold bG;cases hr:Zs q g n with
   | none=>rfl
   | some rf =>
    obtain⟨r,h1,_⟩:=k2 rf hr;exact absurd ⟨r,(hrep r).2 h1⟩ h
  .intro h ⟨r,hr⟩;obtain⟨rf,h1,_⟩:=k1 r ((hrep r).1 hr);unfold bG at h;rw[h1]at h;cases h
 .rw[qhy hn,qhy hn]
theorem qct {m m':M}{p q:Pg}{h h':Gh}{g:Gp}{v:Value}(he:PgEq p q)(hh:h'.n=h.n)(H:RpsQ m p h' g v m'):∃ov vs LL a b,v=.tuple #[ov,iv a,iv b]/\AnsR q g h.n LL a b/\Nest m m' ov vs LL:=by
 obtain⟨h1,h2,h3⟩:=H;rw[hh,qfe he,he.cells]at h1 h2 h3;by_cases hc:pgB q=true/\h.n=q.cells
 .by_cases hw:WFs h.n g
  .obtain⟨N,hN,hE,_,_,hR,_⟩:=id hw;have bi:=qea he hc.1 hE hR;rcases h3 hc hw with ⟨n,n1,n2,n3,rfl⟩ | ⟨a1,ov,vs,rs,rfl,q1,q2,q3⟩
   .exact⟨_,[],[],n,8,rfl,.inr (.inr (.inl ⟨hc,hw,n,n1,(bi n).1 n2,λk hk hb=>n3 k hk ((bi k).2 hb),rfl,rfl,rfl⟩)),Nest.nil⟩
   .refine⟨ov,vs,_,0,0,rfl,.inr (.inr (.inr ⟨hc,hw,λk hk hb=>a1 k hk ((bi k).2 hb),by rw[List.length_map,q1,he.len],λi l hl=>?_,rfl,rfl⟩)),q3⟩;rw[qhm]at hl;cases hr:rs[i]? with
    | none=>rw[hr]at hl;cases hl
    | some r =>
     rw[hr]at hl;cases hl;have hok:=q2 i r hr;have hin:i<q.ths.length:=by have:=(qh7.1 hr).1;rw[q1,he.len]at this;exact this
     obtain⟨u,hu⟩:∃u,q.ths[i]?=some u:=⟨_,qh5 hin⟩;have hok':vN q g i r:=by unfold vN at hok ⊢;rw[Kl he g hin]at hok;exact hok
     obtain⟨rf,f1,f2⟩:=(Fx hc.1 hu hE hR).1 r hok';unfold bG;rw[f1];show some rf.outs=some r.outs;rw[f2]
  .exact⟨_,[],[],0,4,h2 hc hw,.inr (.inl ⟨hc,hw,rfl,rfl,rfl⟩),Nest.nil⟩
 .exact⟨_,[],[],0,1,h1 hc,.inl ⟨hc,rfl,rfl,rfl⟩,Nest.nil⟩
theorem GCp.sz {g:Gp}(h:GCp g)(hL:GLe g 4611686018427387904):GSz g:=⟨hL.ev,hL.rf,hL.co,hL.cos,hL.rm⟩
theorem GLe.up {g:Gp}(h:GLe g 4611686018427387904):GLe g 9223372036854775807 :=
 ⟨by have:=h.ev;omega,by have:=h.rf;omega,by have:=h.co;omega,λl hl=>by have:=h.cos l hl;omega,by have:=h.rm;omega,by have:=h.ad;omega,by have:=h.dt;omega,by have:=h.ct;omega⟩
theorem AcEq.symm {a b:Ac}(h:AcEq a b):AcEq b a:=by
 obtain⟨x,y,z,rfl⟩:=h;exact⟨b.ix,b.ev,b.fv,rfl⟩
theorem ThEq.symm {a b:Th}(h:ThEq a b):ThEq b a :=
 ⟨h.loc.symm,h.len.symm,λj x hx=>by
  obtain⟨u,hu⟩:∃u,b.acts[j]?=some u:=⟨_,qh5 (by have:=(qh7.1 hx).1;rw[<-h.len];exact this)⟩;obtain⟨y,h1,h2⟩:=h.acts j u hu;rw[hx]at h1;cases h1;exact⟨u,hu,h2.symm⟩⟩
theorem PgEq.symm {p q:Pg}(h:PgEq p q):PgEq q p :=
 ⟨h.cells.symm,h.len.symm,λj x hx=>by
  obtain⟨u,hu⟩:∃u,q.ths[j]?=some u:=⟨_,qh5 (by have:=(qh7.1 hx).1;rw[<-h.len];exact this)⟩;obtain⟨y,h1,h2⟩:=h.ths j u hu;rw[hx]at h1;cases h1;exact⟨u,hu,h2.symm⟩⟩
theorem BackReplays_c (p:Pg)(hpz:PgSz p){h:Gh}{g:Gp}(hz:GCp g)(hL:GLe g 4611686018427387904)(N:Nat)(m:M)(hm:m.base<=m.n)(hp:PgOK m p)(H:GOK m h g) :
  CallV (Ex.step Tryz.prog (xA (N+65545))) 4 [pgV p,.agg ⟨ghL h⟩] m zT:=by
 refine step_ret da0_ok (by simp) ?_;have hpv:pgV p=.agg ⟨[iv p.cells,p.tv]⟩:=rfl;have st2:=((St.nil hm (Ext.refl m)).row [iv p.cells,p.tv]).row (ghL h);obtain⟨m1,hm1⟩:=qi4 (Dx.newRow m [iv p.cells,p.tv]);rw[<-hm1]at st2;obtain⟨m2,hm2⟩:=qi4 (Dx.newRow m1 (ghL h));rw[<-hm2]at st2;have hm1n:m1.n=m.n+1:=by rw[hm1];simp
 have S2:=st2.sees;have lP2:loads m2 ⟨m.n,0,none⟩ 2=some [iv p.cells,p.tv]:=(st2.get 1 rfl).2.2.loads (n:=2) (by simp);have lG2:loads m2 ⟨m1.n,0,none⟩ 8=some (ghL h):=(st2.get 0 rfl).2.2.loads (n:=8) (by simp[ghL]);obtain⟨v3,m3,c1,c2,c3⟩:=Yd (h:=h) (g:=g) p (hp.sees S2) (H.sees S2) (hz.sz hL) ⟨hL.ad,hL.dt,hL.ct⟩ N S2.self.base;obtain⟨wv,vs,LL,at_,bad,rfl,hA,hTo⟩:=qfw c3;obtain⟨hl64,hll⟩:=qe6 hA;have st3:=st2.step c2;have S3:=st3.sees;have lP3:loads m3 ⟨m.n,0,none⟩ 2=some [iv p.cells,p.tv]:=(st3.get 1 rfl).2.2.loads (n:=2) (by simp);obtain⟨v4,m4,d1,d2,p',D,rfl,hpe,hpi,hD⟩:=Copy_c p hpz (N+65544) m3 S3.self.base (hp.sees S3);have hp'v:pgV p'=.agg ⟨[iv p'.cells,p'.tv]⟩:=rfl;have hp'4:PgOK m4 p':=pg_ok hD hpi hpe hp;have st4:=(st3.step d2).row [zI,zS];obtain⟨m5,hm5⟩:=qi4 (Dx.newRow m4 [zI,zS]);rw[<-hm5]at st4;obtain⟨m6,g1,g2,g3,g4⟩:=st4.fill 0 rfl (n:=2) (l':=[iv p'.cells,p'.tv]) rfl rfl (by
  have:=hp'4.tv.okV;simp[okC];exact this)
 have st6:St m m6 [(m4.n,[iv p'.cells,p'.tv]),(m1.n,ghL h),(m.n,[iv p.cells,p.tv])]:=g2;have E46:Ext m4 m6:=by
  have e:=Ext.row m4 [zI,zS];rw[<-hm5]at e;have st3':=st3.step d2;refine⟨by rw[g3];exact e.n,λB hB=>?_,?_,?_⟩
  .rw[g4 B (by omega)];exact e.obj B hB
  .rw[st6.ext.base,st3'.ext.base]
  .rw[st6.ext.log,st3'.ext.log]
 have S6:=st6.sees;have lG6:loads m6 ⟨m1.n,0,none⟩ 8=some (ghL h):=(st6.get 1 rfl).2.2.loads (n:=8) (by simp[ghL]);obtain⟨v7,m7,e1,e2,h',rfl,hh,H',hsp'⟩:=BL (N+65544) S6.self.base (H.sees S6) hz hL;have st7:=(st6.step e2).row Z8g;obtain⟨m8,hm8⟩:=qi4 (Dx.newRow m7 Z8g);rw[<-hm8]at st7;obtain⟨m9,f1,f2,f3,f4⟩:=st7.fill 0 rfl (n:=8) (l':=ghL h') rfl rfl (ghL_ok H');have st9:St m m9 [(m7.n,ghL h'),(m4.n,[iv p'.cells,p'.tv]),(m1.n,ghL h),(m.n,[iv p.cells,p.tv])]:=f2;have E79:Ext m7 m9:=by
  have e:=Ext.row m7 Z8g;rw[<-hm8]at e;have st6':=st6.step e2;refine⟨by rw[f3];exact e.n,λB hB=>?_,?_,?_⟩
  .rw[f4 B (by omega)];exact e.obj B hB
  .rw[st9.ext.base,st6'.ext.base]
  .rw[st9.ext.log,st6'.ext.log]
 have S9:=st9.sees;have S9s:Sees m9 m9:=Sees.refl S9.self.base;have E39:Ext m3 m9:=((d2.trans E46).trans e2).trans E79;have hTo9:TolN m2 m9 wv vs LL:=by
  exact⟨hTo.top.ext E39,hTo.len,λi v l a b=>(hTo.at_ i v l a b).ext E39,hTo.ne,hTo.nd⟩
 have E49:Ext m4 m9:=(E46.trans e2).trans E79;have hp'9:PgOK m9 p':=hp'4.sees ((Sees.refl hD.sees.self.base).ext E49);have H'9:GOK m9 h' g:=H'.sees ((Sees.refl (st6.step e2).sees.self.base).ext E79);have f1':ww 8 (.pointer (some ⟨m7.n,0,none⟩)) (.agg ⟨ghL h'⟩) m8=some (undef,m9):=f1;have hm8':Dx.newRow m7 [zI,zS,zS,zS,zS,zS,zS,zS]=m8:=hm8.symm;rw[hpv]at c1 d1 ⊢;rw[hp'v]at d1;simp[<-hm1,<-hm2,lP2,lG2,qb,xA_f,c1,wo,lP3,d1,<-hm5,g1,lG6,e1,hm8',f1',-Wx];refine qq (c:=Di) rfl (Ret m _) (λi tt mm=>Ext m9 mm/\Tm.get 2 tt=.pointer (some ⟨m.n,0,none⟩)/\Tm.get 3 tt=.pointer (some ⟨m1.n,0,none⟩)/\Tm.get 5 tt=wv/\Tm.get 6 tt=iv at_/\Tm.get 7 tt=iv bad/\Tm.get 8 tt=.pointer (some ⟨m4.n,0,none⟩)/\Tm.get 9 tt=.pointer (some ⟨m7.n,0,none⟩)/\Tm.get 10 tt=iv i) 2 (by omega)
  ⟨Ext.refl m9,by simp,by simp,by simp,by simp,by simp,by simp,by simp,by simp⟩ (λi tt mm k' hi hI hk'=>?_)
 obtain⟨E,t2,t3,t5,t6,t7,t8,t9,t10⟩:=hI;have stm:=st9.step E;have Sm:Sees m9 mm:=S9s.ext E;have mb:mm.base<=mm.n:=stm.sees.self.base;have la:loads mm ⟨m.n,0,none⟩ 2=some [iv p.cells,p.tv]:=(stm.get 3 rfl).2.2.loads (n:=2) (by simp);have lb:loads mm ⟨m4.n,0,none⟩ 2=some [iv p'.cells,p'.tv]:=(stm.get 1 rfl).2.2.loads (n:=2) (by simp);have lk:loads mm ⟨m7.n,0,none⟩ 8=some (ghL h'):=(stm.get 0 rfl).2.2.loads (n:=8) (by simp[ghL]);have lg:loads mm ⟨m1.n,0,none⟩ 8=some (ghL h):=(stm.get 2 rfl).2.2.loads (n:=8) (by simp[ghL]);by_cases hil:i<2
 .have hd:((i:Int)<2)=True:=qi1 (by omega);have hd':(i<2)=True:=qi1 hil;have ni:=qK (i:=i) (by omega);obtain⟨v1,n1,i1,i2,i3⟩:=XB (h:=h') (g:=g) p' (hp'9.sees Sm) (H'9.sees Sm) hsp' (hz.sz hL) (N+65534) mb;obtain⟨ov,ws,LL',a',b',rfl,hA',hN⟩:=qct hpe hh i3;obtain⟨rfl,rfl,rfl⟩:=qe7 hA hA';rw[hp'v]at i1;have E1:Ext m9 n1:=E.trans i2;have hTo1:TolN m2 n1 wv vs LL:=⟨hTo9.top.ext E1,hTo9.len,λi v l a b=>(hTo9.at_ i v l a b).ext E1,hTo9.ne,hTo9.nd⟩;have Sn1:Sees mm n1:=(Sees.refl mb).ext i2;obtain⟨v2,n2,j1,j2,j3⟩:=Outs_c (N+65544) Sn1.self.base (hTo1.top.rd Xr) hTo1.okV (by rw[hTo1.len];exact hl64);have hN2:=hN.ext j2;have Sn2:Sees mm n2:=Sn1.ext j2;obtain⟨v3,n3,k1,k2,rfl⟩:=ZK (N+65543) Sn2.self.base (a:=ov) (b:=v2) (hN2.top.rd yK) (j3.rd yK) hN2.len hTo1.len hl64 (λl hl=>by have:=hll l hl;omega)
   (λi v l a b=>(hN2.at_ i v l a b).rd (f:=qS) (e:=1) (λ_=>rfl)) (λi v l a b=>((hTo1.at_ i v l a b).rd (f:=qS) (e:=1) (λ_=>rfl)).sees ((Sees.refl Sn1.self.base).ext j2))
  have hN3:=hN2.ext k2;obtain⟨v4,n4,u1,u2⟩:=qgb (N+65544) mb ((i2.trans j2).trans k2) hN3 (by rw[hN.len];exact hl64) (λl hl=>by have:=hll l hl;omega);simp[t5,t6,t7,t8,t9,t10,hd,lb,lk,qb,xA_f,i1,wo,j1,k1,u1,ni,-Wx];exact hk' hil _ _ ⟨E.trans u2,by simp[t2],by simp[t3],by simp[t5],by simp[t6],by simp[t7],by simp[t8],by simp[t9],by simp⟩
 .obtain rfl:i=2:=by omega
  obtain⟨w1,q1,i1,i2,rfl⟩:=qe0 p p' hpe.symm (N+65543) mm mb (hp.sees stm.sees) (hp'9.sees Sm);rw[hpv,hp'v]at i1;have st1:=stm.step i2;have lk1:loads q1 ⟨m7.n,0,none⟩ 8=some (ghL h'):=(st1.get 0 rfl).2.2.loads (n:=8) (by simp[ghL]);have lg1:loads q1 ⟨m1.n,0,none⟩ 8=some (ghL h):=(st1.get 2 rfl).2.2.loads (n:=8) (by simp[ghL]);obtain⟨w2,q2,j1,j2,rfl⟩:=BJ (N+65543) st1.sees.self.base hh (H'9.sees (Sm.ext i2)) (H.sees st1.sees) hL.up;simp[t10,t2,t3,t8,t9,la,lb,qb,xA_f,i1,lk1,lg1,j1,xA_aw];exact qf (st1.step j2).ext (by simp)
end Go.Sx
