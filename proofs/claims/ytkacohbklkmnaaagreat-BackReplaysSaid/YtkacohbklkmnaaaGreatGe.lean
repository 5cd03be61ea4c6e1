/- Contracts. -/
import Derived.Test.YtkacohbklkmnaaaGreatGd
import Derived.Test.YtkacohbklkmnaaaGreatGb5
import Derived.Test.YtkacohbklkmnaaaGreatGc
set_option linter.unusedVariables false
set_option linter.unusedSimpArgs false
set_option linter.defProp false
set_option linter.unusedSectionVars false
namespace Go.Sx
open Go.Dx Go.Proofs
set_option maxRecDepth 10000
theorem May_c (n:Nat)(op mode:Int)(m:M):CallV (ex Tryz.prog (n+1)) 112 [iv op,iv mode] m (.bool (zi op mode)):=by
 refine qm dg5_ok (by simp) ?_;have E:=Ext.refl m;by_cases h2:op=2
 .subst h2;by_cases q1:mode=1
  .subst q1;simp;exact qf E (by simp[zi])
  by_cases q2:mode=2
  .subst q2;simp;exact qf E (by simp[zi])
  simp[q1,q2];exact qf E (by simp[zi,q1,q2])
 by_cases h3:op=3
 .subst h3;by_cases q1:mode=1
  .subst q1;simp;exact qf E (by simp[zi])
  by_cases q2:mode=3
  .subst q2;simp;exact qf E (by simp[zi])
  simp[q1,q2];exact qf E (by simp[zi,q1,q2])
 by_cases h4:op=4
 .subst h4;by_cases q1:1<=mode
  .have q1':(1<=mode)=True:=qi1 q1;simp[q1'];exact qf E (by simp[zi,q1'])
  .have q1':(1<=mode)=False:=qi0 q1;simp[q1'];exact qf E (by simp[zi,q1'])
 by_cases h5:op=5
 .subst h5;by_cases q1:1<=mode
  .have q1':(1<=mode)=True:=qi1 q1;simp[q1'];exact qf E (by simp[zi,q1'])
  .have q1':(1<=mode)=False:=qi0 q1;simp[q1'];exact qf E (by simp[zi,q1'])
 by_cases h6:op=6
 .subst h6;by_cases q1:1<=mode
  .have q1':(1<=mode)=True:=qi1 q1;simp[q1'];exact qf E (by simp[zi,q1'])
  .have q1':(1<=mode)=False:=qi0 q1;simp[q1'];exact qf E (by simp[zi,q1'])
 by_cases h7:op=7
 .subst h7;by_cases q1:2<=mode
  .have q1':(2<=mode)=True:=qi1 q1;simp[q1'];exact qf E (by simp[zi,q1'])
  .have q1':(2<=mode)=False:=qi0 q1;simp[q1'];exact qf E (by simp[zi,q1'])
 simp[h2,h3,h4,h5,h6,h7];exact qf E (by simp[zi,h2,h3,h4,h5,h6,h7])
theorem qda (n:Nat)(op:Int)(m:M):CallV (ex Tryz.prog (n+1)) 113 [iv op] m (.bool (pD op)):=by
 refine qm dg6_ok (by simp) ?_;have E:=Ext.refl m;by_cases h1:op=1
 .subst h1;simp;exact qf E (by simp[pD])
 by_cases h2:op=2
 .subst h2;simp;exact qf E (by simp[pD])
 by_cases h3:op=4
 .subst h3;simp;exact qf E (by simp[pD])
 by_cases h4:op=5
 .subst h4;simp;exact qf E (by simp[pD])
 have d1:decide (op=1)=false:=qhw h1;have d2:decide (op=2)=false:=qhw h2;have d3:decide (op=4)=false:=qhw h3;have d4:decide (op=5)=false:=qhw h4;simp[d1,d2,d3,d4];exact qf E (by simp[pD,h1,h2,h3,h4])
theorem qcj (n:Nat)(op:Int)(m:M):CallV (ex Tryz.prog (n+1)) 114 [iv op] m (.bool (pP op)):=by
 refine qm dg7_ok (by simp) ?_;have E:=Ext.refl m;by_cases h1:op=2
 .subst h1;simp;exact qf E (by simp[pP])
 by_cases h2:op=3
 .subst h2;simp;exact qf E (by simp[pP])
 by_cases h3:op=4
 .subst h3;simp;exact qf E (by simp[pP])
 by_cases h4:op=5
 .subst h4;simp;exact qf E (by simp[pP])
 have d1:decide (op=2)=false:=qhw h1;have d2:decide (op=3)=false:=qhw h2;have d3:decide (op=4)=false:=qhw h3;have d4:decide (op=5)=false:=qhw h4;simp[d1,d2,d3,d4];exact qf E (by simp[pP,h1,h2,h3,h4])
def JU (n:Int):Bool:=decide (0<n/\n<=1024)&&decide (n.toNat &&& (n.toNat-1)=0)
theorem Zm:∀n:Nat,n<1025->(0<n/\n &&& (n-1)=0 ↔ ∃i,i<11/\n=2^i):=by decide +kernel
theorem JV (n:Int):JU n=true ↔ ∃i:Nat,i<11/\n=((2^i:Nat):Int):=by
 unfold JU;simp only[qhb,qi3];constructor
 .rintro ⟨⟨h1,h2⟩,h3⟩;obtain⟨i,hi,he⟩:=(Zm n.toNat (by omega)).1 ⟨by omega,h3⟩;exact⟨i,hi,by omega⟩
 .rintro ⟨i,hi,he⟩;have hp:2^i<=2^10:=Nat.pow_le_pow_right (by omega) (by omega);have hp0:0<2^i:=Nat.pow_pos (by omega);have hn:n.toNat=2^i:=by omega
  have:=(Zm n.toNat (by omega)).2 ⟨i,hi,hn⟩;exact⟨⟨by omega,by omega⟩,this.2⟩
theorem qdz (N:Nat)(n:Int)(m:M):CallV (ex Tryz.prog (N+1)) 85 [iv n] m (.bool (JU n)):=by
 refine qm de6_ok (by simp) ?_;simp;refine qq (c:=ce6_9) rfl (Ret m _) (λi t m3=>m3=m/\Tm.get 0 t=iv n/\Tm.get 3 t=iv ((2^i:Nat):Int)/\∀j,j<i->n≠((2^j:Nat):Int)) 11 (by omega)
  ⟨rfl,by simp,by simp,λj hj=>by omega⟩ (λi t m3 kk hi hI hk=>?_)
 obtain⟨rfl,t0,t3,hne⟩:=hI;obtain⟨p,hp⟩:∃p:Nat,p=2^i:=⟨_,rfl⟩;rw[<-hp]at t3;have hpl:p<=2^11:=by rw[hp];exact Nat.pow_le_pow_right (by omega) hi
 by_cases hil:i<11
 .have hpl:p<=2^10:=by rw[hp];exact Nat.pow_le_pow_right (by omega) (by omega)
  have e1:((p:Int)<=1024)=True:=qi1 (by omega);have e1':(p<=1024)=True:=qi1 (by omega);by_cases hq:(p:Int)=n
  .have dq:decide ((p:Int)=n)=true:=qhx hq;have hB:JU n=true:=(JV n).2 ⟨i,hil,by rw[<-hq,hp]⟩;rw[hB];simp[t0,t3,e1,dq];exact qf (Ext.refl _) (by simp)
  .have dq:decide ((p:Int)=n)=false:=qhw hq;obtain⟨q,hqq⟩:∃q:Nat,q=2^(i+1):=⟨_,rfl⟩;have w:xI .i64 ((p:Int)*2)=(q:Int):=by rw[zC,wrap64 _ (by omega) (by omega),hqq,Nat.pow_succ,<-hp];omega
   simp[t0,t3,e1,dq];refine hk hil _ _ ⟨rfl,by simp[t0],by rw[<-hqq];simp;exact w,λj hj=>?_⟩;rcases Nat.lt_or_ge j i with h | h
   .exact hne j h
   .obtain rfl:j=i:=by omega
    rw[<-hp];exact λh=>hq h.symm
 .obtain rfl:i=11:=by omega
  have hB:JU n=false:=by
   cases hc:JU n with
   | false=>rfl
   | true=>obtain⟨j,hj,he⟩:=(JV n).1 hc;exact absurd he (hne j hj)
  have hp':p=2048:=by rw[hp]
  subst hp';rw[hB];simp[t3];exact qf (Ext.refl _) (by simp)
abbrev rwS (A3 A4 A5:Nat)(a:Ac)(cells:Int)(tv:Value)(k:Nat)(av:Value):List (Nat × List Value):=[(A5,[iv k,av]),(A4,[iv cells,tv]),(A3,qe a)]
structure WR (t:Tm)(A3 A4 A5:Nat):Prop where
 t3:Tm.get 3 t=.pointer (some ⟨A3,0,none⟩)
 t4:Tm.get 4 t=.pointer (some ⟨A4,0,none⟩)
 t5:Tm.get 5 t=.pointer (some ⟨A5,0,none⟩)
def eB (e:Bool)(k:Nat)(es:List Nd):Bool:=if e then we k es else decide (es.length=0)
section
variable {m0 m:M}{A3 A4 A5:Nat}{a:Ac}{cells:Int}{tv av:Value}{k na:Nat}{t:Tm}
theorem rb1 (hst:St m0 m (rwS A3 A4 A5 a cells tv k av))(hT:WR t A3 A4 A5){N:Nat}{kn kr:K}{ke:Nat->K}{Q:Option Out->Prop}
  (H1:vP (pD a.op) k a.dst=false->∀t' m',Tm.get 6 t'=zF->Ext m m'->Q (kr t' m'))
  (H2:vP (pD a.op) k a.dst=true->∀t' m',WR t' A3 A4 A5->Ext m m'->Q (kn t' m')):Q (qa4 (ex Tryz.prog (N+2)) kn ke kr t m):=by
 have la:∀o s,load1 m ⟨A3,o,s⟩=(qe a)[o]?:=λo s=>(hst.get 2 rfl).2.2.load1 o s;have lt:∀o s,load1 m ⟨A5,o,s⟩=[iv k,av][o]?:=λo s=>(hst.get 0 rfl).2.2.load1 o s;obtain⟨t3,t4,t5⟩:=hT;obtain⟨v1,m1,c1,c2,rfl⟩:=qda (N+1) a.op m;have st1:=hst.step c2;have la1:∀o s,load1 m1 ⟨A3,o,s⟩=(qe a)[o]?:=λo s=>(st1.get 2 rfl).2.2.load1 o s;have lt1:∀o s,load1 m1 ⟨A5,o,s⟩=[iv k,av][o]?:=λo s=>(st1.get 0 rfl).2.2.load1 o s;obtain⟨v2,m2,d1,d2,rfl⟩:=qda (N+1) a.op m1;have st2:=st1.step d2;have la2:∀o s,load1 m2 ⟨A3,o,s⟩=(qe a)[o]?:=λo s=>(st2.get 2 rfl).2.2.load1 o s;simp only[qe]at la la1 la2;cases hd:pD a.op with
 | true =>
  rw[hd]at c1 d1 H1 H2;by_cases h1:a.dst<0
  .have e1:(a.dst<0)=True:=qi1 h1;have hb:vP true k a.dst=false:=qhw (by omega);simp[la,la1,t3,c1,e1];exact H1 hb _ _ (by simp) c2
  have e1:(a.dst<0)=False:=qi0 h1;by_cases h2:(k:Int)<=a.dst
  .have e2:((k:Int)<=a.dst)=True:=qi1 h2;have hb:vP true k a.dst=false:=qhw (by omega);simp[la,la1,lt1,t3,t5,c1,e1,e2];exact H1 hb _ _ (by simp) c2
  have e2:((k:Int)<=a.dst)=False:=qi0 h2;have hb:vP true k a.dst=true:=qhx (by omega);simp[la,la1,lt1,t3,t5,c1,d1,e1,e2];exact H2 hb _ _ ⟨by simp[t3],by simp[t4],by simp[t5]⟩ (c2.trans d2)
 | false =>
  rw[hd]at c1 d1 H1 H2;by_cases h1:a.dst=0
  .have e1:decide (a.dst=0)=true:=qhx h1;have hb:vP false k a.dst=true:=e1;simp[la,la1,la2,t3,c1,d1,e1];exact H2 hb _ _ ⟨by simp[t3],by simp[t4],by simp[t5]⟩ (c2.trans d2)
  .have e1:decide (a.dst=0)=false:=qhw h1;have hb:vP false k a.dst=false:=e1;simp[la,la1,la2,t3,c1,d1,e1];exact H1 hb _ _ (by simp) (c2.trans d2)
theorem rb2 (hst:St m0 m (rwS A3 A4 A5 a cells tv k av))(hT:WR t A3 A4 A5)(hk:k<1000000)(ha:AcOK m a)(hc0:0<=cells)(hc1:cells<=4096){n7:Int}(h7:1<=n7/\n7<=1024)(h70:¬a.size=0->0<a.size)(t7:Tm.get 7 t=iv n7){N:Nat}{kn kr:K}{ke:Nat->K}{Q:Option Out->Prop}
  (H1:(decide (0<=a.base/\a.base<=cells-n7)&&(if a.size=0 then decide (a.ixs.length=0) else we k a.ixs))=false->∀t' m',Tm.get 6 t'=zF->Ext m m'->Q (kr t' m'))
  (H2:(decide (0<=a.base/\a.base<=cells-n7)&&(if a.size=0 then decide (a.ixs.length=0) else we k a.ixs))=true->∀t' m',WR t' A3 A4 A5->Ext m m'->Q (kn t' m')):Q (Vf (ex Tryz.prog (N+2)) kn ke kr t m):=by
 have la:∀o s,load1 m ⟨A3,o,s⟩=(qe a)[o]?:=λo s=>(hst.get 2 rfl).2.2.load1 o s;have lt:∀o s,load1 m ⟨A5,o,s⟩=[iv k,av][o]?:=λo s=>(hst.get 0 rfl).2.2.load1 o s;have lp:∀o s,load1 m ⟨A4,o,s⟩=[iv cells,tv][o]?:=λo s=>(hst.get 1 rfl).2.2.load1 o s;obtain⟨t3,t4,t5⟩:=hT;have hil:wB a.ix=some (.int .i64 (a.ixs.length:Int)):=ha.ix.len;obtain⟨v1,m1,c1,c2,rfl⟩:=vp k hk a.ixs a.ix ha.ixl (N+1) m hst.sees.self.base ha.ix;simp only[qe]at la;obtain⟨q,hq⟩:=qi4 (cells-n7);have hw:IntKind.i64.wrap (cells-n7)=q:=by rw[wrap64 _ (by omega) (by omega),hq]
 rw[<-hq]at H1 H2;by_cases h1:a.base<0
 .have e1:(a.base<0)=True:=qi1 h1;simp[la,t3,e1];exact H1 (by rw[qhw (by omega)];rfl) _ _ (by simp) (Ext.refl m)
 have e1:(a.base<0)=False:=qi0 h1;by_cases h2:q<a.base
 .have e2:(q<a.base)=True:=qi1 h2;simp[la,lp,t3,t4,t7,e1,hw,e2];exact H1 (by rw[qhw (by omega)];rfl) _ _ (by simp) (Ext.refl m)
 have e2:(q<a.base)=False:=qi0 h2;rw[qhx (show 0<=a.base/\a.base<=q by omega),Bool.true_and]at H1 H2;by_cases h3:a.size=0
 .have d3:decide (a.size=0)=true:=qhx h3;have e3:(0<a.size)=False:=qi0 (by omega);rw[qhz h3]at H1 H2;obtain⟨n,hn⟩:=qi4 (a.ixs.length);rw[<-hn]at hil H1 H2;by_cases h4:n=0
  .have e4:((0:Int)<(n:Int))=False:=qi0 (by omega);have e4':(0<n)=False:=qi0 (by omega);simp[la,lp,t3,t4,t7,e1,hw,e2,d3,hil,e4',e3];exact H2 (qhx h4) _ _ ⟨by simp[t3],by simp[t4],by simp[t5]⟩ (Ext.refl m)
  .have e4:((0:Int)<(n:Int))=True:=qi1 (by omega);have e4':(0<n)=True:=qi1 (by omega);simp[la,lp,t3,t4,t7,e1,hw,e2,d3,hil,e4'];exact H1 (qhw h4) _ _ (by simp) (Ext.refl m)
 .have d3:decide (a.size=0)=false:=qhw h3;have e3:(0<a.size)=True:=qi1 (h70 h3);rw[qhy h3]at H1 H2;cases hb:we k a.ixs with
  | true =>
   rw[hb]at c1 H1 H2;simp[la,lt,lp,t3,t4,t5,t7,e1,hw,e2,d3,e3,c1];exact H2 rfl _ _ ⟨by simp[t3],by simp[t4],by simp[t5]⟩ c2
  | false =>
   rw[hb]at c1 H1 H2;simp[la,lt,lp,t3,t4,t5,t7,e1,hw,e2,d3,e3,c1];exact H1 rfl _ _ (by simp) c2
theorem rb3 (hst:St m0 m (rwS A3 A4 A5 a cells tv k av))(hT:WR t A3 A4 A5)(hk:k<1000000)(ha:AcOK m a)(hc0:0<=cells)(hc1:cells<=4096){N:Nat}{kn kr:K}{ke:Nat->K}{Q:Option Out->Prop}
  (H1:plB (pP a.op) cells k a=false->∀t' m',Tm.get 6 t'=zF->Ext m m'->Q (kr t' m'))
  (H2:plB (pP a.op) cells k a=true->∀t' m',WR t' A3 A4 A5->Ext m m'->Q (kn t' m')):Q (Vg (ex Tryz.prog (N+2)) kn ke kr t m):=by
 have la:∀o s,load1 m ⟨A3,o,s⟩=(qe a)[o]?:=λo s=>(hst.get 2 rfl).2.2.load1 o s;obtain⟨t3,t4,t5⟩:=hT;obtain⟨v1,m1,c1,c2,rfl⟩:=qcj (N+1) a.op m;have st1:=hst.step c2;have la1:∀o s,load1 m1 ⟨A3,o,s⟩=(qe a)[o]?:=λo s=>(st1.get 2 rfl).2.2.load1 o s;have ha1:=ha.sees (hst.sees.self.ext c2);have hil:wB a.ix=some (.int .i64 (a.ixs.length:Int)):=ha.ix.len;simp only[qe]at la la1;cases hp:pP a.op with
 | false =>
  rw[hp]at c1 H1 H2;have hb:plB false cells k a=decide (a.base=0/\a.size=0/\a.ixs.length=0):=rfl;rw[hb]at H1 H2;obtain⟨n,hn⟩:=qi4 (a.ixs.length);rw[<-hn]at hil H1 H2;by_cases h1:a.base=0
  .have d1:decide (a.base=0)=true:=qhx h1;by_cases h2:a.size=0
   .have d2:decide (a.size=0)=true:=qhx h2;by_cases h4:n=0
    .have e4:((0:Int)<(n:Int))=False:=qi0 (by omega);have e4':(0<n)=False:=qi0 (by omega);simp[la,la1,t3,c1,d1,d2,hil,e4'];exact H2 (qhx ⟨h1,h2,h4⟩) _ _ ⟨by simp[t3],by simp[t4],by simp[t5]⟩ c2
    .have e4:((0:Int)<(n:Int))=True:=qi1 (by omega);have e4':(0<n)=True:=qi1 (by omega);simp[la,la1,t3,c1,d1,d2,hil,e4'];exact H1 (qhw λh=>h4 h.2.2) _ _ (by simp) c2
   .have d2:decide (a.size=0)=false:=qhw h2;simp[la,la1,t3,c1,d1,d2];exact H1 (qhw λh=>h2 h.2.1) _ _ (by simp) c2
  .have d1:decide (a.base=0)=false:=qhw h1;simp[la,la1,t3,c1,d1];exact H1 (qhw λh=>h1 h.1) _ _ (by simp) c2
 | true =>
  rw[hp]at c1 H1 H2;have hb:plB true cells k a=(decide (0<=a.size/\a.size<=1024)&&decide (a.size.toNat &&& (a.size.toNat-1)=0)&&decide (0<=a.base/\a.base<=cells-max 1 a.size)&&(if a.size=0 then decide (a.ixs.length=0) else we k a.ixs)):=rfl
  by_cases h3:a.size=0
  .have d3:decide (a.size=0)=true:=qhx h3;have hb':plB true cells k a=(decide (0<=a.base/\a.base<=cells-1)&&(if a.size=0 then decide (a.ixs.length=0) else we k a.ixs)):=by
    rw[hb,qhx (show 0<=a.size/\a.size<=1024 by omega),show max 1 a.size=1 by omega,show a.size.toNat=0 by omega];simp
   rw[hb']at H1 H2;simp[la,la1,t3,c1,d3,-WH];exact rb2 st1 ⟨by simp[t3],by simp[t4],by simp[t5]⟩ hk ha1 hc0 hc1 (n7:=1) (by omega) (λh=>absurd h3 h) (by simp) (λh t' m' x e=>H1 h t' m' x (c2.trans e)) (λh t' m' x e=>H2 h t' m' x (c2.trans e))
  .have d3:decide (a.size=0)=false:=qhw h3;obtain⟨v2,m2,d1,d2,rfl⟩:=qdz (N+1) a.size m1;have st2:=st1.step d2;have la2:∀o s,load1 m2 ⟨A3,o,s⟩=(qe a)[o]?:=λo s=>(st2.get 2 rfl).2.2.load1 o s;have hpw:JU a.size=(decide (0<a.size/\a.size<=1024)&&decide (a.size.toNat &&& (a.size.toNat-1)=0)):=rfl;cases hw:JU a.size with
   | false =>
    have hb':plB true cells k a=false:=by
     rw[hb,show decide (0<=a.size/\a.size<=1024)=decide (0<a.size/\a.size<=1024) from decide_eq_decide.2 (by omega),<-hpw,hw];rfl
    rw[hw]at d1;simp[la,la1,t3,c1,d3,d1];exact H1 hb' _ _ (by simp) (c2.trans d2)
   | true =>
    have hs:0<a.size/\a.size<=1024:=by
     have:=hpw;rw[hw]at this;have:=this.symm;simp only[qhb,qi3]at this;exact this.1
    have hb':plB true cells k a=(decide (0<=a.base/\a.base<=cells-a.size)&&(if a.size=0 then decide (a.ixs.length=0) else we k a.ixs)):=by
     rw[hb,show decide (0<=a.size/\a.size<=1024)=decide (0<a.size/\a.size<=1024) from decide_eq_decide.2 (by omega),<-hpw,hw,Bool.true_and,show max 1 a.size=a.size by omega]
    rw[hb']at H1 H2;rw[hw]at d1;simp[la,la1,t3,c1,d3,d1,-WH];exact rb2 st2 ⟨by simp[t3],by simp[t4],by simp[t5]⟩ hk (ha1.sees (st1.sees.self.ext d2)) hc0 hc1 (n7:=a.size) (by omega) (λ_=>hs.1) (by simp) (λh t' m' x e=>H1 h t' m' x ((c2.trans d2).trans e)) (λh t' m' x e=>H2 h t' m' x ((c2.trans d2).trans e))
end
section
variable {m0 m:M}{A3 A4 A5:Nat}{a:Ac}{cells:Int}{tv av:Value}{k na:Nat}{t:Tm}
theorem rb4 (hst:St m0 m (rwS A3 A4 A5 a cells tv k av))(hT:WR t A3 A4 A5)(hop:1<=a.op/\a.op<=10){x:Ex}{kn kr:K}{ke:Nat->K}{Q:Option Out->Prop}
  (H:∀t',Tm.get 8 t'=.bool (pE a.op)->WR t' A3 A4 A5->Q (Vk x kn ke kr t' m)):Q (Vl x kn ke kr t m):=by
 have la:∀o s,load1 m ⟨A3,o,s⟩=(qe a)[o]?:=λo s=>(hst.get 2 rfl).2.2.load1 o s;obtain⟨t3,t4,t5⟩:=hT;simp only[qe]at la;by_cases h2:a.op=2
 .have d2:decide (a.op=2)=true:=qhx h2;have hp:pE a.op=false:=by unfold pE;exact qhw (by omega)
  rw[hp]at H;simp[la,t3,d2,-yx];exact H _ (by simp) ⟨by simp[t3],by simp[t4],by simp[t5]⟩
 have d2:decide (a.op=2)=false:=qhw h2;by_cases h7:a.op=7
 .have d7:decide (a.op=7)=true:=qhx h7;have hp:pE a.op=false:=by unfold pE;exact qhw (by omega)
  rw[hp]at H;simp[la,t3,d2,d7,-yx];exact H _ (by simp) ⟨by simp[t3],by simp[t4],by simp[t5]⟩
 have d7:decide (a.op=7)=false:=qhw h7;by_cases h9:a.op=9
 .have d9:decide (a.op=9)=true:=qhx h9;have hp:pE a.op=false:=by unfold pE;exact qhw (by omega)
  rw[hp]at H;simp[la,t3,d2,d7,d9,-yx];exact H _ (by simp) ⟨by simp[t3],by simp[t4],by simp[t5]⟩
 have d9:decide (a.op=9)=false:=qhw h9;have hp:pE a.op=true:=by unfold pE;exact qhx (by omega)
 rw[hp]at H;simp[la,t3,d2,d7,d9,-yx];exact H _ (by simp) ⟨by simp[t3],by simp[t4],by simp[t5]⟩
theorem rb5 (hst:St m0 m (rwS A3 A4 A5 a cells tv k av))(hT:WR t A3 A4 A5)(hk:k<1000000)(ha:AcOK m a){e:Bool}(t8:Tm.get 8 t=.bool e){N:Nat}{kn kr:K}{ke:Nat->K}{Q:Option Out->Prop}
  (H1:eB e k a.es=false->∀t' m',Tm.get 6 t'=zF->Ext m m'->Q (kr t' m'))
  (H2:eB e k a.es=true->∀t' m',WR t' A3 A4 A5->Ext m m'->Q (kn t' m')):Q (Vh (ex Tryz.prog (N+1)) kn ke kr t m):=by
 have la:∀o s,load1 m ⟨A3,o,s⟩=(qe a)[o]?:=λo s=>(hst.get 2 rfl).2.2.load1 o s;have lt:∀o s,load1 m ⟨A5,o,s⟩=[iv k,av][o]?:=λo s=>(hst.get 0 rfl).2.2.load1 o s;obtain⟨t3,t4,t5⟩:=hT;have hel:wB a.ev=some (.int .i64 (a.es.length:Int)):=ha.ev.len;obtain⟨v1,m1,c1,c2,rfl⟩:=vp k hk a.es a.ev ha.evl N m hst.sees.self.base ha.ev;simp only[qe]at la;cases e with
 | true =>
  have hb:eB true k a.es=we k a.es:=rfl;rw[hb]at H1 H2;cases hx:we k a.es with
  | true =>
   rw[hx]at c1;simp[la,lt,t3,t5,t8,c1];exact H2 hx _ _ ⟨by simp[t3],by simp[t4],by simp[t5]⟩ c2
  | false =>
   rw[hx]at c1;simp[la,lt,t3,t5,t8,c1];exact H1 hx _ _ (by simp) c2
 | false =>
  have hb:eB false k a.es=decide (a.es.length=0):=rfl;rw[hb]at H1 H2;obtain⟨n,hn⟩:=qi4 (a.es.length);rw[<-hn]at hel H1 H2;by_cases h4:n=0
  .have e4:((0:Int)<(n:Int))=False:=qi0 (by omega);have e4':(0<n)=False:=qi0 (by omega);simp[la,t3,t8,hel,e4'];exact H2 (qhx h4) _ _ ⟨by simp[t3],by simp[t4],by simp[t5]⟩ (Ext.refl m)
  .have e4:((0:Int)<(n:Int))=True:=qi1 (by omega);have e4':(0<n)=True:=qi1 (by omega);simp[la,t3,t8,hel,e4'];exact H1 (qhw h4) _ _ (by simp) (Ext.refl m)
theorem rb6 (hst:St m0 m (rwS A3 A4 A5 a cells tv k av))(hT:WR t A3 A4 A5)(hk:k<1000000)(ha:AcOK m a){N:Nat}{kn kr:K}{ke:Nat->K}{Q:Option Out->Prop}
  (H1:eB (pF a.op) k a.fs=false->∀t' m',Tm.get 6 t'=zF->Ext m m'->Q (kr t' m'))
  (H2:eB (pF a.op) k a.fs=true->∀t' m',WR t' A3 A4 A5->Ext m m'->Q (kn t' m')):Q (Vi (ex Tryz.prog (N+1)) kn ke kr t m):=by
 have la:∀o s,load1 m ⟨A3,o,s⟩=(qe a)[o]?:=λo s=>(hst.get 2 rfl).2.2.load1 o s;have lt:∀o s,load1 m ⟨A5,o,s⟩=[iv k,av][o]?:=λo s=>(hst.get 0 rfl).2.2.load1 o s;obtain⟨t3,t4,t5⟩:=hT;have hel:wB a.fv=some (.int .i64 (a.fs.length:Int)):=ha.fv.len;obtain⟨v1,m1,c1,c2,rfl⟩:=vp k hk a.fs a.fv ha.fvl N m hst.sees.self.base ha.fv;have st1:=hst.step c2;have la1:∀o s,load1 m1 ⟨A3,o,s⟩=(qe a)[o]?:=λo s=>(st1.get 2 rfl).2.2.load1 o s;simp only[qe]at la la1;by_cases h6:a.op=6
 .have d6:decide (a.op=6)=true:=qhx h6;have hb:eB (pF a.op) k a.fs=we k a.fs:=by unfold pF;rw[d6];rfl
  rw[hb]at H1 H2;cases hx:we k a.fs with
  | true =>
   rw[hx]at c1;simp[la,la1,lt,t3,t5,d6,c1];exact H2 hx _ _ ⟨by simp[t3],by simp[t4],by simp[t5]⟩ c2
  | false =>
   rw[hx]at c1;simp[la,lt,t3,t5,d6,c1];exact H1 hx _ _ (by simp) c2
 .have d6:decide (a.op=6)=false:=qhw h6;have hb:eB (pF a.op) k a.fs=decide (a.fs.length=0):=by unfold pF;rw[d6];rfl
  rw[hb]at H1 H2;obtain⟨n,hn⟩:=qi4 (a.fs.length);rw[<-hn]at hel H1 H2;by_cases h4:n=0
  .have e4:((0:Int)<(n:Int))=False:=qi0 (by omega);have e4':(0<n)=False:=qi0 (by omega);simp[la,t3,d6,hel,e4'];exact H2 (qhx h4) _ _ ⟨by simp[t3],by simp[t4],by simp[t5]⟩ (Ext.refl m)
  .have e4:((0:Int)<(n:Int))=True:=qi1 (by omega);have e4':(0<n)=True:=qi1 (by omega);simp[la,t3,d6,hel,e4'];exact H1 (qhw h4) _ _ (by simp) (Ext.refl m)
theorem rb7 (hst:St m0 m (rwS A3 A4 A5 a cells tv k av))(hT:WR t A3 A4 A5)(hav:wB av=some (.int .i64 (na:Int))){x:Ex}{kn kr:K}{ke:Nat->K}{Q:Option Out->Prop}
  (H:∀t',Tm.get 6 t'=.bool (toB (pT a.op) na a.to)->Q (kr t' m)):Q (Vj x kn ke kr t m):=by
 have la:∀o s,load1 m ⟨A3,o,s⟩=(qe a)[o]?:=λo s=>(hst.get 2 rfl).2.2.load1 o s;have lt:∀o s,load1 m ⟨A5,o,s⟩=[iv k,av][o]?:=λo s=>(hst.get 0 rfl).2.2.load1 o s;obtain⟨t3,t4,t5⟩:=hT;simp only[qe]at la;by_cases h9:a.op=9
 .have d9:decide (a.op=9)=true:=qhx h9;have hb:toB (pT a.op) na a.to=decide (0<=a.to/\a.to<=na):=by unfold pT;rw[qhx (.inl h9)];rfl
  rw[hb]at H;by_cases h1:0<=a.to
  .have e1:((0:Int)<=a.to)=True:=qi1 h1;by_cases h2:a.to<=na
   .have e2:(a.to<=(na:Int))=True:=qi1 h2;rw[qhx ⟨h1,h2⟩]at H;simp[la,lt,t3,t5,d9,e1,e2,hav];exact H _ (by simp)
   .have e2:(a.to<=(na:Int))=False:=qi0 h2;rw[qhw (λh=>h2 h.2)]at H;simp[la,lt,t3,t5,d9,e1,e2,hav];exact H _ (by simp)
  .have e1:((0:Int)<=a.to)=False:=qi0 h1;rw[qhw (λh=>h1 h.1)]at H;simp[la,t3,d9,e1];exact H _ (by simp)
 have d9:decide (a.op=9)=false:=qhw h9;by_cases h10:a.op=10
 .have d10:decide (a.op=10)=true:=qhx h10;have hb:toB (pT a.op) na a.to=decide (0<=a.to/\a.to<=na):=by unfold pT;rw[qhx (.inr h10)];rfl
  rw[hb]at H;by_cases h1:0<=a.to
  .have e1:((0:Int)<=a.to)=True:=qi1 h1;by_cases h2:a.to<=na
   .have e2:(a.to<=(na:Int))=True:=qi1 h2;rw[qhx ⟨h1,h2⟩]at H;simp[la,lt,t3,t5,d9,d10,e1,e2,hav];exact H _ (by simp)
   .have e2:(a.to<=(na:Int))=False:=qi0 h2;rw[qhw (λh=>h2 h.2)]at H;simp[la,lt,t3,t5,d9,d10,e1,e2,hav];exact H _ (by simp)
  .have e1:((0:Int)<=a.to)=False:=qi0 h1;rw[qhw (λh=>h1 h.1)]at H;simp[la,t3,d9,d10,e1];exact H _ (by simp)
 have d10:decide (a.op=10)=false:=qhw h10;have hb:toB (pT a.op) na a.to=decide (a.to=0):=by unfold pT;rw[qhw (by omega)];rfl
 rw[hb]at H;simp[la,t3,d9,d10];exact H _ (by simp)
end
theorem eB_es (e f:Bool)(k:Nat)(a:Ac):(eB e k a.es&&eB f k a.fs)=esB e f k a:=by
 have hx:∀es:List Nd,we k es=true->0<es.length:=λes h=>(xZ h).1;have h0:∀es:List Nd,decide (es.length=0)=!decide (0<es.length):=λes=>by
  by_cases h:0<es.length
  .rw[qhx h,qhw (by omega)];rfl
  .rw[qhw h,qhx (by omega)];rfl
 have hh:∀(e:Bool) (es:List Nd),eB e k es=(decide (e=decide (0<es.length))&&(!e||we k es)):=λe es=>by
  cases e with
  | true =>
   show we k es=_;cases hc:we k es with
   | true=>rw[qhx (hx es hc)];rfl
   | false=>simp
  | false =>
   show decide (es.length=0)=_;rw[h0];cases decide (0<es.length)<;>rfl
 rw[hh,hh];unfold esB;cases decide (e=decide (0<a.es.length))<;>cases decide (f=decide (0<a.fs.length))<;>cases (!e||we k a.es)<;>cases (!f||we k a.fs)<;>rfl
theorem qgl (k:Nat)(hk:k<1000000)(cells:Int)(tv:Value)(hc0:0<=cells)(hc1:cells<=4096)(av:Value)(na:Nat)(hav:wB av=some (.int .i64 (na:Int)))(a:Ac)(N:Nat)(m:M)(hm:m.base<=m.n)(ha:AcOK m a) :
  CallV (ex Tryz.prog (N+3)) 62 [.agg ⟨qe a⟩,.agg ⟨[iv cells,tv]⟩,.agg ⟨[iv k,av]⟩] m (.bool (yY cells k na a)):=by
 refine qm dd5_ok (by simp) ?_;have st0:St m m []:=St.nil hm (Ext.refl m);have st1:=st0.row (qe a);obtain⟨m1,hm1⟩:=qi4 (Dx.newRow m (qe a));rw[<-hm1]at st1;have st2:=st1.row [iv cells,tv];obtain⟨m2,hm2⟩:=qi4 (Dx.newRow m1 [iv cells,tv]);rw[<-hm2]at st2;have st3:=st2.row [iv k,av];obtain⟨m3,hm3⟩:=qi4 (Dx.newRow m2 [iv k,av]);rw[<-hm3]at st3;have la:∀o s,load1 m3 ⟨m.n,o,s⟩=(qe a)[o]?:=λo s=>(st3.get 2 rfl).2.2.load1 o s;simp only[qe]at la;have hA:yY cells k na a=(decide (1<=a.op/\a.op<=10)&&(zi a.op a.mode&&(vP (pD a.op) k a.dst&&(plB (pP a.op) cells k a&&(esB (pE a.op) (pF a.op) k a&&toB (pT a.op) na a.to))))):=rfl;rw[hA];by_cases h1:a.op<1
 .have e1:(a.op<1)=True:=qi1 h1;rw[qhw (show ¬(1<=a.op/\a.op<=10) by omega)];simp[<-hm1,<-hm2,<-hm3,la,e1];exact qf st3.ext (by simp)
 have e1:(a.op<1)=False:=qi0 h1;by_cases h2:10<a.op
 .have e2:(10<a.op)=True:=qi1 h2;rw[qhw (show ¬(1<=a.op/\a.op<=10) by omega)];simp[<-hm1,<-hm2,<-hm3,la,e1,e2];exact qf st3.ext (by simp)
 have e2:(10<a.op)=False:=qi0 h2;rw[qhx (show (1<=a.op/\a.op<=10) by omega),Bool.true_and];obtain⟨v4,m4,c1,c2,rfl⟩:=May_c (N+1) a.op a.mode m3;have st4:=st3.step c2;cases hmay:zi a.op a.mode with
 | false =>
  rw[hmay]at c1;simp[<-hm1,<-hm2,<-hm3,la,e1,e2,c1];exact qf st4.ext (by simp)
 | true =>
 rw[hmay]at c1;rw[Bool.true_and];simp[<-hm1,<-hm2,<-hm3,la,e1,e2,c1,-qa5];have st4':St m m4 (rwS m.n m1.n m2.n a cells tv k av):=st4;refine rb1 (A3:=m.n) (A4:=m1.n) (A5:=m2.n) st4' ⟨by simp,by simp,by simp⟩ (λhd t' m' h6 E=>?_) (λhd t' m5 T1 E5=>?_)
 .rw[hd];exact qf (st4'.step E).ext (by simp[h6])
 have st5:=st4'.step E5;rw[hd,Bool.true_and];simp[-Gr];refine rb3 st5 T1 hk (ha.sees st5.sees) hc0 hc1 (λhd t' m' h6 E=>?_) (λhd t' m6 T2 E6=>?_)
 .rw[hd];exact qf (st5.step E).ext (by simp[h6])
 have st6:=st5.step E6;rw[hd,Bool.true_and];refine rb4 st6 T2 (by omega) (λt' t8 T3=>?_);rw[<-eB_es];simp[-Gt];refine rb5 st6 T3 hk (ha.sees st6.sees) t8 (λhd t' m' h6 E=>?_) (λhd t' m7 T4 E7=>?_)
 .rw[hd];exact qf (st6.step E).ext (by simp[h6])
 have st7:=st6.step E7;rw[hd,Bool.true_and];simp[-Gu];refine rb6 st7 T4 hk (ha.sees st7.sees) (λhd t' m' h6 E=>?_) (λhd t' m8 T5 E8=>?_)
 .rw[hd];exact qf (st7.step E).ext (by simp[h6])
 have st8:=st7.step E8;rw[hd,Bool.true_and];exact rb7 st8 T5 hav (λt' h6=>qf st8.ext (by simp[h6]))
theorem Yf (p:Pg)(N:Nat)(m:M)(hm:m.base<=m.n)(hp:PgOK m p):CallV (ex Tryz.prog (N+4)) 32 [pgV p] m (.bool (pgB p)):=by
 refine qm db5_ok (by simp) ?_;obtain⟨cells,tv,ths⟩:=p;have st1:=(St.nil hm (Ext.refl m)).row [iv cells,tv];obtain⟨m1,hm1⟩:=qi4 (Dx.newRow m [iv cells,tv]);rw[<-hm1]at st1;have lp:∀o s,load1 m1 ⟨m.n,o,s⟩=[iv cells,tv][o]?:=λo s=>(st1.get 0 rfl).2.2.load1 o s;obtain⟨n,hn⟩:=qi4 (ths.length);have hll:wB tv=some (.int .i64 (n:Int)):=by rw[hn];exact hp.tv.len
 have hB:pgB ⟨cells,tv,ths⟩=(decide (0<=cells/\cells<=4096)&&(decide (n<=64)&&ths.all (thB cells))):=by rw[hn];rfl
 rw[hB];unfold pgV;by_cases h1:cells<0
 .have e1:(cells<0)=True:=qi1 h1;rw[qhw (show ¬(0<=cells/\cells<=4096) by omega)];simp[<-hm1,lp,e1];exact qf st1.ext (by simp)
 have e1:(cells<0)=False:=qi0 h1;by_cases h2:4096<cells
 .have e2:(4096<cells)=True:=qi1 h2;rw[qhw (show ¬(0<=cells/\cells<=4096) by omega)];simp[<-hm1,lp,e1,e2];exact qf st1.ext (by simp)
 have e2:(4096<cells)=False:=qi0 h2;rw[qhx (show (0<=cells/\cells<=4096) by omega),Bool.true_and];by_cases h3:64<n
 .have e3:((64:Int)<(n:Int))=True:=qi1 (by omega);have e3':(64<n)=True:=qi1 (by omega);rw[qhw (show ¬(n<=64) by omega)];simp[<-hm1,lp,e1,e2,hll,e3];exact qf st1.ext (by simp)
 have e3:((64:Int)<(n:Int))=False:=qi0 (by omega);have e3':(64<n)=False:=qi0 (by omega);rw[qhx (show (n<=64) by omega),Bool.true_and];simp[<-hm1,lp,e1,e2,hll,e3];refine qq (c:=DI) rfl (Ret m _) (λi t m'=>St m m' [(m.n,[iv cells,tv])]/\(∀(j:Nat) x,j<i->ths[j]?=some x->thB cells x=true)/\Tm.get 1 t=.pointer (some ⟨m.n,0,none⟩)/\Tm.get 3 t=iv i) n (by omega)
  ⟨st1,λj nd hj=>absurd hj (qhv _),by simp,by simp⟩ (λi t m' k' hi hI hk'=>?_)
 obtain⟨st,hok,t1,t3⟩:=hI;have lq:∀o s,load1 m' ⟨m.n,o,s⟩=[iv cells,tv][o]?:=λo s=>(st.get 0 rfl).2.2.load1 o s;by_cases hil:i<n
 .have hd:=dlt hil;have hd':(i<n)=True:=qi1 hil;obtain⟨th,hth⟩:∃r,ths[i]?=some r:=⟨_,qh5 (by omega)⟩;have ⟨a1,a2,_⟩:=hp.tv.at hth;have a2':=a2 m' st.sees;have hthok:=hp.ths th (qh6 hth);have ni:=qK (i:=i) (by omega);obtain⟨loc,av,acts⟩:=th;simp only[zd]at a2';have st1:=st.row [zI,zS];obtain⟨m1,hm1⟩:=qi4 (Dx.newRow m' [zI,zS]);rw[<-hm1]at st1;have okav:okC av=true:=hthok.av.okV;obtain⟨m2,s1,s2,s3,s4⟩:=st1.fill 0 rfl (n:=2) (l':=[iv loc,av]) rfl rfl (by simp[okC];exact okav);have s2':St m m2 [(m'.n,[iv loc,av]),(m.n,[iv cells,tv])]:=s2;have l2:∀o s,load1 m2 ⟨m'.n,o,s⟩=[iv loc,av][o]?:=λo s=>(s2'.get 0 rfl).2.2.load1 o s;obtain⟨na,hna⟩:=qi4 (acts.length);have hal:wB av=some (.int .i64 (na:Int)):=by rw[hna];exact hthok.av.len
  have hnal:na<=9223372036854775807:=by rw[hna];exact hthok.len
  have hT:thB cells ⟨loc,av,acts⟩=(decide (0<=loc/\loc<=24)&&(decide (na<=65536)&&acts.all (yY cells loc.toNat na))):=by rw[hna];rfl
  have bad:thB cells ⟨loc,av,acts⟩=false->ths.all (thB cells)=false:=λh=>yq hth h;by_cases h4:loc<0
  .have e4:(loc<0)=True:=qi1 h4;rw[bad (by rw[hT,qhw (show ¬(0<=loc/\loc<=24) by omega)];rfl)];simp[t1,t3,lq,hll,hd,a1,a2',qb,<-hm1,s1,l2,e4];exact qf s2'.ext (by simp)
  have e4:(loc<0)=False:=qi0 h4;by_cases h5:24<loc
  .have e5:(24<loc)=True:=qi1 h5;rw[bad (by rw[hT,qhw (show ¬(0<=loc/\loc<=24) by omega)];rfl)];simp[t1,t3,lq,hll,hd,a1,a2',qb,<-hm1,s1,l2,e4,e5];exact qf s2'.ext (by simp)
  have e5:(24<loc)=False:=qi0 h5;rw[qhx (show (0<=loc/\loc<=24) by omega),Bool.true_and]at hT;by_cases h6:65536<na
  .have e6:((65536:Int)<(na:Int))=True:=qi1 (by omega);have e6':(65536<na)=True:=qi1 (by omega);rw[bad (by rw[hT,qhw (show ¬(na<=65536) by omega)];rfl)];simp[t1,t3,lq,hll,hd,a1,a2',qb,<-hm1,s1,l2,e4,e5,hal,e6];exact qf s2'.ext (by simp)
  have e6:((65536:Int)<(na:Int))=False:=qi0 (by omega);have e6':(65536<na)=False:=qi0 (by omega);rw[qhx (show (na<=65536) by omega),Bool.true_and]at hT;obtain⟨q,rfl⟩:∃q:Nat,loc=q:=⟨loc.toNat,by omega⟩;rw[qhj]at hT;obtain⟨z,hz⟩:∃z:Int,z=(q:Int):=⟨_,rfl⟩;rw[<-hz]at a2' s1 s2' l2 e4 e5;simp[t1,t3,lq,hll,hd,a1,a2',qb,<-hm1,s1,l2,e4,e5,hal,e6];refine qq (c:=DH) rfl (Ret m _) (λj t m3=>St m m3 [(m'.n,[iv q,av]),(m.n,[iv cells,tv])]/\(∀(j':Nat) x,j'<j->acts[j']?=some x->yY cells q na x=true)/\Tm.get 1 t=.pointer (some ⟨m.n,0,none⟩)/\Tm.get 4 t=.pointer (some ⟨m'.n,0,none⟩)/\Tm.get 3 t=iv i/\Tm.get 5 t=iv j) na (by omega)
   ⟨by rw[hz]at s2';exact s2',λj nd hj=>absurd hj (qhv _),by simp[t1],by simp,by simp[t3],by simp⟩ (λj t m3 k3 hj hJ hk3=>?_)
  obtain⟨st3,hok3,t1,t4,t3,t5⟩:=hJ;have l3t:∀o s,load1 m3 ⟨m'.n,o,s⟩=[iv q,av][o]?:=λo s=>(st3.get 0 rfl).2.2.load1 o s;by_cases hjl:j<na
  .have hd:=dlt hjl;have hd':(j<na)=True:=qi1 hjl;obtain⟨a,hac⟩:∃r,acts[j]?=some r:=⟨_,qh5 (by omega)⟩;have ⟨b1,b2,_⟩:=hthok.av.at hac;have b2':=b2 m3 st3.sees;have haok:=hthok.acts a (qh6 hac);have nj:=qK (i:=j) (by omega);have l5t:loads m3 ⟨m'.n,0,none⟩ 2=some [iv q,av]:=(st3.get 0 rfl).2.2.loads (n:=2) (by simp);have l5p:loads m3 ⟨m.n,0,none⟩ 2=some [iv cells,tv]:=(st3.get 1 rfl).2.2.loads (n:=2) (by simp);obtain⟨v6,m6',c1,c2,c3,rfl⟩:=qZ (qgl q (by omega) cells tv (by omega) (by omega) av na hal a N (ql m3) (qp st3.sees).base (haok.sees (qp st3.sees)));obtain⟨m6,hm6⟩:=qi4 (behind m3 m6');rw[<-hm6]at c3;have st6:=st3.step c3;cases hab:yY cells q na a with
   | true =>
    rw[hab]at c1;simp[t1,t4,t5,l3t,hal,hd,b1,b2',qb,l5t,l5p,c1,c2,<-hm6,nj];exact hk3 hjl _ _ ⟨st6,λj' x hj' hx=>by
     by_cases hjj:j'=j
     .subst hjj;rw[hac]at hx;cases hx;exact hab
     .exact hok3 j' x (by omega) hx,by simp[t1],by simp[t4],by simp[t3],by simp⟩
   | false =>
    rw[hab]at c1;rw[bad (by rw[hT];exact yq hac hab)];simp[t1,t4,t5,l3t,hal,hd,b1,b2',qb,l5t,l5p,c1,c2,<-hm6];exact qf st6.ext (by simp)
  .obtain rfl:j=na:=by omega
   have hd:((j:Int)<(j:Int))=False:=qi0 (by omega);have hth1:thB cells ⟨(q:Int),av,acts⟩=true:=by rw[hT];exact fD λi' x hi' hx=>hok3 i' x (by omega) hx
   simp[t4,t3,t5,l3t,hal,hd,ni];exact hk' hil _ _ ⟨st3.sub (by simp) (by have:=st3.nd;simp at this ⊢),λj' x hj' hx=>by
    by_cases hjj:j'=i
    .subst hjj;rw[hth]at hx;cases hx;exact hth1
    .exact hok j' x (by omega) hx,by simp[t1],by simp⟩
 .obtain rfl:i=n:=by omega
  have hd:((i:Int)<(i:Int))=False:=qi0 (by omega);rw[fD (f:=thB cells) (l:=ths) λi' x hi' hx=>hok i' x (by omega) hx];simp[t1,t3,lq,hll,hd];exact qf st.ext (by simp)
end Go.Sx
namespace Go.Dx
theorem vj {bs B:Nat}{wl:List Nat}{C:Nat}(h:C∈note bs B wl):C∈wl\/(C=B/\B<bs):=by
 unfold note at h;cases hb:Nat.ble bs B with
 | true=>rw[hb]at h;exact .inl h
 | false =>
  rw[hb]at h;have hlt:B<bs:=by
   rcases Nat.lt_or_ge B bs with h' | h'
   .exact h'
   .rw[qhd h']at hb;cases hb
  cases wl with
  | nil=>exact .inr ⟨qhc.1 h,hlt⟩
  | cons D l =>
   simp only[cond_false]at h;cases hd:Nat.beq B D with
   | true=>rw[hd]at h;exact .inl h
   | false =>
    rw[hd]at h;rcases List.mem_cons.1 h with rfl | h
    .exact .inr ⟨rfl,hlt⟩
    .exact .inl h
theorem bx {bs:Nat}:∀{l wl:List Nat} {C:Nat},C∈notes bs wl l->C∈wl\/C∈l
 | [],_,_,h=>.inl h
 | B::l,wl,C,h=>by
  rcases bx (l:=l) (wl:=note bs B wl) h with h | h
  .rcases vj h with h | ⟨rfl,_⟩
   .exact .inl h
   .exact .inr (qho ..)
  .exact .inr (qhg _ h)
structure Mc (m m':M)(W:List Nat):Prop where
 n:m.n<=m'.n
 obj:∀B,B<m.n->B ∉ W->m'.obj B=m.obj B
 base:m'.base=m.base
 log:∀B∈m'.log,B∈m.log\/B∈W
 low:(∀B∈W,m.base<=B)->m'.log=m.log
section
variable {a b c m m' m0:M}{W W':List Nat}
theorem Mc.refl:Mc m m W:=⟨qh8 _,λ_ _ _=>rfl,rfl,λ_ h=>.inl h,λ_=>rfl⟩
theorem Mc.trans (h:Mc a b W)(k:Mc b c W):Mc a c W :=
 ⟨qhh h.n k.n,λB hB hW=>(k.obj B (qha hB h.n) hW).trans (h.obj B hB hW),k.base.trans h.base,λB hB=>by
  rcases k.log B hB with h' | h'
  .exact h.log B h'
  .exact .inr h',λhW=>(k.low (by rw[h.base];exact hW)).trans (h.low hW)⟩
theorem Ext.mc (h:Ext m m'):Mc m m' W:=⟨h.n,λB hB _=>h.obj B hB,h.base,λB hB=>.inl (by rw[<-h.log];exact hB),λ_=>h.log⟩
theorem Mc.behind (h:Mc (ql m) m' W):Mc m (Dx.behind m m') W:=by
 have hl:∀B∈m'.log,B∈W:=λB hB=>by
  rcases h.log B hB with h' | h'
  .rw[wu]at h';cases h'
  .exact h'
 refine⟨by rw[wj];have:=h.n;rwa [qt]at this,λB hB hW=>by rw[qB,h.obj B (by rw[qt];exact hB) hW,qx],kC _ _,λB hB=>?_,λhW=>?_⟩
 .rw[ku]at hB;rcases bx hB with h' | h'
  .exact .inl h'
  .exact .inr (hl B h')
 .rw[ku];exact yb λB hB=>hW B (hl B hB)
theorem qfq (m:M)(B:Nat)(o:DObj):(m.put B o).log=note m.base B m.log:=by cases m;rfl
theorem QO {B o:Nat}{l l0:List Value}(h:Arr m B l0)(hne:l≠[])(hn:o+l.length<=l0.length)(hl:∀v∈l,okC v=true):(jK m B o l).log=note m.base B m.log:=by
 obtain⟨c,hc,hcl⟩:=h;obtain⟨v0,vs,rfl⟩:∃v0 vs,l=v0::vs:=by
  cases l with
  | nil=>exact absurd rfl hne
  | cons a b=>exact⟨a,b,rfl⟩
 obtain⟨c',e',_⟩:=QV (vs:=v0::vs) (o:=o) hcl hn hl;have hs:wQ m ⟨B,o,none⟩ (v0::vs)=some (m.put B (.cells c')):=by
  show ob (fu (m.obj B)) _=_;rw[hc];show ob (stn c o (v0::vs)) _=_;rw[e'];rfl
 have hp:jK m B o (v0::vs)=m.put B (.cells c'):=by unfold jK;rw[hs];rfl
 rw[hp,qfq]
structure Ow (m0 m:M)(W:List Nat)(σ:List (Nat × List Value)):Prop where
 mc:Mc m0 m W
 base:m0.base<=m0.n
 arr:∀p∈σ,(p.1∈W\/m0.n<=p.1)/\p.1<m.n/\Arr m p.1 p.2
 nd:(σ.map (·.1)).Nodup
variable {σ σ':List (Nat × List Value)}{k B o:Nat}{l l':List Value}
theorem Ow.mb (h:Ow m0 m W σ):m.base<=m.n:=by rw[h.mc.base];exact qhh h.base h.mc.n
theorem Ow.get (h:Ow m0 m W σ)(k:Nat)(hk:σ[k]?=some (B,l)):(B∈W\/m0.n<=B)/\B<m.n/\Arr m B l:=h.arr _ (qh6 hk)
theorem Ow.step (h:Ow m0 m W σ)(e:Ext m m'):Ow m0 m' W σ :=
 ⟨h.mc.trans e.mc,h.base,λp hp=>let ⟨h1,h2,h3⟩:=h.arr p hp;⟨h1,qha h2 e.n,h3.congr (e.obj _ h2)⟩,h.nd⟩
theorem Ow.sub (h:Ow m0 m W σ)(hs:∀p∈σ',p∈σ)(hn:(σ'.map (·.1)).Nodup):Ow m0 m W σ':=⟨h.mc,h.base,λp hp=>h.arr p (hs p hp),hn⟩
theorem Ow.row (h:Ow m0 m W σ)(l:List Value):Ow m0 (newRow m l) W ((m.n,l)::σ):=by
 have h':=h.step (Ext.row m l);refine⟨h'.mc,h.base,λp hp=>?_,?_⟩
 .rcases List.mem_cons.1 hp with rfl | hp
  .exact⟨.inr h.mc.n,by rw[wL];exact Nat.lt_succ_self _,Arr.row m l⟩
  .exact h'.arr p hp
 .rw[List.map_cons,List.nodup_cons];refine⟨λhm=>?_,h.nd⟩;obtain⟨q,hq,e⟩:=List.mem_map.1 hm;have:=(h.arr q hq).2.1;omega
theorem Ow.put (h:Ow m0 m W σ)(k:Nat)(hk:σ[k]?=some (B,l))(hn:m'.n=m.n)(hb:m'.base=m.base)(hlog:∀C∈m'.log,C∈m.log\/(C=B/\B<m.base))(hlow:m.base<=B->m'.log=m.log)(ho:∀X,X≠B->m'.obj X=m.obj X)(ha:Arr m' B l'):Ow m0 m' W (σ.set k (B,l')):=by
 obtain⟨hk',hke⟩:=qh7.1 hk;obtain⟨hb0,hb1,hb2⟩:=h.get k hk;have hmb:=h.mc.base;have hb3:=h.base;have hmn:=h.mc.n;have hne:∀C,C<m0.n->C ∉ W->C≠B:=λC hC hW e=>by
  subst e;rcases hb0 with h0 | h0
  .exact hW h0
  .omega
 refine⟨⟨by rw[hn];exact hmn,λC hC hW=>(ho C (hne C hC hW)).trans (h.mc.obj C hC hW),hb.trans hmb,λC hC=>?_,λhW=>?_⟩,h.base,λp hp=>?_,?_⟩
 .rcases hlog C hC with h' | ⟨rfl,h'⟩
  .exact h.mc.log C h'
  .rcases hb0 with h0 | h0
   .exact .inr h0
   .omega
 .rw[hlow ?_,h.mc.low hW];rcases hb0 with h0 | h0
  .rw[hmb];exact hW _ h0
  .omega
 .obtain⟨j,hj,rfl⟩:=List.getElem_of_mem hp;rw[List.getElem_set];rw[List.length_set]at hj;split
  .exact⟨hb0,by rw[hn];exact hb1,ha⟩
  .rename_i hne;obtain⟨h1,h2,h3⟩:=h.arr _ (List.getElem_mem hj);refine⟨h1,by rw[hn];exact h2,h3.congr (ho _ λe=>hne ?_)⟩;exact (QJ h.nd (qh5 hj) hk e).symm
 .have:(σ.set k (B,l')).map (·.1)=σ.map (·.1):=by
   rw[List.map_set];show (σ.map (·.1)).set k B=_;refine List.ext_getElem (by simp) λi h1 h2=>?_;rw[List.getElem_set];split
   .subst_vars;simp[hke]
   .rfl
  rw[this];exact h.nd
theorem Ow.storeN (h:Ow m0 m W σ)(k:Nat)(hk:σ[k]?=some (B,l)){n:Nat}(hn0:0<n)(hl':l'.length=n)(hn:o+n<=l.length)(hv:∀v∈l',okC v=true) :
  ∃m',ww n (.pointer (some ⟨B,o,none⟩)) (.agg ⟨l'⟩) m=some (undef,m')/\Ow m0 m' W (σ.set k (B,over l o l'))/\m'.n=m.n/\∀X,X≠B->m'.obj X=m.obj X:=by
 obtain⟨h1,h2,h3⟩:=h.get k hk;have hne:l'≠[]:=λe=>by rw[e]at hl';simp at hl';omega
 have e:=kQ (n:=n) (o:=o) (v:=.agg ⟨l'⟩) (l:=l') h3 rfl hl' hn hv;obtain⟨_,s2,s3,s4,s5,s6⟩:=wY (o:=o) (l:=l') h3 (by omega) hv;exact⟨_,e,h.put k hk s3 s4 (λC hC=>by rw[QO h3 hne (by omega) hv]at hC;exact vj hC) s6 s5 s2,s3,s5⟩
theorem Ow.store (h:Ow m0 m W σ)(k:Nat)(hk:σ[k]?=some (B,l)){v:Value}(ho:o<l.length)(hv:okC v=true) :
  ∃m',ww 1 (.pointer (some ⟨B,o,none⟩)) v m=some (undef,m')/\Ow m0 m' W (σ.set k (B,l.set o v))/\m'.n=m.n/\∀X,X≠B->m'.obj X=m.obj X:=by
 obtain⟨h1,h2,h3⟩:=h.get k hk;have hcv:zk v=some [v]:=by cases v<;>first | rfl | simp[okC]at hv
 have e:=kQ (n:=1) (o:=o) h3 hcv rfl (by omega) (by simpa using hv);obtain⟨_,s2,s3,s4,s5,s6⟩:=wY (o:=o) (l:=[v]) h3 (by simp;omega) (by simpa using hv);exact⟨_,e,h.put k hk s3 s4 (λC hC=>by rw[QO h3 (by simp) (by simp;omega) (by simpa using hv)]at hC;exact vj hC) s6 s5 s2,s3,s5⟩
theorem Ow.storeNAny (h:Ow m0 m W σ)(k:Nat)(hk:σ[k]?=some (B,l)){n:Nat}(hn0:0<n)(hl':l'.length=n)(hn:o+n<=l.length)(hv:∀v∈l',okC v=true) :
  ∃m',ww n (.pointer (some ⟨B,o,none⟩)) (.agg ⟨l'⟩) (ql m)=some (undef,m')/\m'.log=[B]/\Ow m0 (Dx.behind m m') W (σ.set k (B,over l o l'))/\(Dx.behind m m').n=m.n/\∀X,X≠B->(Dx.behind m m').obj X=m.obj X:=by
 obtain⟨h1,h2,h3⟩:=h.get k hk;have h3':Arr (ql m) B l:=h3.congr (qx m B);have hne:l'≠[]:=λe=>by rw[e]at hl';simp at hl';omega
 have e:=kQ (n:=n) (o:=o) (v:=.agg ⟨l'⟩) (l:=l') h3' rfl hl' hn hv;obtain⟨_,s2,s3,s4,s5,s6⟩:=wY (o:=o) (l:=l') h3' (by omega) hv;have hlog:(jK (ql m) B o l').log=[B]:=by
  rw[QO h3' hne (by omega) hv,qW,wu];unfold note;have:Nat.ble m.n B=false:=by
   cases q:Nat.ble m.n B with
   | false=>rfl
   | true=>exact absurd (qhe q) (by omega)
  rw[this];rfl
 have hbl:(Dx.behind m (jK (ql m) B o l')).log=note m.base B m.log:=by rw[ku,hlog];rfl
 refine⟨_,e,hlog,h.put k hk (by rw[wj,s3,qt]) (kC _ _) (λC hC=>by rw[hbl]at hC;exact vj hC) (λhb=>by rw[hbl,gv hb]) (λX hX=>by rw[qB,s5 X hX,qx]) (s2.congr (qB _ _ _)),by rw[wj,s3,qt],λX hX=>by rw[qB,s5 X hX,qx]⟩
theorem Ow.storeAny (h:Ow m0 m W σ)(k:Nat)(hk:σ[k]?=some (B,l)){v:Value}(ho:o<l.length)(hv:okC v=true) :
  ∃m',ww 1 (.pointer (some ⟨B,o,none⟩)) v (ql m)=some (undef,m')/\m'.log=[B]/\Ow m0 (Dx.behind m m') W (σ.set k (B,l.set o v))/\(Dx.behind m m').n=m.n/\∀X,X≠B->(Dx.behind m m').obj X=m.obj X:=by
 have hcv:zk v=some [v]:=by cases v<;>first | rfl | simp[okC]at hv
 obtain⟨m',e,r⟩:=h.storeNAny k hk (o:=o) (l':=[v]) (n:=1) (by omega) rfl (by omega) (by simpa using hv);refine⟨m',?_,r⟩;have h3':Arr (ql m) B l:=(h.get k hk).2.2.congr (qx m B);have e1:=kQ (n:=1) (o:=o) h3' hcv rfl (by omega) (by simpa using hv);have e2:=kQ (n:=1) (o:=o) (v:=.agg ⟨[v]⟩) (l:=[v]) h3' rfl rfl (by omega) (by simpa using hv);exact e1.trans (e2.symm.trans e)
theorem Ow.call (h:Ow m0 m W σ)(k:Mc m m' W)(hσ:∀p∈σ',(∃q∈σ,q.1=p.1)/\Arr m' p.1 p.2)(hn:(σ'.map (·.1)).Nodup):Ow m0 m' W σ' :=
 ⟨h.mc.trans k,h.base,λp hp=>by
  obtain⟨⟨q,hq,e⟩,ha⟩:=hσ p hp;obtain⟨h1,h2,_⟩:=h.arr q hq;rw[e]at h1 h2;exact⟨h1,qha h2 k.n,ha⟩,hn⟩
theorem Ow.rd (h:Ow m0 m W σ){α:Type}{v:Value}{e:Nat}{f:α->List Value}{es:List α}(hr:Rd m0 v e f es)(hs:∀B,blk v=some B->B ∉ W):Rd m v e f es :=
 hr.congr h.mc.n λB hB=>h.mc.obj B (hr.lt B hB) (hs B hB)
theorem Ow.start (hb:m0.base<=m0.n)(hσ:∀p∈σ,p.1∈W/\p.1<m0.n/\Arr m0 p.1 p.2)(hn:(σ.map (·.1)).Nodup):Ow m0 m0 W σ :=
 ⟨Mc.refl,hb,λp hp=>let ⟨a,b,c⟩:=hσ p hp;⟨.inl a,b,c⟩,hn⟩
theorem jC {m:M}{Q:Value->M->Prop}{t:Tm}{p n:Nat}{a:Addr}{l:List Value}(h1:Tm.get p t=.pointer (some a))(h2:loads m a n=some l)(hq:Q (.agg ⟨l⟩) m):yN Q (wN [.cell p n] t m):=by
 refine⟨bR [.agg ⟨l⟩],m,?_,hq⟩;have hr:yg t m [.cell p n]=some [.agg ⟨l⟩]:=by simp only[yg,yf,h1,yo,qQ,h2]
 rw[dI,hr,qQ,dC]
theorem zo {m:M}{Q:Value->M->Prop}{t:Tm}{p:Nat}(hq:Q (Tm.get p t) m):yN Q (wN [.t p] t m):=by
 refine⟨bR [Tm.get p t],m,?_,hq⟩;rw[dI,show yg t m [.t p]=some [Tm.get p t] from rfl,qQ,dC]
end
end Go.Dx
namespace Go.Sx
open Go.Dx Go.Proofs
set_option maxRecDepth 10000
structure Wt where
 what:Int
 loc:Int
 mode:Int
 val:U
 ex:Bool
def wtL (w:Wt):List Value:=[iv w.what,iv w.loc,iv w.mode,uv w.val.1,.bool w.ex,zF]
def u0:U:=⟨0,by omega⟩
def wt0:Wt:=⟨0,0,0,u0,false⟩
structure Ms where
 at_:Nat
 ls:List U
 now:Wt
 asked:Bool
 old:U
 opn:Bool
def lsR (ls:List U):List Value:=ls.map λu=>uv u.1
theorem gm (ls:List U):ls.flatMap qS=lsR ls:=by
 unfold lsR
 induction ls with
 | nil=>rfl
 | cons u ls ih=>rw[List.flatMap_cons,ih];rfl
class Cdf where
 cd:Nat
variable [Cdf]
def lvV (Lb k:Nat):Value:=.slice (some ⟨Lb,0,some Cdf.cd⟩) k k
def qJ (k:Nat)(av lv:Value)(s:Ms):List Value:=[iv k,av,iv s.at_,lv,iv s.now.what,iv s.now.loc,iv s.now.mode,uv s.now.val.1,.bool s.now.ex,zF,.bool s.asked,uv s.old.1,.bool s.opn]
theorem rd_ls {m:M}{Lb:Nat}{ls:List U}(h:Arr m Lb (lsR ls))(hB:Lb<m.n):Rd m (lvV Lb ls.length) 1 qS ls:=by
 rw[<-gm]at h;exact jx (f:=qS) (λ_=>rfl) h hB
def zf (ls:List U)(es:List Nd):U:=⟨vK ls es (es.length-1),gN _ _ _⟩
def jQ (ls:List U)(a:Ac):Int:=if a.size=0 then a.base else a.base+(((zf ls a.ixs).1 &&& (a.size.toNat-1):Nat):Int)
def rdM (m:Int):Int:=if m=2 then 2 else if m=4 then 2 else if m=5 then 5 else 1
def wrM (m:Int):Int:=if m=3 then 3 else if m=4 then 3 else if m=5 then 5 else 1
def ZN (u v:U):U:=⟨(u.1+v.1)%18446744073709551616,Nat.mod_lt _ (by omega)⟩
structure AcG (k na:Nat)(cells:Int)(a:Ac):Prop where
 op:1<=a.op/\a.op<=10
 may:zi a.op a.mode=true
 dst:vP (pD a.op) k a.dst=true
 pl:plB (pP a.op) cells k a=true
 es:esB (pE a.op) (pF a.op) k a=true
 to:toB (pT a.op) na a.to=true
theorem dR {k na:Nat}{cells:Int}{a:Ac}(h:yY cells k na a=true):AcG k na cells a:=by
 unfold yY at h;simp only[qhb,qi3]at h;exact⟨h.1,h.2.1,h.2.2.1,h.2.2.2.1,h.2.2.2.2.1,h.2.2.2.2.2⟩
theorem AcG.e {k na:Nat}{cells:Int}{a:Ac}(h:AcG k na cells a)(he:pE a.op=true):we k a.es=true:=by
 have:=h.es;unfold esB at this;simp only[qhb]at this;have h2:=this.1.2;rw[he]at h2;simpa using h2
theorem AcG.f {k na:Nat}{cells:Int}{a:Ac}(h:AcG k na cells a)(he:pF a.op=true):we k a.fs=true:=by
 have:=h.es;unfold esB at this;simp only[qhb]at this;have h2:=this.2;rw[he]at h2;simpa using h2
theorem AcG.p {k na:Nat}{cells:Int}{a:Ac}(h:AcG k na cells a)(he:pP a.op=true):jp cells k a=true:=by
 have:=h.pl;unfold plB at this;rw[he]at this;simpa using this
theorem AcG.d {k na:Nat}{cells:Int}{a:Ac}(h:AcG k na cells a)(he:pD a.op=true):0<=a.dst/\a.dst<k:=by
 have:=h.dst;unfold vP at this;rw[he]at this;simpa using this
theorem AcG.t {k na:Nat}{cells:Int}{a:Ac}(h:AcG k na cells a)(he:pT a.op=true):0<=a.to/\a.to<=na:=by
 have:=h.to;unfold toB at this;rw[he]at this;simpa using this
theorem xF {k:Nat}{ls:List U}(hk:ls.length=k){e:List Nd}{ed ld:Value}(he:we k e=true)(N:Nat)(m:M)(hm:m.base<=m.n)(hed:Rd m ed 4 qv e)(hld:Rd m ld 1 qS ls) :
  CallV (ex Tryz.prog (N+3)) 111 [ed,ld] m (uv (zf ls e).1):=by
 obtain⟨x1,x2,x3⟩:=xZ he;exact qgk ls e ed ld x2 x1 (by rw[hk];exact x3) N m hm hed hld
structure MsAt (m:M)(Mb Lb:Nat)(k:Nat)(av:Value)(s:Ms):Prop where
 row:Arr m Mb (qJ k av (lvV Lb k) s)
 ls:Arr m Lb (lsR s.ls)
 len:s.ls.length=k
 mb:Mb<m.n
 lb:Lb<m.n
theorem MsAt.rd {m:M}{Mb Lb k:Nat}{av:Value}{s:Ms}(h:MsAt m Mb Lb k av s):Rd m (lvV Lb k) 1 qS s.ls:=by
 have:=rd_ls h.ls h.lb
 rwa [h.len]at this
theorem MsAt.congr {m m':M}{Mb Lb k:Nat}{av:Value}{s:Ms}(h:MsAt m Mb Lb k av s)(hn:m.n<=m'.n)(h1:m'.obj Mb=m.obj Mb)(h2:m'.obj Lb=m.obj Lb):MsAt m' Mb Lb k av s :=
 ⟨h.row.congr h1,h.ls.congr h2,h.len,qha h.mb hn,qha h.lb hn⟩
theorem MsAt.ext {m m':M}{Mb Lb k:Nat}{av:Value}{s:Ms}(h:MsAt m Mb Lb k av s)(e:Ext m m'):MsAt m' Mb Lb k av s:=h.congr e.n (e.obj _ h.mb) (e.obj _ h.lb)
theorem MsAt.any {m:M}{Mb Lb k:Nat}{av:Value}{s:Ms}(h:MsAt m Mb Lb k av s):MsAt (ql m) Mb Lb k av s:=h.congr (by rw[qt];exact qh8 _) (qx _ _) (qx _ _)
theorem MsAt.l1 {m:M}{Mb Lb k:Nat}{av:Value}{s:Ms}(h:MsAt m Mb Lb k av s):∀o s',load1 m ⟨Mb,o,s'⟩=(qJ k av (lvV Lb k) s)[o]?:=λo s'=>h.row.load1 o s'
abbrev mP (Mb:Nat):Value:=.pointer (some ⟨Mb,0,none⟩)
theorem Bq (n:Nat){mode:Int}(h1:1<=mode)(h2:mode<=5)(m:M):CallV (ex Tryz.prog (n+1)) 218 [iv mode] m (iv (rdM mode)):=by
 refine qm dj9_ok (by simp) ?_;have b:wg [zI,zI,zI,zI,zI,zI] [(1,1,.int .i64 1),(2,1,.int .i64 2),(3,1,.int .i64 1),(4,1,.int .i64 2),(5,1,.int .i64 5)]=some (.agg ⟨[zI,.int .i64 1,.int .i64 2,.int .i64 1,.int .i64 2,.int .i64 5]⟩):=rfl;have key:fe 6 false 1 (.agg ⟨[zI,.int .i64 1,.int .i64 2,.int .i64 1,.int .i64 2,.int .i64 5]⟩) (.int .i64 mode)=some (iv (rdM mode)):=by
  rcases (by omega:mode=1\/mode=2\/mode=3\/mode=4\/mode=5) with rfl | rfl | rfl | rfl | rfl<;>rfl
 simp[b,yB,key];exact qf (Ext.refl m) (by simp)
theorem BG (n:Nat){mode:Int}(h1:1<=mode)(h2:mode<=5)(m:M):CallV (ex Tryz.prog (n+1)) 219 [iv mode] m (iv (wrM mode)):=by
 refine qm dk0_ok (by simp) ?_;have b:wg [zI,zI,zI,zI,zI,zI] [(1,1,.int .i64 1),(2,1,.int .i64 1),(3,1,.int .i64 3),(4,1,.int .i64 3),(5,1,.int .i64 5)]=some (.agg ⟨[zI,.int .i64 1,.int .i64 1,.int .i64 3,.int .i64 3,.int .i64 5]⟩):=rfl;have key:fe 6 false 1 (.agg ⟨[zI,.int .i64 1,.int .i64 1,.int .i64 3,.int .i64 3,.int .i64 5]⟩) (.int .i64 mode)=some (iv (wrM mode)):=by
  rcases (by omega:mode=1\/mode=2\/mode=3\/mode=4\/mode=5) with rfl | rfl | rfl | rfl | rfl<;>rfl
 simp[b,yB,key];exact qf (Ext.refl m) (by simp)
theorem JT {cells:Int}{k:Nat}{a:Ac}(h:jp cells k a=true):0<=a.size/\a.size<=1024/\0<=a.base/\a.base<=cells/\(a.size=0\/we k a.ixs=true):=by
 unfold jp at h;simp only[qhb,qi3]at h;refine⟨h.1.1.1.1,h.1.1.1.2,h.1.2.1,by have:=h.1.2.2;omega,?_⟩;by_cases h0:a.size=0
 .exact .inl h0
 .have:=h.2;rw[qhy h0]at this;exact .inr this
theorem qbj (k:Nat){cells:Int}(hc:cells<=4096)(a:Ac)(hpl:jp cells k a=true)(av:Value)(s:Ms)(Mb Lb:Nat)(N:Nat)(m:M)(hm:m.base<=m.n)(hM:MsAt m Mb Lb k av s)(ha:AcOK m a) :
  CallV (ex Tryz.prog (N+4)) 217 [mP Mb,.agg ⟨qe a⟩] m (iv (jQ s.ls a)):=by
 refine qm dj8_ok (by simp) ?_;obtain⟨p1,p2,p3,p4,p5⟩:=JT hpl;have st1:=(St.nil hm (Ext.refl m)).row (qe a);obtain⟨m1,hm1⟩:=qi4 (Dx.newRow m (qe a));rw[<-hm1]at st1;have la:∀o s,load1 m1 ⟨m.n,o,s⟩=(qe a)[o]?:=λo s=>(st1.get 0 rfl).2.2.load1 o s;have hM1:=hM.ext st1.ext;have lM:=hM1.l1;have ha1:=ha.sees st1.sees;simp only[qe]at la;simp only[qJ]at lM;by_cases h0:a.size=0
 .have hl:jQ s.ls a=a.base:=qhz h0;have d0:decide (a.size=0)=true:=qhx h0;rw[hl];simp[<-hm1,la,d0];exact qf st1.ext (by simp)
 .have d0:decide (a.size=0)=false:=qhw h0;have he:we k a.ixs=true:=by rcases p5 with h | h;exact absurd h h0;exact h
  obtain⟨z,hz⟩:∃z:Nat,a.size=((z+1:Nat):Int):=⟨a.size.toNat-1,by omega⟩;have hzz:a.size.toNat-1=z:=by omega
  obtain⟨v3,m3',c1,c2,c3,rfl⟩:=qZ (xF hM.len he (N) (ql m1) (qp st1.sees).base (ha.ix.sees (qp st1.sees)) hM1.any.rd);obtain⟨m3,hm3⟩:=qi4 (behind m1 m3');rw[<-hm3]at c3;have st3:=st1.step c3;have la3:∀o s,load1 m3 ⟨m.n,o,s⟩=(qe a)[o]?:=λo s=>(st3.get 0 rfl).2.2.load1 o s;simp only[qe]at la3;obtain⟨w,hw⟩:=qi4 (zf s.ls a.ixs);rw[<-hw]at c1;have q1:ze .sub (.int .i64 a.size) (.int .i64 1)=some (.int .i64 (z:Int)):=by rw[qz,hz,wrap64 _ (by omega) (by omega)];congr 2;omega
  have q2:=yy z (by omega);have q3:=FJ (a:=w.1) (b:=z) w.2 (by omega);obtain⟨r,hr⟩:=qi4 (w.1 &&& z);have hrz:r<=z:=by rw[hr];exact Nat.and_le_right
  rw[<-hr]at q3;have q4:Qe .i64 (.int .u64 (r:Int))=some (.int .i64 (r:Int)):=by
   show some (Value.int .i64 (xI .i64 (r:Int)))=_;rw[zC,wrap64 _ (by omega) (by omega)]
  have q5:ze .add (.int .i64 a.base) (.int .i64 (r:Int))=some (.int .i64 (a.base+r)):=by rw[qw,wrap64 _ (by omega) (by omega)]
  have hl:jQ s.ls a=a.base+(r:Int):=by unfold jQ;rw[qhy h0,<-hw,hzz,hr]
  rw[hl];simp[-qz,-qw,<-hm1,la,d0,lM,c1,c2,la3,q1,q2,q3,q4,q5,<-hm3];exact qf st3.ext (by simp)
end Go.Sx
namespace Go.Sx
open Go.Dx Go.Proofs
set_option maxRecDepth 10000
variable [Cdf]
def qi (s:Ms)(a:Ac):Wt :=
 if a.op=2 then ⟨1,jQ s.ls a,a.mode,u0,false⟩
 else if a.op=3 then ⟨2,jQ s.ls a,a.mode,zf s.ls a.es,false⟩
 else if a.op=7 then ⟨3,0,a.mode,u0,false⟩
 else if a.op=8 then ⟨4,0,0,zf s.ls a.es,false⟩
 else if s.opn then ⟨2,jQ s.ls a,wrM a.mode,(if a.op=5 then ZN (zf s.ls a.es) s.old else if a.op=6 then zf s.ls a.fs else zf s.ls a.es),true⟩
 else ⟨1,jQ s.ls a,rdM a.mode,u0,true⟩
abbrev Z6:List Value:=[zI,zI,zI,zU,zF,zF]
theorem qdt (x y:Int):wg Z6 [(0,1,.int .i64 1),(1,1,.int .i64 x),(2,1,.int .i64 y)]=some (.agg ⟨[.int .i64 1,.int .i64 x,.int .i64 y,zU,zF,zF]⟩):=rfl
theorem FQ (x y:Int)(z:Int):wg Z6 [(0,1,.int .i64 2),(1,1,.int .i64 x),(2,1,.int .i64 y),(3,1,.int .u64 z)]=some (.agg ⟨[.int .i64 2,.int .i64 x,.int .i64 y,.int .u64 z,zF,zF]⟩):=rfl
theorem FN (y:Int):wg Z6 [(0,1,.int .i64 3),(2,1,.int .i64 y)]=some (.agg ⟨[.int .i64 3,zI,.int .i64 y,zU,zF,zF]⟩):=rfl
theorem FO (z:Int):wg Z6 [(0,1,.int .i64 4),(3,1,.int .u64 z)]=some (.agg ⟨[.int .i64 4,zI,zI,.int .u64 z,zF,zF]⟩):=rfl
theorem Wb (x y:Int):wg Z6 [(0,1,.int .i64 1),(1,1,.int .i64 x),(2,1,.int .i64 y),(4,1,zT)]=some (.agg ⟨[.int .i64 1,.int .i64 x,.int .i64 y,zU,zT,zF]⟩):=rfl
theorem Wa:wg Z6 []=some (.agg ⟨Z6⟩):=rfl
section
variable {k na:Nat}{cells:Int}{a:Ac}{av:Value}{s:Ms}{Mb Lb:Nat}{m:M}
theorem load_c (hc:cells<=4096)(hg:AcG k na cells a)(hop:a.op=2)(N:Nat)(hm:m.base<=m.n)(hM:MsAt m Mb Lb k av s)(ha:AcOK m a) :
  CallV (ex Tryz.prog (N+5)) 162 [mP Mb,.agg ⟨qe a⟩] m (.agg ⟨wtL (qi s a)⟩):=by
 refine qm di3_ok (by simp) ?_;have st1:=(St.nil hm (Ext.refl m)).row (qe a);obtain⟨m1,hm1⟩:=qi4 (Dx.newRow m (qe a));rw[<-hm1]at st1;have st2:=st1.row Z6;obtain⟨m2,hm2⟩:=qi4 (Dx.newRow m1 Z6);rw[<-hm2]at st2;have l11:loads m2 ⟨m.n,0,none⟩ 11=some (qe a):=(st2.get 1 rfl).2.2.loads (n:=11) (by simp[qe]);obtain⟨v3,m3',c1,c2,c3,rfl⟩:=qZ (qbj k hc a (hg.p (by rw[hop];rfl)) av s Mb Lb N (ql m2) (qp st2.sees).base (hM.ext st2.ext).any (ha.sees (qp st2.sees)));obtain⟨m3,hm3⟩:=qi4 (behind m2 m3');rw[<-hm3]at c3;have st3:=st2.step c3;have la3:∀o s,load1 m3 ⟨m.n,o,s⟩=(qe a)[o]?:=λo s=>(st3.get 1 rfl).2.2.load1 o s;simp only[qe]at la3;obtain⟨x,hx⟩:=qi4 (jQ s.ls a);have hw:qi s a=⟨1,x,a.mode,u0,false⟩:=by unfold qi;rw[qhz hop,hx]
 rw[hw];rw[<-hx]at c1;have hz:wtL ⟨1,x,a.mode,u0,false⟩=[.int .i64 1,.int .i64 x,.int .i64 a.mode,zU,zF,zF]:=rfl;rw[hz];obtain⟨m4',w1,w2,w3,w4,w5⟩:=st3.fillAny 0 rfl (n:=6) (l':=[.int .i64 1,.int .i64 x,.int .i64 a.mode,zU,zF,zF]) (by omega) rfl rfl (by simp[okC]);obtain⟨m4,hm4⟩:=qi4 (behind m3 m4');rw[<-hm4]at w3;have lf:loads m4 ⟨m1.n,0,none⟩ 6=some _:=(w3.get 0 rfl).2.2.loads (n:=6) (by simp);simp[<-hm1,<-hm2,l11,qb,c1,c2,<-hm3,la3,qdt,w1,<-hm4];exact wq (a:=⟨m1.n,0,none⟩) (by simp) lf w3.ext rfl
theorem qge (hc:cells<=4096)(hg:AcG k na cells a)(hop:a.op=3)(N:Nat)(hm:m.base<=m.n)(hM:MsAt m Mb Lb k av s)(ha:AcOK m a) :
  CallV (ex Tryz.prog (N+5)) 163 [mP Mb,.agg ⟨qe a⟩] m (.agg ⟨wtL (qi s a)⟩):=by
 refine qm di4_ok (by simp) ?_;have st1:=(St.nil hm (Ext.refl m)).row (qe a);obtain⟨m1,hm1⟩:=qi4 (Dx.newRow m (qe a));rw[<-hm1]at st1;have st2:=st1.row Z6;obtain⟨m2,hm2⟩:=qi4 (Dx.newRow m1 Z6);rw[<-hm2]at st2;have l11:loads m2 ⟨m.n,0,none⟩ 11=some (qe a):=(st2.get 1 rfl).2.2.loads (n:=11) (by simp[qe]);obtain⟨v3,m3',c1,c2,c3,rfl⟩:=qZ (qbj k hc a (hg.p (by rw[hop];rfl)) av s Mb Lb N (ql m2) (qp st2.sees).base (hM.ext st2.ext).any (ha.sees (qp st2.sees)));obtain⟨m3,hm3⟩:=qi4 (behind m2 m3');rw[<-hm3]at c3;have st3:=st2.step c3;have la3:∀o s,load1 m3 ⟨m.n,o,s⟩=(qe a)[o]?:=λo s=>(st3.get 1 rfl).2.2.load1 o s;simp only[qe]at la3;have hM3:=hM.ext st3.ext;have lM:=hM3.l1;simp only[qJ]at lM;obtain⟨v4,m4',d1,d2,d3,rfl⟩:=qZ (xF hM.len (hg.e (by rw[hop];rfl)) (N+1) (ql m3) (qp st3.sees).base (ha.ev.sees (qp st3.sees)) hM3.any.rd);obtain⟨m4,hm4⟩:=qi4 (behind m3 m4');rw[<-hm4]at d3;have st4:=st3.step d3;obtain⟨x,hx⟩:=qi4 (jQ s.ls a);obtain⟨y,hy⟩:=qi4 (zf s.ls a.es);have hw:qi s a=⟨2,x,a.mode,y,false⟩:=by unfold qi;rw[qhy (by omega),qhz hop,hx,hy]
 rw[hw];rw[<-hx]at c1;rw[<-hy]at d1;have hz:wtL ⟨2,x,a.mode,y,false⟩=[.int .i64 2,.int .i64 x,.int .i64 a.mode,.int .u64 y.1,zF,zF]:=rfl;rw[hz];obtain⟨m5',w1,w2,w3,w4,w5⟩:=st4.fillAny 0 rfl (n:=6) (l':=[.int .i64 2,.int .i64 x,.int .i64 a.mode,.int .u64 y.1,zF,zF]) (by omega) rfl rfl (by simp[okC]);obtain⟨m5,hm5⟩:=qi4 (behind m4 m5');rw[<-hm5]at w3;have lf:loads m5 ⟨m1.n,0,none⟩ 6=some _:=(w3.get 0 rfl).2.2.loads (n:=6) (by simp);simp[<-hm1,<-hm2,l11,qb,c1,c2,<-hm3,la3,lM,d1,d2,<-hm4,FQ,w1,<-hm5];exact wq (a:=⟨m1.n,0,none⟩) (by simp) lf w3.ext rfl
theorem qei (hop:a.op=7)(N:Nat)(hm:m.base<=m.n)(hM:MsAt m Mb Lb k av s) :
  CallV (ex Tryz.prog (N+1)) 165 [mP Mb,.agg ⟨qe a⟩] m (.agg ⟨wtL (qi s a)⟩):=by
 refine qm di6_ok (by simp) ?_;have st1:=(St.nil hm (Ext.refl m)).row (qe a);obtain⟨m1,hm1⟩:=qi4 (Dx.newRow m (qe a));rw[<-hm1]at st1;have st2:=st1.row Z6;obtain⟨m2,hm2⟩:=qi4 (Dx.newRow m1 Z6);rw[<-hm2]at st2;have la:∀o s,load1 m2 ⟨m.n,o,s⟩=(qe a)[o]?:=λo s=>(st2.get 1 rfl).2.2.load1 o s;simp only[qe]at la;have hw:qi s a=⟨3,0,a.mode,u0,false⟩:=by unfold qi;rw[qhy (by omega),qhy (by omega),qhz hop]
 rw[hw];have hz:wtL ⟨3,0,a.mode,u0,false⟩=[.int .i64 3,zI,.int .i64 a.mode,zU,zF,zF]:=rfl;rw[hz];obtain⟨m5,w1,w3,w4,w5⟩:=st2.fill 0 rfl (n:=6) (l':=[.int .i64 3,zI,.int .i64 a.mode,zU,zF,zF]) rfl rfl (by simp[okC]);have lf:loads m5 ⟨m1.n,0,none⟩ 6=some _:=(w3.get 0 rfl).2.2.loads (n:=6) (by simp);simp[<-hm1,<-hm2,la,FN,w1];exact wq (a:=⟨m1.n,0,none⟩) (by simp) lf w3.ext rfl
theorem qfp (hg:AcG k na cells a)(hop:a.op=8)(N:Nat)(hm:m.base<=m.n)(hM:MsAt m Mb Lb k av s)(ha:AcOK m a) :
  CallV (ex Tryz.prog (N+4)) 166 [mP Mb,.agg ⟨qe a⟩] m (.agg ⟨wtL (qi s a)⟩):=by
 refine qm di7_ok (by simp) ?_;have st1:=(St.nil hm (Ext.refl m)).row (qe a);obtain⟨m1,hm1⟩:=qi4 (Dx.newRow m (qe a));rw[<-hm1]at st1;have st2:=st1.row Z6;obtain⟨m2,hm2⟩:=qi4 (Dx.newRow m1 Z6);rw[<-hm2]at st2;have la:∀o s,load1 m2 ⟨m.n,o,s⟩=(qe a)[o]?:=λo s=>(st2.get 1 rfl).2.2.load1 o s;simp only[qe]at la;have hM3:=hM.ext st2.ext;have lM:=hM3.l1;simp only[qJ]at lM;obtain⟨v4,m4',d1,d2,d3,rfl⟩:=qZ (xF hM.len (hg.e (by rw[hop];rfl)) N (ql m2) (qp st2.sees).base (ha.ev.sees (qp st2.sees)) hM3.any.rd);obtain⟨m4,hm4⟩:=qi4 (behind m2 m4');rw[<-hm4]at d3;have st4:=st2.step d3;obtain⟨y,hy⟩:=qi4 (zf s.ls a.es);have hw:qi s a=⟨4,0,0,y,false⟩:=by unfold qi;rw[qhy (by omega),qhy (by omega),qhy (by omega),qhz hop,hy]
 rw[hw];rw[<-hy]at d1;have hz:wtL ⟨4,0,0,y,false⟩=[.int .i64 4,zI,zI,.int .u64 y.1,zF,zF]:=rfl;rw[hz];obtain⟨m5',w1,w2,w3,w4,w5⟩:=st4.fillAny 0 rfl (n:=6) (l':=[.int .i64 4,zI,zI,.int .u64 y.1,zF,zF]) (by omega) rfl rfl (by simp[okC]);obtain⟨m5,hm5⟩:=qi4 (behind m4 m5');rw[<-hm5]at w3;have lf:loads m5 ⟨m1.n,0,none⟩ 6=some _:=(w3.get 0 rfl).2.2.loads (n:=6) (by simp);simp[<-hm1,<-hm2,la,lM,d1,d2,<-hm4,FO,w1,<-hm5];exact wq (a:=⟨m1.n,0,none⟩) (by simp) lf w3.ext rfl
end
end Go.Sx
namespace Go.Sx
open Go.Dx Go.Proofs
set_option maxRecDepth 10000
variable [Cdf]
theorem qeq {op mode:Int}(ho:op=4\/op=5\/op=6)(h:zi op mode=true):1<=mode/\mode<=5:=by
 unfold zi at h;rw[qhy (by omega),qhy (by omega),qhz ho]at h;exact qi2 h
section
variable {k na:Nat}{cells:Int}{a:Ac}{av:Value}{s:Ms}{Mb Lb:Nat}{m:M}
theorem pair_c (hc:cells<=4096)(hg:AcG k na cells a)(hop:a.op=4\/a.op=5\/a.op=6)(N:Nat)(hm:m.base<=m.n)(hM:MsAt m Mb Lb k av s)(ha:AcOK m a) :
  CallV (ex Tryz.prog (N+5)) 164 [mP Mb,.agg ⟨qe a⟩] m (.agg ⟨wtL (qi s a)⟩):=by
 refine qm di5_ok (by simp) ?_;obtain⟨md1,md2⟩:=qeq hop hg.may;have hpP:pP a.op=true:=by rcases hop with h | h | h<;>(rw[h];rfl)
 have hpE:pE a.op=true:=by rcases hop with h | h | h<;>(rw[h];rfl)
 have st1:=(St.nil hm (Ext.refl m)).row (qe a);obtain⟨m1,hm1⟩:=qi4 (Dx.newRow m (qe a));rw[<-hm1]at st1;have st2:=st1.row Z6;obtain⟨m2,hm2⟩:=qi4 (Dx.newRow m1 Z6);rw[<-hm2]at st2;have l11:loads m2 ⟨m.n,0,none⟩ 11=some (qe a):=(st2.get 1 rfl).2.2.loads (n:=11) (by simp[qe]);obtain⟨v3,m3',c1,c2,c3,rfl⟩:=qZ (qbj k hc a (hg.p hpP) av s Mb Lb N (ql m2) (qp st2.sees).base (hM.ext st2.ext).any (ha.sees (qp st2.sees)));obtain⟨m3,hm3⟩:=qi4 (behind m2 m3');rw[<-hm3]at c3;have st3:=st2.step c3;have la3:∀o s,load1 m3 ⟨m.n,o,s⟩=(qe a)[o]?:=λo s=>(st3.get 1 rfl).2.2.load1 o s;obtain⟨v4,m4',d1,d2,d3,rfl⟩:=qZ (Bq (N+3) md1 md2 (ql m3));obtain⟨m4,hm4⟩:=qi4 (behind m3 m4');rw[<-hm4]at d3;have st4:=st3.step d3;have st5:=st4.row Z6;obtain⟨m5,hm5⟩:=qi4 (Dx.newRow m4 Z6);rw[<-hm5]at st5;obtain⟨x,hx⟩:=qi4 (jQ s.ls a);rw[<-hx]at c1;obtain⟨y,hy⟩:=qi4 (rdM a.mode);rw[<-hy]at d1;obtain⟨m6',w1,w2,w3,w4,w5⟩:=st5.fillAny 0 rfl (n:=6) (l':=[.int .i64 1,.int .i64 x,.int .i64 y,zU,zT,zF]) (by omega) rfl rfl (by simp[okC]);obtain⟨m6,hm6⟩:=qi4 (behind m5 m6');rw[<-hm6]at w3;have st6:St m m6 [(m4.n,[.int .i64 1,.int .i64 x,.int .i64 y,zU,zT,zF]),(m1.n,Z6),(m.n,qe a)]:=w3;have hM6:=hM.ext st6.ext;have lM:=hM6.l1;simp only[qJ]at lM;simp only[qe]at la3;cases ho:s.opn with
 | false =>
  rw[ho]at lM;have hw:qi s a=⟨1,x,y,u0,true⟩:=by
   unfold qi;rw[qhy (by omega),qhy (by omega),qhy (by omega),qhy (by omega),ho,hx,hy];rfl
  rw[hw];have hz:wtL ⟨1,x,y,u0,true⟩=[.int .i64 1,.int .i64 x,.int .i64 y,zU,zT,zF]:=rfl;rw[hz];have l6:loads m6 ⟨m4.n,0,none⟩ 6=some _:=(st6.get 0 rfl).2.2.loads (n:=6) (by simp);obtain⟨m7,x1,x2,x3,x4⟩:=st6.fill 1 rfl (n:=6) (l':=[.int .i64 1,.int .i64 x,.int .i64 y,zU,zT,zF]) rfl rfl (by simp[okC]);have lf:loads m7 ⟨m1.n,0,none⟩ 6=some _:=(x2.get 1 rfl).2.2.loads (n:=6) (by simp);simp[<-hm1,<-hm2,l11,qb,c1,c2,<-hm3,la3,d1,d2,<-hm4,Wb,<-hm5,w1,<-hm6,lM,l6,x1];exact wq (a:=⟨m1.n,0,none⟩) (by simp) lf x2.ext rfl
 | true =>
  rw[ho]at lM;have la6:∀o s,load1 m6 ⟨m.n,o,s⟩=(qe a)[o]?:=λo s=>(st6.get 2 rfl).2.2.load1 o s;simp only[qe]at la6;obtain⟨v7,m7',e1,e2,e3,rfl⟩:=qZ (BG (N+3) md1 md2 (ql m6));obtain⟨m7,hm7⟩:=qi4 (behind m6 m7');rw[<-hm7]at e3;have st7:=st6.step e3;have la7:∀o s,load1 m7 ⟨m.n,o,s⟩=(qe a)[o]?:=λo s=>(st7.get 2 rfl).2.2.load1 o s;simp only[qe]at la7;have hM7:=hM.ext st7.ext;have lM7:=hM7.l1;simp only[qJ]at lM7;obtain⟨v8,m8',f1,f2,f3,rfl⟩:=qZ (xF hM.len (hg.e hpE) (N+1) (ql m7) (qp st7.sees).base (ha.ev.sees (qp st7.sees)) hM7.any.rd);obtain⟨m8,hm8⟩:=qi4 (behind m7 m8');rw[<-hm8]at f3;have st8:=st7.step f3;obtain⟨z,hz⟩:=qi4 (wrM a.mode);rw[<-hz]at e1;obtain⟨u,hu⟩:=qi4 (zf s.ls a.es);rw[<-hu]at f1;obtain⟨m9',g1,g2,g3,g4,g5⟩:=st8.storeAny 0 rfl (o:=0) (v:=.int .i64 2) (by simp) rfl;obtain⟨m9,hm9⟩:=qi4 (behind m8 m9');rw[<-hm9]at g3;obtain⟨m10',i1,i2,i3,i4,i5⟩:=g3.storeAny 0 rfl (o:=2) (v:=.int .i64 z) (by simp) rfl;obtain⟨m10,hm10⟩:=qi4 (behind m9 m10');rw[<-hm10]at i3;obtain⟨m11',j1,j2,j3,j4,j5⟩:=i3.storeAny 0 rfl (o:=3) (v:=uv u.1) (by simp) rfl;obtain⟨m11,hm11⟩:=qi4 (behind m10 m11');rw[<-hm11]at j3;have st11:St m m11 [(m4.n,[.int .i64 2,.int .i64 x,.int .i64 z,uv u.1,zT,zF]),(m1.n,Z6),(m.n,qe a)]:=j3;have la11:∀o s,load1 m11 ⟨m.n,o,s⟩=(qe a)[o]?:=λo s=>(st11.get 2 rfl).2.2.load1 o s;have l5:∀o s,load1 m11 ⟨m4.n,o,s⟩=_:=λo s=>(st11.get 0 rfl).2.2.load1 o s;simp only[qe]at la11;have hM11:=hM.ext st11.ext;have lM11:=hM11.l1;simp only[qJ]at lM11
  have fin:∀(v:U) (mz:M),St m mz [(m4.n,[.int .i64 2,.int .i64 x,.int .i64 z,uv v.1,zT,zF]),(m1.n,Z6),(m.n,qe a)]->qi s a=⟨2,x,z,v,true⟩ ->
    ∃me,loads mz ⟨m4.n,0,none⟩ 6=some [.int .i64 2,.int .i64 x,.int .i64 z,uv v.1,zT,zF]/\ww 6 (.pointer (some ⟨m1.n,0,none⟩)) (.agg ⟨[.int .i64 2,.int .i64 x,.int .i64 z,uv v.1,zT,zF]⟩) mz=some (undef,me)/\loads me ⟨m1.n,0,none⟩ 6=some (wtL (qi s a))/\Ext m me:=λv mz hst hw=>by
   obtain⟨me,x1,x2,x3,x4⟩:=hst.fill 1 rfl (n:=6) (l':=[.int .i64 2,.int .i64 x,.int .i64 z,uv v.1,zT,zF]) rfl rfl (by simp[okC]);refine⟨me,(hst.get 0 rfl).2.2.loads (n:=6) (by simp),x1,?_,x2.ext⟩;rw[hw];exact (x2.get 1 rfl).2.2.loads (n:=6) (by simp)
  have hwant:qi s a=⟨2,x,z,(if a.op=5 then ZN u s.old else if a.op=6 then zf s.ls a.fs else u),true⟩:=by
   unfold qi;rw[qhy (by omega),qhy (by omega),qhy (by omega),qhy (by omega),ho,hx,hz,hu];rfl
  by_cases h5:a.op=5
  .have d5:decide (a.op=5)=true:=qhx h5;rw[qhz h5]at hwant;have q:=QW u.1 s.old.1;obtain⟨t,ht⟩:=qi4 (ZN u s.old);have q':ze .add (uv u.1) (uv s.old.1)=some (uv t.1):=by rw[q,ht];rfl
   obtain⟨m12',n1,n2,n3,n4,n5⟩:=st11.storeAny 0 rfl (o:=3) (v:=uv t.1) (by simp) rfl;obtain⟨m12,hm12⟩:=qi4 (behind m11 m12');rw[<-hm12]at n3;obtain⟨me,y1,y2,y3,y4⟩:=fin t m12 n3 (by rw[hwant,ht]);simp[-qw,<-hm1,<-hm2,l11,qb,c1,c2,<-hm3,la3,d1,d2,<-hm4,Wb,<-hm5,w1,<-hm6,lM,la6,e1,e2,<-hm7,la7,lM7,f1,f2,<-hm8,g1,<-hm9,i1,<-hm10,j1,<-hm11,la11,d5,l5,lM11,q',n1,<-hm12,y1,y2];exact wq (a:=⟨m1.n,0,none⟩) (by simp) y3 y4 rfl
  .have d5:decide (a.op=5)=false:=qhw h5;rw[qhy h5]at hwant;by_cases h6:a.op=6
   .have d6:decide (a.op=6)=true:=qhx h6;rw[qhz h6]at hwant;obtain⟨v12,m12',n1,n2,n3,rfl⟩:=qZ (xF hM.len (hg.f (by rw[h6];rfl)) (N+1) (ql m11) (qp st11.sees).base (ha.fv.sees (qp st11.sees)) hM11.any.rd);obtain⟨m12,hm12⟩:=qi4 (behind m11 m12');rw[<-hm12]at n3;have st12:=st11.step n3;obtain⟨t,ht⟩:=qi4 (zf s.ls a.fs);rw[<-ht]at n1;obtain⟨m13',o1,o2,o3,o4,o5⟩:=st12.storeAny 0 rfl (o:=3) (v:=uv t.1) (by simp) rfl;obtain⟨m13,hm13⟩:=qi4 (behind m12 m13');rw[<-hm13]at o3;obtain⟨me,y1,y2,y3,y4⟩:=fin t m13 o3 (by rw[hwant,ht]);simp[-qw,<-hm1,<-hm2,l11,qb,c1,c2,<-hm3,la3,d1,d2,<-hm4,Wb,<-hm5,w1,<-hm6,lM,la6,e1,e2,<-hm7,la7,lM7,f1,f2,<-hm8,g1,<-hm9,i1,<-hm10,j1,<-hm11,la11,d5,d6,lM11,n1,<-hm12,o1,<-hm13,y1,y2];exact wq (a:=⟨m1.n,0,none⟩) (by simp) y3 y4 rfl
   .have d6:decide (a.op=6)=false:=qhw h6;rw[qhy h6]at hwant;obtain⟨me,y1,y2,y3,y4⟩:=fin u m11 st11 hwant;simp[-qw,<-hm1,<-hm2,l11,qb,c1,c2,<-hm3,la3,d1,d2,<-hm4,Wb,<-hm5,w1,<-hm6,lM,la6,e1,e2,<-hm7,la7,lM7,f1,f2,<-hm8,g1,<-hm9,i1,<-hm10,j1,<-hm11,la11,d5,d6,y1,y2];exact wq (a:=⟨m1.n,0,none⟩) (by simp) y3 y4 rfl
end
end Go.Sx
namespace Go.Sx
open Go.Dx Go.Proofs
set_option maxRecDepth 10000
variable [Cdf]
def Yk (s:Ms)(a:Ac):Ms:={ s with ls:=s.ls.set a.dst.toNat (zf s.ls a.es),at_:=s.at_+1 }
def QB (s:Ms)(a:Ac):Ms:={ s with at_:=a.to.toNat }
def yW (s:Ms)(a:Ac):Ms:={ s with at_:=if (zf s.ls a.es).1=0 then a.to.toNat else s.at_+1 }
theorem dG (ls:List U)(i:Nat)(u:U):(lsR ls).set i (uv u.1)=lsR (ls.set i u):=by unfold lsR;rw[List.map_set]
theorem dF (ls:List U):(lsR ls).length=ls.length:=by unfold lsR;simp
structure AcAp (Mb Lb:Nat)(a:Ac):Prop where
 ix:∀B,blk a.ix=some B->B ∉ [Mb,Lb]
 ev:∀B,blk a.ev=some B->B ∉ [Mb,Lb]
 fv:∀B,blk a.fv=some B->B ∉ [Mb,Lb]
section
variable {k na:Nat}{cells:Int}{a:Ac}{av:Value}{s:Ms}{Mb Lb:Nat}{m m':M}
abbrev msS (Mb Lb k:Nat)(av:Value)(s:Ms):List (Nat × List Value):=[(Mb,qJ k av (lvV Lb k) s),(Lb,lsR s.ls)]
theorem MsAt.ow (h:MsAt m Mb Lb k av s)(hne:Mb≠Lb)(hm:m.base<=m.n):Ow m m [Mb,Lb] (msS Mb Lb k av s) :=
 Ow.start hm (λp hp=>by
  rcases List.mem_cons.1 hp with rfl | hp
  .exact⟨by simp,h.mb,h.row⟩
  .rw[qhc.1 hp];exact⟨by simp,h.lb,h.ls⟩) (by simp[hne])
def WrC (x:Ex)(g:Nat)(args:List Value)(m:M)(Mb Lb k:Nat)(av:Value)(s':Ms)(v':Value):Prop :=
 ∃v m',x.f g args m=some (v,m')/\Mc m m' [Mb,Lb]/\MsAt m' Mb Lb k av s'/\v=v'
theorem Ow.msAt {m0:M}{σ:List (Nat × List Value)}(h:Ow m0 m [Mb,Lb] σ)(i j:Nat)(hi:σ[i]?=some (Mb,qJ k av (lvV Lb k) s))(hj:σ[j]?=some (Lb,lsR s.ls))(hl:s.ls.length=k):MsAt m Mb Lb k av s :=
 ⟨(h.get i hi).2.2,(h.get j hj).2.2,hl,(h.get i hi).2.1,(h.get j hj).2.1⟩
theorem set_c (hg:AcG k na cells a)(hop:a.op=1)(N:Nat)(hm:m.base<=m.n)(hne:Mb≠Lb)(hM:MsAt m Mb Lb k av s)(hat:s.at_<9223372036854775807)(ha:AcOK m a) :
  WrC (ex Tryz.prog (N+4)) 161 [mP Mb,.agg ⟨qe a⟩] m Mb Lb k av (Yk s a) (.agg ⟨Z6⟩):=by
 refine zM (Q:=λv m'=>Mc m m' [Mb,Lb]/\MsAt m' Mb Lb k av (Yk s a)/\v=.agg ⟨Z6⟩) di2_ok (by simp) ?_;have ow0:=hM.ow hne hm;have ow1:=ow0.row (qe a);obtain⟨m1,hm1⟩:=qi4 (Dx.newRow m (qe a));rw[<-hm1]at ow1;have ow2:=ow1.row Z6;obtain⟨m2,hm2⟩:=qi4 (Dx.newRow m1 Z6);rw[<-hm2]at ow2;have la:∀o s,load1 m2 ⟨m.n,o,s⟩=(qe a)[o]?:=λo s=>(ow2.get 1 rfl).2.2.load1 o s;simp only[qe]at la;have e12:Ext m m2:=by rw[hm2,hm1];exact (Ext.row _ _).trans (Ext.row _ _)
 have hM2:=hM.ext e12;have lM:=hM2.l1;simp only[qJ]at lM;have S2:Sees m m2:=(Sees.refl hm).ext e12;obtain⟨v4,m4',d1,d2,d3,rfl⟩:=qZ (xF hM.len (hg.e (by rw[hop];rfl)) N (ql m2) (qp S2).base (ha.ev.sees (qp S2)) hM2.any.rd);obtain⟨m4,hm4⟩:=qi4 (behind m2 m4');rw[<-hm4]at d3;have ow4:=ow2.step d3;obtain⟨y,hy⟩:=qi4 (zf s.ls a.es);rw[<-hy]at d1;obtain⟨dd1,dd2⟩:=hg.d (by rw[hop];rfl);obtain⟨d,hd⟩:∃d:Nat,a.dst=d:=⟨a.dst.toNat,by omega⟩;have hdk:d<k:=by omega
 have hix:wJ 1 (lvV Lb k) (.int .i64 a.dst)=some (.pointer (some ⟨Lb,d,none⟩)):=by
  rw[hd];have:=KS (e:=1) (c:=3) Lb k d hdk
  rwa [Nat.mul_one]at this
 obtain⟨m5',f1,f2,f3,f4,f5⟩:=ow4.storeAny 3 rfl (o:=d) (v:=uv y.1) (by rw[dF,hM.len];exact hdk) rfl;obtain⟨m5,hm5⟩:=qi4 (behind m4 m5');rw[<-hm5]at f3;have l5:∀o s',load1 m5 ⟨Mb,o,s'⟩=(qJ k av (lvV Lb k) s)[o]?:=λo s'=>(f3.get 2 rfl).2.2.load1 o s';simp only[qJ]at l5;have na1:=qK hat;obtain⟨at1,hat1⟩:=qi4 (s.at_+1);rw[<-hat1]at na1;obtain⟨m6,g1,g3,g4,g5⟩:=f3.store 2 rfl (o:=2) (v:=iv at1) (by simp[qJ]) rfl;obtain⟨m7,h1,h3,h4,h5⟩:=g3.storeN 0 rfl (o:=0) (l':=Z6) (n:=6) (by omega) rfl (by simp) (by simp[okC]);have lf:loads m7 ⟨m1.n,0,none⟩ 6=some Z6:=(h3.get 0 rfl).2.2.loads (n:=6) (by simp[over]);have hs:MsAt m7 Mb Lb k av (Yk s a):=by
  refine Ow.msAt h3 2 3 ?_ ?_ ?_
  .show some (Mb,(qJ k av (lvV Lb k) s).set 2 (iv at1))=_;rw[hat1];rfl
  .show some (Lb,(lsR s.ls).set d (uv y.1))=_;rw[dG,hy];show _=some (Lb,lsR (s.ls.set a.dst.toNat (zf s.ls a.es)));rw[hd,qhj]
  .show (s.ls.set _ _).length=k;rw[List.length_set];exact hM.len
 simp[-qw,<-hm1,<-hm2,la,lM,d1,d2,<-hm4,hix,f1,<-hm5,l5,qw,na1,g1,Wa,h1];exact jC (a:=⟨m1.n,0,none⟩) (by simp) lf ⟨h3.mc,hs,rfl⟩
theorem jump_c (hg:AcG k na cells a)(hop:a.op=9)(N:Nat)(hm:m.base<=m.n)(hne:Mb≠Lb)(hM:MsAt m Mb Lb k av s) :
  WrC (ex Tryz.prog (N+1)) 167 [mP Mb,.agg ⟨qe a⟩] m Mb Lb k av (QB s a) (.agg ⟨Z6⟩):=by
 refine zM (Q:=λv m'=>Mc m m' [Mb,Lb]/\MsAt m' Mb Lb k av (QB s a)/\v=.agg ⟨Z6⟩) di8_ok (by simp) ?_;have ow0:=hM.ow hne hm;have ow1:=ow0.row (qe a);obtain⟨m1,hm1⟩:=qi4 (Dx.newRow m (qe a));rw[<-hm1]at ow1;have ow2:=ow1.row Z6;obtain⟨m2,hm2⟩:=qi4 (Dx.newRow m1 Z6);rw[<-hm2]at ow2;have la:∀o s,load1 m2 ⟨m.n,o,s⟩=(qe a)[o]?:=λo s=>(ow2.get 1 rfl).2.2.load1 o s;simp only[qe]at la;obtain⟨tt1,tt2⟩:=hg.t (by rw[hop];rfl);obtain⟨m6,g1,g3,g4,g5⟩:=ow2.store 2 rfl (o:=2) (v:=iv a.to) (by simp[qJ]) rfl;obtain⟨m7,h1,h3,h4,h5⟩:=g3.storeN 0 rfl (o:=0) (l':=Z6) (n:=6) (by omega) rfl (by simp) (by simp[okC]);have lf:loads m7 ⟨m1.n,0,none⟩ 6=some Z6:=(h3.get 0 rfl).2.2.loads (n:=6) (by simp[over]);have hs:MsAt m7 Mb Lb k av (QB s a):=by
  refine Ow.msAt h3 2 3 ?_ rfl hM.len;show some (Mb,(qJ k av (lvV Lb k) s).set 2 (iv a.to))=_;have:a.to=((a.to.toNat:Nat):Int):=by omega
  rw[this];rfl
 simp[<-hm1,<-hm2,la,g1,Wa,h1];exact jC (a:=⟨m1.n,0,none⟩) (by simp) lf ⟨h3.mc,hs,rfl⟩
theorem zero_c (hg:AcG k na cells a)(hop:a.op=10)(N:Nat)(hm:m.base<=m.n)(hne:Mb≠Lb)(hM:MsAt m Mb Lb k av s)(hat:s.at_<9223372036854775807)(ha:AcOK m a)(hap:AcAp Mb Lb a) :
  WrC (ex Tryz.prog (N+4)) 168 [mP Mb,.agg ⟨qe a⟩] m Mb Lb k av (yW s a) (.agg ⟨Z6⟩):=by
 refine zM (Q:=λv m'=>Mc m m' [Mb,Lb]/\MsAt m' Mb Lb k av (yW s a)/\v=.agg ⟨Z6⟩) di9_ok (by simp) ?_;have ow0:=hM.ow hne hm;have ow1:=ow0.row (qe a);obtain⟨m1,hm1⟩:=qi4 (Dx.newRow m (qe a));rw[<-hm1]at ow1;have ow2:=ow1.row Z6;obtain⟨m2,hm2⟩:=qi4 (Dx.newRow m1 Z6);rw[<-hm2]at ow2;have lM2:∀o s',load1 m2 ⟨Mb,o,s'⟩=(qJ k av (lvV Lb k) s)[o]?:=λo s'=>(ow2.get 2 rfl).2.2.load1 o s';simp only[qJ]at lM2;have na1:=qK hat;obtain⟨at1,hat1⟩:=qi4 (s.at_+1);rw[<-hat1]at na1;obtain⟨m3,g1,g3,g4,g5⟩:=ow2.store 2 rfl (o:=2) (v:=iv at1) (by simp[qJ]) rfl;have la:∀o s,load1 m3 ⟨m.n,o,s⟩=(qe a)[o]?:=λo s=>(g3.get 1 rfl).2.2.load1 o s;simp only[qe]at la;obtain⟨s3,hs3⟩:∃s3:Ms,s3={ s with at_:=at1 }:=⟨_,rfl⟩;have hM3:MsAt m3 Mb Lb k av s3:=by
  rw[hs3];exact Ow.msAt g3 2 3 rfl rfl hM.len
 have hls:s3.ls=s.ls:=by rw[hs3]
 have lM:=hM3.l1;simp only[qJ]at lM;have hm3:m3.base<=m3.n:=g3.mb;have hev:Rd m3 a.ev 4 qv a.es:=g3.rd ha.ev hap.ev;obtain⟨v4,m4',d1,d2,d3,rfl⟩:=qZ (xF hM3.len (hg.e (by rw[hop];rfl)) N (ql m3) (qp (Sees.refl hm3)).base (hev.sees (qp (Sees.refl hm3))) hM3.any.rd);obtain⟨m4,hm4⟩:=qi4 (behind m3 m4');rw[<-hm4]at d3;have ow4:=g3.step d3;have la4:∀o s,load1 m4 ⟨m.n,o,s⟩=(qe a)[o]?:=λo s=>(ow4.get 1 rfl).2.2.load1 o s;simp only[qe]at la4;obtain⟨y,hy⟩:=qi4 (zf s.ls a.es);rw[hls,<-hy]at d1;obtain⟨tt1,tt2⟩:=hg.t (by rw[hop];rfl);by_cases h0:y.1=0
 .have e0:decide ((y.1:Int)=0)=true:=qhx (by omega);have e0':decide (y.1=0)=true:=qhx h0;obtain⟨m6,i1,i3,i4,i5⟩:=ow4.store 2 rfl (o:=2) (v:=iv a.to) (by simp[qJ]) rfl;obtain⟨m7,h1,h3,h4,h5⟩:=i3.storeN 0 rfl (o:=0) (l':=Z6) (n:=6) (by omega) rfl (by simp) (by simp[okC]);have lf:loads m7 ⟨m1.n,0,none⟩ 6=some Z6:=(h3.get 0 rfl).2.2.loads (n:=6) (by simp[over]);have hs:MsAt m7 Mb Lb k av (yW s a):=by
   refine Ow.msAt h3 2 3 ?_ rfl hM.len;show some (Mb,((qJ k av (lvV Lb k) s).set 2 (iv at1)).set 2 (iv a.to))=_;have:a.to=((a.to.toNat:Nat):Int):=by omega
   unfold yW;rw[<-hy,qhz h0,this];rfl
  simp[-qw,<-hm1,<-hm2,lM2,qw,na1,g1,la,lM,d1,d2,<-hm4,e0',la4,i1,Wa,h1];exact jC (a:=⟨m1.n,0,none⟩) (by simp) lf ⟨h3.mc,hs,rfl⟩
 .have e0:decide ((y.1:Int)=0)=false:=qhw (by omega);have e0':decide (y.1=0)=false:=qhw h0;obtain⟨m7,h1,h3,h4,h5⟩:=ow4.storeN 0 rfl (o:=0) (l':=Z6) (n:=6) (by omega) rfl (by simp) (by simp[okC]);have lf:loads m7 ⟨m1.n,0,none⟩ 6=some Z6:=(h3.get 0 rfl).2.2.loads (n:=6) (by simp[over]);have hs:MsAt m7 Mb Lb k av (yW s a):=by
   refine Ow.msAt h3 2 3 ?_ rfl hM.len;show some (Mb,(qJ k av (lvV Lb k) s).set 2 (iv at1))=_;unfold yW;rw[<-hy,qhy h0,hat1];rfl
  simp[-qw,<-hm1,<-hm2,lM2,qw,na1,g1,la,lM,d1,d2,<-hm4,e0',Wa,h1];exact jC (a:=⟨m1.n,0,none⟩) (by simp) lf ⟨h3.mc,hs,rfl⟩
end
end Go.Sx
namespace Go.Sx
open Go.Dx Go.Proofs
set_option maxRecDepth 10000
variable [Cdf]
structure Env (m:M)(Mb Lb:Nat)(av:Value)(acts:List Ac):Prop where
 rav:Rd m av 11 qe acts
 avp:∀B,blk av=some B->B ∉ [Mb,Lb]
 ok:∀a∈acts,AcOK m a/\AcAp Mb Lb a
section
variable {k na:Nat}{cells:Int}{a:Ac}{av:Value}{s:Ms}{Mb Lb:Nat}{m m':M}{acts:List Ac}
theorem AcOK.mc (h:AcOK m a)(hp:AcAp Mb Lb a)(k:Mc m m' [Mb,Lb]):AcOK m' a :=
 ⟨h.ix.congr k.n λB hB=>k.obj B (h.ix.lt B hB) (hp.ix B hB),h.ev.congr k.n λB hB=>k.obj B (h.ev.lt B hB) (hp.ev B hB),h.fv.congr k.n λB hB=>k.obj B (h.fv.lt B hB) (hp.fv B hB),h.ixl,h.evl,h.fvl⟩
theorem Env.mc (h:Env m Mb Lb av acts)(k:Mc m m' [Mb,Lb]):Env m' Mb Lb av acts :=
 ⟨h.rav.congr k.n λB hB=>k.obj B (h.rav.lt B hB) (h.avp B hB),h.avp,λa ha=>⟨(h.ok a ha).1.mc (h.ok a ha).2 k,(h.ok a ha).2⟩⟩
theorem Env.ext (h:Env m Mb Lb av acts)(e:Ext m m'):Env m' Mb Lb av acts:=h.mc e.mc
theorem Env.any (h:Env m Mb Lb av acts)(hm:m.base<=m.n):Env (ql m) Mb Lb av acts :=
 ⟨h.rav.sees (qp (Sees.refl hm)),h.avp,λa ha=>⟨(h.ok a ha).1.sees (qp (Sees.refl hm)),(h.ok a ha).2⟩⟩
abbrev Z11:List Value:=[zI,zI,zI,zI,zS,zS,zS,zI,zI,zI,zI]
theorem zn (h:AcOK m a):∀v∈qe a,okC v=true:=by
 have o1:=h.ix.okV;have o2:=h.ev.okV;have o3:=h.fv.okV;intro v hv;simp only[qe,List.mem_cons,List.not_mem_nil,or_false]at hv;rcases hv with rfl | rfl | rfl | rfl | rfl | rfl | rfl | rfl | rfl | rfl | rfl<;>first | rfl | assumption
theorem BS (hE:Env m Mb Lb av acts)(hM:MsAt m Mb Lb k av s)(ha:acts[s.at_]?=some a)(N:Nat)(hm:m.base<=m.n) :
  CallV (ex Tryz.prog (N+1)) 108 [mP Mb] m (.agg ⟨qe a⟩):=by
 refine qm dg1_ok (by simp) ?_;have st1:=(St.nil hm (Ext.refl m)).row Z11;obtain⟨m1,hm1⟩:=qi4 (Dx.newRow m Z11);rw[<-hm1]at st1;have lM:=(hM.ext st1.ext).l1;simp only[qJ]at lM;obtain⟨a1,a2,_⟩:=hE.rav.at ha;have a2':=a2 m1 st1.sees;obtain⟨m4',w1,w2,w3,w4,w5⟩:=st1.fillAny 0 rfl (n:=11) (l':=qe a) (by omega) rfl rfl (zn (hE.ok a (qh6 ha)).1);obtain⟨m4,hm4⟩:=qi4 (behind m1 m4');rw[<-hm4]at w3;have lf:loads m4 ⟨m.n,0,none⟩ 11=some (qe a):=(w3.get 0 rfl).2.2.loads (n:=11) (by simp[qe]);simp[<-hm1,lM,a1,a2',qb,w1,<-hm4];exact wq (a:=⟨m.n,0,none⟩) (by simp) lf w3.ext rfl
def ownB (a:Ac):Bool:=decide (a.op=1\/a.op=9\/a.op=10)
theorem qcd (a:Ac)(N:Nat)(m:M):CallV (ex Tryz.prog (N+1)) 110 [.agg ⟨qe a⟩] m (.bool (ownB a)):=by
 refine qm dg3_ok (by simp) ?_;have la:∀o,load1 (Dx.newRow m (qe a)) ⟨m.n,o,none⟩=(qe a)[o]?:=λo=>GL m _ o;have E:Ext m (Dx.newRow m (qe a)):=Ext.row _ _;obtain⟨m1,hm1⟩:=qi4 (Dx.newRow m (qe a));rw[<-hm1]at la E;simp only[qe]at la;have hb:ownB a=decide (a.op=1\/a.op=9\/a.op=10):=rfl;rw[hb];by_cases h1:a.op=1
 .have d1:decide (a.op=1)=true:=qhx h1;rw[qhx (.inl h1)];simp[<-hm1,la,d1];exact qf E (by simp)
 .have d1:decide (a.op=1)=false:=qhw h1;by_cases h9:a.op=9
  .have d9:decide (a.op=9)=true:=qhx h9;rw[qhx (.inr (.inl h9))];simp[<-hm1,la,d1,d9];exact qf E (by simp)
  .have d9:decide (a.op=9)=false:=qhw h9;simp[<-hm1,la,d1,d9];exact qf E (by simp[h1])
def fnV (g:Nat):Value:=.func (.func g) #[] #[]
def bS:List Value:=[.nilFunc,fnV 161,fnV 162,fnV 163,fnV 164,fnV 164,fnV 164,fnV 165,fnV 166,fnV 167,fnV 168]
def fW (op:Int):Nat:=if op=1 then 161 else if op=2 then 162 else if op=3 then 163 else if op=4 then 164 else if op=5 then 164 else if op=6 then 164 else if op=7 then 165 else if op=8 then 166 else if op=9 then 167 else 168
theorem qgm:wg [.nilFunc,.nilFunc,.nilFunc,.nilFunc,.nilFunc,.nilFunc,.nilFunc,.nilFunc,.nilFunc,.nilFunc,.nilFunc] [(1,1,.func (.func 161) #[] #[]),(2,1,.func (.func 162) #[] #[]),(3,1,.func (.func 163) #[] #[]),(4,1,.func (.func 164) #[] #[]),(5,1,.func (.func 164) #[] #[]),(6,1,.func (.func 164) #[] #[]),(7,1,.func (.func 165) #[] #[]),(8,1,.func (.func 166) #[] #[]),(9,1,.func (.func 167) #[] #[]),(10,1,.func (.func 168) #[] #[])]=some (.agg ⟨bS⟩):=rfl
theorem FR (N:Nat)(m:M)(hm:m.base<=m.n):CallV (ex Tryz.prog (N+1)) 109 [] m (.agg ⟨bS⟩):=by
 refine qm dg2_ok (by simp) ?_;obtain⟨a,c1,c2,c3,c4,c5⟩:=wK (m:=m) hm (zs:=[.nilFunc,.nilFunc,.nilFunc,.nilFunc,.nilFunc,.nilFunc,.nilFunc,.nilFunc,.nilFunc,.nilFunc,.nilFunc]) (l:=bS) (v:=.agg ⟨bS⟩) (n:=11) rfl rfl rfl (by simp[bS,fnV,okC]);simp[qgm,c1];exact wq (a:=⟨m.n,0,none⟩) (by simp) (c3 none) c4 rfl
theorem FT {op:Int}(h1:1<=op)(h2:op<=10):fe 11 false 1 (.agg ⟨bS⟩) (.int .i64 op)=some (.func (.func (fW op)) ⟨[]⟩ ⟨[]⟩):=by
 rcases (by omega:op=1\/op=2\/op=3\/op=4\/op=5\/op=6\/op=7\/op=8\/op=9\/op=10) with rfl | rfl | rfl | rfl | rfl | rfl | rfl | rfl | rfl | rfl<;>rfl
theorem qdv (hc:cells<=4096)(hg:AcG k na cells a)(how:ownB a=false)(N:Nat)(hm:m.base<=m.n)(hM:MsAt m Mb Lb k av s)(ha:AcOK m a) :
  CallV (ex Tryz.prog (N+5)) (fW a.op) [mP Mb,.agg ⟨qe a⟩] m (.agg ⟨wtL (qi s a)⟩):=by
 obtain⟨o1,o2⟩:=hg.op;have hn:=of_decide_eq_false how;rcases (by omega:a.op=2\/a.op=3\/(a.op=4\/a.op=5\/a.op=6)\/a.op=7\/a.op=8) with h | h | h | h | h
 .have:fW a.op=162:=by rw[h];rfl
  rw[this];exact load_c hc hg h N hm hM ha
 .have:fW a.op=163:=by rw[h];rfl
  rw[this];exact qge hc hg h N hm hM ha
 .have:fW a.op=164:=by rcases h with h | h | h<;>(rw[h];rfl)
  rw[this];exact pair_c hc hg h N hm hM ha
 .have:fW a.op=165:=by rw[h];rfl
  rw[this];exact qei h (N+4) hm hM
 .have:fW a.op=166:=by rw[h];rfl
  rw[this];exact qfp hg h (N+1) hm hM ha
def kW (s:Ms)(a:Ac):Ms:=if a.op=1 then Yk s a else if a.op=9 then QB s a else yW s a
theorem Bh (hg:AcG k na cells a)(how:ownB a=true)(N:Nat)(hm:m.base<=m.n)(hne:Mb≠Lb)(hM:MsAt m Mb Lb k av s)(hat:s.at_<9223372036854775807)(ha:AcOK m a)(hap:AcAp Mb Lb a) :
  WrC (ex Tryz.prog (N+4)) (fW a.op) [mP Mb,.agg ⟨qe a⟩] m Mb Lb k av (kW s a) (.agg ⟨Z6⟩):=by
 have hn:=qi2 how;rcases hn with h | h | h
 .have:fW a.op=161:=by rw[h];rfl
  have h2:kW s a=Yk s a:=by unfold kW;rw[qhz h]
  rw[this,h2];exact set_c hg h N hm hne hM hat ha
 .have:fW a.op=167:=by rw[h];rfl
  have h2:kW s a=QB s a:=by unfold kW;rw[qhy (by omega),qhz h]
  rw[this,h2];exact jump_c hg h (N+3) hm hne hM
 .have:fW a.op=168:=by rw[h];rfl
  have h2:kW s a=yW s a:=by unfold kW;rw[qhy (by omega),qhy (by omega)]
  rw[this,h2];exact zero_c hg h N hm hne hM hat ha hap
end
structure Ev5 where
 th:Int
 kind:Int
 loc:Int
 val:U
 mode:Int
def qh (e:Ev5):List Value:=[iv e.th,iv e.kind,iv e.loc,uv e.val.1,iv e.mode]
def wR (th:Int)(w:Wt)(v:U):Ev5:=if w.what=1 then ⟨th,1,w.loc,v,w.mode⟩ else if w.what=2 then ⟨th,2,w.loc,w.val,w.mode⟩ else ⟨th,3,-1,u0,w.mode⟩
theorem qb3 (a b c e:Int)(d:Int):wg [zI,zI,zI,zU,zI] [(0,1,.int .i64 a),(1,1,.int .i64 b),(2,1,.int .i64 c),(3,1,.int .u64 d),(4,1,.int .i64 e)]=some (.agg ⟨[.int .i64 a,.int .i64 b,.int .i64 c,.int .u64 d,.int .i64 e]⟩):=rfl
theorem ev_b2 (a b c e:Int):wg [zI,zI,zI,zU,zI] [(0,1,.int .i64 a),(1,1,.int .i64 b),(2,1,.int .i64 c),(4,1,.int .i64 e)]=some (.agg ⟨[.int .i64 a,.int .i64 b,.int .i64 c,zU,.int .i64 e]⟩):=rfl
end Go.Sx
namespace Go.Sx
open Go.Dx Go.Proofs
set_option maxRecDepth 10000
variable [Cdf]
def wW (s:Ms)(a:Ac):Ms:={ s with asked:=true,now:=qi s a }
theorem jL (w:Wt):∀v∈wtL w,okC v=true:=by simp[wtL,okC]
section
variable {k na:Nat}{cells:Int}{a:Ac}{av:Value}{s:Ms}{Mb Lb:Nat}{m m':M}{acts:List Ac}
end
end Go.Sx
namespace Go.Sx
open Go.Dx Go.Proofs
set_option maxRecDepth 10000
variable [Cdf]
def jn (s:Ms)(a:Ac)(v:U):Ms :=
 if s.now.ex=true/\s.opn=true then { s with ls:=s.ls.set a.dst.toNat s.old,opn:=false,at_:=s.at_+1 }
 else if s.now.what=1 then { s with ls:=s.ls.set a.dst.toNat v,at_:=s.at_+1 }
 else { s with at_:=s.at_+1 }
def qY (s:Ms)(a:Ac)(v:U):Ms :=
 if s.now.what=1/\s.now.ex=true then
  if a.op≠6\/(zf s.ls a.es).1=v.1 then { s with asked:=false,old:=v,opn:=true } else jn { s with asked:=false,old:=v } a v
 else jn { s with asked:=false } a v
section
variable {k na:Nat}{cells:Int}{a:Ac}{av:Value}{s:Ms}{Mb Lb:Nat}{m m0:M}{acts:List Ac}
theorem Ji {Ab:Nat}(h:Ow m0 m [Mb,Lb] [(Ab,qe a),(Mb,qJ k av (lvV Lb k) s),(Lb,lsR s.ls)])(hl:s.ls.length=k)(hD:(s.now.ex=true/\s.opn=true)\/s.now.what=1->0<=a.dst/\a.dst<k)(hat:s.at_<9223372036854775807)(v:U){x:Ex}{kn:K}{ke:Nat->K}{t:Tm}
  (t0:Tm.get 0 t=mP Mb) (t1:Tm.get 1 t=uv v.1) (t5:Tm.get 5 t=.pointer (some ⟨Ab,0,none⟩)) :
  yN (λw m'=>Mc m0 m' [Mb,Lb]/\MsAt m' Mb Lb k av (jn s a v)/\w=iv 0) (Ve x kn ke (wN [.t 4]) t m):=by
 have lM:∀o s',load1 m ⟨Mb,o,s'⟩=(qJ k av (lvV Lb k) s)[o]?:=λo s'=>(h.get 1 rfl).2.2.load1 o s';simp only[qJ]at lM;have na1:=qK hat;obtain⟨at1,hat1⟩:=qi4 (s.at_+1);rw[<-hat1]at na1;have la:∀o s',load1 m ⟨Ab,o,s'⟩=(qe a)[o]?:=λo s'=>(h.get 0 rfl).2.2.load1 o s';simp only[qe]at la;by_cases hA:s.now.ex=true/\s.opn=true
 .obtain⟨dd1,dd2⟩:=hD (.inl hA);obtain⟨d,hd⟩:∃d:Nat,a.dst=d:=⟨a.dst.toNat,by omega⟩;have hix:wJ 1 (lvV Lb k) (.int .i64 a.dst)=some (.pointer (some ⟨Lb,d,none⟩)):=by
   rw[hd];have:=KS (e:=1) (c:=3) Lb k d (by omega)
   rwa [Nat.mul_one]at this
  have hF:jn s a v={ s with ls:=s.ls.set a.dst.toNat s.old,opn:=false,at_:=s.at_+1 }:=qhz hA;rw[hF];obtain⟨h1,h2⟩:=hA;rw[h1,h2]at lM;obtain⟨m2,f1,f3,f4,f5⟩:=h.store 1 rfl (o:=12) (v:=zF) (by simp[qJ]) rfl;have l2:∀o s',load1 m2 ⟨Mb,o,s'⟩=((qJ k av (lvV Lb k) s).set 12 zF)[o]?:=λo s'=>(f3.get 1 rfl).2.2.load1 o s';simp only[qJ]at l2;have la2:∀o s',load1 m2 ⟨Ab,o,s'⟩=(qe a)[o]?:=λo s'=>(f3.get 0 rfl).2.2.load1 o s';simp only[qe]at la2;obtain⟨m3',g1,g2,g3,g4,g5⟩:=f3.storeAny 2 rfl (o:=d) (v:=uv s.old.1) (by rw[dF,hl];omega) rfl;obtain⟨m3,hm3⟩:=qi4 (behind m2 m3');rw[<-hm3]at g3;have l3:∀o s',load1 m3 ⟨Mb,o,s'⟩=((qJ k av (lvV Lb k) s).set 12 zF)[o]?:=λo s'=>(g3.get 1 rfl).2.2.load1 o s';simp only[qJ]at l3;obtain⟨m4,i1,i3,i4,i5⟩:=g3.store 1 rfl (o:=2) (v:=iv at1) (by simp[qJ]) rfl;have hs:MsAt m4 Mb Lb k av { s with ls:=s.ls.set a.dst.toNat s.old,opn:=false,at_:=s.at_+1 }:=by
   refine Ow.msAt i3 1 2 ?_ ?_ ?_
   .show some (Mb,((qJ k av (lvV Lb k) s).set 12 zF).set 2 (iv at1))=_;rw[hat1];rfl
   .show some (Lb,(lsR s.ls).set d (uv s.old.1))=_;rw[dG,hd,qhj]
   .show (s.ls.set _ _).length=k;rw[List.length_set];exact hl
  simp[-qw,t0,t5,lM,f1,l2,la2,hix,g1,<-hm3,l3,qw,na1,i1];exact zo ⟨i3.mc,hs,by simp⟩
 .have hnx:(s.now.ex&&s.opn)=false:=by
   cases h1:s.now.ex<;>cases h2:s.opn<;>first | rfl | exact absurd ⟨h1,h2⟩ hA
  by_cases hB:s.now.what=1
  .obtain⟨dd1,dd2⟩:=hD (.inr hB);obtain⟨d,hd⟩:∃d:Nat,a.dst=d:=⟨a.dst.toNat,by omega⟩;have hix:wJ 1 (lvV Lb k) (.int .i64 a.dst)=some (.pointer (some ⟨Lb,d,none⟩)):=by
    rw[hd];have:=KS (e:=1) (c:=3) Lb k d (by omega)
    rwa [Nat.mul_one]at this
   have hF:jn s a v={ s with ls:=s.ls.set a.dst.toNat v,at_:=s.at_+1 }:=by unfold jn;rw[qhy hA,qhz hB]
   rw[hF];have dB:decide (s.now.what=1)=true:=qhx hB;obtain⟨m3',g1,g2,g3,g4,g5⟩:=h.storeAny 2 rfl (o:=d) (v:=uv v.1) (by rw[dF,hl];omega) rfl;obtain⟨m3,hm3⟩:=qi4 (behind m m3');rw[<-hm3]at g3;have l3:∀o s',load1 m3 ⟨Mb,o,s'⟩=(qJ k av (lvV Lb k) s)[o]?:=λo s'=>(g3.get 1 rfl).2.2.load1 o s';simp only[qJ]at l3;obtain⟨m4,i1,i3,i4,i5⟩:=g3.store 1 rfl (o:=2) (v:=iv at1) (by simp[qJ]) rfl;have hs:MsAt m4 Mb Lb k av { s with ls:=s.ls.set a.dst.toNat v,at_:=s.at_+1 }:=by
    refine Ow.msAt i3 1 2 ?_ ?_ ?_
    .show some (Mb,(qJ k av (lvV Lb k) s).set 2 (iv at1))=_;rw[hat1];rfl
    .show some (Lb,(lsR s.ls).set d (uv v.1))=_;rw[dG,hd,qhj]
    .show (s.ls.set _ _).length=k;rw[List.length_set];exact hl
   cases hx:s.now.ex with
   | false =>
    rw[hx]at lM;simp[-qw,t0,t1,t5,lM,dB,la,hix,g1,<-hm3,l3,qw,na1,i1];exact zo ⟨i3.mc,hs,by simp⟩
   | true =>
    rw[hx,Bool.true_and]at hnx;rw[hx,hnx]at lM;simp[-qw,t0,t1,t5,lM,dB,la,hix,g1,<-hm3,l3,qw,na1,i1];exact zo ⟨i3.mc,hs,by simp⟩
  .have hF:jn s a v={ s with at_:=s.at_+1 }:=by unfold jn;rw[qhy hA,qhy hB]
   rw[hF];have dB:decide (s.now.what=1)=false:=qhw hB;obtain⟨m4,i1,i3,i4,i5⟩:=h.store 1 rfl (o:=2) (v:=iv at1) (by simp[qJ]) rfl;have hs:MsAt m4 Mb Lb k av { s with at_:=s.at_+1 }:=by
    refine Ow.msAt i3 1 2 ?_ rfl hl;show some (Mb,(qJ k av (lvV Lb k) s).set 2 (iv at1))=_;rw[hat1];rfl
   cases hx:s.now.ex with
   | false =>
    rw[hx]at lM;simp[-qw,t0,lM,dB,qw,na1,i1];exact zo ⟨i3.mc,hs,by simp⟩
   | true =>
    rw[hx,Bool.true_and]at hnx;rw[hx,hnx]at lM;simp[-qw,t0,lM,dB,qw,na1,i1];exact zo ⟨i3.mc,hs,by simp⟩
theorem qbc (hE:Env m Mb Lb av acts)(hg:AcG k na cells a)(ha:acts[s.at_]?=some a)(hask:s.asked=true)(hw5:s.now.what≠5)(hw6:s.now.what≠6)
  (hD:(s.now.ex=true/\s.opn=true)\/s.now.what=1->pD a.op=true) (v:U) (N:Nat) (hm:m.base<=m.n) (hne:Mb≠Lb) (hM:MsAt m Mb Lb k av s) (hat:s.at_<9223372036854775807) :
  WrC (ex Tryz.prog (N+4)) 60 [mP Mb,uv v.1] m Mb Lb k av (qY s a v) (iv 0):=by
 refine zM (Q:=λw m'=>Mc m m' [Mb,Lb]/\MsAt m' Mb Lb k av (qY s a v)/\w=iv 0) dd4_ok (by simp) ?_;have ow0:=hM.ow hne hm;have lM:=hM.l1;simp only[qJ]at lM;rw[hask]at lM;have d5:decide (s.now.what=5)=false:=qhw hw5;have d6:decide (s.now.what=6)=false:=qhw hw6;obtain⟨m1,f1,f3,f4,f5⟩:=ow0.store 0 rfl (o:=10) (v:=zF) (by simp[qJ]) rfl;obtain⟨s1,hs1⟩:∃s1:Ms,s1={ s with asked:=false }:=⟨_,rfl⟩;have ow1:Ow m m1 [Mb,Lb] [(Mb,qJ k av (lvV Lb k) s1),(Lb,lsR s1.ls)]:=by
  have h:=f3;have hr:(qJ k av (lvV Lb k) s).set 10 zF=qJ k av (lvV Lb k) s1:=by rw[hs1];rfl
  have hr2:lsR s1.ls=lsR s.ls:=by rw[hs1]
  rw[<-hr,hr2];exact h
 have hlen1:s1.ls.length=k:=by rw[hs1];exact hM.len
 have hM1:MsAt m1 Mb Lb k av s1:=Ow.msAt ow1 0 1 rfl rfl hlen1;have hE1:=hE.mc ow1.mc;have haok:=hE.ok a (qh6 ha);obtain⟨v2,m2,c1,c2,rfl⟩:=BS hE1 hM1 (by rw[hs1];exact ha) (N+2) ow1.mb;have ow2:=ow1.step c2;have ow3:=ow2.row Z11;obtain⟨m3,hm3⟩:=qi4 (Dx.newRow m2 Z11);rw[<-hm3]at ow3;obtain⟨m4,g1,g3,g4,g5⟩:=ow3.storeN 0 rfl (o:=0) (l':=qe a) (n:=11) (by omega) rfl (by simp) (zn haok.1);have ow4:Ow m m4 [Mb,Lb] [(m2.n,qe a),(Mb,qJ k av (lvV Lb k) s1),(Lb,lsR s1.ls)]:=by
  have h:=g3;rw[kX (by rfl)]at h;exact h
 have l4:∀o s',load1 m4 ⟨Mb,o,s'⟩=(qJ k av (lvV Lb k) s1)[o]?:=λo s'=>(ow4.get 1 rfl).2.2.load1 o s';simp only[qJ]at l4;have hnow:s1.now=s.now:=by rw[hs1]
 have hopn:s1.opn=s.opn:=by rw[hs1]
 have hls:s1.ls=s.ls:=by rw[hs1]
 have hat1:s1.at_=s.at_:=by rw[hs1]
 have hDD:∀s':Ms,s'.now=s.now->s'.opn=s.opn->((s'.now.ex=true/\s'.opn=true)\/s'.now.what=1->0<=a.dst/\a.dst<k):=λs' h1 h2 h=>by
  rw[h1,h2]at h;exact hg.d (hD h)
 rw[hnow]at l4;by_cases hA:s.now.what=1/\s.now.ex=true
 .obtain⟨hw1,hx⟩:=hA;have d1:decide (s.now.what=1)=true:=qhx hw1;rw[hx]at l4;obtain⟨m5,i1,i3,i4,i5⟩:=ow4.store 1 rfl (o:=11) (v:=uv v.1) (by simp[qJ]) rfl;obtain⟨s2,hs2⟩:∃s2:Ms,s2={ s with asked:=false,old:=v }:=⟨_,rfl⟩;have ow5:Ow m m5 [Mb,Lb] [(m2.n,qe a),(Mb,qJ k av (lvV Lb k) s2),(Lb,lsR s2.ls)]:=by
   have h:=i3;have hr:(qJ k av (lvV Lb k) s1).set 11 (uv v.1)=qJ k av (lvV Lb k) s2:=by rw[hs1,hs2];rfl
   have hr2:lsR s2.ls=lsR s1.ls:=by rw[hs1,hs2]
   rw[<-hr,hr2];exact h
  have hlen2:s2.ls.length=k:=by rw[hs2];exact hM.len
  have hM5:MsAt m5 Mb Lb k av s2:=Ow.msAt ow5 1 2 rfl rfl hlen2;have l5:=hM5.l1;simp only[qJ]at l5;have la5:∀o s',load1 m5 ⟨m2.n,o,s'⟩=(qe a)[o]?:=λo s'=>(ow5.get 0 rfl).2.2.load1 o s';simp only[qe]at la5;have hls2:s2.ls=s.ls:=by rw[hs2]
  by_cases h6:a.op=6
  .have q6:decide (a.op=6)=true:=qhx h6;have haok5:=haok.1.mc haok.2 ow5.mc;obtain⟨v6,m6',e1,e2,e3,rfl⟩:=qZ (xF hM5.len (hg.e (by rw[h6];rfl)) N (ql m5) (qp (Sees.refl ow5.mb)).base (haok5.ev.sees (qp (Sees.refl ow5.mb))) hM5.any.rd);obtain⟨m6,hm6⟩:=qi4 (behind m5 m6');rw[<-hm6]at e3;have ow6:=ow5.step e3;obtain⟨y,hy⟩:=qi4 (zf s.ls a.es);rw[hls2,<-hy]at e1;by_cases hyv:y.1=v.1
   .have dv:decide ((y.1:Int)=(v.1:Int))=true:=qhx (by omega);have dv':decide (y.1=v.1)=true:=qhx hyv;have hF:qY s a v={ s with asked:=false,old:=v,opn:=true }:=by unfold qY;rw[qhz ⟨hw1,hx⟩,qhz (.inr (by rw[<-hy];exact hyv))]
    rw[hF];obtain⟨m7,n1,n3,n4,n5⟩:=ow6.store 1 rfl (o:=12) (v:=zT) (by simp[qJ]) rfl;have hs:MsAt m7 Mb Lb k av { s with asked:=false,old:=v,opn:=true }:=by
     refine Ow.msAt n3 1 2 ?_ ?_ hM.len
     .rw[hs2];rfl
     .rw[hs2];rfl
    simp[lM,d5,d6,f1,c1,<-hm3,g1,l4,d1,i1,la5,q6,l5,e1,<-hm6,dv,n1];exact zo ⟨n3.mc,hs,by simp⟩
   .have dv:decide ((y.1:Int)=(v.1:Int))=false:=qhw (by omega);have dv':decide (y.1=v.1)=false:=qhw hyv;have hF:qY s a v=jn s2 a v:=by unfold qY;rw[qhz ⟨hw1,hx⟩,qhy (by rw[<-hy];intro h;rcases h with h | h;exact h h6;exact hyv h),hs2]
    rw[hF];simp[lM,d5,d6,f1,c1,<-hm3,g1,l4,d1,i1,la5,q6,l5,e1,<-hm6,dv,-ba];exact Ji ow6 hlen2 (hDD s2 (by rw[hs2]) (by rw[hs2])) (by rw[hs2];exact hat) v (by simp) (by simp) (by simp)
  .have q6:decide (a.op=6)=false:=qhw h6;have hF:qY s a v={ s with asked:=false,old:=v,opn:=true }:=by unfold qY;rw[qhz ⟨hw1,hx⟩,qhz (.inl h6)]
   rw[hF];obtain⟨m7,n1,n3,n4,n5⟩:=ow5.store 1 rfl (o:=12) (v:=zT) (by simp[qJ]) rfl;have hs:MsAt m7 Mb Lb k av { s with asked:=false,old:=v,opn:=true }:=by
    refine Ow.msAt n3 1 2 ?_ ?_ hM.len
    .rw[hs2];rfl
    .rw[hs2];rfl
   simp[lM,d5,d6,f1,c1,<-hm3,g1,l4,d1,i1,la5,q6,n1];exact zo ⟨n3.mc,hs,by simp⟩
 .have hF:qY s a v=jn s1 a v:=by unfold qY;rw[qhy hA,hs1]
  rw[hF];have fin:=λ{x:Ex} {kn:K} {ke:Nat->K} {t:Tm}=>Ji (x:=x) (kn:=kn) (ke:=ke) (t:=t) ow4 hlen1 (hDD s1 hnow hopn) (by rw[hat1];exact hat) v;by_cases hw1:s.now.what=1
  .have d1:decide (s.now.what=1)=true:=qhx hw1;have hx:s.now.ex=false:=by
    cases h:s.now.ex with
    | false=>rfl
    | true=>exact absurd ⟨hw1,h⟩ hA
   rw[hx]at l4;simp[lM,d5,d6,f1,c1,<-hm3,g1,l4,d1,-ba];exact fin (by simp) (by simp) (by simp)
  .have d1:decide (s.now.what=1)=false:=qhw hw1;simp[lM,d5,d6,f1,c1,<-hm3,g1,l4,d1,-ba];exact fin (by simp) (by simp) (by simp)
end
end Go.Sx
