/- Contracts. -/
import Derived.Test.YtkacohbklkmnaaaGreatGi
set_option linter.unusedVariables false
set_option linter.unusedSimpArgs false
set_option linter.defProp false
set_option maxHeartbeats 1000000
namespace Go.Sx
open Go.Dx Go.Proofs
set_option maxRecDepth 10000
theorem qg5 (n:Nat)(kind md:Int)(m:M)(hm:m.base<=m.n):CallV (ex Tryz.prog (n+1)) 116 [iv kind,iv md,zF] m (.bool (decide (md∈kJ kind))):=by
 refine qm dg9_ok (by simp) ?_;by_cases k1:kind=1
 .subst k1;by_cases q1:md=1
  .simp[q1];exact qf (Ext.refl _) (by simp[kJ])
  by_cases q2:md=2
  .simp[q2];exact qf (Ext.refl _) (by simp[kJ])
  by_cases q3:md=5<;>(simp[q1,q2,q3];exact qf (Ext.refl _) (by simp[kJ,q1,q2,q3]))
 by_cases k2:kind=2
 .subst k2;by_cases q1:md=1
  .simp[q1];exact qf (Ext.refl _) (by simp[kJ])
  by_cases q2:md=3
  .simp[q2];exact qf (Ext.refl _) (by simp[kJ])
  by_cases q3:md=5<;>(simp[q1,q2,q3];exact qf (Ext.refl _) (by simp[kJ,q1,q2,q3]))
 by_cases k3:kind=3
 .subst k3;by_cases q1:md=2
  .simp[q1];exact qf (Ext.refl _) (by simp[kJ])
  by_cases q2:md=3
  .simp[q2];exact qf (Ext.refl _) (by simp[kJ])
  by_cases q3:md=4
  .simp[q3];exact qf (Ext.refl _) (by simp[kJ])
  by_cases q4:md=5<;>(simp[q1,q2,q3,q4];exact qf (Ext.refl _) (by simp[kJ,q1,q2,q3,q4]))
 simp[k1,k2,k3];exact qf (Ext.refl _) (by simp[kJ,k1,k2,k3])
section
variable {m:M}{h:Gh}{g:Gp}{EV:List Ev5}
theorem Xf (n:Nat)(hm:m.base<=m.n)(hev:Rd m h.ev 5 qh EV)(hl:EV.length<=1000)(w kd:Int) :
  CallV (ex Tryz.prog (n+1)) 117 [.agg ⟨ghL h⟩,iv w,iv kd] m (.bool (isB EV w kd)):=by
 refine qm dh0_ok (by simp) ?_;have hel:=hev.len;have st:=(St.nil hm (Ext.refl m)).row (ghL h);obtain⟨m1,hm1⟩:=qi4 (Dx.newRow m (ghL h));rw[<-hm1]at st;have l1:load1 m1 ⟨m.n,1,none⟩=some h.ev:=(st.get 0 rfl).2.2.load1 1 none;by_cases hw:0<=w
 .obtain⟨i,rfl⟩:∃i:Nat,w=(i:Int):=⟨w.toNat,by omega⟩;by_cases hil:i<EV.length
  .obtain⟨e,he⟩:∃e,EV[i]?=some e:=⟨_,qh5 hil⟩;have ⟨a1,a2,a3⟩:=(hev.sees st.sees).at he;have a3':load1 m1 ⟨(adr 5 h.ev i).block,(adr 5 h.ev i).off+1,none⟩=some (iv e.kind):=by rw[a3 m1 1 none st.sees.self (by simp[qh])];rfl
   have hd:=dlt hil;simp[<-hm1,l1,hel,hd,a1,a3'];exact qf st.ext (by simp[isB,he])
  .have hd:((i:Int)<EV.length)=False:=qi0 (by omega);have:EV[i]?=none:=qhs (by omega);simp[<-hm1,l1,hel,hd];exact qf st.ext (by simp[isB,this])
 .have hw':(w>=0)=False:=qi0 hw;simp[<-hm1,hw'];exact qf st.ext (by simp[isB,hw])
theorem qd3 (n:Nat)(hm:m.base<=m.n)(e:Ev5):CallV (ex Tryz.prog (n+2)) 63 [.agg ⟨ghL h⟩,.agg ⟨qh e⟩,zF] m (.bool (evB h.n e)):=by
 refine qm dd6_ok (by simp) ?_;have st:=((St.nil hm (Ext.refl m)).row (ghL h)).row (qh e);obtain⟨m1,hm1⟩:=qi4 (Dx.newRow (Dx.newRow m (ghL h)) (qh e));rw[<-hm1]at st;have r:∀m',Sees m1 m'->(∀o,o<5->load1 m' ⟨m.n+1,o,none⟩=(qh e)[o]?)/\load1 m' ⟨m.n,0,none⟩=some (iv h.n):=λm' k=>by
  refine⟨λo ho=>?_,?_⟩
  .rw[wi k (by rw[hm1];simp)];have:=(st.get 0 rfl).2.2.load1 o none;simpa using this
  .rw[wi k (by rw[hm1];simp;omega)];exact (st.get 1 rfl).2.2.load1 0 none
 have S1:=st.sees.self;have b0:load1 m1 ⟨m.n+1,0,none⟩=some (iv e.th):=(r _ S1).1 0 (by omega);have b1:load1 m1 ⟨m.n+1,1,none⟩=some (iv e.kind):=(r _ S1).1 1 (by omega);have b4:load1 m1 ⟨m.n+1,4,none⟩=some (iv e.mode):=(r _ S1).1 4 (by omega);by_cases o1:e.th<0
 .simp[<-hm1,b0,o1]
  exact qf st.ext (by have:¬0<=e.th:=by omega
                      simp[evB,KK,this])
 by_cases o2:63<e.th
 .have o2':(e.th>63)=True:=qi1 o2;simp[<-hm1,b0,o1,o2]
  exact qf st.ext (by have:¬e.th<64:=by omega
                      simp[evB,KK,this])
 have o2':(e.th>63)=False:=qi0 o2;have hb:KK e=decide (e.mode∈kJ e.kind):=by unfold KK;rw[qhx (show 0<=e.th by omega),qhx (show e.th<64 by omega)];rfl
 obtain⟨v2,m2,c1,c2,rfl⟩:=qg5 n e.kind e.mode m1 S1.base;have S2:Sees m1 m2:=(Sees.refl S1.base).ext c2;have d1:load1 m2 ⟨m.n+1,1,none⟩=some (iv e.kind):=(r _ S2).1 1 (by omega);have d2:load1 m2 ⟨m.n+1,2,none⟩=some (iv e.loc):=(r _ S2).1 2 (by omega);have d3:load1 m2 ⟨m.n+1,3,none⟩=some (uv e.val.1):=(r _ S2).1 3 (by omega);have d0:load1 m2 ⟨m.n,0,none⟩=some (iv h.n):=(r _ S2).2;have E2:=st.ext.trans c2;by_cases hmd:e.mode∈kJ e.kind
 .rw[qhx hmd]at c1;rw[qhx hmd]at hb;by_cases hk:e.kind=3
  .by_cases hl:e.loc=-1
   .have hv:(((e.val.1:Nat):Int)=0)=(e.val.1=0):=propext ⟨λh=>by omega,λh=>by omega⟩;rw[hk]at c1;simp[<-hm1,b0,b1,b4,o1,o2,c1,d1,d2,d3,hk,hl];exact qf E2 (by simp[evB,hb,lcB,hk,hl])
   .rw[hk]at c1;simp[<-hm1,b0,b1,b4,o1,o2,c1,d1,d2,hk,hl];exact qf E2 (by simp[evB,hb,lcB,hk,hl])
  .by_cases hl:0<=e.loc
   .have hl':(e.loc>=0)=True:=qi1 hl;simp[<-hm1,b0,b1,b4,o1,o2,c1,d0,d1,d2,hk,hl];exact qf E2 (by simp[evB,hb,lcB,hk,hl])
   .have hl':(e.loc>=0)=False:=qi0 hl;simp[<-hm1,b0,b1,b4,o1,o2,c1,d1,d2,hk,hl];exact qf E2 (by simp[evB,hb,lcB,hk,hl])
 .rw[qhw hmd]at c1;simp[<-hm1,b0,b1,b4,o1,o2,c1];exact qf E2 (by simp[evB,hb,hmd])
end
section
variable {m:M}{h:Gh}{g:Gp}{EV:List Ev5}{RF:List (Int × Int)}
theorem rrf_c (n:Nat)(hm:m.base<=m.n)(hev:Rd m h.ev 5 qh EV)(hrf:Rd m h.rf 2 qn RF)(hrl:RF.length<=4611686018427387904)(hn2:EV.length<=256) :
  Dx.Call (ex Tryz.prog (n+2)) 64 [.agg ⟨ghL h⟩] m (bU (rfP EV RF)):=by
 refine qm dd7_ok (by simp) ?_;have hel:=hev.len;have hrl':=hrf.len;have st1:=(St.nil hm (Ext.refl m)).row (ghL h);obtain⟨m1,hm1⟩:=qi4 (Dx.newRow m (ghL h));rw[<-hm1]at st1;have S1:=st1.sees;have hlt1:m.n<m1.n:=by rw[hm1];simp
 have rd:∀m',Sees m1 m'->(∀o s,load1 m' ⟨m.n,o,s⟩=(ghL h)[o]?)/\loads m' ⟨m.n,0,none⟩ 8=some (ghL h):=λm' k =>
  ⟨λo s=>by rw[wi k hlt1];exact (st1.get 0 rfl).2.2.load1 o s,by rw[zY k hlt1];exact (st1.get 0 rfl).2.2.loads (n:=8) (by simp[ghL])⟩
 simp[<-hm1];refine qq (c:=qa6) rfl (Ret m _) (λi t m'=>Tm.get 1 t=.pointer (some ⟨m.n,0,none⟩)/\Tm.get 3 t=iv (nR EV i)/\Tm.get 4 t=iv i/\Ext m1 m'/\nR EV i<=RF.length/\∀j e,j<i->EV[j]?=some e->e.kind=1->rdB EV RF j e=true) EV.length (by omega)
  ⟨by simp,by simp[nR],by simp,Ext.refl _,by simp[nR],λj e hj=>by omega⟩ (λi t m' k hi hI hk=>?_)
 obtain⟨h1,h3,h4,hE,hle,hB⟩:=hI;have S1':Sees m1 m':=(Sees.refl S1.self.base).ext hE;have hS:Sees m m':=S1.ext hE;have EE:Ext m m':=st1.ext.trans hE;have k1:load1 m' ⟨m.n,1,none⟩=some h.ev:=(rd m' S1').1 1 none;have k2:load1 m' ⟨m.n,2,none⟩=some h.rf:=(rd m' S1').1 2 none;have hnr:=nR_le EV i;by_cases hil:i<EV.length
 .obtain⟨e,he⟩:∃e,EV[i]?=some e:=⟨_,qh5 hil⟩;have ⟨a1,_,a3⟩:=(hev.sees hS).at he;have a31:load1 m' ⟨(adr 5 h.ev i).block,(adr 5 h.ev i).off+1,none⟩=some (iv e.kind):=by rw[a3 m' 1 none hS.self (by simp[qh])];rfl
  have hd:=dlt hil;have w1:=qK (i:=i) (by omega);have hns:=YU he;have hyes:(e.kind=1->rdB EV RF i e=true)->∀j e,j<i+1->EV[j]?=some e->e.kind=1->rdB EV RF j e=true:=by
   intro hb j e2 u1 u2 u3;by_cases hj:j<i
   .exact hB j e2 hj u2 u3
   .have hji:j=i:=by omega
    subst hji;rw[he]at u2;cases u2;exact hb u3
  have hno:e.kind=1->rdB EV RF i e=false->(((nR EV i:Nat):Int)<0 ↔ rfP EV RF):=by
   intro hk1 hb;constructor
   .intro hc;omega
   .intro hc;rw[hc.1 i e he hk1]at hb;cases hb
  by_cases hk1:e.kind=1
  .rw[qhz hk1]at hns;by_cases hlt:nR EV i<RF.length
   .obtain⟨⟨w,q⟩,q1⟩:∃p,RF[nR EV i]?=some p:=⟨_,qh5 hlt⟩;have ⟨p1,p2,_⟩:=(hrf.sees hS).at q1;have p2':loads m' (adr 2 h.rf (nR EV i)) 2=some (qn (w,q)):=p2 m' hS.self;have hd2:(RF.length<=nR EV i)=False:=qi0 (by omega);obtain⟨m2,s1,s2,s3,s4,s5⟩:=wK (m:=m') hS.base (zs:=[zI,zI]) (l:=qn (w,q)) (v:=.agg ⟨qn (w,q)⟩) (n:=2) rfl rfl rfl (zm _);have S2:Sees m1 m2:=S1'.ext s4;have b0:load1 m2 ⟨m'.n,0,none⟩=some (iv w):=by rw[s2];rfl
    have b1:load1 m2 ⟨m'.n,1,none⟩=some (iv q):=by rw[s2];rfl
    have L8:loads m2 ⟨m.n,0,none⟩ 8=some (ghL h):=(rd m2 S2).2;by_cases hq:q=i
    .subst hq;obtain⟨v3,m3,c2,c3,rfl⟩:=Xf (h:=h) n (m:=ql m2) (by rw[qt,qW];exact qh8 _) ((hev.sees (hS.ext s4)).sees (qp S2.self)) (by omega) w 2;have E3:Ext m2 (behind m2 m3):=c3.behind;have S3:Sees m1 (behind m2 m3):=S2.ext E3;have SS3:Sees m (behind m2 m3):=(hS.ext s4).ext E3;have hlog3:=c3.log;by_cases hw:isB EV w 2=true
     .rw[hw]at c2;obtain⟨x,ew,rfl,q2,q3⟩:=zl hw;have n1:load1 m3 ⟨m.n,1,none⟩=some h.ev:=by have:load1 (behind m2 m3) ⟨m.n,1,none⟩=some h.ev:=(rd _ S3).1 1 none;simpa using this
      have ⟨g1,_,g3⟩:=(hev.sees SS3).at q2;have ⟨f1,_,f3⟩:=(hev.sees SS3).at he;have g32:load1 m3 ⟨(adr 5 h.ev x).block,(adr 5 h.ev x).off+2,none⟩=some (iv ew.loc):=by have:=g3 _ 2 none SS3.self (by simp[qh]);rw[show (qh ew)[2]?=some (iv ew.loc) from rfl]at this;simpa using this
      have g33:load1 m3 ⟨(adr 5 h.ev x).block,(adr 5 h.ev x).off+3,none⟩=some (uv ew.val.1):=by have:=g3 _ 3 none SS3.self (by simp[qh]);rw[show (qh ew)[3]?=some (uv ew.val.1) from rfl]at this;simpa using this
      have f32:load1 m3 ⟨(adr 5 h.ev i).block,(adr 5 h.ev i).off+2,none⟩=some (iv e.loc):=by have:=f3 _ 2 none SS3.self (by simp[qh]);rw[show (qh e)[2]?=some (iv e.loc) from rfl]at this;simpa using this
      have f33:load1 m3 ⟨(adr 5 h.ev i).block,(adr 5 h.ev i).off+3,none⟩=some (uv e.val.1):=by have:=f3 _ 3 none SS3.self (by simp[qh]);rw[show (qh e)[3]?=some (uv e.val.1) from rfl]at this;simpa using this
      have b03:load1 m3 ⟨m'.n,0,none⟩=some (iv x):=by have:load1 (behind m2 m3) ⟨m'.n,0,none⟩=some (iv x):=by { rw[wi ((Sees.refl S2.base).ext E3) s5];exact b0 };simpa using this
      have w2:=qK (i:=nR EV i) (by omega);have hrd:rdB EV RF i e=(decide (ew.loc=e.loc)&&decide (ew.val.1=e.val.1)):=by
       unfold rdB qd8;rw[q1];simp only[qhj,q2,hw,decide_true,Bool.true_and]
      by_cases hl:ew.loc=e.loc
      .by_cases hv:ew.val.1=e.val.1
       .have hv':(((ew.val.1:Nat):Int)=(e.val.1:Nat))=True:=qi1 (by omega);simp[h1,h3,h4,k1,k2,hel,hrl',hd,a1,a31,hk1,hd2,p1,qb,p2',s1,b0,b1,L8,c2,hlog3,n1,g1,g32,f32,g33,f33,b03,hl,hv,w1,w2,meets];exact hk hil _ _ ⟨by simp[h1],by simp[hns],by simp,hE.trans (s4.trans E3),by omega,hyes λ_=>by rw[hrd];simp[hl,hv]⟩
       .have hv':(((ew.val.1:Nat):Int)=(e.val.1:Nat))=False:=qi0 (by omega);simp[h1,h3,h4,k1,k2,hel,hrl',hd,a1,a31,hk1,hd2,p1,qb,p2',s1,b0,b1,L8,c2,hlog3,n1,g1,g32,f32,g33,f33,b03,hl,hv',meets];exact qf (EE.trans (s4.trans E3)) ⟨((nR EV i:Nat):Int),by simp[h3],hno hk1 (by rw[hrd];simp[hl,hv])⟩
      .simp[h1,h3,h4,k1,k2,hel,hrl',hd,a1,a31,hk1,hd2,p1,qb,p2',s1,b0,b1,L8,c2,hlog3,n1,g1,g32,f32,b03,hl,meets];exact qf (EE.trans (s4.trans E3)) ⟨((nR EV i:Nat):Int),by simp[h3],hno hk1 (by rw[hrd];simp[hl])⟩
     .have hwf:isB EV w 2=false:=by simpa using hw
      rw[hwf]at c2;simp[h1,h3,h4,k1,k2,hel,hrl',hd,a1,a31,hk1,hd2,p1,qb,p2',s1,b0,b1,L8,c2,hlog3,meets];exact qf (EE.trans (s4.trans E3)) ⟨((nR EV i:Nat):Int),by simp[h3],hno hk1 (by unfold rdB;rw[q1];simp only[hwf,Bool.and_false,Bool.false_and])⟩
    .simp[h1,h3,h4,k1,k2,hel,hrl',hd,a1,a31,hk1,hd2,p1,qb,p2',s1,b1,hq,meets];refine qf (EE.trans (s4.trans ?_)) ⟨((nR EV i:Nat):Int),by simp[h3],hno hk1 (by unfold rdB;rw[q1];simp[hq])⟩;simp
   .have hd2:(RF.length<=nR EV i)=True:=qi1 (by omega);simp[h1,h3,h4,k1,k2,hel,hrl',hd,a1,a31,hk1,hd2];exact qf EE ⟨((nR EV i:Nat):Int),by simp[h3],hno hk1 (by unfold rdB;rw[qhs (by omega)])⟩
  .rw[qhy hk1,Nat.add_zero]at hns;simp[h1,h4,k1,hel,hd,a1,a31,hk1,w1];exact hk hil _ _ ⟨by simp[h1],by simp[hns,h3],by simp,hE,by omega,hyes λhc=>absurd hc hk1⟩
 obtain rfl:i=EV.length:=by omega
 by_cases hl:nR EV EV.length<RF.length
 .simp[h1,h3,h4,k1,k2,hel,hrl',hl];exact qf EE ⟨((nR EV EV.length:Nat):Int),by simp[h3],⟨λhc=>by omega,λhc=>by have:=hc.2;omega⟩⟩
 .simp[h1,h3,h4,k1,k2,hel,hrl',hl];exact qf EE ⟨-1,by simp,⟨λ_=>⟨λi e he=>hB i e (qh7.1 he).1 he,by omega⟩,λ_=>by decide⟩⟩
end
def coG (EV:List Ev5)(c:Nat)(l:List Int):Prop:=gTo EV c l l.length/\l.length=nW EV c EV.length
section
variable {m:M}{h:Gh}{EV:List Ev5}{CO:List (List Int)}
theorem qfs (hev:Rd m h.ev 5 qh EV)(hl:EV.length<=256){m':M}(hS:Sees m m'){B c:Nat}(hB:load1 m' ⟨B,1,none⟩=some h.ev){x:Ex}{kn kr:K}{ke:Nat->K}{Q:Option Out->Prop}{t:Tm}
  (h1:Tm.get 1 t=.pointer (some ⟨B,0,none⟩)) (h3:Tm.get 3 t=iv c) (h5:Tm.get 5 t=iv 0) (h6:Tm.get 6 t=iv 0)
  (HQ:∀t',Tm.get 1 t'=Tm.get 1 t->Tm.get 3 t'=Tm.get 3 t->Tm.get 4 t'=Tm.get 4 t->Tm.get 5 t'=iv (nW EV c EV.length)->Q (ke 2 t' m')):Q (Vm x kn ke kr t m'):=by
 have hel:=hev.len;refine qq (c:=Vm) rfl Q (λi t' m2=>m2=m'/\Tm.get 1 t'=Tm.get 1 t/\Tm.get 3 t'=Tm.get 3 t/\Tm.get 4 t'=Tm.get 4 t/\Tm.get 5 t'=iv (nW EV c i)/\Tm.get 6 t'=iv i) EV.length (by omega)
  ⟨rfl,rfl,rfl,rfl,by rw[h5];simp[nW],h6⟩ (λi t' m2 k hi hI hk=>?_)
 obtain⟨rfl,g1,g3,g4,g5,g6⟩:=hI;rw[h1]at g1;rw[h3]at g3;have hnw:=qbr EV c i;by_cases hil:i<EV.length
 .obtain⟨e,he⟩:∃e,EV[i]?=some e:=⟨_,qh5 hil⟩;have ⟨a1,_,a3⟩:=(hev.sees hS).at he;have a31:load1 m2 ⟨(adr 5 h.ev i).block,(adr 5 h.ev i).off+1,none⟩=some (iv e.kind):=by rw[a3 m2 1 none hS.self (by simp[qh])];rfl
  have a32:load1 m2 ⟨(adr 5 h.ev i).block,(adr 5 h.ev i).off+2,none⟩=some (iv e.loc):=by rw[a3 m2 2 none hS.self (by simp[qh])];rfl
  have hd:=dlt hil;have w1:=qK (i:=i) (by omega);have hns:=yA (c:=c) he;by_cases k1:e.kind=2
  .by_cases k2:e.loc=(c:Int)
   .rw[qhz ⟨k1,k2⟩]at hns;have w2:=qK (i:=nW EV c i) (by omega);simp[g1,g3,g5,g6,hB,hel,hd,a1,a31,a32,k1,k2,w1,w2];exact hk hil _ _ ⟨rfl,by simp[g1,h1],by simp[g3,h3],by simp[g4],by simp[hns],by simp⟩
   .rw[qhy (λh=>k2 h.2)]at hns;simp[g1,g3,g6,hB,hel,hd,a1,a31,a32,k1,k2,w1];exact hk hil _ _ ⟨rfl,by simp[g1,h1],by simp[g3,h3],by simp[g4],by simp[g5,hns],by simp⟩
  .rw[qhy (λh=>k1 h.1)]at hns;simp[g1,g6,hB,hel,hd,a1,a31,k1,w1];exact hk hil _ _ ⟨rfl,by simp[g1,h1],by simp[g3,h3],by simp[g4],by simp[g5,hns],by simp⟩
 obtain rfl:i=EV.length:=by omega
 simp[g1,g6,hB,hel];exact HQ _ (by simp[g1,h1]) (by simp[g3,h3]) (by simp[g4]) (by simp[g5])
theorem qft (n:Nat)(hm:m.base<=m.n)(hev:Rd m h.ev 5 qh EV)(hn2:EV.length<=256){l:List Int}(hll:l.length<=4611686018427387904){sc:Value}(hsc:Rd m sc 1 wz l){m0 m':M}(hS0:Sees m m0){B c:Nat}(hrd:∀m2,Sees m0 m2->load1 m2 ⟨B,1,none⟩=some h.ev/\loads m2 ⟨B,0,none⟩ 8=some (ghL h))(hE:Ext m0 m'){kn kr:K}{ke:Nat->K}{Q:Option Out->Prop}{t:Tm}(hc0:l[0]?=some (c:Int))
  (h1:Tm.get 1 t=.pointer (some ⟨B,0,none⟩)) (h3:Tm.get 3 t=iv c) (h4:Tm.get 4 t=sc) (h7:Tm.get 7 t=iv 0)
  (HT:gTo EV c l l.length->∀t' m2,Ext m0 m2->Tm.get 1 t'=.pointer (some ⟨B,0,none⟩)->Tm.get 3 t'=iv c->Q (ke 4 t' m2))
  (HF:¬gTo EV c l l.length->∀t' m2,Ext m0 m2->Tm.get 2 t'=iv c->Q (kr t' m2)):Q (Vn (ex Tryz.prog (n+1)) kn ke kr t m'):=by
 have hlen:=hsc.len;refine qq (c:=Vn) rfl Q (λi t m2=>Ext m0 m2/\Tm.get 1 t=.pointer (some ⟨B,0,none⟩)/\Tm.get 3 t=iv c/\Tm.get 4 t=sc/\Tm.get 7 t=iv i/\gTo EV c l i) l.length (by omega)
  ⟨hE,h1,h3,h4,h7,hc0,by simp,by simp⟩ (λi t m2 k hi hI hk=>?_)
 obtain⟨E2,g1,g3,g4,g7,hg⟩:=hI;have S2:Sees m0 m2:=(Sees.refl hS0.self.base).ext E2;have SS2:Sees m m2:=hS0.ext E2;by_cases hil:i<l.length
 .obtain⟨w,hw⟩:∃w,l[i]?=some w:=⟨_,qh5 hil⟩;have ⟨a1,a2⟩:=Rd.at1 (g:=λ(x:Int)=>iv x) (hsc.sees SS2) hw;have hd:=dlt hil;have v1:=qK (i:=i) (by omega);have hsucc:=Jn (EV:=EV) (c:=c) hw;have hmono:gTo EV c l l.length->gTo EV c l (i+1):=λhf=>⟨hf.1,(hf.2.1).sublist (by rw[List.take_length];exact List.take_sublist _ _),λx hx=>hf.2.2 x (by rw[List.take_length];exact List.mem_of_mem_take hx)⟩;have L8:=(hrd m2 S2).2;obtain⟨v3,m3,c2,c3,rfl⟩:=Xf (h:=h) n (m:=ql m2) (by rw[qt,qW];exact qh8 _) ((hev.sees SS2).sees (qp SS2.self)) (by omega) w 2;have E3:Ext m2 (behind m2 m3):=c3.behind;have EE3:Ext m0 (behind m2 m3):=E2.trans E3;have S3:Sees m0 (behind m2 m3):=S2.ext E3;have SS3:Sees m (behind m2 m3):=SS2.ext E3;have hlog3:=c3.log;have ⟨b1,b2⟩:=Rd.at1 (g:=λ(x:Int)=>iv x) (hsc.sees SS3) hw;have b2':load1 m3 (adr 1 sc i)=some (iv w):=by have:=b2 _ SS3.self;simpa using this
  have n1:load1 m3 ⟨B,1,none⟩=some h.ev:=by have:=(hrd _ S3).1;simpa using this
  by_cases hik:isB EV w 2=true
  .rw[hik]at c2;obtain⟨x,e,rfl,he,hk2⟩:=zl hik;have ⟨f1,_,f3⟩:=(hev.sees SS3).at he;have f32:load1 m3 ⟨(adr 5 h.ev x).block,(adr 5 h.ev x).off+2,none⟩=some (iv e.loc):=by have:=f3 _ 2 none SS3.self (by simp[qh]);rw[show (qh e)[2]?=some (iv e.loc) from rfl]at this;simpa using this
   have hgw:gW EV c (x:Int)=decide (e.loc=(c:Int)):=by unfold gW;rw[hik,qhj,he];rfl
   by_cases hloc:e.loc=(c:Int)
   .simp[g1,g3,g4,g7,hlen,hd,L8,qb,a1,a2,SS2.self,c2,hlog3,n1,b2',f1,f32,hloc,meets];refine qq (c:=qa7) rfl Q (λj t m4=>Ext m0 m4/\Tm.get 1 t=.pointer (some ⟨B,0,none⟩)/\Tm.get 3 t=iv c/\Tm.get 4 t=sc/\Tm.get 7 t=iv i/\Tm.get 8 t=iv j/\∀y,y<j->l[y]?≠some (x:Int)) i (by omega)
     ⟨EE3,by simp[g1],by simp[g3],by simp[g4],by simp[g7],by simp,λy hy=>by omega⟩ (λj t m4 k2 hj hJ hk2=>?_)
    obtain⟨E4,q1,q3,q4,q7,q8,hne⟩:=hJ;have S4:Sees m m4:=hS0.ext E4;have ⟨b1,b2⟩:=Rd.at1 (g:=λ(x:Int)=>iv x) (hsc.sees S4) hw;by_cases hji:j<i
    .obtain⟨y,hy⟩:∃y,l[j]?=some y:=⟨_,qh5 (by omega)⟩;have ⟨d1,d2⟩:=Rd.at1 (g:=λ(x:Int)=>iv x) (hsc.sees S4) hy;have hdj:=dlt hji;have w3:=qK (i:=j) (by omega);by_cases hxy:y=(x:Int)
     .simp[q3,q4,q7,q8,hdj,d1,d2,b1,b2,S4.self,hxy,meets];refine HF (λhf=>?_) _ _ ?_ (by simp[q3])
      .have hx:=(hsucc.1 (hmono hf)).2.2;exact hx (List.mem_take_iff_getElem.2 (by
        obtain⟨hjl,e2⟩:=qh7.1 hy;exact⟨j,by omega,by rw[e2,hxy]⟩))
      .simp[E4]
     .simp[q4,q7,q8,hdj,d1,d2,b1,b2,S4.self,hxy,w3,meets];refine hk2 hji _ _ ⟨?_,by simp[q1],by simp[q3],by simp[q4],by simp[q7],by simp,λz hz=>?_⟩
      .simp[E4]
      .rcases Nat.lt_succ_iff_lt_or_eq.1 hz with hz | rfl
       .exact hne z hz
       .rw[hy];intro e2;cases e2;exact hxy rfl
    obtain rfl:j=i:=by omega
    simp[q7,q8,v1];refine hk hil _ _ ⟨E4,by simp[q1],by simp[q3],by simp[q4],by simp,hsucc.2 ⟨hg,by rw[hgw];exact qhx hloc,λhx=>?_⟩⟩;obtain⟨j2,hj2,e2⟩:=List.mem_take_iff_getElem.1 hx;exact hne j2 (by omega) (by rw[qh5 (by omega),e2])
   .simp[g1,g3,g4,g7,hlen,hd,L8,qb,a1,a2,SS2.self,c2,hlog3,n1,b2',f1,f32,hloc,meets];exact HF (λhf=>by have:=(hsucc.1 (hmono hf)).2.1;rw[hgw]at this;exact hloc (qi2 this)) _ _ EE3 (by simp[g3])
  .have hik':isB EV w 2=false:=by simpa using hik
   rw[hik']at c2;simp[g1,g3,g4,g7,hlen,hd,L8,qb,a1,a2,SS2.self,c2,hlog3,meets];exact HF (λhf=>by have:=(hsucc.1 (hmono hf)).2.1;unfold gW at this;rw[hik']at this;cases this) _ _ EE3 (by simp[g3])
 obtain rfl:i=l.length:=by omega
 simp[g4,g7,hlen];exact HT hg _ _ E2 (by simp[g1]) (by simp[g3])
end
theorem WY {α:Type}[DecidableEq α]:∀{l s:List α},l.Nodup->(∀x∈l,x∈s)->l.length<=s.length
 | [],_,_,_=>Nat.zero_le _
 | a::l,s,hn,hs=>by
  have ha:=hs a (by simp);rw[List.nodup_cons]at hn;have h1:l.length<=(s.erase a).length:=WY hn.2 λx hx=>(List.mem_erase_of_ne (λe=>hn.1 (by rw[<-e];exact hx))).2 (hs x (by simp[hx]));rw[List.length_erase_of_mem ha]at h1;have:0<s.length:=List.length_pos_of_mem ha;rw[List.length_cons];omega
theorem WX (EV:List Ev5)(c:Nat):∀n,n<=EV.length->nW EV c n=((List.range n).filter λx:Nat=>gW EV c (x:Int)).length
 | 0,_=>by simp[nW]
 | n+1,h=>by
  obtain⟨e,he⟩:∃e,EV[n]?=some e:=⟨_,qh5 (by omega)⟩;rw[yA he,WX EV c n (by omega),List.range_succ,List.filter_append,qhf]
  congr 1
  have hg:gW EV c (n:Int)=decide (e.kind=2/\e.loc=(c:Int)):=by
   unfold gW isB;rw[qhj,he];simp
  by_cases hc:e.kind=2/\e.loc=(c:Int)
  .rw[qhz hc];simp[hg,hc]
  .rw[qhy hc];have:gW EV c (n:Int)=false:=by rw[hg];exact qhw hc
   simp[this]
theorem qel {EV:List Ev5}{c:Nat}{l:List Int}(h:gTo EV c l l.length):l.length<=nW EV c EV.length:=by
 obtain⟨_,h2,h3⟩:=h;rw[List.take_length]at h2 h3;rw[WX EV c _ (qh8 _)];have key:l.length<=(((List.range EV.length).filter λx:Nat=>gW EV c (x:Int)).map λx:Nat=>(x:Int)).length:=by
  refine WY h2 λw hw=>?_;have hg:=h3 w hw;have hi:isB EV w 2=true:=by unfold gW at hg;rw[qhb]at hg;exact hg.1
  obtain⟨x,e,rfl,he,_⟩:=zl hi;rw[List.mem_map];exact⟨x,List.mem_filter.2 ⟨List.mem_range.2 (qh7.1 he).1,hg⟩,rfl⟩
 simpa using key
theorem qed {EV:List Ev5}{N:Nat}{CO:List (List Int)}:coP EV N CO ↔ CO.length=N/\∀c l,CO[c]?=some l->coG EV c l:=by
 unfold coP coG;constructor
 .rintro ⟨h1,h2⟩;exact⟨h1,λc l hl=>⟨(h2 c l hl).1,Nat.le_antisymm (qel (h2 c l hl).1) (h2 c l hl).2⟩⟩
 .rintro ⟨h1,h2⟩;exact⟨h1,λc l hl=>⟨(h2 c l hl).1,by rw[(h2 c l hl).2];exact qh8 _⟩⟩
section
variable {m:M}{h:Gh}{EV:List Ev5}{CO:List (List Int)}
theorem rco_c (n:Nat)(hm:m.base<=m.n){N:Nat}(hN:h.n=N)(hN2:N<=4096)(hev:Rd m h.ev 5 qh EV)(hn2:EV.length<=256)(hcl:∀l∈CO,l.length<=4611686018427387904)(hcol:CO.length<=4611686018427387904){sv:Nat->Value}(hco:Rd m h.co 1 (λv:Value=>[v]) ((List.range CO.length).map sv))(hsv:∀c l,CO[c]?=some l->Rd m (sv c) 1 wz l) :
  Dx.Call (ex Tryz.prog (n+2)) 65 [.agg ⟨ghL h⟩] m (bU (coP EV N CO)):=by
 refine qm dd8_ok (by simp) ?_;have st1:=(St.nil hm (Ext.refl m)).row (ghL h);obtain⟨m1,hm1⟩:=qi4 (Dx.newRow m (ghL h));rw[<-hm1]at st1;have S1:=st1.sees;have hlt1:m.n<m1.n:=by rw[hm1];simp
 have rd:∀m',Sees m1 m'->(∀o s,load1 m' ⟨m.n,o,s⟩=(ghL h)[o]?)/\loads m' ⟨m.n,0,none⟩ 8=some (ghL h):=λm' k =>
  ⟨λo s=>by rw[wi k hlt1];exact (st1.get 0 rfl).2.2.load1 o s,by rw[zY k hlt1];exact (st1.get 0 rfl).2.2.loads (n:=8) (by simp[ghL])⟩
 have hcoL:=hco.len;simp only[List.length_map,List.length_range]at hcoL;have hrule:=qed (EV:=EV) (N:=N) (CO:=CO);simp[<-hm1];refine qq (c:=qa8) rfl (Ret m _) (λc t m'=>Ext m1 m'/\Tm.get 1 t=.pointer (some ⟨m.n,0,none⟩)/\Tm.get 3 t=iv c/\∀c' l,c'<c->CO[c']?=some l->coG EV c' l) (min N CO.length) (by omega)
  ⟨Ext.refl _,by simp,by simp,λc' l hc=>by omega⟩ (λc t m' k hi hI hk=>?_)
 obtain⟨hE,h1,h3,hB⟩:=hI;have S1':Sees m1 m':=(Sees.refl S1.self.base).ext hE;have hS:Sees m m':=S1.ext hE;have EE:Ext m m':=st1.ext.trans hE;have k0:load1 m' ⟨m.n,0,none⟩=some (iv N):=by rw[<-hN];exact (rd m' S1').1 0 none
 have k3:load1 m' ⟨m.n,3,none⟩=some h.co:=(rd m' S1').1 3 none;have k1:load1 m' ⟨m.n,1,none⟩=some h.ev:=(rd m' S1').1 1 none;by_cases hil:c<min N CO.length
 .obtain⟨l,hl⟩:∃l,CO[c]?=some l:=⟨_,qh5 (by omega)⟩;have hll:=hcl l (qh6 hl);have hsc:=hsv c l hl;have hcc:((List.range CO.length).map sv)[c]?=some (sv c):=by
   rw[qhm,List.getElem?_range (by omega)];rfl
  have ⟨p1,p2⟩:=Rd.at1 (g:=λ(x:Value)=>x) (hco.sees hS) hcc;have hlen:=hsc.len;have hd1:=dlt (show c<N by omega);have hd2:=dlt (show c<CO.length by omega);have hd1':(c<N)=True:=qi1 (by omega);have hd2':(c<CO.length)=True:=qi1 (by omega);have v1:=qK (i:=c) (by omega);have hno:¬coG EV c l->(((c:Nat):Int)<0 ↔ coP EV N CO):=λhc=>⟨λh=>by omega,λhp=>absurd ((hrule.1 hp).2 c l hl) hc⟩;cases hl0:l with
  | nil =>
   rw[hl0]at hlen;have hlen':wB (sv c)=some (iv 0):=hlen;simp[h1,h3,k0,k3,hcoL,hd1',hd2',p1,p2,hS.self,hlen'];exact qf EE ⟨((c:Nat):Int),by simp[h3],hno (by rw[hl0];rintro ⟨⟨h,_⟩,_⟩;simp at h)⟩
  | cons w l' =>
   have hw0:l[0]?=some w:=by rw[hl0];rfl
   have ⟨r1,r2⟩:=Rd.at1 (g:=λ(x:Int)=>iv x) (hsc.sees hS) hw0;have r1':wJ 1 (sv c) zI=some (.pointer (some (adr 1 (sv c) 0))):=r1;obtain⟨ln,hln⟩:∃ln:Nat,ln=l.length:=⟨_,rfl⟩;have hlen2:=hlen;rw[<-hln]at hlen;have hlp:(ln=0)=False:=qi0 (by rw[hln,hl0];simp);have hlp':((ln:Int)=0)=False:=qi0 (by rw[hln,hl0];simp;omega);by_cases hwc:w=(c:Int)
   .simp[h1,h3,k0,k3,hcoL,hd1',hd2',p1,p2,hS.self,hlen,hlp,r1',r2,hwc];refine qfs (c:=c) hev hn2 hS k1 (by simp[h1]) (by simp[h3]) (by simp) (by simp) λt1 q1 q3 q4 q5=>?_;have q1':Tm.get 1 t1=.pointer (some ⟨m.n,0,none⟩):=by rw[q1];simp[h1]
    have q3':Tm.get 3 t1=iv c:=by rw[q3];simp[h3]
    have q4':Tm.get 4 t1=sv c:=by rw[q4];simp
    by_cases hnn:ln=nW EV c EV.length
    .have hnn':((ln:Int)=(nW EV c EV.length:Nat))=True:=qi1 (by rw[hnn]);simp[q4',hlen,q5,hnn];refine qft n hm hev hn2 hll hsc S1 (λm2 k=>⟨(rd m2 k).1 1 none,(rd m2 k).2⟩) hE (by rw[hw0,hwc]) (by simp[q1']) (by simp[q3']) (by simp[q4']) (by simp) (λhg t2 m2 E2 u1 u3=>?_) (λhg t2 m2 E2 u2=>?_)
     .simp[u3,v1];refine hk hil _ _ ⟨E2,by simp[u1],by simp,λc' l2 hc' hl2=>?_⟩;rcases Nat.lt_succ_iff_lt_or_eq.1 hc' with hc' | rfl
      .exact hB c' l2 hc' hl2
      .rw[hl]at hl2;cases hl2;exact⟨hg,by rw[<-hln];exact hnn⟩
     .exact qf (st1.ext.trans E2) ⟨((c:Nat):Int),u2,hno (λhc=>hg hc.1)⟩
    .have hnn':((ln:Int)=(nW EV c EV.length:Nat))=False:=qi0 (λhc=>hnn (Int.ofNat_inj.1 hc));simp[q4',hlen,q5,hnn',q3'];exact qf EE ⟨((c:Nat):Int),by simp,hno (λhc=>hnn (by rw[hln];exact hc.2))⟩
   .simp[h1,h3,k0,k3,hcoL,hd1',hd2',p1,p2,hS.self,hlen,hlp,r1',r2,hwc];exact qf EE ⟨((c:Nat):Int),by simp[h3],hno (λhc=>by have:=hc.1.1;rw[hw0]at this;cases this;exact hwc rfl)⟩
 have hcm:c=min N CO.length:=by omega
 by_cases e1:c<N
 .have e2:(c<CO.length)=False:=qi0 (by omega);have e3:(CO.length<N)=True:=qi1 (by omega);have e1':(c<N)=True:=qi1 e1;simp[h1,h3,k0,k3,hcoL,e1',e2,e3];exact qf EE ⟨((CO.length:Nat):Int),by simp,⟨λh=>by omega,λhp=>by have:=hp.1;omega⟩⟩
 .have e1':(c<N)=False:=qi0 e1;have e3:(CO.length<N)=False:=qi0 (by omega);by_cases e4:N<CO.length
  .have e4':((CO.length:Int)>N)=True:=qi1 (by omega);have e4'':(N<CO.length)=True:=qi1 e4;simp[h1,h3,k0,k3,hcoL,e1',e3,e4'];exact qf EE ⟨(N:Int),by simp,⟨λh=>by omega,λhp=>by have:=hp.1;omega⟩⟩
  .have e4'':(N<CO.length)=False:=qi0 e4;simp[h1,h3,k0,k3,hcoL,e1',e3,e4''];exact qf EE ⟨-1,by simp,⟨λ_=>hrule.2 ⟨by omega,λc' l hl=>hB c' l (by have:=(qh7.1 hl).1;omega) hl⟩,λ_=>by decide⟩⟩
end
theorem Jk {EV:List Ev5}{th:Int}{r:Int}:∀(d k:Nat),d=EV.length-k->ffr EV th k=some r->∃(y:Nat) (e:Ev5),r=y/\k<=y/\EV[y]?=some e/\e.th=th
 | 0,k,hd,h=>by
  unfold ffr at h;rw[List.drop_eq_nil_of_le (by omega)]at h;cases h
 | d+1,k,hd,h=>by
  obtain⟨e,he⟩:∃e,EV[k]?=some e:=⟨_,qh5 (by omega)⟩;rw[Qp he]at h;by_cases ht:e.th=th
  .rw[qhz ht]at h;cases h;exact⟨k,e,rfl,qh8 _,he,ht⟩
  .rw[qhy ht]at h;obtain⟨y,e',h1,h2,h3⟩:=Jk d (k+1) (by omega) h;exact⟨y,e',h1,by omega,h3⟩
theorem Jj {EV:List Ev5}{th:Int}{k i:Nat}(hki:k<=i)(h:∀j,k<=j->j<i->∃e,EV[j]?=some e/\e.th≠th):ffr EV th k=ffr EV th i:=by
 obtain⟨d,rfl⟩:∃d,i=k+d:=⟨i-k,by omega⟩
 induction d with
 | zero=>rfl
 | succ d ih =>
  rw[ih (by omega) λj h1 h2=>h j h1 (by omega)];obtain⟨e,he,ht⟩:=h (k+d) (by omega) (by omega);rw[Qp he,qhy ht];rfl
def BD (EV:List Ev5)(a b:Int):Bool:=match EV[a.toNat]?,EV[b.toNat]? with
 | some x,some y=>decide (0<=x.th)&&decide (x.th=y.th)
 | _,_=>false
def vt (EV:List Ev5)(a b:Int):Bool:=decide (0<=a)&&(decide (a<b)&&BD EV a b)
def BoolR (P:Prop):Value->M->Prop:=λv _=>∃r:Bool,v=.bool r/\(r=true ↔ P)
def db (EV:List Ev5)(a b:Int):Prop:=∃(x y:Nat) (e:Ev5),a=x/\b=y/\EV[x]?=some e/\0<=e.th/\ffr EV e.th (x+1)=some (y:Int)
theorem GU {EV:List Ev5}{a b:Int}(h:db EV a b):vt EV a b=true:=by
 obtain⟨x,y,e,rfl,rfl,he,h0,hf⟩:=h;obtain⟨y',e',h1,h2,h3,h4⟩:=Jk _ _ rfl hf;have:y'=y:=by omega
 subst this;unfold vt BD;simp only[qhj,he,h3,h4,decide_true,Bool.and_true];rw[qhx (show (0:Int)<=x by omega),qhx (show (x:Int)<y' by omega),qhx h0];rfl
theorem qf1 {EV:List Ev5}{p:Int × Int}(h1:isB EV p.1 1=true)(h2:isB EV p.2 2=true):nxB (nxL EV) p=true ↔ db EV p.1 p.2:=by
 obtain⟨a,b⟩:=p;obtain⟨x,e,rfl,he,_⟩:=zl h1;obtain⟨y,e2,rfl,he2,_⟩:=zl h2;unfold nxB;simp only[qhj,qbt he,qi3];unfold nxI;constructor
 .intro h;by_cases hc:(ffr EV e.th (x+1)).isSome=true/\0<=e.th
  .rw[qhz hc]at h;refine⟨x,y,e,rfl,rfl,he,hc.2,?_⟩;obtain⟨r,hr⟩:=Option.isSome_iff_exists.1 hc.1;rw[hr]at h ⊢;rw[Option.getD_some]at h;rw[h]
  .rw[qhy hc]at h;omega
 .rintro ⟨x',y',e',hx,hy,he',h0,hf⟩;have:x'=x:=by omega
  subst this;have:y'=y:=by omega
  subst this;rw[he]at he';cases he';rw[hf,qhz ⟨rfl,h0⟩];rfl
section
variable {m:M}{h:Gh}{EV:List Ev5}
theorem Ki (n:Nat)(hm:m.base<=m.n)(hev:Rd m h.ev 5 qh EV)(hl:EV.length<=1000)(a b:Int) :
  CallV (ex Tryz.prog (n+1)) 119 [.agg ⟨ghL h⟩,iv a,iv b] m (.bool (vt EV a b)):=by
 refine qm dh2_ok (by simp) ?_;have hel:=hev.len;have st:=(St.nil hm (Ext.refl m)).row (ghL h);obtain⟨m1,hm1⟩:=qi4 (Dx.newRow m (ghL h));rw[<-hm1]at st;have l1:load1 m1 ⟨m.n,1,none⟩=some h.ev:=(st.get 0 rfl).2.2.load1 1 none;by_cases c1:0<=a
 .obtain⟨x,rfl⟩:∃x:Nat,a=(x:Int):=⟨a.toNat,by omega⟩;by_cases c2:(x:Int)<b
  .obtain⟨y,rfl⟩:∃y:Nat,b=(y:Int):=⟨b.toNat,by omega⟩;have c2':(x<y)=True:=qi1 (by omega);by_cases c3:y<EV.length
   .obtain⟨e1,he1⟩:∃e,EV[x]?=some e:=⟨_,qh5 (by omega)⟩;obtain⟨e2,he2⟩:∃e,EV[y]?=some e:=⟨_,qh5 (by omega)⟩;have ⟨p1,_,p3⟩:=(hev.sees st.sees).at he1;have ⟨q1,_,q3⟩:=(hev.sees st.sees).at he2;have p30:load1 m1 ⟨(adr 5 h.ev x).block,(adr 5 h.ev x).off,none⟩=some (iv e1.th):=by have:=p3 m1 0 none st.sees.self (by simp[qh]);exact this
    have q30:load1 m1 ⟨(adr 5 h.ev y).block,(adr 5 h.ev y).off,none⟩=some (iv e2.th):=by have:=q3 m1 0 none st.sees.self (by simp[qh]);exact this
    have hb:vt EV x y=(decide (0<=e1.th)&&decide (e1.th=e2.th)):=by
     unfold vt BD;simp only[qhj,he1,he2];rw[qhx c1,qhx c2];rfl
    have c3':(y<EV.length)=True:=qi1 c3;by_cases c4:0<=e1.th
    .have c4':(e1.th>=0)=True:=qi1 c4;simp[<-hm1,l1,hel,c2',c3',p1,p30,q1,q30,c4,meets];refine qf (st.ext.trans ?_) (by rw[hb];simp[c4]);simp
    .have c4':(e1.th>=0)=False:=qi0 c4;simp[<-hm1,l1,hel,c2',c3',p1,p30,c4,meets];refine qf (st.ext.trans ?_) (by rw[hb];simp[c4]);simp
   .have c3':(y<EV.length)=False:=qi0 c3;simp[<-hm1,l1,hel,c2',c3',meets];refine qf (st.ext.trans ?_) ?_
    .simp
    .have:EV[y]?=none:=qhs (by omega);simp[vt,BD,this]
  .simp[<-hm1,c2];refine qf (st.ext.trans ?_) ?_
   .simp
   .simp[vt,c2]
 .have c1':(a>=0)=False:=qi0 c1;simp[<-hm1,c1];refine qf (st.ext.trans ?_) ?_
  .simp
  .simp[vt,c1]
theorem qg6 (n:Nat)(hm:m.base<=m.n)(hev:Rd m h.ev 5 qh EV)(hl:EV.length<=1000)(a b:Int) :
  Dx.Call (ex Tryz.prog (n+2)) 118 [.agg ⟨ghL h⟩,iv a,iv b] m (BoolR (db EV a b)):=by
 refine qm dh1_ok (by simp) ?_;have hel:=hev.len;have st1:=(St.nil hm (Ext.refl m)).row (ghL h);obtain⟨m1,hm1⟩:=qi4 (Dx.newRow m (ghL h));rw[<-hm1]at st1;have S1:=st1.sees;have hlt1:m.n<m1.n:=by rw[hm1];simp
 have L8:loads m1 ⟨m.n,0,none⟩ 8=some (ghL h):=(st1.get 0 rfl).2.2.loads (n:=8) (by simp[ghL]);obtain⟨v2,m2,c1,c2,rfl⟩:=Ki (h:=h) n S1.self.base (hev.sees S1) hl a b;have E2:=st1.ext.trans c2;by_cases hb:vt EV a b=true
 .rw[hb]at c1;have hb':=hb;unfold vt BD at hb';simp only[qhb,qi3]at hb';obtain⟨h0,hab,hth⟩:=hb';obtain⟨x,rfl⟩:∃x:Nat,a=(x:Int):=⟨a.toNat,by omega⟩;obtain⟨y,rfl⟩:∃y:Nat,b=(y:Int):=⟨b.toNat,by omega⟩;rw[qhj,qhj]at hth;obtain⟨e1,he1⟩:∃e,EV[x]?=some e:=by
   cases hx:EV[x]? with
   | none=>rw[hx]at hth;cases hth
   | some e=>exact⟨e,rfl⟩
  obtain⟨e2,he2⟩:∃e,EV[y]?=some e:=by
   cases hy:EV[y]? with
   | none=>rw[he1,hy]at hth;cases hth
   | some e=>exact⟨e,rfl⟩
  rw[he1,he2]at hth;simp only[qhb,qi3]at hth;obtain⟨ht0,hteq⟩:=hth;have hyl:=(qh7.1 he2).1;have w1:=qK (i:=x) (by omega);simp[<-hm1,qb,L8,c1,w1];refine qq (c:=qan) rfl (Ret m _) (λi t m'=>Tm.get 1 t=iv x/\Tm.get 2 t=iv y/\Tm.get 3 t=.pointer (some ⟨m.n,0,none⟩)/\Tm.get 7 t=iv (x+1+i:Nat)/\Ext m1 m'/\∀j,x+1<=j->j<x+1+i->∃e,EV[j]?=some e/\e.th≠e1.th) (y-(x+1)) (by omega)
   ⟨by simp,by simp,by simp,by simp,c2,λj h1 h2=>by omega⟩ (λi t m' k hi hI hk=>?_)
  obtain⟨g1,g2,g3,g7,hE,hne⟩:=hI;obtain⟨z,hz⟩:=qi4 (x+1+i);rw[<-hz]at g7 hne;have S':Sees m1 m':=(Sees.refl S1.self.base).ext hE;have SS:=S1.ext hE;have k1:load1 m' ⟨m.n,1,none⟩=some h.ev:=by rw[wi S' hlt1];exact (st1.get 0 rfl).2.2.load1 1 none
  by_cases hil:z<y
  .obtain⟨e,he⟩:∃e,EV[z]?=some e:=⟨_,qh5 (by omega)⟩;have ⟨p1,_,p3⟩:=(hev.sees SS).at he;have ⟨q1,_,q3⟩:=(hev.sees SS).at he1;have p30:load1 m' ⟨(adr 5 h.ev z).block,(adr 5 h.ev z).off,none⟩=some (iv e.th):=by have:=p3 m' 0 none SS.self (by simp[qh]);exact this
   have q30:load1 m' ⟨(adr 5 h.ev x).block,(adr 5 h.ev x).off,none⟩=some (iv e1.th):=by have:=q3 m' 0 none SS.self (by simp[qh]);exact this
   have hd:=dlt hil;have w2:=qK (i:=z) (by omega);have w3:((z:Int)+1)=((x+1+(i+1):Nat):Int):=by omega
   by_cases heq:e.th=e1.th
   .simp[g1,g2,g3,g7,k1,hd,p1,p30,q1,q30,heq,meets];refine qf ?_ ⟨false,by simp,⟨λhc=>(by cases hc),λ⟨x',y',e',hx,hy,he',h0',hf⟩=>?_⟩⟩
    .have:=st1.ext.trans hE;simp[this]
    .exfalso;have:x'=x:=by omega
     subst this;rw[he1]at he';cases he';rw[Jj (k:=x'+1) (i:=z) (by omega) hne,Qp he,qhz heq]at hf;have:=Option.some.inj hf;omega
   .simp[g1,g2,g3,g7,k1,hd,p1,p30,q1,q30,heq,w2,meets];refine hk (by omega) _ _ ⟨by simp[g1],by simp[g2],by simp[g3],by simp;exact w3,?_,λj h1 h2=>?_⟩
    .simp[hE]
    .by_cases hj:j<z
     .exact hne j h1 hj
     .have:j=z:=by omega
      rw[this];exact⟨e,he,heq⟩
  have hzy:z=y:=by omega
  rw[hzy]at g7 hne;simp[g2,g7];refine qf (st1.ext.trans hE) ⟨true,by simp,⟨λ_=>⟨x,y,e1,rfl,rfl,he1,ht0,?_⟩,λ_=>rfl⟩⟩;rw[Jj (k:=x+1) (i:=y) (by omega) hne,Qp he2,qhz hteq.symm]
 .have hbf:vt EV a b=false:=by simpa using hb
  rw[hbf]at c1;simp[<-hm1,qb,L8,c1];exact qf E2 ⟨false,by simp,⟨λhc=>(by cases hc),λhp=>absurd (GU hp) hb⟩⟩
end
end Go.Sx
