/- Contracts. -/
import Derived.Test.YtkacohbklkmnaaaGreatGm
import Derived.Test.YtkacohbklkmnaaaGreatGi
set_option linter.unusedVariables false
set_option linter.unusedSimpArgs false
set_option linter.defProp false
set_option maxHeartbeats 1000000
namespace Go.Sx
open Go.Dx Go.Proofs
set_option maxRecDepth 10000
instance (r:Rn):Decidable (yZ r):=by unfold yZ;infer_instance
def zc (th:Int)(reads:List U)(acts:List Ac):Nat->Nat->Nat->List U->Rn->Option Rn
 | 0,_,_,_,_=>none
 | G+1,own,i,ls,r=>match acts[i]? with
  | none=>some r
  | some a=>if ownB a then if own=100000 then none else zc th reads acts G (own+1) (kW (mk0 i ls) a).at_ (kW (mk0 i ls) a).ls r
   else match wX th reads a ls r with
    | .inl _=>none
    | .inr x=>if yZ x.2 then none else zc th reads acts G 0 (i+1) (jc ls a x.1) x.2
theorem qgc {th:Int}{reads:List U}{a:Ac}{ls:List U}{r:Rn}{x:U × Rn}(h:wX th reads a ls r=.inr x)(hb:r.rmw.length<=r.evs.length):x.2.rmw.length<=x.2.evs.length/\r.evs.length+r.outs.length<x.2.evs.length+x.2.outs.length:=by
 unfold wX at h;split at h
 .split at h
  .cases h
  .rename_i v hv;cases h;show (zh th ls a (qi (mk0 0 ls) a) v _).rmw.length<=(zh th ls a (qi (mk0 0 ls) a) v _).evs.length/\_<(zh th ls a (qi (mk0 0 ls) a) v _).evs.length+(zh th ls a (qi (mk0 0 ls) a) v _).outs.length;unfold zh;split
   .simp[zu];omega
   .simp[zu];omega
 .cases h;show (kh th (qi (mk0 0 ls) a) u0 r).rmw.length<=(kh th (qi (mk0 0 ls) a) u0 r).evs.length/\_<(kh th (qi (mk0 0 ls) a) u0 r).evs.length+(kh th (qi (mk0 0 ls) a) u0 r).outs.length;unfold kh;split
  .simp;omega
  .simp;split
   .simp;omega
   .omega
section
variable {m0 m m':M}{g:Gs}{r:Rn}{T8 T10 T11 Lb k na:Nat}{cells th f:Int}{rl lv:Value}{t:Th}{i:Nat}{a:Ac}{ls:List U}{c:Nat}{tm:Tm}
abbrev gI:Nat:=10025800257
theorem qdf {reads:List U}(hc:cells<=4096)(hav:Rd m0 t.av 11 qe t.acts)(hok:∀a∈t.acts,AcOK m0 a)(hgs:∀a∈t.acts,AcG k t.acts.length cells a)(hm0:m0.base<=m0.n)(hrd:Rd m0 rl 1 qS reads)(hrn:reads.length<=9223372036854775807)(hk:k<=24)(hal:t.acts.length<=65536)
  (hls:ls.length=k) (h:RJ m0 m g ⟨[],[],[],0⟩ (sg t 0 Lb c k ls g 0 0 0 T8 T10 T11)) {N:Nat} {kn:K} {ke:Nat->K} (hT:RTs tm th rl 0 T8 T10 T11) :
  Ret m0 (ZL m0 (zc th reads t.acts gI 0 0 ls ⟨[],[],[],0⟩)) (Vq (ex Tryz.prog (N+65542)) kn ke (wN [.cell 6 9,.t 7]) tm m):=by
 obtain⟨res,hres⟩:=qi4 (zc th reads t.acts gI 0 0 ls ⟨[],[],[],0⟩);rw[<-hres];simp;refine qq (c:=qac) rfl (Ret m0 _) (λj tt m'=>∃i ls r g Lb c,∃own:Nat,RTs tt th rl (own:Int) T8 T10 T11/\own<=100000/\¬yZ r/\r.rmw.length<=r.evs.length/\r.used<=reads.length/\ls.length=k/\RJ m0 m' g r (sg t i Lb c k ls g 0 0 r.used T8 T10 T11)/\j<=(r.evs.length+r.outs.length)*100001+own/\res=zc th reads t.acts (gI-j) own i ls r) gI (by unfold gI;omega)
  ⟨0,ls,⟨[],[],[],0⟩,g,Lb,c,0,hT,by omega,by simp[yZ],by simp,Nat.zero_le _,hls,h,by simp,hres⟩ (λj tt m' k' hj hI hk'=>?_)
 obtain⟨i,ls,r,g,Lb,c,own,hT,hown,hnb,hrm,hu,hls,hR,hjb,hrun⟩:=hI;have hnb1:r.outs.length<=100000/\r.evs.length<=256:=by unfold yZ at hnb;omega
 have hjl:j<gI:=by unfold gI;omega
 obtain⟨G,hG⟩:∃G,gI-j=G+1:=⟨gI-j-1,by omega⟩;have hnext:gI-(j+1)=G:=by omega
 rw[hG]at hrun;have ⟨t1,t2,t3,t8,t10,t11⟩:=hT;have lS:∀o s,load1 m' ⟨T10,o,s⟩=(stL t i (lvS Lb c k))[o]?:=λo s=>(hR.get 1 rfl).load1 o s;have l4:loads m' ⟨T10,0,none⟩ 4=some (stL t i (lvS Lb c k)):=(hR.get 1 rfl).loads (n:=4) (by simp[stL]);simp only[stL]at lS;have hlen:wB t.av=some (.int .i64 (t.acts.length:Int)):=hav.len;cases hat:t.acts[i]? with
 | none =>
  have hge:=List.getElem?_eq_none_iff.1 hat;have dl:decide ((i:Int)<(t.acts.length:Int))=false:=qhw (by omega);have dl':((i:Int)<(t.acts.length:Int))=False:=qi0 (by omega);have dl'':(i<t.acts.length)=False:=qi0 (by omega);have hr:res=some r:=by rw[hrun];unfold zc;rw[hat]
  subst hr;obtain⟨e1,me,e2,e3⟩:=dM (res:=some r) hR 3 2 rfl rfl rfl;simp[t10,t11,lS,hlen,dl',e1,qb,t8,e2];exact e3 _ (by simp[t8]) (by simp) (λr' hr'=>by cases hr';rfl)
 | some a =>
 have hlt:=(qh7.1 hat).1;have hmem:=qh6 hat;have dl:=dlt hlt;have dl'':(i<t.acts.length)=True:=qi1 hlt;have hA:At m0 t k t.acts.length cells i a:=⟨hav,hat,hok a hmem,hgs a hmem⟩;have S:=hR.st.sees;obtain⟨v1,m1,c1,c2,rfl⟩:=Own_c (hA.sees S) (lvS Lb c k) (N+65541) S.self.base;have h1:=hR.step c2;have l41:loads m1 ⟨T10,0,none⟩ 4=some (stL t i (lvS Lb c k)):=(h1.get 1 rfl).loads (n:=4) (by simp[stL]);have S1:=h1.st.sees;cases how:ownB a with
 | true =>
  rw[how]at c1;by_cases hmax:own=100000
  .have hr:res=none:=by
    rw[hrun];unfold zc;rw[hat];simp only;rw[how,qhz rfl,qhz hmax]
   subst hr;have d1:((own:Int)=100000)=True:=qi1 (by omega);obtain⟨e1,me,e2,e3⟩:=dM (res:=none) h1 3 2 rfl rfl rfl;simp[t10,t11,lS,hlen,dl,t3,l4,qb,c1,hmax,e1,t8,e2];exact e3 _ (by simp[t8]) (by simp) (λr' hr'=>by cases hr')
  .have hr:res=zc th reads t.acts G (own+1) (kW (mk0 i ls) a).at_ (kW (mk0 i ls) a).ls r:=by
    rw[hrun];conv=>lhs;unfold zc
    rw[hat];simp only;rw[how,qhz rfl,qhy hmax]
   have d1:((own:Int)=100000)=False:=qi0 (by omega);have d1':(own=100000)=False:=qi0 hmax;have nx:=qK (i:=own) (by omega);obtain⟨v2,m2,d1',d2,lv',rfl,d3⟩:=qdw (hA.sees S1) (FF (c:=c) (h1.get 0 rfl) (h1.st.get 0 rfl).2.1 hls) hls hk (by omega) how (N+1) S1.self.base;obtain⟨Lb',c',rfl,e2,e3⟩:=YR h1 hls d2 d3;obtain⟨i',hi'⟩:=qi4 ((kW (mk0 i ls) a).at_);rw[<-hi']at d1' hr;obtain⟨m3,w1,w2,w3⟩:=e3.fill 1 rfl (n:=4) (l':=stL t i' (lvS Lb' c' k)) rfl rfl (ym hA.okav rfl);simp[t10,lS,hlen,dl,t3,l4,qb,c1,l41,d1,d1',nx,w1];exact hk' hjl _ _ ⟨i',_,r,g,Lb',c',own+1,⟨by simp[t1],by simp[t2],by simp,by simp[t8],by simp[t10],by simp[t11]⟩,by omega,hnb,hrm,hu,e2,w2,by omega,by rw[hnext];exact hr⟩
 | false =>
  rw[how]at c1;have hr:res=match wX th reads a ls r with
    | .inl l=>none
    | .inr x=>if yZ x.2 then none else zc th reads t.acts G 0 (i+1) (jc ls a x.1) x.2:=by
   rw[hrun];conv=>lhs;unfold zc
   rw[hat];simp only;rw[how,qhy (by simp)]
   try (cases wX th reads a ls r<;>rfl)
  have hrb:RBn 100000 r:=⟨by omega,by omega,by omega⟩;simp[t10,lS,hlen,dl,l4,qb,c1,-Gw];refine qdh (th:=th) (rl:=rl) (f:=0) (T8:=T8) (N:=N) (n:=100000) hc hA hm0 hrd hrn hls hk (by omega) how hrb (by omega) hu h1 ⟨by simp[t1],by simp[t2],by simp,by simp[t8],by simp[t10],by simp[t11]⟩ (λl hl=>by rw[hr,hl]) (λx hx hb=>by rw[hr,hx];simp only;rw[qhz hb]) (λx t' m' g2 Lb' c' hx hnb2 hT' hdl hR'=>?_);obtain⟨y1,y2⟩:=qgc hx hrm;exact hk' hjl _ _ ⟨i+1,_,x.2,g2,Lb',c',0,hT',by omega,hnb2,y1,BC hx hu,hdl,hR',by omega,by rw[hnext,hr,hx];simp only;rw[qhy hnb2]⟩
end
def dh (t:Th)(th:Int)(reads:List U):Option Rn:=zc th reads t.acts gI 0 0 (List.replicate t.loc.toNat u0) ⟨[],[],[],0⟩
theorem qdc (p:Pg)(rl:Value)(reads:List U)(hrn:reads.length<=9223372036854775807)(N:Nat)(m:M)(hm:m.base<=m.n)(hp:PgOK m p)(hrd:Rd m rl 1 qS reads)(hB:pgB p=true){q:Nat}{t:Th}(ht:p.ths[q]?=some t) :
  Dx.Call (ex Tryz.prog (N+65543)) 68 [pgV p,iv q,rl] m (ZL m (dh t q reads)):=by
 refine qm de1_ok (by simp) ?_;have hpv:pgV p=.agg ⟨[iv p.cells,p.tv]⟩:=rfl;have st1:=(St.nil hm (Ext.refl m)).row [iv p.cells,p.tv];obtain⟨m1,hm1⟩:=qi4 (Dx.newRow m [iv p.cells,p.tv]);rw[<-hm1]at st1;have st2:=st1.row Z9;obtain⟨m2,hm2⟩:=qi4 (Dx.newRow m1 Z9);rw[<-hm2]at st2;have st3:=st2.row Z9;obtain⟨m3,hm3⟩:=qi4 (Dx.newRow m2 Z9);rw[<-hm3]at st3;have lp:∀o s,load1 m3 ⟨m.n,o,s⟩=[iv p.cells,p.tv][o]?:=λo s=>(st3.get 2 rfl).2.2.load1 o s;rw[hpv];have hthok:=hp.ths t (qh6 ht);have htB:thB p.cells t=true:=by
  have:=hB;unfold pgB at this;simp only[qhb]at this;exact List.all_eq_true.1 this.2.2 t (qh6 ht)
 have hcells:p.cells<=4096:=by
  have:=hB;unfold pgB at this;simp only[qhb,qi3]at this;exact this.1.2
 unfold thB at htB;simp only[qhb,qi3]at htB;obtain⟨⟨hl0,hl1⟩,htl,hacts⟩:=htB;have hgs:∀a∈t.acts,AcG t.loc.toNat t.acts.length p.cells a:=λa ha=>dR (List.all_eq_true.1 hacts a ha);have ⟨a1,a2,_⟩:=hp.tv.at ht;have a2':=a2 m3 st3.sees;have okav:okC t.av=true:=hthok.av.okV;obtain⟨v4,m4,d1,d2,lv,rfl,d3⟩:=qdx t t.loc.toNat (by omega) (by omega) okav (Kn hthok.av) (N+65541) m3 st3.sees.self.base;obtain⟨Lb,c,rfl,b1,b2,b3,b4⟩:=d3;have st4:=st3.step d2;have st5:=st4.row Z4;obtain⟨m5,hm5⟩:=qi4 (Dx.newRow m4 Z4);rw[<-hm5]at st5;obtain⟨m6,s1,s2,s3,s4⟩:=st5.fill 0 rfl (n:=4) (l':=stL t 0 (lvS Lb c t.loc.toNat)) rfl rfl (ym okav rfl);have st6:St m m6 [(m4.n,stL t 0 (lvS Lb c t.loc.toNat)),(m2.n,Z9),(m1.n,Z9),(m.n,[iv p.cells,p.tv])]:=s2;have hn5:m5.n=m4.n+1:=by rw[hm5];exact wL _ _
 have hLb:Arr m6 Lb (lsR (List.replicate t.loc.toNat u0)):=by
  refine b3.congr ?_;rw[s4 Lb (by omega),hm5,(Ext.row m4 Z4).obj Lb (by omega)]
 have st8:=st6.add (B:=Lb) (by have:=st3.ext.n;omega) (by omega) hLb (λp hp=>by
  simp only[List.mem_cons,List.not_mem_nil,or_false]at hp;have q1:=(st3.get 0 rfl).2.1;have q2:=(st3.get 1 rfl).2.1;have q3:=(st3.get 2 rfl).2.1;rcases hp with rfl | rfl | rfl | rfl
  .show m4.n≠Lb;omega
  .show m2.n≠Lb;omega
  .show m1.n≠Lb;omega
  .show m.n≠Lb;omega)
 have nd8:=st8.nd;simp at nd8;have st9:=st8.sub (σ':=sg t 0 Lb c t.loc.toNat (List.replicate t.loc.toNat u0) (zS,zS,zS) 0 0 0 m1.n m4.n m2.n) (λp hp=>by
  simp only[sg,List.mem_cons,List.not_mem_nil,or_false]at hp ⊢;rcases hp with rfl | rfl | rfl | rfl
  .exact .inl rfl
  .exact .inr (.inl rfl)
  .exact .inr (.inr (.inl rfl))
  .exact .inr (.inr (.inr (.inl rfl)))) (by simp;omega)
 have hRJ:RJ m m6 (zS,zS,zS) ⟨[],[],[],0⟩ (sg t 0 Lb c t.loc.toNat (List.replicate t.loc.toNat u0) (zS,zS,zS) 0 0 0 m1.n m4.n m2.n):=by
  refine⟨st9,.nil,.nil,.nil,λB hB=>?_,λB hB=>?_,λB hB=>?_⟩
  .rcases hB with hB | hB | hB<;>cases hB
  .cases hB
  .cases hB
 have a2'':=a2';simp only[zd]at a2' d1;simp[<-hm1,<-hm2,<-hm3,lp,qb,a1,a2',d1,<-hm5,s1,-Gx];exact qdf (cells:=p.cells) hcells hthok.av hthok.acts hgs hm hrd hrn (by omega) htl List.length_replicate hRJ ⟨by simp,by simp,by simp,by simp,by simp,by simp⟩
section
variable {m:M}{EV:List Ev5}{h:Gh}
theorem has_c (n:Nat)(hm:m.base<=m.n){v:Value}{A:List (Int × Int)}(ha:Rd m v 2 qn A)(hl:A.length<=4611686018427387904)(a b:Int) :
  CallV (ex Tryz.prog (n+1)) 70 [v,iv a,iv b] m (.bool (decide ((a,b)∈A))):=by
 refine qm de3_ok (by simp) ?_;have la:=ha.len;simp;refine qq (c:=ce3_9) rfl (Ret m _) (λi t m'=>m'=m/\(∀j,j<i->A[j]?≠some (a,b))/\Tm.get 0 t=v/\Tm.get 1 t=iv a/\Tm.get 2 t=iv b/\Tm.get 7 t=iv i) A.length (by omega)
  ⟨rfl,λj hj=>by omega,by simp,by simp,by simp,by simp⟩ (λi t m' k hi hI hk=>?_)
 obtain⟨rfl,hall,h0,h1,h2,h7⟩:=hI;by_cases hil:i<A.length
 .obtain⟨⟨x,y⟩,hq⟩:∃q,A[i]?=some q:=⟨_,qh5 hil⟩;have ⟨a1,a2,a3⟩:=ha.at hq;have a30:load1 m' ⟨(adr 2 v i).block,(adr 2 v i).off,none⟩=some (iv x):=a3 m' 0 none (Sees.refl hm) (by simp[qn]);have a31:load1 m' ⟨(adr 2 v i).block,(adr 2 v i).off+1,none⟩=some (iv y):=a3 m' 1 none (Sees.refl hm) (by simp[qn]);have hd:=dlt hil;have hd':(i<A.length)=True:=qi1 hil;have w1:=qK (i:=i) (by omega);have go:(x,y)≠(a,b)->∀j,j<i+1->A[j]?≠some (a,b):=λhne j hj=>by
   rcases Nat.lt_succ_iff_lt_or_eq.1 hj with hj | rfl
   .exact hall j hj
   .rw[hq];intro e;cases e;exact hne rfl
  by_cases hx:x=a
  .by_cases hy:y=b
   .subst hx hy;simp[h0,h1,h2,h7,la,hd,a1,a30,a31];refine qf (Ext.refl _) ?_;have:(x,y)∈A:=qh6 hq;simp[this]
   .simp[h0,h1,h2,h7,la,hd,a1,a30,a31,hx,hy,w1];exact hk hil _ _ ⟨rfl,go (λe=>by cases e;exact hy rfl),by simp[h0],by simp[h1],by simp[h2],by simp⟩
  .simp[h0,h1,h7,la,hd,a1,a30,hx,w1];exact hk hil _ _ ⟨rfl,go (λe=>by cases e;exact hx rfl),by simp[h0],by simp[h1],by simp[h2],by simp⟩
 obtain rfl:i=A.length:=by omega
 simp[h0,h7,la];refine qf (Ext.refl _) ?_;have:(a,b) ∉ A:=λhc=>by
  obtain⟨j,hj,e⟩:=List.getElem_of_mem hc;exact hall j hj (by rw[qh5 hj,e])
 simp[this]
theorem rof_c (n:Nat)(hm:m.base<=m.n)(hev:Rd m h.ev 5 qh EV){pv:Value}{PR:List (Int × Int)}(hp:Rd m pv 2 qn PR)(hl:PR.length<=65536)(hok:∀p∈PR,isB EV p.1 1=true)(th:Int) :
  Dx.Call (ex Tryz.prog (n+1)) 69 [.agg ⟨ghL h⟩,pv,iv th] m λv m'=>v=iv (ofL EV PR th).length:=by
 refine qm de2_ok (by simp) ?_;have hpl:=hp.len;have st1:=(St.nil hm (Ext.refl m)).row (ghL h);obtain⟨m1,hm1⟩:=qi4 (Dx.newRow m (ghL h));rw[<-hm1]at st1;have S1:=st1.sees;have l1:load1 m1 ⟨m.n,1,none⟩=some h.ev:=(st1.get 0 rfl).2.2.load1 1 none;simp[<-hm1];refine qq (c:=ce2_8) rfl (Ret m _) (λi t m'=>m'=m1/\Tm.get 1 t=pv/\Tm.get 2 t=iv th/\Tm.get 3 t=.pointer (some ⟨m.n,0,none⟩)/\Tm.get 7 t=iv (ofN EV PR th i).length/\Tm.get 8 t=iv i) PR.length (by omega)
  ⟨rfl,by simp,by simp,by simp,by simp[ofN,ofL],by simp⟩ (λi t m' k hi hI hk=>?_)
 obtain⟨rfl,h1,h2,h3,h7,h8⟩:=hI;by_cases hil:i<PR.length
 .obtain⟨⟨a,b⟩,hq⟩:∃p,PR[i]?=some p:=⟨_,qh5 hil⟩;obtain⟨x,e,hx,he,_⟩:=zl (hok _ (qh6 hq));simp only at hx;subst hx;have ⟨a1,a2,a3⟩:=(hp.sees S1).at hq;have a30:load1 m' ⟨(adr 2 pv i).block,(adr 2 pv i).off,none⟩=some (iv x):=a3 m' 0 none S1.self (by simp[qn]);have hd:=dlt hil;have hd':(i<PR.length)=True:=qi1 hil;have w1:=qK (i:=i) (by omega);have ⟨f1,_,f3⟩:=(hev.sees S1).at he;have f30:load1 m' ⟨(adr 5 h.ev x).block,(adr 5 h.ev x).off,none⟩=some (iv e.th):=by have:=f3 m' 0 none S1.self (by simp[qh]);exact this
  have hsn:=JM (th:=th) hq (by simpa using he);have hlen:=Fa EV PR th i;by_cases ht:e.th=th
  .rw[qhz ht]at hsn;obtain⟨u,hu⟩:=qi4 ((ofN EV PR th i).length);rw[<-hu]at h7;have w2:=qK (i:=u) (by omega);simp[h1,h2,h3,h7,h8,hpl,hd,l1,a1,a30,f1,f30,ht,w1,w2,meets];exact hk hil _ _ ⟨rfl,by simp[h1],by simp[h2],by simp[h3],by simp[hsn,hu],by simp⟩
  .rw[qhy ht]at hsn;simp[h1,h2,h3,h8,hpl,hd,l1,a1,a30,f1,f30,ht,w1,meets];exact hk hil _ _ ⟨rfl,by simp[h1],by simp[h2],by simp[h3],by simp[hsn,h7],by simp⟩
 obtain rfl:i=PR.length:=by omega
 simp[h1,h7,h8,hpl];exact qf st1.ext (by simp;unfold ofN;rw[List.take_length])
end
def ky (EV:List Ev5)(l:List Nat):List U:=l.filterMap λi=>match EV[i]? with
 | some e=>if e.kind=1 then some e.val else none
 | none=>none
def evL (EV:List Ev5)(l:List Nat):List Ev5:=l.filterMap λi=>EV[i]?
def atL (l:List Nat)(x:Int):Int:=(l.getD x.toNat 0:Nat)
def Br (g:Gp)(n:Int)(reads:List U)(r:Rn):Prop:=r.evs=evL g.ev (thL g.ev n)/\r.used=reads.length/\r.rmw.length=(ofL g.ev g.rm n).length/\∀q∈r.rmw,(atL (thL g.ev n) q.1,atL (thL g.ev n) q.2)∈g.rm
instance (g:Gp) (n:Int) (reads:List U) (r:Rn):Decidable (Br g n reads r):=by unfold Br;infer_instance
def vQ:List Value:=[zF,zS,zS]
def Xy (m:M)(res:Option (List U))(v:Value)(m':M):Prop :=
 (∃outs ov,res=some outs/\v=.agg ⟨[zT,ov,zS]⟩/\Grown m m' ov 1 qS outs)\/(res=none/\v=.agg ⟨vQ⟩)
structure RpE (m0 m:M)(h:Gh)(l:List Nat)(lv:Value)(T6 T10 G4:Nat)(gg:Gs)(r:Rn):Prop where
 st:St m0 m [(T10,zb gg.1 gg.2.1 gg.2.2 0 0 r.used),(T6,vQ),(G4,ghL h)]
 rl:Rd m lv 1 vi l
 re:Rd m gg.1 5 qh r.evs
 rr:Rd m gg.2.2 2 qn r.rmw
 ro:Grown m0 m gg.2.1 1 qS r.outs
 rb:∀B,blk gg.2.1=some B->B≠T6
structure RpT (t:Tm)(q:Int)(lv rlv:Value)(T6 T10 G4:Nat):Prop where
 t2:Tm.get 2 t=iv q
 t4:Tm.get 4 t=.pointer (some ⟨G4,0,none⟩)
 t6:Tm.get 6 t=.pointer (some ⟨T6,0,none⟩)
 t7:Tm.get 7 t=lv
 t8:Tm.get 8 t=rlv
 t10:Tm.get 10 t=.pointer (some ⟨T10,0,none⟩)
theorem RpE.step {m0 m m':M}{h:Gh}{l:List Nat}{lv:Value}{T6 T10 G4:Nat}{gg:Gs}{r:Rn}(H:RpE m0 m h l lv T6 T10 G4 gg r)(e:Ext m m'):RpE m0 m' h l lv T6 T10 G4 gg r:=by
 have hs:=(Sees.refl H.st.sees.self.base).ext e;exact⟨H.st.step e,H.rl.sees hs,H.re.sees hs,H.rr.sees hs,H.ro.ext e,H.rb⟩
@[simp] theorem qgt:wg [zF,zS,zS] []=some (.agg ⟨[zF,zS,zS]⟩):=_root_.id rfl
theorem Gc (v:Value)(h:okC v=true):wg [zF,zS,zS] [(0,1,zT),(1,1,v),(2,1,zS)]=some (.agg ⟨[zT,v,zS]⟩):=by
 cases v<;>first | rfl | (simp[okC]at h)
section
variable {m0 m m':M}{h:Gh}{g:Gp}{l:List Nat}{lv rlv:Value}{T6 T10 G4:Nat}{gg:Gs}{r:Rn}{q:Int}{tm:Tm}{res:Option (List U)}
theorem yH (H:RpE m0 m h l lv T6 T10 G4 gg r)(hres:res=none) :
  ∃me,ww 3 (.pointer (some ⟨T6,0,none⟩)) (.agg ⟨[zF,zS,zS]⟩) m=some (undef,me)/\∀t,Tm.get 6 t=.pointer (some ⟨T6,0,none⟩)->Ret m0 (Xy m0 res) (wN [.cell 6 3] t me):=by
 obtain⟨me,w1,w2,w3,w4⟩:=H.st.fill 1 rfl (n:=3) (l':=vQ) rfl rfl (by simp[vQ,okC]);refine⟨me,w1,λt t6=>?_⟩;have lf:loads me ⟨T6,0,none⟩ 3=some vQ:=(w2.get 1 rfl).2.2.loads (n:=3) (by simp[vQ]);refine yh (l:=[.agg ⟨vQ⟩]) ?_ w2.ext (.inr ⟨hres,rfl⟩);simp only[yg,yf,t6,yo,qQ,lf]
theorem rp_end (H:RpE m0 m h l lv T6 T10 G4 gg r)(hres:res=some r.outs)(hT:RpT tm q lv rlv T6 T10 G4){n:Nat}{kn:K}{ke:Nat->K}:Ret m0 (Xy m0 res) (XN (ex Tryz.prog n) kn ke (wN [.cell 6 3]) tm m):=by
 obtain⟨t2,t4,t6,t7,t8,t10⟩:=hT;have l5:load1 m ⟨T10,5,none⟩=some gg.2.1:=(H.st.get 0 rfl).2.2.load1 5 none;have hb:=Gc gg.2.1 H.ro.okC;obtain⟨me,w1,w2,w3,w4⟩:=H.st.fill 1 rfl (n:=3) (l':=[zT,gg.2.1,zS]) rfl rfl (by have:=H.ro.okC;intro v hv;simp at hv;rcases hv with rfl | rfl | rfl<;>first | rfl | assumption)
 have lf:loads me ⟨T6,0,none⟩ 3=some [zT,gg.2.1,zS]:=(w2.get 1 rfl).2.2.loads (n:=3) (by simp);simp[t6,t10,l5,hb,w1];refine yh (l:=[.agg ⟨[zT,gg.2.1,zS]⟩]) ?_ w2.ext (.inl ⟨r.outs,gg.2.1,hres,rfl,H.ro.keep (by omega) λB _ hB=>w4 B (H.rb B hB)⟩);simp[yg,yf,t6,lf]
theorem rp_rmw (H:RpE m0 m h l lv T6 T10 G4 gg r)(hG:GOK m0 h g)(hl:g.rm.length<=4611686018427387904)(hb:∀p∈r.rmw,(0<=p.1/\p.1<l.length)/\(0<=p.2/\p.2<l.length))(hrl:r.rmw.length<=65536)
  (hres:res=if ∀p∈r.rmw,(atL l p.1,atL l p.2)∈g.rm then some r.outs else none) (hT:RpT tm q lv rlv T6 T10 G4) {n:Nat} {kn:K} {ke:Nat->K}:Ret m0 (Xy m0 res) (XO (ex Tryz.prog (n+1)) kn ke (wN [.cell 6 3]) tm m):=by
 simp[-WD];have ⟨t2,t4,t6,t7,t8,t10⟩:=hT;refine qq (c:=DO) rfl (Ret m0 _) (λi t m'=>RpE m0 m' h l lv T6 T10 G4 gg r/\RpT t q lv rlv T6 T10 G4/\Tm.get 13 t=iv i/\∀j p,j<i->r.rmw[j]?=some p->(atL l p.1,atL l p.2)∈g.rm) r.rmw.length (by omega)
  ⟨H,⟨by simp[t2],by simp[t4],by simp[t6],by simp[t7],by simp[t8],by simp[t10]⟩,by simp,λj p hj=>by omega⟩ (λi t m' k hi hI hk=>?_)
 obtain⟨H',hT',h13,hall⟩:=hI;have ⟨t2,t4,t6,t7,t8,t10⟩:=hT';have hlr:=H'.rr.len;have S:=H'.st.sees;have l1:load1 m' ⟨T10,1,none⟩=some gg.2.2:=(H'.st.get 0 rfl).2.2.load1 1 none;have l4:load1 m' ⟨G4,4,none⟩=some h.rm:=(H'.st.get 2 rfl).2.2.load1 4 none;by_cases hil:i<r.rmw.length
 .obtain⟨⟨a,b⟩,hq⟩:∃q,r.rmw[i]?=some q:=⟨_,qh5 hil⟩;have hbd:=hb _ (qh6 hq);simp only at hbd;obtain⟨x,rfl⟩:∃x:Nat,a=x:=⟨a.toNat,by omega⟩;obtain⟨y,rfl⟩:∃y:Nat,b=y:=⟨b.toNat,by omega⟩;obtain⟨lx,hlx⟩:∃lx,l[x]?=some lx:=⟨_,qh5 (by omega)⟩;obtain⟨ly,hly⟩:∃ly,l[y]?=some ly:=⟨_,qh5 (by omega)⟩;have ⟨a1,a2,a3⟩:=H'.rr.at hq;have a30:load1 m' ⟨(adr 2 gg.2.2 i).block,(adr 2 gg.2.2 i).off,none⟩=some (iv x):=a3 m' 0 none S.self (by simp[qn]);have a31:load1 m' ⟨(adr 2 gg.2.2 i).block,(adr 2 gg.2.2 i).off+1,none⟩=some (iv y):=a3 m' 1 none S.self (by simp[qn]);have ⟨p1,p2⟩:=Rd.at1 (g:=λ(x:Nat)=>iv x) H'.rl hlx;have ⟨p3,p4⟩:=Rd.at1 (g:=λ(x:Nat)=>iv x) H'.rl hly;have p2':=p2 m' S.self;have p4':=p4 m' S.self;have hd:=dlt hil;have hd':(i<r.rmw.length)=True:=qi1 hil;have w1:=qK (i:=i) (by omega);have Sa:Sees m0 (ql m'):=qp S;obtain⟨v2,m2,c1,c2,rfl⟩:=has_c n Sa.self.base (hG.rm.sees Sa) hl lx ly;have hx:atL l (x:Int)=lx:=by unfold atL;rw[List.getD_eq_getElem?_getD,qhj,hlx];rfl
  have hy:atL l (y:Int)=ly:=by unfold atL;rw[List.getD_eq_getElem?_getD,qhj,hly];rfl
  by_cases hm:((lx:Int),(ly:Int))∈g.rm
  .rw[qhx hm]at c1;simp[t4,t7,t10,h13,hlr,hd,l1,l4,a1,a30,a31,p1,p2',p3,p4',c1,w1,meets];refine hk hil _ _ ⟨H'.step c2.behind,⟨by simp[t2],by simp[t4],by simp[t6],by simp[t7],by simp[t8],by simp[t10]⟩,by simp,λj p hj hp=>?_⟩;rcases Nat.lt_succ_iff_lt_or_eq.1 hj with hj | rfl
   .exact hall j p hj hp
   .rw[hq]at hp;cases hp;rw[hx,hy];exact hm
  .rw[qhw hm]at c1;have hr0:res=none:=by
    rw[hres,qhy];intro hc;have:=hc _ (qh6 hq);simp only at this;rw[hx,hy]at this;exact hm this
   obtain⟨me,e1,e2⟩:=yH (H'.step c2.behind) hr0;simp[t4,t6,t7,t10,h13,hlr,hd,l1,l4,a1,a30,a31,p1,p2',p3,p4',c1,e1,meets];exact e2 _ (by simp[t6])
 obtain rfl:i=r.rmw.length:=by omega
 simp[t10,h13,hlr,l1,-WD];refine rp_end (q:=q) (rlv:=rlv) H' ?_ ⟨by simp[t2],by simp[t4],by simp[t6],by simp[t7],by simp[t8],by simp[t10]⟩;rw[hres,qhz];intro p hp;obtain⟨j,hj⟩:=qhr hp;exact hall j p (qh7.1 hj).1 hj
end
theorem qb2 {EV:List Ev5}{l:List Nat}(hok:∀i∈l,i<EV.length){i x:Nat}(h:l[i]?=some x):(evL EV l)[i]?=EV[x]?:=by
 unfold evL
 induction l generalizing i with
 | nil=>simp at h
 | cons a l ih =>
  obtain⟨e,he⟩:∃e,EV[a]?=some e:=⟨_,qh5 (hok a (by simp))⟩;rw[List.filterMap_cons,he];cases i with
  | zero=>simp at h;subst h;simp[he]
  | succ i=>simp at h;simp;exact ih (λj hj=>hok j (by simp[hj])) h
theorem xx {EV:List Ev5}{l:List Nat}(hok:∀i∈l,i<EV.length):(evL EV l).length=l.length:=by
 unfold evL
 induction l with
 | nil=>rfl
 | cons a l ih =>
  obtain⟨e,he⟩:∃e,EV[a]?=some e:=⟨_,qh5 (hok a (by simp))⟩;rw[List.filterMap_cons,he];simp[ih (λj hj=>hok j (by simp[hj]))]
section
variable {m0 m m':M}{h:Gh}{g:Gp}{l:List Nat}{lv rlv:Value}{T6 T10 G4:Nat}{gg:Gs}{r:Rn}{q:Int}{tm:Tm}{res:Option (List U)}
theorem rp_evs (H:RpE m0 m h l lv T6 T10 G4 gg r)(hG:GOK m0 h g)(hl:g.rm.length<=4611686018427387904)(hlok:∀i∈l,i<g.ev.length)(hll:l.length<=256)(hlen:r.evs.length=l.length)(hb:∀p∈r.rmw,(0<=p.1/\p.1<l.length)/\(0<=p.2/\p.2<l.length))(hrl:r.rmw.length<=65536)
  (hres:res=if r.evs=evL g.ev l/\∀p∈r.rmw,(atL l p.1,atL l p.2)∈g.rm then some r.outs else none) (hT:RpT tm q lv rlv T6 T10 G4) {n:Nat} {kn:K} {ke:Nat->K}:Ret m0 (Xy m0 res) (XP (ex Tryz.prog (n+1)) kn ke (wN [.cell 6 3]) tm m):=by
 simp[-yv];have ⟨t2,t4,t6,t7,t8,t10⟩:=hT;refine qq (c:=DN) rfl (Ret m0 _) (λi t m'=>RpE m0 m' h l lv T6 T10 G4 gg r/\RpT t q lv rlv T6 T10 G4/\Tm.get 12 t=iv i/\∀j,j<i->r.evs[j]?=(evL g.ev l)[j]?) l.length (by omega)
  ⟨H,⟨by simp[t2],by simp[t4],by simp[t6],by simp[t7],by simp[t8],by simp[t10]⟩,by simp,λj hj=>by omega⟩ (λi t m' k hi hI hk=>?_)
 obtain⟨H',hT',h12,hall⟩:=hI;have ⟨t2,t4,t6,t7,t8,t10⟩:=hT';have hlr:=H'.rl.len;have S:=H'.st.sees;have l0:load1 m' ⟨T10,0,none⟩=some gg.1:=(H'.st.get 0 rfl).2.2.load1 0 none;have l1:load1 m' ⟨G4,1,none⟩=some h.ev:=(H'.st.get 2 rfl).2.2.load1 1 none;by_cases hil:i<l.length
 .obtain⟨e,he⟩:∃e,r.evs[i]?=some e:=⟨_,qh5 (by omega)⟩;obtain⟨x,hx⟩:∃x,l[i]?=some x:=⟨_,qh5 hil⟩;obtain⟨e',he'⟩:∃e',g.ev[x]?=some e':=⟨_,qh5 (hlok x (qh6 hx))⟩;have ⟨a1,a2,_⟩:=H'.re.at he;have a2':loads m' (adr 5 gg.1 i) 5=some (qh e):=a2 m' S.self;have ⟨p1,p2⟩:=Rd.at1 (g:=λ(x:Nat)=>iv x) H'.rl hx;have p2':=p2 m' S.self;have ⟨b1,b2,_⟩:=(hG.ev.sees S).at he';have b2':loads m' (adr 5 h.ev x) 5=some (qh e'):=b2 m' S.self;have hd:=dlt hil;have hd':(i<l.length)=True:=qi1 hil;have w1:=qK (i:=i) (by omega);have hE:=dz e e';have hat:(evL g.ev l)[i]?=some e':=by rw[qb2 hlok hx,he']
  by_cases hee:e=e'
  .rw[qhx hee]at hE;simp[t4,t7,t10,h12,hlr,hd,l0,l1,a1,a2',p1,p2',b1,b2',qb,hE,w1,meets,-yv];refine hk hil _ _ ⟨H',⟨by simp[t2],by simp[t4],by simp[t6],by simp[t7],by simp[t8],by simp[t10]⟩,by simp,λj hj=>?_⟩;rcases Nat.lt_succ_iff_lt_or_eq.1 hj with hj | rfl
   .exact hall j hj
   .rw[he,hat,hee]
  .rw[qhw hee]at hE;have hr0:res=none:=by
    rw[hres,qhy];intro hc;rw[hc.1,hat]at he;cases he;exact hee rfl
   obtain⟨me,e1,e2⟩:=yH H' hr0;simp[t4,t6,t7,t10,h12,hlr,hd,l0,l1,a1,a2',p1,p2',b1,b2',qb,hE,e1,meets,-yv];exact e2 _ (by simp[t6])
 obtain rfl:i=l.length:=by omega
 have hev:r.evs=evL g.ev l:=by
  refine List.ext_getElem? λj=>?_;by_cases hj:j<l.length
  .exact hall j hj
  .rw[qhs (by omega),qhs (by rw[xx hlok];omega)]
 simp[t7,h12,hlr,-yv];refine rp_rmw (q:=q) (rlv:=rlv) H' hG hl hb hrl ?_ ⟨by simp[t2],by simp[t4],by simp[t6],by simp[t7],by simp[t8],by simp[t10]⟩;rw[hres];by_cases hc:∀p∈r.rmw,(atL l p.1,atL l p.2)∈g.rm
 .rw[qhz ⟨hev,hc⟩,qhz hc]
 .rw[qhy (λhx=>hc hx.2),qhy hc]
theorem rp_chk (H:RpE m0 m h (thL g.ev q) lv T6 T10 G4 gg r)(hG:GOK m0 h g)(hl:g.rm.length<=65536)(hok:∀p∈g.rm,isB g.ev p.1 1=true)(hev:g.ev.length<=256){ok:Bool}{reads:List U}(hrlv:wB rlv=some (iv reads.length))
  (hb:ok=true->∀p∈r.rmw,(0<=p.1/\p.1<r.evs.length)/\(0<=p.2/\p.2<r.evs.length))
  (hres:res=if ok=true/\Br g q reads r then some r.outs else none) (hT:RpT tm q lv rlv T6 T10 G4) (t11:Tm.get 11 tm=.bool ok) {n:Nat} {kn:K} {ke:Nat->K}:Ret m0 (Xy m0 res) (XQ (ex Tryz.prog (n+1)) kn ke (wN [.cell 6 3]) tm m):=by
 have ⟨t2,t4,t6,t7,t8,t10⟩:=hT;have S:=H.st.sees;have hlr:=H.rl.len;have hle:=H.re.len;have hlp:=H.rr.len;have hlok:∀i∈thL g.ev q,i<g.ev.length:=λi hi=>by
  unfold thL thN at hi;have:=(List.mem_filter.1 hi).1;simpa using this
 have hll:(thL g.ev q).length<=256:=qhh (vJ _ _ _) hev;have l0:load1 m ⟨T10,0,none⟩=some gg.1:=(H.st.get 0 rfl).2.2.load1 0 none;have lu:load1 m ⟨T10,8,none⟩=some (iv r.used):=(H.st.get 0 rfl).2.2.load1 8 none;have lp:load1 m ⟨T10,1,none⟩=some gg.2.2:=(H.st.get 0 rfl).2.2.load1 1 none;have l4:load1 m ⟨G4,4,none⟩=some h.rm:=(H.st.get 2 rfl).2.2.load1 4 none;have L8:loads m ⟨G4,0,none⟩ 8=some (ghL h):=(H.st.get 2 rfl).2.2.loads (n:=8) (by simp[ghL]);cases ok with
 | false =>
  have hr0:res=none:=by rw[hres,qhy (λhc=>by cases hc.1)]
  obtain⟨me,e1,e2⟩:=yH H hr0;simp[t6,t11,e1,-xW];exact e2 _ (by simp[t6])
 | true =>
 obtain⟨n1,hn1⟩:=qi4 (r.evs.length);obtain⟨n2,hn2⟩:=qi4 ((thL g.ev q).length);obtain⟨n3,hn3⟩:=qi4 (r.used);obtain⟨n4,hn4⟩:=qi4 (reads.length);obtain⟨n5,hn5⟩:=qi4 (r.rmw.length);obtain⟨n6,hn6⟩:=qi4 ((ofL g.ev g.rm q).length);rw[<-hn1]at hle;rw[<-hn2]at hlr;rw[<-hn3]at lu;rw[<-hn4]at hrlv;rw[<-hn5]at hlp;by_cases h1:n1=n2
 .by_cases h2:n3=n4
  .have Sa:Sees m0 (ql m):=qp S;obtain⟨v2,m2,c1,c2,rfl⟩:=rof_c (h:=h) n Sa.self.base (hG.ev.sees Sa) (hG.rm.sees Sa) hl hok q;rw[<-hn6]at c1;have g2:m2.log=[]:=by rw[c2.log,wu]
   have H2:=H.step c2.behind;by_cases h3:n5=n6
   .have h5:n6<=65536:=by
     rw[hn6];have:(ofL g.ev g.rm q).length<=g.rm.length:=List.length_filter_le _ _;omega
    have hb':∀p∈r.rmw,(0<=p.1/\p.1<(thL g.ev q).length)/\(0<=p.2/\p.2<(thL g.ev q).length):=λp hp=>by
     have:=hb rfl p hp;omega
    subst h1 h2 h3;simp[t2,t4,t7,t8,t10,t11,l0,hle,hlr,lu,hrlv,lp,hlp,l4,L8,qb,c1,g2,meets,FP.meet,-xW];refine rp_evs (q:=q) (rlv:=rlv) H2 hG (by omega) hlok hll (by omega) hb' (by omega) ?_ ⟨by simp[t2],by simp[t4],by simp[t6],by simp[t7],by simp[t8],by simp[t10]⟩;rw[hres];by_cases hc:r.evs=evL g.ev (thL g.ev q)/\∀p∈r.rmw,(atL (thL g.ev q) p.1,atL (thL g.ev q) p.2)∈g.rm
    .rw[qhz hc,qhz ⟨rfl,hc.1,by omega,by omega,hc.2⟩]
    .rw[qhy hc,qhy (λhx=>hc ⟨hx.2.1,hx.2.2.2.2⟩)]
   .have hr0:res=none:=by rw[hres,qhy (λhc=>h3 (by have:=hc.2.2.2.1;omega))]
    obtain⟨me,e1,e2⟩:=yH H2 hr0;have h3':((n5:Int)=(n6:Int))=False:=qi0 (by omega);have h3'':(n5=n6)=False:=qi0 h3;subst h1 h2;simp[t2,t4,t6,t7,t8,t10,t11,l0,hle,hlr,lu,hrlv,lp,hlp,l4,L8,qb,c1,g2,h3',e1,meets,FP.meet,-xW];exact e2 _ (by simp[t6])
  .have hr0:res=none:=by rw[hres,qhy (λhc=>h2 (by have:=hc.2.2.1;omega))]
   obtain⟨me,e1,e2⟩:=yH H hr0;have h3':((n3:Int)=(n4:Int))=False:=qi0 (by omega);have h3'':(n3=n4)=False:=qi0 h2;subst h1;simp[t6,t7,t8,t10,t11,l0,hle,hlr,lu,hrlv,h3',e1,meets,-xW];exact e2 _ (by simp[t6])
 .have hr0:res=none:=by rw[hres,qhy (λhc=>h1 (by have:=congrArg List.length hc.2.1;rw[xx hlok]at this;omega))]
  obtain⟨me,e1,e2⟩:=yH H hr0;have h3':((n1:Int)=(n2:Int))=False:=qi0 (by omega);have h3'':(n1=n2)=False:=qi0 h1;simp[t6,t7,t10,t11,l0,hle,hlr,h3',e1,meets,-xW];exact e2 _ (by simp[t6])
end
def PIn (r:Rn):Prop:=∀p∈r.rmw,(0<=p.1/\p.1<r.evs.length)/\(0<=p.2/\p.2<r.evs.length)
theorem Xn {th:Int}{reads:List U}{a:Ac}{ls:List U}{r:Rn}{x:U × Rn}(how:ownB a=false)(hop:1<=a.op/\a.op<=10)(h:wX th reads a ls r=.inr x)(hb:PIn r):PIn x.2:=by
 unfold wX at h;split at h
 .split at h
  .cases h
  .rename_i v hv;cases h;show PIn (zh th ls a (qi (mk0 0 ls) a) v _);unfold zh;split
   .intro p hp;simp[zu]at hp ⊢;rcases hp with hp | rfl
    .have:=hb p hp;omega
    .simp;omega
   .intro p hp;simp[zu]at hp ⊢;have:=hb p hp;omega
 .rename_i hw;cases h;show PIn (kh th (qi (mk0 0 ls) a) u0 r);unfold kh;split
  .exact hb
  .rw[qhy]
   .intro p hp;simp at hp ⊢;have:=hb p hp;omega
   .intro ⟨h1,h2⟩;have:=jy (mk0 0 ls) a how hop h2;apply hw;unfold qi;rw[qhy (by omega),qhy (by omega),qhy (by omega),qhy (by omega)];rfl
theorem FD {th:Int}{reads:List U}{acts:List Ac}(hop:∀a∈acts,1<=a.op/\a.op<=10):∀(G own i:Nat) (ls:List U) (r rf:Rn),zc th reads acts G own i ls r=some rf->PIn r->PIn rf:=by
 intro G
 induction G with
 | zero=>intro own i ls r rf h;cases h
 | succ G ih =>
  intro own i ls r rf h hb;unfold zc at h;cases ha:acts[i]? with
  | none=>rw[ha]at h;cases h;exact hb
  | some a =>
   rw[ha]at h;simp only at h;cases how:ownB a with
   | true =>
    rw[how,qhz rfl]at h;split at h
    .cases h
    .exact ih _ _ _ _ _ h hb
   | false =>
    rw[how,qhy (by simp)]at h;cases hs:wX th reads a ls r with
    | inl l=>rw[hs]at h;cases h
    | inr x =>
     rw[hs]at h;simp only at h;split at h
     .cases h
     .exact ih _ _ _ _ _ h (Xn how (hop a (qh6 ha)) hs hb)
def Zs (p:Pg)(g:Gp)(n:Nat):Option Rn:=match p.ths[n]? with
 | none=>none
 | some t=>match dh t n (ky g.ev (thL g.ev n)) with
  | none=>none
  | some r=>if Br g n (ky g.ev (thL g.ev n)) r then some r else none
def bG (p:Pg)(g:Gp)(n:Nat):Option (List U):=match Zs p g n with
 | none=>none
 | some r=>some r.outs
theorem QP {EV:List Ev5}{l:List Nat}{i x:Nat}{e:Ev5}(h:l[i]?=some x)(he:EV[x]?=some e):ky EV (l.take (i+1))=if e.kind=1 then ky EV (l.take i)++[e.val] else ky EV (l.take i):=by
 unfold ky;rw[take_at h,List.filterMap_append];by_cases hk:e.kind=1
 .rw[qhz hk];simp[he,hk]
 .rw[qhy hk];simp[he,hk]
theorem Fu (EV:List Ev5)(l:List Nat):(ky EV l).length<=l.length:=List.length_filterMap_le _ _
section
variable {m0 m m':M}{h:Gh}{g:Gp}{lv rlv:Value}{T6 T10 G4 P3:Nat}{n:Nat}{tm:Tm}{p:Pg}{t:Th}
theorem rp_src (st:St m0 m [(T6,vQ),(G4,ghL h),(P3,[iv p.cells,p.tv])])(hlv:Rd m lv 1 vi (thL g.ev n))(hrd:Rd m rlv 1 qS (ky g.ev (thL g.ev n)))(hG:GOK m0 h g)(hp:PgOK m0 p)(hB:pgB p=true)(ht:p.ths[n]?=some t)(hl:g.rm.length<=65536)(hok:∀p∈g.rm,isB g.ev p.1 1=true)(hev:g.ev.length<=256)
  (t2:Tm.get 2 tm=iv n) (t3:Tm.get 3 tm=.pointer (some ⟨P3,0,none⟩)) (t4:Tm.get 4 tm=.pointer (some ⟨G4,0,none⟩)) (t6:Tm.get 6 tm=.pointer (some ⟨T6,0,none⟩)) (t7:Tm.get 7 tm=lv) (t8:Tm.get 8 tm=rlv) {N:Nat} {kn:K} {ke:Nat->K}:Ret m0 (Xy m0 (bG p g n)) (XR (ex Tryz.prog (N+65543)) kn ke (wN [.cell 6 3]) tm m):=by
 have S:=st.sees;have lP:loads m ⟨P3,0,none⟩ 2=some [iv p.cells,p.tv]:=(st.get 2 rfl).2.2.loads (n:=2) (by simp);have hll:(thL g.ev n).length<=256:=qhh (vJ _ _ _) hev;have hrl:=Fu g.ev (thL g.ev n);obtain⟨v1,m1,c1,c2,gg,r,rfl,q1,q2,q3,q4,q5,q6⟩:=qdc p rlv _ (by omega) N m S.self.base (hp.sees S) hrd hB ht;have hpv:pgV p=.agg ⟨[iv p.cells,p.tv]⟩:=rfl;rw[hpv]at c1;have st1:=(st.step c2).row Z9;obtain⟨m2,hm2⟩:=qi4 (Dx.newRow m1 Z9);rw[<-hm2]at st1;have E2:Ext m1 m2:=by rw[hm2];exact Ext.row _ _
 have okr:∀v∈zb gg.1 gg.2.1 gg.2.2 0 0 r.used,okC v=true:=by
  have o1:=q1.okC;have o2:=q2.okC;have o3:=q3.okC;intro v hv;simp only[zb,List.mem_cons,List.not_mem_nil,or_false]at hv;rcases hv with rfl | rfl | rfl | rfl | rfl | rfl | rfl | rfl | rfl<;>first | rfl | assumption
 obtain⟨m3,w1,w2,w3,w4⟩:=st1.fill 0 rfl (n:=9) (l':=zb gg.1 gg.2.1 gg.2.2 0 0 r.used) rfl rfl okr;have hn2:m2.n=m1.n+1:=by rw[hm2];exact wL _ _
 have hn1:=c2.n;have hT6:T6<m.n:=(st.get 0 rfl).2.1;have kp:∀B,B<m1.n->m3.obj B=m1.obj B:=λB hB=>by rw[w4 B (by omega),E2.obj B hB]
 have hn3:m1.n<=m3.n:=by omega
 obtain⟨ok,hokk⟩:=qi4 ((dh t n (ky g.ev (thL g.ev n))).isSome);rw[<-hokk]at c1;have w2':St m0 m3 [(m1.n,zb gg.1 gg.2.1 gg.2.2 0 0 r.used),(T6,vQ),(G4,ghL h),(P3,[iv p.cells,p.tv])]:=w2;have nd:=w2'.nd;have H:RpE m0 m3 h (thL g.ev n) lv T6 m1.n G4 gg r:=by
  refine⟨w2'.sub (λx hx=>?_) (by simp at nd ⊢;omega),?_,?_,?_,?_,λB hB=>?_⟩
  .simp only[List.mem_cons,List.not_mem_nil,or_false]at hx ⊢;rcases hx with rfl | rfl | rfl
   .exact .inl rfl
   .exact .inr (.inl rfl)
   .exact .inr (.inr (.inl rfl))
  .exact (hlv.sees ((Sees.refl S.self.base).ext c2)).congr hn3 λB hB=>kp B (qha (hlv.lt B hB) hn1)
  .exact (q1.rd KL).congr hn3 λB hB=>kp B (grown_low q1 B hB).2
  .exact (q3.rd kl).congr hn3 λB hB=>kp B (grown_low q3 B hB).2
  .exact (q2.keep hn3 λB hB _=>kp B hB).low st.ext.n
  .have:=(grown_low q2 B hB).1;omega
 have hrlv:wB rlv=some (iv (ky g.ev (thL g.ev n)).length):=hrd.len;have hres:bG p g n=if ok=true/\Br g n (ky g.ev (thL g.ev n)) r then some r.outs else none:=by
  unfold bG Zs;rw[ht];simp only;cases hs:dh t n (ky g.ev (thL g.ev n)) with
  | none =>
   rw[hs]at hokk;rw[qhy (λhc=>by rw[hokk]at hc;cases hc.1)]
  | some r' =>
   rw[hs]at hokk;have:=q6 r' hs;subst this;simp only;by_cases hc:Br g n (ky g.ev (thL g.ev n)) r
   .rw[qhz hc,qhz ⟨hokk,hc⟩]
   .rw[qhy hc,qhy (λhx=>hc hx.2)]
 have htB:thB p.cells t=true:=by
  have:=hB;unfold pgB at this;simp only[qhb]at this;exact List.all_eq_true.1 this.2.2 t (qh6 ht)
 unfold thB at htB;simp only[qhb,qi3]at htB;obtain⟨_,hacts⟩:=htB;have hpin:ok=true->PIn r:=λhk=>by
  cases hs:dh t n (ky g.ev (thL g.ev n)) with
  | none=>rw[hs]at hokk;rw[hokk]at hk;cases hk
  | some r' =>
   have:=q6 r' hs;subst this;exact FD (λa ha=>(dR (List.all_eq_true.1 hacts.2 a ha)).op) _ _ _ _ _ _ hs (λp hp=>by simp at hp)
 simp[t2,t3,t8,lP,qb,c1,wo,<-hm2,w1,-Gk];exact rp_chk (q:=n) (rlv:=rlv) (n:=N+65542) H hG hl hok hev hrlv hpin hres ⟨by simp[t2],by simp[t4],by simp[t6],by simp[t7],by simp[t8],by simp⟩ (by simp)
end
end Go.Sx
