/- Contracts. -/
import Derived.Test.YtkacohbklkmnaaaGreatGk
import Derived.Test.YtkacohbklkmnaaaGreatGb5
set_option linter.unusedVariables false
set_option linter.unusedSimpArgs false
set_option linter.defProp false
set_option maxHeartbeats 2000000
namespace Go.Sx
open Go.Dx Go.Proofs
set_option maxRecDepth 10000
def thN (EV:List Ev5)(th:Int)(i:Nat):List Nat:=(List.range i).filter λj=>match EV[j]? with
 | some e=>decide (e.th=th)
 | none=>false
def thL (EV:List Ev5)(th:Int):List Nat:=thN EV th EV.length
theorem Xp {EV:List Ev5}{th:Int}{i:Nat}{e:Ev5}(h:EV[i]?=some e):thN EV th (i+1)=if e.th=th then thN EV th i++[i] else thN EV th i:=by
 unfold thN;rw[List.range_succ,List.filter_append];by_cases ht:e.th=th
 .rw[qhz ht];simp[h,ht]
 .rw[qhy ht];simp[h,ht]
theorem vJ (EV:List Ev5)(th:Int)(i:Nat):(thN EV th i).length<=i:=by
 unfold thN;exact qhh (List.length_filter_le _ _) (by simp)
def vi (x:Nat):List Value:=[iv x]
section
variable {m:M}{h:Gh}{EV:List Ev5}
theorem xn (x:Nat):(vi x).length=1:=rfl
theorem YW (x:Nat):∀v∈vi x,okC v=true:=by simp[vi,okC]
theorem ZM (n:Nat)(hm:m.base<=m.n)(hev:Rd m h.ev 5 qh EV)(hn2:EV.length<=256)(th:Int) :
  Dx.Call (ex Tryz.prog (n+1)) 53 [.agg ⟨ghL h⟩,iv th] m λv m'=>Grown m m' v 1 vi (thL EV th):=by
 refine qm dd0_ok (by simp) ?_;have hel:=hev.len;have st1:=(St.nil hm (Ext.refl m)).row (ghL h);obtain⟨m1,hm1⟩:=qi4 (Dx.newRow m (ghL h));rw[<-hm1]at st1;have l1:load1 m1 ⟨m.n,1,none⟩=some h.ev:=(st1.get 0 rfl).2.2.load1 1 none;simp[<-hm1,l1,hel];refine qq (c:=cd0_9) rfl (Ret m _) (λi t m'=>Ext m m'/\Grown m m' (Tm.get 5 t) 1 vi (thN EV th i)/\Tm.get 1 t=iv th/\Tm.get 9 t=h.ev/\Tm.get 10 t=iv EV.length/\Tm.get 11 t=iv i) EV.length (by omega)
  ⟨st1.ext,by simp;exact Grown.nil,by simp,by simp,by simp,by simp⟩ (λi t m' k hi hI hk=>?_)
 obtain⟨hE,hG,h1,h9,h10,h11⟩:=hI;obtain⟨sv,hsv⟩:=qi4 (Tm.get 5 t);rw[<-hsv]at hG;have h5:=hsv.symm;have hS:=(Sees.refl hm).ext hE;by_cases hil:i<EV.length
 .obtain⟨e,he⟩:∃e,EV[i]?=some e:=⟨_,qh5 hil⟩;have ⟨a1,a2,_⟩:=(hev.sees hS).at he;have a2':loads m' (adr 5 h.ev i) 5=some (qh e):=a2 m' hS.self;have hd:=dlt hil;have w1:=qK (i:=i) (by omega);obtain⟨m2,s1,s2,s3,s4,s5⟩:=wK (m:=m') hS.base (zs:=Wf) (l:=qh e) (v:=.agg ⟨qh e⟩) (n:=5) rfl rfl rfl (jP e);have b0:load1 m2 ⟨m'.n,0,none⟩=some (iv e.th):=by rw[s2];rfl
  have hsn:=Xp (th:=th) he;have hG2:=hG.ext s4;have hE2:=hE.trans s4;by_cases ht:e.th=th
  .rw[qhz ht]at hsn;have hlen:=vJ EV th i;have hx:loads (Dx.newRow m2 [iv i]) ⟨m2.n,0,some 3⟩ 1=some (vi i):=zE m2 [iv i] 0 1 (by simp);obtain⟨v',m3,e1,e2,e3,e4,e5,e6⟩:=(hG2.ext (Ext.row m2 [iv i])).append (hE2.trans (Ext.row m2 [iv i])) hm (by omega) xn YW (x:=i) (X:=m2.n) (sp:=some 3) hx (bytes:=8) (by unfold wk;omega) (by omega);simp[h1,h5,h9,h10,h11,hd,a1,qb,a2',s1,b0,ht,e1,w1];refine hk hil _ _ ⟨e2,by simp[hsn];exact e3,by simp[h1],by simp[h9],by simp[h10],by simp⟩
  .rw[qhy ht]at hsn;simp[h1,h9,h10,h11,hd,a1,qb,a2',s1,b0,ht,w1];refine hk hil _ _ ⟨hE2,by simp[hsn,h5];exact hG2,by simp[h1],by simp[h9],by simp[h10],by simp⟩
 obtain rfl:i=EV.length:=by omega
 simp[h10,h11,h5];exact qf hE (by simp;exact hG)
theorem Kh (n:Nat)(hm:m.base<=m.n)(hev:Rd m h.ev 5 qh EV)(hn2:EV.length<=256)(th:Int) :
  Dx.Call (ex Tryz.prog (n+1)) 34 [.agg ⟨ghL h⟩,iv th] m λv m'=>Grown m m' v 1 vi (thL EV th):=by
 refine qm db7_ok (by simp) ?_;have hel:=hev.len;have st1:=(St.nil hm (Ext.refl m)).row (ghL h);obtain⟨m1,hm1⟩:=qi4 (Dx.newRow m (ghL h));rw[<-hm1]at st1;have S1:=st1.sees;have hlt1:m.n<m1.n:=by rw[hm1];simp
 simp[<-hm1];refine qq (c:=cb7_8) rfl (Ret m _) (λi t m'=>Ext m1 m'/\Grown m1 m' (Tm.get 5 t) 1 vi (thN EV th i)/\Tm.get 1 t=iv th/\Tm.get 2 t=.pointer (some ⟨m.n,0,none⟩)/\Tm.get 6 t=iv i) EV.length (by omega)
  ⟨Ext.refl _,by simp;exact Grown.nil,by simp,by simp,by simp⟩ (λi t m' k hi hI hk=>?_)
 obtain⟨hE,hG,h1,h2,h6⟩:=hI;obtain⟨sv,hsv⟩:=qi4 (Tm.get 5 t);rw[<-hsv]at hG;have h5:=hsv.symm;have S':Sees m1 m':=(Sees.refl S1.self.base).ext hE;have hS:=S1.ext hE;have l1:load1 m' ⟨m.n,1,none⟩=some h.ev:=by rw[wi S' hlt1];exact (st1.get 0 rfl).2.2.load1 1 none
 by_cases hil:i<EV.length
 .obtain⟨e,he⟩:∃e,EV[i]?=some e:=⟨_,qh5 hil⟩;have ⟨a1,_,a3⟩:=(hev.sees hS).at he;have a30:load1 m' ⟨(adr 5 h.ev i).block,(adr 5 h.ev i).off,none⟩=some (iv e.th):=by have:=a3 m' 0 none hS.self (by simp[qh]);exact this
  have hd:(i<EV.length)=True:=qi1 hil;have w1:=qK (i:=i) (by omega);have hsn:=Xp (th:=th) he;by_cases ht:e.th=th
  .rw[qhz ht]at hsn;have hlen:=vJ EV th i;have hx:loads (Dx.newRow m' [iv i]) ⟨m'.n,0,some 3⟩ 1=some (vi i):=zE m' [iv i] 0 1 (by simp);obtain⟨v',m3,e1,e2,e3,e4,e5,e6⟩:=(hG.ext (Ext.row m' [iv i])).append (hE.trans (Ext.row m' [iv i])) S1.self.base (by omega) xn YW (x:=i) (X:=m'.n) (sp:=some 3) hx (bytes:=8) (by unfold wk;omega) (by omega);simp[h1,h2,h5,h6,l1,hel,hd,a1,a30,ht,e1,w1];refine hk hil _ _ ⟨e2,by simp[hsn];exact e3,by simp[h1],by simp[h2],by simp⟩
  .rw[qhy ht]at hsn;simp[h1,h2,h6,l1,hel,hd,a1,a30,ht,w1];refine hk hil _ _ ⟨hE,by simp[hsn,h5];exact hG,by simp[h1],by simp[h2],by simp⟩
 obtain rfl:i=EV.length:=by omega
 simp[h2,h5,h6,l1,hel];exact qf (st1.ext.trans hE) (by simp;exact hG.low (by omega))
end
theorem QN (p q:Int × Int):kj [1,1] (qn p) (qn q)=some (decide (p=q)):=by
 unfold qn;rw[jm,jm,Qh];obtain⟨a,b⟩:=p;obtain⟨c,d⟩:=q;by_cases h1:a=c
 .by_cases h2:b=d<;>simp[h1,h2]
 .simp[h1]
section
variable {m:M}{h:Gh}{EV:List Ev5}
theorem BM (n:Nat)(hm:m.base<=m.n){a b:Value}{A B:List (Int × Int)}(ha:Rd m a 2 qn A)(hb:Rd m b 2 qn B)(hl:B.length<=4611686018427387904) :
  CallV (ex Tryz.prog (n+1)) 71 [a,b] m (.bool (decide (A=B))):=by
 refine qm de4_ok (by simp) ?_;have la:=ha.len;have lb:=hb.len;by_cases hlen:A.length=B.length
 .have hlen':((A.length:Int)=B.length)=True:=qi1 (by omega);simp[la,lb,hlen];refine qq (c:=qad) rfl (Ret m _) (λi t m'=>Ext m m'/\Tm.get 0 t=a/\Tm.get 1 t=b/\Tm.get 12 t=iv A.length/\Tm.get 13 t=iv i/\∀j,j<i->A[j]?=B[j]?) A.length (by omega)
   ⟨Ext.refl _,by simp,by simp,by simp[hlen],by simp,λj hj=>by omega⟩ (λi t m' k hi hI hk=>?_)
  obtain⟨hE,h0,h1,h12,h13,hall⟩:=hI;have hS:=(Sees.refl hm).ext hE;by_cases hil:i<A.length
  .obtain⟨p,hp⟩:∃p,A[i]?=some p:=⟨_,qh5 hil⟩;obtain⟨q,hq⟩:∃q,B[i]?=some q:=⟨_,qh5 (by omega)⟩;have ⟨a1,a2,_⟩:=(ha.sees hS).at hp;have ⟨b1,b2,_⟩:=(hb.sees hS).at hq;have a2':loads m' (adr 2 a i) 2=some (qn p):=a2 m' hS.self;have b2':loads m' (adr 2 b i) 2=some (qn q):=b2 m' hS.self;have hd:=dlt hil;have w1:=qK (i:=i) (by omega);have he:=QN p q;by_cases hpq:p=q
   .rw[qhx hpq]at he;simp[h0,h1,h12,h13,hd,a1,b1,qb,a2',b2',he,w1,meets];refine hk hil _ _ ⟨by simp[hE],by simp[h0],by simp[h1],by simp[h12],by simp,λj hj=>?_⟩;rcases Nat.lt_succ_iff_lt_or_eq.1 hj with hj | rfl
    .exact hall j hj
    .rw[hp,hq,hpq]
   .rw[qhw hpq]at he;simp[h0,h1,h12,h13,hd,a1,b1,qb,a2',b2',he,meets];refine qf (by simp[hE]) ?_;have:A≠B:=λe=>by rw[e,hq]at hp;cases hp;exact hpq rfl
    simp[this]
  obtain rfl:i=A.length:=by omega
  simp[h12,h13];refine qf hE ?_;have:A=B:=by
   refine List.ext_getElem? λj=>?_;by_cases hj:j<A.length
   .exact hall j hj
   .rw[qhs (by omega),qhs (by omega)]
  simp[this]
 .have hlen':((A.length:Int)=B.length)=False:=qi0 (λe=>hlen (Int.ofNat_inj.1 e));simp[la,lb,hlen'];refine qf (Ext.refl _) ?_;have:A≠B:=λe=>hlen (by rw[e]);simp[this]
theorem BN (n:Nat)(hm:m.base<=m.n){a:Value}{A:List (Int × Int)}(ha:Rd m a 2 qn A)(hl:A.length<=4611686018427387904)(p:Int × Int) :
  Dx.Call (ex Tryz.prog (n+1)) 239 [a,.agg ⟨qn p⟩] m λv _=>∃r:Int,v=iv r/\decide (r>=0)=decide (p∈A):=by
 refine qm dk3_ok (by simp) ?_;have la:=ha.len;have st1:=(St.nil hm (Ext.refl m)).row (qn p);obtain⟨m1,hm1⟩:=qi4 (Dx.newRow m (qn p));rw[<-hm1]at st1;have S1:=st1.sees;have hlt1:m.n<m1.n:=by rw[hm1];simp
 simp[<-hm1,la];refine qq (c:=qav) rfl (Ret m _) (λi t m'=>Ext m1 m'/\Tm.get 0 t=a/\Tm.get 3 t=.pointer (some ⟨m.n,0,none⟩)/\Tm.get 7 t=iv A.length/\Tm.get 8 t=iv i/\∀j,j<i->A[j]?≠some p) A.length (by omega)
  ⟨Ext.refl _,by simp,by simp,by simp,by simp,λj hj=>by omega⟩ (λi t m' k hi hI hk=>?_)
 obtain⟨hE,h0,h3,h7,h8,hall⟩:=hI;have S':Sees m1 m':=(Sees.refl S1.self.base).ext hE;have hS:=S1.ext hE;have L2:loads m' ⟨m.n,0,none⟩ 2=some (qn p):=by rw[zY S' hlt1];exact (st1.get 0 rfl).2.2.loads (n:=2) (by simp[qn])
 by_cases hil:i<A.length
 .obtain⟨q,hq⟩:∃q,A[i]?=some q:=⟨_,qh5 hil⟩;have ⟨a1,a2,_⟩:=(ha.sees hS).at hq;have a2':loads m' (adr 2 a i) 2=some (qn q):=a2 m' hS.self;have hd:=dlt hil;have w1:=qK (i:=i) (by omega);have he:=QN p q;by_cases hpq:p=q
  .rw[qhx hpq]at he;simp[h0,h3,h7,h8,hd,a1,qb,L2,a2',he,meets];refine qf (st1.ext.trans (by simp[hE])) ⟨i,by simp,?_⟩;have:p∈A:=by rw[hpq];exact qh6 hq
   simp[this]
  .rw[qhw hpq]at he;simp[h0,h3,h7,h8,hd,a1,qb,L2,a2',he,w1,meets];refine hk hil _ _ ⟨by simp[hE],by simp[h0],by simp[h3],by simp[h7],by simp,λj hj=>?_⟩;rcases Nat.lt_succ_iff_lt_or_eq.1 hj with hj | rfl
   .exact hall j hj
   .rw[hq];intro e;cases e;exact hpq rfl
 obtain rfl:i=A.length:=by omega
 simp[h7,h8];refine qf (st1.ext.trans hE) ⟨-1,by simp,?_⟩;have:p ∉ A:=λhc=>by
  obtain⟨j,hj,e⟩:=List.getElem_of_mem hc;exact hall j hj (by rw[qh5 hj,e])
 simp[this]
theorem ZI (n:Nat)(hm:m.base<=m.n){a:Value}{A:List (Int × Int)}(ha:Rd m a 2 qn A)(hl:A.length<=4611686018427387904)(p:Int × Int) :
  CallV (ex Tryz.prog (n+2)) 194 [a,.agg ⟨qn p⟩] m (.bool (decide (p∈A))):=by
 refine qm dj6_ok (by simp) ?_;have st1:=(St.nil hm (Ext.refl m)).row (qn p);obtain⟨m1,hm1⟩:=qi4 (Dx.newRow m (qn p));rw[<-hm1]at st1;have L2:loads m1 ⟨m.n,0,none⟩ 2=some (qn p):=(st1.get 0 rfl).2.2.loads (n:=2) (by simp[qn]);obtain⟨v2,m2,c1,c2,r,rfl,hr⟩:=BN n st1.sees.self.base (ha.sees st1.sees) hl p;simp[<-hm1,qb,L2,c1];exact qf (st1.ext.trans c2) (by simp[<-hr])
def ofL (EV:List Ev5)(PR:List (Int × Int))(th:Int):List (Int × Int):=PR.filter λp=>match EV[p.1.toNat]? with
 | some e=>decide (e.th=th)
 | none=>false
def ofN (EV:List Ev5)(PR:List (Int × Int))(th:Int)(i:Nat):List (Int × Int):=ofL EV (PR.take i) th
theorem JM {EV:List Ev5}{PR:List (Int × Int)}{th:Int}{i:Nat}{p:Int × Int}{e:Ev5}(h:PR[i]?=some p)(he:EV[p.1.toNat]?=some e):ofN EV PR th (i+1)=if e.th=th then ofN EV PR th i++[p] else ofN EV PR th i:=by
 unfold ofN ofL;rw[take_at h,List.filter_append];by_cases ht:e.th=th
 .rw[qhz ht];simp[he,ht]
 .rw[qhy ht];simp[he,ht]
theorem Fa (EV:List Ev5)(PR:List (Int × Int))(th:Int)(i:Nat):(ofN EV PR th i).length<=i:=by
 unfold ofN ofL;exact qhh (List.length_filter_le _ _) (by simp;omega)
theorem of_c (n:Nat)(hm:m.base<=m.n){BB:Nat}{ev:Value}(hB:load1 m ⟨BB,1,none⟩=some ev)(hBl:BB<m.n)(hev:Rd m ev 5 qh EV){pv:Value}{PR:List (Int × Int)}(hp:Rd m pv 2 qn PR)(hl:PR.length<=65536)(hok:∀p∈PR,isB EV p.1 1=true)(th:Int) :
  Dx.Call (ex Tryz.prog (n+1)) 72 [.pointer (some ⟨BB,0,none⟩),pv,iv th] m λv m'=>Grown m m' v 2 qn (ofL EV PR th):=by
 refine qm de5_ok (by simp) ?_;have hpl:=hp.len;simp[hpl];refine qq (c:=ce5_9) rfl (Ret m _) (λi t m'=>Ext m m'/\Grown m m' (Tm.get 7 t) 2 qn (ofN EV PR th i)/\Tm.get 0 t=.pointer (some ⟨BB,0,none⟩)/\Tm.get 2 t=iv th/\Tm.get 10 t=pv/\Tm.get 11 t=iv PR.length/\Tm.get 12 t=iv i) PR.length (by omega)
  ⟨Ext.refl _,by simp;exact Grown.nil,by simp,by simp,by simp,by simp,by simp⟩ (λi t m' k hi hI hk=>?_)
 obtain⟨hE,hG,h0,h2,h10,h11,h12⟩:=hI;obtain⟨sv,hsv⟩:=qi4 (Tm.get 7 t);rw[<-hsv]at hG;have h7:=hsv.symm;have hS:=(Sees.refl hm).ext hE;by_cases hil:i<PR.length
 .obtain⟨⟨a,b⟩,hq⟩:∃p,PR[i]?=some p:=⟨_,qh5 hil⟩;obtain⟨x,e,hx,he,_⟩:=zl (hok _ (qh6 hq));simp only at hx;subst hx;have ⟨a1,a2,_⟩:=(hp.sees hS).at hq;have a2':loads m' (adr 2 pv i) 2=some (qn ((x:Int),b)):=a2 m' hS.self;have hd:=dlt hil;have w1:=qK (i:=i) (by omega);obtain⟨m2,s1,s2,s3,s4,s5⟩:=wK (m:=m') hS.base (zs:=[zI,zI]) (l:=qn ((x:Int),b)) (v:=.agg ⟨qn ((x:Int),b)⟩) (n:=2) rfl rfl rfl (zm _);have hS2:=hS.ext s4;have b0:load1 m2 ⟨m'.n,0,none⟩=some (iv x):=by rw[s2];rfl
  have b2:loads m2 ⟨m'.n,0,none⟩ 2=some (qn ((x:Int),b)):=s3 none;have hB2:load1 m2 ⟨BB,1,none⟩=some ev:=by rw[wi hS2 hBl];exact hB
  have ⟨f1,_,f3⟩:=(hev.sees hS2).at he;have f30:load1 m2 ⟨(adr 5 ev x).block,(adr 5 ev x).off,none⟩=some (iv e.th):=by have:=f3 m2 0 none hS2.self (by simp[qh]);exact this
  have hsn:=JM (th:=th) hq (by simpa using he);have hG2:=hG.ext s4;have hE2:=hE.trans s4;by_cases ht:e.th=th
  .rw[qhz ht]at hsn;have hlen:=Fa EV PR th i;have hbs:wH 2 1 (rep 1 [zI,zI]) [(0,2,.agg ⟨qn ((x:Int),b)⟩)] m2=some (.slice (some ⟨m2.n,0,some 5⟩) 1 1,Dx.newRow m2 (qn ((x:Int),b))):=rfl;have hx2:loads (Dx.newRow m2 (qn ((x:Int),b))) ⟨m2.n,0,some 5⟩ 2=some (qn ((x:Int),b)):=zE m2 _ 0 2 (by simp[qn]);obtain⟨v',m3,e1,e2,e3,e4,e5,e6⟩:=(hG2.ext (Ext.row m2 (qn ((x:Int),b)))).append (hE2.trans (Ext.row m2 _)) hm (by omega) kl zm (x:=((x:Int),b)) (X:=m2.n) (sp:=some 5) hx2 (bytes:=16) (by unfold wk;omega) (by omega);simp[h0,h2,h7,h10,h11,h12,hd,a1,qb,a2',s1,b0,b2,hB2,f1,f30,ht,hbs,e1,w1,meets];refine hk hil _ _ ⟨e2,by simp[hsn];exact e3,by simp[h0],by simp[h2],by simp[h10],by simp[h11],by simp⟩
  .rw[qhy ht]at hsn;simp[h0,h2,h10,h11,h12,hd,a1,qb,a2',s1,b0,hB2,f1,f30,ht,w1,meets];refine hk hil _ _ ⟨?_,?_,by simp[h0],by simp[h2],by simp[h10],by simp[h11],by simp⟩
   .simp[hE2]
   .simp[hsn,h7];exact hG2.ext (by simp)
 obtain rfl:i=PR.length:=by omega
 simp[h11,h12,h7];exact qf hE (by simp;unfold ofN at hG;rw[List.take_length]at hG;exact hG)
end
@[simp] theorem pSlice_l (e:Nat) (x a:V) (t:Tm):vF e x (some a) none none t=slV e (some (a t)) none none (x t):=by
 unfold vF Zz slV;cases x t with
 | slice a l c=>cases a<;>rfl
 | _=>rfl
theorem Rd.dropS {α:Type}{m:M}{v:Value}{e:Nat}{f:α->List Value}{l:List α}(h:Rd m v e f l)(hs:Sp e v)(hf:∀x,(f x).length=e){k:Nat}(hk:k<=l.length)(h0:0<l.length):∃v',slV e (some (.int .i64 (k:Int))) none none v=some v'/\Rd m v' e f (l.drop k)/\Sp e v'/\okC v'=true/\blk v'=blk v:=by
 obtain⟨a,n,c,h1,h2⟩:=Rd.drop h hs hf hk;refine⟨_,h1,h2,?_⟩;rcases hs with rfl | ⟨B,o,n',c',x,rfl,hnc⟩
 .have:=h.len;simp[wB]at this;omega
 .have hn:n'=l.length:=by have:=h.len;simp[wB]at this;omega
  have hb:fI n' c' (some (.int .i64 (k:Int))) none none=some (k,n',c'):=by
   show ob (gV (some (.int .i64 (k:Int))) 0 n') _=_;show ob (bif Nat.ble k n' then some k else none) _=_
   rw[qhd (by omega)];rfl
  have hcd:Nat.beq (code e x/2) e=true:=by
   have:code e x/2=e:=by
    cases x
    .show (2*e)/2=e;omega
    .show (2*e+1)/2=e;omega
   rw[this,Nat.beq_refl]
  have hex:vA (code e x)=x:=by
   cases x
   .show Nat.beq ((2*e)%2) 1=false;rw[show (2*e)%2=0 by omega];rfl
   .show Nat.beq ((2*e+1)%2) 1=true;rw[show (2*e+1)%2=1 by omega];rfl
  have hsl:slV e (some (.int .i64 (k:Int))) none none (.slice (some ⟨B,o,some (code e x)⟩) n' c')=some (.slice (some ⟨B,bif x&&Nat.beq c' k then o else o+k*e,some (code e x)⟩) (n'-k) (c'-k)):=by
   unfold slV;simp only[qQ,hb,hcd,hex,Option.isSome_none,Bool.or_false];rfl
  rw[hsl]at h1;cases h1;exact⟨.inr ⟨B,_,_,_,x,rfl,by omega⟩,rfl,rfl⟩
def ifM (Mb:Nat):Value:=.iface 133 (.pointer (some ⟨Mb,0,none⟩))
def wt (BB Mb:Nat)(lv rv ov:Value)(opn:Int):List Value:=[.pointer (some ⟨BB,0,none⟩),ifM Mb,lv,iv opn,rv,zF,ov]
def evM (EV:List Ev5)(kind:Int)(w:Wt)(l:List Nat):Bool:=match l with
 | []=>false
 | i::_=>match EV[i]? with
  | none=>false
  | some x=>decide (x.kind=kind)&&(decide (x.mode=w.mode)&&((decide (kind=3)||decide (x.loc=w.loc))&&(!decide (kind=2)||decide (x.val=w.val))))
structure Bk (m:M)(BB:Nat)(h:Gh)(fv:Value):Prop where
 lt:BB<m.n
 ld:∀o s,load1 m ⟨BB,o,s⟩=(ghL h++[fv])[o]?
theorem Bk.sees {m m':M}{BB:Nat}{h:Gh}{fv:Value}(H:Bk m BB h fv)(k:Sees m m'):Bk m' BB h fv :=
 ⟨qha H.lt k.n,λo s=>by rw[wi k H.lt];exact H.ld o s⟩
theorem Bk.congr {m m':M}{BB:Nat}{h:Gh}{fv:Value}(H:Bk m BB h fv)(hn:m.n<=m'.n)(k:m'.obj BB=m.obj BB):Bk m' BB h fv :=
 ⟨qha H.lt hn,λo s=>by rw[<-H.ld o s];unfold load1 cellsOf;rw[k]⟩
def EvQ (m:M)(TB BB Mb:Nat)(lv rv ov:Value)(opn:Int)(b:Bool)(v:Value)(m':M):Prop :=
 v=.bool b/\Mc m m' [TB]/\∃lv',Arr m' TB (wt BB Mb lv' rv ov opn)/\(b=true->slV 1 (some (.int .i64 1)) none none lv=some lv')/\(b=false->lv'=lv)
section
variable {m:M}{h:Gh}{EV:List Ev5}
theorem YJ (n:Nat)(hm:m.base<=m.n){TB BB Mb:Nat}{lv rv ov fv:Value}{opn:Int}{l:List Nat}(hT:Arr m TB (wt BB Mb lv rv ov opn))(hTl:TB<m.n)(hB:Bk m BB h fv)(hev:Rd m h.ev 5 qh EV)(hl:Rd m lv 1 vi l)(hsp:Sp 1 lv)(hok:∀i∈l,i<EV.length)(kind:Int)(w:Wt) :
  ∃v m',(ex Tryz.prog (n+1)).f 99 [.pointer (some ⟨TB,0,none⟩),iv kind,.agg ⟨wtL w⟩] m=some (v,m')/\EvQ m TB BB Mb lv rv ov opn (evM EV kind w l) v m':=by
 refine zM df8_ok (by simp) ?_;have ow0:Ow m m [TB] [(TB,wt BB Mb lv rv ov opn)]:=Ow.start hm (λp hp=>by rw[qhc]at hp;subst hp;exact⟨by simp,hTl,hT⟩) (by simp);have ow1:=ow0.row (wtL w);obtain⟨m1,hm1⟩:=qi4 (Dx.newRow m (wtL w));rw[<-hm1]at ow1;have E1:Ext m m1:=by rw[hm1];exact Ext.row _ _
 have S1:Sees m m1:=(Sees.refl hm).ext E1;have lT:∀o s,load1 m1 ⟨TB,o,s⟩=(wt BB Mb lv rv ov opn)[o]?:=λo s=>(ow1.get 1 rfl).2.2.load1 o s;have lW:∀o s,load1 m1 ⟨m.n,o,s⟩=(wtL w)[o]?:=λo s=>(ow1.get 0 rfl).2.2.load1 o s;simp only[wt]at lT;simp only[wtL]at lW;have hll:=hl.len;have hlm:=(hl.sees S1).len;cases l with
 | nil =>
  have hll':wB lv=some (iv 0):=hll;simp[<-hm1,lT,hll'];exact zo ⟨by simp[evM],ow1.mc,lv,(ow1.get 1 rfl).2.2,λhc=>by simp[evM]at hc,λ_=>rfl⟩
 | cons i l' =>
  obtain⟨e,he⟩:∃e,EV[i]?=some e:=⟨_,qh5 (hok i (by simp))⟩;obtain⟨ln,hln⟩:∃ln:Nat,ln=(i::l').length:=⟨_,rfl⟩;rw[<-hln]at hll;have hl0:(ln=0)=False:=qi0 (by rw[hln];simp);have hl0':((ln:Int)=0)=False:=qi0 (by rw[hln];simp;omega);have ⟨p1,p2⟩:=Rd.at1 (g:=λ(x:Nat)=>iv x) (hl.sees S1) (i:=0) (r:=i) rfl;have p1':wJ 1 lv zI=some (.pointer (some (adr 1 lv 0))):=p1;have b1:load1 m1 ⟨BB,1,none⟩=some h.ev:=(hB.sees S1).ld 1 none;have ⟨a1,a2,_⟩:=(hev.sees S1).at he;have a2':loads m1 (adr 5 h.ev i) 5=some (qh e):=a2 m1 S1.self;have hz:[zI,zI,zI,zU,zI]=Wf:=rfl;have ow2:=ow1.row Wf;obtain⟨m4',t1,t1',t2,t3,t4⟩:=ow2.storeNAny 0 rfl (o:=0) (l':=qh e) (n:=5) (by omega) rfl (by simp) (jP e);obtain⟨m4,hm4⟩:=qi4 (behind (Dx.newRow m1 Wf) m4');have t2':Ow m m4 [TB] [(m1.n,qh e),(m.n,wtL w),(TB,wt BB Mb lv rv ov opn)]:=by rw[hm4];exact t2
  have hE':∀o s,load1 m4 ⟨m1.n,o,s⟩=(qh e)[o]?:=λo s=>(t2'.get 0 rfl).2.2.load1 o s;have hW':∀o s,load1 m4 ⟨m.n,o,s⟩=(wtL w)[o]?:=λo s=>(t2'.get 1 rfl).2.2.load1 o s;have hT':∀o s,load1 m4 ⟨TB,o,s⟩=(wt BB Mb lv rv ov opn)[o]?:=λo s=>(t2'.get 2 rfl).2.2.load1 o s;have x0:load1 m4 ⟨m1.n,1,none⟩=some (iv e.kind):=hE' 1 none;have x2:load1 m4 ⟨m1.n,2,none⟩=some (iv e.loc):=hE' 2 none;have x3:load1 m4 ⟨m1.n,3,none⟩=some (uv e.val.1):=hE' 3 none;have x4:load1 m4 ⟨m1.n,4,none⟩=some (iv e.mode):=hE' 4 none;have y1:load1 m4 ⟨m.n,1,none⟩=some (iv w.loc):=hW' 1 none;have y2:load1 m4 ⟨m.n,2,none⟩=some (iv w.mode):=hW' 2 none;have y3:load1 m4 ⟨m.n,3,none⟩=some (uv w.val.1):=hW' 3 none;have z2:load1 m4 ⟨TB,2,none⟩=some lv:=hT' 2 none;have t1a:ww 5 (.pointer (some ⟨m1.n,0,none⟩)) (.agg ⟨qh e⟩) (ql (Dx.newRow m1 [zI,zI,zI,zU,zI]))=some (undef,m4'):=t1;have hbad:evM EV kind w (i::l')=false->EvQ m TB BB Mb lv rv ov opn (evM EV kind w (i::l')) zF m4:=λhb=>by
   rw[hb];exact⟨rfl,t2'.mc,lv,(t2'.get 2 rfl).2.2,λhc=>(by cases hc),λ_=>rfl⟩
  have hM:evM EV kind w (i::l')=(decide (e.kind=kind)&&(decide (e.mode=w.mode)&&((decide (kind=3)||decide (e.loc=w.loc))&&(!decide (kind=2)||decide (e.val=w.val))))):=by
   show (match EV[i]? with | none=>false | some x=>_)=_
   rw[he]
  obtain⟨lv',d1,d2,d3,d4,d5⟩:=Rd.dropS hl hsp xn (k:=1) (by simp) (by simp);have d1':slV 1 (some (.int .i64 1)) none none lv=some lv':=d1;obtain⟨m5,g1,g2,g3,g4⟩:=t2'.store 2 rfl (o:=2) (v:=lv') (by simp[wt]) d4;have hgood:evM EV kind w (i::l')=true->EvQ m TB BB Mb lv rv ov opn (evM EV kind w (i::l')) zT m5:=λhb=>by
   rw[hb];exact⟨rfl,g2.mc,lv',(g2.get 2 rfl).2.2,λ_=>d1',λhc=>(by cases hc)⟩
  by_cases c1:e.kind=kind
  .by_cases c2:e.mode=w.mode
   .by_cases c3:kind=3
    .subst c3;simp[<-hm1,lT,hll,hl0,p1',p2,S1.self,b1,a1,qb,a2',t1a,<-hm4,x0,x4,y2,z2,c1,c2,d1',g1,meets,-wD];exact zo (by simp;exact hgood (by rw[hM];simp[c1,c2]))
    .by_cases c4:e.loc=w.loc
     .by_cases c5:kind=2
      .subst c5;by_cases c6:e.val=w.val
       .have c6':(((e.val.1:Nat):Int)=(w.val.1:Nat))=True:=qi1 (by rw[c6]);simp[<-hm1,lT,hll,hl0,p1',p2,S1.self,b1,a1,qb,a2',t1a,<-hm4,x0,x2,x3,x4,y1,y2,y3,z2,c1,c2,c3,c4,c6,d1',g1,meets,-wD];exact zo (by simp;exact hgood (by rw[hM];simp[c1,c2,c4,c6]))
       .have c6':(((e.val.1:Nat):Int)=(w.val.1:Nat))=False:=qi0 (λhc=>c6 (Subtype.ext (Int.ofNat_inj.1 hc)));have c6'':(e.val.1=w.val.1)=False:=qi0 (λhc=>c6 (Subtype.ext hc));simp[<-hm1,lT,hll,hl0,p1',p2,S1.self,b1,a1,qb,a2',t1a,<-hm4,x0,x2,x3,x4,y1,y2,y3,c1,c2,c3,c4,c6',meets,-wD];exact zo (by simp;exact hbad (by rw[hM];simp[c1,c2,c4,c6]))
      .simp[<-hm1,lT,hll,hl0,p1',p2,S1.self,b1,a1,qb,a2',t1a,<-hm4,x0,x2,x4,y1,y2,z2,c1,c2,c3,c4,c5,d1',g1,meets,-wD];exact zo (by simp;exact hgood (by rw[hM];simp[c1,c2,c3,c4,c5]))
     .simp[<-hm1,lT,hll,hl0,p1',p2,S1.self,b1,a1,qb,a2',t1a,<-hm4,x0,x2,x4,y1,y2,c1,c2,c3,c4,meets,-wD];exact zo (by simp;exact hbad (by rw[hM];simp[c1,c2,c3,c4]))
   .simp[<-hm1,lT,hll,hl0,p1',p2,S1.self,b1,a1,qb,a2',t1a,<-hm4,x0,x4,y2,c1,c2,meets,-wD];exact zo (by simp;exact hbad (by rw[hM];simp[c1,c2]))
  .simp[<-hm1,lT,hll,hl0,p1',p2,S1.self,b1,a1,qb,a2',t1a,<-hm4,x0,c1,meets,-wD];exact zo (by simp;exact hbad (by rw[hM];simp[c1]))
end
structure RW (W:List Nat)(mA m:M)(Mb Lb k:Nat)(av:Value)(s:Ms)(g:Gs)(r:Rn)(σ:List (Nat × List Value)):Prop where
 ow:Ow mA m (Mb::Lb::W) σ
 ms:MsAt m Mb Lb k av s
 ge:Grown mA m g.1 5 qh r.evs
 go:Grown mA m g.2.1 1 qS r.outs
 gr:Grown mA m g.2.2 2 qn r.rmw
 sep:∀B,(blk g.1=some B\/blk g.2.1=some B\/blk g.2.2=some B)->∀p∈σ,p.1≠B
 eo:∀B,blk g.1=some B->blk g.2.1≠some B/\blk g.2.2≠some B
 or_:∀B,blk g.2.1=some B->blk g.2.2≠some B
 lowM:Mb<mA.n
 lowL:Lb<mA.n
 ne:Mb≠Lb
 own:∀p∈σ,mA.n<=p.1\/p.1∈W
 nM:Mb ∉ W
 nL:Lb ∉ W
section
variable {W:List Nat}{mA m m':M}{Mb Lb k:Nat}{av:Value}{s s':Ms}{g:Gs}{r:Rn}{σ σ':List (Nat × List Value)}
theorem RW.far (h:RW W mA m Mb Lb k av s g r σ):∀p∈σ,p.1≠Mb/\p.1≠Lb:=λp hp=>by
 have hM:=h.lowM;have hL:=h.lowL;rcases h.own p hp with h' | h'
 .omega
 .exact⟨λe=>h.nM (e ▸ h'),λe=>h.nL (e ▸ h')⟩
theorem _root_.Go.Dx.Mc.more (h:Mc m m' [Mb,Lb]):Mc m m' (Mb::Lb::W) :=
 ⟨h.n,λB hB hW=>h.obj B hB λhc=>hW (by simp at hc ⊢;omega),h.base,λB hB=>by
  rcases h.log B hB with h' | h'
  .exact .inl h'
  .exact .inr (by simp at h' ⊢;omega),λhW=>h.low λB hB=>hW B (by simp at hB ⊢;omega)⟩
theorem RW.gl (h:RW W mA m Mb Lb k av s g r σ):∀B,(blk g.1=some B\/blk g.2.1=some B\/blk g.2.2=some B)->mA.n<=B/\B<m.n:=λB hB=>by
 rcases hB with hB | hB | hB
 .exact grown_low h.ge B hB
 .exact grown_low h.go B hB
 .exact grown_low h.gr B hB
theorem RW.of (h:RW W mA m Mb Lb k av s g r σ)(how:Ow mA m' (Mb::Lb::W) σ')(hms:MsAt m' Mb Lb k av s')(hn:m.n<=m'.n)(hk:∀B,(blk g.1=some B\/blk g.2.1=some B\/blk g.2.2=some B)->m'.obj B=m.obj B)(hσ:∀p∈σ',(∃q∈σ,q.1=p.1)\/m.n<=p.1):RW W mA m' Mb Lb k av s' g r σ' :=
 ⟨how,hms,h.ge.keep hn λB _ hB=>hk B (.inl hB),h.go.keep hn λB _ hB=>hk B (.inr (.inl hB)),h.gr.keep hn λB _ hB=>hk B (.inr (.inr hB)),λB hB p hp=>by
  rcases hσ p hp with ⟨q,hq,e⟩ | h'
  .rw[<-e];exact h.sep B hB q hq
  .have:=(h.gl B hB).2;omega,h.eo,h.or_,h.lowM,h.lowL,h.ne,λp hp=>by
  rcases hσ p hp with ⟨q,hq,e⟩ | h'
  .rw[<-e];exact h.own q hq
  .have:=h.ow.mc.n;exact .inl (by omega),h.nM,h.nL⟩
theorem RW.step (h:RW W mA m Mb Lb k av s g r σ)(e:Ext m m'):RW W mA m' Mb Lb k av s g r σ :=
 h.of (h.ow.step e) (h.ms.ext e) e.n (λB hB=>e.obj B (h.gl B hB).2) λp hp=>.inl ⟨p,hp,rfl⟩
theorem RW.row (h:RW W mA m Mb Lb k av s g r σ)(l:List Value):RW W mA (Dx.newRow m l) Mb Lb k av s g r ((m.n,l)::σ) :=
 h.of (h.ow.row l) (h.ms.ext (Ext.row m l)) (Ext.row m l).n (λB hB=>(Ext.row m l).obj B (h.gl B hB).2) λp hp=>by
  rcases List.mem_cons.1 hp with rfl | hp
  .exact .inr (qh8 _)
  .exact .inl ⟨p,hp,rfl⟩
theorem RW.sub (h:RW W mA m Mb Lb k av s g r σ)(hs:∀p∈σ',p∈σ)(hn:(σ'.map (·.1)).Nodup):RW W mA m Mb Lb k av s g r σ' :=
 h.of (h.ow.sub hs hn) h.ms (qh8 _) (λ_ _=>rfl) λp hp=>.inl ⟨p,hs p hp,rfl⟩
theorem RW.put (h:RW W mA m Mb Lb k av s g r σ){i b:Nat}{l l':List Value}(hi:σ[i]?=some (b,l))(how:Ow mA m' (Mb::Lb::W) (σ.set i (b,l')))(hn:m'.n=m.n)(ho:∀X,X≠b->m'.obj X=m.obj X):RW W mA m' Mb Lb k av s g r (σ.set i (b,l')):=by
 obtain⟨hbM,hbL⟩:=h.far _ (qh6 hi);refine h.of how (h.ms.congr (by omega) (ho _ λe=>hbM e.symm) (ho _ λe=>hbL e.symm)) (by omega) (λB hB=>ho B λe=>h.sep B hB _ (qh6 hi) e.symm) λp hp=>?_;obtain⟨q,hq,e⟩:=vB hi hp;exact .inl ⟨q,hq,e⟩
theorem RW.wr (h:RW W mA m Mb Lb k av s g r σ)(k':Mc m m' [Mb,Lb])(hms:MsAt m' Mb Lb k av s'):RW W mA m' Mb Lb k av s' g r σ:=by
 have hM:=h.lowM;have hL:=h.lowL;have out:∀B,mA.n<=B->B ∉ [Mb,Lb]:=λB hB=>by simp;omega
 refine h.of ⟨h.ow.mc.trans k'.more,h.ow.base,λp hp=>?_,h.ow.nd⟩ hms k'.n (λB hB=>k'.obj B (h.gl B hB).2 (out B (h.gl B hB).1)) λp hp=>.inl ⟨p,hp,rfl⟩;obtain⟨a,b,c⟩:=h.ow.arr p hp;exact⟨a,qha b k'.n,c.congr (k'.obj _ b (by obtain⟨x,y⟩:=h.far p hp;simp[x,y]))⟩
theorem RW.get (h:RW W mA m Mb Lb k av s g r σ)(i:Nat){b:Nat}{l:List Value}(hi:σ[i]?=some (b,l)):Arr m b l:=(h.ow.get i hi).2.2
theorem RW.mb (h:RW W mA m Mb Lb k av s g r σ):m.base<=m.n:=h.ow.mb
theorem RW.appO {x:U}{v':Value}(h:RW W mA m Mb Lb k av s g r σ)(hg:Grown mA m' v' 1 qS (r.outs++[x]))(hA:Ap m m' g.2.1 v'):RW W mA m' Mb Lb k av s (g.1,v',g.2.2) { r with outs:=r.outs++[x] } σ:=by
 have hM:=h.lowM;have hL:=h.lowL;have hmn:=h.ow.mc.n;have kp:∀B,B<m.n->blk g.2.1≠some B->m'.obj B=m.obj B:=hA.obj;have no:∀B,B<mA.n->blk g.2.1≠some B:=λB hB e=>by have:=(h.gl B (.inr (.inl e))).1;omega
 refine⟨h.ow.app hA (λB hB=>(h.gl B (.inr (.inl hB))).1) (λB hB=>h.sep B (.inr (.inl hB))),h.ms.congr hA.n (kp _ (by omega) (no _ hM)) (kp _ (by omega) (no _ hL)),h.ge.keep hA.n λB hB hb=>kp B hB λe=>(h.eo B hb).1 e,hg,h.gr.keep hA.n λB hB hb=>kp B hB λe=>h.or_ B e hb,λB hB p hp=>?_,λB hB=>⟨λe=>?_,(h.eo B hB).2⟩,λB hB e=>?_,h.lowM,h.lowL,h.ne,h.own,h.nM,h.nL⟩
 .rcases hB with hB | hB | hB
  .exact h.sep B (.inl hB) p hp
  .have:=hA.new B hB;have:=(h.ow.arr p hp).2.1;omega
  .exact h.sep B (.inr (.inr hB)) p hp
 .have:=hA.new B e;have:=(h.gl B (.inl hB)).2;omega
 .have:=hA.new B hB;have:=(h.gl B (.inr (.inr e))).2;omega
theorem RW.appR {x:Int × Int}{v':Value}(h:RW W mA m Mb Lb k av s g r σ)(hg:Grown mA m' v' 2 qn (r.rmw++[x]))(hA:Ap m m' g.2.2 v'):RW W mA m' Mb Lb k av s (g.1,g.2.1,v') { r with rmw:=r.rmw++[x] } σ:=by
 have hM:=h.lowM;have hL:=h.lowL;have hmn:=h.ow.mc.n;have kp:∀B,B<m.n->blk g.2.2≠some B->m'.obj B=m.obj B:=hA.obj;have no:∀B,B<mA.n->blk g.2.2≠some B:=λB hB e=>by have:=(h.gl B (.inr (.inr e))).1;omega
 refine⟨h.ow.app hA (λB hB=>(h.gl B (.inr (.inr hB))).1) (λB hB=>h.sep B (.inr (.inr hB))),h.ms.congr hA.n (kp _ (by omega) (no _ hM)) (kp _ (by omega) (no _ hL)),h.ge.keep hA.n λB hB hb=>kp B hB λe=>(h.eo B hb).2 e,h.go.keep hA.n λB hB hb=>kp B hB λe=>h.or_ B hb e,hg,λB hB p hp=>?_,λB hB=>⟨(h.eo B hB).1,λe=>?_⟩,λB hB e=>?_,h.lowM,h.lowL,h.ne,h.own,h.nM,h.nL⟩
 .rcases hB with hB | hB | hB
  .exact h.sep B (.inl hB) p hp
  .exact h.sep B (.inr (.inl hB)) p hp
  .have:=hA.new B hB;have:=(h.ow.arr p hp).2.1;omega
 .have:=hA.new B e;have:=(h.gl B (.inl hB)).2;omega
 .have:=hA.new B e;have:=(h.gl B (.inr (.inl hB))).2;omega
end
theorem Rd.mc {α:Type}{m m':M}{W:List Nat}{v:Value}{e:Nat}{f:α->List Value}{es:List α}(h:Rd m v e f es)(hv:∀B,blk v=some B->B ∉ W)(k:Mc m m' W):Rd m' v e f es:=h.congr k.n λB hB=>k.obj B (h.lt B hB) (hv B hB)
theorem RW.ownW {W:List Nat}{mA m m':M}{Mb Lb k:Nat}{av:Value}{s:Ms}{g:Gs}{r:Rn}{σ:List (Nat × List Value)}(h:RW W mA m Mb Lb k av s g r σ){i TB:Nat}{l l':List Value}(hi:σ[i]?=some (TB,l))(k':Mc m m' [TB])(ha:Arr m' TB l'):RW W mA m' Mb Lb k av s g r (σ.set i (TB,l')):=by
 have hb:=h.own _ (qh6 hi);obtain⟨hfM,hfL⟩:=h.far _ (qh6 hi);have hmn:=h.ow.mc.n;have hbase:=h.ow.mc.base;have hb0:=h.ow.base;have hMl:=h.lowM;have hLl:=h.lowL;simp only at hb hfM hfL;have hk:∀B,B<m.n->B≠TB->m'.obj B=m.obj B:=λB hB hne=>k'.obj B hB (by rw[qhc];exact hne);have hlow:m.base<=TB->m'.log=m.log:=λhx=>k'.low λB hB=>by rw[qhc]at hB;subst hB;exact hx
 have hTW:TB∈W->TB∈Mb::Lb::W:=λhx=>qhg _ (qhg _ hx);have how:Ow mA m' (Mb::Lb::W) (σ.set i (TB,l')):=by
  refine⟨⟨qhh hmn k'.n,λB hB hW=>(hk B (by omega) λe=>?_).trans (h.ow.mc.obj B hB hW),k'.base.trans hbase,λB hB=>?_,λhW=>?_⟩,hb0,λp hp=>?_,?_⟩
  .subst e;rcases hb with hb | hb
   .omega
   .exact hW (hTW hb)
  .rcases k'.log B hB with h' | h'
   .exact h.ow.mc.log B h'
   .rw[qhc]at h';subst h';rcases hb with hb | hb
    .rw[hlow (by omega)]at hB;exact h.ow.mc.log _ hB
    .exact .inr (hTW hb)
  .rw[hlow ?_]
   .exact h.ow.mc.low hW
   .rcases hb with hb | hb
    .omega
    .rw[hbase];exact hW _ (hTW hb)
  .obtain⟨hik,hie⟩:=qh7.1 hi;obtain⟨j,hj,rfl⟩:=List.getElem_of_mem hp;rw[List.getElem_set];rw[List.length_set]at hj;split
   .exact⟨(h.ow.get i hi).1,qha (h.ow.get i hi).2.1 k'.n,ha⟩
   .rename_i hne;obtain⟨h1,h2,h3⟩:=h.ow.arr _ (List.getElem_mem hj);refine⟨h1,qha h2 k'.n,h3.congr (hk _ h2 λe=>hne ?_)⟩;exact (QJ h.ow.nd hi (qh5 hj) e.symm)
  .rw[Ju hi];exact h.ow.nd
 refine h.of how (h.ms.congr k'.n (hk _ (by omega) λe=>hfM e.symm) (hk _ (by omega) λe=>hfL e.symm)) k'.n (λB hB=>hk B (h.gl B hB).2 λe=>h.sep B hB _ (qh6 hi) e.symm) λp hp=>?_;obtain⟨q,hq,e⟩:=vB hi hp;exact .inl ⟨q,hq,e⟩
structure TEnv (W:List Nat)(mA:M)(Mb Lb k:Nat)(av:Value)(cells:Int)(acts:List Ac)(BB:Nat)(h:Gh)(fv:Value)(EV:List Ev5)(RM:List (Int × Int)):Prop where
 env:∀m,Mc mA m (Mb::Lb::W)->Env m Mb Lb av acts
 gs:∀a∈acts,AcG k acts.length cells a
 hc:cells<=4096
 al:acts.length<=65536
 bk:Bk mA BB h fv
 bkn:BB ∉ (Mb::Lb::W)
 ev:Rd mA h.ev 5 qh EV
 evn:∀B,blk h.ev=some B->B ∉ (Mb::Lb::W)
 evl:EV.length<=256
 rm:Rd mA h.rm 2 qn RM
 rmn:∀B,blk h.rm=some B->B ∉ (Mb::Lb::W)
 rml:RM.length<=4611686018427387904
structure TI (W:List Nat)(mA m:M)(Mb Lb k:Nat)(av:Value)(BB TB:Nat)(EV:List Ev5)(s:Ms)(g:Gs)(r:Rn)(lv:Value)(l:List Nat)(opn:Int):Prop where
 ri:RW W mA m Mb Lb k av s g r [(TB,wt BB Mb lv g.2.2 g.2.1 opn)]
 rl:Rd mA lv 1 vi l
 sp:Sp 1 lv
 lvn:∀B,blk lv=some B->B ∉ (Mb::Lb::W)
 lok:∀i∈l,i<EV.length
structure Fok (acts:List Ac)(s:Ms)(a:Ac):Prop where
 at_:acts[s.at_]?=some a
 ask:s.asked=true
 now:s.now=qi s a
 own:ownB a=false
section
variable {W:List Nat}{mA m m':M}{Mb Lb k BB TB:Nat}{av fv lv:Value}{cells:Int}{acts:List Ac}{h:Gh}{EV:List Ev5}{RM:List (Int × Int)}{s:Ms}{g:Gs}{r:Rn}{l:List Nat}{opn:Int}{a:Ac}
theorem TEnv.at (E:TEnv W mA Mb Lb k av cells acts BB h fv EV RM)(c:Mc mA m (Mb::Lb::W)):Bk m BB h fv/\Rd m h.ev 5 qh EV/\Rd m h.rm 2 qn RM/\Env m Mb Lb av acts :=
 ⟨E.bk.congr c.n (c.obj BB E.bk.lt E.bkn),Rd.mc E.ev E.evn c,Rd.mc E.rm E.rmn c,E.env _ c⟩
theorem Bk.any {m:M}{BB:Nat}{h:Gh}{fv:Value}(H:Bk m BB h fv):Bk (ql m) BB h fv:=H.congr (by rw[qt];exact qh8 _) (qx _ _)
theorem _root_.Go.Dx.Rd.anyM {α:Type}{m:M}{v:Value}{e:Nat}{f:α->List Value}{es:List α}(h:Rd m v e f es):Rd (ql m) v e f es:=h.congr (by rw[qt];exact qh8 _) λB _=>qx _ _
theorem qbb (E:TEnv W mA Mb Lb k av cells acts BB h fv EV RM)(F:Fok acts s a){σ:List (Nat × List Value)}(H:RW W mA m Mb Lb k av s g r σ)(v:U)(n:Nat) :
  ∃m',(ex Tryz.prog (n+4)).f 60 [mP Mb,uv v.1] (ql m)=some (iv 0,m')/\RW W mA (behind m m') Mb Lb k av (qY s a v) g r σ:=by
 have ha:=qh6 F.at_;have hg:=E.gs a ha;have hw:=xc s a;have hal:=E.al;have hlt:=(qh7.1 F.at_).1;obtain⟨v1,m1,c1,c2,c3,rfl⟩:=qbc ((E.env _ H.ow.mc).any H.mb) hg F.at_ F.ask (by rw[F.now];omega) (by rw[F.now];omega) (λhd=>by
  rw[F.now]at hd;rcases hd with ⟨hx,_⟩ | hd
  .exact rmw_D (jy s a F.own hg.op hx)
  .exact qdu s a F.own hg.op hd) v n (by rw[qt,qW];exact qh8 _) H.ne H.ms.any (by omega)
 exact⟨m1,c1,H.wr c2.behind (c3.congr (by rw[wj];exact qh8 _) (qB _ _ _) (qB _ _ _))⟩
def Vy (EV:List Ev5)(l:List Nat):U:=match l with
 | []=>u0
 | i::_=>match EV[i]? with
  | none=>u0
  | some x=>x.val
def hd (l:List Nat)(d:Int):Int:=match l with
 | []=>d
 | i::_=>i
theorem RW.any_mb {W:List Nat}{mA m:M}{Mb Lb k:Nat}{av:Value}{s:Ms}{g:Gs}{r:Rn}{σ:List (Nat × List Value)}(H:RW W mA m Mb Lb k av s g r σ):(ql m).base<=(ql m).n:=by rw[qt,qW];exact qh8 _
theorem GE (E:TEnv W mA Mb Lb k av cells acts BB h fv EV RM){σ:List (Nat × List Value)}(H:RW W mA m Mb Lb k av s g r σ){i:Nat}(hi:σ[i]?=some (TB,wt BB Mb lv g.2.2 g.2.1 opn))(hl:Rd mA lv 1 vi l)(hsp:Sp 1 lv)(hlv:∀B,blk lv=some B->B ∉ (Mb::Lb::W))(hok:∀i∈l,i<EV.length)(kind:Int)(w:Wt)(n:Nat) :
  ∃m' lv',(ex Tryz.prog (n+1)).f 99 [.pointer (some ⟨TB,0,none⟩),iv kind,.agg ⟨wtL w⟩] (ql m)=some (.bool (evM EV kind w l),m')/\RW W mA (behind m m') Mb Lb k av s g r (σ.set i (TB,wt BB Mb lv' g.2.2 g.2.1 opn)) /\
   (evM EV kind w l=true->Rd mA lv' 1 vi l.tail/\Sp 1 lv'/\∀B,blk lv'=some B->B ∉ (Mb::Lb::W))/\(evM EV kind w l=false->lv'=lv):=by
 obtain⟨x1,x2,x3,x4⟩:=E.at H.ow.mc;obtain⟨hT1,hT2,hT3⟩:=H.ow.get i hi;obtain⟨v,m1,c1,rfl,c2,lv',c3,c4,c5⟩:=YJ n H.any_mb (hT3.congr (qx _ _)) (by rw[qt];exact hT2) x1.any x2.anyM (Rd.mc hl hlv H.ow.mc).anyM hsp hok kind w (opn:=opn) (Mb:=Mb) (rv:=g.2.2) (ov:=g.2.1);refine⟨m1,lv',c1,H.ownW hi c2.behind (c3.congr (qB _ _ _)),λhb=>?_,c5⟩;have hne:0<l.length:=by
  cases l with
  | nil=>simp[evM]at hb
  | cons x y=>simp
 obtain⟨lv2,d1,d2,d3,d4,d5⟩:=Rd.dropS hl hsp xn (k:=1) (by omega) hne;have d1':slV 1 (some (.int .i64 1)) none none lv=some lv2:=d1;have:=c4 hb;rw[d1']at this;cases this;refine⟨?_,d3,λB hB=>hlv B (by rw[<-d5];exact hB)⟩;rw[show l.tail=l.drop 1 by cases l<;>rfl];exact d2
@[simp] theorem nilck_if (Mb:Nat):bu (ifM Mb)=some (ifM Mb):=_root_.id rfl
@[simp] theorem inv_feed (x:Ex) (l:List Value) (m:M) (Mb:Nat):gh x [(121,296),(133,60)] l m (ifM Mb)=x.f 60 (mP Mb::l) m:=_root_.id rfl
def LdQ (W:List Nat)(mA:M)(Mb Lb k:Nat)(av:Value)(BB TB:Nat)(EV:List Ev5)(s:Ms)(g:Gs)(r:Rn)(l:List Nat)(opn:Int)(a:Ac)(v:Value)(m':M):Prop :=
 ∃lv' opn' s' l',TI W mA m' Mb Lb k av BB TB EV s' g r lv' l' opn'/\((evM EV 1 s.now l=true/\v=zT/\s'=qY s a (Vy EV l)/\l'=l.tail/\opn'=if s.now.ex then hd l opn else opn)\/(evM EV 1 s.now l=false/\v=zF))
theorem qeb (E:TEnv W mA Mb Lb k av cells acts BB h fv EV RM)(T:TI W mA m Mb Lb k av BB TB EV s g r lv l opn)(F:Fok acts s a)(n:Nat) :
  ∃v m',(ex Tryz.prog (n+5)).f 97 [.pointer (some ⟨TB,0,none⟩),.agg ⟨wtL s.now⟩] m=some (v,m')/\LdQ W mA Mb Lb k av BB TB EV s g r l opn a v m':=by
 refine zM df6_ok (by simp) ?_;obtain⟨w,hw⟩:=qi4 (s.now);rw[<-hw];have R1:=T.ri.row (wtL w);obtain⟨m1,hm1⟩:=qi4 (Dx.newRow m (wtL w));rw[<-hm1]at R1;have lW:∀o s',load1 m1 ⟨m.n,o,s'⟩=(wtL w)[o]?:=λo s'=>(R1.get 0 rfl).load1 o s';have lT:∀o s',load1 m1 ⟨TB,o,s'⟩=(wt BB Mb lv g.2.2 g.2.1 opn)[o]?:=λo s'=>(R1.get 1 rfl).load1 o s';simp only[wtL]at lW;simp only[wt]at lT;have hlm:Rd m1 lv 1 vi l:=Rd.mc T.rl T.lvn R1.ow.mc;have hll:=hlm.len;cases l with
 | nil =>
  have hll':wB lv=some (iv 0):=hll;simp[<-hm1,lT,hll'];refine zo ⟨lv,opn,s,[],⟨R1.sub (by simp) (by simp),T.rl,T.sp,T.lvn,T.lok⟩,.inr ⟨rfl,by simp⟩⟩
 | cons i l' =>
  obtain⟨e,he⟩:∃e,EV[i]?=some e:=⟨_,qh5 (T.lok i (by simp))⟩;obtain⟨ln,hln⟩:∃ln:Nat,ln=(i::l').length:=⟨_,rfl⟩;rw[<-hln]at hll;have hl0:(ln=0)=False:=qi0 (by rw[hln];simp);have ⟨p1,p2⟩:=Rd.at1 (g:=λ(x:Nat)=>iv x) hlm (i:=0) (r:=i) rfl;have p1':wJ 1 lv zI=some (.pointer (some (adr 1 lv 0))):=p1;have S1:Sees m1 m1:=Sees.refl R1.mb;have tail:∀(m2:M) (opn2:Int) (t:Tm) {kn:Dx.K} {ke:Nat->Dx.K},RW W mA m2 Mb Lb k av s g r [(m.n,wtL w),(TB,wt BB Mb lv g.2.2 g.2.1 opn2)]->opn2=(if w.ex then (i:Int) else opn)->Tm.get 0 t=.pointer (some ⟨TB,0,none⟩)->Tm.get 3 t=.pointer (some ⟨m.n,0,none⟩)->Tm.get 5 t=iv i ->
    yN (LdQ W mA Mb Lb k av BB TB EV s g r (i::l') opn a) (qaj (ex Tryz.prog (n+4)) kn ke (wN [.t 4]) t m2):=by
   intro m2 opn2 t kn ke R2 ho t0 t3 t5;have L6:loads m2 ⟨m.n,0,none⟩ 6=some (wtL w):=(R2.get 0 rfl).loads (n:=6) (by simp[wtL]);obtain⟨m3,lv',c1,R3,c2,c3⟩:=GE E R2 (i:=1) rfl T.rl T.sp T.lvn T.lok 1 w (n+3);have R3':RW W mA (behind m2 m3) Mb Lb k av s g r [(m.n,wtL w),(TB,wt BB Mb lv' g.2.2 g.2.1 opn2)]:=R3;cases hb:evM EV 1 w (i::l') with
   | false =>
    rw[hb]at c1;simp[t0,t3,qb,L6,c1,meets];have:=c3 hb;subst this;exact zo ⟨lv',opn2,s,i::l',⟨R3'.sub (by simp) (by simp),T.rl,T.sp,T.lvn,T.lok⟩,.inr ⟨by rw[<-hw];exact hb,by simp⟩⟩
   | true =>
    rw[hb]at c1;obtain⟨d1,d2,d3⟩:=c2 hb;obtain⟨m4,f1,R4⟩:=qbb E F R3' e.val n;have lT3:∀o s',load1 (behind m2 m3) ⟨TB,o,s'⟩=(wt BB Mb lv' g.2.2 g.2.1 opn2)[o]?:=λo s'=>(R3'.get 1 rfl).load1 o s';simp only[wt]at lT3;have u1:load1 m3 ⟨TB,1,none⟩=some (ifM Mb):=by have:=lT3 1 none;simpa using this
    have u0:load1 m3 ⟨TB,0,none⟩=some (.pointer (some ⟨BB,0,none⟩)):=by have:=lT3 0 none;simpa using this
    obtain⟨x1,x2,_,_⟩:=E.at R3'.ow.mc;have b1:load1 m3 ⟨BB,1,none⟩=some h.ev:=by have:load1 (behind m2 m3) ⟨BB,1,none⟩=some h.ev:=x1.ld 1 none;simpa using this
    have ⟨a1,_,a3⟩:=x2.at he;have a33:load1 m3 ⟨(adr 5 h.ev i).block,(adr 5 h.ev i).off+3,none⟩=some (uv e.val.1):=by have:=a3 _ 3 none (Sees.refl R3'.mb) (by simp[qh]);rw[show (qh e)[3]?=some (uv e.val.1) from rfl]at this;simpa using this
    simp[t0,t3,t5,qb,L6,c1,u1,u0,b1,a1,a33,f1,meets];have hv:Vy EV (i::l')=e.val:=by unfold Vy;simp only[he]
    exact zo ⟨lv',opn2,qY s a e.val,l',⟨R4.sub (by simp) (by simp),d1,d2,d3,λj hj=>T.lok j (by simp[hj])⟩,.inl ⟨by rw[<-hw];exact hb,by simp,by rw[hv],rfl,by rw[ho,<-hw];rfl⟩⟩
  cases hx:w.ex with
  | true =>
   rw[hx]at lW;obtain⟨m2,g1,g2,g3,g4⟩:=R1.ow.store 1 rfl (o:=3) (v:=iv i) (by simp[wt]) rfl;have R2:=R1.put (i:=1) rfl g2 g3 g4;simp[<-hm1,lT,hll,hl0,p1',p2,S1,lW,g1,-ZW];exact tail m2 i _ R2 (by rw[hx];rfl) (by simp) (by simp) (by simp)
  | false =>
   rw[hx]at lW;simp[<-hm1,lT,hll,hl0,p1',p2,S1,lW,-ZW];exact tail m1 opn _ R1 (by rw[hx];rfl) (by simp) (by simp) (by simp)
end
def PaB (RM:List (Int × Int))(opn:Int)(l:List Nat):Bool:=decide (0<=opn)&&(match l with
 | []=>false
 | i::_=>decide ((opn,(i:Int))∈RM))
section
variable {W:List Nat}{mA m m':M}{Mb Lb k BB TB:Nat}{av fv lv:Value}{cells:Int}{acts:List Ac}{h:Gh}{EV:List Ev5}{RM:List (Int × Int)}{s:Ms}{g:Gs}{r:Rn}{l:List Nat}{opn:Int}{a:Ac}
theorem dA (E:TEnv W mA Mb Lb k av cells acts BB h fv EV RM)(F:Fok acts s a){σ:List (Nat × List Value)}(H:RW W mA m Mb Lb k av s g r σ)(v:U)(n:Nat) :
  ∃m',(ex Tryz.prog (n+4)).f 60 [mP Mb,uv v.1] m=some (iv 0,m')/\RW W mA m' Mb Lb k av (qY s a v) g r σ:=by
 have ha:=qh6 F.at_;have hg:=E.gs a ha;have hw:=xc s a;have hal:=E.al;have hlt:=(qh7.1 F.at_).1;obtain⟨v1,m1,c1,c2,c3,rfl⟩:=qbc (E.env _ H.ow.mc) hg F.at_ F.ask (by rw[F.now];omega) (by rw[F.now];omega) (λhd=>by
  rw[F.now]at hd;rcases hd with ⟨hx,_⟩ | hd
  .exact rmw_D (jy s a F.own hg.op hx)
  .exact qdu s a F.own hg.op hd) v n H.mb H.ne H.ms (by omega)
 exact⟨m1,c1,H.wr c2 c3⟩
theorem Ql (E:TEnv W mA Mb Lb k av cells acts BB h fv EV RM){σ:List (Nat × List Value)}(H:RW W mA m Mb Lb k av s g r σ){i:Nat}(hi:σ[i]?=some (TB,wt BB Mb lv g.2.2 g.2.1 opn))(hl:Rd mA lv 1 vi l)(hsp:Sp 1 lv)(hlv:∀B,blk lv=some B->B ∉ (Mb::Lb::W))(hok:∀i∈l,i<EV.length)(kind:Int)(w:Wt)(n:Nat) :
  ∃m' lv',(ex Tryz.prog (n+1)).f 99 [.pointer (some ⟨TB,0,none⟩),iv kind,.agg ⟨wtL w⟩] m=some (.bool (evM EV kind w l),m')/\RW W mA m' Mb Lb k av s g r (σ.set i (TB,wt BB Mb lv' g.2.2 g.2.1 opn)) /\
   (evM EV kind w l=true->Rd mA lv' 1 vi l.tail/\Sp 1 lv'/\∀B,blk lv'=some B->B ∉ (Mb::Lb::W))/\(evM EV kind w l=false->lv'=lv):=by
 obtain⟨x1,x2,x3,x4⟩:=E.at H.ow.mc;obtain⟨hT1,hT2,hT3⟩:=H.ow.get i hi;obtain⟨v,m1,c1,rfl,c2,lv',c3,c4,c5⟩:=YJ n H.mb hT3 hT2 x1 x2 (Rd.mc hl hlv H.ow.mc) hsp hok kind w (opn:=opn) (Mb:=Mb) (rv:=g.2.2) (ov:=g.2.1);refine⟨m1,lv',c1,H.ownW hi c2 c3,λhb=>?_,c5⟩;have hne:0<l.length:=by
  cases l with
  | nil=>simp[evM]at hb
  | cons x y=>simp
 obtain⟨lv2,d1,d2,d3,d4,d5⟩:=Rd.dropS hl hsp xn (k:=1) (by omega) hne;have d1':slV 1 (some (.int .i64 1)) none none lv=some lv2:=d1;have:=c4 hb;rw[d1']at this;cases this;refine⟨?_,d3,λB hB=>hlv B (by rw[<-d5];exact hB)⟩;rw[show l.tail=l.drop 1 by cases l<;>rfl];exact d2
theorem qch (E:TEnv W mA Mb Lb k av cells acts BB h fv EV RM){σ:List (Nat × List Value)}(H:RW W mA m Mb Lb k av s g r σ){i:Nat}(hi:σ[i]?=some (TB,wt BB Mb lv g.2.2 g.2.1 opn))(hl:Rd mA lv 1 vi l)(hlv:∀B,blk lv=some B->B ∉ (Mb::Lb::W))(n:Nat) :
  CallV (ex Tryz.prog (n+3)) 151 [.pointer (some ⟨TB,0,none⟩)] m (.bool (PaB RM opn l)):=by
 refine qm di1_ok (by simp) ?_;have lT:∀o s',load1 m ⟨TB,o,s'⟩=(wt BB Mb lv g.2.2 g.2.1 opn)[o]?:=λo s'=>(H.get i hi).load1 o s';simp only[wt]at lT;have hlm:=Rd.mc hl hlv H.ow.mc;have hll:=hlm.len;obtain⟨x1,_,x3,_⟩:=E.at H.ow.mc;have b4:load1 m ⟨BB,4,none⟩=some h.rm:=x1.ld 4 none;by_cases ho:0<=opn
 .have ho':(opn>=0)=True:=qi1 ho;cases l with
  | nil =>
   have hll':wB lv=some (iv 0):=hll;simp[lT,ho,hll',meets];refine qf (by simp) (by simp[PaB])
  | cons j l' =>
   obtain⟨ln,hln⟩:∃ln:Nat,ln=(j::l').length:=⟨_,rfl⟩;rw[<-hln]at hll;have hl0:(0<ln)=True:=qi1 (by rw[hln];simp);have ⟨p1,p2⟩:=Rd.at1 (g:=λ(x:Nat)=>iv x) hlm (i:=0) (r:=j) rfl;have p1':wJ 1 lv zI=some (.pointer (some (adr 1 lv 0))):=p1;have S1:Sees m m:=Sees.refl H.mb;obtain⟨v3,m3,c1,c2,rfl⟩:=ZI n (m:=ql m) H.any_mb x3.anyM E.rml (opn,(j:Int));have c1':(ex Tryz.prog (n+2)).f 194 [h.rm,.agg ⟨[iv opn,iv j]⟩] (ql m)=some (.bool (decide ((opn,(j:Int))∈RM)),m3):=c1;have hbp:=b_p opn (j:Int);simp[lT,ho,hll,hl0,b4,p1',p2,S1,hbp,c1',meets];exact qf c2.behind (by simp[PaB,ho])
 .have ho':(opn>=0)=False:=qi0 ho;simp[lT,ho,meets];refine qf (by simp) (by simp[PaB,ho])
def u1:U:=⟨1,by omega⟩
def StQ (W:List Nat)(mA:M)(Mb Lb k:Nat)(av:Value)(BB TB:Nat)(EV:List Ev5)(RM:List (Int × Int))(s:Ms)(g:Gs)(r:Rn)(l:List Nat)(opn:Int)(a:Ac)(v:Value)(m':M):Prop :=
 ∃lv' opn' s' l' g' r',TI W mA m' Mb Lb k av BB TB EV s' g' r' lv' l' opn' /\
  ((s.now.ex=false/\evM EV 2 s.now l=true/\v=zT/\s'=qY s a u0/\l'=l.tail/\opn'=opn/\r'=r) \/
   (s.now.ex=true/\PaB RM opn l=true/\evM EV 2 s.now l=true/\v=zT/\s'=qY s a u1/\l'=l.tail/\opn'=-1/\r'={ r with rmw:=r.rmw++[(opn,hd l opn)] }) \/
   ((if s.now.ex then PaB RM opn l&&evM EV 2 s.now l else evM EV 2 s.now l)=false/\v=zF))
theorem De (E:TEnv W mA Mb Lb k av cells acts BB h fv EV RM)(T:TI W mA m Mb Lb k av BB TB EV s g r lv l opn)(F:Fok acts s a)(hrl:r.rmw.length<=65536)(n:Nat) :
  ∃v m',(ex Tryz.prog (n+5)).f 98 [.pointer (some ⟨TB,0,none⟩),.agg ⟨wtL s.now⟩] m=some (v,m')/\StQ W mA Mb Lb k av BB TB EV RM s g r l opn a v m':=by
 refine zM df7_ok (by simp) ?_;obtain⟨w,hw⟩:=qi4 (s.now);rw[<-hw];have R1:=T.ri.row (wtL w);obtain⟨m1,hm1⟩:=qi4 (Dx.newRow m (wtL w));rw[<-hm1]at R1;have lW:∀o s',load1 m1 ⟨m.n,o,s'⟩=(wtL w)[o]?:=λo s'=>(R1.get 0 rfl).load1 o s';have lW6:loads m1 ⟨m.n,0,none⟩ 6=some (wtL w):=(R1.get 0 rfl).loads (n:=6) (by simp[wtL]);have lT:∀o s',load1 m1 ⟨TB,o,s'⟩=(wt BB Mb lv g.2.2 g.2.1 opn)[o]?:=λo s'=>(R1.get 1 rfl).load1 o s';simp only[wtL]at lW;simp only[wt]at lT;have fu0:(zU:Value)=uv u0.1:=rfl;have fu1:(.int .u64 1:Value)=uv u1.1:=rfl;cases hx:w.ex with
 | false =>
  rw[hx]at lW;obtain⟨m3,lv',c1,R3,c2,c3⟩:=Ql E R1 (i:=1) rfl T.rl T.sp T.lvn T.lok 2 w (n+3);have R3':RW W mA m3 Mb Lb k av s g r [(m.n,wtL w),(TB,wt BB Mb lv' g.2.2 g.2.1 opn)]:=R3;cases hb:evM EV 2 w l with
  | false =>
   rw[hb]at c1;have:=c3 hb;subst this;simp[<-hm1,lW,qb,lW6,c1];exact zo ⟨lv',opn,s,l,g,r,⟨R3'.sub (by simp) (by simp),T.rl,T.sp,T.lvn,T.lok⟩,.inr (.inr ⟨by rw[<-hw,hx];exact hb,by simp⟩)⟩
  | true =>
   rw[hb]at c1;obtain⟨d1,d2,d3⟩:=c2 hb;obtain⟨m4,f1,R4⟩:=dA E F R3' u0 n;rw[<-fu0]at f1;have lT3:∀o s',load1 m3 ⟨TB,o,s'⟩=(wt BB Mb lv' g.2.2 g.2.1 opn)[o]?:=λo s'=>(R3'.get 1 rfl).load1 o s';simp only[wt]at lT3;simp[<-hm1,lW,qb,lW6,c1,lT3,f1];exact zo ⟨lv',opn,qY s a u0,l.tail,g,r,⟨R4.sub (by simp) (by simp),d1,d2,d3,λj hj=>T.lok j (List.mem_of_mem_tail hj)⟩,.inl ⟨by rw[<-hw];exact hx,by rw[<-hw];exact hb,by simp,rfl,rfl,rfl,rfl⟩⟩
 | true =>
  rw[hx]at lW;obtain⟨v2,m2,p1,p2,rfl⟩:=qch E R1 (i:=1) rfl T.rl T.lvn (n+1);have R2:=R1.step p2;have lT2:∀o s',load1 m2 ⟨TB,o,s'⟩=(wt BB Mb lv g.2.2 g.2.1 opn)[o]?:=λo s'=>(R2.get 1 rfl).load1 o s';simp only[wt]at lT2;cases hp:PaB RM opn l with
  | false =>
   rw[hp]at p1;simp[<-hm1,lW,p1,lT2];exact zo ⟨lv,opn,s,l,g,r,⟨R2.sub (by simp) (by simp),T.rl,T.sp,T.lvn,T.lok⟩,.inr (.inr ⟨by rw[<-hw,hx,hp];rfl,by simp⟩)⟩
  | true =>
   rw[hp]at p1;cases l with
   | nil=>simp[PaB]at hp
   | cons i l' =>
    have ⟨q1,q2⟩:=Rd.at1 (g:=λ(x:Nat)=>iv x) (Rd.mc T.rl T.lvn R2.ow.mc) (i:=0) (r:=i) rfl;have q1':wJ 1 lv zI=some (.pointer (some (adr 1 lv 0))):=q1;have S2:Sees m2 m2:=Sees.refl R2.mb;obtain⟨m3,hm3⟩:=qi4 (Dx.newRow m2 [iv opn,iv (i:Int)]);have E3:Ext m2 m3:=by rw[hm3];exact Ext.row _ _
    have R3:=R2.step E3;have hbp:=b_p opn (i:Int);have hbs:wH 2 1 (rep 1 [zI,zI]) [(0,2,.agg ⟨[.int .i64 opn,.int .i64 (i:Int)]⟩)] m2=some (.slice (some ⟨m2.n,0,some 5⟩) 1 1,m3):=by rw[hm3];rfl
    have hmn:=R2.ow.mc.n;obtain⟨v4,m4',e1,e2,e3⟩:=Jq R3.gr (by omega) kl zm (x:=(opn,(i:Int))) (X:=m2.n) (sp:=some 5) (by rw[hm3];exact (Arr.row m2 _).loads (n:=2) (by simp)) (by have:=E3.n;omega) (bytes:=16) (by unfold wk;omega) (by omega);obtain⟨m4,hm4⟩:=qi4 (behind m3 m4');rw[<-hm4]at e2 e3;have R4:=R3.appR e2 e3;obtain⟨m5',g1,g1',g2,g3,g4⟩:=R4.ow.storeAny 1 rfl (o:=4) (v:=v4) (by simp[wt]) R4.gr.okC;obtain⟨m5,hm5⟩:=qi4 (behind m4 m5');rw[<-hm5]at g2 g3 g4;have R5:=R4.put (i:=1) rfl g2 g3 g4;obtain⟨m6,k1,k2,k3,k4⟩:=R5.ow.store 1 rfl (o:=3) (v:=iv (-1)) (by simp[wt]) rfl;have R6:=R5.put (i:=1) rfl k2 k3 k4;obtain⟨g',hg'⟩:∃g':Gs,g'=(g.1,g.2.1,v4):=⟨_,rfl⟩;obtain⟨r',hr'⟩:∃r':Rn,r'={ r with rmw:=r.rmw++[(opn,(i:Int))] }:=⟨_,rfl⟩;have R6':RW W mA m6 Mb Lb k av s g' r' [(m.n,wtL w),(TB,wt BB Mb lv g'.2.2 g'.2.1 (-1))]:=by rw[hg',hr'];exact R6
    have L6:loads m6 ⟨m.n,0,none⟩ 6=some (wtL w):=(R6'.get 0 rfl).loads (n:=6) (by simp[wtL]);obtain⟨m7,lv',c1,R7,c2,c3⟩:=Ql E R6' (i:=1) rfl T.rl T.sp T.lvn T.lok 2 w (n+3);have R7':RW W mA m7 Mb Lb k av s g' r' [(m.n,wtL w),(TB,wt BB Mb lv' g'.2.2 g'.2.1 (-1))]:=R7;cases hb:evM EV 2 w (i::l') with
    | false =>
     rw[hb]at c1;have:=c3 hb;subst this;simp[<-hm1,lW,p1,lT2,q1',q2,S2,hbp,hbs,e1,<-hm4,g1,<-hm5,k1,qb,L6,c1,meets,-wD];refine zo ⟨lv',-1,s,i::l',g',r',⟨R7'.sub (by simp) (by simp),T.rl,T.sp,T.lvn,T.lok⟩,.inr (.inr ⟨by rw[<-hw,hx,hp,hb];rfl,by simp⟩)⟩
    | true =>
     rw[hb]at c1;obtain⟨d1,d2,d3⟩:=c2 hb;obtain⟨m8,f1,R8⟩:=dA E F R7' u1 n;rw[<-fu1]at f1;have lT7:∀o s',load1 m7 ⟨TB,o,s'⟩=(wt BB Mb lv' g'.2.2 g'.2.1 (-1))[o]?:=λo s'=>(R7'.get 1 rfl).load1 o s';simp only[wt]at lT7;have w1:load1 m7 ⟨TB,1,none⟩=some (ifM Mb):=lT7 1 none;simp[<-hm1,lW,p1,lT2,q1',q2,S2,hbp,hbs,e1,<-hm4,g1,<-hm5,k1,qb,L6,c1,w1,f1,meets,-wD];exact zo ⟨lv',-1,qY s a u1,l',g',r',⟨R8.sub (by simp) (by simp),d1,d2,d3,λj hj=>T.lok j (by simp[hj])⟩,.inr (.inl ⟨by rw[<-hw];exact hx,hp,by rw[<-hw];exact hb,by simp,rfl,rfl,rfl,hr'⟩)⟩
end
@[simp] theorem inv_next3 (x:Ex) (l:List Value) (m:M) (Mb:Nat):gh x [(121,103),(133,59),(363,245)] l m (ifM Mb)=x.f 59 (mP Mb::l) m:=_root_.id rfl
structure Bs where
 s:Ms
 l:List Nat
 opn:Int
 r:Rn
def jf (acts:List Ac)(EV:List Ev5)(RM:List (Int × Int)):Nat->Bs->Option Rn
 | 0,_=>none
 | f+1,b=>match acts[(qG acts b.s).at_]? with
  | none=>if b.l=[] then some b.r else none
  | some a=>if ownB a then none else
   if (qi (qG acts b.s) a).what=1 then
    if evM EV 1 (qi (qG acts b.s) a) b.l then jf acts EV RM f ⟨qY (qG acts b.s) a (Vy EV b.l),b.l.tail,if (qi (qG acts b.s) a).ex then hd b.l b.opn else b.opn,b.r⟩ else none
   else if (qi (qG acts b.s) a).what=2 then
    if (qi (qG acts b.s) a).ex then
     if PaB RM b.opn b.l&&evM EV 2 (qi (qG acts b.s) a) b.l then jf acts EV RM f ⟨qY (qG acts b.s) a u1,b.l.tail,-1,{ b.r with rmw:=b.r.rmw++[(b.opn,hd b.l b.opn)] }⟩ else none
    else if evM EV 2 (qi (qG acts b.s) a) b.l then jf acts EV RM f ⟨qY (qG acts b.s) a u0,b.l.tail,b.opn,b.r⟩ else none
   else if (qi (qG acts b.s) a).what=3 then
    if evM EV 3 (qi (qG acts b.s) a) b.l then jf acts EV RM f ⟨qY (qG acts b.s) a u0,b.l.tail,b.opn,b.r⟩ else none
   else if b.r.outs.length<100000 then jf acts EV RM f ⟨qY (qG acts b.s) a u0,b.l,b.opn,{ b.r with outs:=b.r.outs++[(qi (qG acts b.s) a).val] }⟩ else none
theorem Qj {EV:List Ev5}{kind:Int}{w:Wt}{l:List Nat}(h:evM EV kind w l=true):0<l.length:=by
 cases l with
 | nil=>simp[evM]at h
 | cons x y=>simp
theorem adv_at {acts:List Ac}{k:Nat}{cells:Int}(hg:∀a∈acts,AcG k acts.length cells a):∀(f:Nat) (s:Ms),s.at_<=acts.length->(adv acts f s).at_<=acts.length:=by
 intro f
 induction f with
 | zero=>intro s h;rw[jA];exact h
 | succ f ih =>
  intro s h;cases ha:acts[s.at_]? with
  | none=>rw[jz _ ha];exact h
  | some a =>
   cases ho:ownB a with
   | true =>
    rw[xw _ ha ho];exact ih _ (qcc (hg a (qh6 ha)) ho (qh7.1 ha).1)
   | false=>rw[jh _ ha ho];exact h
theorem qe4 {acts:List Ac}:∀(f:Nat) (s:Ms),(adv acts f s).asked=s.asked:=by
 intro f
 induction f with
 | zero=>intro s;rw[jA]
 | succ f ih =>
  intro s;cases ha:acts[s.at_]? with
  | none=>rw[jz _ ha]
  | some a =>
   cases ho:ownB a with
   | true=>rw[xw _ ha ho,ih,(Kd s a).1]
   | false=>rw[jh _ ha ho]
theorem ft {acts:List Ac}{s:Ms}(h:s.asked=false):qG acts s=bg acts (adv acts 100000 { s with asked:=true }):=by
 unfold qG;rw[qhy (λhc=>by rw[h]at hc;exact absurd hc.1 (by simp))]
theorem JH {acts:List Ac}{s:Ms}(h:s.asked=false):(qG acts s).now=jl acts (qG acts s):=by
 rw[ft h];show jl acts (adv acts 100000 { s with asked:=true })=_;unfold jl bg;cases hx:acts[(adv acts 100000 { s with asked:=true }).at_]? with
 | none=>simp only[hx]
 | some a=>simp only[hx];rfl
theorem JG {acts:List Ac}{s:Ms}(h:s.asked=false):(qG acts s).asked=true:=by
 rw[ft h];show (adv acts 100000 { s with asked:=true }).asked=true;rw[qe4]
theorem qev {acts:List Ac}{k:Nat}{cells:Int}(hg:∀a∈acts,AcG k acts.length cells a){s:Ms}(h:s.asked=false)(hat:s.at_<=acts.length):(qG acts s).at_<=acts.length:=by
 rw[ft h];exact adv_at hg _ _ hat
theorem fin_at (s:Ms)(a:Ac)(v:U):(jn s a v).at_=s.at_+1:=by
 unfold jn;split
 .rfl
 .split<;>rfl
theorem VA (s:Ms)(a:Ac)(v:U):(qY s a v).at_<=s.at_+1:=by
 unfold qY;split
 .split
  .show s.at_<=s.at_+1;omega
  .rw[fin_at];exact qh8 _
 .rw[fin_at];exact qh8 _
section
variable {W:List Nat}{mA m m':M}{Mb Lb k BB TB:Nat}{av fv lv:Value}{cells:Int}{acts:List Ac}{h:Gh}{EV:List Ev5}{RM:List (Int × Int)}{s:Ms}{g:Gs}{r:Rn}{l:List Nat}{opn:Int}
def RnQ (W:List Nat)(mA:M)(Mb Lb k:Nat)(av:Value)(BB TB:Nat)(EV:List Ev5)(res:Option Rn)(v:Value)(m':M):Prop :=
 v=.bool res.isSome/\∃s g r lv l opn,TI W mA m' Mb Lb k av BB TB EV s g r lv l opn/\∀r',res=some r'->r=r'
theorem run_c (E:TEnv W mA Mb Lb k av cells acts BB h fv EV RM)(T:TI W mA m Mb Lb k av BB TB EV s g r lv l opn)(hask:s.asked=false)(hat:s.at_<=acts.length)(ho:r.outs=[])(hr:r.rmw=[])(hll:l.length<=256)(n:Nat) :
  ∃v m',(ex Tryz.prog (n+7)).f 55 [.pointer (some ⟨TB,0,none⟩)] m=some (v,m')/\RnQ W mA Mb Lb k av BB TB EV (jf acts EV RM (l.length+100001) ⟨s,l,opn,r⟩) v m':=by
 refine zM dd1_ok (by simp) ?_;obtain⟨RES,hRES⟩:=qi4 (jf acts EV RM (l.length+100001) ⟨s,l,opn,r⟩);rw[<-hRES];simp;refine qq (c:=qa2) rfl (yN (RnQ W mA Mb Lb k av BB TB EV RES)) (λi t m'=>∃s' g' r' lv' l' opn',TI W mA m' Mb Lb k av BB TB EV s' g' r' lv' l' opn'/\s'.asked=false/\s'.at_<=acts.length/\i+l'.length=l.length+r'.outs.length/\r'.outs.length<=100000/\r'.rmw.length+l'.length<=l.length/\RES=jf acts EV RM (l.length+100001-i) ⟨s',l',opn',r'⟩/\Tm.get 0 t=.pointer (some ⟨TB,0,none⟩)) (l.length+100000) (by omega)
  ⟨s,g,r,lv,l,opn,T,hask,hat,by rw[ho];simp,by rw[ho];simp,by rw[hr];simp,hRES,by simp⟩ (λi t m' kk hi hI hk=>?_)
 obtain⟨s',g',r',lv',l',opn',T,hask,hat,hm,ho1,hr1,hres,t0⟩:=hI;obtain⟨S,hS⟩:=qi4 (qG acts s');obtain⟨f,hf⟩:∃f,l.length+100001-i=f+1:=⟨l.length+100001-i-1,by omega⟩;have hf2:l.length+100001-(i+1)=f:=by omega
 rw[hf]at hres;have hSask:S.asked=true:=by rw[hS];exact JG hask
 have hSat:S.at_<=acts.length:=by rw[hS];exact qev E.gs hask hat
 have hSnow:S.now=jl acts S:=by rw[hS];exact JH hask
 unfold jf at hres;simp only[<-hS]at hres;obtain⟨v1,m1,c1,c2,c3,rfl⟩:=qeu E.hc (E.env _ T.ri.ow.mc) E.gs E.al hat n T.ri.mb T.ri.ne T.ri.ms;rw[<-hS]at c1 c3;have R1:=T.ri.wr c2 c3;have R2:=R1.row Z6;obtain⟨m2,hm2⟩:=qi4 (Dx.newRow m1 Z6);rw[<-hm2]at R2;obtain⟨m3,g1,g2,g3,g4⟩:=R2.ow.storeN 0 rfl (o:=0) (l':=wtL S.now) (n:=6) (by omega) rfl (by simp) (jL _);have R3:=R2.put (i:=0) rfl g2 g3 g4;have R3':RW W mA m3 Mb Lb k av S g' r' [(m1.n,wtL S.now),(TB,wt BB Mb lv' g'.2.2 g'.2.1 opn')]:=R3;have g1':ww 6 (.pointer (some ⟨m1.n,0,none⟩)) (.agg ⟨wtL S.now⟩) (Dx.newRow m1 [zI,zI,zI,zU,zF,zF])=some (undef,m3):=by rw[show Dx.newRow m1 [zI,zI,zI,zU,zF,zF]=m2 from hm2.symm];exact g1
 have T3:TI W mA m3 Mb Lb k av BB TB EV S g' r' lv' l' opn':=⟨R3'.sub (by simp) (by simp),T.rl,T.sp,T.lvn,T.lok⟩;have lT:∀o s',load1 m' ⟨TB,o,s'⟩=(wt BB Mb lv' g'.2.2 g'.2.1 opn')[o]?:=λo s'=>(T.ri.get 0 rfl).load1 o s';have lT3:∀o s',load1 m3 ⟨TB,o,s'⟩=(wt BB Mb lv' g'.2.2 g'.2.1 opn')[o]?:=λo s'=>(R3'.get 1 rfl).load1 o s';have lW:load1 m3 ⟨m1.n,0,none⟩=some (iv S.now.what):=(R3'.get 0 rfl).load1 0 none;have lW3:load1 m3 ⟨m1.n,3,none⟩=some (uv S.now.val.1):=(R3'.get 0 rfl).load1 3 none;have lW6:loads m3 ⟨m1.n,0,none⟩ 6=some (wtL S.now):=(R3'.get 0 rfl).loads (n:=6) (by simp[wtL]);simp only[wt]at lT lT3;have stop:∀{m4:M} {s4:Ms} {g4:Gs} {r4:Rn} {lv4:Value} {l4:List Nat} {opn4:Int} {t4:Tm},TI W mA m4 Mb Lb k av BB TB EV s4 g4 r4 lv4 l4 opn4->RES=none->Tm.get 2 t4=zF->yN (RnQ W mA Mb Lb k av BB TB EV RES) (wN [.t 2] t4 m4):=λT4 hn h2=>zo ⟨by rw[hn];exact h2,_,_,_,_,_,_,T4,λr' hr'=>by rw[hn]at hr';cases hr'⟩;have fu0:(zU:Value)=uv u0.1:=rfl;cases ha:acts[S.at_]? with
 | none =>
  rw[ha]at hres;simp only at hres;have hw:S.now=xu:=by rw[hSnow];unfold jl;rw[ha]
  rw[hw]at lW;have lW5:load1 m3 ⟨m1.n,0,none⟩=some (iv 5):=lW;have hll':=(Rd.mc T.rl T.lvn R3'.ow.mc).len;by_cases hl0:l'=[]
  .rw[qhz hl0]at hres;rw[hl0]at hll';have hll'':wB lv'=some (iv 0):=hll';simp[t0,lT,c1,g1',lW5,lT3,hll''];exact zo ⟨by rw[hres];simp,_,_,_,_,_,_,T3,λr2 hr2=>by rw[hres]at hr2;cases hr2;rfl⟩
  .rw[qhy hl0]at hres;have hne:(l'.length=0)=False:=qi0 (λe=>hl0 (qhn e));have hne':(l'=[])=False:=qi0 hl0;simp[t0,lT,c1,g1',lW5,lT3,hll',hne];exact stop T3 hres (by simp)
 | some a =>
  rw[ha]at hres;simp only at hres;cases how:ownB a with
  | true =>
   rw[how,qhz rfl]at hres;have hw:S.now=xG:=by rw[hSnow];unfold jl;rw[ha];simp[how]
   rw[hw]at lW;have lW5:load1 m3 ⟨m1.n,0,none⟩=some (iv 6):=lW;simp[t0,lT,c1,g1',lW5];exact stop T3 hres (by simp)
  | false =>
   rw[how,qhy (by simp)]at hres;have hw:S.now=qi S a:=by rw[hSnow];unfold jl;rw[ha];simp[how]
   have F:Fok acts S a:=⟨ha,hSask,hw,how⟩;rw[<-hw]at hres;have hlt:=(qh7.1 ha).1;have hwh:=xc S a;rw[<-hw]at hwh;have nxt:∀{m4:M} {s4:Ms} {g4:Gs} {r4:Rn} {lv4:Value} {l4:List Nat} {opn4:Int} {t4:Tm} {v4:U},TI W mA m4 Mb Lb k av BB TB EV s4 g4 r4 lv4 l4 opn4->s4=qY S a v4->i<l.length+100000->i+1+l4.length=l.length+r4.outs.length->r4.outs.length<=100000->r4.rmw.length+l4.length<=l.length->RES=jf acts EV RM f ⟨s4,l4,opn4,r4⟩->Tm.get 0 t4=.pointer (some ⟨TB,0,none⟩)->yN (RnQ W mA Mb Lb k av BB TB EV RES) (kk t4 m4):=by
    intro m4 s4 g4 r4 lv4 l4 opn4 t4 v4 T4 hs hi1 hi2 hi3 hi4 hr4 ht;exact hk hi1 _ _ ⟨_,_,_,_,_,_,T4,by rw[hs];exact Vz _ _ _,by rw[hs];have:=VA S a v4;omega,hi2,hi3,hi4,by rw[hf2];exact hr4,ht⟩
   rcases hwh with h1 | h1 | h1 | h1
   .rw[qhz h1]at hres;rw[h1]at lW;obtain⟨v4,m4,d1,lv4,opn4,s4,l4,T4,hc⟩:=qeb E T3 F (n+1);rcases hc with ⟨e1,rfl,e2,e3,e4⟩ | ⟨e1,rfl⟩
    .rw[qhz e1]at hres;have hl1:=Qj e1;simp[t0,lT,c1,g1',lW,qb,lW6,d1];refine nxt T4 e2 (by omega) (by rw[e3,List.length_tail];omega) ho1 (by rw[e3,List.length_tail];omega) (by rw[hres,e2,e3,e4]) (by simp[t0])
    .rw[qhy (by rw[e1];simp)]at hres;simp[t0,lT,c1,g1',lW,qb,lW6,d1];exact stop T4 hres (by simp)
   .rw[qhy (by omega),qhz h1]at hres;rw[h1]at lW;obtain⟨v4,m4,d1,lv4,opn4,s4,l4,g4',r4,T4,hc⟩:=De E T3 F (by omega) (n+1);rcases hc with ⟨e0,e1,rfl,e2,e3,e4,e5⟩ | ⟨e0,ep,e1,rfl,e2,e3,e4,e5⟩ | ⟨e1,rfl⟩
    .rw[e0,qhy (by simp),qhz e1]at hres;have hl1:=Qj e1;simp[t0,lT,c1,g1',lW,qb,lW6,d1];refine nxt T4 e2 (by omega) (by rw[e3,e5,List.length_tail];omega) (by rw[e5];exact ho1) (by rw[e5,e3,List.length_tail];omega) (by rw[hres,e2,e3,e4,e5]) (by simp[t0])
    .rw[qhz e0,qhz (by rw[ep,e1];rfl)]at hres;have hl1:=Qj e1;simp[t0,lT,c1,g1',lW,qb,lW6,d1];refine nxt T4 e2 (by omega) (by rw[e3,e5,List.length_tail];show i+1+(l'.length-1)=l.length+r'.outs.length;omega) (by rw[e5];exact ho1) (by rw[e5,e3,List.length_tail];show (r'.rmw++[_]).length+(l'.length-1)<=l.length;rw[qhf];simp;omega) (by rw[hres,e2,e3,e4,e5]) (by simp[t0])
    .have hres':RES=none:=by
      cases hx:S.now.ex with
      | true =>
       rw[hx,qhz rfl]at e1;rw[hx,qhz rfl,qhy (by rw[e1];simp)]at hres;exact hres
      | false =>
       rw[hx,qhy (by simp)]at e1;rw[hx,qhy (by simp),qhy (by rw[e1];simp)]at hres;exact hres
     simp[t0,lT,c1,g1',lW,qb,lW6,d1];exact stop T4 hres' (by simp)
   .rw[qhy (by omega),qhy (by omega),qhz h1]at hres;rw[h1]at lW;obtain⟨m4,lv4,d1,R4,d2,d3⟩:=Ql E R3' (i:=1) rfl T.rl T.sp T.lvn T.lok 3 S.now (n+5);have R4':RW W mA m4 Mb Lb k av S g' r' [(m1.n,wtL S.now),(TB,wt BB Mb lv4 g'.2.2 g'.2.1 opn')]:=R4;cases hb:evM EV 3 S.now l' with
    | false =>
     rw[hb]at d1;rw[qhy (by rw[hb];simp)]at hres;have:=d3 hb;subst this;simp[t0,lT,c1,g1',lW,qb,lW6,d1];exact stop (opn4:=opn') ⟨R4'.sub (by simp) (by simp),T.rl,T.sp,T.lvn,T.lok⟩ hres (by simp)
    | true =>
     rw[hb]at d1;rw[qhz hb]at hres;obtain⟨e1,e2,e3⟩:=d2 hb;have hl1:=Qj hb;obtain⟨m5,f1,R5⟩:=dA E F R4' u0 (n+2);rw[<-fu0]at f1;have lT4:load1 m4 ⟨TB,1,none⟩=some (ifM Mb):=(R4'.get 1 rfl).load1 1 none;simp[t0,lT,c1,g1',lW,qb,lW6,d1,lT4,f1];refine nxt (v4:=u0) ⟨R5.sub (by simp) (by simp),e1,e2,e3,λj hj=>T.lok j (List.mem_of_mem_tail hj)⟩ rfl (by omega) (by rw[List.length_tail];omega) ho1 (by rw[List.length_tail];omega) hres (by simp[t0])
   .rw[qhy (by omega),qhy (by omega),qhy (by omega)]at hres;rw[h1]at lW;have E4:Ext m3 (Dx.newRow m3 [uv S.now.val.1]):=Ext.row _ _;obtain⟨m4,hm4⟩:=qi4 (Dx.newRow m3 [uv S.now.val.1]);rw[<-hm4]at E4;have R4:=R3'.step E4;have hbs:wH 1 1 (rep 1 [zU]) [(0,1,uv S.now.val.1)] m3=some (.slice (some ⟨m3.n,0,some 3⟩) 1 1,m4):=by rw[hm4];exact bs_u _ _
    have hmn:=R3'.ow.mc.n;obtain⟨v5,m5',e1,e2,e3⟩:=Jq R4.go (by omega) (λ_=>rfl) fA (x:=S.now.val) (X:=m3.n) (sp:=some 3) (by rw[hm4];exact (Arr.row m3 _).loads (n:=1) (by simp)) (by have:=E4.n;omega) (bytes:=8) (by unfold wk;omega) (by omega);obtain⟨m5,hm5⟩:=qi4 (behind m4 m5');rw[<-hm5]at e2 e3;have R5:=R4.appO e2 e3;obtain⟨m6',q1,q1',q2,q3,q4⟩:=R5.ow.storeAny 1 rfl (o:=6) (v:=v5) (by simp[wt]) R5.go.okC;obtain⟨m6,hm6⟩:=qi4 (behind m5 m6');rw[<-hm6]at q2 q3 q4;have R6:=R5.put (i:=1) rfl q2 q3 q4;obtain⟨G,hG⟩:∃G:Gs,G=(g'.1,v5,g'.2.2):=⟨_,rfl⟩;obtain⟨r6,hr6⟩:∃r6:Rn,r6={ r' with outs:=r'.outs++[S.now.val] }:=⟨_,rfl⟩;have R6':RW W mA m6 Mb Lb k av S G r6 [(m1.n,wtL S.now),(TB,wt BB Mb lv' G.2.2 G.2.1 opn')]:=by rw[hG,hr6];exact R6
    have lT6:∀o s',load1 m6 ⟨TB,o,s'⟩=(wt BB Mb lv' G.2.2 v5 opn')[o]?:=λo s'=>by have:=(R6'.get 1 rfl).load1 o s';rw[hG]at this ⊢;exact this
    simp only[wt]at lT6;have hlen5:wB v5=some (iv ((r'.outs.length+1:Nat):Int)):=by have:=R6'.go.lens;rw[hr6,hG]at this;simpa using this
    obtain⟨ln,hln⟩:∃ln:Nat,ln=r'.outs.length+1:=⟨_,rfl⟩;rw[<-hln]at hlen5;rw[hw,<-hw]at lW3;by_cases hmax:r'.outs.length<100000
    .rw[qhz hmax]at hres;obtain⟨m7,f1,R7⟩:=dA E F R6' u0 (n+2);rw[<-fu0]at f1;have hle:((ln:Int)<=100000)=True:=qi1 (by omega);have hle':(ln<=100000)=True:=qi1 (by omega);simp[t0,lT,c1,g1',lW,lW3,lT3,hbs,e1,<-hm5,q1,<-hm6,lT6,hlen5,hle,f1,meets,-wD];refine nxt (v4:=u0) (opn4:=opn') (r4:=r6) ⟨R7.sub (by simp) (by simp),T.rl,T.sp,T.lvn,T.lok⟩ rfl (by omega) (by rw[hr6];show i+1+l'.length=l.length+(r'.outs++[_]).length;rw[qhf];simp;omega) (by rw[hr6];show (r'.outs++[_]).length<=_;rw[qhf];simp;omega) (by rw[hr6];exact hr1) (by rw[hres,hr6]) (by simp[t0])
    .rw[qhy hmax]at hres;have hle:((ln:Int)<=100000)=False:=qi0 (by omega);have hle':(ln<=100000)=False:=qi0 (by omega);simp[t0,lT,c1,g1',lW,lW3,lT3,hbs,e1,<-hm5,q1,<-hm6,lT6,hlen5,hle,meets,-wD];exact stop (opn4:=opn') ⟨R6'.sub (by simp) (by simp),T.rl,T.sp,T.lvn,T.lok⟩ hres (by simp)
end
end Go.Sx
