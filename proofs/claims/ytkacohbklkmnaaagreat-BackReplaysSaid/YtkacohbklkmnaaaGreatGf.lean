/- Contracts. -/
import Derived.Test.YtkacohbklkmnaaaGreatGe
import Derived.Test.YtkacohbklkmnaaaGreatGd
import Derived.Test.YtkacohbklkmnaaaGreatEd
set_option linter.unusedVariables false
set_option linter.unusedSimpArgs false
set_option linter.defProp false
namespace Go.Sx
open Go.Dx Go.Proofs
set_option maxRecDepth 10000
instance cdf3:Cdf:=⟨3⟩
theorem Zr {α:Type}{m:M}{e:Nat}{f:α->List Value}:Rd m zS e f []:=⟨rfl,λi r hr=>by simp at hr,rfl,λB hB=>by cases hB⟩
theorem JK {α:Type}{m:M}{e:Nat}{f:α->List Value}{es:List α}{n c:Nat}(h:Rd m (.slice none n c) e f es):es=[]:=by
 cases hc:es with
 | nil=>rfl
 | cons x xs=>have:=(h.row 0 x (by rw[hc];rfl)).1;cases this
theorem dO (n:Nat)(ed:Value)(es:List Nd)(hl:es.length<=65536)(m:M)(hm:m.base<=m.n)(hed:Rd m ed 4 qv es) :
  Dx.Call (ex Tryz.prog (n+1)) 107 [ed] m λv m'=>Rd m' v 4 qv es/\∀B,blk v=some B->m.n<=B:=by
 refine qm dg0_ok (by simp) ?_;have hel:=hed.len;have hn:=Jd hel;obtain⟨v',m',h1,h2,h3,h4,h5⟩:=jN hm hed JL 32 (by unfold wk;omega) (by omega);have hbs:wH 4 0 (rep 0 [zI,zU,zI,zI]) [] m=some (.slice (some ⟨m.n,0,some (code 4 true)⟩) 0 0,Dx.newRow m []):=rfl;simp[hn];cases ed with
 | slice a k c =>
  cases a with
  | none =>
   simp;obtain rfl:=JK hed;exact qf (by simp) (by simp only[dD,reduceIte];exact⟨Zr,λB hB=>by cases hB⟩)
  | some a =>
   simp[hbs,h1];exact qf h2 (by simp only[dD,reduceIte];exact⟨h3,λB hB=>(h4 B hB).1⟩)
 | _=>cases hel
theorem zq (a:Ac):(qe a).length=11:=rfl
theorem BK (n:Nat)(ed:Value)(es:List Ac)(hl:es.length<=65536)(m:M)(hm:m.base<=m.n)(hed:Rd m ed 11 qe es) :
  Dx.Call (ex Tryz.prog (n+1)) 106 [ed] m λv m'=>Rd m' v 11 qe es/\(∀B,blk v=some B->m.n<=B/\Arr m' B (es.flatMap qe))/\(es≠[]->∃B,v=.slice (some ⟨B,0,some (code 11 false)⟩) es.length es.length):=by
 refine qm df9_ok (by simp) ?_;have hel:=hed.len;have hn:=Jd hel;obtain⟨v',m',h1,h2,h3,h4,h5⟩:=jN hm hed zq 136 (by unfold wk;omega) (by omega);have hbs:wH 11 0 (rep 0 [zI,zI,zI,zI,zS,zS,zS,zI,zI,zI,zI]) [] m=some (.slice (some ⟨m.n,0,some (code 11 true)⟩) 0 0,Dx.newRow m []):=rfl;simp[hn];cases ed with
 | slice a k c =>
  cases a with
  | none =>
   simp;obtain rfl:=JK hed;exact qf (by simp) (by simp only[dD,reduceIte];exact⟨Zr,(λB hB=>by cases hB),λh=>absurd trivial h⟩)
  | some a =>
   simp[hbs,h1];exact qf h2 (by simp only[dD,reduceIte];exact⟨h3,h4,λh=>⟨_,h5 h⟩⟩)
 | _=>cases hel
def AcEq (a b:Ac):Prop:=∃x y z,a={ b with ix:=x,ev:=y,fv:=z }
theorem AcEq.refl (a:Ac):AcEq a a:=⟨a.ix,a.ev,a.fv,rfl⟩
def ms0 (k:Nat):Ms:=⟨0,List.replicate k u0,wt0,false,u0,false⟩
structure NewF (m0:M)(v':Value)(cur:List Ac):Prop where
 av:∀B,blk v'=some B->m0.n<=B
 ac:∀a∈cur,∀B,(blk a.ix=some B\/blk a.ev=some B\/blk a.fv=some B)->m0.n<=B
def NewP (m0:M)(k:Nat)(cur:List Ac)(v:Value)(m':M):Prop :=
 ∃Mb Lb v',v=.tuple #[mP Mb,iv 0]/\Mb≠Lb/\m0.n<=Mb/\m0.n<=Lb/\MsAt m' Mb Lb k v' (ms0 k)/\Env m' Mb Lb v' cur/\NewF m0 v' cur
theorem Jy (k:Nat):((List.range k).flatMap λ_=>[zU])=lsR (List.replicate k u0):=by
 rw[YP];unfold grR lsR;rw[List.map_nil,List.nil_append,List.length_nil,Nat.sub_zero,List.map_replicate];rfl
abbrev Z13:List Value:=[zI,zS,zI,zS,zI,zI,zI,zU,zF,zF,zF,zU,zF]
theorem JF {m0 m:M}{σ:List (Nat × List Value)}{Bt k:Nat}{v':Value}{cur:List Ac}(st:St m0 m ((Bt,[iv k,v'])::σ))(hR:Rd m v' 11 qe cur)(hok:∀a∈cur,AcOK m a)(hF:NewF m0 v' cur)(hk:k<=24){x:Ex}{kn:K}{ke:Nat->K}{t:Tm}(t6:Tm.get 6 t=.pointer (some ⟨Bt,0,none⟩)) :
  Ret m0 (NewP m0 k cur) (XY x kn ke (wN [.t 4,.t 5]) t m):=by
 have l2:loads m ⟨Bt,0,none⟩ 2=some [iv k,v']:=(st.get 0 rfl).2.2.loads (n:=2) (by simp);have l1:∀o s,load1 m ⟨Bt,o,s⟩=[iv k,v'][o]?:=λo s=>(st.get 0 rfl).2.2.load1 o s;have mk:=ya (n:=k) (e:=1) (bytes:=8) (zs:=[zU]) rfl (by omega) (by unfold wk;omega) (by omega) m;rw[Jy]at mk;obtain⟨m1,hm1⟩:=qi4 (Dx.newRow m (lsR (List.replicate k u0)));rw[<-hm1]at mk;obtain⟨a,n,c,rfl⟩:∃a n c,v'=.slice a n c:=by
  have:=hR.len;cases v' with
  | slice a n c=>exact⟨a,n,c,rfl⟩
  | _=>cases this
 obtain⟨R,hRw⟩:∃R:List Value,R=[.int .i64 k,.slice a n c,zI,.slice (some ⟨m.n,0,some 3⟩) k k,zI,zI,zI,zU,zF,zF,zF,zU,zF]:=⟨_,rfl⟩;have b:wg Z13 [(0,2,.agg ⟨[iv k,.slice a n c]⟩),(3,1,.slice (some ⟨m.n,0,some (code 1 true)⟩) k k)]=some (.agg ⟨R⟩):=by rw[hRw];rfl
 obtain⟨m2,hm2⟩:=qi4 (Dx.newRow m1 R);have st1:=st.row (lsR (List.replicate k u0));rw[<-hm1]at st1;have st2:=st1.row R;rw[<-hm2]at st2;have hn1:m1.n=m.n+1:=by rw[hm1];exact wL _ _
 have E2:Ext m m2:=by rw[hm2,hm1];exact (Ext.row _ _).trans (Ext.row _ _)
 have hm0:=st.ext.n;have hrow:qJ k (.slice a n c) (lvV m.n k) (ms0 k)=R:=by rw[hRw];rfl
 have S2:Sees m m2:=((Sees.refl (by rw[st.ext.base];exact qhh st.base hm0)).ext E2);simp[t6,l2,l1,qb,mk,b,<-hm2];refine kg st2.ext ⟨m1.n,m.n,.slice a n c,by simp,by omega,by omega,by omega,⟨by rw[hrow];exact (st2.get 0 rfl).2.2,(st2.get 1 rfl).2.2,List.length_replicate,(st2.get 0 rfl).2.1,(st2.get 1 rfl).2.1⟩,⟨hR.sees S2,λB hB=>?_,λx hx=>⟨(hok x hx).sees S2,?_,?_,?_⟩⟩,hF⟩
 .have:=hR.lt B hB;simp;omega
 .intro B hB;have:=(hok x hx).ix.lt B hB;simp;omega
 .intro B hB;have:=(hok x hx).ev.lt B hB;simp;omega
 .intro B hB;have:=(hok x hx).fv.lt B hB;simp;omega
theorem xz {α:Type}{e:Nat}{f:α->List Value}(hf:∀x,(f x).length=e){o:Nat}(ho:o<e){v:Value}:∀{l:List α} {i:Nat} {a a':α},l[i]?=some a->f a'=(f a).set o v->(l.flatMap f).set (i*e+o) v=(l.set i a').flatMap f
 | [],i,a,a',h,_=>by simp at h
 | x::l,0,a,a',h,h2=>by
  simp at h;subst h;rw[Nat.zero_mul,Nat.zero_add,List.set_cons_zero,List.flatMap_cons,List.flatMap_cons,List.set_append_left _ _ (by rw[hf];exact ho),h2]
 | x::l,i+1,a,a',h,h2=>by
  rw[List.set_cons_succ,List.flatMap_cons,List.flatMap_cons,List.set_append_right _ _ (by rw[hf,Nat.succ_mul];omega),hf,show (i+1)*e+o-e=i*e+o by rw[Nat.succ_mul];omega,xz hf ho (by simpa using h) h2]
theorem qeh {k na:Nat}{cells:Int}{a:Ac}(h:AcG k na cells a):a.es.length<=65536/\a.fs.length<=65536/\a.ixs.length<=65536:=by
 have h1:=h.es;unfold esB at h1;simp only[qhb]at h1;have len:∀(p:Bool) (e:List Nd),decide (p=decide (0<e.length))=true->(!p||we k e)=true->e.length<=65536:=λp e hp he=>by
  have hp':=qi2 hp;cases p with
  | true=>simp at he;exact (xZ he).2.1
  | false =>
   have:¬0<e.length:=of_decide_eq_false hp'.symm;omega
 refine⟨len _ _ h1.1.1.1 h1.1.2,len _ _ h1.1.1.2 h1.2,?_⟩;have h2:=h.pl;unfold plB at h2;cases hp:pP a.op with
 | true =>
  rw[hp]at h2;simp only[if_true]at h2;unfold jp at h2;simp only[qhb]at h2;have h3:=h2.2;by_cases h0:a.size=0
  .rw[qhz h0]at h3;have:=qi2 h3;omega
  .rw[qhy h0]at h3;exact (xZ h3).2.1
 | false =>
  rw[hp]at h2;simp at h2;have:=h2.2.2;rw[this];simp
structure NJ (m0 m:M)(Bc i:Nat)(acts cur:List Ac):Prop where
 len:cur.length=acts.length
 eq:∀(j:Nat) a,acts[j]?=some a->∃a',cur[j]?=some a'/\AcEq a' a/\AcOK m a'
 old:∀(j:Nat),i<=j->cur[j]?=acts[j]?
 own:∀(j:Nat) a',j<i->cur[j]?=some a'->∀B,(blk a'.ix=some B\/blk a'.ev=some B\/blk a'.fv=some B)->Bc<B
theorem AcOK.congr {m m':M}{a:Ac}(h:AcOK m a)(hn:m.n<=m'.n)(k:∀B,(blk a.ix=some B\/blk a.ev=some B\/blk a.fv=some B)->m'.obj B=m.obj B):AcOK m' a :=
 ⟨h.ix.congr hn λB hB=>k B (.inl hB),h.ev.congr hn λB hB=>k B (.inr (.inl hB)),h.fv.congr hn λB hB=>k B (.inr (.inr hB)),h.ixl,h.evl,h.fvl⟩
theorem AcOK.lt {m:M}{a:Ac}(h:AcOK m a):∀B,(blk a.ix=some B\/blk a.ev=some B\/blk a.fv=some B)->B<m.n:=λB hB=>by
 rcases hB with hB | hB | hB
 .exact h.ix.lt B hB
 .exact h.ev.lt B hB
 .exact h.fv.lt B hB
theorem QQ {m0:M}{P Q:Value->M->Prop}{o:Option Out}(h:Ret m0 P o)(k:∀v m',P v m'->Q v m'):Ret m0 Q o:=let ⟨v,m',e,h1,h2⟩:=h;⟨v,m',e,h1,k v m' h2⟩
theorem _root_.Go.Dx.St.add {m0 m:M}{σ:List (Nat × List Value)}{B:Nat}{l:List Value}(h:St m0 m σ)(h1:m0.n<=B)(h2:B<m.n)(h3:Arr m B l)(h4:∀p∈σ,p.1≠B):St m0 m ((B,l)::σ):=by
 refine⟨h.ext,h.base,λp hp=>?_,?_⟩
 .rcases List.mem_cons.1 hp with rfl | hp
  .exact⟨h1,h2,h3⟩
  .exact h.arr p hp
 .rw[List.map_cons,List.nodup_cons];refine⟨λhm=>?_,h.nd⟩;obtain⟨q,hq,e⟩:=List.mem_map.1 hm;exact h4 q hq e
theorem New_c (p:Pg)(th:Int)(N:Nat)(m:M)(hm:m.base<=m.n)(hp:PgOK m p) :
  Dx.Call (ex Tryz.prog (N+6)) 58 [pgV p,iv th] m λv m' =>
   if pgB p=true/\0<=th/\th<p.ths.length then ∃t cur,p.ths[th.toNat]?=some t/\cur.length=t.acts.length/\(∀(j:Nat) a,t.acts[j]?=some a->∃a',cur[j]?=some a'/\AcEq a' a)/\NewP m t.loc.toNat cur v m'
   else v=.tuple #[.pointer none,iv 1]:=by
 refine qm dd2_ok (by simp) ?_;obtain⟨n,hn⟩:=qi4 (p.ths.length);have hll:wB p.tv=some (.int .i64 (n:Int)):=by rw[hn];exact hp.tv.len
 have st1:=(St.nil hm (Ext.refl m)).row [iv p.cells,p.tv];obtain⟨m1,hm1⟩:=qi4 (Dx.newRow m [iv p.cells,p.tv]);rw[<-hm1]at st1;have l2:loads m1 ⟨m.n,0,none⟩ 2=some [iv p.cells,p.tv]:=(st1.get 0 rfl).2.2.loads (n:=2) (by simp);obtain⟨v2,m2,c1,c2,rfl⟩:=YA p N m1 st1.sees.self.base (hp.sees st1.sees);have st2:=st1.step c2;have l1:∀o s,load1 m2 ⟨m.n,o,s⟩=[iv p.cells,p.tv][o]?:=λo s=>(st2.get 0 rfl).2.2.load1 o s;have hpv:pgV p=.agg ⟨[iv p.cells,p.tv]⟩:=rfl;rw[hpv]at c1 ⊢;rw[<-hn];cases hB:pgB p with
 | false =>
  rw[hB]at c1;rw[show (λ(v:Value) (m':M)=>if false=true/\0<=th/\th<(n:Int) then _ else v=.tuple #[.pointer none,iv 1])=λ(v:Value) (m':M)=>v=.tuple #[.pointer none,iv 1] from funext λv=>funext λm'=>qhy (by simp)]
  simp[<-hm1,l2,qb,c1];exact kg st2.ext (by simp)
 | true =>
 rw[hB]at c1;by_cases h0:th<0
 .have e0:(th<0)=True:=qi1 h0;rw[show (λ(v:Value) (m':M)=>if true=true/\0<=th/\th<(n:Int) then _ else v=.tuple #[.pointer none,iv 1])=λ(v:Value) (m':M)=>v=.tuple #[.pointer none,iv 1] from funext λv=>funext λm'=>qhy (by omega)]
  simp[<-hm1,l2,qb,c1,e0];exact kg st2.ext (by simp)
 have e0:(th<0)=False:=qi0 h0;by_cases h1:(n:Int)<=th
 .have e1:((n:Int)<=th)=True:=qi1 h1;rw[show (λ(v:Value) (m':M)=>if true=true/\0<=th/\th<(n:Int) then _ else v=.tuple #[.pointer none,iv 1])=λ(v:Value) (m':M)=>v=.tuple #[.pointer none,iv 1] from funext λv=>funext λm'=>qhy (by omega)]
  simp[<-hm1,l2,qb,c1,e0,l1,hll,e1];exact kg st2.ext (by simp)
 have e1:((n:Int)<=th)=False:=qi0 h1;obtain⟨T,hT⟩:∃T:Nat,th=T:=⟨th.toNat,by omega⟩;obtain⟨t,ht⟩:∃t,p.ths[T]?=some t:=⟨_,qh5 (by omega)⟩;have htok:=hp.ths t (qh6 ht);have htB:thB p.cells t=true:=by
  unfold pgB at hB;simp only[qhb]at hB;exact List.all_eq_true.1 hB.2.2 t (qh6 ht)
 unfold thB at htB;simp only[qhb,qi3]at htB;obtain⟨⟨hl0,hl1⟩,htl,hacts⟩:=htB;have hac:∀a∈t.acts,AcG t.loc.toNat t.acts.length p.cells a:=λa ha=>dR (List.all_eq_true.1 hacts a ha);obtain⟨k,hk⟩:=qi4 (t.loc.toNat);have hkl:t.loc=(k:Int):=by omega
 have hT':th.toNat=T:=by omega
 rw[show (λ(v:Value) (m':M)=>if true=true/\0<=th/\th<(n:Int) then (∃t cur,p.ths[th.toNat]?=some t/\cur.length=t.acts.length/\(∀(j:Nat) a,t.acts[j]?=some a->∃a',cur[j]?=some a'/\AcEq a' a)/\NewP m t.loc.toNat cur v m') else v=.tuple #[.pointer none,iv 1])=λ(v:Value) (m':M)=>(∃t cur,p.ths[th.toNat]?=some t/\cur.length=t.acts.length/\(∀(j:Nat) a,t.acts[j]?=some a->∃a',cur[j]?=some a'/\AcEq a' a)/\NewP m t.loc.toNat cur v m') from funext λv=>funext λm'=>qhz ⟨rfl,by omega,by omega⟩]
 suffices H:Ret m (λv m'=>∃cur:List Ac,cur.length=t.acts.length/\(∀(j:Nat) a,t.acts[j]?=some a->∃a',cur[j]?=some a'/\AcEq a' a)/\NewP m k cur v m') (XZ (ex Tryz.prog (N+5)) (wN [.t 4,.t 5]) noK (wN [.t 4,.t 5]) (jk .blank 0 [.agg ⟨[iv p.cells,p.tv]⟩,iv th]) m) by
  obtain⟨v,m',e,e2,cur,q1,q2,q3⟩:=H;exact⟨v,m',e,e2,t,cur,by rw[hT'];exact ht,q1,q2,by rw[<-hk];exact q3⟩
 have ⟨a1,a2,_⟩:=hp.tv.at ht;rw[<-hT]at a1;have a2':=a2 m2 st2.sees;simp only[zd]at a2';rw[hkl]at a2';have st3:=st2.row [zI,zS];obtain⟨m3,hm3⟩:=qi4 (Dx.newRow m2 [zI,zS]);rw[<-hm3]at st3;obtain⟨m4,f1,f2,f3,f4⟩:=st3.fill 0 rfl (n:=2) (l':=[iv k,t.av]) rfl rfl (by simp[okC];exact htok.av.okV);have l4:∀o s,load1 m4 ⟨m2.n,o,s⟩=[iv k,t.av][o]?:=λo s=>(f2.get 0 rfl).2.2.load1 o s;obtain⟨v5,m5,g1,g2,g3,g4,g5⟩:=BK (N+4) t.av t.acts htl m4 f2.sees.self.base (htok.av.sees f2.sees);have st5:=f2.step g2;have okv5:okC v5=true:=g3.okV;obtain⟨m6,i1,i2,i3,i4⟩:=st5.store 0 rfl (o:=1) (v:=v5) (by simp) okv5;have st6:St m m6 [(m2.n,[iv k,v5]),(m.n,[iv p.cells,p.tv])]:=i2;have h25:m2.n<m4.n:=by rw[f3,hm3,wL];omega
 have hlt5:∀B,blk v5=some B->B≠m2.n:=λB hB=>by have:=(g4 B hB).1;omega
 have R6:Rd m6 v5 11 qe t.acts:=g3.congr (by rw[i3];exact qh8 _) λB hB=>i4 B (hlt5 B hB);have l6:∀o s,load1 m6 ⟨m2.n,o,s⟩=[iv k,v5][o]?:=λo s=>(st6.get 0 rfl).2.2.load1 o s;obtain⟨na,hna⟩:=qi4 (t.acts.length);have hal:wB v5=some (.int .i64 (na:Int)):=by rw[hna];exact R6.len
 simp[<-hm1,l2,qb,c1,e0,l1,hll,e1,a1,a2',<-hm3,f1,l4,g1,i1,l6,hal,-gY];by_cases hz:t.acts=[]
 .-- no acts
  have hna0:na=0:=by rw[hna,hz];rfl
  refine qq (c:=XX) rfl (Ret m _) (λi T' m'=>m'=m6/\Tm.get 6 T'=.pointer (some ⟨m2.n,0,none⟩)/\Tm.get 34 T'=iv na/\Tm.get 35 T'=iv 0) 0 (by omega)
   ⟨rfl,by simp,by simp,by simp⟩ (λi T' m' k' hi hI hk'=>?_)
  obtain⟨rfl,t6,t34,t35⟩:=hI;have hd:((0:Int)<(na:Int))=False:=qi0 (by omega);have hd':(0<na)=False:=qi0 (by omega);simp[t34,t35,hd',-gY];exact QQ (JF (σ:=[(m.n,[iv p.cells,p.tv])]) st6 R6 (λa ha=>by rw[hz]at ha;cases ha) ⟨λB hB=>by have:=(g4 B hB).1;have:=f2.ext.n;omega,λa ha=>by rw[hz]at ha;cases ha⟩ (by omega) (by simp[t6])) (λv m' h=>⟨t.acts,rfl,λj a hj=>⟨a,hj,AcEq.refl a⟩,h⟩)
 .obtain⟨Bc,hv5⟩:=g5 hz;obtain⟨hBc,hArr⟩:=g4 Bc (by rw[hv5];rfl);have hBc6:Bc<m6.n:=R6.lt Bc (by rw[hv5];rfl);have hmn2:m.n<=m2.n:=st2.ext.n;have hmm2:m.n<m2.n:=(st2.get 0 rfl).2.1;have st6c:St m m6 [(Bc,t.acts.flatMap qe),(m2.n,[iv k,v5]),(m.n,[iv p.cells,p.tv])]:=by
   refine st6.add (by omega) hBc6 (hArr.congr (i4 Bc (hlt5 Bc (by rw[hv5];rfl)))) (λq hq=>?_);rcases List.mem_cons.1 hq with rfl | hq
   .show m2.n≠Bc;omega
   .rw[qhc.1 hq];show m.n≠Bc;omega
  have hap0:∀a∈t.acts,AcOK m a:=htok.acts;rw[<-hna]at hv5;have hnal:na<=65536:=by rw[hna];exact htl
  have ix:∀j,j<na->wJ 11 v5 (.int .i64 (j:Int))=some (.pointer (some ⟨Bc,j*11,none⟩)):=λj hj=>by rw[hv5];exact KS Bc na j hj
  refine qq (c:=XX) rfl (Ret m _) (λi T' m'=>∃cur,St m m' [(Bc,cur.flatMap qe),(m2.n,[iv k,v5]),(m.n,[iv p.cells,p.tv])]/\NJ m m' Bc i t.acts cur/\Tm.get 6 T'=.pointer (some ⟨m2.n,0,none⟩)/\Tm.get 33 T'=v5/\Tm.get 34 T'=iv na/\Tm.get 35 T'=iv i) na (by omega)
   ⟨t.acts,st6c,⟨rfl,λj a hj=>⟨a,hj,AcEq.refl a,(hap0 a (qh6 hj)).sees st6.sees⟩,λj _=>rfl,λj a' hj=>absurd hj (qhv _)⟩,by simp,by simp,by simp,by simp⟩ (λi T' m' k' hi hI hk'=>?_)
  obtain⟨cur,st,nj,t6,t33,t34,t35⟩:=hI;have hcl:cur.length=na:=nj.len.trans hna.symm;by_cases hil:i<na
  .have hd:=dlt hil;have ni:=qK (i:=i) (by omega);obtain⟨ai,hai⟩:∃a,t.acts[i]?=some a:=⟨_,qh5 (by omega)⟩;have hci:cur[i]?=some ai:=(nj.old i (qh8 _)).trans hai;have hmem:=qh6 hai;have haok:=hap0 ai hmem;have hacg:=hac ai hmem;obtain⟨el,fl,xl⟩:=qeh hacg;have hRc:Rd m' v5 11 qe cur:=by
    have:=jx (c:=code 11 false) zq (st.get 0 rfl).2.2 (st.get 0 rfl).2.1;rw[hcl]at this;rw[hv5];exact this
   have ⟨b1,b2,_⟩:=hRc.at hci;have b2':=b2 m' st.sees.self;have ixi:=ix i hil;have hadr:adr 11 v5 i=⟨Bc,i*11,none⟩:=by
    have:=b1.symm.trans ixi;injection this with this;injection this with this;injection this
   rw[hadr]at b2';have s1:=st.row Z11;obtain⟨n1,hn1⟩:=qi4 (Dx.newRow m' Z11);rw[<-hn1]at s1;obtain⟨n2,x1,x2,x3,x4⟩:=s1.fill 0 rfl (n:=11) (l':=qe ai) rfl rfl (zn haok);have s2:St m n2 [(m'.n,qe ai),(Bc,cur.flatMap qe),(m2.n,[iv k,v5]),(m.n,[iv p.cells,p.tv])]:=x2;have la2:∀o s,load1 n2 ⟨m'.n,o,s⟩=(qe ai)[o]?:=λo s=>(s2.get 0 rfl).2.2.load1 o s;have lt2:∀o s,load1 n2 ⟨m2.n,o,s⟩=[iv k,v5][o]?:=λo s=>(s2.get 2 rfl).2.2.load1 o s;simp only[qe]at la2;obtain⟨e',n3',y1,y2,y3,y4,y5⟩:=qZ (dO (N+4) ai.ev ai.es el (ql n2) (qp s2.sees).base (haok.ev.sees (qp s2.sees)));obtain⟨n3,hn3⟩:=qi4 (behind n2 n3');rw[<-hn3]at y3;have s3:=s2.step y3;have y4':Rd n3 e' 4 qv ai.es:=by rw[hn3];exact y4.behind
   have la3:∀o s,load1 n3 ⟨m'.n,o,s⟩=(qe ai)[o]?:=λo s=>(s3.get 0 rfl).2.2.load1 o s;simp only[qe]at la3;obtain⟨f',n4',z1,z2,z3,z4,z5⟩:=qZ (dO (N+4) ai.fv ai.fs fl (ql n3) (qp s3.sees).base (haok.fv.sees (qp s3.sees)));obtain⟨n4,hn4⟩:=qi4 (behind n3 n4');rw[<-hn4]at z3;have s4:=s3.step z3;have z4':Rd n4 f' 4 qv ai.fs:=by rw[hn4];exact z4.behind
   have la4:∀o s,load1 n4 ⟨m'.n,o,s⟩=(qe ai)[o]?:=λo s=>(s4.get 0 rfl).2.2.load1 o s;simp only[qe]at la4;obtain⟨x',n5',w1,w2,w3,w4,w5⟩:=qZ (dO (N+4) ai.ix ai.ixs xl (ql n4) (qp s4.sees).base (haok.ix.sees (qp s4.sees)));obtain⟨n5,hn5⟩:=qi4 (behind n4 n5');rw[<-hn5]at w3;have s5:=s4.step w3;have w4':Rd n5 x' 4 qv ai.ixs:=by rw[hn5];exact w4.behind
   have nn2:n2.n=m'.n+1:=by rw[x3,hn1,wL]
   have nn3:=y3.n;have nn4:=z3.n;have nn5:=w3.n;have hBcm:Bc<m'.n:=(st.get 0 rfl).2.1;rw[qt]at y5 z5 w5;have hfl:(cur.flatMap qe).length=na*11:=by rw[wU zq,hcl]
   have hbd:=qhq 11 (Nat.succ_le_of_lt hil);rw[Nat.succ_mul]at hbd;obtain⟨n6',p1,p2,p3,p4,p5⟩:=s5.storeAny 1 rfl (o:=i*11+5) (v:=e') (by rw[hfl];omega) y4.okV;obtain⟨n6,hn6⟩:=qi4 (behind n5 n6');rw[<-hn6]at p3 p4 p5;rw[xz zq (by omega) hci (show qe { ai with ev:=e' }=(qe ai).set 5 e' from rfl)]at p3;have hci6:(cur.set i { ai with ev:=e' })[i]?=some { ai with ev:=e' }:=by rw[qhp (by omega)]
   obtain⟨n7',q1,q2,q3,q4,q5⟩:=p3.storeAny 1 rfl (o:=i*11+6) (v:=f') (by rw[wU zq,List.length_set,hcl];omega) z4.okV;obtain⟨n7,hn7⟩:=qi4 (behind n6 n7');rw[<-hn7]at q3 q4 q5;have q3':St m n7 (List.set [(m'.n,qe ai),(Bc,(cur.set i { ai with ev:=e' }).flatMap qe),(m2.n,[iv k,v5]),(m.n,[iv p.cells,p.tv])] 1 (Bc,((cur.set i { ai with ev:=e' }).flatMap qe).set (i*11+6) f')):=q3;rw[xz zq (by omega) hci6 (show qe { ai with ev:=e',fv:=f' }=(qe { ai with ev:=e' }).set 6 f' from rfl),List.set_set]at q3';have hci7:(cur.set i { ai with ev:=e',fv:=f' })[i]?=some { ai with ev:=e',fv:=f' }:=by rw[qhp (by omega)]
   obtain⟨n8',r1,r2,r3,r4,r5⟩:=q3'.storeAny 1 rfl (o:=i*11+4) (v:=x') (by rw[wU zq,List.length_set,hcl];omega) w4.okV;obtain⟨n8,hn8⟩:=qi4 (behind n7 n8');rw[<-hn8]at r3 r4 r5;have r3':St m n8 (List.set [(m'.n,qe ai),(Bc,(cur.set i { ai with ev:=e',fv:=f' }).flatMap qe),(m2.n,[iv k,v5]),(m.n,[iv p.cells,p.tv])] 1 (Bc,((cur.set i { ai with ev:=e',fv:=f' }).flatMap qe).set (i*11+4) x')):=r3;obtain⟨a',ha'⟩:∃a':Ac,a'={ ai with ix:=x',ev:=e',fv:=f' }:=⟨_,rfl⟩;rw[xz zq (by omega) hci7 (show qe a'=(qe { ai with ev:=e',fv:=f' }).set 4 x' by rw[ha'];rfl),List.set_set]at r3';have st8:St m n8 [(Bc,(cur.set i a').flatMap qe),(m2.n,[iv k,v5]),(m.n,[iv p.cells,p.tv])]:=r3'.sub (by intro q hq;exact qhg _ hq) (by have:=r3'.nd;simp only[List.set_cons_succ,List.set_cons_zero,List.map_cons,List.map_nil,List.nodup_cons]at this ⊢;exact this.2);have n58:n8.n=n5.n:=by rw[r4,q4,p4]
   have keep5:∀B,B≠Bc->n8.obj B=n5.obj B:=λB hB=>by rw[r5 B hB,q5 B hB,p5 B hB]
   have keep2:∀B,B<n2.n->n5.obj B=n2.obj B:=λB hB=>by rw[w3.obj B (by omega),z3.obj B (by omega),y3.obj B (by omega)]
   have keep1:∀B,B<m'.n->n2.obj B=m'.obj B:=λB hB=>by
    rw[x4 B (by omega),hn1];exact (Ext.row m' Z11).obj B hB
   have keep:∀B,B<m'.n->B≠Bc->n8.obj B=m'.obj B:=λB hB hne=>by rw[keep5 B hne,keep2 B (by omega),keep1 B hB]
   have hR8:∀{v:Value} {es:List Nd} {mm:M},Rd mm v 4 qv es->mm.n<=n5.n->(∀B,B<mm.n->n5.obj B=mm.obj B)->(∀B,blk v=some B->n2.n<=B)->Rd n8 v 4 qv es:=λ{v es mm} hv hmm hob hlo=>hv.congr (by omega) λB hB=>by
    rw[keep5 B (by have:=hlo B hB;omega),hob B (hv.lt B hB)]
   have ok':AcOK n8 a':=by
    rw[ha'];exact⟨hR8 w4' (qh8 _) (λ_ _=>rfl) (λB hB=>by have:=w5 B hB;omega),hR8 y4' (by omega) (λB hB=>by rw[w3.obj B (by omega),z3.obj B hB]) (λB hB=>y5 B hB),hR8 z4' (by omega) (λB hB=>w3.obj B hB) (λB hB=>by have:=z5 B hB;omega),haok.ixl,haok.evl,haok.fvl⟩
   have nj8:NJ m n8 Bc (i+1) t.acts (cur.set i a'):=by
    refine⟨by rw[List.length_set];exact nj.len,λj a hj=>?_,λj hj=>?_,λj b hj hb=>?_⟩
    .by_cases hji:j=i
     .subst hji;rw[hai]at hj;cases hj;exact⟨a',qhp (by omega),⟨x',e',f',ha'⟩,ok'⟩
     .obtain⟨b,hb1,hb2,hb3⟩:=nj.eq j a hj;refine⟨b,by rw[qht (Ne.symm hji)];exact hb1,hb2,?_⟩;by_cases hlt:j<i
      .exact hb3.congr (by omega) λB hB=>keep B (hb3.lt B hB) (by have:=nj.own j b hlt hb1 B hB;omega)
      .have:b=a:=by
        have:=nj.old j (by omega);rw[hb1,hj]at this;exact Option.some.inj this
       subst this;exact (hap0 b (qh6 hj)).sees st8.sees
    .rw[qht (by omega)];exact nj.old j (by omega)
    .by_cases hji:j=i
     .subst hji;rw[qhp (by omega)]at hb;cases hb;intro B hB;rw[ha']at hB;rcases hB with hB | hB | hB
      .have:=w5 B hB;omega
      .have:=y5 B hB;omega
      .have:=z5 B hB;omega
     .rw[qht (Ne.symm hji)]at hb;exact nj.own j b (by omega) hb
   have hne1:¬m2.n=Bc:=by omega
   have hne2:¬Bc=m2.n:=by omega
   simp[t6,t33,t34,t35,hd,b2',qb,<-hn1,x1,la2,lt2,y1,y2,<-hn3,la3,z1,z2,<-hn4,la4,w1,w2,<-hn5,ixi,p1,p2,<-hn6,q1,q2,<-hn7,r1,r2,<-hn8,hne1,ni];exact hk' hil _ _ ⟨cur.set i a',st8,nj8,by simp[t6],by simp[t33],by simp[t34],by simp⟩
  .obtain rfl:i=na:=by omega
   have hd:((i:Int)<(i:Int))=False:=qi0 (by omega);simp[t34,t35,hd,-gY];have st':St m m' ((m2.n,[iv k,v5])::[(m.n,[iv p.cells,p.tv])]):=st.sub (by intro q hq;exact qhg _ hq) (by have:=st.nd;simp only[List.map_cons,List.map_nil,List.nodup_cons]at this ⊢;exact this.2);have hRc:Rd m' v5 11 qe cur:=by
    have:=jx (c:=code 11 false) zq (st.get 0 rfl).2.2 (st.get 0 rfl).2.1;rw[hcl]at this;rw[hv5];exact this
   refine QQ (JF st' hRc (λa ha=>?_) ⟨λB hB=>?_,λa ha B hB=>?_⟩ (by omega) (by simp[t6])) (λv m' h=>⟨cur,nj.len,λj a hj=>let ⟨b,h1,h2,_⟩:=nj.eq j a hj;⟨b,h1,h2⟩,h⟩)
   .obtain⟨j,hj⟩:=qhr ha;have hjl:=(qh7.1 hj).1;obtain⟨b,h1,_,h3⟩:=nj.eq j _ (qh5 (show j<t.acts.length by omega));rw[hj]at h1;cases h1;exact h3
   .have:=(g4 B hB).1;have:=f2.ext.n;omega
   .obtain⟨j,hj⟩:=qhr ha;have hjl:=(qh7.1 hj).1;have:=nj.own j a (by omega) hj B hB;have:=f2.ext.n;omega
end Go.Sx
namespace Go.Dx
structure Ap (m m':M)(v v':Value):Prop where
 n:m.n<=m'.n
 base:m'.base=m.base
 log:∀C∈m'.log,C∈m.log\/(blk v=some C/\C<m.base)
 low:(∀B,blk v=some B->m.base<=B)->m'.log=m.log
 obj:∀B,B<m.n->blk v≠some B->m'.obj B=m.obj B
 new:∀B,blk v'=some B->m.n<=B
section
variable {α:Type}{m0 m m':M}{v:Value}{e:Nat}{f:α->List Value}{es:List α}
theorem Qy (h:Grown m0 m v e f es)(he:0<e)(hf:∀x,(f x).length=e)(hok:∀x,∀v∈f x,okC v=true){x:α}{X:Nat}{sp:Option Nat}
  (hx:loads m ⟨X,0,sp⟩ e=some (f x)) (h0:m0.n<=m.n) {bytes:Nat} (hm:(es.length+1)*bytes<=wk) (hn:es.length+1<=4611686018427387904) :
  ∃v' m',wZ m e bytes v (.slice (some ⟨X,0,sp⟩) 1 1)=some (v',m')/\Grown m0 m' v' e f (es++[x])/\Ap m m' v v':=by
 obtain⟨v',m',h1,h2,h3,h4,h5,h6,h7⟩:=h.core he hf hok hx h0 hm hn;refine⟨v',m',h1,h2,by omega,h4,λC hC=>?_,λhl=>?_,h6,h7⟩
 .rcases h5 with h5 | ⟨B,hB,_,h5⟩
  .rw[h5]at hC;exact .inl hC
  .rw[h5]at hC;rcases vj hC with h' | ⟨rfl,h'⟩
   .exact .inl h'
   .exact .inr ⟨hB,h'⟩
 .rcases h5 with h5 | ⟨B,hB,_,h5⟩
  .exact h5
  .rw[h5,gv (hl B hB)]
theorem Jq (h:Grown m0 m v e f es)(he:0<e)(hf:∀x,(f x).length=e)(hok:∀x,∀v∈f x,okC v=true){x:α}{X:Nat}{sp:Option Nat}
  (hx:loads m ⟨X,0,sp⟩ e=some (f x)) (h0:m0.n<=m.n) {bytes:Nat} (hm:(es.length+1)*bytes<=wk) (hn:es.length+1<=4611686018427387904) :
  ∃v' m',wZ (ql m) e bytes v (.slice (some ⟨X,0,sp⟩) 1 1)=some (v',m')/\Grown m0 (Dx.behind m m') v' e f (es++[x])/\Ap m (Dx.behind m m') v v':=by
 have hA:Grown m0 (ql m) v e f es:=h.keep (by rw[qt];exact qh8 _) λB _ _=>qx _ _;have hx':loads (ql m) ⟨X,0,sp⟩ e=some (f x):=by rw[GM];exact hx
 obtain⟨v',m',h1,h2,h3⟩:=Qy hA he hf hok hx' (by rw[qt];exact h0) hm hn;have hl:∀C∈m'.log,blk v=some C:=λC hC=>by
  rcases h3.log C hC with h' | h'
  .rw[wu]at h';cases h'
  .exact h'.1
 refine⟨v',m',h1,h2.keep (by rw[wj];exact qh8 _) λB _ _=>qB _ _ _,?_⟩;refine⟨by rw[wj];have:=h3.n;rwa [qt]at this,kC _ _,λC hC=>?_,λhlo=>?_,λB hB hne=>by rw[qB,h3.obj B (by rw[qt];exact hB) hne,qx],λB hB=>by have:=h3.new B hB;rwa [qt]at this⟩
 .rw[ku]at hC;rcases bx hC with h' | h'
  .exact .inl h'
  .by_cases hb:C<m.base
   .exact .inr ⟨hl C h',hb⟩
   .refine .inl ?_;have key:∀(l wl:List Nat),C∈notes m.base wl l->C∈wl:=by
     intro l
     induction l with
     | nil=>intro wl h;exact h
     | cons B l ih =>
      intro wl h;rcases vj (ih _ h) with h | ⟨rfl,h⟩
      .exact h
      .exact absurd h hb
    exact key _ _ hC
 .rw[ku];exact yb λB hB=>hlo B (hl B hB)
theorem Ow.app {W:List Nat}{σ:List (Nat × List Value)}{v':Value}(h:Ow m0 m W σ)(k:Ap m m' v v')(h1:∀B,blk v=some B->m0.n<=B)(h2:∀B,blk v=some B->∀p∈σ,p.1≠B):Ow m0 m' W σ:=by
 have hb:=h.base;have hmb:=h.mc.base;refine⟨⟨qhh h.mc.n k.n,λB hB hW=>(k.obj B (qha hB h.mc.n) λhv=>?_).trans (h.mc.obj B hB hW),k.base.trans hmb,λC hC=>?_,λhW=>?_⟩,h.base,λp hp=>?_,h.nd⟩
 .have:=h1 B hv;omega
 .rcases k.log C hC with h' | ⟨h',h''⟩
  .exact h.mc.log C h'
  .have:=h1 C h';omega
 .rw[k.low λB hB=>by have:=h1 B hB;omega];exact h.mc.low hW
 .obtain⟨a,b,c⟩:=h.arr p hp;exact⟨a,qha b k.n,c.congr (k.obj _ b λhv=>h2 _ hv p hp rfl)⟩
end
end Go.Dx
namespace Go.Sx
open Go.Dx Go.Proofs
set_option maxRecDepth 10000
structure Rn where
 evs:List Ev5
 outs:List U
 rmw:List (Int × Int)
 used:Nat
def qn (p:Int × Int):List Value:=[iv p.1,iv p.2]
def zb (ev ov rv:Value)(st loc:Int)(used:Nat):List Value:=[ev,rv,zS,zS,zS,ov,iv st,iv loc,iv used]
abbrev Gs:=Value × Value × Value
structure RI (mA m:M)(Mb Lb k:Nat)(av:Value)(s:Ms)(g:Gs)(r:Rn)(σ:List (Nat × List Value)):Prop where
 ow:Ow mA m [Mb,Lb] σ
 ms:MsAt m Mb Lb k av s
 ge:Grown mA m g.1 5 qh r.evs
 go:Grown mA m g.2.1 1 qS r.outs
 gr:Grown mA m g.2.2 2 qn r.rmw
 sep:∀B,(blk g.1=some B\/blk g.2.1=some B\/blk g.2.2=some B)->∀p∈σ,p.1≠B
 eo:∀B,blk g.1=some B->blk g.2.1≠some B/\blk g.2.2≠some B
 or_:∀B,blk g.2.1=some B->blk g.2.2≠some B
 lowM:Mb<mA.n
 lowL:Lb<mA.n
 ne:Mb≠Lb
 own:∀p∈σ,mA.n<=p.1
section
variable {mA m m':M}{Mb Lb k:Nat}{av:Value}{s s':Ms}{g:Gs}{r:Rn}{σ σ':List (Nat × List Value)}
theorem RI.gl (h:RI mA m Mb Lb k av s g r σ):∀B,(blk g.1=some B\/blk g.2.1=some B\/blk g.2.2=some B)->mA.n<=B/\B<m.n:=λB hB=>by
 rcases hB with hB | hB | hB
 .exact grown_low h.ge B hB
 .exact grown_low h.go B hB
 .exact grown_low h.gr B hB
theorem RI.of (h:RI mA m Mb Lb k av s g r σ)(how:Ow mA m' [Mb,Lb] σ')(hms:MsAt m' Mb Lb k av s')(hn:m.n<=m'.n)(hk:∀B,(blk g.1=some B\/blk g.2.1=some B\/blk g.2.2=some B)->m'.obj B=m.obj B)(hσ:∀p∈σ',(∃q∈σ,q.1=p.1)\/m.n<=p.1):RI mA m' Mb Lb k av s' g r σ' :=
 ⟨how,hms,h.ge.keep hn λB _ hB=>hk B (.inl hB),h.go.keep hn λB _ hB=>hk B (.inr (.inl hB)),h.gr.keep hn λB _ hB=>hk B (.inr (.inr hB)),λB hB p hp=>by
  rcases hσ p hp with ⟨q,hq,e⟩ | h'
  .rw[<-e];exact h.sep B hB q hq
  .have:=(h.gl B hB).2;omega,h.eo,h.or_,h.lowM,h.lowL,h.ne,λp hp=>by
  rcases hσ p hp with ⟨q,hq,e⟩ | h'
  .rw[<-e];exact h.own q hq
  .have:=h.ow.mc.n;omega⟩
theorem RI.step (h:RI mA m Mb Lb k av s g r σ)(e:Ext m m'):RI mA m' Mb Lb k av s g r σ :=
 h.of (h.ow.step e) (h.ms.ext e) e.n (λB hB=>e.obj B (h.gl B hB).2) λp hp=>.inl ⟨p,hp,rfl⟩
theorem RI.row (h:RI mA m Mb Lb k av s g r σ)(l:List Value):RI mA (Dx.newRow m l) Mb Lb k av s g r ((m.n,l)::σ) :=
 h.of (h.ow.row l) (h.ms.ext (Ext.row m l)) (Ext.row m l).n (λB hB=>(Ext.row m l).obj B (h.gl B hB).2) λp hp=>by
  rcases List.mem_cons.1 hp with rfl | hp
  .exact .inr (qh8 _)
  .exact .inl ⟨p,hp,rfl⟩
theorem RI.sub (h:RI mA m Mb Lb k av s g r σ)(hs:∀p∈σ',p∈σ)(hn:(σ'.map (·.1)).Nodup):RI mA m Mb Lb k av s g r σ' :=
 h.of (h.ow.sub hs hn) h.ms (qh8 _) (λ_ _=>rfl) λp hp=>.inl ⟨p,hs p hp,rfl⟩
theorem RI.put (h:RI mA m Mb Lb k av s g r σ){i b:Nat}{l l':List Value}(hi:σ[i]?=some (b,l))(how:Ow mA m' [Mb,Lb] (σ.set i (b,l')))(hn:m'.n=m.n)(ho:∀X,X≠b->m'.obj X=m.obj X):RI mA m' Mb Lb k av s g r (σ.set i (b,l')):=by
 have hb:=h.own _ (qh6 hi);have hM:=h.lowM;have hL:=h.lowL;simp only at hb;refine h.of how (h.ms.congr (by omega) (ho _ (by omega)) (ho _ (by omega))) (by omega) (λB hB=>ho B λe=>h.sep B hB _ (qh6 hi) e.symm) λp hp=>?_;obtain⟨q,hq,e⟩:=vB hi hp;exact .inl ⟨q,hq,e⟩
theorem RI.wr (h:RI mA m Mb Lb k av s g r σ)(k':Mc m m' [Mb,Lb])(hms:MsAt m' Mb Lb k av s'):RI mA m' Mb Lb k av s' g r σ:=by
 have hM:=h.lowM;have hL:=h.lowL;have out:∀B,mA.n<=B->B ∉ [Mb,Lb]:=λB hB=>by simp;omega
 refine h.of ⟨h.ow.mc.trans k',h.ow.base,λp hp=>?_,h.ow.nd⟩ hms k'.n (λB hB=>k'.obj B (h.gl B hB).2 (out B (h.gl B hB).1)) λp hp=>.inl ⟨p,hp,rfl⟩;obtain⟨a,b,c⟩:=h.ow.arr p hp;exact⟨a,qha b k'.n,c.congr (k'.obj _ b (out _ (h.own p hp)))⟩
theorem RI.env (h:RI mA m Mb Lb k av s g r σ){acts:List Ac}(hE:Env mA Mb Lb av acts):Env m Mb Lb av acts:=hE.mc h.ow.mc
theorem RI.get (h:RI mA m Mb Lb k av s g r σ)(i:Nat){b:Nat}{l:List Value}(hi:σ[i]?=some (b,l)):Arr m b l:=(h.ow.get i hi).2.2
theorem RI.mb (h:RI mA m Mb Lb k av s g r σ):m.base<=m.n:=h.ow.mb
theorem RI.appE {x:Ev5}{v':Value}(h:RI mA m Mb Lb k av s g r σ)(hg:Grown mA m' v' 5 qh (r.evs++[x]))(hA:Ap m m' g.1 v'):RI mA m' Mb Lb k av s (v',g.2) { r with evs:=r.evs++[x] } σ:=by
 have hM:=h.lowM;have hL:=h.lowL;have hmn:=h.ow.mc.n;have kp:∀B,B<m.n->blk g.1≠some B->m'.obj B=m.obj B:=hA.obj;have no:∀B,B<mA.n->blk g.1≠some B:=λB hB e=>by have:=(h.gl B (.inl e)).1;omega
 refine⟨h.ow.app hA (λB hB=>(h.gl B (.inl hB)).1) (λB hB=>h.sep B (.inl hB)),h.ms.congr hA.n (kp _ (by omega) (no _ hM)) (kp _ (by omega) (no _ hL)),hg,h.go.keep hA.n λB hB hb=>kp B hB λe=>(h.eo B e).1 hb,h.gr.keep hA.n λB hB hb=>kp B hB λe=>(h.eo B e).2 hb,λB hB p hp=>?_,λB hB=>⟨λe=>?_,λe=>?_⟩,h.or_,h.lowM,h.lowL,h.ne,h.own⟩
 .rcases hB with hB | hB
  .have:=hA.new B hB;have:=(h.ow.arr p hp).2.1;omega
  .exact h.sep B (.inr hB) p hp
 .have:=hA.new B hB;have:=(h.gl B (.inr (.inl e))).2;omega
 .have:=hA.new B hB;have:=(h.gl B (.inr (.inr e))).2;omega
theorem RI.appO {x:U}{v':Value}(h:RI mA m Mb Lb k av s g r σ)(hg:Grown mA m' v' 1 qS (r.outs++[x]))(hA:Ap m m' g.2.1 v'):RI mA m' Mb Lb k av s (g.1,v',g.2.2) { r with outs:=r.outs++[x] } σ:=by
 have hM:=h.lowM;have hL:=h.lowL;have hmn:=h.ow.mc.n;have kp:∀B,B<m.n->blk g.2.1≠some B->m'.obj B=m.obj B:=hA.obj;have no:∀B,B<mA.n->blk g.2.1≠some B:=λB hB e=>by have:=(h.gl B (.inr (.inl e))).1;omega
 refine⟨h.ow.app hA (λB hB=>(h.gl B (.inr (.inl hB))).1) (λB hB=>h.sep B (.inr (.inl hB))),h.ms.congr hA.n (kp _ (by omega) (no _ hM)) (kp _ (by omega) (no _ hL)),h.ge.keep hA.n λB hB hb=>kp B hB λe=>(h.eo B hb).1 e,hg,h.gr.keep hA.n λB hB hb=>kp B hB λe=>h.or_ B e hb,λB hB p hp=>?_,λB hB=>⟨λe=>?_,(h.eo B hB).2⟩,λB hB e=>?_,h.lowM,h.lowL,h.ne,h.own⟩
 .rcases hB with hB | hB | hB
  .exact h.sep B (.inl hB) p hp
  .have:=hA.new B hB;have:=(h.ow.arr p hp).2.1;omega
  .exact h.sep B (.inr (.inr hB)) p hp
 .have:=hA.new B e;have:=(h.gl B (.inl hB)).2;omega
 .have:=hA.new B hB;have:=(h.gl B (.inr (.inr e))).2;omega
theorem RI.appR {x:Int × Int}{v':Value}(h:RI mA m Mb Lb k av s g r σ)(hg:Grown mA m' v' 2 qn (r.rmw++[x]))(hA:Ap m m' g.2.2 v'):RI mA m' Mb Lb k av s (g.1,g.2.1,v') { r with rmw:=r.rmw++[x] } σ:=by
 have hM:=h.lowM;have hL:=h.lowL;have hmn:=h.ow.mc.n;have kp:∀B,B<m.n->blk g.2.2≠some B->m'.obj B=m.obj B:=hA.obj;have no:∀B,B<mA.n->blk g.2.2≠some B:=λB hB e=>by have:=(h.gl B (.inr (.inr e))).1;omega
 refine⟨h.ow.app hA (λB hB=>(h.gl B (.inr (.inr hB))).1) (λB hB=>h.sep B (.inr (.inr hB))),h.ms.congr hA.n (kp _ (by omega) (no _ hM)) (kp _ (by omega) (no _ hL)),h.ge.keep hA.n λB hB hb=>kp B hB λe=>(h.eo B hb).2 e,h.go.keep hA.n λB hB hb=>kp B hB λe=>h.or_ B hb e,hg,λB hB p hp=>?_,λB hB=>⟨(h.eo B hB).1,λe=>?_⟩,λB hB e=>?_,h.lowM,h.lowL,h.ne,h.own⟩
 .rcases hB with hB | hB | hB
  .exact h.sep B (.inl hB) p hp
  .exact h.sep B (.inr (.inl hB)) p hp
  .have:=hA.new B hB;have:=(h.ow.arr p hp).2.1;omega
 .have:=hA.new B e;have:=(h.gl B (.inl hB)).2;omega
 .have:=hA.new B e;have:=(h.gl B (.inr (.inl hB))).2;omega
end
def kh (th:Int)(w:Wt)(v:U)(r:Rn):Rn :=
 if w.what=4 then { r with outs:=r.outs++[w.val] }
 else { r with evs:=r.evs++[wR th w v],rmw:=if w.what=2/\w.ex=true then r.rmw++[((r.evs.length:Int)-1,(r.evs.length:Int))] else r.rmw }
def zv (th:Int)(reads:List U)(a:Ac)(s:Ms)(r:Rn):Sum Int (Ms × Rn) :=
 if (qi s a).what=1 then match reads[r.used]? with
  | none=>.inl (qi s a).loc
  | some v=>.inr (qY (wW s a) a v,kh th (qi s a) v { r with used:=r.used+1 })
 else .inr (qY (wW s a) a u0,kh th (qi s a) u0 r)
structure RT (t:Tm)(th:Int)(rl:Value)(f:Int)(T8 Mb R:Nat):Prop where
 t1:Tm.get 1 t=iv th
 t2:Tm.get 2 t=rl
 t3:Tm.get 3 t=iv f
 t8:Tm.get 8 t=.pointer (some ⟨T8,0,none⟩)
 t10:Tm.get 10 t=mP Mb
 t12:Tm.get 12 t=.pointer (some ⟨R,0,none⟩)
theorem KL (e:Ev5):(qh e).length=5:=rfl
theorem ev5_ok (e:Ev5):∀v∈qh e,okC v=true:=by simp[qh,okC]
theorem fA (u:U):∀v∈qS u,okC v=true:=by simp[qS,okC]
theorem kl (p:Int × Int):(qn p).length=2:=rfl
theorem zm (p:Int × Int):∀v∈qn p,okC v=true:=by simp[qn,okC]
theorem YE (m:M)(a b c:Int)(d:Int)(e:Int):wH 5 1 (rep 1 [zI,zI,zI,zU,zI]) [(0,5,.agg ⟨[.int .i64 a,.int .i64 b,.int .i64 c,.int .u64 d,.int .i64 e]⟩)] m=some (Value.slice (some ⟨m.n,0,some 11⟩) 1 1,Dx.newRow m [.int .i64 a,.int .i64 b,.int .i64 c,.int .u64 d,.int .i64 e]):=rfl
theorem bs_u (m:M)(d:Int):wH 1 1 (rep 1 [zU]) [(0,1,.int .u64 d)] m=some (Value.slice (some ⟨m.n,0,some 3⟩) 1 1,Dx.newRow m [.int .u64 d]):=rfl
theorem bs_p (m:M)(a b:Int):wH 2 1 (rep 1 [zI,zI]) [(0,2,.agg ⟨[.int .i64 a,.int .i64 b]⟩)] m=some (Value.slice (some ⟨m.n,0,some 5⟩) 1 1,Dx.newRow m [.int .i64 a,.int .i64 b]):=rfl
theorem b_p (a b:Int):wg [zI,zI] [(0,1,.int .i64 a),(1,1,.int .i64 b)]=some (.agg ⟨[.int .i64 a,.int .i64 b]⟩):=rfl
structure RB (r:Rn):Prop where
 e:r.evs.length<=1000000
 o:r.outs.length<=1000000
 p:r.rmw.length<=1000000
section
variable {k na:Nat}{cells:Int}{a:Ac}{av:Value}{s:Ms}{Mb Lb R T T8:Nat}{mA m:M}{acts:List Ac}{g:Gs}{r:Rn}{th f:Int}{rl:Value}{st loc:Int}
end
abbrev Z9:List Value:=[zS,zS,zS,zS,zS,zS,zI,zI,zI]
structure EndC (m0 mA:M)(T8 Mb Lb:Nat):Prop where
 st:St m0 mA [(T8,Z9)]
 lM:m0.n<=Mb
 lL:m0.n<=Lb
 neM:T8≠Mb
 neL:T8≠Lb
def dS (th:Int)(reads:List U)(a:Ac)(s:Ms)(r:Rn):Sum Int (Ms × Rn) :=
 match zv th reads a s r with
 | .inl l=>.inl l
 | .inr x=>if x.1.opn then zv th reads a x.1 x.2 else .inr x
section
variable {k na:Nat}{cells:Int}{a:Ac}{av:Value}{s:Ms}{Mb Lb R T T8:Nat}{m0 mA m:M}{acts:List Ac}{g:Gs}{r:Rn}{th f:Int}{rl:Value}{st loc:Int}{σ:List (Nat × List Value)}
theorem RI.ext (hE:EndC m0 mA T8 Mb Lb)(h:RI mA m Mb Lb k av s g r σ):St m0 m [(T8,Z9)]:=by
 have e:=hE.st.ext;have mc:=h.ow.mc;have hb:=hE.st.base;obtain⟨h1,h2,h3⟩:=hE.st.get 0 rfl;have out:∀B,B<m0.n->B ∉ [Mb,Lb]:=λB hB=>by have:=hE.lM;have:=hE.lL;simp;omega
 refine⟨⟨qhh e.n mc.n,λB hB=>(mc.obj B (qha hB e.n) (out B hB)).trans (e.obj B hB),mc.base.trans e.base,(mc.low λB hB=>?_).trans e.log⟩,hb,λp hp=>?_,by simp⟩
 .rw[e.base];have:=hE.lM;have:=hE.lL;simp at hB;omega
 .rw[qhc.1 hp];exact⟨h1,qha h2 mc.n,h3.congr (mc.obj T8 h2 (by have:=hE.neM;have:=hE.neL;simp;omega))⟩
theorem xc (s:Ms)(a:Ac):(qi s a).what=1\/(qi s a).what=2\/(qi s a).what=3\/(qi s a).what=4:=by
 unfold qi;split
 .simp
 .split
  .simp
  .split
   .simp
   .split
    .simp
    .split<;>simp
theorem jy (s:Ms)(a:Ac)(how:ownB a=false)(ho:1<=a.op/\a.op<=10)(h:(qi s a).ex=true):a.op=4\/a.op=5\/a.op=6:=by
 have hn:=of_decide_eq_false how;unfold qi at h;split at h
 .simp at h
 .split at h
  .simp at h
  .split at h
   .simp at h
   .split at h
    .simp at h
    .omega
theorem qdu (s:Ms)(a:Ac)(how:ownB a=false)(ho:1<=a.op/\a.op<=10)(h:(qi s a).what=1):pD a.op=true:=by
 have hn:=of_decide_eq_false how;unfold qi at h;unfold pD;split at h
 .exact qhx (by omega)
 .split at h
  .simp at h
  .split at h
   .simp at h
   .split at h
    .simp at h
    .exact qhx (by omega)
theorem rmw_D {a:Ac}(h:a.op=4\/a.op=5\/a.op=6):pD a.op=true:=qhx (by omega)
theorem WL (s:Ms)(a:Ac)(v:U):(jn s a v).asked=s.asked:=by
 unfold jn;split
 .rfl
 .split<;>rfl
theorem Vz (s:Ms)(a:Ac)(v:U):(qY s a v).asked=false:=by
 unfold qY;split
 .split
  .rfl
  .rw[WL]
 .rw[WL]
end
structure RBn (n:Nat)(r:Rn):Prop where
 e:r.evs.length<=n
 o:r.outs.length<=n
 p:r.rmw.length<=n
theorem RBn.rb {n:Nat}{r:Rn}(h:RBn n r)(hn:n<=1000000):RB r:=⟨by have:=h.e;omega,by have:=h.o;omega,by have:=h.p;omega⟩
section
variable {th:Int}{reads:List U}{a:Ac}{s:Ms}{r:Rn}{x:Ms × Rn}
end
section
variable {k na:Nat}{cells:Int}{a:Ac}{av:Value}{s:Ms}{Mb Lb R T T8:Nat}{m0 mA m:M}{acts:List Ac}{g:Gs}{r:Rn}{th f:Int}{rl:Value}{st loc:Int}{σ:List (Nat × List Value)}
theorem Kd (s:Ms)(a:Ac):(kW s a).asked=s.asked/\(kW s a).opn=s.opn:=by
 unfold kW;split
 .exact⟨rfl,rfl⟩
 .split
  .exact⟨rfl,rfl⟩
  .exact⟨rfl,rfl⟩
end
theorem AcG.eq {k na:Nat}{cells:Int}{a b:Ac}(h:AcG k na cells b)(e:AcEq a b):AcG k na cells a:=by
 obtain⟨x,y,z,rfl⟩:=e;exact⟨h.op,h.may,h.dst,h.pl,h.es,h.to⟩
section
variable {th:Int}{reads more:List U}{a:Ac}{s:Ms}{r:Rn}{x:Ms × Rn}{acts:List Ac}
structure Gro (r r':Rn):Prop where
 e:∃X,r'.evs=r.evs++X
 o:∃X,r'.outs=r.outs++X
 u:r.used<=r'.used
theorem Gro.refl (r:Rn):Gro r r:=⟨⟨[],by simp⟩,⟨[],by simp⟩,qh8 _⟩
theorem Gro.trans {r r' r'':Rn}(h:Gro r r')(k:Gro r' r''):Gro r r'':=by
 obtain⟨⟨X,h1⟩,⟨Y,h2⟩,h3⟩:=h;obtain⟨⟨X',k1⟩,⟨Y',k2⟩,k3⟩:=k;exact⟨⟨X++X',by rw[k1,h1,List.append_assoc]⟩,⟨Y++Y',by rw[k2,h2,List.append_assoc]⟩,qhh h3 k3⟩
def kR (l:List Ev5):Nat:=(l.filter λe=>decide (e.kind=1)).length
structure RdOK (reads:List U)(r:Rn):Prop where
 n:kR r.evs=r.used
 v:∀(i:Nat) e,r.evs[i]?=some e->e.kind=1->reads[kR (r.evs.take i)]?=some e.val
 u:r.used<=reads.length
theorem RdOK.nil:RdOK reads ⟨[],[],[],0⟩:=⟨rfl,λi e h=>by simp at h,Nat.zero_le _⟩
end
theorem Of_c (l:List U)(e:List Nd)(ed ld:Value)(hlen:e.length<=65536)(h0:0<e.length)(hok:∀(i:Nat) n,e[i]?=some n->okN l.length i n=true)(F:Nat)(hF:65540<=F)(m:M)(hm:m.base<=m.n)(hed:Rd m ed 4 qv e)(hld:Rd m ld 1 qS l) :
  CallV (ex Tryz.prog F) 172 [ed,ld] m (uv (vK l e (e.length-1))):=by
 obtain⟨n,hn⟩:=qi4 (e.length-1);obtain⟨N,rfl⟩:∃N,F=(N+n+2)+1:=⟨F-1-n-2,by omega⟩;refine qm dj3_ok (by simp) ?_;have hll:wB ed=some (.int .i64 (e.length:Int)):=hed.len;have hs:IntKind.i64.wrap ((e.length:Int)-1)=(n:Int):=by rw[wrap64 _ (by omega) (by omega)];omega
 obtain⟨v3,m3,c1,c2,rfl⟩:=at_c l e ed ld hlen hok n (by omega) N m hm hed hld;rw[<-hn];simp[hll,hs,c1];exact qf c2 (by simp)
def aw:Dx.Pre:=⟨6,[],zT,[]⟩
noncomputable def xA (N:Nat):Ex:=⟨λg args m=>bif Nat.beq g 6 then (exg Tryz.prog [aw] 1).f g args m else (ex Tryz.prog N).f g args m,(ex Tryz.prog N).y⟩
theorem xA_f (N g:Nat)(args:List Value)(m:M)(h:g≠6):(xA N).f g args m=(ex Tryz.prog N).f g args m:=by
 show (bif Nat.beq g 6 then _ else _)=_
 rw[gT h];rfl
theorem xA_aw (N:Nat)(m:M):(xA N).f 6 [] m=some (zT,m):=rfl
theorem xA_ok (hP:Tryz.prog.follows .mixedOrders=true)(haw:PreOK2 Tryz.prog aw)(N:Nat):jg Tryz.prog (xA N):=by
 refine⟨λg args m v m' h=>?_,(YK hP N).y⟩;change (bif Nat.beq g 6 then (exg Tryz.prog [aw] 1).f g args m else (ex Tryz.prog N).f g args m)=some (v,m') at h
 cases hb:Nat.beq g 6 with
 | true=>rw[hb]at h;exact (YL hP (l:=[aw]) (λp hp=>by rw[qhc.1 hp];exact haw) 1).f g args m v m' h
 | false=>rw[hb]at h;exact (YK hP N).f g args m v m' h
theorem step_ret {P:Program}{x:Ex}{g:Nat}{c:SC}{nt:Nat}{res:List RV}{args:List Value}{m:M}{Q:Value->M->Prop}(hd:qI P g=some ⟨c,nt,res⟩)(ha:args.length<=nt)
  (h:Ret m Q (c x (wN res) noK (wN res) (jk .blank 0 args) m)):Dx.Call (Ex.step P x) g args m Q:=by
 obtain⟨v,m',e,h1,h2⟩:=h;refine⟨v,m',?_,h1,h2⟩;show ob (qI P g) (fM x args m)=_;rw[hd,qQ,fN _ _ _ _ _ _ ha];exact e
end Go.Sx
namespace Go.Dx
end Go.Dx
namespace Go.Sx
open Go.Dx Go.Proofs
set_option maxRecDepth 10000
theorem Xw (ls:List U)(hl:ls.length<=9223372036854775807)(a b:Value)(N:Nat)(m:M)(hm:m.base<=m.n)(ha:Rd m a 1 qS ls)(hb:Rd m b 1 qS ls):CallV (ex Tryz.prog (N+1)) 38 [a,b] m zT:=by
 refine qm dc1_ok (by simp) ?_;have la:=ha.len;have lb:=hb.len;have S:=Sees.refl hm;simp[la,lb];refine qq (c:=DP) rfl (Ret m _) (λi t m'=>m'=m/\Tm.get 0 t=a/\Tm.get 1 t=b/\Tm.get 5 t=iv i) ls.length hl
  ⟨rfl,by simp,by simp,by simp⟩ (λi t m' k hi hI hk=>?_)
 obtain⟨rfl,t0,t1,t5⟩:=hI;by_cases hil:i<ls.length
 .have hd:=dlt hil;have hd':(i<ls.length)=True:=qi1 hil;have ni:=qK (i:=i) (by omega);obtain⟨u,hu⟩:∃r,ls[i]?=some r:=⟨_,qh5 hil⟩;obtain⟨a1,a2⟩:=ha.at1 (g:=λu:U=>uv u.1) hu;obtain⟨b1,b2⟩:=hb.at1 (g:=λu:U=>uv u.1) hu;simp[t0,t1,t5,la,hd,a1,a2 m' S,b1,b2 m' S,ni];exact hk hil _ _ ⟨rfl,by simp[t0],by simp[t1],by simp⟩
 .have hd:((i:Int)<(ls.length:Int))=False:=qi0 (by omega);have hd':(i<ls.length)=False:=qi0 hil;simp[t0,t5,la,hd];exact qf (Ext.refl m') (by simp)
end Go.Sx
namespace Go.Dx
theorem St.app {m0 m m':M}{v v':Value}{σ:List (Nat × List Value)}(h:St m0 m σ)(k:Ap m m' v v')(h1:∀B,blk v=some B->m0.n<=B)(h2:∀B,blk v=some B->∀p∈σ,p.1≠B):St m0 m' σ:=by
 have hb:=h.ext.base;have hn:=h.ext.n;have h0:=h.base;refine h.keepOn ⟨qhh hn k.n,λB hB=>?_,k.base.trans hb,(k.low λB hB=>?_).trans h.ext.log⟩ k.n λp hp=>?_
 .rw[k.obj B (by omega) λe=>by have:=h1 B e;omega];exact h.ext.obj B hB
 .have:=h1 B hB;omega
 .exact k.obj _ (h.arr p hp).2.1 λe=>h2 _ e p hp rfl
end Go.Dx
namespace Go.Sx
open Go.Dx Go.Proofs
set_option maxRecDepth 10000
structure RJ (m0 m:M)(g:Gs)(r:Rn)(σ:List (Nat × List Value)):Prop where
 st:St m0 m σ
 ge:Grown m0 m g.1 5 qh r.evs
 go:Grown m0 m g.2.1 1 qS r.outs
 gr:Grown m0 m g.2.2 2 qn r.rmw
 sep:∀B,(blk g.1=some B\/blk g.2.1=some B\/blk g.2.2=some B)->∀p∈σ,p.1≠B
 eo:∀B,blk g.1=some B->blk g.2.1≠some B/\blk g.2.2≠some B
 or_:∀B,blk g.2.1=some B->blk g.2.2≠some B
section
variable {m0 m m':M}{g:Gs}{r:Rn}{σ σ':List (Nat × List Value)}
theorem RJ.gl (h:RJ m0 m g r σ):∀B,(blk g.1=some B\/blk g.2.1=some B\/blk g.2.2=some B)->m0.n<=B/\B<m.n:=λB hB=>by
 rcases hB with hB | hB | hB
 .exact grown_low h.ge B hB
 .exact grown_low h.go B hB
 .exact grown_low h.gr B hB
theorem RJ.of (h:RJ m0 m g r σ)(hst:St m0 m' σ')(hn:m.n<=m'.n)(hk:∀B,(blk g.1=some B\/blk g.2.1=some B\/blk g.2.2=some B)->m'.obj B=m.obj B)(hσ:∀p∈σ',(∃q∈σ,q.1=p.1)\/m.n<=p.1):RJ m0 m' g r σ' :=
 ⟨hst,h.ge.keep hn λB _ hB=>hk B (.inl hB),h.go.keep hn λB _ hB=>hk B (.inr (.inl hB)),h.gr.keep hn λB _ hB=>hk B (.inr (.inr hB)),λB hB p hp=>by
  rcases hσ p hp with ⟨q,hq,e⟩ | h'
  .rw[<-e];exact h.sep B hB q hq
  .have:=(h.gl B hB).2;omega,h.eo,h.or_⟩
theorem RJ.step (h:RJ m0 m g r σ)(e:Ext m m'):RJ m0 m' g r σ:=h.of (h.st.step e) e.n (λB hB=>e.obj B (h.gl B hB).2) λp hp=>.inl ⟨p,hp,rfl⟩
theorem RJ.row (h:RJ m0 m g r σ)(l:List Value):RJ m0 (Dx.newRow m l) g r ((m.n,l)::σ) :=
 h.of (h.st.row l) (Ext.row m l).n (λB hB=>(Ext.row m l).obj B (h.gl B hB).2) λp hp=>by
  rcases List.mem_cons.1 hp with rfl | hp
  .exact .inr (qh8 _)
  .exact .inl ⟨p,hp,rfl⟩
theorem RJ.sub (h:RJ m0 m g r σ)(hs:∀p∈σ',p∈σ)(hn:(σ'.map (·.1)).Nodup):RJ m0 m g r σ' :=
 h.of (h.st.sub hs hn) (qh8 _) (λ_ _=>rfl) λp hp=>.inl ⟨p,hs p hp,rfl⟩
theorem RJ.put (h:RJ m0 m g r σ){i b:Nat}{l l':List Value}(hi:σ[i]?=some (b,l))(hst:St m0 m' (σ.set i (b,l')))(hn:m'.n=m.n)(ho:∀X,X≠b->m'.obj X=m.obj X):RJ m0 m' g r (σ.set i (b,l')) :=
 h.of hst (by omega) (λB hB=>ho B λe=>h.sep B hB _ (qh6 hi) e.symm) λp hp=>by
  obtain⟨q,hq,e⟩:=vB hi hp;exact .inl ⟨q,hq,e⟩
theorem RJ.get (h:RJ m0 m g r σ)(i:Nat){b:Nat}{l:List Value}(hi:σ[i]?=some (b,l)):Arr m b l:=(h.st.get i hi).2.2
theorem RJ.mb (h:RJ m0 m g r σ):m.base<=m.n:=h.st.sees.self.base
theorem RJ.store (h:RJ m0 m g r σ)(k:Nat){b o:Nat}{l:List Value}{v:Value}(hk:σ[k]?=some (b,l))(ho:o<l.length)(hv:okC v=true) :
  ∃m',ww 1 (.pointer (some ⟨b,o,none⟩)) v m=some (undef,m')/\RJ m0 m' g r (σ.set k (b,l.set o v))/\m'.n=m.n:=by
 obtain⟨m',h1,h2,h3,h4⟩:=h.st.store k hk ho hv;exact⟨m',h1,h.put hk h2 h3 h4,h3⟩
theorem RJ.fill (h:RJ m0 m g r σ)(k:Nat){b:Nat}{l:List Value}(hk:σ[k]?=some (b,l)){n:Nat}{l':List Value}(hl:l.length=n)(hl':l'.length=n)(hv:∀v∈l',okC v=true) :
  ∃m',ww n (.pointer (some ⟨b,0,none⟩)) (.agg ⟨l'⟩) m=some (undef,m')/\RJ m0 m' g r (σ.set k (b,l'))/\m'.n=m.n:=by
 obtain⟨m',h1,h2,h3,h4⟩:=h.st.fill k hk hl hl' hv;exact⟨m',h1,h.put hk h2 h3 h4,h3⟩
theorem RJ.appE {x:Ev5}{v':Value}(h:RJ m0 m g r σ)(hg:Grown m0 m' v' 5 qh (r.evs++[x]))(hA:Ap m m' g.1 v'):RJ m0 m' (v',g.2) { r with evs:=r.evs++[x] } σ:=by
 have kp:∀B,B<m.n->blk g.1≠some B->m'.obj B=m.obj B:=hA.obj;refine⟨h.st.app hA (λB hB=>(h.gl B (.inl hB)).1) (λB hB=>h.sep B (.inl hB)),hg,h.go.keep hA.n λB hB hb=>kp B hB λe=>(h.eo B e).1 hb,h.gr.keep hA.n λB hB hb=>kp B hB λe=>(h.eo B e).2 hb,λB hB p hp=>?_,λB hB=>⟨λe=>?_,λe=>?_⟩,h.or_⟩
 .rcases hB with hB | hB
  .have:=hA.new B hB;have:=(h.st.arr p hp).2.1;omega
  .exact h.sep B (.inr hB) p hp
 .have:=hA.new B hB;have:=(h.gl B (.inr (.inl e))).2;omega
 .have:=hA.new B hB;have:=(h.gl B (.inr (.inr e))).2;omega
theorem RJ.appO {x:U}{v':Value}(h:RJ m0 m g r σ)(hg:Grown m0 m' v' 1 qS (r.outs++[x]))(hA:Ap m m' g.2.1 v'):RJ m0 m' (g.1,v',g.2.2) { r with outs:=r.outs++[x] } σ:=by
 have kp:∀B,B<m.n->blk g.2.1≠some B->m'.obj B=m.obj B:=hA.obj;refine⟨h.st.app hA (λB hB=>(h.gl B (.inr (.inl hB))).1) (λB hB=>h.sep B (.inr (.inl hB))),h.ge.keep hA.n λB hB hb=>kp B hB λe=>(h.eo B hb).1 e,hg,h.gr.keep hA.n λB hB hb=>kp B hB λe=>h.or_ B e hb,λB hB p hp=>?_,λB hB=>⟨λe=>?_,(h.eo B hB).2⟩,λB hB e=>?_⟩
 .rcases hB with hB | hB | hB
  .exact h.sep B (.inl hB) p hp
  .have:=hA.new B hB;have:=(h.st.arr p hp).2.1;omega
  .exact h.sep B (.inr (.inr hB)) p hp
 .have:=hA.new B e;have:=(h.gl B (.inl hB)).2;omega
 .have:=hA.new B hB;have:=(h.gl B (.inr (.inr e))).2;omega
theorem RJ.appR {x:Int × Int}{v':Value}(h:RJ m0 m g r σ)(hg:Grown m0 m' v' 2 qn (r.rmw++[x]))(hA:Ap m m' g.2.2 v'):RJ m0 m' (g.1,g.2.1,v') { r with rmw:=r.rmw++[x] } σ:=by
 have kp:∀B,B<m.n->blk g.2.2≠some B->m'.obj B=m.obj B:=hA.obj;refine⟨h.st.app hA (λB hB=>(h.gl B (.inr (.inr hB))).1) (λB hB=>h.sep B (.inr (.inr hB))),h.ge.keep hA.n λB hB hb=>kp B hB λe=>(h.eo B hb).2 e,h.go.keep hA.n λB hB hb=>kp B hB λe=>h.or_ B hb e,hg,λB hB p hp=>?_,λB hB=>⟨(h.eo B hB).1,λe=>?_⟩,λB hB e=>?_⟩
 .rcases hB with hB | hB | hB
  .exact h.sep B (.inl hB) p hp
  .exact h.sep B (.inr (.inl hB)) p hp
  .have:=hA.new B hB;have:=(h.st.arr p hp).2.1;omega
 .have:=hA.new B e;have:=(h.gl B (.inl hB)).2;omega
 .have:=hA.new B e;have:=(h.gl B (.inr (.inl hB))).2;omega
end
def stL (t:Th)(i:Nat)(lv:Value):List Value:=[iv t.loc,t.av,iv i,lv]
structure Sv (m:M)(lv:Value)(ls:List U):Prop where
 rd:Rd m lv 1 qS ls
 ok:okC lv=true
theorem Sv.sees {m m':M}{lv:Value}{ls:List U}(h:Sv m lv ls)(k:Sees m m'):Sv m' lv ls:=⟨h.rd.sees k,h.ok⟩
abbrev mk0 (i:Nat)(ls:List U):Ms:=⟨i,ls,wt0,false,u0,false⟩
structure At (m:M)(t:Th)(k na:Nat)(cells:Int)(i:Nat)(a:Ac):Prop where
 av:Rd m t.av 11 qe t.acts
 ac:t.acts[i]?=some a
 ok:AcOK m a
 g:AcG k na cells a
theorem At.sees {m m':M}{t:Th}{k na:Nat}{cells:Int}{i:Nat}{a:Ac}(h:At m t k na cells i a)(e:Sees m m'):At m' t k na cells i a:=⟨h.av.sees e,h.ac,h.ok.sees e,h.g⟩
theorem At.okav {m:M}{t:Th}{k na:Nat}{cells:Int}{i:Nat}{a:Ac}(h:At m t k na cells i a):okC t.av=true:=h.av.okV
theorem ym {t:Th}{i:Nat}{lv:Value}(h1:okC t.av=true)(h2:okC lv=true):∀v∈stL t i lv,okC v=true:=λv hv=>by
 simp only[stL,List.mem_cons,List.not_mem_nil,or_false]at hv;rcases hv with rfl | rfl | rfl | rfl<;>first | rfl | assumption
theorem ZJ (n:Nat){mode:Int}(m:M):Dx.Call (ex Tryz.prog (n+1)) 173 [iv mode] m λv _=>v=.tuple #[iv (rdM mode),iv (wrM mode)]:=by
 refine qm dj4_ok (by simp) ?_;have E:=Ext.refl m;by_cases h2:mode=2
 .subst h2;simp;exact kg E (by simp[rdM,wrM])
 by_cases h3:mode=3
 .subst h3;simp;exact kg E (by simp[rdM,wrM])
 by_cases h4:mode=4
 .subst h4;simp;exact kg E (by simp[rdM,wrM])
 by_cases h5:mode=5
 .subst h5;simp;exact kg E (by simp[rdM,wrM])
 have d2:decide (mode=2)=false:=qhw h2;have d3:decide (mode=3)=false:=qhw h3;have d4:decide (mode=4)=false:=qhw h4;have d5:decide (mode=5)=false:=qhw h5;simp[d2,d3,d4,d5];exact kg E (by simp[rdM,wrM,h2,h3,h4,h5])
theorem Own_c {m:M}{t:Th}{k na:Nat}{cells:Int}{i:Nat}{a:Ac}(hA:At m t k na cells i a)(lv:Value)(N:Nat)(hm:m.base<=m.n):CallV (ex Tryz.prog (N+1)) 121 [.agg ⟨stL t i lv⟩] m (.bool (ownB a)):=by
 refine qm dh4_ok (by simp) ?_;have st1:=(St.nil hm (Ext.refl m)).row (stL t i lv);obtain⟨m1,hm1⟩:=qi4 (Dx.newRow m (stL t i lv));rw[<-hm1]at st1;have l1:∀o s,load1 m1 ⟨m.n,o,s⟩=(stL t i lv)[o]?:=λo s=>(st1.get 0 rfl).2.2.load1 o s;simp only[stL]at l1 hm1;obtain⟨x1,x2,x3⟩:=hA.av.at hA.ac;have xo:∀s,load1 m1 ⟨(adr 11 t.av i).block,(adr 11 t.av i).off,s⟩=some (iv a.op):=λs=>x3 m1 0 s st1.sees (by simp[qe]);have E:=st1.ext;have hb:ownB a=decide (a.op=1\/a.op=9\/a.op=10):=rfl;rw[hb];by_cases h1:a.op=1
 .have d1:decide (a.op=1)=true:=qhx h1;rw[qhx (.inl h1)];simp[stL,<-hm1,l1,x1,xo,d1];exact qf E (by simp)
 have d1:decide (a.op=1)=false:=qhw h1;by_cases h9:a.op=9
 .have d9:decide (a.op=9)=true:=qhx h9;rw[qhx (.inr (.inl h9))];simp[stL,<-hm1,l1,x1,xo,d1,d9];exact qf E (by simp)
 have d9:decide (a.op=9)=false:=qhw h9;simp[stL,<-hm1,l1,x1,xo,d1,d9];exact qf E (by simp[h1])
end Go.Sx
namespace Go.Dx
end Go.Dx
namespace Go.Sx
open Go.Dx Go.Proofs
set_option maxRecDepth 10000
def LvP (m m':M)(k:Nat)(ls:List U)(lv:Value):Prop:=∃B c,lv=.slice (some ⟨B,0,some c⟩) k k/\m.n<=B/\B<m'.n/\Arr m' B (lsR ls)/\ls.length=k
theorem LvP.sv {m m':M}{k:Nat}{ls:List U}{lv:Value}(h:LvP m m' k ls lv):Sv m' lv ls:=by
 obtain⟨B,c,rfl,h1,h2,h3,rfl⟩:=h;refine⟨?_,rfl⟩;rw[<-gm]at h3;exact jx (f:=qS) (λ_=>rfl) h3 h2
abbrev Z4:List Value:=[zI,zS,zI,zS]
theorem qdx (t:Th)(k:Nat)(hk:t.loc=k)(hk2:k<=24)(hok:okC t.av=true)(hsl:∃a n c,t.av=.slice a n c)(N:Nat)(m:M)(hm:m.base<=m.n) :
  Dx.Call (ex Tryz.prog (N+1)) 120 [.agg ⟨zd t⟩] m λv m'=>∃lv,v=.agg ⟨stL t 0 lv⟩/\LvP m m' k (List.replicate k u0) lv:=by
 refine qm dh3_ok (by simp) ?_;obtain⟨loc,av,acts⟩:=t;simp only at hk hok hsl;subst hk;obtain⟨a,n,c,rfl⟩:=hsl;have st1:=(St.nil hm (Ext.refl m)).row [iv k,.slice a n c];obtain⟨m1,hm1⟩:=qi4 (Dx.newRow m [iv k,.slice a n c]);rw[<-hm1]at st1;have st2:=st1.row Z4;obtain⟨m2,hm2⟩:=qi4 (Dx.newRow m1 Z4);rw[<-hm2]at st2;have l2:loads m2 ⟨m.n,0,none⟩ 2=some [iv k,.slice a n c]:=(st2.get 1 rfl).2.2.loads (n:=2) (by simp);have l1:∀o s,load1 m2 ⟨m.n,o,s⟩=[iv k,.slice a n c][o]?:=λo s=>(st2.get 1 rfl).2.2.load1 o s;have mk:=ya (n:=k) (e:=1) (bytes:=8) (zs:=[zU]) rfl (by omega) (by unfold wk;omega) (by omega) m2;rw[Jy]at mk;have st3:=st2.row (lsR (List.replicate k u0));obtain⟨m3,hm3⟩:=qi4 (Dx.newRow m2 (lsR (List.replicate k u0)));rw[<-hm3]at mk st3;obtain⟨lv,hlv⟩:∃lv:Value,lv=.slice (some ⟨m2.n,0,some (code 1 true)⟩) k k:=⟨_,rfl⟩;obtain⟨R,hR⟩:∃R:List Value,R=[.int .i64 k,.slice a n c,zI,lv]:=⟨_,rfl⟩;have b:wg Z4 [(0,2,.agg ⟨[iv k,.slice a n c]⟩),(2,1,zI),(3,1,lv)]=some (.agg ⟨R⟩):=by rw[hR,hlv];rfl
 rw[<-hlv]at mk;obtain⟨m4',w1,w2,w3,w4,w5⟩:=st3.fillAny 1 rfl (n:=4) (l':=R) (by omega) rfl (by rw[hR];rfl) (by rw[hR,hlv];simp[okC]);obtain⟨m4,hm4⟩:=qi4 (behind m3 m4');rw[<-hm4]at w3;have lf:loads m4 ⟨m1.n,0,none⟩ 4=some R:=by
  subst hR;exact (w3.get 1 rfl).2.2.loads (n:=4) (by simp)
 have hA:=(w3.get 0 rfl).2.2;have hlt:=(w3.get 0 rfl).2.1;simp[zd,<-hm1,<-hm2,l2,l1,qb,mk,b,w1,w2,<-hm4];refine wq (a:=⟨m1.n,0,none⟩) (by simp) lf w3.ext ⟨lv,by rw[hR];rfl,m2.n,_,hlv,by have:=st2.ext.n;omega,hlt,hA,List.length_replicate⟩
theorem qd9 {m:M}{t:Th}{i k:Nat}{lv:Value}{ls:List U}(hls:ls.length=k)(hk:k<=24)(hS:Sv m lv ls)(hok:okC t.av=true)(hsl:∃a n c,t.av=.slice a n c)(hi:i<9223372036854775807){dst:Int}(hd:0<=dst/\dst<k)(v:U)(N:Nat)(hm:m.base<=m.n) :
  Dx.Call (ex Tryz.prog (N+1)) 171 [.agg ⟨stL t i lv⟩,iv dst,uv v.1] m λw m'=>∃lv',w=.agg ⟨stL t (i+1) lv'⟩/\LvP m m' k (ls.set dst.toNat v) lv':=by
 refine qm dj2_ok (by simp) ?_;obtain⟨d,rfl⟩:∃d:Nat,dst=d:=⟨dst.toNat,by omega⟩;rw[qhj];have hdk:d<ls.length:=by omega
 have st1:=(St.nil hm (Ext.refl m)).row (stL t i lv);obtain⟨m1,hm1⟩:=qi4 (Dx.newRow m (stL t i lv));rw[<-hm1]at st1;have st2:=st1.row Z4;obtain⟨m2,hm2⟩:=qi4 (Dx.newRow m1 Z4);rw[<-hm2]at st2;have bs:wH 1 0 (rep 0 [zU]) [] m2=some (.slice (some ⟨m2.n,0,some (code 1 true)⟩) 0 0,Dx.newRow m2 []):=rfl;obtain⟨m3,hm3⟩:=qi4 (Dx.newRow m2 []);have E23:Ext m2 m3:=by rw[hm3];exact Ext.row _ _
 have st3:=st2.step E23;have l3:∀o s,load1 m3 ⟨m.n,o,s⟩=(stL t i lv)[o]?:=λo s=>(st3.get 1 rfl).2.2.load1 o s;obtain⟨lv0,m4,a1,a2,a3,a4,a5⟩:=jN (m:=m2) st2.sees.self.base (hS.rd.sees st2.sees) (λ_=>rfl) 8 (by unfold wk;omega) (by omega);rw[<-hm3]at a1 bs;have hlv0:=a5 (λh=>by rw[h]at hdk;exact absurd hdk (qhv _));obtain⟨B,hBe⟩:=qi4 (m2.n+1);rw[<-hBe]at hlv0;obtain⟨hB1,hB5⟩:=a4 B (by rw[hlv0];rfl);rw[gm]at hB5;have hB2:B<m4.n:=a3.lt B (by rw[hlv0];rfl);have st4:=(st2.step a2).add (by have:=st2.ext.n;omega) hB2 hB5 (λp hp=>by have:=(st2.arr p hp).2.1;omega);obtain⟨m5,s1,s2,s3,s4⟩:=st4.store 0 rfl (o:=d) (v:=uv v.1) (by rw[dF];exact hdk) rfl;have s2':St m m5 [(B,(lsR ls).set d (uv v.1)),(m1.n,Z4),(m.n,stL t i lv)]:=s2;have l5:∀o s,load1 m5 ⟨m.n,o,s⟩=(stL t i lv)[o]?:=λo s=>(s2'.get 2 rfl).2.2.load1 o s;have l52:loads m5 ⟨m.n,0,none⟩ 2=some [iv t.loc,t.av]:=(s2'.get 2 rfl).2.2.loads (n:=2) (by simp[stL]);obtain⟨a,n,c,hav⟩:=hsl;have ni:IntKind.i64.wrap ((i:Int)+1)=((i+1:Nat):Int):=qK (i:=i) (by omega);obtain⟨lv2,hlv⟩:∃lv2:Value,lv2=.slice (some ⟨B,0,some (code 1 false)⟩) ls.length ls.length:=⟨_,rfl⟩;obtain⟨i1,hi1⟩:∃i1:Nat,i1=i+1:=⟨_,rfl⟩;rw[<-hi1]at ni ⊢;obtain⟨R,hR⟩:∃R:List Value,R=stL t i1 lv2:=⟨_,rfl⟩;have b:wg Z4 [(0,2,.agg ⟨[iv t.loc,t.av]⟩),(2,1,.int .i64 i1),(3,1,lv2)]=some (.agg ⟨R⟩):=by rw[hR,hlv,hav];unfold stL;rw[hav];rfl
 have lvok:okC lv2=true:=by rw[hlv];rfl
 obtain⟨m6,w1,w2,w3,w4⟩:=s2'.fill 1 rfl (n:=4) (l':=R) rfl (by rw[hR];rfl) (by rw[hR];exact ym hok lvok);have w2':St m m6 [(B,(lsR ls).set d (uv v.1)),(m1.n,R),(m.n,stL t i lv)]:=w2;have lf:loads m6 ⟨m1.n,0,none⟩ 4=some R:=by
  subst hR;exact (w2'.get 1 rfl).2.2.loads (n:=4) (by simp[stL])
 have ia:wJ 1 lv0 (iv d)=some (.pointer (some ⟨B,d,none⟩)):=by
  rw[hlv0];show (bif Nat.blt d ls.length then _ else _)=_
  rw[show Nat.blt d ls.length=true from qhd hdk];simp[yO]
 rw[hlv0,<-hlv]at a1 ia;simp only[stL]at hm1 l3 l5;simp[stL,qb,<-hm1,<-hm2,bs,l3,a1,ia,s1,l5,l52,ni,b,w1];exact wq (a:=⟨m1.n,0,none⟩) (by simp) lf w2'.ext ⟨lv2,by rw[hR,hi1];rfl,B,_,by rw[hlv,hls],by have:=st2.ext.n;omega,(w2'.get 0 rfl).2.1,by rw[<-dG];exact (w2'.get 0 rfl).2.2,by simp[hls]⟩
theorem Xx {k:Nat}{ls:List U}(hk:ls.length=k){e:List Nd}{ed ld:Value}(he:we k e=true)(N:Nat)(m:M)(hm:m.base<=m.n)(hed:Rd m ed 4 qv e)(hld:Rd m ld 1 qS ls) :
  CallV (ex Tryz.prog (N+65540)) 172 [ed,ld] m (uv (zf ls e).1):=by
 obtain⟨x1,x2,x3⟩:=xZ he;exact Of_c ls e ed ld x2 x1 (by rw[hk];exact x3) (N+65540) (by omega) m hm hed hld
theorem Ya {cells:Int}{k:Nat}{a:Ac}(h:jp cells k a=true)(h0:¬a.size=0)(x:Nat):x%a.size.toNat=x &&& (a.size.toNat-1):=by
 unfold jp at h;simp only[qhb,qi3]at h;obtain⟨i,_,hi⟩:=(Zm a.size.toNat (by omega)).1 ⟨by omega,h.1.1.2⟩;rw[hi,Nat.and_two_pow_sub_one_eq_mod]
theorem Kt {k:Nat}{ls:List U}(hk:ls.length=k){cells:Int}(hc:cells<=4096)(a:Ac)(hpl:jp cells k a=true){lv:Value}(N:Nat)(m:M)(hm:m.base<=m.n)(hS:Sv m lv ls)(ha:AcOK m a) :
  CallV (ex Tryz.prog (N+65541)) 174 [.agg ⟨qe a⟩,lv] m (iv (jQ ls a)):=by
 refine qm dj5_ok (by simp) ?_;obtain⟨p1,p2,p3,p4,p5⟩:=JT hpl;have st1:=(St.nil hm (Ext.refl m)).row (qe a);obtain⟨m1,hm1⟩:=qi4 (Dx.newRow m (qe a));rw[<-hm1]at st1;have la:∀o s,load1 m1 ⟨m.n,o,s⟩=(qe a)[o]?:=λo s=>(st1.get 0 rfl).2.2.load1 o s;have ha1:=ha.sees st1.sees;simp only[qe]at la;by_cases h0:a.size=0
 .have hl:jQ ls a=a.base:=qhz h0;have d0:decide (a.size=0)=true:=qhx h0;rw[hl];simp[<-hm1,la,d0];exact qf st1.ext (by simp)
 .have d0:decide (a.size=0)=false:=qhw h0;have he:we k a.ixs=true:=by rcases p5 with h | h;exact absurd h h0;exact h
  have hpw:=Ya hpl h0;obtain⟨z,hz⟩:∃z:Nat,a.size=((z+1:Nat):Int):=⟨a.size.toNat-1,by omega⟩;have hzz:a.size.toNat-1=z:=by omega
  have hzt:a.size.toNat=z+1:=by omega
  obtain⟨v3,m3',c1,c2,c3,rfl⟩:=qZ (Xx hk he N (ql m1) (qp st1.sees).base (ha.ix.sees (qp st1.sees)) (hS.rd.sees (qp st1.sees)));obtain⟨m3,hm3⟩:=qi4 (behind m1 m3');rw[<-hm3]at c3;have st3:=st1.step c3;have la3:∀o s,load1 m3 ⟨m.n,o,s⟩=(qe a)[o]?:=λo s=>(st3.get 0 rfl).2.2.load1 o s;simp only[qe]at la3;obtain⟨w,hw⟩:=qi4 (zf ls a.ixs);rw[<-hw]at c1;have q2:Qe .u64 (.int .i64 a.size)=some (uv (z+1)):=by rw[hz];exact yy (z+1) (by omega)
  have q3:=qdq (a:=w.1) (b:=z+1) (by omega);obtain⟨r,hr⟩:=qi4 (w.1%(z+1));have hrz:r<z+1:=by rw[hr];exact Nat.mod_lt _ (by omega)
  rw[<-hr]at q3;have q4:Qe .i64 (.int .u64 (r:Int))=some (.int .i64 (r:Int)):=by
   show some (Value.int .i64 (xI .i64 (r:Int)))=_;rw[zC,wrap64 _ (by omega) (by omega)]
  have q5:ze .add (.int .i64 a.base) (.int .i64 (r:Int))=some (.int .i64 (a.base+r)):=by rw[qw,wrap64 _ (by omega) (by omega)]
  have hl:jQ ls a=a.base+(r:Int):=by unfold jQ;rw[qhy h0,<-hw,hr,<-hzt,hpw w.1]
  rw[hl];simp[-qz,-qw,<-hm1,la,d0,c1,c2,la3,q2,q3,q4,q5,<-hm3];exact qf st3.ext (by simp)
section
variable {m:M}{t:Th}{k na:Nat}{cells:Int}{i:Nat}{a:Ac}{lv:Value}{ls:List U}
theorem Kn {m:M}{v:Value}{e:Nat}{α:Type}{f:α->List Value}{l:List α}(h:Rd m v e f l):∃a n c,v=.slice a n c:=by
 have:=h.len;cases v with
 | slice a n c=>exact⟨a,n,c,rfl⟩
 | _=>cases this
theorem LvP.up {m0 m m' m'':M}{k:Nat}{ls:List U}{lv:Value}(h:LvP m m' k ls lv)(h0:m0.n<=m.n)(e:m'.n<=m''.n)(ho:∀B,m.n<=B->B<m'.n->m''.obj B=m'.obj B):LvP m0 m'' k ls lv:=by
 obtain⟨B,c,h1,h2,h3,h4,h5⟩:=h;exact⟨B,c,h1,by omega,by omega,h4.congr (ho B h2 h3),h5⟩
def LvS (m m':M)(k:Nat)(ls:List U)(lv:Value)(ls':List U)(lv':Value):Prop:=(lv'=lv/\ls'=ls)\/LvP m m' k ls' lv'
theorem qdw (hA:At m t k na cells i a)(hS:Sv m lv ls)(hls:ls.length=k)(hk:k<=24)(hi:i<9223372036854775807)(how:ownB a=true)(N:Nat)(hm:m.base<=m.n) :
  Dx.Call (ex Tryz.prog (N+65541)) 122 [.agg ⟨stL t i lv⟩] m λw m'=>∃lv',w=.agg ⟨stL t (kW (mk0 i ls) a).at_ lv'⟩/\LvS m m' k ls lv (kW (mk0 i ls) a).ls lv':=by
 refine qm dh5_ok (by simp) ?_;have st1:=(St.nil hm (Ext.refl m)).row (stL t i lv);obtain⟨m1,hm1⟩:=qi4 (Dx.newRow m (stL t i lv));rw[<-hm1]at st1;have st2:=st1.row Z4;obtain⟨m2,hm2⟩:=qi4 (Dx.newRow m1 Z4);rw[<-hm2]at st2;have l2:∀o s,load1 m2 ⟨m.n,o,s⟩=(stL t i lv)[o]?:=λo s=>(st2.get 1 rfl).2.2.load1 o s;have hA2:=hA.sees st2.sees;obtain⟨x1,x2,x3⟩:=hA2.av.at hA2.ac;have x2':=x2 m2 (Sees.refl st2.sees.self.base);have st3:=st2.row Z11;obtain⟨m3,hm3⟩:=qi4 (Dx.newRow m2 Z11);rw[<-hm3]at st3;obtain⟨m4,f1,f2,f3,f4⟩:=st3.fill 0 rfl (n:=11) (l':=qe a) rfl rfl (zn hA.ok);have st4:St m m4 [(m2.n,qe a),(m1.n,Z4),(m.n,stL t i lv)]:=f2;have la:∀o s,load1 m4 ⟨m2.n,o,s⟩=(qe a)[o]?:=λo s=>(st4.get 0 rfl).2.2.load1 o s;have lt:∀o s,load1 m4 ⟨m.n,o,s⟩=(stL t i lv)[o]?:=λo s=>(st4.get 2 rfl).2.2.load1 o s;have l44:loads m4 ⟨m.n,0,none⟩ 4=some (stL t i lv):=(st4.get 2 rfl).2.2.loads (n:=4) (by simp[stL]);have hsl:=Kn hA.av;have hop:=qi2 how;simp only[qe]at la;simp only[stL]at lt l2 l44;have hm1':=hm1;simp only[stL]at hm1';obtain⟨i1,hi1⟩:∃i1:Nat,i1=i+1:=⟨_,rfl⟩;by_cases h1:a.op=1
 .have d1:decide (a.op=1)=true:=qhx h1;have hdst:=hA.g.d (by rw[h1];rfl);have hx:=hA.g.e (by rw[h1];rfl);have ho:kW (mk0 i ls) a=Yk (mk0 i ls) a:=qhz h1;rw[ho];obtain⟨v5,m5',c1,c2,c3,rfl⟩:=qZ (Xx hls hx N (ql m4) (qp st4.sees).base (hA.ok.ev.sees (qp st4.sees)) (hS.rd.sees (qp st4.sees)));obtain⟨m5,hm5⟩:=qi4 (behind m4 m5');rw[<-hm5]at c3;have st5:=st4.step c3;obtain⟨v6,m6',e1,e2,e3,lv',rfl,hS6⟩:=qZ (qd9 (m:=ql m5) (t:=t) (i:=i) hls hk (hS.sees (qp st5.sees)) hA.okav hsl hi hdst (zf ls a.es) (N+65539) (qp st5.sees).base);have okl:=hS6.sv.ok;rw[<-hi1]at e1;obtain⟨m6,hm6⟩:=qi4 (behind m5 m6');rw[<-hm6]at e3;have st6:=st5.step e3;obtain⟨m7',w1,w2,w3,w4,w5⟩:=st6.fillAny 1 rfl (n:=4) (l':=stL t i1 lv') (by omega) rfl rfl (ym hA.okav okl);obtain⟨m7,hm7⟩:=qi4 (behind m6 m7');rw[<-hm7]at w3 w4 w5;have lf:loads m7 ⟨m1.n,0,none⟩ 4=some (stL t i1 lv'):=(w3.get 1 rfl).2.2.loads (n:=4) (by simp[stL]);have hP:LvP m m7 k (ls.set a.dst.toNat (zf ls a.es)) lv':=by
   have h5:=st5.ext.n;have hm1lt:=(st5.get 1 rfl).2.1;refine hS6.up (by rw[qt];exact h5) (by rw[w4,hm6,wj];exact qh8 _) λB hB hB2=>?_;rw[qt]at hB;rw[w5 B (by omega),hm6,qB]
  simp only[stL]at e1 w1;simp[stL,<-hm1',<-hm2,l2,x1,x2',<-hm3,f1,la,lt,l44,d1,qb,c1,c2,<-hm5,e1,e2,<-hm6,w1,w2,<-hm7];exact wq (a:=⟨m1.n,0,none⟩) (by simp) lf w3.ext ⟨lv',by rw[hi1];rfl,.inr hP⟩
 have d1:decide (a.op=1)=false:=qhw h1;have ni:IntKind.i64.wrap ((i:Int)+1)=((i+1:Nat):Int):=qK (i:=i) (by omega);rw[<-hi1]at ni;obtain⟨m5,s1,s2,s3,s4⟩:=st4.store 2 rfl (o:=2) (v:=iv i1) (by simp[stL]) rfl;have s2':St m m5 [(m2.n,qe a),(m1.n,Z4),(m.n,stL t i1 lv)]:=s2;have la5:∀o s,load1 m5 ⟨m2.n,o,s⟩=(qe a)[o]?:=λo s=>(s2'.get 0 rfl).2.2.load1 o s;have lt5:∀o s,load1 m5 ⟨m.n,o,s⟩=(stL t i1 lv)[o]?:=λo s=>(s2'.get 2 rfl).2.2.load1 o s;simp only[qe]at la5;simp only[stL]at lt5;have hto:=hA.g.t (show pT a.op=true by unfold pT;exact qhx (by omega));obtain⟨q,hq⟩:∃q:Nat,a.to=q:=⟨a.to.toNat,by omega⟩;have fin:∀(j:Nat) (m6:M) (tt:Tm),St m m6 [(m2.n,qe a),(m1.n,Z4),(m.n,stL t j lv)]->Tm.get 1 tt=.pointer (some ⟨m.n,0,none⟩)->Tm.get 2 tt=.pointer (some ⟨m1.n,0,none⟩)->(kW (mk0 i ls) a).at_=j->(kW (mk0 i ls) a).ls=ls ->
   Ret m (λw m'=>∃lv',w=.agg ⟨stL t (kW (mk0 i ls) a).at_ lv'⟩/\LvS m m' k ls lv (kW (mk0 i ls) a).ls lv') (qao (ex Tryz.prog (N+65540)) (wN [.cell 2 4]) noK (wN [.cell 2 4]) tt m6):=λj m6 tt h6 t1 t2 ej el=>by
  have l6:loads m6 ⟨m.n,0,none⟩ 4=some (stL t j lv):=(h6.get 2 rfl).2.2.loads (n:=4) (by simp[stL]);obtain⟨m7,w1,w2,w3,w4⟩:=h6.fill 1 rfl (n:=4) (l':=stL t j lv) rfl rfl (ym hA.okav hS.ok);have lf:loads m7 ⟨m1.n,0,none⟩ 4=some (stL t j lv):=(w2.get 1 rfl).2.2.loads (n:=4) (by simp[stL]);rw[ej,el];simp[t1,t2,qb,l6,w1];exact wq (a:=⟨m1.n,0,none⟩) (by simp[t2]) lf w2.ext ⟨lv,rfl,.inl ⟨rfl,rfl⟩⟩
 by_cases h9:a.op=9
 .have d9:decide (a.op=9)=true:=qhx h9;have ho:kW (mk0 i ls) a=QB (mk0 i ls) a:=by unfold kW;rw[qhy h1,qhz h9]
  obtain⟨m6,r1,r2,r3,r4⟩:=s2'.store 2 rfl (o:=2) (v:=iv q) (by simp[stL]) rfl;have r2':St m m6 [(m2.n,qe a),(m1.n,Z4),(m.n,stL t q lv)]:=r2;simp[stL,<-hm1',<-hm2,l2,x1,x2',<-hm3,f1,la,lt,d1,qb,ni,s1,la5,d9,hq,r1,-Qc];exact fin q m6 _ r2' (by simp) (by simp) (by rw[ho];show a.to.toNat=q;omega) (by rw[ho];rfl)
 have d9:decide (a.op=9)=false:=qhw h9;have hx:=hA.g.e (show pE a.op=true by unfold pE;exact qhx (by omega));have ho:kW (mk0 i ls) a=yW (mk0 i ls) a:=by unfold kW;rw[qhy h1,qhy h9]
 obtain⟨v6,m6,c1,c2,rfl⟩:=Xx hls hx N m5 s2'.sees.self.base (hA.ok.ev.sees s2'.sees) (hS.rd.sees s2'.sees);have st6:=s2'.step c2;have la6:∀o s,load1 m6 ⟨m2.n,o,s⟩=(qe a)[o]?:=λo s=>(st6.get 0 rfl).2.2.load1 o s;simp only[qe]at la6;obtain⟨w,hw⟩:=qi4 ((zf ls a.es).1);rw[<-hw]at c1;by_cases h0:w=0
 .have d0:decide (w=0)=true:=qhx h0;obtain⟨m7,r1,r2,r3,r4⟩:=st6.store 2 rfl (o:=2) (v:=iv q) (by simp[stL]) rfl;have r2':St m m7 [(m2.n,qe a),(m1.n,Z4),(m.n,stL t q lv)]:=r2;simp[stL,<-hm1',<-hm2,l2,x1,x2',<-hm3,f1,la,lt,d1,qb,ni,s1,la5,lt5,d9,c1,d0,la6,hq,r1,-Qc];exact fin q m7 _ r2' (by simp) (by simp) (by rw[ho];show (if (zf ls a.es).1=0 then a.to.toNat else i+1)=q;rw[qhz (by rw[<-hw];exact h0)];omega) (by rw[ho];rfl)
 .have d0:decide (w=0)=false:=qhw h0;simp[stL,<-hm1',<-hm2,l2,x1,x2',<-hm3,f1,la,lt,d1,qb,ni,s1,la5,lt5,d9,c1,d0,hq,-Qc];exact fin i1 m6 _ st6 (by simp) (by simp) (by rw[ho];show (if (zf ls a.es).1=0 then a.to.toNat else i+1)=i1;rw[qhy (by rw[<-hw];exact h0)];omega) (by rw[ho];rfl)
end
theorem ZF (x y z:Int):wg Z6 [(0,1,.int .i64 2),(1,1,.int .i64 x),(2,1,.int .i64 y),(4,1,zT),(3,1,.int .u64 z)]=some (.agg ⟨[.int .i64 2,.int .i64 x,.int .i64 y,.int .u64 z,zT,zF]⟩):=rfl
def zO (ls:List U)(a:Ac)(v:U):Wt:=if a.op=6/\¬(zf ls a.es).1=v.1 then wt0 else qi ⟨0,ls,wt0,false,v,true⟩ a
def jc (ls:List U)(a:Ac)(v:U):List U:=if a.op=3\/a.op=7\/a.op=8 then ls else ls.set a.dst.toNat v
theorem YZ {a:Ac}(h:ownB a=false):a.op≠1/\a.op≠9/\a.op≠10:=by
 have:=of_decide_eq_false h;exact⟨λe=>this (.inl e),λe=>this (.inr (.inl e)),λe=>this (.inr (.inr e))⟩
section
variable {m:M}{t:Th}{k na:Nat}{cells:Int}{i:Nat}{a:Ac}{lv:Value}{ls:List U}
theorem qe1 (hc:cells<=4096)(hA:At m t k na cells i a)(hS:Sv m lv ls)(hls:ls.length=k)(how:ownB a=false)(N:Nat)(hm:m.base<=m.n) :
  CallV (ex Tryz.prog (N+65542)) 123 [.agg ⟨stL t i lv⟩] m (.agg ⟨wtL (qi (mk0 i ls) a)⟩):=by
 refine qm dh6_ok (by simp) ?_;have st1:=(St.nil hm (Ext.refl m)).row (stL t i lv);obtain⟨m1,hm1⟩:=qi4 (Dx.newRow m (stL t i lv));rw[<-hm1]at st1;have st2:=st1.row Z6;obtain⟨m2,hm2⟩:=qi4 (Dx.newRow m1 Z6);rw[<-hm2]at st2;have l2:∀o s,load1 m2 ⟨m.n,o,s⟩=(stL t i lv)[o]?:=λo s=>(st2.get 1 rfl).2.2.load1 o s;have hA2:=hA.sees st2.sees;obtain⟨x1,x2,x3⟩:=hA2.av.at hA2.ac;have x2':=x2 m2 (Sees.refl st2.sees.self.base);have st3:=st2.row Z11;obtain⟨m3,hm3⟩:=qi4 (Dx.newRow m2 Z11);rw[<-hm3]at st3;obtain⟨m4,f1,f2,f3,f4⟩:=st3.fill 0 rfl (n:=11) (l':=qe a) rfl rfl (zn hA.ok);have st4:St m m4 [(m2.n,qe a),(m1.n,Z6),(m.n,stL t i lv)]:=f2;have la4:∀o s,load1 m4 ⟨m2.n,o,s⟩=(qe a)[o]?:=λo s=>(st4.get 0 rfl).2.2.load1 o s;obtain⟨v5,m5,c1,c2,rfl⟩:=ZJ (N+65540) (mode:=a.mode) m4;have st5:=st4.step c2;have la:∀o s,load1 m5 ⟨m2.n,o,s⟩=(qe a)[o]?:=λo s=>(st5.get 0 rfl).2.2.load1 o s;have lt:∀o s,load1 m5 ⟨m.n,o,s⟩=(stL t i lv)[o]?:=λo s=>(st5.get 2 rfl).2.2.load1 o s;have l11:loads m5 ⟨m2.n,0,none⟩ 11=some (qe a):=(st5.get 0 rfl).2.2.loads (n:=11) (by simp[qe]);simp only[qe]at la la4;simp only[stL]at lt l2;have hm1':=hm1;simp only[stL]at hm1';have hno:=YZ how;obtain⟨h1,h9,h10⟩:=hno;have hop:=hA.g.op;obtain⟨x,hx⟩:=qi4 (jQ ls a);by_cases h2:a.op=2
 .have d2:decide (a.op=2)=true:=qhx h2;obtain⟨v6,m6',e1,e2,e3,rfl⟩:=qZ (Kt hls hc a (hA.g.p (by rw[h2];rfl)) N (ql m5) (qp st5.sees).base (hS.sees (qp st5.sees)) (hA.ok.sees (qp st5.sees)));obtain⟨m6,hm6⟩:=qi4 (behind m5 m6');rw[<-hm6]at e3;have st6:=st5.step e3;have la6:∀o s,load1 m6 ⟨m2.n,o,s⟩=(qe a)[o]?:=λo s=>(st6.get 0 rfl).2.2.load1 o s;simp only[qe]at la6;rw[<-hx]at e1;have hw:qi (mk0 i ls) a=⟨1,x,a.mode,u0,false⟩:=by unfold qi;rw[qhz h2,hx]
  rw[hw];have hz:wtL ⟨1,x,a.mode,u0,false⟩=[.int .i64 1,.int .i64 x,.int .i64 a.mode,zU,zF,zF]:=rfl;rw[hz];obtain⟨m7',w1,w2,w3,w4,w5⟩:=st6.fillAny 1 rfl (n:=6) (l':=[.int .i64 1,.int .i64 x,.int .i64 a.mode,zU,zF,zF]) (by omega) rfl rfl (by simp[okC]);obtain⟨m7,hm7⟩:=qi4 (behind m6 m7');rw[<-hm7]at w3;have lf:loads m7 ⟨m1.n,0,none⟩ 6=some _:=(w3.get 1 rfl).2.2.loads (n:=6) (by simp);simp[stL,<-hm1',<-hm2,l2,x1,x2',<-hm3,f1,la4,c1,wo,la,lt,l11,d2,qb,e1,e2,<-hm6,la6,qdt,w1,<-hm7];exact wq (a:=⟨m1.n,0,none⟩) (by simp) lf w3.ext rfl
 have d2:decide (a.op=2)=false:=qhw h2;by_cases h3:a.op=3
 .have d3:decide (a.op=3)=true:=qhx h3;obtain⟨v6,m6',e1,e2,e3,rfl⟩:=qZ (Kt hls hc a (hA.g.p (by rw[h3];rfl)) N (ql m5) (qp st5.sees).base (hS.sees (qp st5.sees)) (hA.ok.sees (qp st5.sees)));obtain⟨m6,hm6⟩:=qi4 (behind m5 m6');rw[<-hm6]at e3;have st6:=st5.step e3;have la6:∀o s,load1 m6 ⟨m2.n,o,s⟩=(qe a)[o]?:=λo s=>(st6.get 0 rfl).2.2.load1 o s;have lt6:∀o s,load1 m6 ⟨m.n,o,s⟩=(stL t i lv)[o]?:=λo s=>(st6.get 2 rfl).2.2.load1 o s;simp only[qe]at la6;simp only[stL]at lt6;rw[<-hx]at e1;obtain⟨v7,m7',g1,g2,g3,rfl⟩:=qZ (Xx hls (hA.g.e (by rw[h3];rfl)) (N+1) (ql m6) (qp st6.sees).base (hA.ok.ev.sees (qp st6.sees)) (hS.rd.sees (qp st6.sees)));obtain⟨m7,hm7⟩:=qi4 (behind m6 m7');rw[<-hm7]at g3;have st7:=st6.step g3;obtain⟨y,hy⟩:=qi4 (zf ls a.es);rw[<-hy]at g1;have hw:qi (mk0 i ls) a=⟨2,x,a.mode,y,false⟩:=by unfold qi;rw[qhy h2,qhz h3,hx,hy]
  rw[hw];have hz:wtL ⟨2,x,a.mode,y,false⟩=[.int .i64 2,.int .i64 x,.int .i64 a.mode,.int .u64 y.1,zF,zF]:=rfl;rw[hz];obtain⟨m8',w1,w2,w3,w4,w5⟩:=st7.fillAny 1 rfl (n:=6) (l':=[.int .i64 2,.int .i64 x,.int .i64 a.mode,.int .u64 y.1,zF,zF]) (by omega) rfl rfl (by simp[okC]);obtain⟨m8,hm8⟩:=qi4 (behind m7 m8');rw[<-hm8]at w3;have lf:loads m8 ⟨m1.n,0,none⟩ 6=some _:=(w3.get 1 rfl).2.2.loads (n:=6) (by simp);simp[stL,<-hm1',<-hm2,l2,x1,x2',<-hm3,f1,la4,c1,wo,la,lt,l11,d2,d3,qb,e1,e2,<-hm6,la6,lt6,g1,g2,<-hm7,FQ,w1,<-hm8];exact wq (a:=⟨m1.n,0,none⟩) (by simp) lf w3.ext rfl
 have d3:decide (a.op=3)=false:=qhw h3;by_cases h7:a.op=7
 .have d7:decide (a.op=7)=true:=qhx h7;have hw:qi (mk0 i ls) a=⟨3,0,a.mode,u0,false⟩:=by unfold qi;rw[qhy h2,qhy h3,qhz h7]
  rw[hw];have hz:wtL ⟨3,0,a.mode,u0,false⟩=[.int .i64 3,zI,.int .i64 a.mode,zU,zF,zF]:=rfl;rw[hz];obtain⟨m8,w1,w3,w4,w5⟩:=st5.fill 1 rfl (n:=6) (l':=[.int .i64 3,zI,.int .i64 a.mode,zU,zF,zF]) rfl rfl (by simp[okC]);have lf:loads m8 ⟨m1.n,0,none⟩ 6=some _:=(w3.get 1 rfl).2.2.loads (n:=6) (by simp);simp[stL,<-hm1',<-hm2,l2,x1,x2',<-hm3,f1,la4,c1,wo,la,d2,d3,d7,qb,FN,w1];exact wq (a:=⟨m1.n,0,none⟩) (by simp) lf w3.ext rfl
 have d7:decide (a.op=7)=false:=qhw h7;by_cases h8:a.op=8
 .have d8:decide (a.op=8)=true:=qhx h8;obtain⟨v7,m7,g1,g2,rfl⟩:=Xx hls (hA.g.e (by rw[h8];rfl)) (N+1) m5 st5.sees.self.base (hA.ok.ev.sees st5.sees) (hS.rd.sees st5.sees);have st7:=st5.step g2;obtain⟨y,hy⟩:=qi4 (zf ls a.es);rw[<-hy]at g1;have hw:qi (mk0 i ls) a=⟨4,0,0,y,false⟩:=by unfold qi;rw[qhy h2,qhy h3,qhy h7,qhz h8,hy]
  rw[hw];have hz:wtL ⟨4,0,0,y,false⟩=[.int .i64 4,zI,zI,.int .u64 y.1,zF,zF]:=rfl;rw[hz];obtain⟨m8,w1,w3,w4,w5⟩:=st7.fill 1 rfl (n:=6) (l':=[.int .i64 4,zI,zI,.int .u64 y.1,zF,zF]) rfl rfl (by simp[okC]);have lf:loads m8 ⟨m1.n,0,none⟩ 6=some _:=(w3.get 1 rfl).2.2.loads (n:=6) (by simp);simp[stL,<-hm1',<-hm2,l2,x1,x2',<-hm3,f1,la4,c1,wo,la,lt,d2,d3,d7,d8,qb,g1,FO,w1];exact wq (a:=⟨m1.n,0,none⟩) (by simp) lf w3.ext rfl
 have d8:decide (a.op=8)=false:=qhw h8;have hpP:pP a.op=true:=by unfold pP;exact qhx (by omega)
 obtain⟨v6,m6,e1,e2,rfl⟩:=Kt hls hc a (hA.g.p hpP) N m5 st5.sees.self.base (hS.sees st5.sees) (hA.ok.sees st5.sees);have st6:=st5.step e2;rw[<-hx]at e1;have hw:qi (mk0 i ls) a=⟨1,x,rdM a.mode,u0,true⟩:=by unfold qi;rw[qhy h2,qhy h3,qhy h7,qhy h8,hx];rfl
 rw[hw];have hz:wtL ⟨1,x,rdM a.mode,u0,true⟩=[.int .i64 1,.int .i64 x,.int .i64 (rdM a.mode),zU,zT,zF]:=rfl;rw[hz];obtain⟨m8,w1,w3,w4,w5⟩:=st6.fill 1 rfl (n:=6) (l':=[.int .i64 1,.int .i64 x,.int .i64 (rdM a.mode),zU,zT,zF]) rfl rfl (by simp[okC]);have lf:loads m8 ⟨m1.n,0,none⟩ 6=some _:=(w3.get 1 rfl).2.2.loads (n:=6) (by simp);simp[stL,<-hm1',<-hm2,l2,x1,x2',<-hm3,f1,la4,c1,wo,la,lt,l11,d2,d3,d7,d8,qb,e1,Wb,w1];exact wq (a:=⟨m1.n,0,none⟩) (by simp) lf w3.ext rfl
theorem Done_c (hA:At m t k na cells i a)(hS:Sv m lv ls)(hls:ls.length=k)(hk:k<=24)(hi:i<9223372036854775807)(how:ownB a=false)(v:U)(N:Nat)(hm:m.base<=m.n) :
  Dx.Call (ex Tryz.prog (N+2)) 125 [.agg ⟨stL t i lv⟩,uv v.1] m λw m'=>∃lv',w=.agg ⟨stL t (i+1) lv'⟩/\LvS m m' k ls lv (jc ls a v) lv':=by
 refine qm dh8_ok (by simp) ?_;have st1:=(St.nil hm (Ext.refl m)).row (stL t i lv);obtain⟨m1,hm1⟩:=qi4 (Dx.newRow m (stL t i lv));rw[<-hm1]at st1;have st2:=st1.row Z4;obtain⟨m2,hm2⟩:=qi4 (Dx.newRow m1 Z4);rw[<-hm2]at st2;have l2:∀o s,load1 m2 ⟨m.n,o,s⟩=(stL t i lv)[o]?:=λo s=>(st2.get 1 rfl).2.2.load1 o s;have hA2:=hA.sees st2.sees;obtain⟨x1,x2,x3⟩:=hA2.av.at hA2.ac;have x2':=x2 m2 (Sees.refl st2.sees.self.base);have st3:=st2.row Z11;obtain⟨m3,hm3⟩:=qi4 (Dx.newRow m2 Z11);rw[<-hm3]at st3;obtain⟨m4,f1,f2,f3,f4⟩:=st3.fill 0 rfl (n:=11) (l':=qe a) rfl rfl (zn hA.ok);have st4:St m m4 [(m2.n,qe a),(m1.n,Z4),(m.n,stL t i lv)]:=f2;have la:∀o s,load1 m4 ⟨m2.n,o,s⟩=(qe a)[o]?:=λo s=>(st4.get 0 rfl).2.2.load1 o s;have lt:∀o s,load1 m4 ⟨m.n,o,s⟩=(stL t i lv)[o]?:=λo s=>(st4.get 2 rfl).2.2.load1 o s;have l44:loads m4 ⟨m.n,0,none⟩ 4=some (stL t i lv):=(st4.get 2 rfl).2.2.loads (n:=4) (by simp[stL]);have hsl:=Kn hA.av;simp only[qe]at la;simp only[stL]at lt l2 l44;have hm1':=hm1;simp only[stL]at hm1';obtain⟨i1,hi1⟩:∃i1:Nat,i1=i+1:=⟨_,rfl⟩;have ni:IntKind.i64.wrap ((i:Int)+1)=((i+1:Nat):Int):=qK (i:=i) (by omega);rw[<-hi1]at ni ⊢;by_cases hn:a.op=3\/a.op=7\/a.op=8
 .have hd:jc ls a v=ls:=qhz hn;rw[hd];obtain⟨m5,s1,s2,s3,s4⟩:=st4.store 2 rfl (o:=2) (v:=iv i1) (by simp[stL]) rfl;have s2':St m m5 [(m2.n,qe a),(m1.n,Z4),(m.n,stL t i1 lv)]:=s2;have l5:loads m5 ⟨m.n,0,none⟩ 4=some (stL t i1 lv):=(s2'.get 2 rfl).2.2.loads (n:=4) (by simp[stL]);obtain⟨m6,w1,w2,w3,w4⟩:=s2'.fill 1 rfl (n:=4) (l':=stL t i1 lv) rfl rfl (ym hA.okav hS.ok);have lf:loads m6 ⟨m1.n,0,none⟩ 4=some (stL t i1 lv):=(w2.get 1 rfl).2.2.loads (n:=4) (by simp[stL]);by_cases h3:a.op=3
  .have d3:decide (a.op=3)=true:=qhx h3;simp[stL,<-hm1',<-hm2,l2,x1,x2',<-hm3,f1,la,lt,d3,qb,ni,s1];simp only[stL]at l5 w1;simp[l5,w1];exact wq (a:=⟨m1.n,0,none⟩) (by simp) lf w2.ext ⟨lv,rfl,.inl ⟨rfl,rfl⟩⟩
  have d3:decide (a.op=3)=false:=qhw h3;by_cases h7:a.op=7
  .have d7:decide (a.op=7)=true:=qhx h7;simp[stL,<-hm1',<-hm2,l2,x1,x2',<-hm3,f1,la,lt,d3,d7,qb,ni,s1];simp only[stL]at l5 w1;simp[l5,w1];exact wq (a:=⟨m1.n,0,none⟩) (by simp) lf w2.ext ⟨lv,rfl,.inl ⟨rfl,rfl⟩⟩
  have d7:decide (a.op=7)=false:=qhw h7;have d8:decide (a.op=8)=true:=qhx (by omega);simp[stL,<-hm1',<-hm2,l2,x1,x2',<-hm3,f1,la,lt,d3,d7,d8,qb,ni,s1];simp only[stL]at l5 w1;simp[l5,w1];exact wq (a:=⟨m1.n,0,none⟩) (by simp) lf w2.ext ⟨lv,rfl,.inl ⟨rfl,rfl⟩⟩
 .have hd:jc ls a v=ls.set a.dst.toNat v:=qhy hn;have hno:=YZ how;have hop:=hA.g.op;have hdst:=hA.g.d (show pD a.op=true by unfold pD;exact qhx (by omega));have d3:decide (a.op=3)=false:=qhw λh=>hn (.inl h);have d7:decide (a.op=7)=false:=qhw λh=>hn (.inr (.inl h));have d8:decide (a.op=8)=false:=qhw λh=>hn (.inr (.inr h));rw[hd];obtain⟨v6,m6,e1,e2,lv',rfl,hS6⟩:=qd9 (m:=m4) (t:=t) (i:=i) hls hk (hS.sees st4.sees) hA.okav hsl hi hdst v N st4.sees.self.base;have st6:=st4.step e2;rw[<-hi1]at e1;obtain⟨m7,w1,w2,w3,w4⟩:=st6.fill 1 rfl (n:=4) (l':=stL t i1 lv') rfl rfl (ym hA.okav hS6.sv.ok);have lf:loads m7 ⟨m1.n,0,none⟩ 4=some (stL t i1 lv'):=(w2.get 1 rfl).2.2.loads (n:=4) (by simp[stL]);have hP:LvP m m7 k (ls.set a.dst.toNat v) lv':=by
   have h5:=st4.ext.n;have hm1lt:=(st4.get 1 rfl).2.1;exact hS6.up h5 (by rw[w3];exact qh8 _) λB hB hB2=>w4 B (by omega)
  simp only[stL]at e1 w1;simp[stL,<-hm1',<-hm2,l2,x1,x2',<-hm3,f1,la,d3,d7,d8,qb,l44,e1,w1];exact wq (a:=⟨m1.n,0,none⟩) (by simp) lf w2.ext ⟨lv',rfl,.inr hP⟩
theorem Then_c (hc:cells<=4096)(hA:At m t k na cells i a)(hS:Sv m lv ls)(hls:ls.length=k)(hop:a.op=4\/a.op=5\/a.op=6)(v:U)(N:Nat)(hm:m.base<=m.n) :
  CallV (ex Tryz.prog (N+65542)) 124 [.agg ⟨stL t i lv⟩,uv v.1] m (.agg ⟨wtL (zO ls a v)⟩):=by
 refine qm dh7_ok (by simp) ?_;have st1:=(St.nil hm (Ext.refl m)).row (stL t i lv);obtain⟨m1,hm1⟩:=qi4 (Dx.newRow m (stL t i lv));rw[<-hm1]at st1;have st2:=st1.row Z6;obtain⟨m2,hm2⟩:=qi4 (Dx.newRow m1 Z6);rw[<-hm2]at st2;have l2:∀o s,load1 m2 ⟨m.n,o,s⟩=(stL t i lv)[o]?:=λo s=>(st2.get 1 rfl).2.2.load1 o s;have hA2:=hA.sees st2.sees;obtain⟨x1,x2,x3⟩:=hA2.av.at hA2.ac;have x2':=x2 m2 (Sees.refl st2.sees.self.base);have st3:=st2.row Z11;obtain⟨m3,hm3⟩:=qi4 (Dx.newRow m2 Z11);rw[<-hm3]at st3;obtain⟨m4,f1,f2,f3,f4⟩:=st3.fill 0 rfl (n:=11) (l':=qe a) rfl rfl (zn hA.ok);have st4:St m m4 [(m2.n,qe a),(m1.n,Z6),(m.n,stL t i lv)]:=f2;have la4:∀o s,load1 m4 ⟨m2.n,o,s⟩=(qe a)[o]?:=λo s=>(st4.get 0 rfl).2.2.load1 o s;obtain⟨v5,m5,c1,c2,rfl⟩:=ZJ (N+65540) (mode:=a.mode) m4;have st5:=st4.step c2;have l11:loads m5 ⟨m2.n,0,none⟩ 11=some (qe a):=(st5.get 0 rfl).2.2.loads (n:=11) (by simp[qe]);have lt:∀o s,load1 m5 ⟨m.n,o,s⟩=(stL t i lv)[o]?:=λo s=>(st5.get 2 rfl).2.2.load1 o s;have hpP:pP a.op=true:=by unfold pP;exact qhx (by omega)
 have hpE:pE a.op=true:=by unfold pE;exact qhx (by omega)
 obtain⟨v6,m6',e1,e2,e3,rfl⟩:=qZ (Kt hls hc a (hA.g.p hpP) N (ql m5) (qp st5.sees).base (hS.sees (qp st5.sees)) (hA.ok.sees (qp st5.sees)));obtain⟨m6,hm6⟩:=qi4 (behind m5 m6');rw[<-hm6]at e3;have st6:=st5.step e3;have la6:∀o s,load1 m6 ⟨m2.n,o,s⟩=(qe a)[o]?:=λo s=>(st6.get 0 rfl).2.2.load1 o s;have lt6:∀o s,load1 m6 ⟨m.n,o,s⟩=(stL t i lv)[o]?:=λo s=>(st6.get 2 rfl).2.2.load1 o s;obtain⟨v7,m7',g1,g2,g3,rfl⟩:=qZ (Xx hls (hA.g.e hpE) (N+1) (ql m6) (qp st6.sees).base (hA.ok.ev.sees (qp st6.sees)) (hS.rd.sees (qp st6.sees)));obtain⟨m7,hm7⟩:=qi4 (behind m6 m7');rw[<-hm7]at g3;have st7:=st6.step g3;obtain⟨x,hx⟩:=qi4 (jQ ls a);rw[<-hx]at e1;obtain⟨y,hy⟩:=qi4 (zf ls a.es);rw[<-hy]at g1;obtain⟨z,hz⟩:=qi4 (wrM a.mode);rw[<-hz]at c1;have st8:=st7.row Z6;obtain⟨m8,hm8⟩:=qi4 (Dx.newRow m7 Z6);rw[<-hm8]at st8;obtain⟨R,hR⟩:∃R:List Value,R=[.int .i64 2,.int .i64 x,.int .i64 z,.int .u64 y.1,zT,zF]:=⟨_,rfl⟩;obtain⟨m9',w1,w2,w3,w4,w5⟩:=st8.fillAny 0 rfl (n:=6) (l':=[.int .i64 2,.int .i64 x,.int .i64 z,.int .u64 y.1,zT,zF]) (by omega) rfl rfl (by simp[okC]);obtain⟨m9,hm9⟩:=qi4 (behind m8 m9');rw[<-hm9]at w3;have st9:St m m9 [(m7.n,[.int .i64 2,.int .i64 x,.int .i64 z,.int .u64 y.1,zT,zF]),(m2.n,qe a),(m1.n,Z6),(m.n,stL t i lv)]:=w3;have la9:∀o s,load1 m9 ⟨m2.n,o,s⟩=(qe a)[o]?:=λo s=>(st9.get 1 rfl).2.2.load1 o s;have lt9:∀o s,load1 m9 ⟨m.n,o,s⟩=(stL t i lv)[o]?:=λo s=>(st9.get 3 rfl).2.2.load1 o s
 have lw9:∀o s,load1 m9 ⟨m7.n,o,s⟩=[.int .i64 2,.int .i64 x,.int .i64 z,.int .u64 y.1,zT,zF][o]?:=λo s=>(st9.get 0 rfl).2.2.load1 o s;simp only[qe]at la6 la4 la9;simp only[stL]at lt l2 lt6 lt9;have hm1':=hm1;simp only[stL]at hm1';have fin:∀(u:U) (mm:M) (tt:Tm),St m mm [(m7.n,[.int .i64 2,.int .i64 x,.int .i64 z,.int .u64 u.1,zT,zF]),(m2.n,qe a),(m1.n,Z6),(m.n,stL t i lv)]->Tm.get 4 tt=.pointer (some ⟨m1.n,0,none⟩)->Tm.get 8 tt=.pointer (some ⟨m7.n,0,none⟩)->zO ls a v=⟨2,x,z,u,true⟩ ->
   Ret m (λw _=>w=.agg ⟨wtL (zO ls a v)⟩) (qap (ex Tryz.prog (N+65541)) (wN [.cell 4 6]) noK (wN [.cell 4 6]) tt mm):=λu mm tt h t4 t8 e=>by
  have l6:loads mm ⟨m7.n,0,none⟩ 6=some [.int .i64 2,.int .i64 x,.int .i64 z,.int .u64 u.1,zT,zF]:=(h.get 0 rfl).2.2.loads (n:=6) (by simp);obtain⟨m10,q1,q2,q3,q4⟩:=h.fill 2 rfl (n:=6) (l':=[.int .i64 2,.int .i64 x,.int .i64 z,.int .u64 u.1,zT,zF]) rfl rfl (by simp[okC]);have lf:loads m10 ⟨m1.n,0,none⟩ 6=some _:=(q2.get 2 rfl).2.2.loads (n:=6) (by simp);simp[t4,t8,qb,l6,q1];exact wq (a:=⟨m1.n,0,none⟩) (by simp[t4]) lf q2.ext (by rw[e];rfl)
 have hn:a.op≠2/\a.op≠3/\a.op≠7/\a.op≠8:=by omega
 have hwt:qi ⟨0,ls,wt0,false,v,true⟩ a=⟨2,x,z,(if a.op=5 then ZN y v else if a.op=6 then zf ls a.fs else y),true⟩:=by
  unfold qi;rw[qhy hn.1,qhy hn.2.1,qhy hn.2.2.1,qhy hn.2.2.2,qhz rfl,hx,hz,hy]
 rcases hop with h4 | h5 | h6
 .have d5:decide (a.op=5)=false:=qhw (by omega);have d6:decide (a.op=6)=false:=qhw (by omega);simp[stL,<-hm1',<-hm2,l2,x1,x2',<-hm3,f1,la4,c1,wo,l11,lt,qb,e1,e2,<-hm6,la6,lt6,g1,g2,<-hm7,ZF,<-hm8,w1,w2,<-hm9,la9,d5,d6,-Qd];exact fin y m9 _ st9 (by simp) (by simp) (by unfold zO;rw[qhy (by omega),hwt,qhy (by omega),qhy (by omega)])
 .have d5:decide (a.op=5)=true:=qhx h5;have d6:decide (a.op=6)=false:=qhw (by omega);obtain⟨m10,s1,s2,s3,s4⟩:=st9.store 0 rfl (o:=3) (v:=uv (ZN y v).1) (by simp) rfl;have s2':St m m10 [(m7.n,[.int .i64 2,.int .i64 x,.int .i64 z,.int .u64 (ZN y v).1,zT,zF]),(m2.n,qe a),(m1.n,Z6),(m.n,stL t i lv)]:=s2;have la10:∀o s,load1 m10 ⟨m2.n,o,s⟩=(qe a)[o]?:=λo s=>(s2'.get 1 rfl).2.2.load1 o s;simp only[qe]at la10;have q:ze .add (uv y.1) (uv v.1)=some (uv (ZN y v).1):=QW y.1 v.1;simp[-qw,stL,<-hm1',<-hm2,l2,x1,x2',<-hm3,f1,la4,c1,wo,l11,lt,qb,e1,e2,<-hm6,la6,lt6,g1,g2,<-hm7,ZF,<-hm8,w1,w2,<-hm9,la9,lw9,d5,q,s1,la10,d6,-Qd];exact fin (ZN y v) m10 _ s2' (by simp) (by simp) (by unfold zO;rw[qhy (by omega),hwt,qhz h5])
 .have d5:decide (a.op=5)=false:=qhw (by omega);have d6:decide (a.op=6)=true:=qhx h6;by_cases hne:y.1=v.1
  .have dn:decide (y.1=v.1)=true:=qhx hne;have dn':decide ((y.1:Int)=(v.1:Int))=true:=qhx (by omega);obtain⟨v10,m10,k1,k2,rfl⟩:=Xx hls (hA.g.f (by rw[h6];rfl)) (N+1) m9 st9.sees.self.base (hA.ok.fv.sees st9.sees) (hS.rd.sees st9.sees);have st10:=st9.step k2;obtain⟨f,hf⟩:=qi4 (zf ls a.fs);rw[<-hf]at k1;obtain⟨m11,s1,s2,s3,s4⟩:=st10.store 0 rfl (o:=3) (v:=uv f.1) (by simp) rfl;have s2':St m m11 [(m7.n,[.int .i64 2,.int .i64 x,.int .i64 z,.int .u64 f.1,zT,zF]),(m2.n,qe a),(m1.n,Z6),(m.n,stL t i lv)]:=s2;simp[stL,<-hm1',<-hm2,l2,x1,x2',<-hm3,f1,la4,c1,wo,l11,lt,qb,e1,e2,<-hm6,la6,lt6,g1,g2,<-hm7,ZF,<-hm8,w1,w2,<-hm9,la9,lt9,lw9,d5,d6,dn',k1,s1,-Qd];exact fin f m11 _ s2' (by simp) (by simp) (by unfold zO;rw[qhy (by rw[<-hy];exact λh=>h.2 hne),hwt,qhy (by omega),qhz h6,hf])
  .have dn:decide (y.1=v.1)=false:=qhw hne;have dn':decide ((y.1:Int)=(v.1:Int))=false:=qhw (by omega);have ht:zO ls a v=wt0:=by unfold zO;rw[qhz ⟨h6,by rw[<-hy];exact hne⟩]
   rw[ht];have hz':wtL wt0=Z6:=rfl;rw[hz'];obtain⟨m10,q1,q2,q3,q4⟩:=st9.fill 2 rfl (n:=6) (l':=Z6) rfl rfl (by simp[okC]);have lf:loads m10 ⟨m1.n,0,none⟩ 6=some Z6:=(q2.get 2 rfl).2.2.loads (n:=6) (by simp);simp[stL,<-hm1',<-hm2,l2,x1,x2',<-hm3,f1,la4,c1,wo,l11,lt,qb,e1,e2,<-hm6,la6,lt6,g1,g2,<-hm7,ZF,<-hm8,w1,w2,<-hm9,la9,lw9,d5,d6,dn',Wa,q1];exact wq (a:=⟨m1.n,0,none⟩) (by simp) lf q2.ext rfl
end
end Go.Sx
