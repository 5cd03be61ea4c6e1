/- Contracts. -/
import Derived.Test.YtkacohbklkmnaaaGreatGh
set_option linter.unusedVariables false
set_option linter.unusedSimpArgs false
set_option linter.defProp false
set_option maxHeartbeats 1000000
namespace Go.Sx
open Go.Dx Go.Proofs
set_option maxRecDepth 10000
def coP (EV:List Ev5)(N:Nat)(CO:List (List Int)):Prop:=CO.length=N/\∀c l,CO[c]?=some l->gTo EV c l l.length/\nW EV c EV.length<=l.length
def e0 (c:Nat):Ev5:=⟨-1,2,c,u0,1⟩
structure EvG (N:Nat)(EV:List Ev5):Prop where
 n1:N<=EV.length
 n2:EV.length<=256
 ini:∀i,i<N->EV[i]?=some (e0 i)
 evs:∀i e,N<=i->EV[i]?=some e->evB N e=true
theorem EvG.loc {N:Nat}{EV:List Ev5}(g:EvG N EV){i:Nat}{e:Ev5}(h:EV[i]?=some e)(hk:e.kind=2):∃l:Nat,e.loc=(l:Int)/\l<N/\(i<N->l=i):=by
 by_cases hi:i<N
 .rw[g.ini i hi]at h;cases h;exact⟨i,rfl,hi,λ_=>rfl⟩
 .have:=g.evs i e (by omega) h;unfold evB lcB at this;rw[qhb,qhy (by omega),qhb,qi3,qi3]at this;exact⟨e.loc.toNat,by omega,by omega,λh=>absurd h hi⟩
theorem YV {N:Nat}{EV:List Ev5}(g:EvG N EV):∀(i:Nat),i<=N->∀c,i<=c->nW EV c i=0
 | 0,_,c,_=>by simp[nW]
 | i+1,hi,c,hc=>by
  rw[yA (g.ini i (by omega)),YV g i (by omega) c (by omega),qhy];intro h;have:=h.2;simp[e0]at this;omega
theorem least (f:Nat->Bool)(w:Int)(hw:0<=w):∀n:Nat,∃W:Int,0<=W/\W<=w/\(∀j:Nat,j<n->f j=true->W<=j)/\(W=w\/∃j:Nat,j<n/\f j=true/\W=j)
 | 0=>⟨w,hw,Int.le_refl _,λj hj=>by omega,.inl rfl⟩
 | n+1=>by
  obtain⟨W,h1,h2,h3,h4⟩:=least f w hw n;by_cases hc:f n=true/\(n:Int)<W
  .refine⟨n,by omega,by omega,λj hj hf=>?_,.inr ⟨n,by omega,hc.1,rfl⟩⟩;rcases Nat.lt_succ_iff_lt_or_eq.1 hj with h | h
   .have:=h3 j h hf;omega
   .omega
  .refine⟨W,h1,h2,λj hj hf=>?_,h4.imp id λ⟨j,a,b,c⟩=>⟨j,by omega,b,c⟩⟩;rcases Nat.lt_succ_iff_lt_or_eq.1 hj with h | h
   .exact h3 j h hf
   .subst h;have:¬((j:Int)<W):=λh=>hc ⟨hf,h⟩;omega
def MinI (Lm:Nat->Int)(N:Nat)(wr:Int)(seen:List Nat)(w:Int):Prop:=w<=wr/\(∀j∈seen,0<Lm j->w<=j)/\(w=wr\/∃j:Nat,j<N/\0<Lm j/\w=j)
section
variable {m:M}{L N:Nat}{h:Gh}{nx:Value}{EV:List Ev5}{CO:List (List Int)}
theorem co_c (n:Nat)(hm:m.base<=m.n)(H:LK m L h nx)(hev:Rd m h.ev 5 qh EV)(hN:h.n=N)(g:EvG N EV)(hcl:∀l∈CO,l.length<=4611686018427387904)(hcol:CO.length<=4611686018427387904){sv:Nat->Value}(hco:Rd m h.co 1 (λv:Value=>[v]) ((List.range CO.length).map sv))(hsp:Sp 1 h.co)(hsv:∀c l,CO[c]?=some l->Rd m (sv c) 1 wz l) :
  Dx.Call (ex Tryz.prog (n+2)) 50 [.pointer (some ⟨L,0,none⟩)] m (bU (coP EV N CO)):=by
 refine qm dc7_ok (by simp) ?_;have l1:∀m'',Sees m m''->load1 m'' ⟨L,1,none⟩=some h.ev:=λm'' k=>(H.sees k).ld 1 none;have hel:=hev.len;have hn2:=g.n2;have hn1:=g.n1;have E0:=Ext.allocO m (.map []);have S0:=(Sees.refl hm).ext E0;simp[VI,l1,S0,hel];refine qq (c:=cc7_9) rfl (Ret m _) (λi t m'=>Ext (m.alloc (.map [])) m'\/True->(Ext m m'/\m.n<m'.n/\m'.obj m.n=some (.map (mz (rgL (min i N) λc=>nW EV c i))))/\Tm.get 0 t=.pointer (some ⟨L,0,none⟩)/\Tm.get 3 t=.map (some m.n)/\Tm.get 21 t=h.ev/\Tm.get 22 t=iv EV.length/\Tm.get 23 t=iv i) EV.length (by omega)
  (λ_=>⟨⟨E0,by rw[M.n_alloc];omega,by rw[M.obj_alloc,qhz rfl];simp[rgL,mz]⟩,by simp,by simp,by simp,by simp,by simp⟩) (λi t m' k hi hI hk=>?_)
 obtain⟨⟨hE,hlt,hmp⟩,h0,h3,h21,h22,h23⟩:=hI (.inr trivial);have hS:=(Sees.refl hm).ext hE;by_cases hil:i<EV.length
 .obtain⟨e,he⟩:∃e,EV[i]?=some e:=⟨_,qh5 hil⟩;have ⟨a1,a2,a3⟩:=(hev.sees hS).at he;have a2':loads m' (adr 5 h.ev i) 5=some (qh e):=a2 m' hS.self;have hd:=dlt hil;have w1:=qK (i:=i) (by omega);obtain⟨m2,s1,s2,s3,s4,s5⟩:=wK (m:=m') hS.base (zs:=Wf) (l:=qh e) (v:=.agg ⟨qh e⟩) (n:=5) rfl rfl rfl (jP e);have b1:load1 m2 ⟨m'.n,1,none⟩=some (iv e.kind):=by rw[s2];rfl
  have b2:load1 m2 ⟨m'.n,2,none⟩=some (iv e.loc):=by rw[s2];rfl
  have hE2:Ext m m2:=hE.trans s4;have hlt2:m.n<m2.n:=qha hlt s4.n;have hmp2:m2.obj m.n=some (.map (mz (rgL (min i N) λc=>nW EV c i))):=by rw[s4.obj _ hlt];exact hmp
  by_cases hk2:e.kind=2
  .obtain⟨l,hl,hlN,hli⟩:=g.loc he hk2;have lk:=lk_mz hmp2 (l:Int);rw[fd_rg]at lk;have hv:(((if l<min i N then some (nW EV l i:Int) else none):Option Int).getD 0)=(nW EV l i:Int):=by
    split
    .rfl
    .rename_i hx;have:i<N:=by omega
     have:=hli this;rw[YV g i (by omega) l (by omega)];rfl
   rw[hv]at lk;have hnw:=qbr EV l i;obtain⟨q,hq⟩:∃q:Nat,q=nW EV l i+1:=⟨_,rfl⟩;have v2:IntKind.i64.wrap ((nW EV l i:Int)+1)=(q:Int):=by rw[wrap64 _ (by omega) (by omega)];omega
   have mu:=KY hmp2 (l:Int) (q:Int);have hpt:ptL (l:Int) (q:Int) (rgL (min i N) λc=>nW EV c i)=rgL (min (i+1) N) λc=>nW EV c (i+1):=by
    by_cases hiN:i<N
    .have hl2:=hli hiN;subst hl2;rw[show min l N=l by omega,Bn,show min (l+1) N=l+1 by omega];refine QR λx hx=>?_;rw[yA he];by_cases e2:x=l
     .subst e2;rw[qhz rfl,qhz ⟨hk2,hl⟩,hq]
     .rw[qhy e2,qhy (λh=>e2 (by have:=h.2;rw[hl]at this;omega))];rfl
    .rw[pt_rg _ _ (by omega),show min (i+1) N=min i N by omega];refine QR λx hx=>?_;rw[yA he];by_cases e2:x=l
     .subst e2;rw[qhz rfl,qhz ⟨hk2,hl⟩,hq]
     .rw[qhy e2,qhy (λh=>e2 (by have:=h.2;rw[hl]at this;omega))];rfl
   rw[hpt]at mu;simp[h3,h21,h22,h23,hd,a1,qb,a2',s1,b1,b2,hk2,hl,lk,v2,mu,w1];refine hk hil _ _ λ_=>?_;exact⟨⟨hE2.putO hm (qh8 _) _,by rw[M.n_put];exact hlt2,by rw[M.obj_put,qhz rfl]⟩,by simp[h0],by simp[h3],by simp[h21],by simp[h22],by simp⟩
  .simp[h21,h22,h23,hd,a1,qb,a2',s1,b1,hk2,w1];refine hk hil _ _ λ_=>?_;have hiN:¬i<N:=λhiN=>by
    have:=g.ini i hiN;rw[he]at this;cases this;exact hk2 rfl
   refine⟨⟨hE2,hlt2,?_⟩,by simp[h0],by simp[h3],by simp[h21],by simp[h22],by simp⟩;rw[hmp2,show min (i+1) N=min i N by omega]
   congr 3
   refine QR λx hx=>?_;rw[yA he,qhy (λh=>hk2 h.1)];rfl
 obtain rfl:i=EV.length:=by omega
 rw[Nat.min_eq_right hn1]at hmp;have k1:=l1 m' hS;have L':=H.sees hS;have hmk:=JD (n:=EV.length) (by omega) m';have st2:=(St.nil hm hE).row (xS (List.replicate EV.length false));obtain⟨m2,hm2⟩:=qi4 (Dx.newRow m' (xS (List.replicate EV.length false)));rw[<-hm2]at hmk st2;have HE:Ext m' m2:=by rw[hm2];exact Ext.row _ _
 have S2:Sees m m2:=(Sees.refl hm).ext (hE.trans HE);have L2:=H.sees S2;have r3:load1 m2 ⟨L,3,none⟩=some h.co:=L2.ld 3 none;have r0:load1 m2 ⟨L,0,none⟩=some (iv N):=by rw[<-hN];exact L2.ld 0 none
 have hcol':=hco.len;simp only[List.length_map,List.length_range]at hcol';obtain⟨K,hK⟩:=qi4 (min CO.length N);have hmm:mmL false [iv CO.length,iv N]=some (iv K):=by
  rw[VJ]
  congr 2
  split<;>omega
 obtain⟨ca,cn,cc,q1,q2⟩:=hco.take hsp (λ_=>rfl) (k:=K) (by simp;omega);have htk:((List.range CO.length).map sv).take K=(List.range K).map sv:=by
  rw[<-List.map_take,List.take_range,show min K CO.length=K by omega]
 rw[htk]at q2;have q3:=q2.len;simp only[List.length_map,List.length_range]at q3;simp[h0,h22,h23,k1,hel,hmk,r3,r0,hcol',hmm,q1,q3];have hC:CoI m m2 m.n m'.n N (λx=>nW EV x EV.length) (List.replicate EV.length false) :=
  ⟨st2,qh8 _,qha hlt HE.n,by omega,by rw[HE.obj _ hlt];exact hmp⟩
 refine co_out n hm H hev hn1 hn2 (K:=K) (CO:=CO) (by omega) (by omega) hcl q2 hsv hC ?_ ?_ ?_ ?_ ?_ ?_ ?_ ?_ λt' m3 bl' Lm wr O G g0 g3 g7 g8=>?_
 .simp[h0]
 .simp[h3]
 .simp
 .simp
 .simp
 .simp
 .simp
 .simp
 simp[g3];obtain⟨W,W1,W2,W3,W4⟩:=least (λj=>decide (0<Lm j)) wr O.lo N;have hes:Bv (.map (some m.n)) m3=some (mz (rgL N Lm)):=qg2 G.mp (by unfold mz rgL;simp;intro a _;rfl);refine rm_run (by omega) (p:=wE) (es:=mz (rgL N Lm)) (by simp[wE];exact hes) none m3 [(0,.pointer (some ⟨L,0,none⟩)),(7,iv K),(8,iv W)] (λseen t=>Tm.get 0 t=.pointer (some ⟨L,0,none⟩)/\Tm.get 7 t=iv K/\∃w:Int,Tm.get 8 t=iv w/\MinI Lm N wr seen w) ?_ ?_ ?_ ?_ (by decide) (by decide) ?_
 .exact⟨by simp[wE,g0],by simp[wE,g7],wr,by simp[wE,g8],Int.le_refl _,λj hj=>by simp at hj,.inl rfl⟩
 .intro seen t j k v hj hs hI;obtain⟨hI0,hI7,w,hI8,w1,w2,w3⟩:=hI;have hjN:j<N:=by
   have:=(qh7.1 hj).1;simpa [mz,rgL]using this
  have hkv:k=iv j/\v=iv (Lm j):=by
   unfold mz rgL at hj;rw[qhm,qhm,List.getElem?_range hjN]at hj;cases hj;exact⟨rfl,rfl⟩
  obtain⟨rfl,rfl⟩:=hkv;by_cases hp:0<Lm j
  .have hp':(Lm j>0)=True:=qi1 hp;have mm:=VJ w (j:Int);simp[hp,hI8,mm];refine qd5 ?_;refine .inl ⟨rfl,rfl,by simp[hI0],by simp[hI7],(if (j:Int)<w then (j:Int) else w),by simp,?_⟩
   refine⟨by split<;>omega,λx hx hl=>?_,?_⟩
   .rcases List.mem_cons.1 hx with rfl | hx
    .split<;>omega
    .have:=w2 x hx hl;split<;>omega
   .split
    .exact .inr ⟨j,hjN,hp,rfl⟩
    .exact w3
  .have hp':(Lm j>0)=False:=qi0 hp;simp[hp];refine qd5 ?_;refine .inl ⟨rfl,rfl,by simp[hI0],by simp[hI7],w,by simp[hI8],?_⟩;refine⟨w1,λx hx hl=>?_,w3⟩;rcases List.mem_cons.1 hx with rfl | hx
   .exact absurd hl hp
   .exact w2 x hx hl
 .intro seen t hall hI;obtain⟨hI0,hI7,w,hI8,w1,w2,w3⟩:=hI;have hlen:(mz (rgL N Lm)).length=N:=by simp[mz,rgL]
  rw[hlen]at hall;have hw:w=W:=by
   have a1:w<=W:=by
    rcases W4 with e | ⟨j,j1,j2,j3⟩
    .omega
    .have:=w2 j (hall j j1) (qi2 j2);omega
   have a2:W<=w:=by
    rcases w3 with e | ⟨j,j1,j2,j3⟩
    .omega
    .have:=W3 j j1 (qhx j2);omega
   omega
  subst hw;refine⟨rfl,rfl,λq hq=>?_⟩;simp at hq;rcases hq with rfl | rfl | rfl
  .exact hI0
  .exact hI7
  .exact hI8
 .intro q hq;simp at hq;rcases hq with rfl | rfl | rfl<;>simp[wE]
 .intro t2 ht2;have t0:Tm.get 0 t2=.pointer (some ⟨L,0,none⟩):=ht2 (0,_) (by simp);have t7:Tm.get 7 t2=iv K:=ht2 (7,_) (by simp);have t8:Tm.get 8 t2=iv W:=ht2 (8,_) (by simp);have S3:Sees m m3:=(Sees.refl hm).ext G.st.ext;have L3:=H.sees S3;have z3:load1 m3 ⟨L,3,none⟩=some h.co:=L3.ld 3 none;have z0:load1 m3 ⟨L,0,none⟩=some (iv N):=by rw[<-hN];exact L3.ld 0 none
  have hhi:=O.hi;have hrule:coP EV N CO ↔ W=K/\CO.length=N:=by
   constructor
   .rintro ⟨c1,c2⟩;refine⟨?_,c1⟩;have hwr:wr=K:=O.all.2 λc' l hc hl=>(c2 c' l hl).1;rcases W4 with e | ⟨j,j1,j2,j3⟩
    .omega
    .exfalso;have j2:=qi2 j2;obtain⟨l,hl⟩:∃l,CO[j]?=some l:=⟨_,qh5 (by omega)⟩;obtain⟨d1,d2⟩:=c2 j l hl;have:=O.done j l (by omega) hl d1;omega
   .rintro ⟨c1,c2⟩;have hKN:K=N:=by rw[hK,c2];exact Nat.min_self N
    have hwr:wr=K:=by omega
    refine⟨c2,λc l hl=>?_⟩;have hc:=(qh7.1 hl).1;have d1:=O.all.1 hwr c l (by omega) hl;refine⟨d1,?_⟩;have d2:=O.done c l (by omega) hl d1;refine Classical.byContradiction λhx=>?_;have:=W3 c (by omega) (qhx (show 0<Lm c by omega));omega
  by_cases hWK:W<K
  .have hd:=qi1 hWK;simp[vb,t7,t8,hWK];refine qf ?_ ⟨W,by simp[t8],⟨λhc=>by omega,λhc=>by have:=(hrule.1 hc).1;omega⟩⟩;simp[G.st.ext]
  .have hWe:W=K:=by omega
   by_cases hlN:CO.length=N
   .have hln:((CO.length:Int)=N)=True:=qi1 (by rw[hlN]);simp[vb,t0,t7,t8,z3,z0,hcol',hWK,hlN,meets];refine qf ?_ ⟨-1,by simp,⟨λ_=>hrule.2 ⟨hWe,hlN⟩,λ_=>by decide⟩⟩;simp[G.st.ext]
   .have hln:((CO.length:Int)=N)=False:=qi0 (λhc=>hlN (Int.ofNat_inj.1 hc));simp[vb,t0,t7,t8,z3,z0,hcol',hWK,hln,meets];refine qf ?_ ⟨W,by simp[t8],⟨λhc=>absurd (Int.lt_of_lt_of_le hc W1) (Int.lt_irrefl _),λhc=>absurd (hrule.1 hc).2 hlN⟩⟩;simp[G.st.ext]
end
end Go.Sx
namespace Go.Dx
noncomputable section
theorem Yy {P:Program}{n L:Nat}{t:Tm}{nt:Nat}{ps:Array Tmp}{a b:Code}{sa sb:SC}{args:List Value}{t' t'':Tm}{m m1:M}{R:Option E->M->Prop}(hobj:m.obj L=some (.loop 0 t nt ps a b none))(ha:cCode P nt a=some sa)(hb:cCode P nt b=some sb)
  (hp:yD nt t ps.toList args=some t') (hnt:nt<=512) (hsa:∀k:K,sa (ex P n) k noK (λ_ _=>none) t' m=k t'' m1) (hobj1:m1.obj L=some (.loop 0 t nt ps a b none))
  (hrun:Rnd (λe m2=>m2.obj L=some (.loop 1 t nt ps a b none)/\R e m2) (sb (ex P n) (di none) Jf (di (some .ret)) t'' (m1.put L (.loop 1 t nt ps a b none)))) :
  ∃e m2,m2.obj L=some (.loop 1 t nt ps a b none)/\R e m2/\(ex P (n+1)).y L args m=some (Value.bool e.isNone,m2.put L (.loop (match e with | none=>0 | some _=>2) t nt ps a b e)):=by
 obtain⟨e,m2,h1,h2,h3⟩:=hrun;refine⟨e,m2,h2,h3,?_⟩;show Xt P (ex P n) L args m=_;unfold Xt;rw[hobj];show ob (cCode P nt a) _=_;rw[ha,qQ,hb,qQ,hp,qQ,qhd hnt,cond_true,hsa];show ob (bJ (ex P n) L sb t'' m1) _=_;unfold bJ;rw[hobj1];show ob (sb (ex P n) (di none) Jf (di (some .ret)) t'' (m1.put L (.loop 1 t nt ps a b none))) (y3 L)=_;rw[h1,qQ];cases e with
 | none=>show (match m2.obj L with | some (.loop _ t nt ps a b _)=>some (zT,m2.put L (.loop 0 t nt ps a b none)) | _=>none)=_;rw[h2];rfl
 | some e=>show (match m2.obj L with | some (.loop _ t nt ps a b _)=>some (zF,m2.put L (.loop 2 t nt ps a b (some e))) | _=>none)=_;rw[h2];rfl
end
end Go.Dx
namespace Go.Sx
open Go.Dx Go.Proofs
set_option maxRecDepth 10000
def Ends (P:Value->M->Prop):Option Out->Prop:=λo=>∃v m',ob o JQ=some (v,m')/\P v m'
theorem Gi {P:Program}{g:Nat}{c:SC}{nt:Nat}{res:List RV}{n:Nat}{args:List Value}{m:M}{Q:Value->M->Prop}(hd:qI P g=some ⟨c,nt,res⟩)(ha:args.length<=nt)
  (h:Ends Q (c (ex P n) (wN res) noK (wN res) (jk .blank 0 args) m)):∃v m',(ex P (n+1)).f g args m=some (v,m')/\Q v m':=by
 obtain⟨v,m',e,h2⟩:=h;exact⟨v,m',by rw[ex_f hd,fN _ _ _ _ _ _ ha];exact e,h2⟩
theorem ends_0 {m:M}{Q:Value->M->Prop}{t:Tm}(hq:Q (bR []) m):Ends Q (wN [] t m):=by
 refine⟨_,m,?_,hq⟩;rw[dI,qd2,qQ,dC]
theorem qe9 (n:Nat)(y:Value)(W:Nat)(ev:Value)(EV:List Ev5)(hl:EV.length<=1000)(J:Nat->M->Prop)
  (hJ:∀k m,k<=EV.length->J k m->load1 m ⟨W,0,none⟩=some ev/\Rd m ev 5 qh EV/\m.base<=m.n)
  (hy:∀k i e m,k<EV.length->i=EV.length-1-k->EV[i]?=some e->J k m->∃m',Qb (ex Tryz.prog n) [iv (i:Nat),.agg ⟨qh e⟩] m y=some (zT,m')/\J (k+1) m')
  (m:M) (h0:J 0 m):∃m',(ex Tryz.prog (n+1)).f 91 [y,.pointer (some ⟨W,0,none⟩)] m=some (.tuple #[],m')/\J EV.length m':=by
 have:∃v m',(ex Tryz.prog (n+1)).f 91 [y,.pointer (some ⟨W,0,none⟩)] m=some (v,m')/\(v=.tuple #[]/\J EV.length m'):=by
  refine Gi df1_ok (by simp) ?_;obtain⟨q1,q2,q3⟩:=hJ 0 m (Nat.zero_le _) h0;have hel:=q2.len;have w0:IntKind.i64.wrap ((EV.length:Int)-1)=(EV.length:Int)-1:=wrap64 _ (by omega) (by omega);simp[q1,hel,w0];refine qq (c:=cf1_8) rfl (Ends _) (λk t m'=>Tm.get 0 t=y/\Tm.get 1 t=.pointer (some ⟨W,0,none⟩)/\Tm.get 3 t=iv ((EV.length:Int)-1-k)/\J k m') EV.length (by omega)
   ⟨by simp,by simp,by simp,h0⟩ (λk t m' kk hi hI hk=>?_)
  obtain⟨h0,h1,h3,hj⟩:=hI;obtain⟨q1,q2,q3⟩:=hJ k m' hi hj;by_cases hil:k<EV.length
  .obtain⟨i,hi⟩:=qi4 (EV.length-1-k);have hin:((EV.length:Int)-1-k)=(i:Int):=by omega
   rw[hin]at h3;obtain⟨e,he⟩:∃e,EV[i]?=some e:=⟨_,qh5 (by omega)⟩;have ⟨a1,a2,a3⟩:=q2.at he;have a2':loads m' (adr 5 ev i) 5=some (qh e):=a2 m' (Sees.refl q3);obtain⟨m2,e2,hj2⟩:=hy k i e m' hil hi he hj;have hge:((0:Int)<=i)=True:=qi1 (by omega);have w1:IntKind.i64.wrap ((i:Int)-1)=(EV.length:Int)-1-((k+1:Nat):Int):=by rw[wrap64 _ (by omega) (by omega)];omega
   obtain⟨z,hz⟩:∃z:Int,z=(EV.length:Int)-1-((k+1:Nat):Int):=⟨_,rfl⟩;rw[<-hz]at w1;simp[h0,h1,h3,q1,a1,a2',qb,e2,w1];refine hk hil _ _ ?_;exact⟨by simp[h0],by simp[h1],by rw[<-hz];simp,hj2⟩
  obtain rfl:k=EV.length:=by omega
  have hlt:((0:Int)<=(EV.length:Int)-1-EV.length)=False:=qi0 (by omega);obtain⟨z,hz⟩:∃z:Int,z=(EV.length:Int)-1-EV.length:=⟨_,rfl⟩;rw[<-hz]at h3 hlt;simp[h3,hlt];exact ends_0 ⟨rfl,hj⟩
 obtain⟨v,m',e,rfl,h⟩:=this;exact⟨m',e,h⟩
theorem FZ {c:SC}{o:V}{nt p q:Nat}{a b:Code}{ks:List Nat}(hc:c=sRf o nt #[p,q] a b ks){sa sb:SC}(ha:cCode Tryz.prog nt a=some sa)(hb:cCode Tryz.prog nt b=some sb)(hnt:nt<=512)(n:Nat){kn kr:K}{ke:Nat->K}{t:Tm}{m:M}{Q:Option Out->Prop}{W:Nat}{ev:Value}{EV:List Ev5}
  (hl:EV.length<=1000) (ho:o t=.func (.func 91) #[] #[.pointer (some ⟨W,0,none⟩)]) {T:Tm} (hT:vL ks t=T) (t1:Nat->Ev5->Tm) (hput:∀(i:Nat) (e:Ev5),yD nt T [p,q] [iv i,.agg ⟨qh e⟩]=some (t1 i e))
  (J:Nat->M->Prop) (hJ:∀k m',k<=EV.length->J k m'->load1 m' ⟨W,0,none⟩=some ev/\Rd m' ev 5 qh EV/\m'.base<=m'.n)
  (hE:∀m',Ext m m'->J 0 m') (hL:∀k m' O,J k m'->m.n<m'.n->J k (m'.put m.n O))
  (round:∀k i e m',k<EV.length->i=EV.length-1-k->EV[i]?=some e->J k m'->m.n<m'.n->∃t2 m1,(∀(kk:K),sa (ex Tryz.prog n) kk noK (λ_ _=>none) (t1 i e) m'=kk t2 m1)/\m1.obj m.n=m'.obj m.n/\m'.n<=m1.n /\
   ∀O,Rnd (λe m2=>e=none/\m2.obj m.n=some O/\m'.n<=m2.n/\J (k+1) m2) (sb (ex Tryz.prog n) (di none) Jf (di (some E.ret)) t2 (m1.put m.n O)))
  (hq:∀m',J EV.length m'->m.n<m'.n->Q (kn t m')):Q (c (ex Tryz.prog (n+2)) kn ke kr t m):=by
 obtain⟨mE,hmE⟩:=qi4 (m.alloc (.loop 0 T nt #[p,q] a b none));have nE:mE.n=m.n+1:=by rw[hmE,M.n_alloc]
 have EE:Ext m mE:=by rw[hmE];exact⟨by rw[M.n_alloc];omega,λX hX=>by rw[M.obj_alloc,qhy (by omega)],M.base_alloc _ _,M.log_alloc _ _⟩
 have obE:mE.obj m.n=some (.loop 0 T nt #[p,q] a b none):=by rw[hmE,M.obj_alloc,qhz rfl]
 have hwalk:=qe9 (n+1) (.func (.yield m.n) #[] #[]) W ev EV hl (λk m'=>J k m'/\m'.obj m.n=some (.loop 0 T nt #[p,q] a b none)/\m.n<m'.n)
  (λk m' hk h=>hJ k m' hk h.1)
  (λk i e m' hk hi he h=>by
   obtain⟨w,hob,hLn⟩:=h;obtain⟨t2,m1,g1,g2,g3,g4⟩:=round k i e m' hk hi he w hLn;have hrd:=Yy (P:=Tryz.prog) (n:=n) (L:=m.n) (args:=[iv (i:Nat),.agg ⟨qh e⟩]) (t':=t1 i e) (t'':=t2) (m:=m') (m1:=m1)
    (R:=λe m2=>e=none/\m'.n<=m2.n/\J (k+1) m2) hob ha hb (hput _ _) hnt g1 (g2.trans hob) (by
     obtain⟨e,m2,r1,r2,r3,r4,r5⟩:=g4 (.loop 1 T nt #[p,q] a b none);exact⟨e,m2,r1,r3,r2,r4,r5⟩)
   obtain⟨e,m2,ho2,⟨rfl,hn2,hw2⟩,hrun⟩:=hrd;exact⟨_,hrun,hL _ _ _ hw2 (by omega),by rw[M.obj_put,qhz rfl],by rw[M.n_put];omega⟩)
  mE ⟨hE mE EE,obE,by omega⟩
 obtain⟨m6,hw,w6,ob6,hL6⟩:=hwalk;refine rf_run (c:=c) hc (g:=91) (u:=[]) (v:=[.pointer (some ⟨W,0,none⟩)]) ho (r:=.tuple #[]) (m1:=m6) (st:=0) (by rw[hT,<-hmE];exact hw) ob6 (by omega) ?_;unfold vb;exact hq _ (hL _ _ _ w6 hL6) (by rw[M.n_put];exact hL6)
theorem Xu (n:Nat)(ev:Value)(hev:okC ev=true)(m:M):Dx.Call (ex Tryz.prog (n+1)) 47 [ev] m λv m'=>v=.func (.func 91) #[] #[.pointer (some ⟨m.n,0,none⟩)]/\m'=Dx.newRow m [ev]:=by
 refine qm dc4_ok (by simp) ?_;have:XE ev m=some (.pointer (some ⟨m.n,0,none⟩),Dx.newRow m [ev]):=by
  unfold XE;have:zk ev=some [ev]:=by cases ev<;>first | rfl | simp[okC]at hev
  rw[this];rfl
 simp[this];exact qf (Ext.row m _) ⟨by simp,rfl⟩
instance:DecidableEq Ev5:=λa b=>if h:a.th=b.th/\a.kind=b.kind/\a.loc=b.loc/\a.val=b.val/\a.mode=b.mode then
  isTrue (by obtain⟨a1,a2,a3,a4,a5⟩:=a;obtain⟨b1,b2,b3,b4,b5⟩:=b;obtain⟨h1,h2,h3,h4,h5⟩:=h;cases h1;cases h2;cases h3;cases h4;cases h5;rfl)
 else isFalse (by intro e;subst e;exact h ⟨rfl,rfl,rfl,rfl,rfl⟩)
theorem jm (ks:List Nat)(k:IntKind)(x y:Int)(l r:List Value):kj (1::ks) (.int k x::l) (.int k y::r)=if x=y then kj ks l r else some false:=by
 by_cases h:x=y
 .subst h;rw[xh,qhz rfl]
 .rw[qhy h];show ob (obp (some (k,x)) λk a=>obp (some (k,y)) λk' b=>bif Nat.beq (ik k) (ik k') then some (eqI a b) else none) _=_
  show ob (bif Nat.beq (ik k) (ik k) then some (eqI x y) else none) _=_
  have:eqI x y=false:=by rw[jI];simp[h]
  rw[Nat.beq_refl,cond_true,this];rfl
theorem dz (a b:Ev5):kj [1,1,1,1,1] (qh a) (qh b)=some (decide (a=b)):=by
 unfold qh;rw[jm,jm,jm,jm,jm,Qh];obtain⟨a1,a2,a3,a4,a5⟩:=a;obtain⟨b1,b2,b3,b4,b5⟩:=b;have hv:(((a4.1:Nat):Int)=(b4.1:Nat))=(a4=b4):=propext ⟨λe=>Subtype.ext (Int.ofNat_inj.1 e),λe=>by rw[e]⟩;simp only[Ev5.mk.injEq,hv];by_cases h1:a1=b1
 .by_cases h2:a2=b2
  .by_cases h3:a3=b3
   .by_cases h4:a4=b4
    .by_cases h5:a5=b5<;>simp[h1,h2,h3,h4,h5]
    .simp[h1,h2,h3,h4]
   .simp[h1,h2,h3]
  .simp[h1,h2]
 .simp[h1]
def nums (l:List Nat):List Value:=l.map λ(n:Nat)=>Value.int .i64 (n:Int)
theorem qbs (n:Nat):rep n [zI]=nums (List.replicate n 0):=by
 unfold nums
 induction n with
 | zero=>rfl
 | succ n ih=>unfold rep;rw[ih,List.replicate_succ];rfl
theorem qer {n:Nat}(h:n<=1000)(m:M):gu 1 8 [zI] (.int .i64 (n:Int)) (.int .i64 (n:Int)) m=some (.slice (some ⟨m.n,0,some 3⟩) n n,Dx.newRow m (nums (List.replicate n 0))):=by
 show (bif Nat.ble n n&&Nat.ble (n*8) wk&&Nat.ble n 4611686018427387904&&Nat.ble (n*1) 1048576 then some (Value.slice (some ⟨m.n,0,some (code 1 true)⟩) n n,Dx.newRow m (rep n [zI])) else none)=_
 rw[qhd (qh8 n),qhd (by unfold wk;omega),qhd (by omega),qhd (by omega),qbs];rfl
def ffd (th:Int):Nat->List Ev5->Option Int
 | _,[]=>none
 | b,e::l=>if e.th=th then some (b:Int) else ffd th (b+1) l
def ffr (EV:List Ev5)(th:Int)(b:Nat):Option Int:=ffd th b (EV.drop b)
theorem Qp {EV:List Ev5}{b:Nat}{e:Ev5}(h:EV[b]?=some e)(th:Int):ffr EV th b=if e.th=th then some (b:Int) else ffr EV th (b+1):=by
 unfold ffr;obtain⟨hb,rfl⟩:=qh7.1 h;rw[List.drop_eq_getElem_cons hb];rfl
theorem qej (EV:List Ev5)(th:Int):ffr EV th EV.length=none:=by unfold ffr;rw[List.drop_length];rfl
def nxI (EV:List Ev5)(i:Nat)(e:Ev5):Int:=if (ffr EV e.th (i+1)).isSome=true/\0<=e.th then (ffr EV e.th (i+1)).getD 0 else -1
def nxL (EV:List Ev5):List Int:=(List.range EV.length).map λi=>match EV[i]? with
 | some e=>nxI EV i e
 | none=>-1
theorem qf2 (EV:List Ev5):(nxL EV).length=EV.length:=by unfold nxL;simp
theorem qbt {EV:List Ev5}{i:Nat}{e:Ev5}(h:EV[i]?=some e):(nxL EV)[i]?=some (nxI EV i e):=by
 unfold nxL;rw[qhm,List.getElem?_range (qh7.1 h).1];simp[h]
def WFs (n:Int)(g:Gp):Prop:=∃N:Nat,n=N/\EvG N g.ev/\rfP g.ev g.rf/\coP g.ev N g.co/\rmP g.ev (nxL g.ev) g.rm/\g.ad=[]/\g.dt=[]/\g.ct=[]
def fC (P:Prop):Value->M->Prop:=λv _=>∃r a:Int,v=.tuple #[iv r,iv a]/\(r=0 ↔ P)
theorem ghL_ok {m:M}{h:Gh}{g:Gp}(H:GOK m h g):∀v∈ghL h,okC v=true:=by
 intro v hv;have o1:=H.ev.okV;have o2:=H.rf.okV;have o3:okC h.co=true:=by obtain⟨_,h1,_⟩:=H.co;exact h1.okV
 have o4:=H.rm.okV;have o5:=H.ad.okV;have o6:=H.dt.okV;have o7:=H.ct.okV;simp[ghL]at hv;rcases hv with rfl | rfl | rfl | rfl | rfl | rfl | rfl | rfl<;>first | assumption | rfl
@[simp] theorem Dc (l:List Value) (m:M):XE (.agg ⟨l⟩) m=some (.pointer (some ⟨m.n,0,none⟩),Dx.newRow m l):=_root_.id rfl
@[simp] theorem qgp:wg [zI,zI,zI,zU,zI] [(0,1,.int .i64 (-1)),(1,1,.int .i64 2),(4,1,.int .i64 1)]=some (.agg ⟨[.int .i64 (-1),.int .i64 2,zI,zU,.int .i64 1]⟩):=_root_.id rfl
section
variable {m:M}{h:Gh}{g:Gp}
theorem chkA (n:Nat)(hm:m.base<=m.n)(H:GOK m h g)(hev:g.ev.length<=4611686018427387904){kn:K}{ke:Nat->K}{t:Tm}(t0:Tm.get 0 t=.agg ⟨ghL h⟩)(t1:Tm.get 1 t=zF)
  (HQ:∀t' m' B2 B6 c N,h.n=(N:Nat)->N<=g.ev.length->g.ev.length<=256->(∀i,i<N->g.ev[i]?=some (e0 i))->St m m' [(B6,qh (e0 c)),(B2,ghL h)]->Tm.get 2 t'=.pointer (some ⟨B2,0,none⟩)->Tm.get 1 t'=zF->Ret m (fC (WFs h.n g)) (KE (ex Tryz.prog n) kn ke (wN [.t 4,.t 5]) t' m')) :
  Ret m (fC (WFs h.n g)) (XL (ex Tryz.prog n) kn ke (wN [.t 4,.t 5]) t m):=by
 have hel:=H.ev.len;have st0:=(St.nil hm (Ext.refl m)).row (ghL h);obtain⟨m1,hm1⟩:=qi4 (Dx.newRow m (ghL h));rw[<-hm1]at st0;have l0:load1 m1 ⟨m.n,0,none⟩=some (iv h.n):=(st0.get 0 rfl).2.2.load1 0 none;have l1:load1 m1 ⟨m.n,1,none⟩=some h.ev:=(st0.get 0 rfl).2.2.load1 1 none;by_cases c1:h.n<0
 .simp[t0,<-hm1,l0,c1,-yt];exact kg st0.ext ⟨1,0,by simp,⟨λhc=>by omega,λ⟨N,hN,_⟩=>by omega⟩⟩
 by_cases c2:4096<h.n
 .have c2':(h.n>4096)=True:=qi1 c2;simp[t0,<-hm1,l0,c1,c2,-yt];exact kg st0.ext ⟨1,0,by simp,⟨λhc=>by omega,λ⟨N,hN,hg,_⟩=>by have:=hg.n1;have:=hg.n2;omega⟩⟩
 have c2':(h.n>4096)=False:=qi0 c2;by_cases c3:(g.ev.length:Int)<h.n
 .simp[t0,<-hm1,l0,l1,hel,c1,c2,c3,-yt];exact kg st0.ext ⟨1,0,by simp,⟨λhc=>by omega,λ⟨N,hN,hg,_⟩=>by have:=hg.n1;omega⟩⟩
 by_cases c4:256<g.ev.length
 .have c4':((g.ev.length:Int)>256)=True:=qi1 (by omega);have c4'':((256:Int)<g.ev.length)=True:=qi1 (by omega);simp[t0,<-hm1,l0,l1,hel,c1,c2,c3,c4',-yt];exact kg st0.ext ⟨1,0,by simp,⟨λhc=>by omega,λ⟨N,hN,hg,_⟩=>by have:=hg.n2;omega⟩⟩
 have c4':((g.ev.length:Int)>256)=False:=qi0 (by omega);have c4'':((256:Int)<g.ev.length)=False:=qi0 (by omega);obtain⟨N,hN⟩:∃N:Nat,h.n=N:=⟨h.n.toNat,by omega⟩;obtain⟨m2,s1,s2,s3,s4⟩:=(st0.row [zI,zI,zI,zU,zI]).fill 0 rfl (n:=5) (l':=qh (e0 0)) rfl rfl (jP _);have s1':ww 5 (.pointer (some ⟨m1.n,0,none⟩)) (.agg ⟨[.int .i64 (-1),.int .i64 2,zI,zU,.int .i64 1]⟩) (Dx.newRow m1 [zI,zI,zI,zU,zI])=some (undef,m2):=s1;have st2:St m m2 [(m1.n,qh (e0 0)),(m.n,ghL h)]:=s2;have k0:load1 m2 ⟨m.n,0,none⟩=some (iv h.n):=(st2.get 1 rfl).2.2.load1 0 none;simp[t0,t1,<-hm1,l0,l1,hel,c1,c2,c3,c4',s1',k0,-WA];refine qq (c:=DC) rfl (Ret m (fC (WFs h.n g))) (λi t m'=>(∃c,St m m' [(m1.n,qh (e0 c)),(m.n,ghL h)])/\(∀j,j<i->g.ev[j]?=some (e0 j))/\Tm.get 1 t=zF/\Tm.get 2 t=.pointer (some ⟨m.n,0,none⟩)/\Tm.get 6 t=.pointer (some ⟨m1.n,0,none⟩)/\Tm.get 47 t=iv N/\Tm.get 48 t=iv i) N (by omega)
  ⟨⟨0,st2⟩,λj hj=>by omega,by simp[t1],by simp,by simp,by simp[hN],by simp⟩ (λi t m' k hi hI hk=>?_)
 obtain⟨⟨c,st⟩,hini,h1,h2,h6,h47,h48⟩:=hI;by_cases hil:i<N
 .have hd:=dlt hil;have w1:=qK (i:=i) (by omega);obtain⟨m3,u1,u2,u3,u4⟩:=st.store 0 rfl (o:=2) (v:=iv i) (by simp[qh]) rfl;have u2':St m m3 [(m1.n,qh (e0 i)),(m.n,ghL h)]:=u2;have hS:=u2'.sees;have q1:load1 m3 ⟨m.n,1,none⟩=some h.ev:=(u2'.get 1 rfl).2.2.load1 1 none;have q6:loads m3 ⟨m1.n,0,none⟩ 5=some (qh (e0 i)):=(u2'.get 0 rfl).2.2.loads (n:=5) (by simp[qh]);obtain⟨e,he⟩:∃e,g.ev[i]?=some e:=⟨_,qh5 (by omega)⟩;have ⟨a1,a2,a3⟩:=(H.ev.sees hS).at he;have a2':loads m3 (adr 5 h.ev i) 5=some (qh e):=a2 m3 hS.self;have hq:=dz e (e0 i);by_cases heq:e=e0 i
  .rw[qhx heq]at hq;simp[h2,h6,h47,h48,hd,u1,q1,a1,qb,a2',q6,hq,w1,meets];refine hk hil _ _ ?_;refine⟨⟨i,u2'⟩,λj hj=>?_,by simp[h1],by simp[h2],by simp[h6],by simp[h47],by simp⟩;rcases Nat.lt_succ_iff_lt_or_eq.1 hj with hj | rfl
   .exact hini j hj
   .rw[he,heq]
  .rw[qhw heq]at hq;simp[h2,h6,h47,h48,hd,u1,q1,a1,qb,a2',q6,hq,meets];refine kg u2'.ext ⟨2,i,by simp[h48],⟨λhc=>by omega,λ⟨N',hN',hg,_⟩=>?_⟩⟩;have hNN:N'=N:=by omega
   rw[hNN]at hg;have:=hg.ini i hil;rw[he]at this;cases this;exact absurd rfl heq
 obtain rfl:i=N:=by omega
 simp[h47,h48,-WA];exact HQ _ _ _ _ _ i hN (by omega) (by omega) hini st (by simp[h2]) (by simp[h1])
end
def jD (l:List Int):List Value:=l.map iv
def lkL (h:Gh)(nx:Value):List Value:=ghL h++[zF,nx]
def nxV (NB n:Nat):Value:=.slice (some ⟨NB,0,some 3⟩) n n
structure CkJ (m m':M)(h:Gh)(EV:List Ev5)(B2 B6 NB LB B8 B9 MB c:Nat)(nl:List Int)(l:List (Int × Int))(x:List (Nat × List Value)):Prop where
 nlen:nl.length=EV.length
 st:St m m' (x++[(B9,[.map (some MB)]),(B8,[.pointer (some ⟨LB,0,none⟩)]),(LB,lkL h (nxV NB EV.length)),(NB,jD nl),(B6,qh (e0 c)),(B2,ghL h)])
 mb:m.n<=MB
 mlt:MB<m'.n
 mne:MB ∉ x.map (·.1)++[B9,B8,LB,NB,B6,B2]
 mp:m'.obj MB=some (.map (mz l))
theorem XG (h:Gh)(nx:Value)(h4:okC nx=true) :
  wg [zI,zS,zS,zS,zS,zS,zS,zS,zF,zS] [(0,8,.agg ⟨ghL h⟩),(8,1,zF),(9,1,nx)]=some (.agg ⟨lkL h nx⟩):=by
 have c4:zk nx=some [nx]:=by cases nx<;>first | rfl | simp[okC]at h4
 unfold wg;show ob (ob (some (ghL h)) λcs=>bif Nat.beq cs.length 8&&Nat.ble (0+8) 10 then fU [(8,1,zF),(9,1,nx)] _ else none) _=_
 rw[qQ];show ob (ob (some [zF]) λcs=>bif Nat.beq cs.length 1&&Nat.ble (8+1) 10 then fU [(9,1,nx)] _ else none) _=_
 rw[qQ];show ob (ob (zk nx) λcs=>bif Nat.beq cs.length 1&&Nat.ble (9+1) 10 then fU [] _ else none) _=_
 rw[c4];rfl
section
variable {m m' m2:M}{h:Gh}{g:Gp}{EV:List Ev5}{B2 B6 NB LB B8 B9 MB c:Nat}{nl:List Int}{l:List (Int × Int)}{x:List (Nat × List Value)}
theorem chkB (n:Nat)(hm:m.base<=m.n)(H:GOK m h g)(hn2:g.ev.length<=256){kn:K}{ke:Nat->K}{kr:K}{Q:Option Out->Prop}{t:Tm}(st:St m m' [(B6,qh (e0 c)),(B2,ghL h)])(t2:Tm.get 2 t=.pointer (some ⟨B2,0,none⟩))(t1:Tm.get 1 t=zF)
  (HQ:∀t' m2 NB LB B8 B9 MB,CkJ m m2 h g.ev B2 B6 NB LB B8 B9 MB c (List.replicate g.ev.length 0) [] []->Tm.get 2 t'=.pointer (some ⟨B2,0,none⟩)->Tm.get 8 t'=.pointer (some ⟨B8,0,none⟩)->Tm.get 9 t'=.pointer (some ⟨B9,0,none⟩)->Q (KD (ex Tryz.prog n) kn ke kr t' m2)):Q (KE (ex Tryz.prog n) kn ke kr t m'):=by
 have hel:=H.ev.len;have q8:loads m' ⟨B2,0,none⟩ 8=some (ghL h):=(st.get 1 rfl).2.2.loads (n:=8) (by simp[ghL]);have q1:load1 m' ⟨B2,1,none⟩=some h.ev:=(st.get 1 rfl).2.2.load1 1 none;have hmk:=qer (n:=g.ev.length) (by omega) m';obtain⟨nx,hnx⟩:=qi4 (nxV m'.n g.ev.length);have hbl:=XG h nx (by rw[hnx];rfl);have hn0:nums (List.replicate g.ev.length 0)=jD (List.replicate g.ev.length 0):=by unfold nums jD;simp
 rw[hn0]at hmk;have st1:=((st.row (jD (List.replicate g.ev.length 0))).row (lkL h nx)).row [.pointer none];obtain⟨ma,hma⟩:=qi4 (Dx.newRow m' (jD (List.replicate g.ev.length 0)));rw[<-hma]at st1 hmk;obtain⟨mb,hmb⟩:=qi4 (Dx.newRow ma (lkL h nx));rw[<-hmb]at st1;obtain⟨m3,u1,u2,u3,u4,u5⟩:=st1.storeAny 0 rfl (o:=0) (v:=.pointer (some ⟨ma.n,0,none⟩)) (by simp) rfl;rw[show (Value.slice (some ⟨m'.n,0,some 3⟩) g.ev.length g.ev.length)=nx from hnx.symm]at hmk;simp[t1,t2,qb,q8,q1,hel,hmk,hbl,<-hmb,u1,meets,-Wz,VI];obtain⟨m4,hm4⟩:=qi4 (behind (Dx.newRow mb [Value.pointer none]) m3);have hmn:m3.n=m4.n:=by rw[hm4,wj]
 have u3':St m m4 [(mb.n,[.pointer (some ⟨ma.n,0,none⟩)]),(ma.n,lkL h nx),(m'.n,jD (List.replicate g.ev.length 0)),(B6,qh (e0 c)),(B2,ghL h)]:=by rw[hm4];exact u3
 rw[<-hm4,hmn];obtain⟨m5,hm5⟩:=qi4 (m4.alloc (.map []));rw[<-hm5];have E5:Ext m4 m5:=by rw[hm5];exact Ext.allocO _ _
 have n5:m5.n=m4.n+1:=by rw[hm5,M.n_alloc]
 have ob5:m5.obj m4.n=some (.map (mz [])):=by rw[hm5,M.obj_alloc,qhz rfl];rfl
 have st5:=(u3'.step E5).row [.map none];obtain⟨m6,v1,v2,v3,v4⟩:=st5.store 0 rfl (o:=0) (v:=.map (some m4.n)) (by simp) rfl;simp[v1,-Wz];have low:=λp hp=>(u3'.arr p hp).2.1;refine HQ _ m6 m'.n ma.n mb.n m5.n m4.n ⟨by simp,by rw[<-hnx];exact v2,u3'.ext.n,by rw[v3,wL];omega,?_,?_⟩ (by simp[t2]) (by simp) (by simp)
 .have l1:=low _ (qho ..);have l2:=low (ma.n,lkL h nx) (by simp);have l3:=low (m'.n,jD (List.replicate g.ev.length 0)) (by simp);have l4:=low (B6,qh (e0 c)) (by simp);have l5:=low (B2,ghL h) (by simp);simp only at l1 l2 l3 l4 l5;simp;omega
 .rw[v4 m4.n (by omega),(Ext.row m5 _).obj _ (by omega),ob5]
theorem _root_.Go.Dx.St.keepC {m0 m m':M}{σ:List (Nat × List Value)}(h:St m0 m σ)(e:Ext m0 m')(hn:m.n<=m'.n)(ho:∀p∈σ,m'.obj p.1=m.obj p.1):St m0 m' σ :=
 ⟨e,h.base,λp hp=>let ⟨h1,h2,h3⟩:=h.arr p hp;⟨h1,by omega,h3.congr (ho p hp)⟩,h.nd⟩
variable (J:CkJ m m' h EV B2 B6 NB LB B8 B9 MB c nl l x)
include J
theorem CkJ.low:∀X∈x.map (·.1)++[B9,B8,LB,NB,B6,B2],m.n<=X/\X<m'.n:=by
 intro X hX;have:X∈(x++[(B9,[Value.map (some MB)]),(B8,[.pointer (some ⟨LB,0,none⟩)]),(LB,lkL h (nxV NB EV.length)),(NB,jD nl),(B6,qh (e0 c)),(B2,ghL h)]).map (·.1):=by simpa using hX
 obtain⟨p,hp,rfl⟩:=List.mem_map.1 this;obtain⟨h1,h2,_⟩:=J.st.arr p hp;exact⟨h1,h2⟩
theorem CkJ.step (e:Ext m' m2):CkJ m m2 h EV B2 B6 NB LB B8 B9 MB c nl l x :=
 ⟨J.nlen,J.st.step e,J.mb,qha J.mlt e.n,J.mne,by rw[e.obj MB J.mlt];exact J.mp⟩
theorem CkJ.row (r:List Value):CkJ m (Dx.newRow m' r) h EV B2 B6 NB LB B8 B9 MB c nl l ((m'.n,r)::x):=by
 have hlt:=J.mlt;refine⟨J.nlen,J.st.row r,J.mb,by rw[wL];omega,?_,by rw[(Ext.row m' r).obj MB hlt];exact J.mp⟩;have:=J.mne;simp at this ⊢;exact⟨by omega,this⟩
theorem CkJ.put {X:Nat}(hL:m.n<=X)(h1:X ∉ x.map (·.1)++[B9,B8,LB,NB,B6,B2])(h2:X≠MB)(O:DObj):CkJ m (m'.put X O) h EV B2 B6 NB LB B8 B9 MB c nl l x:=by
 refine⟨J.nlen,J.st.keepC (J.st.ext.putO J.st.base hL O) (by rw[M.n_put];exact qh8 _) λp hp=>?_,J.mb,by rw[M.n_put];exact J.mlt,J.mne,by rw[M.obj_put,qhy (λe=>h2 e.symm)];exact J.mp⟩;rw[M.obj_put,qhy];intro e;apply h1;rw[<-e];have:=List.mem_map_of_mem (f:=(·.1)) hp;simpa using this
theorem CkJ.mput (l':List (Int × Int)):CkJ m (m'.put MB (.map (mz l'))) h EV B2 B6 NB LB B8 B9 MB c nl l' x:=by
 refine⟨J.nlen,J.st.keepC (J.st.ext.putO J.st.base J.mb _) (by rw[M.n_put];exact qh8 _) λp hp=>?_,J.mb,by rw[M.n_put];exact J.mlt,J.mne,by rw[M.obj_put,qhz rfl]⟩;rw[M.obj_put,qhy];intro e;apply J.mne;rw[<-e];have:=List.mem_map_of_mem (f:=(·.1)) hp;simpa using this
theorem CkJ.nset {i:Nat}(hi:i<EV.length)(v:Int):∃m2,ww 1 (.pointer (some ⟨NB,i,none⟩)) (iv v) m'=some (undef,m2)/\CkJ m m2 h EV B2 B6 NB LB B8 B9 MB c (nl.set i v) l x/\m2.n=m'.n/\∀X,X≠NB->m2.obj X=m'.obj X:=by
 have hk:(x++[(B9,[Value.map (some MB)]),(B8,[.pointer (some ⟨LB,0,none⟩)]),(LB,lkL h (nxV NB EV.length)),(NB,jD nl),(B6,qh (e0 c)),(B2,ghL h)])[x.length+3]?=some (NB,jD nl):=by
  rw[qhl (by omega)];simp
 obtain⟨m2,s1,s2,s3,s4⟩:=J.st.store (x.length+3) hk (o:=i) (v:=iv v) (by simp[jD];have:=J.nlen;omega) rfl;have hne:MB≠NB:=λe=>J.mne (by rw[e];simp);refine⟨m2,s1,⟨by rw[List.length_set];exact J.nlen,?_,J.mb,by rw[s3];exact J.mlt,J.mne,by rw[s4 MB hne];exact J.mp⟩,s3,s4⟩;have e:(jD nl).set i (iv v)=jD (nl.set i v):=by unfold jD;rw[List.map_set]
 rw[e,List.set_append_right _ _ (by omega)]at s2;simpa using s2
theorem CkJ.at:load1 m' ⟨B9,0,none⟩=some (.map (some MB))/\load1 m' ⟨B8,0,none⟩=some (.pointer (some ⟨LB,0,none⟩))/\load1 m' ⟨LB,9,none⟩=some (nxV NB EV.length) /\
  (∀o s,load1 m' ⟨B2,o,s⟩=(ghL h)[o]?)/\LK m' LB h (nxV NB EV.length):=by
 have a9:=(J.st.arr (B9,[.map (some MB)]) (by simp)).2.2;have a8:=(J.st.arr (B8,[.pointer (some ⟨LB,0,none⟩)]) (by simp)).2.2;have al:=(J.st.arr (LB,lkL h (nxV NB EV.length)) (by simp)).2;have a2:=(J.st.arr (B2,ghL h) (by simp)).2.2;exact⟨a9.load1 0 none,a8.load1 0 none,al.2.load1 9 none,λo s=>a2.load1 o s,al.1,λo s=>al.2.load1 o s⟩
theorem CkJ.sees:Sees m m':=J.st.sees
theorem CkJ.nx:Rd m' (nxV NB EV.length) 1 wz nl:=by
 obtain⟨h1,h2,h3⟩:=J.st.arr (NB,jD nl) (by simp);have e:jD nl=nl.flatMap wz:=by
  unfold jD
  generalize nl=k
  induction k with
  | nil=>rfl
  | cons a k ih=>rw[List.map_cons,List.flatMap_cons,ih];rfl
 have hl:=J.nlen;unfold nxV;rw[<-hl];have h3':Arr m' NB (nl.flatMap wz):=by rw[<-e];exact h3
 exact jx (f:=wz) (λ_=>rfl) h3' h2
omit J
theorem CkJ.drop {p:Nat × List Value}(J:CkJ m m' h EV B2 B6 NB LB B8 B9 MB c nl l (p::x)):CkJ m m' h EV B2 B6 NB LB B8 B9 MB c nl l x:=by
 have h0:=J.mne;refine⟨J.nlen,J.st.sub (λq hq=>by simp at hq ⊢;exact .inr hq) ?_,J.mb,J.mlt,?_,J.mp⟩
 .have:=J.st.nd;simp only[List.cons_append,List.map_cons,List.nodup_cons]at this;exact this.2
 .simp at h0 ⊢;exact h0.2
theorem fd_pt (k k' v:Int):∀l:List (Int × Int),fdL k (ptL k' v l)=if k=k' then some v else fdL k l
 | []=>by
  show (if k=k' then some v else none)=_
  rfl
 | p::l=>by
  unfold ptL;by_cases h:k'=p.1
  .rw[qhz h];unfold fdL;by_cases h2:k=p.1
   .rw[qhz h2,qhz (by rw[h2,h])]
   .rw[qhy h2,qhy (by rw[h];exact h2),qhy h2]
  .rw[qhy h];unfold fdL;by_cases h2:k=p.1
   .rw[qhz h2,qhy (λe=>h (by rw[<-e,h2])),qhz h2]
   .rw[qhy h2,fd_pt k k' v l,qhy h2]
def NxI (EV:List Ev5)(b:Nat)(nl:List Int)(l:List (Int × Int)):Prop:=(∀j e,b<=j->EV[j]?=some e->nl[j]?=some (nxI EV j e))/\∀th,fdL th l=ffr EV th b
theorem NxI.start {EV:List Ev5}{nl:List Int}:NxI EV EV.length nl []:=⟨λj e hj he=>by have:=(qh7.1 he).1;omega,λth=>by rw[qej];rfl⟩
theorem NxI.next {EV:List Ev5}{b:Nat}{nl:List Int}{l:List (Int × Int)}(H:NxI EV (b+1) nl l){e:Ev5}(he:EV[b]?=some e){nl':List Int}(h1:nl'[b]?=some (nxI EV b e))(h2:∀j,b+1<=j->nl'[j]?=nl[j]?):NxI EV b nl' (ptL e.th (b:Int) l):=by
 refine⟨λj e' hj he'=>?_,λth=>?_⟩
 .by_cases hjb:j=b
  .subst hjb;rw[he]at he';cases he';exact h1
  .rw[h2 j (by omega)];exact H.1 j e' (by omega) he'
 .rw[fd_pt,Qp he,H.2];by_cases h:th=e.th
  .rw[qhz h,qhz h.symm]
  .rw[qhy h,qhy (λx=>h x.symm)]
theorem chkC (n:Nat)(hm:m.base<=m.n)(hev:Rd m h.ev 5 qh EV)(hl:EV.length<=256){kn:K}{ke:Nat->K}{kr:K}{Q:Option Out->Prop}{t:Tm}(h0:CkJ m m' h EV B2 B6 NB LB B8 B9 MB c nl [] [])(t2:Tm.get 2 t=.pointer (some ⟨B2,0,none⟩))(t8:Tm.get 8 t=.pointer (some ⟨B8,0,none⟩))(t9:Tm.get 9 t=.pointer (some ⟨B9,0,none⟩))
  (H:∀t' m2 nl' l',CkJ m m2 h EV B2 B6 NB LB B8 B9 MB c nl' l' []->NxI EV 0 nl' l'->Tm.get 2 t'=.pointer (some ⟨B2,0,none⟩)->Tm.get 8 t'=.pointer (some ⟨B8,0,none⟩)->Q (KB (ex Tryz.prog (n+2)) kn ke kr t' m2)):Q (KD (ex Tryz.prog (n+2)) kn ke kr t m'):=by
 have hel:=hev.len;have o1:=hev.okV;have q1:load1 m' ⟨B2,1,none⟩=some h.ev:=h0.at.2.2.2.1 1 none;obtain⟨v1,m3,c1,c2,rfl,c3⟩:=Xu (n+1) h.ev o1 m';simp[t2,q1,c1,-Gj];have h3:CkJ m m3 h EV B2 B6 NB LB B8 B9 MB c nl [] [(m'.n,[h.ev])]:=by rw[c3];exact h0.row [h.ev]
 have n3:m3.n=m'.n+1:=by rw[c3,wL]
 have low3:=h3.low;have hL1:m3.n ∉ [(m'.n,[h.ev])].map (·.1)++[B9,B8,LB,NB,B6,B2]:=λhx=>by have:=(low3 _ hx).2;omega
 have hL2:m3.n≠MB:=λe=>by have:=h3.mlt;omega
 have hL0:m.n<=m3.n:=h3.sees.n;obtain⟨W,hW⟩:=qi4 (m'.n);rw[<-hW]at h3 hL1 ⊢;obtain⟨T,hT⟩:=qi4 (Tm.set 9 (.pointer (some ⟨B9,0,none⟩)) (Tm.set 8 (.pointer (some ⟨B8,0,none⟩)) Tm.junk));refine FZ (c:=DD) rfl (sa:=Yw) (sb:=Yx) BH BI (by omega) n (W:=W) (ev:=h.ev) (EV:=EV) (by omega) ?_ (T:=T) ?_ (λi e=>Tm.set 75 (.agg ⟨qh e⟩) (Tm.set 74 (iv i) T)) (λi e=>rfl)
  (λk m'=>∃nl l,CkJ m m' h EV B2 B6 NB LB B8 B9 MB c nl l [(W,[h.ev])]/\NxI EV (EV.length-k) nl l) (λk m' _ hj=>?_) (λm' e=>⟨nl,[],h3.step e,NxI.start⟩) (λk m' O ⟨nl,l,hj,hx⟩ hlt=>⟨nl,l,hj.put hL0 hL1 hL2 O,hx⟩) ?_ (λm' ⟨nl,l,hj,hx⟩ _=>?_)
 .simp
 .rw[hT];simp[vL,t8,t9]
 .obtain⟨nl,l,hj,hx⟩:=hj;have aw:=(hj.st.arr (W,[h.ev]) (by simp)).2.2;exact⟨aw.load1 0 none,hev.sees hj.sees,hj.sees.base⟩
 .intro k i e m1 hk hi he hjx hlt;obtain⟨nl,l,hj,hx⟩:=hjx;have hb:EV.length-k=i+1:=by omega
  have hb2:EV.length-(k+1)=i:=by omega
  rw[hb]at hx;rw[hb2];have hil:i<EV.length:=by omega
  obtain⟨m2,s1,s2,s3,s4,s5⟩:=wK (m:=m1) hj.sees.base (zs:=Wf) (l:=qh e) (v:=.agg ⟨qh e⟩) (n:=5) rfl rfl rfl (jP e);have J2:CkJ m m2 h EV B2 B6 NB LB B8 B9 MB c nl l [(W,[h.ev])]:=hj.step s4;refine⟨Tm.set 11 (.pointer (some ⟨m1.n,0,none⟩)) (Tm.set 10 (iv i) (Tm.set 75 (.agg ⟨qh e⟩) (Tm.set 74 (iv i) T))),m2,λkk=>?_,s4.obj _ hlt,s4.n,λO=>?_⟩
  .unfold Yw;simp[s1]
  .unfold Yx;obtain⟨mp,hmp⟩:=qi4 (m2.put m3.n O);rw[<-hmp];have hlt2:m3.n<m2.n:=qha hlt s4.n;have Jp:CkJ m mp h EV B2 B6 NB LB B8 B9 MB c nl l [(W,[h.ev])]:=by rw[hmp];exact J2.put hL0 hL1 hL2 O
   have op:mp.obj m3.n=some O:=by rw[hmp,M.obj_put,qhz rfl]
   have np:mp.n=m2.n:=by rw[hmp,M.n_put]
   have hne11:m1.n≠m3.n:=by omega
   have b11:∀o s,load1 mp ⟨m1.n,o,s⟩=(qh e)[o]?:=λo s=>by
    rw[hmp];have:load1 (m2.put m3.n O) ⟨m1.n,o,s⟩=load1 m2 ⟨m1.n,o,s⟩:=by unfold load1 cellsOf;rw[M.obj_put,qhy hne11]
    rw[this,s2]
   obtain⟨k9,k8,kL,kB,kK⟩:=Jp.at;have hix:wJ 1 (nxV NB EV.length) (.int .i64 i)=some (.pointer (some ⟨NB,i,none⟩)):=QG NB EV.length i hil;have low:=Jp.low;have hNB:m1.n≠NB:=λe=>by have:=(hj.low NB (by simp)).2;omega
   have hMB:m1.n≠MB:=λe=>by have:=hj.mlt;omega
   have hLN:m3.n≠NB:=λe=>hL1 (by rw[e];simp);have keep:∀{ma mb:M} (X:Nat),mb.obj X=ma.obj X->∀o s,load1 mb ⟨X,o,s⟩=load1 ma ⟨X,o,s⟩:=λX hX o s=>by unfold load1 cellsOf;rw[hX]
   obtain⟨m4,u1,J4,u3,u4⟩:=Jp.nset hil (-1);obtain⟨r9,r8,rL,rB,rK⟩:=J4.at;have b4:∀o s,load1 m4 ⟨m1.n,o,s⟩=(qh e)[o]?:=λo s=>by rw[keep _ (u4 _ hNB)];exact b11 o s
   have b40:load1 m4 ⟨m1.n,0,none⟩=some (iv e.th):=b4 0 none;have o4:m4.obj m3.n=some O:=by rw[u4 _ hLN];exact op
   have hfd:fdL e.th l=ffr EV e.th (i+1):=hx.2 e.th;have lk:=lk_mz2 J4.mp e.th;have hnll:i<nl.length:=by have:=hj.nlen;omega
   have mu:=KY J4.mp e.th (i:Int);rw[hfd]at lk;obtain⟨bs,hbs⟩:=qi4 ((ffr EV e.th (i+1)).isSome);obtain⟨v,hv⟩:=qi4 ((ffr EV e.th (i+1)).getD 0);have hnx:nxI EV i e=if bs=true/\0<=e.th then v else -1:=by unfold nxI;rw[<-hbs,<-hv]
   rw[<-hbs,<-hv]at lk;by_cases hcond:bs=true/\0<=e.th
   .rw[qhz hcond]at hnx;obtain⟨hs,hge⟩:=hcond;subst hs;obtain⟨m5,w1,J5,w3,w4⟩:=J4.nset hil v;obtain⟨x9,x8,xL,xB,xK⟩:=J5.at;have b50:load1 m5 ⟨m1.n,0,none⟩=some (iv e.th):=by rw[keep _ (w4 _ hNB)];exact b40
    have o5:m5.obj m3.n=some O:=by rw[w4 _ hLN];exact o4
    have mu:=KY J5.mp e.th (i:Int);have hge':(e.th>=0)=True:=qi1 hge;simp[hT,k8,kL,hix,u1,r9,b40,lk,hge,r8,rL,w1,x9,b50,mu];refine Zv ⟨rfl,by rw[M.obj_put,qhy hL2];exact o5,by rw[M.n_put];have:=s4.n;omega,_,_,J5.mput _,hx.next he ?_ λj hj=>?_⟩
    .rw[qhp (by simp;exact hnll),hnx]
    .rw[qht (by omega),qht (by omega)]
   .rw[qhy hcond]at hnx;have fin:∃nl' l',CkJ m (m4.put MB (.map (mz (ptL e.th (i:Int) l)))) h EV B2 B6 NB LB B8 B9 MB c nl' l' [(W,[h.ev])]/\NxI EV i nl' l' :=
     ⟨_,_,J4.mput _,hx.next he (by rw[qhp hnll,hnx]) λj hj=>by rw[qht (by omega)]⟩
    cases bs with
    | false =>
     simp[hT,k8,kL,hix,u1,r9,b40,lk,mu];exact Zv ⟨rfl,by rw[M.obj_put,qhy hL2];exact o4,by rw[M.n_put];have:=s4.n;omega,fin⟩
    | true =>
     have hlt0:(0<=e.th)=False:=qi0 (λhc=>hcond ⟨rfl,hc⟩);have hlt0':(e.th>=0)=False:=hlt0;simp[hT,k8,kL,hix,u1,r9,b40,lk,mu,hlt0];exact Zv ⟨rfl,by rw[M.obj_put,qhy hL2];exact o4,by rw[M.n_put];have:=s4.n;omega,fin⟩
 .rw[Nat.sub_self]at hx;exact H _ m' nl l hj.drop hx (by simp[t2]) (by simp[t8])
end
section
variable {m m' m2:M}{h:Gh}{g:Gp}{B2 B6 NB LB B8 B9 MB c:Nat}{nl:List Int}{l:List (Int × Int)}
@[simp] theorem bslice2i (m:M) (a b:Int):wH 1 2 (rep 2 [zI]) [(0,1,.int .i64 a),(1,1,.int .i64 b)] m=some (.slice (some ⟨m.n,0,some 3⟩) 2 2,Dx.newRow m [iv a,iv b]):=_root_.id rfl
structure GSz (g:Gp):Prop where
 ev:g.ev.length<=4611686018427387904
 rf:g.rf.length<=4611686018427387904
 co:g.co.length<=4611686018427387904
 cos:∀l∈g.co,l.length<=4611686018427387904
 rm:g.rm.length<=4611686018427387904
theorem chkD (n:Nat)(hm:m.base<=m.n)(H:GOK m h g)(hsp:Sp 1 h.co)(hz:GSz g){N:Nat}(hN:h.n=N)(hn1:N<=g.ev.length)(hn2:g.ev.length<=256)(hini:∀i,i<N->g.ev[i]?=some (e0 i))
  {kn:K} {ke:Nat->K} {t:Tm} (J:CkJ m m' h g.ev B2 B6 NB LB B8 B9 MB c nl l []) (hx:NxI g.ev 0 nl l) (t2:Tm.get 2 t=.pointer (some ⟨B2,0,none⟩)) (t8:Tm.get 8 t=.pointer (some ⟨B8,0,none⟩)) :
  Ret m (fC (WFs h.n g)) (KB (ex Tryz.prog (n+3)) kn ke (wN [.t 4,.t 5]) t m'):=by
 have hS:=J.sees;have hnl:nl=nxL g.ev:=by
  refine List.ext_getElem? λj=>?_;by_cases hj:j<g.ev.length
  .obtain⟨e,he⟩:∃e,g.ev[j]?=some e:=⟨_,qh5 hj⟩;rw[hx.1 j e (Nat.zero_le _) he,qbt he]
  .rw[qhs (by have:=J.nlen;omega),qhs (by rw[qf2];omega)]
 have hWN:∀{P:Nat->Prop},(∃N':Nat,h.n=N'/\P N')->P N:=λ⟨N',h1,h2⟩=>by
  have:N'=N:=by omega
  rw[this]at h2;exact h2
 obtain⟨v1,m1,c1,c2,r1,rfl,hr1⟩:=qb5 n hS.base J.at.2.2.2.2 (H.ev.sees hS) hN hn1 hn2;have J1:=J.step c2;have hS1:=J1.sees;have a8:=J.at.2.1;have a81:=J1.at.2.1;by_cases k1:r1<0
 rotate_left
 .have k1':(0<=r1)=True:=qi1 (by omega);have k1'':(r1>=0)=True:=k1';simp[t8,a8,c1,k1'];exact kg J1.st.ext ⟨3,r1,by simp,⟨λhc=>by omega,λhc=>by have:=(hWN hc).1.evs;exact absurd (hr1.2 this) k1⟩⟩
 have e1:=hr1.1 k1;have g1:EvG N g.ev:=⟨hn1,hn2,hini,e1⟩;have k1':(0<=r1)=False:=qi0 (by omega);have k1'':(r1>=0)=False:=k1';obtain⟨v2,m2,d1,d2,r2,rfl,hr2⟩:=rf_c (n+1) hS1.base J1.at.2.2.2.2 (H.ev.sees hS1) (H.rf.sees hS1) hn2;have J2:=J1.step d2;have hS2:=J2.sees;have a82:=J2.at.2.1;by_cases k2:r2<0
 rotate_left
 .have k2':(0<=r2)=True:=qi1 (by omega);have k2'':(r2>=0)=True:=k2';simp[t8,a8,c1,k1',a81,d1,k2'];exact kg J2.st.ext ⟨4,r2,by simp,⟨λhc=>by omega,λhc=>by have:=(hWN hc).2.1;exact absurd (hr2.2 this) k2⟩⟩
 have e2:=hr2.1 k2;have k2':(0<=r2)=False:=qi0 (by omega);have k2'':(r2>=0)=False:=k2';obtain⟨sv,s1,s3⟩:=(H.sees hS2).co;obtain⟨v3,m3,f1,f2,r3,rfl,hr3⟩:=co_c (n+1) hS2.base J2.at.2.2.2.2 (H.ev.sees hS2) hN g1 hz.cos hz.co s1 hsp s3;have J3:=J2.step f2;have hS3:=J3.sees;have a83:=J3.at.2.1;by_cases k3:r3<0
 rotate_left
 .have k3':(0<=r3)=True:=qi1 (by omega);have k3'':(r3>=0)=True:=k3';simp[t8,a8,c1,k1',a81,d1,k2',a82,f1,k3'];exact kg J3.st.ext ⟨5,r3,by simp,⟨λhc=>by omega,λhc=>by have:=(hWN hc).2.2.1;exact absurd (hr3.2 this) k3⟩⟩
 have e3:=hr3.1 k3;have k3':(0<=r3)=False:=qi0 (by omega);have k3'':(r3>=0)=False:=k3';obtain⟨v4,m4,q1,q2,r4,rfl,hr4⟩:=rmw_c (n+1) hS3.base J3.at.2.2.2.2 (H.ev.sees hS3) (H.rm.sees hS3) hz.rm J3.nx J3.nlen hn2;rw[hnl]at hr4;have J4:=J3.step q2;have hS4:=J4.sees;have a84:=J4.at.2.1;by_cases k4:r4<0
 rotate_left
 .have k4':(0<=r4)=True:=qi1 (by omega);have k4'':(r4>=0)=True:=k4';simp[t8,a8,c1,k1',a81,d1,k2',a82,f1,k3',a83,q1,k4'];exact kg J4.st.ext ⟨6,r4,by simp,⟨λhc=>by omega,λhc=>by have:=(hWN hc).2.2.2.1;exact absurd (hr4.2 this) k4⟩⟩
 have e4:=hr4.1 k4;have k4':(0<=r4)=False:=qi0 (by omega);have k4'':(r4>=0)=False:=k4';have b45:load1 m4 ⟨B2,5,none⟩=some h.ad:=J4.at.2.2.2.1 5 none;have J5:=J4.step (Ext.row m4 [iv 1,iv 2]);obtain⟨v5,m5,u1,u2,r5,rfl,hr5⟩:=Vt (n+2) (.slice (some ⟨m4.n,0,some 3⟩) 2 2) h.ad g.ad J5.sees.base J5.at.2.2.2.2 (H.ad.sees J5.sees);have J6:=J5.step u2;have a85:=J6.at.2.1;by_cases k5:r5<0
 rotate_left
 .have k5':(0<=r5)=True:=qi1 (by omega);have k5'':(r5>=0)=True:=k5';simp[t2,t8,a8,c1,k1',a81,d1,k2',a82,f1,k3',a83,q1,k4',a84,b45,u1,k5'];exact kg J6.st.ext ⟨7,r5,by simp,⟨λhc=>by omega,λhc=>by have:=(hWN hc).2.2.2.2.1;exact absurd (hr5.2 this) k5⟩⟩
 have e5:=hr5.1 k5;have k5':(0<=r5)=False:=qi0 (by omega);have k5'':(r5>=0)=False:=k5';have b55:load1 m5 ⟨B2,6,none⟩=some h.dt:=J6.at.2.2.2.1 6 none;have J7:=J6.step (Ext.row m5 [iv 2]);obtain⟨v6,m6,w1,w2,r6,rfl,hr6⟩:=Vt (n+2) (.slice (some ⟨m5.n,0,some 3⟩) 1 1) h.dt g.dt J7.sees.base J7.at.2.2.2.2 (H.dt.sees J7.sees);have J8:=J7.step w2;have a86:=J8.at.2.1;by_cases k6:r6<0
 rotate_left
 .have k6':(0<=r6)=True:=qi1 (by omega);have k6'':(r6>=0)=True:=k6';simp[t2,t8,a8,c1,k1',a81,d1,k2',a82,f1,k3',a83,q1,k4',a84,b45,u1,k5',a85,b55,w1,k6'];exact kg J8.st.ext ⟨8,r6,by simp,⟨λhc=>by omega,λhc=>by have:=(hWN hc).2.2.2.2.2.1;exact absurd (hr6.2 this) k6⟩⟩
 have e6:=hr6.1 k6;have k6':(0<=r6)=False:=qi0 (by omega);have k6'':(r6>=0)=False:=k6';have b65:load1 m6 ⟨B2,7,none⟩=some h.ct:=J8.at.2.2.2.1 7 none;have J9:=J8.step (Ext.row m6 [iv 1,iv 2,iv 3]);obtain⟨v7,m7,x1,x2,r7,rfl,hr7⟩:=Vt (n+2) (.slice (some ⟨m6.n,0,some 3⟩) 3 3) h.ct g.ct J9.sees.base J9.at.2.2.2.2 (H.ct.sees J9.sees);have J10:=J9.step x2;by_cases k7:r7<0
 rotate_left
 .have k7':(0<=r7)=True:=qi1 (by omega);have k7'':(r7>=0)=True:=k7';simp[t2,t8,a8,c1,k1',a81,d1,k2',a82,f1,k3',a83,q1,k4',a84,b45,u1,k5',a85,b55,w1,k6',a86,b65,x1,k7'];exact kg J10.st.ext ⟨9,r7,by simp,⟨λhc=>by omega,λhc=>by have:=(hWN hc).2.2.2.2.2.2;exact absurd (hr7.2 this) k7⟩⟩
 have e7:=hr7.1 k7;have k7':(0<=r7)=False:=qi0 (by omega);have k7'':(r7>=0)=False:=k7';simp[t2,t8,a8,c1,k1',a81,d1,k2',a82,f1,k3',a83,q1,k4',a84,b45,u1,k5',a85,b55,w1,k6',a86,b65,x1,k7'];exact kg J10.st.ext ⟨0,0,by simp,⟨λ_=>⟨N,hN,g1,e2,e3,e4,e5,e6,e7⟩,λ_=>rfl⟩⟩
theorem qdy (n:Nat)(hm:m.base<=m.n)(H:GOK m h g)(hsp:Sp 1 h.co)(hz:GSz g):Dx.Call (ex Tryz.prog (n+4)) 24 [.agg ⟨ghL h⟩,zF] m (fC (WFs h.n g)):=by
 refine qm db1_ok (by simp) ?_;refine chkA (n+3) hm H hz.ev (by simp) (by simp) λt' m' B2 B6 c N hN n1 n2 hini st t2 t1=>?_;refine chkB (n+3) hm H n2 st t2 t1 λt' m2 NB LB B8 B9 MB hj t2 t8 t9=>?_;refine chkC (n+1) hm H.ev n2 hj t2 t8 t9 λt' m3 nl' l' hj hx t2 t8=>?_;exact chkD n hm H hsp hz hN n1 n2 hini hj hx t2 t8
end
end Go.Sx
