/- Contracts. -/
import Derived.Test.YtkacohbklkmnaaaGreatGn
import Derived.Test.YtkacohbklkmnaaaGreatGk
import Derived.Test.YtkacohbklkmnaaaGreatGf
import Derived.Test.YtkacohbklkmnaaaGreatGg
import Derived.Test.YtkacohbklkmnaaaGreatGc
import Derived.Test.YtkacohbklkmnaaaGreatPost
import Derived.WideKeyArgs
set_option linter.unusedVariables false
set_option linter.unusedSimpArgs false
set_option linter.defProp false
set_option maxHeartbeats 2000000
namespace Go.Sx
open Go.Dx Go.Proofs
set_option maxRecDepth 10000
section
variable {m:M}{h:Gh}{g:Gp}{n:Nat}{p:Pg}{t:Th}
theorem Bp (hm:m.base<=m.n)(hG:GOK m h g)(hp:PgOK m p)(hB:pgB p=true)(ht:p.ths[n]?=some t)(hl:g.rm.length<=65536)(hok:∀p∈g.rm,isB g.ev p.1 1=true)(hev:g.ev.length<=256)(N:Nat) :
  Dx.Call (ex Tryz.prog (N+65544)) 35 [pgV p,.agg ⟨ghL h⟩,iv n] m (Xy m (bG p g n)):=by
 refine qm db8_ok (by simp) ?_;have hpv:pgV p=.agg ⟨[iv p.cells,p.tv]⟩:=rfl;have st1:=(((St.nil hm (Ext.refl m)).row [iv p.cells,p.tv]).row (ghL h)).row vQ;obtain⟨m1,hm1⟩:=qi4 (Dx.newRow m [iv p.cells,p.tv]);rw[<-hm1]at st1;obtain⟨m2,hm2⟩:=qi4 (Dx.newRow m1 (ghL h));rw[<-hm2]at st1;obtain⟨m3,hm3⟩:=qi4 (Dx.newRow m2 vQ);rw[<-hm3]at st1;have hm3':Dx.newRow m2 [zF,zS,zS]=m3:=hm3.symm;have S3:=st1.sees;have L8:loads m3 ⟨m1.n,0,none⟩ 8=some (ghL h):=(st1.get 1 rfl).2.2.loads (n:=8) (by simp[ghL]);obtain⟨lv,m4,c1,c2,hLv⟩:=Kh (h:=h) (N+65542) S3.self.base (hG.ev.sees S3) hev n;have st4:=st1.step c2;have S4:=st4.sees;have hlv:=hLv.rd xn;have hlen:=hlv.len;have hll:(thL g.ev n).length<=256:=qhh (vJ _ _ _) hev;have hlok:∀i∈thL g.ev n,i<g.ev.length:=λi hi=>by
  unfold thL thN at hi;have:=(List.mem_filter.1 hi).1;simpa using this
 rw[hpv];simp[<-hm1,<-hm2,hm3',L8,qb,c1,-yw];refine qq (c:=cb8_8) rfl (Ret m _) (λi tt m'=>Ext m4 m'/\Grown m4 m' (Tm.get 8 tt) 1 qS (ky g.ev ((thL g.ev n).take i))/\Tm.get 2 tt=iv n/\Tm.get 3 tt=.pointer (some ⟨m.n,0,none⟩)/\Tm.get 4 tt=.pointer (some ⟨m1.n,0,none⟩)/\Tm.get 6 tt=.pointer (some ⟨m2.n,0,none⟩)/\Tm.get 7 tt=lv/\Tm.get 9 tt=iv i) (thL g.ev n).length (by omega)
  ⟨Ext.refl _,by simp;exact Grown.nil,by simp,by simp,by simp,by simp,by simp,by simp⟩ (λi tt m' k hi hI hk=>?_)
 obtain⟨hE,hR,t2,t3,t4,t6,t7,t9⟩:=hI;obtain⟨sv,hsv⟩:=qi4 (Tm.get 8 tt);rw[<-hsv]at hR;have t8:=hsv.symm;have st':=st4.step hE;have S':=st'.sees;have S4':Sees m4 m':=(Sees.refl S4.self.base).ext hE;by_cases hil:i<(thL g.ev n).length
 .obtain⟨x,hx⟩:∃x,(thL g.ev n)[i]?=some x:=⟨_,qh5 hil⟩;obtain⟨e,he⟩:∃e,g.ev[x]?=some e:=⟨_,qh5 (hlok x (qh6 hx))⟩;have l1:load1 m' ⟨m1.n,1,none⟩=some h.ev:=(st'.get 1 rfl).2.2.load1 1 none;have ⟨p1,p2⟩:=Rd.at1 (g:=λ(x:Nat)=>iv x) (hlv.sees S4') hx;have p2':=p2 m' S'.self;have ⟨b1,b2,b3⟩:=(hG.ev.sees S').at he;have b31:load1 m' ⟨(adr 5 h.ev x).block,(adr 5 h.ev x).off+1,none⟩=some (iv e.kind):=by have:=b3 m' 1 none S'.self (by simp[qh]);exact this
  have b33:load1 m' ⟨(adr 5 h.ev x).block,(adr 5 h.ev x).off+3,none⟩=some (uv e.val.1):=by have:=b3 m' 3 none S'.self (by simp[qh]);exact this
  have hd:=dlt hil;have hd':(i<(thL g.ev n).length)=True:=qi1 hil;have w1:=qK (i:=i) (by omega);have hsn:=QP (EV:=g.ev) hx he;by_cases hk1:e.kind=1
  .rw[qhz hk1]at hsn;have hbl:=Fu g.ev ((thL g.ev n).take i);have hbl2:((thL g.ev n).take i).length<=i:=by rw[List.length_take];omega
   have hbs:wH 1 1 (rep 1 [zU]) [(0,1,uv e.val.1)] m'=some (.slice (some ⟨m'.n,0,some 3⟩) 1 1,Dx.newRow m' [uv e.val.1]):=bs_u _ _;obtain⟨v',m5,e1,e2,e3,e4,e5,e6,e7⟩:=(hR.ext (Ext.row m' [uv e.val.1])).appendAny (hE.trans (Ext.row m' [uv e.val.1])) S4.self.base (by omega) (λ_=>rfl) fA (x:=e.val) (X:=m'.n) (sp:=some 3) (zE m' _ 0 1 (by simp)) (bytes:=8) (by unfold wk;omega) (by omega);simp[t4,t7,t8,t9,hlen,hd,l1,p1,p2',b1,b31,b33,hk1,hbs,e1,w1,meets,-yw];refine hk hil _ _ ⟨e3,by simp[hsn];exact e4,by simp[t2],by simp[t3],by simp[t4],by simp[t6],by simp[t7],by simp⟩
  .rw[qhy hk1]at hsn;simp[t4,t7,t9,hlen,hd,l1,p1,p2',b1,b31,hk1,w1,meets,-yw];refine hk hil _ _ ⟨hE,by simp[hsn,t8];exact hR,by simp[t2],by simp[t3],by simp[t4],by simp[t6],by simp[t7],by simp⟩
 obtain rfl:i=(thL g.ev n).length:=by omega
 rw[List.take_length]at hR;simp[t7,t9,hlen,-yw];exact rp_src (N:=N) (p:=p) (t:=t) (P3:=m.n) (G4:=m1.n) (T6:=m2.n) st' (hlv.sees S4') (hR.rd (λ_=>rfl)) hG hp hB ht hl hok hev (by simp[t2]) (by simp[t3]) (by simp[t4]) (by simp[t6]) (by simp[t7]) (by simp[t8])
end
def yn (v:Value):List Value:=[zT,v,zS]
theorem Xr (v:Value):(yn v).length=3:=rfl
structure TolN (m0 m:M)(ov:Value)(vs:List Value)(LL:List (List U)):Prop where
 top:Grown m0 m ov 3 yn vs
 len:vs.length=LL.length
 at_:∀(i:Nat) v l,vs[i]?=some v->LL[i]?=some l->Grown m0 m v 1 qS l
 ne:∀(i:Nat) v,vs[i]?=some v->∀B,blk v=some B->blk ov≠some B
 nd:∀(i j:Nat) v w,i<j->vs[i]?=some v->vs[j]?=some w->∀B,blk v=some B->blk w≠some B
theorem TolN.nil {m0 m:M}:TolN m0 m zS [] [] :=
 ⟨.nil,rfl,λi v l h=>by simp at h,λi v h=>by simp at h,λi j v w _ h=>by simp at h⟩
theorem TolN.low {m0 m:M}{ov:Value}{vs:List Value}{LL:List (List U)}(h:TolN m0 m ov vs LL){i:Nat}{v:Value}(hv:vs[i]?=some v):∀B,blk v=some B->m0.n<=B/\B<m.n:=λB hB=>by
 have hi:=(qh7.1 hv).1;exact grown_low (h.at_ i v _ hv (qh5 (by rw[<-h.len];exact hi))) B hB
theorem TolN.more {m0 m m1 m':M}{ov ov' w:Value}{vs:List Value}{LL:List (List U)}{l:List U}(h:TolN m0 m ov vs LL)(e:Ext m m1)(hw:Grown m m1 w 1 qS l)(h0:m0.n<=m.n)(hg:Grown m0 m' ov' 3 yn (vs++[w]))(hA:Ap m1 m' ov ov'):TolN m0 m' ov' (vs++[w]) (LL++[l]):=by
 have hov:∀B,blk ov=some B->B<m.n:=λB hB=>(grown_low h.top B hB).2;have cases':∀(i:Nat) v,(vs++[w])[i]?=some v->vs[i]?=some v\/(i=vs.length/\v=w):=λi v hv=>by
  by_cases hi:i<vs.length
  .rw[qhk hi]at hv;exact .inl hv
  .rw[qhl (by omega)]at hv;have:=(qh7.1 hv).1;simp at this;have hie:i=vs.length:=by omega
   subst hie;simp at hv;exact .inr ⟨rfl,hv.symm⟩
 have lowV:∀(i:Nat) v,vs[i]?=some v->∀B,blk v=some B->B<m.n:=λi v hv B hB=>(h.low hv B hB).2;have lowW:∀B,blk w=some B->m.n<=B/\B<m1.n:=grown_low hw;have hn1:=e.n;refine⟨hg,by simp[h.len],λi v l' hv hl=>?_,λi v hv B hB=>?_,λi j v v' hij hv hv' B hB=>?_⟩
 .rcases cases' i v hv with h1 | ⟨h1,rfl⟩
  .have hi:=(qh7.1 h1).1;rw[qhk (by rw[<-h.len];exact hi)]at hl;refine ((h.at_ i v l' h1 hl).ext e).keep hA.n λB hB hb=>hA.obj B hB λhc=>h.ne i v h1 B hb hc
  .subst h1;rw[h.len]at hl;simp at hl;subst hl;exact (hw.low h0).keep hA.n λB hB hb=>hA.obj B hB λhc=>by have:=hov B hc;have:=(lowW B hb).1;omega
 .intro hc;have:=hA.new B hc;rcases cases' i v hv with h1 | ⟨_,rfl⟩
  .have:=lowV i v h1 B hB;omega
  .have:=(lowW B hB).2;omega
 .intro hc;rcases cases' i v hv with h1 | ⟨h1,rfl⟩
  .rcases cases' j v' hv' with h2 | ⟨_,rfl⟩
   .exact h.nd i j v v' hij h1 h2 B hB hc
   .have:=lowV i v h1 B hB;have:=(lowW B hc).1;omega
  .subst h1;have:=(qh7.1 hv').1;simp at this;omega
theorem TolN.ext {m0 m m':M}{ov:Value}{vs:List Value}{LL:List (List U)}(h:TolN m0 m ov vs LL)(e:Ext m m'):TolN m0 m' ov vs LL :=
 ⟨h.top.ext e,h.len,λi v l a b=>(h.at_ i v l a b).ext e,h.ne,h.nd⟩
theorem TolN.okV {m0 m:M}{ov:Value}{vs:List Value}{LL:List (List U)}(h:TolN m0 m ov vs LL):∀v∈vs,okC v=true:=λv hv=>by
 obtain⟨i,hi⟩:=qhr hv;have hl:=(qh7.1 hi).1;exact (h.at_ i v _ hi (qh5 (by rw[<-h.len];exact hl))).okC
theorem bs_tol (m:M)(v:Value)(h4:okC v=true):wH 3 1 (rep 1 [zF,zS,zS]) [(0,3,.agg ⟨yn v⟩)] m=some (.slice (some ⟨m.n,0,some 7⟩) 1 1,Dx.newRow m (yn v)):=by
 cases v<;>first | rfl | (simp[okC]at h4)
def vS (p:Pg)(g:Gp)(n:Nat):Prop:=if n<p.ths.length then bG p g n=none else thL g.ev n≠[]
def BP (m:M)(p:Pg)(g:Gp)(v:Value)(m':M):Prop :=
 (∃n:Nat,n<64/\vS p g n/\(∀k<n,¬vS p g k)/\v=.tuple #[zS,iv n,iv 8]) \/
 ((∀k<64,¬vS p g k)/\∃ov vs,∃LL:List (List U),v=.tuple #[ov,iv 0,iv 0]/\LL.length=p.ths.length/\(∀(i:Nat) l,LL[i]?=some l->bG p g i=some l)/\TolN m m' ov vs LL)
def RrsQ (m:M)(p:Pg)(h:Gh)(g:Gp)(v:Value)(m':M):Prop :=
 (¬(pgB p=true/\h.n=p.cells)->v=.tuple #[zS,iv 0,iv 1]) /\
 ((pgB p=true/\h.n=p.cells)->¬WFs h.n g->v=.tuple #[zS,iv 0,iv 4]) /\
 ((pgB p=true/\h.n=p.cells)->WFs h.n g->BP m p g v m')
theorem TolN.lower {m0 m0' m:M}{ov:Value}{vs:List Value}{LL:List (List U)}(h:TolN m0 m ov vs LL)(hn:m0'.n<=m0.n):TolN m0' m ov vs LL :=
 ⟨h.top.low hn,h.len,λi v l a b=>(h.at_ i v l a b).low hn,h.ne,h.nd⟩
section
variable {m:M}{h:Gh}{g:Gp}{p:Pg}
theorem Yd (p:Pg)(hp:PgOK m p)(H:GOK m h g)(hz:GSz g)(hza:g.ad.length<=4611686018427387904/\g.dt.length<=4611686018427387904/\g.ct.length<=4611686018427387904)(N:Nat)(hm:m.base<=m.n) :
  Dx.Call (ex Tryz.prog (N+65545)) 12 [pgV p,.agg ⟨ghL h⟩] m (RrsQ m p h g):=by
 refine qm da3_ok (by simp) ?_;have hpv:pgV p=.agg ⟨[iv p.cells,p.tv]⟩:=rfl;have st1:=((St.nil hm (Ext.refl m)).row [iv p.cells,p.tv]).row (ghL h);obtain⟨m1,hm1⟩:=qi4 (Dx.newRow m [iv p.cells,p.tv]);rw[<-hm1]at st1;obtain⟨m2,hm2⟩:=qi4 (Dx.newRow m1 (ghL h));rw[<-hm2]at st1;have hm1n:m1.n=m.n+1:=by rw[hm1];simp
 have lP:loads m2 ⟨m.n,0,none⟩ 2=some [iv p.cells,p.tv]:=(st1.get 1 rfl).2.2.loads (n:=2) (by simp);have S2:=st1.sees;obtain⟨v3,m3,c1,c2,rfl⟩:=Yf p (N+65540) m2 S2.self.base (hp.sees S2);have st3:=st1.step c2;have S3:=st3.sees;have lG0:load1 m3 ⟨m1.n,0,none⟩=some (iv h.n):=(st3.get 0 rfl).2.2.load1 0 none;have lP0:load1 m3 ⟨m.n,0,none⟩=some (iv p.cells):=(st3.get 1 rfl).2.2.load1 0 none;have L8:loads m3 ⟨m1.n,0,none⟩ 8=some (ghL h):=(st3.get 0 rfl).2.2.loads (n:=8) (by simp[ghL]);rw[hpv]at c1 ⊢;by_cases hB:pgB p=true
 .rw[hB]at c1;by_cases hc:h.n=p.cells
  .obtain⟨v4,m4,d1,d2,r,a,rfl,hr⟩:=qcy (N+65540) S3.self.base (H.sees S3) hz hza;have hc':(h.n=p.cells)=True:=qi1 hc;have st4:=st3.step d2;have S4:=st4.sees;by_cases hr0:r=0
   .have hW:=hr.1 hr0;obtain⟨N0,hN0,hEvG,_,_,hrm,_⟩:=id hW;have hev:g.ev.length<=256:=hEvG.n2;have hrl:=qd6 hrm;subst hr0;have mono:∀v m',BP m p g v m'->RrsQ m p h g v m':=λv m' hx=>⟨λhy=>absurd ⟨hB,hc⟩ hy,λ_ hw=>absurd hW hw,λ_ _=>hx⟩;simp[<-hm1,<-hm2,lP,qb,c1,lG0,lP0,hc',L8,d1,wo];refine QQ (P:=BP m p g) ?_ mono;refine qq (c:=Do) rfl (Ret m _) (λi t m'=>Ext m4 m'/\(∀k<i,¬vS p g k)/\(∃vs,∃LL:List (List U),LL.length=min i p.ths.length/\(∀(j:Nat) l,LL[j]?=some l->bG p g j=some l)/\TolN m4 m' (Tm.get 9 t) vs LL)/\Tm.get 2 t=.pointer (some ⟨m.n,0,none⟩)/\Tm.get 3 t=.pointer (some ⟨m1.n,0,none⟩)/\Tm.get 10 t=iv i) 64 (by omega)
     ⟨Ext.refl _,λk hk=>by omega,⟨[],[],by simp,λj r hj=>by simp at hj,by simp;exact TolN.nil⟩,by simp,by simp,by simp⟩ (λi t m' k hi hI hk=>?_)
    obtain⟨hE,hb,⟨vs,LL,hll,hls,hN⟩,t2,t3,t10⟩:=hI;obtain⟨sv,hsv⟩:=qi4 (Tm.get 9 t);rw[<-hsv]at hN;have h9:=hsv.symm;have st':=st4.step hE;have S':=st'.sees;have lP':loads m' ⟨m.n,0,none⟩ 2=some [iv p.cells,p.tv]:=(st'.get 1 rfl).2.2.loads (n:=2) (by simp);have lP1:load1 m' ⟨m.n,1,none⟩=some p.tv:=(st'.get 1 rfl).2.2.load1 1 none;have L8':loads m' ⟨m1.n,0,none⟩ 8=some (ghL h):=(st'.get 0 rfl).2.2.loads (n:=8) (by simp[ghL]);have hpl:wB p.tv=some (iv p.ths.length):=(hp.tv).len;have hpB:=Zl hB;by_cases hil:i<64
    .have hd:((i:Int)<64)=True:=qi1 (by omega);have hw1:=qK (i:=i) (by omega);by_cases hit:i<p.ths.length
     .have hge:((p.ths.length:Int)<=(i:Int))=False:=qi0 (by omega);have hge':(p.ths.length<=i)=False:=qi0 (by omega);obtain⟨tt,htt⟩:∃tt,p.ths[i]?=some tt:=⟨_,qh5 hit⟩;obtain⟨v5,m5,e1,e2,e3⟩:=Bp (h:=h) (g:=g) S'.self.base (H.sees S') (hp.sees S') hB htt (by omega) (Xg hrm) hev N;rw[hpv]at e1;have E6:Ext m5 (Dx.newRow m5 vQ):=Ext.row _ _;rcases e3 with ⟨outs,ov,hres,rfl,hg⟩ | ⟨hres,rfl⟩
      .have hno:¬vS p g i:=by unfold vS;rw[qhz hit,hres];exact λhc=>by cases hc
       have okv:=hg.okC;obtain⟨m7,s1,s2,s3,s4,s5⟩:=wK (m:=m5) (S'.ext e2).base (zs:=vQ) (l:=yn ov) (v:=.agg ⟨yn ov⟩) (n:=3) rfl rfl rfl (by intro v hv;simp[yn]at hv;rcases hv with rfl | rfl | rfl<;>first | rfl | assumption)
       have b0:load1 m7 ⟨m5.n,0,none⟩=some zT:=by rw[s2];rfl
       have b3:loads m7 ⟨m5.n,0,none⟩ 3=some (yn ov):=s3 none;have hbs:=bs_tol m7 ov okv;have E8:Ext m7 (Dx.newRow m7 (yn ov)):=Ext.row _ _;have hx:loads (Dx.newRow m7 (yn ov)) ⟨m7.n,0,some 7⟩ 3=some (yn ov):=zE m7 (yn ov) 0 3 (by simp[yn]);have E58:=s4.trans E8;have hN2:=hN.ext (e2.trans E58);have hn2:=e2.n;have hn3:=E58.n;have hvl:vs.length=i:=by rw[hN.len,hll];omega
       obtain⟨v',m9,f1,f2,f3⟩:=jZ hN2.top (by omega) Xr (x:=ov) (λy hy v hv=>by
        simp only[yn,List.mem_cons,List.not_mem_nil,or_false]at hv;rcases hv with rfl | rfl | rfl
        .rfl
        .rcases qhu.1 hy with hy | hy
         .exact hN.okV _ hy
         .rw[qhc]at hy;subst hy;exact okv
        .rfl) hx (by have:=hE.n;omega) (bytes:=56) (by unfold wk;omega) (by omega)
       have E9:Ext m4 m9:=f3.ext ((hE.trans e2).trans E58) S4.self.base λB hB=>(grown_low hN.top B hB).1;have s1':ww 3 (.pointer (some ⟨m5.n,0,none⟩)) (.agg ⟨[zT,ov,zS]⟩) (Dx.newRow m5 [zF,zS,zS])=some (undef,m7):=s1;simp[t2,t3,h9,t10,hd,lP1,hpl,hge,lP',L8',qb,e1,s1',b0,b3,hbs,f1,hw1];refine hk hil _ _ ⟨E9,λk hk2=>?_,⟨vs++[ov],LL++[outs],?_,λj r' hj=>?_,?_⟩,by simp[t2],by simp[t3],by simp⟩
       .by_cases hki:k<i
        .exact hb k hki
        .obtain rfl:k=i:=by omega
         exact hno
       .simp[hll];omega
       .by_cases hji:j<LL.length
        .rw[qhk hji]at hj;exact hls j r' hj
        .rw[qhl (by omega)]at hj;have:=(qh7.1 hj).1;simp at this;obtain rfl:j=i:=by omega
         rw[show j-LL.length=0 by omega]at hj;simp at hj;subst hj;exact hres
       .simp;exact hN.more (e2.trans E58) (hg.ext E58) hE.n f2 f3
      .have hbad:vS p g i:=by unfold vS;rw[qhz hit];exact hres
       obtain⟨m7,s1,s2,s3,s4,s5⟩:=wK (m:=m5) (S'.ext e2).base (zs:=vQ) (l:=vQ) (v:=.agg ⟨vQ⟩) (n:=3) rfl rfl rfl (by simp[vQ,okC]);have b0:load1 m7 ⟨m5.n,0,none⟩=some zF:=by rw[s2];rfl
       have s1':ww 3 (.pointer (some ⟨m5.n,0,none⟩)) (.agg ⟨vQ⟩) (Dx.newRow m5 [zF,zS,zS])=some (undef,m7):=s1;simp[t2,t3,t10,hd,lP1,hpl,hge,lP',L8',qb,e1,s1',b0];exact vk ((st'.ext.trans e2).trans s4) (.inl ⟨i,hil,hbad,hb,by simp⟩)
     .have hge:((p.ths.length:Int)<=(i:Int))=True:=qi1 (by omega);have hge':(p.ths.length<=i)=True:=qi1 (by omega);obtain⟨v5,m5,e1,e2,hG⟩:=Kh (h:=h) (N+65543) S'.self.base (H.ev.sees S') hev i;have hlen:=hG.lens;by_cases hl:thL g.ev i=[]
      .have hno:¬vS p g i:=by unfold vS;rw[qhy hit];exact λhc=>hc hl
       rw[hl]at hlen;have hlen':wB v5=some (iv 0):=hlen;simp[t2,t3,t10,hd,lP1,hpl,hge,L8',qb,e1,hlen',hw1];refine hk hil _ _ ⟨hE.trans e2,λk hk2=>?_,⟨vs,LL,by omega,hls,by simp[h9];exact hN.ext e2⟩,by simp[t2],by simp[t3],by simp⟩;by_cases hki:k<i
       .exact hb k hki
       .obtain rfl:k=i:=by omega
        exact hno
      .have hbad:vS p g i:=by unfold vS;rw[qhy hit];exact hl
       obtain⟨ln,hln⟩:=qi4 ((thL g.ev i).length);rw[<-hln]at hlen;have hp0:((0:Int)<(ln:Int))=True:=qi1 (by have:(thL g.ev i).length≠0:=λhc=>hl (List.length_eq_zero_iff.1 hc);omega);have hp1:(0<ln)=True:=qi1 (by have:(thL g.ev i).length≠0:=λhc=>hl (List.length_eq_zero_iff.1 hc);omega);simp[t2,t3,t10,hd,lP1,hpl,hge,L8',qb,e1,hlen,hp1];exact vk (st'.ext.trans e2) (.inl ⟨i,hil,hbad,hb,by simp⟩)
    obtain rfl:i=64:=by omega
    simp[t10,h9];exact vk st'.ext (.inr ⟨hb,sv,vs,LL,by simp,by omega,hls,hN.lower st4.ext.n⟩)
   .have hr0':(r=0)=False:=qi0 hr0;simp[<-hm1,<-hm2,lP,qb,c1,lG0,lP0,hc',L8,d1,wo,hr0'];exact vk st4.ext ⟨λhx=>absurd ⟨hB,hc⟩ hx,λ_ _=>by simp,λ_ hw=>absurd (hr.2 hw) hr0⟩
  .have hc':(h.n=p.cells)=False:=qi0 hc;simp[<-hm1,<-hm2,lP,qb,c1,lG0,lP0,hc'];exact vk st3.ext ⟨λ_=>by simp,λhx=>absurd hx.2 hc,λhx=>absurd hx.2 hc⟩
 .rw[eq_false_of_ne_true hB]at c1;simp[<-hm1,<-hm2,lP,qb,c1];exact vk st3.ext ⟨λ_=>by simp,λhx=>absurd hx.1 hB,λhx=>absurd hx.1 hB⟩
end
section
variable {m:M}
theorem Outs_c (n:Nat)(hm:m.base<=m.n){v:Value}{vs:List Value}(hv:Rd m v 3 yn vs)(hok:∀x∈vs,okC x=true)(hl:vs.length<=64) :
  Dx.Call (ex Tryz.prog (n+1)) 16 [v] m λw m'=>Grown m m' w 1 slI vs:=by
 refine qm da7_ok (by simp) ?_;have hlen:=hv.len;simp;refine qq (c:=ca7_6) rfl (Ret m _) (λi t m'=>Ext m m'/\Grown m m' (Tm.get 3 t) 1 slI (vs.take i)/\Tm.get 0 t=v/\Tm.get 4 t=iv i) vs.length (by omega)
  ⟨Ext.refl _,by simp;exact Grown.nil,by simp,by simp⟩ (λi t m' k hi hI hk=>?_)
 obtain⟨hE,hG,t0,t4⟩:=hI;obtain⟨sv,hsv⟩:=qi4 (Tm.get 3 t);rw[<-hsv]at hG;have t3:=hsv.symm;have S:=(Sees.refl hm).ext hE;by_cases hil:i<vs.length
 .obtain⟨x,hx⟩:∃x,vs[i]?=some x:=⟨_,qh5 hil⟩;have ⟨a1,_,a3⟩:=(hv.sees S).at hx;have a31:load1 m' ⟨(adr 3 v i).block,(adr 3 v i).off+1,none⟩=some x:=a3 m' 1 none S.self (by simp[yn]);have okx:=hok x (qh6 hx);have hbs:=XF m' x okx;have hd:=dlt hil;have hd':(i<vs.length)=True:=qi1 hil;have w1:=qK (i:=i) (by omega);obtain⟨v',m3,e1,e2,e3⟩:=jZ (hG.ext (Ext.row m' [x])) (by omega) yK (x:=x) (λy hy z hz=>by
   simp only[slI,qhc]at hz;subst hz;rcases qhu.1 hy with hy | hy
   .exact hok _ (List.mem_of_mem_take hy)
   .rw[qhc]at hy;subst hy;exact okx) (X:=m'.n) (sp:=some 3) (zE m' [x] 0 1 (by simp)) (by have:=hE.n;have:=(Ext.row m' [x]).n;omega) (bytes:=24) (by unfold wk;rw[List.length_take];omega) (by rw[List.length_take];omega)
  have E3:=e3.ext (hE.trans (Ext.row m' [x])) hm λB hB=>(grown_low hG B hB).1;simp[t0,t3,t4,hlen,hd,a1,a31,hbs,e1,w1];refine hk hil _ _ ⟨E3,by simp;rw[take_at hx];exact e2,by simp[t0],by simp⟩
 obtain rfl:i=vs.length:=by omega
 rw[List.take_length]at hG;simp[t0,t3,t4,hlen];exact qf hE (by simp;exact hG)
theorem ZK (n:Nat)(hm:m.base<=m.n){a b:Value}{vs ws:List Value}{LL:List (List U)}(ha:Rd m a 1 slI vs)(hb:Rd m b 1 slI ws)(h1:vs.length=LL.length)(h2:ws.length=LL.length)(hl:LL.length<=64)(hll:∀l∈LL,l.length<=9223372036854775807)
  (hva:∀(i:Nat) v l,vs[i]?=some v->LL[i]?=some l->Rd m v 1 qS l) (hvb:∀(i:Nat) v l,ws[i]?=some v->LL[i]?=some l->Rd m v 1 qS l) :
  CallV (ex Tryz.prog (n+2)) 15 [a,b] m zT:=by
 refine qm da6_ok (by simp) ?_;have la:wB a=some (iv LL.length):=by rw[<-h1];exact ha.len
 have lb:wB b=some (iv LL.length):=by rw[<-h2];exact hb.len
 simp[la,lb];refine qq (c:=Dt) rfl (Ret m _) (λi t m'=>Ext m m'/\Tm.get 0 t=a/\Tm.get 1 t=b/\Tm.get 5 t=iv i) LL.length (by omega)
  ⟨Ext.refl _,by simp,by simp,by simp⟩ (λi t m' k hi hI hk=>?_)
 obtain⟨hE,t0,t1,t5⟩:=hI;have S:=(Sees.refl hm).ext hE;by_cases hil:i<LL.length
 .obtain⟨l,hl'⟩:∃l,LL[i]?=some l:=⟨_,qh5 hil⟩;obtain⟨x,hx⟩:∃x,vs[i]?=some x:=⟨_,qh5 (by omega)⟩;obtain⟨y,hy⟩:∃y,ws[i]?=some y:=⟨_,qh5 (by omega)⟩;have ⟨p1,p2⟩:=Rd.at1 (g:=λ(v:Value)=>v) (ha.sees S) hx;have ⟨p3,p4⟩:=Rd.at1 (g:=λ(v:Value)=>v) (hb.sees S) hy;have p2':=p2 m' S.self;have p4':=p4 m' S.self;have Sa:Sees m (ql m'):=qp S;obtain⟨v2,m2,c1,c2,rfl⟩:=Xw l (hll l (qh6 hl')) x y n (ql m') Sa.self.base ((hva i x l hx hl').sees Sa) ((hvb i y l hy hl').sees Sa);have hd:=dlt hil;have hd':(i<LL.length)=True:=qi1 hil;have w1:=qK (i:=i) (by omega);simp[t0,t1,t5,la,hd,p1,p2',p3,p4',c1,w1,meets];exact hk hil _ _ ⟨hE.trans c2.behind,by simp[t0],by simp[t1],by simp⟩
 obtain rfl:i=LL.length:=by omega
 simp[t0,t5,la];exact qf hE rfl
end
def InnOK (m0 m:M)(T:Nat)(v:Value):Prop:=v=zS\/∃B n L,v=.slice (some ⟨B,0,some (code 1 false)⟩) n n/\m0.n<=B/\B<m.n/\List.length L=n/\Arr m B L/\B≠T/\n<=1000000
theorem qe8 {m:M}{B:Nat}{l l':List Value}(h:Arr m B l)(h':Arr m B l'):l=l':=by
 obtain⟨c,h1,h2⟩:=h;obtain⟨c',h3,h4⟩:=h';rw[h1]at h3;cases h3;exact List.ext_getElem? λi=>(h2 i).symm.trans (h4 i)
theorem InnOK.put {m0 m m':M}{T:Nat}{v:Value}(h:InnOK m0 m T v)(hn:m'.n=m.n){X:Nat}{L':List Value}{k:Nat}(ho:∀Y,Y≠X->m'.obj Y=m.obj Y)(ha:Arr m' X L'){L0:List Value}(h0:Arr m X L0)(hl:L'.length=L0.length):InnOK m0 m' T v:=by
 rcases h with h | ⟨B,n,L,h1,h2,h3,h4,h5,h6,h7⟩
 .exact .inl h
 .by_cases hB:B=X
  .subst hB;exact .inr ⟨B,n,L',h1,h2,by omega,by rw[hl];rw[<-qe8 h5 h0];exact h4,ha,h6,h7⟩
  .exact .inr ⟨B,n,L,h1,h2,by omega,h4,h5.congr (ho B hB),h6,h7⟩
section
variable {m0 m:M}{ov:Value}{vs:List Value}{LL:List (List U)}
structure SpI (m0 m':M)(T:Nat)(vs:List Value)(i:Nat):Prop where
 ext:Ext m0 m'
 base:m0.base<=m0.n
 tl:m0.n<=T
 tn:T<m'.n
 top:∃Lt,List.length Lt=vs.length/\(∀j:Nat,i<=j->Lt[j]?=vs[j]?)/\Arr m' T Lt
 inn:∀(j:Nat) v,vs[j]?=some v->InnOK m0 m' T v
theorem SpI.put {m' m2:M}{T i:Nat}(h:SpI m0 m' T vs i){B:Nat}{L L':List Value}(hB:m0.n<=B)(hBn:B<m'.n)(hne:B≠T)(ha:Arr m' B L)(hst:St m0 m2 [(B,L')])(hn:m2.n=m'.n)(ho:∀X,X≠B->m2.obj X=m'.obj X)(hl:L'.length=L.length):SpI m0 m2 T vs i:=by
 obtain⟨Lt,t1,t2,t3⟩:=h.top;exact⟨hst.ext,h.base,h.tl,by rw[hn];exact h.tn,⟨Lt,t1,t2,t3.congr (ho T λe=>hne e.symm)⟩,λj v hv=>(h.inn j v hv).put (k:=0) hn ho (hst.get 0 rfl).2.2 ha hl⟩
theorem qdd {T n i:Nat}{v:Value}{m':M}{tm:Tm}(hI:SpI m0 m' T vs i)(hv:vs[i]?=some v)(hn:n=vs.length)(hil:i<n)(hov:ov=.slice (some ⟨T,0,some (code 1 false)⟩) n n)(t0:Tm.get 0 tm=ov)(t2:Tm.get 2 tm=iv i){x:Ex}{kn kr:K}{ke:Nat->K}{Q:Option Out->Prop}
  (H:∀t' m2,SpI m0 m2 T vs i->Tm.get 0 t'=ov->Tm.get 2 t'=iv i->Q (kn t' m2)):Q (XJ x kn ke kr tm m'):=by
 have ia:wJ 1 ov (iv i)=some (.pointer (some ⟨T,i,none⟩)):=by
  rw[hov];show (bif Nat.blt i n then _ else _)=_
  rw[show Nat.blt i n=true from qhd hil];simp[yO]
 have lt':∀m2,SpI m0 m2 T vs i->load1 m2 ⟨T,i,none⟩=some v:=λm2 h=>by
  obtain⟨Lt,q1,q2,q3⟩:=h.top;rw[q3.load1,q2 i (qh8 _),hv]
 simp;rcases hI.inn i v hv with rfl | ⟨B,k,L,rfl,h1,h2,h3,h4,h5,h6⟩
 .refine qq (c:=Du) rfl Q (λj t' m2=>m2=m'/\Tm.get 0 t'=ov/\Tm.get 2 t'=iv i/\Tm.get 3 t'=iv j) 0 (by omega) ⟨rfl,by simp[t0],by simp[t2],by simp⟩ (λj t' m2 k hj hJ hk=>?_);obtain⟨rfl,t0,t2,t3⟩:=hJ;obtain rfl:j=0:=by omega
  have lv:=lt' m2 hI;simp[t0,t2,t3,ia,lv,wB];exact H _ _ hI (by simp[t0]) (by simp[t2])
 .refine qq (c:=Du) rfl Q (λj t' m2=>SpI m0 m2 T vs i/\m2.n=m'.n/\(∃L,List.length L=k/\Arr m2 B L)/\Tm.get 0 t'=ov/\Tm.get 2 t'=iv i/\Tm.get 3 t'=iv j) k (by omega) ⟨hI,rfl,⟨L,h3,h4⟩,by simp[t0],by simp[t2],by simp⟩ (λj t' m2 kk hj hJ hk=>?_);obtain⟨hI2,hmn,⟨L2,hL2,hA2⟩,t0,t2,t3⟩:=hJ;have lv:=lt' m2 hI2;have hlen:wB (.slice (some ⟨B,0,some (code 1 false)⟩) k k)=some (iv k):=rfl;by_cases hjl:j<k
  .have hd:=dlt hjl;have hd':(j<k)=True:=qi1 hjl;have ni:=qK (i:=j) (by omega);have ib:wJ 1 (.slice (some ⟨B,0,some (code 1 false)⟩) k k) (iv j)=some (.pointer (some ⟨B,j,none⟩)):=by
    show (bif Nat.blt j k then _ else _)=_
    rw[show Nat.blt j k=true from qhd hjl];simp[yO]
   have hst:St m0 m2 [(B,L2)]:=(St.nil hI2.base hI2.ext).add h1 (by omega) hA2 (by simp);obtain⟨m3,s1,s2,s3,s4⟩:=hst.store 0 rfl (o:=j) (v:=.int .u64 99) (by omega) rfl;simp[t0,t2,t3,ia,lv,hlen,hd,ib,s1,ni];exact hk hjl _ _ ⟨hI2.put h1 (by omega) h5 hA2 s2 s3 s4 (by simp),by omega,⟨_,by rw[List.length_set];exact hL2,(s2.get 0 rfl).2.2⟩,by simp[t0],by simp[t2],by simp⟩
  .obtain rfl:j=k:=by omega
   simp[t0,t2,t3,ia,lv,hlen];exact H _ _ hI2 (by simp[t0]) (by simp[t2])
theorem qgb (n:Nat)(hb:m0.base<=m0.n)(e:Ext m0 m)(hN:Nest m0 m ov vs LL)(hl:vs.length<=64)(hll:∀l∈LL,l.length<=1000000) :
  ∃v m',(ex Tryz.prog (n+1)).f 17 [ov] m=some (v,m')/\Ext m0 m':=by
 refine zM (Q:=λ_ m'=>Ext m0 m') da8_ok (by simp) ?_;have hlen:wB ov=some (iv vs.length):=hN.top.lens;simp;rcases hN.top with ⟨hv0,ho⟩ | ⟨T,h1,h2,h3,ho,h5⟩
 .refine qq (c:=XK) rfl (yN _) (λi t m'=>m'=m/\Tm.get 0 t=ov/\Tm.get 2 t=iv i) 0 (by omega) ⟨rfl,by simp,by simp⟩ (λi t m' k hi hI hk=>?_);obtain⟨rfl,t0,t2⟩:=hI;obtain rfl:i=0:=by omega
  rw[hv0]at hlen;have hlen':wB ov=some (iv 0):=hlen;simp[t0,t2,hlen'];exact⟨_,_,rfl,e⟩
 .have hfl:vs.flatMap slI=vs:=by
   have:∀l:List Value,l.flatMap slI=l:=λl=>by
    induction l with
    | nil=>rfl
    | cons a l ih=>rw[List.flatMap_cons,ih];rfl
   exact this vs
  rw[hfl]at h5;obtain⟨k,hk0⟩:=qi4 (vs.length);rw[<-hk0]at hlen ho;have hinn:∀(j:Nat) v,vs[j]?=some v->InnOK m0 m T v:=λj v hv=>by
   have hj:=(qh7.1 hv).1;obtain⟨l,hl'⟩:∃l,LL[j]?=some l:=⟨_,qh5 (by rw[<-hN.len];exact hj)⟩;have hne:=hN.ne j v hv;have hsz:=hll l (qh6 hl');rcases hN.at_ j v l hv hl' with ⟨_,rfl⟩ | ⟨B,q1,q2,q3,rfl,q5⟩
   .exact .inl rfl
   .refine .inr ⟨B,l.length,_,rfl,q1,q2,?_,q5,λe=>hne B rfl (by rw[ho,e];rfl),hsz⟩;rw[wU (f:=qS) (e:=1) (λ_=>rfl)];omega
  refine qq (c:=XK) rfl (yN _) (λi t m'=>SpI m0 m' T vs i/\Tm.get 0 t=ov/\Tm.get 2 t=iv i) k (by omega) ⟨⟨e,hb,h1,h2,⟨vs,rfl,λ_ _=>rfl,h5⟩,hinn⟩,by simp,by simp⟩ (λi t m' kk hi hI hk=>?_);obtain⟨hS,t0,t2⟩:=hI;by_cases hil:i<k
  .have hd:=dlt hil;have hd':(i<k)=True:=qi1 hil;have ni:=qK (i:=i) (by omega);obtain⟨v,hv⟩:∃v,vs[i]?=some v:=⟨_,qh5 (by omega)⟩;simp[t0,t2,hlen,hd,-Gg];refine qdd (ov:=ov) hS hv hk0 hil ho (by simp[t0]) (by simp[t2]) (λt' m2 hS2 t0 t2=>?_);have ia:wJ 1 ov (iv i)=some (.pointer (some ⟨T,i,none⟩)):=by
    rw[ho];show (bif Nat.blt i k then _ else _)=_
    rw[show Nat.blt i k=true from qhd hil];simp[yO]
   obtain⟨Lt,q1,q2,q3⟩:=hS2.top;have hst:St m0 m2 [(T,Lt)]:=(St.nil hb hS2.ext).add h1 hS2.tn q3 (by simp);obtain⟨m3,s1,s2,s3,s4⟩:=hst.store 0 rfl (o:=i) (v:=zS) (by omega) rfl;simp[t0,t2,ia,s1,ni];refine hk hil _ _ ⟨⟨s2.ext,hb,h1,by rw[s3];exact hS2.tn,⟨_,by rw[List.length_set];exact q1,λj hj=>?_,(s2.get 0 rfl).2.2⟩,λj w hw=>?_⟩,by simp[t0],by simp⟩
   .rw[qht (by omega)];exact q2 j (by omega)
   .rcases hS2.inn j w hw with h | ⟨B,n,L,r1,r2,r3,r4,r5,r6,r7⟩
    .exact .inl h
    .exact .inr ⟨B,n,L,r1,r2,by omega,r4,r5.congr (s4 B r6),r6,r7⟩
  .obtain rfl:i=k:=by omega
   simp[t0,t2,hlen];exact⟨_,_,rfl,hS.ext⟩
end
section
variable {m:M}
theorem yc (n:Nat)(hm:m.base<=m.n){a b:Value}{A:List (Int × Int)}(ha:Rd m a 2 qn A)(hb:Rd m b 2 qn A)(hl:A.length<=9223372036854775807) :
  CallV (ex Tryz.prog (n+1)) 30 [a,b] m zT:=by
 refine qm db4_ok (by simp) ?_;have la:=ha.len;have lb:=hb.len;simp[la,lb];refine qq (c:=DG) rfl (Ret m _) (λi t m'=>m'=m/\Tm.get 0 t=a/\Tm.get 1 t=b/\Tm.get 5 t=iv i) A.length (by omega)
  ⟨rfl,by simp,by simp,by simp⟩ (λi t m' k hi hI hk=>?_)
 obtain⟨rfl,t0,t1,t5⟩:=hI;by_cases hil:i<A.length
 .obtain⟨q,hq⟩:∃q,A[i]?=some q:=⟨_,qh5 hil⟩;have ⟨a1,a2,_⟩:=ha.at hq;have a2':loads m' (adr 2 a i) 2=some (qn q):=a2 m' (Sees.refl hm);have ⟨b1,b2,_⟩:=hb.at hq;have b2':loads m' (adr 2 b i) 2=some (qn q):=b2 m' (Sees.refl hm);have hd:=dlt hil;have hd':(i<A.length)=True:=qi1 hil;have w1:=qK (i:=i) (by omega);have he:=QN q q;rw[qhx rfl]at he;simp[t0,t1,t5,la,hd,a1,a2',b1,b2',qb,he,w1,meets];exact hk hil _ _ ⟨rfl,by simp[t0],by simp[t1],by simp⟩
 obtain rfl:i=A.length:=by omega
 simp[t0,t5,la];exact qf (Ext.refl _) rfl
structure GLe (g:Gp)(N:Nat):Prop where
 ev:g.ev.length<=N
 rf:g.rf.length<=N
 co:g.co.length<=N
 cos:∀l∈g.co,l.length<=N
 rm:g.rm.length<=N
 ad:g.ad.length<=N
 dt:g.dt.length<=N
 ct:g.ct.length<=N
theorem BJ (n:Nat)(hm:m.base<=m.n){h h':Gh}{g:Gp}(hn:h.n=h'.n)(H:GOK m h g)(H':GOK m h' g)(hz:GLe g 9223372036854775807) :
  CallV (ex Tryz.prog (n+2)) 9 [.agg ⟨ghL h⟩,.agg ⟨ghL h'⟩] m zT:=by
 refine qm da1_ok (by simp) ?_;have st1:=((St.nil hm (Ext.refl m)).row (ghL h)).row (ghL h');obtain⟨m1,hm1⟩:=qi4 (Dx.newRow m (ghL h));rw[<-hm1]at st1;obtain⟨m2,hm2⟩:=qi4 (Dx.newRow m1 (ghL h'));rw[<-hm2]at st1;have la:∀o s,load1 m2 ⟨m.n,o,s⟩=(ghL h)[o]?:=λo s=>(st1.get 1 rfl).2.2.load1 o s;have lb:∀o s,load1 m2 ⟨m1.n,o,s⟩=(ghL h')[o]?:=λo s=>(st1.get 0 rfl).2.2.load1 o s;have hm1n:m1.n=m.n+1:=by rw[hm1];simp
 simp only[ghL]at la lb;rw[hn]at la;have S:=st1.sees;have le1:=H.ev.len;have le2:=H'.ev.len;obtain⟨sv,s1,s3⟩:=H.co;obtain⟨sv',s1',s3'⟩:=H'.co;have lc1:wB h.co=some (iv g.co.length):=by have:=s1.len;rwa [List.length_map,List.length_range]at this
 have lc2:wB h'.co=some (iv g.co.length):=by have:=s1'.len;rwa [List.length_map,List.length_range]at this
 obtain⟨v3,m3,c3,e3,rfl⟩:=yc n S.self.base (H.rf.sees S) (H'.rf.sees S) hz.rf;have st3:=st1.step e3;have S3:=st3.sees;obtain⟨v4,m4,c4,e4,rfl⟩:=yc n S3.self.base (H.rm.sees S3) (H'.rm.sees S3) hz.rm;have st4:=st3.step e4;have S4:=st4.sees;obtain⟨v5,m5,c5,e5,rfl⟩:=yc n S4.self.base (H.ad.sees S4) (H'.ad.sees S4) hz.ad;have st5:=st4.step e5;have S5:=st5.sees;obtain⟨v6,m6,c6,e6,rfl⟩:=yc n S5.self.base (H.dt.sees S5) (H'.dt.sees S5) hz.dt;have st6:=st5.step e6;have S6:=st6.sees;obtain⟨v7,m7,c7,e7,rfl⟩:=yc n S6.self.base (H.ct.sees S6) (H'.ct.sees S6) hz.ct;have st7:=st6.step e7;have S7:=st7.sees;have gl:∀{mm:M} (s:St m mm [(m1.n,ghL h'),(m.n,ghL h)]) (o:Nat) sp,load1 mm ⟨m.n,o,sp⟩=(ghL h)[o]?/\load1 mm ⟨m1.n,o,sp⟩=(ghL h')[o]?:=λs o sp=>⟨(s.get 1 rfl).2.2.load1 o sp,(s.get 0 rfl).2.2.load1 o sp⟩;have q3a:=(gl st3 4 none).1;have q3b:=(gl st3 4 none).2;have q4a:=(gl st4 5 none).1;have q4b:=(gl st4 5 none).2;have q5a:=(gl st5 6 none).1;have q5b:=(gl st5 6 none).2;have q6a:=(gl st6 7 none).1;have q6b:=(gl st6 7 none).2;simp only[ghL,List.getElem?_cons_succ,List.getElem?_cons_zero]at q3a q3b q4a q4b q5a q5b q6a q6b;have k1a:=(gl st7 1 none).1;have k1b:=(gl st7 1 none).2;have k3a:=(gl st7 3 none).1;have k3b:=(gl st7 3 none).2;simp only[ghL,List.getElem?_cons_succ,List.getElem?_cons_zero]at k1a k1b k3a k3b;simp[<-hm1,<-hm2,la,lb,le1,le2,lc1,lc2,c3,q3a,q3b,c4,q4a,q4b,c5,q5a,q5b,c6,q6a,q6b,c7];have hev1:=H.ev.sees S7;have hev2:=H'.ev.sees S7;have e1:=hev1.len
 refine qq (c:=Dk) rfl (Ret m _) (λi t m'=>m'=m7/\Tm.get 2 t=.pointer (some ⟨m.n,0,none⟩)/\Tm.get 3 t=.pointer (some ⟨m1.n,0,none⟩)/\Tm.get 5 t=iv i) g.ev.length hz.ev
  ⟨rfl,by simp,by simp,by simp⟩ (λi t m' k hi hI hk=>?_)
 obtain⟨rfl,t2,t3,t5⟩:=hI;have hm7:m'.base<=m'.n:=S7.self.base;by_cases hil:i<g.ev.length
 .obtain⟨e,he⟩:∃e,g.ev[i]?=some e:=⟨_,qh5 hil⟩;have ⟨a1,a2,_⟩:=hev1.at he;have a2':loads m' (adr 5 h.ev i) 5=some (qh e):=a2 m' (Sees.refl hm7);have ⟨b1,b2,_⟩:=hev2.at he;have b2':loads m' (adr 5 h'.ev i) 5=some (qh e):=b2 m' (Sees.refl hm7);have hd:=dlt hil;have hd':(i<g.ev.length)=True:=qi1 hil;have w1:=qK (i:=i) (by have:=hz.ev;omega);have hE:=dz e e;rw[qhx rfl]at hE;simp[t2,t3,t5,k1a,k1b,e1,hd,a1,a2',b1,b2',qb,hE,w1,meets];exact hk hil _ _ ⟨rfl,by simp[t2],by simp[t3],by simp⟩
 obtain rfl:i=g.ev.length:=by omega
 simp[t2,t5,k1a,e1];have c1:wB h.co=some (iv g.co.length):=lc1;have hco1:=s1.sees S7;have hco2:=s1'.sees S7;refine qq (c:=Dm) rfl (Ret m _) (λi t m2=>m2=m'/\Tm.get 2 t=.pointer (some ⟨m.n,0,none⟩)/\Tm.get 3 t=.pointer (some ⟨m1.n,0,none⟩)/\Tm.get 6 t=iv i) g.co.length hz.co
  ⟨rfl,by simp[t2],by simp[t3],by simp⟩ (λi t m2 k hi hI hk=>?_)
 obtain⟨rfl,t2,t3,t6⟩:=hI;by_cases hil:i<g.co.length
 .obtain⟨l,hl⟩:∃l,g.co[i]?=some l:=⟨_,qh5 hil⟩;have hr:∀(sv:Nat->Value),((List.range g.co.length).map sv)[i]?=some (sv i):=λsv=>by rw[qhm,List.getElem?_range hil];rfl
  have ⟨p1,p2⟩:=Rd.at1 (g:=λ(v:Value)=>v) hco1 (hr sv);have ⟨p3,p4⟩:=Rd.at1 (g:=λ(v:Value)=>v) hco2 (hr sv');have p2':=p2 m2 (Sees.refl hm7);have p4':=p4 m2 (Sees.refl hm7);have r1:=(s3 i l hl).sees S7;have r2:=(s3' i l hl).sees S7;have lr1:=r1.len;have lr2:=r2.len;have hd:=dlt hil;have hd':(i<g.co.length)=True:=qi1 hil;have w1:=qK (i:=i) (by have:=hz.co;omega);have hlz:=hz.cos l (qh6 hl);simp[t2,t3,t6,k3a,k3b,c1,hd,p1,p2',p3,p4',lr1,lr2,meets];refine qq (c:=Dl) rfl (Ret m _) (λj t m3=>m3=m2/\Tm.get 2 t=.pointer (some ⟨m.n,0,none⟩)/\Tm.get 3 t=.pointer (some ⟨m1.n,0,none⟩)/\Tm.get 6 t=iv i/\Tm.get 7 t=iv j) l.length hlz
   ⟨rfl,by simp[t2],by simp[t3],by simp[t6],by simp⟩ (λj t m3 k2 hj hJ hk2=>?_)
  obtain⟨rfl,t2,t3,t6,t7⟩:=hJ;by_cases hjl:j<l.length
  .obtain⟨x,hx⟩:∃x,l[j]?=some x:=⟨_,qh5 hjl⟩;have ⟨q1,q2⟩:=Rd.at1 (g:=λ(x:Int)=>iv x) r1 hx;have ⟨q3,q4⟩:=Rd.at1 (g:=λ(x:Int)=>iv x) r2 hx;have q2':=q2 m3 (Sees.refl hm7);have q4':=q4 m3 (Sees.refl hm7);have hdj:=dlt hjl;have hdj':(j<l.length)=True:=qi1 hjl;have w2:=qK (i:=j) (by omega);simp[t2,t3,t6,t7,k3a,k3b,p1,p2',p3,p4',lr1,hdj,q1,q2',q3,q4',w2,meets];exact hk2 hjl _ _ ⟨rfl,by simp[t2],by simp[t3],by simp[t6],by simp⟩
  obtain rfl:j=l.length:=by omega
  simp[t2,t6,t7,k3a,p1,p2',lr1,w1];exact hk hil _ _ ⟨rfl,by simp[t2],by simp[t3],by simp⟩
 obtain rfl:i=g.co.length:=by omega
 simp[t2,t6,k3a,c1];exact qf st7.ext rfl
end
structure NestI (m0 m:M)(ov:Value)(vs:List Value)(LL:List (List Int)):Prop where
 top:Grown m0 m ov 1 slI vs
 len:vs.length=LL.length
 at_:∀(i:Nat) v l,vs[i]?=some v->LL[i]?=some l->Grown m0 m v 1 wz l
 ne:∀(i:Nat) v,vs[i]?=some v->∀B,blk v=some B->blk ov≠some B
 nd:∀(i j:Nat) v w,i<j->vs[i]?=some v->vs[j]?=some w->∀B,blk v=some B->blk w≠some B
theorem NestI.nil {m0 m:M}:NestI m0 m zS [] [] :=
 ⟨.nil,rfl,λi v l h=>by simp at h,λi v h=>by simp at h,λi j v w _ h=>by simp at h⟩
theorem NestI.low {m0 m:M}{ov:Value}{vs:List Value}{LL:List (List Int)}(h:NestI m0 m ov vs LL){i:Nat}{v:Value}(hv:vs[i]?=some v):∀B,blk v=some B->m0.n<=B/\B<m.n:=λB hB=>by
 have hi:=(qh7.1 hv).1;exact grown_low (h.at_ i v _ hv (qh5 (by rw[<-h.len];exact hi))) B hB
theorem NestI.more {m0 m m1 m':M}{ov ov' w:Value}{vs:List Value}{LL:List (List Int)}{l:List Int}(h:NestI m0 m ov vs LL)(e:Ext m m1)(hw:Grown m m1 w 1 wz l)(h0:m0.n<=m.n)(hg:Grown m0 m' ov' 1 slI (vs++[w]))(hA:Ap m1 m' ov ov'):NestI m0 m' ov' (vs++[w]) (LL++[l]):=by
 have hov:∀B,blk ov=some B->B<m.n:=λB hB=>(grown_low h.top B hB).2;have cases':∀(i:Nat) v,(vs++[w])[i]?=some v->vs[i]?=some v\/(i=vs.length/\v=w):=λi v hv=>by
  by_cases hi:i<vs.length
  .rw[qhk hi]at hv;exact .inl hv
  .rw[qhl (by omega)]at hv;have:=(qh7.1 hv).1;simp at this;have hie:i=vs.length:=by omega
   subst hie;simp at hv;exact .inr ⟨rfl,hv.symm⟩
 have lowV:∀(i:Nat) v,vs[i]?=some v->∀B,blk v=some B->B<m.n:=λi v hv B hB=>(h.low hv B hB).2;have lowW:∀B,blk w=some B->m.n<=B/\B<m1.n:=grown_low hw;have hn1:=e.n;refine⟨hg,by simp[h.len],λi v l' hv hl=>?_,λi v hv B hB=>?_,λi j v v' hij hv hv' B hB=>?_⟩
 .rcases cases' i v hv with h1 | ⟨h1,rfl⟩
  .have hi:=(qh7.1 h1).1;rw[qhk (by rw[<-h.len];exact hi)]at hl;refine ((h.at_ i v l' h1 hl).ext e).keep hA.n λB hB hb=>hA.obj B hB λhc=>h.ne i v h1 B hb hc
  .subst h1;rw[h.len]at hl;simp at hl;subst hl;exact (hw.low h0).keep hA.n λB hB hb=>hA.obj B hB λhc=>by have:=hov B hc;have:=(lowW B hb).1;omega
 .intro hc;have:=hA.new B hc;rcases cases' i v hv with h1 | ⟨_,rfl⟩
  .have:=lowV i v h1 B hB;omega
  .have:=(lowW B hB).2;omega
 .intro hc;rcases cases' i v hv with h1 | ⟨h1,rfl⟩
  .rcases cases' j v' hv' with h2 | ⟨_,rfl⟩
   .exact h.nd i j v v' hij h1 h2 B hB hc
   .have:=lowV i v h1 B hB;have:=(lowW B hc).1;omega
  .subst h1;have:=(qh7.1 hv').1;simp at this;omega
theorem NestI.ext {m0 m m':M}{ov:Value}{vs:List Value}{LL:List (List Int)}(h:NestI m0 m ov vs LL)(e:Ext m m'):NestI m0 m' ov vs LL :=
 ⟨h.top.ext e,h.len,λi v l a b=>(h.at_ i v l a b).ext e,h.ne,h.nd⟩
theorem NestI.okV {m0 m:M}{ov:Value}{vs:List Value}{LL:List (List Int)}(h:NestI m0 m ov vs LL):∀v∈vs,okC v=true:=λv hv=>by
 obtain⟨i,hi⟩:=qhr hv;have hl:=(qh7.1 hi).1;exact (h.at_ i v _ hi (qh5 (by rw[<-h.len];exact hl))).okC
theorem ZR {α:Type}{m:M}{w:Value}{e:Nat}{f:α->List Value}{ms:List α}(hf:∀x,(f x).length=e)(hw:Rd m w e f ms){bytes:Nat}(hb:ms.length*bytes<=wk)(hn:ms.length<=4611686018427387904) :
  ∃v' m',wZ m e bytes zS w=some (v',m')/\Ext m m'/\Grown m m' v' e f ms:=by
 have e0:wZ m e bytes zS w=Kx m e bytes 0 0 ms.length none (ms.flatMap f):=by
  show ob (lenV w) _=_;rw[hw.lenV,qQ];show ob (kU m e ms.length w) _=_;rw[hw.all,qQ]
 rw[e0];unfold Kx;by_cases hz:ms=[]
 .subst hz;exact⟨_,m,rfl,Ext.refl m,.inl ⟨rfl,rfl⟩⟩
 .have hpos:=List.length_pos_iff.2 hz;have h1:Nat.ble (0+ms.length) 0=false:=by
   cases q:Nat.ble (0+ms.length) 0 with
   | false=>rfl
   | true=>have:=qhe q;omega
  rw[h1,cond_false,Nat.zero_add,qhd hb,qhd hn];refine⟨.slice (some ⟨m.n,0,some (code e false)⟩) ms.length ms.length,Dx.newRow m (ms.flatMap f),?_,Ext.row _ _,.inr ⟨m.n,qh8 _,by rw[wL];omega,hz,rfl,Arr.row _ _⟩⟩;rfl
structure GCp (g:Gp):Prop where
 ev:g.ev.length*40<=wk
 rf:g.rf.length*16<=wk
 co:g.co.length*24<=wk
 cos:∀l∈g.co,l.length*8<=wk
 rm:g.rm.length*16<=wk
 ad:g.ad.length*16<=wk
 dt:g.dt.length*16<=wk
 ct:g.ct.length*16<=wk
abbrev Z8g:List Value:=[zI,zS,zS,zS,zS,zS,zS,zS]
def CpQ (h:Gh)(g:Gp)(v:Value)(m':M):Prop:=∃h',v=.agg ⟨ghL h'⟩/\h'.n=h.n/\GOK m' h' g/\Sp 1 h'.co
theorem bs_int (m:M)(d:Int):wH 1 1 (rep 1 [zI]) [(0,1,.int .i64 d)] m=some (Value.slice (some ⟨m.n,0,some 3⟩) 1 1,Dx.newRow m [.int .i64 d]):=rfl
theorem Dg (n:Int):wg Z8g [(0,1,.int .i64 n)]=some (.agg ⟨[.int .i64 n,zS,zS,zS,zS,zS,zS,zS]⟩):=rfl
section
variable {m0 m:M}{h:Gh}{g:Gp}
theorem xX {α:Type}{e bytes T3 o:Nat}{f:α->List Value}{es:List α}{v:Value}{row:List Value}{σ:List (Nat × List Value)}(st:St m0 m ((T3,row)::σ))(hv:Rd m0 v e f es)(hf:∀x,(f x).length=e)(hb:es.length*bytes<=wk)(hn:es.length<=4611686018427387904)(ho:o<row.length) :
  ∃v' m1 m2,wZ m e bytes zS v=some (v',m1)/\ww 1 (.pointer (some ⟨T3,o,none⟩)) v' m1=some (undef,m2)/\Rd m2 v' e f es/\(∀B,blk v'=some B->T3<B)/\St m0 m2 ((T3,row.set o v')::σ)/\m.n<=m2.n/\∀B,B<m.n->B≠T3->m2.obj B=m.obj B:=by
 have S:=st.sees;obtain⟨v',m1,h1,h2,hG⟩:=ZR hf (hv.sees S) hb hn;have h3:=hG.rd hf;have h4:=grown_low hG;have st1:=st.step h2;obtain⟨m2,w1,w2,w3,w4⟩:=st1.store 0 rfl (o:=o) (v:=v') ho h3.okV;have hT:T3<m.n:=(st.get 0 rfl).2.1;have hne:∀B,blk v'=some B->B≠T3:=λB hB=>by have:=(h4 B hB).1;omega
 refine⟨v',m1,m2,h1,w1,h3.congr (by omega) λB hB=>w4 B (hne B hB),λB hB=>by have:=(h4 B hB).1;omega,w2,by rw[w3];exact h2.n,λB hB hT3=>?_⟩;rw[w4 B hT3,h2.obj B hB]
theorem _root_.Go.Dx.Rd.far {α:Type}{m m2:M}{v:Value}{e T3:Nat}{f:α->List Value}{es:List α}(h:Rd m v e f es)(hne:∀B,blk v=some B->T3<B)(hn:m.n<=m2.n)(ko:∀B,B<m.n->B≠T3->m2.obj B=m.obj B):Rd m2 v e f es :=
 h.congr hn λB hB=>ko B (h.lt B hB) λe=>by have:=hne B hB;omega
theorem NestI.keep {m0 m m2:M}{ov:Value}{vs:List Value}{LL:List (List Int)}(h:NestI m0 m ov vs LL)(hn:m.n<=m2.n)(ko:∀B,m0.n<=B->B<m.n->m2.obj B=m.obj B):NestI m0 m2 ov vs LL :=
 ⟨h.top.keep hn λB hB hb=>ko B (grown_low h.top B hb).1 hB,h.len,λi v l a b=>(h.at_ i v l a b).keep hn λB hB hb=>ko B (h.low a B hb).1 hB,h.ne,h.nd⟩
def zz (n:Int)(e r o rm ad dt ct:Value):List Value:=[iv n,e,r,o,rm,ad,dt,ct]
theorem BL (n:Nat)(hm:m.base<=m.n)(H:GOK m h g)(hz:GCp g)(hL:GLe g 4611686018427387904) :
  Dx.Call (ex Tryz.prog (n+1)) 10 [.agg ⟨ghL h⟩] m (CpQ h g):=by
 refine qm da2_ok (by simp) ?_;have st1:=(((St.nil hm (Ext.refl m)).row (ghL h)).row Z8g).row Z8g;obtain⟨m1,hm1⟩:=qi4 (Dx.newRow m (ghL h));rw[<-hm1]at st1;obtain⟨m2,hm2⟩:=qi4 (Dx.newRow m1 Z8g);rw[<-hm2]at st1;obtain⟨m3,hm3⟩:=qi4 (Dx.newRow m2 Z8g);rw[<-hm3]at st1;have hm1n:m1.n=m.n+1:=by rw[hm1];simp
 have hm2n:m2.n=m1.n+1:=by rw[hm2];simp
 have l0:load1 m2 ⟨m.n,0,none⟩=some (iv h.n):=by
  have st0:=((St.nil hm (Ext.refl m)).row (ghL h)).row Z8g;rw[<-hm1,<-hm2]at st0;exact (st0.get 1 rfl).2.2.load1 0 none
 obtain⟨m4,w1,w2,w3,w4⟩:=st1.fill 0 rfl (n:=8) (l':=zz h.n zS zS zS zS zS zS zS) rfl rfl (by simp[zz,okC]);have st4:St m m4 ((m2.n,zz h.n zS zS zS zS zS zS zS)::[(m1.n,Z8g),(m.n,ghL h)]):=w2;have w1':ww 8 (.pointer (some ⟨m2.n,0,none⟩)) (.agg ⟨[.int .i64 h.n,zS,zS,zS,zS,zS,zS,zS]⟩) m3=some (undef,m4):=w1;have gl:∀{mm:M} {r:List Value} (s:St m mm ((m2.n,r)::[(m1.n,Z8g),(m.n,ghL h)])) (o:Nat),load1 mm ⟨m.n,o,none⟩=(ghL h)[o]?/\load1 mm ⟨m2.n,o,none⟩=r[o]?:=λs o=>⟨(s.get 2 rfl).2.2.load1 o none,(s.get 0 rfl).2.2.load1 o none⟩;obtain⟨v1,x1,y1,a1,b1,r1,d1,s1,n1,k1⟩:=xX (bytes:=40) (o:=1) st4 H.ev KL hz.ev hL.ev (by simp[zz]);have g1:=(gl st4 1).1;have g1':=(gl st4 1).2;obtain⟨v2,x2,y2,a2,b2,r2,d2,s2,n2,k2⟩:=xX (bytes:=16) (o:=2) s1 H.rf kl hz.rf hL.rf (by simp[zz]);have g2:=(gl s1 2).1;have g2':=(gl s1 2).2;obtain⟨v3,x3,y3,a3,b3,r3,d3,s3,n3,k3⟩:=xX (bytes:=16) (o:=4) s2 H.rm kl hz.rm hL.rm (by simp[zz]);have g3:=(gl s2 4).1;have g3':=(gl s2 4).2;obtain⟨v4,x4,y4,a4,b4,r4,d4,s4,n4,k4⟩:=xX (bytes:=16) (o:=5) s3 H.ad kl hz.ad hL.ad (by simp[zz]);have g4:=(gl s3 5).1;have g4':=(gl s3 5).2;obtain⟨v5,x5,y5,a5,b5,r5,d5,s5,n5,k5⟩:=xX (bytes:=16) (o:=6) s4 H.dt kl hz.dt hL.dt (by simp[zz]);have g5:=(gl s4 6).1;have g5':=(gl s4 6).2;obtain⟨v6,x6,y6,a6,b6,r6,d6,s6,n6,k6⟩:=xX (bytes:=16) (o:=7) s5 H.ct kl hz.ct hL.ct (by simp[zz]);have g6:=(gl s5 7).1;have g6':=(gl s5 7).2
 simp only[ghL,zz,List.getElem?_cons_succ,List.getElem?_cons_zero,List.set_cons_succ,List.set_cons_zero]at g1 g1' g2 g2' g3 g3' g4 g4' g5 g5' g6 g6';have R1:=((((((r1.far d1 n2 k2).far d1 n3 k3).far d1 n4 k4).far d1 n5 k5).far d1 n6 k6));have R2:=(((((r2.far d2 n3 k3).far d2 n4 k4).far d2 n5 k5).far d2 n6 k6));have R3:=((((r3.far d3 n4 k4).far d3 n5 k5).far d3 n6 k6));have R4:=(((r4.far d4 n5 k5).far d4 n6 k6));have R5:=((r5.far d5 n6 k6));have st6:St m y6 ((m2.n,zz h.n v1 v2 zS v3 v4 v5 v6)::[(m1.n,Z8g),(m.n,ghL h)]):=s6;simp[<-hm1,<-hm2,<-hm3,l0,Dg,w1',g1,g1',a1,b1,g2,g2',a2,b2,g3,g3',a3,b3,g4,g4',a4,b4,g5,g5',a5,b5,g6,g6',a6,b6];obtain⟨sv,s1c,s3c⟩:=H.co;have lc:wB h.co=some (iv g.co.length):=by have:=s1c.len;rwa [List.length_map,List.length_range]at this
 have hn42:m2.n<y6.n:=(st6.get 0 rfl).2.1;have hny6:m.n<=y6.n:=st6.ext.n;have hby6:y6.base<=y6.n:=st6.sees.self.base;refine qq (c:=Dn) rfl (Ret m _) (λi t m'=>∃ov vs,St m m' ((m2.n,zz h.n v1 v2 ov v3 v4 v5 v6)::[(m1.n,Z8g),(m.n,ghL h)])/\y6.n<=m'.n/\(∀B,B<y6.n->B≠m2.n->m'.obj B=y6.obj B)/\NestI y6 m' ov vs (g.co.take i)/\Tm.get 1 t=.pointer (some ⟨m.n,0,none⟩)/\Tm.get 2 t=.pointer (some ⟨m1.n,0,none⟩)/\Tm.get 3 t=.pointer (some ⟨m2.n,0,none⟩)/\Tm.get 4 t=iv i) g.co.length (by have:=hL.co;omega)
  ⟨zS,[],st6,qh8 _,λ_ _ _=>rfl,by simp;exact NestI.nil,by simp,by simp,by simp,by simp⟩ (λi t m' k hi hI hk=>?_)
 obtain⟨ov,vs,st',hn',ko,hN,t1,t2,t3,t4⟩:=hI;have S':=st'.sees;have g3:=(gl st' 3).1;have g3':=(gl st' 3).2;simp only[ghL,zz,List.getElem?_cons_succ,List.getElem?_cons_zero]at g3 g3';by_cases hil:i<g.co.length
 .obtain⟨l,hl⟩:∃l,g.co[i]?=some l:=⟨_,qh5 hil⟩;have hr:((List.range g.co.length).map sv)[i]?=some (sv i):=by rw[qhm,List.getElem?_range hil];rfl
  have hd:=dlt hil;have hd':(i<g.co.length)=True:=qi1 hil;have w1:=qK (i:=i) (by have:=hL.co;omega);have hlz:=hz.cos l (qh6 hl);have hlz2:=hL.cos l (qh6 hl);simp[t1,t4,g3,lc,hd];refine qq (c:=ca2_8) rfl (Ret m _) (λj t mj=>Ext m' mj/\Grown m' mj (Tm.get 5 t) 1 wz (l.take j)/\Tm.get 1 t=.pointer (some ⟨m.n,0,none⟩)/\Tm.get 2 t=.pointer (some ⟨m1.n,0,none⟩)/\Tm.get 3 t=.pointer (some ⟨m2.n,0,none⟩)/\Tm.get 4 t=iv i/\Tm.get 6 t=iv j) l.length (by omega)
   ⟨Ext.refl _,by simp;exact Grown.nil,by simp[t1],by simp[t2],by simp[t3],by simp[t4],by simp⟩ (λj t mj k2 hj hJ hk2=>?_)
  obtain⟨hE,hG,t1,t2,t3,t4,t6⟩:=hJ;obtain⟨iw,hiw⟩:=qi4 (Tm.get 5 t);rw[<-hiw]at hG;have t5:=hiw.symm;have stj:=st'.step hE;have Sj:=stj.sees;have f3:=(gl stj 3).1;have f3':=(gl stj 3).2;simp only[ghL,zz,List.getElem?_cons_succ,List.getElem?_cons_zero]at f3 f3';have ⟨p1,p2⟩:=Rd.at1 (g:=λ(v:Value)=>v) (s1c.sees Sj) hr;have p2':=p2 mj Sj.self;have rl:=(s3c i l hl).sees Sj;have lrl:=rl.len;by_cases hjl:j<l.length
  .obtain⟨x,hx⟩:∃x,l[j]?=some x:=⟨_,qh5 hjl⟩;have ⟨q1,q2⟩:=Rd.at1 (g:=λ(x:Int)=>iv x) rl hx;have q2':=q2 mj Sj.self;have hdj:=dlt hjl;have hdj':(j<l.length)=True:=qi1 hjl;have w2:=qK (i:=j) (by omega);have htk:(l.take j).length=j:=by rw[List.length_take];omega
   obtain⟨v',m5,e1,e2,e3,e4,e5,e6⟩:=(hG.ext (Ext.row mj [iv x])).append (hE.trans (Ext.row mj [iv x])) S'.self.base (by omega) (λ_=>rfl) (λy v hv=>by simp[wz]at hv;subst hv;rfl) (x:=x) (X:=mj.n) (sp:=some 3) (zE mj [iv x] 0 1 (by simp)) (bytes:=8) (by rw[htk];omega) (by rw[htk];omega);have hbs:=bs_int mj x;simp[t1,t4,t5,t6,f3,p1,p2',lrl,hdj,q1,q2',hbs,e1,w2];refine hk2 hjl _ _ ⟨e2,by simp;rw[take_at hx];exact e3,by simp[t1],by simp[t2],by simp[t3],by simp[t4],by simp⟩
  obtain rfl:j=l.length:=by omega
  rw[List.take_length]at hG;have okw:=hG.okC;have hbs:=XF mj iw okw;have hNj:=hN.ext (hE.trans (Ext.row mj [iw]));have hEr:Ext mj (Dx.newRow mj [iw]):=Ext.row _ _;have hnr:=hEr.n;have hvl:vs.length=i:=by rw[hN.len,List.length_take];omega
  obtain⟨v',m7,e1,e2,e3⟩:=jZ hNj.top (by omega) yK (x:=iw) (λy hy z hz=>by
   simp only[slI,qhc]at hz;subst hz;rcases qhu.1 hy with hy | hy
   .exact hN.okV _ hy
   .rw[qhc]at hy;subst hy;exact okw) (X:=mj.n) (sp:=some 3) (zE mj [iw] 0 1 (by simp)) (by have:=hE.n;omega) (bytes:=24) (by have:=hz.co;omega) (by have:=hL.co;omega)
  have hNm:=hN.more (hE.trans hEr) (hG.ext hEr) hn' e2 e3;have hlow:∀B,blk ov=some B->y6.n<=B:=λB hB=>(grown_low hN.top B hB).1;have stA:=(stj.step hEr).app e3 (λB hB=>by have:=hlow B hB;omega) (λB hB q hq=>by
   have h1:=hlow B hB;simp only[List.mem_cons,List.not_mem_nil,or_false]at hq;rcases hq with rfl | rfl | rfl
   .show m2.n≠B;omega
   .show m1.n≠B;omega
   .show m.n≠B;omega)
  obtain⟨m8,u1,u2,u3,u4⟩:=stA.store 0 rfl (o:=3) (v:=v') (by simp[zz]) hNm.top.okC;have u2':St m m8 ((m2.n,zz h.n v1 v2 v' v3 v4 v5 v6)::[(m1.n,Z8g),(m.n,ghL h)]):=u2;have hn7:=e3.n;simp[t1,t3,t4,t5,t6,f3,f3',p1,p2',lrl,hbs,e1,u1,w1];refine hk hil _ _ ⟨v',vs++[iw],u2',by have:=hE.n;omega,λB hB hne=>?_,?_,by simp[t1],by simp[t2],by simp[t3],by simp⟩
  .rw[u4 B hne,e3.obj B (by have:=hE.n;omega) (λhc=>by have:=hlow B hc;omega),hEr.obj B (by have:=hE.n;omega),hE.obj B (by omega),ko B hB hne]
  .rw[take_at hl];exact hNm.keep (by omega) λB hB _=>u4 B (by omega)
 obtain rfl:i=g.co.length:=by omega
 rw[List.take_length]at hN;have LT:loads m' ⟨m2.n,0,none⟩ 8=some (zz h.n v1 v2 ov v3 v4 v5 v6):=(st'.get 0 rfl).2.2.loads (n:=8) (by simp[zz]);have okr:∀v∈zz h.n v1 v2 ov v3 v4 v5 v6,okC v=true:=by
  have o1:=R1.okV;have o2:=R2.okV;have o3:=R3.okV;have o4:=R4.okV;have o5:=R5.okV;have o6:=r6.okV;have o7:=hN.top.okC;intro v hv;simp only[zz,List.mem_cons,List.not_mem_nil,or_false]at hv;rcases hv with rfl | rfl | rfl | rfl | rfl | rfl | rfl | rfl<;>first | rfl | assumption
 obtain⟨m8,u1,u2,u3,u4⟩:=st'.fill 1 rfl (n:=8) (l':=zz h.n v1 v2 ov v3 v4 v5 v6) rfl rfl okr;have kR:∀{α:Type} {v:Value} {e:Nat} {f:α->List Value} {es:List α},Rd y6 v e f es->(∀B,blk v=some B->m2.n<B)->Rd m8 v e f es:=λh1 h2=>(h1.far h2 hn' ko).congr (by omega) λB hB=>u4 B (by have:=h2 B hB;omega);have LE:loads m8 ⟨m1.n,0,none⟩ 8=some (zz h.n v1 v2 ov v3 v4 v5 v6):=(u2.get 1 rfl).2.2.loads (n:=8) (by simp[zz]);have hm1lt:m1.n<y6.n:=by omega
 simp[t1,t2,t3,t4,g3,lc,qb,LT,u1];refine ret_c (a:=⟨m1.n,0,none⟩) (n:=8) (by simp[t2]) LE u2.ext ⟨⟨h.n,v1,v2,ov,v3,v4,v5,v6⟩,rfl,rfl,⟨kR R1 d1,kR R2 d2,⟨λi=>vs.getD i zS,?_,λc l hc=>?_⟩,kR R3 d3,kR R4 d4,kR R5 d5,kR r6 d6⟩,Grown.sp hN.top⟩
 .have hvs:(List.range g.co.length).map (λi=>vs.getD i zS)=vs:=by
   refine List.ext_getElem? λj=>?_;rw[qhm];by_cases hj:j<g.co.length
   .rw[List.getElem?_range hj,Option.map_some,List.getD_eq_getElem?_getD,qh5 (by rw[hN.len];exact hj)];rfl
   .rw[qhs (by simp;omega),qhs (by rw[hN.len];omega)];rfl
  show Rd m8 ov 1 (λv=>[v]) _;rw[hvs];exact (hN.top.rd yK).congr (by omega) λB hB=>u4 B (by have:=(grown_low hN.top B hB).1;omega)
 .have hj:=(qh7.1 hc).1;obtain⟨v,hv⟩:∃v,vs[c]?=some v:=⟨_,qh5 (by rw[hN.len];exact hj)⟩;show Rd m8 (vs.getD c zS) 1 wz l;rw[List.getD_eq_getElem?_getD,hv];have hg:=hN.at_ c v l hv hc;exact (hg.rd (f:=wz) (e:=1) (λ_=>rfl)).congr (by omega) λB hB=>u4 B (by have:=(grown_low hg B hB).1;omega)
end
end Go.Sx
namespace Go.Sx
open Go.RowKit Go.WideShapes Go.ChangeShapes Go.Dx
structure GT (P:Program)(tg tes te tps tp tcs tis ti tu:TypeId):Prop where
 g:∃fs,P.underlying tg=some (.struct fs)/\fs.toList.map (λf=>(f.type,f.offset))=[(ti,0),(tes,1),(tps,2),(tcs,3),(tps,4),(tps,5),(tps,6),(tps,7)]
 gc:P.cellsOf tg=8
 es:P.underlying tes=some (.slice te)
 esc:P.cellsOf tes=1
 e:∃fs,P.underlying te=some (.struct fs)/\fs.toList.map (λf=>(f.type,f.offset))=[(ti,0),(ti,1),(ti,2),(tu,3),(ti,4)]
 ec:P.cellsOf te=5
 ps:P.underlying tps=some (.slice tp)
 psc:P.cellsOf tps=1
 p:∃fs,P.underlying tp=some (.struct fs)/\fs.toList.map (λf=>(f.type,f.offset))=[(ti,0),(ti,1)]
 pc:P.cellsOf tp=2
 cs:P.underlying tcs=some (.slice tis)
 csc:P.cellsOf tcs=1
 is:P.underlying tis=some (.slice ti)
 isc:P.cellsOf tis=1
 i:P.underlying ti=some (.int .i64)
 ic:P.cellsOf ti=1
 u:P.underlying tu=some (.int .u64)
 uc:P.cellsOf tu=1
 be:P.bytesOf te=40
 bp:P.bytesOf tp=16
 bs:P.bytesOf tis=24
 bi:P.bytesOf ti=8
 ty:P.cellTypes P.depth tg=some [ti,tes,tps,tcs,tps,tps,tps,tps]
instance instEv5:Inhabited Ev5:=⟨⟨0,0,0,default,0⟩⟩
instance instGV:Inhabited Value:=⟨zS⟩
section
variable {H:Type}{enc:TypeId × Value->H}{P:Program}{w:World}{tg tes te tps tp tcs tis ti tu:TypeId}
theorem qb4 (T:GT P tg tes te tps tp tcs tis ti tu)(b:Nat)(l:Dx.Loc)(n:Nat)(cs:List Value)(y:DataW H × List MemPlace)(hb:km w b=some l)(h:DataW.trod enc P w 0 (λ_=>true) true n te cs=some y)
  (hz:∀c off,MemPlace.cell c off∈y.2->w.frozen? ⟨c,off,none⟩=false) (hw:∀n∈y.1.weights P te,n<=reachBytes):∃x:Ev5,cs.map (abC w b)=(qh x).map some/\True:=by
 obtain⟨fs,h1,h2⟩:=T.e;obtain⟨hl,xs,k,_,hx,hf⟩:=jt h1 h2 h;rw[T.ec]at hl
 match cs,xs,hl,hx with
 | [c0,c1,c2,c3,c4],[y0,y1,y2,y3,y4],_,_ =>
  have g0:=hf 0 ti 0 rfl;have g1:=hf 1 ti 1 rfl;have g2:=hf 2 ti 2 rfl;have g3:=hf 3 tu 3 rfl;have g4:=hf 4 ti 4 rfl;rw[T.ic]at g0 g1 g2 g4;rw[T.uc]at g3;obtain⟨a,e0,_⟩:=DataW.trod_int T.i g0;obtain⟨b',e1,_⟩:=DataW.trod_int T.i g1;obtain⟨c,e2,_⟩:=DataW.trod_int T.i g2;obtain⟨u,e3,_,wb⟩:=DataW.trod_int T.u g3;obtain⟨d,e4,_⟩:=DataW.trod_int T.i g4;obtain⟨v,rfl⟩:=u_of' wb;simp at e0 e1 e2 e3 e4;exact⟨⟨a,b',c,v,d⟩,by rw[e0,e1,e2,e3,e4];rfl,trivial⟩
theorem qfc (T:GT P tg tes te tps tp tcs tis ti tu)(b:Nat)(l:Dx.Loc)(n:Nat)(cs:List Value)(y:DataW H × List MemPlace)(hb:km w b=some l)(h:DataW.trod enc P w 0 (λ_=>true) true n tp cs=some y)
  (hz:∀c off,MemPlace.cell c off∈y.2->w.frozen? ⟨c,off,none⟩=false) (hw:∀n∈y.1.weights P tp,n<=reachBytes):∃x:Int × Int,cs.map (abC w b)=(qn x).map some/\True:=by
 obtain⟨fs,h1,h2⟩:=T.p;obtain⟨hl,xs,k,_,hx,hf⟩:=jt h1 h2 h;rw[T.pc]at hl
 match cs,xs,hl,hx with
 | [c0,c1],[y0,y1],_,_ =>
  have g0:=hf 0 ti 0 rfl;have g1:=hf 1 ti 1 rfl;rw[T.ic]at g0 g1;obtain⟨a,e0,_⟩:=DataW.trod_int T.i g0;obtain⟨c,e1,_⟩:=DataW.trod_int T.i g1;simp at e0 e1;exact⟨(a,c),by rw[e0,e1];rfl,trivial⟩
theorem int_rw (T:GT P tg tes te tps tp tcs tis ti tu)(b:Nat)(l:Dx.Loc)(n:Nat)(cs:List Value)(y:DataW H × List MemPlace)(hb:km w b=some l)(h:DataW.trod enc P w 0 (λ_=>true) true n ti cs=some y)
  (hz:∀c off,MemPlace.cell c off∈y.2->w.frozen? ⟨c,off,none⟩=false) (hw:∀n∈y.1.weights P ti,n<=reachBytes):∃x:Int,cs.map (abC w b)=(wz x).map some/\True:=by
 obtain⟨a,e0,_⟩:=DataW.trod_int T.i h;exact⟨a,by rw[e0];rfl,trivial⟩
def qbf (w:World)(x:Value):Prop:=∃l:List Int,Rd (snapM2 w) x 1 wz l/\l.length*8<=reachBytes
theorem qeo (T:GT P tg tes te tps tp tcs tis ti tu)(b:Nat)(l:Dx.Loc)(n:Nat)(cs:List Value)(y:DataW H × List MemPlace)(hb:km w b=some l)(h:DataW.trod enc P w 0 (λ_=>true) true n tis cs=some y)
  (hz:∀c off,MemPlace.cell c off∈y.2->w.frozen? ⟨c,off,none⟩=false) (hw:∀n∈y.1.weights P tis,n<=reachBytes):∃x:Value,cs.map (abC w b)=(slI x).map some/\qbf w x:=by
 obtain⟨c0,rfl⟩:∃c0,cs=[c0]:=by
  rcases DataW.trod_slice T.is h with ⟨hv,_⟩ | ⟨a,len,cap,_,_,_,_,hv,_⟩
  .exact⟨_,hv⟩
  .exact⟨_,hv⟩
 obtain⟨av,es,q1,q2,_,q3,q4⟩:=jE (α:=Int) (good:=λ_=>True) (f:=wz) T.is T.ic (by omega) (λb l n cs y=>int_rw T b l n cs y) (λ_=>rfl) h hb hz hw;rw[T.bi]at q4;exact⟨av,by simp only[List.map_cons,List.map_nil,q1];rfl,es,q2,q4⟩
theorem bQ {α:Type}[Inhabited α]{t e:TypeId}{sz:Nat}{f:α->List Value}{good:α->Prop}(ht:P.underlying t=some (.slice e))(hC:P.cellsOf e=sz)(hpos:0<sz)
  (hrow:∀b l n cs y,km w b=some l->DataW.trod enc P w 0 (λ_=>true) true n e cs=some y->(∀c off,MemPlace.cell c off∈y.2->w.frozen? ⟨c,off,none⟩=false)->(∀n∈y.1.weights P e,n<=reachBytes)->∃x:α,cs.map (abC w b)=(f x).map some/\good x)
  (hlen:∀x,(f x).length=sz) {v:Value} {y:DataW H × List MemPlace} {fuel:Nat} (hf:DataW.trod enc P w 0 (λ_=>true) true fuel t [v]=some y)
  (hlie:∀a l c,v=.slice (some a) l c->a.spot=none/\∃cs e fz,w.heap[a.block]?=some (.cells cs e fz))
  (hz:∀c off,MemPlace.cell c off∈y.2->w.frozen? ⟨c,off,none⟩=false) (hw:∀n∈y.1.weights P t,n<=reachBytes) :
  ∃av es,VRel (km w) av v/\Rd (snapM2 w) av sz f es/\(∀x∈es,good x)/\es.length*P.bytesOf e<=reachBytes:=by
 by_cases hnil:v=zS
 .subst hnil;exact⟨zS,[],.slN,⟨rfl,λi r hr=>by simp at hr,rfl,λB hB=>by cases hB⟩,by simp,by simp⟩
 .obtain⟨a,len,cap,rfl⟩:∃a len cap,v=.slice (some a) len cap:=by
   rcases DataW.trod_slice ht hf with ⟨hv,_⟩ | ⟨a,len,cap,_,_,_,_,hv,_⟩
   .exact absurd (List.cons.inj hv).1 hnil
   .exact⟨a,len,cap,(List.cons.inj hv).1⟩
  obtain⟨hs,cs',e',fz',hh⟩:=hlie a len cap rfl;have hb:km w a.block=some ⟨a.block,HI,cs'.size⟩:=by unfold km;rw[hh]
  obtain⟨av,es,q1,q2,q4,q3,q5⟩:=jE (good:=good) ht hC hpos hrow hlen hf hb hz hw;exact⟨av,es,Kw hb q1,q2,q4,q5⟩
theorem graph_argW (T:GT P tg tes te tps tp tcs tis ti tu){b0:Nat}{v:Value}{d:DataW H}{pl:List MemPlace}(hv:Value.okWide P w .any b0 tg v)(h:DataW.Trod enc P w 0 (λ_=>true) true tg v d pl)(hz:w.noneFrozen pl)(hw:∀n∈d.weights P tg,n<=reachBytes) :
  ∃(h:Gh) (g:Gp),VRel (km w) (.agg ⟨ghL h⟩) v/\GOK (snapM2 w) h g/\GCp g/\GLe g 4611686018427387904:=by
 obtain⟨fs,h1,h2⟩:=T.g;obtain⟨cs,rfl,hsz⟩:=okWide_struct h1 hv;obtain⟨fuel,hf0⟩:=h;obtain⟨hl,xs,k,hy,hx,hf⟩:=jt h1 h2 (show DataW.trod enc P w 0 (λ_=>true) true fuel tg cs.toList=some (d,pl) from hf0);have hrow:Row.okWide P w .any b0 tg cs:=by
  obtain⟨cs',e,_,hr⟩:∃cs',Value.agg cs=.agg cs'/\cs'.size=P.cellsOf tg/\Row.okWide P w .any b0 tg cs':=by
   have:=hv;simp only[Value.okWide,h1]at this;exact this
  cases e;exact hr
 obtain⟨tys,hts,_,hcell⟩:=hrow;rw[T.ty]at hts;cases hts;rw[T.gc]at hsz hl;injection hy with hy1 hy2;subst hy2;subst hy1;obtain⟨l,rfl⟩:∃l,cs=⟨l⟩:=⟨cs.toList,rfl⟩
 match l,xs,hl,hx with
 | [c0,c1,c2,c3,c4,c5,c6,c7],[y0,y1,y2,y3,y4,y5,y6,y7],_,_ =>
  have g0:=hf 0 ti 0 rfl;have g1:=hf 1 tes 1 rfl;have g2:=hf 2 tps 2 rfl;have g3:=hf 3 tcs 3 rfl;have g4:=hf 4 tps 4 rfl;have g5:=hf 5 tps 5 rfl;have g6:=hf 6 tps 6 rfl;have g7:=hf 7 tps 7 rfl;rw[T.ic]at g0;rw[T.esc]at g1;rw[T.psc]at g2 g4 g5 g6 g7;rw[T.csc]at g3;obtain⟨a0,e0,_⟩:=DataW.trod_int T.i g0;simp at e0;have fz:∀{z:DataW H × List MemPlace},z∈[y0,y1,y2,y3,y4,y5,y6,y7]->∀c off,MemPlace.cell c off∈z.2->w.frozen? ⟨c,off,none⟩=false:=λ{z} hzm c off hc=>hz c off (List.mem_flatMap.2 ⟨z,hzm,hc⟩);have lie:∀{i:Nat} {t e:TypeId} {c:Value},i<8->P.underlying t=some (.slice e)->([c0,c1,c2,c3,c4,c5,c6,c7]:List Value)[i]?=some c->([ti,tes,tps,tcs,tps,tps,tps,tps]:List TypeId)[i]?=some t->∀a l cp,c=.slice (some a) l cp->a.spot=none/\∃cs e fz,w.heap[a.block]?=some (.cells cs e fz):=λ{i t e c} hi8 ht hc hty a l cp hcc=>by
   obtain⟨u,hu,kk⟩:=hcell i c (by simpa using hc);have hu':([ti,tes,tps,tcs,tps,tps,tps,tps]:List TypeId)[i%8]?=some u:=hu;rw[Nat.mod_eq_of_lt hi8,hty]at hu';cases hu';rw[hcc]at kk;exact QS ht kk
  have pr:∀{i:Nat} {c:Value} {z:DataW H × List MemPlace},i<8->([c0,c1,c2,c3,c4,c5,c6,c7]:List Value)[i]?=some c->([ti,tes,tps,tcs,tps,tps,tps,tps]:List TypeId)[i]?=some tps->([y0,y1,y2,y3,y4,y5,y6,y7]:List (DataW H × List MemPlace))[i]?=some z->([(ti,0),(tes,1),(tps,2),(tcs,3),(tps,4),(tps,5),(tps,6),(tps,7)]:List (TypeId × Nat))[i]?=some (tps,i)->DataW.trod enc P w 0 (λ_=>true) true k tps [c]=some z->∃(av:Value) (es:List (Int × Int)),VRel (km w) av c/\Rd (snapM2 w) av 2 qn es/\es.length*16<=reachBytes:=λ{i c z} hi8 h3 h4 h5 h6 h7=>by
   obtain⟨av,es,q1,q2,_,q4⟩:=bQ (α:=Int × Int) (good:=λ_=>True) (f:=qn) T.ps T.pc (by omega) (λb l n cs y=>qfc T b l n cs y) (λ_=>rfl) h7 (lie hi8 T.ps h3 h4) (fz (qh6 h5)) (kD h1 h2 h6 h5 hw);rw[T.bp]at q4;exact⟨av,es,q1,q2,q4⟩
  obtain⟨ve,le,p1,r1,_,s1⟩:=bQ (α:=Ev5) (good:=λ_=>True) (f:=qh) T.es T.ec (by omega) (λb l n cs y=>qb4 T b l n cs y) (λ_=>rfl) (v:=c1) g1 (lie (i:=1) (by omega) T.es rfl rfl) (fz (by simp)) (kD h1 h2 (i:=1) (o:=1) rfl rfl hw);rw[T.be]at s1;obtain⟨vr,lr,p2,r2,s2⟩:=pr (i:=2) (by omega) rfl rfl rfl rfl g2;obtain⟨vc,lc,p3,r3,k3,s3⟩:=bQ (α:=Value) (good:=qbf w) (f:=slI) T.cs T.isc (by omega) (λb l n cs y=>qeo T b l n cs y) (λ_=>rfl) (v:=c3) g3 (lie (i:=3) (by omega) T.cs rfl rfl) (fz (by simp)) (kD h1 h2 (i:=3) (o:=3) rfl rfl hw);rw[T.bs]at s3;obtain⟨vm,lm,p4,r4,s4⟩:=pr (i:=4) (by omega) rfl rfl rfl rfl g4;obtain⟨va,la,p5,r5,s5⟩:=pr (i:=5) (by omega) rfl rfl rfl rfl g5;obtain⟨vd,ld,p6,r6,s6⟩:=pr (i:=6) (by omega) rfl rfl rfl rfl g6;obtain⟨vx,lx,p7,r7,s7⟩:=pr (i:=7) (by omega) rfl rfl rfl rfl g7;obtain⟨CO,hCO⟩:∃CO:List (List Int),CO.length=lc.length/\∀(i:Nat) x l,lc[i]?=some x->CO[i]?=some l->Rd (snapM2 w) x 1 wz l/\l.length*8<=reachBytes:=by
   clear r3 s3 p3
   induction lc with
   | nil=>exact⟨[],rfl,λi x l hx=>by simp at hx⟩
   | cons a lc ih =>
    obtain⟨l0,m1,m2⟩:=k3 a (by simp);obtain⟨CO,n1,n2⟩:=ih (λx hx=>k3 x (by simp[hx]));refine⟨l0::CO,by simp[n1],λi x l hx hl=>?_⟩;cases i with
    | zero=>simp at hx hl;subst hx hl;exact⟨m1,m2⟩
    | succ i=>simp at hx hl;exact n2 i x l hx hl
  have hrb:reachBytes=140737488351232:=rfl;have hco:Rd (snapM2 w) vc 1 (λv=>[v]) ((List.range CO.length).map λi=>lc.getD i zS):=by
   have:(List.range CO.length).map (λi=>lc.getD i zS)=lc:=by
    refine List.ext_getElem? λj=>?_;rw[qhm];by_cases hj:j<CO.length
    .rw[List.getElem?_range hj,Option.map_some,List.getD_eq_getElem?_getD,qh5 (by rw[<-hCO.1];exact hj)];rfl
    .rw[qhs (by simp;omega),qhs (by rw[<-hCO.1];omega)];rfl
   rw[this];exact r3
  have hci:∀(c:Nat) l,CO[c]?=some l->Rd (snapM2 w) (lc.getD c zS) 1 wz l/\l.length*8<=reachBytes:=λc l hc=>by
   have hj:=(qh7.1 hc).1;obtain⟨x,hx⟩:∃x,lc[c]?=some x:=⟨_,qh5 (by rw[<-hCO.1];exact hj)⟩;rw[List.getD_eq_getElem?_getD,hx];exact hCO.2 c x l hx hc
  have hcl:∀l∈CO,l.length*8<=reachBytes:=λl hm=>by
   obtain⟨c,hc⟩:=qhr hm;exact (hci c l hc).2
  have s3':CO.length*24<=reachBytes:=by rw[hCO.1];exact s3
  subst e0;refine⟨⟨a0,ve,vr,vc,vm,va,vd,vx⟩,⟨le,lr,CO,lm,la,ld,lx⟩,?_,⟨r1,r2,⟨_,hco,λc l hc=>(hci c l hc).1⟩,r4,r5,r6,r7⟩,⟨kO s1,kO s2,kO s3',λl hl=>kO (hcl l hl),kO s4,kO s5,kO s6,kO s7⟩,⟨by simp only;omega,by simp only;omega,by simp only;omega,λl hl=>by have:=hcl l hl;omega,by simp only;omega,by simp only;omega,by simp only;omega,by simp only;omega⟩⟩;exact .agg _ _ (.cons _ _ _ _ (.int _ _) (.cons _ _ _ _ p1 (.cons _ _ _ _ p2 (.cons _ _ _ _ p3 (.cons _ _ _ _ p4 (.cons _ _ _ _ p5 (.cons _ _ _ _ p6 (.cons _ _ _ _ p7 .nil))))))))
end
end Go.Sx
namespace Go.Dx
open Go.RowKit Go.WideShapes Go.ChangeShapes
section
variable {H:Type}{enc:TypeId × Value->H}{P:Program}
theorem args_stay (hl:laidOutB P=true){W W':World}:∀(ts:List TypeId) (vs:List Value) (ds:List (DataW H)) (ps:List MemPlace),(ts.all λt=>P.readableRec t&&decide (t<P.types.size))=true ->
  DataW.TrodAll enc P W 0 (λ_=>true) true ts vs ds ps->(∀p∈ps,W.sameAt W' p)->∀sp:Nat->Bool,(∀p∈ps,sp p.block=true)->DataW.TrodAll enc P W' 0 sp true ts vs ds ps
 | [],vs,ds,ps,_,h,_,_,_=>by
  obtain⟨rfl,rfl,rfl⟩:=trodAll_nil h;exact rfl
 | t::ts,vs,ds,ps,ha,h,hs,sp,hsp=>by
  obtain⟨v,vs',d,ds',p,q,rfl,rfl,rfl,h1,h2⟩:=trodAll_cons h;simp only[List.all_cons,qhb,qi3]at ha;exact⟨p,q,WideElems.Trod_stays hl ha.1.1 ha.1.2 h1 (λx hx=>hs x (List.mem_append_left _ hx)) (λx hx=>hsp x (List.mem_append_left _ hx)),
   args_stay hl ts vs' ds' q ha.2 h2 (λx hx=>hs x (List.mem_append_right _ hx)) sp (λx hx=>hsp x (List.mem_append_right _ hx)),rfl⟩
end
end Go.Dx
