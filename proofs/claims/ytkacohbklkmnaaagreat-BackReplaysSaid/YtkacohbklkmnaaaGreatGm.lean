/- Contracts. -/
import Derived.Test.YtkacohbklkmnaaaGreatGl
import Derived.Test.YtkacohbklkmnaaaGreatGi
import Derived.Test.YtkacohbklkmnaaaGreatGg
set_option linter.unusedVariables false
set_option linter.unusedSimpArgs false
set_option linter.defProp false
set_option maxHeartbeats 1000000
namespace Go.Sx
open Go.Dx Go.Proofs
set_option maxRecDepth 10000
theorem adv_eq {cur acts:List Ac}(hl:cur.length=acts.length)(he:∀(j:Nat) a,acts[j]?=some a->∃a',cur[j]?=some a'/\AcEq a' a):∀(f:Nat) (s:Ms),adv cur f s=adv acts f s:=by
 intro f
 induction f with
 | zero=>intro s;rw[jA,jA]
 | succ f ih =>
  intro s;cases ha:acts[s.at_]? with
  | none=>rw[jz _ ha,jz _ (qhs (by have:=List.getElem?_eq_none_iff.1 ha;omega))]
  | some a =>
   obtain⟨a',h1,x,y,z,rfl⟩:=he _ _ ha;cases ho:ownB a with
   | true =>
    rw[xw _ ha ho,xw _ h1 (show ownB { a with ix:=x,ev:=y,fv:=z }=true from ho)];exact ih _
   | false=>rw[jh _ ha ho,jh _ h1 (show ownB { a with ix:=x,ev:=y,fv:=z }=false from ho)]
theorem GR {cur acts:List Ac}(hl:cur.length=acts.length)(he:∀(j:Nat) a,acts[j]?=some a->∃a',cur[j]?=some a'/\AcEq a' a)(s:Ms):qG cur s=qG acts s:=by
 unfold qG bg;rw[adv_eq hl he];have hw:∀s':Ms,jl cur s'=jl acts s':=λs'=>by
  unfold jl;cases ha:acts[s'.at_]? with
  | none=>rw[qhs (by have:=List.getElem?_eq_none_iff.1 ha;omega)]
  | some a =>
   obtain⟨a',h1,x,y,z,rfl⟩:=he _ _ ha;rw[h1];rfl
 rw[hw]
theorem FA {EV:List Ev5}{RM:List (Int × Int)}{cur acts:List Ac}(hl:cur.length=acts.length)(he:∀(j:Nat) a,acts[j]?=some a->∃a',cur[j]?=some a'/\AcEq a' a):∀(f:Nat) (b:Bs),jf cur EV RM f b=jf acts EV RM f b:=by
 intro f
 induction f with
 | zero=>intro b;rfl
 | succ f ih =>
  intro b;unfold jf;rw[GR hl he];cases ha:acts[(qG acts b.s).at_]? with
  | none=>rw[qhs (by have:=List.getElem?_eq_none_iff.1 ha;omega)]
  | some a =>
   obtain⟨a',h1,x,y,z,rfl⟩:=he _ _ ha;rw[h1];simp only[ih];rfl
theorem qd6 {EV:List Ev5}{NX:List Int}{RM:List (Int × Int)}(h:rmP EV NX RM):RM.length<=EV.length:=by
 have key:∀(i:Nat) p,RM[i]?=some p->(i:Int)<=p.1:=by
  intro i
  induction i with
  | zero =>
   intro p hp;have:=h 0 p hp;unfold rmB at this;simp only[qhb]at this;obtain⟨x,e,h1,_⟩:=zl this.2.1;omega
  | succ i ih =>
   intro p hp;have:=h (i+1) p hp;unfold rmB at this;simp only[qhb]at this;have ho:=this.1;unfold fw at ho;simp only at ho;cases hq:RM[i]? with
   | none=>rw[hq]at ho;cases ho
   | some q =>
    rw[hq]at ho;have h1:=qi2 ho;have h2:=ih q hq;omega
 refine Classical.byContradiction λhc=>?_;have hlt:EV.length<RM.length:=by omega
 obtain⟨p,hp⟩:∃p,RM[EV.length]?=some p:=⟨_,qh5 hlt⟩;have h1:=key _ p hp;have:=h _ p hp;unfold rmB at this;simp only[qhb]at this;obtain⟨x,e,h2,h3,_⟩:=zl this.2.1;have:=(qh7.1 h3).1;omega
@[simp] theorem pMkif_at (u:Nat) (x:V) (t:Tm):Fe u x t=some (.iface u (x t)):=_root_.id rfl
theorem Dh (BB Mb:Nat)(v:Value)(h4:okC v=true):wg [.pointer none,.nilIface,zS,zI,zS,zF,zS] [(0,1,.pointer (some ⟨BB,0,none⟩)),(1,1,.iface 133 (mP Mb)),(2,1,v),(3,1,.int .i64 (-1))]=some (.agg ⟨wt BB Mb v zS zS (-1)⟩):=by
 cases v<;>first | rfl | (simp[okC]at h4)
def Zu (p:Pg)(g:Gp)(n:Nat):Option Rn:=match p.ths[n]? with
 | none=>none
 | some t=>jf t.acts g.ev g.rm ((thL g.ev n).length+100001) ⟨ms0 t.loc.toNat,thL g.ev n,-1,⟨[],[],[],0⟩⟩
def vN (p:Pg)(g:Gp)(n:Nat)(r:Rn):Prop:=Zu p g n=some r/\r.rmw=ofL g.ev g.rm n
def RepQ (m:M)(p:Pg)(g:Gp)(n:Nat)(v:Value)(m':M):Prop :=
 ∃ov,(v=.tuple #[ov,zT]/\∃r,vN p g n r/\Grown m m' ov 1 qS r.outs)\/(v=.tuple #[ov,zF]/\¬ ∃r,vN p g n r)
theorem Grown.sp {α:Type}{m0 m:M}{v:Value}{e:Nat}{f:α->List Value}{es:List α}(h:Grown m0 m v e f es):Sp e v:=by
 rcases h with ⟨_,rfl⟩ | ⟨B,_,_,_,rfl,_⟩
 .exact .inl rfl
 .exact .inr ⟨B,_,_,_,false,rfl,qh8 _⟩
theorem Env.to {m m':M}{Mb Lb:Nat}{av:Value}{acts:List Ac}(h:Env m Mb Lb av acts)(hn:m.n<=m'.n)(ho:∀B,B<m.n->B ∉ [Mb,Lb]->m'.obj B=m.obj B):Env m' Mb Lb av acts :=
 ⟨h.rav.congr hn λB hB=>ho B (h.rav.lt B hB) (h.avp B hB),h.avp,λa ha=>⟨by
  obtain⟨x,y⟩:=h.ok a ha;exact⟨x.ix.congr hn λB hB=>ho B (x.ix.lt B hB) (y.ix B hB),x.ev.congr hn λB hB=>ho B (x.ev.lt B hB) (y.ev B hB),x.fv.congr hn λB hB=>ho B (x.fv.lt B hB) (y.fv B hB),x.ixl,x.evl,x.fvl⟩,(h.ok a ha).2⟩⟩
theorem _root_.Go.Dx.Mc.out {a b c:M}{W:List Nat}(e:Ext a b)(k:Mc b c W)(ha:a.base<=a.n)(hW:∀B∈W,a.n<=B):Ext a c :=
 ⟨qhh e.n k.n,λB hB=>(k.obj B (qha hB e.n) λhc=>by have:=hW B hc;omega).trans (e.obj B hB),k.base.trans e.base,(k.low λB hB=>by rw[e.base];have:=hW B hB;omega).trans e.log⟩
theorem AcG.eq2 {k na:Nat}{cells:Int}{a b:Ac}(h:AcG k na cells b)(e:AcEq a b):AcG k na cells a:=by
 obtain⟨x,y,z,rfl⟩:=e;exact⟨h.op,h.may,h.dst,h.pl,h.es,h.to⟩
section
variable {m:M}{h:Gh}{g:Gp}
theorem Bu (p:Pg)(hp:PgOK m p)(hB:pgB p=true){n:Nat}(hn:n<p.ths.length){BB:Nat}{fv:Value}(hA:Arr m BB (ghL h++[fv]))(hBl:BB<m.n)(H:GOK m h g)(hev:g.ev.length<=256){NX:List Int}(hrm:rmP g.ev NX g.rm)(hok:∀q∈g.rm,isB g.ev q.1 1=true)(N:Nat)(hm:m.base<=m.n) :
  Dx.Call (ex Tryz.prog (N+8)) 37 [.pointer (some ⟨BB,0,none⟩),pgV p,iv n] m (RepQ m p g n):=by
 refine qm dc0_ok (by simp) ?_;have hpv:pgV p=.agg ⟨[iv p.cells,p.tv]⟩:=rfl;have st1:=(St.nil hm (Ext.refl m)).row [iv p.cells,p.tv];obtain⟨m1,hm1⟩:=qi4 (Dx.newRow m [iv p.cells,p.tv]);rw[<-hm1]at st1;have l1:loads m1 ⟨m.n,0,none⟩ 2=some [iv p.cells,p.tv]:=(st1.get 0 rfl).2.2.loads (n:=2) (by simp);obtain⟨v3,m3,c1,c2,c3⟩:=New_c p n (N+1) m1 st1.sees.self.base (hp.sees st1.sees);rw[qhz ⟨hB,by omega,by omega⟩]at c3;obtain⟨t,cur,ht,hcl,hce,Mb,Lb,av,rfl,hne,hMb,hLb,hMs,hEnv,-⟩:=c3;rw[qhj]at ht;have st3:=st1.step c2;have S3:=st3.sees;have hm1n:m1.n=m.n+1:=by rw[hm1];simp
 have hb:Bk m BB h fv:=⟨hBl,λo s=>hA.load1 o s⟩;have b3:=hb.sees S3;have hA3:Arr m3 BB (ghL h++[fv]):=hA.congr (st3.ext.obj BB hBl);have L8:loads m3 ⟨BB,0,none⟩ 8=some (ghL h):=hA3.loads (n:=8) (by simp[ghL]);obtain⟨v4,m4,d1,d2,hG⟩:=ZM (h:=h) (N+6) S3.self.base (H.ev.sees S3) hev n;have st4:=st3.step d2;have S4:=st4.sees;have hn34:=d2.n;have E5:Ext m4 (Dx.newRow m4 (wt BB Mb v4 zS zS (-1))):=Ext.row _ _;obtain⟨m5,hm5⟩:=qi4 (Dx.newRow m4 (wt BB Mb v4 zS zS (-1)));have hm5n:m5.n=m4.n+1:=by rw[hm5];simp
 have ha5:Arr m5 m4.n (wt BB Mb v4 zS zS (-1)):=by rw[hm5];exact Arr.row _ _
 rw[<-hm5]at E5;have E35:Ext m3 m5:=d2.trans E5;have st5:=st4.step E5;have S5:=st5.sees;obtain⟨mA,hmA⟩:=qi4 (ql m5);have hAn:mA.n=m5.n:=by rw[hmA];exact qt _
 have hAo:∀B,mA.obj B=m5.obj B:=λB=>by rw[hmA];exact qx _ _
 have hAb:mA.base=m5.n:=by rw[hmA];exact qW _
 have hMbl:=hMs.mb;have hLbl:=hMs.lb;have hW:∀B,B<m.n->B ∉ Mb::Lb::[m4.n]:=λB hB=>by
  have:=st4.ext.n;simp;omega
 have R0:RW [m4.n] mA mA Mb Lb t.loc.toNat av (ms0 t.loc.toNat) (zS,zS,zS) ⟨[],[],[],0⟩ [(m4.n,wt BB Mb v4 zS zS (-1))]:=by
  refine⟨Ow.start (by omega) (λq hq=>by rw[qhc]at hq;subst hq;exact⟨by simp,by simp only;omega,ha5.congr (hAo _)⟩) (by simp),(hMs.ext E35).congr (by omega) (hAo _) (hAo _),.nil,.nil,.nil,λB hB=>?_,λB hB=>?_,λB hB=>?_,by omega,by omega,hne,λq hq=>by rw[qhc]at hq;subst hq;exact .inr (by simp),by simp;omega,by simp;omega⟩
  .rcases hB with hB | hB | hB<;>cases hB
  .cases hB
  .cases hB
 have htB:thB p.cells t=true:=by
  have:=hB;unfold pgB at this;simp only[qhb]at this;exact List.all_eq_true.1 this.2.2 t (qh6 ht)
 have hcells:p.cells<=4096:=by
  have:=hB;unfold pgB at this;simp only[qhb,qi3]at this;exact this.1.2
 unfold thB at htB;simp only[qhb,qi3]at htB;obtain⟨⟨hl0,hl1⟩,htl,hacts⟩:=htB;have hgs:∀a∈cur,AcG t.loc.toNat cur.length p.cells a:=λa ha=>by
  obtain⟨j,hj⟩:=qhr ha;have hjl:=(qh7.1 hj).1;obtain⟨b,h1,h2⟩:=hce j _ (qh5 (show j<t.acts.length by omega));rw[hj]at h1;cases h1;rw[hcl];exact (dR (List.all_eq_true.1 hacts _ (List.getElem_mem _))).eq2 h2
 have hSA:Sees m mA:=by rw[hmA];exact qp S5
 have hrl:=qd6 hrm;have hTE:TEnv [m4.n] mA Mb Lb t.loc.toNat av p.cells cur BB h fv g.ev g.rm:=by
  refine⟨λmm hmm=>hEnv.to (by have:=hmm.n;have:=E35.n;omega) (λB hB hC=>?_),hgs,hcells,by omega,hb.sees hSA,hW _ hBl,H.ev.sees hSA,λB hB=>hW B (H.ev.lt B hB),hev,H.rm.sees hSA,λB hB=>hW B (H.rm.lt B hB),by omega⟩;rw[hmm.obj B (by have:=E35.n;omega) (by simp at hC ⊢;omega),hAo,E35.obj B hB]
 have hlv:Rd mA v4 1 vi (thL g.ev n):=by
  rw[hmA];exact ((hG.ext E5).rd xn).anyM
 have hT:TI [m4.n] mA mA Mb Lb t.loc.toNat av BB m4.n g.ev (ms0 t.loc.toNat) (zS,zS,zS) ⟨[],[],[],0⟩ v4 (thL g.ev n) (-1):=by
  refine⟨R0,hlv,Grown.sp hG,λB hB=>?_,λi hi=>?_⟩
  .have:=grown_low hG B hB;simp;omega
  .unfold thL thN at hi;have:=(List.mem_filter.1 hi).1;simpa using this
 have hll:(thL g.ev n).length<=256:=qhh (vJ _ _ _) hev;obtain⟨v6,m6,e1,rfl,s,G,r,lv,l,opn,T6,hr⟩:=run_c hTE hT rfl (by simp[ms0]) rfl rfl hll N;rw[hmA]at e1;have hAB:∀o s',load1 m6 ⟨BB,o,s'⟩=(ghL h++[fv])[o]?:=λo s'=>((hTE.at T6.ri.ow.mc).1).ld o s';have lT:∀o s',load1 m6 ⟨m4.n,o,s'⟩=(wt BB Mb lv G.2.2 G.2.1 opn)[o]?:=λo s'=>(T6.ri.get 0 rfl).load1 o s';have hrw:jf cur g.ev g.rm ((thL g.ev n).length+100001) ⟨ms0 t.loc.toNat,thL g.ev n,-1,⟨[],[],[],0⟩⟩=Zu p g n:=by
  unfold Zu;rw[ht];exact FA hcl hce _ _
 rw[hrw]at e1 hr;have K6:Mc (ql m5) m6 (Mb::Lb::[m4.n]):=by rw[<-hmA];exact T6.ri.ow.mc
 have hE6:Ext m (Dx.behind m5 m6):=Mc.out st5.ext K6.behind hm (λB hB=>by simp at hB;have:=st4.ext.n;omega);rw[hpv]at c1 ⊢;have lT6:load1 m6 ⟨m4.n,6,none⟩=some G.2.1:=lT 6 none;have lT4:load1 m6 ⟨m4.n,4,none⟩=some G.2.2:=lT 4 none;have lB4:load1 m6 ⟨BB,4,none⟩=some h.rm:=by
  have:=hAB 4 none;simpa [ghL]using this
 have hbx:wg [.pointer none,.nilIface,zS,zI,zS,zF,zS] [(0,1,.pointer (some ⟨BB,0,none⟩)),(1,1,.iface 133 (mP Mb)),(2,1,v4),(3,1,.int .i64 (-1))]=some (.agg ⟨wt BB Mb v4 zS zS (-1)⟩):=Dh _ _ _ hG.okC;have hb5:XE (.agg ⟨wt BB Mb v4 zS zS (-1)⟩) m4=some (.pointer (some ⟨m4.n,0,none⟩),m5):=by rw[hm5];rfl
 cases hq:Zu p g n with
 | none =>
  rw[hq]at e1;simp[<-hm1,l1,qb,c1,wo,L8,d1,hbx,hb5,e1,lT6,meets];refine kg hE6 ⟨G.2.1,.inr ⟨by simp,λ⟨r,h1,_⟩=>?_⟩⟩;rw[hq]at h1;cases h1
 | some r' =>
  rw[hq]at e1;have hr':=hr r' hq;subst hr';obtain⟨m7,hm7⟩:=qi4 (Dx.behind m5 m6);rw[<-hm7]at hE6;have S7:Sees m m7:=(Sees.refl hm).ext hE6;have hn7:m7.n=m6.n:=by rw[hm7];exact wj _ _
  have ho7:∀B,m7.obj B=m6.obj B:=λB=>by rw[hm7];exact qB _ _ _
  have lB1:load1 (ql m7) ⟨BB,1,none⟩=some h.ev:=by
   have:load1 m6 ⟨BB,1,none⟩=some h.ev:=by
    have:=hAB 1 none;simpa [ghL]using this
   rw[<-this];unfold load1 cellsOf;rw[qx,ho7]
  have S7a:Sees m (ql m7):=qp S7;obtain⟨v8,m8,f1,f2,hO⟩:=of_c (N+6) S7a.self.base lB1 (qha hBl S7a.n) (H.ev.sees S7a) (H.rm.sees S7a) (by omega) (λq hq=>hok q hq) n;have hGr:Rd m7 G.2.2 2 qn r.rmw:=(T6.ri.gr.rd kl).congr (by omega) λB _=>ho7 B;obtain⟨m9,hm9⟩:=qi4 (Dx.behind m7 m8);have E9:Ext m7 m9:=by rw[hm9];exact f2.behind
  have S9':Sees m7 (ql m9):=qp ((Sees.refl S7.self.base).ext E9);have hOr:Rd (ql m9) v8 2 qn (ofL g.ev g.rm n):=(hO.rd kl).congr (by rw[qt,hm9,wj];exact qh8 _) λB _=>by rw[qx,hm9,qB]
  have hol:(ofL g.ev g.rm n).length<=4611686018427387904:=by
   have:(ofL g.ev g.rm n).length<=g.rm.length:=List.length_filter_le _ _;omega
  obtain⟨v10,m10,q1,q2,rfl⟩:=BM (N+6) S9'.self.base (hGr.sees S9') hOr hol;have l7:∀B o s',load1 m7 ⟨B,o,s'⟩=load1 m6 ⟨B,o,s'⟩:=λB o s'=>by unfold load1 cellsOf;rw[ho7]
  have lT9:load1 m9 ⟨m4.n,6,none⟩=some G.2.1:=by
   rw[<-lT6,<-l7];unfold load1 cellsOf;rw[E9.obj m4.n (by have:=(T6.ri.ow.get 0 rfl).2.1;omega)]
  have g8:m8.log=[]:=by rw[f2.log,wu]
  have lT10:load1 m10 ⟨m4.n,6,none⟩=some G.2.1:=by
   rw[<-lT9];unfold load1 cellsOf;rw[q2.obj m4.n (by rw[qt];have:=E9.n;have:=(T6.ri.ow.get 0 rfl).2.1;omega),qx]
  simp[<-hm1,l1,qb,c1,wo,L8,d1,hbx,hb5,e1,<-hm7,l7,lT10,lT4,lB4,f1,<-hm9,q1,g8,meets,FP.meet];have E10:Ext m9 (Dx.behind m9 m10):=q2.behind;refine kg ((hE6.trans E9).trans E10) ⟨G.2.1,?_⟩;have hno:∀B,mA.n<=B->m.n<=B:=λB hB=>by have:=st5.ext.n;omega
  have hgo:Grown m (Dx.behind m9 m10) G.2.1 1 qS r.outs:=((T6.ri.go.keep (m':=m7) (by omega) λB _ _=>ho7 B).ext (E9.trans E10)).low (by have:=st5.ext.n;omega);by_cases hR:r.rmw=ofL g.ev g.rm n
  .exact .inl ⟨by simp[hR],r,⟨hq,hR⟩,hgo⟩
  .refine .inr ⟨by simp[hR],λ⟨r',h1,h2⟩=>?_⟩;rw[hq]at h1;cases h1;exact hR h2
end
def slI (v:Value):List Value:=[v]
theorem yK (v:Value):(slI v).length=1:=rfl
structure Nest (m0 m:M)(ov:Value)(vs:List Value)(LL:List (List U)):Prop where
 top:Grown m0 m ov 1 slI vs
 len:vs.length=LL.length
 at_:∀(i:Nat) v l,vs[i]?=some v->LL[i]?=some l->Grown m0 m v 1 qS l
 ne:∀(i:Nat) v,vs[i]?=some v->∀B,blk v=some B->blk ov≠some B
 nd:∀(i j:Nat) v w,i<j->vs[i]?=some v->vs[j]?=some w->∀B,blk v=some B->blk w≠some B
theorem Nest.nil {m0 m:M}:Nest m0 m zS [] [] :=
 ⟨.nil,rfl,λi v l h=>by simp at h,λi v h=>by simp at h,λi j v w _ h=>by simp at h⟩
theorem Nest.low {m0 m:M}{ov:Value}{vs:List Value}{LL:List (List U)}(h:Nest m0 m ov vs LL){i:Nat}{v:Value}(hv:vs[i]?=some v):∀B,blk v=some B->m0.n<=B/\B<m.n:=λB hB=>by
 have hi:=(qh7.1 hv).1;exact grown_low (h.at_ i v _ hv (qh5 (by rw[<-h.len];exact hi))) B hB
theorem _root_.Go.Dx.Ap.ext {m m1 m':M}{v v':Value}(A:Ap m1 m' v v')(e:Ext m m1)(hm:m.base<=m.n)(hl:∀B,blk v=some B->m.n<=B):Ext m m' :=
 ⟨qhh e.n A.n,λB hB=>(A.obj B (qha hB e.n) λhc=>by have:=hl B hc;omega).trans (e.obj B hB),A.base.trans e.base,(A.low λB hB=>by rw[e.base];have:=hl B hB;omega).trans e.log⟩
theorem Nest.more {m0 m m1 m':M}{ov ov' w:Value}{vs:List Value}{LL:List (List U)}{l:List U}(h:Nest m0 m ov vs LL)(e:Ext m m1)(hw:Grown m m1 w 1 qS l)(h0:m0.n<=m.n)(hg:Grown m0 m' ov' 1 slI (vs++[w]))(hA:Ap m1 m' ov ov'):Nest m0 m' ov' (vs++[w]) (LL++[l]):=by
 have hov:∀B,blk ov=some B->B<m.n:=λB hB=>(grown_low h.top B hB).2;have cases':∀(i:Nat) v,(vs++[w])[i]?=some v->vs[i]?=some v\/(i=vs.length/\v=w):=λi v hv=>by
  by_cases hi:i<vs.length
  .rw[qhk hi]at hv;exact .inl hv
  .rw[qhl (by omega)]at hv;have:=(qh7.1 hv).1;simp at this;have hie:i=vs.length:=by omega
   subst hie;simp at hv;exact .inr ⟨rfl,hv.symm⟩
 have lowV:∀(i:Nat) v,vs[i]?=some v->∀B,blk v=some B->B<m.n:=λi v hv B hB=>(h.low hv B hB).2;have lowW:∀B,blk w=some B->m.n<=B/\B<m1.n:=grown_low hw;have hn1:=e.n;refine⟨hg,by simp[h.len],λi v l' hv hl=>?_,λi v hv B hB=>?_,λi j v v' hij hv hv' B hB=>?_⟩
 .rcases cases' i v hv with h1 | ⟨h1,rfl⟩
  .have hi:=(qh7.1 h1).1;rw[qhk (by rw[<-h.len];exact hi)]at hl;refine ((h.at_ i v l' h1 hl).ext e).keep hA.n λB hB hb=>hA.obj B hB λhc=>h.ne i v h1 B hb hc
  .subst h1;rw[h.len]at hl;simp at hl;subst hl;exact (hw.low h0).keep hA.n λB hB hb=>hA.obj B hB λhc=>by have:=hov B hc;have:=(lowW B hb).1;omega
 .intro hc;have:=hA.new B hc;rcases cases' i v hv with h1 | ⟨_,rfl⟩
  .have:=lowV i v h1 B hB;omega
  .have:=(lowW B hB).2;omega
 .intro hc;rcases cases' i v hv with h1 | ⟨h1,rfl⟩
  .rcases cases' j v' hv' with h2 | ⟨_,rfl⟩
   .exact h.nd i j v v' hij h1 h2 B hB hc
   .have:=lowV i v h1 B hB;have:=(lowW B hc).1;omega
  .subst h1;have:=(qh7.1 hv').1;simp at this;omega
theorem Nest.ext {m0 m m':M}{ov:Value}{vs:List Value}{LL:List (List U)}(h:Nest m0 m ov vs LL)(e:Ext m m'):Nest m0 m' ov vs LL :=
 ⟨h.top.ext e,h.len,λi v l a b=>(h.at_ i v l a b).ext e,h.ne,h.nd⟩
theorem Nest.okV {m0 m:M}{ov:Value}{vs:List Value}{LL:List (List U)}(h:Nest m0 m ov vs LL):∀v∈vs,okC v=true:=λv hv=>by
 obtain⟨i,hi⟩:=qhr hv;have hl:=(qh7.1 hi).1;exact (h.at_ i v _ hi (qh5 (by rw[<-h.len];exact hl))).okC
def fG (p:Pg)(g:Gp)(n:Nat):Prop:=if n<p.ths.length then ¬ ∃r,vN p g n r else thL g.ev n≠[]
def AllQ (m:M)(p:Pg)(g:Gp)(v:Value)(m':M):Prop :=
 (∃n:Nat,n<64/\fG p g n/\(∀k<n,¬fG p g k)/\v=.tuple #[zS,iv n,iv 8]) \/
 ((∀k<64,¬fG p g k)/\∃ov vs,∃rs:List Rn,v=.tuple #[ov,iv 0,iv 0]/\rs.length=p.ths.length/\(∀(i:Nat) r,rs[i]?=some r->vN p g i r)/\Nest m m' ov vs (rs.map (·.outs)))
theorem XF (m:M)(v:Value)(h4:okC v=true):wH 1 1 (rep 1 [zS]) [(0,1,v)] m=some (.slice (some ⟨m.n,0,some 3⟩) 1 1,Dx.newRow m [v]):=by
 cases v<;>first | rfl | (simp[okC]at h4)
structure BkE (m:M)(BB VB PB:Nat)(h:Gh)(g:Gp)(fv:Value)(p:Pg):Prop where
 ab:Arr m BB (ghL h++[fv])
 bl:BB<m.n
 av:Arr m VB [.pointer (some ⟨BB,0,none⟩)]
 vl:VB<m.n
 ap:Arr m PB [iv p.cells,p.tv]
 pl:PB<m.n
 pg:PgOK m p
 ok:GOK m h g
theorem BkE.ext {m m':M}{BB VB PB:Nat}{h:Gh}{g:Gp}{fv:Value}{p:Pg}(H:BkE m BB VB PB h g fv p)(hm:m.base<=m.n)(e:Ext m m'):BkE m' BB VB PB h g fv p:=by
 have hs:=(Sees.refl hm).ext e;have hn:=e.n;exact⟨H.ab.congr (e.obj _ H.bl),qha H.bl hn,H.av.congr (e.obj _ H.vl),qha H.vl hn,H.ap.congr (e.obj _ H.pl),qha H.pl hn,H.pg.sees hs,H.ok.sees hs⟩
section
variable {m:M}{BB VB PB:Nat}{h:Gh}{g:Gp}{fv:Value}{p:Pg}
theorem oneT_c (H:BkE m BB VB PB h g fv p)(hB:pgB p=true){n:Nat}(hn:n<p.ths.length)(hev:g.ev.length<=256){NX:List Int}(hrm:rmP g.ev NX g.rm)(hok:∀q∈g.rm,isB g.ev q.1 1=true)(N:Nat)(hm:m.base<=m.n) :
  Dx.Call (ex Tryz.prog (N+9)) 36 [iv n,.pointer (some ⟨VB,0,none⟩),.pointer (some ⟨PB,0,none⟩)] m (RepQ m p g n):=by
 refine qm db9_ok (by simp) ?_;have l1:load1 m ⟨VB,0,none⟩=some (.pointer (some ⟨BB,0,none⟩)):=H.av.load1 0 none;have l2:loads m ⟨PB,0,none⟩ 2=some [iv p.cells,p.tv]:=H.ap.loads (n:=2) (by simp);obtain⟨v,m',c1,c2,c3⟩:=Bu p H.pg hB hn H.ab H.bl H.ok hev hrm hok N hm;rw[show pgV p=.agg ⟨[iv p.cells,p.tv]⟩ from rfl]at c1;obtain⟨ov,⟨rfl,r,hr,hg⟩ | ⟨rfl,hr⟩⟩:=c3
 .simp[l1,l2,qb,c1,wo];exact kg c2 ⟨ov,.inl ⟨by simp,r,hr,hg⟩⟩
 .simp[l1,l2,qb,c1,wo];exact kg c2 ⟨ov,.inr ⟨by simp,hr⟩⟩
theorem all_c (H:BkE m BB VB PB h g fv p)(hB:pgB p=true)(hT:p.ths.length<=64)(hev:g.ev.length<=256){NX:List Int}(hrm:rmP g.ev NX g.rm)(hok:∀q∈g.rm,isB g.ev q.1 1=true)(N:Nat)(hm:m.base<=m.n) :
  Dx.Call (ex Tryz.prog (N+10)) 26 [.pointer (some ⟨BB,0,none⟩),iv p.ths.length,.func (.func 36) ⟨[]⟩ ⟨[.pointer (some ⟨VB,0,none⟩),.pointer (some ⟨PB,0,none⟩)]⟩] m (AllQ m p g):=by
 refine qm db3_ok (by simp) ?_;simp;refine qq (c:=DF) rfl (Ret m _) (λi t m'=>Ext m m'/\(∀k<i,¬fG p g k)/\(∃vs,∃rs:List Rn,rs.length=min i p.ths.length/\(∀(j:Nat) r,rs[j]?=some r->vN p g j r)/\Nest m m' (Tm.get 9 t) vs (rs.map (·.outs)))/\Tm.get 0 t=.pointer (some ⟨BB,0,none⟩)/\Tm.get 1 t=iv p.ths.length/\Tm.get 2 t=.func (.func 36) ⟨[]⟩ ⟨[.pointer (some ⟨VB,0,none⟩),.pointer (some ⟨PB,0,none⟩)]⟩/\Tm.get 13 t=iv i) 64 (by omega)
  ⟨Ext.refl _,λk hk=>by omega,⟨[],[],by simp,λj r hj=>by simp at hj,by simp;exact Nest.nil⟩,by simp,by simp,by simp,by simp⟩ (λi t m' k hi hI hk=>?_)
 obtain⟨hE,hb,⟨vs,rs,hrl,hrs,hN⟩,h0,h1,h2,h13⟩:=hI;obtain⟨sv,hsv⟩:=qi4 (Tm.get 9 t);rw[<-hsv]at hN;have h9:=hsv.symm;have hS:=(Sees.refl hm).ext hE;have H':=H.ext hm hE;by_cases hil:i<64
 .have hd:((i:Int)<64)=True:=qi1 (by omega);by_cases hit:i<p.ths.length
  .have hge:((p.ths.length:Int)<=(i:Int))=False:=qi0 (by omega);have hge':(p.ths.length<=i)=False:=qi0 (by omega);obtain⟨v,m2,c1,c2,ov,hc⟩:=oneT_c H' hB hit hev hrm hok N hS.base;rcases hc with ⟨rfl,r,hr,hg⟩ | ⟨rfl,hr⟩
   .have hno:¬fG p g i:=by unfold fG;rw[qhz hit];exact λhc=>hc ⟨r,hr⟩
    have hbs:=XF m2 ov hg.okC;have hx:loads (Dx.newRow m2 [ov]) ⟨m2.n,0,some 3⟩ 1=some (slI ov):=zE m2 [ov] 0 1 (by simp);have hN2:=hN.ext (c2.trans (Ext.row m2 [ov]));have hn2:=c2.n;have hn3:m2.n<=(Dx.newRow m2 [ov]).n:=(Ext.row m2 [ov]).n;have hvl:vs.length=i:=by rw[hN.len,List.length_map,hrl];omega
    obtain⟨v',m3,e1,e2,e3⟩:=jZ hN2.top (by omega) yK (x:=ov) (λy hy v hv=>by
     simp only[slI,qhc]at hv;subst hv;rcases qhu.1 hy with hy | hy
     .exact hN.okV _ hy
     .rw[qhc]at hy;subst hy;exact hg.okC) hx (by have:=hE.n;omega) (bytes:=24) (by unfold wk;omega) (by omega)
    have hw1:=qK (i:=i) (by omega);have E3:Ext m m3:=e3.ext ((hE.trans c2).trans (Ext.row m2 [ov])) hm λB hB=>(grown_low hN.top B hB).1;simp[h1,h2,h9,h13,hd,hge,c1,wo,hbs,e1,hw1];refine hk hil _ _ ⟨E3,λk hk2=>?_,⟨vs++[ov],rs++[r],?_,λj r' hj=>?_,?_⟩,by simp[h0],by simp[h1],by simp[h2],by simp⟩
    .by_cases hki:k<i
     .exact hb k hki
     .obtain rfl:k=i:=by omega
      exact hno
    .simp[hrl];omega
    .by_cases hji:j<rs.length
     .rw[qhk hji]at hj;exact hrs j r' hj
     .rw[qhl (by omega)]at hj;have:=(qh7.1 hj).1;simp at this;obtain rfl:j=i:=by omega
      rw[show j-rs.length=0 by omega]at hj;simp at hj;subst hj;exact hr
    .simp;exact hN.more (c2.trans (Ext.row m2 [ov])) (hg.ext (Ext.row m2 [ov])) hE.n e2 e3
   .have hbad:fG p g i:=by unfold fG;rw[qhz hit];exact hr
    simp[h1,h2,h13,hd,hge,c1,wo];exact vk (hE.trans c2) (.inl ⟨i,hil,hbad,hb,by simp⟩)
  .have hge:((p.ths.length:Int)<=(i:Int))=True:=qi1 (by omega);have hge':(p.ths.length<=i)=True:=qi1 (by omega);have L8:loads m' ⟨BB,0,none⟩ 8=some (ghL h):=H'.ab.loads (n:=8) (by simp[ghL]);obtain⟨v,m2,c1,c2,hG⟩:=ZM (h:=h) (N+8) hS.base H'.ok.ev hev i;have hlen:=hG.lens;by_cases hl:thL g.ev i=[]
   .have hno:¬fG p g i:=by unfold fG;rw[qhy hit];exact λhc=>hc hl
    rw[hl]at hlen;have hlen':wB v=some (iv 0):=hlen;have hw1:=qK (i:=i) (by omega);simp[h0,h1,h13,hd,hge,L8,qb,c1,hlen',hw1];refine hk hil _ _ ⟨hE.trans c2,λk hk2=>?_,⟨vs,rs,by omega,hrs,by simp[h9];exact hN.ext c2⟩,by simp[h0],by simp[h1],by simp[h2],by simp⟩;by_cases hki:k<i
    .exact hb k hki
    .obtain rfl:k=i:=by omega
     exact hno
   .have hbad:fG p g i:=by unfold fG;rw[qhy hit];exact hl
    obtain⟨ln,hln⟩:=qi4 ((thL g.ev i).length);rw[<-hln]at hlen;have hp0:((0:Int)<(ln:Int))=True:=qi1 (by have:(thL g.ev i).length≠0:=λhc=>hl (List.length_eq_zero_iff.1 hc);omega);have hp1:(0<ln)=True:=qi1 (by have:(thL g.ev i).length≠0:=λhc=>hl (List.length_eq_zero_iff.1 hc);omega);simp[h0,h1,h13,hd,hge,L8,qb,c1,hlen,hp1];exact vk (hE.trans c2) (.inl ⟨i,hil,hbad,hb,by simp⟩)
 obtain rfl:i=64:=by omega
 simp[h13,h9];refine vk hE (.inr ⟨hb,sv,vs,rs,by simp,by omega,hrs,hN⟩)
end
theorem Df (h:Gh)(fv:Value)(h4:okC fv=true) :
  wg [zI,zS,zS,zS,zS,zS,zS,zS,zS] [(0,8,.agg ⟨ghL h⟩),(8,1,fv)]=some (.agg ⟨ghL h++[fv]⟩):=by
 have c4:zk fv=some [fv]:=by cases fv<;>first | rfl | simp[okC]at h4
 unfold wg;show ob (ob (some (ghL h)) λcs=>bif Nat.beq cs.length 8&&Nat.ble (0+8) 9 then fU [(8,1,fv)] _ else none) _=_
 rw[qQ];show ob (ob (zk fv) λcs=>bif Nat.beq cs.length 1&&Nat.ble (8+1) 9 then fU [] _ else none) _=_
 rw[c4];rfl
def MadeQ (m:M)(h:Gh)(v:Value)(m':M):Prop:=∃BB fv,v=.pointer (some ⟨BB,0,none⟩)/\Arr m' BB (ghL h++[fv])/\m.n<=BB/\BB<m'.n
theorem Xg {EV:List Ev5}{NX:List Int}{RM:List (Int × Int)}(h:rmP EV NX RM):∀q∈RM,isB EV q.1 1=true:=λq hq=>by
 obtain⟨i,hi⟩:=qhr hq;have:=h i q hi;unfold rmB at this;simp only[qhb]at this;exact this.2.1
def RpsQ (m:M)(p:Pg)(h:Gh)(g:Gp)(v:Value)(m':M):Prop :=
 (¬(pgB p=true/\h.n=p.cells)->v=.tuple #[zS,iv 0,iv 1]) /\
 ((pgB p=true/\h.n=p.cells)->¬WFs h.n g->v=.tuple #[zS,iv 0,iv 4]) /\
 ((pgB p=true/\h.n=p.cells)->WFs h.n g->AllQ m p g v m')
theorem Nest.lower {m0 m0' m:M}{ov:Value}{vs:List Value}{LL:List (List U)}(h:Nest m0 m ov vs LL)(hn:m0'.n<=m0.n):Nest m0' m ov vs LL :=
 ⟨h.top.low hn,h.len,λi v l a b=>(h.at_ i v l a b).low hn,h.ne,h.nd⟩
theorem Zl {p:Pg}(hB:pgB p=true):p.ths.length<=64:=by
 unfold pgB at hB;simp only[qhb,qi3]at hB;omega
section
variable {m:M}{h:Gh}{g:Gp}{p:Pg}
theorem made_c (n:Nat)(hm:m.base<=m.n)(H:GOK m h g)(hev:g.ev.length<=256) :
  Dx.Call (ex Tryz.prog (n+1)) 25 [.agg ⟨ghL h⟩] m (MadeQ m h):=by
 refine qm db2_ok (by simp) ?_;have st1:=(St.nil hm (Ext.refl m)).row (ghL h);obtain⟨m1,hm1⟩:=qi4 (Dx.newRow m (ghL h));rw[<-hm1]at st1;have L8:loads m1 ⟨m.n,0,none⟩ 8=some (ghL h):=(st1.get 0 rfl).2.2.loads (n:=8) (by simp[ghL]);have L1:load1 m1 ⟨m.n,1,none⟩=some h.ev:=(st1.get 0 rfl).2.2.load1 1 none;have hlen:=H.ev.len;have hmk:=JD (n:=g.ev.length) (by omega) m1;obtain⟨fv,hfv⟩:=qi4 (Value.slice (some ⟨m1.n,0,some 3⟩) g.ev.length g.ev.length);have hbd:=Df h fv (by rw[hfv];rfl);rw[<-hfv]at hmk;have E2:Ext m1 (Dx.newRow m1 (xS (List.replicate g.ev.length false))):=Ext.row _ _;obtain⟨m2,hm2⟩:=qi4 (Dx.newRow m1 (xS (List.replicate g.ev.length false)));rw[<-hm2]at hmk E2;have E3:Ext m2 (Dx.newRow m2 (ghL h++[fv])):=Ext.row _ _;have hb3:XE (.agg ⟨ghL h++[fv]⟩) m2=some (.pointer (some ⟨m2.n,0,none⟩),Dx.newRow m2 (ghL h++[fv])):=rfl;have ha:Arr (Dx.newRow m2 (ghL h++[fv])) m2.n (ghL h++[fv]):=Arr.row _ _;obtain⟨m3,hm3⟩:=qi4 (Dx.newRow m2 (ghL h++[fv]));rw[<-hm3]at E3 hb3 ha;have hn3:m2.n<m3.n:=by rw[hm3];simp
 simp[<-hm1,L8,L1,qb,hlen,hmk,hbd,hb3,meets];have E12:=st1.ext.trans E2;refine qf (E12.trans E3) ⟨m2.n,fv,by simp,ha,E12.n,hn3⟩
theorem XB (p:Pg)(hp:PgOK m p)(H:GOK m h g)(hsp:Sp 1 h.co)(hz:GSz g)(N:Nat)(hm:m.base<=m.n) :
  Dx.Call (ex Tryz.prog (N+11)) 14 [pgV p,.agg ⟨ghL h⟩] m (RpsQ m p h g):=by
 refine qm da5_ok (by simp) ?_;have hpv:pgV p=.agg ⟨[iv p.cells,p.tv]⟩:=rfl;have st1:=((St.nil hm (Ext.refl m)).row [iv p.cells,p.tv]).row (ghL h);obtain⟨m1,hm1⟩:=qi4 (Dx.newRow m [iv p.cells,p.tv]);rw[<-hm1]at st1;obtain⟨m2,hm2⟩:=qi4 (Dx.newRow m1 (ghL h));rw[<-hm2]at st1;have hm1n:m1.n=m.n+1:=by rw[hm1];simp
 have lP:loads m2 ⟨m.n,0,none⟩ 2=some [iv p.cells,p.tv]:=(st1.get 1 rfl).2.2.loads (n:=2) (by simp);have S2:=st1.sees;obtain⟨v3,m3,c1,c2,rfl⟩:=YA p (N+5) m2 S2.self.base (hp.sees S2);have st3:=st1.step c2;have S3:=st3.sees;have lG0:load1 m3 ⟨m1.n,0,none⟩=some (iv h.n):=(st3.get 0 rfl).2.2.load1 0 none;have lP0:load1 m3 ⟨m.n,0,none⟩=some (iv p.cells):=(st3.get 1 rfl).2.2.load1 0 none;have L8:loads m3 ⟨m1.n,0,none⟩ 8=some (ghL h):=(st3.get 0 rfl).2.2.loads (n:=8) (by simp[ghL]);rw[hpv]at c1 ⊢;by_cases hB:pgB p=true
 .rw[hB]at c1;by_cases hc:h.n=p.cells
  .obtain⟨v4,m4,d1,d2,r,a,rfl,hr⟩:=qdy (N+6) S3.self.base (H.sees S3) hsp hz;have hc':(h.n=p.cells)=True:=qi1 hc;have st4:=st3.step d2;have S4:=st4.sees;have L84:loads m4 ⟨m1.n,0,none⟩ 8=some (ghL h):=(st4.get 0 rfl).2.2.loads (n:=8) (by simp[ghL]);by_cases hr0:r=0
   .have hW:=hr.1 hr0;obtain⟨N0,hN0,hEvG,_,_,hrm,_⟩:=id hW;have hev:g.ev.length<=256:=hEvG.n2;subst hr0;obtain⟨v5,m5,e1,e2,BB,fv,rfl,ha,hb1,hb2⟩:=made_c (h:=h) (N+9) S4.self.base (H.sees S4) hev;have st5:=(st4.step e2).row [.pointer none];have hBl:∀q∈[(m1.n,ghL h),(m.n,[iv p.cells,p.tv])],q.1≠m5.n:=λq hq=>by have:=((st4.step e2).arr q hq).2.1;omega
    obtain⟨m6,hm6⟩:=qi4 (Dx.newRow m5 [.pointer none]);rw[<-hm6]at st5;have E56:Ext m5 m6:=by rw[hm6];exact Ext.row _ _
    obtain⟨m7,w1,w2,w3,w4⟩:=st5.store 0 rfl (o:=0) (v:=.pointer (some ⟨BB,0,none⟩)) (by simp) rfl;have lV:load1 m7 ⟨m5.n,0,none⟩=some (.pointer (some ⟨BB,0,none⟩)):=(w2.get 0 rfl).2.2.load1 0 none;have aP:Arr m7 m.n [iv p.cells,p.tv]:=(w2.get 2 rfl).2.2;have lT:load1 m7 ⟨m.n,1,none⟩=some p.tv:=aP.load1 1 none;have hm6n:m6.n=m5.n+1:=by rw[hm6];simp
    have S7:=w2.sees;have aB:Arr m7 BB (ghL h++[fv]):=(ha.congr (E56.obj BB hb2)).congr (w4 BB (by omega));obtain⟨v8,m8,f1,f2,f3⟩:=all_c (h:=h) (g:=g) (p:=p) (BB:=BB) (VB:=m5.n) (PB:=m.n) (fv:=fv) ⟨aB,by omega,(w2.get 0 rfl).2.2,by omega,aP,by have:=w2.ext.n;have:=(w2.get 2 rfl).2.1;omega,hp.sees S7,H.sees S7⟩ hB (Zl hB) hev hrm (Xg hrm) N S7.self.base;have hpl:wB p.tv=some (iv p.ths.length):=(hp.tv).len;have w1':ww 1 (.pointer (some ⟨m5.n,0,none⟩)) (.pointer (some ⟨BB,0,none⟩)) m6=some (undef,m7):=w1;have hA:AllQ m p g v8 m8:=by
     rcases f3 with f3 | ⟨f4,ov,vs,rs,q1,q2,q3,q4⟩
     .exact .inl f3
     .exact .inr ⟨f4,ov,vs,rs,q1,q2,q3,q4.lower (by have:=w2.ext.n;omega)⟩
    obtain⟨x,y,z,rfl⟩:∃x y z,v8=.tuple #[x,y,z]:=by
     rcases hA with ⟨_,_,_,_,rfl⟩ | ⟨_,_,_,_,rfl,_⟩
     .exact⟨_,_,_,rfl⟩
     .exact⟨_,_,_,rfl⟩
    simp[<-hm1,<-hm2,lP,qb,c1,lG0,lP0,hc',L8,d1,wo,L84,e1,<-hm6,w1',lV,lT,hpl,f1];refine vk (w2.ext.trans f2) ⟨λhx=>absurd ⟨hB,hc⟩ hx,λ_ hw=>absurd hW hw,λ_ _=>by simp;exact hA⟩
   .have hr0':(r=0)=False:=qi0 hr0;simp[<-hm1,<-hm2,lP,qb,c1,lG0,lP0,hc',L8,d1,wo,hr0'];exact vk st4.ext ⟨λhx=>absurd ⟨hB,hc⟩ hx,λ_ _=>by simp,λ_ hw=>absurd (hr.2 hw) hr0⟩
  .have hc':(h.n=p.cells)=False:=qi0 hc;simp[<-hm1,<-hm2,lP,qb,c1,lG0,lP0,hc'];exact vk st3.ext ⟨λ_=>by simp,λhx=>absurd hx.2 hc,λhx=>absurd hx.2 hc⟩
 .rw[eq_false_of_ne_true hB]at c1;simp[<-hm1,<-hm2,lP,qb,c1];exact vk st3.ext ⟨λ_=>by simp,λhx=>absurd hx.1 hB,λhx=>absurd hx.1 hB⟩
end
def ZL (m0:M)(res:Option Rn)(v:Value)(m':M):Prop :=
 ∃g:Gs,∃r:Rn,v=.tuple #[.agg ⟨zb g.1 g.2.1 g.2.2 0 0 r.used⟩,.bool res.isSome]/\Grown m0 m' g.1 5 qh r.evs/\Grown m0 m' g.2.1 1 qS r.outs/\Grown m0 m' g.2.2 2 qn r.rmw/\(∀B,blk g.1=some B->blk g.2.1≠some B/\blk g.2.2≠some B)/\(∀B,blk g.2.1=some B->blk g.2.2≠some B)/\∀r',res=some r'->r=r'
structure RTs (t:Tm)(th:Int)(rl:Value)(f:Int)(T8 T10 T11:Nat):Prop where
 t1:Tm.get 1 t=iv th
 t2:Tm.get 2 t=rl
 t3:Tm.get 10 t=iv f
 t8:Tm.get 6 t=.pointer (some ⟨T8,0,none⟩)
 t10:Tm.get 9 t=.pointer (some ⟨T10,0,none⟩)
 t11:Tm.get 8 t=.pointer (some ⟨T11,0,none⟩)
section
variable {m0 m m':M}{g:Gs}{r:Rn}{σ:List (Nat × List Value)}{R T8:Nat}{res:Option Rn}
theorem dM (h:RJ m0 m g r σ)(j8 jr:Nat){l8:List Value}(h8:σ[j8]?=some (T8,l8))(hl8:l8.length=9)(hr:σ[jr]?=some (R,zb g.1 g.2.1 g.2.2 0 0 r.used)) :
  loads m ⟨R,0,none⟩ 9=some (zb g.1 g.2.1 g.2.2 0 0 r.used)/\∃me,ww 9 (.pointer (some ⟨T8,0,none⟩)) (.agg ⟨zb g.1 g.2.1 g.2.2 0 0 r.used⟩) m=some (undef,me) /\
   ∀t,Tm.get 6 t=.pointer (some ⟨T8,0,none⟩)->Tm.get 7 t=.bool res.isSome->(∀r',res=some r'->r=r')->Ret m0 (ZL m0 res) (wN [.cell 6 9,.t 7] t me):=by
 refine⟨(h.get jr hr).loads (n:=9) (by simp[zb]),?_⟩;obtain⟨me,w1,w2,w3⟩:=h.fill j8 h8 (n:=9) (l':=zb g.1 g.2.1 g.2.2 0 0 r.used) hl8 rfl (h.row_ok _);refine⟨me,w1,λt t8 t9 hr'=>?_⟩;have hlt:=(qh7.1 h8).1;have hg:(σ.set j8 (T8,zb g.1 g.2.1 g.2.2 0 0 r.used))[j8]?=some (T8,zb g.1 g.2.1 g.2.2 0 0 r.used):=by rw[qhp hlt]
 have lf:loads me ⟨T8,0,none⟩ 9=some (zb g.1 g.2.1 g.2.2 0 0 r.used):=(w2.get j8 hg).loads (n:=9) (by simp[zb]);refine yh (l:=[.agg ⟨zb g.1 g.2.1 g.2.2 0 0 r.used⟩,.bool res.isSome]) ?_ w2.st.ext ⟨g,r,rfl,w2.ge,w2.go,w2.gr,w2.eo,w2.or_,hr'⟩;simp only[yg,yf,t8,yo,qQ,lf,t9]
end
section
variable {m0 m m':M}{g:Gs}{r:Rn}{T8 T10 T11 Lb k na:Nat}{cells th f:Int}{rl lv:Value}{t:Th}{i:Nat}{a:Ac}{ls:List U}{c:Nat}{tm:Tm}
theorem tail20 (hA:At m0 t k na cells i a)(hm0:m0.base<=m0.n)(hls:ls.length=k)(hk:k<=24)(hi:i<9223372036854775807)(how:ownB a=false){v:U}
  (h:RJ m0 m g r [(Lb,lsR ls),(T10,stL t i (lvS Lb c k)),(T11,zb g.1 g.2.1 g.2.2 0 0 r.used),(T8,Z9)]) (hT:RTs tm th rl f T8 T10 T11) (t13:Tm.get 12 tm=uv v.1) {N:Nat} {kn:K} {Q:Option Out->Prop}
  (H:∀t' m' Lb' c',RTs t' th rl f T8 T10 T11->(jc ls a v).length=k->RJ m0 m' g r [(Lb',lsR (jc ls a v)),(T10,stL t (i+1) (lvS Lb' c' k)),(T11,zb g.1 g.2.1 g.2.2 0 0 r.used),(T8,Z9)]->Q (kn t' m')) :
  Q (yQ VP (ex Tryz.prog (N+2)) kn tm m):=by
 obtain⟨t1,t2,t3,t8,t10,t11⟩:=hT;have S:=h.st.sees;have l4:loads m ⟨T10,0,none⟩ 4=some (stL t i (lvS Lb c k)):=(h.get 1 rfl).loads (n:=4) (by simp[stL]);obtain⟨v1,m1,c1,c2,lv',rfl,c3⟩:=Done_c (hA.sees S) (FF (c:=c) (h.get 0 rfl) (h.st.get 0 rfl).2.1 hls) hls hk hi how v N S.self.base;obtain⟨Lb',c',rfl,d2,d3⟩:=YR h hls c2 c3;obtain⟨m2,w1,w2,w3⟩:=d3.fill 1 rfl (n:=4) (l':=stL t (i+1) (lvS Lb' c' k)) rfl rfl (ym hA.okav rfl);obtain⟨i1,hi1⟩:∃i1:Nat,i1=i+1:=⟨_,rfl⟩;rw[<-hi1]at c1 w1;simp[t10,t13,qb,l4,c1,w1];exact H _ _ Lb' c' ⟨by simp[t1],by simp[t2],by simp[t3],by simp[t8],by simp[t10],by simp[t11]⟩ d2 w2
theorem qdp (hc:cells<=4096)(hA:At m0 t k na cells i a)(hls:ls.length=k)(hop:a.op=4\/a.op=5\/a.op=6){v:U}{w:Wt}(hx:w.ex=true)(hb:RBn 200000 r)
  (h:RJ m0 m g r (sg t i Lb c k ls g 0 0 r.used T8 T10 T11)) (hT:RTs tm th rl f T8 T10 T11) (t13:Tm.get 12 tm=uv v.1) {N:Nat} {kn kr:K} {ke:Nat->K} {Q:Option Out->Prop}
  (H:∀t' m' g',RTs t' th rl f T8 T10 T11->Tm.get 12 t'=uv v.1->RJ m0 m' g' (zh th ls a w v r) (sg t i Lb c k ls g' 0 0 r.used T8 T10 T11)->Q (kn t' m')) :
  Q (Vo (ex Tryz.prog (N+65542)) kn ke kr tm m):=by
 obtain⟨t1,t2,t3,t8,t10,t11⟩:=hT;have S:=h.st.sees;have l4:loads m ⟨T10,0,none⟩ 4=some (stL t i (lvS Lb c k)):=(h.get 1 rfl).loads (n:=4) (by simp[stL]);obtain⟨v1,m1,c1,c2,rfl⟩:=Then_c hc (hA.sees S) (FF (c:=c) (h.get 0 rfl) (h.st.get 0 rfl).2.1 hls) hls hop v N S.self.base;have h1:=h.step c2;have h2:=h1.row Z6;obtain⟨m2,hm2⟩:=qi4 (Dx.newRow m1 Z6);rw[<-hm2]at h2;obtain⟨x,hxw⟩:=qi4 (zO ls a v);rw[<-hxw]at c1;obtain⟨m3,w1,w2,w3⟩:=h2.fill 0 rfl (n:=6) (l':=wtL x) rfl rfl (jL x);have h3:RJ m0 m3 g r ((m1.n,wtL x)::sg t i Lb c k ls g 0 0 r.used T8 T10 T11):=w2;have lw:∀o s,load1 m3 ⟨m1.n,o,s⟩=(wtL x)[o]?:=λo s=>(h3.get 0 rfl).load1 o s;have lr:∀o s,load1 m3 ⟨T11,o,s⟩=(zb g.1 g.2.1 g.2.2 0 0 r.used)[o]?:=λo s=>(h3.get 3 rfl).load1 o s;simp only[wtL,zb]at lw lr;by_cases h0:x.what=0
 .have d0:decide (x.what=0)=true:=qhx h0;have hR:zh th ls a w v r=r:=by unfold zh;rw[qhy (λh=>h.2 (by rw[<-hxw];exact h0))]
  rw[hR]at H;simp[t10,t13,qb,l4,c1,<-hm2,w1,lw,d0];exact H _ _ g ⟨by simp[t1],by simp[t2],by simp[t3],by simp[t8],by simp[t10],by simp[t11]⟩ (by simp[t13]) (h3.sub (λp hp=>qhg _ hp) (by have:=h3.st.nd;simp at this ⊢;exact this.2))
 .have d0:decide (x.what=0)=false:=qhw h0;obtain⟨e,he⟩:=qi4 (Qk th 2 x x.val);obtain⟨v4,m5,m6,p1,p2,p3⟩:=h3.evStep 3 rfl (hb.rb (by omega)) e;obtain⟨m4,hm4⟩:=qi4 (Dx.newRow m3 (qh e));rw[<-hm4]at p1;have bse:wH 5 1 (rep 1 [zI,zI,zI,zU,zI]) [(0,5,.agg ⟨qh e⟩)] m3=some (Value.slice (some ⟨m3.n,0,some 11⟩) 1 1,m4):=by rw[hm4];exact YE _ _ _ _ _ _
  have h6:RJ m0 m6 (v4,g.2) (zu r e) ((m1.n,wtL x)::sg t i Lb c k ls (v4,g.2) 0 0 r.used T8 T10 T11):=p3;have lr6:∀o s,load1 m6 ⟨T11,o,s⟩=(zb v4 g.2.1 g.2.2 0 0 r.used)[o]?:=λo s=>(h6.get 3 rfl).load1 o s;simp only[zb]at lr6;obtain⟨n,hn⟩:=qi4 (r.evs.length);have hvl:wB v4=some (.int .i64 ((n+1:Nat):Int)):=by
   have:=h6.ge.lens;simp only[zu,qhf,List.length_cons,List.length_nil]at this;rw[hn];exact this
  have hbn:n<=1000000:=by rw[hn];have:=hb.e;omega
  obtain⟨n1,hn1⟩:=qi4 (n+1);rw[<-hn1]at hvl;have s2:ze .sub (.int .i64 (n1:Int)) (.int .i64 2)=some (.int .i64 ((n:Int)-1)):=by rw[qz,wrap64 _ (by omega) (by omega),hn1];congr 2;omega
  have s1:ze .sub (.int .i64 (n1:Int)) (.int .i64 1)=some (.int .i64 (n:Int)):=by rw[qz,wrap64 _ (by omega) (by omega),hn1];congr 2;omega
  obtain⟨z,hz⟩:∃z:Int,z=(n:Int)-1:=⟨_,rfl⟩;rw[<-hz]at s2;obtain⟨y,hy⟩:∃y:Int,y=(n:Int):=⟨_,rfl⟩;rw[<-hy]at s1;obtain⟨v7,m8,m9,q1,q2,q3⟩:=h6.rmwStep 3 rfl (by have:=hb.p;show r.rmw.length<=_;omega) (z,y);obtain⟨m7,hm7⟩:=qi4 (Dx.newRow m6 (qn (z,y)));rw[<-hm7]at q1;have bsp:wH 2 1 (rep 1 [zI,zI]) [(0,2,.agg ⟨qn (z,y)⟩)] m6=some (Value.slice (some ⟨m6.n,0,some 5⟩) 1 1,m7):=by rw[hm7];exact bs_p _ _ _
  have h9:RJ m0 m9 (v4,g.2.1,v7) { zu r e with rmw:=r.rmw++[(z,y)] } ((m1.n,wtL x)::sg t i Lb c k ls (v4,g.2.1,v7) 0 0 r.used T8 T10 T11):=q3;have hR:zh th ls a w v r={ zu r e with rmw:=r.rmw++[(z,y)] }:=by
   unfold zh;rw[qhz ⟨hx,by rw[<-hxw];exact h0⟩,<-hxw,he,hz,hy,hn]
  rw[hR]at H;have be:wg [zI,zI,zI,zU,zI] [(0,1,.int .i64 th),(1,1,.int .i64 2),(2,1,.int .i64 x.loc),(3,1,uv x.val.1),(4,1,.int .i64 x.mode)]=some (.agg ⟨qh e⟩):=by rw[he];exact qb3 _ _ _ _ _
  have bp:wg [zI,zI] [(0,1,.int .i64 z),(1,1,.int .i64 y)]=some (.agg ⟨qn (z,y)⟩):=b_p _ _;simp[-qz,t1,t10,t11,t13,qb,l4,c1,<-hm2,w1,lw,d0,lr,be,bse,p1,p2,lr6,hvl,s2,s1,bp,bsp,q1,q2];exact H _ _ (v4,g.2.1,v7) ⟨by simp[t1],by simp[t2],by simp[t3],by simp[t8],by simp[t10],by simp[t11]⟩ (by simp[t13]) (h9.sub (λp hp=>qhg _ hp) (by have:=h9.st.nd;simp at this ⊢;exact this.2))
end
def yZ (r:Rn):Prop:=100000<r.outs.length\/256<r.evs.length
section
variable {m0 m m':M}{g:Gs}{r:Rn}{T8 T10 T11 Lb k na:Nat}{cells th f:Int}{rl lv:Value}{t:Th}{i:Nat}{a:Ac}{ls:List U}{c:Nat}{tm:Tm}
theorem YG {res:Option Rn}(hA:At m0 t k na cells i a)(hm0:m0.base<=m0.n)(hls:ls.length=k)(hk:k<=24)(hi:i<9223372036854775807)(how:ownB a=false){v:U}
  (h:RJ m0 m g r [(Lb,lsR ls),(T10,stL t i (lvS Lb c k)),(T11,zb g.1 g.2.1 g.2.2 0 0 r.used),(T8,Z9)]) (hT:RTs tm th rl f T8 T10 T11) (t13:Tm.get 12 tm=uv v.1) {N:Nat} {kn:K} {ke:Nat->K} (hbig:yZ r->res=none)
  (H:∀t' m' Lb' c',¬yZ r->RTs t' th rl f T8 T10 T11->(jc ls a v).length=k->RJ m0 m' g r [(Lb',lsR (jc ls a v)),(T10,stL t (i+1) (lvS Lb' c' k)),(T11,zb g.1 g.2.1 g.2.2 0 0 r.used),(T8,Z9)]->Ret m0 (ZL m0 res) (kn t' m')) :
  Ret m0 (ZL m0 res) (KH (ex Tryz.prog (N+2)) kn ke (wN [.cell 6 9,.t 7]) tm m):=by
 have ⟨t1,t2,t3,t8,t10,t11⟩:=hT;have lr:∀o s,load1 m ⟨T11,o,s⟩=(zb g.1 g.2.1 g.2.2 0 0 r.used)[o]?:=λo s=>(h.get 2 rfl).load1 o s;simp only[zb]at lr;obtain⟨e1,me,e2,e3⟩:=dM (res:=res) h 3 2 rfl rfl rfl;have ho:wB g.2.1=some (iv r.outs.length):=h.go.lens;have he:wB g.1=some (iv r.evs.length):=h.ge.lens;obtain⟨o,hO⟩:=qi4 (r.outs.length);obtain⟨n,hn⟩:=qi4 (r.evs.length);rw[<-hO]at ho;rw[<-hn]at he;by_cases h1:100000<o
 .have hres:=hbig (.inl (by omega));subst hres;have d1:((100000:Int)<(o:Int))=True:=qi1 (by omega);have d1':(100000<o)=True:=qi1 h1;simp[t11,lr,ho,d1,e1,qb,t8,e2,-bB];exact e3 _ (by simp[t8]) (by simp) (λr' hr'=>by cases hr')
 .have d1:((100000:Int)<(o:Int))=False:=qi0 (by omega);have d1':(100000<o)=False:=qi0 h1;by_cases h2:256<n
  .have hres:=hbig (.inr (by omega));subst hres;have d2:((256:Int)<(n:Int))=True:=qi1 (by omega);have d2':(256<n)=True:=qi1 h2;simp[t11,lr,ho,he,d1,d2,e1,qb,t8,e2,-bB];exact e3 _ (by simp[t8]) (by simp) (λr' hr'=>by cases hr')
  .have d2:((256:Int)<(n:Int))=False:=qi0 (by omega);have d2':(256<n)=False:=qi0 h2;simp[t11,lr,ho,he,d1,d2,-bB];exact tail20 hA hm0 hls hk hi how h ⟨by simp[t1],by simp[t2],by simp[t3],by simp[t8],by simp[t10],by simp[t11]⟩ (by simp[t13]) (λt' m' Lb' c' hT' hl hr'=>H t' m' Lb' c' (by unfold yZ;omega) hT' hl hr')
theorem qdh {reads:List U}{res:Option Rn}{n:Nat}(hc:cells<=4096)(hA:At m0 t k na cells i a)(hm0:m0.base<=m0.n)(hrd:Rd m0 rl 1 qS reads)(hrn:reads.length<=9223372036854775807)(hls:ls.length=k)(hk:k<=24)(hi:i<9223372036854775807)(how:ownB a=false)
  (hb:RBn n r) (hn:n+2<=200000) (hu:r.used<=reads.length) (h:RJ m0 m g r (sg t i Lb c k ls g 0 0 r.used T8 T10 T11)) (hT:RTs tm th rl f T8 T10 T11) {N:Nat} {kn:K} {ke:Nat->K}
  (hun:∀l,wX th reads a ls r=.inl l->res=none) (hbig:∀x,wX th reads a ls r=.inr x->yZ x.2->res=none)
  (H:∀x t' m' g' Lb' c',wX th reads a ls r=.inr x->¬yZ x.2->RTs t' th rl f T8 T10 T11->(jc ls a x.1).length=k->RJ m0 m' g' x.2 (sg t (i+1) Lb' c' k (jc ls a x.1) g' 0 0 x.2.used T8 T10 T11)->Ret m0 (ZL m0 res) (kn t' m')) :
  Ret m0 (ZL m0 res) (Vp (ex Tryz.prog (N+65542)) kn ke (wN [.cell 6 9,.t 7]) tm m):=by
 obtain⟨t1,t2,t3,t8,t10,t11⟩:=hT;have S:=h.st.sees;have l4:loads m ⟨T10,0,none⟩ 4=some (stL t i (lvS Lb c k)):=(h.get 1 rfl).loads (n:=4) (by simp[stL]);obtain⟨v1,m1,c1,c2,rfl⟩:=qe1 hc (hA.sees S) (FF (c:=c) (h.get 0 rfl) (h.st.get 0 rfl).2.1 hls) hls how N S.self.base;have h1:=h.step c2;have h2:=h1.row Z6;obtain⟨m2,hm2⟩:=qi4 (Dx.newRow m1 Z6);rw[<-hm2]at h2;obtain⟨w,hw⟩:=qi4 (qi (mk0 i ls) a);have hw0:qi (mk0 0 ls) a=w:=by rw[hw];rfl
 rw[<-hw]at c1;obtain⟨m3,w1,w2,w3⟩:=h2.fill 0 rfl (n:=6) (l':=wtL w) rfl rfl (jL w);have h3:RJ m0 m3 g r ((m1.n,wtL w)::sg t i Lb c k ls g 0 0 r.used T8 T10 T11):=w2;have lw:∀o s,load1 m3 ⟨m1.n,o,s⟩=(wtL w)[o]?:=λo s=>(h3.get 0 rfl).load1 o s;have lr:∀o s,load1 m3 ⟨T11,o,s⟩=(zb g.1 g.2.1 g.2.2 0 0 r.used)[o]?:=λo s=>(h3.get 3 rfl).load1 o s;simp only[wtL]at lw;simp only[zb]at lr;have hop:=hA.g.op;have hwh:=xc (mk0 i ls) a;rw[<-hw]at hwh;have fs:∀{x:U × Rn} {mm:M} {gg:Gs} {tt:Tm},wX th reads a ls r=.inr x->RJ m0 mm gg x.2 ((m1.n,wtL w)::sg t i Lb c k ls gg 0 0 x.2.used T8 T10 T11)->RTs tt th rl f T8 T10 T11->Tm.get 12 tt=uv x.1.1 ->
   Ret m0 (ZL m0 res) (KH (ex Tryz.prog (N+65542)) kn ke (wN [.cell 6 9,.t 7]) tt mm):=λ{x mm gg tt} hx hr hT ht13 =>
  YG (N:=N+65540) hA hm0 hls hk hi how (hr.sub (λp hp=>qhg _ hp) (by have:=hr.st.nd;simp at this ⊢;exact this.2)) hT ht13 (hbig x hx) (λt' m' Lb' c' hnb hT' hl hr'=>H x t' m' gg Lb' c' hx hnb hT' hl hr')
 have hTT:∀{tt:Tm},(∀q,q∈[1,2,10,6,9,8]->Tm.get q tt=Tm.get q tm)->RTs tt th rl f T8 T10 T11:=λ{tt} hq =>
  ⟨by rw[hq 1 (by simp),t1],by rw[hq 2 (by simp),t2],by rw[hq 10 (by simp),t3],by rw[hq 6 (by simp),t8],by rw[hq 9 (by simp),t10],by rw[hq 8 (by simp),t11]⟩
 rcases hwh with q | q | q | q
 .-- a load
  have dq:decide (w.what=1)=true:=qhx q;have hlen:wB rl=some (.int .i64 (reads.length:Int)):=hrd.len;cases hr:reads[r.used]? with
  | none =>
   have hge:=List.getElem?_eq_none_iff.1 hr;have du:decide ((r.used:Int)=(reads.length:Int))=true:=qhx (by omega);have du':decide (r.used=reads.length)=true:=qhx (by omega);have hs:wX th reads a ls r=.inl w.loc:=by unfold wX;rw[hw0,qhz q,hr]
   have hres:=hun _ hs;subst hres;obtain⟨e1,me,e2,e3⟩:=dM (res:=none) h3 4 3 rfl rfl rfl;simp[t10,t11,t2,qb,l4,c1,<-hm2,w1,lw,dq,lr,hlen,du,e1,t8,e2,-jX];exact e3 _ (by simp[t8]) (by simp) (λr' hr'=>by cases hr')
  | some v =>
   have hl:=(qh7.1 hr).1;have du:decide ((r.used:Int)=(reads.length:Int))=false:=qhw (by omega);have du':decide (r.used=reads.length)=false:=qhw (by omega);obtain⟨y1,y2⟩:=hrd.at1 (g:=λu:U=>uv u.1) hr;have y2':=y2 m3 h3.st.sees;have nu:=qK (i:=r.used) (by omega);obtain⟨r1,hr1⟩:∃r1:Rn,r1={ r with used:=r.used+1 }:=⟨_,rfl⟩;obtain⟨m4,p1,p2,p3⟩:=h3.store 3 rfl (o:=8) (v:=iv r1.used) (by simp[zb]) rfl;have hu1:r1.used=r.used+1:=by rw[hr1]
   rw[<-hu1]at nu;have p2':RJ m0 m4 g r1 ((m1.n,wtL w)::sg t i Lb c k ls g 0 0 r1.used T8 T10 T11):=by
    have:=p2;subst hr1;exact⟨this.st,this.ge,this.go,this.gr,this.sep,this.eo,this.or_⟩
   have lw4:∀o s,load1 m4 ⟨m1.n,o,s⟩=(wtL w)[o]?:=λo s=>(p2'.get 0 rfl).load1 o s;have lr4:∀o s,load1 m4 ⟨T11,o,s⟩=(zb g.1 g.2.1 g.2.2 0 0 r1.used)[o]?:=λo s=>(p2'.get 3 rfl).load1 o s;simp only[wtL]at lw4;simp only[zb]at lr4;obtain⟨e,he⟩:=qi4 (Qk th 1 w v);have hb1:RBn n r1:=by rw[hr1];exact⟨hb.e,hb.o,hb.p⟩
   obtain⟨v5,m6,m7,s1,s2,s3⟩:=p2'.evStep 3 rfl (hb1.rb (by omega)) e;obtain⟨m5,hm5⟩:=qi4 (Dx.newRow m4 (qh e));rw[<-hm5]at s1;have bse:wH 5 1 (rep 1 [zI,zI,zI,zU,zI]) [(0,5,.agg ⟨qh e⟩)] m4=some (Value.slice (some ⟨m4.n,0,some 11⟩) 1 1,m5):=by rw[hm5];exact YE _ _ _ _ _ _
   have be:wg [zI,zI,zI,zU,zI] [(0,1,.int .i64 th),(1,1,.int .i64 1),(2,1,.int .i64 w.loc),(3,1,uv v.1),(4,1,.int .i64 w.mode)]=some (.agg ⟨qh e⟩):=by rw[he];exact qb3 _ _ _ _ _
   have h7:RJ m0 m7 (v5,g.2) (zu r1 e) ((m1.n,wtL w)::sg t i Lb c k ls (v5,g.2) 0 0 (zu r1 e).used T8 T10 T11):=s3;have lw7:∀o s,load1 m7 ⟨m1.n,o,s⟩=(wtL w)[o]?:=λo s=>(h7.get 0 rfl).load1 o s;simp only[wtL]at lw7;have hs:wX th reads a ls r=.inr (v,zh th ls a w v (zu r1 e)):=by unfold wX;rw[hw0,qhz q,hr,hr1,he]
   cases hx:w.ex with
   | false =>
    rw[hx]at lw7;have hth:zh th ls a w v (zu r1 e)=zu r1 e:=by unfold zh;rw[qhy (by rw[hx];simp)]
    rw[hth]at hs;simp[t1,t10,t11,t2,qb,l4,c1,<-hm2,w1,lw,dq,lr,hlen,du,y1,y2',nu,p1,lw4,lr4,be,bse,s1,s2,lw7,-jX];exact fs hs (by rw[show (zu r1 e).used=r1.used from rfl]at h7;exact h7) (hTT λq hq=>by simp only[List.mem_cons,List.not_mem_nil,or_false]at hq;rcases hq with rfl | rfl | rfl | rfl | rfl | rfl<;>simp) (by simp)
   | true =>
    rw[hx]at lw7;simp[t1,t10,t11,t2,qb,l4,c1,<-hm2,w1,lw,dq,lr,hlen,du,y1,y2',nu,p1,lw4,lr4,be,bse,s1,s2,lw7,-jX,-Gv];have hu2:(zu r1 e).used=r1.used:=rfl;have h7':=h7.sub (σ':=sg t i Lb c k ls (v5,g.2) 0 0 (zu r1 e).used T8 T10 T11) (λp hp=>qhg _ hp) (by have:=h7.st.nd;simp at this ⊢;exact this.2);have hb7:RBn 200000 (zu r1 e):=⟨by have:=hb1.e;simp[zu];omega,by have:=hb1.o;simp[zu];omega,by have:=hb1.p;simp[zu];omega⟩;have hxop:=jy (mk0 i ls) a how hop (by rw[<-hw];exact hx);refine qdp (v:=v) (w:=w) (f:=f) (th:=th) (rl:=rl) hc hA hls hxop hx hb7 h7' (hTT λq hq=>by simp only[List.mem_cons,List.not_mem_nil,or_false]at hq;rcases hq with rfl | rfl | rfl | rfl | rfl | rfl<;>simp) (by simp) (λt' m' g' hT' ht13 hr'=>?_);rw[<-BE th ls a w v (zu r1 e)]at hr';exact YG (N:=N+65540) hA hm0 hls hk hi how hr' hT' ht13 (hbig _ hs) (λt' m' Lb' c' hnb hT' hl hr'=>H (v,zh th ls a w v (zu r1 e)) t' m' g' Lb' c' hs hnb hT' hl hr')
 .-- a store
  have dq:decide (w.what=2)=true:=qhx q;have d1:decide (w.what=1)=false:=qhw (by omega);obtain⟨e,he⟩:=qi4 (Qk th 2 w w.val);obtain⟨v5,m6,m7,s1,s2,s3⟩:=h3.evStep 3 rfl (hb.rb (by omega)) e;obtain⟨m5,hm5⟩:=qi4 (Dx.newRow m3 (qh e));rw[<-hm5]at s1;have bse:wH 5 1 (rep 1 [zI,zI,zI,zU,zI]) [(0,5,.agg ⟨qh e⟩)] m3=some (Value.slice (some ⟨m3.n,0,some 11⟩) 1 1,m5):=by rw[hm5];exact YE _ _ _ _ _ _
  have be:wg [zI,zI,zI,zU,zI] [(0,1,.int .i64 th),(1,1,.int .i64 2),(2,1,.int .i64 w.loc),(3,1,uv w.val.1),(4,1,.int .i64 w.mode)]=some (.agg ⟨qh e⟩):=by rw[he];exact qb3 _ _ _ _ _
  have hex:w.ex=false:=by
   cases hc:w.ex with
   | false=>rfl
   | true =>
    have:=jy (mk0 i ls) a how hop (by rw[<-hw];exact hc);have hx:w.what=1:=by
     rw[hw];unfold qi;rw[qhy (by omega),qhy (by omega),qhy (by omega),qhy (by omega)];rfl
    omega
  have hs:wX th reads a ls r=.inr (u0,zu r e):=by
   unfold wX;rw[hw0,qhy (by omega)];unfold kh;rw[qhy (by omega),hex,qhy (by simp)];have:wR th w u0=e:=by rw[he];unfold wR Qk;rw[qhy (by omega),qhz q]
   rw[this];rfl
  have h7:RJ m0 m7 (v5,g.2) (zu r e) ((m1.n,wtL w)::sg t i Lb c k ls (v5,g.2) 0 0 (zu r e).used T8 T10 T11):=s3;simp[t1,t10,t11,qb,l4,c1,<-hm2,w1,lw,dq,d1,lr,be,bse,s1,s2,-jX];exact fs hs h7 (hTT λq hq=>by simp only[List.mem_cons,List.not_mem_nil,or_false]at hq;rcases hq with rfl | rfl | rfl | rfl | rfl | rfl<;>simp) (by simp[u0])
 .-- a fence
  have dq:decide (w.what=3)=true:=qhx q;have d1:decide (w.what=1)=false:=qhw (by omega);have d2:decide (w.what=2)=false:=qhw (by omega);obtain⟨e,he⟩:=qi4 (wR th w u0);obtain⟨v5,m6,m7,s1,s2,s3⟩:=h3.evStep 3 rfl (hb.rb (by omega)) e;obtain⟨m5,hm5⟩:=qi4 (Dx.newRow m3 (qh e));rw[<-hm5]at s1;have bse:wH 5 1 (rep 1 [zI,zI,zI,zU,zI]) [(0,5,.agg ⟨qh e⟩)] m3=some (Value.slice (some ⟨m3.n,0,some 11⟩) 1 1,m5):=by rw[hm5];exact YE _ _ _ _ _ _
  have hee:e=⟨th,3,-1,u0,w.mode⟩:=by rw[he];unfold wR;rw[qhy (by omega),qhy (by omega)]
  have be:wg [zI,zI,zI,zU,zI] [(0,1,.int .i64 th),(1,1,.int .i64 3),(2,1,.int .i64 (-1)),(4,1,.int .i64 w.mode)]=some (.agg ⟨qh e⟩):=by rw[hee];exact ev_b2 _ _ _ _
  have hs:wX th reads a ls r=.inr (u0,zu r e):=by
   unfold wX;rw[hw0,qhy (by omega)];unfold kh;rw[qhy (by omega),qhy (by omega),he];rfl
  have h7:RJ m0 m7 (v5,g.2) (zu r e) ((m1.n,wtL w)::sg t i Lb c k ls (v5,g.2) 0 0 (zu r e).used T8 T10 T11):=s3;simp[t1,t10,t11,qb,l4,c1,<-hm2,w1,lw,dq,d1,d2,lr,be,bse,s1,s2,-jX];exact fs hs h7 (hTT λq hq=>by simp only[List.mem_cons,List.not_mem_nil,or_false]at hq;rcases hq with rfl | rfl | rfl | rfl | rfl | rfl<;>simp) (by simp[u0])
 .-- a print
  have d1:decide (w.what=1)=false:=qhw (by omega);have d2:decide (w.what=2)=false:=qhw (by omega);have d3:decide (w.what=3)=false:=qhw (by omega);obtain⟨v5,m6,m7,s1,s2,s3⟩:=h3.outStep 3 rfl (hb.rb (by omega)) w.val;obtain⟨m5,hm5⟩:=qi4 (Dx.newRow m3 [uv w.val.1]);rw[<-hm5]at s1;have bse:wH 1 1 (rep 1 [zU]) [(0,1,uv w.val.1)] m3=some (Value.slice (some ⟨m3.n,0,some 3⟩) 1 1,m5):=by rw[hm5];exact bs_u _ _
  have hs:wX th reads a ls r=.inr (u0,{ r with outs:=r.outs++[w.val] }):=by
   unfold wX;rw[hw0,qhy (by omega)];unfold kh;rw[qhz q]
  have h7:RJ m0 m7 (g.1,v5,g.2.2) { r with outs:=r.outs++[w.val] } ((m1.n,wtL w)::sg t i Lb c k ls (g.1,v5,g.2.2) 0 0 r.used T8 T10 T11):=s3;simp[t10,t11,qb,l4,c1,<-hm2,w1,lw,d1,d2,d3,lr,bse,s1,s2,-jX];exact fs hs h7 (hTT λq hq=>by simp only[List.mem_cons,List.not_mem_nil,or_false]at hq;rcases hq with rfl | rfl | rfl | rfl | rfl | rfl<;>simp) (by simp[u0])
end
end Go.Sx
