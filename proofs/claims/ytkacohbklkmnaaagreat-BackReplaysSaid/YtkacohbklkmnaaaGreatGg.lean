/- Contracts. -/
import Derived.Test.YtkacohbklkmnaaaGreatGf
import Derived.Test.YtkacohbklkmnaaaGreatGd
set_option linter.unusedVariables false
set_option linter.unusedSimpArgs false
set_option linter.defProp false
set_option linter.unusedSectionVars false
namespace Go.Sx
open Go.Dx Go.Proofs
set_option maxRecDepth 10000
def Qk (th kind:Int)(w:Wt)(v:U):Ev5:=⟨th,kind,w.loc,v,w.mode⟩
def zu (r:Rn)(e:Ev5):Rn:={ r with evs:=r.evs++[e] }
def zh (th:Int)(ls:List U)(a:Ac)(w:Wt)(v:U)(r:Rn):Rn :=
 if w.ex=true/\¬(zO ls a v).what=0 then { zu r (Qk th 2 (zO ls a v) (zO ls a v).val) with rmw:=r.rmw++[((r.evs.length:Int)-1,(r.evs.length:Int))] } else r
def wX (th:Int)(reads:List U)(a:Ac)(ls:List U)(r:Rn):Sum Int (U × Rn) :=
 if (qi (mk0 0 ls) a).what=1 then match reads[r.used]? with
  | none=>.inl (qi (mk0 0 ls) a).loc
  | some v=>.inr (v,zh th ls a (qi (mk0 0 ls) a) v (zu { r with used:=r.used+1 } (Qk th 1 (qi (mk0 0 ls) a) v)))
 else .inr (u0,kh th (qi (mk0 0 ls) a) u0 r)
section
variable {th:Int}{reads:List U}{acts:List Ac}{a:Ac}
theorem ZG {s s':Ms}(h:s.ls=s'.ls)(h2:s.opn=s'.opn)(h3:s.opn=true->s.old=s'.old):qi s a=qi s' a:=by
 unfold qi;rw[h,h2];cases hb:s'.opn with
 | false=>rfl
 | true=>rw[h3 (by rw[h2];exact hb)]
theorem qce {s s':Ms}(h:s.ls=s'.ls)(h1:s.at_=s'.at_):(kW s a).at_=(kW s' a).at_/\(kW s a).ls=(kW s' a).ls:=by
 unfold kW Yk QB yW;split
 .exact⟨by show s.at_+1=s'.at_+1;rw[h1],by show s.ls.set _ _=s'.ls.set _ _;rw[h]⟩
 .split
  .exact⟨rfl,h⟩
  .exact⟨by show (if _ then _ else s.at_+1)=(if _ then _ else s'.at_+1);rw[h,h1],h⟩
theorem QU {s:Ms}{r:Rn}(how:ownB a=false)(hop:1<=a.op/\a.op<=10)(h0:s.opn=false) :
  (∀l,wX th reads a s.ls r=.inl l->dS th reads a s r=.inl l)/\∀x,wX th reads a s.ls r=.inr x->∃y,dS th reads a s r=.inr y/\y.1.at_=s.at_+1/\y.1.ls=jc s.ls a x.1/\y.1.opn=false/\y.2=x.2:=by
 have hw:qi (mk0 0 s.ls) a=qi s a:=ZG rfl (by rw[h0]) (by simp);have hno:=YZ how;unfold wX;rw[hw];have h1n:(wW s a).now=qi s a:=rfl;have hbody:zv th reads a s r=if (qi s a).what=1 then match reads[r.used]? with
  | none=>.inl (qi s a).loc
  | some v=>.inr (qY (wW s a) a v,kh th (qi s a) v { r with used:=r.used+1 })
  else .inr (qY (wW s a) a u0,kh th (qi s a) u0 r):=rfl
 have hact:dS th reads a s r=match zv th reads a s r with
  | .inl l=>.inl l
  | .inr x=>if x.1.opn then zv th reads a x.1 x.2 else .inr x:=rfl
 have key:a.op=2\/a.op=3\/a.op=7\/a.op=8\/a.op=4\/a.op=5\/a.op=6:=by omega
 rcases key with h | h | h | h | h
 .have hx:qi s a=⟨1,jQ s.ls a,a.mode,u0,false⟩:=by unfold qi;rw[qhz h]
  rw[hx]at hbody ⊢;simp only[if_true]at hbody ⊢;cases hr:reads[r.used]? with
  | none =>
   rw[hr]at hbody;rw[hact,hbody];exact⟨λl hl=>by simpa using hl,λx hx=>by cases hx⟩
  | some v =>
   rw[hr]at hbody;have hf:qY (wW s a) a v={ wW s a with asked:=false,ls:=s.ls.set a.dst.toNat v,at_:=s.at_+1 }:=by
    unfold qY;rw[h1n,hx];simp only[Bool.false_eq_true,and_false,if_false];unfold jn;simp only[h1n,hx,Bool.false_eq_true,false_and,if_false,if_true];rfl
   rw[hact,hbody];simp only[hf];refine⟨λl hl=>(by cases hl),λx hx2=>?_⟩;have hd:jc s.ls a v=s.ls.set a.dst.toNat v:=qhy (by omega);cases hx2;refine⟨_,by rw[qhy (by show ¬s.opn=true;rw[h0];simp)],rfl,hd.symm,h0,?_⟩;unfold zh kh zu Qk wR;simp
 .have hx:qi s a=⟨2,jQ s.ls a,a.mode,zf s.ls a.es,false⟩:=by unfold qi;rw[qhy (by omega),qhz h]
  rw[hx]at hbody ⊢;simp only[show ((2:Int)=1)=False from qi0 (by decide),if_false]at hbody ⊢;have hf:qY (wW s a) a u0={ wW s a with asked:=false,at_:=s.at_+1 }:=by
   unfold qY;rw[h1n,hx];simp only[Bool.false_eq_true,and_false,if_false];unfold jn;simp[h1n,hx];rfl
  rw[hact,hbody,hf];refine⟨λl hl=>(by cases hl),λx hx2=>?_⟩;have hd:jc s.ls a u0=s.ls:=qhz (by omega);cases hx2;exact⟨_,qhy (show ¬s.opn=true by rw[h0];simp),rfl,hd.symm,h0,rfl⟩
 .have hx:qi s a=⟨3,0,a.mode,u0,false⟩:=by unfold qi;rw[qhy (by omega),qhy (by omega),qhz h]
  rw[hx]at hbody ⊢;simp only[show ((3:Int)=1)=False from qi0 (by decide),if_false]at hbody ⊢;have hf:qY (wW s a) a u0={ wW s a with asked:=false,at_:=s.at_+1 }:=by
   unfold qY;rw[h1n,hx];simp only[Bool.false_eq_true,and_false,if_false];unfold jn;simp[h1n,hx];rfl
  rw[hact,hbody,hf];refine⟨λl hl=>(by cases hl),λx hx2=>?_⟩;have hd:jc s.ls a u0=s.ls:=qhz (by omega);cases hx2;exact⟨_,qhy (show ¬s.opn=true by rw[h0];simp),rfl,hd.symm,h0,rfl⟩
 .have hx:qi s a=⟨4,0,0,zf s.ls a.es,false⟩:=by unfold qi;rw[qhy (by omega),qhy (by omega),qhy (by omega),qhz h]
  rw[hx]at hbody ⊢;simp only[show ((4:Int)=1)=False from qi0 (by decide),if_false]at hbody ⊢;have hf:qY (wW s a) a u0={ wW s a with asked:=false,at_:=s.at_+1 }:=by
   unfold qY;rw[h1n,hx];simp only[Bool.false_eq_true,and_false,if_false];unfold jn;simp[h1n,hx];rfl
  rw[hact,hbody,hf];refine⟨λl hl=>(by cases hl),λx hx2=>?_⟩;have hd:jc s.ls a u0=s.ls:=qhz (by omega);cases hx2;exact⟨_,qhy (show ¬s.opn=true by rw[h0];simp),rfl,hd.symm,h0,rfl⟩
 have hx:qi s a=⟨1,jQ s.ls a,rdM a.mode,u0,true⟩:=by
  unfold qi;rw[qhy (by omega),qhy (by omega),qhy (by omega),qhy (by omega),h0];rfl
 rw[hx]at hbody ⊢;simp only[if_true]at hbody ⊢;cases hr:reads[r.used]? with
 | none =>
  rw[hr]at hbody;rw[hact,hbody];exact⟨λl hl=>by simpa using hl,λx hx=>by cases hx⟩
 | some v =>
  rw[hr]at hbody;have hd:jc s.ls a v=s.ls.set a.dst.toNat v:=qhy (by omega);have ht:kh th ⟨1,jQ s.ls a,rdM a.mode,u0,true⟩ v { r with used:=r.used+1 }=zu { r with used:=r.used+1 } (Qk th 1 ⟨1,jQ s.ls a,rdM a.mode,u0,true⟩ v):=by
   unfold kh zu Qk wR;simp
  refine⟨λl hl=>(by cases hl),λx hx2=>?_⟩;cases hx2;by_cases hc:a.op≠6\/(zf s.ls a.es).1=v.1
  .have hf:qY (wW s a) a v={ wW s a with asked:=false,old:=v,opn:=true }:=by
    unfold qY;rw[h1n,hx];simp only[and_self,if_true];rw[qhz (show a.op≠6\/(zf (wW s a).ls a.es).1=v.1 from hc),<-hx];rfl
   obtain⟨s1,hs1⟩:=qi4 (qY (wW s a) a v);have e1:s1.opn=true:=by rw[hs1,hf]
   have e2:s1.ls=s.ls:=by rw[hs1,hf];rfl
   have e3:s1.old=v:=by rw[hs1,hf]
   have e4:s1.at_=s.at_:=by rw[hs1,hf];rfl
   simp only[<-hs1]at hbody;have hw2:qi s1 a=zO s.ls a v:=by
    unfold zO;rw[qhy (by rcases hc with hc | hc<;>simp[hc])];exact ZG e2 e1 (λ_=>e3)
   have h2:(zO s.ls a v).what=2/\(zO s.ls a v).ex=true:=by
    rw[<-hw2];unfold qi;rw[qhy (by omega),qhy (by omega),qhy (by omega),qhy (by omega),e1];exact⟨rfl,rfl⟩
   have hb2:zv th reads a s1 (kh th ⟨1,jQ s.ls a,rdM a.mode,u0,true⟩ v { r with used:=r.used+1 })=.inr (qY (wW s1 a) a u0,kh th (qi s1 a) u0 (kh th ⟨1,jQ s.ls a,rdM a.mode,u0,true⟩ v { r with used:=r.used+1 })):=by
    unfold zv;rw[qhy (by rw[hw2,h2.1];decide)]
   have hn2:(wW s1 a).now=qi s1 a:=rfl;have hf2:qY (wW s1 a) a u0={ wW s1 a with asked:=false,ls:=s.ls.set a.dst.toNat v,opn:=false,at_:=s.at_+1 }:=by
    unfold qY;rw[hn2,hw2,qhy (by rw[h2.1];simp)];unfold jn;simp only[hn2,hw2,h2.2];rw[qhz ⟨trivial,show s1.opn=true from e1⟩];show Ms.mk _ _ _ _ _ _=Ms.mk _ _ _ _ _ _;simp only[wW,e2,e3,e4]
   rw[hact,hbody];simp only;rw[qhz e1,hb2];refine⟨_,rfl,by rw[hf2],by rw[hf2,hd],by rw[hf2],?_⟩;show kh th (qi s1 a) u0 _=zh th s.ls a _ v _;rw[hw2,ht];unfold zh;rw[qhz ⟨rfl,by rw[h2.1];decide⟩];unfold kh;rw[qhy (by rw[h2.1];decide)];have he:wR th (zO s.ls a v) u0=Qk th 2 (zO s.ls a v) (zO s.ls a v).val:=by
    unfold wR Qk;rw[qhy (by rw[h2.1];decide),qhz h2.1]
   rw[he,qhz h2];rfl
  .have hc':a.op=6/\¬(zf s.ls a.es).1=v.1:=by
    constructor
    .exact Classical.byContradiction λh=>hc (.inl h)
    .exact λh=>hc (.inr h)
   have hf:qY (wW s a) a v={ wW s a with asked:=false,old:=v,ls:=s.ls.set a.dst.toNat v,at_:=s.at_+1 }:=by
    unfold qY;rw[h1n,hx];simp only[and_self,if_true];rw[qhy (show ¬(a.op≠6\/(zf (wW s a).ls a.es).1=v.1) from hc)];unfold jn;simp only[h1n,hx];rw[qhy (by show ¬(True/\s.opn=true);rw[h0];simp),qhz trivial];rfl
   rw[hact,hbody];simp only[hf];refine⟨_,qhy (show ¬s.opn=true by rw[h0];simp),rfl,hd.symm,h0,?_⟩
   dsimp only
   rw[ht];unfold zh;have:(zO s.ls a v).what=0:=by unfold zO;rw[qhz hc'];rfl
   rw[qhy (λh=>h.2 this)]
end
section
variable {m0 m m':M}{g:Gs}{r:Rn}{σ:List (Nat × List Value)}{R T8 T10 T11:Nat}{st loc:Int}{u:Nat}
theorem RJ.call (h:RJ m0 m g r σ)(e:Ext m m'){B:Nat}{l:List Value}(h1:m.n<=B)(h2:B<m'.n)(h3:Arr m' B l):RJ m0 m' g r ((B,l)::σ):=by
 have hn:=h.st.ext.n;have h':=h.step e;refine⟨(h.st.step e).add (by omega) h2 h3 λp hp=>by have:=(h.st.arr p hp).2.1;omega,h'.ge,h'.go,h'.gr,λX hX p hp=>?_,h.eo,h.or_⟩;rcases List.mem_cons.1 hp with rfl | hp
 .have:=(h.gl X hX).2;show B≠X;omega
 .exact h.sep X hX p hp
theorem RJ.evStep (h:RJ m0 m g r σ)(j:Nat)(hj:σ[j]?=some (R,zb g.1 g.2.1 g.2.2 st loc u))(hb:RB r)(x:Ev5) :
  ∃v2 m2 m3,wZ (Dx.newRow m (qh x)) 5 40 g.1 (.slice (some ⟨m.n,0,some 11⟩) 1 1)=some (v2,m2)/\ww 1 (.pointer (some ⟨R,0,none⟩)) v2 m2=some (undef,m3)/\RJ m0 m3 (v2,g.2) (zu r x) (σ.set j (R,zb v2 g.2.1 g.2.2 st loc u)):=by
 have E1:Ext m (Dx.newRow m (qh x)):=Ext.row _ _;have h1:=h.step E1;have hn:=h.st.ext.n;obtain⟨v2,m2,p1,p2,p3⟩:=Qy h1.ge (by omega) KL ev5_ok (x:=x) (X:=m.n) (sp:=some 11) ((Arr.row m _).loads (n:=5) (by simp[qh])) (by have:=E1.n;omega) (bytes:=40) (by have:=hb.e;unfold wk;omega) (by have:=hb.e;omega);have h2:=h1.appE p2 p3;obtain⟨m3,q1,q2,q3⟩:=h2.store j (o:=0) (v:=v2) hj (by simp[zb]) h2.ge.okC;exact⟨v2,m2,m3,p1,q1,q2⟩
theorem RJ.outStep (h:RJ m0 m g r σ)(j:Nat)(hj:σ[j]?=some (R,zb g.1 g.2.1 g.2.2 st loc u))(hb:RB r)(x:U) :
  ∃v2 m2 m3,wZ (Dx.newRow m [uv x.1]) 1 8 g.2.1 (.slice (some ⟨m.n,0,some 3⟩) 1 1)=some (v2,m2)/\ww 1 (.pointer (some ⟨R,5,none⟩)) v2 m2=some (undef,m3)/\RJ m0 m3 (g.1,v2,g.2.2) { r with outs:=r.outs++[x] } (σ.set j (R,zb g.1 v2 g.2.2 st loc u)):=by
 have E1:Ext m (Dx.newRow m [uv x.1]):=Ext.row _ _;have h1:=h.step E1;have hn:=h.st.ext.n;obtain⟨v2,m2,p1,p2,p3⟩:=Qy h1.go (by omega) (λ_=>rfl) fA (x:=x) (X:=m.n) (sp:=some 3) ((Arr.row m _).loads (n:=1) (by simp)) (by have:=E1.n;omega) (bytes:=8) (by have:=hb.o;unfold wk;omega) (by have:=hb.o;omega);have h2:=h1.appO p2 p3;obtain⟨m3,q1,q2,q3⟩:=h2.store j (o:=5) (v:=v2) hj (by simp[zb]) h2.go.okC;exact⟨v2,m2,m3,p1,q1,q2⟩
theorem RJ.rmwStep (h:RJ m0 m g r σ)(j:Nat)(hj:σ[j]?=some (R,zb g.1 g.2.1 g.2.2 st loc u))(hb:r.rmw.length<=1000000)(x:Int × Int) :
  ∃v2 m2 m3,wZ (Dx.newRow m (qn x)) 2 16 g.2.2 (.slice (some ⟨m.n,0,some 5⟩) 1 1)=some (v2,m2)/\ww 1 (.pointer (some ⟨R,1,none⟩)) v2 m2=some (undef,m3)/\RJ m0 m3 (g.1,g.2.1,v2) { r with rmw:=r.rmw++[x] } (σ.set j (R,zb g.1 g.2.1 v2 st loc u)):=by
 have E1:Ext m (Dx.newRow m (qn x)):=Ext.row _ _;have h1:=h.step E1;have hn:=h.st.ext.n;obtain⟨v2,m2,p1,p2,p3⟩:=Qy h1.gr (by omega) kl zm (x:=x) (X:=m.n) (sp:=some 5) ((Arr.row m _).loads (n:=2) (by simp[qn])) (by have:=E1.n;omega) (bytes:=16) (by unfold wk;omega) (by omega);have h2:=h1.appR p2 p3;obtain⟨m3,q1,q2,q3⟩:=h2.store j (o:=1) (v:=v2) hj (by simp[zb]) h2.gr.okC;exact⟨v2,m2,m3,p1,q1,q2⟩
theorem RJ.row_ok (h:RJ m0 m g r σ)(u:Nat):∀v∈zb g.1 g.2.1 g.2.2 st loc u,okC v=true:=by
 have o1:=h.ge.okC;have o2:=h.go.okC;have o3:=h.gr.okC;intro v hv;simp only[zb,List.mem_cons,List.not_mem_nil,or_false]at hv;rcases hv with rfl | rfl | rfl | rfl | rfl | rfl | rfl | rfl | rfl<;>first | rfl | assumption
end
structure RTr (t:Tm)(th:Int)(rl:Value)(f:Int)(T8 T10 T11:Nat):Prop where
 t1:Tm.get 1 t=iv th
 t2:Tm.get 2 t=rl
 t3:Tm.get 3 t=iv f
 t8:Tm.get 8 t=.pointer (some ⟨T8,0,none⟩)
 t10:Tm.get 10 t=.pointer (some ⟨T10,0,none⟩)
 t11:Tm.get 11 t=.pointer (some ⟨T11,0,none⟩)
section
variable {m0 m m':M}{g:Gs}{r:Rn}{T8 T10 T11 Lb k na:Nat}{cells th f:Int}{rl lv:Value}{t:Th}{i:Nat}{a:Ac}{ls:List U}{c:Nat}{tm:Tm}
abbrev lvS (Lb c k:Nat):Value:=.slice (some ⟨Lb,0,some c⟩) k k
theorem FF (h:Arr m Lb (lsR ls))(hlt:Lb<m.n)(hl:ls.length=k):Sv m (lvS Lb c k) ls:=by
 refine⟨?_,rfl⟩;rw[<-gm]at h;subst hl;exact jx (f:=qS) (λ_=>rfl) h hlt
theorem YR {rest:List (Nat × List Value)}(h:RJ m0 m g r ((Lb,lsR ls)::rest))(hl:ls.length=k)(e:Ext m m'){ls':List U}{lv':Value}(hS:LvS m m' k ls (lvS Lb c k) ls' lv') :
  ∃Lb' c',lv'=lvS Lb' c' k/\ls'.length=k/\RJ m0 m' g r ((Lb',lsR ls')::rest):=by
 rcases hS with ⟨rfl,rfl⟩ | ⟨B,c',rfl,h1,h2,h3,h4⟩
 .exact⟨Lb,c,rfl,hl,h.step e⟩
 .have hnd:=h.st.nd;have h':=h.sub (σ':=rest) (λp hp=>qhg _ hp) (by simp at hnd;exact hnd.2);exact⟨B,c',rfl,h4,h'.call e h1 h2 h3⟩
end
section
variable {m0 m m':M}{g:Gs}{r:Rn}{T8 T10 T11 Lb k na:Nat}{cells th f:Int}{rl lv:Value}{t:Th}{i:Nat}{a:Ac}{ls:List U}{c:Nat}{tm:Tm}
abbrev sg (t:Th)(i Lb c k:Nat)(ls:List U)(g:Gs)(st loc:Int)(u T8 T10 T11:Nat):List (Nat × List Value):=[(Lb,lsR ls),(T10,stL t i (lvS Lb c k)),(T11,zb g.1 g.2.1 g.2.2 st loc u),(T8,Z9)]
end
theorem BC {th:Int}{reads:List U}{a:Ac}{ls:List U}{r:Rn}{x:U × Rn}(h:wX th reads a ls r=.inr x)(hu:r.used<=reads.length):x.2.used<=reads.length:=by
 unfold wX at h;split at h
 .split at h
  .cases h
  .rename_i v hv;cases h;have hl:=(qh7.1 hv).1;show (zh th ls a (qi (mk0 0 ls) a) v _).used<=_;unfold zh;split
   .show r.used+1<=_;omega
   .show r.used+1<=_;omega
 .cases h;show (kh th (qi (mk0 0 ls) a) u0 r).used<=_;unfold kh;split
  .exact hu
  .exact hu
theorem BE (th:Int)(ls:List U)(a:Ac)(w:Wt)(v:U)(r:Rn):(zh th ls a w v r).used=r.used:=by
 unfold zh;split<;>rfl
section
variable {m0 m m':M}{g:Gs}{r:Rn}{T8 T10 T11 Lb k na:Nat}{cells th f:Int}{rl lv:Value}{t:Th}{i:Nat}{a:Ac}{ls:List U}{c:Nat}{tm:Tm}
end
section
variable {m0 m m':M}{g:Gs}{r:Rn}{T8 T10 T11 Lb k na:Nat}{cells th f:Int}{rl lv:Value}{t:Th}{i:Nat}{a:Ac}{ls:List U}{c:Nat}{tm:Tm}
end
theorem nd_eq (e:Nd):kj [1,1,1,1] (qv e) (qv e)=some true:=by unfold qv;rw[xh,xh,xh,xh];rfl
theorem vG (ls:List Nd)(hl:ls.length<=9223372036854775807)(a b:Value)(N:Nat)(m:M)(hm:m.base<=m.n)(ha:Rd m a 4 qv ls)(hb:Rd m b 4 qv ls):CallV (ex Tryz.prog (N+1)) 39 [a,b] m zT:=by
 refine qm dc2_ok (by simp) ?_;have la:=ha.len;have lb:=hb.len;have S:=Sees.refl hm;simp[la,lb];refine qq (c:=DQ) rfl (Ret m _) (λi t m'=>m'=m/\Tm.get 0 t=a/\Tm.get 1 t=b/\Tm.get 5 t=iv i) ls.length hl
  ⟨rfl,by simp,by simp,by simp⟩ (λi t m' k hi hI hk=>?_)
 obtain⟨rfl,t0,t1,t5⟩:=hI;by_cases hil:i<ls.length
 .have hd:=dlt hil;have hd':(i<ls.length)=True:=qi1 hil;have ni:=qK (i:=i) (by omega);obtain⟨u,hu⟩:∃r,ls[i]?=some r:=⟨_,qh5 hil⟩;obtain⟨a1,a2,_⟩:=ha.at hu;obtain⟨b1,b2,_⟩:=hb.at hu;have a2':=a2 m' S;have b2':=b2 m' S;have he:=nd_eq u;simp[t0,t1,t5,la,hd,a1,a2',b1,b2',qb,he,ni];exact hk hil _ _ ⟨rfl,by simp[t0],by simp[t1],by simp⟩
 .have hd:((i:Int)<(ls.length:Int))=False:=qi0 (by omega);have hd':(i<ls.length)=False:=qi0 hil;simp[t0,t5,la,hd];exact qf (Ext.refl m') (by simp)
structure ThEq (a b:Th):Prop where
 loc:a.loc=b.loc
 len:a.acts.length=b.acts.length
 acts:∀(j:Nat) x,b.acts[j]?=some x->∃y,a.acts[j]?=some y/\AcEq y x
structure PgEq (p q:Pg):Prop where
 cells:p.cells=q.cells
 len:p.ths.length=q.ths.length
 ths:∀(j:Nat) x,q.ths[j]?=some x->∃y,p.ths[j]?=some y/\ThEq y x
theorem qe0 (p q:Pg)(he:PgEq p q)(N:Nat)(m:M)(hm:m.base<=m.n)(hp:PgOK m p)(hq:PgOK m q):CallV (ex Tryz.prog (N+2)) 18 [pgV p,pgV q] m zT:=by
 refine qm da9_ok (by simp) ?_;obtain⟨cells,tv,ths⟩:=p;obtain⟨cells',tv',ths'⟩:=q;obtain⟨rfl,hlen,hths⟩:=he;simp only at hlen hths;have st1:=(St.nil hm (Ext.refl m)).row [iv cells,tv];obtain⟨m1,hm1⟩:=qi4 (Dx.newRow m [iv cells,tv]);rw[<-hm1]at st1;have st2:=st1.row [iv cells,tv'];obtain⟨m2,hm2⟩:=qi4 (Dx.newRow m1 [iv cells,tv']);rw[<-hm2]at st2;have l1:∀o s,load1 m2 ⟨m.n,o,s⟩=[iv cells,tv][o]?:=λo s=>(st2.get 1 rfl).2.2.load1 o s;have l2:∀o s,load1 m2 ⟨m1.n,o,s⟩=[iv cells,tv'][o]?:=λo s=>(st2.get 0 rfl).2.2.load1 o s;obtain⟨n,hn⟩:=qi4 (ths.length);have h1l:wB tv=some (.int .i64 (n:Int)):=by rw[hn];exact hp.tv.len
 have h2l:wB tv'=some (.int .i64 (n:Int)):=by rw[hn,hlen];exact hq.tv.len
 have hnl:n<=9223372036854775807:=by rw[hn];exact hp.len
 unfold pgV;simp[<-hm1,<-hm2,l1,l2,h1l,h2l];refine qq (c:=Dw) rfl (Ret m _) (λi t m'=>St m m' [(m1.n,[iv cells,tv']),(m.n,[iv cells,tv])]/\Tm.get 2 t=.pointer (some ⟨m.n,0,none⟩)/\Tm.get 3 t=.pointer (some ⟨m1.n,0,none⟩)/\Tm.get 5 t=iv i) n hnl
  ⟨st2,by simp,by simp,by simp⟩ (λi t m' k' hi hI hk'=>?_)
 obtain⟨st,t2,t3,t5⟩:=hI;have la:∀o s,load1 m' ⟨m.n,o,s⟩=[iv cells,tv][o]?:=λo s=>(st.get 1 rfl).2.2.load1 o s;have lb:∀o s,load1 m' ⟨m1.n,o,s⟩=[iv cells,tv'][o]?:=λo s=>(st.get 0 rfl).2.2.load1 o s;by_cases hil:i<n
 .have hd:=dlt hil;have hd':(i<n)=True:=qi1 hil;obtain⟨u,hu⟩:∃r,ths'[i]?=some r:=⟨_,qh5 (by omega)⟩;obtain⟨t',ht',hte⟩:=hths i u hu;obtain⟨loc,av,acts⟩:=t';obtain⟨loc',av',acts'⟩:=u;obtain⟨rfl,hal,hacts⟩:=hte;simp only at hal hacts;have ⟨x1,x2,_⟩:=hp.tv.at ht';have ⟨y1,y2,_⟩:=hq.tv.at hu;have x2':=x2 m' st.sees;have hpt:=hp.ths _ (qh6 ht');have hqt:=hq.ths _ (qh6 hu);have ni:=qK (i:=i) (by omega);have ok1:okC av=true:=hpt.av.okV;have ok2:okC av'=true:=hqt.av.okV;have s3:=st.row [zI,zS];obtain⟨m3,hm3⟩:=qi4 (Dx.newRow m' [zI,zS]);rw[<-hm3]at s3;obtain⟨m4,f1,f2,f3,f4⟩:=s3.fill 0 rfl (n:=2) (l':=[iv loc,av]) rfl rfl (by simp[okC];exact ok1);have s4:St m m4 [(m'.n,[iv loc,av]),(m1.n,[iv cells,tv']),(m.n,[iv cells,tv])]:=f2;have lb4:∀o s,load1 m4 ⟨m1.n,o,s⟩=[iv cells,tv'][o]?:=λo s=>(s4.get 1 rfl).2.2.load1 o s;have y2':=y2 m4 s4.sees;have s5:=s4.row [zI,zS];obtain⟨m5,hm5⟩:=qi4 (Dx.newRow m4 [zI,zS]);rw[<-hm5]at s5;obtain⟨m6,g1,g2,g3,g4⟩:=s5.fill 0 rfl (n:=2) (l':=[iv loc,av']) rfl rfl (by simp[okC];exact ok2);have s6:St m m6 [(m4.n,[iv loc,av']),(m'.n,[iv loc,av]),(m1.n,[iv cells,tv']),(m.n,[iv cells,tv])]:=g2;have l61:∀o s,load1 m6 ⟨m'.n,o,s⟩=[iv loc,av][o]?:=λo s=>(s6.get 1 rfl).2.2.load1 o s;have l62:∀o s,load1 m6 ⟨m4.n,o,s⟩=[iv loc,av'][o]?:=λo s=>(s6.get 0 rfl).2.2.load1 o s;obtain⟨na,hna⟩:=qi4 (acts.length);have a1l:wB av=some (.int .i64 (na:Int)):=by rw[hna];exact hpt.av.len
  have a2l:wB av'=some (.int .i64 (na:Int)):=by rw[hna,hal];exact hqt.av.len
  have hnal:na<=9223372036854775807:=by rw[hna];exact hpt.len
  simp only[zd]at x2' y2';simp[t2,t3,t5,la,h1l,hd,x1,x2',qb,<-hm3,f1,lb4,y1,y2',<-hm5,g1,l61,l62,a1l,a2l];refine qq (c:=Dv) rfl (Ret m _) (λj t m3=>St m m3 [(m4.n,[iv loc,av']),(m'.n,[iv loc,av]),(m1.n,[iv cells,tv']),(m.n,[iv cells,tv])]/\Tm.get 2 t=.pointer (some ⟨m.n,0,none⟩)/\Tm.get 3 t=.pointer (some ⟨m1.n,0,none⟩)/\Tm.get 5 t=iv i/\Tm.get 6 t=.pointer (some ⟨m'.n,0,none⟩)/\Tm.get 7 t=.pointer (some ⟨m4.n,0,none⟩)/\Tm.get 8 t=iv j) na hnal
   ⟨s6,by simp[t2],by simp[t3],by simp[t5],by simp,by simp,by simp⟩ (λj t n0 k3 hj hJ hk3=>?_)
  obtain⟨u0',t2,t3,t5,t6,t7,t8⟩:=hJ;have q1:∀o s,load1 n0 ⟨m'.n,o,s⟩=[iv loc,av][o]?:=λo s=>(u0'.get 1 rfl).2.2.load1 o s;by_cases hjl:j<na
  .have hd:=dlt hjl;have hd':(j<na)=True:=qi1 hjl;have nj:=qK (i:=j) (by omega);obtain⟨b,hb⟩:∃r,acts'[j]?=some r:=⟨_,qh5 (by omega)⟩;obtain⟨a,ha,ix,ev,fv,rfl⟩:=hacts j b hb;have ⟨v1,v2,_⟩:=hpt.av.at ha;have ⟨w1,w2,_⟩:=hqt.av.at hb;have v2':=v2 n0 u0'.sees;have oka:=hpt.acts _ (qh6 ha);have okb:=hqt.acts _ (qh6 hb);have u1:=u0'.row Z11;obtain⟨n1,hn1⟩:=qi4 (Dx.newRow n0 Z11);rw[<-hn1]at u1;obtain⟨n2,i1,i2,i3,i4⟩:=u1.fill 0 rfl (n:=11) (l':=qe { b with ix:=ix,ev:=ev,fv:=fv }) rfl rfl (zn oka);have u2:St m n2 [(n0.n,qe { b with ix:=ix,ev:=ev,fv:=fv }),(m4.n,[iv loc,av']),(m'.n,[iv loc,av]),(m1.n,[iv cells,tv']),(m.n,[iv cells,tv])]:=i2;have q2:∀o s,load1 n2 ⟨m4.n,o,s⟩=[iv loc,av'][o]?:=λo s=>(u2.get 1 rfl).2.2.load1 o s;have w2':=w2 n2 u2.sees;have u3:=u2.row Z11;obtain⟨n3,hn3⟩:=qi4 (Dx.newRow n2 Z11);rw[<-hn3]at u3;obtain⟨n4,j1,j2,j3,j4⟩:=u3.fill 0 rfl (n:=11) (l':=qe b) rfl rfl (zn okb);have u4:St m n4 [(n2.n,qe b),(n0.n,qe { b with ix:=ix,ev:=ev,fv:=fv }),(m4.n,[iv loc,av']),(m'.n,[iv loc,av]),(m1.n,[iv cells,tv']),(m.n,[iv cells,tv])]:=j2;have r1:∀o s,load1 n4 ⟨n0.n,o,s⟩=(qe { b with ix:=ix,ev:=ev,fv:=fv })[o]?:=λo s=>(u4.get 1 rfl).2.2.load1 o s;have r2:∀o s,load1 n4 ⟨n2.n,o,s⟩=(qe b)[o]?:=λo s=>(u4.get 0 rfl).2.2.load1 o s;have ixl:b.ixs.length<=9223372036854775807:=okb.ixl;obtain⟨z1,n5,c1,c2,rfl⟩:=vG b.ixs okb.ixl ix b.ix N n4 u4.sees.base (oka.ix.sees u4.sees) (okb.ix.sees u4.sees);have u5:=u4.step c2
   have r15:∀o s,load1 n5 ⟨n0.n,o,s⟩=(qe { b with ix:=ix,ev:=ev,fv:=fv })[o]?:=λo s=>(u5.get 1 rfl).2.2.load1 o s;have r25:∀o s,load1 n5 ⟨n2.n,o,s⟩=(qe b)[o]?:=λo s=>(u5.get 0 rfl).2.2.load1 o s;obtain⟨z2,n6,d1,d2,rfl⟩:=vG b.es okb.evl ev b.ev N n5 u5.sees.base (oka.ev.sees u5.sees) (okb.ev.sees u5.sees);have u6:=u5.step d2;have r16:∀o s,load1 n6 ⟨n0.n,o,s⟩=(qe { b with ix:=ix,ev:=ev,fv:=fv })[o]?:=λo s=>(u6.get 1 rfl).2.2.load1 o s;have r26:∀o s,load1 n6 ⟨n2.n,o,s⟩=(qe b)[o]?:=λo s=>(u6.get 0 rfl).2.2.load1 o s;obtain⟨z3,n7,e1,e2,rfl⟩:=vG b.fs okb.fvl fv b.fv N n6 u6.sees.base (oka.fv.sees u6.sees) (okb.fv.sees u6.sees);have u7:=u6.step e2;simp only[qe]at v2' w2' r1 r2 r15 r25 r16 r26 i1 j1;simp[t6,t7,t8,q1,a1l,hd,v1,v2',qb,<-hn1,i1,q2,w1,w2',<-hn3,j1,r1,r2,c1,r15,r25,d1,r16,r26,e1,nj];exact hk3 hjl _ _ ⟨u7.sub (λp hp=>qhg _ (qhg _ hp)) (by have:=u7.nd;simp at this ⊢;omega),by simp[t2],by simp[t3],by simp[t5],by simp[t6],by simp[t7],by simp⟩
  .obtain rfl:j=na:=by omega
   have hd:((j:Int)<(j:Int))=False:=qi0 (by omega);simp[t5,t6,t8,q1,a1l,hd,ni];exact hk' hil _ _ ⟨u0'.sub (λp hp=>qhg _ (qhg _ hp)) (by have:=u0'.nd;simp at this ⊢;omega),by simp[t2],by simp[t3],by simp⟩
 .obtain rfl:i=n:=by omega
  have hd:((i:Int)<(i:Int))=False:=qi0 (by omega);simp[t2,t5,la,h1l,hd];exact qf st.ext (by simp)
end Go.Sx
namespace Go.Dx
theorem Wc {α:Type}{m:M}(hm:m.base<=m.n){v:Value}{e:Nat}{f:α->List Value}{es:List α}(h:Rd m v e f es)(hf:∀x,(f x).length=e)(bytes:Nat)(hb:es.length*bytes<=wk)(hn:es.length<=4611686018427387904) :
  ∃B c m',wZ (newRow m []) e bytes (.slice (some ⟨m.n,0,some (code e true)⟩) 0 0) v=some (.slice (some ⟨B,0,some c⟩) es.length es.length,m')/\Ext m m'/\m.n<=B/\B<m'.n/\Arr m' B (es.flatMap f):=by
 by_cases hz:es=[]
 .subst hz;refine⟨m.n,code e true,newRow m [],?_,Ext.row m [],qh8 _,by rw[wL];omega,Arr.row m []⟩;have h':=h.sees ((Sees.refl hm).ext (Ext.row m []));show ob (lenV v) _=_;rw[h.lenV,qQ];show ob (kU (newRow m []) e ([]:List α).length v) _=_;rw[h'.all,qQ];rfl
 .obtain⟨v',m',h1,h2,h3,h4,h5⟩:=jN hm h hf bytes hb hn;have hv:=h5 hz;subst hv;obtain⟨q1,q2⟩:=h4 _ rfl;exact⟨_,_,m',h1,h2,q1,h3.lt _ rfl,q2⟩
end Go.Dx
namespace Go.Sx
open Go.Dx Go.Proofs
set_option maxRecDepth 10000
structure CJ (m0 m:M)(g:Value)(ts:List Th)(ga:Value)(xs:List Ac)(σ:List (Nat × List Value)):Prop where
 st:St m0 m σ
 gt:Grown m0 m g 2 zd ts
 gs:Grown m0 m ga 11 qe xs
 sep:∀B,(blk g=some B\/blk ga=some B)->∀p∈σ,p.1≠B
 ne:∀B,blk g=some B->blk ga≠some B
section
variable {m0 m m':M}{g ga:Value}{ts:List Th}{xs:List Ac}{σ σ':List (Nat × List Value)}
theorem CJ.gl (h:CJ m0 m g ts ga xs σ):∀B,(blk g=some B\/blk ga=some B)->m0.n<=B/\B<m.n:=λB hB=>by
 rcases hB with hB | hB
 .exact grown_low h.gt B hB
 .exact grown_low h.gs B hB
theorem CJ.of (h:CJ m0 m g ts ga xs σ)(hst:St m0 m' σ')(hn:m.n<=m'.n)(hk:∀B,(blk g=some B\/blk ga=some B)->m'.obj B=m.obj B)(hσ:∀p∈σ',(∃q∈σ,q.1=p.1)\/m.n<=p.1):CJ m0 m' g ts ga xs σ' :=
 ⟨hst,h.gt.keep hn λB _ hB=>hk B (.inl hB),h.gs.keep hn λB _ hB=>hk B (.inr hB),λB hB p hp=>by
  rcases hσ p hp with ⟨q,hq,e⟩ | h'
  .rw[<-e];exact h.sep B hB q hq
  .have:=(h.gl B hB).2;omega,h.ne⟩
theorem CJ.step (h:CJ m0 m g ts ga xs σ)(e:Ext m m'):CJ m0 m' g ts ga xs σ:=h.of (h.st.step e) e.n (λB hB=>e.obj B (h.gl B hB).2) λp hp=>.inl ⟨p,hp,rfl⟩
theorem CJ.row (h:CJ m0 m g ts ga xs σ)(l:List Value):CJ m0 (Dx.newRow m l) g ts ga xs ((m.n,l)::σ) :=
 h.of (h.st.row l) (Ext.row m l).n (λB hB=>(Ext.row m l).obj B (h.gl B hB).2) λp hp=>by
  rcases List.mem_cons.1 hp with rfl | hp
  .exact .inr (qh8 _)
  .exact .inl ⟨p,hp,rfl⟩
theorem CJ.sub (h:CJ m0 m g ts ga xs σ)(hs:∀p∈σ',p∈σ)(hn:(σ'.map (·.1)).Nodup):CJ m0 m g ts ga xs σ' :=
 h.of (h.st.sub hs hn) (qh8 _) (λ_ _=>rfl) λp hp=>.inl ⟨p,hs p hp,rfl⟩
theorem CJ.put (h:CJ m0 m g ts ga xs σ){i b:Nat}{l l':List Value}(hi:σ[i]?=some (b,l))(hst:St m0 m' (σ.set i (b,l')))(hn:m'.n=m.n)(ho:∀X,X≠b->m'.obj X=m.obj X):CJ m0 m' g ts ga xs (σ.set i (b,l')) :=
 h.of hst (by omega) (λB hB=>ho B λe=>h.sep B hB _ (qh6 hi) e.symm) λp hp=>by
  obtain⟨q,hq,e⟩:=vB hi hp;exact .inl ⟨q,hq,e⟩
theorem CJ.get (h:CJ m0 m g ts ga xs σ)(i:Nat){b:Nat}{l:List Value}(hi:σ[i]?=some (b,l)):Arr m b l:=(h.st.get i hi).2.2
theorem CJ.mb (h:CJ m0 m g ts ga xs σ):m.base<=m.n:=h.st.sees.self.base
theorem CJ.store (h:CJ m0 m g ts ga xs σ)(k:Nat){b o:Nat}{l:List Value}{v:Value}(hk:σ[k]?=some (b,l))(ho:o<l.length)(hv:okC v=true) :
  ∃m',ww 1 (.pointer (some ⟨b,o,none⟩)) v m=some (undef,m')/\CJ m0 m' g ts ga xs (σ.set k (b,l.set o v))/\m'.n=m.n:=by
 obtain⟨m',h1,h2,h3,h4⟩:=h.st.store k hk ho hv;exact⟨m',h1,h.put hk h2 h3 h4,h3⟩
theorem CJ.fill (h:CJ m0 m g ts ga xs σ)(k:Nat){b:Nat}{l:List Value}(hk:σ[k]?=some (b,l)){n:Nat}{l':List Value}(hl:l.length=n)(hl':l'.length=n)(hv:∀v∈l',okC v=true) :
  ∃m',ww n (.pointer (some ⟨b,0,none⟩)) (.agg ⟨l'⟩) m=some (undef,m')/\CJ m0 m' g ts ga xs (σ.set k (b,l'))/\m'.n=m.n:=by
 obtain⟨m',h1,h2,h3,h4⟩:=h.st.fill k hk hl hl' hv;exact⟨m',h1,h.put hk h2 h3 h4,h3⟩
theorem CJ.call (h:CJ m0 m g ts ga xs σ)(e:Ext m m'){B:Nat}{l:List Value}(h1:m.n<=B)(h2:B<m'.n)(h3:Arr m' B l):CJ m0 m' g ts ga xs ((B,l)::σ):=by
 have hn:=h.st.ext.n;have h':=h.step e;refine⟨(h.st.step e).add (by omega) h2 h3 λp hp=>by have:=(h.st.arr p hp).2.1;omega,h'.gt,h'.gs,λX hX p hp=>?_,h.ne⟩;rcases List.mem_cons.1 hp with rfl | hp
 .have:=(h.gl X hX).2;show B≠X;omega
 .exact h.sep X hX p hp
theorem CJ.appT {x:Th}{v':Value}(h:CJ m0 m g ts ga xs σ)(hg:Grown m0 m' v' 2 zd (ts++[x]))(hA:Ap m m' g v'):CJ m0 m' v' (ts++[x]) ga xs σ:=by
 refine⟨h.st.app hA (λB hB=>(h.gl B (.inl hB)).1) (λB hB=>h.sep B (.inl hB)),hg,h.gs.keep hA.n λB hB hb=>hA.obj B hB λe=>h.ne B e hb,λB hB p hp=>?_,λB hB e=>?_⟩
 .rcases hB with hB | hB
  .have:=hA.new B hB;have:=(h.st.arr p hp).2.1;omega
  .exact h.sep B (.inr hB) p hp
 .have:=hA.new B hB;have:=(h.gl B (.inr e)).2;omega
theorem CJ.appA {x:Ac}{v':Value}(h:CJ m0 m g ts ga xs σ)(hg:Grown m0 m' v' 11 qe (xs++[x]))(hA:Ap m m' ga v'):CJ m0 m' g ts v' (xs++[x]) σ:=by
 refine⟨h.st.app hA (λB hB=>(h.gl B (.inr hB)).1) (λB hB=>h.sep B (.inr hB)),h.gt.keep hA.n λB hB hb=>hA.obj B hB λe=>h.ne B hb e,hg,λB hB p hp=>?_,λB hB e=>?_⟩
 .rcases hB with hB | hB
  .exact h.sep B (.inl hB) p hp
  .have:=hA.new B hB;have:=(h.st.arr p hp).2.1;omega
 .have:=hA.new B e;have:=(h.gl B (.inl hB)).2;omega
end
def NdIn (σ:List (Nat × List Value))(v:Value)(es:List Nd):Prop:=∃B c,v=.slice (some ⟨B,0,some c⟩) es.length es.length/\(B,es.flatMap qv)∈σ
structure AcIn (σ:List (Nat × List Value))(a:Ac):Prop where
 ix:NdIn σ a.ix a.ixs
 ev:NdIn σ a.ev a.es
 fv:NdIn σ a.fv a.fs
def AsIn (σ:List (Nat × List Value))(v:Value)(xs:List Ac):Prop:=(xs=[]/\v=zS)\/∃B c,v=.slice (some ⟨B,0,some c⟩) xs.length xs.length/\(B,xs.flatMap qe)∈σ
structure ThIn (σ:List (Nat × List Value))(t:Th):Prop where
 av:AsIn σ t.av t.acts
 acts:∀a∈t.acts,AcIn σ a
section
variable {σ σ':List (Nat × List Value)}{m0 m:M}
theorem NdIn.sub {v:Value}{es:List Nd}(h:NdIn σ v es)(hs:∀p∈σ,p∈σ'):NdIn σ' v es:=let ⟨B,c,h1,h2⟩:=h;⟨B,c,h1,hs _ h2⟩
theorem AcIn.sub {a:Ac}(h:AcIn σ a)(hs:∀p∈σ,p∈σ'):AcIn σ' a:=⟨h.ix.sub hs,h.ev.sub hs,h.fv.sub hs⟩
theorem AsIn.sub {v:Value}{xs:List Ac}(h:AsIn σ v xs)(hs:∀p∈σ,p∈σ'):AsIn σ' v xs:=by
 rcases h with h | ⟨B,c,h1,h2⟩
 .exact .inl h
 .exact .inr ⟨B,c,h1,hs _ h2⟩
theorem ThIn.sub {t:Th}(h:ThIn σ t)(hs:∀p∈σ,p∈σ'):ThIn σ' t:=⟨h.av.sub hs,λa ha=>(h.acts a ha).sub hs⟩
theorem NdIn.rd {v:Value}{es:List Nd}(h:NdIn σ v es)(hst:St m0 m σ):Rd m v 4 qv es:=by
 obtain⟨B,c,rfl,h2⟩:=h;obtain⟨_,h3,h4⟩:=hst.arr _ h2;exact jx (f:=qv) (λ_=>rfl) h4 h3
theorem AsIn.rd {v:Value}{xs:List Ac}(h:AsIn σ v xs)(hst:St m0 m σ):Rd m v 11 qe xs:=by
 rcases h with ⟨rfl,rfl⟩ | ⟨B,c,rfl,h2⟩
 .exact⟨rfl,λi r hr=>by simp at hr,rfl,λB hB=>by cases hB⟩
 .obtain⟨_,h3,h4⟩:=hst.arr _ h2;exact jx (f:=qe) (λ_=>rfl) h4 h3
end
theorem bs_ac (a:Ac)(m:M):wH 11 1 (rep 1 Z11) [(0,11,.agg ⟨qe a⟩)] m=some (Value.slice (some ⟨m.n,0,some 23⟩) 1 1,Dx.newRow m (qe a)):=rfl
theorem bs_th (t:Th)(m:M):wH 2 1 (rep 1 [zI,zS]) [(0,2,.agg ⟨zd t⟩)] m=some (Value.slice (some ⟨m.n,0,some 5⟩) 1 1,Dx.newRow m (zd t)):=rfl
theorem Dd (m:M):wH 4 0 (rep 0 [zI,zU,zI,zI]) [] m=some (Value.slice (some ⟨m.n,0,some (code 4 true)⟩) 0 0,Dx.newRow m []):=rfl
theorem b_pg (c:Int):wg [zI,zS] [(0,1,.int .i64 c)]=some (.agg ⟨[.int .i64 c,zS]⟩):=rfl
end Go.Sx
namespace Go.Dx
theorem Grown.congr {α:Type}{m0 m:M}{v:Value}{e:Nat}{f f':α->List Value}{es:List α}(h:Grown m0 m v e f es)(hf:∀y∈es,f y=f' y):Grown m0 m v e f' es:=by
 have hfl:es.flatMap f=es.flatMap f':=by rw[List.flatMap_def,List.flatMap_def,List.map_congr_left hf]
 rcases h with h | ⟨B,h1,h2,h3,h4,h5⟩
 .exact .inl h
 .exact .inr ⟨B,h1,h2,h3,h4,hfl ▸ h5⟩
open Classical in
theorem jZ {α:Type}{m0 m:M}{v:Value}{e:Nat}{f:α->List Value}{es:List α}(h:Grown m0 m v e f es)(he:0<e)(hf:∀x,(f x).length=e){x:α}(hok:∀y∈es++[x],∀v∈f y,okC v=true){X:Nat}{sp:Option Nat}
  (hx:loads m ⟨X,0,sp⟩ e=some (f x)) (h0:m0.n<=m.n) {bytes:Nat} (hm:(es.length+1)*bytes<=wk) (hn:es.length+1<=4611686018427387904) :
  ∃v' m',wZ m e bytes v (.slice (some ⟨X,0,sp⟩) 1 1)=some (v',m')/\Grown m0 m' v' e f (es++[x])/\Ap m m' v v':=by
 obtain⟨f',hf'⟩:∃f':α->List Value,f'=λy=>if (∀v∈f y,okC v=true) then f y else List.replicate e zF:=⟨_,rfl⟩
 have hy:∀y∈es++[x],f y=f' y:=λy hy=>by rw[hf'];simp only;rw[qhz (hok y hy)]
 have h1:=h.congr (f':=f') λy hy'=>hy y (List.mem_append_left _ hy');have hx':loads m ⟨X,0,sp⟩ e=some (f' x):=by rw[<-hy x (by simp)];exact hx
 obtain⟨v',m',a1,a2,a3⟩:=Qy h1 he (λy=>by
  rw[hf'];simp only;split
  .exact hf y
  .simp) (λy u hu=>by
  rw[hf']at hu;simp only at hu;split at hu
  .rename_i hh;exact hh u hu
  .rw[List.mem_replicate]at hu;rw[hu.2];rfl) hx' h0 hm hn
 exact⟨v',m',a1,a2.congr λy hy'=>(hy y hy').symm,a3⟩
end Go.Dx
namespace Go.Sx
open Go.Dx Go.Proofs
set_option maxRecDepth 10000
theorem CJ.mid {m0 m:M}{g ga:Value}{ts:List Th}{xs:List Ac}{x:Nat × List Value}{l D:List (Nat × List Value)}(h:CJ m0 m g ts ga xs (x::(l++D))):CJ m0 m g ts ga xs (l++x::D):=by
 have hp:(l++x::D).Perm (x::(l++D)):=List.perm_middle;exact h.sub (λp hp'=>hp.mem_iff.1 hp') ((hp.map (·.1)).nodup_iff.2 h.st.nd)
theorem CJ.clone {m0 m:M}{g ga:Value}{ts:List Th}{xs:List Ac}{l D:List (Nat × List Value)}(h:CJ m0 m g ts ga xs (l++D)){v:Value}{es:List Nd}(hv:Rd m v 4 qv es)(hsz:es.length*32<=wk) :
  ∃B c m',wZ (Dx.newRow m []) 4 32 (.slice (some ⟨m.n,0,some (code 4 true)⟩) 0 0) v=some (.slice (some ⟨B,0,some c⟩) es.length es.length,m')/\CJ m0 m' g ts ga xs (l++(B,es.flatMap qv)::D):=by
 obtain⟨B,c,m',h1,h2,h3,h4,h5⟩:=Wc h.mb hv (λ_=>rfl) 32 hsz (by unfold wk at hsz;omega);exact⟨B,c,m',h1,(h.call h2 h3 h4 h5).mid⟩
structure CT (t:Tm)(T1 T2 T3 T5 i j:Nat):Prop where
 t1:Tm.get 1 t=.pointer (some ⟨T1,0,none⟩)
 t2:Tm.get 2 t=.pointer (some ⟨T2,0,none⟩)
 t3:Tm.get 3 t=.pointer (some ⟨T3,0,none⟩)
 t4:Tm.get 4 t=iv i
 t5:Tm.get 5 t=.pointer (some ⟨T5,0,none⟩)
 t6:Tm.get 6 t=iv j
abbrev cS (T5 T3 T2 T1:Nat)(loc cells:Int)(ga g tv:Value):List (Nat × List Value):=[(T5,[iv loc,ga]),(T3,[iv cells,g]),(T2,[zI,zS]),(T1,[iv cells,tv])]
section
variable {m0 m:M}{g ga tv:Value}{ts ths:List Th}{xs:List Ac}{T1 T2 T3 T5 i j:Nat}{loc cells:Int}{D:List (Nat × List Value)}{tm:Tm}
theorem qax {th:Th}{a:Ac}(hm0:m0.base<=m0.n)(htv:Rd m0 tv 2 zd ths)(hth:ths[i]?=some th)(hav:Rd m0 th.av 11 qe th.acts)(ha:th.acts[j]?=some a)(hok:AcOK m0 a)
  (hs1:a.ixs.length*32<=wk) (hs2:a.es.length*32<=wk) (hs3:a.fs.length*32<=wk) (hs4:(xs.length+1)*136<=wk) (hxs:∀y∈xs,∀v∈qe y,okC v=true)
  (h:CJ m0 m g ts ga xs (cS T5 T3 T2 T1 loc cells ga g tv++D)) (hT:CT tm T1 T2 T3 T5 i j) {x:Ex} {kn kr:K} {ke:Nat->K} {Q:Option Out->Prop}
  (H:∀t' m' ga' a' D',CT t' T1 T2 T3 T5 i j->CJ m0 m' g ts ga' (xs++[a']) (cS T5 T3 T2 T1 loc cells ga' g tv++D')->(∀p∈D,p∈D')->AcIn D' a'->AcEq a' a->(∀v∈qe a',okC v=true)->Q (kn t' m')):Q (Dr x kn ke kr tm m):=by
 obtain⟨t1,t2,t3,t4,t5,t6⟩:=hT;have S:=h.st.sees;have lp:∀o s,load1 m ⟨T1,o,s⟩=[iv cells,tv][o]?:=λo s=>(h.get 3 rfl).load1 o s;obtain⟨x1,x2,x3⟩:=htv.at hth;have xa:∀s,load1 m ⟨(adr 2 tv i).block,(adr 2 tv i).off+1,s⟩=some th.av:=λs=>x3 m 1 s S (by simp[zd]);obtain⟨y1,y2,y3⟩:=hav.at ha;have y2':=y2 m S;have h1:=h.row Z11;obtain⟨m1,hm1⟩:=qi4 (Dx.newRow m Z11);rw[<-hm1]at h1;obtain⟨m2,f1,f2,f3⟩:=h1.fill 0 rfl (n:=11) (l':=qe a) rfl rfl (zn hok);have h2:CJ m0 m2 g ts ga xs (((m.n,qe a)::cS T5 T3 T2 T1 loc cells ga g tv)++D):=f2;have r2:∀o s,load1 (Dx.newRow m2 []) ⟨m.n,o,s⟩=(qe a)[o]?:=λo s=>(((h2.step (Ext.row m2 [])).get 0 rfl)).load1 o s;obtain⟨B1,c1,m3,a1,h3⟩:=h2.clone (hok.ix.sees h2.st.sees) hs1;obtain⟨v1,hv1⟩:∃v1:Value,v1=.slice (some ⟨B1,0,some c1⟩) a.ixs.length a.ixs.length:=⟨_,rfl⟩;rw[<-hv1]at a1;have bs2:=Dd m2;obtain⟨n2,hn2⟩:=qi4 (Dx.newRow m2 []);rw[<-hn2]at bs2 a1 r2;obtain⟨m4,s1,s2,s3⟩:=h3.store 0 rfl (o:=4) (v:=v1) (by simp[qe]) (by rw[hv1];rfl);have h4:CJ m0 m4 g ts ga xs (((m.n,qe { a with ix:=v1 })::cS T5 T3 T2 T1 loc cells ga g tv)++(B1,a.ixs.flatMap qv)::D):=s2;have r4:∀o s,load1 (Dx.newRow m4 []) ⟨m.n,o,s⟩=(qe { a with ix:=v1 })[o]?:=λo s=>(((h4.step (Ext.row m4 [])).get 0 rfl)).load1 o s;obtain⟨B2,c2,m5,a2,h5⟩:=h4.clone (hok.ev.sees h4.st.sees) hs2;obtain⟨v2,hv2⟩:∃v2:Value,v2=.slice (some ⟨B2,0,some c2⟩) a.es.length a.es.length:=⟨_,rfl⟩;rw[<-hv2]at a2;have bs4:=Dd m4;obtain⟨n4,hn4⟩:=qi4 (Dx.newRow m4 []);rw[<-hn4]at bs4 a2 r4
 obtain⟨m6,u1,u2,u3⟩:=h5.store 0 rfl (o:=5) (v:=v2) (by simp[qe]) (by rw[hv2];rfl);have h6:CJ m0 m6 g ts ga xs (((m.n,qe { a with ix:=v1,ev:=v2 })::cS T5 T3 T2 T1 loc cells ga g tv)++(B2,a.es.flatMap qv)::(B1,a.ixs.flatMap qv)::D):=u2;have r6:∀o s,load1 (Dx.newRow m6 []) ⟨m.n,o,s⟩=(qe { a with ix:=v1,ev:=v2 })[o]?:=λo s=>(((h6.step (Ext.row m6 [])).get 0 rfl)).load1 o s;obtain⟨B3,c3,m7,a3,h7⟩:=h6.clone (hok.fv.sees h6.st.sees) hs3;obtain⟨v3,hv3⟩:∃v3:Value,v3=.slice (some ⟨B3,0,some c3⟩) a.fs.length a.fs.length:=⟨_,rfl⟩;rw[<-hv3]at a3;have bs6:=Dd m6;obtain⟨n6,hn6⟩:=qi4 (Dx.newRow m6 []);rw[<-hn6]at bs6 a3 r6;obtain⟨m8,w1,w2,w3⟩:=h7.store 0 rfl (o:=6) (v:=v3) (by simp[qe]) (by rw[hv3];rfl);obtain⟨a',ha'⟩:∃a':Ac,a'={ a with ix:=v1,ev:=v2,fv:=v3 }:=⟨_,rfl⟩;have h8:CJ m0 m8 g ts ga xs (((m.n,qe a')::cS T5 T3 T2 T1 loc cells ga g tv)++(B3,a.fs.flatMap qv)::(B2,a.es.flatMap qv)::(B1,a.ixs.flatMap qv)::D):=by rw[ha'];exact w2
 have l8:∀o s,load1 m8 ⟨T5,o,s⟩=[iv loc,ga][o]?:=λo s=>(h8.get 1 rfl).load1 o s;have l8n:loads m8 ⟨m.n,0,none⟩ 11=some (qe a'):=(h8.get 0 rfl).loads (n:=11) (by simp[qe]);have bs8:=bs_ac a' m8;have E9:Ext m8 (Dx.newRow m8 (qe a')):=Ext.row _ _;have h9:=h8.step E9;have hoka':∀v∈qe a',okC v=true:=by
  rw[ha',hv1,hv2,hv3];simp[qe,okC]
 obtain⟨m9,hm9⟩:=qi4 (Dx.newRow m8 (qe a'));have hl9:loads m9 ⟨m8.n,0,some 23⟩ 11=some (qe a'):=by rw[hm9];exact (Arr.row m8 _).loads (n:=11) (by simp[qe])
 rw[<-hm9]at bs8 h9 E9;have core:=h9.gs;have hgrow:∃v' m',wZ m9 11 136 ga (.slice (some ⟨m8.n,0,some 23⟩) 1 1)=some (v',m')/\Grown m0 m' v' 11 qe (xs++[a'])/\Ap m9 m' ga v' :=
  jZ h9.gs (by omega) zq (λy hy=>by
   rcases qhu.1 hy with hy | hy
   .exact hxs y hy
   .rw[qhc.1 hy];exact hoka') hl9 h9.st.ext.n hs4 (by unfold wk at hs4;omega)
 obtain⟨ga',m10,p1,p2,p3⟩:=hgrow;have h10:=h9.appA p2 p3;obtain⟨m11,q1,q2,q3⟩:=h10.store 1 rfl (o:=1) (v:=ga') (by simp) h10.gs.okC;have h11:CJ m0 m11 g ts ga' (xs++[a']) (((m.n,qe a')::cS T5 T3 T2 T1 loc cells ga' g tv)++(B3,a.fs.flatMap qv)::(B2,a.es.flatMap qv)::(B1,a.ixs.flatMap qv)::D):=q2;have h12:=h11.sub (σ':=cS T5 T3 T2 T1 loc cells ga' g tv++(B3,a.fs.flatMap qv)::(B2,a.es.flatMap qv)::(B1,a.ixs.flatMap qv)::D) (λp hp=>qhg _ hp) (by have:=h11.st.nd;simp only[List.cons_append,List.map_cons,List.nodup_cons]at this ⊢;exact this.2);simp only[qe]at y2' f1 r2 r4 r6;rw[ha']at l8n bs8;simp only[qe]at l8n bs8;simp[t1,t4,t5,t6,lp,x1,xa,y1,y2',qb,<-hm1,f1,bs2,r2,a1,s1,bs4,r4,a2,u1,bs6,r6,a3,w1,l8,l8n,bs8,p1,q1];refine H _ _ ga' a' _ ⟨by simp[t1],by simp[t2],by simp[t3],by simp[t4],by simp[t5],by simp[t6]⟩ h12 (λp hp=>qhg _ (qhg _ (qhg _ hp))) ?_ ⟨v1,v2,v3,ha'⟩ hoka';rw[ha'];exact⟨⟨B1,c1,hv1,by simp⟩,⟨B2,c2,hv2,by simp⟩,⟨B3,c3,hv3,by simp⟩⟩
end
structure FU (a:Ac):Prop where
 ix:a.ixs.length*32<=wk
 ev:a.es.length*32<=wk
 fv:a.fs.length*32<=wk
structure PgSz (p:Pg):Prop where
 len:p.ths.length*32<=wk
 ths:∀t∈p.ths,t.acts.length*136<=wk/\∀a∈t.acts,FU a
structure PgIn (D:List (Nat × List Value))(p:Pg):Prop where
 tv:(p.ths=[]/\p.tv=zS)\/∃B c,p.tv=.slice (some ⟨B,0,some c⟩) p.ths.length p.ths.length/\(B,p.ths.flatMap zd)∈D
 ths:∀t∈p.ths,ThIn D t
theorem FV {a b:Ac}(h:AcEq a b):a.ixs=b.ixs/\a.es=b.es/\a.fs=b.fs:=by obtain⟨x,y,z,rfl⟩:=h;exact⟨rfl,rfl,rfl⟩
theorem th_ok {m0 m:M}{D:List (Nat × List Value)}(hst:St m0 m D){t u:Th}(h:ThIn D t)(he:ThEq t u){m1:M}(hu:ThOK m1 u):ThOK m t:=by
 refine⟨h.av.rd hst,λa ha=>?_,by rw[he.len];exact hu.len⟩;have hi:=h.acts a ha;obtain⟨j,hj⟩:=qhr ha;have hjl:=(qh7.1 hj).1;obtain⟨b,hb⟩:∃b,u.acts[j]?=some b:=⟨_,qh5 (by rw[<-he.len];exact hjl)⟩;obtain⟨y,h1,h2⟩:=he.acts j b hb;rw[hj]at h1;cases h1;obtain⟨e1,e2,e3⟩:=FV h2;have hbk:=hu.acts b (qh6 hb);exact⟨hi.ix.rd hst,hi.ev.rd hst,hi.fv.rd hst,by rw[e1];exact hbk.ixl,by rw[e2];exact hbk.evl,by rw[e3];exact hbk.fvl⟩
theorem pg_ok {m0 m:M}{D:List (Nat × List Value)}(hst:St m0 m D){p q:Pg}(h:PgIn D p)(he:PgEq p q){m1:M}(hq:PgOK m1 q):PgOK m p:=by
 refine⟨?_,λt ht=>?_,by rw[he.len];exact hq.len⟩
 .rcases h.tv with ⟨h1,h2⟩ | ⟨B,c,h1,h2⟩
  .rw[h1,h2];exact⟨rfl,λi r hr=>by simp at hr,rfl,λB hB=>by cases hB⟩
  .rw[h1];obtain⟨_,h3,h4⟩:=hst.arr _ h2;exact jx (f:=zd) (λ_=>rfl) h4 h3
 .obtain⟨j,hj⟩:=qhr ht;have hjl:=(qh7.1 hj).1;obtain⟨u,hu⟩:∃b,q.ths[j]?=some b:=⟨_,qh5 (by rw[<-he.len];exact hjl)⟩;obtain⟨y,h1,h2⟩:=he.ths j u hu;rw[hj]at h1;cases h1;exact th_ok hst (h.ths t ht) h2 (hq.ths u (qh6 hu))
theorem CJ.close {m0 m:M}{g ga:Value}{ts:List Th}{xs:List Ac}{l D:List (Nat × List Value)}(h:CJ m0 m g ts ga xs (l++D)):∃D',CJ m0 m g ts zS [] (l++D')/\AsIn D' ga xs/\∀p∈D,p∈D':=by
 rcases h.gs with ⟨h1,h2⟩ | ⟨B,h1,h2,h3,h4,h5⟩
 .subst h1;subst h2;exact⟨D,h,.inl ⟨rfl,rfl⟩,λp hp=>hp⟩
 .have hB:blk ga=some B:=by rw[h4];rfl
  have hs:=h.st.add h1 h2 h5 (λp hp=>h.sep B (.inr hB) p hp);have h':CJ m0 m g ts zS [] ((B,xs.flatMap qe)::(l++D)):=by
   refine⟨hs,h.gt,.nil,λX hX p hp=>?_,λX hX e=>by cases e⟩;rcases hX with hX | hX
   .rcases List.mem_cons.1 hp with rfl | hp
    .show B≠X;intro e;subst e;exact h.ne B hX hB
    .exact h.sep X (.inl hX) p hp
   .cases hX
  exact⟨_,h'.mid,.inr ⟨B,_,h4,by simp⟩,λp hp=>qhg _ hp⟩
section
variable {m0 m:M}{g tv:Value}{ts ths:List Th}{T1 T2 T3 T5 i:Nat}{loc cells:Int}{D:List (Nat × List Value)}{tm:Tm}
theorem GA {th:Th}(hm0:m0.base<=m0.n)(htv:Rd m0 tv 2 zd ths)(hth:ths[i]?=some th)(hok:ThOK m0 th)(hsz:th.acts.length*136<=wk/\∀a∈th.acts,FU a)
  (h:CJ m0 m g ts zS [] (cS T5 T3 T2 T1 loc cells zS g tv++D)) (hT:CT tm T1 T2 T3 T5 i 0) {x:Ex} {kn kr:K} {ke:Nat->K} {Q:Option Out->Prop}
  (H:∀t' m' ga xs D',Tm.get 1 t'=.pointer (some ⟨T1,0,none⟩)->Tm.get 2 t'=.pointer (some ⟨T2,0,none⟩)->Tm.get 3 t'=.pointer (some ⟨T3,0,none⟩)->Tm.get 4 t'=iv i->Tm.get 5 t'=.pointer (some ⟨T5,0,none⟩) ->
   CJ m0 m' g ts ga xs (cS T5 T3 T2 T1 loc cells ga g tv++D')->(∀p∈D,p∈D')->xs.length=th.acts.length->(∀(q:Nat) y,th.acts[q]?=some y->∃z,xs[q]?=some z/\AcEq z y)->(∀a∈xs,AcIn D' a)->Q (kn t' m')):Q (XI x kn ke kr tm m):=by
 obtain⟨na,hna⟩:=qi4 (th.acts.length);have hal:wB th.av=some (.int .i64 (na:Int)):=by rw[hna];exact hok.av.len
 have hnal:na<=9223372036854775807:=by rw[hna];exact hok.len
 simp;refine qq (c:=Dp) rfl Q (λj t m'=>∃ga xs D',CT t T1 T2 T3 T5 i j/\CJ m0 m' g ts ga xs (cS T5 T3 T2 T1 loc cells ga g tv++D')/\(∀p∈D,p∈D')/\xs.length=j/\(∀(q:Nat) y,q<j->th.acts[q]?=some y->∃z,xs[q]?=some z/\AcEq z y)/\(∀a∈xs,AcIn D' a)/\∀a∈xs,∀v∈qe a,okC v=true) na hnal
  ⟨_,[],D,hT,h,λp hp=>hp,rfl,λq y hq=>absurd hq (qhv _),by simp,by simp⟩ (λj t m' k' hj hI hk'=>?_)
 obtain⟨ga,xs,D',hT,hC,hD,hl,he,hin,hok2⟩:=hI;have ⟨t1,t2,t3,t4,t5,t6⟩:=hT;have S:=hC.st.sees;have lp:∀o s,load1 m' ⟨T1,o,s⟩=[iv cells,tv][o]?:=λo s=>(hC.get 3 rfl).load1 o s;obtain⟨x1,x2,x3⟩:=htv.at hth;have xa:∀s,load1 m' ⟨(adr 2 tv i).block,(adr 2 tv i).off+1,s⟩=some th.av:=λs=>x3 m' 1 s S (by simp[zd]);by_cases hjl:j<na
 .have hd:=dlt hjl;have hd':(j<na)=True:=qi1 hjl;have nj:=qK (i:=j) (by omega);obtain⟨a,ha⟩:∃a,th.acts[j]?=some a:=⟨_,qh5 (by omega)⟩;have hmem:=qh6 ha;have hs:=hsz.2 a hmem;simp[t1,t4,t6,lp,x1,xa,hal,hd,-Ds];refine qax (th:=th) hm0 htv hth hok.av ha (hok.acts a hmem) hs.ix hs.ev hs.fv (by rw[hl];have:=qhq 136 (show j+1<=th.acts.length by omega);omega) hok2 hC ⟨by simp[t1],by simp[t2],by simp[t3],by simp[t4],by simp[t5],by simp[t6]⟩ (λt' m2 ga' a' D2 hT' hC' hD2 hin' heq' hok'=>?_);have ⟨t1,t2,t3,t4,t5,t6⟩:=hT';simp[t6,nj];refine hk' hjl _ _ ⟨ga',xs++[a'],D2,⟨by simp[t1],by simp[t2],by simp[t3],by simp[t4],by simp[t5],by simp⟩,hC',λp hp=>hD2 p (hD p hp),by simp[hl],λq y hq hy=>?_,λb hb=>?_,λb hb=>?_⟩
  .by_cases hqj:q<j
   .obtain⟨z,h1,h2⟩:=he q y hqj hy;exact⟨z,by rw[qhk (by omega)];exact h1,h2⟩
   .obtain rfl:q=j:=by omega
    rw[ha]at hy;cases hy;exact⟨a',by rw[qhl (by omega)];simp[hl],heq'⟩
  .rcases qhu.1 hb with hb | hb
   .exact (hin b hb).sub hD2
   .rw[qhc.1 hb];exact hin'
  .rcases qhu.1 hb with hb | hb
   .exact hok2 b hb
   .rw[qhc.1 hb];exact hok'
 .obtain rfl:j=na:=by omega
  have hd:((j:Int)<(j:Int))=False:=qi0 (by omega);simp[t1,t4,t6,lp,x1,xa,hal,hd];exact H _ _ ga xs D' (by simp[t1]) (by simp[t2]) (by simp[t3]) (by simp[t4]) (by simp[t5]) hC hD (by omega) (λq y hy=>he q y (by have:=(qh7.1 hy).1;omega) hy) hin
end
theorem Copy_c (p:Pg)(hsz:PgSz p)(N:Nat)(m:M)(hm:m.base<=m.n)(hp:PgOK m p) :
  Dx.Call (ex Tryz.prog (N+1)) 13 [pgV p] m λv m'=>∃p' D,v=pgV p'/\PgEq p' p/\PgIn D p'/\St m m' D:=by
 refine qm da4_ok (by simp) ?_;obtain⟨cells,tv,ths⟩:=p;have st1:=(St.nil hm (Ext.refl m)).row [iv cells,tv];obtain⟨m1,hm1⟩:=qi4 (Dx.newRow m [iv cells,tv]);rw[<-hm1]at st1;have st2:=st1.row [zI,zS];obtain⟨m2,hm2⟩:=qi4 (Dx.newRow m1 [zI,zS]);rw[<-hm2]at st2;have l2:∀o s,load1 m2 ⟨m.n,o,s⟩=[iv cells,tv][o]?:=λo s=>(st2.get 1 rfl).2.2.load1 o s;have st3:=st2.row [zI,zS];obtain⟨m3,hm3⟩:=qi4 (Dx.newRow m2 [zI,zS]);rw[<-hm3]at st3;obtain⟨m4,f1,f2,f3,f4⟩:=st3.fill 0 rfl (n:=2) (l':=[iv cells,zS]) rfl rfl (by simp[okC]);have st4:St m m4 [(m2.n,[iv cells,zS]),(m1.n,[zI,zS]),(m.n,[iv cells,tv])]:=f2;obtain⟨n,hn⟩:=qi4 (ths.length);have hll:wB tv=some (.int .i64 (n:Int)):=by rw[hn];exact hp.tv.len
 have hnl:n<=9223372036854775807:=by rw[hn];exact hp.len
 have hsl:ths.length*32<=wk:=hsz.len;have htv:Rd m tv 2 zd ths:=hp.tv;obtain⟨g0,hg0⟩:∃g0:Value,g0=zS:=⟨_,rfl⟩;have C4:CJ m m4 zS [] zS [] [(m2.n,[iv cells,zS]),(m1.n,[zI,zS]),(m.n,[iv cells,tv])]:=by
  refine⟨st4,.nil,.nil,λB hB=>?_,λB hB=>by cases hB⟩;rcases hB with hB | hB<;>cases hB
 unfold pgV;simp[<-hm1,<-hm2,l2,b_pg,<-hm3,f1];refine qq (c:=Dq) rfl (Ret m _) (λi t m'=>∃g ts D,CJ m m' g ts zS [] ([(m2.n,[iv cells,g]),(m1.n,[zI,zS]),(m.n,[iv cells,tv])]++D)/\ts.length=i/\(∀(j:Nat) x,j<i->ths[j]?=some x->∃y,ts[j]?=some y/\ThEq y x)/\(∀t∈ts,ThIn D t)/\(∀t∈ts,∀v∈zd t,okC v=true) /\
   Tm.get 1 t=.pointer (some ⟨m.n,0,none⟩)/\Tm.get 2 t=.pointer (some ⟨m1.n,0,none⟩)/\Tm.get 3 t=.pointer (some ⟨m2.n,0,none⟩)/\Tm.get 4 t=iv i) n hnl
  ⟨_,[],[],C4,rfl,λj x hj=>absurd hj (qhv _),by simp,by simp,by simp,by simp,by simp,by simp⟩ (λi t m' k' hi hI hk'=>?_)
 obtain⟨g,ts,D,hC,hl,he,hin,hokt,t1,t2,t3,t4⟩:=hI;have S:=hC.st.sees;have lp:∀o s,load1 m' ⟨m.n,o,s⟩=[iv cells,tv][o]?:=λo s=>(hC.get 2 rfl).load1 o s;by_cases hil:i<n
 .have hd:=dlt hil;have hd':(i<n)=True:=qi1 hil;have ni:=qK (i:=i) (by omega);obtain⟨th,hth⟩:∃r,ths[i]?=some r:=⟨_,qh5 (by omega)⟩;have hmem:=qh6 hth;obtain⟨x1,x2,x3⟩:=htv.at hth;have xl:∀s,load1 m' ⟨(adr 2 tv i).block,(adr 2 tv i).off,s⟩=some (iv th.loc):=λs=>x3 m' 0 s S (by simp[zd]);have c1:=hC.row [zI,zS];obtain⟨m5,hm5⟩:=qi4 (Dx.newRow m' [zI,zS]);rw[<-hm5]at c1;obtain⟨m6,g1,g2,g3⟩:=c1.fill 0 rfl (n:=2) (l':=[iv th.loc,zS]) rfl rfl (by simp[okC]);have C6:CJ m m6 g ts zS [] (cS m'.n m2.n m1.n m.n th.loc cells zS g tv++D):=g2;simp[t1,t4,lp,hll,hd,x1,xl,b_pg,<-hm5,g1,-Gf];refine GA (th:=th) hm htv hth (hp.ths th hmem) (hsz.ths th hmem) C6 ⟨by simp[t1],by simp[t2],by simp[t3],by simp[t4],by simp,by simp⟩ (λt' m7 ga xs D' t1 t2 t3 t4 t5 hC7 hD hxl hxe hxin=>?_);obtain⟨D2,hC8,has,hD2⟩:=hC7.close;have l3:∀o s,load1 m7 ⟨m2.n,o,s⟩=[iv cells,g][o]?:=λo s=>(hC7.get 1 rfl).load1 o s;have l5:loads m7 ⟨m'.n,0,none⟩ 2=some [iv th.loc,ga]:=(hC7.get 0 rfl).loads (n:=2) (by simp);have okga:okC ga=true:=hC7.gs.okC;obtain⟨nt,hnt⟩:∃nt:Th,nt=⟨th.loc,ga,xs⟩:=⟨_,rfl⟩;have hnr:zd nt=[iv th.loc,ga]:=by rw[hnt];rfl
  have bs:=bs_th nt m7;have C9:=hC8.step (Ext.row m7 (zd nt));obtain⟨m8,hm8⟩:=qi4 (Dx.newRow m7 (zd nt));have hl8:loads m8 ⟨m7.n,0,some 5⟩ 2=some (zd nt):=by rw[hm8];exact (Arr.row m7 _).loads (n:=2) (by rw[hnr];simp)
  rw[<-hm8]at bs C9;obtain⟨g',m9,p1,p2,p3⟩:=jZ C9.gt (by omega) (λ_=>rfl) (x:=nt) (λy hy=>by
   rcases qhu.1 hy with hy | hy
   .exact hokt y hy
   .rw[qhc.1 hy,hnr];simp[okC];exact okga) hl8 C9.st.ext.n (bytes:=32) (by rw[hl];have:=qhq 32 (show i+1<=ths.length by omega);omega) (by rw[hl];unfold wk at hsl;omega)
  have C10:=C9.appT p2 p3;obtain⟨m10,q1,q2,q3⟩:=C10.store 1 rfl (o:=1) (v:=g') (by simp) C10.gt.okC;have C11:CJ m m10 g' (ts++[nt]) zS [] (cS m'.n m2.n m1.n m.n th.loc cells ga g' tv++D2):=q2;have C12:=C11.sub (σ':=[(m2.n,[iv cells,g']),(m1.n,[zI,zS]),(m.n,[iv cells,tv])]++D2) (λp hp=>qhg _ hp) (by have:=C11.st.nd;simp only[List.cons_append,List.map_cons,List.nodup_cons]at this ⊢;exact this.2);rw[hnr]at bs;simp[t3,t4,t5,l3,l5,qb,bs,p1,q1,ni];refine hk' hil _ _ ⟨g',ts++[nt],D2,C12,by simp[hl],λj x hj hx=>?_,λy hy=>?_,λy hy=>?_,by simp[t1],by simp[t2],by simp[t3],by simp⟩
  .by_cases hji:j<i
   .obtain⟨z,h1,h2⟩:=he j x hji hx;exact⟨z,by rw[qhk (by omega)];exact h1,h2⟩
   .obtain rfl:j=i:=by omega
    rw[hth]at hx;cases hx;exact⟨nt,by rw[qhl (by omega)];simp[hl],by rw[hnt],by rw[hnt];exact hxl,λq y hy=>by rw[hnt];exact hxe q y hy⟩
  .rcases qhu.1 hy with hy | hy
   .exact (hin y hy).sub λp hp=>hD2 p (hD p hp)
   .rw[qhc.1 hy,hnt];exact⟨has,λa ha=>(hxin a ha).sub hD2⟩
  .rcases qhu.1 hy with hy | hy
   .exact hokt y hy
   .rw[qhc.1 hy,hnr];simp[okC];exact okga
 .obtain rfl:i=n:=by omega
  have hd:((i:Int)<(i:Int))=False:=qi0 (by omega);have l3:loads m' ⟨m2.n,0,none⟩ 2=some [iv cells,g]:=(hC.get 0 rfl).loads (n:=2) (by simp);have okg:okC g=true:=hC.gt.okC;obtain⟨m8,q1,q2,q3⟩:=hC.fill 1 rfl (n:=2) (l':=[iv cells,g]) rfl rfl (by simp[okC];exact okg);have C8:CJ m m8 g ts zS [] ([(m2.n,[iv cells,g]),(m1.n,[iv cells,g]),(m.n,[iv cells,tv])]++D):=q2;have lf:loads m8 ⟨m1.n,0,none⟩ 2=some [iv cells,g]:=(C8.get 1 rfl).loads (n:=2) (by simp);simp[t1,t2,t3,t4,lp,hll,hd,qb,l3,q1];refine wq (a:=⟨m1.n,0,none⟩) (by simp[t2]) lf C8.st.ext ?_;have hnd:=C8.st.nd;have stD:St m m8 D:=C8.st.sub (λp hp=>List.mem_append_right _ hp) (by simp only[List.cons_append,List.nil_append,List.map_cons,List.nodup_cons]at hnd;exact hnd.2.2.2);have heq:PgEq ⟨cells,g,ts⟩ ⟨cells,tv,ths⟩:=⟨rfl,by show ts.length=ths.length;omega,λj x hx=>he j x (by have h2:j<ths.length:=(qh7.1 hx).1;omega) hx⟩;rcases C8.gt with ⟨h1,h2⟩ | ⟨B,h1,h2,h3,h4,h5⟩
  .exact⟨⟨cells,g,ts⟩,rfl,heq,D,⟨.inl ⟨h1,h2⟩,hin⟩,stD⟩
  .refine⟨⟨cells,g,ts⟩,rfl,heq,(B,ts.flatMap zd)::D,⟨.inr ⟨B,_,h4,by simp⟩,λt ht=>(hin t ht).sub λp hp=>qhg _ hp⟩,stD.add h1 h2 h5 λp hp=>?_⟩;exact C8.sep B (.inl (by rw[h4];rfl)) p (List.mem_append_right _ hp)
end Go.Sx
namespace Go.Dx
open Go.RowKit Go.WideShapes Go.ChangeShapes
noncomputable section
attribute [local irreducible] A.get A.set HI
theorem yp {H:Type}{P:Program}{e:TypeId}{n:Nat}:∀{l:List (DataW H)} {d:DataW H},d∈l->n∈d.weights P e->n∈DataW.weightsAll P e l
 | d0::l,d,hd,hn=>by
  simp only[DataW.weightsAll,qhu];rcases List.mem_cons.1 hd with rfl | h
  .exact .inl hn
  .exact .inr (yp h hn)
theorem Yt {H:Type}{P:Program}{t e:TypeId}{elems rest:List (DataW H × List MemPlace)}{n:Nat}(ht:P.underlying t=some (.slice e)){z:DataW H × List MemPlace}(hz:z∈elems++rest)(hn:n∈z.1.weights P e) :
  n∈(DataW.slice (elems.map (·.1)) (rest.map (·.1))).weights P t:=by
 simp only[DataW.weights,ht,List.mem_cons,qhu];rcases qhu.1 hz with h | h
 .exact .inr (.inl (yp (List.mem_map.2 ⟨z,h,rfl⟩) hn))
 .exact .inr (.inr (yp (List.mem_map.2 ⟨z,h,rfl⟩) hn))
section
variable {H:Type}{enc:TypeId × Value->H}{P:Program}{w:World}
theorem JE {α:Type}[Inhabited α]{t e:TypeId}{sz:Nat}{f:α->List Value}{good:α->Prop}{held:Bool}(ht:P.underlying t=some (.slice e))(hC:P.cellsOf e=sz)(hpos:0<sz)
  (hrow:∀b l n cs y,km w b=some l->DataW.trod enc P w 0 (λ_=>true) held n e cs=some y->(∀c off,MemPlace.cell c off∈y.2->w.frozen? ⟨c,off,none⟩=false)->(∀n∈y.1.weights P e,n<=reachBytes)->∃x:α,cs.map (abC w b)=(f x).map some/\good x)
  (hlen:∀x,(f x).length=sz) {v:Value} {y:DataW H × List MemPlace} {fuel:Nat} (hf:DataW.trod enc P w 0 (λ_=>true) held fuel t [v]=some y) {b:Nat} {l:Loc} (hb:km w b=some l)
  (hz:∀c off,MemPlace.cell c off∈y.2->w.frozen? ⟨c,off,none⟩=false) (hw:∀n∈y.1.weights P t,n<=reachBytes) :
  ∃av es,abC w b v=some av/\Rd (snapM2 w) av sz f es/\(∀x∈es,good x)/\es.length<=9223372036854775807/\(es=[]\/∃elems spare,y.1=.slice elems spare/\elems.length=es.length):=by
 have hbl:∀{B l},km w B=some l->B<(snapM2 w).n:=λ{B l} h=>by
  rw[(snap_facts2 w).1];unfold km at h;split at h
  .rename_i hx;exact (qh9.1 hx).1
  .cases h
 rcases DataW.trod_slice ht hf with ⟨hv,hy⟩ | ⟨a,len,cap,elems,rest,n,_,hv,hy,_,hlc,hcm,hel,hE,hR,_⟩
 .cases hv;exact⟨zS,[],rfl,⟨rfl,λi r hr=>by simp at hr,rfl,λB hB=>by cases hB⟩,(by simp),(by simp),.inl rfl⟩
 .cases hv;obtain⟨hrl,hR⟩:=hR rfl;subst hy;have hwm:∀z∈elems++rest,∀n∈z.1.weights P e,n<=reachBytes:=λz hz n hn=>hw n (Yt ht hz hn);by_cases h0:cap=0
  .subst h0;obtain rfl:len=0:=by omega
   refine⟨.slice (some ⟨b,0,some 1⟩) 0 0,[],rfl,⟨rfl,λi r hr=>by simp at hr,?_,λB hB=>by cases hB;exact hbl hb⟩,(by simp),(by simp),.inl rfl⟩;have hx:=hb;unfold km at hx;split at hx
   .rename_i cs e' fz hh;obtain⟨c,hc⟩:∃c,(snapM2 w).obj b=some (.cells c):=⟨_,by rw[(snap_facts2 w).2.2.2,hh];rfl⟩;show loads (snapM2 w) ⟨b,0,some 1⟩ (([]:List α).length*sz)=some [];rw[List.length_nil,Nat.zero_mul];unfold loads cellsOf;simp only[hc];rfl
   .cases hx
  have hex:∀i,i<cap->∃z:DataW H × List MemPlace,z∈elems++rest/\(w.cells? 0 (a.add (i*P.cellsOf e)) (P.cellsOf e)).bind (DataW.trod enc P w 0 (λ_=>true) held n e)=some z:=λi hi=>by
   by_cases h:i<len
   .exact⟨elems[i],List.mem_append_left _ (List.getElem_mem _),(hE i h).trans (qh5 (by omega))⟩
   .have:=hR (i-len) (by omega);rw[show len+(i-len)=i by omega]at this;exact⟨rest[i-len],List.mem_append_right _ (List.getElem_mem _),this.trans (qh5 (by omega))⟩
  have hcell0:∃v,w.cell? (a.add (0*P.cellsOf e+0))=some v:=by
   obtain⟨z,_,hz'⟩:=hex 0 (by omega);rw[Option.bind_eq_some_iff]at hz';obtain⟨cs,hcs,_⟩:=hz';obtain⟨_,hl,hcell⟩:=World.cells?_some hcs;have:=hcell 0 (by omega);rw[Addr.add_add]at this;exact⟨cs[0],by rw[this,qh5 (by omega)]⟩
  obtain⟨b',off,spot⟩:=a;obtain⟨v0,hv0⟩:=hcell0;obtain⟨hs,cs0,e0,fz0,hh,hoff⟩:=Gy hv0;obtain rfl:spot=none:=by
   cases spot with
   | none=>rfl
   | some s=>exact absurd hs (by unfold Addr.add;split<;>simp_all)
  have hoff':off<=cs0.size:=by
   simp only[add_plain]at hoff;omega
  have hh':w.heap[b']?=some (.cells cs0 e0 fz0):=by simpa only [add_plain]using hh
  have hφ:km w b'=some ⟨b',HI,cs0.size⟩:=by unfold km;rw[hh']
  have hex2:∀i,i<cap->∃x:α,good x/\∀j,j<sz->∃c,w.cell? ⟨b',off+(i*sz+j),none⟩=some c/\abC w b' c=(f x)[j]?:=λi hi=>by
   obtain⟨z,hzm,hz'⟩:=hex i hi;rw[Option.bind_eq_some_iff]at hz';obtain⟨cs,hcs,hz'⟩:=hz';obtain⟨x,hx,hg⟩:=hrow b' _ _ _ _ hφ hz' (λc o hc=>hz c o (List.mem_append_right _ (List.mem_flatMap.2 ⟨z,hzm,hc⟩))) (hwm z hzm);obtain⟨_,hl,hcell⟩:=World.cells?_some hcs;refine⟨x,hg,λj hj=>?_⟩;have hjl:j<cs.length:=by rw[hl,hC];exact hj
   have:=hcell j (by rw[hC];exact hj);refine⟨cs[j],?_,?_⟩
   .rw[<-qh5 hjl,<-this,hC,add_plain,add_plain,Nat.add_assoc]
   .have h2:=congrArg (λl=>l[j]?) hx;simp only[qhm,qh5 hjl,Option.map_some]at h2;rw[qh5 (by rw[hlen];exact hj)]at h2 ⊢;exact Option.some.inj h2
  obtain⟨X,hX⟩:∃X:Nat->α,∀i,i<cap->good (X i)/\∀j,j<sz->∃c,w.cell? ⟨b',off+(i*sz+j),none⟩=some c/\abC w b' c=(f (X i))[j]?:=by
   have hex':∀i,∃x:α,i<cap->good x/\∀j,j<sz->∃c,w.cell? ⟨b',off+(i*sz+j),none⟩=some c/\abC w b' c=(f x)[j]?:=λi=>by
    by_cases h:i<cap
    .obtain⟨x,hx⟩:=hex2 i h;exact⟨x,λ_=>hx⟩
    .exact⟨default,λh'=>absurd h' h⟩
   exact⟨λi=>(hex' i).choose,λi hi=>(hex' i).choose_spec hi⟩
  have hfz:∀i j,i<cap->j<sz->w.frozen? ⟨b',off+(i*sz+j),none⟩=false:=λi j hi hj=>by
   refine hz b' _ (List.mem_append_left _ ?_);unfold MemPlace.row;refine List.mem_map.2 ⟨i*sz+j,?_,rfl⟩;rw[List.mem_range,hel,hrl,hC,show len+(cap-len)=cap by omega];have:=qhq sz (Nat.succ_le_of_lt hi);rw[Nat.succ_mul]at this;omega
  have hcell:∀i j,i<cap->j<sz->∀s,load1 (snapM2 w) ⟨b',off+HI+(i*sz+j),s⟩=(f (X i))[j]?:=λi j hi hj s=>by
   obtain⟨c,hc1,hc2⟩:=(hX i hi).2 j hj;have hjl:j<(f (X i)).length:=by rw[hlen];exact hj
   rw[qh5 hjl]at hc2 ⊢;have:=Yn hc1 (hfz i j hi hj) hc2 s;rw[<-this]
   congr 2
   omega
  refine⟨.slice (some ⟨b',off+HI,some 1⟩) len cap,(List.range len).map X,?_,⟨by simp[wB],λi r hr=>?_,?_,λB hB=>by cases hB;exact hbl hφ⟩,λx hx=>?_,by have h2:maxLen=9223372036854775807:=rfl;rw[List.length_map,List.length_range];omega,?_⟩
  .have hne:¬(len=0/\cap=0):=λh=>h0 h.2;have hcc:abC w b (.slice (some ⟨b',off,none⟩) len cap)=match w.heap[b']? with
     | some (.cells cs _ _)=>if len<=cap/\off<=cs.size then some (.slice (some ⟨b',off+HI,some 1⟩) len cap) else none
     | _=>none:=by
    cases cap with
    | zero=>exact absurd rfl h0
    | succ c=>cases len<;>rfl
   rw[hcc,hh'];simp only;rw[qhz ⟨hlc,hoff'⟩]
  .rw[qhm]at hr;have hi:i<len:=by
    rcases Nat.lt_or_ge i len with h | h
    .exact h
    .rw[qhs (l:=List.range len) (by simpa using h)]at hr;cases hr
   rw[List.getElem?_range hi]at hr;cases hr;refine⟨?_,hbl hφ,?_⟩
   .show (bif Nat.blt i len then yO (i*sz) _ else none)=_
    rw[show Nat.blt i len=true from qhd hi];rfl
   .show loads (snapM2 w) ⟨b',off+HI+i*sz,none⟩ sz=_;have:=Jx (m:=snapM2 w) (B:=b') (s:=none) (f (X i)) (off+HI+i*sz) (λh=>by have:=hlen (X i);rw[h]at this;simp at this;omega) (λj hj=>by
     rw[hlen (X i)]at hj;have:=hcell i j (by omega) hj none;rw[<-this,Nat.add_assoc])
    rw[hlen (X i)]at this;exact this
  .show loads (snapM2 w) ⟨b',off+HI,some 1⟩ (((List.range len).map X).length*sz)=_;have hfl:=wU (f:=f) (λx=>hlen x) ((List.range len).map X);by_cases h0:len=0
   .subst h0;obtain⟨c,hc⟩:∃c,(snapM2 w).obj b'=some (.cells c):=⟨_,by rw[(snap_facts2 w).2.2.2,hh'];rfl⟩;rw[List.range_zero,List.map_nil,List.length_nil,Nat.zero_mul];unfold loads cellsOf;simp only[hc];rfl
   .have:=Jx (m:=snapM2 w) (B:=b') (s:=some 1) (((List.range len).map X).flatMap f) (off+HI) (λh=>by
     have h1:=hfl;rw[h,List.length_map,List.length_range,List.length_nil]at h1;have:=Nat.mul_pos (show 0<len by omega) hpos;omega) (λq hq=>by
     rw[hfl]at hq;rw[List.length_map,List.length_range]at hq;have hdiv:q/sz<len:=by rw[Nat.div_lt_iff_lt_mul hpos];exact hq
     have hmod:=Nat.mod_lt q hpos;have hdm:=Nat.div_add_mod q sz;have h1:=hcell (q/sz) (q%sz) (by omega) hmod (some 1);rw[show q/sz*sz+q%sz=q by rw[Nat.mul_comm];exact hdm]at h1;rw[h1];have h2:=xy (f:=f) (λx=>hlen x) ((List.range len).map X) (q/sz) (X (q/sz)) (by rw[qhm,List.getElem?_range hdiv];rfl);rw[<-h2,List.getElem?_take,qhz hmod,List.getElem?_drop]
     congr 1
     rw[Nat.mul_comm];exact hdm)
    rw[hfl]at this;exact this
  .obtain⟨i,hi,rfl⟩:=List.mem_map.1 hx;exact (hX i (by have:=List.mem_range.1 hi;omega)).1
  .by_cases h0:len=0
   .subst h0;exact .inl rfl
   .exact .inr ⟨_,_,rfl,by simp[hel]⟩
theorem jE {α:Type}[Inhabited α]{t e:TypeId}{sz:Nat}{f:α->List Value}{good:α->Prop}{held:Bool}(ht:P.underlying t=some (.slice e))(hC:P.cellsOf e=sz)(hpos:0<sz)
  (hrow:∀b l n cs y,km w b=some l->DataW.trod enc P w 0 (λ_=>true) held n e cs=some y->(∀c off,MemPlace.cell c off∈y.2->w.frozen? ⟨c,off,none⟩=false)->(∀n∈y.1.weights P e,n<=reachBytes)->∃x:α,cs.map (abC w b)=(f x).map some/\good x)
  (hlen:∀x,(f x).length=sz) {v:Value} {y:DataW H × List MemPlace} {fuel:Nat} (hf:DataW.trod enc P w 0 (λ_=>true) held fuel t [v]=some y) {b:Nat} {l:Loc} (hb:km w b=some l)
  (hz:∀c off,MemPlace.cell c off∈y.2->w.frozen? ⟨c,off,none⟩=false) (hw:∀n∈y.1.weights P t,n<=reachBytes) :
  ∃av es,abC w b v=some av/\Rd (snapM2 w) av sz f es/\(∀x∈es,good x)/\es.length<=9223372036854775807/\es.length*P.bytesOf e<=reachBytes:=by
 obtain⟨av,es,h1,h2,h3,h4,h5⟩:=JE ht hC hpos hrow hlen hf hb hz hw;refine⟨av,es,h1,h2,h3,h4,?_⟩;rcases h5 with rfl | ⟨el,sp,e1,e2⟩
 .simp
 .rw[e1]at hw;have:=hw ((el.length+sp.length)*P.bytesOf e) (by simp[DataW.weights,ht]);rw[Nat.add_mul]at this;rw[<-e2];omega
end
end
end Go.Dx
namespace Go.Sx
open Go.RowKit Go.WideShapes Go.ChangeShapes Go.Dx
structure PZ (P:Program)(tt ta tn:TypeId):Prop where
 t:P.bytesOf tt=32
 a:P.bytesOf ta=136
 n:P.bytesOf tn=32
theorem kO {n b:Nat}(h:n*b<=reachBytes):n*b<=wk:=by
 have h2:reachBytes<=wk:=by decide
 omega
section
variable {H:Type}{enc:TypeId × Value->H}{P:Program}{w:World}{tp ts tt tas ta tns tn ti tu:TypeId}
theorem kD {fs:Array Field}{l:List (TypeId × Nat)}{t t':TypeId}{xs:List (DataW H × List MemPlace)}{i o:Nat}{z:DataW H × List MemPlace}(hs:P.underlying t=some (.struct fs))(hl:fs.toList.map (λf=>(f.type,f.offset))=l)(hi:l[i]?=some (t',o))(hz:xs[i]?=some z)
  (hw:∀n∈(DataW.agg (xs.map (·.1))).weights P t,n<=reachBytes):∀n∈z.1.weights P t',n<=reachBytes:=λn hn=>by
 refine hw n ?_;simp only[DataW.weights,hs];obtain⟨f,q1,q2,q3⟩:=Qr hl hi;refine DataW.weights_mem_each (j:=i) (t:=t') (d:=z.1) ?_ (by rw[qhm,hz];rfl) n hn;rw[qhm];have:fs.toList[i]?=some f:=by simpa using q1
 rw[this,<-q2];rfl
set_option maxRecDepth 100000 in
theorem qe3 (Z:PZ P tt ta tn)(T:PT P tp ts tt tas ta tns tn ti tu)(b:Nat)(l:Dx.Loc)(n:Nat)(cs:List Value)(y:DataW H × List MemPlace)(hb:km w b=some l)(h:DataW.trod enc P w 0 (λ_=>true) true n ta cs=some y)
  (hz:∀c off,MemPlace.cell c off∈y.2->w.frozen? ⟨c,off,none⟩=false) (hw:∀n∈y.1.weights P ta,n<=reachBytes):∃x:Ac,cs.map (abC w b)=(qe x).map some/\AcOK (snapM2 w) x/\FU x:=by
 obtain⟨fs,h1,h2⟩:=T.a;obtain⟨hl,xs,k,hy,hx,hf⟩:=jt h1 h2 h;rw[T.ac]at hl;subst hy;have sl:∀{i:Nat} {z:DataW H × List MemPlace} {v:Value},xs[i]?=some z->(∀n∈z.1.weights P tns,n<=reachBytes)->DataW.trod enc P w 0 (λ_=>true) true k tns [v]=some z->∃av es,abC w b v=some av/\Rd (snapM2 w) av 4 qv es/\es.length<=9223372036854775807/\es.length*32<=wk:=λ{i z v} hi hwz hh=>by
  obtain⟨av,es,q1,q2,_,q3,q4⟩:=jE (α:=Nd) (good:=λ_=>True) (f:=qv) T.ns T.nc (by omega) (λb l n cs y h1 h2 h3 _=>qf0 T b l n cs y h1 h2 h3) (λ_=>rfl) hh hb
   (λc off hc=>hz c off (List.mem_flatMap.2 ⟨z,qh6 hi,hc⟩)) hwz
  rw[Z.n]at q4;exact⟨av,es,q1,q2,q3,kO q4⟩
 match cs,xs,hl,hx with
 | [c0,c1,c2,c3,c4,c5,c6,c7,c8,c9,c10],[y0,y1,y2,y3,y4,y5,y6,y7,y8,y9,y10],_,_ =>
  have g0:=hf 0 ti 0 rfl;have g1:=hf 1 ti 1 rfl;have g2:=hf 2 ti 2 rfl;have g3:=hf 3 ti 3 rfl;have g4:=hf 4 tns 4 rfl;have g5:=hf 5 tns 5 rfl;have g6:=hf 6 tns 6 rfl;have g7:=hf 7 ti 7 rfl;have g8:=hf 8 ti 8 rfl;have g9:=hf 9 ti 9 rfl;have g10:=hf 10 ti 10 rfl;rw[T.ic]at g0 g1 g2 g3 g7 g8 g9 g10;rw[T.nsc]at g4 g5 g6;obtain⟨a0,e0,_⟩:=DataW.trod_int T.i g0;obtain⟨a1,e1,_⟩:=DataW.trod_int T.i g1;obtain⟨a2,e2,_⟩:=DataW.trod_int T.i g2;obtain⟨a3,e3,_⟩:=DataW.trod_int T.i g3;obtain⟨a7,e7,_⟩:=DataW.trod_int T.i g7;obtain⟨a8,e8,_⟩:=DataW.trod_int T.i g8;obtain⟨a9,e9,_⟩:=DataW.trod_int T.i g9;obtain⟨a10,e10,_⟩:=DataW.trod_int T.i g10;obtain⟨v4,l4,p4,q4,r4,z4⟩:=sl (i:=4) rfl (kD h1 h2 (i:=4) (o:=4) rfl rfl hw) g4;obtain⟨v5,l5,p5,q5,r5,z5⟩:=sl (i:=5) rfl (kD h1 h2 (i:=5) (o:=5) rfl rfl hw) g5;obtain⟨v6,l6,p6,q6,r6,z6⟩:=sl (i:=6) rfl (kD h1 h2 (i:=6) (o:=6) rfl rfl hw) g6;simp at e0 e1 e2 e3 e7 e8 e9 e10;refine⟨⟨a0,a1,a2,a3,v4,v5,v6,a7,a8,a9,a10,l4,l5,l6⟩,?_,⟨q4,q5,q6,r4,r5,r6⟩,⟨z4,z5,z6⟩⟩;rw[e0,e1,e2,e3,e7,e8,e9,e10];simp only[List.map_cons,List.map_nil,p4,p5,p6];rfl
theorem Ys (Z:PZ P tt ta tn)(T:PT P tp ts tt tas ta tns tn ti tu)(b:Nat)(l:Dx.Loc)(n:Nat)(cs:List Value)(y:DataW H × List MemPlace)(hb:km w b=some l)(h:DataW.trod enc P w 0 (λ_=>true) true n tt cs=some y)
  (hz:∀c off,MemPlace.cell c off∈y.2->w.frozen? ⟨c,off,none⟩=false) (hw:∀n∈y.1.weights P tt,n<=reachBytes):∃x:Th,cs.map (abC w b)=(zd x).map some/\ThOK (snapM2 w) x/\(x.acts.length*136<=wk/\∀a∈x.acts,FU a):=by
 obtain⟨fs,h1,h2⟩:=T.t;obtain⟨hl,xs,k,hy,hx,hf⟩:=jt h1 h2 h;rw[T.tc]at hl;subst hy
 match cs,xs,hl,hx with
 | [c0,c1],[y0,y1],_,_ =>
  have g0:=hf 0 ti 0 rfl;have g1:=hf 1 tas 1 rfl;rw[T.ic]at g0;rw[T.lc]at g1;obtain⟨a0,e0,_⟩:=DataW.trod_int T.i g0;obtain⟨av,es,q1,q2,q4,q3,q5⟩:=jE (α:=Ac) (good:=λa=>AcOK (snapM2 w) a/\FU a) (f:=qe) T.l T.ac (by omega) (λb l n cs y=>qe3 Z T b l n cs y) (λ_=>rfl) (v:=c1) g1 hb
   (λc off hc=>hz c off (List.mem_flatMap.2 ⟨y1,by simp,hc⟩)) (kD h1 h2 (i:=1) (o:=1) rfl rfl hw)
  rw[Z.a]at q5;simp at e0;refine⟨⟨a0,av,es⟩,?_,⟨q2,λa ha=>(q4 a ha).1,q3⟩,kO q5,λa ha=>(q4 a ha).2⟩;rw[e0];simp only[List.map_cons,List.map_nil,q1];rfl
theorem prog_argW (Z:PZ P tt ta tn)(T:PT P tp ts tt tas ta tns tn ti tu){b0:Nat}{v:Value}{d:DataW H}{pl:List MemPlace}(hv:Value.okWide P w .any b0 tp v)(htypes:P.cellTypes P.depth tp=some [ti,ts])(h:DataW.Trod enc P w 0 (λ_=>true) true tp v d pl)(hz:w.noneFrozen pl)(hw:∀n∈d.weights P tp,n<=reachBytes) :
  ∃p:Pg,VRel (km w) (pgV p) v/\PgOK (snapM2 w) p/\PgSz p:=by
 obtain⟨fs,h1,h2⟩:=T.p;obtain⟨cs,rfl,hsz⟩:=okWide_struct h1 hv;obtain⟨fuel,hf0⟩:=h;obtain⟨hl,xs,k,hy,hx,hf⟩:=jt h1 h2 (show DataW.trod enc P w 0 (λ_=>true) true fuel tp cs.toList=some (d,pl) from hf0);rw[T.pc]at hsz;obtain⟨c0,c1,rfl⟩:=Joins.array2 hsz;injection hy with hy1 hy2;subst hy2;subst hy1
 match xs,hx with
 | [y0,y1],_ =>
  have g0:=hf 0 ti 0 rfl;have g1:=hf 1 ts 1 rfl;rw[T.ic]at g0;rw[T.sc]at g1;obtain⟨a0,e0,_⟩:=DataW.trod_int T.i g0;have g1':DataW.trod enc P w 0 (λ_=>true) true k ts [c1]=some y1:=g1;have hrow:Row.okWide P w .any b0 tp #[c0,c1]:=by
   obtain⟨cs,e,_,hr⟩:∃cs,Value.agg #[c0,c1]=.agg cs/\cs.size=P.cellsOf tp/\Row.okWide P w .any b0 tp cs:=by
    have:=hv;simp only[Value.okWide,h1]at this;exact this
   cases e;exact hr
  obtain⟨tys,hts,_,hcell⟩:=hrow;rw[htypes]at hts;cases hts;obtain⟨u1,hu1,k1⟩:=hcell 1 c1 rfl;cases hu1;simp at e0;subst e0;by_cases hnil:c1=zS
  .subst hnil;refine⟨⟨a0,zS,[]⟩,.agg _ _ (.cons _ _ _ _ (.int _ _) (.cons _ _ _ _ .slN .nil)),⟨⟨rfl,λi r hr=>by simp at hr,rfl,λB hB=>by cases hB⟩,by simp,by simp⟩,⟨by simp,by simp⟩⟩
  .obtain⟨a,len,cap,rfl⟩:∃a len cap,c1=.slice (some a) len cap:=by
    rcases DataW.trod_slice T.s g1' with ⟨hv,_⟩ | ⟨a,len,cap,_,_,_,_,hv,_⟩
    .exact absurd (List.cons.inj hv).1 hnil
    .exact⟨a,len,cap,(List.cons.inj hv).1⟩
   obtain⟨hs,cs',e',fz',hh⟩:=QS T.s k1;have hb:km w a.block=some ⟨a.block,HI,cs'.size⟩:=by unfold km;rw[hh]
   obtain⟨av,es,q1,q2,q4,q3,q5⟩:=jE (α:=Th) (good:=λx=>ThOK (snapM2 w) x/\(x.acts.length*136<=wk/\∀a∈x.acts,FU a)) (f:=zd) T.s T.tc (by omega) (λb l n cs y=>Ys Z T b l n cs y) (λ_=>rfl) g1' hb
    (λc off hc=>hz c off (List.mem_flatMap.2 ⟨y1,by simp,hc⟩)) (kD h1 h2 (i:=1) (o:=1) rfl rfl hw)
   rw[Z.t]at q5;exact⟨⟨a0,av,es⟩,.agg _ _ (.cons _ _ _ _ (.int _ _) (.cons _ _ _ _ (Kw hb q1) .nil)),⟨q2,λx hx=>(q4 x hx).1,q3⟩,⟨kO q5,λx hx=>(q4 x hx).2⟩⟩
end
end Go.Sx
namespace Go.Sx
open Go.Dx Go.Proofs
set_option maxRecDepth 10000
variable [Cdf]
def xu:Wt:=⟨5,0,0,u0,false⟩
def xG:Wt:=⟨6,0,0,u0,false⟩
def adv (acts:List Ac):Nat->Ms->Ms
 | f,s=>match acts[s.at_]? with
  | none=>s
  | some a=>if ownB a then (match f with
   | 0=>s
   | f+1=>adv acts f (kW s a)) else s
def jl (acts:List Ac)(s:Ms):Wt:=match acts[s.at_]? with
 | none=>xu
 | some a=>if ownB a then xG else qi s a
def bg (acts:List Ac)(s:Ms):Ms:={ s with now:=jl acts s }
def qG (acts:List Ac)(s:Ms):Ms:=if s.asked=true/\s.now.what≠6 then s else bg acts (adv acts 100000 { s with asked:=true })
theorem jz {acts:List Ac}{s:Ms}(f:Nat)(h:acts[s.at_]?=none):adv acts f s=s:=by unfold adv;rw[h]
theorem jh {acts:List Ac}{s:Ms}{a:Ac}(f:Nat)(h:acts[s.at_]?=some a)(ho:ownB a=false):adv acts f s=s:=by unfold adv;rw[h];simp[ho]
theorem xw {acts:List Ac}{s:Ms}{a:Ac}(f:Nat)(h:acts[s.at_]?=some a)(ho:ownB a=true):adv acts (f+1) s=adv acts f (kW s a):=by conv=>lhs;unfold adv;rw[h];simp[ho]
theorem jA {acts:List Ac}{s:Ms}:adv acts 0 s=s:=by
 unfold adv;cases acts[s.at_]? with
 | none=>rfl
 | some a=>simp
section
variable {k na:Nat}{cells:Int}{a:Ac}{av:Value}{s:Ms}{Mb Lb R2:Nat}{m m0:M}{acts:List Ac}
def PN (m0:M)(Mb Lb k:Nat)(av:Value)(S:Ms)(v:Value)(m':M):Prop:=Mc m0 m' [Mb,Lb]/\MsAt m' Mb Lb k av S/\v=.agg ⟨wtL S.now⟩
abbrev nS (R2 Mb Lb k:Nat)(av:Value)(s:Ms):List (Nat × List Value):=[(R2,Z6),(Mb,qJ k av (lvV Lb k) s),(Lb,lsR s.ls)]
theorem qcc (hg:AcG k na cells a)(how:ownB a=true)(hat:s.at_<na):(kW s a).at_<=na:=by
 have hop:=qi2 how;unfold kW;split
 .show s.at_+1<=na;omega
 .split
  .have:=hg.t (show pT a.op=true by unfold pT;exact qhx (by omega));show a.to.toNat<=na;omega
  .have:=hg.t (show pT a.op=true by unfold pT;exact qhx (by omega));show (if (zf s.ls a.es).1=0 then a.to.toNat else s.at_+1)<=na
   by_cases hz:(zf s.ls a.es).1=0
   .rw[qhz hz];omega
   .rw[qhy hz];omega
theorem qfb (s:Ms)(a:Ac):(kW s a).ls.length=s.ls.length:=by
 unfold kW;split
 .show (s.ls.set _ _).length=_;simp
 .split<;>rfl
theorem Ow.mach {σ:List (Nat × List Value)}{m':M}{s':Ms}(h:Ow m0 m [Mb,Lb] (σ++[(Mb,qJ k av (lvV Lb k) s),(Lb,lsR s.ls)]))(kk:Mc m m' [Mb,Lb])(hM:MsAt m' Mb Lb k av s'):Ow m0 m' [Mb,Lb] (σ++[(Mb,qJ k av (lvV Lb k) s'),(Lb,lsR s'.ls)]):=by
 have hnd:=h.nd;refine h.call kk (λp hp=>?_) (by simpa using hnd);rcases qhu.1 hp with hp | hp
 .obtain⟨_,h2,h3⟩:=h.arr p (List.mem_append_left _ hp);refine⟨⟨p,List.mem_append_left _ hp,rfl⟩,h3.congr (kk.obj _ h2 ?_)⟩;rw[List.map_append,List.nodup_append]at hnd;have:=hnd.2.2 p.1 (List.mem_map.2 ⟨p,hp,rfl⟩);simp at this ⊢;exact this
 .simp only[List.mem_cons,List.not_mem_nil,or_false]at hp;rcases hp with rfl | rfl
  .exact⟨⟨_,List.mem_append_right _ (qho ..),rfl⟩,hM.row⟩
  .exact⟨⟨_,List.mem_append_right _ (qhg _ (qho ..)),rfl⟩,hM.ls⟩
theorem VL (hc:cells<=4096)(hE:Env m0 Mb Lb av acts)(hg:AcG k na cells a)(hat:s.at_<9223372036854775807)(ha:acts[s.at_]?=some a)(hl:s.ls.length=k)(hne:Mb≠Lb)
  (h:Ow m0 m [Mb,Lb] (nS R2 Mb Lb k av s)) {t:Tm} {j:Nat} (t0:Tm.get 0 t=mP Mb) (t2:Tm.get 2 t=.pointer (some ⟨R2,0,none⟩)) (t25:Tm.get 25 t=iv j) {N:Nat} {kn:K} {ke:Nat->K} {S:Ms}
  (hS:ownB a=false->S={ s with now:=qi s a })
  (H:ownB a=true->∀t' m',Tm.get 0 t'=mP Mb->Tm.get 2 t'=.pointer (some ⟨R2,0,none⟩)->Tm.get 25 t'=iv j->Ow m0 m' [Mb,Lb] (nS R2 Mb Lb k av (kW s a))->yN (PN m0 Mb Lb k av S) (kn t' m')) :
  yN (PN m0 Mb Lb k av S) (Va (ex Tryz.prog (N+5)) kn ke (wN [.cell 2 6]) t m):=by
 have hM:MsAt m Mb Lb k av s:=Ow.msAt h 1 2 rfl rfl hl;have hEm:=hE.mc h.mc;have hm:=h.mb;obtain⟨v3,m3,c1,c2,rfl⟩:=BS hEm hM ha (N+4) hm;have ow3:=h.step c2;have ow4:=ow3.row Z11;obtain⟨m4,hm4⟩:=qi4 (Dx.newRow m3 Z11);rw[<-hm4]at ow4;have haok:=hEm.ok a (qh6 ha);obtain⟨m5,g1,g3,g4,g5⟩:=ow4.storeN 0 rfl (o:=0) (l':=qe a) (n:=11) (by omega) rfl (by simp) (zn haok.1);have ow5:Ow m0 m5 [Mb,Lb] ((m3.n,qe a)::nS R2 Mb Lb k av s):=by
  have h:=g3;rw[kX (by rfl)]at h;exact h
 have l5:∀o s',load1 m5 ⟨m3.n,o,s'⟩=(qe a)[o]?:=λo s'=>(ow5.get 0 rfl).2.2.load1 o s';simp only[qe]at l5;have E5:=hE.mc ow5.mc;have hM5:MsAt m5 Mb Lb k av s:=Ow.msAt ow5 2 3 rfl rfl hl;obtain⟨v6,m6',d1,d2,d3,rfl⟩:=qZ (FR (N+4) (ql m5) (qp (Sees.refl ow5.mb)).base);obtain⟨m6,hm6⟩:=qi4 (behind m5 m6');rw[<-hm6]at d3;have ow6:=ow5.step d3;have l6:∀o s',load1 m6 ⟨m3.n,o,s'⟩=(qe a)[o]?:=λo s'=>(ow6.get 0 rfl).2.2.load1 o s';simp only[qe]at l6;have l6n:loads m6 ⟨m3.n,0,none⟩ 11=some (qe a):=(ow6.get 0 rfl).2.2.loads (n:=11) (by simp[qe]);have E6:=E5.ext d3;have hM6:=hM5.ext d3;have haok6:=E6.ok a (qh6 ha);have hwi:=FT hg.op.1 hg.op.2;cases how:ownB a with
 | true =>
  have ok6:=(E6.any ow6.mb).ok a (qh6 ha);obtain⟨v7,m7',e1,e2,e3,rfl⟩:=Bh hg how (N+1) (qp (Sees.refl ow6.mb)).base hne hM6.any hat ok6.1 ok6.2;obtain⟨m7,hm7⟩:=qi4 (behind m6 m7');have e2':=e2.behind;rw[<-hm7]at e2';have e3':MsAt m7 Mb Lb k av (kW s a):=e3.congr (by rw[hm7,wj];exact qh8 _) (by rw[hm7,qB]) (by rw[hm7,qB]);have ow7:Ow m0 m7 [Mb,Lb] ((m3.n,qe a)::nS R2 Mb Lb k av (kW s a)):=Ow.mach (σ:=[(m3.n,qe a),(R2,Z6)]) ow6 e2' e3';have ow8:=ow7.row Z6;obtain⟨m8,hm8⟩:=qi4 (Dx.newRow m7 Z6);rw[<-hm8]at ow8;obtain⟨m9',i1,i2,i3,i4,i5⟩:=ow8.storeNAny 0 rfl (o:=0) (l':=Z6) (n:=6) (by omega) rfl (by simp) (by simp[okC]);obtain⟨m9,hm9⟩:=qi4 (behind m8 m9');rw[<-hm9]at i3;have ow9:Ow m0 m9 [Mb,Lb] ((m7.n,Z6)::(m3.n,qe a)::nS R2 Mb Lb k av (kW s a)):=by
   have h:=i3;rw[kX (by rfl)]at h;exact h
  have l9n:loads m9 ⟨m3.n,0,none⟩ 11=some (qe a):=(ow9.get 1 rfl).2.2.loads (n:=11) (by simp[qe]);obtain⟨v10,m10,j1,j2,rfl⟩:=qcd a (N+4) m9;rw[how]at j1;have ow10:=ow9.step j2;have ow11:=ow10.sub (σ':=nS R2 Mb Lb k av (kW s a)) (λp hp=>qhg _ (qhg _ hp)) (by have:=ow10.nd;simp only[List.map_cons,List.nodup_cons]at this ⊢;exact this.2.2);simp[t0,c1,<-hm4,g1,d1,d2,<-hm6,yB,l6,hwi,l6n,qb,e1,<-hm7,<-hm8,i1,i2,<-hm9,l9n,j1];exact H how _ _ (by simp[t0]) (by simp[t2]) (by simp[t25]) ow11
 | false =>
  obtain⟨v7,m7',e1,e2,e3,rfl⟩:=qZ (qdv hc hg how N (qp (Sees.refl ow6.mb)).base hM6.any (haok6.1.sees (qp (Sees.refl ow6.mb))));obtain⟨m7,hm7⟩:=qi4 (behind m6 m7');rw[<-hm7]at e3;have ow7:=ow6.step e3;have hS':=hS how;obtain⟨w,hw⟩:=qi4 (qi s a);rw[<-hw]at e1 hS';have ow8:=ow7.row Z6;obtain⟨m8,hm8⟩:=qi4 (Dx.newRow m7 Z6);rw[<-hm8]at ow8;obtain⟨m9',i1,i2,i3,i4,i5⟩:=ow8.storeNAny 0 rfl (o:=0) (l':=wtL w) (n:=6) (by omega) rfl (by simp) (jL w);obtain⟨m9,hm9⟩:=qi4 (behind m8 m9');rw[<-hm9]at i3;have ow9:Ow m0 m9 [Mb,Lb] ((m7.n,wtL w)::(m3.n,qe a)::nS R2 Mb Lb k av s):=by
   have h:=i3;rw[kX (by rfl)]at h;exact h
  have l9n:loads m9 ⟨m3.n,0,none⟩ 11=some (qe a):=(ow9.get 1 rfl).2.2.loads (n:=11) (by simp[qe]);obtain⟨v10,m10,j1,j2,rfl⟩:=qcd a (N+4) m9;rw[how]at j1;have ow10:=ow9.step j2;have l10:loads m10 ⟨m7.n,0,none⟩ 6=some (wtL w):=(ow10.get 0 rfl).2.2.loads (n:=6) (by simp[wtL]);obtain⟨m11,n1,n3,n4,n5⟩:=ow10.storeN 3 rfl (o:=4) (l':=wtL w) (n:=6) (by omega) rfl (by simp[qJ]) (jL w);have l11:loads m11 ⟨m7.n,0,none⟩ 6=some (wtL w):=(n3.get 0 rfl).2.2.loads (n:=6) (by simp[wtL]);obtain⟨m12,o1,o3,o4,o5⟩:=n3.storeN 2 rfl (o:=0) (l':=wtL w) (n:=6) (by omega) rfl (by simp) (jL w);have lf:loads m12 ⟨R2,0,none⟩ 6=some (wtL w):=by
   have:=(o3.get 2 rfl).2.2.loads (o:=0) (s:=none) (n:=6) (by rw[jF];simp);rw[kX (by rfl)]at this;exact this
  have hs:MsAt m12 Mb Lb k av S:=by
   refine Ow.msAt o3 3 4 ?_ (by rw[hS'];rfl) (by rw[hS'];exact hl);show some (Mb,over (qJ k av (lvV Lb k) s) 4 (wtL w))=_;rw[hS'];rfl
  simp[t0,t2,c1,<-hm4,g1,d1,d2,<-hm6,yB,l6,hwi,l6n,qb,e1,<-hm7,<-hm8,i1,i2,<-hm9,l9n,j1,l10,n1,l11,o1];exact jC (a:=⟨R2,0,none⟩) (by simp[t2]) lf ⟨o3.mc,hs,by rw[hS']⟩
theorem Za (hl:s.ls.length=k)(h:Ow m0 m [Mb,Lb] (nS R2 Mb Lb k av s)){t:Tm}(t0:Tm.get 0 t=mP Mb)(t2:Tm.get 2 t=.pointer (some ⟨R2,0,none⟩)){x:Ex}{kn:K}{ke:Nat->K} :
  yN (PN m0 Mb Lb k av s) (Vb x kn ke (wN [.cell 2 6]) t m):=by
 have l6:loads m ⟨Mb,4,none⟩ 6=some (wtL s.now):=by
  have:=(h.get 1 rfl).2.2.loads (o:=4) (s:=none) (n:=6) (by simp[qJ]);rw[this];rfl
 obtain⟨m4,i1,i3,i4,i5⟩:=h.storeN 0 rfl (o:=0) (l':=wtL s.now) (n:=6) (by omega) rfl (by simp) (jL s.now);have hM4:MsAt m4 Mb Lb k av s:=Ow.msAt i3 1 2 rfl rfl hl;have lf:loads m4 ⟨R2,0,none⟩ 6=some (wtL s.now):=by
  have:=(i3.get 0 rfl).2.2.loads (o:=0) (s:=none) (n:=6) (by rw[jF];simp);rw[kX (by rfl)]at this;exact this
 simp[t0,t2,l6,qb,i1];exact jC (a:=⟨R2,0,none⟩) (by simp[t2]) lf ⟨i3.mc,hM4,rfl⟩
theorem GV (hc:cells<=4096)(hE:Env m0 Mb Lb av acts)(hgs:∀a∈acts,AcG k acts.length cells a)(hal:acts.length<=65536)(hat:s.at_<=acts.length)(hl:s.ls.length=k)(hne:Mb≠Lb)
  (h:Ow m0 m [Mb,Lb] (nS R2 Mb Lb k av s)) {t:Tm} (t0:Tm.get 0 t=mP Mb) (t2:Tm.get 2 t=.pointer (some ⟨R2,0,none⟩)) {N:Nat} {kn:K} {ke:Nat->K} {S:Ms} (hS:S=bg acts s) :
  yN (PN m0 Mb Lb k av S) (Vc (ex Tryz.prog (N+5)) kn ke (wN [.cell 2 6]) t m):=by
 have hlen:wB av=some (.int .i64 (acts.length:Int)):=hE.rav.len;have bf:wg Z6 [(0,1,.int .i64 6)]=some (.agg ⟨wtL xG⟩):=rfl;obtain⟨m1,g1,g3,g4,g5⟩:=h.storeN 1 rfl (o:=4) (l':=wtL xG) (n:=6) (by omega) rfl (by simp[qJ]) (jL xG);have ow1:Ow m0 m1 [Mb,Lb] (nS R2 Mb Lb k av { s with now:=xG }):=g3;have hM1:MsAt m1 Mb Lb k av { s with now:=xG }:=Ow.msAt ow1 1 2 rfl rfl hl;have lM:∀o s',load1 m1 ⟨Mb,o,s'⟩=(qJ k av (lvV Lb k) { s with now:=xG })[o]?:=λo s'=>(ow1.get 1 rfl).2.2.load1 o s';simp only[qJ]at lM;have hEm:=hE.mc ow1.mc;have hm:=ow1.mb;cases ha:acts[s.at_]? with
 | none =>
  have hge:=List.getElem?_eq_none_iff.1 ha;have de:decide (((s.at_:Nat):Int)=((acts.length:Nat):Int))=true:=qhx (by omega);have de':decide (s.at_=acts.length)=true:=qhx (by omega);have hSe:S={ s with now:=xu }:=by rw[hS];unfold bg jl;rw[ha]
  rw[hSe];obtain⟨m2,i1,i3,i4,i5⟩:=ow1.store 1 rfl (o:=4) (v:=.int .i64 5) (by simp[qJ]) rfl;have ow2:Ow m0 m2 [Mb,Lb] (nS R2 Mb Lb k av { s with now:=xu }):=i3;simp[t0,bf,g1,lM,hlen,de,i1,-gZ];exact Za (s:={ s with now:=xu }) hl ow2 (by simp[t0]) (by simp[t2])
 | some a =>
  have hlt:=(qh7.1 ha).1;have hmem:=qh6 ha;have hg:=hgs a hmem;have dne:decide (((s.at_:Nat):Int)=((acts.length:Nat):Int))=false:=qhw (by omega);have dne':decide (s.at_=acts.length)=false:=qhw (by omega);obtain⟨v3,m3,c1,c2,rfl⟩:=BS hEm hM1 ha (N+4) hm;have ow3:=ow1.step c2;have ow4:=ow3.row Z11;obtain⟨m4,hm4⟩:=qi4 (Dx.newRow m3 Z11);rw[<-hm4]at ow4;have haok:=hEm.ok a hmem;obtain⟨m5,j1,j3,j4,j5⟩:=ow4.storeN 0 rfl (o:=0) (l':=qe a) (n:=11) (by omega) rfl (by simp) (zn haok.1);have ow5:Ow m0 m5 [Mb,Lb] ((m3.n,qe a)::nS R2 Mb Lb k av { s with now:=xG }):=by
   have h:=j3;rw[kX (by rfl)]at h;exact h
  have l5n:loads m5 ⟨m3.n,0,none⟩ 11=some (qe a):=(ow5.get 0 rfl).2.2.loads (n:=11) (by simp[qe]);obtain⟨v6,m6,d1,d2,rfl⟩:=qcd a (N+4) m5;have ow6:=ow5.step d2;cases how:ownB a with
  | true =>
   rw[how]at d1;have hSe:S={ s with now:=xG }:=by rw[hS];unfold bg jl;rw[ha];simp[how]
   rw[hSe];have ow7:=ow6.sub (σ':=nS R2 Mb Lb k av { s with now:=xG }) (λp hp=>qhg _ hp) (by have:=ow6.nd;simp only[List.map_cons,List.nodup_cons]at this ⊢;exact this.2);simp[t0,bf,g1,lM,hlen,dne,c1,<-hm4,j1,l5n,qb,d1,-gZ];exact Za (s:={ s with now:=xG }) hl ow7 (by simp[t0]) (by simp[t2])
  | false =>
   rw[how]at d1;have hSe:S={ s with now:=qi s a }:=by rw[hS];unfold bg jl;rw[ha];simp[how]
   rw[hSe];have E6:=hE.mc ow6.mc;have hM6:MsAt m6 Mb Lb k av { s with now:=xG }:=Ow.msAt ow6 2 3 rfl rfl hl;obtain⟨v7,m7',e1,e2,e3,rfl⟩:=qZ (FR (N+4) (ql m6) (qp (Sees.refl ow6.mb)).base);obtain⟨m7,hm7⟩:=qi4 (behind m6 m7');rw[<-hm7]at e3;have ow7:=ow6.step e3;have l7:∀o s',load1 m7 ⟨m3.n,o,s'⟩=(qe a)[o]?:=λo s'=>(ow7.get 0 rfl).2.2.load1 o s';simp only[qe]at l7;have l7n:loads m7 ⟨m3.n,0,none⟩ 11=some (qe a):=(ow7.get 0 rfl).2.2.loads (n:=11) (by simp[qe]);have E7:=E6.ext e3;have hM7:=hM6.ext e3;have haok7:=E7.ok a hmem;have hwi:=FT hg.op.1 hg.op.2;obtain⟨v8,m8',f1,f2,f3,rfl⟩:=qZ (qdv hc hg how N (qp (Sees.refl ow7.mb)).base hM7.any (haok7.1.sees (qp (Sees.refl ow7.mb))));obtain⟨m8,hm8⟩:=qi4 (behind m7 m8');rw[<-hm8]at f3;have ow8:=ow7.step f3;have hw:qi { s with now:=xG } a=qi s a:=rfl;rw[hw]at f1;obtain⟨w,hww⟩:=qi4 (qi s a);rw[<-hww]at f1 ⊢;obtain⟨m9',i1,i2,i3,i4,i5⟩:=ow8.storeNAny 2 rfl (o:=4) (l':=wtL w) (n:=6) (by omega) rfl (by simp[qJ]) (jL w);obtain⟨m9,hm9⟩:=qi4 (behind m8 m9');rw[<-hm9]at i3;have ow9:Ow m0 m9 [Mb,Lb] ((m3.n,qe a)::nS R2 Mb Lb k av { s with now:=w }):=i3;have ow10:=ow9.sub (σ':=nS R2 Mb Lb k av { s with now:=w }) (λp hp=>qhg _ hp) (by have:=ow9.nd;simp only[List.map_cons,List.nodup_cons]at this ⊢;exact this.2);simp[t0,bf,g1,lM,hlen,dne,c1,<-hm4,j1,l5n,qb,d1,e1,e2,<-hm7,yB,l7,hwi,l7n,f1,f2,<-hm8,i1,i2,<-hm9,-gZ];exact Za (s:={ s with now:=w }) hl ow10 (by simp[t0]) (by simp[t2])
theorem qeu (hc:cells<=4096)(hE:Env m Mb Lb av acts)(hgs:∀a∈acts,AcG k acts.length cells a)(hal:acts.length<=65536)(hat:s.at_<=acts.length)(N:Nat)(hm:m.base<=m.n)(hne:Mb≠Lb)(hM:MsAt m Mb Lb k av s) :
  WrC (ex Tryz.prog (N+6)) 59 [mP Mb] m Mb Lb k av (qG acts s) (.agg ⟨wtL (qG acts s).now⟩):=by
 refine zM (Q:=PN m Mb Lb k av (qG acts s)) dd3_ok (by simp) ?_;have ow0:=hM.ow hne hm;have ow1:=ow0.row Z6;obtain⟨m1,hm1⟩:=qi4 (Dx.newRow m Z6);rw[<-hm1]at ow1;have l1:∀o s',load1 m1 ⟨Mb,o,s'⟩=(qJ k av (lvV Lb k) s)[o]?:=λo s'=>(ow1.get 1 rfl).2.2.load1 o s';simp only[qJ]at l1;have hlen:wB av=some (.int .i64 (acts.length:Int)):=hE.rav.len;by_cases hq:s.asked=true/\s.now.what≠6
 .have hS:qG acts s=s:=qhz hq;rw[hS];rw[hq.1]at l1;have d6:decide (s.now.what=6)=false:=qhw hq.2;have l6:loads m1 ⟨Mb,4,none⟩ 6=some (wtL s.now):=by
   have:=(ow1.get 1 rfl).2.2.loads (o:=4) (s:=none) (n:=6) (by simp[qJ]);rw[this];rfl
  obtain⟨m2,f1,f3,f4,f5⟩:=ow1.storeN 0 rfl (o:=0) (l':=wtL s.now) (n:=6) (by omega) rfl (by simp) (jL s.now);have hM2:MsAt m2 Mb Lb k av s:=Ow.msAt f3 1 2 rfl rfl hM.len;have lf:loads m2 ⟨m.n,0,none⟩ 6=some (wtL s.now):=by
   have:=(f3.get 0 rfl).2.2.loads (o:=0) (s:=none) (n:=6) (by rw[jF];simp);rw[kX (by rfl)]at this;exact this
  simp[<-hm1,l1,d6,l6,qb,f1];exact jC (a:=⟨m.n,0,none⟩) (by simp) lf ⟨f3.mc,hM2,rfl⟩
 have hS:qG acts s=bg acts (adv acts 100000 { s with asked:=true }):=qhy hq;obtain⟨S,hSe⟩:=qi4 (qG acts s);rw[<-hSe];rw[<-hSe]at hS;obtain⟨m2,f1,f3,f4,f5⟩:=ow1.store 1 rfl (o:=10) (v:=zT) (by simp[qJ]) rfl;have ow2:Ow m m2 [Mb,Lb] (nS m.n Mb Lb k av { s with asked:=true }):=f3;have go:∀tt,Tm.get 0 tt=mP Mb->Tm.get 2 tt=.pointer (some ⟨m.n,0,none⟩)->yN (PN m Mb Lb k av S) (Vd (ex Tryz.prog (N+5)) (wN [.cell 2 6]) noK (wN [.cell 2 6]) tt m2):=λtt u0 u2=>by
  simp[-WF];refine qq (c:=qa3) rfl (yN _) (λj t m'=>∃sj,Ow m m' [Mb,Lb] (nS m.n Mb Lb k av sj)/\sj.ls.length=k/\sj.at_<=acts.length/\S=bg acts (adv acts (100000-j) sj)/\Tm.get 0 t=mP Mb/\Tm.get 2 t=.pointer (some ⟨m.n,0,none⟩)/\Tm.get 25 t=iv j) 100000 (by omega)
   ⟨_,ow2,hM.len,hat,hS,by simp[u0],by simp[u2],by simp⟩ (λj t m' k' hj hI hk'=>?_)
  obtain⟨sj,ow,hl,hatj,hSj,t0,t2,t25⟩:=hI;have lM:∀o s',load1 m' ⟨Mb,o,s'⟩=(qJ k av (lvV Lb k) sj)[o]?:=λo s'=>(ow.get 1 rfl).2.2.load1 o s';simp only[qJ]at lM;by_cases hjl:j<100000
  .have hd:((j:Int)<100000)=True:=qi1 (by omega);have hd':(j<100000)=True:=qi1 hjl;cases ha:acts[sj.at_]? with
   | none =>
    have hge:=List.getElem?_eq_none_iff.1 ha;have de:decide (((sj.at_:Nat):Int)=((acts.length:Nat):Int))=true:=qhx (by omega);have de':decide (sj.at_=acts.length)=true:=qhx (by omega);have hSe:S={ sj with now:=xu }:=by rw[hSj,jz _ ha];unfold bg jl;rw[ha]
    have bh:wg Z6 [(0,1,.int .i64 5)]=some (.agg ⟨wtL xu⟩):=rfl;obtain⟨m3,g1,g3,g4,g5⟩:=ow.storeN 1 rfl (o:=4) (l':=wtL xu) (n:=6) (by omega) rfl (by simp[qJ]) (jL xu);have ow3:Ow m m3 [Mb,Lb] (nS m.n Mb Lb k av { sj with now:=xu }):=g3;have l6:loads m3 ⟨Mb,4,none⟩ 6=some (wtL xu):=by
     have:=(ow3.get 1 rfl).2.2.loads (o:=4) (s:=none) (n:=6) (by simp[qJ]);rw[this];rfl
    obtain⟨m4,i1,i3,i4,i5⟩:=ow3.storeN 0 rfl (o:=0) (l':=wtL xu) (n:=6) (by omega) rfl (by simp) (jL xu);have hM4:MsAt m4 Mb Lb k av { sj with now:=xu }:=Ow.msAt i3 1 2 rfl rfl hl;have lf:loads m4 ⟨m.n,0,none⟩ 6=some (wtL xu):=by
     have:=(i3.get 0 rfl).2.2.loads (o:=0) (s:=none) (n:=6) (by rw[jF];simp);rw[kX (by rfl)]at this;exact this
    simp[t0,t2,t25,hd,lM,hlen,de,bh,g1,l6,qb,i1];refine jC (a:=⟨m.n,0,none⟩) (by simp[t2]) lf ⟨i3.mc,by rw[hSe];exact hM4,by rw[hSe]⟩
   | some a =>
    have hlt:=(qh7.1 ha).1;have hmem:=qh6 ha;have dne:decide (((sj.at_:Nat):Int)=((acts.length:Nat):Int))=false:=qhw (by omega);have dne':decide (sj.at_=acts.length)=false:=qhw (by omega);have nj:=qK (i:=j) (by omega);simp[t0,t25,hd,lM,hlen,dne,-Gq];refine VL (j:=j) (R2:=m.n) (s:=sj) (S:=S) hc hE (hgs a hmem) (by omega) ha hl hne ow (by simp[t0]) (by simp[t2]) (by simp[t25]) (λho=>?_) (λho t' m2' t0 t2 t25 ow'=>?_)
    .rw[hSj,jh _ ha ho];unfold bg jl;rw[ha];simp[ho]
    .simp[t25,nj];refine hk' hjl _ _ ⟨kW sj a,ow',by rw[qfb];exact hl,qcc (hgs a hmem) ho hlt,?_,by simp[t0],by simp[t2],by simp⟩;rw[hSj,show 100000-j=(100000-(j+1))+1 by omega,xw _ ha ho]
  .obtain rfl:j=100000:=by omega
   have hd:((100000:Int)<100000)=False:=qi0 (by omega);rw[Nat.sub_self,jA]at hSj;simp[t25,-WF];exact GV hc hE hgs hal hatj hl hne ow (by simp[t0]) (by simp[t2]) hSj
 cases hask:s.asked with
 | false =>
  rw[hask]at l1;simp[<-hm1,l1,f1,-WG];exact go _ (by simp) (by simp)
 | true =>
  have h6:s.now.what=6:=Classical.byContradiction λh=>hq ⟨hask,h⟩;have d6:decide (s.now.what=6)=true:=qhx h6;rw[hask]at l1;simp[<-hm1,l1,d6,f1,-WG];exact go _ (by simp) (by simp)
end
end Go.Sx
