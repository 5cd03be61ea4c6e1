/- Contracts. -/
import Derived.Test.YtkacohbklkmnaaaGreatGj
set_option linter.unusedVariables false
set_option linter.unusedSimpArgs false
set_option linter.defProp false
set_option maxHeartbeats 2000000
namespace Go.Sx
open Go.Dx Go.Proofs
set_option maxRecDepth 10000
def rmP2 (EV:List Ev5)(RM:List (Int × Int)):Prop:=∀i p,RM[i]?=some p->fw RM i p=true/\isB EV p.1 1=true/\isB EV p.2 2=true/\db EV p.1 p.2/\dj EV p=true
theorem qg3 {EV:List Ev5}{RM:List (Int × Int)}:rmP EV (nxL EV) RM ↔ rmP2 EV RM:=by
 unfold rmP rmP2 rmB;refine forall_congr' λi=>forall_congr' λp=>forall_congr' λ_=>?_;simp only[qhb];refine and_congr_right λ_=>and_congr_right λh1=>and_congr_right λh2=>and_congr_left λ_=>qf1 h1 h2
section
variable {m:M}{h:Gh}{EV:List Ev5}{RM:List (Int × Int)}
theorem rrmw_c (n:Nat)(hm:m.base<=m.n)(hev:Rd m h.ev 5 qh EV)(hrm:Rd m h.rm 2 qn RM)(hrl:RM.length<=4611686018427387904)(hn2:EV.length<=256) :
  Dx.Call (ex Tryz.prog (n+3)) 66 [.agg ⟨ghL h⟩] m (bU (rmP2 EV RM)):=by
 refine qm dd9_ok (by simp) ?_;have hln:=hrm.len;have st1:=(St.nil hm (Ext.refl m)).row (ghL h);obtain⟨m1,hm1⟩:=qi4 (Dx.newRow m (ghL h));rw[<-hm1]at st1;have S1:=st1.sees;have hlt1:m.n<m1.n:=by rw[hm1];simp
 have rd:∀m',Sees m1 m'->(∀o s,load1 m' ⟨m.n,o,s⟩=(ghL h)[o]?)/\loads m' ⟨m.n,0,none⟩ 8=some (ghL h):=λm' k =>
  ⟨λo s=>by rw[wi k hlt1];exact (st1.get 0 rfl).2.2.load1 o s,by rw[zY k hlt1];exact (st1.get 0 rfl).2.2.loads (n:=8) (by simp[ghL])⟩
 simp[<-hm1];refine qq (c:=qa9) rfl (Ret m _) (λi t m'=>Tm.get 1 t=.pointer (some ⟨m.n,0,none⟩)/\Tm.get 3 t=iv i/\Ext m1 m'/\∀j p,j<i->RM[j]?=some p->fw RM j p=true/\isB EV p.1 1=true/\isB EV p.2 2=true/\db EV p.1 p.2/\dj EV p=true) RM.length (by omega)
  ⟨by simp,by simp,Ext.refl _,λj p hj=>by omega⟩ (λi t m' k hi hI hk=>?_)
 obtain⟨h1,h3,hE,hB⟩:=hI;have S1':Sees m1 m':=(Sees.refl S1.self.base).ext hE;have hS:Sees m m':=S1.ext hE;have EE:Ext m m':=st1.ext.trans hE;have k4:load1 m' ⟨m.n,4,none⟩=some h.rm:=(rd m' S1').1 4 none;by_cases hil:i<RM.length
 .obtain⟨⟨a,b⟩,he⟩:∃p,RM[i]?=some p:=⟨_,qh5 hil⟩;have ⟨a1,a2,a3⟩:=(hrm.sees hS).at he;have a2':loads m' (adr 2 h.rm i) 2=some (qn (a,b)):=a2 m' hS.self;have hd:=dlt hil;have w1:=qK (i:=i) (by omega);obtain⟨m2,s1,s2,s3,s4,s5⟩:=wK (m:=m') hS.base (zs:=[zI,zI]) (l:=qn (a,b)) (v:=.agg ⟨qn (a,b)⟩) (n:=2) rfl rfl rfl (zm _);have hE2:Ext m1 m2:=hE.trans s4;have EE2:Ext m m2:=EE.trans s4;have T2:Sees m1 m2:=S1'.ext s4;have hS2:Sees m m2:=hS.ext s4;have b0:∀M3,Ext m2 M3->load1 M3 ⟨m'.n,0,none⟩=some (iv a)/\load1 M3 ⟨m'.n,1,none⟩=some (iv b):=λM3 E3=>by
   have S3:=(Sees.refl hS2.base).ext E3;rw[wi S3 s5,wi S3 s5,s2,s2];exact⟨rfl,rfl⟩
  have b00:=(b0 m2 (Ext.refl _)).1;have hyes:(fw RM i (a,b)=true/\isB EV a 1=true/\isB EV b 2=true/\db EV a b/\dj EV (a,b)=true)->∀j p,j<i+1->RM[j]?=some p->fw RM j p=true/\isB EV p.1 1=true/\isB EV p.2 2=true/\db EV p.1 p.2/\dj EV p=true:=by
   intro hb j e2 u1 u2;by_cases hj:j<i
   .exact hB j e2 hj u2
   .have hji:j=i:=by omega
    rw[hji,he]at u2;cases u2;rw[hji];exact hb
  have hno:¬(fw RM i (a,b)=true/\isB EV a 1=true/\isB EV b 2=true/\db EV a b/\dj EV (a,b)=true)->(((i:Nat):Int)<0 ↔ rmP2 EV RM):=λhb=>⟨λhc=>by omega,λhc=>absurd (hc i _ he) hb⟩;have L8:loads m2 ⟨m.n,0,none⟩ 8=some (ghL h):=(rd m2 T2).2;obtain⟨v3,m3,c1,c1e,rfl⟩:=Xf (h:=h) (n+1) (m:=ql m2) (by rw[qt,qW];exact qh8 _) ((hev.sees hS2).sees (qp hS2.self)) (by omega) a 1;have E3:Ext m2 (behind m2 m3):=c1e.behind;have T3:Sees m1 (behind m2 m3):=T2.ext E3;have S3:Sees m (behind m2 m3):=hS2.ext E3;obtain⟨v4,m4,c2,c2e,rfl⟩:=Xf (h:=h) (n+1) (m:=ql (behind m2 m3)) (by rw[qt,qW];exact qh8 _) ((hev.sees S3).sees (qp S3.self)) (by omega) b 2;have E4:Ext m2 (behind (behind m2 m3) m4):=E3.trans c2e.behind;have T4:Sees m1 (behind (behind m2 m3) m4):=T2.ext E4;have S4:Sees m (behind (behind m2 m3) m4):=hS2.ext E4;obtain⟨v5,m5,c3,c3e,rb,rfl,hrb⟩:=qg6 (h:=h) n (m:=ql (behind (behind m2 m3) m4)) (by rw[qt,qW];exact qh8 _) ((hev.sees S4).sees (qp S4.self)) (by omega) a b;have E5:Ext m2 (behind (behind (behind m2 m3) m4) m5):=E4.trans c3e.behind;have T5:Sees m1 (behind (behind (behind m2 m3) m4) m5):=T2.ext E5;have S5:Sees m (behind (behind (behind m2 m3) m4) m5):=hS2.ext E5;have b1:load1 m3 ⟨m'.n,1,none⟩=some (iv b):=by have:=(b0 _ E3).2;simpa using this
  have L83:loads m3 ⟨m.n,0,none⟩ 8=some (ghL h):=by have:=(rd _ T3).2;simpa using this
  have L84:loads m4 ⟨m.n,0,none⟩ 8=some (ghL h):=by have:=(rd _ T4).2;simpa using this
  have y0:load1 m4 ⟨m'.n,0,none⟩=some (iv a):=by have:=(b0 _ E4).1;simpa using this
  have y1:load1 m4 ⟨m'.n,1,none⟩=some (iv b):=by have:=(b0 _ E4).2;simpa using this
  have x1:load1 m5 ⟨m.n,1,none⟩=some h.ev:=by have:load1 (behind (behind (behind m2 m3) m4) m5) ⟨m.n,1,none⟩=some h.ev:=(rd _ T5).1 1 none;simpa using this
  have z0:load1 m5 ⟨m'.n,0,none⟩=some (iv a):=by have:=(b0 _ E5).1;simpa using this
  have z1:load1 m5 ⟨m'.n,1,none⟩=some (iv b):=by have:=(b0 _ E5).2;simpa using this
  have hlog3:=c1e.log;have hlog4:=c2e.log;have hlog5:=c3e.log;by_cases hi0:i=0
  .have hgt:(0<i)=False:=qi0 (by omega);have hord:fw RM i (a,b)=true:=by rw[hi0];rfl
   by_cases k1:isB EV a 1=true
   .rw[k1]at c1;by_cases k2:isB EV b 2=true
    .rw[k2]at c2;cases rb with
     | true =>
      have k3:=hrb.1 rfl;obtain⟨x,ea,rfl,ha1,ha2⟩:=zl k1;obtain⟨y,eb,rfl,hb1,hb2⟩:=zl k2;have ⟨e1,_,e3⟩:=(hev.sees S5).at ha1;have ⟨f1,_,f3⟩:=(hev.sees S5).at hb1;have e3':load1 m5 ⟨(adr 5 h.ev x).block,(adr 5 h.ev x).off+2,none⟩=some (iv ea.loc):=by have:=e3 _ 2 none S5.self (by simp[qh]);rw[show (qh ea)[2]?=some (iv ea.loc) from rfl]at this;simpa using this
      have f3':load1 m5 ⟨(adr 5 h.ev y).block,(adr 5 h.ev y).off+2,none⟩=some (iv eb.loc):=by have:=f3 _ 2 none S5.self (by simp[qh]);rw[show (qh eb)[2]?=some (iv eb.loc) from rfl]at this;simpa using this
      have hloc:dj EV ((x:Int),(y:Int))=decide (ea.loc=eb.loc):=by unfold dj;simp only[qhj,ha1,hb1]
      by_cases q4:ea.loc=eb.loc
      .simp[h1,h3,k4,hln,hd,a1,qb,a2',s1,b00,L8,hgt,hlog3,c1,b1,L83,c2,hlog4,L84,y0,y1,c3,hlog5,x1,z0,z1,e1,f1,e3',f3',q4,w1,meets];exact hk hil _ _ ⟨by simp[h1],by simp,hE2.trans E5,hyes ⟨hord,k1,k2,k3,by rw[hloc];exact qhx q4⟩⟩
      .simp[h1,h3,k4,hln,hd,a1,qb,a2',s1,b00,L8,hgt,hlog3,c1,b1,L83,c2,hlog4,L84,y0,y1,c3,hlog5,x1,z0,z1,e1,f1,e3',f3',q4,meets];exact qf (EE2.trans E5) ⟨((i:Nat):Int),by simp[h3],hno (λhc=>by have:=hc.2.2.2.2;rw[hloc]at this;exact q4 (qi2 this))⟩
     | false =>
      simp[h1,h3,k4,hln,hd,a1,qb,a2',s1,b00,L8,hgt,hlog3,c1,b1,L83,c2,hlog4,L84,y0,y1,c3,hlog5,meets];exact qf (EE2.trans E5) ⟨((i:Nat):Int),by simp[h3],hno (λhc=>by have:=hrb.2 hc.2.2.2.1;cases this)⟩
    .have k2:isB EV b 2=false:=by simpa using k2
     rw[k2]at c2;simp[h1,h3,k4,hln,hd,a1,qb,a2',s1,b00,L8,hgt,hlog3,c1,b1,L83,c2,hlog4,meets];exact qf (EE2.trans E4) ⟨((i:Nat):Int),by simp[h3],hno (λhc=>by rw[hc.2.2.1]at k2;cases k2)⟩
   .have k1:isB EV a 1=false:=by simpa using k1
    rw[k1]at c1;simp[h1,h3,k4,hln,hd,a1,qb,a2',s1,b00,L8,hgt,hlog3,c1,meets];exact qf (EE2.trans E3) ⟨((i:Nat):Int),by simp[h3],hno (λhc=>by rw[hc.2.1]at k1;cases k1)⟩
  obtain⟨j,hj⟩:∃j,i=j+1:=⟨i-1,by omega⟩;obtain⟨⟨pa,pb⟩,hp⟩:∃p,RM[j]?=some p:=⟨_,qh5 (by omega)⟩;have hgt:(0<i)=True:=qi1 (by omega);have hw:IntKind.i64.wrap ((i:Int)-1)=(j:Int):=by rw[wrap64 _ (by omega) (by omega)];omega
  have ⟨g1,_,g3⟩:=(hrm.sees hS2).at hp;have g3':load1 m2 ⟨(adr 2 h.rm j).block,(adr 2 h.rm j).off,none⟩=some (iv pa):=by have:=g3 m2 0 none hS2.self (by simp[qn]);exact this
  have r4:load1 m2 ⟨m.n,4,none⟩=some h.rm:=(rd m2 T2).1 4 none;have hordE:fw RM i (a,b)=decide (pa<a):=by rw[hj];show (match RM[j]? with | some q=>decide (q.1<a) | none=>false)=_;rw[hp]
  by_cases hle:a<=pa
  .simp[h1,h3,k4,hln,hd,a1,qb,a2',s1,b00,hgt,hw,g1,g3',r4,hle,meets];refine qf (EE2.trans ?_) ⟨((i:Nat):Int),by simp[h3],hno (λhc=>by have:=hc.1;rw[hordE]at this;have:=qi2 this;omega)⟩;simp
  have hord:fw RM i (a,b)=true:=by rw[hordE];exact qhx (by omega)
  by_cases k1:isB EV a 1=true
  .rw[k1]at c1;by_cases k2:isB EV b 2=true
   .rw[k2]at c2;cases rb with
    | true =>
     have k3:=hrb.1 rfl;obtain⟨x,ea,rfl,ha1,ha2⟩:=zl k1;obtain⟨y,eb,rfl,hb1,hb2⟩:=zl k2;have ⟨e1,_,e3⟩:=(hev.sees S5).at ha1;have ⟨f1,_,f3⟩:=(hev.sees S5).at hb1;have e3':load1 m5 ⟨(adr 5 h.ev x).block,(adr 5 h.ev x).off+2,none⟩=some (iv ea.loc):=by have:=e3 _ 2 none S5.self (by simp[qh]);rw[show (qh ea)[2]?=some (iv ea.loc) from rfl]at this;simpa using this
     have f3':load1 m5 ⟨(adr 5 h.ev y).block,(adr 5 h.ev y).off+2,none⟩=some (iv eb.loc):=by have:=f3 _ 2 none S5.self (by simp[qh]);rw[show (qh eb)[2]?=some (iv eb.loc) from rfl]at this;simpa using this
     have hloc:dj EV ((x:Int),(y:Int))=decide (ea.loc=eb.loc):=by unfold dj;simp only[qhj,ha1,hb1]
     by_cases q4:ea.loc=eb.loc
     .simp[h1,h3,k4,hln,hd,a1,qb,a2',s1,b00,L8,hgt,hw,g1,g3',r4,hle,hlog3,c1,b1,L83,c2,hlog4,L84,y0,y1,c3,hlog5,x1,z0,z1,e1,f1,e3',f3',q4,w1,meets];exact hk hil _ _ ⟨by simp[h1],by simp,hE2.trans E5,hyes ⟨hord,k1,k2,k3,by rw[hloc];exact qhx q4⟩⟩
     .simp[h1,h3,k4,hln,hd,a1,qb,a2',s1,b00,L8,hgt,hw,g1,g3',r4,hle,hlog3,c1,b1,L83,c2,hlog4,L84,y0,y1,c3,hlog5,x1,z0,z1,e1,f1,e3',f3',q4,meets];exact qf (EE2.trans E5) ⟨((i:Nat):Int),by simp[h3],hno (λhc=>by have:=hc.2.2.2.2;rw[hloc]at this;exact q4 (qi2 this))⟩
    | false =>
     simp[h1,h3,k4,hln,hd,a1,qb,a2',s1,b00,L8,hgt,hw,g1,g3',r4,hle,hlog3,c1,b1,L83,c2,hlog4,L84,y0,y1,c3,hlog5,meets];exact qf (EE2.trans E5) ⟨((i:Nat):Int),by simp[h3],hno (λhc=>by have:=hrb.2 hc.2.2.2.1;cases this)⟩
   .have k2:isB EV b 2=false:=by simpa using k2
    rw[k2]at c2;simp[h1,h3,k4,hln,hd,a1,qb,a2',s1,b00,L8,hgt,hw,g1,g3',r4,hle,hlog3,c1,b1,L83,c2,hlog4,meets];exact qf (EE2.trans E4) ⟨((i:Nat):Int),by simp[h3],hno (λhc=>by rw[hc.2.2.1]at k2;cases k2)⟩
  .have k1:isB EV a 1=false:=by simpa using k1
   rw[k1]at c1;simp[h1,h3,k4,hln,hd,a1,qb,a2',s1,b00,L8,hgt,hw,g1,g3',r4,hle,hlog3,c1,meets];exact qf (EE2.trans E3) ⟨((i:Nat):Int),by simp[h3],hno (λhc=>by rw[hc.2.1]at k1;cases k1)⟩
 obtain rfl:i=RM.length:=by omega
 simp[h1,h3,k4,hln];exact qf EE ⟨-1,by simp,⟨λ_ i p hp=>hB i p (qh7.1 hp).1 hp,λ_=>by decide⟩⟩
end
def NumR (P:Prop):Value->M->Prop:=λv _=>∃r:Int,v=iv r/\(P->r<0)
section
variable {m:M}{h:Gh}{EV:List Ev5}{l:List (Int × Int)}
theorem qfv (n:Nat)(hm:m.base<=m.n)(hev:Rd m h.ev 5 qh EV)(lv:Value)(hl:Rd m lv 2 qn l)(hll:l.length<=4611686018427387904)(hn2:EV.length<=256)(wh:Int) :
  Dx.Call (ex Tryz.prog (n+2)) 67 [.agg ⟨ghL h⟩,lv,iv wh] m (NumR (l=[])):=by
 refine qm de0_ok (by simp) ?_;have hln:=hl.len;have st1:=(St.nil hm (Ext.refl m)).row (ghL h);obtain⟨m1,hm1⟩:=qi4 (Dx.newRow m (ghL h));rw[<-hm1]at st1;have S1:=st1.sees;have hlt1:m.n<m1.n:=by rw[hm1];simp
 have rd:∀m',Sees m1 m'->(∀o s,load1 m' ⟨m.n,o,s⟩=(ghL h)[o]?)/\loads m' ⟨m.n,0,none⟩ 8=some (ghL h):=λm' k =>
  ⟨λo s=>by rw[wi k hlt1];exact (st1.get 0 rfl).2.2.load1 o s,by rw[zY k hlt1];exact (st1.get 0 rfl).2.2.loads (n:=8) (by simp[ghL])⟩
 simp[<-hm1];refine qq (c:=qaa) rfl (Ret m _) (λi t m'=>Tm.get 1 t=lv/\Tm.get 2 t=iv wh/\Tm.get 3 t=.pointer (some ⟨m.n,0,none⟩)/\Tm.get 7 t=iv i/\Ext m1 m') l.length (by omega)
  ⟨by simp,by simp,by simp,by simp,Ext.refl _⟩ (λi t m' k hi hI hk=>?_)
 obtain⟨h1,h2,h3,h7,hE⟩:=hI;have S1':Sees m1 m':=(Sees.refl S1.self.base).ext hE;have hS:Sees m m':=S1.ext hE;have EE:Ext m m':=st1.ext.trans hE;by_cases hil:i<l.length
 .obtain⟨⟨a,b⟩,he⟩:∃p,l[i]?=some p:=⟨_,qh5 hil⟩;have hne:l=[]->(i:Int)<0:=λhc=>by rw[hc]at hil;simp at hil
  have ⟨a1,a2,a3⟩:=(hl.sees hS).at he;have a2':loads m' (adr 2 lv i) 2=some (qn (a,b)):=a2 m' hS.self;have hd:=dlt hil;have w1:=qK (i:=i) (by omega);obtain⟨m2,s1,s2,s3,s4,s5⟩:=wK (m:=m') hS.base (zs:=[zI,zI]) (l:=qn (a,b)) (v:=.agg ⟨qn (a,b)⟩) (n:=2) rfl rfl rfl (zm _);have hE2:Ext m1 m2:=hE.trans s4;have EE2:Ext m m2:=EE.trans s4;have T2:Sees m1 m2:=S1'.ext s4;have hS2:Sees m m2:=hS.ext s4;have b0:∀M3,Ext m2 M3->load1 M3 ⟨m'.n,0,none⟩=some (iv a)/\load1 M3 ⟨m'.n,1,none⟩=some (iv b):=λM3 E3=>by
   have S3:=(Sees.refl hS2.base).ext E3;rw[wi S3 s5,wi S3 s5,s2,s2];exact⟨rfl,rfl⟩
  have b00:=(b0 m2 (Ext.refl _)).1;have b01:=(b0 m2 (Ext.refl _)).2;have L8:loads m2 ⟨m.n,0,none⟩ 8=some (ghL h):=(rd m2 T2).2;obtain⟨v3,m3,c1,c1e,rfl⟩:=Xf (h:=h) n (m:=ql m2) (by rw[qt,qW];exact qh8 _) ((hev.sees hS2).sees (qp hS2.self)) (by omega) a 1;have E3:Ext m2 (behind m2 m3):=c1e.behind;have T3:Sees m1 (behind m2 m3):=T2.ext E3;have S3:Sees m (behind m2 m3):=hS2.ext E3;obtain⟨v4,m4,c2,c2e,rfl⟩:=Ki (h:=h) n (m:=ql (behind m2 m3)) (by rw[qt,qW];exact qh8 _) ((hev.sees S3).sees (qp S3.self)) (by omega) a b;obtain⟨M4,hM4⟩:=qi4 (behind (behind m2 m3) m4);have E4:Ext m2 M4:=by rw[hM4];exact E3.trans c2e.behind
  have T4:Sees m1 M4:=T2.ext E4;have S4:Sees m M4:=hS2.ext E4;have y0:load1 m3 ⟨m'.n,0,none⟩=some (iv a):=by have:=(b0 _ E3).1;simpa using this
  have y1:load1 m3 ⟨m'.n,1,none⟩=some (iv b):=by have:=(b0 _ E3).2;simpa using this
  have L83:loads m3 ⟨m.n,0,none⟩ 8=some (ghL h):=by have:=(rd _ T3).2;simpa using this
  have x1:load1 M4 ⟨m.n,1,none⟩=some h.ev:=(rd _ T4).1 1 none;have z1:load1 M4 ⟨m'.n,1,none⟩=some (iv b):=(b0 _ E4).2;have hlog3:=c1e.log;have hlog4:=c2e.log;have tail:vt EV a b=true->∀(t1:Tm) {kn:Dx.K} {ke:Nat->Dx.K},Tm.get 2 t1=iv wh->Tm.get 3 t1=.pointer (some ⟨m.n,0,none⟩)->Tm.get 7 t1=iv i->Tm.get 8 t1=.pointer (some ⟨m'.n,0,none⟩)->(∀t2,(∀q,q∈[1,2,3,7]->Tm.get q t2=Tm.get q t1)->Ret m (NumR (l=[])) (kn t2 M4))->Ret m (NumR (l=[])) (qab (ex Tryz.prog (n+1)) kn ke (wN [.t 6]) t1 M4):=by
   intro hb t1 kn ke q2 q3 q7 q8 HK;unfold vt BD at hb;simp only[qhb,qi3]at hb;obtain⟨g0,g1,g2⟩:=hb;obtain⟨y,rfl⟩:∃y:Nat,b=(y:Int):=⟨b.toNat,by omega⟩;rw[qhj]at g2;obtain⟨e,he⟩:∃e,EV[y]?=some e:=by
    cases hy:EV[y]? with
    | none=>rw[hy]at g2;cases hx:EV[a.toNat]?<;>rw[hx]at g2<;>cases g2
    | some e=>exact⟨e,rfl⟩
   have ⟨f1,_,f3⟩:=(hev.sees S4).at he;have f31:load1 M4 ⟨(adr 5 h.ev y).block,(adr 5 h.ev y).off+1,none⟩=some (iv e.kind):=by rw[f3 _ 1 none S4.self (by simp[qh])];rfl
   have bad:∀{t3:Tm},Tm.get 6 t3=iv i->Ret m (NumR (l=[])) (wN [.t 6] t3 M4):=λh6=>qf (EE2.trans E4) ⟨i,h6,hne⟩;by_cases w7:wh=7
   .by_cases k3:e.kind=3
    .simp[q2,q3,q7,q8,x1,z1,f1,f31,w7,k3];exact bad (by simp[q7])
    .simp[q2,q3,q8,x1,z1,f1,f31,w7,k3];exact HK _ (by simp)
   .by_cases w8:wh=8
    .by_cases k2:e.kind=2
     .simp[q2,q3,q8,x1,z1,f1,f31,w8,k2];exact HK _ (by simp)
     .simp[q2,q3,q7,q8,x1,z1,f1,f31,w8,k2];exact bad (by simp[q7])
    .simp[q2,q3,q8,x1,z1,f1,f31,w7,w8];exact HK _ (by simp)
  by_cases hi0:i=0
  .have hgt:(0<i)=False:=qi0 (by omega);by_cases k1:isB EV a 1=true
   .rw[k1]at c1;by_cases k2:vt EV a b=true
    .rw[k2]at c2;simp[h1,h3,h7,hln,hd,a1,qb,a2',s1,b00,L8,hgt,hlog3,c1,y0,y1,L83,c2,hlog4,meets,-zx];rw[<-hM4];refine tail k2 _ (by simp[h2]) (by simp[h3]) (by simp[h7]) (by simp) λt2 q=>?_;have q1:=q 1 (by simp);have q2:=q 2 (by simp);have q3:=q 3 (by simp);have q7:=q 7 (by simp);simp[h1,h2,h3,h7]at q1 q2 q3 q7;simp[q7,w1];exact hk hil _ _ ⟨by simp[q1],by simp[q2],by simp[q3],by simp,hE2.trans E4⟩
    .have k2:vt EV a b=false:=by simpa using k2
     rw[k2]at c2;simp[h1,h3,h7,hln,hd,a1,qb,a2',s1,b00,L8,hgt,hlog3,c1,y0,y1,L83,c2,hlog4,meets,-zx];rw[<-hM4];exact qf (EE2.trans E4) ⟨((i:Nat):Int),by simp[h7],hne⟩
   .have k1:isB EV a 1=false:=by simpa using k1
    rw[k1]at c1;simp[h1,h3,h7,hln,hd,a1,qb,a2',s1,b00,L8,hgt,hlog3,c1,meets,-zx];exact qf (EE2.trans E3) ⟨((i:Nat):Int),by simp[h7],hne⟩
  obtain⟨j,hj⟩:∃j,i=j+1:=⟨i-1,by omega⟩;obtain⟨⟨pa,pb⟩,hp⟩:∃p,l[j]?=some p:=⟨_,qh5 (by omega)⟩;have hgt:(0<i)=True:=qi1 (by omega);have hw:IntKind.i64.wrap ((i:Int)-1)=(j:Int):=by rw[wrap64 _ (by omega) (by omega)];omega
  have ⟨g1,_,g3⟩:=(hl.sees hS2).at hp;have g3':load1 m2 ⟨(adr 2 lv j).block,(adr 2 lv j).off,none⟩=some (iv pa):=by have:=g3 m2 0 none hS2.self (by simp[qn]);exact this
  have g3'':load1 m2 ⟨(adr 2 lv j).block,(adr 2 lv j).off+1,none⟩=some (iv pb):=by rw[g3 m2 1 none hS2.self (by simp[qn])];rfl
  by_cases o1:a<pa
  .simp[h1,h7,hln,hd,a1,qb,a2',s1,b00,hgt,hw,g1,g3',o1,meets,-zx];refine qf (EE2.trans ?_) ⟨((i:Nat):Int),by simp[h7],hne⟩;simp
  by_cases o2:a=pa
  .have o2':(a=pa)=True:=qi1 o2;by_cases o3:b<=pb
   .simp[h1,h7,hln,hd,a1,qb,a2',s1,b00,b01,hgt,hw,g1,g3',g3'',o1,o2',o3,meets,-zx];refine qf (EE2.trans ?_) ⟨((i:Nat):Int),by simp[h7],hne⟩;simp
   .skip
    by_cases k1:isB EV a 1=true
    .rw[k1]at c1;by_cases k2:vt EV a b=true
     .rw[k2]at c2;simp[h1,h3,h7,hln,hd,a1,qb,a2',s1,b00,b01,L8,hgt,hw,g1,g3',g3'',o1,o2',o3,hlog3,c1,y0,y1,L83,c2,hlog4,meets,-zx];rw[<-hM4];refine tail k2 _ (by simp[h2]) (by simp[h3]) (by simp[h7]) (by simp) λt2 q=>?_;have q1:=q 1 (by simp);have q2:=q 2 (by simp);have q3:=q 3 (by simp);have q7:=q 7 (by simp);simp[h1,h2,h3,h7]at q1 q2 q3 q7;simp[q7,w1];exact hk hil _ _ ⟨by simp[q1],by simp[q2],by simp[q3],by simp,hE2.trans E4⟩
     .have k2:vt EV a b=false:=by simpa using k2
      rw[k2]at c2;simp[h1,h3,h7,hln,hd,a1,qb,a2',s1,b00,b01,L8,hgt,hw,g1,g3',g3'',o1,o2',o3,hlog3,c1,y0,y1,L83,c2,hlog4,meets,-zx];rw[<-hM4];exact qf (EE2.trans E4) ⟨((i:Nat):Int),by simp[h7],hne⟩
    .have k1:isB EV a 1=false:=by simpa using k1
     rw[k1]at c1;simp[h1,h3,h7,hln,hd,a1,qb,a2',s1,b00,b01,L8,hgt,hw,g1,g3',g3'',o1,o2',o3,hlog3,c1,meets,-zx];exact qf (EE2.trans E3) ⟨((i:Nat):Int),by simp[h7],hne⟩
  .have o2':(a=pa)=False:=qi0 o2;by_cases k1:isB EV a 1=true
   .rw[k1]at c1;by_cases k2:vt EV a b=true
    .rw[k2]at c2;simp[h1,h3,h7,hln,hd,a1,qb,a2',s1,b00,L8,hgt,hw,g1,g3',o1,o2',hlog3,c1,y0,y1,L83,c2,hlog4,meets,-zx];rw[<-hM4];refine tail k2 _ (by simp[h2]) (by simp[h3]) (by simp[h7]) (by simp) λt2 q=>?_;have q1:=q 1 (by simp);have q2:=q 2 (by simp);have q3:=q 3 (by simp);have q7:=q 7 (by simp);simp[h1,h2,h3,h7]at q1 q2 q3 q7;simp[q7,w1];exact hk hil _ _ ⟨by simp[q1],by simp[q2],by simp[q3],by simp,hE2.trans E4⟩
    .have k2:vt EV a b=false:=by simpa using k2
     rw[k2]at c2;simp[h1,h3,h7,hln,hd,a1,qb,a2',s1,b00,L8,hgt,hw,g1,g3',o1,o2',hlog3,c1,y0,y1,L83,c2,hlog4,meets,-zx];rw[<-hM4];exact qf (EE2.trans E4) ⟨((i:Nat):Int),by simp[h7],hne⟩
   .have k1:isB EV a 1=false:=by simpa using k1
    rw[k1]at c1;simp[h1,h3,h7,hln,hd,a1,qb,a2',s1,b00,L8,hgt,hw,g1,g3',o1,o2',hlog3,c1,meets,-zx];exact qf (EE2.trans E3) ⟨((i:Nat):Int),by simp[h7],hne⟩
 obtain rfl:i=l.length:=by omega
 simp[h1,h7,hln];exact qf EE ⟨-1,by simp,λ_=>by decide⟩
end
@[simp] theorem qec:wg [zI,zI,zI,zU,zI] [(0,1,.int .i64 (-1)),(1,1,.int .i64 2),(2,1,zI),(3,1,zU),(4,1,.int .i64 1)]=some (.agg ⟨[.int .i64 (-1),.int .i64 2,zI,zU,.int .i64 1]⟩):=_root_.id rfl
section
variable {m:M}{h:Gh}{g:Gp}
abbrev rcS (B2 B6 c:Nat)(h:Gh):List (Nat × List Value):=[(B6,qh (e0 c)),(B2,ghL h)]
theorem rchkD (n:Nat)(hm:m.base<=m.n)(H:GOK m h g)(hz:GSz g)(hza:g.ad.length<=4611686018427387904/\g.dt.length<=4611686018427387904/\g.ct.length<=4611686018427387904){N:Nat}(hN:h.n=N)(g1:EvG N g.ev){m':M}{B2 B6 c:Nat}(st:St m m' (rcS B2 B6 c h))
  {kn:K} {ke:Nat->K} {t:Tm} (t1:Tm.get 1 t=zF) (t2:Tm.get 2 t=.pointer (some ⟨B2,0,none⟩)) :
  Ret m (fC (WFs h.n g)) (KF (ex Tryz.prog (n+3)) kn ke (wN [.t 4,.t 5]) t m'):=by
 have hn2:=g1.n2;have hWN:∀{P:Nat->Prop},(∃N':Nat,h.n=N'/\P N')->P N:=λ⟨N',h1,h2⟩=>by
  have:N'=N:=by omega
  rw[this]at h2;exact h2
 have hN2:N<=4096:=by have:=g1.n1;omega
 have rd:∀{m'':M},St m m'' (rcS B2 B6 c h)->(∀o s,load1 m'' ⟨B2,o,s⟩=(ghL h)[o]?)/\loads m'' ⟨B2,0,none⟩ 8=some (ghL h):=λs=>⟨λo s'=>(s.get 1 rfl).2.2.load1 o s',(s.get 1 rfl).2.2.loads (n:=8) (by simp[ghL])⟩;have S0:=st.sees;have L0:=(rd st).2;obtain⟨v2,m2,d1,d2,r2,rfl,hr2⟩:=rrf_c (h:=h) (n+1) S0.self.base (H.ev.sees S0) (H.rf.sees S0) hz.rf hn2;have st2:=st.step d2;have S2:=st2.sees;have L2:=(rd st2).2;by_cases k2:r2<0
 rotate_left
 .have k2':(0<=r2)=True:=qi1 (by omega);have k2'':(r2>=0)=True:=k2';simp[t2,qb,L0,d1,k2'];exact kg st2.ext ⟨4,r2,by simp,⟨λhc=>by omega,λhc=>by have:=(hWN hc).2.1;exact absurd (hr2.2 this) k2⟩⟩
 have e2:=hr2.1 k2;have k2':(0<=r2)=False:=qi0 (by omega);have k2'':(r2>=0)=False:=k2';obtain⟨sv,s1,s3⟩:=(H.sees S2).co;obtain⟨v3,m3,f1,f2,r3,rfl,hr3⟩:=rco_c (h:=h) (n+1) S2.self.base hN hN2 (H.ev.sees S2) hn2 hz.cos hz.co s1 s3;have st3:=st2.step f2;have S3:=st3.sees;have L3:=(rd st3).2;by_cases k3:r3<0
 rotate_left
 .have k3':(0<=r3)=True:=qi1 (by omega);have k3'':(r3>=0)=True:=k3';simp[t2,qb,L0,d1,k2',L2,f1,k3'];exact kg st3.ext ⟨5,r3,by simp,⟨λhc=>by omega,λhc=>by have:=(hWN hc).2.2.1;exact absurd (hr3.2 this) k3⟩⟩
 have e3:=hr3.1 k3;have k3':(0<=r3)=False:=qi0 (by omega);have k3'':(r3>=0)=False:=k3';obtain⟨v4,m4,q1,q2,r4,rfl,hr4⟩:=rrmw_c (h:=h) n S3.self.base (H.ev.sees S3) (H.rm.sees S3) hz.rm hn2;rw[<-qg3]at hr4;have st4:=st3.step q2;have S4:=st4.sees;have L4:=rd st4;by_cases k4:r4<0
 rotate_left
 .have k4':(0<=r4)=True:=qi1 (by omega);have k4'':(r4>=0)=True:=k4';simp[t2,qb,L0,d1,k2',L2,f1,k3',L3,q1,k4'];exact kg st4.ext ⟨6,r4,by simp,⟨λhc=>by omega,λhc=>by have:=(hWN hc).2.2.2.1;exact absurd (hr4.2 this) k4⟩⟩
 have e4:=hr4.1 k4;have k4':(0<=r4)=False:=qi0 (by omega);have k4'':(r4>=0)=False:=k4';have b5:load1 m4 ⟨B2,5,none⟩=some h.ad:=L4.1 5 none;have b6:load1 m4 ⟨B2,6,none⟩=some h.dt:=L4.1 6 none;have b7:load1 m4 ⟨B2,7,none⟩=some h.ct:=L4.1 7 none;have hbs:wH 1 3 (rep 3 [zS]) [(0,1,h.ad),(1,1,h.dt),(2,1,h.ct)] m4=some (.slice (some ⟨m4.n,0,some 3⟩) 3 3,Dx.newRow m4 [h.ad,h.dt,h.ct]):=by
  obtain⟨x1,x2,x3,e1⟩:=Kn H.ad;obtain⟨y1,y2,y3,e2⟩:=Kn H.dt;obtain⟨z1,z2,z3,e3⟩:=Kn H.ct;rw[e1,e2,e3];rfl
 have st5:=st4.row [h.ad,h.dt,h.ct];obtain⟨m5,hm5⟩:=qi4 (Dx.newRow m4 [h.ad,h.dt,h.ct]);obtain⟨B,hB⟩:=qi4 (m4.n);rw[<-hm5]at st5 hbs;rw[<-hB]at st5 hbs;simp[t2,qb,L0,d1,k2',L2,f1,k3',L3,q1,k4',b5,b6,b7,hbs];obtain⟨lv,hlv⟩:∃lv:Nat->Value,lv=λi=>if i=0 then h.ad else if i=1 then h.dt else h.ct:=⟨_,rfl⟩
 obtain⟨ls,hls⟩:∃ls:Nat->List (Int × Int),ls=λi=>if i=0 then g.ad else if i=1 then g.dt else g.ct:=⟨_,rfl⟩
 have hrow:∀i,i<3->[h.ad,h.dt,h.ct][i]?=some (lv i):=λi hi=>by
  rw[hlv]
  match i,hi with
  | 0,_=>rfl
  | 1,_=>rfl
  | 2,_=>rfl
 have hrd:∀i,i<3->Rd m (lv i) 2 qn (ls i):=λi hi=>by
  rw[hlv,hls]
  match i,hi with
  | 0,_=>exact H.ad
  | 1,_=>exact H.dt
  | 2,_=>exact H.ct
 have hlz:∀i,i<3->(ls i).length<=4611686018427387904:=λi hi=>by
  rw[hls]
  match i,hi with
  | 0,_=>exact hza.1
  | 1,_=>exact hza.2.1
  | 2,_=>exact hza.2.2
 have hbad:∀i,i<3->ls i≠[]->¬WFs h.n g:=λi hi hne hw=>by
  have h5:=(hWN hw).2.2.2.2;rw[hls]at hne
  match i,hi with
  | 0,_=>exact hne h5.1
  | 1,_=>exact hne h5.2.1
  | 2,_=>exact hne h5.2.2
 refine qq (c:=DL) rfl (Ret m (fC (WFs h.n g))) (λi t m'=>St m m' ((B,[h.ad,h.dt,h.ct])::rcS B2 B6 c h)/\(∀j,j<i->ls j=[])/\Tm.get 1 t=zF/\Tm.get 2 t=.pointer (some ⟨B2,0,none⟩)/\Tm.get 10 t=.slice (some ⟨B,0,some 3⟩) 3 3/\Tm.get 11 t=iv i) 3 (by omega)
  ⟨st5,λj hj=>by omega,by simp[t1],by simp[t2],by simp,by simp⟩ (λi t m' k hi hI hk=>?_)
 obtain⟨st6,hall,h1,h2,h10,h11⟩:=hI;by_cases hil:i<3
 .have S6:=st6.sees;have L6:loads m' ⟨B2,0,none⟩ 8=some (ghL h):=(st6.get 2 rfl).2.2.loads (n:=8) (by simp[ghL]);have hix:=QG B 3 i hil;have hl6:load1 m' ⟨B,i,none⟩=some (lv i):=by have:=(st6.get 0 rfl).2.2.load1 i none;rw[hrow i hil]at this;exact this
  have hR:=hrd i hil;have hlen:=(hR.sees S6).len;have w1:=qK (i:=i) (by omega);have w7:IntKind.i64.wrap (7+(i:Int))=((7+i:Nat):Int):=by rw[wrap64 _ (by omega) (by omega)];omega
  obtain⟨w,hw⟩:∃w:Int,w=((7+i:Nat):Int):=⟨_,rfl⟩;rw[<-hw]at w7;obtain⟨v7,m7,u1,u2,r7,rfl,hr7⟩:=qfv (h:=h) (n+1) (m:=ql m') (by rw[qt,qW];exact qh8 _) ((H.ev.sees S6).sees (qp S6.self)) (lv i) ((hR.sees S6).sees (qp S6.self)) (hlz i hil) hn2 w;obtain⟨M7,hM7⟩:=qi4 (behind m' m7);have st7:St m M7 ((B,[h.ad,h.dt,h.ct])::rcS B2 B6 c h):=st6.step (by rw[hM7];exact u2.behind);have hl7:load1 M7 ⟨B,i,none⟩=some (lv i):=by have:=(st7.get 0 rfl).2.2.load1 i none;rw[hrow i hil]at this;exact this
  have hlog:=u2.log;have hd3:((i:Int)<3)=True:=qi1 (by omega);cases hli:ls i with
  | nil =>
   rw[hli]at hlen;have hlen':wB (lv i)=some (iv 0):=hlen;have hneg:=hr7 hli;have k7':(0<=r7)=False:=qi0 (by omega);have k7'':(r7>=0)=False:=k7';simp[h1,h2,h10,h11,hd3,qb,L6,hix,hl6,w7,u1,hlog,meets,-wD];rw[<-hM7];simp[hl7,hlen',k7',h11,w1];refine hk hil _ _ ⟨st7,λj hj=>?_,by simp[h1],by simp[h2],by simp[h10],by simp⟩;rcases Nat.lt_succ_iff_lt_or_eq.1 hj with hj | rfl
   .exact hall j hj
   .exact hli
  | cons p l' =>
   obtain⟨ln,hln⟩:∃ln:Nat,ln=(ls i).length:=⟨_,rfl⟩;rw[<-hln]at hlen;have hlp:(0<ln)=True:=qi1 (by rw[hln,hli];simp);simp[h1,h2,h10,h11,hd3,qb,L6,hix,hl6,w7,u1,hlog,meets,-wD];rw[<-hM7];simp[hl7,hlen,hlp,h11,w7];refine kg st7.ext ⟨w,0,by simp,⟨λhc=>by omega,λhc=>absurd hc (hbad i hil (by rw[hli];simp))⟩⟩
 obtain rfl:i=3:=by omega
 simp[h11];have z0:=hall 0 (by omega);have z1:=hall 1 (by omega);have z2:=hall 2 (by omega);rw[hls]at z0 z1 z2;exact kg st6.ext ⟨0,0,by simp,⟨λ_=>⟨N,hN,g1,e2,e3,e4,z0,z1,z2⟩,λ_=>rfl⟩⟩
theorem rchkA (n:Nat)(hm:m.base<=m.n)(H:GOK m h g)(hev:g.ev.length<=4611686018427387904){kn:K}{ke:Nat->K}{t:Tm}(t0:Tm.get 0 t=.agg ⟨ghL h⟩)(t1:Tm.get 1 t=zF)
  (HQ:∀t' m' B2 B6 c N,h.n=(N:Nat)->N<=g.ev.length->g.ev.length<=256->(∀i,i<N->g.ev[i]?=some (e0 i))->St m m' [(B6,qh (e0 c)),(B2,ghL h)]->Tm.get 2 t'=.pointer (some ⟨B2,0,none⟩)->Tm.get 1 t'=zF->Ret m (fC (WFs h.n g)) (KG (ex Tryz.prog n) kn ke (wN [.t 4,.t 5]) t' m')) :
  Ret m (fC (WFs h.n g)) (XM (ex Tryz.prog n) kn ke (wN [.t 4,.t 5]) t m):=by
 have hel:=H.ev.len;have st0:=(St.nil hm (Ext.refl m)).row (ghL h);obtain⟨m1,hm1⟩:=qi4 (Dx.newRow m (ghL h));rw[<-hm1]at st0;have l0:load1 m1 ⟨m.n,0,none⟩=some (iv h.n):=(st0.get 0 rfl).2.2.load1 0 none;have l1:load1 m1 ⟨m.n,1,none⟩=some h.ev:=(st0.get 0 rfl).2.2.load1 1 none;by_cases c1:h.n<0
 .simp[t0,<-hm1,l0,c1,-yu];exact kg st0.ext ⟨1,0,by simp,⟨λhc=>by omega,λ⟨N,hN,_⟩=>by omega⟩⟩
 by_cases c2:4096<h.n
 .have c2':(h.n>4096)=True:=qi1 c2;simp[t0,<-hm1,l0,c1,c2,-yu];exact kg st0.ext ⟨1,0,by simp,⟨λhc=>by omega,λ⟨N,hN,hg,_⟩=>by have:=hg.n1;have:=hg.n2;omega⟩⟩
 have c2':(h.n>4096)=False:=qi0 c2;by_cases c3:(g.ev.length:Int)<h.n
 .simp[t0,<-hm1,l0,l1,hel,c1,c2,c3,-yu];exact kg st0.ext ⟨1,0,by simp,⟨λhc=>by omega,λ⟨N,hN,hg,_⟩=>by have:=hg.n1;omega⟩⟩
 by_cases c4:256<g.ev.length
 .have c4':((g.ev.length:Int)>256)=True:=qi1 (by omega);have c4'':((256:Int)<g.ev.length)=True:=qi1 (by omega);simp[t0,<-hm1,l0,l1,hel,c1,c2,c3,c4',-yu];exact kg st0.ext ⟨1,0,by simp,⟨λhc=>by omega,λ⟨N,hN,hg,_⟩=>by have:=hg.n2;omega⟩⟩
 have c4':((g.ev.length:Int)>256)=False:=qi0 (by omega);have c4'':((256:Int)<g.ev.length)=False:=qi0 (by omega);obtain⟨N,hN⟩:∃N:Nat,h.n=N:=⟨h.n.toNat,by omega⟩;obtain⟨m2,s1,s2,s3,s4⟩:=(st0.row [zI,zI,zI,zU,zI]).fill 0 rfl (n:=5) (l':=qh (e0 0)) rfl rfl (jP _);have s1':ww 5 (.pointer (some ⟨m1.n,0,none⟩)) (.agg ⟨[.int .i64 (-1),.int .i64 2,zI,zU,.int .i64 1]⟩) (Dx.newRow m1 [zI,zI,zI,zU,zI])=some (undef,m2):=s1;have st2:St m m2 [(m1.n,qh (e0 0)),(m.n,ghL h)]:=s2;have k0:load1 m2 ⟨m.n,0,none⟩=some (iv h.n):=(st2.get 1 rfl).2.2.load1 0 none;simp[t0,t1,<-hm1,l0,l1,hel,c1,c2,c3,c4',s1',-WC];refine qq (c:=DJ) rfl (Ret m (fC (WFs h.n g))) (λi t m'=>(∃c,St m m' [(m1.n,qh (e0 c)),(m.n,ghL h)])/\(∀j,j<i->g.ev[j]?=some (e0 j))/\Tm.get 1 t=zF/\Tm.get 2 t=.pointer (some ⟨m.n,0,none⟩)/\Tm.get 6 t=.pointer (some ⟨m1.n,0,none⟩)/\Tm.get 7 t=iv i) N (by omega)
  ⟨⟨0,st2⟩,λj hj=>by omega,by simp[t1],by simp,by simp,by simp⟩ (λi t m' k hi hI hk=>?_)
 obtain⟨⟨c,st⟩,hini,h1,h2,h6,h7⟩:=hI;have k0':load1 m' ⟨m.n,0,none⟩=some (iv N):=by rw[<-hN];exact (st.get 1 rfl).2.2.load1 0 none
 by_cases hil:i<N
 .have hd:=dlt hil;have hd':(i<N)=True:=qi1 hil;have w1:=qK (i:=i) (by omega);obtain⟨m3,u1,u2,u3,u4⟩:=st.store 0 rfl (o:=2) (v:=iv i) (by simp[qh]) rfl;have u2':St m m3 [(m1.n,qh (e0 i)),(m.n,ghL h)]:=u2;have hS:=u2'.sees;have q1:load1 m3 ⟨m.n,1,none⟩=some h.ev:=(u2'.get 1 rfl).2.2.load1 1 none;have q6:loads m3 ⟨m1.n,0,none⟩ 5=some (qh (e0 i)):=(u2'.get 0 rfl).2.2.loads (n:=5) (by simp[qh]);obtain⟨e,he⟩:∃e,g.ev[i]?=some e:=⟨_,qh5 (by omega)⟩;have ⟨a1,a2,a3⟩:=(H.ev.sees hS).at he;have a2':loads m3 (adr 5 h.ev i) 5=some (qh e):=a2 m3 hS.self;have hq:=dz e (e0 i);by_cases heq:e=e0 i
  .rw[qhx heq]at hq;simp[h2,h6,h7,k0',hd,u1,q1,a1,qb,a2',q6,hq,w1,meets];refine hk hil _ _ ?_;refine⟨⟨i,u2'⟩,λj hj=>?_,by simp[h1],by simp[h2],by simp[h6],by simp⟩;rcases Nat.lt_succ_iff_lt_or_eq.1 hj with hj | rfl
   .exact hini j hj
   .rw[he,heq]
  .rw[qhw heq]at hq;simp[h2,h6,h7,k0',hd,u1,q1,a1,qb,a2',q6,hq,meets];refine kg u2'.ext ⟨2,i,by simp[h7],⟨λhc=>by omega,λ⟨N',hN',hg,_⟩=>?_⟩⟩;have hNN:N'=N:=by omega
   rw[hNN]at hg;have:=hg.ini i hil;rw[he]at this;cases this;exact absurd rfl heq
 obtain rfl:i=N:=by omega
 simp[h2,h7,k0',-WC];exact HQ _ _ _ _ _ i hN (by omega) (by omega) hini st (by simp[h2]) (by simp[h1])
theorem rchkB (n:Nat)(hm:m.base<=m.n)(H:GOK m h g){N:Nat}(hN:h.n=N)(hn1:N<=g.ev.length)(hn2:g.ev.length<=256)(hini:∀i,i<N->g.ev[i]?=some (e0 i)){m':M}{B2 B6 c:Nat}(st:St m m' (rcS B2 B6 c h))
  {kn:K} {ke:Nat->K} {t:Tm} (t1:Tm.get 1 t=zF) (t2:Tm.get 2 t=.pointer (some ⟨B2,0,none⟩))
  (HQ:∀t' m',EvG N g.ev->St m m' (rcS B2 B6 c h)->Tm.get 2 t'=.pointer (some ⟨B2,0,none⟩)->Tm.get 1 t'=zF->Ret m (fC (WFs h.n g)) (KF (ex Tryz.prog (n+2)) kn ke (wN [.t 4,.t 5]) t' m')) :
  Ret m (fC (WFs h.n g)) (KG (ex Tryz.prog (n+2)) kn ke (wN [.t 4,.t 5]) t m'):=by
 have hel:=H.ev.len;have rd:∀{m'':M},St m m'' (rcS B2 B6 c h)->(∀o s,load1 m'' ⟨B2,o,s⟩=(ghL h)[o]?)/\loads m'' ⟨B2,0,none⟩ 8=some (ghL h):=λs=>⟨λo s'=>(s.get 1 rfl).2.2.load1 o s',(s.get 1 rfl).2.2.loads (n:=8) (by simp[ghL])⟩;have k0:load1 m' ⟨B2,0,none⟩=some (iv N):=by rw[<-hN];exact (rd st).1 0 none
 simp[t2,k0,-WB];refine qq (c:=DK) rfl (Ret m (fC (WFs h.n g))) (λi t m'=>St m m' (rcS B2 B6 c h)/\(∀j e,N<=j->j<N+i->g.ev[j]?=some e->evB N e=true)/\Tm.get 1 t=zF/\Tm.get 2 t=.pointer (some ⟨B2,0,none⟩)/\Tm.get 8 t=iv (N+i:Nat)) (g.ev.length-N) (by omega)
  ⟨st,λj e h1 h2=>by omega,by simp[t1],by simp[t2],by simp⟩ (λi t m' k hi hI hk=>?_)
 obtain⟨st,hB,h1,h2,h8⟩:=hI;obtain⟨z,hz⟩:=qi4 (N+i);rw[<-hz]at h8 hB;have S:=st.sees;have l1:load1 m' ⟨B2,1,none⟩=some h.ev:=(rd st).1 1 none;have L8:=(rd st).2;by_cases hil:z<g.ev.length
 .obtain⟨e,he⟩:∃e,g.ev[z]?=some e:=⟨_,qh5 hil⟩;have ⟨a1,a2,_⟩:=(H.ev.sees S).at he;have a2':loads m' (adr 5 h.ev z) 5=some (qh e):=a2 m' S.self;have hd:=dlt hil;have hd':(z<g.ev.length)=True:=qi1 hil;have w1:=qK (i:=z) (by omega);have w3:((z:Int)+1)=((N+(i+1):Nat):Int):=by omega
  obtain⟨v7,m7,u1,u2,rfl⟩:=qd3 (h:=h) n (m:=ql m') (by rw[qt,qW];exact qh8 _) e;have st7:St m (behind m' m7) (rcS B2 B6 c h):=st.step u2.behind;have hlog:=u2.log;rw[hN]at u1;cases hb:evB (N:Int) e with
  | true =>
   rw[hb]at u1;simp[h1,h2,h8,l1,hel,hd',qb,L8,a1,a2',u1,hlog,w1,meets];refine hk (by omega) _ _ ⟨st7,λj e2 q1 q2 q3=>?_,by simp[h1],by simp[h2],by simp;exact w3⟩;by_cases hj:j<z
   .exact hB j e2 q1 hj q3
   .have hjz:j=z:=by omega
    rw[hjz,he]at q3;cases q3;exact hb
  | false =>
   rw[hb]at u1;simp[h1,h2,h8,l1,hel,hd',qb,L8,a1,a2',u1,hlog,meets];refine kg st7.ext ⟨3,z,by simp[h8],⟨λhc=>by omega,λ⟨N',hN',hg,_⟩=>?_⟩⟩;have hNN:N'=N:=by omega
   rw[hNN]at hg;rw[hg.evs z e (by omega) he]at hb;cases hb
 have hzl:z=g.ev.length:=by omega
 have hd':(z<g.ev.length)=False:=qi0 hil;simp[h2,h8,l1,hel,hd',-WB];exact HQ _ _ ⟨hn1,hn2,hini,λi e h1 h2=>hB i e h1 (by rw[hzl];exact (qh7.1 h2).1) h2⟩ st (by simp[h2]) (by simp[h1])
theorem qcy (n:Nat)(hm:m.base<=m.n)(H:GOK m h g)(hz:GSz g)(hza:g.ad.length<=4611686018427387904/\g.dt.length<=4611686018427387904/\g.ct.length<=4611686018427387904):Dx.Call (ex Tryz.prog (n+4)) 33 [.agg ⟨ghL h⟩,zF] m (fC (WFs h.n g)):=by
 refine qm db6_ok (by simp) ?_;refine rchkA (n+3) hm H hz.ev (by simp) (by simp) λt' m' B2 B6 c N hN n1 n2 hini st t2 t1=>?_;refine rchkB (n+1) hm H hN n1 n2 hini st t1 t2 λt' m' g1 st t2 t1=>?_;exact rchkD n hm H hz hza hN g1 st t1 t2
end
end Go.Sx
