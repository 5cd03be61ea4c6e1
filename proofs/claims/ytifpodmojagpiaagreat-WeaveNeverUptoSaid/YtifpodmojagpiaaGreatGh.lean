/- Contracts. -/
import Derived.Test.YtifpodmojagpiaaGreatGg
import Derived.Test.YtifpodmojagpiaaGreatGb2
set_option linter.unusedVariables false
set_option linter.unusedSimpArgs false
set_option linter.defProp false
set_option linter.unusedSectionVars false
set_option maxHeartbeats 2000000
namespace Go.Dx
theorem NH.empty {ν:Type}{m:M}(hm:m.base<=m.n)(A:ν->Nat):NH m m [] A (λ_=>none) [] :=
 ⟨Ow.start (σ:=[]) (W:=[]) hm (by simp) (by simp),λa l h=>(by cases h),λa b l l' h=>(by cases h),(by simp),⟨[],λa l h=>(by cases h)⟩⟩
theorem Mc.ext {m m':M}(h:Mc m m' []):Ext m m':=⟨h.n,λB hB=>h.obj B hB (by simp),h.base,h.low (by simp)⟩
theorem NH.toExt {ν:Type}{m0 m:M}{A:ν->Nat}{C:ν->Option (List Value)}{σ:List (Nat × List Value)}(h:NH m0 m [] A C σ):Ext m0 m:=h.ow.mc.ext
theorem NH.new {ν:Type}{m0 m:M}{A:ν->Nat}{C:ν->Option (List Value)}{σ:List (Nat × List Value)}(h:NH m0 m [] A C σ){a:ν}{l:List Value}(ha:C a=some l):m0.n<=A a:=by
 rcases (h.hx a l ha).1 with h1 | h1
 .cases h1
 .exact h1
end Go.Dx
namespace Go.Sx
open Go.Dx Go.Proofs
set_option maxRecDepth 10000
def RSb (n c:Nat):RS :=
 ⟨false,List.replicate n u0,(List.range c).map λ(i:Nat)=>(i:Int),(List.range c).map λ(i:Nat)=>⟨-1,2,(i:Int),u0,1⟩,[],[],(List.range c).map λ(i:Nat)=>[(i:Int)],[],[],0,[]⟩
def yp (S:RS)(l:List Int):RS:={ S with co:=S.co++[l] }
def vL (S:RS)(n:Int):RS:={ S with last:=S.last++[n] }
theorem BZ (n c:Nat):RSb n (c+1)=vL (yp (evA (RSb n c) ⟨-1,2,(c:Int),u0,1⟩) [(c:Int)]) c:=by
 unfold RSb vL yp evA
 simp only[List.range_succ,List.map_append,List.map_cons,List.map_nil]
variable [Cdf]
theorem Vy (T:Nat)(A:Nm->Nat)(S:RS){c:Nat}(hc:S.co.length=c)(n:Int)(B1 B:Nat)(a:Nm):qo T (qf (qf A (.co c) B1) .cob B) (yp S [n]) a =
  qf (qf (qf (qo T A S) (.co c) (some [iv n])) .cob (some (((qf (qo T A S) (.co c) (some [iv n])) .cob).getD []++[lv1 B1 1]))) .run (some ((qq A S).set 8 (.slice (some ⟨B,0,some (code 1 false)⟩) (S.co.length+1) (S.co.length+1)))) a:=by
 subst hc
 cases a with
 | thr t'=>simp only[qo,qf,yp,reduceCtorEq,if_false];cases S.ths[t']?<;>simp[wH,qf]
 | co c' =>
  by_cases h:c'=S.co.length
  .subst h;simp[qo,qf,yp,gl]
  .simp only[qo,qf,yp,reduceCtorEq,if_false,Nm.co.injEq,h]
   by_cases h2:c'<S.co.length
   .rw[qh2 h2]
   .rw[qha (by simp;omega),qha (by omega)]
 | cob =>
  simp only[qo,qf,reduceCtorEq,if_false,if_true,zE]
  rw[show (yp S [n]).co=S.co++[[n]] from rfl,qgx,List.length_singleton,List.range_succ,List.map_append,wv (by simp)]
  congr 2
  .refine List.map_congr_left λi hi=>?_
   have hi':i<S.co.length:=by simpa using hi
   have hne:¬i=S.co.length:=by omega
   simp[hne,List.getD_eq_getElem?_getD,qh2 hi']
  .simp[List.getD_eq_getElem?_getD]
 | run=>simp[qo,qf,yp,qq,gv]
 | _=>simp[qo,qf,yp]
theorem Zl (T:Nat)(A:Nm->Nat)(S:RS)(n:Int)(B:Nat)(a:Nm):qo T (qf A .lb B) (vL S n) a =
  qf (qf (qo T A S) .lb (some ((qo T A S .lb).getD []++[iv n]))) .run (some ((qq A S).set 4 (.slice (some ⟨B,0,some (code 1 false)⟩) (S.last.length+1) (S.last.length+1)))) a:=by
 cases a with
 | thr t'=>simp only[qo,qf,vL,reduceCtorEq,if_false];cases S.ths[t']?<;>simp[wH,qf]
 | _=>simp[qo,qf,vL,qq,zE,wv,gv]
theorem qdp (T:Nat)(R C:Nat)(n:Nat)(a:Nm):qo T (qf (qf (λ_=>0) .run R) .cb C) (RSb n 0) a=qf (qf (λ_=>none) .run (some [.bool false,.bool false,zS,.slice (some ⟨C,0,some 3⟩) n n,zS,iv n,zS,zS,zS,zS,zS,zS,zS,zS,zS,iv 0])) .cb (some (lsR (List.replicate n u0))) a:=by
 cases a<;>simp[qo,qf,RSb,qq,gl,gv]
abbrev Z16:List Value:=[.bool false,.bool false,zS,zS,zS,zI,zS,zS,zS,zS,zS,zS,zS,zS,zS,zI]
abbrev Z8:List Value:=[zI,zS,zS,zS,zS,zS,zS,zS]
theorem b_g8 (n:Int):qW Z8 [(0,1,.int .i64 n)]=some (.agg ⟨[.int .i64 n,zS,zS,zS,zS,zS,zS,zS]⟩):=rfl
theorem b_r16 (w:Bool)(a:Addr)(l c:Nat)(n:Int):qW Z16 [(0,1,.bool w),(3,1,.slice (some a) l c),(5,8,.agg ⟨[.int .i64 n,zS,zS,zS,zS,zS,zS,zS]⟩)] =
  some (.agg ⟨[.bool w,.bool false,zS,.slice (some a) l c,zS,.int .i64 n,zS,zS,zS,zS,zS,zS,zS,zS,zS,zI]⟩):=rfl
@[simp] theorem b_ev0 (n:Int):qW [zI,zI,zI,zU,zI] [(0,1,.int .i64 (-1)),(1,1,.int .i64 2),(2,1,.int .i64 n),(4,1,.int .i64 1)]=some (.agg ⟨[.int .i64 (-1),.int .i64 2,.int .i64 n,zU,.int .i64 1]⟩):=rfl
theorem bs_sl (m:M)(B:Nat):ki 1 1 (rep 1 [zS]) [(0,1,lv1 B 1)] m=some (.slice (some ⟨m.n,0,some 3⟩) 1 1,Dx.newRow m [lv1 B 1]):=rfl
theorem qdm (N:Nat){m:M}(hm:m.base<=m.n)(n:Nat)(hn:n<=4096) :
  ∃m' A,(ex Tryz.prog (N+1)).f 25 [.bool false,iv n] m=some (mP (A .run),m')/\RX 88 m m' [] A (RSb n n) []:=by
 suffices H:∃v m',(ex Tryz.prog (N+1)).f 25 [.bool false,iv n] m=some (v,m')/\∃A,v=mP (A .run)/\RX 88 m m' [] A (RSb n n) [] by
  obtain⟨v,m',a1,A',rfl,a2⟩:=H
  exact⟨m',A',a1,a2⟩
 refine wO (args:=[.bool false,iv n]) (Q:=λv m'=>∃A:Nm->Nat,v=mP (A .run)/\RX 88 m m' [] A (RSb n n) []) dc0_ok (by simp) ?_
 have mk:=bg (n:=n) (e:=1) (bytes:=8) (zs:=[zU]) rfl (by omega) (by unfold most;omega) (by omega) m
 rw[Xc]at mk
 obtain⟨m1,hm1⟩:=qhd (Dx.newRow m (lsR (List.replicate n u0)))
 rw[<-hm1]at mk
 have e0:=NH.empty hm (ν:=Nm) (λ_=>0)
 have e1:=e0.row (lsR (List.replicate n u0))
 rw[<-hm1]at e1
 obtain⟨R0,hR0⟩:∃R0:List Value,R0=[.bool false,.bool false,zS,.slice (some ⟨m.n,0,some 3⟩) n n,zS,iv n,zS,zS,zS,zS,zS,zS,zS,zS,zS,iv 0]:=⟨_,rfl⟩
 have e2:=e1.row R0
 obtain⟨m2,hm2⟩:=qhd (Dx.newRow m1 R0)
 have hb:yf (.agg ⟨R0⟩) m1=some (.pointer (some ⟨m1.n,0,none⟩),m2):=by rw[hm2];rfl
 rw[<-hm2]at e2
 have e3:=(e2.name (a:=Nm.run) rfl).name (a:=Nm.cb) (by simp[qf])
 have e4:RX 88 m m2 [] (qf (qf (λ_=>0) .run m1.n) .cb m.n) (RSb n 0) []:=e3.conv (λa=>by rw[qdp,hR0]) (λ_ _ _=>rfl)
 have br:=b_r16 false ⟨m.n,0,some (code 1 true)⟩ n n (n:Int)
 have hR0':(.agg ⟨[.bool false,.bool false,zS,.slice (some ⟨m.n,0,some (code 1 true)⟩) n n,zS,.int .i64 (n:Int),zS,zS,zS,zS,zS,zS,zS,zS,zS,zI]⟩:Value)=.agg ⟨R0⟩:=by rw[hR0];rfl
 rw[hR0']at br
 simp[mk,b_g8,br,hb]
 refine qR (c:=DK) rfl (xY _) (λc τ m'=>Tm.get 5 τ=mP m1.n/\Tm.get 6 τ=iv 1/\Tm.get 16 τ=iv n/\Tm.get 17 τ=iv c/\∃A,A .run=m1.n/\RX 88 m m' [] A (RSb n c) []) n (by omega)
  ⟨by simp,by simp,by simp,by simp,_,by simp[qf],e4⟩ (λc τ m' K hc hI hk=>?_)
 obtain⟨t5,t6,t16,t17,A,hA,x0⟩:=hI
 by_cases hcn:c<n
 .have d1:((c:Int)<(n:Int))=True:=eq_true (by omega)
  have w1:=wL (i:=c) (by omega)
  have hev:(RSb n c).ev.length=c:=by simp[RSb]
  have hco:(RSb n c).co.length=c:=by simp[RSb]
  have hla:(RSb n c).last.length=c:=by simp[RSb]
  obtain⟨S0,hS0⟩:=qhd (RSb n c)
  rw[<-hS0]at x0 hev hco hla
  have r0:=RX.run x0
  simp only[qq,hA,hev]at r0
  obtain⟨e,he⟩:∃e:Ev5,e=⟨-1,2,(c:Int),u0,1⟩:=⟨_,rfl⟩
  have her:wE e=[.int .i64 (-1),.int .i64 2,.int .i64 (c:Int),zU,.int .i64 1]:=by rw[he];rfl
  have x1:=x0.row (wE e)
  obtain⟨M1,hM1⟩:=qhd (Dx.newRow m' (wE e))
  have hM1':Dx.newRow m' [Value.int .i64 (-1),Value.int .i64 2,Value.int .i64 (c:Int),zU,Value.int .i64 1]=M1:=by rw[hM1,her]
  have bs1:ki 5 1 (rep 1 [zI,zI,zI,zU,zI]) [(0,5,.agg ⟨[.int .i64 (-1),.int .i64 2,.int .i64 (c:Int),zU,.int .i64 1]⟩)] m'=some (.slice (some ⟨m'.n,0,some 11⟩) 1 1,M1):=by
   rw[<-her,Dp,hM1]
  rw[<-hM1]at x1
  have lx1:loads M1 ⟨m'.n,0,some 11⟩ 5=some (wE e):=x1.blds 0 rfl (o:=0) (n:=5) (some 11) (by simp[wE])
  obtain⟨mq,M2,a1,a2,x2,_⟩:=x1.pushS (b:=.run) (lb:=qq A S0) (o:=6) (bytes:=40) (gvE x1) (by omega) lx1 (λu hu=>VJ [e] u (by simpa using hu)) (by rw[hev];unfold most;omega) (by rw[hev];omega) rfl (by simp) (by simp[qq])
  rw[hev]at a1 a2
  rw[hA]at a2
  have x3:RX 88 m M2 [] (qf A .ev M1.n) (evA S0 e) []:=(x2.conv (YN 88 A S0 e M1.n) (λ_ _ _=>rfl)).clear
  obtain⟨A1,hA1⟩:=qhd (qf A .ev M1.n)
  have hA1r:A1 .run=m1.n:=by rw[hA1];simpa [qf]using hA
  rw[<-hA1]at x3
  obtain⟨S1,hS1⟩:=qhd (evA S0 e)
  rw[<-hS1]at x3
  have hco1:S1.co.length=c:=by rw[hS1];exact hco
  have r3:=RX.run x3
  simp only[qq,hA1r,hco1]at r3
  have x4:=x3.row [iv c]
  obtain⟨M3,hM3⟩:=qhd (Dx.newRow M2 [iv c])
  have hM3':Dx.newRow M2 [Value.int .i64 (c:Int)]=M3:=hM3.symm
  rw[<-hM3]at x4
  have hnc:qo 88 A1 S1 (.co c)=none:=by
   show S1.co[c]?.bind _=none
   rw[qha (by omega)];rfl
  have x5:=(x4.name (a:=Nm.co c) hnc).row [lv1 M2.n 1]
  obtain⟨M4,hM4⟩:=qhd (Dx.newRow M3 [lv1 M2.n 1])
  rw[<-hM4]at x5
  have bs4:ki 1 1 (rep 1 [zS]) [(0,1,.slice (some ⟨M2.n,0,some 3⟩) 1 1)] M3=some (.slice (some ⟨M3.n,0,some 3⟩) 1 1,M4):=by rw[hM4];exact bs_sl M3 M2.n
  have lx5:loads M4 ⟨M3.n,0,some 3⟩ 1=some [lv1 M2.n 1]:=x5.blds 0 rfl (o:=0) (n:=1) (some 3) (by simp)
  have gvc:GV (qf A1 (.co c) M2.n) (qf (qo 88 A1 S1) (.co c) (some [iv c])) .cob 1 c (gv ((qf A1 (.co c) M2.n) .cob) 1 c) :=
   GV.gv (l:=vC A1 S1) (by rw[qh (by simp)];rfl) (by rw[QY,hco1];omega) (by omega) (λu hu=>by
    unfold vC at hu
    obtain⟨i,_,rfl⟩:=List.mem_map.1 hu
    exact lv1_ok _ _)
  have hcb:(qf A1 (.co c) M2.n) .cob=A1 .cob:=qh (by simp)
  have hcr:(qf A1 (.co c) M2.n) .run=m1.n:=by rw[qh (by simp)];exact hA1r
  rw[hcb]at gvc
  obtain⟨mr,M5,b1,b2,x6,_⟩:=x5.pushS (b:=.run) (lb:=qq A1 S1) (o:=8) (bytes:=24) gvc (by omega) lx5 (λu hu=>by simp at hu;subst hu;rfl) (by unfold most;omega) (by omega) (by rw[qh (by simp)];rfl) (by simp) (by simp[qq])
  rw[hcr]at b2
  have x7:RX 88 m M5 [] (qf (qf A1 (.co c) M2.n) .cob M4.n) (yp S1 [(c:Int)]) []:=(x6.conv (λa=>by rw[Vy 88 A1 S1 hco1 c M2.n M4.n a,hco1]) (λ_ _ _=>rfl)).clear
  obtain⟨A2,hA2⟩:=qhd (qf (qf A1 (.co c) M2.n) .cob M4.n)
  have hA2r:A2 .run=m1.n:=by rw[hA2,qh (by simp)];exact hcr
  rw[<-hA2]at x7
  obtain⟨S2,hS2⟩:=qhd (yp S1 [(c:Int)])
  rw[<-hS2]at x7
  have hla2:S2.last.length=c:=by rw[hS2,hS1];exact hla
  have r7:=RX.run x7
  simp only[qq,hA2r,hla2]at r7
  have x8:=x7.row [iv c]
  obtain⟨M6,hM6⟩:=qhd (Dx.newRow M5 [iv c])
  have hM6':Dx.newRow M5 [Value.int .i64 (c:Int)]=M6:=hM6.symm
  rw[<-hM6]at x8
  have lx8:loads M6 ⟨M5.n,0,some 3⟩ 1=some [iv c]:=x8.blds 0 rfl (o:=0) (n:=1) (some 3) (by simp)
  have gvl:GV A2 (qo 88 A2 S2) .lb 1 c (gv (A2 .lb) 1 c):=by
   have:=GV.gv (A:=A2) (C:=qo 88 A2 S2) (a:=.lb) (e:=1) (n:=S2.last.length) (l:=S2.last.map λn=>iv n) rfl (by simp) (by omega) (vK _)
   rwa [hla2]at this
  obtain⟨ms,M7,c1,c2,x9,_⟩:=x8.pushS (b:=.run) (lb:=qq A2 S2) (o:=4) (bytes:=8) gvl (by omega) lx8 (λu hu=>vK [(c:Int)] u (by simpa using hu)) (by unfold most;omega) (by omega) rfl (by simp) (by simp[qq])
  rw[hA2r]at c2
  have xa:RX 88 m M7 [] (qf A2 .lb M6.n) (vL S2 c) []:=(x9.conv (λa=>by rw[Zl 88 A2 S2 c M6.n a,hla2]) (λ_ _ _=>rfl)).clear
  have hSS:RSb n (c+1)=vL S2 c:=by rw[BZ,hS2,hS1,hS0,he]
  rw[<-hSS]at xa
  simp[t5,t6,t16,t17,d1,r0,bs1,a1,a2,r3,hM3',bs4,b1,b2,r7,hM6',c1,c2,w1]
  exact hk hcn _ _ ⟨by simp[t5],by simp[t6],by simp[t16],by simp,_,by rw[qh (by simp)];exact hA2r,xa⟩
 .obtain rfl:c=n:=by omega
  simp[t5,t16,t17]
  exact zu ⟨A,by simp[hA],x0⟩
end Go.Sx
namespace Go.Dx
theorem NH.box {ν:Type}{m0 m:M}{W:List Nat}{A:ν->Nat}{C:ν->Option (List Value)}{σ:List (Nat × List Value)}{B:Nat}{l:List Value}(h:NH m0 m W A C σ)(h0:m0.n<=B)(hB:B<m.n)(ha:Arr m B l)(hσ:∀p∈σ,p.1≠B)(hc:∀a l,C a=some l->A a≠B):NH m0 m W A C ((B,l)::σ):=by
 refine⟨⟨h.ow.mc,h.ow.base,λp hp=>?_,?_⟩,h.hx,h.inj,λp hp a l2 hl=>?_,h.fin⟩
 .rcases List.mem_cons.1 hp with rfl | hp
  .exact⟨.inr h0,hB,ha⟩
  .exact h.ow.arr p hp
 .rw[List.map_cons,List.nodup_cons]
  refine⟨λhm=>?_,h.ow.nd⟩
  obtain⟨q,hq,e⟩:=List.mem_map.1 hm
  exact hσ q hq e
 .rcases List.mem_cons.1 hp with rfl | hp
  .exact hc a l2 hl
  .exact h.sep p hp a l2 hl
end Go.Dx
namespace Go.Sx
open Go.Dx Go.Proofs
set_option maxRecDepth 10000
def xw (S:RS)(x:Tr):RS:={ S with ths:=S.ths++[x],outs:=S.outs++[[]] }
variable [Cdf]
def zf (T:Nat)(A:Nm->Nat)(S:RS)(n:Nat)(a:Nm):Option (List Value):=if a=.mac n\/a=.loc n then none else qo T A S a
section
variable {m m':M}{A A':Nm->Nat}{S S':RS}
def KZ (A:Nm->Nat)(S:RS):List Value:=(List.range S.ths.length).map λt=>mP (A (.thr t))
theorem qaa (T:Nat)(A:Nm->Nat)(S:RS){n:Nat}(hn:S.ths.length=n)(ho:S.outs.length=n)(x:Tr)(hx:x.nums=[])(Bt Btb Mb Lb Bo:Nat)(a:Nm) :
  zf T (qf (qf (qf (qf (qf A (.thr n) Bt) .tb Btb) .outb Bo) (.mac n) Mb) (.loc n) Lb) (xw S x) n a =
  qf (qf (qf (qf (qf (qo T A S) (.thr n) (some [.iface T (mP Mb),zS,iv x.ex])) .tb (some (KZ A S++[mP Bt]))) .run (some ((qq A S).set 2 (.slice (some ⟨Btb,0,some (code 1 false)⟩) (n+1) (n+1)))))
   .outb (some (zH A S++[zS]))) .run (some (((qq A S).set 2 (.slice (some ⟨Btb,0,some (code 1 false)⟩) (n+1) (n+1))).set 13 (.slice (some ⟨Bo,0,some (code 1 false)⟩) (n+1) (n+1)))) a:=by
 have get:∀t,t≠n->(S.ths++[x])[t]?=S.ths[t]?:=λt ht=>by
  by_cases h:t<S.ths.length
  .rw[qh2 h]
  .rw[qha (by simp;omega),qha (by omega)]
 have get2:∀t,t≠n->(S.outs++[[]])[t]?=S.outs[t]?:=λt ht=>by
  by_cases h:t<S.outs.length
  .rw[qh2 h]
  .rw[qha (by simp;omega),qha (by omega)]
 have gn:(S.ths++[x])[n]?=some x:=by rw[qh3 (by omega)];simp[hn]
 have gn2:(S.outs++[[]])[n]?=some []:=by rw[qh3 (by omega)];simp[ho]
 have hnone:S.ths[n]?=none:=qha (by omega)
 have hnone2:S.outs[n]?=none:=qha (by omega)
 cases a with
 | thr t =>
  by_cases h:t=n
  .subst h;simp[zf,qo,qf,xw,gn,wH,hx,gv]
  .have h':¬n=t:=λe=>h e.symm
   simp only[zf,qo,qf,xw,get t h,h,h',reduceCtorEq,if_false,or_self,Nm.thr.injEq,Nm.mac.injEq,Nm.loc.injEq]
   cases S.ths[t]? with
   | none=>rfl
   | some y=>simp[wH,h,h',qf]
 | mac t =>
  by_cases h:t=n
  .subst h;simp[zf,qo,qf,hnone]
  .have h':¬n=t:=λe=>h e.symm
   simp only[zf,qo,qf,xw,get t h,h,h',reduceCtorEq,if_false,or_self,Nm.thr.injEq,Nm.mac.injEq,Nm.loc.injEq]
 | loc t =>
  by_cases h:t=n
  .subst h;simp[zf,qo,qf,hnone]
  .have h':¬n=t:=λe=>h e.symm
   simp only[zf,qo,qf,xw,get t h,h,h',reduceCtorEq,if_false,or_self,Nm.thr.injEq,Nm.mac.injEq,Nm.loc.injEq]
 | num t =>
  by_cases h:t=n
  .subst h;simp[zf,qo,qf,xw,gn,hx,gl,hnone]
  .simp only[zf,qo,qf,xw,get t h,reduceCtorEq,if_false,or_self]
 | out t =>
  by_cases h:t=n
  .subst h;simp[zf,qo,qf,xw,gn2,gl,hnone2,lsR]
  .simp only[zf,qo,qf,xw,get2 t h,reduceCtorEq,if_false,or_self]
 | tb =>
  simp only[zf,qo,qf,xw,reduceCtorEq,if_false,if_true,or_self]
  rw[qgx,List.length_singleton,List.range_succ,List.map_append,wv (by simp)]
  unfold KZ
  congr 2
  .refine List.map_congr_left λi hi=>?_
   have hi':i<S.ths.length:=by simpa using hi
   have hne:¬i=n:=by omega
   simp[hne]
  .simp[hn]
 | outb =>
  simp only[zf,qo,qf,xw,reduceCtorEq,if_false,if_true,or_self]
  rw[qgx,List.length_singleton,List.range_succ,List.map_append,wv (by simp)]
  unfold zH
  congr 2
  .refine List.map_congr_left λi hi=>?_
   have hi':i<S.outs.length:=by simpa using hi
   simp[List.getD_eq_getElem?_getD,qh2 hi']
  .simp[List.getD_eq_getElem?_getD,gv]
 | run=>simp[zf,qo,qf,xw,qq,gv,hn,ho]
 | _=>simp[zf,qo,qf,xw]
@[simp] theorem b_thr (v:Value):qW [.nilIface,zS,zI] [(0,1,.iface 88 v),(2,1,.int .i64 (-1))]=some (.agg ⟨[.iface 88 v,zS,.int .i64 (-1)]⟩):=rfl
theorem add_c (N:Nat)(hm:m.base<=m.n)(h:RH 88 m A S){n:Nat}(hn:S.ths.length=n)(ho:S.outs.length=n)(hn2:n<=1000)(x:Tr)(hx:x.nums=[])(hxe:x.ex=-1)(Mb Lb:Nat) :
  ∃v m' A',(ex Tryz.prog (N+1)).f 27 [mP (A .run),.iface 88 (mP Mb)] m=some (v,m')/\NR m m' A (qo 88 A S) A' (zf 88 A' (xw S x) n)/\A' .run=A .run/\A' (.mac n)=Mb/\A' (.loc n)=Lb:=by
 suffices H:∃v m',(ex Tryz.prog (N+1)).f 27 [mP (A .run),.iface 88 (mP Mb)] m=some (v,m')/\∃A',NR m m' A (qo 88 A S) A' (zf 88 A' (xw S x) n)/\A' .run=A .run/\A' (.mac n)=Mb/\A' (.loc n)=Lb by
  obtain⟨v,m',a1,A',a2⟩:=H
  exact⟨v,m',A',a1,a2⟩
 refine wO (args:=[mP (A .run),.iface 88 (mP Mb)]) (Q:=λv m'=>∃A':Nm->Nat,NR m m' A (qo 88 A S) A' (zf 88 A' (xw S x) n)/\A' .run=A .run/\A' (.mac n)=Mb/\A' (.loc n)=Lb) dc2_ok (by simp) ?_
 obtain⟨Wl,hW,x0⟩:=h.start hm
 have r0:=RX.run x0
 simp only[qq,hn]at r0
 obtain⟨m1,hm1⟩:=qhd (Dx.newRow m [.iface 88 (mP Mb),zS,iv (-1)])
 have hb:yf (.agg ⟨[.iface 88 (mP Mb),zS,.int .i64 (-1)]⟩) m=some (.pointer (some ⟨m.n,0,none⟩),m1):=by rw[hm1];rfl
 have x1:=x0.row [.iface 88 (mP Mb),zS,iv (-1)]
 rw[<-hm1]at x1
 have hnone:qo 88 A S (.thr n)=none:=by show S.ths[n]?.map _=none;rw[qha (by omega)];rfl
 have x2:=(x1.name (a:=Nm.thr n) hnone).row [mP m.n]
 obtain⟨m2,hm2⟩:=qhd (Dx.newRow m1 [mP m.n])
 have bs2:ki 1 1 (rep 1 [.pointer none]) [(0,1,.pointer (some ⟨m.n,0,none⟩))] m1=some (.slice (some ⟨m1.n,0,some 3⟩) 1 1,m2):=by rw[hm2];rfl
 rw[<-hm2]at x2
 have lx2:loads m2 ⟨m1.n,0,some 3⟩ 1=some [mP m.n]:=x2.blds 0 rfl (o:=0) (n:=1) (some 3) (by simp)
 have gvt:GV (qf A (.thr n) m.n) (qf (qo 88 A S) (.thr n) (some [.iface 88 (mP Mb),zS,iv (-1)])) .tb 1 n (gv (A .tb) 1 n):=by
  have:=GV.gv (A:=qf A (.thr n) m.n) (C:=qf (qo 88 A S) (.thr n) (some [.iface 88 (mP Mb),zS,iv (-1)])) (a:=.tb) (e:=1) (n:=n) (l:=KZ A S) (by rw[qh (by simp)];rfl) (by unfold KZ;simp[hn]) (by omega) (λu hu=>by
   unfold KZ at hu
   obtain⟨i,_,rfl⟩:=List.mem_map.1 hu
   rfl)
  rwa [qh (by simp)]at this
 obtain⟨mq,m3,a1,a2,x3,_⟩:=x2.pushS (b:=.run) (lb:=qq A S) (o:=2) (bytes:=8) gvt (by omega) lx2 (λu hu=>by simp at hu;subst hu;rfl) (by unfold most;omega) (by omega) (by rw[qh (by simp)];rfl) (by simp) (by simp[qq])
 rw[qh (by simp)]at a2
 have x4:=x3.row [zS]
 obtain⟨m4,hm4⟩:=qhd (Dx.newRow m3 [zS])
 rw[<-hm4]at x4
 have bs4:ki 1 1 (rep 1 [zS]) [(0,1,zS)] m3=some (.slice (some ⟨m3.n,0,some 3⟩) 1 1,m4):=by rw[hm4];rfl
 have lr3:∀s,load1 m3 ⟨A .run,13,s⟩=some (gv (A .outb) 1 n):=λs=>by
  have:=x3.ld (a:=.run) (qG _ _ _) 13 s
  rw[qh (by simp),qh (by simp)]at this
  rw[this]
  simp[qq,ho]
 have lx4:loads m4 ⟨m3.n,0,some 3⟩ 1=some [zS]:=x4.blds 0 rfl (o:=0) (n:=1) (some 3) (by simp)
 have gvo:GV (qf (qf A (.thr n) m.n) .tb m2.n) (qf (qf (qf (qo 88 A S) (.thr n) (some [.iface 88 (mP Mb),zS,iv (-1)])) .tb (some ((qf (qo 88 A S) (.thr n) (some [.iface 88 (mP Mb),zS,iv (-1)]) .tb).getD []++[mP m.n]))) .run (some ((qq A S).set 2 (.slice (some ⟨m2.n,0,some (code 1 false)⟩) (n+1) (n+1))))) .outb 1 n (gv (A .outb) 1 n):=by
  have:=GV.gv (A:=qf (qf A (.thr n) m.n) .tb m2.n) (C:=qf (qf (qf (qo 88 A S) (.thr n) (some [.iface 88 (mP Mb),zS,iv (-1)])) .tb (some ((qf (qo 88 A S) (.thr n) (some [.iface 88 (mP Mb),zS,iv (-1)]) .tb).getD []++[mP m.n]))) .run (some ((qq A S).set 2 (.slice (some ⟨m2.n,0,some (code 1 false)⟩) (n+1) (n+1))))) (a:=.outb) (e:=1) (n:=n) (l:=zH A S) (by rw[qh (by simp),qh (by simp),qh (by simp)];rfl) (by rw[Qf];omega) (by omega) (λu hu=>by
   unfold zH at hu
   obtain⟨i,_,rfl⟩:=List.mem_map.1 hu
   exact JT _ _ _)
  rwa [qh (by simp),qh (by simp)]at this
 obtain⟨mr,m5,b1,b2,x5,_⟩:=x4.pushS (b:=.run) (o:=13) (bytes:=24) gvo (by omega) lx4 (λu hu=>by simp at hu;subst hu;rfl) (by unfold most;omega) (by omega) (qG _ _ _) (by simp) (by simp[qq])
 rw[qh (by simp),qh (by simp)]at b2
 have htb:(qo 88 A S .tb).getD []=KZ A S:=zE _
 have hob:(qo 88 A S .outb).getD []=zH A S:=zE _
 have x6:NH m m5 Wl (qf (qf (qf (qf (qf A (.thr n) m.n) .tb m2.n) .outb m4.n) (.mac n) Mb) (.loc n) Lb) (zf 88 (qf (qf (qf (qf (qf A (.thr n) m.n) .tb m2.n) .outb m4.n) (.mac n) Mb) (.loc n) Lb) (xw S x) n) []:=by
  refine NH.conv x5.clear (λa=>?_) (λa l ha=>?_)
  .rw[qaa 88 A S hn ho x hx m.n m2.n Mb Lb m4.n a,hxe]
   rw[qh (a:=Nm.thr n) (b:=Nm.tb) (by simp),htb,qh (a:=Nm.run) (b:=Nm.outb) (by simp),qh (a:=Nm.tb) (b:=Nm.outb) (by simp),qh (a:=Nm.thr n) (b:=Nm.outb) (by simp),hob]
  .have hnm:a≠.mac n:=by
    rintro rfl
    rw[qh (by simp),qh (by simp),qh (by simp),qh (by simp),qh (by simp)]at ha
    rw[show qo 88 A S (.mac n)=none by show S.ths[n]?.map _=none;rw[qha (by omega)];rfl]at ha
    cases ha
   have hnl:a≠.loc n:=by
    rintro rfl
    rw[qh (by simp),qh (by simp),qh (by simp),qh (by simp),qh (by simp)]at ha
    rw[show qo 88 A S (.loc n)=none by show S.ths[n]?.map _=none;rw[qha (by omega)];rfl]at ha
    cases ha
   rw[qh hnl,qh hnm]
 simp[r0,hb,bs2,a1,a2,lr3,bs4,b1,b2]
 exact Ky ⟨_,x6.res hW,by simp[qf],by simp[qf],by simp[qf]⟩
end
end Go.Sx
namespace Go.Sx
open Go.Dx Go.Proofs
set_option maxRecDepth 10000
structure IV (S:RS)(b:Nat):Prop where
 last:S.last.length=S.cells.length
 co:S.co.length=S.cells.length
 outs:S.outs.length=S.ths.length
 rf:S.rf.length<=S.ev.length
 rmw:S.rmw=[]
 nums:∀(t:Nat) (x:Tr),S.ths[t]?=some x->x.nums.length<=S.ev.length
 co1:∀(c:Nat) (l:List Int),S.co[c]?=some l->1<=l.length/\l.length<=S.ev.length+1
 outN:∀(t:Nat) (l:List U),S.outs[t]?=some l->l.length<=b
 log:S.log.length<=S.used
theorem bj {α:Type}{P Q:α->Prop}{l:List α}{i:Nat}{f:α->α}(h:∀(j:Nat) x,l[j]?=some x->P x)(hf:∀x,P x->Q (f x))(hP:∀x,P x->Q x):∀(j:Nat) x,(l.modify i f)[j]?=some x->Q x:=λj x hx=>by
 rw[List.getElem?_modify]at hx
 cases hy:l[j]? with
 | none=>rw[hy]at hx;simp at hx
 | some y =>
  rw[hy]at hx
  simp at hx
  have:=h j y hy
  by_cases e:i=j
  .rw[if_pos e]at hx;rw[<-hx];exact hf y this
  .rw[if_neg e]at hx;rw[<-hx];exact hP y this
section
variable {S:RS}{b:Nat}{acts:Nat->List Ac}{cells:Int}
theorem IV.mc (h:IV S b)(t:Nat)(f:Ms->Ms):IV (mcS S t f) b :=
 ⟨h.last,h.co,by show _=(S.ths.modify t _).length;rw[List.length_modify];exact h.outs,h.rf,h.rmw,bj (P:=λx:Tr=>x.nums.length<=S.ev.length) (Q:=λx:Tr=>x.nums.length<=S.ev.length) h.nums (λ_ h=>h) (λ_ h=>h),h.co1,h.outN,h.log⟩
theorem IV.ex (h:IV S b)(t:Nat)(n:Int):IV (exA S t n) b :=
 ⟨h.last,h.co,by show _=(S.ths.modify t _).length;rw[List.length_modify];exact h.outs,h.rf,h.rmw,bj (P:=λx:Tr=>x.nums.length<=S.ev.length) (Q:=λx:Tr=>x.nums.length<=S.ev.length) h.nums (λ_ h=>h) (λ_ h=>h),h.co1,h.outN,h.log⟩
theorem IV.ev (h:IV S b)(t:Nat)(e:Ev5):IV (evS S t e) b:=by
 have hl:(evS S t e).ev.length=S.ev.length+1:=by show (S.ev++[_]).length=_;simp
 refine⟨h.last,h.co,by show _=(S.ths.modify t _).length;rw[List.length_modify];exact h.outs,by rw[hl];have:=h.rf;show S.rf.length<=_;omega,h.rmw,?_,λc l hc=>?_,h.outN,h.log⟩
 .rw[hl]
  exact bj (P:=λx:Tr=>x.nums.length<=S.ev.length) (Q:=λx:Tr=>x.nums.length<=S.ev.length+1) h.nums (λx hx=>by simp;exact hx) (λx hx=>by omega)
 .rw[hl]
  have:=h.co1 c l hc
  omega
theorem IV.rfA (h:IV S b)(t:Nat)(e:Ev5)(p:Int × Int):IV (rfA (evS S t e) p) b:=by
 have h1:=h.ev t e
 have hl:(evS S t e).ev.length=S.ev.length+1:=by show (S.ev++[_]).length=_;simp
 exact⟨h1.last,h1.co,h1.outs,by show (S.rf++[p]).length<=_;rw[show (Go.Sx.rfA (evS S t e) p).ev=(evS S t e).ev from rfl,hl];have:=h.rf;simp;omega,h1.rmw,h1.nums,h1.co1,h1.outN,h1.log⟩
theorem IV.load (h:IV S b)(al:List Ac)(t:Nat)(w:Wt):IV (jD al t w S) b:=by
 unfold jD
 simp only
 refine IV.mc ?_ _ _
 split
 .exact (h.rfA t _ _).ex _ _
 .exact h.rfA t _ _
theorem IV.store (h:IV S b)(al:List Ac)(t:Nat)(w:Wt):IV (jg al t w S) b:=by
 unfold jg
 refine IV.mc ?_ _ _
 have h1:=h.ev t ⟨0,2,w.loc,w.val,w.mode⟩
 have hl:(evS S t ⟨0,2,w.loc,w.val,w.mode⟩).ev.length=S.ev.length+1:=by show (S.ev++[_]).length=_;simp
 obtain⟨S1,hS1⟩:=qhd (evS S t ⟨0,2,w.loc,w.val,w.mode⟩)
 have hco:S1.co=S.co:=by rw[hS1];rfl
 rw[<-hS1]at h1 hl ⊢
 refine⟨?_,?_,h1.outs,h1.rf,h1.rmw,h1.nums,?_,h1.outN,h1.log⟩
 .show (S1.last.set _ _).length=(S1.cells.set _ _).length
  rw[List.length_set,List.length_set];exact h1.last
 .show (S1.co.modify _ _).length=(S1.cells.set _ _).length
  rw[List.length_modify,List.length_set];exact h1.co
 .show ∀(c:Nat) (l:List Int),(S1.co.modify _ _)[c]?=some l->1<=l.length/\l.length<=S1.ev.length+1
  rw[hl,hco]
  exact bj (P:=λl:List Int=>1<=l.length/\l.length<=S.ev.length+1) (Q:=λl:List Int=>1<=l.length/\l.length<=S.ev.length+1+1) h.co1 (λx hx=>by simp;omega) (λx hx=>by omega)
theorem IV.out (h:IV S b)(t:Nat)(v:U):IV (Qn S t v) (b+1) :=
 ⟨h.last,h.co,by show (S.outs.modify t _).length=_;rw[List.length_modify];exact h.outs,h.rf,h.rmw,h.nums,h.co1,bj (P:=λl:List U=>l.length<=b) (Q:=λl:List U=>l.length<=b+1) h.outN (λx hx=>by simp;exact hx) (λx hx=>by omega),h.log⟩
theorem IV.mono (h:IV S b){b':Nat}(hb:b<=b'):IV S b':=⟨h.last,h.co,h.outs,h.rf,h.rmw,h.nums,h.co1,λt l hl=>qgz (h.outN t l hl) hb,h.log⟩
theorem IV.used (h:IV S b)(t:Int):IV (gX (zw S) t) b:=⟨h.last,h.co,h.outs,h.rf,h.rmw,h.nums,h.co1,h.outN,by show (S.log++[t]).length<=S.used+1;have:=h.log;simp;exact this⟩
theorem Ga (al:List Ac)(t:Nat)(w:Wt)(hx:w.what=1->w.ex=false)(S:RS):(doR al t w S).used=S.used:=by
 unfold doR
 by_cases h1:w.what=1
 .rw[if_pos h1]
  simp only[hx h1,if_false,Bool.false_eq_true]
  unfold jD
  simp only[hx h1,if_false,Bool.false_eq_true]
  rfl
 .rw[if_neg h1]
  split
  .rfl
  .split
   .rfl
   .split<;>rfl
theorem IV.do (h:IV S b)(al:List Ac)(t:Nat)(w:Wt)(hx:w.what=1->w.ex=false):IV (doR al t w S) (b+1):=by
 unfold doR
 by_cases h1:w.what=1
 .rw[if_pos h1]
  simp only[hx h1,if_false,Bool.false_eq_true]
  exact (h.load al t w).mono (by omega)
 .rw[if_neg h1]
  split
  .exact (h.store al t w).mono (by omega)
  .split
   .exact ((h.ev t _).mc _ _).mono (by omega)
   .split
    .exact (h.out t _).mc _ _
    .exact h.mono (by omega)
theorem TG.ths {S':RS}(h:TG S acts cells)(hS:S'.ths=S.ths):TG S' acts cells:=h.same λt' x' hx'=>⟨x',by rw[<-hS];exact hx',rfl,rfl⟩
theorem TG.do (h:TG S acts cells)(t:Nat)(w:Wt)(hx:w.what=1->w.ex=false):TG (doR (acts t) t w S) acts cells:=by
 have hev:∀e,TG (evS S t e) acts cells:=λe=>h.modify (S':=evS S t e) (t:=t) (f:=λx=>{ x with nums:=x.nums++[(S.ev.length:Int)] }) rfl λ_=>⟨rfl,rfl⟩
 unfold doR
 by_cases h1:w.what=1
 .rw[if_pos h1]
  simp only[hx h1,if_false,Bool.false_eq_true]
  unfold jD
  simp only[hx h1,if_false,Bool.false_eq_true]
  refine TG.feed ?_ t _
  exact TG.ths (hev ⟨0,1,w.loc,cellAt S w.loc.toNat,w.mode⟩) rfl
 .rw[if_neg h1]
  split
  .unfold jg
   refine TG.feed ?_ t _
   exact TG.ths (hev ⟨0,2,w.loc,w.val,w.mode⟩) rfl
  .split
   .exact (hev _).feed t _
   .split
    .refine TG.feed ?_ t _
     exact TG.ths h rfl
    .exact h
theorem qb9 (h:TG S acts cells)(hn:∀t,NP (acts t))(t:Nat):(ZJ (mcS S t (qI (acts t))) t).what=1->(ZJ (mcS S t (qI (acts t))) t).ex=false:=by
 unfold ZJ
 cases hx:S.ths[t]? with
 | none =>
  have:(mcS S t (qI (acts t))).ths[t]?=none:=by unfold mcS;rw[List.getElem?_modify,hx];rfl
  rw[this];simp[wt0]
 | some x =>
  rw[ZB S _ hx]
  simp only
  obtain⟨g1,g2,g3,g4⟩:=h.hg t x hx
  obtain⟨q1,q2,q3,q4⟩:=yB g1 g4
  obtain⟨_,six⟩:=MI.six g1 q1 q3 q4 (hn t)
  exact λe=>six (by omega)
theorem KQ (h:TG S acts cells)(hn:∀t,NP (acts t))(hi:IV S S.used)(p:Int):TG (kz acts p S) acts cells/\IV (kz acts p S) (kz acts p S).used/\(kz acts p S).used<=S.used+1:=by
 unfold kz
 by_cases hp:0<=p/\p<S.ths.length
 .rw[if_pos hp]
  simp only
  have hx:=qb9 h hn p.toNat
  have hT:=h.next p.toNat
  have hI:=hi.mc p.toNat (qI (acts p.toNat))
  split
  .refine⟨?_,?_,by rw[Ga _ _ _ hx];exact qgq _⟩
   .refine TG.do ?_ _ _ hx
    exact TG.ths hT rfl
   rw[Ga _ _ _ hx]
   exact (hI.used _).do _ _ _ hx
  .exact⟨hT,hI,Nat.le_succ _⟩
 .rw[if_neg hp]
  exact⟨h,hi,Nat.le_succ _⟩
theorem qa0 (al:List Ac)(t:Nat)(w:Wt)(hx:w.what=1->w.ex=false)(S:RS):(doR al t w S).cells.length=S.cells.length:=by
 unfold doR
 by_cases h1:w.what=1
 .rw[if_pos h1]
  simp only[hx h1,if_false,Bool.false_eq_true]
  unfold jD
  simp only[hx h1,if_false,Bool.false_eq_true]
  rfl
 .rw[if_neg h1]
  split
  .show (S.cells.set _ _).length=_;rw[List.length_set]
  .split
   .rfl
   .split<;>rfl
theorem Vp (h:TG S acts cells)(hn:∀t,NP (acts t))(p:Int):(kz acts p S).cells.length=S.cells.length:=by
 unfold kz
 by_cases hp:0<=p/\p<S.ths.length
 .rw[if_pos hp]
  simp only
  split
  .rw[qa0 _ _ _ (qb9 h hn p.toNat)];rfl
  .rfl
 .rw[if_neg hp]
theorem zM (hn:∀t,NP (acts t)):∀(l:List Int) (S:RS),TG S acts cells->IV S S.used->TG (wk acts l S) acts cells/\IV (wk acts l S) (wk acts l S).used/\(wk acts l S).used<=S.used+l.length/\(wk acts l S).cells.length=S.cells.length
 | [],S,h,hi=>⟨h,hi,qgq _,rfl⟩
 | p::l,S,h,hi=>by
  obtain⟨h1,h2,h3⟩:=KQ h hn hi p
  obtain⟨k1,k2,k3,k4⟩:=zM hn l (kz acts p S) h1 h2
  exact⟨k1,k2,by show (wk acts l (kz acts p S)).used<=_;rw[List.length_cons];omega,k4.trans (Vp h hn p)⟩
theorem IV.sz (h:IV S b)(hc:S.cells.length<=4096)(ht:S.ths.length<=64)(he:S.ev.length<=256)(hb:b<=1000000000000):SZ S :=
 ⟨h.last,h.co,h.outs,by omega,by omega,by omega,by have:=h.rf;omega,by rw[h.rmw];simp,λt x hx=>by have:=h.nums t x hx;omega,λc l hl=>by have:=h.co1 c l hl;omega,λt l hl=>by have:=h.outN t l hl;omega⟩
end
end Go.Sx
namespace Go.Sx
open Go.Dx Go.Proofs
set_option maxRecDepth 10000
def Ql (p:Nat × Value):Tr:=⟨p.1,p.2,ms0 p.1,[],-1⟩
def S0 (n:Nat)(l:List (Nat × Value)):RS:=l.foldl (λS p=>xw S (Ql p)) (RSb n n)
theorem qdg (n:Nat)(l:List (Nat × Value))(p:Nat × Value):S0 n (l++[p])=xw (S0 n l) (Ql p):=by unfold S0;rw[List.foldl_append];rfl
theorem foldT (l:List (Nat × Value)):∀S:RS,(l.foldl (λS p=>xw S (Ql p)) S)={ S with ths:=S.ths++l.map Ql,outs:=S.outs++l.map λ_=>[] }:=by
 induction l with
 | nil=>intro S;simp
 | cons p l ih=>intro S;rw[List.foldl_cons,ih];simp[xw]
theorem Kd (n:Nat)(l:List (Nat × Value)):S0 n l={ RSb n n with ths:=l.map Ql,outs:=l.map λ_=>[] }:=by
 unfold S0
 rw[foldT]
 simp[RSb]
theorem XT (n:Nat)(l:List (Nat × Value)):(S0 n l).ths.length=l.length/\(S0 n l).outs.length=l.length:=by rw[Kd];simp
theorem Db (n:Nat)(l:List (Nat × Value)):IV (S0 n l) (S0 n l).used:=by
 rw[Kd]
 refine⟨by simp[RSb],by simp[RSb],by simp,by simp[RSb],rfl,λt x hx=>?_,λc k hk=>?_,λt k hk=>?_,by simp[RSb]⟩
 .simp only[qh4]at hx
  cases hp:l[t]? with
  | none=>rw[hp]at hx;cases hx
  | some p=>rw[hp]at hx;cases hx;simp[Ql]
 .simp only[RSb,qh4]at hk
  cases hp:(List.range n)[c]? with
  | none=>rw[hp]at hk;cases hk
  | some p=>rw[hp]at hk;cases hk;simp
 .simp only[qh4]at hk
  cases hp:l[t]? with
  | none=>rw[hp]at hk;cases hk
  | some p=>rw[hp]at hk;cases hk;simp
def CurOf (cur acts:List Ac):Prop:=cur.length=acts.length/\∀(j:Nat) a,acts[j]?=some a->∃a',cur[j]?=some a'/\AcEq a' a
theorem AcG.eq {k na:Nat}{cells:Int}{a a':Ac}(h:AcG k na cells a)(e:AcEq a' a):AcG k na cells a':=by
 obtain⟨x,y,z,rfl⟩:=e
 exact⟨h.op,h.may,h.dst,h.pl,h.es,h.to⟩
theorem CurOf.all {cur acts:List Ac}(h:CurOf cur acts){P:Ac->Prop}(hP:∀a∈acts,∀a',AcEq a' a->P a'):∀a'∈cur,P a':=λa' ha=>by
 obtain⟨j,hj⟩:=qh9 ha
 have hl:=(qgp.1 hj).1
 obtain⟨a,haj⟩:∃a,acts[j]?=some a:=⟨_,qgn (by rw[<-h.1];exact hl)⟩
 obtain⟨a2,h2,h3⟩:=h.2 j a haj
 rw[hj]at h2
 cases h2
 exact hP a (qgo haj) a' h3
theorem ZX {p:Pg}(h:pgB p=true):(0<=p.cells/\p.cells<=4096)/\p.ths.length<=64/\∀t∈p.ths,thB p.cells t=true:=by
 unfold pgB at h
 simp only[qgt,decide_eq_true_eq,List.all_eq_true]at h
 exact h
theorem thB_g {cells:Int}{t:Th}(h:thB cells t=true):(0<=t.loc/\t.loc<=24)/\t.acts.length<=65536/\∀a∈t.acts,AcG t.loc.toNat t.acts.length cells a:=by
 unfold thB at h
 simp only[qgt,decide_eq_true_eq,List.all_eq_true]at h
 exact⟨h.1,h.2.1,λa ha=>Df (h.2.2 a ha)⟩
structure AdL (p:Pg)(l:List (Nat × Value))(curs:Nat->List Ac):Prop where
 loc:∀(t:Nat) q,l[t]?=some q->∃th,p.ths[t]?=some th/\q.1=th.loc.toNat/\CurOf (curs t) th.acts
theorem Dc {p:Pg}(h:pgB p=true){l:List (Nat × Value)}{curs:Nat->List Ac}(hl:AdL p l curs)(n:Nat):TG (S0 n l) curs p.cells:=by
 obtain⟨h1,h2,h3⟩:=ZX h
 refine⟨h1.2,λt x hx=>?_⟩
 rw[Kd]at hx
 simp only[qh4]at hx
 cases hq:l[t]? with
 | none=>rw[hq]at hx;cases hx
 | some q =>
  rw[hq]at hx
  cases hx
  obtain⟨th,k1,k2,k3⟩:=hl.loc t q hq
  obtain⟨g1,g2,g3⟩:=thB_g (h3 th (qgo k1))
  refine⟨?_,by rw[k3.1];exact g2,by simp[Ql,ms0],⟨Nat.zero_le _,λhc=>by simp[Ql,ms0]at hc⟩⟩
  show ∀a∈curs t,AcG q.1 (curs t).length p.cells a
  rw[k2,k3.1]
  exact k3.all λa ha a' e=>(g3 a ha).eq e
end Go.Sx
namespace Go.Sx
open Go.Dx Go.Proofs
set_option maxRecDepth 10000
theorem TE.ext {T:Nat}{m m':M}{A:Nm->Nat}{S:RS}{acts:Nat->List Ac}[Cdf](h:TE T m A S acts)(e:Ext m m'):TE T m' A S acts :=
 ⟨λt x hx=>let ⟨h1,h2⟩:=h.rav t x hx;⟨h1.congr e.n λB hB=>e.obj B (h1.lt B hB),λa ha=>(h2 a ha).congr e.n λB hB=>e.obj B ((h2 a ha).lt B hB)⟩,h.ro⟩
section
variable {m m0:M}
structure SL (m0 m:M)(A:Nm->Nat)(R n:Nat)(p:Pg)(l:List (Nat × Value))(curs:Nat->List Ac):Prop where
 rx:RX 88 m0 m [] A (S0 n l) []
 te:TE 88 m A (S0 n l) curs
 run:A .run=R
 ad:AdL p l curs
theorem qdj {p:Pg}{l:List (Nat × Value)}{curs:Nat->List Ac}(h:AdL p l curs){th:Th}(ht:p.ths[l.length]?=some th){v:Value}{cur:List Ac}(hc:CurOf cur th.acts):AdL p (l++[(th.loc.toNat,v)]) (λt=>if t=l.length then cur else curs t):=by
 refine⟨λt q hq=>?_⟩
 by_cases e:t<l.length
 .rw[qh2 e]at hq
  obtain⟨th',h1,h2,h3⟩:=h.loc t q hq
  exact⟨th',h1,h2,by rw[if_neg (by omega)];exact h3⟩
 .have hlt:=(qgp.1 hq).1
  have:t=l.length:=by simp at hlt;omega
  subst this
  rw[qh3 (qgq _)]at hq
  simp at hq
  subst hq
  exact⟨th,ht,rfl,by rw[if_pos rfl];exact hc⟩
theorem Bz (N:Nat)(hm0:m0.base<=m0.n){A:Nm->Nat}{R n:Nat}{p:Pg}(hp:PgOK m0 p)(hB:pgB p=true){l:List (Nat × Value)}{curs:Nat->List Ac}(h:SL m0 m A R n p l curs){i:Nat}(hi:i<p.ths.length)(hil:l.length=i) :
  ∃Mb m1 v2 m2 A',(ex Tryz.prog (N+6)).f 26 [pgV p,iv i] m=some (.tuple #[mP Mb,iv 0],m1)/\(ex Tryz.prog (N+6)).f 27 [mP R,.iface 88 (mP Mb)] m1=some (v2,m2)/\∃l' curs',l'.length=i+1/\(∀t,i<t->curs' t=curs t)/\SL m0 m2 A' R n p l' curs':=by
 have hb:=h.rx.mb
 obtain⟨v,m1,e1,k1,hv⟩:=New_c p (i:Int) N m hb (hp.sees ((Sees.refl hm0).ext h.rx.toExt))
 rw[if_pos ⟨hB,by omega,by omega⟩]at hv
 obtain⟨th,cur,hth,hcl,hce,Mb,Lb,av,rfl,hne,hMb,hLb,hMs,hEnv,hNF⟩:=hv
 rw[qh1]at hth
 have hlen:=XT n l
 have hp64:=(ZX hB).2.1
 have x1:=NH.ext h.rx k1
 have live_lt:∀a la,qo 88 A (S0 n l) a=some la->A a<m.n:=λa la ha=>(h.rx.hx a la ha).2.1
 have hmn:m0.n<=m.n:=h.rx.toExt.n
 have x2:=x1.box (B:=Lb) (l:=lsR (ms0 th.loc.toNat).ls) (by omega) hMs.lb hMs.ls (by simp) (λa la ha e=>by have:=live_lt a la ha;omega)
 have x3:=x2.box (B:=Mb) (l:=qF th.loc.toNat av (lvV Lb th.loc.toNat) (ms0 th.loc.toNat)) (by omega) hMs.mb hMs.row (by simp[hne.symm]) (λa la ha e=>by have:=live_lt a la ha;omega)
 obtain⟨v2,m2,A',e2,k2,g1,g2,g3⟩:=add_c (N+5) x1.mb x1.hp (n:=i) (by rw[hlen.1,hil]) (by rw[hlen.2,hil]) (by omega) (Ql (th.loc.toNat,av)) rfl rfl Mb Lb
 rw[h.run]at e2 g1
 have x4:=NH.call x3 k2
 obtain⟨S',hS'⟩:=qhd (xw (S0 n l) (Ql (th.loc.toNat,av)))
 have hS0:S0 n (l++[(th.loc.toNat,av)])=S':=by rw[qdg,hS']
 rw[<-hS']at x4 k2
 have gi:S'.ths[i]?=some (Ql (th.loc.toNat,av)):=by
  rw[hS']
  show (_++[_])[i]?=_
  rw[qh3 (by omega),hlen.1,hil];simp
 have x5:=(x4.name (a:=Nm.mac i) (by unfold zf;rw[if_pos (.inl rfl)])).name (a:=Nm.loc i) (by rw[qh (by simp)];unfold zf;rw[if_pos (.inr rfl)])
 have x6:RX 88 m0 m2 [] A' S' []:=by
  refine NH.conv x5 (λa=>?_) (λa la ha=>?_)
  .by_cases e3:a=.loc i
   .subst e3
    rw[qG]
    show S'.ths[i]?.map _=_
    rw[gi];rfl
   .rw[qh e3]
    by_cases e4:a=.mac i
    .subst e4
     rw[qG]
     show S'.ths[i]?.map _=_
     rw[gi,g3];rfl
    .rw[qh e4]
     unfold zf
     rw[if_neg (by simp[e3,e4])]
  .by_cases e3:a=.loc i
   .subst e3;rw[qG,g3]
   .rw[qh e3]
    by_cases e4:a=.mac i
    .subst e4;rw[qG,g2]
    .rw[qh e4]
 obtain⟨Wl,hl,hmc⟩:=k2.mc
 have obj2:∀B,B<m1.n->¬yk A (qo 88 A (S0 n l)) B->m2.obj B=m1.obj B:=λB h1 h2=>hmc.obj B h1 λhc=>h2 (hl B hc)
 have live2:∀B,yk A' (qo 88 A' S') B->yk A (qo 88 A (S0 n l)) B\/m1.n<=B\/B=Mb\/B=Lb:=λB ⟨a,la,ha,e⟩=>by
  by_cases e3:a=.loc i
  .subst e3;exact .inr (.inr (.inr (by rw[<-e,g3])))
  .by_cases e4:a=.mac i
   .subst e4;exact .inr (.inr (.inl (by rw[<-e,g2])))
   .have:zf 88 A' S' i a=some la:=by unfold zf;rw[if_neg (by simp[e3,e4])];exact ha
    rcases k2.liv a la this with h1 | h1
    .rw[e]at h1;exact .inl h1
    .rw[e]at h1;exact .inr (.inl h1)
 have T1:=h.te.ext k1
 have newB:∀B,EB av cur B->m.n<=B/\B<m1.n/\B≠Mb/\B≠Lb:=λB hB=>by
  have hlt:=hB.lt hEnv.rav λa ha=>(hEnv.ok a ha).1
  rcases hB with hB | ⟨a,ha,hB⟩
  .have h1:=hNF.av B hB
   have h2:=hEnv.avp B hB
   simp at h2
   exact⟨h1,hlt,h2.1,h2.2⟩
  .have h1:=hNF.ac a ha B hB
   have h2:=(hEnv.ok a ha).2
   have h3:B ∉ [Mb,Lb]:=by
    rcases hB with hB | hB | hB
    .exact h2.ix B hB
    .exact h2.ev B hB
    .exact h2.fv B hB
   simp at h3
   exact⟨h1,hlt,h3.1,h3.2⟩
 have notLive:∀B,m.n<=B->¬yk A (qo 88 A (S0 n l)) B:=λB hB ⟨a,la,ha,e⟩=>by have:=live_lt a la ha;omega
 refine⟨Mb,m1,v2,m2,A',e1,e2,l++[(th.loc.toNat,av)],λt=>if t=l.length then cur else curs t,by simp[hil],λt ht=>if_neg (by omega),by rw[hS0];exact x6,?_,g1,qdj h.ad (by rw[hil];exact hth) ⟨hcl,hce⟩⟩
 rw[hS0]
 have old:∀t,t≠i->S'.ths[t]?=(S0 n l).ths[t]?:=λt ht=>by
  rw[hS']
  show ((S0 n l).ths++[_])[t]?=_
  by_cases h1:t<(S0 n l).ths.length
  .rw[qh2 h1]
  .rw[qha (by simp;omega),qha (by omega)]
 refine⟨λt x hx=>?_,λt x hx B hB hL=>?_⟩
 .by_cases e:t=i
  .subst e
   rw[gi]at hx
   cases hx
   rw[if_pos hil.symm]
   exact⟨hEnv.rav.congr hmc.n λB hB=>obj2 B (newB B (.inl hB)).2.1 (notLive B (newB B (.inl hB)).1),λa ha=>((hEnv.ok a ha).1).congr hmc.n λB hB=>obj2 B (newB B (.inr ⟨a,ha,hB⟩)).2.1 (notLive B (newB B (.inr ⟨a,ha,hB⟩)).1)⟩
  .rw[old t e]at hx
   rw[if_neg (by omega)]
   obtain⟨h1,h2⟩:=T1.rav t x hx
   exact⟨h1.congr hmc.n λB hB=>obj2 B (h1.lt B hB) (T1.ro t x hx B (.inl hB)),λa ha=>(h2 a ha).congr hmc.n λB hB=>obj2 B ((h2 a ha).lt B hB) (T1.ro t x hx B (.inr ⟨a,ha,hB⟩))⟩
 .by_cases e:t=i
  .subst e
   rw[gi]at hx
   cases hx
   rw[if_pos hil.symm]at hB
   obtain⟨b1,b2,b3,b4⟩:=newB B hB
   rcases live2 B hL with h1 | h1 | h1 | h1
   .exact notLive B b1 h1
   .omega
   .exact b3 h1
   .exact b4 h1
  .rw[old t e]at hx
   rw[if_neg (by omega)]at hB
   have hro:=h.te.ro t x hx B hB
   have hlt:B<m.n:=by
    obtain⟨h1,h2⟩:=h.te.rav t x hx
    exact hB.lt h1 h2
   have:=k1.n
   rcases live2 B hL with h1 | h1 | h1 | h1
   .exact hro h1
   .omega
   .omega
   .omega
end
end Go.Sx
namespace Go.Sx
open Go.Dx Go.Proofs
set_option maxRecDepth 10000
@[simp] theorem _root_.Go.Dx.pMkif_ap (u:Nat) (x:V) (t:Tm):Fx u x t=some (.iface u (x t)):=_root_.id rfl
@[simp] theorem _root_.Go.Dx.pAsrt_ap (u:Nat) (x:V) (t:Tm):Xs u x t=Dm u (x t):=_root_.id rfl
theorem fin_2 {m:M}{Q:Value->M->Prop}{t:Tm}{p q:Nat}(hq:Q (.tuple #[Tm.get p t,Tm.get q t]) m):xY Q (kO [.t p,.t q] t m):=by
 refine⟨yj [Tm.get p t,Tm.get q t],m,?_,hq⟩
 rw[vS,show vT t m [.t p,.t q]=some [Tm.get p t,Tm.get q t] from rfl,qS,vG]
theorem NH.seen {ν:Type}{m0 m:M}{A:ν->Nat}{C:ν->Option (List Value)}{σ:List (Nat × List Value)}(h:NH m0 m [] A C σ)(hm:m0.base<=m0.n):Sees m0 m:=(Sees.refl hm).ext h.toExt
theorem NH.low {ν:Type}{m0 m1 m:M}{A:ν->Nat}{C:ν->Option (List Value)}{σ:List (Nat × List Value)}(h:NH m1 m [] A C σ)(e:Ext m0 m1)(hb:m0.base<=m0.n):NH m0 m [] A C σ :=
 ⟨⟨(e.trans h.toExt).mc,hb,λp hp=>let ⟨h1,h2,h3⟩:=h.ow.arr p hp;⟨.inr (by rcases h1 with h1 | h1;cases h1;have:=e.n;omega),h2,h3⟩,h.ow.nd⟩,λa l ha=>let ⟨h1,h2,h3⟩:=h.hx a l ha;⟨.inr (by rcases h1 with h1 | h1;cases h1;have:=e.n;omega),h2,h3⟩,h.inj,h.sep,h.fin⟩
theorem AdL.np {p:Pg}{l:List (Nat × Value)}{curs:Nat->List Ac}(h:AdL p l curs)(hl:l.length=p.ths.length)(hz:∀t,p.ths.length<=t->curs t=[])(hn:∀th∈p.ths,∀a∈th.acts,a.op≠4/\a.op≠5/\a.op≠6)(t:Nat):NP (curs t):=by
 by_cases ht:t<l.length
 .obtain⟨th,h1,h2,h3⟩:=h.loc t l[t] (qgn ht)
  refine h3.all λa ha a' e=>?_
  obtain⟨x,y,z,rfl⟩:=e
  exact hn th (qgo h1) a ha
 .rw[hz t (by omega)]
  intro a ha
  cases ha
structure PK (p:Pg)(n:Nat)(picks:List Int)(fuel:Int):Prop where
 np:∀th∈p.ths,∀a∈th.acts,a.op≠4/\a.op≠5/\a.op≠6
 ok:∀(l:List (Nat × Value)) (curs:Nat->List Ac),l.length=p.ths.length->AdL p l curs->(∀t,p.ths.length<=t->curs t=[])->∀i,i<=picks.length->(wk curs (picks.take i) (S0 n l)).ev.length<=256/\(wk curs (picks.take i) (S0 n l)).used<=1000000000000/\(i<picks.length->((wk curs (picks.take i) (S0 n l)).used:Int)<fuel)
theorem qf6 (A:Nm->Nat)(S:RS)(h:S.lse=false):(qq A S).set 1 (.bool false)=qq A S:=by
 unfold qq;rw[h];rfl
theorem qck (N:Nat){m:M}(hm:m.base<=m.n){p:Pg}(hp:PgOK m p)(hB:pgB p=true){n:Nat}(hn:p.cells=n){picks:List Int}{pv:Value}(hpk:Rd m pv 1 intRow picks)(hlen:picks.length<=4611686018427387904){fuel:Int}(hf:0<=fuel)(hK:PK p n picks fuel) :
  ∃m' A l curs,(ex Tryz.prog (N+8)).f 14 [pgV p,pv,iv fuel,.bool false] m=some (.tuple #[mP (A .run),iv 0],m')/\l.length=p.ths.length/\AdL p l curs/\(∀t,p.ths.length<=t->curs t=[]) /\
   RX 88 m m' [] A (wk curs picks (S0 n l)) []/\TE 88 m' A (wk curs picks (S0 n l)) curs:=by
 obtain⟨Q0,hQ0⟩:∃Q0:Value->M->Prop,Q0=λv m'=>∃(A:Nm->Nat) (l:List (Nat × Value)) (curs:Nat->List Ac),v=.tuple #[mP (A Nm.run),iv 0]/\l.length=p.ths.length/\AdL p l curs/\(∀t,p.ths.length<=t->curs t=[]) /\
   RX 88 m m' [] A (wk curs picks (S0 n l)) []/\TE 88 m' A (wk curs picks (S0 n l)) curs:=⟨_,rfl⟩
 suffices H:∃v m',(ex Tryz.prog (N+8)).f 14 [pgV p,pv,iv fuel,.bool false] m=some (v,m')/\Q0 v m' by
  rw[hQ0]at H
  obtain⟨v,m',a1,A,l,curs,rfl,a2⟩:=H
  exact⟨m',A,l,curs,a1,a2⟩
 refine wO (args:=[pgV p,pv,iv fuel,.bool false]) (Q:=Q0) da9_ok (by simp) ?_
 obtain⟨cells,tv,ths⟩:=p
 simp only at hn
 subst hn
 have hpg:=ZX hB
 simp only at hpg
 have st1:=(St.nil hm (Ext.refl m)).row [iv n,tv]
 obtain⟨m1,hm1⟩:=qhd (Dx.newRow m [iv n,tv])
 have hb1:yf (pgV ⟨n,tv,ths⟩) m=some (.pointer (some ⟨m.n,0,none⟩),m1):=by rw[hm1];rfl
 rw[<-hm1]at st1
 have l1:loads m1 ⟨m.n,0,none⟩ 2=some [iv n,tv]:=(st1.get 0 rfl).2.2.loads (n:=2) (by simp)
 have l10:∀o s,load1 m1 ⟨m.n,o,s⟩=[iv n,tv][o]?:=λo s=>(st1.get 0 rfl).2.2.load1 o s
 have hp1:PgOK m1 ⟨n,tv,ths⟩:=hp.sees ((Sees.refl hm).ext st1.ext)
 have hb:=st1.sees.base
 obtain⟨w1,m2,c1,c2,rfl⟩:=YG ⟨n,tv,ths⟩ (N+2) m1 hb hp1
 rw[hB]at c1
 have c1:(ex Tryz.prog (N+7)).f 24 [.agg ⟨[iv n,tv]⟩] m1=some (.bool true,m2):=c1
 have st2:=st1.step c2
 have l20:∀o s,load1 m2 ⟨m.n,o,s⟩=[iv n,tv][o]?:=λo s=>(st2.get 0 rfl).2.2.load1 o s
 obtain⟨m3,A0,e1,x0⟩:=qdm (N+6) st2.sees.base n (by omega)
 have E02:=st2.ext
 have d0:¬(fuel<0):=by omega
 obtain⟨m4,g1,x1,_⟩:=NH.set x0 (a:=.run) (l:=qq A0 (RSb n n)) (o:=1) (v:=.bool false) rfl (by simp[qq]) rfl
 have x2:RX 88 m2 m4 [] A0 (RSb n n) []:=by
  refine NH.conv x1 (λa=>?_) (λ_ _ _=>rfl)
  by_cases e:a=.run
  .subst e
   rw[qG,qf6 A0 (RSb n n) rfl];rfl
  .rw[qh e]
 obtain⟨R,hR⟩:=qhd (A0 .run)
 rw[<-hR]at e1 g1
 obtain⟨k,hk⟩:=qhd (ths.length)
 have hll:za tv=some (.int .i64 (k:Int)):=by rw[hk];exact hp.tv.len
 have l41:∀s,load1 m4 ⟨m.n,1,s⟩=some tv:=λs=>(((st2.step x2.toExt).get 0 rfl).2.2.load1 1 s)
 have n2:m.n<m2.n:=(st2.get 0 rfl).2.1
 have hp2:PgOK m2 ⟨n,tv,ths⟩:=hp.sees ((Sees.refl hm).ext E02)
 simp[hb1,l1,l20,qe,d0,c1,e1,g1,l41,hll]
 refine qR (c:=Dz) rfl (xY _) (λi τ m'=>Tm.get 1 τ=pv/\Tm.get 2 τ=iv fuel/\Tm.get 4 τ=.pointer (some ⟨m.n,0,none⟩)/\Tm.get 10 τ=mP R/\Tm.get 30 τ=iv k/\Tm.get 31 τ=iv i /\
   ∃A l curs,l.length=i/\(∀t,i<=t->curs t=[])/\SL m2 m' A R n ⟨n,tv,ths⟩ l curs) k (by omega)
  ⟨by simp,by simp,by simp,by simp,by simp,by simp,A0,[],λ_=>[],rfl,λ_ _=>rfl,⟨x2,⟨λt x hx=>by simp[S0,RSb]at hx,λt x hx=>by simp[S0,RSb]at hx⟩,hR.symm,⟨λt q hq=>by simp at hq⟩⟩⟩ (λi τ m' K hi hI hkk=>?_)
 obtain⟨t1,t2,t4,t10,t30,t31,A,l,curs,hl,hz,hS⟩:=hI
 have stx:=st2.step hS.rx.toExt
 have lbN:loads m' ⟨m.n,0,none⟩ 2=some [iv n,tv]:=(stx.get 0 rfl).2.2.loads (n:=2) (by simp)
 by_cases hik:i<k
 .have d1:((i:Int)<(k:Int))=True:=eq_true (by omega)
  have w1:=wL (i:=i) (by omega)
  obtain⟨Mb,m5,v2,m6,A',f1,f2,l',curs',f3,f4,f5⟩:=Bz (N+1) st2.sees.base hp2 hB hS (i:=i) (by rw[<-hk];exact hik) hl
  have f1:(ex Tryz.prog (N+7)).f 26 [.agg ⟨[iv n,tv]⟩,iv i] m'=some (.tuple ⟨[mP Mb,iv 0]⟩,m5):=f1
  simp[t1,t2,t4,t10,t30,t31,d1,lbN,qe,f1,f2,w1]
  exact hkk hik _ _ ⟨by simp[t1],by simp[t2],by simp[t4],by simp[t10],by simp[t30],by simp,A',l',curs',f3,λt ht=>by rw[f4 t (by omega)];exact hz t (by omega),f5⟩
 .obtain rfl:i=k:=by omega
  have hln:l.length=ths.length:=by omega
  have hnp:=hS.ad.np hln (λt ht=>hz t (by simp only at ht;omega)) hK.np
  have tg0:=Dc hB hS.ad n
  have iv0:=Db n l
  have hl0:=XT n l
  have Em:Ext m m':=E02.trans hS.rx.toExt
  obtain⟨m7,A7,h1,h2⟩:=play_c (N) hS.rx.mb hS.rx.hp hS.te (hpk.sees ((Sees.refl hm).ext Em)) (λB hB ⟨a,la,ha,e⟩=>by
   have q1:=hpk.lt B hB
   have q2:=NH.new hS.rx ha
   omega) hlen fuel (λj hj=>by
   obtain⟨o1,o2,o3⟩:=hK.ok l curs hln hS.ad (λt ht=>hz t (by simp only at ht;omega)) j hj
   obtain⟨p1,p2,p3,p4⟩:=zM hnp (picks.take j) (S0 n l) tg0 iv0
   have hth:(wk curs (picks.take j) (S0 n l)).ths.length=l.length:=by rw[Ji (vq curs _ _),hl0.1]
   have hc0:(S0 n l).cells.length=n:=by rw[Kd];simp[RSb]
   have sz:=p2.sz (by rw[p4,hc0];omega) (by rw[hth];omega) o1 o2
   exact⟨⟨⟨p1,sz,λc q hq=>(p2.co1 c q hq).1,hnp⟩,by have:=p2.log;omega,o1,by omega⟩,o3⟩)
  rw[hS.run]at h1
  have x7:=RX.call hS.rx h2
  have te7:=hS.te.call h2 (WQ (vq curs _ _))
  simp[t1,t2,t10,t30,t31,h1]
  refine fin_2 ?_
  rw[hQ0]
  exact⟨A7,l,curs,by simp[h2.ak.run,hS.run],hln,hS.ad,λt ht=>hz t (by simp only at ht;omega),NH.low x7 E02 hm,te7⟩
end Go.Sx
namespace Go.Sx
open Go.Dx Go.Proofs
set_option maxRecDepth 10000
abbrev yC:Value:=zS
abbrev fnC:Value:=.func (.func 32) #[] #[]
theorem da (k k':IntKind)(a:Int):bZ k (.int k' a)=some (.int k (k.wrap a)):=by
 show some (Value.int k (vv k a))=_
 rw[zD]
theorem len0_c (n:Nat)(m:M):CallV (ex Tryz.prog (n+1)) 79 [zU] m (iv 0):=by
 refine qy df5_ok (by simp) ?_
 have h1:bZ .u8 zU=some (.int .u8 0):=by rw[da];rfl
 have h2:∀(x y:V) (t:Tm),Xu x y t=sidxV (x t) (y t):=λ_ _ _=>rfl
 simp[h1,h2]
 rw[show sidxV (.string _) (.int .u8 0)=some (.int .u8 0) from rfl]
 simp[da,wrap64]
 exact qp (Ext.refl m) (by simp)
theorem lenI_c (n:Nat)(m:M):CallV (ex Tryz.prog (n+2)) 49 [zU] m (iv 0):=by
 refine qy dd9_ok (by simp) ?_
 obtain⟨v,m1,a1,a2,rfl⟩:=len0_c n m
 simp[a1]
 exact qp a2 (by simp)
theorem ins0_c (n:Nat)(m:M):Dx.Call (ex Tryz.prog (n+1)) 70 [yC,iv 0,iv 0,fnC] m λ_ m'=>m'=m:=by
 refine qy df4_ok (by simp) ?_
 have w:IntKind.i64.wrap 1=1:=wrap64 _ (by omega) (by omega)
 simp[w]
 refine qR (c:=qa1) rfl (Ret m _) (λi t m'=>Tm.get 8 t=iv 1/\Tm.get 2 t=iv 0/\m'=m) 0 (by omega) ⟨by simp,by simp,rfl⟩ (λi t m' k hi hI hk=>?_)
 obtain⟨t8,t2,he⟩:=hI
 rw[he]
 simp[t8,t2]
 exact qc6 (Ext.refl m) rfl
theorem pdq0_c (n:Nat)(m:M):Dx.Call (ex Tryz.prog (n+2)) 48 [yC,iv 0,iv 0,iv 0,fnC] m λ_ m'=>m'=m:=by
 refine qy dd8_ok (by simp) ?_
 simp
 refine qR (c:=DR) rfl (Ret m _) (λi t m'=>Tm.get 0 t=yC/\Tm.get 1 t=iv 0/\Tm.get 2 t=iv 0/\Tm.get 4 t=fnC/\m'=m) 0 (by omega) ⟨by simp,by simp,by simp,by simp,rfl⟩ (λi t m' k hi hI hk=>?_)
 obtain⟨t0,t1,t2,t4,he⟩:=hI
 rw[he]
 obtain⟨v1,m1,a1,a2,a3⟩:=ins0_c n m
 have w:IntKind.i64.wrap 0=0:=wrap64 _ (by omega) (by omega)
 simp[t0,t1,t2,t4,w,a1]
 exact qc6 a2 a3
theorem qfb (n:Nat)(m:M):Dx.Call (ex Tryz.prog (n+3)) 31 [yC,fnC] m λ_ m'=>True:=by
 refine qy dc5_ok (by simp) ?_
 have ln:za yC=some zI:=rfl
 have h1:bZ .u64 zI=some zU:=by rw[da];rfl
 obtain⟨v1,m1,a1,a2,rfl⟩:=lenI_c n m
 obtain⟨v2,m2,b1,b2,b3⟩:=pdq0_c n m1
 simp[ln,h1,a1,b1]
 exact qc6 (a2.trans b2) trivial
end Go.Sx
namespace Go.Dx
section
variable {ν:Type}[DecidableEq ν]{m0 m m':M}{W:List Nat}{A A':ν->Nat}{C C':ν->Option (List Value)}{σ:List (Nat × List Value)}{a:ν}{l:List Value}{o:Option (List Value)}
theorem NH.unname (h:NH m0 m W A C σ)(ha:C a=some l):NH m0 m W A (qf C a none) ((A a,l)::σ):=by
 have key:∀b l2,qf C a none b=some l2->b≠a/\C b=some l2:=λb l2 hb=>by
  by_cases e:b=a
  .subst e;rw[qG]at hb;cases hb
  .rw[qh e]at hb;exact⟨e,hb⟩
 refine⟨h.open ha,λb l2 hb=>h.hx b l2 (key b l2 hb).2,λb c l2 l3 hb hc e=>h.inj b c _ _ (key b l2 hb).2 (key c l3 hc).2 e,λp hp b l2 hb=>?_,?_⟩
 .obtain⟨h1,h2⟩:=key b l2 hb
  rcases List.mem_cons.1 hp with rfl | hp
  .exact λe=>h1 (h.inj b a _ _ h2 ha e)
  .exact h.sep p hp b l2 h2
 .obtain⟨L,hL⟩:=h.fin
  exact⟨L,λb l2 hb=>hL b l2 (key b l2 hb).2⟩
theorem XN (hc:C a=none)(b:ν):C b=qf C a none b:=by
 by_cases e:b=a
 .subst e;rw[qG,hc]
 .rw[qh e]
theorem qfg (hc:C a=none)(x:Option (List Value))(b:ν):C b=qf (qf C a x) a none b:=by
 by_cases e:b=a
 .subst e;rw[qG,hc]
 .rw[qh e,qh e]
theorem NH.callH (h:NH m0 m W A (qf C a o) σ)(hc:C a=none)(k:NR m m' A C A' C')(hc':C' a=none):NH m0 m' W (qf A' a (A a)) (qf C' a o) σ:=by
 cases o with
 | none =>
  have h1:NH m0 m W A C σ:=NH.conv h (λb=>XN hc b) λ_ _ _=>rfl
  refine NH.conv (h1.call k) (λb=>?_) λb l2 hb=>?_
  .by_cases e:b=a
   .subst e;rw[qG,hc']
   .rw[qh e]
  .rw[qh]
   rintro rfl
   rw[hc']at hb;cases hb
 | some l =>
  have h1:NH m0 m W A C ((A a,l)::σ):=NH.conv (h.unname (a:=a) (l:=l) (qG _ _ _)) (λb=>qfg hc _ b) λ_ _ _=>rfl
  exact (h1.call k).name hc'
theorem NH.hpH (h:NH m0 m W A (qf C a o) σ)(hc:C a=none):HpN m A C:=by
 have key:∀b l2,C b=some l2->qf C a o b=some l2:=λb l2 hb=>by
  rw[qh];exact hb
  rintro rfl;rw[hc]at hb;cases hb
 refine⟨λb l2 hb=>(h.hx b l2 (key b l2 hb)).2,λb c l2 l3 hb hc2 e=>h.inj b c _ _ (key b l2 hb) (key c l3 hc2) e,?_⟩
 obtain⟨L,hL⟩:=h.fin
 exact⟨L,λb l2 hb=>hL b l2 (key b l2 hb)⟩
theorem NH.resH {A0:ν->Nat}{C0:ν->Option (List Value)}{B:Nat}(h:NH m0 m W (qf A a B) (qf C a o) σ)(hc:C a=none)(hW:∀B,B∈W ↔ yk A0 C0 B):NR m0 m A0 C0 A C:=by
 have key:∀b l2,C b=some l2->qf C a o b=some l2/\qf A a B b=A b:=λb l2 hb=>by
  have hne:b≠a:=by rintro rfl;rw[hc]at hb;cases hb
  exact⟨by rw[qh hne];exact hb,qh hne⟩
 refine⟨⟨λb l2 hb=>?_,λb c l2 l3 hb hc2 e=>?_,?_⟩,⟨W,λB hB=>(hW B).1 hB,h.ow.mc⟩,λb l2 hb=>?_⟩
 .obtain⟨h1,h2⟩:=key b l2 hb
  have:=(h.hx b l2 h1).2
  rwa [h2]at this
 .obtain⟨h1,h2⟩:=key b l2 hb
  obtain⟨h3,h4⟩:=key c l3 hc2
  exact h.inj b c _ _ h1 h3 (by rw[h2,h4];exact e)
 .obtain⟨L,hL⟩:=h.fin
  exact⟨L,λb l2 hb=>hL b l2 (key b l2 hb).1⟩
 .obtain⟨h1,h2⟩:=key b l2 hb
  have:=(h.hx b l2 h1).1
  rw[h2]at this
  exact this.imp (λh=>(hW _).1 h) id
end
end Go.Dx
namespace Go.Sx
open Go.Dx Go.Proofs
set_option maxRecDepth 10000
def nx (acts:Nat->List Ac)(S:RS):Nat->RS
 | 0=>S
 | i+1=>mcS (nx acts S i) i (qI (acts i))
theorem Yc (acts:Nat->List Ac)(S:RS):∀i,shp (nx acts S i)=shp S
 | 0=>rfl
 | i+1=>(xV _ _ _).trans (Yc acts S i)
theorem nx_tg {acts:Nat->List Ac}{cells:Int}{S:RS}(h:TG S acts cells):∀i,TG (nx acts S i) acts cells
 | 0=>h
 | i+1=>(nx_tg h i).next i
theorem nx_at (acts:Nat->List Ac)(S:RS):∀(i t:Nat),i<=t->(nx acts S i).ths[t]?=S.ths[t]?
 | 0,t,_=>rfl
 | i+1,t,h=>by
  show (mcS (nx acts S i) i _).ths[t]?=_
  rw[VY _ _ (by omega)]
  exact nx_at acts S i t (by omega)
structure SameR (S S':RS):Prop where
 cells:S'.cells=S.cells
 outs:S'.outs=S.outs
 co:S'.co=S.co
 ev:S'.ev=S.ev
 rf:S'.rf=S.rf
 rmw:S'.rmw=S.rmw
 used:S'.used=S.used
 last:S'.last=S.last
theorem ZK (acts:Nat->List Ac)(S:RS):∀i,SameR S (nx acts S i)
 | 0=>⟨rfl,rfl,rfl,rfl,rfl,rfl,rfl,rfl⟩
 | i+1=>let h:=ZK acts S i;⟨h.1,h.2,h.3,h.4,h.5,h.6,h.7,h.8⟩
def Qc (acts:Nat->List Ac)(S:RS)(t:Nat):Bool:=match S.ths[t]? with
 | some x=>decide ((qI (acts t) x.s).now.what=5)
 | none=>false
def hL (acts:Nat->List Ac)(S:RS)(i:Nat):List Value:=(List.range i).map λt=>.bool (Qc acts S t)
theorem qe7 (acts:Nat->List Ac)(S:RS)(i:Nat):hL acts S (i+1)=hL acts S i++[.bool (Qc acts S i)]:=by unfold hL;rw[List.range_succ,List.map_append];rfl
theorem hL_len (acts:Nat->List Ac)(S:RS)(i:Nat):(hL acts S i).length=i:=by unfold hL;simp
theorem hL_ok (acts:Nat->List Ac)(S:RS)(i:Nat):∀u∈hL acts S i,okC u=true:=λu hu=>by
 unfold hL at hu
 obtain⟨t,_,rfl⟩:=List.mem_map.1 hu
 rfl
def wj (A:Nm->Nat)(S:RS)(hv:Value):List Value :=
 [iv S.cells.length,gv (A .ev) 5 S.ev.length,gv (A .rf) 2 S.rf.length,gv (A .cob) 1 S.co.length,zS,zS,zS,zS,.slice (some ⟨A .cb,0,some 3⟩) S.cells.length S.cells.length,gv (A .outb) 1 S.outs.length,hv,iv S.used]
abbrev Z12:List Value:=[zI,zS,zS,zS,zS,zS,zS,zS,zS,zS,zS,zI]
@[simp] theorem asrt_88 (v:Value):Dm 95 (.iface 88 v)=some (.tuple ⟨[.pointer none,.bool false]⟩):=rfl
end Go.Sx
namespace Go.Sx
open Go.Dx Go.Proofs
set_option maxRecDepth 10000
theorem b_play (g0:Int)(g1 g2 g3 g4 g5 g6 g7 f o:Value)(u:Int)(hf:∃a l c,f=.slice a l c)(ho:∃a l c,o=.slice a l c):qW Z12 [(0,8,.agg ⟨[iv g0,g1,g2,g3,g4,g5,g6,g7]⟩),(8,1,f),(9,1,o),(11,1,iv u)]=some (.agg ⟨[iv g0,g1,g2,g3,g4,g5,g6,g7,f,o,zS,iv u]⟩):=by
 obtain⟨a,l,c,rfl⟩:=hf
 obtain⟨a',l',c',rfl⟩:=ho
 rfl
theorem bs_b (m:M)(b:Bool):ki 1 1 (rep 1 [.bool false]) [(0,1,.bool b)] m=some (.slice (some ⟨m.n,0,some 3⟩) 1 1,Dx.newRow m [.bool b]):=rfl
theorem _root_.Go.Dx.HpN.conv {ν:Type}{m:M}{A A':ν->Nat}{C:ν->Option (List Value)}(h:HpN m A C)(hA:∀a l,C a=some l->A' a=A a):HpN m A' C :=
 ⟨λb l hb=>by rw[hA b l hb];exact h.hx b l hb,λb c l l' hb hc e=>by rw[hA b l hb,hA c l' hc]at e;exact h.inj b c l l' hb hc e,h.fin⟩
theorem gv_sl (B e n:Nat):∃a l c,gv B e n=.slice a l c:=by cases n<;>exact⟨_,_,_,rfl⟩
theorem told_c (N:Nat){m:M}(hm:m.base<=m.n){A:Nm->Nat}{S:RS}{acts:Nat->List Ac}{cells:Int}(h:RH 88 m A S)(hE:TE 88 m A S acts)(hG:TG S acts cells)(hrm:S.rmw=[])(hT:S.ths.length<=64) :
  ∃m' Bh,(ex Tryz.prog (N+7)).f 15 [mP (A .run)] m=some (.agg ⟨wj A S (gv Bh 1 S.ths.length)⟩,m')/\∃Wl,(∀B,B∈Wl ↔ yk A (qo 88 A S) B) /\
   NH m m' Wl (qf A (.co S.co.length) Bh) (qf (qo 88 A (nx acts S S.ths.length)) (.co S.co.length) (gl (hL acts S S.ths.length))) []:=by
 obtain⟨Q0,hQ0⟩:∃Q0:Value->M->Prop,Q0=λv m'=>∃Bh,v=.agg ⟨wj A S (gv Bh 1 S.ths.length)⟩/\∃Wl,(∀B,B∈Wl ↔ yk A (qo 88 A S) B) /\
   NH m m' Wl (qf A (.co S.co.length) Bh) (qf (qo 88 A (nx acts S S.ths.length)) (.co S.co.length) (gl (hL acts S S.ths.length))) []:=⟨_,rfl⟩
 suffices H:∃v m',(ex Tryz.prog (N+7)).f 15 [mP (A .run)] m=some (v,m')/\Q0 v m' by
  rw[hQ0]at H
  obtain⟨v,m',a1,Bh,rfl,a2⟩:=H
  exact⟨m',Bh,a1,a2⟩
 refine wO (args:=[mP (A .run)]) (Q:=Q0) db0_ok (by simp) ?_
 obtain⟨Wl,hW,x0⟩:=h.start hm
 have r0:=RX.run x0
 obtain⟨T,hTe⟩:=qhd (S.ths.length)
 rw[<-hTe]at hT
 simp only[qq,<-hTe,hrm]at r0
 have lg:loads m ⟨A .run,5,none⟩ 8=some [iv S.cells.length,gv (A .ev) 5 S.ev.length,gv (A .rf) 2 S.rf.length,gv (A .cob) 1 S.co.length,zS,zS,zS,zS]:=by
  have:=x0.lds (a:=.run) (l:=qq A S) rfl (o:=5) (n:=8) none (by simp[qq])
  rw[this]
  simp[qq,hrm,gv]
 have x1:=x0.row Z12
 obtain⟨m1,hm1⟩:=qhd (Dx.newRow m Z12)
 have n1:m1.n=m.n+1:=by rw[hm1,qz]
 rw[<-hm1]at x1
 have r1:=RX.run x1
 simp only[qq,<-hTe,hrm]at r1
 have lg1:loads m1 ⟨A .run,5,none⟩ 8=some [iv S.cells.length,gv (A .ev) 5 S.ev.length,gv (A .rf) 2 S.rf.length,gv (A .cob) 1 S.co.length,zS,zS,zS,zS]:=by
  have:=x1.lds (a:=.run) (l:=qq A S) rfl (o:=5) (n:=8) none (by simp[qq])
  rw[this]
  simp[qq,hrm,gv]
 have bp:=b_play S.cells.length (gv (A .ev) 5 S.ev.length) (gv (A .rf) 2 S.rf.length) (gv (A .cob) 1 S.co.length) zS zS zS zS (.slice (some ⟨A .cb,0,some 3⟩) S.cells.length S.cells.length) (gv (A .outb) 1 S.outs.length) S.used ⟨_,_,_,rfl⟩ (gv_sl _ _ _)
 obtain⟨P0,hP0⟩:∃P0:List Value,P0=wj A S zS:=⟨_,rfl⟩
 have hP0':(Value.agg ⟨[iv S.cells.length,gv (A .ev) 5 S.ev.length,gv (A .rf) 2 S.rf.length,gv (A .cob) 1 S.co.length,zS,zS,zS,zS,.slice (some ⟨A .cb,0,some 3⟩) S.cells.length S.cells.length,gv (A .outb) 1 S.outs.length,zS,iv S.used]⟩)=.agg ⟨P0⟩:=by rw[hP0];rfl
 rw[hP0']at bp
 have hPl:P0.length=12:=by rw[hP0];rfl
 have hPok:∀v∈P0,okC v=true:=by
  rw[hP0]
  intro v hv
  simp only[wj,List.mem_cons,List.not_mem_nil,or_false]at hv
  rcases hv with rfl | rfl | rfl | rfl | rfl | rfl | rfl | rfl | rfl | rfl | rfl | rfl<;>first | rfl | exact JT _ _ _
 have x2:=x1.row Z12
 obtain⟨m2,hm2⟩:=qhd (Dx.newRow m1 Z12)
 rw[<-hm2]at x2
 obtain⟨m3,a1,a2,x3,_⟩:=x2.bsetNAny 0 rfl (o:=0) (n:=12) (l':=P0) (by omega) hPl (by simp) hPok
 rw[kG (by rw[hPl];rfl)]at x3
 obtain⟨M3,hM3⟩:=qhd (Dx.behind m2 m3)
 rw[<-hM3]at x3
 have hne:¬A .run=m1.n:=λe=>by
  have:=(h.hx .run _ rfl).1
  omega
 have r3:=RX.run x3
 simp only[qq,<-hTe,hrm]at r3
 have hlt:=Zs (A .tb) 1 T
 obtain⟨nc,hnc⟩:=qhd (S.co.length)
 have hno:∀i,qo 88 A (nx acts S i) (.co nc)=none:=λi=>by
  show (nx acts S i).co[nc]?.bind _=none
  rw[(ZK acts S i).co,qha (by omega)];rfl
 have y0:NH m M3 Wl (qf A (.co nc) 0) (qf (qo 88 A S) (.co nc) (gl (hL acts S 0))) [(m1.n,P0),(m.n,Z12)]:=by
  refine NH.conv x3 (λb=>by rw[show gl (hL acts S 0)=none from rfl];exact (XN (hno 0) b).symm) λb l hb=>?_
  rw[qh]
  rintro rfl
  rw[show qo 88 A S (.co nc)=none from hno 0]at hb;cases hb
 simp[<-hm1,r1,lg1,qe,bp,<-hm2,a1,a2,<-hM3,hne,r3,hlt]
 refine qR (c:=DC) rfl (xY _) (λi τ M=>Tm.get 2 τ=.pointer (some ⟨m.n,0,none⟩)/\Tm.get 3 τ=.pointer (some ⟨m1.n,0,none⟩)/\Tm.get 4 τ=.pointer (some ⟨m1.n,0,none⟩)/\Tm.get 33 τ=gv (A .tb) 1 T/\Tm.get 34 τ=iv T/\Tm.get 35 τ=iv i /\
   ∃Bh,NH m M Wl (qf A (.co nc) Bh) (qf (qo 88 A (nx acts S i)) (.co nc) (gl (hL acts S i))) [(m1.n,wj A S (gv Bh 1 i)),(m.n,Z12)]) T (by omega)
  ⟨by simp,by simp,by simp,by simp,by simp,by simp,0,by rw[hP0]at y0;exact y0⟩ (λi τ M K hi hI hk=>?_)
 obtain⟨t2,t3,t4,t33,t34,t35,Bh,y⟩:=hI
 have hbt:=hno i
 have hp:RH 88 M A (nx acts S i):=(y.hpH hbt).conv λa l ha=>by
  rw[qh]
  rintro rfl;rw[hbt]at ha;cases ha
 have hlen:(nx acts S i).ths.length=T:=by rw[Ji (Yc acts S i),hTe]
 by_cases hiT:i<T
 .have d1:((i:Int)<(T:Int))=True:=eq_true (by omega)
  have w1:=wL (i:=i) (by omega)
  obtain⟨x,hx⟩:∃x,S.ths[i]?=some x:=⟨_,qgn (by omega)⟩
  have hxi:(nx acts S i).ths[i]?=some x:=by rw[nx_at acts S i i (qgq _)];exact hx
  have ixt:=ya (B:=A .tb) hiT
  have htb:∀s,load1 M ⟨A .tb,i,s⟩=some (mP (A (.thr i))):=λs=>by
   have hc:qo 88 A (nx acts S i) .tb=some ((List.range (nx acts S i).ths.length).map λt=>mP (A (.thr t))):=wv (RX.tbne (t:=i) (by rw[hlen];exact hiT))
   rw[(hp.hx _ _ hc).2.load1 i s,qh4,List.getElem?_range (by rw[hlen];exact hiT)];rfl
  have lt:=HpN.thrv hp hxi
  simp only[wH]at lt
  have lp:∀o s,load1 M ⟨m1.n,o,s⟩=(wj A S (gv Bh 1 i))[o]?:=λo s=>y.bld 0 rfl o s
  simp only[wj]at lp
  have Ei:TE 88 M A (nx acts S i) acts:=hE.call ⟨y.resH hbt hW,AK.refl A⟩ (WQ (Yc acts S i))
  obtain⟨m5,b1,b2⟩:=nextT (m:=qc M) hp.any (by rw[wW,qt];exact qgq _) (Ei.any y.mb) (nx_tg hG i) hxi N
  obtain⟨M5,hM5⟩:=qhd (Dx.behind M m5)
  have k5:=b2.behind
  rw[<-hM5]at k5
  have hnot:m1.n ∉ m5.log:=by
   obtain⟨Wn,hl,hmc⟩:=b2.nr.mc
   intro hc
   rcases hmc.log _ hc with h1 | ⟨h1,_⟩
   .rw[wh]at h1;cases h1
   .obtain⟨a,l,ha,e⟩:=hl _ h1
    have hne2:a≠.co nc:=by rintro rfl;rw[hbt]at ha;cases ha
    have:=y.sep _ (qh6 ..) a l (by rw[qh hne2];exact ha)
    rw[qh hne2]at this
    exact this e
  have y5:NH m M5 Wl (qf A (.co nc) Bh) (qf (qo 88 A (nx acts S (i+1))) (.co nc) (gl (hL acts S i))) [(m1.n,wj A S (gv Bh 1 i)),(m.n,Z12)]:=by
   have:=y.callH (m':=M5) (A:=qf A (.co nc) Bh) (C:=qo 88 A (nx acts S i)) (A':=A) (C':=qo 88 A (nx acts S (i+1))) hbt ?_ (hno (i+1))
   .rwa [qG]at this
   .refine⟨k5.nr.hp,?_,?_⟩
    .obtain⟨Wn,hl,hmc⟩:=k5.nr.mc
     refine⟨Wn,λB hB=>?_,hmc⟩
     obtain⟨a,l,ha,e⟩:=hl B hB
     exact⟨a,l,ha,by rw[qh];exact e;rintro rfl;rw[hbt]at ha;cases ha⟩
    .intro a l ha
     rcases k5.nr.liv a l ha with ⟨b,lb,hb,e⟩ | h1
     .exact .inl ⟨b,lb,hb,by rw[qh];exact e;rintro rfl;rw[hbt]at hb;cases hb⟩
     .exact .inr h1
  obtain⟨w,hw⟩:=qhd ((qI (acts i) x.s).now)
  rw[<-hw]at b1
  have hfld:qaq false 0 1 (.agg ⟨wtL w⟩)=some (iv w.what):=rfl
  obtain⟨b,hbd⟩:=qhd (decide (w.what=5))
  have hha:Qc acts S i=b:=by unfold Qc;rw[hx,hbd,hw]
  have y6:=y5.row [.bool b]
  obtain⟨m6,hm6⟩:=qhd (Dx.newRow M5 [.bool b])
  rw[<-hm6]at y6
  have bs6:=bs_b M5 b
  rw[<-hm6]at bs6
  have lx6:loads m6 ⟨M5.n,0,some 3⟩ 1=some [.bool b]:=y6.blds 0 rfl (o:=0) (n:=1) (some 3) (by simp)
  have gvh:GV (qf A (.co nc) Bh) (qf (qo 88 A (nx acts S (i+1))) (.co nc) (gl (hL acts S i))) (.co nc) 1 i (gv Bh 1 i):=by
   have:=GV.gv (A:=qf A (.co nc) Bh) (C:=qf (qo 88 A (nx acts S (i+1))) (.co nc) (gl (hL acts S i))) (a:=Nm.co nc) (e:=1) (n:=i) (l:=hL acts S i) (qG _ _ _) (by rw[hL_len];omega) (by omega) (hL_ok acts S i)
   rwa [qG]at this
  obtain⟨mq,c1,y7,n7,c2⟩:=y6.pushAny (bytes:=1) gvh (by omega) lx6 (λu hu=>by simp at hu;subst hu;rfl) (by unfold most;omega) (by omega)
  obtain⟨M7,hM7⟩:=qhd (Dx.behind m6 mq)
  rw[<-hM7]at y7
  obtain⟨m8,d2,d3,y8,_⟩:=y7.bsetAny 1 rfl (o:=10) (v:=.slice (some ⟨m6.n,0,some (code 1 false)⟩) (i+1) (i+1)) (by simp[wj]) rfl
  obtain⟨M8,hM8⟩:=qhd (Dx.behind M7 m8)
  rw[<-hM8]at y8
  have y9:NH m M8 Wl (qf A (.co nc) m6.n) (qf (qo 88 A (nx acts S (i+1))) (.co nc) (gl (hL acts S (i+1)))) [(m1.n,wj A S (gv m6.n 1 (i+1))),(m.n,Z12)]:=by
   refine NH.conv (y8.sub (σ':=[(m1.n,wj A S (gv m6.n 1 (i+1))),(m.n,Z12)]) (λp hp=>qgy _ hp) (by simp;omega)) (λa=>?_) (λa l ha=>?_)
   .by_cases e:a=.co nc
    .subst e;rw[qG,qG,qG,qe7,hha,zE,wv (by simp)]
    .rw[qh e,qh e,qh e]
   .by_cases e:a=.co nc
    .subst e;rw[qG,qG]
    .rw[qh e,qh e,qh e]
  simp[t2,t3,t4,t33,t34,t35,d1,ixt,htb,lt,lp,b1,<-hM5,xG hnot,hfld,<-hbd,bs6,c1,<-hM7,d2,d3,<-hM8,w1]
  exact hk hiT _ _ ⟨by simp[t2],by simp[t3],by simp[t4],by simp[t33],by simp[t34],by simp,m6.n,y9⟩
 .obtain rfl:i=T:=by omega
  have lp:∀o s,load1 M ⟨m1.n,o,s⟩=(wj A S (gv Bh 1 i))[o]?:=λo s=>y.bld 0 rfl o s
  simp only[wj]at lp
  have y1:=y.row [zS,zS,zS,zS]
  obtain⟨M1,hM1⟩:=qhd (Dx.newRow M [zS,zS,zS,zS])
  have bs1:ki 1 4 (rep 4 [zS]) [(0,1,zS),(1,1,zS),(2,1,zS),(3,1,zS)] M=some (.slice (some ⟨M.n,0,some 3⟩) 4 4,M1):=by rw[hM1];rfl
  rw[<-hM1]at y1
  have l4:za (.slice (some ⟨M.n,0,some 3⟩) 4 4)=some (.int .i64 4):=rfl
  simp[t2,t3,t4,t34,t35,lp,bs1,l4]
  refine qR (c:=DD) rfl (xY _) (λj τ2 M2=>Tm.get 2 τ2=.pointer (some ⟨m.n,0,none⟩)/\Tm.get 3 τ2=.pointer (some ⟨m1.n,0,none⟩)/\Tm.get 135 τ2=.slice (some ⟨M.n,0,some 3⟩) 4 4/\Tm.get 136 τ2=iv 4/\Tm.get 137 τ2=iv j/\Ext M1 M2) 4 (by omega)
   ⟨by simp[t2],by simp[t3],by simp,by simp,by simp,Ext.refl M1⟩ (λj τ2 M2 K2 hj hI hk2=>?_)
  obtain⟨t2,t3,t135,t136,t137,e2⟩:=hI
  have y2:=NH.ext y1 e2
  by_cases hj4:j<4
  .have d1:((j:Int)<4)=True:=eq_true (by omega)
   have w1:=wL (i:=j) (by omega)
   have ix:=DJ (B:=M.n) (n:=4) (c:=j) hj4
   have ll:∀s,load1 M2 ⟨M.n,j,s⟩=some zS:=λs=>by
    rw[y2.bld 0 rfl j s]
    rcases (by omega:j=0\/j=1\/j=2\/j=3) with rfl | rfl | rfl | rfl<;>rfl
   obtain⟨v3,m3',s1,s2,_⟩:=qfb (N+3) M2
   simp[t2,t3,t135,t136,t137,d1,ix,ll,s1,w1]
   exact hk2 hj4 _ _ ⟨by simp[t2],by simp[t3],by simp[t135],by simp[t136],by simp,e2.trans s2⟩
  .obtain rfl:j=4:=by omega
   have lq:loads M2 ⟨m1.n,0,none⟩ 12=some (wj A S (gv Bh 1 i)):=y2.blds 1 rfl (o:=0) (n:=12) none (by simp[wj])
   obtain⟨M3',u1,y3,_⟩:=y2.bsetN 2 rfl (o:=0) (n:=12) (l':=wj A S (gv Bh 1 i)) (by omega) rfl (by simp) (by
    intro v hv
    simp only[wj,List.mem_cons,List.not_mem_nil,or_false]at hv
    rcases hv with rfl | rfl | rfl | rfl | rfl | rfl | rfl | rfl | rfl | rfl | rfl | rfl<;>first | rfl | exact JT _ _ _)
   have lf:loads M3' ⟨m.n,0,none⟩ 12=some (wj A S (gv Bh 1 i)):=y3.blds 2 rfl (o:=0) (n:=12) none (by simp[wj,over])
   simp[t2,t3,t136,t137,qe,lq,u1]
   refine zY (a:=⟨m.n,0,none⟩) (by simp[t2]) lf ?_
   rw[hQ0]
   exact⟨Bh,by rw[<-hTe],Wl,hW,by rw[<-hTe,<-hnc];exact y3.clear⟩
end Go.Sx
namespace Go.Dx
theorem NH.ofNew {ν:Type}{m m':M}{A0 A:ν->Nat}{C:ν->Option (List Value)}(h:NH m m' [] A C []):NR m m' A0 (λ_=>none) A C :=
 ⟨h.hp,⟨[],by simp,h.ow.mc⟩,λa l ha=>.inr (h.new ha)⟩
theorem fin_ct {m:M}{Q:Value->M->Prop}{t:Tm}{p n q:Nat}{a:Addr}{l:List Value}(h1:Tm.get p t=.pointer (some a))(h2:loads m a n=some l)(hq:Q (.tuple #[.agg ⟨l⟩,Tm.get q t]) m):xY Q (kO [.cell p n,.t q] t m):=by
 refine⟨yj [.agg ⟨l⟩,Tm.get q t],m,?_,hq⟩
 have hr:vT t m [.cell p n,.t q]=some [.agg ⟨l⟩,Tm.get q t]:=by simp only[vT,gm,h1,yO,qS,h2]
 rw[vS,hr,qS,vG]
end Go.Dx
namespace Go.Sx
open Go.Dx Go.Proofs
set_option maxRecDepth 10000
structure SR (p:Pg)(n:Nat)(picks:List Int)(m m':M)(A:Nm->Nat)(l:List (Nat × Value))(curs:Nat->List Ac)(Bh:Nat):Prop where
 len:l.length=p.ths.length
 ad:AdL p l curs
 out:∀t,p.ths.length<=t->curs t=[]
 nh:NH m m' [] (qf A (.co (wk curs picks (S0 n l)).co.length) Bh) (qf (qo 88 A (nx curs (wk curs picks (S0 n l)) p.ths.length)) (.co (wk curs picks (S0 n l)).co.length) (gl (hL curs (wk curs picks (S0 n l)) p.ths.length))) []
theorem Dd (N:Nat){m:M}(hm:m.base<=m.n){p:Pg}(hp:PgOK m p)(hB:pgB p=true){n:Nat}(hn:p.cells=n){picks:List Int}{pv:Value}(hpk:Rd m pv 1 intRow picks)(hlen:picks.length<=4611686018427387904){fuel:Int}(hf:0<=fuel)(hK:PK p n picks fuel) :
  ∃m' A l curs Bh,(ex Tryz.prog (N+9)).f 6 [pgV p,pv,iv fuel] m=some (.tuple #[.agg ⟨wj A (wk curs picks (S0 n l)) (gv Bh 1 p.ths.length)⟩,iv 0],m')/\SR p n picks m m' A l curs Bh:=by
 obtain⟨Q0,hQ0⟩:∃Q0:Value->M->Prop,Q0=λv m'=>∃A l curs Bh,v=.tuple #[.agg ⟨wj A (wk curs picks (S0 n l)) (gv Bh 1 p.ths.length)⟩,iv 0]/\SR p n picks m m' A l curs Bh:=⟨_,rfl⟩
 suffices H:∃v m',(ex Tryz.prog (N+9)).f 6 [pgV p,pv,iv fuel] m=some (v,m')/\Q0 v m' by
  rw[hQ0]at H
  obtain⟨v,m',a1,A,l,curs,Bh,rfl,a2⟩:=H
  exact⟨m',A,l,curs,Bh,a1,a2⟩
 refine wO (args:=[pgV p,pv,iv fuel]) (Q:=Q0) da2_ok (by simp) ?_
 have x0:=(NH.empty hm (ν:=Nm) (λ_=>0)).row [iv p.cells,p.tv]
 obtain⟨m1,hm1⟩:=qhd (Dx.newRow m [iv p.cells,p.tv])
 have n1:m1.n=m.n+1:=by rw[hm1,qz]
 have hb1:yf (pgV p) m=some (.pointer (some ⟨m.n,0,none⟩),m1):=by rw[hm1];rfl
 rw[<-hm1]at x0
 have x1:=x0.row Z12
 obtain⟨m2,hm2⟩:=qhd (Dx.newRow m1 Z12)
 rw[<-hm2]at x1
 have hm2':Dx.newRow m1 [zI,zS,zS,zS,zS,zS,zS,zS,zS,zS,zS,zI]=m2:=hm2.symm
 have l2:loads m2 ⟨m.n,0,none⟩ 2=some [iv p.cells,p.tv]:=x1.blds 1 rfl (o:=0) (n:=2) none (by simp)
 have E2:=x1.toExt
 have S2:=(Sees.refl hm).ext E2
 obtain⟨m3,A,l,curs,s1,s2,s3,s4,s5,s6⟩:=qck N x1.mb (hp.sees S2) hB hn (hpk.sees S2) hlen hf hK
 have s1:(ex Tryz.prog (N+8)).f 14 [.agg ⟨[iv p.cells,p.tv]⟩,pv,iv fuel,.bool false] m2=some (.tuple ⟨[mP (A .run),iv 0]⟩,m3):=s1
 have x2:=NH.call x1 (NH.ofNew s5)
 obtain⟨S,hS⟩:=qhd (wk curs picks (S0 n l))
 rw[<-hS]at s5 s6 x2
 have hnp:=s3.np s2 s4 hK.np
 have hTl:S.ths.length=p.ths.length:=by rw[hS,Ji (vq curs _ _),(XT n l).1,s2]
 obtain⟨tg,ivp,_,_⟩:=zM hnp picks (S0 n l) (Dc hB s3 n) (Db n l)
 rw[<-hS]at tg ivp
 have h64:=(ZX hB).2.1
 obtain⟨m4,Bh,t1,Wl,t2,t3⟩:=told_c (N+1) s5.mb s5.hp s6 tg ivp.rmw (by omega)
 rw[hTl]at t1 t3
 have x3:=NH.call x2 (t3.res t2)
 obtain⟨m5,g1,x4,_⟩:=x3.bsetN 0 rfl (o:=0) (n:=12) (l':=wj A S (gv Bh 1 p.ths.length)) (by omega) rfl (by simp) (by
  intro v hv
  simp only[wj,List.mem_cons,List.not_mem_nil,or_false]at hv
  rcases hv with rfl | rfl | rfl | rfl | rfl | rfl | rfl | rfl | rfl | rfl | rfl | rfl<;>first | rfl | exact JT _ _ _)
 have lf:loads m5 ⟨m1.n,0,none⟩ 12=some (wj A S (gv Bh 1 p.ths.length)):=x4.blds 0 rfl (o:=0) (n:=12) none (by simp[wj,over])
 simp[hb1,hm2',l2,qe,s1,t1,g1]
 refine fin_ct (a:=⟨m1.n,0,none⟩) (by simp) lf ?_
 rw[hQ0]
 exact⟨A,l,curs,Bh,by rw[<-hS];simp,s2,s3,s4,by rw[<-hS];exact x4.clear⟩
end Go.Sx
