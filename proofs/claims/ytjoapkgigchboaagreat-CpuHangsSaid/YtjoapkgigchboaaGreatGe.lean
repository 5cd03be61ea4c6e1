/- Contracts. -/
import Derived.Test.YtjoapkgigchboaaGreatGd
import Derived.Test.YtjoapkgigchboaaGreatGb3
import Derived.Test.YtjoapkgigchboaaGreatGc
set_option linter.unusedVariables false
set_option linter.unusedSimpArgs false
set_option linter.defProp false
set_option maxHeartbeats 8000000
namespace Go.Sx
open Go.Dx Go.Proofs
set_option maxRecDepth 10000
theorem qeq (n:Nat){m:M}(hm:m.base<=m.n){B c N a b pv:Nat}{l:List Nat}(hA:Arr m B (l.flatMap qP))(hB:B<m.n)(hN:l.length=N)(hap:a<=pv)(hpb:pv<b)(hbN:b<=N)(hNN:N<=1000000) :
  MuC (ex Tryz.prog (n+3)) 115 [dV B c N,iv a,iv b,iv pv] m B (SoQ qP B a b l λv l'=>Js ltN a b v l'):=by
 refine qA (Q:=λv m'=>Mc m m' [B]/\SoQ qP B a b l (λv l'=>Js ltN a b v l') v m') dk2_ok (by simp) ?_
 have h0:SD m m B qP l:=SD.start hm hA hB
 obtain⟨x,hx⟩:∃x,l[a]?=some x:=⟨_,qgd (by omega)⟩
 obtain⟨p,hy⟩:∃y,l[pv]?=some y:=⟨_,qgd (by omega)⟩
 have ia:=wx (e:=1) (c:=c) B N (a) (by omega)
 rw[Nat.mul_one]at ia
 have ip:=wx (e:=1) (c:=c) B N (pv) (by omega)
 rw[Nat.mul_one]at ip
 have Lf1:load1 m ⟨B,pv,none⟩=some (iv p):=qO elI h0 hy none
 have Lf2:load1 m ⟨B,a,none⟩=some (iv x):=qO elI h0 hx none
 obtain⟨mf6,cf1,cf0,hf6,nf6,of6⟩:=kC elI h0 (i:=a) (wC hx) p
 obtain⟨Mf6,hMf6⟩:=qh2 (Dx.behind m mf6)
 rw[<-hMf6]at hf6 nf6 of6
 obtain⟨mf7,df1,df0,hf7,nf7,of7⟩:=kC elI hf6 (i:=pv) (by rw[List.length_set];exact wC hy) x
 obtain⟨Mf7,hMf7⟩:=qh2 (Dx.behind Mf6 mf7)
 rw[<-hMf7]at hf7 nf7 of7
 have hf7:=hf7
 have wa:=qY (i:=a) (by omega)
 have wb:=qL (j:=b) (by omega) (by omega)
 obtain⟨a1,ha1⟩:=qh2 (a+1)
 obtain⟨b1,hb1⟩:=qh2 (b-1)
 rw[<-ha1]at wa
 rw[<-hb1]at wb
 have p0:PI a b l ((l.set a p).set pv x):=PI.swp (by omega) (by omega) hx hy
 have hP:Part ltN a b p a1 b1 ((l.set a p).set pv x):=by
  rw[ha1,hb1]
  refine Part.start ?_ (by omega)
  rw[zA hx hy]
  by_cases e:a=pv
  .rw[if_pos e];subst e;rw[hx]at hy;exact hy
  .rw[if_neg e,if_pos rfl]
 obtain⟨l1,hl1⟩:=qh2 ((l.set a p).set pv x)
 rw[<-hl1]at hf7 p0 hP
 have hlen:=p0.len
 simp[ia,ip,Lf1,Lf2,cf1,cf0,<-hMf6,df1,df0,<-hMf7,wa,wb]
 refine wK (c:=ck2_5) rfl (zH _) (λk t m'=>Tm.get 0 t=dV B c N/\Tm.get 1 t=iv a/\Tm.get 11 t=iv b1/\∃i:Nat,Tm.get 10 t=iv i/\k<=i/\a1<=i/\SD m m' B qP l1/\Part ltN a b p i b1 l1) N
  (λt m'=>Tm.get 0 t=dV B c N/\Tm.get 1 t=iv a/\Tm.get 11 t=iv b1/\∃i:Nat,Tm.get 10 t=iv i/\a1<=i/\SD m m' B qP l1/\Part ltN a b p i b1 l1/\(i<=b1->∃x,l1[i]?=some x/\ltN x p=false)) (by omega)
  ⟨by simp,by simp,by simp,a1,by simp,by omega,qgg _,hf7,hP⟩ (λkn ke k t m' K hkn hk hI hK=>?_) (λt m' hPo=>?_)
 .obtain⟨t0,t1,tj,i,ti,hki,hii,h1,P1⟩:=hI
  have hai:=P1.ai
  have hjb:=P1.jb
  by_cases hij:i<=b1
  .have d1:((i:Int)<=(b1:Int))=True:=eq_true (by omega)
   have d1':(i<=b1)=True:=eq_true hij
   have w1:=qY (i:=i) (by omega)
   obtain⟨x,hx⟩:∃x,l1[i]?=some x:=⟨_,qgd (by omega)⟩
   have i1:=wx (e:=1) (c:=c) B N (i) (by omega)
   rw[Nat.mul_one]at i1
   have i2:=wx (e:=1) (c:=c) B N (a) (by omega)
   rw[Nat.mul_one]at i2
   have e1:load1 m' ⟨B,i,none⟩=some (iv x):=qO elI h1 hx none
   have e2:load1 m' ⟨B,a,none⟩=some (iv p):=qO elI h1 P1.piv none
   obtain⟨v5,m5,b51,b50,b52,rfl⟩:=qm (jX n (qg m') x p)
   have h5:=h1.callE b52
   obtain⟨M5,hM5⟩:=qh2 (Dx.behind m' m5)
   rw[<-hM5]at b52 h5
   cases hc:ltN x p with
   | true =>
    rw[hc]at b51
    simp[t0,t1,ti,tj,d1,d1',i1,i2,e1,e2,b51,b50,<-hM5,w1]
    exact hK (by omega) _ _ ⟨by simp[t0],by simp[t1],by simp[tj],i+1,by simp,by omega,by omega,h5,P1.incI hij hx hc⟩
   | false =>
    rw[hc]at b51
    simp[t0,t1,ti,tj,d1,d1',i1,i2,e1,e2,b51,b50,<-hM5,w1]
    exact hkn _ _ ⟨by simp[t0],by simp[t1],by simp[tj],i,by simp[ti],hii,h5,P1,λ_=>⟨x,hx,hc⟩⟩
  .have d1:((i:Int)<=(b1:Int))=False:=eq_false (by omega)
   have d1':(i<=b1)=False:=eq_false hij
   simp[t0,t1,ti,tj,d1,d1']
   exact hkn _ _ ⟨by simp[t0],by simp[t1],by simp[tj],i,by simp[ti],hii,h1,P1,λh=>absurd h hij⟩
 obtain⟨t0,t1,tj,i5,ti,hii5,h1,hP,hfi5⟩:=hPo
 simp[t0,t1,ti,tj]
 refine wK (c:=DP) rfl (zH _) (λk t m'=>Tm.get 0 t=dV B c N/\Tm.get 1 t=iv a/\Tm.get 10 t=iv i5/\∃j:Nat,Tm.get 11 t=iv j/\j+k<=b/\j<=b1/\SD m m' B qP l1/\Part ltN a b p i5 j l1) b
  (λt m'=>Tm.get 0 t=dV B c N/\Tm.get 1 t=iv a/\Tm.get 10 t=iv i5/\∃j:Nat,Tm.get 11 t=iv j/\j<=b1/\SD m m' B qP l1/\Part ltN a b p i5 j l1/\(i5<=j->∃y,l1[j]?=some y/\ltN y p=true)) (by omega)
  ⟨by simp[t0],by simp[t1],by simp[ti],b1,by simp[tj],by have:=hP.jb;omega,qgg _,h1,hP⟩ (λkn ke k t m' K hkn hk hI hK=>?_) (λt m' hPo=>?_)
 .obtain⟨t0,t1,ti,j,tj,hkj,hjj,h1,P1⟩:=hI
  have hai:=P1.ai
  have hjb:=P1.jb
  by_cases hij:i5<=j
  .have d1:((i5:Int)<=(j:Int))=True:=eq_true (by omega)
   have d1':(i5<=j)=True:=eq_true hij
   have w1:=qL (j:=j) (by omega) (by omega)
   obtain⟨y,hy⟩:∃y,l1[j]?=some y:=⟨_,qgd (by omega)⟩
   have i1:=wx (e:=1) (c:=c) B N (j) (by omega)
   rw[Nat.mul_one]at i1
   have i2:=wx (e:=1) (c:=c) B N (a) (by omega)
   rw[Nat.mul_one]at i2
   have e1:load1 m' ⟨B,j,none⟩=some (iv y):=qO elI h1 hy none
   have e2:load1 m' ⟨B,a,none⟩=some (iv p):=qO elI h1 P1.piv none
   obtain⟨v5,m5,b51,b50,b52,rfl⟩:=qm (jX n (qg m') y p)
   have h5:=h1.callE b52
   obtain⟨M5,hM5⟩:=qh2 (Dx.behind m' m5)
   rw[<-hM5]at b52 h5
   cases hc:ltN y p with
   | true =>
    rw[hc]at b51
    simp[t0,t1,ti,tj,d1,d1',i1,i2,e1,e2,b51,b50,<-hM5,w1]
    exact hkn _ _ ⟨by simp[t0],by simp[t1],by simp[ti],j,by simp[tj],hjj,h5,P1,λ_=>⟨y,hy,hc⟩⟩
   | false =>
    rw[hc]at b51
    simp[t0,t1,ti,tj,d1,d1',i1,i2,e1,e2,b51,b50,<-hM5,w1]
    exact hK (by omega) _ _ ⟨by simp[t0],by simp[t1],by simp[ti],j-1,by simp,by omega,by omega,h5,P1.decJ hij hy hc⟩
  .have d1:((i5:Int)<=(j:Int))=False:=eq_false (by omega)
   have d1':(i5<=j)=False:=eq_false hij
   simp[t0,t1,ti,tj,d1,d1']
   exact hkn _ _ ⟨by simp[t0],by simp[t1],by simp[ti],j,by simp[tj],hjj,h1,P1,λh=>absurd h hij⟩
 obtain⟨t0,t1,ti,j11,tj,hjj11,h1,hP,hfj11⟩:=hPo
 have hij0:=hP.ij
 by_cases hji:j11<i5
 .have d1:((j11:Int)<(i5:Int))=True:=eq_true (by omega)
  have d1':(j11<i5)=True:=eq_true hji
  have hjb:=hP.jb
  have hai:=hP.ai
  obtain⟨y,hy2⟩:∃y,l1[j11]?=some y:=⟨_,qgd (by omega)⟩
  have ij:=wx (e:=1) (c:=c) B N (j11) (by omega)
  rw[Nat.mul_one]at ij
  have Ls1:load1 m' ⟨B,a,none⟩=some (iv p):=qO elI h1 hP.piv none
  have Ls2:load1 m' ⟨B,j11,none⟩=some (iv y):=qO elI h1 hy2 none
  obtain⟨ms6,cs1,cs0,hs6,ns6,os6⟩:=kC elI h1 (i:=j11) (wC hy2) p
  obtain⟨Ms6,hMs6⟩:=qh2 (Dx.behind m' ms6)
  rw[<-hMs6]at hs6 ns6 os6
  obtain⟨ms7,ds1,ds0,hs7,ns7,os7⟩:=kC elI hs6 (i:=a) (by rw[List.length_set];exact wC hP.piv) y
  obtain⟨Ms7,hMs7⟩:=qh2 (Dx.behind Ms6 ms7)
  rw[<-hMs7]at hs7 ns7 os7
  simp[t0,t1,ti,tj,d1,d1',ia,ij,Ls1,Ls2,cs1,cs0,<-hMs6,ds1,ds0,<-hMs7]
  exact Qm (kD hs7 (p0.trans (PI.swp (by omega) (by omega) hy2 hP.piv)) (show Js ltN a b _ _ from ⟨j11,true,p,by simp,hP.done hji hy2⟩))
 have d1:((j11:Int)<(i5:Int))=False:=eq_false (by omega)
 have d1':(j11<i5)=False:=eq_false hji
 obtain⟨u,hu,hu2⟩:=hfi5 (by omega)
 obtain⟨v,hv,hv2⟩:=hfj11 (by omega)
 have ii:=wx (e:=1) (c:=c) B N (i5) (by omega)
 rw[Nat.mul_one]at ii
 have ij:=wx (e:=1) (c:=c) B N (j11) (by have:=hP.jb;omega)
 rw[Nat.mul_one]at ij
 have Ls1:load1 m' ⟨B,j11,none⟩=some (iv v):=qO elI h1 hv none
 have Ls2:load1 m' ⟨B,i5,none⟩=some (iv u):=qO elI h1 hu none
 obtain⟨ms6,cs1,cs0,hs6,ns6,os6⟩:=kC elI h1 (i:=i5) (wC hu) v
 obtain⟨Ms6,hMs6⟩:=qh2 (Dx.behind m' ms6)
 rw[<-hMs6]at hs6 ns6 os6
 obtain⟨ms7,ds1,ds0,hs7,ns7,os7⟩:=kC elI hs6 (i:=j11) (by rw[List.length_set];exact wC hv) u
 obtain⟨Ms7,hMs7⟩:=qh2 (Dx.behind Ms6 ms7)
 rw[<-hMs7]at hs7 ns7 os7
 obtain⟨hlt,hP2⟩:=hP.swap (by omega) hu hv hu2 hv2
 have hai:=hP.ai
 have hjb:=hP.jb
 have w1:=qY (i:=i5) (by omega)
 have w2:=qL (j:=j11) (by omega) (by omega)
 have p2:PI a b l ((l1.set i5 v).set j11 u):=p0.trans (PI.swp (by omega) (by omega) hu hv)
 simp[t0,t1,ti,tj,d1,d1',ii,ij,Ls1,Ls2,cs1,cs0,<-hMs6,ds1,ds0,<-hMs7,w1,w2]
 refine wK (c:=DT) rfl (zH _) (λk t m'=>Tm.get 0 t=dV B c N/\Tm.get 1 t=iv a/\∃(i j:Nat) (l':List Nat),Tm.get 10 t=iv i/\Tm.get 11 t=iv j/\k<=i/\SD m m' B qP l'/\PI a b l l'/\Part ltN a b p i j l') N
  (λt m'=>Tm.get 0 t=dV B c N/\Tm.get 1 t=iv a/\∃(i j:Nat) (l':List Nat),Tm.get 11 t=iv j/\j<i/\SD m m' B qP l'/\PI a b l l'/\Part ltN a b p i j l') (by omega)
  ⟨by simp[t0],by simp[t1],i5+1,j11-1,_,by simp,by simp,by omega,hs7,p2,hP2⟩ (λkn ke k t m' K hkn hk hI hK=>?_) (λt m' hPo=>?_)
 .obtain⟨t0,t1,i0,j0,l1,ti,tj,hki,h1,p1,hP⟩:=hI
  have hlen:=p1.len
  have hjb:=hP.jb
  have hij0:=hP.ij
  simp[t0,t1]
  refine wK (c:=DQ) rfl (zH _) (λk t m'=>Tm.get 0 t=dV B c N/\Tm.get 1 t=iv a/\Tm.get 11 t=iv j0/\∃i:Nat,Tm.get 10 t=iv i/\k<=i/\i0<=i/\SD m m' B qP l1/\Part ltN a b p i j0 l1) N
   (λt m'=>Tm.get 0 t=dV B c N/\Tm.get 1 t=iv a/\Tm.get 11 t=iv j0/\∃i:Nat,Tm.get 10 t=iv i/\i0<=i/\SD m m' B qP l1/\Part ltN a b p i j0 l1/\(i<=j0->∃x,l1[i]?=some x/\ltN x p=false)) (by omega)
   ⟨by simp[t0],by simp[t1],by simp[tj],i0,by simp[ti],by omega,qgg _,h1,hP⟩ (λkn ke k t m' K hkn hk hI hK=>?_) (λt m' hPo=>?_)
  .obtain⟨t0,t1,tj,i,ti,hki,hii,h1,P1⟩:=hI
   have hai:=P1.ai
   have hjb:=P1.jb
   by_cases hij:i<=j0
   .have d1:((i:Int)<=(j0:Int))=True:=eq_true (by omega)
    have d1':(i<=j0)=True:=eq_true hij
    have w1:=qY (i:=i) (by omega)
    obtain⟨x,hx⟩:∃x,l1[i]?=some x:=⟨_,qgd (by omega)⟩
    have i1:=wx (e:=1) (c:=c) B N (i) (by omega)
    rw[Nat.mul_one]at i1
    have i2:=wx (e:=1) (c:=c) B N (a) (by omega)
    rw[Nat.mul_one]at i2
    have e1:load1 m' ⟨B,i,none⟩=some (iv x):=qO elI h1 hx none
    have e2:load1 m' ⟨B,a,none⟩=some (iv p):=qO elI h1 P1.piv none
    obtain⟨v5,m5,b51,b50,b52,rfl⟩:=qm (jX n (qg m') x p)
    have h5:=h1.callE b52
    obtain⟨M5,hM5⟩:=qh2 (Dx.behind m' m5)
    rw[<-hM5]at b52 h5
    cases hc:ltN x p with
    | true =>
     rw[hc]at b51
     simp[t0,t1,ti,tj,d1,d1',i1,i2,e1,e2,b51,b50,<-hM5,w1]
     exact hK (by omega) _ _ ⟨by simp[t0],by simp[t1],by simp[tj],i+1,by simp,by omega,by omega,h5,P1.incI hij hx hc⟩
    | false =>
     rw[hc]at b51
     simp[t0,t1,ti,tj,d1,d1',i1,i2,e1,e2,b51,b50,<-hM5,w1]
     exact hkn _ _ ⟨by simp[t0],by simp[t1],by simp[tj],i,by simp[ti],hii,h5,P1,λ_=>⟨x,hx,hc⟩⟩
   .have d1:((i:Int)<=(j0:Int))=False:=eq_false (by omega)
    have d1':(i<=j0)=False:=eq_false hij
    simp[t0,t1,ti,tj,d1,d1']
    exact hkn _ _ ⟨by simp[t0],by simp[t1],by simp[tj],i,by simp[ti],hii,h1,P1,λh=>absurd h hij⟩
  obtain⟨t0,t1,tj,i21,ti,hii21,h1,hP,hfi21⟩:=hPo
  simp[t0,t1,ti,tj]
  refine wK (c:=DR) rfl (zH _) (λk t m'=>Tm.get 0 t=dV B c N/\Tm.get 1 t=iv a/\Tm.get 10 t=iv i21/\∃j:Nat,Tm.get 11 t=iv j/\j+k<=b/\j<=j0/\SD m m' B qP l1/\Part ltN a b p i21 j l1) b
   (λt m'=>Tm.get 0 t=dV B c N/\Tm.get 1 t=iv a/\Tm.get 10 t=iv i21/\∃j:Nat,Tm.get 11 t=iv j/\j<=j0/\SD m m' B qP l1/\Part ltN a b p i21 j l1/\(i21<=j->∃y,l1[j]?=some y/\ltN y p=true)) (by omega)
   ⟨by simp[t0],by simp[t1],by simp[ti],j0,by simp[tj],by have:=hP.jb;omega,qgg _,h1,hP⟩ (λkn ke k t m' K hkn hk hI hK=>?_) (λt m' hPo=>?_)
  .obtain⟨t0,t1,ti,j,tj,hkj,hjj,h1,P1⟩:=hI
   have hai:=P1.ai
   have hjb:=P1.jb
   by_cases hij:i21<=j
   .have d1:((i21:Int)<=(j:Int))=True:=eq_true (by omega)
    have d1':(i21<=j)=True:=eq_true hij
    have w1:=qL (j:=j) (by omega) (by omega)
    obtain⟨y,hy⟩:∃y,l1[j]?=some y:=⟨_,qgd (by omega)⟩
    have i1:=wx (e:=1) (c:=c) B N (j) (by omega)
    rw[Nat.mul_one]at i1
    have i2:=wx (e:=1) (c:=c) B N (a) (by omega)
    rw[Nat.mul_one]at i2
    have e1:load1 m' ⟨B,j,none⟩=some (iv y):=qO elI h1 hy none
    have e2:load1 m' ⟨B,a,none⟩=some (iv p):=qO elI h1 P1.piv none
    obtain⟨v5,m5,b51,b50,b52,rfl⟩:=qm (jX n (qg m') y p)
    have h5:=h1.callE b52
    obtain⟨M5,hM5⟩:=qh2 (Dx.behind m' m5)
    rw[<-hM5]at b52 h5
    cases hc:ltN y p with
    | true =>
     rw[hc]at b51
     simp[t0,t1,ti,tj,d1,d1',i1,i2,e1,e2,b51,b50,<-hM5,w1]
     exact hkn _ _ ⟨by simp[t0],by simp[t1],by simp[ti],j,by simp[tj],hjj,h5,P1,λ_=>⟨y,hy,hc⟩⟩
    | false =>
     rw[hc]at b51
     simp[t0,t1,ti,tj,d1,d1',i1,i2,e1,e2,b51,b50,<-hM5,w1]
     exact hK (by omega) _ _ ⟨by simp[t0],by simp[t1],by simp[ti],j-1,by simp,by omega,by omega,h5,P1.decJ hij hy hc⟩
   .have d1:((i21:Int)<=(j:Int))=False:=eq_false (by omega)
    have d1':(i21<=j)=False:=eq_false hij
    simp[t0,t1,ti,tj,d1,d1']
    exact hkn _ _ ⟨by simp[t0],by simp[t1],by simp[ti],j,by simp[tj],hjj,h1,P1,λh=>absurd h hij⟩
  obtain⟨t0,t1,ti,j27,tj,hjj27,h1,hP,hfj27⟩:=hPo
  have hij0:=hP.ij
  by_cases hji:j27<i21
  .have d1:((j27:Int)<(i21:Int))=True:=eq_true (by omega)
   have d1':(j27<i21)=True:=eq_true hji
   simp[nb45,t0,t1,ti,tj,d1,d1']
   exact hkn _ _ ⟨by simp[t0],by simp[t1],i21,j27,l1,by simp[tj],hji,h1,p1,hP⟩
  .have d1:((j27:Int)<(i21:Int))=False:=eq_false (by omega)
   have d1':(j27<i21)=False:=eq_false hji
   obtain⟨u,hu,hu2⟩:=hfi21 (by omega)
   obtain⟨v,hv,hv2⟩:=hfj27 (by omega)
   have hai:=hP.ai
   have hjb:=hP.jb
   have ii:=wx (e:=1) (c:=c) B N (i21) (by omega)
   rw[Nat.mul_one]at ii
   have ij:=wx (e:=1) (c:=c) B N (j27) (by omega)
   rw[Nat.mul_one]at ij
   have Ls1:load1 m' ⟨B,j27,none⟩=some (iv v):=qO elI h1 hv none
   have Ls2:load1 m' ⟨B,i21,none⟩=some (iv u):=qO elI h1 hu none
   obtain⟨ms6,cs1,cs0,hs6,ns6,os6⟩:=kC elI h1 (i:=i21) (wC hu) v
   obtain⟨Ms6,hMs6⟩:=qh2 (Dx.behind m' ms6)
   rw[<-hMs6]at hs6 ns6 os6
   obtain⟨ms7,ds1,ds0,hs7,ns7,os7⟩:=kC elI hs6 (i:=j27) (by rw[List.length_set];exact wC hv) u
   obtain⟨Ms7,hMs7⟩:=qh2 (Dx.behind Ms6 ms7)
   rw[<-hMs7]at hs7 ns7 os7
   obtain⟨hlt,hP2⟩:=hP.swap (by omega) hu hv hu2 hv2
   have w1:=qY (i:=i21) (by omega)
   have w2:=qL (j:=j27) (by omega) (by omega)
   simp[t0,t1,ti,tj,d1,d1',ii,ij,Ls1,Ls2,cs1,cs0,<-hMs6,ds1,ds0,<-hMs7,w1,w2]
   exact hK (by omega) _ _ ⟨by simp[t0],by simp[t1],i21+1,j27-1,_,by simp,by simp,by omega,hs7,p1.trans (PI.swp (by omega) (by omega) hu hv),hP2⟩
 obtain⟨t0,t1,i,j,l1,tj,hji,h1,p1,hP⟩:=hPo
 have hlen:=p1.len
 have hai:=hP.ai
 have hij0:=hP.ij
 have hjb:=hP.jb
 obtain⟨y,hy2⟩:∃y,l1[j]?=some y:=⟨_,qgd (by omega)⟩
 have ij:=wx (e:=1) (c:=c) B N (j) (by omega)
 rw[Nat.mul_one]at ij
 have Ls1:load1 m' ⟨B,a,none⟩=some (iv p):=qO elI h1 hP.piv none
 have Ls2:load1 m' ⟨B,j,none⟩=some (iv y):=qO elI h1 hy2 none
 obtain⟨ms6,cs1,cs0,hs6,ns6,os6⟩:=kC elI h1 (i:=j) (wC hy2) p
 obtain⟨Ms6,hMs6⟩:=qh2 (Dx.behind m' ms6)
 rw[<-hMs6]at hs6 ns6 os6
 obtain⟨ms7,ds1,ds0,hs7,ns7,os7⟩:=kC elI hs6 (i:=a) (by rw[List.length_set];exact wC hP.piv) y
 obtain⟨Ms7,hMs7⟩:=qh2 (Dx.behind Ms6 ms7)
 rw[<-hMs7]at hs7 ns7 os7
 simp[t0,t1,tj,ia,ij,Ls1,Ls2,cs1,cs0,<-hMs6,ds1,ds0,<-hMs7]
 exact Qm (kD hs7 (p1.trans (PI.swp (by omega) (by omega) hy2 hP.piv)) (show Js ltN a b _ _ from ⟨j,false,p,by simp,hP.done hji hy2⟩))
theorem qeo (n:Nat){m:M}(hm:m.base<=m.n){B c N a b pv:Nat}{l:List Nat}(hA:Arr m B (l.flatMap qP))(hB:B<m.n)(hN:l.length=N)(hap:a<=pv)(hpb:pv<b)(hbN:b<=N)(hNN:N<=1000000){p:Nat}(hy:l[pv]?=some p) :
  MuC (ex Tryz.prog (n+3)) 114 [dV B c N,iv a,iv b,iv pv] m B (SoQ qP B a b l λv l'=>EqQ ltN a b p v l'):=by
 refine qA (Q:=λv m'=>Mc m m' [B]/\SoQ qP B a b l (λv l'=>EqQ ltN a b p v l') v m') dk1_ok (by simp) ?_
 have h0:SD m m B qP l:=SD.start hm hA hB
 obtain⟨x,hx⟩:∃x,l[a]?=some x:=⟨_,qgd (by omega)⟩
 have ia:=wx (e:=1) (c:=c) B N (a) (by omega)
 rw[Nat.mul_one]at ia
 have ip:=wx (e:=1) (c:=c) B N (pv) (by omega)
 rw[Nat.mul_one]at ip
 have Lf1:load1 m ⟨B,pv,none⟩=some (iv p):=qO elI h0 hy none
 have Lf2:load1 m ⟨B,a,none⟩=some (iv x):=qO elI h0 hx none
 obtain⟨mf6,cf1,cf0,hf6,nf6,of6⟩:=kC elI h0 (i:=a) (wC hx) p
 obtain⟨Mf6,hMf6⟩:=qh2 (Dx.behind m mf6)
 rw[<-hMf6]at hf6 nf6 of6
 obtain⟨mf7,df1,df0,hf7,nf7,of7⟩:=kC elI hf6 (i:=pv) (by rw[List.length_set];exact wC hy) x
 obtain⟨Mf7,hMf7⟩:=qh2 (Dx.behind Mf6 mf7)
 rw[<-hMf7]at hf7 nf7 of7
 have hf7:=hf7
 have wa:=qY (i:=a) (by omega)
 have wb:=qL (j:=b) (by omega) (by omega)
 obtain⟨a1,ha1⟩:=qh2 (a+1)
 obtain⟨b1,hb1⟩:=qh2 (b-1)
 rw[<-ha1]at wa
 rw[<-hb1]at wb
 have p0:PI a b l ((l.set a p).set pv x):=PI.swp (by omega) (by omega) hx hy
 have hP:PartE ltN a b p a1 b1 ((l.set a p).set pv x):=by
  rw[ha1,hb1]
  refine PartE.start toN ?_ (by omega)
  rw[zA hx hy]
  by_cases e:a=pv
  .rw[if_pos e];subst e;rw[hx]at hy;exact hy
  .rw[if_neg e,if_pos rfl]
 simp[ia,ip,Lf1,Lf2,cf1,cf0,<-hMf6,df1,df0,<-hMf7,wa,wb]
 refine wK (c:=DO) rfl (zH _) (λk t m'=>Tm.get 0 t=dV B c N/\Tm.get 1 t=iv a/\∃(i j:Nat) (l':List Nat),Tm.get 9 t=iv i/\Tm.get 10 t=iv j/\k<=i/\SD m m' B qP l'/\PI a b l l'/\PartE ltN a b p i j l') N
  (λt m'=>Tm.get 0 t=dV B c N/\Tm.get 1 t=iv a/\∃(i j:Nat) (l':List Nat),Tm.get 9 t=iv i/\j<i/\SD m m' B qP l'/\PI a b l l'/\PartE ltN a b p i j l') (by omega)
  ⟨by simp,by simp,a1,b1,_,by simp,by simp,by omega,hf7,p0,hP⟩ (λkn ke k t m' K hkn hk hI hK=>?_) (λt m' hPo=>?_)
 .obtain⟨t0,t1,i0,j0,l1,ti,tj,hki,h1,p1,hP⟩:=hI
  have hlen:=p1.len
  have hjb:=hP.jb
  have hij0:=hP.ij
  simp[t0,t1]
  refine wK (c:=ck1_5) rfl (zH _) (λk t m'=>Tm.get 0 t=dV B c N/\Tm.get 1 t=iv a/\Tm.get 10 t=iv j0/\∃i:Nat,Tm.get 9 t=iv i/\k<=i/\i0<=i/\SD m m' B qP l1/\PartE ltN a b p i j0 l1) N
   (λt m'=>Tm.get 0 t=dV B c N/\Tm.get 1 t=iv a/\Tm.get 10 t=iv j0/\∃i:Nat,Tm.get 9 t=iv i/\i0<=i/\SD m m' B qP l1/\PartE ltN a b p i j0 l1/\(i<=j0->∃x,l1[i]?=some x/\ltN p x=true)) (by omega)
   ⟨by simp[t0],by simp[t1],by simp[tj],i0,by simp[ti],by omega,qgg _,h1,hP⟩ (λkn ke k t m' K hkn hk hI hK=>?_) (λt m' hPo=>?_)
  .obtain⟨t0,t1,tj,i,ti,hki,hii,h1,P1⟩:=hI
   have hai:=P1.ai
   have hjb:=P1.jb
   by_cases hij:i<=j0
   .have d1:((i:Int)<=(j0:Int))=True:=eq_true (by omega)
    have d1':(i<=j0)=True:=eq_true hij
    have w1:=qY (i:=i) (by omega)
    obtain⟨x,hx⟩:∃x,l1[i]?=some x:=⟨_,qgd (by omega)⟩
    have i1:=wx (e:=1) (c:=c) B N (i) (by omega)
    rw[Nat.mul_one]at i1
    have i2:=wx (e:=1) (c:=c) B N (a) (by omega)
    rw[Nat.mul_one]at i2
    have e1:load1 m' ⟨B,i,none⟩=some (iv x):=qO elI h1 hx none
    have e2:load1 m' ⟨B,a,none⟩=some (iv p):=qO elI h1 P1.piv none
    obtain⟨v5,m5,b51,b50,b52,rfl⟩:=qm (jX n (qg m') p x)
    have h5:=h1.callE b52
    obtain⟨M5,hM5⟩:=qh2 (Dx.behind m' m5)
    rw[<-hM5]at b52 h5
    cases hc:ltN p x with
    | true =>
     rw[hc]at b51
     simp[t0,t1,ti,tj,d1,d1',i1,i2,e1,e2,b51,b50,<-hM5,w1]
     exact hkn _ _ ⟨by simp[t0],by simp[t1],by simp[tj],i,by simp[ti],hii,h5,P1,λ_=>⟨x,hx,hc⟩⟩
    | false =>
     rw[hc]at b51
     simp[t0,t1,ti,tj,d1,d1',i1,i2,e1,e2,b51,b50,<-hM5,w1]
     exact hK (by omega) _ _ ⟨by simp[t0],by simp[t1],by simp[tj],i+1,by simp,by omega,by omega,h5,P1.incI hij hx hc⟩
   .have d1:((i:Int)<=(j0:Int))=False:=eq_false (by omega)
    have d1':(i<=j0)=False:=eq_false hij
    simp[t0,t1,ti,tj,d1,d1']
    exact hkn _ _ ⟨by simp[t0],by simp[t1],by simp[tj],i,by simp[ti],hii,h1,P1,λh=>absurd h hij⟩
  obtain⟨t0,t1,tj,i5,ti,hii5,h1,hP,hfi5⟩:=hPo
  simp[t0,t1,ti,tj]
  refine wK (c:=DN) rfl (zH _) (λk t m'=>Tm.get 0 t=dV B c N/\Tm.get 1 t=iv a/\Tm.get 9 t=iv i5/\∃j:Nat,Tm.get 10 t=iv j/\j+k<=b/\j<=j0/\SD m m' B qP l1/\PartE ltN a b p i5 j l1) b
   (λt m'=>Tm.get 0 t=dV B c N/\Tm.get 1 t=iv a/\Tm.get 9 t=iv i5/\∃j:Nat,Tm.get 10 t=iv j/\j<=j0/\SD m m' B qP l1/\PartE ltN a b p i5 j l1/\(i5<=j->∃y,l1[j]?=some y/\ltN p y=false)) (by omega)
   ⟨by simp[t0],by simp[t1],by simp[ti],j0,by simp[tj],by have:=hP.jb;omega,qgg _,h1,hP⟩ (λkn ke k t m' K hkn hk hI hK=>?_) (λt m' hPo=>?_)
  .obtain⟨t0,t1,ti,j,tj,hkj,hjj,h1,P1⟩:=hI
   have hai:=P1.ai
   have hjb:=P1.jb
   by_cases hij:i5<=j
   .have d1:((i5:Int)<=(j:Int))=True:=eq_true (by omega)
    have d1':(i5<=j)=True:=eq_true hij
    have w1:=qL (j:=j) (by omega) (by omega)
    obtain⟨y,hy⟩:∃y,l1[j]?=some y:=⟨_,qgd (by omega)⟩
    have i1:=wx (e:=1) (c:=c) B N (j) (by omega)
    rw[Nat.mul_one]at i1
    have i2:=wx (e:=1) (c:=c) B N (a) (by omega)
    rw[Nat.mul_one]at i2
    have e1:load1 m' ⟨B,j,none⟩=some (iv y):=qO elI h1 hy none
    have e2:load1 m' ⟨B,a,none⟩=some (iv p):=qO elI h1 P1.piv none
    obtain⟨v5,m5,b51,b50,b52,rfl⟩:=qm (jX n (qg m') p y)
    have h5:=h1.callE b52
    obtain⟨M5,hM5⟩:=qh2 (Dx.behind m' m5)
    rw[<-hM5]at b52 h5
    cases hc:ltN p y with
    | true =>
     rw[hc]at b51
     simp[t0,t1,ti,tj,d1,d1',i1,i2,e1,e2,b51,b50,<-hM5,w1]
     exact hK (by omega) _ _ ⟨by simp[t0],by simp[t1],by simp[ti],j-1,by simp,by omega,by omega,h5,P1.decJ hij hy hc⟩
    | false =>
     rw[hc]at b51
     simp[t0,t1,ti,tj,d1,d1',i1,i2,e1,e2,b51,b50,<-hM5,w1]
     exact hkn _ _ ⟨by simp[t0],by simp[t1],by simp[ti],j,by simp[tj],hjj,h5,P1,λ_=>⟨y,hy,hc⟩⟩
   .have d1:((i5:Int)<=(j:Int))=False:=eq_false (by omega)
    have d1':(i5<=j)=False:=eq_false hij
    simp[t0,t1,ti,tj,d1,d1']
    exact hkn _ _ ⟨by simp[t0],by simp[t1],by simp[ti],j,by simp[tj],hjj,h1,P1,λh=>absurd h hij⟩
  obtain⟨t0,t1,ti,j11,tj,hjj11,h1,hP,hfj11⟩:=hPo
  have hij0:=hP.ij
  by_cases hji:j11<i5
  .have d1:((j11:Int)<(i5:Int))=True:=eq_true (by omega)
   have d1':(j11<i5)=True:=eq_true hji
   simp[GJ,t0,t1,ti,tj,d1,d1']
   exact hkn _ _ ⟨by simp[t0],by simp[t1],i5,j11,l1,by simp[ti],hji,h1,p1,hP⟩
  .have d1:((j11:Int)<(i5:Int))=False:=eq_false (by omega)
   have d1':(j11<i5)=False:=eq_false hji
   obtain⟨u,hu,hu2⟩:=hfi5 (by omega)
   obtain⟨v,hv,hv2⟩:=hfj11 (by omega)
   have hai:=hP.ai
   have hjb:=hP.jb
   have ii:=wx (e:=1) (c:=c) B N (i5) (by omega)
   rw[Nat.mul_one]at ii
   have ij:=wx (e:=1) (c:=c) B N (j11) (by omega)
   rw[Nat.mul_one]at ij
   have Ls1:load1 m' ⟨B,j11,none⟩=some (iv v):=qO elI h1 hv none
   have Ls2:load1 m' ⟨B,i5,none⟩=some (iv u):=qO elI h1 hu none
   obtain⟨ms6,cs1,cs0,hs6,ns6,os6⟩:=kC elI h1 (i:=i5) (wC hu) v
   obtain⟨Ms6,hMs6⟩:=qh2 (Dx.behind m' ms6)
   rw[<-hMs6]at hs6 ns6 os6
   obtain⟨ms7,ds1,ds0,hs7,ns7,os7⟩:=kC elI hs6 (i:=j11) (by rw[List.length_set];exact wC hv) u
   obtain⟨Ms7,hMs7⟩:=qh2 (Dx.behind Ms6 ms7)
   rw[<-hMs7]at hs7 ns7 os7
   obtain⟨hlt,hP2⟩:=hP.swap (by omega) hu hv hu2 hv2
   have w1:=qY (i:=i5) (by omega)
   have w2:=qL (j:=j11) (by omega) (by omega)
   simp[t0,t1,ti,tj,d1,d1',ii,ij,Ls1,Ls2,cs1,cs0,<-hMs6,ds1,ds0,<-hMs7,w1,w2]
   exact hK (by omega) _ _ ⟨by simp[t0],by simp[t1],i5+1,j11-1,_,by simp,by simp,by omega,hs7,p1.trans (PI.swp (by omega) (by omega) hu hv),hP2⟩
 obtain⟨t0,t1,i,j,l1,ti,hji,h1,p1,hP⟩:=hPo
 simp[t0,t1,ti]
 exact wO (kD h1 p1 (show EqQ ltN a b p _ _ from ⟨i,j,by simp,hji,hP⟩))
theorem qes (n:Nat){m:M}(hm:m.base<=m.n){B c N a b:Nat}{l:List Nat}(hA:Arr m B (l.flatMap qP))(hB:B<m.n)(hN:l.length=N)(hab:a<b)(hbN:b<=N)(hNN:N<=1000000)(hL:Lo ltN a b l) :
  MuC (ex Tryz.prog (n+3)) 112 [dV B c N,iv a,iv b] m B (SoQ qP B a b l λv l'=>BoQ ltN a b v l'):=by
 refine qA (Q:=λv m'=>Mc m m' [B]/\SoQ qP B a b l (λv l'=>BoQ ltN a b v l') v m') dj9_ok (by simp) ?_
 have h0:SD m m B qP l:=SD.start hm hA hB
 have wa:=qY (i:=a) (by omega)
 obtain⟨a1,ha1⟩:=qh2 (a+1)
 rw[<-ha1]at wa
 simp[wa]
 refine wK (c:=DM) rfl (FSo qP m B a b l λv l'=>BoQ ltN a b v l') (λk t m'=>Tm.get 0 t=dV B c N/\Tm.get 1 t=iv a/\Tm.get 2 t=iv b/\Tm.get 8 t=iv k/\∃(i:Nat) (l':List Nat),Tm.get 7 t=iv i/\a<i/\i<=b/\SD m m' B qP l'/\PI a b l l'/\Srt ltN a i l') 5
  (λt m'=>∃l',SD m m' B qP l'/\PI a b l l') (by omega)
  ⟨by simp,by simp,by simp,by simp,a1,l,by simp,by omega,by omega,h0,PI.refl,Srt.of_len (by omega)⟩ (λkn ke k t m' K hkn hk hI hK=>?_) (λt m' hPo=>?_)
 .obtain⟨t0,t1,t2,t8,i0,l1,t7,hai0,hib0,h1,p1,s1⟩:=hI
  have hlen:=p1.len
  by_cases hk5:k<5
  .have d1:((k:Int)<5)=True:=eq_true (by omega)
   have d1':(k<5)=True:=eq_true hk5
   have wk:=qY (i:=k) (by omega)
   simp[t0,t1,t2,t7,t8,d1,d1']
   refine wK (c:=cj9_7) rfl (FSo qP m B a b l λv l'=>BoQ ltN a b v l') (λr t m'=>Tm.get 0 t=dV B c N/\Tm.get 1 t=iv a/\Tm.get 2 t=iv b/\Tm.get 8 t=iv k/\∃i:Nat,Tm.get 7 t=iv i/\r<=i/\a<i/\i<=b/\SD m m' B qP l1/\Srt ltN a i l1) N
    (λt m'=>Tm.get 0 t=dV B c N/\Tm.get 1 t=iv a/\Tm.get 2 t=iv b/\Tm.get 8 t=iv k/\∃i:Nat,Tm.get 7 t=iv i/\a<i/\i<=b/\SD m m' B qP l1/\Srt ltN a i l1/\(i<b->∃u v,l1[i-1]?=some u/\l1[i]?=some v/\ltN v u=true)) (by omega)
    ⟨by simp[t0],by simp[t1],by simp[t2],by simp[t8],i0,by simp[t7],by omega,hai0,hib0,h1,s1⟩ (λkn2 ke2 r t m' K2 hkn2 hr hI hK2=>?_) (λt m' hPo=>?_)
   .obtain⟨t0,t1,t2,t8,i,t7,hri,hai,hib,h1,s1⟩:=hI
    by_cases hi:i<b
    .have d2:((i:Int)<(b:Int))=True:=eq_true (by omega)
     have d2':(i<b)=True:=eq_true hi
     have w1:=qY (i:=i) (by omega)
     have w2:=qL (j:=i) (by omega) (by omega)
     obtain⟨i',hi'⟩:=qh2 (i-1)
     rw[<-hi']at w2
     obtain⟨u,hu⟩:∃u,l1[i']?=some u:=⟨_,qgd (by omega)⟩
     obtain⟨v,hv⟩:∃v,l1[i]?=some v:=⟨_,qgd (by omega)⟩
     have i1:=wx (e:=1) (c:=c) B N (i) (by omega)
     rw[Nat.mul_one]at i1
     have i2:=wx (e:=1) (c:=c) B N (i') (by omega)
     rw[Nat.mul_one]at i2
     have e1:load1 m' ⟨B,i,none⟩=some (iv v):=qO elI h1 hv none
     have e2:load1 m' ⟨B,i',none⟩=some (iv u):=qO elI h1 hu none
     obtain⟨v5,m5,b51,b50,b52,rfl⟩:=qm (jX n (qg m') v u)
     have h5:=h1.callE b52
     obtain⟨M5,hM5⟩:=qh2 (Dx.behind m' m5)
     rw[<-hM5]at b52 h5
     cases hc:ltN v u with
     | true =>
      rw[hc]at b51
      simp[t0,t1,t2,t7,t8,d2,d2',w1,w2,i1,i2,e1,e2,b51,b50,<-hM5]
      exact hkn2 _ _ ⟨by simp[t0],by simp[t1],by simp[t2],by simp[t8],i,by simp[t7],hai,hib,h5,s1,λ_=>⟨u,v,by rw[<-hi'];exact hu,hv,hc⟩⟩
     | false =>
      rw[hc]at b51
      simp[t0,t1,t2,t7,t8,d2,d2',w1,w2,i1,i2,e1,e2,b51,b50,<-hM5]
      exact hK2 (by omega) _ _ ⟨by simp[t0],by simp[t1],by simp[t2],by simp[t8],i+1,by simp,by omega,by omega,by omega,h5,s1.succ toN hai (by rw[<-hi'];exact hu) hv hc⟩
    .have d2:((i:Int)<(b:Int))=False:=eq_false (by omega)
     have d2':(i<b)=False:=eq_false hi
     simp[t0,t1,t2,t7,t8,d2,d2']
     exact hkn2 _ _ ⟨by simp[t0],by simp[t1],by simp[t2],by simp[t8],i,by simp[t7],hai,hib,h1,s1,λh=>absurd h hi⟩
   obtain⟨t0,t1,t2,t8,i,t7,hai,hib,h1,s1,hfi⟩:=hPo
   by_cases hieq:i=b
   .have d2:((i:Int)=(b:Int))=True:=eq_true (by omega)
    have d2':(i=b)=True:=eq_true hieq
    simp[t0,t1,t2,t7,t8,d2,d2']
    exact wO (kD h1 p1 (show BoQ ltN a b _ _ from ⟨true,by simp,λ_=>by rw[<-hieq];exact s1⟩))
   have d2:((i:Int)=(b:Int))=False:=eq_false (by omega)
   have d2':(i=b)=False:=eq_false hieq
   have wL:IntKind.i64.wrap ((b:Int)-(a:Int))=((b-a:Nat):Int):=qD (by omega) (by omega)
   obtain⟨L,hL'⟩:=qh2 (b-a)
   rw[<-hL']at wL
   by_cases h50:L<50
   .have d3:((L:Int)<50)=True:=eq_true (by omega)
    have d3':(L<50)=True:=eq_true h50
    simp[t0,t1,t2,t7,t8,d2,d2',wL,d3,d3']
    exact wO (kD h1 p1 (show BoQ ltN a b _ _ from ⟨false,by simp,λh=>by cases h⟩))
   have d3:((L:Int)<50)=False:=eq_false (by omega)
   have d3':(L<50)=False:=eq_false h50
   obtain⟨u,v,hu,hv,huv⟩:=hfi (by omega)
   have w2:=qL (j:=i) (by omega) (by omega)
   obtain⟨i',hi'⟩:=qh2 (i-1)
   rw[<-hi']at w2 hu
   have i1:=wx (e:=1) (c:=c) B N (i) (by omega)
   rw[Nat.mul_one]at i1
   have i2:=wx (e:=1) (c:=c) B N (i') (by omega)
   rw[Nat.mul_one]at i2
   have Ls1:load1 m' ⟨B,i',none⟩=some (iv u):=qO elI h1 hu none
   have Ls2:load1 m' ⟨B,i,none⟩=some (iv v):=qO elI h1 hv none
   obtain⟨ms6,cs1,cs0,hs6,ns6,os6⟩:=kC elI h1 (i:=i) (wC hv) u
   obtain⟨Ms6,hMs6⟩:=qh2 (Dx.behind m' ms6)
   rw[<-hMs6]at hs6 ns6 os6
   obtain⟨ms7,ds1,ds0,hs7,ns7,os7⟩:=kC elI hs6 (i:=i') (by rw[List.length_set];exact wC hu) v
   obtain⟨Ms7,hMs7⟩:=qh2 (Dx.behind Ms6 ms7)
   rw[<-hMs7]at hs7 ns7 os7
   have p2:PI a b l ((l1.set i u).set i' v):=p1.trans (PI.swp (by omega) (by omega) hv hu)
   have s2:InsO ltN a i i' ((l1.set i u).set i' v):=by
    rw[hi']
    exact (InsO.start s1).step toN hai (qgg _) (by rw[<-hi'];exact hu) hv huv
   obtain⟨l2,hl2⟩:=qh2 ((l1.set i u).set i' v)
   rw[<-hl2]at hs7 p2 s2
   have hlen2:=p2.len
   have wd:IntKind.i64.wrap ((i:Int)-(a:Int))=((i-a:Nat):Int):=qD (by omega) (by omega)
   obtain⟨ia,hia⟩:=qh2 (i-a)
   rw[<-hia]at wd
   simp[-Gf,t0,t1,t2,t7,t8,d2,d2',wL,d3,d3',w2,i1,i2,Ls1,Ls2,cs1,cs0,<-hMs6,ds1,ds0,<-hMs7]
   refine xw (c:=Vr) rfl (FSo qP m B a b l λv l'=>BoQ ltN a b v l') (λt m'=>Tm.get 0 t=dV B c N/\Tm.get 1 t=iv a/\Tm.get 2 t=iv b/\Tm.get 8 t=iv k/\Tm.get 7 t=iv i/\∃l':List Nat,SD m m' B qP l'/\PI a b l l'/\Srt ltN a (i+1) l') (λkn3 hkn3=>?_) (λt m' hPo=>?_)
   .by_cases hi2:2<=ia
    .have d4:((2:Int)<=(ia:Int))=True:=eq_true (by omega)
     have d4':(2<=ia)=True:=eq_true hi2
     simp[t0,t1,t2,t7,t8,wd,d4,d4',w2]
     refine wK (c:=DK) rfl (FSo qP m B a b l λv l'=>BoQ ltN a b v l') (λr t m'=>Tm.get 0 t=dV B c N/\Tm.get 1 t=iv a/\Tm.get 2 t=iv b/\Tm.get 8 t=iv k/\Tm.get 7 t=iv i/\∃(j:Nat) (l':List Nat),Tm.get 9 t=iv j/\j+r<=i/\a<=j/\SD m m' B qP l'/\PI a b l l'/\InsO ltN a i j l') i
      (λt m'=>Tm.get 0 t=dV B c N/\Tm.get 1 t=iv a/\Tm.get 2 t=iv b/\Tm.get 8 t=iv k/\Tm.get 7 t=iv i/\∃l':List Nat,SD m m' B qP l'/\PI a b l l'/\Srt ltN a (i+1) l') (by omega)
      ⟨by simp[t0],by simp[t1],by simp[t2],by simp[t8],by simp[t7],i',l2,by simp,by omega,by omega,hs7,p2,s2⟩ (λkn4 ke4 r t m' K4 hkn4 hr hI hK4=>?_) (λt m hPo=>hkn3 _ _ hPo)
     obtain⟨t0,t1,t2,t8,t7,j,l3,t9,hjr,haj,h3,p3,s3⟩:=hI
     have hlen3:=p3.len
     by_cases hj1:1<=j
     .have d5:((1:Int)<=(j:Int))=True:=eq_true (by omega)
      have d5':(1<=j)=True:=eq_true hj1
      have w5:=qL (j:=j) (by omega) (by omega)
      obtain⟨j',hj'⟩:=qh2 (j-1)
      rw[<-hj']at w5
      obtain⟨x,hx⟩:∃x,l3[j']?=some x:=⟨_,qgd (by omega)⟩
      obtain⟨y,hy⟩:∃y,l3[j]?=some y:=⟨_,qgd (by omega)⟩
      have k1:=wx (e:=1) (c:=c) B N (j) (by omega)
      rw[Nat.mul_one]at k1
      have k2:=wx (e:=1) (c:=c) B N (j') (by omega)
      rw[Nat.mul_one]at k2
      have e1:load1 m' ⟨B,j,none⟩=some (iv y):=qO elI h3 hy none
      have e2:load1 m' ⟨B,j',none⟩=some (iv x):=qO elI h3 hx none
      obtain⟨v5,m5,b51,b50,b52,rfl⟩:=qm (jX n (qg m') y x)
      have h5:=h3.callE b52
      obtain⟨M5,hM5⟩:=qh2 (Dx.behind m' m5)
      rw[<-hM5]at b52 h5
      cases hc:ltN y x with
      | true =>
       have haj2:a<j:=by
        refine Classical.byContradiction λhn=>?_
        have:=(hL.pi p3) j' j x y (by omega) haj (by omega) hx hy
        rw[this]at hc;cases hc
       rw[hc]at b51
       have Lz1:load1 M5 ⟨B,j',none⟩=some (iv x):=qO elI h5 hx none
       have Lz2:load1 M5 ⟨B,j,none⟩=some (iv y):=qO elI h5 hy none
       obtain⟨mz6,cz1,cz0,hz6,nz6,oz6⟩:=kC elI h5 (i:=j) (wC hy) x
       obtain⟨Mz6,hMz6⟩:=qh2 (Dx.behind M5 mz6)
       rw[<-hMz6]at hz6 nz6 oz6
       obtain⟨mz7,dz1,dz0,hz7,nz7,oz7⟩:=kC elI hz6 (i:=j') (by rw[List.length_set];exact wC hx) y
       obtain⟨Mz7,hMz7⟩:=qh2 (Dx.behind Mz6 mz7)
       rw[<-hMz7]at hz7 nz7 oz7
       simp[t0,t1,t2,t7,t8,t9,d5,d5',w5,k1,k2,e1,e2,b51,b50,<-hM5,Lz1,Lz2,cz1,cz0,<-hMz6,dz1,dz0,<-hMz7]
       refine hK4 (by omega) _ _ ⟨by simp[t0],by simp[t1],by simp[t2],by simp[t8],by simp[t7],j',_,by simp,by omega,by omega,hz7,p3.trans (PI.swp (by omega) (by omega) hy hx),?_⟩
       rw[hj']
       exact s3.step toN haj2 (by omega) (by rw[<-hj'];exact hx) hy hc
      | false =>
       rw[hc]at b51
       simp[nb45,t0,t1,t2,t7,t8,t9,d5,d5',w5,k1,k2,e1,e2,b51,b50,<-hM5]
       exact hkn4 _ _ ⟨by simp[t0],by simp[t1],by simp[t2],by simp[t8],by simp[t7],l3,h5,p3,s3.stop toN haj (.inr ⟨x,y,by rw[<-hj'];exact hx,hy,hc⟩)⟩
     .have d5:((1:Int)<=(j:Int))=False:=eq_false (by omega)
      have d5':(1<=j)=False:=eq_false hj1
      have hj0:j=0:=by omega
      have d6:(j=0)=True:=eq_true hj0
      simp[t0,t1,t2,t7,t8,t9,d5,d5',d6]
      exact hkn4 _ _ ⟨by simp[t0],by simp[t1],by simp[t2],by simp[t8],by simp[t7],l3,h3,p3,s3.stop toN haj (.inl (by omega))⟩
    .have d4:((2:Int)<=(ia:Int))=False:=eq_false (by omega)
     have d4':(2<=ia)=False:=eq_false hi2
     simp[t0,t1,t2,t7,t8,wd,d4,d4',w2]
     exact hkn3 _ _ ⟨by simp[t0],by simp[t1],by simp[t2],by simp[t8],by simp[t7],l2,hs7,p2,s2.stop toN (by omega) (.inl (by omega))⟩
   obtain⟨t0,t1,t2,t8,t7,l3,h3,p3,s3⟩:=hPo
   have hlen3:=p3.len
   have wd:IntKind.i64.wrap ((b:Int)-(i:Int))=((b-i:Nat):Int):=qD (by omega) (by omega)
   obtain⟨bi,hbi⟩:=qh2 (b-i)
   rw[<-hbi]at wd
   have fin:∀(t:Tm) (m':M) (l4:List Nat),(Tm.get 0 t=dV B c N/\Tm.get 1 t=iv a/\Tm.get 2 t=iv b/\Tm.get 8 t=iv ((k+1:Nat):Int)/\Tm.get 7 t=iv i)->SD m m' B qP l4->PI i b l3 l4->FSo qP m B a b l (λv l'=>BoQ ltN a b v l') (K t m'):=λt m' l4 ⟨q0,q1,q2,q8,q7⟩ h4 p4 =>
    hK hk5 t m' ⟨q0,q1,q2,q8,i,l4,q7,hai,hib,h4,p3.trans (p4.mono (by omega) (qgg _)),λp q x y g1 g2 g3 hx hy=>s3 p q x y g1 g2 (by omega) (by rw[<-p4.out p (.inl (by omega))];exact hx) (by rw[<-p4.out q (.inl (by omega))];exact hy)⟩
   by_cases hb2:2<=bi
   .have d4:((2:Int)<=(bi:Int))=True:=eq_true (by omega)
    have d4':(2<=bi)=True:=eq_true hb2
    have w6:=qY (i:=i) (by omega)
    simp[t0,t1,t2,t7,t8,wd,d4,d4',w6]
    refine wK (c:=DL) rfl (FSo qP m B a b l λv l'=>BoQ ltN a b v l') (λr t m'=>Tm.get 0 t=dV B c N/\Tm.get 1 t=iv a/\Tm.get 2 t=iv b/\Tm.get 8 t=iv k/\Tm.get 7 t=iv i/\∃l':List Nat,Tm.get 10 t=iv ((i+1+r:Nat):Int)/\SD m m' B qP l'/\PI i b l3 l') (b-(i+1))
     (λt m'=>Tm.get 0 t=dV B c N/\Tm.get 1 t=iv a/\Tm.get 2 t=iv b/\Tm.get 8 t=iv k/\Tm.get 7 t=iv i/\∃l':List Nat,SD m m' B qP l'/\PI i b l3 l') (by omega)
     ⟨by simp[t0],by simp[t1],by simp[t2],by simp[t8],by simp[t7],l3,by simp,h3,PI.refl⟩ (λkn4 ke4 r t m' K4 hkn4 hr hI hK4=>?_) (λt m' hPo=>?_)
    .obtain⟨t0,t1,t2,t8,t7,l4,t10,h4,p4⟩:=hI
     have hlen4:=p4.len
     obtain⟨j,hj⟩:=qh2 (i+1+r)
     rw[<-hj]at t10
     by_cases hjb:j<b
     .have d5:((j:Int)<(b:Int))=True:=eq_true (by omega)
      have d5':(j<b)=True:=eq_true hjb
      have w5:=qL (j:=j) (by omega) (by omega)
      have w7:=qY (i:=j) (by omega)
      obtain⟨j',hj'⟩:=qh2 (j-1)
      rw[<-hj']at w5
      obtain⟨x,hx⟩:∃x,l4[j']?=some x:=⟨_,qgd (by omega)⟩
      obtain⟨y,hy⟩:∃y,l4[j]?=some y:=⟨_,qgd (by omega)⟩
      have k1:=wx (e:=1) (c:=c) B N (j) (by omega)
      rw[Nat.mul_one]at k1
      have k2:=wx (e:=1) (c:=c) B N (j') (by omega)
      rw[Nat.mul_one]at k2
      have e1:load1 m' ⟨B,j,none⟩=some (iv y):=qO elI h4 hy none
      have e2:load1 m' ⟨B,j',none⟩=some (iv x):=qO elI h4 hx none
      obtain⟨v5,m5,b51,b50,b52,rfl⟩:=qm (jX n (qg m') y x)
      have h5:=h4.callE b52
      obtain⟨M5,hM5⟩:=qh2 (Dx.behind m' m5)
      rw[<-hM5]at b52 h5
      cases hc:ltN y x with
      | true =>
       rw[hc]at b51
       have Lz1:load1 M5 ⟨B,j',none⟩=some (iv x):=qO elI h5 hx none
       have Lz2:load1 M5 ⟨B,j,none⟩=some (iv y):=qO elI h5 hy none
       obtain⟨mz6,cz1,cz0,hz6,nz6,oz6⟩:=kC elI h5 (i:=j) (wC hy) x
       obtain⟨Mz6,hMz6⟩:=qh2 (Dx.behind M5 mz6)
       rw[<-hMz6]at hz6 nz6 oz6
       obtain⟨mz7,dz1,dz0,hz7,nz7,oz7⟩:=kC elI hz6 (i:=j') (by rw[List.length_set];exact wC hx) y
       obtain⟨Mz7,hMz7⟩:=qh2 (Dx.behind Mz6 mz7)
       rw[<-hMz7]at hz7 nz7 oz7
       simp[t0,t1,t2,t7,t8,t10,d5,d5',w5,w7,k1,k2,e1,e2,b51,b50,<-hM5,Lz1,Lz2,cz1,cz0,<-hMz6,dz1,dz0,<-hMz7]
       exact hK4 (by omega) _ _ ⟨by simp[t0],by simp[t1],by simp[t2],by simp[t8],by simp[t7],_,by simp;omega,hz7,p4.trans (PI.swp (by omega) (by omega) hy hx)⟩
      | false =>
       rw[hc]at b51
       simp[nb67,t0,t1,t2,t7,t8,t10,d5,d5',w5,k1,k2,e1,e2,b51,b50,<-hM5]
       exact hkn4 _ _ ⟨by simp[t0],by simp[t1],by simp[t2],by simp[t8],by simp[t7],l4,h5,p4⟩
     .have d5:((j:Int)<(b:Int))=False:=eq_false (by omega)
      have d5':(j<b)=False:=eq_false hjb
      simp[t0,t1,t2,t7,t8,t10,d5,d5']
      exact hkn4 _ _ ⟨by simp[t0],by simp[t1],by simp[t2],by simp[t8],by simp[t7],l4,h4,p4⟩
    .obtain⟨t0,t1,t2,t8,t7,l4,h4,p4⟩:=hPo
     simp[t0,t1,t2,t7,t8,wk]
     exact fin _ _ l4 ⟨by simp[t0],by simp[t1],by simp[t2],by simp,by simp[t7]⟩ h4 p4
   .have d4:((2:Int)<=(bi:Int))=False:=eq_false (by omega)
    have d4':(2<=bi)=False:=eq_false hb2
    simp[t0,t1,t2,t7,t8,wd,d4,d4',wk]
    exact fin _ _ l3 ⟨by simp[t0],by simp[t1],by simp[t2],by simp,by simp[t7]⟩ h3 PI.refl
  .have d1:((k:Int)<5)=False:=eq_false (by omega)
   have d1':(k<5)=False:=eq_false hk5
   obtain rfl:k=5:=by omega
   have t8':Tm.get 8 t=iv 5:=t8
   simp[t0,t1,t2,t7,t8',d1,d1']
   exact hkn _ _ ⟨l1,h1,p1⟩
 obtain⟨l1,h1,p1⟩:=hPo
 simp
 exact wO (kD h1 p1 (show BoQ ltN a b _ _ from ⟨false,by simp,λh=>by cases h⟩))
end Go.Sx
namespace Go.Sx
open Go.Dx Go.Proofs
set_option maxRecDepth 10000
theorem qer (n:Nat){m:M}(hm:m.base<=m.n){B c N a b pv:Nat}{l:List (Nat × Nat)}(hA:Arr m B (l.flatMap qf))(hB:B<m.n)(hN:l.length=N)(hap:a<=pv)(hpb:pv<b)(hbN:b<=N)(hNN:N<=1000000) :
  MuC (ex Tryz.prog (n+4)) 95 [dV B c N,iv a,iv b,iv pv,fnC] m B (SoQ qf B a b l λv l'=>Js ltP a b v l'):=by
 refine qA (Q:=λv m'=>Mc m m' [B]/\SoQ qf B a b l (λv l'=>Js ltP a b v l') v m') di2_ok (by simp) ?_
 have h0:SD m m B qf l:=SD.start hm hA hB
 obtain⟨x,hx⟩:∃x,l[a]?=some x:=⟨_,qgd (by omega)⟩
 obtain⟨p,hy⟩:∃y,l[pv]?=some y:=⟨_,qgd (by omega)⟩
 have ia:=wx (e:=2) (c:=c) B N (a) (by omega)
 have ip:=wx (e:=2) (c:=c) B N (pv) (by omega)
 have Lf1:loads m ⟨B,pv*2,none⟩ 2=some (qf p):=wJ elP h0 hy none
 have Lf2:loads m ⟨B,a*2,none⟩ 2=some (qf x):=wJ elP h0 hx none
 obtain⟨mf6,cf1,cf0,hf6,nf6,of6⟩:=zy elP h0 (i:=a) (wC hx) p
 obtain⟨Mf6,hMf6⟩:=qh2 (Dx.behind m mf6)
 rw[<-hMf6]at hf6 nf6 of6
 obtain⟨mf7,df1,df0,hf7,nf7,of7⟩:=zy elP hf6 (i:=pv) (by rw[List.length_set];exact wC hy) x
 obtain⟨Mf7,hMf7⟩:=qh2 (Dx.behind Mf6 mf7)
 rw[<-hMf7]at hf7 nf7 of7
 have hf7:=hf7
 have wa:=qY (i:=a) (by omega)
 have wb:=qL (j:=b) (by omega) (by omega)
 obtain⟨a1,ha1⟩:=qh2 (a+1)
 obtain⟨b1,hb1⟩:=qh2 (b-1)
 rw[<-ha1]at wa
 rw[<-hb1]at wb
 have p0:PI a b l ((l.set a p).set pv x):=PI.swp (by omega) (by omega) hx hy
 have hP:Part ltP a b p a1 b1 ((l.set a p).set pv x):=by
  rw[ha1,hb1]
  refine Part.start ?_ (by omega)
  rw[zA hx hy]
  by_cases e:a=pv
  .rw[if_pos e];subst e;rw[hx]at hy;exact hy
  .rw[if_neg e,if_pos rfl]
 obtain⟨l1,hl1⟩:=qh2 ((l.set a p).set pv x)
 rw[<-hl1]at hf7 p0 hP
 have hlen:=p0.len
 simp[ia,ip,Lf1,Lf2,cf1,cf0,<-hMf6,df1,df0,<-hMf7,qd,wa,wb]
 refine wK (c:=ci2_5) rfl (zH _) (λk t m'=>Tm.get 4 t=fnC/\Tm.get 0 t=dV B c N/\Tm.get 1 t=iv a/\Tm.get 13 t=iv b1/\∃i:Nat,Tm.get 12 t=iv i/\k<=i/\a1<=i/\SD m m' B qf l1/\Part ltP a b p i b1 l1) N
  (λt m'=>Tm.get 4 t=fnC/\Tm.get 0 t=dV B c N/\Tm.get 1 t=iv a/\Tm.get 13 t=iv b1/\∃i:Nat,Tm.get 12 t=iv i/\a1<=i/\SD m m' B qf l1/\Part ltP a b p i b1 l1/\(i<=b1->∃x,l1[i]?=some x/\ltP x p=false)) (by omega)
  ⟨by simp,by simp,by simp,by simp,a1,by simp,by omega,qgg _,hf7,hP⟩ (λkn ke k t m' K hkn hk hI hK=>?_) (λt m' hPo=>?_)
 .obtain⟨tc,t0,t1,tj,i,ti,hki,hii,h1,P1⟩:=hI
  have hai:=P1.ai
  have hjb:=P1.jb
  by_cases hij:i<=b1
  .have d1:((i:Int)<=(b1:Int))=True:=eq_true (by omega)
   have d1':(i<=b1)=True:=eq_true hij
   have w1:=qY (i:=i) (by omega)
   obtain⟨x,hx⟩:∃x,l1[i]?=some x:=⟨_,qgd (by omega)⟩
   have i1:=wx (e:=2) (c:=c) B N (i) (by omega)
   have i2:=wx (e:=2) (c:=c) B N (a) (by omega)
   have e1:loads m' ⟨B,i*2,none⟩ 2=some (qf x):=wJ elP h1 hx none
   have e2:loads m' ⟨B,a*2,none⟩ 2=some (qf p):=wJ elP h1 P1.piv none
   obtain⟨v5,m5,b51,b50,b52,c5,rfl,q5⟩:=qm (jT n (qg m') x p)
   have h5:=h1.callE b52
   obtain⟨M5,hM5⟩:=qh2 (Dx.behind m' m5)
   rw[<-hM5]at b52 h5
   cases hc:ltP x p with
   | true =>
    have e5:(c5<0)=True:=eq_true (q5.2 hc)
    simp[tc,t0,t1,ti,tj,d1,d1',i1,i2,e1,e2,b51,b50,e5,qd,<-hM5,w1]
    exact hK (by omega) _ _ ⟨by simp[tc],by simp[t0],by simp[t1],by simp[tj],i+1,by simp,by omega,by omega,h5,P1.incI hij hx hc⟩
   | false =>
    have e5:(c5<0)=False:=eq_false λh=>by rw[q5.1 h]at hc;cases hc
    simp[tc,t0,t1,ti,tj,d1,d1',i1,i2,e1,e2,b51,b50,e5,qd,<-hM5,w1]
    exact hkn _ _ ⟨by simp[tc],by simp[t0],by simp[t1],by simp[tj],i,by simp[ti],hii,h5,P1,λ_=>⟨x,hx,hc⟩⟩
  .have d1:((i:Int)<=(b1:Int))=False:=eq_false (by omega)
   have d1':(i<=b1)=False:=eq_false hij
   simp[tc,t0,t1,ti,tj,d1,d1']
   exact hkn _ _ ⟨by simp[tc],by simp[t0],by simp[t1],by simp[tj],i,by simp[ti],hii,h1,P1,λh=>absurd h hij⟩
 obtain⟨tc,t0,t1,tj,i5,ti,hii5,h1,hP,hfi5⟩:=hPo
 simp[tc,t0,t1,ti,tj]
 refine wK (c:=Dz) rfl (zH _) (λk t m'=>Tm.get 4 t=fnC/\Tm.get 0 t=dV B c N/\Tm.get 1 t=iv a/\Tm.get 12 t=iv i5/\∃j:Nat,Tm.get 13 t=iv j/\j+k<=b/\j<=b1/\SD m m' B qf l1/\Part ltP a b p i5 j l1) b
  (λt m'=>Tm.get 4 t=fnC/\Tm.get 0 t=dV B c N/\Tm.get 1 t=iv a/\Tm.get 12 t=iv i5/\∃j:Nat,Tm.get 13 t=iv j/\j<=b1/\SD m m' B qf l1/\Part ltP a b p i5 j l1/\(i5<=j->∃y,l1[j]?=some y/\ltP y p=true)) (by omega)
  ⟨by simp[tc],by simp[t0],by simp[t1],by simp[ti],b1,by simp[tj],by have:=hP.jb;omega,qgg _,h1,hP⟩ (λkn ke k t m' K hkn hk hI hK=>?_) (λt m' hPo=>?_)
 .obtain⟨tc,t0,t1,ti,j,tj,hkj,hjj,h1,P1⟩:=hI
  have hai:=P1.ai
  have hjb:=P1.jb
  by_cases hij:i5<=j
  .have d1:((i5:Int)<=(j:Int))=True:=eq_true (by omega)
   have d1':(i5<=j)=True:=eq_true hij
   have w1:=qL (j:=j) (by omega) (by omega)
   obtain⟨y,hy⟩:∃y,l1[j]?=some y:=⟨_,qgd (by omega)⟩
   have i1:=wx (e:=2) (c:=c) B N (j) (by omega)
   have i2:=wx (e:=2) (c:=c) B N (a) (by omega)
   have e1:loads m' ⟨B,j*2,none⟩ 2=some (qf y):=wJ elP h1 hy none
   have e2:loads m' ⟨B,a*2,none⟩ 2=some (qf p):=wJ elP h1 P1.piv none
   obtain⟨v5,m5,b51,b50,b52,c5,rfl,q5⟩:=qm (jT n (qg m') y p)
   have h5:=h1.callE b52
   obtain⟨M5,hM5⟩:=qh2 (Dx.behind m' m5)
   rw[<-hM5]at b52 h5
   cases hc:ltP y p with
   | true =>
    have e5:(c5<0)=True:=eq_true (q5.2 hc)
    simp[tc,t0,t1,ti,tj,d1,d1',i1,i2,e1,e2,b51,b50,e5,qd,<-hM5,w1]
    exact hkn _ _ ⟨by simp[tc],by simp[t0],by simp[t1],by simp[ti],j,by simp[tj],hjj,h5,P1,λ_=>⟨y,hy,hc⟩⟩
   | false =>
    have e5:(c5<0)=False:=eq_false λh=>by rw[q5.1 h]at hc;cases hc
    simp[tc,t0,t1,ti,tj,d1,d1',i1,i2,e1,e2,b51,b50,e5,qd,<-hM5,w1]
    exact hK (by omega) _ _ ⟨by simp[tc],by simp[t0],by simp[t1],by simp[ti],j-1,by simp,by omega,by omega,h5,P1.decJ hij hy hc⟩
  .have d1:((i5:Int)<=(j:Int))=False:=eq_false (by omega)
   have d1':(i5<=j)=False:=eq_false hij
   simp[tc,t0,t1,ti,tj,d1,d1']
   exact hkn _ _ ⟨by simp[tc],by simp[t0],by simp[t1],by simp[ti],j,by simp[tj],hjj,h1,P1,λh=>absurd h hij⟩
 obtain⟨tc,t0,t1,ti,j11,tj,hjj11,h1,hP,hfj11⟩:=hPo
 have hij0:=hP.ij
 by_cases hji:j11<i5
 .have d1:((j11:Int)<(i5:Int))=True:=eq_true (by omega)
  have d1':(j11<i5)=True:=eq_true hji
  have hjb:=hP.jb
  have hai:=hP.ai
  obtain⟨y,hy2⟩:∃y,l1[j11]?=some y:=⟨_,qgd (by omega)⟩
  have ij:=wx (e:=2) (c:=c) B N (j11) (by omega)
  have Ls1:loads m' ⟨B,a*2,none⟩ 2=some (qf p):=wJ elP h1 hP.piv none
  have Ls2:loads m' ⟨B,j11*2,none⟩ 2=some (qf y):=wJ elP h1 hy2 none
  obtain⟨ms6,cs1,cs0,hs6,ns6,os6⟩:=zy elP h1 (i:=j11) (wC hy2) p
  obtain⟨Ms6,hMs6⟩:=qh2 (Dx.behind m' ms6)
  rw[<-hMs6]at hs6 ns6 os6
  obtain⟨ms7,ds1,ds0,hs7,ns7,os7⟩:=zy elP hs6 (i:=a) (by rw[List.length_set];exact wC hP.piv) y
  obtain⟨Ms7,hMs7⟩:=qh2 (Dx.behind Ms6 ms7)
  rw[<-hMs7]at hs7 ns7 os7
  simp[tc,t0,t1,ti,tj,d1,d1',ia,ij,Ls1,Ls2,cs1,cs0,<-hMs6,ds1,ds0,<-hMs7,qd]
  exact Qm (kD hs7 (p0.trans (PI.swp (by omega) (by omega) hy2 hP.piv)) (show Js ltP a b _ _ from ⟨j11,true,p,by simp,hP.done hji hy2⟩))
 have d1:((j11:Int)<(i5:Int))=False:=eq_false (by omega)
 have d1':(j11<i5)=False:=eq_false hji
 obtain⟨u,hu,hu2⟩:=hfi5 (by omega)
 obtain⟨v,hv,hv2⟩:=hfj11 (by omega)
 have ii:=wx (e:=2) (c:=c) B N (i5) (by omega)
 have ij:=wx (e:=2) (c:=c) B N (j11) (by have:=hP.jb;omega)
 have Ls1:loads m' ⟨B,j11*2,none⟩ 2=some (qf v):=wJ elP h1 hv none
 have Ls2:loads m' ⟨B,i5*2,none⟩ 2=some (qf u):=wJ elP h1 hu none
 obtain⟨ms6,cs1,cs0,hs6,ns6,os6⟩:=zy elP h1 (i:=i5) (wC hu) v
 obtain⟨Ms6,hMs6⟩:=qh2 (Dx.behind m' ms6)
 rw[<-hMs6]at hs6 ns6 os6
 obtain⟨ms7,ds1,ds0,hs7,ns7,os7⟩:=zy elP hs6 (i:=j11) (by rw[List.length_set];exact wC hv) u
 obtain⟨Ms7,hMs7⟩:=qh2 (Dx.behind Ms6 ms7)
 rw[<-hMs7]at hs7 ns7 os7
 obtain⟨hlt,hP2⟩:=hP.swap (by omega) hu hv hu2 hv2
 have hai:=hP.ai
 have hjb:=hP.jb
 have w1:=qY (i:=i5) (by omega)
 have w2:=qL (j:=j11) (by omega) (by omega)
 have p2:PI a b l ((l1.set i5 v).set j11 u):=p0.trans (PI.swp (by omega) (by omega) hu hv)
 simp[tc,t0,t1,ti,tj,d1,d1',ii,ij,Ls1,Ls2,cs1,cs0,<-hMs6,ds1,ds0,<-hMs7,qd,w1,w2]
 refine wK (c:=DD) rfl (zH _) (λk t m'=>Tm.get 4 t=fnC/\Tm.get 0 t=dV B c N/\Tm.get 1 t=iv a/\∃(i j:Nat) (l':List (Nat × Nat)),Tm.get 12 t=iv i/\Tm.get 13 t=iv j/\k<=i/\SD m m' B qf l'/\PI a b l l'/\Part ltP a b p i j l') N
  (λt m'=>Tm.get 4 t=fnC/\Tm.get 0 t=dV B c N/\Tm.get 1 t=iv a/\∃(i j:Nat) (l':List (Nat × Nat)),Tm.get 13 t=iv j/\j<i/\SD m m' B qf l'/\PI a b l l'/\Part ltP a b p i j l') (by omega)
  ⟨by simp[tc],by simp[t0],by simp[t1],i5+1,j11-1,_,by simp,by simp,by omega,hs7,p2,hP2⟩ (λkn ke k t m' K hkn hk hI hK=>?_) (λt m' hPo=>?_)
 .obtain⟨tc,t0,t1,i0,j0,l1,ti,tj,hki,h1,p1,hP⟩:=hI
  have hlen:=p1.len
  have hjb:=hP.jb
  have hij0:=hP.ij
  simp[tc,t0,t1]
  refine wK (c:=DB) rfl (zH _) (λk t m'=>Tm.get 4 t=fnC/\Tm.get 0 t=dV B c N/\Tm.get 1 t=iv a/\Tm.get 13 t=iv j0/\∃i:Nat,Tm.get 12 t=iv i/\k<=i/\i0<=i/\SD m m' B qf l1/\Part ltP a b p i j0 l1) N
   (λt m'=>Tm.get 4 t=fnC/\Tm.get 0 t=dV B c N/\Tm.get 1 t=iv a/\Tm.get 13 t=iv j0/\∃i:Nat,Tm.get 12 t=iv i/\i0<=i/\SD m m' B qf l1/\Part ltP a b p i j0 l1/\(i<=j0->∃x,l1[i]?=some x/\ltP x p=false)) (by omega)
   ⟨by simp[tc],by simp[t0],by simp[t1],by simp[tj],i0,by simp[ti],by omega,qgg _,h1,hP⟩ (λkn ke k t m' K hkn hk hI hK=>?_) (λt m' hPo=>?_)
  .obtain⟨tc,t0,t1,tj,i,ti,hki,hii,h1,P1⟩:=hI
   have hai:=P1.ai
   have hjb:=P1.jb
   by_cases hij:i<=j0
   .have d1:((i:Int)<=(j0:Int))=True:=eq_true (by omega)
    have d1':(i<=j0)=True:=eq_true hij
    have w1:=qY (i:=i) (by omega)
    obtain⟨x,hx⟩:∃x,l1[i]?=some x:=⟨_,qgd (by omega)⟩
    have i1:=wx (e:=2) (c:=c) B N (i) (by omega)
    have i2:=wx (e:=2) (c:=c) B N (a) (by omega)
    have e1:loads m' ⟨B,i*2,none⟩ 2=some (qf x):=wJ elP h1 hx none
    have e2:loads m' ⟨B,a*2,none⟩ 2=some (qf p):=wJ elP h1 P1.piv none
    obtain⟨v5,m5,b51,b50,b52,c5,rfl,q5⟩:=qm (jT n (qg m') x p)
    have h5:=h1.callE b52
    obtain⟨M5,hM5⟩:=qh2 (Dx.behind m' m5)
    rw[<-hM5]at b52 h5
    cases hc:ltP x p with
    | true =>
     have e5:(c5<0)=True:=eq_true (q5.2 hc)
     simp[tc,t0,t1,ti,tj,d1,d1',i1,i2,e1,e2,b51,b50,e5,qd,<-hM5,w1]
     exact hK (by omega) _ _ ⟨by simp[tc],by simp[t0],by simp[t1],by simp[tj],i+1,by simp,by omega,by omega,h5,P1.incI hij hx hc⟩
    | false =>
     have e5:(c5<0)=False:=eq_false λh=>by rw[q5.1 h]at hc;cases hc
     simp[tc,t0,t1,ti,tj,d1,d1',i1,i2,e1,e2,b51,b50,e5,qd,<-hM5,w1]
     exact hkn _ _ ⟨by simp[tc],by simp[t0],by simp[t1],by simp[tj],i,by simp[ti],hii,h5,P1,λ_=>⟨x,hx,hc⟩⟩
   .have d1:((i:Int)<=(j0:Int))=False:=eq_false (by omega)
    have d1':(i<=j0)=False:=eq_false hij
    simp[tc,t0,t1,ti,tj,d1,d1']
    exact hkn _ _ ⟨by simp[tc],by simp[t0],by simp[t1],by simp[tj],i,by simp[ti],hii,h1,P1,λh=>absurd h hij⟩
  obtain⟨tc,t0,t1,tj,i21,ti,hii21,h1,hP,hfi21⟩:=hPo
  simp[tc,t0,t1,ti,tj]
  refine wK (c:=DC) rfl (zH _) (λk t m'=>Tm.get 4 t=fnC/\Tm.get 0 t=dV B c N/\Tm.get 1 t=iv a/\Tm.get 12 t=iv i21/\∃j:Nat,Tm.get 13 t=iv j/\j+k<=b/\j<=j0/\SD m m' B qf l1/\Part ltP a b p i21 j l1) b
   (λt m'=>Tm.get 4 t=fnC/\Tm.get 0 t=dV B c N/\Tm.get 1 t=iv a/\Tm.get 12 t=iv i21/\∃j:Nat,Tm.get 13 t=iv j/\j<=j0/\SD m m' B qf l1/\Part ltP a b p i21 j l1/\(i21<=j->∃y,l1[j]?=some y/\ltP y p=true)) (by omega)
   ⟨by simp[tc],by simp[t0],by simp[t1],by simp[ti],j0,by simp[tj],by have:=hP.jb;omega,qgg _,h1,hP⟩ (λkn ke k t m' K hkn hk hI hK=>?_) (λt m' hPo=>?_)
  .obtain⟨tc,t0,t1,ti,j,tj,hkj,hjj,h1,P1⟩:=hI
   have hai:=P1.ai
   have hjb:=P1.jb
   by_cases hij:i21<=j
   .have d1:((i21:Int)<=(j:Int))=True:=eq_true (by omega)
    have d1':(i21<=j)=True:=eq_true hij
    have w1:=qL (j:=j) (by omega) (by omega)
    obtain⟨y,hy⟩:∃y,l1[j]?=some y:=⟨_,qgd (by omega)⟩
    have i1:=wx (e:=2) (c:=c) B N (j) (by omega)
    have i2:=wx (e:=2) (c:=c) B N (a) (by omega)
    have e1:loads m' ⟨B,j*2,none⟩ 2=some (qf y):=wJ elP h1 hy none
    have e2:loads m' ⟨B,a*2,none⟩ 2=some (qf p):=wJ elP h1 P1.piv none
    obtain⟨v5,m5,b51,b50,b52,c5,rfl,q5⟩:=qm (jT n (qg m') y p)
    have h5:=h1.callE b52
    obtain⟨M5,hM5⟩:=qh2 (Dx.behind m' m5)
    rw[<-hM5]at b52 h5
    cases hc:ltP y p with
    | true =>
     have e5:(c5<0)=True:=eq_true (q5.2 hc)
     simp[tc,t0,t1,ti,tj,d1,d1',i1,i2,e1,e2,b51,b50,e5,qd,<-hM5,w1]
     exact hkn _ _ ⟨by simp[tc],by simp[t0],by simp[t1],by simp[ti],j,by simp[tj],hjj,h5,P1,λ_=>⟨y,hy,hc⟩⟩
    | false =>
     have e5:(c5<0)=False:=eq_false λh=>by rw[q5.1 h]at hc;cases hc
     simp[tc,t0,t1,ti,tj,d1,d1',i1,i2,e1,e2,b51,b50,e5,qd,<-hM5,w1]
     exact hK (by omega) _ _ ⟨by simp[tc],by simp[t0],by simp[t1],by simp[ti],j-1,by simp,by omega,by omega,h5,P1.decJ hij hy hc⟩
   .have d1:((i21:Int)<=(j:Int))=False:=eq_false (by omega)
    have d1':(i21<=j)=False:=eq_false hij
    simp[tc,t0,t1,ti,tj,d1,d1']
    exact hkn _ _ ⟨by simp[tc],by simp[t0],by simp[t1],by simp[ti],j,by simp[tj],hjj,h1,P1,λh=>absurd h hij⟩
  obtain⟨tc,t0,t1,ti,j27,tj,hjj27,h1,hP,hfj27⟩:=hPo
  have hij0:=hP.ij
  by_cases hji:j27<i21
  .have d1:((j27:Int)<(i21:Int))=True:=eq_true (by omega)
   have d1':(j27<i21)=True:=eq_true hji
   simp[nb45,tc,t0,t1,ti,tj,d1,d1']
   exact hkn _ _ ⟨by simp[tc],by simp[t0],by simp[t1],i21,j27,l1,by simp[tj],hji,h1,p1,hP⟩
  .have d1:((j27:Int)<(i21:Int))=False:=eq_false (by omega)
   have d1':(j27<i21)=False:=eq_false hji
   obtain⟨u,hu,hu2⟩:=hfi21 (by omega)
   obtain⟨v,hv,hv2⟩:=hfj27 (by omega)
   have hai:=hP.ai
   have hjb:=hP.jb
   have ii:=wx (e:=2) (c:=c) B N (i21) (by omega)
   have ij:=wx (e:=2) (c:=c) B N (j27) (by omega)
   have Ls1:loads m' ⟨B,j27*2,none⟩ 2=some (qf v):=wJ elP h1 hv none
   have Ls2:loads m' ⟨B,i21*2,none⟩ 2=some (qf u):=wJ elP h1 hu none
   obtain⟨ms6,cs1,cs0,hs6,ns6,os6⟩:=zy elP h1 (i:=i21) (wC hu) v
   obtain⟨Ms6,hMs6⟩:=qh2 (Dx.behind m' ms6)
   rw[<-hMs6]at hs6 ns6 os6
   obtain⟨ms7,ds1,ds0,hs7,ns7,os7⟩:=zy elP hs6 (i:=j27) (by rw[List.length_set];exact wC hv) u
   obtain⟨Ms7,hMs7⟩:=qh2 (Dx.behind Ms6 ms7)
   rw[<-hMs7]at hs7 ns7 os7
   obtain⟨hlt,hP2⟩:=hP.swap (by omega) hu hv hu2 hv2
   have w1:=qY (i:=i21) (by omega)
   have w2:=qL (j:=j27) (by omega) (by omega)
   simp[tc,t0,t1,ti,tj,d1,d1',ii,ij,Ls1,Ls2,cs1,cs0,<-hMs6,ds1,ds0,<-hMs7,qd,w1,w2]
   exact hK (by omega) _ _ ⟨by simp[tc],by simp[t0],by simp[t1],i21+1,j27-1,_,by simp,by simp,by omega,hs7,p1.trans (PI.swp (by omega) (by omega) hu hv),hP2⟩
 obtain⟨tc,t0,t1,i,j,l1,tj,hji,h1,p1,hP⟩:=hPo
 have hlen:=p1.len
 have hai:=hP.ai
 have hij0:=hP.ij
 have hjb:=hP.jb
 obtain⟨y,hy2⟩:∃y,l1[j]?=some y:=⟨_,qgd (by omega)⟩
 have ij:=wx (e:=2) (c:=c) B N (j) (by omega)
 have Ls1:loads m' ⟨B,a*2,none⟩ 2=some (qf p):=wJ elP h1 hP.piv none
 have Ls2:loads m' ⟨B,j*2,none⟩ 2=some (qf y):=wJ elP h1 hy2 none
 obtain⟨ms6,cs1,cs0,hs6,ns6,os6⟩:=zy elP h1 (i:=j) (wC hy2) p
 obtain⟨Ms6,hMs6⟩:=qh2 (Dx.behind m' ms6)
 rw[<-hMs6]at hs6 ns6 os6
 obtain⟨ms7,ds1,ds0,hs7,ns7,os7⟩:=zy elP hs6 (i:=a) (by rw[List.length_set];exact wC hP.piv) y
 obtain⟨Ms7,hMs7⟩:=qh2 (Dx.behind Ms6 ms7)
 rw[<-hMs7]at hs7 ns7 os7
 simp[tc,t0,t1,tj,ia,ij,Ls1,Ls2,cs1,cs0,<-hMs6,ds1,ds0,<-hMs7,qd]
 exact Qm (kD hs7 (p1.trans (PI.swp (by omega) (by omega) hy2 hP.piv)) (show Js ltP a b _ _ from ⟨j,false,p,by simp,hP.done hji hy2⟩))
theorem qep (n:Nat){m:M}(hm:m.base<=m.n){B c N a b pv:Nat}{l:List (Nat × Nat)}(hA:Arr m B (l.flatMap qf))(hB:B<m.n)(hN:l.length=N)(hap:a<=pv)(hpb:pv<b)(hbN:b<=N)(hNN:N<=1000000){p:(Nat × Nat)}(hy:l[pv]?=some p) :
  MuC (ex Tryz.prog (n+4)) 94 [dV B c N,iv a,iv b,iv pv,fnC] m B (SoQ qf B a b l λv l'=>EqQ ltP a b p v l'):=by
 refine qA (Q:=λv m'=>Mc m m' [B]/\SoQ qf B a b l (λv l'=>EqQ ltP a b p v l') v m') di1_ok (by simp) ?_
 have h0:SD m m B qf l:=SD.start hm hA hB
 obtain⟨x,hx⟩:∃x,l[a]?=some x:=⟨_,qgd (by omega)⟩
 have ia:=wx (e:=2) (c:=c) B N (a) (by omega)
 have ip:=wx (e:=2) (c:=c) B N (pv) (by omega)
 have Lf1:loads m ⟨B,pv*2,none⟩ 2=some (qf p):=wJ elP h0 hy none
 have Lf2:loads m ⟨B,a*2,none⟩ 2=some (qf x):=wJ elP h0 hx none
 obtain⟨mf6,cf1,cf0,hf6,nf6,of6⟩:=zy elP h0 (i:=a) (wC hx) p
 obtain⟨Mf6,hMf6⟩:=qh2 (Dx.behind m mf6)
 rw[<-hMf6]at hf6 nf6 of6
 obtain⟨mf7,df1,df0,hf7,nf7,of7⟩:=zy elP hf6 (i:=pv) (by rw[List.length_set];exact wC hy) x
 obtain⟨Mf7,hMf7⟩:=qh2 (Dx.behind Mf6 mf7)
 rw[<-hMf7]at hf7 nf7 of7
 have hf7:=hf7
 have wa:=qY (i:=a) (by omega)
 have wb:=qL (j:=b) (by omega) (by omega)
 obtain⟨a1,ha1⟩:=qh2 (a+1)
 obtain⟨b1,hb1⟩:=qh2 (b-1)
 rw[<-ha1]at wa
 rw[<-hb1]at wb
 have p0:PI a b l ((l.set a p).set pv x):=PI.swp (by omega) (by omega) hx hy
 have hP:PartE ltP a b p a1 b1 ((l.set a p).set pv x):=by
  rw[ha1,hb1]
  refine PartE.start toP ?_ (by omega)
  rw[zA hx hy]
  by_cases e:a=pv
  .rw[if_pos e];subst e;rw[hx]at hy;exact hy
  .rw[if_neg e,if_pos rfl]
 simp[ia,ip,Lf1,Lf2,cf1,cf0,<-hMf6,df1,df0,<-hMf7,qd,wa,wb]
 refine wK (c:=Dy) rfl (zH _) (λk t m'=>Tm.get 4 t=fnC/\Tm.get 0 t=dV B c N/\Tm.get 1 t=iv a/\∃(i j:Nat) (l':List (Nat × Nat)),Tm.get 11 t=iv i/\Tm.get 12 t=iv j/\k<=i/\SD m m' B qf l'/\PI a b l l'/\PartE ltP a b p i j l') N
  (λt m'=>Tm.get 4 t=fnC/\Tm.get 0 t=dV B c N/\Tm.get 1 t=iv a/\∃(i j:Nat) (l':List (Nat × Nat)),Tm.get 11 t=iv i/\j<i/\SD m m' B qf l'/\PI a b l l'/\PartE ltP a b p i j l') (by omega)
  ⟨by simp,by simp,by simp,a1,b1,_,by simp,by simp,by omega,hf7,p0,hP⟩ (λkn ke k t m' K hkn hk hI hK=>?_) (λt m' hPo=>?_)
 .obtain⟨tc,t0,t1,i0,j0,l1,ti,tj,hki,h1,p1,hP⟩:=hI
  have hlen:=p1.len
  have hjb:=hP.jb
  have hij0:=hP.ij
  simp[tc,t0,t1]
  refine wK (c:=ci1_5) rfl (zH _) (λk t m'=>Tm.get 4 t=fnC/\Tm.get 0 t=dV B c N/\Tm.get 1 t=iv a/\Tm.get 12 t=iv j0/\∃i:Nat,Tm.get 11 t=iv i/\k<=i/\i0<=i/\SD m m' B qf l1/\PartE ltP a b p i j0 l1) N
   (λt m'=>Tm.get 4 t=fnC/\Tm.get 0 t=dV B c N/\Tm.get 1 t=iv a/\Tm.get 12 t=iv j0/\∃i:Nat,Tm.get 11 t=iv i/\i0<=i/\SD m m' B qf l1/\PartE ltP a b p i j0 l1/\(i<=j0->∃x,l1[i]?=some x/\ltP p x=true)) (by omega)
   ⟨by simp[tc],by simp[t0],by simp[t1],by simp[tj],i0,by simp[ti],by omega,qgg _,h1,hP⟩ (λkn ke k t m' K hkn hk hI hK=>?_) (λt m' hPo=>?_)
  .obtain⟨tc,t0,t1,tj,i,ti,hki,hii,h1,P1⟩:=hI
   have hai:=P1.ai
   have hjb:=P1.jb
   by_cases hij:i<=j0
   .have d1:((i:Int)<=(j0:Int))=True:=eq_true (by omega)
    have d1':(i<=j0)=True:=eq_true hij
    have w1:=qY (i:=i) (by omega)
    obtain⟨x,hx⟩:∃x,l1[i]?=some x:=⟨_,qgd (by omega)⟩
    have i1:=wx (e:=2) (c:=c) B N (i) (by omega)
    have i2:=wx (e:=2) (c:=c) B N (a) (by omega)
    have e1:loads m' ⟨B,i*2,none⟩ 2=some (qf x):=wJ elP h1 hx none
    have e2:loads m' ⟨B,a*2,none⟩ 2=some (qf p):=wJ elP h1 P1.piv none
    obtain⟨v5,m5,b51,b50,b52,c5,rfl,q5⟩:=qm (jT n (qg m') p x)
    have h5:=h1.callE b52
    obtain⟨M5,hM5⟩:=qh2 (Dx.behind m' m5)
    rw[<-hM5]at b52 h5
    cases hc:ltP p x with
    | true =>
     have e5:(c5<0)=True:=eq_true (q5.2 hc)
     simp[tc,t0,t1,ti,tj,d1,d1',i1,i2,e1,e2,b51,b50,e5,qd,<-hM5,w1]
     exact hkn _ _ ⟨by simp[tc],by simp[t0],by simp[t1],by simp[tj],i,by simp[ti],hii,h5,P1,λ_=>⟨x,hx,hc⟩⟩
    | false =>
     have e5:(c5<0)=False:=eq_false λh=>by rw[q5.1 h]at hc;cases hc
     simp[tc,t0,t1,ti,tj,d1,d1',i1,i2,e1,e2,b51,b50,e5,qd,<-hM5,w1]
     exact hK (by omega) _ _ ⟨by simp[tc],by simp[t0],by simp[t1],by simp[tj],i+1,by simp,by omega,by omega,h5,P1.incI hij hx hc⟩
   .have d1:((i:Int)<=(j0:Int))=False:=eq_false (by omega)
    have d1':(i<=j0)=False:=eq_false hij
    simp[tc,t0,t1,ti,tj,d1,d1']
    exact hkn _ _ ⟨by simp[tc],by simp[t0],by simp[t1],by simp[tj],i,by simp[ti],hii,h1,P1,λh=>absurd h hij⟩
  obtain⟨tc,t0,t1,tj,i5,ti,hii5,h1,hP,hfi5⟩:=hPo
  simp[tc,t0,t1,ti,tj]
  refine wK (c:=Dw) rfl (zH _) (λk t m'=>Tm.get 4 t=fnC/\Tm.get 0 t=dV B c N/\Tm.get 1 t=iv a/\Tm.get 11 t=iv i5/\∃j:Nat,Tm.get 12 t=iv j/\j+k<=b/\j<=j0/\SD m m' B qf l1/\PartE ltP a b p i5 j l1) b
   (λt m'=>Tm.get 4 t=fnC/\Tm.get 0 t=dV B c N/\Tm.get 1 t=iv a/\Tm.get 11 t=iv i5/\∃j:Nat,Tm.get 12 t=iv j/\j<=j0/\SD m m' B qf l1/\PartE ltP a b p i5 j l1/\(i5<=j->∃y,l1[j]?=some y/\ltP p y=false)) (by omega)
   ⟨by simp[tc],by simp[t0],by simp[t1],by simp[ti],j0,by simp[tj],by have:=hP.jb;omega,qgg _,h1,hP⟩ (λkn ke k t m' K hkn hk hI hK=>?_) (λt m' hPo=>?_)
  .obtain⟨tc,t0,t1,ti,j,tj,hkj,hjj,h1,P1⟩:=hI
   have hai:=P1.ai
   have hjb:=P1.jb
   by_cases hij:i5<=j
   .have d1:((i5:Int)<=(j:Int))=True:=eq_true (by omega)
    have d1':(i5<=j)=True:=eq_true hij
    have w1:=qL (j:=j) (by omega) (by omega)
    obtain⟨y,hy⟩:∃y,l1[j]?=some y:=⟨_,qgd (by omega)⟩
    have i1:=wx (e:=2) (c:=c) B N (j) (by omega)
    have i2:=wx (e:=2) (c:=c) B N (a) (by omega)
    have e1:loads m' ⟨B,j*2,none⟩ 2=some (qf y):=wJ elP h1 hy none
    have e2:loads m' ⟨B,a*2,none⟩ 2=some (qf p):=wJ elP h1 P1.piv none
    obtain⟨v5,m5,b51,b50,b52,c5,rfl,q5⟩:=qm (jT n (qg m') p y)
    have h5:=h1.callE b52
    obtain⟨M5,hM5⟩:=qh2 (Dx.behind m' m5)
    rw[<-hM5]at b52 h5
    cases hc:ltP p y with
    | true =>
     have e5:(c5<0)=True:=eq_true (q5.2 hc)
     simp[tc,t0,t1,ti,tj,d1,d1',i1,i2,e1,e2,b51,b50,e5,qd,<-hM5,w1]
     exact hK (by omega) _ _ ⟨by simp[tc],by simp[t0],by simp[t1],by simp[ti],j-1,by simp,by omega,by omega,h5,P1.decJ hij hy hc⟩
    | false =>
     have e5:(c5<0)=False:=eq_false λh=>by rw[q5.1 h]at hc;cases hc
     simp[tc,t0,t1,ti,tj,d1,d1',i1,i2,e1,e2,b51,b50,e5,qd,<-hM5,w1]
     exact hkn _ _ ⟨by simp[tc],by simp[t0],by simp[t1],by simp[ti],j,by simp[tj],hjj,h5,P1,λ_=>⟨y,hy,hc⟩⟩
   .have d1:((i5:Int)<=(j:Int))=False:=eq_false (by omega)
    have d1':(i5<=j)=False:=eq_false hij
    simp[tc,t0,t1,ti,tj,d1,d1']
    exact hkn _ _ ⟨by simp[tc],by simp[t0],by simp[t1],by simp[ti],j,by simp[tj],hjj,h1,P1,λh=>absurd h hij⟩
  obtain⟨tc,t0,t1,ti,j11,tj,hjj11,h1,hP,hfj11⟩:=hPo
  have hij0:=hP.ij
  by_cases hji:j11<i5
  .have d1:((j11:Int)<(i5:Int))=True:=eq_true (by omega)
   have d1':(j11<i5)=True:=eq_true hji
   simp[GJ,tc,t0,t1,ti,tj,d1,d1']
   exact hkn _ _ ⟨by simp[tc],by simp[t0],by simp[t1],i5,j11,l1,by simp[ti],hji,h1,p1,hP⟩
  .have d1:((j11:Int)<(i5:Int))=False:=eq_false (by omega)
   have d1':(j11<i5)=False:=eq_false hji
   obtain⟨u,hu,hu2⟩:=hfi5 (by omega)
   obtain⟨v,hv,hv2⟩:=hfj11 (by omega)
   have hai:=hP.ai
   have hjb:=hP.jb
   have ii:=wx (e:=2) (c:=c) B N (i5) (by omega)
   have ij:=wx (e:=2) (c:=c) B N (j11) (by omega)
   have Ls1:loads m' ⟨B,j11*2,none⟩ 2=some (qf v):=wJ elP h1 hv none
   have Ls2:loads m' ⟨B,i5*2,none⟩ 2=some (qf u):=wJ elP h1 hu none
   obtain⟨ms6,cs1,cs0,hs6,ns6,os6⟩:=zy elP h1 (i:=i5) (wC hu) v
   obtain⟨Ms6,hMs6⟩:=qh2 (Dx.behind m' ms6)
   rw[<-hMs6]at hs6 ns6 os6
   obtain⟨ms7,ds1,ds0,hs7,ns7,os7⟩:=zy elP hs6 (i:=j11) (by rw[List.length_set];exact wC hv) u
   obtain⟨Ms7,hMs7⟩:=qh2 (Dx.behind Ms6 ms7)
   rw[<-hMs7]at hs7 ns7 os7
   obtain⟨hlt,hP2⟩:=hP.swap (by omega) hu hv hu2 hv2
   have w1:=qY (i:=i5) (by omega)
   have w2:=qL (j:=j11) (by omega) (by omega)
   simp[tc,t0,t1,ti,tj,d1,d1',ii,ij,Ls1,Ls2,cs1,cs0,<-hMs6,ds1,ds0,<-hMs7,qd,w1,w2]
   exact hK (by omega) _ _ ⟨by simp[tc],by simp[t0],by simp[t1],i5+1,j11-1,_,by simp,by simp,by omega,hs7,p1.trans (PI.swp (by omega) (by omega) hu hv),hP2⟩
 obtain⟨tc,t0,t1,i,j,l1,ti,hji,h1,p1,hP⟩:=hPo
 simp[tc,t0,t1,ti]
 exact wO (kD h1 p1 (show EqQ ltP a b p _ _ from ⟨i,j,by simp,hji,hP⟩))
theorem qet (n:Nat){m:M}(hm:m.base<=m.n){B c N a b:Nat}{l:List (Nat × Nat)}(hA:Arr m B (l.flatMap qf))(hB:B<m.n)(hN:l.length=N)(hab:a<b)(hbN:b<=N)(hNN:N<=1000000)(hL:Lo ltP a b l) :
  MuC (ex Tryz.prog (n+4)) 93 [dV B c N,iv a,iv b,fnC] m B (SoQ qf B a b l λv l'=>BoQ ltP a b v l'):=by
 refine qA (Q:=λv m'=>Mc m m' [B]/\SoQ qf B a b l (λv l'=>BoQ ltP a b v l') v m') di0_ok (by simp) ?_
 have h0:SD m m B qf l:=SD.start hm hA hB
 have wa:=qY (i:=a) (by omega)
 obtain⟨a1,ha1⟩:=qh2 (a+1)
 rw[<-ha1]at wa
 simp[wa]
 refine wK (c:=Dv) rfl (FSo qf m B a b l λv l'=>BoQ ltP a b v l') (λk t m'=>Tm.get 3 t=fnC/\Tm.get 0 t=dV B c N/\Tm.get 1 t=iv a/\Tm.get 2 t=iv b/\Tm.get 10 t=iv k/\∃(i:Nat) (l':List (Nat × Nat)),Tm.get 9 t=iv i/\a<i/\i<=b/\SD m m' B qf l'/\PI a b l l'/\Srt ltP a i l') 5
  (λt m'=>∃l',SD m m' B qf l'/\PI a b l l') (by omega)
  ⟨by simp,by simp,by simp,by simp,by simp,a1,l,by simp,by omega,by omega,h0,PI.refl,Srt.of_len (by omega)⟩ (λkn ke k t m' K hkn hk hI hK=>?_) (λt m' hPo=>?_)
 .obtain⟨tc,t0,t1,t2,t8,i0,l1,t7,hai0,hib0,h1,p1,s1⟩:=hI
  have hlen:=p1.len
  by_cases hk5:k<5
  .have d1:((k:Int)<5)=True:=eq_true (by omega)
   have d1':(k<5)=True:=eq_true hk5
   have wk:=qY (i:=k) (by omega)
   simp[tc,t0,t1,t2,t7,t8,d1,d1']
   refine wK (c:=ci0_7) rfl (FSo qf m B a b l λv l'=>BoQ ltP a b v l') (λr t m'=>Tm.get 3 t=fnC/\Tm.get 0 t=dV B c N/\Tm.get 1 t=iv a/\Tm.get 2 t=iv b/\Tm.get 10 t=iv k/\∃i:Nat,Tm.get 9 t=iv i/\r<=i/\a<i/\i<=b/\SD m m' B qf l1/\Srt ltP a i l1) N
    (λt m'=>Tm.get 3 t=fnC/\Tm.get 0 t=dV B c N/\Tm.get 1 t=iv a/\Tm.get 2 t=iv b/\Tm.get 10 t=iv k/\∃i:Nat,Tm.get 9 t=iv i/\a<i/\i<=b/\SD m m' B qf l1/\Srt ltP a i l1/\(i<b->∃u v,l1[i-1]?=some u/\l1[i]?=some v/\ltP v u=true)) (by omega)
    ⟨by simp[tc],by simp[t0],by simp[t1],by simp[t2],by simp[t8],i0,by simp[t7],by omega,hai0,hib0,h1,s1⟩ (λkn2 ke2 r t m' K2 hkn2 hr hI hK2=>?_) (λt m' hPo=>?_)
   .obtain⟨tc,t0,t1,t2,t8,i,t7,hri,hai,hib,h1,s1⟩:=hI
    by_cases hi:i<b
    .have d2:((i:Int)<(b:Int))=True:=eq_true (by omega)
     have d2':(i<b)=True:=eq_true hi
     have w1:=qY (i:=i) (by omega)
     have w2:=qL (j:=i) (by omega) (by omega)
     obtain⟨i',hi'⟩:=qh2 (i-1)
     rw[<-hi']at w2
     obtain⟨u,hu⟩:∃u,l1[i']?=some u:=⟨_,qgd (by omega)⟩
     obtain⟨v,hv⟩:∃v,l1[i]?=some v:=⟨_,qgd (by omega)⟩
     have i1:=wx (e:=2) (c:=c) B N (i) (by omega)
     have i2:=wx (e:=2) (c:=c) B N (i') (by omega)
     have e1:loads m' ⟨B,i*2,none⟩ 2=some (qf v):=wJ elP h1 hv none
     have e2:loads m' ⟨B,i'*2,none⟩ 2=some (qf u):=wJ elP h1 hu none
     obtain⟨v5,m5,b51,b50,b52,c5,rfl,q5⟩:=qm (jT n (qg m') v u)
     have h5:=h1.callE b52
     obtain⟨M5,hM5⟩:=qh2 (Dx.behind m' m5)
     rw[<-hM5]at b52 h5
     cases hc:ltP v u with
     | true =>
      have e5:(c5<0)=True:=eq_true (q5.2 hc)
      simp[tc,t0,t1,t2,t7,t8,d2,d2',w1,w2,i1,i2,e1,e2,b51,b50,e5,qd,<-hM5]
      exact hkn2 _ _ ⟨by simp[tc],by simp[t0],by simp[t1],by simp[t2],by simp[t8],i,by simp[t7],hai,hib,h5,s1,λ_=>⟨u,v,by rw[<-hi'];exact hu,hv,hc⟩⟩
     | false =>
      have e5:(c5<0)=False:=eq_false λh=>by rw[q5.1 h]at hc;cases hc
      simp[tc,t0,t1,t2,t7,t8,d2,d2',w1,w2,i1,i2,e1,e2,b51,b50,e5,qd,<-hM5]
      exact hK2 (by omega) _ _ ⟨by simp[tc],by simp[t0],by simp[t1],by simp[t2],by simp[t8],i+1,by simp,by omega,by omega,by omega,h5,s1.succ toP hai (by rw[<-hi'];exact hu) hv hc⟩
    .have d2:((i:Int)<(b:Int))=False:=eq_false (by omega)
     have d2':(i<b)=False:=eq_false hi
     simp[tc,t0,t1,t2,t7,t8,d2,d2']
     exact hkn2 _ _ ⟨by simp[tc],by simp[t0],by simp[t1],by simp[t2],by simp[t8],i,by simp[t7],hai,hib,h1,s1,λh=>absurd h hi⟩
   obtain⟨tc,t0,t1,t2,t8,i,t7,hai,hib,h1,s1,hfi⟩:=hPo
   by_cases hieq:i=b
   .have d2:((i:Int)=(b:Int))=True:=eq_true (by omega)
    have d2':(i=b)=True:=eq_true hieq
    simp[tc,t0,t1,t2,t7,t8,d2,d2']
    exact wO (kD h1 p1 (show BoQ ltP a b _ _ from ⟨true,by simp,λ_=>by rw[<-hieq];exact s1⟩))
   have d2:((i:Int)=(b:Int))=False:=eq_false (by omega)
   have d2':(i=b)=False:=eq_false hieq
   have wL:IntKind.i64.wrap ((b:Int)-(a:Int))=((b-a:Nat):Int):=qD (by omega) (by omega)
   obtain⟨L,hL'⟩:=qh2 (b-a)
   rw[<-hL']at wL
   by_cases h50:L<50
   .have d3:((L:Int)<50)=True:=eq_true (by omega)
    have d3':(L<50)=True:=eq_true h50
    simp[tc,t0,t1,t2,t7,t8,d2,d2',wL,d3,d3']
    exact wO (kD h1 p1 (show BoQ ltP a b _ _ from ⟨false,by simp,λh=>by cases h⟩))
   have d3:((L:Int)<50)=False:=eq_false (by omega)
   have d3':(L<50)=False:=eq_false h50
   obtain⟨u,v,hu,hv,huv⟩:=hfi (by omega)
   have w2:=qL (j:=i) (by omega) (by omega)
   obtain⟨i',hi'⟩:=qh2 (i-1)
   rw[<-hi']at w2 hu
   have i1:=wx (e:=2) (c:=c) B N (i) (by omega)
   have i2:=wx (e:=2) (c:=c) B N (i') (by omega)
   have Ls1:loads m' ⟨B,i'*2,none⟩ 2=some (qf u):=wJ elP h1 hu none
   have Ls2:loads m' ⟨B,i*2,none⟩ 2=some (qf v):=wJ elP h1 hv none
   obtain⟨ms6,cs1,cs0,hs6,ns6,os6⟩:=zy elP h1 (i:=i) (wC hv) u
   obtain⟨Ms6,hMs6⟩:=qh2 (Dx.behind m' ms6)
   rw[<-hMs6]at hs6 ns6 os6
   obtain⟨ms7,ds1,ds0,hs7,ns7,os7⟩:=zy elP hs6 (i:=i') (by rw[List.length_set];exact wC hu) v
   obtain⟨Ms7,hMs7⟩:=qh2 (Dx.behind Ms6 ms7)
   rw[<-hMs7]at hs7 ns7 os7
   have p2:PI a b l ((l1.set i u).set i' v):=p1.trans (PI.swp (by omega) (by omega) hv hu)
   have s2:InsO ltP a i i' ((l1.set i u).set i' v):=by
    rw[hi']
    exact (InsO.start s1).step toP hai (qgg _) (by rw[<-hi'];exact hu) hv huv
   obtain⟨l2,hl2⟩:=qh2 ((l1.set i u).set i' v)
   rw[<-hl2]at hs7 p2 s2
   have hlen2:=p2.len
   have wd:IntKind.i64.wrap ((i:Int)-(a:Int))=((i-a:Nat):Int):=qD (by omega) (by omega)
   obtain⟨ia,hia⟩:=qh2 (i-a)
   rw[<-hia]at wd
   simp[-Gc,tc,t0,t1,t2,t7,t8,d2,d2',wL,d3,d3',w2,i1,i2,Ls1,Ls2,cs1,cs0,<-hMs6,ds1,ds0,<-hMs7,qd]
   refine xw (c:=Vn) rfl (FSo qf m B a b l λv l'=>BoQ ltP a b v l') (λt m'=>Tm.get 3 t=fnC/\Tm.get 0 t=dV B c N/\Tm.get 1 t=iv a/\Tm.get 2 t=iv b/\Tm.get 10 t=iv k/\Tm.get 9 t=iv i/\∃l':List (Nat × Nat),SD m m' B qf l'/\PI a b l l'/\Srt ltP a (i+1) l') (λkn3 hkn3=>?_) (λt m' hPo=>?_)
   .by_cases hi2:2<=ia
    .have d4:((2:Int)<=(ia:Int))=True:=eq_true (by omega)
     have d4':(2<=ia)=True:=eq_true hi2
     simp[tc,t0,t1,t2,t7,t8,wd,d4,d4',w2]
     refine wK (c:=Dt) rfl (FSo qf m B a b l λv l'=>BoQ ltP a b v l') (λr t m'=>Tm.get 3 t=fnC/\Tm.get 0 t=dV B c N/\Tm.get 1 t=iv a/\Tm.get 2 t=iv b/\Tm.get 10 t=iv k/\Tm.get 9 t=iv i/\∃(j:Nat) (l':List (Nat × Nat)),Tm.get 11 t=iv j/\j+r<=i/\a<=j/\SD m m' B qf l'/\PI a b l l'/\InsO ltP a i j l') i
      (λt m'=>Tm.get 3 t=fnC/\Tm.get 0 t=dV B c N/\Tm.get 1 t=iv a/\Tm.get 2 t=iv b/\Tm.get 10 t=iv k/\Tm.get 9 t=iv i/\∃l':List (Nat × Nat),SD m m' B qf l'/\PI a b l l'/\Srt ltP a (i+1) l') (by omega)
      ⟨by simp[tc],by simp[t0],by simp[t1],by simp[t2],by simp[t8],by simp[t7],i',l2,by simp,by omega,by omega,hs7,p2,s2⟩ (λkn4 ke4 r t m' K4 hkn4 hr hI hK4=>?_) (λt m hPo=>hkn3 _ _ hPo)
     obtain⟨tc,t0,t1,t2,t8,t7,j,l3,t9,hjr,haj,h3,p3,s3⟩:=hI
     have hlen3:=p3.len
     by_cases hj1:1<=j
     .have d5:((1:Int)<=(j:Int))=True:=eq_true (by omega)
      have d5':(1<=j)=True:=eq_true hj1
      have w5:=qL (j:=j) (by omega) (by omega)
      obtain⟨j',hj'⟩:=qh2 (j-1)
      rw[<-hj']at w5
      obtain⟨x,hx⟩:∃x,l3[j']?=some x:=⟨_,qgd (by omega)⟩
      obtain⟨y,hy⟩:∃y,l3[j]?=some y:=⟨_,qgd (by omega)⟩
      have k1:=wx (e:=2) (c:=c) B N (j) (by omega)
      have k2:=wx (e:=2) (c:=c) B N (j') (by omega)
      have e1:loads m' ⟨B,j*2,none⟩ 2=some (qf y):=wJ elP h3 hy none
      have e2:loads m' ⟨B,j'*2,none⟩ 2=some (qf x):=wJ elP h3 hx none
      obtain⟨v5,m5,b51,b50,b52,c5,rfl,q5⟩:=qm (jT n (qg m') y x)
      have h5:=h3.callE b52
      obtain⟨M5,hM5⟩:=qh2 (Dx.behind m' m5)
      rw[<-hM5]at b52 h5
      cases hc:ltP y x with
      | true =>
       have haj2:a<j:=by
        refine Classical.byContradiction λhn=>?_
        have:=(hL.pi p3) j' j x y (by omega) haj (by omega) hx hy
        rw[this]at hc;cases hc
       have e5:(c5<0)=True:=eq_true (q5.2 hc)
       have Lz1:loads M5 ⟨B,j'*2,none⟩ 2=some (qf x):=wJ elP h5 hx none
       have Lz2:loads M5 ⟨B,j*2,none⟩ 2=some (qf y):=wJ elP h5 hy none
       obtain⟨mz6,cz1,cz0,hz6,nz6,oz6⟩:=zy elP h5 (i:=j) (wC hy) x
       obtain⟨Mz6,hMz6⟩:=qh2 (Dx.behind M5 mz6)
       rw[<-hMz6]at hz6 nz6 oz6
       obtain⟨mz7,dz1,dz0,hz7,nz7,oz7⟩:=zy elP hz6 (i:=j') (by rw[List.length_set];exact wC hx) y
       obtain⟨Mz7,hMz7⟩:=qh2 (Dx.behind Mz6 mz7)
       rw[<-hMz7]at hz7 nz7 oz7
       simp[tc,t0,t1,t2,t7,t8,t9,d5,d5',w5,k1,k2,e1,e2,b51,b50,e5,qd,<-hM5,Lz1,Lz2,cz1,cz0,<-hMz6,dz1,dz0,<-hMz7,qd]
       refine hK4 (by omega) _ _ ⟨by simp[tc],by simp[t0],by simp[t1],by simp[t2],by simp[t8],by simp[t7],j',_,by simp,by omega,by omega,hz7,p3.trans (PI.swp (by omega) (by omega) hy hx),?_⟩
       rw[hj']
       exact s3.step toP haj2 (by omega) (by rw[<-hj'];exact hx) hy hc
      | false =>
       have e5:(c5<0)=False:=eq_false λh=>by rw[q5.1 h]at hc;cases hc
       simp[nb45,tc,t0,t1,t2,t7,t8,t9,d5,d5',w5,k1,k2,e1,e2,b51,b50,e5,qd,<-hM5]
       exact hkn4 _ _ ⟨by simp[tc],by simp[t0],by simp[t1],by simp[t2],by simp[t8],by simp[t7],l3,h5,p3,s3.stop toP haj (.inr ⟨x,y,by rw[<-hj'];exact hx,hy,hc⟩)⟩
     .have d5:((1:Int)<=(j:Int))=False:=eq_false (by omega)
      have d5':(1<=j)=False:=eq_false hj1
      have hj0:j=0:=by omega
      have d6:(j=0)=True:=eq_true hj0
      simp[tc,t0,t1,t2,t7,t8,t9,d5,d5',d6]
      exact hkn4 _ _ ⟨by simp[tc],by simp[t0],by simp[t1],by simp[t2],by simp[t8],by simp[t7],l3,h3,p3,s3.stop toP haj (.inl (by omega))⟩
    .have d4:((2:Int)<=(ia:Int))=False:=eq_false (by omega)
     have d4':(2<=ia)=False:=eq_false hi2
     simp[tc,t0,t1,t2,t7,t8,wd,d4,d4',w2]
     exact hkn3 _ _ ⟨by simp[tc],by simp[t0],by simp[t1],by simp[t2],by simp[t8],by simp[t7],l2,hs7,p2,s2.stop toP (by omega) (.inl (by omega))⟩
   obtain⟨tc,t0,t1,t2,t8,t7,l3,h3,p3,s3⟩:=hPo
   have hlen3:=p3.len
   have wd:IntKind.i64.wrap ((b:Int)-(i:Int))=((b-i:Nat):Int):=qD (by omega) (by omega)
   obtain⟨bi,hbi⟩:=qh2 (b-i)
   rw[<-hbi]at wd
   have fin:∀(t:Tm) (m':M) (l4:List (Nat × Nat)),(Tm.get 3 t=fnC/\Tm.get 0 t=dV B c N/\Tm.get 1 t=iv a/\Tm.get 2 t=iv b/\Tm.get 10 t=iv ((k+1:Nat):Int)/\Tm.get 9 t=iv i)->SD m m' B qf l4->PI i b l3 l4->FSo qf m B a b l (λv l'=>BoQ ltP a b v l') (K t m'):=λt m' l4 ⟨tc,q0,q1,q2,q8,q7⟩ h4 p4 =>
    hK hk5 t m' ⟨tc,q0,q1,q2,q8,i,l4,q7,hai,hib,h4,p3.trans (p4.mono (by omega) (qgg _)),λp q x y g1 g2 g3 hx hy=>s3 p q x y g1 g2 (by omega) (by rw[<-p4.out p (.inl (by omega))];exact hx) (by rw[<-p4.out q (.inl (by omega))];exact hy)⟩
   by_cases hb2:2<=bi
   .have d4:((2:Int)<=(bi:Int))=True:=eq_true (by omega)
    have d4':(2<=bi)=True:=eq_true hb2
    have w6:=qY (i:=i) (by omega)
    simp[tc,t0,t1,t2,t7,t8,wd,d4,d4',w6]
    refine wK (c:=Du) rfl (FSo qf m B a b l λv l'=>BoQ ltP a b v l') (λr t m'=>Tm.get 3 t=fnC/\Tm.get 0 t=dV B c N/\Tm.get 1 t=iv a/\Tm.get 2 t=iv b/\Tm.get 10 t=iv k/\Tm.get 9 t=iv i/\∃l':List (Nat × Nat),Tm.get 12 t=iv ((i+1+r:Nat):Int)/\SD m m' B qf l'/\PI i b l3 l') (b-(i+1))
     (λt m'=>Tm.get 3 t=fnC/\Tm.get 0 t=dV B c N/\Tm.get 1 t=iv a/\Tm.get 2 t=iv b/\Tm.get 10 t=iv k/\Tm.get 9 t=iv i/\∃l':List (Nat × Nat),SD m m' B qf l'/\PI i b l3 l') (by omega)
     ⟨by simp[tc],by simp[t0],by simp[t1],by simp[t2],by simp[t8],by simp[t7],l3,by simp,h3,PI.refl⟩ (λkn4 ke4 r t m' K4 hkn4 hr hI hK4=>?_) (λt m' hPo=>?_)
    .obtain⟨tc,t0,t1,t2,t8,t7,l4,t10,h4,p4⟩:=hI
     have hlen4:=p4.len
     obtain⟨j,hj⟩:=qh2 (i+1+r)
     rw[<-hj]at t10
     by_cases hjb:j<b
     .have d5:((j:Int)<(b:Int))=True:=eq_true (by omega)
      have d5':(j<b)=True:=eq_true hjb
      have w5:=qL (j:=j) (by omega) (by omega)
      have w7:=qY (i:=j) (by omega)
      obtain⟨j',hj'⟩:=qh2 (j-1)
      rw[<-hj']at w5
      obtain⟨x,hx⟩:∃x,l4[j']?=some x:=⟨_,qgd (by omega)⟩
      obtain⟨y,hy⟩:∃y,l4[j]?=some y:=⟨_,qgd (by omega)⟩
      have k1:=wx (e:=2) (c:=c) B N (j) (by omega)
      have k2:=wx (e:=2) (c:=c) B N (j') (by omega)
      have e1:loads m' ⟨B,j*2,none⟩ 2=some (qf y):=wJ elP h4 hy none
      have e2:loads m' ⟨B,j'*2,none⟩ 2=some (qf x):=wJ elP h4 hx none
      obtain⟨v5,m5,b51,b50,b52,c5,rfl,q5⟩:=qm (jT n (qg m') y x)
      have h5:=h4.callE b52
      obtain⟨M5,hM5⟩:=qh2 (Dx.behind m' m5)
      rw[<-hM5]at b52 h5
      cases hc:ltP y x with
      | true =>
       have e5:(c5<0)=True:=eq_true (q5.2 hc)
       have Lz1:loads M5 ⟨B,j'*2,none⟩ 2=some (qf x):=wJ elP h5 hx none
       have Lz2:loads M5 ⟨B,j*2,none⟩ 2=some (qf y):=wJ elP h5 hy none
       obtain⟨mz6,cz1,cz0,hz6,nz6,oz6⟩:=zy elP h5 (i:=j) (wC hy) x
       obtain⟨Mz6,hMz6⟩:=qh2 (Dx.behind M5 mz6)
       rw[<-hMz6]at hz6 nz6 oz6
       obtain⟨mz7,dz1,dz0,hz7,nz7,oz7⟩:=zy elP hz6 (i:=j') (by rw[List.length_set];exact wC hx) y
       obtain⟨Mz7,hMz7⟩:=qh2 (Dx.behind Mz6 mz7)
       rw[<-hMz7]at hz7 nz7 oz7
       simp[tc,t0,t1,t2,t7,t8,t10,d5,d5',w5,w7,k1,k2,e1,e2,b51,b50,e5,qd,<-hM5,Lz1,Lz2,cz1,cz0,<-hMz6,dz1,dz0,<-hMz7,qd]
       exact hK4 (by omega) _ _ ⟨by simp[tc],by simp[t0],by simp[t1],by simp[t2],by simp[t8],by simp[t7],_,by simp;omega,hz7,p4.trans (PI.swp (by omega) (by omega) hy hx)⟩
      | false =>
       have e5:(c5<0)=False:=eq_false λh=>by rw[q5.1 h]at hc;cases hc
       simp[nb67,tc,t0,t1,t2,t7,t8,t10,d5,d5',w5,k1,k2,e1,e2,b51,b50,e5,qd,<-hM5]
       exact hkn4 _ _ ⟨by simp[tc],by simp[t0],by simp[t1],by simp[t2],by simp[t8],by simp[t7],l4,h5,p4⟩
     .have d5:((j:Int)<(b:Int))=False:=eq_false (by omega)
      have d5':(j<b)=False:=eq_false hjb
      simp[tc,t0,t1,t2,t7,t8,t10,d5,d5']
      exact hkn4 _ _ ⟨by simp[tc],by simp[t0],by simp[t1],by simp[t2],by simp[t8],by simp[t7],l4,h4,p4⟩
    .obtain⟨tc,t0,t1,t2,t8,t7,l4,h4,p4⟩:=hPo
     simp[tc,t0,t1,t2,t7,t8,wk]
     exact fin _ _ l4 ⟨by simp[tc],by simp[t0],by simp[t1],by simp[t2],by simp,by simp[t7]⟩ h4 p4
   .have d4:((2:Int)<=(bi:Int))=False:=eq_false (by omega)
    have d4':(2<=bi)=False:=eq_false hb2
    simp[tc,t0,t1,t2,t7,t8,wd,d4,d4',wk]
    exact fin _ _ l3 ⟨by simp[tc],by simp[t0],by simp[t1],by simp[t2],by simp,by simp[t7]⟩ h3 PI.refl
  .have d1:((k:Int)<5)=False:=eq_false (by omega)
   have d1':(k<5)=False:=eq_false hk5
   obtain rfl:k=5:=by omega
   have t8':Tm.get 10 t=iv 5:=t8
   simp[tc,t0,t1,t2,t7,t8',d1,d1']
   exact hkn _ _ ⟨l1,h1,p1⟩
 obtain⟨l1,h1,p1⟩:=hPo
 simp
 exact wO (kD h1 p1 (show BoQ ltP a b _ _ from ⟨false,by simp,λh=>by cases h⟩))
end Go.Sx
namespace Go.Sx
open Go.Dx Go.Proofs
set_option maxRecDepth 10000
theorem pdqO_c (n:Nat):∀(k:Nat) {m:M} (hm:m.base<=m.n) {B c N a b:Nat} {lim:Int} {l:List Nat} (hA:Arr m B (l.flatMap qP)) (hB:B<m.n) (hN:l.length=N) (hab:a<=b) (hbN:b<=N) (hNN:N<=1000000) (hk:b-a<2^k) (hL:Lo ltN a b l),
  MuC (ex Tryz.prog (n+k+7)) 98 [dV B c N,iv a,iv b,iv lim] m B (SoQ qP B a b l λ_ l'=>Srt ltN a b l'):=by
 intro k
 induction k with
 | zero =>
  intro m hm B c N a b lim l hA hB hN hab hbN hNN hk hL
  refine qA (Q:=λv m'=>Mc m m' [B]/\SoQ qP B a b l (λ_ l'=>Srt ltN a b l') v m') qab (by simp) ?_
  obtain rfl:b=a:=by omega
  simp
  refine qF (c:=Vq) rfl (FSo qP m B b b l λ_ l'=>Srt ltN b b l') (λr t m'=>Tm.get 0 t=dV B c N/\Tm.get 1 t=iv b/\Tm.get 2 t=iv b/\m'=m) 0 (by omega) ⟨by simp,by simp,by simp,rfl⟩ (λr t m' K hr hI hK=>?_)
  obtain⟨t0,t1,t2,he⟩:=hI
  rw[he]
  obtain⟨v1,m1,a1,a2,l1,a3,a4,a5⟩:=qaz (n+3) hm (c:=c) hA hB hN (qgg b) hbN hNN
  have a1:(ex Tryz.prog (n+0+6)).f 107 [dV B c N,iv b,iv b] m=some (v1,m1):=a1
  have w0:IntKind.i64.wrap 0=0:=wrap64 _ (by omega) (by omega)
  simp[t0,t1,t2,w0,a1]
  exact zp ⟨a2,l1,a3,a4,a5⟩
 | succ k ih =>
  intro m hm B c N a0 b0 lim0 l0 hA hB hN hab0 hbN hNN hk0 hL
  refine qA (Q:=λv m'=>Mc m m' [B]/\SoQ qP B a0 b0 l0 (λ_ l'=>Srt ltN a0 b0 l') v m') qab (by simp) ?_
  obtain⟨X,hX⟩:=qh2 (ex Tryz.prog (n+(k+1)+6))
  have hX':X=ex Tryz.prog (n+k+7):=by rw[hX,show n+(k+1)+6=n+k+7 by omega]
  rw[<-hX]
  simp
  refine qF (c:=Vq) rfl (FSo qP m B a0 b0 l0 λ_ l'=>Srt ltN a0 b0 l') (λr t m'=>Tm.get 0 t=dV B c N/\∃(a b:Nat) (lim:Int) (wb wp:Bool) (l:List Nat),Tm.get 1 t=iv a/\Tm.get 2 t=iv b/\Tm.get 3 t=iv lim/\Tm.get 8 t=.bool wb/\Tm.get 9 t=.bool wp/\SD m m' B qP l/\PI a0 b0 l0 l/\Qk ltN a0 b0 a b l/\(b-a)+r<=b0-a0) (b0-a0) (by omega)
   ⟨by simp,a0,b0,lim0,true,true,l0,by simp,by simp,by simp,by simp,by simp,SD.start hm hA hB,PI.refl,Qk.start hL hab0,by omega⟩ (λr t m' K hr hI hK=>?_)
  obtain⟨t0,a,b,lim,wb,wp,l1,t1,t2,t3,t8,t9,h1,p1,q1,hmea⟩:=hI
  have hlen1:=p1.len
  have hab:=q1.ab
  have haa:=q1.aa
  have hbb:=q1.bb
  have wL:IntKind.i64.wrap ((b:Int)-(a:Int))=((b-a:Nat):Int):=qD (by omega) (by omega)
  obtain⟨L,hL'⟩:=qh2 (b-a)
  rw[<-hL']at wL
  by_cases h12:L<=12
  .have d1:((L:Int)<=12)=True:=eq_true (by omega)
   have d1':(L<=12)=True:=eq_true h12
   obtain⟨v2,m2,e1,e2,l2,e3,e4,e5⟩:=qaz (n+k+1+3) h1.mb h1.arr h1.lt (c:=c) (N:=N) (by omega) hab (by omega) hNN
   have e1:X.f 107 [dV B c N,iv a,iv b] m'=some (v2,m2):=by rw[hX];exact e1
   simp[t0,t1,t2,t3,t8,t9,wL,d1,d1',e1]
   exact zp (kD (h1.callM e2 e3) (p1.trans (e4.mono haa hbb)) ((q1.pi e4).done e5))
  have d1:((L:Int)<=12)=False:=eq_false (by omega)
  have d1':(L<=12)=False:=eq_false h12
  by_cases hl0:lim=0
  .obtain⟨v2,m2,e1,e2,l2,e3,e4,e5⟩:=qdx (n+k+1+2) h1.mb h1.arr h1.lt (c:=c) (N:=N) (a:=a) (b:=b) (by omega) (by omega) (by omega) hNN
   have e1:X.f 108 [dV B c N,iv a,iv b] m'=some (v2,m2):=by rw[hX];exact e1
   rw[hl0]at t3
   simp[t0,t1,t2,t3,t8,t9,wL,d1,d1',e1]
   exact zp (kD (h1.callM e2 e3) (p1.trans (e4.mono haa hbb)) ((q1.pi e4).done e5))
  simp[-Ge,t0,t1,t2,t3,t8,t9,wL,d1,d1',hl0]
  refine xw (c:=Vp) rfl (FSo qP m B a0 b0 l0 λ_ l'=>Srt ltN a0 b0 l') (λt m'=>Tm.get 0 t=dV B c N/\Tm.get 1 t=iv a/\Tm.get 2 t=iv b/\Tm.get 8 t=.bool wb/\Tm.get 9 t=.bool wp/\Tm.get 10 t=iv L/\∃(lim:Int) (l:List Nat),Tm.get 3 t=iv lim/\SD m m' B qP l/\PI a0 b0 l0 l/\Qk ltN a0 b0 a b l) (λkn hkn=>?_) (λt m' hP=>?_)
  .cases wb with
   | true =>
    simp[t0,t1,t2,t3,t8,t9]
    exact hkn _ _ ⟨by simp[t0],by simp[t1],by simp[t2],by simp[t8],by simp[t9],by simp,lim,l1,by simp[t3],h1,p1,q1⟩
   | false =>
    obtain⟨v2,m2,e1,e2,l2,e3,e4,-⟩:=brkO_c (n+k+2+0) h1.mb h1.arr h1.lt (c:=c) (N:=N) (a:=a) (b:=b) (by omega) (by omega) (by omega) hNN
    have e1:X.f 109 [dV B c N,iv a,iv b] m'=some (v2,m2):=by rw[hX];rw[show n+k+2+0+5=n+(k+1)+6 by omega]at e1;exact e1
    simp[t0,t1,t2,t3,t8,t9,e1]
    exact hkn _ _ ⟨by simp[t0],by simp[t1],by simp[t2],by simp[t8],by simp[t9],by simp,IntKind.i64.wrap (lim-1),l2,by simp,h1.callM e2 e3,p1.trans (e4.mono haa hbb),q1.pi e4⟩
  obtain⟨t0,t1,t2,t8,t9,t10,lim,l1,t3,h1,p1,q1⟩:=hP
  have hlen1:=p1.len
  obtain⟨v2,m2,e1,e2,pv,hh,rfl,e3,e4⟩:=pivO_c (n+k+1) h1.mb h1.arr h1.lt (c:=c) (N:=N) (a:=a) (b:=b) (by omega) (by omega) (by omega) hNN
  have e1:X.f 110 [dV B c N,iv a,iv b] m'=some (.tuple #[iv pv,iv hh],m2):=by rw[hX];exact e1
  have h2:=h1.callE e2
  simp[-Gd,t0,t1,t2,t3,t8,t9,t10,e1]
  refine xw (c:=Vo) rfl (FSo qP m B a0 b0 l0 λ_ l'=>Srt ltN a0 b0 l') (λt m'=>Tm.get 0 t=dV B c N/\Tm.get 1 t=iv a/\Tm.get 2 t=iv b/\Tm.get 8 t=.bool wb/\Tm.get 9 t=.bool wp/\Tm.get 10 t=iv L/\Tm.get 3 t=iv lim/\∃(pv:Nat) (hh:Int) (l:List Nat),Tm.get 11 t=iv pv/\Tm.get 12 t=iv hh/\a<=pv/\pv<b/\SD m m' B qP l/\PI a0 b0 l0 l/\Qk ltN a0 b0 a b l) (λkn hkn=>?_) (λt m' hP=>?_)
  .by_cases hh2:hh=2
   .obtain⟨v3,m3,f1,f2,l3,f3,f4,-⟩:=revO_c (n+(k+1)+5) h2.mb h2.arr h2.lt (c:=c) (N:=N) (a:=a) (b:=b) (by omega) (by omega) (by omega) hNN
    have f1:X.f 111 [dV B c N,iv a,iv b] m2=some (v3,m3):=by rw[hX];exact f1
    have w1:=qL (j:=b) (by omega) (by omega)
    have w2:IntKind.i64.wrap ((pv:Int)-(a:Int))=((pv-a:Nat):Int):=qD (by omega) (by omega)
    obtain⟨b1,hb1⟩:=qh2 (b-1)
    obtain⟨pa,hpa⟩:=qh2 (pv-a)
    rw[<-hb1]at w1
    rw[<-hpa]at w2
    have w3:IntKind.i64.wrap ((b1:Int)-(pa:Int))=((b1-pa:Nat):Int):=qD (by omega) (by omega)
    obtain⟨pv',hpv'⟩:=qh2 (b1-pa)
    rw[<-hpv']at w3
    simp[t0,t1,t2,t3,t8,t9,t10,hh2,f1,w1,w2,w3]
    exact hkn _ _ ⟨by simp[t0],by simp[t1],by simp[t2],by simp[t8],by simp[t9],by simp[t10],by simp[t3],pv',1,l3,by simp,by simp,by omega,by omega,h2.callM f2 f3,p1.trans (f4.mono haa hbb),q1.pi f4⟩
   .simp[t0,t1,t2,t3,t8,t9,t10,hh2]
    exact hkn _ _ ⟨by simp[t0],by simp[t1],by simp[t2],by simp[t8],by simp[t9],by simp[t10],by simp[t3],pv,hh,l1,by simp,by simp,e3,e4,h2,p1,q1⟩
  obtain⟨t0,t1,t2,t8,t9,t10,t3,pv,hh,l1,t11,t12,hap,hpb,h1,p1,q1⟩:=hP
  have hlen1:=p1.len
  refine xw (c:=DF) rfl (FSo qP m B a0 b0 l0 λ_ l'=>Srt ltN a0 b0 l') (λt m'=>Tm.get 0 t=dV B c N/\Tm.get 1 t=iv a/\Tm.get 2 t=iv b/\Tm.get 8 t=.bool wb/\Tm.get 9 t=.bool wp/\Tm.get 10 t=iv L/\Tm.get 3 t=iv lim/\Tm.get 11 t=iv pv/\∃l:List Nat,SD m m' B qP l/\PI a0 b0 l0 l/\Qk ltN a0 b0 a b l) (λkn hkn=>?_) (λt m' hP=>?_)
  .have skip:∀t m',(Tm.get 0 t=dV B c N/\Tm.get 1 t=iv a/\Tm.get 2 t=iv b/\Tm.get 8 t=.bool wb/\Tm.get 9 t=.bool wp/\Tm.get 10 t=iv L/\Tm.get 3 t=iv lim/\Tm.get 11 t=iv pv)->SD m m' B qP l1->FSo qP m B a0 b0 l0 (λ_ l'=>Srt ltN a0 b0 l') (kn t m'):=λt m' ⟨g0,g1,g2,g8,g9,g10,g3,g11⟩ h=>hkn t m' ⟨g0,g1,g2,g8,g9,g10,g3,g11,l1,h,p1,q1⟩
   cases wb with
   | false =>
    simp[t0,t1,t2,t3,t8,t9,t10,t11,t12]
    exact skip _ _ ⟨by simp[t0],by simp[t1],by simp[t2],by simp[t8],by simp[t9],by simp[t10],by simp[t3],by simp[t11]⟩ h1
   | true =>
    cases wp with
    | false =>
     simp[t0,t1,t2,t3,t8,t9,t10,t11,t12]
     exact skip _ _ ⟨by simp[t0],by simp[t1],by simp[t2],by simp[t8],by simp[t9],by simp[t10],by simp[t3],by simp[t11]⟩ h1
    | true =>
     by_cases hh1:hh=1
     .obtain⟨v3,m3,f1,f2,l3,f3,f4,bb,rfl,f5⟩:=qes (n+k+1+3) h1.mb h1.arr h1.lt (c:=c) (N:=N) (a:=a) (b:=b) (by omega) (by omega) (by omega) hNN q1.low
      have f1:X.f 112 [dV B c N,iv a,iv b] m'=some (.bool bb,m3):=by rw[hX];exact f1
      cases bb with
      | true =>
       simp[t0,t1,t2,t3,t8,t9,t10,t11,t12,hh1,f1]
       exact zp (kD (h1.callM f2 f3) (p1.trans (f4.mono haa hbb)) ((q1.pi f4).done (f5 rfl)))
      | false =>
       simp[t0,t1,t2,t3,t8,t9,t10,t11,t12,hh1,f1]
       exact hkn _ _ ⟨by simp[t0],by simp[t1],by simp[t2],by simp[t8],by simp[t9],by simp[t10],by simp[t3],by simp[t11],l3,h1.callM f2 f3,p1.trans (f4.mono haa hbb),q1.pi f4⟩
     .simp[t0,t1,t2,t3,t8,t9,t10,t11,t12,hh1]
      exact skip _ _ ⟨by simp[t0],by simp[t1],by simp[t2],by simp[t8],by simp[t9],by simp[t10],by simp[t3],by simp[t11]⟩ h1
  obtain⟨t0,t1,t2,t8,t9,t10,t3,t11,l1,h1,p1,q1⟩:=hP
  have hlen1:=p1.len
  obtain⟨pp,hpp⟩:∃pp,l1[pv]?=some pp:=⟨_,qgd (by omega)⟩
  refine xw (c:=DE) rfl (FSo qP m B a0 b0 l0 λ_ l'=>Srt ltN a0 b0 l') (λt m'=>Tm.get 0 t=dV B c N/\Tm.get 1 t=iv a/\Tm.get 2 t=iv b/\Tm.get 8 t=.bool wb/\Tm.get 9 t=.bool wp/\Tm.get 10 t=iv L/\Tm.get 3 t=iv lim/\Tm.get 11 t=iv pv/\SD m m' B qP l1) (λkn hkn=>?_) (λt m' hP=>?_)
  .by_cases ha0:0<a
   .have d2:((0:Int)<(a:Int))=True:=eq_true (by omega)
    have d2':(0<a)=True:=eq_true ha0
    have w1:=qL (j:=a) (by omega) (by omega)
    obtain⟨a1,ha1⟩:=qh2 (a-1)
    rw[<-ha1]at w1
    obtain⟨u,hu⟩:∃u,l1[a1]?=some u:=⟨_,qgd (by omega)⟩
    have i1:=wx (e:=1) (c:=c) B N (a1) (by omega)
    rw[Nat.mul_one]at i1
    have i2:=wx (e:=1) (c:=c) B N (pv) (by omega)
    rw[Nat.mul_one]at i2
    have e1:load1 m' ⟨B,a1,none⟩=some (iv u):=qO elI h1 hu none
    have e2:load1 m' ⟨B,pv,none⟩=some (iv pp):=qO elI h1 hpp none
    obtain⟨v5,m5,b51,b50,b52,rfl⟩:=qm (jX (n+k+5) (qg m') u pp)
    have b51:X.f 113 [iv u,iv pp] (qg m')=some (.bool (ltN u pp),m5):=by rw[hX];exact b51
    have h5:=h1.callE b52
    obtain⟨M5,hM5⟩:=qh2 (Dx.behind m' m5)
    rw[<-hM5]at b52 h5
    cases hc:ltN u pp with
    | true =>
     rw[hc]at b51
     simp[t0,t1,t2,t3,t8,t9,t10,t11,d2,d2',w1,i1,i2,e1,e2,b51,b50,<-hM5]
     exact hkn _ _ ⟨by simp[t0],by simp[t1],by simp[t2],by simp[t8],by simp[t9],by simp[t10],by simp[t3],by simp[t11],h5⟩
    | false =>
     rw[hc]at b51
     obtain⟨v3,m3,f1,f2,l3,f3,f4,i,j,rfl,f5,f6⟩:=qeo (n+k+1+3) h5.mb h5.arr h5.lt (c:=c) (N:=N) (a:=a) (b:=b) (by omega) hap hpb (by omega) hNN hpp
     have f1:X.f 114 [dV B c N,iv a,iv b,iv pv] M5=some (iv i,m3):=by rw[hX];exact f1
     have hp6:=f6.ai
     have hq3:=q1.pi f4
     have hq4:Qk ltN a0 b0 i b l3:=hq3.equal toN f6 f5 λz x z1 z2 hx=>by
      obtain⟨z',g1,g2,g3⟩:=f4.mem ⟨z1,z2⟩ hx
      have:=q1.low a1 z' u x (by omega) g1 g2 hu g3
      exact (toN).tr pp u x hc this
     simp[GJ,t0,t1,t2,t3,t8,t9,t10,t11,d2,d2',w1,i1,i2,e1,e2,b51,b50,<-hM5,f1]
     exact hK (by omega) _ _ ⟨by simp[t0],i,b,lim,wb,wp,l3,by simp,by simp[t2],by simp[t3],by simp[t8],by simp[t9],h5.callM f2 f3,p1.trans (f4.mono haa hbb),hq4,by have:=hq4.ab;omega⟩
   .have d2:((0:Int)<(a:Int))=False:=eq_false (by omega)
    have d2':(0<a)=False:=eq_false ha0
    have a00:a=0:=by omega
    have d3:(a=0)=True:=eq_true a00
    simp[t0,t1,t2,t3,t8,t9,t10,t11,d2,d2',d3]
    exact hkn _ _ ⟨by simp[t0],by simp[t1],by simp[t2],by simp[t8],by simp[t9],by simp[t10],by simp[t3],by simp[t11],h1⟩
  obtain⟨t0,t1,t2,t8,t9,t10,t3,t11,h1⟩:=hP
  obtain⟨v2,m2,e1,e2,l2,e3,e4,mid,bb,p,rfl,hcut⟩:=qeq (n+k+1+3) h1.mb h1.arr h1.lt (c:=c) (N:=N) (a:=a) (b:=b) (by omega) hap hpb (by omega) hNN
  have e1:X.f 115 [dV B c N,iv a,iv b,iv pv] m'=some (.tuple #[iv mid,.bool bb],m2):=by rw[hX];exact e1
  have h2:=h1.callM e2 e3
  have p2:=p1.trans (e4.mono haa hbb)
  have q2:=q1.pi e4
  have hlen2:=p2.len
  have ham:=hcut.am
  have hmb:=hcut.mb
  have w1:IntKind.i64.wrap ((mid:Int)-(a:Int))=((mid-a:Nat):Int):=qD (by omega) (by omega)
  have w2:IntKind.i64.wrap ((b:Int)-(mid:Int))=((b-mid:Nat):Int):=qD (by omega) (by omega)
  obtain⟨lf,hlf⟩:=qh2 (mid-a)
  obtain⟨rt,hrt⟩:=qh2 (b-mid)
  rw[<-hlf]at w1
  rw[<-hrt]at w2
  have w3:ky .quo (.int .i64 (L:Int)) (.int .i64 8)=some (iv ((L/8:Nat):Int)):=xy (a:=L) (b:=8) (by omega) (by omega)
  obtain⟨L8,hL8⟩:=qh2 (L/8)
  rw[<-hL8]at w3
  have w4:=qY (i:=mid) (by omega)
  obtain⟨mid1,hmid1⟩:=qh2 (mid+1)
  rw[<-hmid1]at w4
  have hpow:(2:Nat)^(k+1)=2*2^k:=by rw[Nat.pow_succ,Nat.mul_comm]
  by_cases hlr:lf<rt
  .have d2:((lf:Int)<(rt:Int))=True:=eq_true (by omega)
   have d2':(lf<rt)=True:=eq_true hlr
   obtain⟨v3,m3,f1,f2,l3,f3,f4,f5⟩:=ih h2.mb (c:=c) (N:=N) (a:=a) (b:=mid) (lim:=lim) h2.arr h2.lt (by omega) ham (by omega) hNN (by omega) (λx y u v g1 g2 g3 hu hv=>q2.low x y u v g1 g2 (by omega) hu hv)
   have f1:X.f 98 [dV B c N,iv a,iv mid,iv lim] m2=some (v3,m3):=by rw[hX'];exact f1
   have q3:=((q2.pi (f4.mono (qgg _) (by omega))).right toN (hcut.pi_left f4) f5)
   simp[t0,t1,t2,t3,t8,t9,t10,t11,e1,w1,w2,w3,d2,d2',f1,w4]
   exact hK (by omega) _ _ ⟨by simp[t0],mid+1,b,lim,decide (L8<=lf),bb,l3,by simp;omega,by simp[t2],by simp[t3],by simp,by simp,h2.callM f2 f3,p2.trans (f4.mono haa (by omega)),q3,by omega⟩
  .have d2:((lf:Int)<(rt:Int))=False:=eq_false (by omega)
   have d2':(lf<rt)=False:=eq_false hlr
   obtain⟨v3,m3,f1,f2,l3,f3,f4,f5⟩:=ih h2.mb (c:=c) (N:=N) (a:=mid1) (b:=b) (lim:=lim) h2.arr h2.lt (by omega) (by omega) (by omega) hNN (by omega) (by
    intro x y u v g1 g2 g3 hu hv
    by_cases hxa:x<a
    .exact q2.low x y u v hxa (by omega) g3 hu hv
    .have hup:ltN p u=false:=by
      by_cases hxm:x=mid
      .subst hxm;rw[hcut.piv]at hu;cases hu;exact (toN).irr _
      .exact (toN).asy _ _ (hcut.below x u (by omega) (by omega) hu)
     exact (toN).tr u p v hup (hcut.above y v (by omega) g3 hv))
   have f1:X.f 98 [dV B c N,iv mid1,iv b,iv lim] m2=some (v3,m3):=by rw[hX'];exact f1
   rw[hmid1]at f4 f5
   have q3:=((q2.pi (f4.mono (by omega) (qgg _))).left toN (hcut.pi_right f4) f5)
   simp[t0,t1,t2,t3,t8,t9,t10,t11,e1,w1,w2,w3,d2,d2',f1,w4]
   exact hK (by omega) _ _ ⟨by simp[t0],a,mid,lim,decide (L8<=rt),bb,l3,by simp[t1],by simp,by simp[t3],by simp,by simp,h2.callM f2 f3,p2.trans (f4.mono (by omega) hbb),q3,by omega⟩
end Go.Sx
namespace Go.Sx
open Go.Dx Go.Proofs
set_option maxRecDepth 10000
theorem pdqP_c (n:Nat):∀(k:Nat) {m:M} (hm:m.base<=m.n) {B c N a b:Nat} {lim:Int} {l:List (Nat × Nat)} (hA:Arr m B (l.flatMap qf)) (hB:B<m.n) (hN:l.length=N) (hab:a<=b) (hbN:b<=N) (hNN:N<=1000000) (hk:b-a<2^k) (hL:Lo ltP a b l),
  MuC (ex Tryz.prog (n+k+8)) 66 [dV B c N,iv a,iv b,iv lim,fnC] m B (SoQ qf B a b l λ_ l'=>Srt ltP a b l'):=by
 intro k
 induction k with
 | zero =>
  intro m hm B c N a b lim l hA hB hN hab hbN hNN hk hL
  refine qA (Q:=λv m'=>Mc m m' [B]/\SoQ qf B a b l (λ_ l'=>Srt ltP a b l') v m') Vt (by simp) ?_
  obtain rfl:b=a:=by omega
  simp
  refine qF (c:=Zw) rfl (FSo qf m B b b l λ_ l'=>Srt ltP b b l') (λr t m'=>Tm.get 4 t=fnC/\Tm.get 0 t=dV B c N/\Tm.get 1 t=iv b/\Tm.get 2 t=iv b/\m'=m) 0 (by omega) ⟨by simp,by simp,by simp,by simp,rfl⟩ (λr t m' K hr hI hK=>?_)
  obtain⟨tc,t0,t1,t2,he⟩:=hI
  rw[he]
  obtain⟨v1,m1,a1,a2,l1,a3,a4,a5⟩:=qb0 (n+3) hm (c:=c) hA hB hN (qgg b) hbN hNN
  have a1:(ex Tryz.prog (n+0+7)).f 88 [dV B c N,iv b,iv b,fnC] m=some (v1,m1):=a1
  have w0:IntKind.i64.wrap 0=0:=wrap64 _ (by omega) (by omega)
  simp[tc,t0,t1,t2,w0,a1]
  exact zp ⟨a2,l1,a3,a4,a5⟩
 | succ k ih =>
  intro m hm B c N a0 b0 lim0 l0 hA hB hN hab0 hbN hNN hk0 hL
  refine qA (Q:=λv m'=>Mc m m' [B]/\SoQ qf B a0 b0 l0 (λ_ l'=>Srt ltP a0 b0 l') v m') Vt (by simp) ?_
  obtain⟨X,hX⟩:=qh2 (ex Tryz.prog (n+(k+1)+7))
  have hX':X=ex Tryz.prog (n+k+8):=by rw[hX,show n+(k+1)+7=n+k+8 by omega]
  rw[<-hX]
  simp
  refine qF (c:=Zw) rfl (FSo qf m B a0 b0 l0 λ_ l'=>Srt ltP a0 b0 l') (λr t m'=>Tm.get 4 t=fnC/\Tm.get 0 t=dV B c N/\∃(a b:Nat) (lim:Int) (wb wp:Bool) (l:List (Nat × Nat)),Tm.get 1 t=iv a/\Tm.get 2 t=iv b/\Tm.get 3 t=iv lim/\Tm.get 10 t=.bool wb/\Tm.get 11 t=.bool wp/\SD m m' B qf l/\PI a0 b0 l0 l/\Qk ltP a0 b0 a b l/\(b-a)+r<=b0-a0) (b0-a0) (by omega)
   ⟨by simp,by simp,a0,b0,lim0,true,true,l0,by simp,by simp,by simp,by simp,by simp,SD.start hm hA hB,PI.refl,Qk.start hL hab0,by omega⟩ (λr t m' K hr hI hK=>?_)
  obtain⟨tc,t0,a,b,lim,wb,wp,l1,t1,t2,t3,t8,t9,h1,p1,q1,hmea⟩:=hI
  have hlen1:=p1.len
  have hab:=q1.ab
  have haa:=q1.aa
  have hbb:=q1.bb
  have wL:IntKind.i64.wrap ((b:Int)-(a:Int))=((b-a:Nat):Int):=qD (by omega) (by omega)
  obtain⟨L,hL'⟩:=qh2 (b-a)
  rw[<-hL']at wL
  by_cases h12:L<=12
  .have d1:((L:Int)<=12)=True:=eq_true (by omega)
   have d1':(L<=12)=True:=eq_true h12
   obtain⟨v2,m2,e1,e2,l2,e3,e4,e5⟩:=qb0 (n+k+1+3) h1.mb h1.arr h1.lt (c:=c) (N:=N) (by omega) hab (by omega) hNN
   have e1:X.f 88 [dV B c N,iv a,iv b,fnC] m'=some (v2,m2):=by rw[hX];exact e1
   simp[tc,t0,t1,t2,t3,t8,t9,wL,d1,d1',e1]
   exact zp (kD (h1.callM e2 e3) (p1.trans (e4.mono haa hbb)) ((q1.pi e4).done e5))
  have d1:((L:Int)<=12)=False:=eq_false (by omega)
  have d1':(L<=12)=False:=eq_false h12
  by_cases hl0:lim=0
  .obtain⟨v2,m2,e1,e2,l2,e3,e4,e5⟩:=qdy (n+k+1+2) h1.mb h1.arr h1.lt (c:=c) (N:=N) (a:=a) (b:=b) (by omega) (by omega) (by omega) hNN
   have e1:X.f 89 [dV B c N,iv a,iv b,fnC] m'=some (v2,m2):=by rw[hX];exact e1
   rw[hl0]at t3
   simp[tc,t0,t1,t2,t3,t8,t9,wL,d1,d1',e1]
   exact zp (kD (h1.callM e2 e3) (p1.trans (e4.mono haa hbb)) ((q1.pi e4).done e5))
  simp[-Gb,tc,t0,t1,t2,t3,t8,t9,wL,d1,d1',hl0]
  refine xw (c:=Vl) rfl (FSo qf m B a0 b0 l0 λ_ l'=>Srt ltP a0 b0 l') (λt m'=>Tm.get 4 t=fnC/\Tm.get 0 t=dV B c N/\Tm.get 1 t=iv a/\Tm.get 2 t=iv b/\Tm.get 10 t=.bool wb/\Tm.get 11 t=.bool wp/\Tm.get 12 t=iv L/\∃(lim:Int) (l:List (Nat × Nat)),Tm.get 3 t=iv lim/\SD m m' B qf l/\PI a0 b0 l0 l/\Qk ltP a0 b0 a b l) (λkn hkn=>?_) (λt m' hP=>?_)
  .cases wb with
   | true =>
    simp[tc,t0,t1,t2,t3,t8,t9]
    exact hkn _ _ ⟨by simp[tc],by simp[t0],by simp[t1],by simp[t2],by simp[t8],by simp[t9],by simp,lim,l1,by simp[t3],h1,p1,q1⟩
   | false =>
    obtain⟨v2,m2,e1,e2,l2,e3,e4,-⟩:=brkP_c (n+k+2+1) h1.mb h1.arr h1.lt (c:=c) (N:=N) (a:=a) (b:=b) (by omega) (by omega) (by omega) hNN
    have e1:X.f 90 [dV B c N,iv a,iv b,fnC] m'=some (v2,m2):=by rw[hX];rw[show n+k+2+1+5=n+(k+1)+7 by omega]at e1;exact e1
    simp[tc,t0,t1,t2,t3,t8,t9,e1]
    exact hkn _ _ ⟨by simp[tc],by simp[t0],by simp[t1],by simp[t2],by simp[t8],by simp[t9],by simp,IntKind.i64.wrap (lim-1),l2,by simp,h1.callM e2 e3,p1.trans (e4.mono haa hbb),q1.pi e4⟩
  obtain⟨tc,t0,t1,t2,t8,t9,t10,lim,l1,t3,h1,p1,q1⟩:=hP
  have hlen1:=p1.len
  obtain⟨v2,m2,e1,e2,pv,hh,rfl,e3,e4⟩:=pivP_c (n+k+1) h1.mb h1.arr h1.lt (c:=c) (N:=N) (a:=a) (b:=b) (by omega) (by omega) (by omega) hNN
  have e1:X.f 91 [dV B c N,iv a,iv b,fnC] m'=some (.tuple #[iv pv,iv hh],m2):=by rw[hX];exact e1
  have h2:=h1.callE e2
  simp[-Ga,tc,t0,t1,t2,t3,t8,t9,t10,e1]
  refine xw (c:=Vk) rfl (FSo qf m B a0 b0 l0 λ_ l'=>Srt ltP a0 b0 l') (λt m'=>Tm.get 4 t=fnC/\Tm.get 0 t=dV B c N/\Tm.get 1 t=iv a/\Tm.get 2 t=iv b/\Tm.get 10 t=.bool wb/\Tm.get 11 t=.bool wp/\Tm.get 12 t=iv L/\Tm.get 3 t=iv lim/\∃(pv:Nat) (hh:Int) (l:List (Nat × Nat)),Tm.get 13 t=iv pv/\Tm.get 14 t=iv hh/\a<=pv/\pv<b/\SD m m' B qf l/\PI a0 b0 l0 l/\Qk ltP a0 b0 a b l) (λkn hkn=>?_) (λt m' hP=>?_)
  .by_cases hh2:hh=2
   .obtain⟨v3,m3,f1,f2,l3,f3,f4,-⟩:=revP_c (n+(k+1)+6) h2.mb h2.arr h2.lt (c:=c) (N:=N) (a:=a) (b:=b) (by omega) (by omega) (by omega) hNN
    have f1:X.f 92 [dV B c N,iv a,iv b,fnC] m2=some (v3,m3):=by rw[hX];exact f1
    have w1:=qL (j:=b) (by omega) (by omega)
    have w2:IntKind.i64.wrap ((pv:Int)-(a:Int))=((pv-a:Nat):Int):=qD (by omega) (by omega)
    obtain⟨b1,hb1⟩:=qh2 (b-1)
    obtain⟨pa,hpa⟩:=qh2 (pv-a)
    rw[<-hb1]at w1
    rw[<-hpa]at w2
    have w3:IntKind.i64.wrap ((b1:Int)-(pa:Int))=((b1-pa:Nat):Int):=qD (by omega) (by omega)
    obtain⟨pv',hpv'⟩:=qh2 (b1-pa)
    rw[<-hpv']at w3
    simp[tc,t0,t1,t2,t3,t8,t9,t10,hh2,f1,w1,w2,w3]
    exact hkn _ _ ⟨by simp[tc],by simp[t0],by simp[t1],by simp[t2],by simp[t8],by simp[t9],by simp[t10],by simp[t3],pv',1,l3,by simp,by simp,by omega,by omega,h2.callM f2 f3,p1.trans (f4.mono haa hbb),q1.pi f4⟩
   .simp[tc,t0,t1,t2,t3,t8,t9,t10,hh2]
    exact hkn _ _ ⟨by simp[tc],by simp[t0],by simp[t1],by simp[t2],by simp[t8],by simp[t9],by simp[t10],by simp[t3],pv,hh,l1,by simp,by simp,e3,e4,h2,p1,q1⟩
  obtain⟨tc,t0,t1,t2,t8,t9,t10,t3,pv,hh,l1,t11,t12,hap,hpb,h1,p1,q1⟩:=hP
  have hlen1:=p1.len
  refine xw (c:=Dm) rfl (FSo qf m B a0 b0 l0 λ_ l'=>Srt ltP a0 b0 l') (λt m'=>Tm.get 4 t=fnC/\Tm.get 0 t=dV B c N/\Tm.get 1 t=iv a/\Tm.get 2 t=iv b/\Tm.get 10 t=.bool wb/\Tm.get 11 t=.bool wp/\Tm.get 12 t=iv L/\Tm.get 3 t=iv lim/\Tm.get 13 t=iv pv/\∃l:List (Nat × Nat),SD m m' B qf l/\PI a0 b0 l0 l/\Qk ltP a0 b0 a b l) (λkn hkn=>?_) (λt m' hP=>?_)
  .have skip:∀t m',(Tm.get 4 t=fnC/\Tm.get 0 t=dV B c N/\Tm.get 1 t=iv a/\Tm.get 2 t=iv b/\Tm.get 10 t=.bool wb/\Tm.get 11 t=.bool wp/\Tm.get 12 t=iv L/\Tm.get 3 t=iv lim/\Tm.get 13 t=iv pv)->SD m m' B qf l1->FSo qf m B a0 b0 l0 (λ_ l'=>Srt ltP a0 b0 l') (kn t m'):=λt m' ⟨tc,g0,g1,g2,g8,g9,g10,g3,g11⟩ h=>hkn t m' ⟨tc,g0,g1,g2,g8,g9,g10,g3,g11,l1,h,p1,q1⟩
   cases wb with
   | false =>
    simp[tc,t0,t1,t2,t3,t8,t9,t10,t11,t12]
    exact skip _ _ ⟨by simp[tc],by simp[t0],by simp[t1],by simp[t2],by simp[t8],by simp[t9],by simp[t10],by simp[t3],by simp[t11]⟩ h1
   | true =>
    cases wp with
    | false =>
     simp[tc,t0,t1,t2,t3,t8,t9,t10,t11,t12]
     exact skip _ _ ⟨by simp[tc],by simp[t0],by simp[t1],by simp[t2],by simp[t8],by simp[t9],by simp[t10],by simp[t3],by simp[t11]⟩ h1
    | true =>
     by_cases hh1:hh=1
     .obtain⟨v3,m3,f1,f2,l3,f3,f4,bb,rfl,f5⟩:=qet (n+k+1+3) h1.mb h1.arr h1.lt (c:=c) (N:=N) (a:=a) (b:=b) (by omega) (by omega) (by omega) hNN q1.low
      have f1:X.f 93 [dV B c N,iv a,iv b,fnC] m'=some (.bool bb,m3):=by rw[hX];exact f1
      cases bb with
      | true =>
       simp[tc,t0,t1,t2,t3,t8,t9,t10,t11,t12,hh1,f1]
       exact zp (kD (h1.callM f2 f3) (p1.trans (f4.mono haa hbb)) ((q1.pi f4).done (f5 rfl)))
      | false =>
       simp[tc,t0,t1,t2,t3,t8,t9,t10,t11,t12,hh1,f1]
       exact hkn _ _ ⟨by simp[tc],by simp[t0],by simp[t1],by simp[t2],by simp[t8],by simp[t9],by simp[t10],by simp[t3],by simp[t11],l3,h1.callM f2 f3,p1.trans (f4.mono haa hbb),q1.pi f4⟩
     .simp[tc,t0,t1,t2,t3,t8,t9,t10,t11,t12,hh1]
      exact skip _ _ ⟨by simp[tc],by simp[t0],by simp[t1],by simp[t2],by simp[t8],by simp[t9],by simp[t10],by simp[t3],by simp[t11]⟩ h1
  obtain⟨tc,t0,t1,t2,t8,t9,t10,t3,t11,l1,h1,p1,q1⟩:=hP
  have hlen1:=p1.len
  obtain⟨pp,hpp⟩:∃pp,l1[pv]?=some pp:=⟨_,qgd (by omega)⟩
  refine xw (c:=Dl) rfl (FSo qf m B a0 b0 l0 λ_ l'=>Srt ltP a0 b0 l') (λt m'=>Tm.get 4 t=fnC/\Tm.get 0 t=dV B c N/\Tm.get 1 t=iv a/\Tm.get 2 t=iv b/\Tm.get 10 t=.bool wb/\Tm.get 11 t=.bool wp/\Tm.get 12 t=iv L/\Tm.get 3 t=iv lim/\Tm.get 13 t=iv pv/\SD m m' B qf l1) (λkn hkn=>?_) (λt m' hP=>?_)
  .by_cases ha0:0<a
   .have d2:((0:Int)<(a:Int))=True:=eq_true (by omega)
    have d2':(0<a)=True:=eq_true ha0
    have w1:=qL (j:=a) (by omega) (by omega)
    obtain⟨a1,ha1⟩:=qh2 (a-1)
    rw[<-ha1]at w1
    obtain⟨u,hu⟩:∃u,l1[a1]?=some u:=⟨_,qgd (by omega)⟩
    have i1:=wx (e:=2) (c:=c) B N (a1) (by omega)
    have i2:=wx (e:=2) (c:=c) B N (pv) (by omega)
    have e1:loads m' ⟨B,a1*2,none⟩ 2=some (qf u):=wJ elP h1 hu none
    have e2:loads m' ⟨B,pv*2,none⟩ 2=some (qf pp):=wJ elP h1 hpp none
    obtain⟨v5,m5,b51,b50,b52,c5,rfl,q5⟩:=qm (jT (n+k+5) (qg m') u pp)
    have b51:X.f 46 [.agg ⟨qf u⟩,.agg ⟨qf pp⟩] (qg m')=some (iv c5,m5):=by rw[hX];exact b51
    have h5:=h1.callE b52
    obtain⟨M5,hM5⟩:=qh2 (Dx.behind m' m5)
    rw[<-hM5]at b52 h5
    cases hc:ltP u pp with
    | true =>
     have e5:(c5<0)=True:=eq_true (q5.2 hc)
     simp[tc,t0,t1,t2,t3,t8,t9,t10,t11,d2,d2',w1,i1,i2,e1,e2,b51,b50,e5,qd,<-hM5]
     exact hkn _ _ ⟨by simp[tc],by simp[t0],by simp[t1],by simp[t2],by simp[t8],by simp[t9],by simp[t10],by simp[t3],by simp[t11],h5⟩
    | false =>
     have e5:(c5<0)=False:=eq_false λh=>by rw[q5.1 h]at hc;cases hc
     obtain⟨v3,m3,f1,f2,l3,f3,f4,i,j,rfl,f5,f6⟩:=qep (n+k+1+3) h5.mb h5.arr h5.lt (c:=c) (N:=N) (a:=a) (b:=b) (by omega) hap hpb (by omega) hNN hpp
     have f1:X.f 94 [dV B c N,iv a,iv b,iv pv,fnC] M5=some (iv i,m3):=by rw[hX];exact f1
     have hp6:=f6.ai
     have hq3:=q1.pi f4
     have hq4:Qk ltP a0 b0 i b l3:=hq3.equal toP f6 f5 λz x z1 z2 hx=>by
      obtain⟨z',g1,g2,g3⟩:=f4.mem ⟨z1,z2⟩ hx
      have:=q1.low a1 z' u x (by omega) g1 g2 hu g3
      exact (toP).tr pp u x hc this
     simp[GJ,tc,t0,t1,t2,t3,t8,t9,t10,t11,d2,d2',w1,i1,i2,e1,e2,b51,b50,e5,qd,<-hM5,f1]
     exact hK (by omega) _ _ ⟨by simp[tc],by simp[t0],i,b,lim,wb,wp,l3,by simp,by simp[t2],by simp[t3],by simp[t8],by simp[t9],h5.callM f2 f3,p1.trans (f4.mono haa hbb),hq4,by have:=hq4.ab;omega⟩
   .have d2:((0:Int)<(a:Int))=False:=eq_false (by omega)
    have d2':(0<a)=False:=eq_false ha0
    have a00:a=0:=by omega
    have d3:(a=0)=True:=eq_true a00
    simp[tc,t0,t1,t2,t3,t8,t9,t10,t11,d2,d2',d3]
    exact hkn _ _ ⟨by simp[tc],by simp[t0],by simp[t1],by simp[t2],by simp[t8],by simp[t9],by simp[t10],by simp[t3],by simp[t11],h1⟩
  obtain⟨tc,t0,t1,t2,t8,t9,t10,t3,t11,h1⟩:=hP
  obtain⟨v2,m2,e1,e2,l2,e3,e4,mid,bb,p,rfl,hcut⟩:=qer (n+k+1+3) h1.mb h1.arr h1.lt (c:=c) (N:=N) (a:=a) (b:=b) (by omega) hap hpb (by omega) hNN
  have e1:X.f 95 [dV B c N,iv a,iv b,iv pv,fnC] m'=some (.tuple #[iv mid,.bool bb],m2):=by rw[hX];exact e1
  have h2:=h1.callM e2 e3
  have p2:=p1.trans (e4.mono haa hbb)
  have q2:=q1.pi e4
  have hlen2:=p2.len
  have ham:=hcut.am
  have hmb:=hcut.mb
  have w1:IntKind.i64.wrap ((mid:Int)-(a:Int))=((mid-a:Nat):Int):=qD (by omega) (by omega)
  have w2:IntKind.i64.wrap ((b:Int)-(mid:Int))=((b-mid:Nat):Int):=qD (by omega) (by omega)
  obtain⟨lf,hlf⟩:=qh2 (mid-a)
  obtain⟨rt,hrt⟩:=qh2 (b-mid)
  rw[<-hlf]at w1
  rw[<-hrt]at w2
  have w3:ky .quo (.int .i64 (L:Int)) (.int .i64 8)=some (iv ((L/8:Nat):Int)):=xy (a:=L) (b:=8) (by omega) (by omega)
  obtain⟨L8,hL8⟩:=qh2 (L/8)
  rw[<-hL8]at w3
  have w4:=qY (i:=mid) (by omega)
  obtain⟨mid1,hmid1⟩:=qh2 (mid+1)
  rw[<-hmid1]at w4
  have hpow:(2:Nat)^(k+1)=2*2^k:=by rw[Nat.pow_succ,Nat.mul_comm]
  by_cases hlr:lf<rt
  .have d2:((lf:Int)<(rt:Int))=True:=eq_true (by omega)
   have d2':(lf<rt)=True:=eq_true hlr
   obtain⟨v3,m3,f1,f2,l3,f3,f4,f5⟩:=ih h2.mb (c:=c) (N:=N) (a:=a) (b:=mid) (lim:=lim) h2.arr h2.lt (by omega) ham (by omega) hNN (by omega) (λx y u v g1 g2 g3 hu hv=>q2.low x y u v g1 g2 (by omega) hu hv)
   have f1:X.f 66 [dV B c N,iv a,iv mid,iv lim,fnC] m2=some (v3,m3):=by rw[hX'];exact f1
   have q3:=((q2.pi (f4.mono (qgg _) (by omega))).right toP (hcut.pi_left f4) f5)
   simp[tc,t0,t1,t2,t3,t8,t9,t10,t11,e1,w1,w2,w3,d2,d2',f1,w4]
   exact hK (by omega) _ _ ⟨by simp[tc],by simp[t0],mid+1,b,lim,decide (L8<=lf),bb,l3,by simp;omega,by simp[t2],by simp[t3],by simp,by simp,h2.callM f2 f3,p2.trans (f4.mono haa (by omega)),q3,by omega⟩
  .have d2:((lf:Int)<(rt:Int))=False:=eq_false (by omega)
   have d2':(lf<rt)=False:=eq_false hlr
   obtain⟨v3,m3,f1,f2,l3,f3,f4,f5⟩:=ih h2.mb (c:=c) (N:=N) (a:=mid1) (b:=b) (lim:=lim) h2.arr h2.lt (by omega) (by omega) (by omega) hNN (by omega) (by
    intro x y u v g1 g2 g3 hu hv
    by_cases hxa:x<a
    .exact q2.low x y u v hxa (by omega) g3 hu hv
    .have hup:ltP p u=false:=by
      by_cases hxm:x=mid
      .subst hxm;rw[hcut.piv]at hu;cases hu;exact (toP).irr _
      .exact (toP).asy _ _ (hcut.below x u (by omega) (by omega) hu)
     exact (toP).tr u p v hup (hcut.above y v (by omega) g3 hv))
   have f1:X.f 66 [dV B c N,iv mid1,iv b,iv lim,fnC] m2=some (v3,m3):=by rw[hX'];exact f1
   rw[hmid1]at f4 f5
   have q3:=((q2.pi (f4.mono (by omega) (qgg _))).left toP (hcut.pi_right f4) f5)
   simp[tc,t0,t1,t2,t3,t8,t9,t10,t11,e1,w1,w2,w3,d2,d2',f1,w4]
   exact hK (by omega) _ _ ⟨by simp[tc],by simp[t0],a,mid,lim,decide (L8<=rt),bb,l3,by simp[t1],by simp,by simp[t3],by simp,by simp,h2.callM f2 f3,p2.trans (f4.mono (by omega) hbb),q3,by omega⟩
end Go.Sx
namespace Go.Dx
theorem qcb (e:Nat)(x b:V)(t:Tm):xK e x none (some b) none t=slV e none (some (b t)) none (x t):=by
 unfold xK Jn slV
 cases x t with
 | slice a l c=>cases a<;>rfl
 | _=>rfl
theorem fh (e:Nat)(x a:V)(t:Tm):xK e x (some a) none none t=slV e (some (a t)) none none (x t):=by
 unfold xK Jn slV
 cases x t with
 | slice a l c=>cases a<;>rfl
 | _=>rfl
@[simp] theorem mClear_ap (zs:List Value) (s:V) (x:Ex) (t:Tm) (m:M):gD zs s x t m=Wg m zs (s t):=_root_.id rfl
theorem ble_t {a b:Nat}(h:a<=b):Nat.ble a b=true:=qgl h
theorem FG {B N k:Nat}(h:k<=N):slV 1 (some (.int .i64 (k:Int))) none none (dV B 2 N)=some (.slice (some ⟨B,k,some 2⟩) (N-k) (N-k)):=by
 have hb:fF N N (some (.int .i64 (k:Int))) none none=some (k,N,N):=by
  show ob (bif Nat.ble k N then some k else none) _=_
  rw[ble_t h];rfl
 have hcd:Nat.beq (2/2) 1=true:=rfl
 have hex:vH 2=false:=rfl
 unfold slV
 simp only[qN,hb,hcd,hex,Option.isSome_none,Bool.or_false]
 show some (Value.slice (some ⟨B,0+k*1,some 2⟩) (N-k) (N-k))=_
 rw[Nat.mul_one,Nat.zero_add]
theorem sl_to {B N k:Nat}(h:k<=N):slV 1 none (some (.int .i64 (k:Int))) none (dV B 2 N)=some (.slice (some ⟨B,0,some 2⟩) k N):=by
 have hb:fF N N none (some (.int .i64 (k:Int))) none=some (0,k,N):=by
  show ob (bif Nat.ble k N then some k else none) _=_
  rw[ble_t h];rfl
 have hcd:Nat.beq (2/2) 1=true:=rfl
 have hex:vH 2=false:=rfl
 unfold slV
 simp only[qN,hb,hcd,hex,Option.isSome_none,Bool.or_false]
 rfl
theorem idxO {e c:Nat}(B o n cap i:Nat)(h:i<n):jU e (.slice (some ⟨B,o,some c⟩) n cap) (.int .i64 i)=some (.pointer (some ⟨B,o+i*e,none⟩)):=by
 show (bif Nat.blt i n then gS (i*e) ⟨B,o,some c⟩ else none)=_
 rw[show Nat.blt i n=true from qgl h]
 rfl
section
variable {α:Type}{e:Nat}{f:α->List Value}{m0 m m':M}{B:Nat}{l:List α}{i:Nat}{x:α}
theorem qfa {g:α->Value}(E:El 1 (λx=>[g x]))(h:SD m0 m B (λx=>[g x]) l)(hi:i<l.length)(x:α):∃m',qB 1 (.pointer (some ⟨B,i,none⟩)) (g x) m=some (undef,m')/\SD m0 m' B (λx=>[g x]) (l.set i x):=by
 have hl:=wG E.len l
 obtain⟨m',a,c,d⟩:=h.store 0 rfl (o:=i) (v:=g x) (by omega) (E.ok x (g x) (by simp))
 have h1:=fI E x hi
 rw[Nat.mul_one]at h1
 have h2:(l.flatMap λx=>[g x]).set i (g x)=(l.set i x).flatMap λx=>[g x]:=h1
 simp only[List.set_cons_zero]at c
 rw[h2]at c
 exact⟨m',a,c⟩
theorem Ow.stores {W:List Nat}{σ:List (Nat × List Value)}{k o:Nat}{l l':List Value}(h:Ow m0 m W σ)(hk:σ[k]?=some (B,l))(hn:o+l'.length<=l.length)(hv:∀v∈l',Dx.okC v=true):∃m',Dx.stores m ⟨B,o,none⟩ l'=some m'/\Ow m0 m' W (σ.set k (B,over l o l')):=by
 cases l' with
 | nil =>
  refine⟨m,rfl,?_⟩
  show Ow m0 m W (σ.set k (B,l))
  obtain⟨hk',hke⟩:=qgf.1 hk
  rw[<-hke,List.set_getElem_self];exact h
 | cons v vs =>
  obtain⟨m',a,b,-⟩:=h.storeN k hk (n:=(v::vs).length) (o:=o) (l':=v::vs) (by simp) rfl hn hv
  refine⟨m',?_,b⟩
  have a:(bif Nat.beq (v::vs).length (v::vs).length then ob (Dx.stores m ⟨B,o,none⟩ (v::vs)) λm'=>some (undef,m') else none)=some (undef,m'):=a
  rw[Nat.beq_refl,cond_true]at a
  cases hs:Dx.stores m ⟨B,o,none⟩ (v::vs) with
  | none=>rw[hs]at a;cases a
  | some m1=>rw[hs]at a;cases a;rfl
end
end Go.Dx
namespace Go.Sx
open Go.Dx Go.Proofs
set_option maxRecDepth 10000
def kp (l:List Nat)(i:Nat):Bool:=decide (i=0) || !decide (l[i]?=l[i-1]?)
def yL (l:List Nat)(j:Nat):List Nat:=(List.range j).filterMap λi=>if kp l i then l[i]? else none
def ddp (l:List Nat):List Nat:=yL l l.length
theorem xW {l:List Nat}{j x:Nat}(h:l[j]?=some x):yL l (j+1)=yL l j++(if kp l j then [x] else []):=by
 unfold yL
 rw[List.range_succ,List.filterMap_append]
 congr 1
 cases hk:kp l j<;>simp[hk,h]
theorem Km {l:List Nat}{k x:Nat}(h:k<l.length):(l.set k x).take (k+1)=l.take k++[x]:=by
 rw[List.take_add_one,List.take_set_of_le (qgg _)]
 simp[h]
def CpQ (B N:Nat)(l:List Nat)(v:Value)(m':M):Prop:=∃l':List Nat,v=.slice (some ⟨B,0,some 2⟩) (ddp l).length N/\Arr m' B (l'.flatMap qP)/\l'.length=N/\l'.take (ddp l).length=ddp l
theorem Gg (n:Nat){m:M}(hm:m.base<=m.n){B N:Nat}{l:List Nat}(hA:Arr m B (l.flatMap qP))(hB:B<m.n)(hN:l.length=N)(hNN:N<=1000000) :
  MuC (ex Tryz.prog (n+1)) 71 [dV B 2 N] m B (CpQ B N l):=by
 refine qA (Q:=λv m'=>Mc m m' [B]/\CpQ B N l v m') df8_ok (by simp) ?_
 have ln:jW (dV B 2 N)=some (iv N):=rfl
 have h0:SD m m B qP l:=SD.start hm hA hB
 have same:ddp l=l->CpQ B N l (dV B 2 N) m:=λh=>⟨l,by rw[h,hN],hA,hN,by rw[h];simp⟩
 by_cases h2:N<2
 .have d1:((N:Int)<2)=True:=eq_true (by omega)
  have d1':(N<2)=True:=eq_true h2
  have hd:ddp l=l:=by
   cases l with
   | nil=>rfl
   | cons x l =>
    cases l with
    | nil=>simp[ddp,yL,kp]
    | cons y l=>simp at hN;omega
  simp[ln,d1,d1']
  exact wO ⟨Mc.refl,by simp;exact same hd⟩
 have d1:((N:Int)<2)=False:=eq_false (by omega)
 have d1':(N<2)=False:=eq_false h2
 obtain⟨x0,hx0⟩:∃x,l[0]?=some x:=⟨_,qgd (by omega)⟩
 have s0:yL l 1=l.take 1:=by
  rw[xW hx0,List.take_add_one,hx0];simp[kp,yL]
 simp[ln,d1,d1']
 refine qF (c:=Do) rfl (zH λv m'=>Mc m m' [B]/\CpQ B N l v m') (λk t m'=>Tm.get 0 t=dV B 2 N/\Tm.get 3 t=iv ((k+1:Nat):Int)/\m'=m/\yL l (k+1)=l.take (k+1)) (N-1) (by omega) ⟨by simp,by simp,rfl,s0⟩ (λk t m' K hk hI hK=>?_)
 obtain⟨t0,t3,he,hdd⟩:=hI
 rw[he]
 obtain⟨k0,hk0⟩:=qh2 (k+1)
 rw[<-hk0]at t3 hdd
 by_cases hkN:k0<N
 .have d2:((k0:Int)<(N:Int))=True:=eq_true (by omega)
  have d2':(k0<N)=True:=eq_true hkN
  have w1:=qL (j:=k0) (by omega) (by omega)
  rw[show k0-1=k by omega]at w1
  obtain⟨x,hx⟩:∃x,l[k0]?=some x:=⟨_,qgd (by omega)⟩
  obtain⟨y,hy⟩:∃y,l[k]?=some y:=⟨_,qgd (by omega)⟩
  have i1:=wx (e:=1) (c:=2) B N k0 (by omega)
  have i2:=wx (e:=1) (c:=2) B N k (by omega)
  rw[Nat.mul_one]at i1 i2
  have e1:load1 m ⟨B,k0,none⟩=some (iv x):=qO elI h0 hx none
  have e2:load1 m ⟨B,k,none⟩=some (iv y):=qO elI h0 hy none
  have hkp:kp l k0=!decide (x=y):=by
   unfold kp
   rw[show k0-1=k by omega,hx,hy]
   simp[show ¬k0=0 by omega]
  by_cases hxy:x=y
  .have d3:((x:Int)=(y:Int))=True:=eq_true (by omega)
   have d3':(x=y)=True:=eq_true hxy
   have sf:=FG (B:=B) (N:=N) (k:=k0) (by omega)
   obtain⟨N2,hN2⟩:=qh2 (N-k0)
   rw[<-hN2]at sf
   have ln2:jW (.slice (some ⟨B,k0,some 2⟩) N2 N2)=some (iv N2):=rfl
   have s1:yL l (k0+1)=l.take k0:=by
    rw[xW hx,hkp,hdd];simp[hxy]
   simp[t0,t3,ln,d2,d2',w1,i1,i2,e1,e2,d3,d3',fh,sf]
   refine qF (c:=Dn) rfl (zH λv m'=>Mc m m' [B]/\CpQ B N l v m') (λr t m'=>Tm.get 0 t=dV B 2 N/\Tm.get 4 t=.slice (some ⟨B,k0,some 2⟩) N2 N2/\Tm.get 5 t=iv ((r+1:Nat):Int)/\∃(j:Nat) (l':List Nat),Tm.get 3 t=iv j/\j<=k0+r/\SD m m' B qP l'/\l'.length=N/\(∀i,j<=i->l'[i]?=l[i]?)/\l'.take j=yL l (k0+1+r)) (N2-1) (by omega)
    ⟨by simp[t0],by simp,by simp,k0,l,by simp[t3],by omega,h0,hN,λ_ _=>rfl,s1.symm⟩ (λr t m' K2 hr hI hK2=>?_)
   obtain⟨t0,t4,t5,j,l1,t3,hj,h1,hl1,hout,htk⟩:=hI
   obtain⟨r1,hr1⟩:=qh2 (r+1)
   rw[<-hr1]at t5
   by_cases hrN:r1<N2
   .have d4:((r1:Int)<(N2:Int))=True:=eq_true (by omega)
    have d4':(r1<N2)=True:=eq_true hrN
    have w2:=qL (j:=r1) (by omega) (by omega)
    rw[show r1-1=r by omega]at w2
    have w3:=qY (i:=r1) (by omega)
    have w4:=qY (i:=j) (by omega)
    obtain⟨p,hp⟩:=qh2 (k0+r1)
    obtain⟨q,hq⟩:=qh2 (k0+r)
    obtain⟨u,hu⟩:∃x,l[p]?=some x:=⟨_,qgd (by omega)⟩
    obtain⟨v,hv⟩:∃x,l[q]?=some x:=⟨_,qgd (by omega)⟩
    have i3:=idxO (e:=1) (c:=2) B k0 N2 N2 r1 hrN
    have i4:=idxO (e:=1) (c:=2) B k0 N2 N2 r (by omega)
    have i5:=wx (e:=1) (c:=2) B N j (by omega)
    rw[Nat.mul_one]at i3 i4 i5
    rw[<-hp]at i3
    rw[<-hq]at i4
    have hu1:l1[p]?=some u:=by rw[hout p (by omega)];exact hu
    have hv1:l1[q]?=some v:=by rw[hout q (by omega)];exact hv
    have e3:load1 m' ⟨B,p,none⟩=some (iv u):=qO elI h1 hu1 none
    have e4:load1 m' ⟨B,q,none⟩=some (iv v):=qO elI h1 hv1 none
    have hkp2:kp l p=!decide (u=v):=by
     unfold kp
     rw[show p-1=q by omega,hu,hv]
     simp[show ¬p=0 by omega]
    have hsucc:=xW hu
    rw[hkp2,show p=k0+1+r by omega]at hsucc
    by_cases huv:u=v
    .have d5:((u:Int)=(v:Int))=True:=eq_true (by omega)
     have d5':(u=v)=True:=eq_true huv
     simp[t0,t3,t4,t5,ln2,d4,d4',w2,w3,i3,i4,e3,e4,d5,d5']
     exact hK2 (by omega) _ _ ⟨by simp[t0],by simp[t4],by simp;omega,j,l1,by simp[t3],by omega,h1,hl1,hout,by rw[show k0+1+(r+1)=k0+1+r+1 by omega,hsucc];simpa [huv]using htk⟩
    .have d5:((u:Int)=(v:Int))=False:=eq_false (by omega)
     have d5':(u=v)=False:=eq_false huv
     obtain⟨m5,c1,h5⟩:=qfa elI h1 (i:=j) (by omega) u
     simp[t0,t3,t4,t5,ln2,d4,d4',w2,w3,w4,i3,i4,i5,e3,e4,d5,d5',c1]
     refine hK2 (by omega) _ _ ⟨by simp[t0],by simp[t4],by simp;omega,j+1,_,by simp,by omega,h5,by rw[List.length_set];exact hl1,λi hi=>?_,?_⟩
     .rw[List.getElem?_set_ne (by omega)];exact hout i (by omega)
     .rw[show k0+1+(r+1)=k0+1+r+1 by omega,hsucc,Km (by omega),htk]
      simp[huv]
   .have d4:((r1:Int)<(N2:Int))=False:=eq_false (by omega)
    have d4':(r1<N2)=False:=eq_false hrN
    have hdl:l1.take j=ddp l:=by rw[htk];unfold ddp;congr 1;omega
    have hjl:(ddp l).length=j:=by rw[<-hdl,List.length_take];omega
    have sf2:=FG (B:=B) (N:=N) (k:=j) (by omega)
    have st2:=sl_to (B:=B) (N:=N) (k:=j) (by omega)
    have hfl:=wG elI.len l1
    have hrl:(rep (N-j) [iv 0]).length=N-j:=by
     have:∀q,(rep q [iv 0]).length=q:=λq=>by
      induction q with
      | zero=>rfl
      | succ q ih=>show ([iv 0]++rep q [iv 0]).length=_;rw[qgn,ih];simp;omega
     exact this _
    have hrv:∀q,∀v∈rep q [iv 0],v=iv 0:=λq=>by
     induction q with
     | zero=>intro v hv;cases hv
     | succ q ih =>
      intro v hv
      rcases qh1.1 (show v∈[iv 0]++rep q [iv 0] from hv) with h | h
      .exact qgk.1 h
      .exact ih v h
    obtain⟨m5,c1,h5⟩:=Ow.stores (k:=0) h1 rfl (o:=j) (l':=rep (N-j) [iv 0]) (by rw[hrl];omega) (λv hv=>by rw[hrv _ v hv];rfl)
    have hov:over (l1.flatMap qP) j (rep (N-j) [iv 0])=(l1.take j++List.replicate (N-j) 0).flatMap qP:=by
     have h1:l1.flatMap qP=(l1.take j).flatMap qP++(l1.drop j).flatMap qP:=by rw[<-List.flatMap_append,List.take_append_drop]
     have h2:((l1.take j).flatMap qP).length=j:=by rw[wG elI.len,List.length_take];omega
     have h3:((l1.drop j).flatMap qP).length=N-j:=by rw[wG elI.len,List.length_drop];omega
     have h4:=yz (rep (N-j) [iv 0]) ((l1.take j).flatMap qP) ((l1.drop j).flatMap qP) 0
     rw[h2,Nat.add_zero]at h4
     have h5:=gH (rep (N-j) [iv 0]) ((l1.drop j).flatMap qP) [] (by rw[hrl,h3])
     rw[List.append_nil,List.append_nil]at h5
     rw[h1,h4,h5,List.flatMap_append]
     congr 1
     have:∀q,rep q [iv 0]=(List.replicate q 0).flatMap qP:=λq=>by
      induction q with
      | zero=>rfl
      | succ q ih=>show [iv 0]++rep q [iv 0]=_;rw[ih,List.replicate_succ,List.flatMap_cons];rfl
     exact this _
    have c2:Wg m' [iv 0] (.slice (some ⟨B,j,some 2⟩) (N-j) (N-j))=some (.tuple ⟨[]⟩,m5):=by
     show ob (Dx.stores m' ⟨B,j,none⟩ (rep (N-j) [iv 0])) _=_
     rw[c1];rfl
    have h6:Arr m5 B ((l1.take j++List.replicate (N-j) 0).flatMap qP):=by rw[<-hov];exact (h5.get 0 rfl).2.2
    simp[t0,t3,t4,t5,ln2,d4,d4',fh,qcb,sf2,st2,c2]
    refine wO ⟨h5.mc,l1.take j++List.replicate (N-j) 0,by simp[hjl],h6,by rw[qgn,List.length_take,List.length_replicate];omega,?_⟩
    rw[hjl,<-hdl,List.take_append_of_le_length (by rw[List.length_take];omega),List.take_take,Nat.min_self]
  .have d3:((x:Int)=(y:Int))=False:=eq_false (by omega)
   have d3':(x=y)=False:=eq_false hxy
   have w3:=qY (i:=k0) (by omega)
   simp[t0,t3,ln,d2,d2',w1,i1,i2,e1,e2,d3,d3',w3]
   refine hK (by omega) _ _ ⟨by simp[t0],by simp;omega,rfl,?_⟩
   rw[<-hk0,xW hx,hkp,hdd,List.take_add_one,hx]
   simp[hxy]
 .have d2:((k0:Int)<(N:Int))=False:=eq_false (by omega)
  have d2':(k0<N)=False:=eq_false hkN
  simp[t0,t3,ln,d2,d2']
  refine wO ⟨Mc.refl,?_⟩
  have hd:ddp l=l:=by
   have:k0=l.length:=by omega
   unfold ddp
   rw[<-this,hdd,this,List.take_length]
  simp[t0]
  exact same hd
end Go.Sx
namespace Go.Sx
open Go.Dx Go.Proofs
set_option maxRecDepth 10000
def yC (l:List Nat):List Nat:=l.mergeSort λa b=>!ltN b a
def yD (l:List (Nat × Nat)):List (Nat × Nat):=l.mergeSort λa b=>!ltP b a
theorem jZ {α:Type}{lt:α->α->Bool}(T:TO lt)(l:List α):(l.mergeSort λa b=>!lt b a).Perm l/\(l.mergeSort λa b=>!lt b a).Pairwise λx y=>lt y x=false:=by
 refine⟨List.mergeSort_perm _ _,?_⟩
 have:=List.pairwise_mergeSort (le:=λa b=>!lt b a) (λa b c h1 h2=>by
  simp only[Bool.not_eq_true']at *
  exact T.tr a b c h1 h2) (λa b=>by
  cases h:lt b a with
  | false=>simp
  | true=>simp[T.asy _ _ h]) l
 exact this.imp λh=>by simpa using h
theorem eqN_of {x y:Nat}(h1:ltN x y=false)(h2:ltN y x=false):x=y:=by simp[ltN]at *;omega
theorem eqP_of {x y:Nat × Nat}(h1:ltP x y=false)(h2:ltP y x=false):x=y:=by
 rw[Fe]at *
 refine Prod.ext ?_ ?_<;>omega
theorem qff {l l':List Nat}{b:Nat}(hb:b=l'.length)(hp:l'.Perm l)(hs:Srt ltN 0 b l'):l'=yC l:=by
 subst hb
 have h:=jZ toN l
 exact (WZ (λx y=>eqN_of) (h.1.trans hp.symm) (db hs) h.2).symm
theorem qfg {l l':List (Nat × Nat)}{b:Nat}(hb:b=l'.length)(hp:l'.Perm l)(hs:Srt ltP 0 b l'):l'=yD l:=by
 subst hb
 have h:=jZ toP l
 exact (WZ (λx y=>eqP_of) (h.1.trans hp.symm) (db hs) h.2).symm
theorem Lo0 {α:Type}{lt:α->α->Bool}{b:Nat}{l:List α}:Lo lt 0 b l:=λp q x y h=>by omega
theorem qfc (n:Nat){m:M}(hm:m.base<=m.n){B c N:Nat}{l:List Nat}(hA:Arr m B (l.flatMap qP))(hB:B<m.n)(hN:l.length=N)(hNN:N<=1000000) :
  MuC (ex Tryz.prog (n+28)) 70 [dV B c N] m B (λ_ m'=>Arr m' B ((yC l).flatMap qP)):=by
 refine qA (Q:=λv m'=>Mc m m' [B]/\Arr m' B ((yC l).flatMap qP)) df7_ok (by simp) ?_
 have ln:jW (dV B c N)=some (iv N):=rfl
 have cu:=vt hNN
 obtain⟨v1,m1,a1,a2,k,rfl,-⟩:=qb4 (n+25) m (x:=N) (by omega)
 obtain⟨v2,m2,b1,b2,l',b3,b4,b5⟩:=pdqO_c n 20 (m:=m1) (by rw[a2.base];exact qgp hm a2.n) (c:=c) (a:=0) (b:=N) (lim:=k) (hA.congr (a2.obj B hB)) (qgi hB a2.n) hN (Nat.zero_le _) (qgg _) hNN (by rw[show (2:Nat)^20=1048576 by decide];omega) Lo0
 have b1:(ex Tryz.prog (n+27)).f 98 [dV B c N,zI,iv N,iv k] m1=some (v2,m2):=b1
 have e:=qff (by rw[b4.len,hN]) b4.perm b5
 simp[ln,cu,a1,b1]
 exact zp ⟨a2.mc.trans b2,by rw[<-e];exact b3⟩
theorem qfd (n:Nat){m:M}(hm:m.base<=m.n){B c N:Nat}{l:List (Nat × Nat)}(hA:Arr m B (l.flatMap qf))(hB:B<m.n)(hN:l.length=N)(hNN:N<=1000000) :
  MuC (ex Tryz.prog (n+29)) 45 [dV B c N,fnC] m B (λ_ m'=>Arr m' B ((yD l).flatMap qf)):=by
 refine qA (Q:=λv m'=>Mc m m' [B]/\Arr m' B ((yD l).flatMap qf)) qa3 (by simp) ?_
 have ln:jW (dV B c N)=some (iv N):=rfl
 have cu:=vt hNN
 obtain⟨v1,m1,a1,a2,k,rfl,-⟩:=qb4 (n+26) m (x:=N) (by omega)
 obtain⟨v2,m2,b1,b2,l',b3,b4,b5⟩:=pdqP_c n 20 (m:=m1) (by rw[a2.base];exact qgp hm a2.n) (c:=c) (a:=0) (b:=N) (lim:=k) (hA.congr (a2.obj B hB)) (qgi hB a2.n) hN (Nat.zero_le _) (qgg _) hNN (by rw[show (2:Nat)^20=1048576 by decide];omega) Lo0
 have b1:(ex Tryz.prog (n+28)).f 66 [dV B c N,zI,iv N,iv k,fnC] m1=some (v2,m2):=b1
 have e:=qfg (by rw[b4.len,hN]) b4.perm b5
 simp[ln,cu,a1,b1]
 exact zp ⟨a2.mc.trans b2,by rw[<-e];exact b3⟩
end Go.Sx
namespace Go.Dx
def Qy (v:Value):List Nat:=(blk v).toList
theorem zX {v:Value}{B:Nat}:B∈Qy v ↔ blk v=some B:=by unfold Qy;cases blk v<;>simp[eq_comm]
section
variable {m0 m m':M}{W:List Nat}{σ:List (Nat × List Value)}{B:Nat}
theorem Ow.kill {v:Value}(h:Ow m0 m W σ)(hB:∀B,blk v=some B->B∈W\/m0.n<=B)(hn:m.n<=m'.n)(hb:m'.base=m.base)(hl:m'.log=m.log\/∃B,blk v=some B/\m'.log=note m.base B m.log)(ho:∀X,X<m.n->blk v≠some X->m'.obj X=m.obj X)(hσ:∀p∈σ,blk v≠some p.1):Ow m0 m' W σ:=by
 have hmb:=h.mc.base
 have hb3:=h.base
 have hmn:=h.mc.n
 refine⟨⟨qgp hmn hn,λC hC hW=>?_,hb.trans hmb,λC hC=>?_,λhW=>?_⟩,h.base,λp hp=>?_,h.nd⟩
 .have:blk v≠some C:=λe=>by
   rcases hB C e with h0 | h0
   .exact hW h0
   .omega
  rw[ho C (by omega) this];exact h.mc.obj C hC hW
 .rcases hl with e | ⟨B,eb,e⟩
  .rw[e]at hC;exact h.mc.log C hC
  .rw[e]at hC
   rcases ff hC with h' | ⟨rfl,h'⟩
   .exact h.mc.log C h'
   .rcases hB _ eb with h0 | h0
    .exact .inr ⟨h0,by rw[<-hmb];exact h'⟩
    .omega
 .rcases hl with e | ⟨B,eb,e⟩
  .rw[e];exact h.mc.low hW
  .have hBb:m.base<=B:=by
    rcases hB B eb with h0 | h0
    .rw[hmb];exact hW _ h0
    .omega
   rw[e,fL hBb];exact h.mc.low hW
 .obtain⟨h1,h2,h3⟩:=h.arr p hp
  exact⟨h1,by omega,h3.congr (ho _ h2 (hσ p hp))⟩
theorem Ow.appAny {α:Type}{v:Value}{e:Nat}{f:α->List Value}{es:List α}(h:Ow m0 m W σ)(hg:Grown M.empty m v e f es)(he:0<e)(hf:∀x,(f x).length=e)(hok:∀x,∀v∈f x,okC v=true){x:α}{X:Nat}{sp:Option Nat}
  (hx:loads m ⟨X,0,sp⟩ e=some (f x)) {bytes:Nat} (hm:(es.length+1)*bytes<=most) (hn:es.length+1<=4611686018427387904) (hB:∀B,blk v=some B->B∈W\/m0.n<=B) (hσ:∀p∈σ,blk v≠some p.1) :
  ∃v' mq,wZ (qg m) e bytes v (.slice (some ⟨X,0,sp⟩) 1 1)=some (v',mq)/\Ow m0 (Dx.behind m mq) W σ/\Grown M.empty (Dx.behind m mq) v' e f (es++[x])/\(∀B,blk v'=some B->m.n<=B)/\m.n<(Dx.behind m mq).n/\(∀X,X<m.n->blk v≠some X->(Dx.behind m mq).obj X=m.obj X):=by
 have hA:Grown M.empty (qg m) v e f es:=hg.keep (by rw[qq];exact qgg _) λB _ _=>qw _ _
 have hx':loads (qg m) ⟨X,0,sp⟩ e=some (f x):=by unfold loads cellsOf at hx ⊢;rw[qw];exact hx
 obtain⟨v',mq,h1,h2,h3,h4,h5,h6,h7⟩:=hA.core he hf hok hx' (Nat.zero_le _) hm hn
 rw[qq]at h3 h6 h7
 rw[wS,wU]at h5
 have ho:∀X,X<m.n->blk v≠some X->(Dx.behind m mq).obj X=m.obj X:=λX hX hne=>by rw[qz,h6 X hX hne,qw]
 refine⟨v',mq,h1,h.kill hB (by rw[wg];omega) (kZ _ _) ?_ ho hσ,h2.keep (by rw[wg];exact qgg _) λB _ _=>qz _ _ _,h7,by rw[wg];exact h3,ho⟩
 rw[zd]
 rcases h5 with e | ⟨B,eb,_,e⟩
 .rw[e];exact .inl rfl
 .have hlt:B<m.n:=by
   rcases hg with ⟨_,hv⟩ | ⟨B',_,q,_,hv,_⟩
   .rw[hv]at eb;cases eb
   .rw[hv]at eb;cases eb;exact q
  have hno:note m.n B []=[B]:=by
   unfold note
   have:Nat.ble m.n B=false:=by
    cases q:Nat.ble m.n B with
    | false=>rfl
    | true=>exact absurd (qgm q) (by omega)
   rw[this];rfl
  rw[e,hno]
  exact .inr ⟨B,eb,rfl⟩
theorem Mc.tr2 {a b c:M}{W W':List Nat}(h:Mc a b W)(k:Mc b c W')(hW':∀B∈W',B∈W\/a.n<=B)(hab:a.base<=a.n):Mc a c W:=by
 have hb:=h.base
 refine⟨qgp h.n k.n,λB hB hBW=>?_,k.base.trans h.base,λB hB=>?_,λhW=>?_⟩
 .rw[k.obj B (qgi hB h.n) (λhc=>by rcases hW' B hc with h1 | h1;exact hBW h1;omega)]
  exact h.obj B hB hBW
 .rcases k.log B hB with h1 | ⟨h1,h2⟩
  .exact h.log B h1
  .rcases hW' B h1 with h3 | h3
   .exact .inr ⟨h3,by omega⟩
   .omega
 .rw[k.low (λB hB=>?_),h.low hW]
  rcases hW' B hB with h1 | h1
  .rw[hb];exact hW B h1
  .omega
theorem Mc.mono {a b:M}{W W':List Nat}(h:Mc a b W)(hW:∀B∈W,B∈W'):Mc a b W' :=
 ⟨h.n,λB hB hBW=>h.obj B hB (λhc=>hBW (hW B hc)),h.base,λB hB=>(h.log B hB).imp id λ⟨h1,h2⟩=>⟨hW B h1,h2⟩,λhb=>h.low λB hB=>hb B (hW B hB)⟩
end
abbrev Gro {α:Type}(m:M)(v:Value)(e:Nat)(f:α->List Value)(es:List α):Prop:=Grown M.empty m v e f es
section
variable {α:Type}{m m':M}{v:Value}{e:Nat}{f:α->List Value}{es:List α}
theorem Gro.keep (h:Gro m v e f es)(hn:m.n<=m'.n)(ho:∀B,B<m.n->blk v=some B->m'.obj B=m.obj B):Gro m' v e f es:=Grown.keep h hn ho
theorem Gro.len (h:Gro m v e f es):jW v=some (.int .i64 (es.length:Int)):=by
 rcases h with ⟨rfl,rfl⟩ | ⟨B,_,_,_,rfl,_⟩<;>rfl
theorem Gro.lt (h:Gro m v e f es):∀B,blk v=some B->B<m.n:=by
 rcases h with ⟨_,rfl⟩ | ⟨B',_,h2,_,rfl,_⟩
 .intro B hB;cases hB
 .intro B hB;cases hB;exact h2
end
end Go.Dx
namespace Go.Dx
section
variable {α:Type}{m0 m:M}{v:Value}{e:Nat}{f:α->List Value}{es:List α}
theorem Grown.coreN (h:Grown m0 m v e f es)(he:0<e)(hf:∀x,(f x).length=e)(hok:∀x,∀v∈f x,Dx.okC v=true){w:Value}{xs:List α}(hw:Rd m w e f xs)(hx:xs≠[])(h0:m0.n<=m.n){bytes:Nat}(hm:(es.length+xs.length)*bytes<=most)(hn:es.length+xs.length<=4611686018427387904) :
  ∃v' m',wZ m e bytes v w=some (v',m')/\Grown m0 m' v' e f (es++xs)/\m.n<m'.n/\m'.base=m.base/\(m'.log=m.log\/∃B,blk v=some B/\m0.n<=B/\m'.log=note m.base B m.log)/\(∀B,B<m.n->blk v≠some B->m'.obj B=m.obj B)/\(∀B,blk v'=some B->m.n<=B):=by
 have hxl:=qh0.2 hx
 have hk:(Nat.ble ((es.length+xs.length)*bytes) most&&Nat.ble (es.length+xs.length) 4611686018427387904)=true:=by rw[qgl hm,qgl hn];rfl
 have hfi:=hw.all
 have hal:yG (es.flatMap f++xs.flatMap f)=true:=QU λu hu=>by
  simp only[qh1,List.mem_flatMap]at hu
  rcases hu with ⟨y,_,h⟩ | ⟨y,_,h⟩<;>exact hok y u h
 have hfl:(es++xs).flatMap f=es.flatMap f++xs.flatMap f:=by simp
 rcases h with ⟨rfl,rfl⟩ | ⟨B,h1,h2,h3,rfl,h5⟩
 .refine⟨.slice (some ⟨m.n,0,some (code e false)⟩) xs.length xs.length,newRow m (xs.flatMap f),?_,.inr ⟨m.n,h0,by rw[qQ];omega,by simpa using hx,by simp,by simpa using Arr.row m (xs.flatMap f)⟩,by rw[qQ];omega,(Ext.row m (xs.flatMap f)).base,.inl (Ext.row m (xs.flatMap f)).log,
   λB hB _=>(Ext.row m (xs.flatMap f)).obj B hB,λB hB=>by cases hB;exact qgg _⟩
  show ob (lenV w) _=_
  rw[hw.lenV,qN]
  show ob (zh m e xs.length w) _=_
  rw[hfi,qN]
  unfold QV
  have hlt:Nat.ble (0+xs.length) 0=false:=by
   cases q:Nat.ble (0+xs.length) 0 with
   | false=>rfl
   | true=>exact absurd (qgm q) (by omega)
  have hk':(Nat.ble ((0+xs.length)*bytes) most&&Nat.ble (0+xs.length) 4611686018427387904)=true:=hk
  rw[hlt,cond_false,hk',cond_true]
  show Qo m e (0+xs.length) none ([]++xs.flatMap f)=_
  rw[Nat.zero_add];rfl
 .have hlt:Nat.ble (es.length+xs.length) es.length=false:=by
   cases q:Nat.ble (es.length+xs.length) es.length with
   | false=>rfl
   | true=>exact absurd (qgm q) (by omega)
  obtain⟨c,hc,hcl⟩:=id h5
  have hpos:0<es.length:=qh0.2 h3
  have hlen:=wG hf es
  have hne:0<(es.flatMap f).length:=by rw[hlen];exact Nat.mul_pos hpos he
  have ha:alive c=true:=Jw (i:=0) (by rw[hcl,qgd hne])
  refine⟨.slice (some ⟨m.n,0,some (code e false)⟩) (es.length+xs.length) (es.length+xs.length),(m.put B (.cells .lf)).alloc (.cells (mkn .lf 0 (es.flatMap f++xs.flatMap f))),?_,
   .inr ⟨m.n,h0,by rw[M.n_alloc,M.n_put];omega,by simp[h3],by simp,?_⟩,by rw[M.n_alloc,M.n_put];omega,by rw[M.base_alloc,M.base_put],.inr ⟨B,rfl,h1,by rw[M.log_alloc];cases m;rfl⟩,λY hY hne'=>?_,λY hY=>by cases hY;exact qgg _⟩
  .show ob (lenV w) _=_
   rw[hw.lenV,qN]
   show ob (zh m e xs.length w) _=_
   rw[hfi,qN]
   unfold QV
   rw[hlt,cond_false,hk,cond_true]
   have hold:zh m e es.length (.slice (some ⟨B,0,some (code e false)⟩) es.length es.length)=some (es.flatMap f):=by
    show loads m ⟨B,0,some (code e false)⟩ (es.length*e)=_
    rw[h5.loads (by omega),List.drop_zero,<-hlen,List.take_length]
   rw[hold,qN]
   unfold Qo
   have hx':vH (code e false)=false:=by
    show Nat.beq (2*e%2) 1=false
    rw[show 2*e%2=0 by omega];rfl
   have hcd:Nat.beq (code e false/2) e=true:=by
    show Nat.beq (2*e/2) e=true
    rw[show 2*e/2=e by omega];exact Nat.beq_refl e
   show ob (some (code e false)) _=_
   rw[qN,hx',cond_false]
   show ob (yy (m.obj B)) _=_
   rw[hc]
   show (bif alive c&&Nat.beq (code e false/2) e&&yG (es.flatMap f++xs.flatMap f)&&Nat.blt 0 HI then _ else _)=_
   rw[ha,hcd,hal,show Nat.blt 0 HI=true from qgl (by unfold HI;omega)]
   rfl
  .rw[hfl]
   refine⟨_,by rw[M.obj_alloc,M.n_put,if_pos rfl],λi=>?_⟩
   rw[jF,A.get_lf]
   split
   .simp
   .rename_i h;rw[qgz (by omega)]
  .rw[M.obj_alloc,M.n_put,if_neg (by omega),M.obj_put,if_neg (by rintro rfl;exact hne' rfl)]
end
end Go.Dx
namespace Go.Dx
theorem qch {α:Type}{m:M}{B c e k N:Nat}{f:α->List Value}(hf:∀x,(f x).length=e){l' l:List α}(h:Arr m B (l'.flatMap f))(hB:B<m.n)(ht:l'.take k=l)(hk:l.length=k):Rd m (.slice (some ⟨B,0,some c⟩) k N) e f l:=by
 have hlen:=wG hf l'
 have hkl:k<=l'.length:=by rw[<-hk,<-ht,List.length_take];omega
 have hke:=qgx e hkl
 refine⟨by rw[hk];rfl,λi r hr=>?_,?_,λC hC=>by cases hC;exact hB⟩
 .have hi:=(qgf.1 hr).1
  have hr':l'[i]?=some r:=by rw[<-ht,List.getElem?_take,if_pos (by omega)]at hr;exact hr
  have:=qgx e (Nat.succ_le_of_lt (show i<l'.length by omega))
  rw[Nat.succ_mul]at this
  refine⟨?_,hB,?_⟩
  .show (bif Nat.blt i k then gS (i*e) ⟨B,0,some c⟩ else none)=_
   rw[show Nat.blt i k=true from qgl (by omega)];rfl
  .show loads m ⟨B,0+i*e,none⟩ e=_
   rw[Nat.zero_add,h.loads (by omega),xC hf l' i r hr']
 .show loads m ⟨B,0,some c⟩ (l.length*e)=_
  rw[hk,h.loads (by omega),List.drop_zero]
  have h1:l'.flatMap f=(l'.take k).flatMap f++(l'.drop k).flatMap f:=by rw[<-List.flatMap_append,List.take_append_drop]
  have h2:((l'.take k).flatMap f).length=k*e:=by rw[wG hf,List.length_take,Nat.min_eq_left hkl]
  rw[h1,<-h2,List.take_left,ht]
end Go.Dx
namespace Go.Sx
open Go.Dx Go.Proofs
set_option maxRecDepth 10000
abbrev kW:Value:=zS
structure RS (m:M)(v:Value)(l:List Nat):Prop where
 rd:Rd m v 1 qP l
 nil:l=[]->v=kW
theorem RS.none (m:M):RS m kW []:=⟨Grown.rd (m0:=m) (λ_=>rfl) (.inl ⟨rfl,rfl⟩),λ_=>rfl⟩
theorem RS.ext {m m':M}{v:Value}{l:List Nat}(h:RS m v l)(hm:m.base<=m.n)(e:Ext m m'):RS m' v l:=⟨h.rd.sees ((Sees.refl hm).ext e),h.nil⟩
theorem RS.congr {m m':M}{v:Value}{l:List Nat}(h:RS m v l)(hn:m.n<=m'.n)(ho:∀B,blk v=some B->m'.obj B=m.obj B):RS m' v l:=⟨h.rd.congr hn ho,h.nil⟩
theorem RS.ok {m:M}{v:Value}{l:List Nat}(h:RS m v l):okC v=true:=h.rd.okV
theorem RS.lt {m:M}{v:Value}{l:List Nat}(h:RS m v l):∀B,blk v=some B->B<m.n:=h.rd.lt
def uni (s o:List Nat):List Nat:=if o=[] then s else ddp (yC (s++o))
theorem DW (n:Nat){m:M}(hm:m.base<=m.n){v:Value}{es:List Nat}(h:RS m v es)(hl:es.length<=1000000) :
  Dx.Call (ex Tryz.prog (n+1)) 69 [v] m λv' m'=>Gro m' v' 1 qP es/\∀B,blk v'=some B->m.n<=B:=by
 refine qj df6_ok (by simp) ?_
 have hln:=h.rd.len
 have heq:=bh hln
 by_cases he:es=[]
 .have hv:=h.nil he
  subst hv
  simp[heq]
  exact qx (Ext.refl m) ⟨.inl ⟨he,by simp⟩,by simp[blk]⟩
 .obtain⟨v',m',a1,a2,a3,a4,a5⟩:=xO hm h.rd (λ_=>rfl) 8 (by unfold most;omega) (by omega)
  have hv':=a5 he
  have ha4:=a4 (m.n+1) (by rw[hv'];rfl)
  have hlt:=a3.lt (m.n+1) (by rw[hv'];rfl)
  have bs:jR 1 0 (rep 0 [zI]) [] m=some (.slice (some ⟨m.n,0,some (code 1 true)⟩) 0 0,Dx.newRow m []):=rfl
  rw[hv']at a1
  obtain⟨ad,k,c,rfl⟩:∃ad k c,v=.slice (some ad) k c:=by
   obtain⟨r,hr⟩:∃r,es[0]?=some r:=⟨_,qgd (qh0.2 he)⟩
   have h1:=(h.rd.row 0 r hr).1
   cases v with
   | slice a k c =>
    cases a with
    | none=>cases h1
    | some a=>exact⟨a,k,c,rfl⟩
   | _=>cases hln
  simp[heq,bs,a1]
  exact qx a2 ⟨.inr ⟨m.n+1,Nat.zero_le _,hlt,he,by simp,ha4.2⟩,by simp[blk]⟩
theorem with_c (n:Nat){m:M}(hm:m.base<=m.n){sv ov:Value}{s o:List Nat}(hs:RS m sv s)(ho:RS m ov o)(hl:s.length+o.length<=1000000) :
  Dx.Call (ex Tryz.prog (n+29)) 52 [sv,ov] m λv m'=>RS m' v (uni s o)/\∀B,blk v=some B->blk sv=some B\/m.n<=B:=by
 refine qj dd9_ok (by simp) ?_
 have hln:=ho.rd.len
 by_cases he:o=[]
 .have d1:((o.length:Int)=0)=True:=eq_true (by rw[he];rfl)
  simp[hln,he]
  exact qx (Ext.refl m) ⟨by simp[uni];exact hs,λB hB=>.inl (by simpa using hB)⟩
 have hol:0<o.length:=qh0.2 he
 have d1:((o.length:Int)=0)=False:=eq_false (by omega)
 obtain⟨v1,m1,a1,a2,a3,a4⟩:=DW (n+27) hm hs (by omega)
 have hm1:m1.base<=m1.n:=((Sees.refl hm).ext a2).base
 have ho1:=ho.ext hm a2
 obtain⟨v2,m2,b1,b2,b3,b4,b5,b6,b7⟩:=Grown.coreN a3 (by omega) (λ_=>rfl) (by simp[okC]) ho1.rd he (Nat.zero_le _) (bytes:=8) (by unfold most;omega) (by omega)
 have E2:Ext m m2:=by
  refine⟨by have:=a2.n;omega,λB hB=>?_,by rw[b4,a2.base],?_⟩
  .rw[b6 B (by have:=a2.n;omega) (λhc=>by have:=a4 B hc;omega),a2.obj B hB]
  .rcases b5 with e | ⟨B,eB,_,e⟩
   .rw[e,a2.log]
   .rw[e,fL (by rw[a2.base];have:=a4 B eB;omega),a2.log]
 rcases b2 with ⟨hne,_⟩ | ⟨B,_,hB,hne,rfl,hA⟩
 .simp at hne;exact absurd hne.2 he
 have hBm:m1.n<=B:=b7 B rfl
 have hm2:m2.base<=m2.n:=((Sees.refl hm).ext E2).base
 have hlen:(s++o).length<=1000000:=by rw[qgn];omega
 obtain⟨N,hN⟩:=qh2 ((s++o).length)
 rw[<-hN]at b1 hlen b7
 obtain⟨v3,m3,c1,c2,c3⟩:=qfc n hm2 (c:=code 1 false) (N:=N) hA hB hN.symm hlen
 have hm3:m3.base<=m3.n:=by rw[c2.base];exact qgp hm2 c2.n
 have hsl:(yC (s++o)).length=N:=by rw[hN];exact (jZ toN (s++o)).1.length_eq
 obtain⟨v4,m4,e1,e2,l',rfl,e4,e5,e6⟩:=Gg (n+27) hm3 c3 (qgi hB c2.n) hsl hlen
 have e1:(ex Tryz.prog (n+28)).f 71 [.slice (some ⟨B,0,some (code 1 false)⟩) N N] m3=some (.slice (some ⟨B,0,some 2⟩) (ddp (yC (s++o))).length N,m4):=e1
 have c1:(ex Tryz.prog (n+28)).f 70 [.slice (some ⟨B,0,some (code 1 false)⟩) N N] m2=some (v3,m3):=c1
 have b1:wZ m1 1 8 v1 ov=some (.slice (some ⟨B,0,some (code 1 false)⟩) N N,m2):=b1
 have E4:Ext m m4:=(E2.mcx c2 (by simp;have:=a2.n;omega) hm).mcx e2 (by simp;have:=a2.n;omega) hm
 simp[hln,he,a1,b1,c1,e1]
 refine qx E4 ?_
 have hpos:0<(ddp (yC (s++o))).length:=by
  obtain⟨x,hx⟩:∃x,(yC (s++o))[0]?=some x:=⟨_,qgd (by rw[hsl,hN,qgn];omega)⟩
  have h1:=xW hx
  have hk0:kp (yC (s++o)) 0=true:=by simp[kp]
  have:∀j,1<=j->0<(yL (yC (s++o)) j).length:=λj hj=>by
   induction j with
   | zero=>omega
   | succ j ih =>
    by_cases h:j=0
    .subst h;rw[h1,hk0];simp
    .have:=ih (by omega)
     have e:yL (yC (s++o)) (j+1)=yL (yC (s++o)) j++List.filterMap (λi=>if kp (yC (s++o)) i then (yC (s++o))[i]? else none) [j]:=by unfold yL;rw[List.range_succ,List.filterMap_append]
     rw[e,qgn];omega
  exact this _ (by rw[hsl,hN,qgn];omega)
 have hun:uni s o=ddp (yC (s++o)):=by unfold uni;rw[if_neg he]
 rw[hun]
 refine⟨⟨?_,λh=>by rw[h]at hpos;simp at hpos⟩,λC hC=>.inr ?_⟩
 rotate_left
 .simp[blk]at hC;have:=a2.n;omega
 simp
 exact qch (f:=qP) (λ_=>rfl) e4 (qgi (qgi hB c2.n) e2.n) e6 rfl
end Go.Sx
