/- Contracts. -/
import Derived.Test.YtkacohbklkmnaaaGreatGc
import Derived.Test.YtkacohbklkmnaaaGreatGb5
import Derived.Lib.SmallJoins
set_option linter.unusedVariables false
set_option linter.unusedSimpArgs false
set_option linter.defProp false
namespace Go.Sx
open Go.Dx Go.Proofs
abbrev iv (n:Int):Value:=.int .i64 n
theorem yes_c (n:Nat)(b:Bool)(m:M):CallV (ex Tryz.prog (n+1)) 248 [.bool b] m (uv (t01 b)):=by
 refine qm dk4_ok (by simp) ?_;cases b
 .simp;exact qf (Ext.refl _) (by simp[t01])
 .simp;exact qf (Ext.refl _) (by simp[t01])
theorem qgh (n:Nat)(b:Bool)(m:M):CallV (ex Tryz.prog (n+1)) 220 [.bool b] m (uv (t01 b)):=by
 refine qm dk1_ok (by simp) ?_;cases b
 .simp;exact qf (Ext.refl _) (by simp[t01])
 .simp;exact qf (Ext.refl _) (by simp[t01])
theorem idx_u (e:Nat)(v:Value)(i:Nat):wJ e v (uv i)=wJ e v (.int .i64 (i:Int)):=by
 have:xQ (uv i)=xQ (.int .i64 (i:Int)):=rfl;show ob (xQ (uv i)) _=ob (xQ (.int .i64 (i:Int))) _;rw[this]
theorem gN (l:List U)(e:List Nd):∀i,vK l e i<18446744073709551616:=by
 intro i;have key:∀i,∀x∈evV l e i,x<18446744073709551616:=by
  intro i
  induction i with
  | zero=>intro x hx;cases hx
  | succ i ih =>
   intro x hx;unfold evV at hx;rcases qhu.1 hx with hx | hx
   .exact ih x hx
   .rw[qhc.1 hx];have gd:∀j,(evV l e i).getD j 0<18446744073709551616:=λj=>by
     rw[List.getD_eq_getElem?_getD];cases h:(evV l e i)[j]? with
     | none=>simp
     | some y=>simpa using ih y (qh6 h)
    cases h:e[i]? with
    | none=>simp
    | some n =>
     show jM l (evV l e i) n<_;unfold jM;exact zt n.val.2 (zt (wAt_lt _ _) (zt (qc9 _ (gd _)) (qca _ (gd _) (gd _))))
 unfold vK;rw[List.getD_eq_getElem?_getD];cases h:(evV l e (i+1))[i]? with
 | none=>simp
 | some y=>simpa using key _ y (qh6 h)
end Go.Sx
namespace Go.Sx
open Go.Dx Go.Proofs
set_option maxRecDepth 10000 in
theorem at_c (l:List U)(e:List Nd)(ed ld:Value)(hlen:e.length<=65536)(hok:∀(i:Nat) n,e[i]?=some n->okN l.length i n=true):∀(i:Nat),i<e.length->∀(N:Nat) (m:M),m.base<=m.n->Rd m ed 4 qv e->Rd m ld 1 qS l ->
  CallV (ex Tryz.prog (N+i+2)) 221 [ed,iv i,ld] m (uv (vK l e i)):=by
 intro i
 induction i using Nat.strongRecOn with
 | _ i ih =>
 intro hi N m hm hed hld;refine qm dk2_ok (by simp) ?_;obtain⟨nd,hn⟩:∃r,e[i]?=some r:=⟨_,qh5 hi⟩;have hokn:=hok i nd hn;have hval:=FM l e hn;have ⟨a1,a2,_⟩:=hed.at hn;have a2':=a2 m (Sees.refl hm);have st1:=(St.nil hm (Ext.refl m)).row [zI,zU,zI,zI];obtain⟨m1,hm1⟩:=qi4 (Dx.newRow m [zI,zU,zI,zI]);rw[<-hm1]at st1;obtain⟨m2,s1,s2,s3,s4⟩:=st1.fill 0 rfl (n:=4) (l':=qv nd) rfl rfl (by simp[qv,okC]);have s2':St m m2 [(m.n,qv nd)]:=s2;have l2:∀o s,load1 m2 ⟨m.n,o,s⟩=(qv nd)[o]?:=λo s=>(s2'.get 0 rfl).2.2.load1 o s;obtain⟨op,val,na,nb⟩:=nd;simp only[qv]at a2' s1 l2;have S2:=s2'.sees;by_cases h1:op=1
 .subst h1;have hv:vK l e i=val.1:=by rw[hval];unfold jM;rw[qhz rfl]
  rw[hv];simp[a1,a2',qb,<-hm1,s1,l2];exact qf s2'.ext (by simp)
 by_cases h2:op=2
 .subst h2;have hk:=qi2 ((gx (k:=l.length) (i:=i) (n:=⟨2,val,na,nb⟩) rfl) ▸ hokn);have hv:vK l e i=wAt l val.1:=by rw[hval];unfold jM;rw[qhy (by simp),qhz rfl]
  obtain⟨w,hw⟩:∃r,l[val.1]?=some r:=⟨_,qh5 hk.2.1⟩;have hww:wAt l val.1=w.1:=by unfold wAt;rw[hw];rfl
  have ⟨b1,_,b3⟩:=(hld.sees S2).at hw;have b1':=(idx_u 1 ld val.1).trans b1;have b3':=b3 m2 0 none S2.self (by simp[qS]);rw[hv,hww];have hx:∀s,load1 m2 ⟨(adr 1 ld val.1).block,(adr 1 ld val.1).off,s⟩=some (uv w.1):=λs=>b3 m2 0 s S2.self (by simp[qS]);have hx':load1 m2 (adr 1 ld val.1)=some (uv w.1):=hx _;simp[a1,a2',qb,<-hm1,s1,l2,b1',hx'];exact qf s2'.ext (by simp)
 have hA':0<=na/\na<i:=by
  by_cases h3:3<=op/\op<=5
  .have:=qi2 ((xC (k:=l.length) (i:=i) (n:=⟨op,val,na,nb⟩) h3.1 h3.2) ▸ hokn);exact⟨this.1,this.2.1⟩
  .have:=qi2 ((zR (k:=l.length) (i:=i) (n:=⟨op,val,na,nb⟩) h1 h2 h3) ▸ hokn);exact⟨this.1,this.2.1⟩
 obtain⟨A,rfl⟩:∃A:Nat,na=A:=⟨na.toNat,by omega⟩;have hA:A<i:=by omega
 obtain⟨v3,m3,c1,c2,rfl⟩:=ih A hA (by omega) (N+i-1-A) m2 S2.base (hed.sees S2) (hld.sees S2);rw[show N+i-1-A+A+2=N+i+1 by omega]at c1;obtain⟨x,hx⟩:=qi4 (vK l e A);have hxl:x<18446744073709551616:=by rw[hx];exact gN l e A
 have hgA:(evV l e i).getD A 0=x:=by rw[hx];exact fS l e hA
 rw[<-hx]at c1;have st3:=s2'.step c2;have S3:=st3.sees;have l3:∀o s,load1 m3 ⟨m.n,o,s⟩=[Value.int .i64 op,uv val.1,.int .i64 (A:Int),.int .i64 nb][o]?:=λo s=>(st3.get 0 rfl).2.2.load1 o s;by_cases h3:3<=op/\op<=5
 .have hv:vK l e i=xD op x:=by
   rw[hval];unfold jM;rw[qhy h1,qhy h2,qhz h3.2];show xD op ((evV l e i).getD (Int.toNat (A:Int)) 0)=_;rw[qhj,hgA]
  rw[hv];rcases (by omega:op=3\/op=4\/op=5) with rfl | rfl | rfl
  .have hs:ze .sub zU (uv x)=some (uv ((18446744073709551616-x)%18446744073709551616)):=by have:=FK (a:=0) (b:=x) (by omega) hxl;rwa [Nat.zero_add]at this
   simp[-qz,-qw,a1,a2',qb,<-hm1,s1,l2,l3,c1,hs];exact qf st3.ext (by simp[xD])
  .have hs:ze .sub (.int .u64 18446744073709551615) (uv x)=some (uv (18446744073709551615-x)):=by
    have:=FK (a:=18446744073709551615) (b:=x) (by omega) hxl
    rwa [show (18446744073709551615+(18446744073709551616-x))%18446744073709551616=18446744073709551615-x by omega]at this
   simp[-qz,-qw,a1,a2',qb,<-hm1,s1,l2,l3,c1,hs];exact qf st3.ext (by simp[xD])
  .obtain⟨v4,m4,y1,y2,rfl⟩:=yes_c (N+i) (decide (x=0)) m3;simp[-qz,-qw,a1,a2',qb,<-hm1,s1,l2,l3,c1,y1];exact qf (st3.ext.trans y2) (by simp[xD])
 have hk:=qi2 ((zR (k:=l.length) (i:=i) (n:=⟨op,val,(A:Int),nb⟩) h1 h2 h3) ▸ hokn);obtain⟨-,-,hb0,hbi,h6,h19,-⟩:=hk;simp only at hb0 hbi h6 h19;obtain⟨B,rfl⟩:∃B:Nat,nb=B:=⟨nb.toNat,by omega⟩;have hB:B<i:=by omega
 obtain⟨v4,m4,d1,d2,rfl⟩:=ih B hB (by omega) (N+i-1-B) m3 S3.base (hed.sees S3) (hld.sees S3);rw[show N+i-1-B+B+2=N+i+1 by omega]at d1;obtain⟨y,hy⟩:=qi4 (vK l e B);have hyl:y<18446744073709551616:=by rw[hy];exact gN l e B
 have hgB:(evV l e i).getD B 0=y:=by rw[hy];exact fS l e hB
 rw[<-hy]at d1;have st4:=st3.step d2;have l4:∀o s,load1 m4 ⟨m.n,o,s⟩=[Value.int .i64 op,uv val.1,.int .i64 (A:Int),.int .i64 (B:Int)][o]?:=λo s=>(st4.get 0 rfl).2.2.load1 o s;have hv:vK l e i=kf op x y:=by
  rw[hval];unfold jM;rw[qhy h1,qhy h2,qhy (by show ¬op<=5;omega)];show kf op ((evV l e i).getD (Int.toNat (A:Int)) 0) ((evV l e i).getD (Int.toNat (B:Int)) 0)=_;rw[qhj,qhj,hgA,hgB]
 rw[hv];have qadd:=QW x y;have qsub:=FK hxl hyl;have qmul:=u_mul x y;have qand:=FJ hxl hyl;have qor:=u_or hxl hyl;have qxor:=u_xor hxl hyl;have E4:=st4.ext;have yes:∀b,∃m5,(ex Tryz.prog (N+i+1)).f 248 [.bool b] m4=some (uv (t01 b),m5)/\Ext m4 m5:=λb=>by
  obtain⟨v5,m5,y1,y2,rfl⟩:=yes_c (N+i) b m4;exact⟨m5,y1,y2⟩
 rcases (by omega:op=6\/op=7\/op=8\/op=9\/op=10\/op=11\/op=12\/op=13\/op=14\/op=15\/op=16\/op=17\/op=18\/op=19) with rfl | rfl | rfl | rfl | rfl | rfl | rfl | rfl | rfl | rfl | rfl | rfl | rfl | rfl
 .simp[-qz,-qw,a1,a2',qb,<-hm1,s1,l2,l3,l4,c1,d1,qmul];exact qf E4 (by simp[kf])
 .simp[-qz,-qw,a1,a2',qb,<-hm1,s1,l2,l3,l4,c1,d1,qadd];exact qf E4 (by simp[kf])
 .simp[-qz,-qw,a1,a2',qb,<-hm1,s1,l2,l3,l4,c1,d1,qsub];exact qf E4 (by simp[kf])
 .obtain⟨sh,hsh⟩:=qi4 (y%64);have hshl:sh<64:=by rw[hsh];exact Nat.mod_lt _ (by omega)
  have qrem:ze .rem (uv y) (.int .u64 64)=some (uv sh):=by rw[hsh];exact qdq (a:=y) (b:=64) (by omega)
  have h2o:kf 9 x y=x*2^sh%18446744073709551616:=by rw[hsh];rfl
  rw[h2o];simp[-qz,-qw,a1,a2',qb,<-hm1,s1,l2,l3,l4,c1,d1];refine qq (c:=qat) rfl (Ret m _) (λj t m'=>m'=m4/\Tm.get 8 t=uv (x*2^j%18446744073709551616)/\Tm.get 9 t=uv y/\Tm.get 10 t=uv j) sh (by omega)
   ⟨rfl,by simp[Nat.mod_eq_of_lt hxl],by simp,by simp⟩ (λj t m' k hj hI hk=>?_)
  obtain⟨rfl,t8,t9,t10⟩:=hI;by_cases hjl:j<sh
  .have hd:=dlt hjl;have q1:=QW (x*2^j%18446744073709551616) (x*2^j%18446744073709551616);rw[qaz]at q1;have q2:ze .add (uv j) (.int .u64 1)=some (uv (j+1)):=by have:=QW j 1;rwa [Nat.mod_eq_of_lt (by omega)]at this
   simp[-qz,-qw,t8,t9,t10,qrem,hd,q1,q2];exact hk hjl _ _ ⟨rfl,by simp,by simp[t9],by simp⟩
  .obtain rfl:j=sh:=by omega
   have hd:((j:Int)<(j:Int))=False:=qi0 (by omega);simp[-qz,-qw,t8,t9,t10,qrem,hd];exact qf E4 (by simp)
 .obtain⟨sh,hsh⟩:=qi4 (y%64);have hshl:sh<64:=by rw[hsh];exact Nat.mod_lt _ (by omega)
  have qrem:ze .rem (uv y) (.int .u64 64)=some (uv sh):=by rw[hsh];exact qdq (a:=y) (b:=64) (by omega)
  have h2o:kf 10 x y=x/2^sh:=by rw[hsh];rfl
  rw[h2o];simp[-qz,-qw,a1,a2',qb,<-hm1,s1,l2,l3,l4,c1,d1];refine qq (c:=qau) rfl (Ret m _) (λj t m'=>m'=m4/\Tm.get 8 t=uv (x/2^j)/\Tm.get 9 t=uv y/\Tm.get 11 t=uv j) sh (by omega)
   ⟨rfl,by simp,by simp,by simp⟩ (λj t m' k hj hI hk=>?_)
  obtain⟨rfl,t8,t9,t10⟩:=hI;by_cases hjl:j<sh
  .have hd:=dlt hjl;have hxj:x/2^j<=x:=Nat.div_le_self _ _;have q1:ze .quo (uv (x/2^j)) (.int .u64 2)=some (uv (x/2^(j+1))):=by have:=u_div (a:=x/2^j) (b:=2) (by omega) (by omega);rwa [GI]at this
   have q2:ze .add (uv j) (.int .u64 1)=some (uv (j+1)):=by have:=QW j 1;rwa [Nat.mod_eq_of_lt (by omega)]at this
   obtain⟨xj,hxj'⟩:=qi4 (x/2^j);obtain⟨xk,hxk'⟩:=qi4 (x/2^(j+1));rw[<-hxj',<-hxk']at q1;rw[<-hxj']at t8;simp[-qz,-qw,t8,t9,t10,qrem,hd,q1,q2];exact hk hjl _ _ ⟨rfl,by simp[hxk'],by simp[t9],by simp⟩
  .obtain rfl:j=sh:=by omega
   have hd:((j:Int)<(j:Int))=False:=qi0 (by omega);simp[-qz,-qw,t8,t9,t10,qrem,hd];exact qf E4 (by simp)
 .simp[-qz,-qw,a1,a2',qb,<-hm1,s1,l2,l3,l4,c1,d1,qand];exact qf E4 (by simp[kf])
 .simp[-qz,-qw,a1,a2',qb,<-hm1,s1,l2,l3,l4,c1,d1,qxor];exact qf E4 (by simp[kf])
 .simp[-qz,-qw,a1,a2',qb,<-hm1,s1,l2,l3,l4,c1,d1,qor];exact qf E4 (by simp[kf])
 .have hdec:decide ((x:Int)=(y:Int))=decide (x=y):=decide_eq_decide.2 Int.ofNat_inj;obtain⟨m5,y1,y2⟩:=yes (decide ((x:Int)=(y:Int)));simp[-qz,-qw,a1,a2',qb,<-hm1,s1,l2,l3,l4,c1,d1,y1];exact qf (E4.trans y2) (by simp[kf,hdec])
 .have hdec:decide ((x:Int)=(y:Int))=decide (x=y):=decide_eq_decide.2 Int.ofNat_inj;obtain⟨m5,y1,y2⟩:=yes (!decide ((x:Int)=(y:Int)));simp[-qz,-qw,a1,a2',qb,<-hm1,s1,l2,l3,l4,c1,d1,y1];exact qf (E4.trans y2) (by simp[kf,hdec])
 .obtain⟨m5,y1,y2⟩:=yes (decide (x<y));simp[-qz,-qw,a1,a2',qb,<-hm1,s1,l2,l3,l4,c1,d1,y1];exact qf (E4.trans y2) (by simp[kf])
 .obtain⟨m5,y1,y2⟩:=yes (decide (x<=y));simp[-qz,-qw,a1,a2',qb,<-hm1,s1,l2,l3,l4,c1,d1,y1];exact qf (E4.trans y2) (by simp[kf])
 .obtain⟨m5,y1,y2⟩:=yes (decide (y<x));simp[-qz,-qw,a1,a2',qb,<-hm1,s1,l2,l3,l4,c1,d1,y1];exact qf (E4.trans y2) (by simp[kf])
 .obtain⟨m5,y1,y2⟩:=yes (decide (y<=x));simp[-qz,-qw,a1,a2',qb,<-hm1,s1,l2,l3,l4,c1,d1,y1];exact qf (E4.trans y2) (by simp[kf])
end Go.Sx
namespace Go.Sx
open Go.Dx Go.Proofs
set_option maxRecDepth 10000
theorem FI (n:Nat)(b:Bool)(m:M):∃m5,(ex Tryz.prog (n+1)).f 220 [.bool b] m=some (uv (t01 b),m5)/\Ext m m5:=by
 obtain⟨v5,m5,y1,y2,rfl⟩:=qgh n b m;exact⟨m5,y1,y2⟩
theorem one_c (n:Nat)(op:Int){a:Nat}(ha:a<18446744073709551616)(m:M):CallV (ex Tryz.prog (n+2)) 169 [iv op,uv a] m (uv (xD op a)):=by
 refine qm dj0_ok (by simp) ?_;have qneg:=u_neg ha;have qnot:=u_not ha;by_cases h3:op=3
 .subst h3;simp[-qz,-qw,qneg];exact qf (Ext.refl _) (by simp[xD])
 by_cases h4:op=4
 .subst h4;simp[-qz,-qw,qnot];exact qf (Ext.refl _) (by simp[xD])
 obtain⟨m5,y1,y2⟩:=FI n (decide (a=0)) m;simp[-qz,-qw,h3,h4,y1];exact qf y2 (by simp[xD,h3,h4])
theorem VW {op:Int}(g:∀k:Int,6<=k->k<=18->¬op=k)(a b:Nat):kf op a b=t01 (decide (b<=a)):=by
 unfold kf;rw[qhy (g 6 (by omega) (by omega)),qhy (g 7 (by omega) (by omega)),qhy (g 8 (by omega) (by omega)),qhy (g 9 (by omega) (by omega)),qhy (g 10 (by omega) (by omega)),qhy (g 11 (by omega) (by omega)),qhy (g 12 (by omega) (by omega)),qhy (g 13 (by omega) (by omega)),qhy (g 14 (by omega) (by omega)),qhy (g 15 (by omega) (by omega)),qhy (g 16 (by omega) (by omega)),qhy (g 17 (by omega) (by omega)),qhy (g 18 (by omega) (by omega))]
theorem two_c (n:Nat)(op:Int){x y:Nat}(hxl:x<18446744073709551616)(hyl:y<18446744073709551616)(m:M):CallV (ex Tryz.prog (n+2)) 170 [iv op,uv x,uv y] m (uv (kf op x y)):=by
 refine qm dj1_ok (by simp) ?_;have qadd:=QW x y;have qsub:=FK hxl hyl;have qmul:=u_mul x y;have qand:=FJ hxl hyl;have qor:=u_or hxl hyl;have qxor:=u_xor hxl hyl;have qlow:=u_low hyl;have E:=Ext.refl m;have yes:=λb=>FI n b m;obtain⟨sh,hsh⟩:=qi4 (y%64);have hshl:sh<64:=by rw[hsh];exact Nat.mod_lt _ (by omega)
 rw[<-hsh]at qlow;have qshl:=u_shl (a:=x) hshl;have qshr:=u_shr (a:=x) hshl;obtain⟨r9,hr9⟩:=qi4 (x*2^sh%18446744073709551616);obtain⟨r10,hr10⟩:=qi4 (x/2^sh);rw[<-hr9]at qshl;rw[<-hr10]at qshr;have w9:IntKind.u64.wrap ((x:Int)*2^min sh IntKind.u64.bits)=(r9:Int):=by
  rw[show min sh IntKind.u64.bits=sh from Nat.min_eq_left (by show sh<=64;omega),IntKind.wrap_u64,hr9];exact (by rw[Int.natCast_emod,Int.natCast_mul,Int.natCast_pow];rfl)
 have w10:Int.fdiv (x:Int) (2^min sh IntKind.u64.bits)=(r10:Int):=by
  rw[show min sh IntKind.u64.bits=sh from Nat.min_eq_left (by show sh<=64;omega),hr10,show ((2:Int)^sh)=((2^sh:Nat):Int) by push_cast;rfl,Int.ofNat_fdiv]
 have e9:kf 9 x y=r9:=by rw[hr9,hsh];rfl
 have e10:kf 10 x y=r10:=by rw[hr10,hsh];rfl
 by_cases h6:op=6
 .subst h6;simp[-qz,-qw,qmul];exact qf E (by simp[kf])
 by_cases h7:op=7
 .subst h7;simp[-qz,-qw,qadd];exact qf E (by simp[kf])
 by_cases h8:op=8
 .subst h8;simp[-qz,-qw,qsub];exact qf E (by simp[kf])
 by_cases h9:op=9
 .subst h9;rw[e9];simp[-qz,-qw,qlow];exact qf E (by simp[w9])
 by_cases h10:op=10
 .subst h10;rw[e10];simp[-qz,-qw,qlow];exact qf E (by simp[w10])
 by_cases h11:op=11
 .subst h11;simp[-qz,-qw,qand];exact qf E (by simp[kf])
 by_cases h12:op=12
 .subst h12;simp[-qz,-qw,qxor];exact qf E (by simp[kf])
 by_cases h13:op=13
 .subst h13;simp[-qz,-qw,qor];exact qf E (by simp[kf])
 by_cases h14:op=14
 .subst h14;have hdec:decide ((x:Int)=(y:Int))=decide (x=y):=decide_eq_decide.2 Int.ofNat_inj;obtain⟨m5,y1,y2⟩:=yes (decide ((x:Int)=(y:Int)));simp[-qz,-qw,y1];exact qf y2 (by simp[kf,hdec])
 by_cases h15:op=15
 .subst h15;have hdec:decide ((x:Int)=(y:Int))=decide (x=y):=decide_eq_decide.2 Int.ofNat_inj;obtain⟨m5,y1,y2⟩:=yes (!decide ((x:Int)=(y:Int)));simp[-qz,-qw,y1];exact qf y2 (by simp[kf,hdec])
 by_cases h16:op=16
 .subst h16;obtain⟨m5,y1,y2⟩:=yes (decide (x<y));simp[-qz,-qw,y1];exact qf y2 (by simp[kf])
 by_cases h17:op=17
 .subst h17;obtain⟨m5,y1,y2⟩:=yes (decide (x<=y));simp[-qz,-qw,y1];exact qf y2 (by simp[kf])
 by_cases h18:op=18
 .subst h18;obtain⟨m5,y1,y2⟩:=yes (decide (y<x));simp[-qz,-qw,y1];exact qf y2 (by simp[kf])
 obtain⟨m5,y1,y2⟩:=yes (decide (y<=x));simp[-qz,-qw,h6,h7,h8,h9,h10,h11,h12,h13,h14,h15,h16,h17,h18,y1];have hel:=VW (op:=op) (λk k1 k2=>?_) x y
 .exact qf y2 (by simp[hel])
 rcases (by omega:k=6\/k=7\/k=8\/k=9\/k=10\/k=11\/k=12\/k=13\/k=14\/k=15\/k=16\/k=17\/k=18) with rfl | rfl | rfl | rfl | rfl | rfl | rfl | rfl | rfl | rfl | rfl | rfl | rfl<;>assumption
def grR (v:List Nat)(n:Nat):List Value:=v.map (λx=>uv x)++List.replicate (n-v.length) (uv 0)
theorem qem {v:List Nat}{n:Nat}(h:v.length<=n):(grR v n).length=n:=by unfold grR;simp;omega
theorem KR {v:List Nat}{n i:Nat}(h:i<v.length):(grR v n)[i]?=some (uv (v.getD i 0)):=by
 unfold grR;rw[qhk (by simpa using h),qhm,qh5 h,List.getD_eq_getElem?_getD,qh5 h];rfl
theorem qen {v:List Nat}{n:Nat}(x:Nat)(h:v.length<n):(grR v n).set v.length (uv x)=grR (v++[x]) n:=by
 unfold grR;rw[List.set_append_right _ _ (by simp),List.length_map,Nat.sub_self,show n-v.length=(n-(v++[x]).length)+1 by simp;omega,List.replicate_succ,List.set_cons_zero,List.map_append,List.append_assoc];rfl
theorem YP (n:Nat):((List.range n).flatMap λ_=>[zU])=grR [] n:=by
 unfold grR;rw[List.map_nil,List.nil_append,List.length_nil,Nat.sub_zero]
 induction n with
 | zero=>rfl
 | succ n ih=>rw[List.range_succ,List.flatMap_append,ih,List.replicate_succ'];rfl
set_option maxRecDepth 10000 in
theorem qgk (l:List U)(e:List Nd)(ed ld:Value)(hlen:e.length<=65536)(h0:0<e.length)(hok:∀(i:Nat) n,e[i]?=some n->okN l.length i n=true)(N:Nat)(m:M)(hm:m.base<=m.n)(hed:Rd m ed 4 qv e)(hld:Rd m ld 1 qS l) :
  CallV (ex Tryz.prog (N+3)) 111 [ed,ld] m (uv (vK l e (e.length-1))):=by
 refine qm dg4_ok (by simp) ?_;obtain⟨n,hn⟩:=qi4 (e.length);rw[<-hn]at hlen h0;have mk:=ya (n:=n) (e:=1) (bytes:=8) (zs:=[zU]) rfl (by omega) (by unfold wk;omega) (by omega) m;rw[YP]at mk;have st1:=(St.nil hm (Ext.refl m)).row (grR [] n);obtain⟨m1,hm1⟩:=qi4 (Dx.newRow m (grR [] n));rw[<-hm1]at st1 mk;have hll:wB ed=some (.int .i64 (n:Int)):=by rw[hn];exact hed.len
 rw[<-hn];simp[hll,mk];refine qq (c:=qak) rfl (Ret m _) (λi t m'=>St m m' [(m.n,grR (evV l e i) n)]/\Tm.get 5 t=.slice (some ⟨m.n,0,some 3⟩) n n/\Tm.get 1 t=ld/\Tm.get 11 t=ed/\Tm.get 12 t=iv n/\Tm.get 13 t=iv i) n (by omega)
  ⟨st1,by simp;rfl,by simp,by simp,by simp,by simp⟩ (λi t m' k hi hI hk=>?_)
 obtain⟨st,t5,t1,t11,t12,t13⟩:=hI;by_cases hil:i<n
 .have hd:=dlt hil;obtain⟨nd,hnd⟩:∃r,e[i]?=some r:=⟨_,qh5 (by omega)⟩;have hokn:=hok i nd hnd;have hval:=FM l e hnd;have hevl:=yz l e i;have hnext:evV l e (i+1)=evV l e i++[jM l (evV l e i) nd]:=by
   conv=>lhs;unfold evV
   rw[hnd]
  have ⟨a1,a2,_⟩:=hed.at hnd;have a2':=a2 m' st.sees;have st1:=st.row [zI,zU,zI,zI];obtain⟨m1,hm1⟩:=qi4 (Dx.newRow m' [zI,zU,zI,zI]);rw[<-hm1]at st1;obtain⟨m2,s1,s2,s3,s4⟩:=st1.fill 0 rfl (n:=4) (l':=qv nd) rfl rfl (by simp[qv,okC]);have s2':St m m2 [(m'.n,qv nd),(m.n,grR (evV l e i) n)]:=s2;have l2:∀o s,load1 m2 ⟨m'.n,o,s⟩=(qv nd)[o]?:=λo s=>(s2'.get 0 rfl).2.2.load1 o s;have g2:∀o s,load1 m2 ⟨m.n,o,s⟩=(grR (evV l e i) n)[o]?:=λo s=>(s2'.get 1 rfl).2.2.load1 o s;have ni:=qK (i:=i) (by omega);have ix:∀j,j<n->wJ 1 (.slice (some ⟨m.n,0,some 3⟩) n n) (.int .i64 (j:Int))=some (.pointer (some ⟨m.n,j,none⟩)):=λj hj=>by have:=KS (e:=1) (c:=3) m.n n j hj;rwa [Nat.mul_one]at this
  have ixi:=ix i hil;have hset:∀x,x=jM l (evV l e i) nd->(grR (evV l e i) n).set i (uv x)=grR (evV l e (i+1)) n:=λx hx=>by
   have:=qen (v:=evV l e i) (n:=n) x (by omega);rw[hevl]at this;rw[this,hnext,hx]
  have hgl:i<(grR (evV l e i) n).length:=by rw[qem (by omega)];exact hil
  obtain⟨op,val,na,nb⟩:=nd;simp only[qv]at a2' s1 l2;have S2:=s2'.sees;by_cases h1:op=1
  .subst h1;obtain⟨m3,w1,w2,w3,w4⟩:=s2'.store 1 rfl (o:=i) (v:=uv val.1) hgl rfl;have w2':St m m3 [(m.n,grR (evV l e (i+1)) n)]:=by
    have:=w2.sub (σ':=[(m.n,(grR (evV l e i) n).set i (uv val.1))]) (by simp) (by simp)
    rwa [hset val.1 (by unfold jM;rw[qhz rfl])]at this
   simp[t5,t11,t12,t13,hd,a1,a2',qb,<-hm1,s1,l2,ixi,w1,ni];exact hk hil _ _ ⟨w2',by simp[t5],by simp[t1],by simp[t11],by simp[t12],by simp⟩
  by_cases h2:op=2
  .subst h2;have hkk:=qi2 ((gx (k:=l.length) (i:=i) (n:=⟨2,val,na,nb⟩) rfl) ▸ hokn);obtain⟨w,hw⟩:∃r,l[val.1]?=some r:=⟨_,qh5 hkk.2.1⟩;have hww:wAt l val.1=w.1:=by unfold wAt;rw[hw];rfl
   have ⟨b1,_,b3⟩:=(hld.sees S2).at hw;have b1':=(idx_u 1 ld val.1).trans b1;have hx:∀s,load1 m2 ⟨(adr 1 ld val.1).block,(adr 1 ld val.1).off,s⟩=some (uv w.1):=λs=>b3 m2 0 s S2.self (by simp[qS]);have hx':load1 m2 (adr 1 ld val.1)=some (uv w.1):=hx _;obtain⟨m3,w1,w2,w3,w4⟩:=s2'.store 1 rfl (o:=i) (v:=uv w.1) hgl rfl;have w2':St m m3 [(m.n,grR (evV l e (i+1)) n)]:=by
    have:=w2.sub (σ':=[(m.n,(grR (evV l e i) n).set i (uv w.1))]) (by simp) (by simp)
    rwa [hset w.1 (by unfold jM;rw[qhy (by simp),qhz rfl];exact hww.symm)]at this
   simp[t5,t1,t11,t12,t13,hd,a1,a2',qb,<-hm1,s1,l2,b1',hx',ixi,w1,ni];exact hk hil _ _ ⟨w2',by simp[t5],by simp[t1],by simp[t11],by simp[t12],by simp⟩
  have hA':0<=na/\na<i:=by
   by_cases h3:3<=op/\op<=5
   .have:=qi2 ((xC (k:=l.length) (i:=i) (n:=⟨op,val,na,nb⟩) h3.1 h3.2) ▸ hokn);exact⟨this.1,this.2.1⟩
   .have:=qi2 ((zR (k:=l.length) (i:=i) (n:=⟨op,val,na,nb⟩) h1 h2 h3) ▸ hokn);exact⟨this.1,this.2.1⟩
  obtain⟨A,rfl⟩:∃A:Nat,na=A:=⟨na.toNat,by omega⟩;have hA:A<i:=by omega
  obtain⟨x,hx⟩:=qi4 (vK l e A);have hxl:x<18446744073709551616:=by rw[hx];exact gN l e A
  have hgA:(evV l e i).getD A 0=x:=by rw[hx];exact fS l e hA
  have ixA:=ix A (by omega);have gA:∀s,load1 m2 ⟨m.n,A,s⟩=some (uv x):=λs=>by rw[g2,KR (by omega),hgA]
  by_cases h3:3<=op/\op<=5
  .have hv:jM l (evV l e i) ⟨op,val,(A:Int),nb⟩=xD op x:=by
    unfold jM;rw[qhy h1,qhy h2,qhz h3.2];show xD op ((evV l e i).getD (Int.toNat (A:Int)) 0)=_;rw[qhj,hgA]
   obtain⟨v3,m3',c1,c2,c3,rfl⟩:=qZ (one_c N op hxl (ql m2));obtain⟨m3,hm3⟩:=qi4 (behind m2 m3');rw[<-hm3]at c3;have st3:=s2'.step c3;obtain⟨y,hy⟩:=qi4 (xD op x);rw[<-hy]at c1 hv;obtain⟨m4',w1,w1',w2,w3,w4⟩:=st3.storeAny 1 rfl (o:=i) (v:=uv y) hgl rfl;obtain⟨m4,hm4⟩:=qi4 (behind m3 m4');rw[<-hm4]at w2;have w2':St m m4 [(m.n,grR (evV l e (i+1)) n)]:=by
    have:=w2.sub (σ':=[(m.n,(grR (evV l e i) n).set i (uv y))]) (by simp) (by simp)
    rwa [hset y hv.symm]at this
   have h5:(op<=5)=True:=qi1 h3.2;simp[t5,t11,t12,t13,hd,a1,a2',qb,<-hm1,s1,l2,h1,h2,h5,ixi,ixA,gA,c1,<-hm3,w1,<-hm4,ni];exact hk hil _ _ ⟨w2',by simp[t5],by simp[t1],by simp[t11],by simp[t12],by simp⟩
  have hkk:=qi2 ((zR (k:=l.length) (i:=i) (n:=⟨op,val,(A:Int),nb⟩) h1 h2 h3) ▸ hokn);obtain⟨-,-,hb0,hbi,h6,h19,-⟩:=hkk;simp only at hb0 hbi h6 h19;obtain⟨B,rfl⟩:∃B:Nat,nb=B:=⟨nb.toNat,by omega⟩;have hB:B<i:=by omega
  obtain⟨y,hy⟩:=qi4 (vK l e B);have hyl:y<18446744073709551616:=by rw[hy];exact gN l e B
  have hgB:(evV l e i).getD B 0=y:=by rw[hy];exact fS l e hB
  have ixB:=ix B (by omega);have gB:∀s,load1 m2 ⟨m.n,B,s⟩=some (uv y):=λs=>by rw[g2,KR (by omega),hgB]
  have hv:jM l (evV l e i) ⟨op,val,(A:Int),(B:Int)⟩=kf op x y:=by
   unfold jM;rw[qhy h1,qhy h2,qhy (by show ¬op<=5;omega)];show kf op ((evV l e i).getD (Int.toNat (A:Int)) 0) ((evV l e i).getD (Int.toNat (B:Int)) 0)=_;rw[qhj,qhj,hgA,hgB]
  obtain⟨v3,m3',c1,c2,c3,rfl⟩:=qZ (two_c N op hxl hyl (ql m2));obtain⟨m3,hm3⟩:=qi4 (behind m2 m3');rw[<-hm3]at c3;have st3:=s2'.step c3;obtain⟨z,hz⟩:=qi4 (kf op x y);rw[<-hz]at c1 hv;obtain⟨m4',w1,w1',w2,w3,w4⟩:=st3.storeAny 1 rfl (o:=i) (v:=uv z) hgl rfl;obtain⟨m4,hm4⟩:=qi4 (behind m3 m4');rw[<-hm4]at w2;have w2':St m m4 [(m.n,grR (evV l e (i+1)) n)]:=by
   have:=w2.sub (σ':=[(m.n,(grR (evV l e i) n).set i (uv z))]) (by simp) (by simp)
   rwa [hset z hv.symm]at this
  have h5:(op<=5)=False:=qi0 (by omega);simp[t5,t11,t12,t13,hd,a1,a2',qb,<-hm1,s1,l2,h1,h2,h5,ixi,ixA,gA,ixB,gB,c1,<-hm3,w1,<-hm4,ni];exact hk hil _ _ ⟨w2',by simp[t5],by simp[t1],by simp[t11],by simp[t12],by simp⟩
 .obtain rfl:i=n:=by omega
  have hd:((i:Int)<(i:Int))=False:=qi0 (by omega);have hs:IntKind.i64.wrap ((i:Int)-1)=((i-1:Nat):Int):=by rw[wrap64 _ (by omega) (by omega)];omega
  have hevl:=yz l e i;have ixi:=KS (e:=1) (c:=3) m.n i (i-1) (by omega);rw[Nat.mul_one]at ixi;have gg:∀s,load1 m' ⟨m.n,i-1,s⟩=some (uv (vK l e (i-1))):=λs=>by rw[(st.get 0 rfl).2.2.load1,KR (by omega),fS l e (by omega)]
  simp[t5,t12,t13,hd,wB,hs,ixi,gg];exact qf st.ext (by simp)
def rgR (n:Nat)(f:Nat->Value):List Value:=(List.range n).map f
theorem dJ (n:Nat)(f:Nat->Value):(rgR n f).length=n:=by unfold rgR;simp
theorem yG {n j:Nat}(f:Nat->Value)(h:j<n):(rgR n f)[j]?=some (f j):=by unfold rgR;rw[qhm,List.getElem?_range h];rfl
theorem dK {n j:Nat}{f g:Nat->Value}{v:Value}(hne:∀k,k≠j->g k=f k)(hj:g j=v):(rgR n f).set j v=rgR n g:=by
 refine List.ext_getElem (by simp[rgR]) λi h1 h2=>?_;rw[List.getElem_set];by_cases h:j=i
 .subst h;rw[qhz rfl];simp[rgR,hj]
 .rw[qhy h];simp[rgR,hne i (Ne.symm h)]
theorem Fy (n:Nat)(v:Value):((List.range n).flatMap λ_=>[v])=rgR n λ_=>v:=by
 unfold rgR
 induction n with
 | zero=>rfl
 | succ n ih=>rw[List.range_succ,List.flatMap_append,ih,List.map_append];rfl
theorem qgi (n:Nd)(j:Nat):gL n j<=2:=by unfold gL;split<;>split<;>omega
theorem dx (e:List Nd)(j:Nat):∀i,wG e i j<=2*i
 | 0=>by unfold wG;simp
 | i+1=>by
  cases h:e[i]? with
  | some n=>rw[jY h];have:=dx e j i;have:=qgi n j;omega
  | none =>
   have hl:=List.getElem?_eq_none_iff.1 h;have:=dx e j i;unfold wG at this ⊢;rw[List.take_of_length_le (by omega)]at this ⊢;omega
theorem QY {op:Int}{val:U}{A B:Nat}(h:6<=op)(j:Nat):gL ⟨op,val,(A:Int),(B:Int)⟩ j=(if A=j then 1 else 0)+(if B=j then 1 else 0):=by
 unfold gL;have e1:(3<=op/\(A:Int)=(j:Int))=(A=j):=by apply propext;omega
 have e2:(6<=op/\(B:Int)=(j:Int))=(B=j):=by apply propext;omega
 simp only[e1,e2]
theorem QX {op nb:Int}{val:U}{A:Nat}(h:3<=op)(h':¬6<=op)(j:Nat):gL ⟨op,val,(A:Int),nb⟩ j=if A=j then 1 else 0:=by
 unfold gL;have e1:(3<=op/\(A:Int)=(j:Int))=(A=j):=by apply propext;omega
 simp only[e1];have e2:(6<=op/\nb=(j:Int))=False:=qi0 λhc=>h' hc.1;simp only[e2,if_false,Nat.add_zero]
theorem Kr {op na nb:Int}{val:U}(h:¬3<=op)(j:Nat):gL ⟨op,val,na,nb⟩ j=0:=by
 unfold gL;have e1:(3<=op/\na=(j:Int))=False:=qi0 λhc=>h hc.1;have e2:(6<=op/\nb=(j:Int))=False:=qi0 λhc=>h (by have:=hc.1;omega);simp only[e1,e2,if_false,Nat.add_zero]
set_option maxRecDepth 10000 in
theorem once_c (k:Nat)(e:List Nd)(ed:Value)(hlen:e.length<=65536)(h0:0<e.length)(hok:∀(i:Nat) n,e[i]?=some n->okN k i n=true)(N:Nat)(m:M)(hm:m.base<=m.n)(hed:Rd m ed 4 qv e) :
  CallV (ex Tryz.prog (N+1)) 147 [ed] m (.bool (we k e)):=by
 refine qm dh9_ok (by simp) ?_;obtain⟨n,hn⟩:=qi4 (e.length);rw[<-hn]at hlen h0;obtain⟨n1,hn1⟩:∃n1,n=n1+1:=⟨n-1,by omega⟩;have mk:=ya (n:=n) (e:=1) (bytes:=8) (zs:=[zI]) rfl (by omega) (by unfold wk;omega) (by omega) m;rw[Fy]at mk;have hz:rgR n (λ_=>zI)=rgR n λj=>iv (wG e 0 j):=rfl;rw[hz]at mk;have st1:=(St.nil hm (Ext.refl m)).row (rgR n λj=>iv (wG e 0 j));obtain⟨m1,hm1⟩:=qi4 (Dx.newRow m (rgR n λj=>iv (wG e 0 j)));rw[<-hm1]at st1 mk;have hll:wB ed=some (.int .i64 (n:Int)):=by rw[hn];exact hed.len
 have ix:∀j,j<n->wJ 1 (.slice (some ⟨m.n,0,some 3⟩) n n) (.int .i64 (j:Int))=some (.pointer (some ⟨m.n,j,none⟩)):=λj hj=>by have:=KS (e:=1) (c:=3) m.n n j hj;rwa [Nat.mul_one]at this
 simp[hll,mk];refine qq (c:=qaq) rfl (Ret m _) (λi t m'=>St m m' [(m.n,rgR n λj=>iv (wG e i j))]/\Tm.get 3 t=.slice (some ⟨m.n,0,some 3⟩) n n/\Tm.get 0 t=ed/\Tm.get 11 t=ed/\Tm.get 12 t=iv n/\Tm.get 13 t=iv i) n (by omega)
  ⟨st1,by simp;rfl,by simp,by simp,by simp,by simp⟩ (λi t m' k' hi hI hk=>?_)
 obtain⟨st,t3,t0,t11,t12,t13⟩:=hI;by_cases hil:i<n
 .have hd:=dlt hil;obtain⟨nd,hnd⟩:∃r,e[i]?=some r:=⟨_,qh5 (by omega)⟩;have hokn:=hok i nd hnd;have hsucc:=jY hnd;have ⟨a1,a2,_⟩:=hed.at hnd;have a2':=a2 m' st.sees;have st1:=st.row [zI,zU,zI,zI];obtain⟨m1,hm1⟩:=qi4 (Dx.newRow m' [zI,zU,zI,zI]);rw[<-hm1]at st1;obtain⟨m2,s1,s2,s3,s4⟩:=st1.fill 0 rfl (n:=4) (l':=qv nd) rfl rfl (by simp[qv,okC]);have s2':St m m2 [(m'.n,qv nd),(m.n,rgR n λj=>iv (wG e i j))]:=s2;have l2:∀o s,load1 m2 ⟨m'.n,o,s⟩=(qv nd)[o]?:=λo s=>(s2'.get 0 rfl).2.2.load1 o s;have g2:∀o s,load1 m2 ⟨m.n,o,s⟩=(rgR n λj=>iv (wG e i j))[o]?:=λo s=>(s2'.get 1 rfl).2.2.load1 o s;have ni:=qK (i:=i) (by omega);obtain⟨op,val,na,nb⟩:=nd;simp only[qv]at a2' s1 l2;have S2:=s2'.sees;by_cases h3:3<=op
  .have hA':0<=na/\na<i:=by
    by_cases h3:3<=op/\op<=5
    .have:=qi2 ((xC (k:=k) (i:=i) (n:=⟨op,val,na,nb⟩) h3.1 h3.2) ▸ hokn);exact⟨this.1,this.2.1⟩
    .have:=qi2 ((zR (k:=k) (i:=i) (n:=⟨op,val,na,nb⟩) (show ¬op=1 by omega) (show ¬op=2 by omega) h3) ▸ hokn);exact⟨this.1,this.2.1⟩
   obtain⟨A,rfl⟩:∃A:Nat,na=A:=⟨na.toNat,by omega⟩;have hA:A<i:=by omega
   have ixA:=ix A (by omega);have gA:∀s,load1 m2 ⟨m.n,A,s⟩=some (iv (wG e i A)):=λs=>by rw[g2,yG _ (by omega)]
   have nA:=qK (i:=wG e i A) (by have:=dx e A i;omega);obtain⟨cA,hcA⟩:=qi4 (wG e i A);rw[<-hcA]at gA nA;obtain⟨cA1,hcA1⟩:=qi4 (cA+1);rw[<-hcA1]at nA;obtain⟨m3,w1,w2,w3,w4⟩:=s2'.store 1 rfl (o:=A) (v:=iv (cA1:Int)) (by rw[dJ];omega) rfl;rw[dK (g:=λj=>iv (wG e i j+(if A=j then 1 else 0):Nat)) (λq hq=>by simp[Ne.symm hq]) (by simp[hcA1,hcA])]at w2
   have w2':St m m3 [(m'.n,qv ⟨op,val,(A:Int),nb⟩),(m.n,rgR n λj=>iv (wG e i j+(if A=j then 1 else 0):Nat))]:=w2
   have l3:∀o s,load1 m3 ⟨m'.n,o,s⟩=(qv ⟨op,val,(A:Int),nb⟩)[o]?:=λo s=>(w2'.get 0 rfl).2.2.load1 o s;simp only[qv]at l3;by_cases h6:6<=op
   .have hkk:=qi2 ((zR (k:=k) (i:=i) (n:=⟨op,val,(A:Int),nb⟩) (show ¬op=1 by omega) (show ¬op=2 by omega) (show ¬(3<=op/\op<=5) by omega)) ▸ hokn);obtain⟨-,-,hb0,hbi,-,h19,-⟩:=hkk;simp only at hb0 hbi h19;obtain⟨B,rfl⟩:∃B:Nat,nb=B:=⟨nb.toNat,by omega⟩;have hB:B<i:=by omega
    have ixB:=ix B (by omega);obtain⟨cB,hcB⟩:=qi4 (wG e i B+(if A=B then 1 else 0))
    have gB:∀s,load1 m3 ⟨m.n,B,s⟩=some (iv cB):=λs=>by rw[hcB,(w2'.get 1 rfl).2.2.load1,yG _ (by omega)]
    have nB:=qK (i:=cB) (by rw[hcB];have:=dx e B i;split<;>omega);obtain⟨cB1,hcB1⟩:=qi4 (cB+1);rw[<-hcB1]at nB;obtain⟨m4,x1,x2,x3,x4⟩:=w2'.store 1 rfl (o:=B) (v:=iv (cB1:Int)) (by rw[dJ];omega) rfl;rw[dK (g:=λj=>iv (wG e (i+1) j)) (λq hq=>by rw[hsucc,QY h6,qhy (Ne.symm hq),Nat.add_zero]) (by rw[hsucc,QY h6,qhz rfl,hcB1,hcB,Nat.add_assoc])]at x2;have x2':St m m4 [(m.n,rgR n λj=>iv (wG e (i+1) j))]:=x2.sub (by simp) (by simp);have e3:(3<=op)=True:=qi1 h3;have e6:(6<=op)=True:=qi1 h6;simp[t3,t11,t12,t13,hd,a1,a2',qb,<-hm1,s1,l2,e3,ixA,gA,nA,w1,l3,e6,ixB,gB,nB,x1,ni];exact hk hil _ _ ⟨x2',by simp[t3],by simp[t0],by simp[t11],by simp[t12],by simp⟩
   .have e3:(3<=op)=True:=qi1 h3;have e6:(6<=op)=False:=qi0 h6;have hfe:(λj=>iv (wG e i j+(if A=j then 1 else 0):Nat))=λj=>iv (wG e (i+1) j):=funext λj=>by rw[hsucc,QX h3 h6]
    rw[hfe]at w2';have x2':St m m3 [(m.n,rgR n λj=>iv (wG e (i+1) j))]:=w2'.sub (by simp) (by simp);simp[t3,t11,t12,t13,hd,a1,a2',qb,<-hm1,s1,l2,e3,ixA,gA,nA,w1,l3,e6,ni];exact hk hil _ _ ⟨x2',by simp[t3],by simp[t0],by simp[t11],by simp[t12],by simp⟩
  .have e3:(3<=op)=False:=qi0 h3;have e6:(6<=op)=False:=qi0 (by omega);have hfe:(λj=>iv (wG e i j))=λj=>iv (wG e (i+1) j):=funext λj=>by rw[hsucc,Kr h3,Nat.add_zero]
   rw[hfe]at s2';have x2':St m m2 [(m.n,rgR n λj=>iv (wG e (i+1) j))]:=s2'.sub (by simp) (by simp);simp[t11,t12,t13,hd,a1,a2',qb,<-hm1,s1,l2,e3,e6,ni];exact hk hil _ _ ⟨x2',by simp[t3],by simp[t0],by simp[t11],by simp[t12],by simp⟩
 .obtain rfl:i=n:=by omega
  have hd:((i:Int)<(i:Int))=False:=qi0 (by omega);simp[t3,t12,t13,hd,wB];obtain⟨c,hc⟩:=qi4 (λj=>wG e i j);have hcj:∀j,wG e i j=c j:=λj=>by rw[hc]
  have gg:∀j s,j<i->load1 m' ⟨m.n,j,s⟩=some (iv (c j)):=λj s hj=>by rw[(st.get 0 rfl).2.2.load1,yG _ hj,hcj]
  refine qq (c:=qar) rfl (Ret m _) (λj t m2=>m2=m'/\(∀q,q<j->c q=if q<i-1 then 1 else 0)/\Tm.get 0 t=ed/\Tm.get 38 t=.slice (some ⟨m.n,0,some 3⟩) i i/\Tm.get 39 t=iv i/\Tm.get 40 t=iv j) i (by omega)
   ⟨rfl,λq hq=>absurd hq (qhv _),by simp[t0],by simp[t3],by simp,by simp⟩ (λj t m2 k2 hj hJ hk2=>?_)
  obtain⟨rfl,hq,t0,t38,t39,t40⟩:=hJ;by_cases hji:j<i
  .have hd:=dlt hji;have ixj:=ix j hji;have gj:=λs=>gg j s hji;have nj:=qK (i:=j) (by omega);have hs:IntKind.i64.wrap ((i:Int)-1)=(n1:Int):=by rw[wrap64 _ (by omega) (by omega)];omega
   have hfin:c j≠(if j<i-1 then 1 else 0)->we k e=false:=λh=>bd (j:=j) (by omega) (by rw[<-hn,hcj];exact h)
   obtain⟨cj,hcjj⟩:=qi4 (c j);rw[<-hcjj]at gj hfin;by_cases hj1:j<n1
   .have hd1:=dlt hj1;rw[qhz (by omega)]at hfin;by_cases h1:cj=1
    .subst h1;simp[t0,t38,t39,t40,hd,ixj,gj,hll,hs,hd1,nj];exact hk2 hji _ _ ⟨rfl,λq hq'=>by
      by_cases hqj:q=j
      .subst hqj;rw[qhz (by omega),<-hcjj]
      .exact hq q (by omega),by simp[t0],by simp[t38],by simp[t39],by simp⟩
    .have h1':((cj:Int)=1)=False:=qi0 (by omega);rw[hfin h1];simp[t0,t38,t39,t40,hd,ixj,gj,hll,hs,hd1,h1'];exact qf st.ext (by simp)
   .have hd1:((j:Int)<(n1:Int))=False:=qi0 (by omega);rw[qhy (by omega)]at hfin;by_cases h1:cj=0
    .subst h1;simp[t0,t38,t39,t40,hd,ixj,gj,hll,hs,hd1,nj];exact hk2 hji _ _ ⟨rfl,λq hq'=>by
      by_cases hqj:q=j
      .subst hqj;rw[qhy (by omega),<-hcjj]
      .exact hq q (by omega),by simp[t0],by simp[t38],by simp[t39],by simp⟩
    .rw[hfin h1];by_cases h2:cj=1
     .subst h2;simp[t0,t38,t39,t40,hd,ixj,gj,hll,hs,hd1];exact qf st.ext (by simp)
     .have h2':((cj:Int)=1)=False:=qi0 (by omega);have h2'':((1:Int)<(cj:Int))=True:=qi1 (by omega);have h2''':(1<cj)=True:=qi1 (by omega);simp[t0,t38,t39,t40,hd,ixj,gj,hll,hs,hd1,h2',h2''];exact qf st.ext (by simp)
  .obtain rfl:j=i:=by omega
   have hd:((j:Int)<(j:Int))=False:=qi0 (by omega);have hT:we k e=true:=by
    refine Qo (by omega) (by omega) hok (λq hq'=>?_) (λq=>?_)
    .rw[<-hn,hcj,hq q (by omega),qhz (by omega)];omega
    .rw[<-hn,hcj];by_cases hqj:q<j
     .rw[hq q hqj];split<;>omega
     .have:∀i',i'<=e.length->wG e i' q=0:=by
       intro i'
       induction i' with
       | zero=>intro _;rfl
       | succ i' ih =>
        intro hi';have hg:e[i']?=some e[i']:=qh5 (by omega);rw[jY hg,ih (by omega),FL (hok i' _ hg) (by omega)]
      rw[<-hcj,hn,this _ (qh8 _)];omega
   rw[hT];simp[t39,t40,hd];exact qf st.ext (by simp)
theorem qb7 {x:Ex}{kn kr:K}{ke:Nat->K}{t:Tm}{m:M}{nd:Nd}{i X:Nat}(l2:∀o s,load1 m ⟨X,o,s⟩=(qv nd)[o]?)(t6:Tm.get 6 t=.pointer (some ⟨X,0,none⟩))(t5:Tm.get 5 t=iv i){Q:Option Out->Prop}
  (H:∀t',Tm.get 7 t'=.bool (decide (0<=nd.a)&&decide (nd.a<i))->Tm.get 8 t'=.bool (decide (0<=nd.b)&&decide (nd.b<i))->Tm.get 6 t'=Tm.get 6 t->Tm.get 0 t'=Tm.get 0 t->Tm.get 1 t'=Tm.get 1 t->Tm.get 9 t'=Tm.get 9 t->Tm.get 10 t'=Tm.get 10 t->Tm.get 11 t'=Tm.get 11 t->Q (kn t' m)) :
  Q (wy qbu x kn ke kr t m):=by
 obtain⟨op,val,na,nb⟩:=nd;simp only[qv]at l2;simp only at H;by_cases h1:0<=na
 .have e1:(0<=na)=True:=qi1 h1;by_cases h2:0<=nb
  .have e2:(0<=nb)=True:=qi1 h2;simp[l2,t6,t5,e1,e2];exact H _ (by simp[e1]) (by simp[e2]) (by simp) (by simp) (by simp) (by simp) (by simp) (by simp)
  .have e2:(0<=nb)=False:=qi0 h2;simp[l2,t6,t5,e1,e2];exact H _ (by simp[e1]) (by simp[e2]) (by simp) (by simp) (by simp) (by simp) (by simp) (by simp)
 .have e1:(0<=na)=False:=qi0 h1;by_cases h2:0<=nb
  .have e2:(0<=nb)=True:=qi1 h2;simp[l2,t6,t5,e1,e2];exact H _ (by simp[e1]) (by simp[e2]) (by simp) (by simp) (by simp) (by simp) (by simp) (by simp)
  .have e2:(0<=nb)=False:=qi0 h2;simp[l2,t6,e1,e2];exact H _ (by simp[e1]) (by simp[e2]) (by simp) (by simp) (by simp) (by simp) (by simp) (by simp)
theorem GF {x:Ex}{kn kr:K}{ke:Nat->K}{t:Tm}{m:M}{nd:Nd}{k i X:Nat}(hk:k<1000000)(l2:∀o s,load1 m ⟨X,o,s⟩=(qv nd)[o]?)(t6:Tm.get 6 t=.pointer (some ⟨X,0,none⟩))(t1:Tm.get 1 t=iv k)
  (t7:Tm.get 7 t=.bool (decide (0<=nd.a)&&decide (nd.a<i))) (t8:Tm.get 8 t=.bool (decide (0<=nd.b)&&decide (nd.b<i))) {Q:Option Out->Prop}
  (H:∀t' a b,Tm.get 7 t'=.bool a->Tm.get 8 t'=.bool b->(a&&b)=okN k i nd->Tm.get 0 t'=Tm.get 0 t->Tm.get 1 t'=Tm.get 1 t->Tm.get 9 t'=Tm.get 9 t->Tm.get 10 t'=Tm.get 10 t->Tm.get 11 t'=Tm.get 11 t->Q (kn t' m)) :
  Q (qah x kn ke kr t m):=by
 obtain⟨op,val,na,nb⟩:=nd;simp only[qv]at l2;simp only at t7 t8;obtain⟨a,ha⟩:=qi4 ((decide (0<=na)&&decide (na<i)));obtain⟨b,hb⟩:=qi4 ((decide (0<=nb)&&decide (nb<i)));rw[<-ha]at t7;rw[<-hb]at t8;have cv:=yy k hk;by_cases h1:op=1
 .subst h1;simp[l2,t6];exact H _ _ _ (by simp;rfl) (by simp;rfl) (by rw[Fb rfl];simp) (by simp) (by simp) (by simp) (by simp) (by simp)
 by_cases h2:op=2
 .subst h2;by_cases h3:na=0
  .subst h3;simp[l2,t6,t1,cv];exact H _ _ _ (by simp;rfl) (by simp;rfl) (by rw[gx rfl];simp) (by simp) (by simp) (by simp) (by simp) (by simp)
  .simp[l2,t6,h3];exact H _ _ _ (by simp;rfl) (by simp;rfl) (by rw[gx rfl];simp[h3]) (by simp) (by simp) (by simp) (by simp) (by simp)
 by_cases h3:3<=op
 .have e3:(3<=op)=True:=qi1 h3;by_cases h5:op<=5
  .have e5:(op<=5)=True:=qi1 h5;by_cases h4:nb=0
   .subst h4;simp[l2,t6,h1,h2,e3,e5];exact H _ a (decide (val.1=0)) (by simp[t7]) (by simp) (by
     rw[xC h3 h5,ha,<-Bool.decide_and,<-Bool.decide_and];exact decide_eq_decide.2 (by simp[and_assoc])) (by simp) (by simp) (by simp) (by simp) (by simp)
   .simp[l2,t6,h1,h2,e3,e5,h4];exact H _ a false (by simp[t7]) (by simp) (by rw[xC h3 h5];simp[h4]) (by simp) (by simp) (by simp) (by simp) (by simp)
  .have e5:(op<=5)=False:=qi0 h5;have hno:=zR (k:=k) (i:=i) (n:=⟨op,val,na,nb⟩) h1 h2 (show ¬(3<=op/\op<=5) by omega);simp only at hno;have e6:(6<=op)=True:=qi1 (by omega);cases b with
   | false =>
    simp[l2,t6,t8,h1,h2,e3,e5];exact H _ a false (by simp[t7]) (by simp) (by
     rw[hno,Bool.and_false];refine (qhw λhc=>?_).symm;rw[qhx hc.2.2.1,qhx hc.2.2.2.1]at hb;cases hb) (by simp) (by simp) (by simp) (by simp) (by simp)
   | true =>
    have hb':0<=nb/\nb<i:=by
     have:=hb.symm;rw[qhb]at this;exact⟨qi2 this.1,qi2 this.2⟩
    by_cases h19:op<=19
    .have e19:(op<=19)=True:=qi1 h19;simp[l2,t6,t8,h1,h2,e3,e5,e6,e19];exact H _ a (decide (val.1=0)) (by simp[t7]) (by simp) (by
      rw[hno,ha,<-Bool.decide_and,<-Bool.decide_and];exact decide_eq_decide.2 ⟨λh=>⟨h.1.1,h.1.2,hb'.1,hb'.2,by omega,h19,h.2⟩,λh=>⟨⟨h.1,h.2.1⟩,h.2.2.2.2.2.2⟩⟩) (by simp) (by simp) (by simp) (by simp) (by simp)
    .have e19:(op<=19)=False:=qi0 h19;simp[l2,t6,t8,h1,h2,e3,e5,e6,e19];exact H _ a false (by simp[t7]) (by simp) (by rw[hno,Bool.and_false];exact (qhw λhc=>h19 hc.2.2.2.2.2.1).symm) (by simp) (by simp) (by simp) (by simp) (by simp)
 .have e3:(3<=op)=False:=qi0 h3;have e6:(6<=op)=False:=qi0 (by omega);have hno:=zR (k:=k) (i:=i) (n:=⟨op,val,na,nb⟩) h1 h2 (show ¬(3<=op/\op<=5) by omega);simp only at hno;have hF:okN k i ⟨op,val,na,nb⟩=false:=by rw[hno];exact qhw λhc=>by have:=hc.2.2.2.2.1;omega
  cases b with
  | false =>
   simp[l2,t6,t8,h1,h2,e3];exact H _ a false (by simp[t7]) (by simp) (by rw[hF,Bool.and_false]) (by simp) (by simp) (by simp) (by simp) (by simp)
  | true =>
   simp[l2,t6,t8,h1,h2,e3,e6];exact H _ a false (by simp[t7]) (by simp) (by rw[hF,Bool.and_false]) (by simp) (by simp) (by simp) (by simp) (by simp)
theorem vy (k:Nat)(hk:k<1000000)(e:List Nd)(ed:Value)(hle:e.length<=9223372036854775807)(N:Nat)(m:M)(hm:m.base<=m.n)(hed:Rd m ed 4 qv e) :
  CallV (ex Tryz.prog (N+2)) 90 [ed,iv k] m (.bool (we k e)):=by
 refine qm df0_ok (by simp) ?_;obtain⟨n,hn⟩:=qi4 (e.length);have hll:wB ed=some (.int .i64 (n:Int)):=by rw[hn];exact hed.len
 simp[hll];refine qq (c:=qag) rfl (Ret m _) (λi t m'=>St m m' []/\(∀(j:Nat) nd,j<i->e[j]?=some nd->okN k j nd=true)/\Tm.get 0 t=ed/\Tm.get 1 t=iv k/\Tm.get 9 t=ed/\Tm.get 10 t=iv n/\Tm.get 11 t=iv i) n (by omega)
  ⟨St.nil hm (Ext.refl m),λj nd hj=>absurd hj (qhv _),by simp,by simp,by simp,by simp,by simp⟩ (λi t m' k' hi hI hk'=>?_)
 obtain⟨st,hok,t0,t1,t9,t10,t11⟩:=hI;by_cases hil:i<n
 .have hd:=dlt hil;obtain⟨nd,hnd⟩:∃r,e[i]?=some r:=⟨_,qh5 (by omega)⟩;have ⟨a1,a2,_⟩:=hed.at hnd;have a2':=a2 m' st.sees;have st1:=st.row [zI,zU,zI,zI];obtain⟨m1,hm1⟩:=qi4 (Dx.newRow m' [zI,zU,zI,zI]);rw[<-hm1]at st1;obtain⟨m2,s1,s2,s3,s4⟩:=st1.fill 0 rfl (n:=4) (l':=qv nd) rfl rfl (by simp[qv,okC]);have s2':St m m2 [(m'.n,qv nd)]:=s2;have l2:∀o s,load1 m2 ⟨m'.n,o,s⟩=(qv nd)[o]?:=λo s=>(s2'.get 0 rfl).2.2.load1 o s;have s2'':St m m2 []:=s2'.sub (by simp) (by simp);have ni:=qK (i:=i) (by omega);simp[t9,t10,t11,hd,a1,a2',qb,<-hm1,s1,-qg9,-Gz];refine qb7 (i:=i) l2 (by simp) (by simp[t11]) (λt' u7 u8 u6 u0 u1 u9 u10 u11=>?_);simp[-qai];refine GF (i:=i) (k:=k) (X:=m'.n) hk l2 (by simp[u6]) (by simp[u1,t1]) u7 u8 (λt'' a b w7 w8 hab w0 w1 w9 w10 w11=>?_);simp[t0,t1,t9,t10,t11]at u0 u1 u9 u10 u11;rw[u0]at w0;rw[u1]at w1;rw[u9]at w9;rw[u10]at w10;rw[u11]at w11;cases hokn:okN k i nd with
  | true =>
   rw[hokn]at hab;rw[qhb]at hab;obtain⟨rfl,rfl⟩:=hab;simp[w7,w8,w11,ni];exact hk' hil _ _ ⟨s2'',λj nd' hj hnd'=>by
    by_cases hji:j=i
    .subst hji;rw[hnd]at hnd';cases hnd';exact hokn
    .exact hok j nd' (by omega) hnd',by simp[w0],by simp[w1],by simp[w9],by simp[w10],by simp⟩
  | false =>
   rw[hokn]at hab;rw[Jg hnd hokn];cases a with
   | false =>
    simp[w7];exact qf s2''.ext (by simp)
   | true =>
    rw[Bool.true_and]at hab;subst hab;simp[w7,w8];exact qf s2''.ext (by simp)
 .obtain rfl:i=n:=by omega
  have hd:((i:Int)<(i:Int))=False:=qi0 (by omega);by_cases hi0:i=0
  .subst hi0;rw[Qm hn.symm];simp[t0,t10,t11,hll];exact qf st.ext (by simp)
  .have hd0:((0:Int)<(i:Int))=True:=qi1 (by omega);have hd0':(0<i)=True:=qi1 (by omega);by_cases hil':i<=65536
   .have e1:((i:Int)<=65536)=True:=qi1 (by omega);obtain⟨v3,m3,c1,c2,rfl⟩:=once_c k e ed (by omega) (by omega) (λj nd hnd=>hok j nd (by have:=(qh7.1 hnd).1;omega) hnd) N m' st.sees.base (hed.sees st.sees);simp[t0,t10,t11,hd,hll,hd0',e1,c1];exact qf (st.ext.trans c2) (by simp)
   .have e1:((i:Int)<=65536)=False:=qi0 (by omega);rw[Qn (by omega)];simp[t0,t10,t11,hd,hll,hd0',e1];exact qf st.ext (by simp)
def usB (c:Nat->Nat):Nat->Value:=λj=>.bool (decide (0<c j))
theorem Kq {c d:Nat->Nat}{q:Nat}(h:c q=d q):usB c q=usB d q:=by unfold usB;rw[h]
theorem Xs {c:Nat->Nat}{q:Nat}(h:0<c q):usB c q=zT:=by unfold usB;rw[qhx h]
theorem vp (k:Nat)(hk:k<1000000)(e:List Nd)(ed:Value)(hle:e.length<=9223372036854775807)(N:Nat)(m:M)(hm:m.base<=m.n)(hed:Rd m ed 4 qv e) :
  CallV (ex Tryz.prog (N+1)) 115 [ed,iv k] m (.bool (we k e)):=by
 refine qm dg8_ok (by simp) ?_;obtain⟨n,hn⟩:=qi4 (e.length);have hll:wB ed=some (.int .i64 (n:Int)):=by rw[hn];exact hed.len
 by_cases hn0:n=0
 .rw[Qm (by omega)];subst hn0;simp[hll];exact qf (Ext.refl _) (by simp)
 have e0:((n:Int)=0)=False:=qi0 (by omega);by_cases hnl:65536<n
 .have e1:((65536:Int)<(n:Int))=True:=qi1 (by omega);rw[Qn (by omega)];simp[hll,hn0,e1];exact qf (Ext.refl _) (by simp)
 have e1:((65536:Int)<(n:Int))=False:=qi0 (by omega);obtain⟨n1,hn1⟩:∃n1,n=n1+1:=⟨n-1,by omega⟩;have mk:=ya (n:=n) (e:=1) (bytes:=1) (zs:=[zF]) rfl (by omega) (by unfold wk;omega) (by omega) m;rw[Fy]at mk;have hz:rgR n (λ_=>zF)=rgR n (usB (wG e 0)):=rfl;rw[hz]at mk;have st1:=(St.nil hm (Ext.refl m)).row (rgR n (usB (wG e 0)));obtain⟨m1,hm1⟩:=qi4 (Dx.newRow m (rgR n (usB (wG e 0))));rw[<-hm1]at st1 mk;have ix:∀j,j<n->wJ 1 (.slice (some ⟨m.n,0,some 3⟩) n n) (.int .i64 (j:Int))=some (.pointer (some ⟨m.n,j,none⟩)):=λj hj=>by have:=KS (e:=1) (c:=3) m.n n j hj;rwa [Nat.mul_one]at this
 have hs:IntKind.i64.wrap ((n:Int)-1)=(n1:Int):=by rw[wrap64 _ (by omega) (by omega)];omega
 have cv:=yy k hk;simp[hll,hn0,e1,mk];refine qq (c:=qal) rfl (Ret m _) (λi t m'=>St m m' [(m.n,rgR n (usB (wG e i)))]/\(∀(j:Nat) nd,j<i->e[j]?=some nd->okN k j nd=true)/\(∀j,wG e i j<=1)/\Tm.get 0 t=ed/\Tm.get 1 t=iv k/\Tm.get 5 t=.slice (some ⟨m.n,0,some 3⟩) n n/\Tm.get 6 t=iv i) n (by omega)
  ⟨st1,λj nd hj=>absurd hj (qhv _),λj=>by unfold wG;simp,by simp,by simp,by simp;rfl,by simp⟩ (λi t m' k' hi hI hk'=>?_)
 obtain⟨st,hok,hone,t0,t1,t5,t6⟩:=hI;by_cases hil:i<n
 .have hd:=dlt hil;obtain⟨nd,hnd⟩:∃r,e[i]?=some r:=⟨_,qh5 (by omega)⟩;have hsucc:=jY hnd;have ⟨a1,a2,_⟩:=hed.at hnd;have a2':=a2 m' st.sees;have st1:=st.row [zI,zU,zI,zI];obtain⟨m1,hm1⟩:=qi4 (Dx.newRow m' [zI,zU,zI,zI]);rw[<-hm1]at st1;obtain⟨m2,s1,s2,s3,s4⟩:=st1.fill 0 rfl (n:=4) (l':=qv nd) rfl rfl (by simp[qv,okC]);have s2':St m m2 [(m'.n,qv nd),(m.n,rgR n (usB (wG e i)))]:=s2;have l2:∀o s,load1 m2 ⟨m'.n,o,s⟩=(qv nd)[o]?:=λo s=>(s2'.get 0 rfl).2.2.load1 o s;have ni:=qK (i:=i) (by omega);have bad:okN k i nd=false->we k e=false:=Jg hnd;have more:okN k i nd=true->∀(j:Nat) nd',j<i+1->e[j]?=some nd'->okN k j nd'=true:=λh j nd' hj hnd'=>by
   by_cases hji:j=i
   .subst hji;rw[hnd]at hnd';cases hnd';exact h
   .exact hok j nd' (by omega) hnd'
  obtain⟨op,val,na,nb⟩:=nd;simp only[qv]at a2' s1 l2;by_cases h12:op=1\/op=2
  .have h3:¬3<=op:=by omega
   have hfe:wG e (i+1)=wG e i:=funext λj=>by rw[hsucc,Kr h3,Nat.add_zero]
   have s3':St m m2 [(m.n,rgR n (usB (wG e (i+1))))]:=by rw[hfe];exact s2'.sub (by simp) (by simp)
   have hone':∀j,wG e (i+1) j<=1:=by rw[hfe];exact hone
   have okq:okN k i ⟨op,val,na,nb⟩=decide (na=0/\nb=0/\(op=2->val.1<k)):=by
    rcases h12 with rfl | rfl
    .rw[Fb rfl];exact decide_eq_decide.2 (by simp)
    .rw[gx rfl];exact decide_eq_decide.2 ⟨λh=>⟨h.1,h.2.2,λ_=>h.2.1⟩,λh=>⟨h.1,h.2.2 rfl,h.2.1⟩⟩
   by_cases ha:na=0
   .subst ha;by_cases hb:nb=0
    .subst hb;rcases h12 with rfl | rfl
     .simp[hll,t0,t6,hd,a1,a2',qb,<-hm1,s1,l2,ni];exact hk' hil _ _ ⟨s3',more (by rw[okq];simp),hone',by simp[t0],by simp[t1],by simp[t5],by simp⟩
     .by_cases hv:val.1<k
      .have ev:((k:Int)<=(val.1:Int))=False:=qi0 (by omega);have ev':(k<=val.1)=False:=qi0 (by omega);simp[hll,t0,t1,t6,hd,a1,a2',qb,<-hm1,s1,l2,ni,cv,ev];exact hk' hil _ _ ⟨s3',more (by rw[okq];simp[hv]),hone',by simp[t0],by simp[t1],by simp[t5],by simp⟩
      .have ev:((k:Int)<=(val.1:Int))=True:=qi1 (by omega);have ev':(k<=val.1)=True:=qi1 (by omega);rw[bad (by rw[okq];simp;omega)];simp[hll,t0,t1,t6,hd,a1,a2',qb,<-hm1,s1,l2,cv,ev];exact qf s3'.ext (by simp)
    .rw[bad (by rw[okq];simp[hb])];rcases h12 with rfl | rfl
     .simp[hll,t0,t6,hd,a1,a2',qb,<-hm1,s1,l2,hb];exact qf s3'.ext (by simp)
     .simp[hll,t0,t6,hd,a1,a2',qb,<-hm1,s1,l2,hb];exact qf s3'.ext (by simp)
   .rw[bad (by rw[okq];simp[ha])];rcases h12 with rfl | rfl
    .simp[hll,t0,t6,hd,a1,a2',qb,<-hm1,s1,l2,ha];exact qf s3'.ext (by simp)
    .simp[hll,t0,t6,hd,a1,a2',qb,<-hm1,s1,l2,ha];exact qf s3'.ext (by simp)
  have h1:¬op=1:=λh=>h12 (.inl h);have h2:¬op=2:=λh=>h12 (.inr h);have s2x:Ext m m2:=s2'.ext;by_cases hl1:op<1
  .have el:(op<1)=True:=qi1 hl1;rw[bad (by rw[zR h1 h2 (show ¬(3<=op/\op<=5) by omega)];exact qhw λhc=>by have:=hc.2.2.2.2.1;simp only at this;omega)];simp[hll,t0,t6,hd,a1,a2',qb,<-hm1,s1,l2,h1,h2,el];exact qf s2x (by simp)
  have el:(op<1)=False:=qi0 hl1;have h3:3<=op:=by omega
  by_cases hg:19<op
  .have eg:(19<op)=True:=qi1 hg;rw[bad (by rw[zR h1 h2 (show ¬(3<=op/\op<=5) by omega)];exact qhw λhc=>by have:=hc.2.2.2.2.2.1;simp only at this;omega)];simp[hll,t0,t6,hd,a1,a2',qb,<-hm1,s1,l2,h1,h2,el,eg];exact qf s2x (by simp)
  have eg:(19<op)=False:=qi0 hg;have okall:okN k i ⟨op,val,na,nb⟩=true->0<=na/\na<i/\val.1=0:=λh=>by
   by_cases h35:3<=op/\op<=5
   .have:=qi2 ((xC (k:=k) (i:=i) (n:=⟨op,val,na,nb⟩) h35.1 h35.2) ▸ h);exact⟨this.1,this.2.1,this.2.2.2⟩
   .have:=qi2 ((zR (k:=k) (i:=i) (n:=⟨op,val,na,nb⟩) h1 h2 h35) ▸ h);exact⟨this.1,this.2.1,this.2.2.2.2.2.2⟩
  have bad':(okN k i ⟨op,val,na,nb⟩=true->False)->we k e=false:=λh=>bad (by cases hc:okN k i ⟨op,val,na,nb⟩ with | false=>rfl | true=>exact absurd hc h);by_cases hv:¬val.1=0
  .have ev:((val.1:Int)=0)=False:=qi0 (by omega);rw[bad' λh=>hv (okall h).2.2];simp[hll,t0,t6,hd,a1,a2',qb,<-hm1,s1,l2,h1,h2,el,eg,hv];exact qf s2x (by simp)
  have hv:val.1=0:=Classical.byContradiction hv;have ev:decide ((val.1:Int)=0)=true:=qhx (by omega);have ev':decide (val.1=0)=true:=qhx hv;by_cases ha0:na<0
  .have ea:(na<0)=True:=qi1 ha0;rw[bad' λh=>by have:=(okall h).1;omega];simp[hll,t0,t6,hd,a1,a2',qb,<-hm1,s1,l2,h1,h2,el,eg,ev',ea];exact qf s2x (by simp)
  have ea:(na<0)=False:=qi0 ha0;by_cases hai:(i:Int)<=na
  .have eai:((i:Int)<=na)=True:=qi1 hai;rw[bad' λh=>by have:=(okall h).2.1;omega];simp[hll,t0,t6,hd,a1,a2',qb,<-hm1,s1,l2,h1,h2,el,eg,ev',ea,eai];exact qf s2x (by simp)
  obtain⟨A,rfl⟩:∃A:Nat,na=A:=⟨na.toNat,by omega⟩;have hA:A<i:=by omega
  have eai:((i:Int)<=(A:Int))=False:=qi0 hai;have eai':(i<=A)=False:=qi0 (by omega);have eA0:((A:Int)<0)=False:=ea;have ixA:=ix A (by omega);have gA:∀s,load1 m2 ⟨m.n,A,s⟩=some (.bool (decide (0<wG e i A))):=λs=>by rw[(s2'.get 1 rfl).2.2.load1,yG _ (by omega)];rfl
  by_cases huA:0<wG e i A
  .have hb2:we k e=false:=bX (i:=i+1) (j:=A) (by omega) (by omega) (by
    rw[hsucc];by_cases h6:6<=op
    .have:1<=gL ⟨op,val,(A:Int),nb⟩ A:=by unfold gL;rw[qhz ⟨h3,rfl⟩];omega
     omega
    .rw[QX h3 h6,qhz rfl];omega)
   rw[qhx huA]at gA;rw[hb2];simp[hll,t0,t5,t6,hd,a1,a2',qb,<-hm1,s1,l2,h1,h2,el,eg,ev',eA0,eai,ixA,gA];exact qf s2x (by simp)
  rw[qhw huA]at gA;have hcA:wG e i A=0:=by omega
  obtain⟨m3,w1,w2,w3,w4⟩:=s2'.store 1 rfl (o:=A) (v:=zT) (by rw[dJ];omega) rfl;rw[dK (g:=usB λj=>wG e i j+(if A=j then 1 else 0)) (λq hq=>Kq (by show wG e i q+(if A=q then 1 else 0)=_;rw[qhy (Ne.symm hq),Nat.add_zero])) (Xs (by show 0<wG e i A+(if A=A then 1 else 0);rw[qhz rfl];omega))]at w2
  have w2':St m m3 [(m'.n,qv ⟨op,val,(A:Int),nb⟩),(m.n,rgR n (usB λj=>wG e i j+(if A=j then 1 else 0)))]:=w2
  have l3:∀o s,load1 m3 ⟨m'.n,o,s⟩=(qv ⟨op,val,(A:Int),nb⟩)[o]?:=λo s=>(w2'.get 0 rfl).2.2.load1 o s;simp only[qv]at l3;by_cases h5:op<=5
  .have e5:(op<=5)=True:=qi1 h5;have h6:¬6<=op:=by omega
   have hfe:wG e (i+1)=λj=>wG e i j+(if A=j then 1 else 0):=funext λj=>by rw[hsucc,QX h3 h6]
   by_cases hb:nb=0
   .subst hb;have hone':∀j,wG e (i+1) j<=1:=λj=>by
     rw[hfe];show wG e i j+(if A=j then 1 else 0)<=1
     by_cases hj:A=j
     .subst hj;rw[qhz rfl,hcA];omega
     .rw[qhy hj];exact hone j
    rw[<-hfe]at w2';have s3':St m m3 [(m.n,rgR n (usB (wG e (i+1))))]:=w2'.sub (by simp) (by simp);simp[hll,t0,t5,t6,hd,a1,a2',qb,<-hm1,s1,l2,h1,h2,el,eg,ev',eA0,eai,ixA,gA,w1,l3,e5,ni];exact hk' hil _ _ ⟨s3',more (by rw[xC h3 h5];simp[hv];omega),hone',by simp[t0],by simp[t1],by simp[t5],by simp⟩
   .rw[bad (by rw[xC h3 h5];simp[hb])];simp[hll,t0,t5,t6,hd,a1,a2',qb,<-hm1,s1,l2,h1,h2,el,eg,ev',eA0,eai,ixA,gA,w1,l3,e5,hb];exact qf w2'.ext (by simp)
  have e5:(op<=5)=False:=qi0 h5;have hno:=zR (k:=k) (i:=i) (n:=⟨op,val,(A:Int),nb⟩) h1 h2 (show ¬(3<=op/\op<=5) by omega);simp only at hno;by_cases hb0:nb<0
  .have eb:(nb<0)=True:=qi1 hb0;rw[bad (by rw[hno];exact qhw λhc=>by have:=hc.2.2.1;omega)];simp[hll,t0,t5,t6,hd,a1,a2',qb,<-hm1,s1,l2,h1,h2,el,eg,ev',eA0,eai,ixA,gA,w1,l3,e5,eb];exact qf w2'.ext (by simp)
  have eb:(nb<0)=False:=qi0 hb0;by_cases hbi:(i:Int)<=nb
  .have ebi:((i:Int)<=nb)=True:=qi1 hbi;rw[bad (by rw[hno];exact qhw λhc=>by have:=hc.2.2.2.1;omega)];simp[hll,t0,t5,t6,hd,a1,a2',qb,<-hm1,s1,l2,h1,h2,el,eg,ev',eA0,eai,ixA,gA,w1,l3,e5,eb,ebi];exact qf w2'.ext (by simp)
  obtain⟨B,rfl⟩:∃B:Nat,nb=B:=⟨nb.toNat,by omega⟩;have hB:B<i:=by omega
  have ebi:((i:Int)<=(B:Int))=False:=qi0 hbi;have ebi':(i<=B)=False:=qi0 (by omega);have eB0:((B:Int)<0)=False:=eb;have ixB:=ix B (by omega);have hfe:wG e (i+1)=λj=>wG e i j+((if A=j then 1 else 0)+(if B=j then 1 else 0)):=funext λj=>by rw[hsucc,QY (by omega)]
  have gB:∀s,load1 m3 ⟨m.n,B,s⟩=some (.bool (decide (0<wG e i B+(if A=B then 1 else 0)))):=λs=>by rw[(w2'.get 1 rfl).2.2.load1,yG _ (by omega)];rfl
  obtain⟨cB,hcB⟩:=qi4 (wG e i B+(if A=B then 1 else 0))
  rw[<-hcB]at gB;by_cases huB:0<cB
  .have hb2:we k e=false:=bX (i:=i+1) (j:=B) (by omega) (by omega) (by
    rw[hfe];show 2<=wG e i B+((if A=B then 1 else 0)+(if B=B then 1 else 0))
    rw[qhz (rfl:B=B)];omega)
   rw[qhx huB]at gB;rw[hb2];simp[hll,t0,t5,t6,hd,a1,a2',qb,<-hm1,s1,l2,h1,h2,el,eg,ev',eA0,eai,ixA,gA,w1,l3,e5,eB0,ebi,ixB,gB];exact qf w2'.ext (by simp)
  rw[qhw huB]at gB;have hcB0:cB=0:=by omega
  obtain⟨m4,x1,x2,x3,x4⟩:=w2'.store 1 rfl (o:=B) (v:=zT) (by rw[dJ];omega) rfl;rw[dK (g:=usB (wG e (i+1))) (λq hq=>Kq (by rw[hfe];show wG e i q+((if A=q then 1 else 0)+(if B=q then 1 else 0))=_;rw[qhy (Ne.symm hq:¬B=q),Nat.add_zero])) (Xs (by rw[hfe];show 0<wG e i B+((if A=B then 1 else 0)+(if B=B then 1 else 0));rw[qhz (rfl:B=B)];omega))]at x2
  have s3':St m m4 [(m.n,rgR n (usB (wG e (i+1))))]:=x2.sub (by simp) (by simp);have hone':∀j,wG e (i+1) j<=1:=λj=>by
   rw[hfe];show wG e i j+((if A=j then 1 else 0)+(if B=j then 1 else 0))<=1
   have:=hone j;by_cases hj:A=j
   .subst hj;by_cases hBA:B=A
    .subst hBA;rw[qhz rfl]at hcB;omega
    .rw[qhz rfl,qhy hBA];omega
   .by_cases hj':B=j
    .subst hj';rw[qhy hj,qhz rfl];rw[qhy hj]at hcB;omega
    .rw[qhy hj,qhy hj'];omega
  simp[hll,t0,t5,t6,hd,a1,a2',qb,<-hm1,s1,l2,h1,h2,el,eg,ev',eA0,eai,ixA,gA,w1,l3,e5,eB0,ebi,ixB,gB,x1,ni];exact hk' hil _ _ ⟨s3',more (by rw[hno];exact qhx ⟨by omega,by omega,by omega,by omega,by omega,by omega,hv⟩),hone',by simp[t0],by simp[t1],by simp[t5],by simp⟩
 .obtain rfl:i=n:=by omega
  have hd:((i:Int)<(i:Int))=False:=qi0 (by omega);simp[hll,t0,t6,hd];obtain⟨c,hc⟩:=qi4 (wG e i);have gg:∀j s,j<i->load1 m' ⟨m.n,j,s⟩=some (.bool (decide (0<c j))):=λj s hj=>by rw[(st.get 0 rfl).2.2.load1,yG _ hj,hc];rfl
  refine qq (c:=qam) rfl (Ret m _) (λj t m2=>m2=m'/\(∀q,q<j->0<c q)/\Tm.get 0 t=ed/\Tm.get 5 t=.slice (some ⟨m.n,0,some 3⟩) i i/\Tm.get 8 t=iv j) n1 (by omega)
   ⟨rfl,λq hq=>absurd hq (qhv _),by simp[t0],by simp[t5],by simp⟩ (λj t m2 k2 hj hJ hk2=>?_)
  obtain⟨rfl,hq,t0,t5,t8⟩:=hJ;by_cases hji:j<n1
  .have hd:=dlt hji;have ixj:=ix j (by omega);have gj:=λs=>gg j s (by omega);have nj:=qK (i:=j) (by omega);by_cases hcj:0<c j
   .rw[qhx hcj]at gj;simp[hll,t0,t5,t8,hs,hd,ixj,gj,nj];exact hk2 hji _ _ ⟨rfl,λq hq'=>by
     by_cases hqj:q=j
     .subst hqj;exact hcj
     .exact hq q (by omega),by simp[t0],by simp[t5],by simp⟩
   .rw[qhw hcj]at gj;have hb2:we k e=false:=bd (j:=j) (by omega) (by rw[<-hn,<-hc,qhz (by omega)];omega);rw[hb2];simp[hll,t0,t5,t8,hs,hd,ixj,gj];exact qf st.ext (by simp)
  .obtain rfl:j=n1:=by omega
   have hd:((j:Int)<(j:Int))=False:=qi0 (by omega);have hT:we k e=true:=Qo (by omega) (by omega) (λj nd hnd=>hok j nd (by have:=(qh7.1 hnd).1;omega) hnd) (λq hq'=>by rw[<-hn,<-hc];exact hq q (by omega)) (λq=>by rw[<-hn];exact hone q);rw[hT];simp[hll,t0,t8,hs,hd];exact qf st.ext (by simp)
end Go.Sx
namespace Go.Dx
theorem wq {m0 m:M}{Q:Value->M->Prop}{t:Tm}{p n:Nat}{a:Addr}{l:List Value}(h1:Tm.get p t=.pointer (some a))(h2:loads m a n=some l)(he:Ext m0 m)(hq:Q (.agg ⟨l⟩) m):Ret m0 Q (wN [.cell p n] t m):=by
 refine yh (l:=[.agg ⟨l⟩]) ?_ he hq;simp only[yg,yf,h1,yo,qQ,h2]
end Go.Dx
namespace Go.Sx
open Go.Dx Go.Proofs
set_option maxRecDepth 10000
structure Ac where
 op:Int
 dst:Int
 base:Int
 size:Int
 ix:Value
 ev:Value
 fv:Value
 mode:Int
 to:Int
 line:Int
 col:Int
 ixs:List Nd
 es:List Nd
 fs:List Nd
def qe (a:Ac):List Value:=[iv a.op,iv a.dst,iv a.base,iv a.size,a.ix,a.ev,a.fv,iv a.mode,iv a.to,iv a.line,iv a.col]
structure AcOK (m:M)(a:Ac):Prop where
 ix:Rd m a.ix 4 qv a.ixs
 ev:Rd m a.ev 4 qv a.es
 fv:Rd m a.fv 4 qv a.fs
 ixl:a.ixs.length<=9223372036854775807
 evl:a.es.length<=9223372036854775807
 fvl:a.fs.length<=9223372036854775807
theorem AcOK.sees {m m':M}{a:Ac}(h:AcOK m a)(k:Sees m m'):AcOK m' a:=⟨h.ix.sees k,h.ev.sees k,h.fv.sees k,h.ixl,h.evl,h.fvl⟩
def pD (op:Int):Bool:=decide (op=1\/op=2\/op=4\/op=5\/op=6)
def pP (op:Int):Bool:=decide (op=2\/op=3\/op=4\/op=5\/op=6)
def pE (op:Int):Bool:=decide (op=1\/op=3\/op=4\/op=5\/op=6\/op=8\/op=10)
def pF (op:Int):Bool:=decide (op=6)
def pT (op:Int):Bool:=decide (op=9\/op=10)
def zi (op mode:Int):Bool:=if op=2 then decide (mode=1\/mode=2\/mode=5) else if op=3 then decide (mode=1\/mode=3\/mode=5)
 else if op=4\/op=5\/op=6 then decide (1<=mode/\mode<=5) else if op=7 then decide (2<=mode/\mode<=5) else decide (mode=0)
theorem may_c (n:Nat)(op mode:Int)(m:M):CallV (ex Tryz.prog (n+1)) 87 [iv op,iv mode] m (.bool (zi op mode)):=by
 refine qm de7_ok (by simp) ?_;have E:=Ext.refl m;by_cases h2:op=2
 .subst h2;by_cases q1:mode=1
  .subst q1;simp;exact qf E (by simp[zi])
  by_cases q2:mode=2
  .subst q2;simp;exact qf E (by simp[zi])
  simp[q1,q2];exact qf E (by simp[zi,q1,q2])
 by_cases h3:op=3
 .subst h3;by_cases q1:mode=1
  .subst q1;simp;exact qf E (by simp[zi])
  by_cases q2:mode=3
  .subst q2;simp;exact qf E (by simp[zi])
  simp[q1,q2];exact qf E (by simp[zi,q1,q2])
 by_cases h4:op=4
 .subst h4;by_cases q1:1<=mode
  .have q1':(1<=mode)=True:=qi1 q1;simp[q1'];exact qf E (by simp[zi,q1'])
  .have q1':(1<=mode)=False:=qi0 q1;simp[q1'];exact qf E (by simp[zi,q1'])
 by_cases h5:op=5
 .subst h5;by_cases q1:1<=mode
  .have q1':(1<=mode)=True:=qi1 q1;simp[q1'];exact qf E (by simp[zi,q1'])
  .have q1':(1<=mode)=False:=qi0 q1;simp[q1'];exact qf E (by simp[zi,q1'])
 by_cases h6:op=6
 .subst h6;by_cases q1:1<=mode
  .have q1':(1<=mode)=True:=qi1 q1;simp[q1'];exact qf E (by simp[zi,q1'])
  .have q1':(1<=mode)=False:=qi0 q1;simp[q1'];exact qf E (by simp[zi,q1'])
 by_cases h7:op=7
 .subst h7;by_cases q1:2<=mode
  .have q1':(2<=mode)=True:=qi1 q1;simp[q1'];exact qf E (by simp[zi,q1'])
  .have q1':(2<=mode)=False:=qi0 q1;simp[q1'];exact qf E (by simp[zi,q1'])
 simp[h2,h3,h4,h5,h6,h7];exact qf E (by simp[zi,h2,h3,h4,h5,h6,h7])
def wP (op:Int):List Value:=[.bool (pD op),.bool (pP op),.bool (pE op),.bool (pF op),.bool (pT op)]
theorem pb3:wg [zF,zF,zF,zF,zF] [(0,1,zT),(2,1,zT)]=some (.agg ⟨[zT,zF,zT,zF,zF]⟩):=rfl
theorem pb4:wg [zF,zF,zF,zF,zF] [(0,1,zT),(1,1,zT)]=some (.agg ⟨[zT,zT,zF,zF,zF]⟩):=rfl
theorem pb5:wg [zF,zF,zF,zF,zF] [(1,1,zT),(2,1,zT)]=some (.agg ⟨[zF,zT,zT,zF,zF]⟩):=rfl
theorem pb6:wg [zF,zF,zF,zF,zF] [(0,1,zT),(1,1,zT),(2,1,zT)]=some (.agg ⟨[zT,zT,zT,zF,zF]⟩):=rfl
theorem pb8:wg [zF,zF,zF,zF,zF] [(0,1,zT),(1,1,zT),(2,1,zT),(3,1,zT)]=some (.agg ⟨[zT,zT,zT,zT,zF]⟩):=rfl
theorem pb9:wg [zF,zF,zF,zF,zF] []=some (.agg ⟨[zF,zF,zF,zF,zF]⟩):=rfl
theorem pb10:wg [zF,zF,zF,zF,zF] [(2,1,zT)]=some (.agg ⟨[zF,zF,zT,zF,zF]⟩):=rfl
theorem pb11:wg [zF,zF,zF,zF,zF] [(4,1,zT)]=some (.agg ⟨[zF,zF,zF,zF,zT]⟩):=rfl
theorem pb12:wg [zF,zF,zF,zF,zF] [(2,1,zT),(4,1,zT)]=some (.agg ⟨[zF,zF,zT,zF,zT]⟩):=rfl
def zp:List Value:=[zF,zF,zF,zF,zF,zT,zF,zT,zF,zF,zT,zT,zF,zF,zF,zF,zT,zT,zF,zF,zT,zT,zT,zF,zF,zT,zT,zT,zF,zF,zT,zT,zT,zT,zF,zF,zF,zF,zF,zF,zF,zF,zT,zF,zF,zF,zF,zF,zF,zT,zF,zF,zT,zF,zT]
theorem pb13:wg [zF,zF,zF,zF,zF,zF,zF,zF,zF,zF,zF,zF,zF,zF,zF,zF,zF,zF,zF,zF,zF,zF,zF,zF,zF,zF,zF,zF,zF,zF,zF,zF,zF,zF,zF,zF,zF,zF,zF,zF,zF,zF,zF,zF,zF,zF,zF,zF,zF,zF,zF,zF,zF,zF,zF] [(5,5,.agg ⟨[zT,zF,zT,zF,zF]⟩),(10,5,.agg ⟨[zT,zT,zF,zF,zF]⟩),(15,5,.agg ⟨[zF,zT,zT,zF,zF]⟩),(20,5,.agg ⟨[zT,zT,zT,zF,zF]⟩),(25,5,.agg ⟨[zT,zT,zT,zF,zF]⟩),(30,5,.agg ⟨[zT,zT,zT,zT,zF]⟩),(35,5,.agg ⟨[zF,zF,zF,zF,zF]⟩),(40,5,.agg ⟨[zF,zF,zT,zF,zF]⟩),(45,5,.agg ⟨[zF,zF,zF,zF,zT]⟩),(50,5,.agg ⟨[zF,zF,zT,zF,zT]⟩)]=some (.agg ⟨zp⟩):=rfl
noncomputable def fe (len:Nat) (agg:Bool) (esz:Nat) (x i:Value):Option Value:=ob (xQ i) λn=>ob (ZE x) λcs=>bif Nat.blt n len then Wh agg ((cs.drop (n*esz)).take esz) else none
theorem yB (len:Nat)(agg:Bool)(esz:Nat)(x i:V)(t:Tm):Zj len agg esz x i t=fe len agg esz (x t) (i t):=rfl
theorem pi1:fe 11 true 5 (.agg ⟨zp⟩) (.int .i64 1)=some (.agg ⟨wP 1⟩):=rfl
theorem pi2:fe 11 true 5 (.agg ⟨zp⟩) (.int .i64 2)=some (.agg ⟨wP 2⟩):=rfl
theorem pi3:fe 11 true 5 (.agg ⟨zp⟩) (.int .i64 3)=some (.agg ⟨wP 3⟩):=rfl
theorem pi4:fe 11 true 5 (.agg ⟨zp⟩) (.int .i64 4)=some (.agg ⟨wP 4⟩):=rfl
theorem pi5:fe 11 true 5 (.agg ⟨zp⟩) (.int .i64 5)=some (.agg ⟨wP 5⟩):=rfl
theorem pi6:fe 11 true 5 (.agg ⟨zp⟩) (.int .i64 6)=some (.agg ⟨wP 6⟩):=rfl
theorem pi7:fe 11 true 5 (.agg ⟨zp⟩) (.int .i64 7)=some (.agg ⟨wP 7⟩):=rfl
theorem pi8:fe 11 true 5 (.agg ⟨zp⟩) (.int .i64 8)=some (.agg ⟨wP 8⟩):=rfl
theorem pi9:fe 11 true 5 (.agg ⟨zp⟩) (.int .i64 9)=some (.agg ⟨wP 9⟩):=rfl
theorem pi10:fe 11 true 5 (.agg ⟨zp⟩) (.int .i64 10)=some (.agg ⟨wP 10⟩):=rfl
theorem qfd (n:Nat){op:Int}(h1:1<=op)(h2:op<=10)(m:M)(hm:m.base<=m.n):CallV (ex Tryz.prog (n+1)) 88 [iv op] m (.agg ⟨wP op⟩):=by
 refine qm de8_ok (by simp) ?_;obtain⟨a,c1,c2,c3,c4,c5⟩:=wK (m:=m) hm (zs:=[zF,zF,zF,zF,zF]) (l:=wP op) (v:=.agg ⟨wP op⟩) (n:=5) rfl rfl rfl (by simp[wP,okC]);have fin:∀t,Tm.get 2 t=.pointer (some ⟨m.n,0,none⟩)->Ret m (λu _=>u=.agg ⟨wP op⟩) (wN [.cell 2 5] t a):=λt ht=>wq ht (c3 none) c4 rfl;have key:∀k,fe 11 true 5 (.agg ⟨zp⟩) (.int .i64 k)=some (.agg ⟨wP k⟩)->op=k->Ret m (λu _=>u=.agg ⟨wP op⟩) (qae (ex Tryz.prog n) (wN [.cell 2 5]) noK (wN [.cell 2 5]) (jk .blank 0 [iv op]) m):=λk hk e=>by
  subst e;simp[pb3,pb4,pb5,pb6,pb8,pb9,pb10,pb11,pb12,pb13,yB,hk,c1];exact fin _ (by simp)
 rcases (by omega:op=1\/op=2\/op=3\/op=4\/op=5\/op=6\/op=7\/op=8\/op=9\/op=10) with h | h | h | h | h | h | h | h | h | h
 .exact key 1 pi1 h
 .exact key 2 pi2 h
 .exact key 3 pi3 h
 .exact key 4 pi4 h
 .exact key 5 pi5 h
 .exact key 6 pi6 h
 .exact key 7 pi7 h
 .exact key 8 pi8 h
 .exact key 9 pi9 h
 .exact key 10 pi10 h
end Go.Sx
namespace Go.Dx
open Go.RowKit
theorem i_and {a b:Nat}(ha:a<9223372036854775808)(hb:b<9223372036854775808):ze .and (.int .i64 a) (.int .i64 b)=some (.int .i64 ((a &&& b:Nat):Int)):=by
 rw[kH];have hx:a &&& b<2^63:=Nat.and_lt_two_pow _ (by omega);have h1:(BitVec.ofInt 64 (a:Int)).toNat=a:=by
  rw[BitVec.ofInt_natCast,BitVec.toNat_ofNat];exact Nat.mod_eq_of_lt (by omega)
 have h2:(BitVec.ofInt 64 (b:Int)).toNat=b:=by
  rw[BitVec.ofInt_natCast,BitVec.toNat_ofNat];exact Nat.mod_eq_of_lt (by omega)
 have h:bits .and .i64 (a:Int) (b:Int)=((a &&& b:Nat):Int):=by
  show IntKind.i64.wrap ((BitVec.ofInt 64 (a:Int) &&& BitVec.ofInt 64 (b:Int)).toNat:Int)=_;rw[BitVec.toNat_and,h1,h2];exact wrap64 _ (by omega) (by omega)
 rw[<-h];rfl
theorem QL (mx:Bool)(xs:List V)(t:Tm):pMm mx xs t=mmL mx (evs t xs):=rfl
theorem mm_max (a b:Int):mmL true [.int .i64 a,.int .i64 b]=some (.int .i64 (max a b)):=by
 have h:mmL true [.int .i64 a,.int .i64 b]=some (.int .i64 (bif ltI a b then b else a)):=rfl
 rw[h,jJ];by_cases hab:a<b
 .rw[qhx hab,cond_true,Int.max_eq_right (by omega)]
 .rw[qhw hab,cond_false,Int.max_eq_left (by omega)]
end Go.Dx
namespace Go.Sx
open Go.Dx Go.Proofs
set_option maxRecDepth 10000
def jp (cells:Int)(k:Nat)(a:Ac):Bool :=
 decide (0<=a.size/\a.size<=1024)&&decide (a.size.toNat &&& (a.size.toNat-1)=0)&&decide (0<=a.base/\a.base<=cells-max 1 a.size)&&(if a.size=0 then decide (a.ixs.length=0) else we k a.ixs)
theorem ZH (k:Nat)(hk:k<1000000)(cells:Int)(tv:Value)(hc0:0<=cells)(hc1:cells<=4096)(a:Ac)(N:Nat)(m:M)(hm:m.base<=m.n)(ha:AcOK m a) :
  CallV (ex Tryz.prog (N+3)) 89 [.agg ⟨qe a⟩,.agg ⟨[iv cells,tv]⟩,iv k] m (.bool (jp cells k a)):=by
 refine qm de9_ok (by simp) ?_;have st0:St m m []:=St.nil hm (Ext.refl m);have st1:=st0.row (qe a);obtain⟨m1,hm1⟩:=qi4 (Dx.newRow m (qe a));rw[<-hm1]at st1;have st2:=st1.row [iv cells,tv];obtain⟨m2,hm2⟩:=qi4 (Dx.newRow m1 [iv cells,tv]);rw[<-hm2]at st2;have la:∀o s,load1 m2 ⟨m.n,o,s⟩=(qe a)[o]?:=λo s=>(st2.get 1 rfl).2.2.load1 o s;have lp:∀o s,load1 m2 ⟨m1.n,o,s⟩=[iv cells,tv][o]?:=λo s=>(st2.get 0 rfl).2.2.load1 o s;have ha2:=ha.sees st2.sees;obtain⟨op,dst,base,size,ix,ev,fv,mode,to,line,col,ixs,es,fs⟩:=a;simp only[qe]at la hm1;have E2:=st2.ext;have pB:jp cells k ⟨op,dst,base,size,ix,ev,fv,mode,to,line,col,ixs,es,fs⟩=(decide (0<=size/\size<=1024)&&decide (size.toNat &&& (size.toNat-1)=0)&&decide (0<=base/\base<=cells-max 1 size)&&(if size=0 then decide (ixs.length=0) else we k ixs)):=rfl
 rw[pB];by_cases h1:size<0
 .have e1:(size<0)=True:=qi1 h1;rw[qhw (show ¬(0<=size/\size<=1024) by omega)];simp[qe,<-hm1,<-hm2,la,e1];exact qf E2 (by simp)
 have e1:(size<0)=False:=qi0 h1;by_cases h2:1024<size
 .have e2:(1024<size)=True:=qi1 h2;rw[qhw (show ¬(0<=size/\size<=1024) by omega)];simp[qe,<-hm1,<-hm2,la,e1,e2];exact qf E2 (by simp)
 have e2:(1024<size)=False:=qi0 h2;rw[qhx (show (0<=size/\size<=1024) by omega),Bool.true_and];obtain⟨s,rfl⟩:∃s:Nat,size=s:=⟨size.toNat,by omega⟩;rw[qhj];obtain⟨r,hr⟩:=qi4 (s &&& (s-1));have q1:ze .sub (.int .i64 (s:Int)) (.int .i64 1)=some (.int .i64 ((s:Int)-1)):=by rw[qz,wrap64 _ (by omega) (by omega)]
 have q2:ze .and (.int .i64 (s:Int)) (.int .i64 ((s:Int)-1))=some (.int .i64 (r:Int)):=by
  by_cases hs0:s=0
  .subst hs0;rw[hr];rfl
  .rw[show (s:Int)-1=((s-1:Nat):Int) by omega,i_and (by omega) (by omega),hr]
 rw[<-hr];obtain⟨z,hz⟩:∃z:Int,z=(s:Int):=⟨_,rfl⟩;rw[<-hz]at q1 q2 e1 e2 la hm1 ⊢;by_cases h3:¬r=0
 .have e3:((r:Int)=0)=False:=qi0 (by omega);have e3':(r=0)=False:=qi0 h3;rw[qhw h3];simp[-qz,qe,<-hm1,<-hm2,la,e1,e2,q1,q2,e3'];exact qf E2 (by simp)
 have h3:r=0:=Classical.byContradiction h3;subst h3;rw[qhx rfl,Bool.true_and];by_cases h4:base<0
 .have e4:(base<0)=True:=qi1 h4;rw[qhw (show ¬(0<=base/\base<=cells-max 1 z) by omega)];simp[-qz,qe,<-hm1,<-hm2,la,e1,e2,q1,q2,e4];exact qf E2 (by simp)
 have e4:(base<0)=False:=qi0 h4;obtain⟨y,hy⟩:=qi4 (cells-max 1 z);have q3:=mm_max 1 z;obtain⟨mx,hmx⟩:=qi4 (max 1 z);rw[<-hmx]at q3 hy;have q4:ze .sub (.int .i64 cells) (.int .i64 mx)=some (.int .i64 y):=by
  rw[qz,wrap64 _ (by rw[hmx];omega) (by rw[hmx];omega),hy]
 rw[<-hmx,<-hy];by_cases h5:y<base
 .have e5:(y<base)=True:=qi1 h5;rw[qhw (show ¬(0<=base/\base<=y) by omega)];simp[-qz,qe,<-hm1,<-hm2,la,lp,e1,e2,q1,q2,e4,QL,q3,q4,e5];exact qf E2 (by simp)
 have e5:(y<base)=False:=qi0 h5;rw[qhx (show (0<=base/\base<=y) by omega),Bool.true_and];have hil:wB ix=some (.int .i64 (ixs.length:Int)):=ha.ix.len;obtain⟨n,hn⟩:=qi4 (ixs.length);rw[<-hn]at hil ⊢;obtain⟨v3,m3,c1,c2,rfl⟩:=vy k hk ixs ix ha2.ixl N m2 st2.sees.base ha2.ix;by_cases h6:z=0
 .rw[qhz h6];have h06:s=0:=by omega
  by_cases h7:n=0
  .have e7:((n:Int)=0)=True:=qi1 (by omega);have hd7:decide (n=0)=true:=qhx h7;have d6:decide (z=0)=true:=qhx h6;simp[-qz,qe,<-hm1,<-hm2,la,lp,e1,e2,q1,q2,e4,QL,q3,q4,e5,hil,d6,h7];exact qf E2 (by simp)
  .have e7:((n:Int)=0)=False:=qi0 (by omega);have d6:decide (z=0)=true:=qhx h6;have e8:((0:Int)<z)=False:=qi0 (by omega);simp[-qz,qe,<-hm1,<-hm2,la,lp,e1,e2,q1,q2,e4,QL,q3,q4,e5,hil,d6,h7,e8];exact qf E2 (by simp)
 .rw[qhy h6];have e6:((0:Int)<z)=True:=qi1 (by omega);simp[-qz,qe,<-hm1,<-hm2,la,lp,e1,e2,q1,q2,e4,QL,q3,q4,e5,h6,e6,c1];exact qf (E2.trans c2) (by simp)
abbrev waS (A3 A4 A5 A7:Nat)(a:Ac)(cells:Int)(tv:Value)(k:Nat)(av:Value):List (Nat × List Value):=[(A7,wP a.op),(A5,[iv k,av]),(A4,[iv cells,tv]),(A3,qe a)]
structure WT (t:Tm)(A3 A4 A5 A7:Nat):Prop where
 t3:Tm.get 3 t=.pointer (some ⟨A3,0,none⟩)
 t4:Tm.get 4 t=.pointer (some ⟨A4,0,none⟩)
 t5:Tm.get 5 t=.pointer (some ⟨A5,0,none⟩)
 t7:Tm.get 7 t=.pointer (some ⟨A7,0,none⟩)
def vP (d:Bool)(k:Nat)(dst:Int):Bool:=if d then decide (0<=dst/\dst<k) else decide (dst=0)
def plB (p:Bool)(cells:Int)(k:Nat)(a:Ac):Bool:=if p then jp cells k a else decide (a.base=0/\a.size=0/\a.ixs.length=0)
def esB (e f:Bool)(k:Nat)(a:Ac):Bool:=decide (e=decide (0<a.es.length))&&decide (f=decide (0<a.fs.length))&&(!e||we k a.es)&&(!f||we k a.fs)
def toB (b:Bool)(n:Nat)(to:Int):Bool:=if b then decide (0<=to/\to<=n) else decide (to=0)
section
variable {m0 m:M}{A3 A4 A5 A7:Nat}{a:Ac}{cells:Int}{tv av:Value}{k na:Nat}{t:Tm}
theorem wa1 (hst:St m0 m (waS A3 A4 A5 A7 a cells tv k av))(hT:WT t A3 A4 A5 A7){x:Ex}{kn kr:K}{ke:Nat->K}{Q:Option Out->Prop}
  (H:∀t',Tm.get 27 t'=.bool (!vP (pD a.op) k a.dst)->WT t' A3 A4 A5 A7->Q (kn t' m)):Q (DR x kn ke kr t m):=by
 have la:∀o s,load1 m ⟨A3,o,s⟩=(qe a)[o]?:=λo s=>(hst.get 3 rfl).2.2.load1 o s;have lt:∀o s,load1 m ⟨A5,o,s⟩=[iv k,av][o]?:=λo s=>(hst.get 1 rfl).2.2.load1 o s;have lh:∀o s,load1 m ⟨A7,o,s⟩=(wP a.op)[o]?:=λo s=>(hst.get 0 rfl).2.2.load1 o s;obtain⟨t3,t4,t5,t7⟩:=hT;simp only[qe,wP]at la lh;cases hd:pD a.op with
 | true =>
  rw[hd]at lh H;by_cases h1:a.dst<0
  .have e1:(a.dst<0)=True:=qi1 h1;have hb:vP true k a.dst=false:=qhw (by omega);rw[hb]at H;simp[la,lh,t3,t7,e1];exact H _ (by simp) ⟨by simp[t3],by simp[t4],by simp[t5],by simp[t7]⟩
  .have e1:(a.dst<0)=False:=qi0 h1;by_cases h2:(k:Int)<=a.dst
   .have e2:((k:Int)<=a.dst)=True:=qi1 h2;have hb:vP true k a.dst=false:=qhw (by omega);rw[hb]at H;simp[la,lt,lh,t3,t5,t7,e1,e2];exact H _ (by simp) ⟨by simp[t3],by simp[t4],by simp[t5],by simp[t7]⟩
   .have e2:((k:Int)<=a.dst)=False:=qi0 h2;have hb:vP true k a.dst=true:=qhx (by omega);rw[hb]at H;simp[la,lt,lh,t3,t5,t7,e1,e2];exact H _ (by simp) ⟨by simp[t3],by simp[t4],by simp[t5],by simp[t7]⟩
 | false =>
  rw[hd]at lh H;have hb:vP false k a.dst=decide (a.dst=0):=rfl;rw[hb]at H;simp[la,lh,t3,t7];exact H _ (by simp) ⟨by simp[t3],by simp[t4],by simp[t5],by simp[t7]⟩
theorem wa2 (hst:St m0 m (waS A3 A4 A5 A7 a cells tv k av))(hT:WT t A3 A4 A5 A7)(hk:k<1000000)(hc0:0<=cells)(hc1:cells<=4096)(ha:AcOK m a){N:Nat}{kn kr:K}{ke:Nat->K}{Q:Option Out->Prop}
  (H:∀t' m',Tm.get 50 t'=.bool (!plB (pP a.op) cells k a)->WT t' A3 A4 A5 A7->Ext m m'->Q (kn t' m')):Q (DT (ex Tryz.prog (N+3)) kn ke kr t m):=by
 have la:∀o s,load1 m ⟨A3,o,s⟩=(qe a)[o]?:=λo s=>(hst.get 3 rfl).2.2.load1 o s;have lt:∀o s,load1 m ⟨A5,o,s⟩=[iv k,av][o]?:=λo s=>(hst.get 1 rfl).2.2.load1 o s;have lh:∀o s,load1 m ⟨A7,o,s⟩=(wP a.op)[o]?:=λo s=>(hst.get 0 rfl).2.2.load1 o s;have l11:loads m ⟨A3,0,none⟩ 11=some (qe a):=(hst.get 3 rfl).2.2.loads (n:=11) (by simp[qe]);have l2:loads m ⟨A4,0,none⟩ 2=some [iv cells,tv]:=(hst.get 2 rfl).2.2.loads (n:=2) (by simp);obtain⟨t3,t4,t5,t7⟩:=hT;simp only[wP]at lh;obtain⟨v3,m3,c1,c2,rfl⟩:=ZH k hk cells tv hc0 hc1 a N m hst.sees.self.base ha;have hil:wB a.ix=some (.int .i64 (a.ixs.length:Int)):=ha.ix.len;cases hd:pP a.op with
 | true =>
  rw[hd]at lh H;have hb:plB true cells k a=jp cells k a:=rfl;rw[hb]at H;cases hp:jp cells k a with
  | false =>
   rw[hp]at H c1;simp[l11,l2,qb,lt,lh,t3,t4,t5,t7,c1];exact H _ _ (by simp) ⟨by simp[t3],by simp[t4],by simp[t5],by simp[t7]⟩ c2
  | true =>
   rw[hp]at H c1;have st3:=hst.step c2;have lh3:∀o s,load1 m3 ⟨A7,o,s⟩=(wP a.op)[o]?:=λo s=>(st3.get 0 rfl).2.2.load1 o s;simp only[wP]at lh3;rw[hd]at lh3;simp[l11,l2,qb,lt,lh,lh3,t3,t4,t5,t7,c1];exact H _ _ (by simp) ⟨by simp[t3],by simp[t4],by simp[t5],by simp[t7]⟩ c2
 | false =>
  rw[hd]at lh H;simp only[qe]at la;have hb:plB false cells k a=decide (a.base=0/\a.size=0/\a.ixs.length=0):=rfl;rw[hb]at H;by_cases h1:a.base=0
  .have d1:decide (a.base=0)=true:=qhx h1;by_cases h2:a.size=0
   .have d2:decide (a.size=0)=true:=qhx h2;obtain⟨n,hn⟩:=qi4 (a.ixs.length);rw[<-hn]at hil H;by_cases h3:n=0
    .have e3:((0:Int)<(n:Int))=False:=qi0 (by omega);have e3':(0<n)=False:=qi0 (by omega);rw[qhx ⟨h1,h2,h3⟩]at H;simp[la,lh,t3,t7,d1,d2,hil,e3'];exact H _ _ (by simp) ⟨by simp[t3],by simp[t4],by simp[t5],by simp[t7]⟩ (Ext.refl m)
    .have e3:((0:Int)<(n:Int))=True:=qi1 (by omega);have e3':(0<n)=True:=qi1 (by omega);rw[qhw (λh=>h3 h.2.2)]at H;simp[la,lh,t3,t7,d1,d2,hil,e3'];exact H _ _ (by simp) ⟨by simp[t3],by simp[t4],by simp[t5],by simp[t7]⟩ (Ext.refl m)
   .have d2:decide (a.size=0)=false:=qhw h2;rw[qhw (λh=>h2 h.2.1)]at H;simp[la,lh,t3,t7,d1,d2];exact H _ _ (by simp) ⟨by simp[t3],by simp[t4],by simp[t5],by simp[t7]⟩ (Ext.refl m)
  .have d1:decide (a.base=0)=false:=qhw h1;rw[qhw (λh=>h1 h.1)]at H;simp[la,lh,t3,t7,d1];exact H _ _ (by simp) ⟨by simp[t3],by simp[t4],by simp[t5],by simp[t7]⟩ (Ext.refl m)
theorem wa3 (hst:St m0 m (waS A3 A4 A5 A7 a cells tv k av))(hT:WT t A3 A4 A5 A7)(hk:k<1000000)(ha:AcOK m a){N:Nat}{kn kr:K}{ke:Nat->K}{Q:Option Out->Prop}
  (H:∀t' m',Tm.get 80 t'=.bool (!esB (pE a.op) (pF a.op) k a)->WT t' A3 A4 A5 A7->Ext m m'->Q (kn t' m')):Q (XS (ex Tryz.prog (N+2)) kn ke kr t m):=by
 have la:∀o s,load1 m ⟨A3,o,s⟩=(qe a)[o]?:=λo s=>(hst.get 3 rfl).2.2.load1 o s;have lt:∀o s,load1 m ⟨A5,o,s⟩=[iv k,av][o]?:=λo s=>(hst.get 1 rfl).2.2.load1 o s;have lh:∀o s,load1 m ⟨A7,o,s⟩=(wP a.op)[o]?:=λo s=>(hst.get 0 rfl).2.2.load1 o s;obtain⟨t3,t4,t5,t7⟩:=hT;simp only[wP]at lh;simp only[qe]at la;have hel:wB a.ev=some (.int .i64 (a.es.length:Int)):=ha.ev.len;have hfl:wB a.fv=some (.int .i64 (a.fs.length:Int)):=ha.fv.len;have dd:∀n:Nat,decide ((0:Int)<(n:Int))=decide (0<n):=λn=>decide_eq_decide.2 (by omega);have hE:esB (pE a.op) (pF a.op) k a=(decide (pE a.op=decide (0<a.es.length))&&decide (pF a.op=decide (0<a.fs.length))&&(!(pE a.op)||we k a.es)&&(!(pF a.op)||we k a.fs)):=rfl;rw[hE]at H;obtain⟨e,he⟩:=qi4 (pE a.op);obtain⟨f,hf⟩:=qi4 (pF a.op);obtain⟨ne,hne⟩:=qi4 (a.es.length);obtain⟨nf,hnf⟩:=qi4 (a.fs.length);rw[<-he,<-hf]at lh H;rw[<-hne,<-hnf]at H;rw[<-hne]at hel;rw[<-hnf]at hfl;obtain⟨be,hbe⟩:=qi4 (decide (0<ne));obtain⟨bf,hbf⟩:=qi4 (decide (0<nf));have de:decide ((0:Int)<(ne:Int))=be:=by rw[dd,hbe]
 have df:decide ((0:Int)<(nf:Int))=bf:=by rw[dd,hbf]
 rw[<-hbe,<-hbf]at H;have de':=hbe.symm;have df':=hbf.symm;by_cases h1:¬e=be
 .have hx:(e != be)=true:=by cases e<;>cases be<;>simp_all
  have hy:(decide (e=be))=false:=qhw h1;rw[hy]at H;simp[la,lh,t3,t7,hel,de',hx];exact H _ _ (by simp) ⟨by simp[t3],by simp[t4],by simp[t5],by simp[t7]⟩ (Ext.refl m)
 have h1:e=be:=Classical.byContradiction h1;have hx:(e != be)=false:=by rw[h1];cases be<;>rfl
 rw[qhx h1,Bool.true_and]at H;by_cases h2:¬f=bf
 .have hx2:(f != bf)=true:=by cases f<;>cases bf<;>simp_all
  rw[qhw h2]at H;simp[la,lh,t3,t7,hel,hfl,de',df',hx,hx2];exact H _ _ (by simp) ⟨by simp[t3],by simp[t4],by simp[t5],by simp[t7]⟩ (Ext.refl m)
 have h2:f=bf:=Classical.byContradiction h2;have hx2:(f != bf)=false:=by rw[h2];cases bf<;>rfl
 rw[qhx h2,Bool.true_and]at H;have part2:∀(M1:M) (E1:Ext m M1),(e=true->we k a.es=true)->∃m',((f=false/\m'=M1)\/(f=true/\(ex Tryz.prog (N+2)).f 90 [a.fv,iv k] M1=some (.bool (we k a.fs),m')))/\Ext m m':=λM1 E1 _=>by
  cases hf':f with
  | false=>exact⟨M1,.inl ⟨rfl,rfl⟩,E1⟩
  | true =>
   obtain⟨v4,m4,d1,d2,rfl⟩:=vy k hk a.fs a.fv ha.fvl N M1 ((hst.step E1).sees.self.base) (ha.fv.sees (hst.sees.self.ext E1));exact⟨m4,.inr ⟨rfl,d1⟩,E1.trans d2⟩
 cases he':e with
 | true =>
  obtain⟨v3,m3,c1,c2,rfl⟩:=vy k hk a.es a.ev ha.evl N m hst.sees.self.base ha.ev;have st3:=hst.step c2;have la3:∀o s,load1 m3 ⟨A3,o,s⟩=(qe a)[o]?:=λo s=>(st3.get 3 rfl).2.2.load1 o s;have lt3:∀o s,load1 m3 ⟨A5,o,s⟩=[iv k,av][o]?:=λo s=>(st3.get 1 rfl).2.2.load1 o s;have lh3:∀o s,load1 m3 ⟨A7,o,s⟩=(wP a.op)[o]?:=λo s=>(st3.get 0 rfl).2.2.load1 o s;simp only[wP]at lh3;simp only[qe]at la3;rw[<-he,<-hf]at lh3;rw[he']at lh lh3 hx H;cases hp:we k a.es with
  | false =>
   rw[hp]at c1 H;simp[la,lh,lt,t3,t5,t7,hel,hfl,de',df',hx,hx2,c1];exact H _ _ (by simp) ⟨by simp[t3],by simp[t4],by simp[t5],by simp[t7]⟩ c2
  | true =>
   rw[hp]at c1 H;obtain⟨m4,hm4,E4⟩:=part2 m3 c2 (λ_=>hp);rcases hm4 with ⟨hf',rfl⟩ | ⟨hf',d1⟩
   .rw[hf']at lh lh3 hx2 H;simp[la,lh,lt,lh3,t3,t5,t7,hel,hfl,de',df',hx,hx2,c1];exact H _ _ (by simp) ⟨by simp[t3],by simp[t4],by simp[t5],by simp[t7]⟩ E4
   .rw[hf']at lh lh3 hx2 H;cases hp2:we k a.fs with
    | false =>
     rw[hp2]at d1 H;simp[la,lh,lt,la3,lh3,lt3,t3,t5,t7,hel,hfl,de',df',hx,hx2,c1,d1];exact H _ _ (by simp) ⟨by simp[t3],by simp[t4],by simp[t5],by simp[t7]⟩ E4
    | true =>
     rw[hp2]at d1 H;simp[la,lh,lt,la3,lh3,lt3,t3,t5,t7,hel,hfl,de',df',hx,hx2,c1,d1];exact H _ _ (by simp) ⟨by simp[t3],by simp[t4],by simp[t5],by simp[t7]⟩ E4
 | false =>
  rw[he']at lh hx H;obtain⟨m4,hm4,E4⟩:=part2 m (Ext.refl m) (λh=>by rw[he']at h;cases h);rcases hm4 with ⟨hf',rfl⟩ | ⟨hf',d1⟩
  .rw[hf']at lh hx2 H;simp[la,lh,t3,t7,hel,hfl,de',df',hx,hx2];exact H _ _ (by simp) ⟨by simp[t3],by simp[t4],by simp[t5],by simp[t7]⟩ E4
  .rw[hf']at lh hx2 H;cases hp2:we k a.fs with
   | false =>
    rw[hp2]at d1 H;simp[la,lh,lt,t3,t5,t7,hel,hfl,de',df',hx,hx2,d1];exact H _ _ (by simp) ⟨by simp[t3],by simp[t4],by simp[t5],by simp[t7]⟩ E4
   | true =>
    rw[hp2]at d1 H;simp[la,lh,lt,t3,t5,t7,hel,hfl,de',df',hx,hx2,d1];exact H _ _ (by simp) ⟨by simp[t3],by simp[t4],by simp[t5],by simp[t7]⟩ E4
theorem wa4 (hst:St m0 m (waS A3 A4 A5 A7 a cells tv k av))(hT:WT t A3 A4 A5 A7)(hav:wB av=some (.int .i64 (na:Int))){x:Ex}{kn kr:K}{ke:Nat->K}{Q:Option Out->Prop}
  (H:∀t',Tm.get 115 t'=.bool (!toB (pT a.op) na a.to)->Q (kn t' m)):Q (XT x kn ke kr t m):=by
 have la:∀o s,load1 m ⟨A3,o,s⟩=(qe a)[o]?:=λo s=>(hst.get 3 rfl).2.2.load1 o s;have lt:∀o s,load1 m ⟨A5,o,s⟩=[iv k,av][o]?:=λo s=>(hst.get 1 rfl).2.2.load1 o s;have lh:∀o s,load1 m ⟨A7,o,s⟩=(wP a.op)[o]?:=λo s=>(hst.get 0 rfl).2.2.load1 o s;obtain⟨t3,t4,t5,t7⟩:=hT;simp only[qe,wP]at la lh;cases hd:pT a.op with
 | true =>
  rw[hd]at lh H;by_cases h1:a.to<0
  .have e1:(a.to<0)=True:=qi1 h1;have hb:toB true na a.to=false:=qhw (by omega);rw[hb]at H;simp[la,lh,t3,t7,e1];exact H _ (by simp)
  .have e1:(a.to<0)=False:=qi0 h1;by_cases h2:(na:Int)<a.to
   .have e2:((na:Int)<a.to)=True:=qi1 h2;have hb:toB true na a.to=false:=qhw (by omega);rw[hb]at H;simp[la,lt,lh,t3,t5,t7,e1,hav,e2];exact H _ (by simp)
   .have e2:((na:Int)<a.to)=False:=qi0 h2;have hb:toB true na a.to=true:=qhx (by omega);rw[hb]at H;simp[la,lt,lh,t3,t5,t7,e1,hav,e2];exact H _ (by simp)
 | false =>
  rw[hd]at lh H;have hb:toB false na a.to=decide (a.to=0):=rfl;rw[hb]at H;simp[la,lh,t3,t7];exact H _ (by simp)
end
def yY (cells:Int)(k na:Nat)(a:Ac):Bool :=
 decide (1<=a.op/\a.op<=10)&&(zi a.op a.mode&&(vP (pD a.op) k a.dst&&(plB (pP a.op) cells k a&&(esB (pE a.op) (pF a.op) k a&&toB (pT a.op) na a.to))))
theorem Yu (k:Nat)(hk:k<1000000)(cells:Int)(tv:Value)(hc0:0<=cells)(hc1:cells<=4096)(av:Value)(na:Nat)(hav:wB av=some (.int .i64 (na:Int)))(a:Ac)(N:Nat)(m:M)(hm:m.base<=m.n)(ha:AcOK m a) :
  CallV (ex Tryz.prog (N+4)) 46 [.agg ⟨qe a⟩,.agg ⟨[iv cells,tv]⟩,.agg ⟨[iv k,av]⟩] m (.bool (yY cells k na a)):=by
 refine qm dc3_ok (by simp) ?_;have st0:St m m []:=St.nil hm (Ext.refl m);have st1:=st0.row (qe a);obtain⟨m1,hm1⟩:=qi4 (Dx.newRow m (qe a));rw[<-hm1]at st1;have st2:=st1.row [iv cells,tv];obtain⟨m2,hm2⟩:=qi4 (Dx.newRow m1 [iv cells,tv]);rw[<-hm2]at st2;have st3:=st2.row [iv k,av];obtain⟨m3,hm3⟩:=qi4 (Dx.newRow m2 [iv k,av]);rw[<-hm3]at st3;have la:∀o s,load1 m3 ⟨m.n,o,s⟩=(qe a)[o]?:=λo s=>(st3.get 2 rfl).2.2.load1 o s;simp only[qe]at la;have hA:yY cells k na a=(decide (1<=a.op/\a.op<=10)&&(zi a.op a.mode&&(vP (pD a.op) k a.dst&&(plB (pP a.op) cells k a&&(esB (pE a.op) (pF a.op) k a&&toB (pT a.op) na a.to))))):=rfl;rw[hA];by_cases h1:a.op<1
 .have e1:(a.op<1)=True:=qi1 h1;rw[qhw (show ¬(1<=a.op/\a.op<=10) by omega)];simp[<-hm1,<-hm2,<-hm3,la,e1];exact qf st3.ext (by simp)
 have e1:(a.op<1)=False:=qi0 h1;by_cases h2:10<a.op
 .have e2:(10<a.op)=True:=qi1 h2;rw[qhw (show ¬(1<=a.op/\a.op<=10) by omega)];simp[<-hm1,<-hm2,<-hm3,la,e1,e2];exact qf st3.ext (by simp)
 have e2:(10<a.op)=False:=qi0 h2;rw[qhx (show (1<=a.op/\a.op<=10) by omega),Bool.true_and];obtain⟨v4,m4,c1,c2,rfl⟩:=may_c (N+2) a.op a.mode m3;have st4:=st3.step c2;cases hmay:zi a.op a.mode with
 | false =>
  rw[hmay]at c1;simp[<-hm1,<-hm2,<-hm3,la,e1,e2,c1];exact qf st4.ext (by simp)
 | true =>
 rw[hmay]at c1;rw[Bool.true_and];have la4:∀o s,load1 m4 ⟨m.n,o,s⟩=(qe a)[o]?:=λo s=>(st4.get 2 rfl).2.2.load1 o s;simp only[qe]at la4;obtain⟨v5,m5,d1,d2,rfl⟩:=qfd (N+2) (op:=a.op) (by omega) (by omega) m4 st4.sees.self.base;have st5:=st4.step d2;have st6:=st5.row [zF,zF,zF,zF,zF];obtain⟨m6,hm6⟩:=qi4 (Dx.newRow m5 [zF,zF,zF,zF,zF]);rw[<-hm6]at st6;obtain⟨m7,s1,s2,s3,s4⟩:=st6.fill 0 rfl (n:=5) (l':=wP a.op) rfl rfl (by simp[wP,okC]);have st7:St m m7 (waS m.n m1.n m2.n m5.n a cells tv k av):=s2;have E7:=st7.ext;simp[<-hm1,<-hm2,<-hm3,la,e1,e2,c1,la4,d1,<-hm6,s1,-DS];refine wa1 (A3:=m.n) (A4:=m1.n) (A5:=m2.n) (A7:=m5.n) st7 ⟨by simp,by simp,by simp,by simp⟩ (λt1 h27 T1=>?_);cases hd:vP (pD a.op) k a.dst with
 | false =>
  rw[hd]at h27;simp[h27];exact qf E7 (by simp)
 | true =>
 rw[hd]at h27;rw[Bool.true_and];simp[h27,-DU];refine wa2 st7 T1 hk hc0 hc1 (ha.sees st7.sees) (λt2 m8 h50 T2 E8=>?_);have st8:=st7.step E8;cases hp:plB (pP a.op) cells k a with
 | false =>
  rw[hp]at h50;simp[h50];exact qf st8.ext (by simp)
 | true =>
 rw[hp]at h50;rw[Bool.true_and];simp[h50,-Gl];refine wa3 st8 T2 hk (ha.sees st8.sees) (λt3 m9 h80 T3 E9=>?_);have st9:=st8.step E9;cases he:esB (pE a.op) (pF a.op) k a with
 | false =>
  rw[he]at h80;simp[h80];exact qf st9.ext (by simp)
 | true =>
 rw[he]at h80;rw[Bool.true_and];simp[h80,-Gm];refine wa4 st9 T3 hav (λt4 h115=>?_);cases ht:toB (pT a.op) na a.to with
 | false =>
  rw[ht]at h115;simp[h115];exact qf st9.ext (by simp)
 | true =>
 rw[ht]at h115;simp[h115];exact qf st9.ext (by simp)
structure Th where
 loc:Int
 av:Value
 acts:List Ac
def zd (t:Th):List Value:=[iv t.loc,t.av]
structure ThOK (m:M)(t:Th):Prop where
 av:Rd m t.av 11 qe t.acts
 acts:∀a∈t.acts,AcOK m a
 len:t.acts.length<=9223372036854775807
theorem ThOK.sees {m m':M}{t:Th}(h:ThOK m t)(k:Sees m m'):ThOK m' t:=⟨h.av.sees k,λa ha=>(h.acts a ha).sees k,h.len⟩
def thB (cells:Int)(t:Th):Bool:=decide (0<=t.loc/\t.loc<=24)&&(decide (t.acts.length<=65536)&&t.acts.all (yY cells t.loc.toNat t.acts.length))
structure Pg where
 cells:Int
 tv:Value
 ths:List Th
structure PgOK (m:M)(p:Pg):Prop where
 tv:Rd m p.tv 2 zd p.ths
 ths:∀t∈p.ths,ThOK m t
 len:p.ths.length<=9223372036854775807
theorem PgOK.sees {m m':M}{p:Pg}(h:PgOK m p)(k:Sees m m'):PgOK m' p:=⟨h.tv.sees k,λa ha=>(h.ths a ha).sees k,h.len⟩
def pgB (p:Pg):Bool:=decide (0<=p.cells/\p.cells<=4096)&&(decide (p.ths.length<=64)&&p.ths.all (thB p.cells))
def pgV (p:Pg):Value:=.agg ⟨[iv p.cells,p.tv]⟩
theorem yq {α:Type}{l:List α}{f:α->Bool}{i:Nat}{x:α}(h:l[i]?=some x)(hf:f x=false):l.all f=false:=by
 cases hc:l.all f with
 | false=>rfl
 | true=>exact absurd (List.all_eq_true.1 hc x (qh6 h)) (by rw[hf];simp)
theorem fD {α:Type}{l:List α}{f:α->Bool}(h:∀(i:Nat) x,i<l.length->l[i]?=some x->f x=true):l.all f=true :=
 List.all_eq_true.2 λx hx=>let ⟨i,hi⟩:=qhr hx;h i x (qh7.1 hi).1 hi
theorem YA (p:Pg)(N:Nat)(m:M)(hm:m.base<=m.n)(hp:PgOK m p):CallV (ex Tryz.prog (N+5)) 23 [pgV p] m (.bool (pgB p)):=by
 refine qm db0_ok (by simp) ?_;obtain⟨cells,tv,ths⟩:=p;have st1:=(St.nil hm (Ext.refl m)).row [iv cells,tv];obtain⟨m1,hm1⟩:=qi4 (Dx.newRow m [iv cells,tv]);rw[<-hm1]at st1;have lp:∀o s,load1 m1 ⟨m.n,o,s⟩=[iv cells,tv][o]?:=λo s=>(st1.get 0 rfl).2.2.load1 o s;obtain⟨n,hn⟩:=qi4 (ths.length);have hll:wB tv=some (.int .i64 (n:Int)):=by rw[hn];exact hp.tv.len
 have hB:pgB ⟨cells,tv,ths⟩=(decide (0<=cells/\cells<=4096)&&(decide (n<=64)&&ths.all (thB cells))):=by rw[hn];rfl
 rw[hB];unfold pgV;by_cases h1:cells<0
 .have e1:(cells<0)=True:=qi1 h1;rw[qhw (show ¬(0<=cells/\cells<=4096) by omega)];simp[<-hm1,lp,e1];exact qf st1.ext (by simp)
 have e1:(cells<0)=False:=qi0 h1;by_cases h2:4096<cells
 .have e2:(4096<cells)=True:=qi1 h2;rw[qhw (show ¬(0<=cells/\cells<=4096) by omega)];simp[<-hm1,lp,e1,e2];exact qf st1.ext (by simp)
 have e2:(4096<cells)=False:=qi0 h2;rw[qhx (show (0<=cells/\cells<=4096) by omega),Bool.true_and];by_cases h3:64<n
 .have e3:((64:Int)<(n:Int))=True:=qi1 (by omega);have e3':(64<n)=True:=qi1 (by omega);rw[qhw (show ¬(n<=64) by omega)];simp[<-hm1,lp,e1,e2,hll,e3];exact qf st1.ext (by simp)
 have e3:((64:Int)<(n:Int))=False:=qi0 (by omega);have e3':(64<n)=False:=qi0 (by omega);rw[qhx (show (n<=64) by omega),Bool.true_and];simp[<-hm1,lp,e1,e2,hll,e3];refine qq (c:=DB) rfl (Ret m _) (λi t m'=>St m m' [(m.n,[iv cells,tv])]/\(∀(j:Nat) x,j<i->ths[j]?=some x->thB cells x=true)/\Tm.get 1 t=.pointer (some ⟨m.n,0,none⟩)/\Tm.get 22 t=tv/\Tm.get 23 t=iv n/\Tm.get 24 t=iv i) n (by omega)
  ⟨st1,λj nd hj=>absurd hj (qhv _),by simp,by simp,by simp,by simp⟩ (λi t m' k' hi hI hk'=>?_)
 obtain⟨st,hok,t1,t22,t23,t24⟩:=hI;by_cases hil:i<n
 .have hd:=dlt hil;obtain⟨th,hth⟩:∃r,ths[i]?=some r:=⟨_,qh5 (by omega)⟩;have ⟨a1,a2,_⟩:=hp.tv.at hth;have a2':=a2 m' st.sees;have hthok:=hp.ths th (qh6 hth);have ni:=qK (i:=i) (by omega);obtain⟨loc,av,acts⟩:=th;simp only[zd]at a2';have st1:=st.row [zI,zS];obtain⟨m1,hm1⟩:=qi4 (Dx.newRow m' [zI,zS]);rw[<-hm1]at st1;have okav:okC av=true:=hthok.av.okV;obtain⟨m2,s1,s2,s3,s4⟩:=st1.fill 0 rfl (n:=2) (l':=[iv loc,av]) rfl rfl (by simp[okC];exact okav);have s2':St m m2 [(m'.n,[iv loc,av]),(m.n,[iv cells,tv])]:=s2;have l2:∀o s,load1 m2 ⟨m'.n,o,s⟩=[iv loc,av][o]?:=λo s=>(s2'.get 0 rfl).2.2.load1 o s;obtain⟨na,hna⟩:=qi4 (acts.length);have hal:wB av=some (.int .i64 (na:Int)):=by rw[hna];exact hthok.av.len
  have hnal:na<=9223372036854775807:=by rw[hna];exact hthok.len
  have hT:thB cells ⟨loc,av,acts⟩=(decide (0<=loc/\loc<=24)&&(decide (na<=65536)&&acts.all (yY cells loc.toNat na))):=by rw[hna];rfl
  have bad:thB cells ⟨loc,av,acts⟩=false->ths.all (thB cells)=false:=λh=>yq hth h;by_cases h4:loc<0
  .have e4:(loc<0)=True:=qi1 h4;rw[bad (by rw[hT,qhw (show ¬(0<=loc/\loc<=24) by omega)];rfl)];simp[t22,t23,t24,hd,a1,a2',qb,<-hm1,s1,l2,e4];exact qf s2'.ext (by simp)
  have e4:(loc<0)=False:=qi0 h4;by_cases h5:24<loc
  .have e5:(24<loc)=True:=qi1 h5;rw[bad (by rw[hT,qhw (show ¬(0<=loc/\loc<=24) by omega)];rfl)];simp[t22,t23,t24,hd,a1,a2',qb,<-hm1,s1,l2,e4,e5];exact qf s2'.ext (by simp)
  have e5:(24<loc)=False:=qi0 h5;rw[qhx (show (0<=loc/\loc<=24) by omega),Bool.true_and]at hT;by_cases h6:65536<na
  .have e6:((65536:Int)<(na:Int))=True:=qi1 (by omega);have e6':(65536<na)=True:=qi1 (by omega);rw[bad (by rw[hT,qhw (show ¬(na<=65536) by omega)];rfl)];simp[t22,t23,t24,hd,a1,a2',qb,<-hm1,s1,l2,e4,e5,hal,e6];exact qf s2'.ext (by simp)
  have e6:((65536:Int)<(na:Int))=False:=qi0 (by omega);have e6':(65536<na)=False:=qi0 (by omega);rw[qhx (show (na<=65536) by omega),Bool.true_and]at hT;obtain⟨q,rfl⟩:∃q:Nat,loc=q:=⟨loc.toNat,by omega⟩;rw[qhj]at hT;obtain⟨z,hz⟩:∃z:Int,z=(q:Int):=⟨_,rfl⟩;rw[<-hz]at a2' s1 s2' l2 e4 e5;simp[t22,t23,t24,hd,a1,a2',qb,<-hm1,s1,l2,e4,e5,hal,e6];refine qq (c:=Dz) rfl (Ret m _) (λj t m3=>St m m3 [(m'.n,[iv q,av]),(m.n,[iv cells,tv])]/\(∀(j':Nat) x,j'<j->acts[j']?=some x->yY cells q na x=true)/\Tm.get 1 t=.pointer (some ⟨m.n,0,none⟩)/\Tm.get 4 t=.pointer (some ⟨m'.n,0,none⟩)/\Tm.get 22 t=tv/\Tm.get 23 t=iv n/\Tm.get 24 t=iv i/\Tm.get 43 t=av/\Tm.get 44 t=iv na/\Tm.get 45 t=iv j) na (by omega)
   ⟨by rw[hz]at s2';exact s2',λj nd hj=>absurd hj (qhv _),by simp[t1],by simp,by simp[t22],by simp[t23],by simp[t24],by simp,by simp,by simp⟩ (λj t m3 k3 hj hJ hk3=>?_)
  obtain⟨st3,hok3,t1,t4,t22,t23,t24,t43,t44,t45⟩:=hJ;by_cases hjl:j<na
  .have hd:=dlt hjl;obtain⟨a,hac⟩:∃r,acts[j]?=some r:=⟨_,qh5 (by omega)⟩;have ⟨b1,b2,_⟩:=hthok.av.at hac;have b2':=b2 m3 st3.sees;have haok:=hthok.acts a (qh6 hac);have nj:=qK (i:=j) (by omega);obtain⟨Z,hZ⟩:∃Z:List Value,Z=[zI,zI,zI,zI,zS,zS,zS,zI,zI,zI,zI]:=⟨_,rfl⟩;have st4:=st3.row Z;obtain⟨m4,hm4⟩:=qi4 (Dx.newRow m3 Z);rw[<-hm4]at st4;have okr:∀v∈qe a,okC v=true:=by
    have o1:=haok.ix.okV;have o2:=haok.ev.okV;have o3:=haok.fv.okV;intro v hv;simp only[qe,List.mem_cons,List.not_mem_nil,or_false]at hv;rcases hv with rfl | rfl | rfl | rfl | rfl | rfl | rfl | rfl | rfl | rfl | rfl<;>first | rfl | assumption
   obtain⟨m5,w1,w2,w3,w4⟩:=st4.fill 0 rfl (n:=11) (l':=qe a) (by rw[hZ];rfl) rfl okr;have st5:St m m5 [(m3.n,qe a),(m'.n,[iv q,av]),(m.n,[iv cells,tv])]:=w2;have l5a:loads m5 ⟨m3.n,0,none⟩ 11=some (qe a):=(st5.get 0 rfl).2.2.loads (n:=11) (by simp[qe]);have l5t:loads m5 ⟨m'.n,0,none⟩ 2=some [iv q,av]:=(st5.get 1 rfl).2.2.loads (n:=2) (by simp);have l5p:loads m5 ⟨m.n,0,none⟩ 2=some [iv cells,tv]:=(st5.get 2 rfl).2.2.loads (n:=2) (by simp);obtain⟨v6,m6,c1,c2,rfl⟩:=Yu q (by omega) cells tv (by omega) (by omega) av na hal a N m5 st5.sees.self.base (haok.sees st5.sees);have st6:=st5.step c2;rw[hZ]at hm4;cases hab:yY cells q na a with
   | true =>
    rw[hab]at c1;simp[t1,t4,t43,t44,t45,hd,b1,b2',qb,<-hm4,w1,l5a,l5t,l5p,c1,nj];exact hk3 hjl _ _ ⟨st6.sub (by simp) (by have:=st6.nd;simp at this ⊢;exact this.2),λj' x hj' hx=>by
     by_cases hjj:j'=j
     .subst hjj;rw[hac]at hx;cases hx;exact hab
     .exact hok3 j' x (by omega) hx,by simp[t1],by simp[t4],by simp[t22],by simp[t23],by simp[t24],by simp[t43],by simp[t44],by simp⟩
   | false =>
    rw[hab]at c1;rw[bad (by rw[hT];exact yq hac hab)];simp[t1,t4,t43,t44,t45,hd,b1,b2',qb,<-hm4,w1,l5a,l5t,l5p,c1];exact qf st6.ext (by simp)
  .obtain rfl:j=na:=by omega
   have hd:((j:Int)<(j:Int))=False:=qi0 (by omega);have hth1:thB cells ⟨(q:Int),av,acts⟩=true:=by rw[hT];exact fD λi' x hi' hx=>hok3 i' x (by omega) hx
   simp[t24,t44,t45,hd,ni];exact hk' hil _ _ ⟨st3.sub (by simp) (by have:=st3.nd;simp at this ⊢),λj' x hj' hx=>by
    by_cases hjj:j'=i
    .subst hjj;rw[hth]at hx;cases hx;exact hth1
    .exact hok j' x (by omega) hx,by simp[t1],by simp[t22],by simp[t23],by simp⟩
 .obtain rfl:i=n:=by omega
  have hd:((i:Int)<(i:Int))=False:=qi0 (by omega);rw[fD (f:=thB cells) (l:=ths) λi' x hi' hx=>hok i' x (by omega) hx];simp[t23,t24,hd];exact qf st.ext (by simp)
end Go.Sx
namespace Go.Sx
open Go.RowKit Go.WideShapes Go.ChangeShapes Go.Dx
structure PT (P:Program)(tp ts tt tas ta tns tn ti tu:TypeId):Prop where
 p:∃fs,P.underlying tp=some (.struct fs)/\fs.toList.map (λf=>(f.type,f.offset))=[(ti,0),(ts,1)]
 pc:P.cellsOf tp=2
 s:P.underlying ts=some (.slice tt)
 sc:P.cellsOf ts=1
 t:∃fs,P.underlying tt=some (.struct fs)/\fs.toList.map (λf=>(f.type,f.offset))=[(ti,0),(tas,1)]
 tc:P.cellsOf tt=2
 l:P.underlying tas=some (.slice ta)
 lc:P.cellsOf tas=1
 a:∃fs,P.underlying ta=some (.struct fs)/\fs.toList.map (λf=>(f.type,f.offset))=[(ti,0),(ti,1),(ti,2),(ti,3),(tns,4),(tns,5),(tns,6),(ti,7),(ti,8),(ti,9),(ti,10)]
 ac:P.cellsOf ta=11
 ns:P.underlying tns=some (.slice tn)
 nsc:P.cellsOf tns=1
 n:∃fs,P.underlying tn=some (.struct fs)/\fs.toList.map (λf=>(f.type,f.offset))=[(ti,0),(tu,1),(ti,2),(ti,3)]
 nc:P.cellsOf tn=4
 i:P.underlying ti=some (.int .i64)
 ic:P.cellsOf ti=1
 u:P.underlying tu=some (.int .u64)
 uc:P.cellsOf tu=1
theorem Qr {fs:Array Field}{l:List (TypeId × Nat)}(h:fs.toList.map (λf=>(f.type,f.offset))=l){i:Nat}{t:TypeId}{o:Nat}(hi:l[i]?=some (t,o)):∃f,fs[i]?=some f/\f.type=t/\f.offset=o:=by
 subst h;rw[qhm,Option.map_eq_some_iff]at hi;obtain⟨f,h1,h2⟩:=hi;injection h2 with h3 h4;exact⟨f,by simpa using h1,h3,h4⟩
theorem u_of' {n:Int}(h:(Lit.int .u64 n).wf=true):∃u:U,n=(u.1:Int):=by
 simp only[Lit.wf,qhb,qi3]at h;have h1:(0:Int)<=n:=h.1;have h2:n<=18446744073709551615:=h.2;exact⟨⟨n.toNat,by omega⟩,by show n=(n.toNat:Int);omega⟩
instance instU:Inhabited U:=⟨⟨0,by omega⟩⟩
instance instNd:Inhabited Nd:=⟨⟨0,default,0,0⟩⟩
instance instAc:Inhabited Ac:=⟨⟨0,0,0,0,zF,zF,zF,0,0,0,0,[],[],[]⟩⟩
instance instTh:Inhabited Th:=⟨⟨0,zF,[]⟩⟩
section
variable {H:Type}{enc:TypeId × Value->H}{P:Program}{w:World}{tp ts tt tas ta tns tn ti tu:TypeId}
theorem jt {fs:Array Field}{l:List (TypeId × Nat)}{t:TypeId}{n:Nat}{cs:List Value}{y:DataW H × List MemPlace}(hs:P.underlying t=some (.struct fs))(hl:fs.toList.map (λf=>(f.type,f.offset))=l)
  (h:DataW.trod enc P w 0 (λ_=>true) true n t cs=some y):cs.length=P.cellsOf t/\∃(xs:List (DataW H × List MemPlace)) (k:Nat),y=(.agg (xs.map (·.1)),xs.flatMap (·.2))/\xs.length=l.length /\
   ∀(i:Nat) (t':TypeId) (o:Nat),l[i]?=some (t',o)->DataW.trod enc P w 0 (λ_=>true) true k t' ((cs.drop o).take (P.cellsOf t'))=xs[i]?:=by
 obtain⟨xs,k,_,e,h1,h2,h3⟩:=DataW.trod_struct hs h;refine⟨h1,xs,k,e,by rw[h2,<-hl];simp,λi t' o hi=>?_⟩;obtain⟨f,q1,q2,q3⟩:=Qr hl hi;have:=h3 i f q1;rw[q2,q3]at this;exact this
theorem qf0 (T:PT P tp ts tt tas ta tns tn ti tu)(b:Nat)(l:Dx.Loc)(n:Nat)(cs:List Value)(y:DataW H × List MemPlace)(hb:km w b=some l)(h:DataW.trod enc P w 0 (λ_=>true) true n tn cs=some y)
  (hz:∀c off,MemPlace.cell c off∈y.2->w.frozen? ⟨c,off,none⟩=false):∃x:Nd,cs.map (abC w b)=(qv x).map some/\True:=by
 obtain⟨fs,h1,h2⟩:=T.n;obtain⟨hl,xs,k,_,hx,hf⟩:=jt h1 h2 h;rw[T.nc]at hl
 match cs,xs,hl,hx with
 | [c0,c1,c2,c3],[y0,y1,y2,y3],_,_ =>
  have g0:=hf 0 ti 0 rfl;have g1:=hf 1 tu 1 rfl;have g2:=hf 2 ti 2 rfl;have g3:=hf 3 ti 3 rfl;rw[T.ic]at g0 g2 g3;rw[T.uc]at g1;obtain⟨a,e0,_⟩:=DataW.trod_int T.i g0;obtain⟨u,e1,_,wb⟩:=DataW.trod_int T.u g1;obtain⟨c,e2,_⟩:=DataW.trod_int T.i g2;obtain⟨d,e3,_⟩:=DataW.trod_int T.i g3;obtain⟨v,rfl⟩:=u_of' wb;simp at e0 e1 e2 e3;exact⟨⟨a,v,c,d⟩,by rw[e0,e1,e2,e3];rfl,trivial⟩
end
end Go.Sx
