/- Contracts. -/
import Derived.Test.YtjoapkgigchboaaGreatGh
import Derived.Test.YtjoapkgigchboaaGreatGg
import Derived.Test.YtjoapkgigchboaaGreatGb3
import Derived.Laws.BitsAllLaws
import Derived.Test.YtjoapkgigchboaaGreatGa
import Derived.Test.YtjoapkgigchboaaGreatPost
import Derived.WideKeyArgs
set_option linter.unusedVariables false
set_option linter.unusedSimpArgs false
set_option linter.defProp false
set_option maxHeartbeats 8000000
namespace Go.Sx
open Go.Dx Go.Proofs
set_option maxRecDepth 10000
def patN:List Nat:=[11010010122444444444444444433333,11110010122444444444444444433333,10001011000666660000007777733333,11001011000666660000007777733333,10001010000666660000007777733333,10101010000666660000007777733333,11001010000666660000007777733333,10101010001666660000007777733333,10011011000666660111117777733333,10011010110666660010007777733333,10011010110666660010017777733333,10010001004444444444447777733333,11010001004444444444447777733333,11010011018888889999997777733333,11010011014444441111117777733333,11101011000666660000007777711111,10011010100111115555011111133333,10144444444444444444444444444,1010100444444444444444444402222,10110100444444444444444444433333,10110101444444444444444444433333,11111001014444444444447777733333,11111001004444444444447777733333,11001000110111111111117777733333,11001000100111111111117777733333,11001000010111110111117777733333,11001000010111111111117777733333,11001000000666660111117777733333,11001000000666661111117777733333,11010101000000110011110110111111,11010101000000110011111110111111,11010101000000110010000000011111,11010100000444444444444444400001,11010100010000000000000000000000,11111000101111111100007777733333,11001000101666660111117777733333,11001000111666660111117777733333,11001000101666661111117777733333,11001000111666661111117777733333,11111000001666661000007777733333,11111000101666661000007777733333,11111000011666661000007777733333,11111000111666661000007777733333,11111000001666660000007777733333,11111000101666660000007777733333,11111000011666660000007777733333,11111000111666660000007777733333]
def symL:List Nat:=[48,49,99,100,105,107,109,110,114,115]
def sym (d:Nat):Nat:=symL.getD d 48
def qJ (op k:Nat):Nat:=sym (patN.getD (op-1) 0/10^(31-k)%10)
def patS (N:Nat):Value:=.string ⟨⟨(List.range 32).map λk=>UInt8.ofNat (sym (N/10^(31-k)%10))⟩⟩
def yM (op:Nat):Value:=patS (patN.getD (op-1) 0)
theorem sym_lt (d:Nat):sym d<116:=by
 unfold sym symL
 match d with
 | 0 | 1 | 2 | 3 | 4 | 5 | 6 | 7 | 8 | 9=>decide
 | n+10=>simp
theorem bZ (op:Nat){k:Nat}(hk:k<32):Zk (yM op) (iv k)=some (.int .u8 (qJ op k)):=by
 unfold Zk
 rw[show vo (iv k)=some k from rfl,qN]
 show ob (((List.range 32).map λk=>UInt8.ofNat (sym (patN.getD (op-1) 0/10^(31-k)%10)))[k]?) _=_
 rw[qgu,List.getElem?_range hk]
 show some (Value.int .u8 ((UInt8.ofNat (qJ op k)).toNat:Int))=_
 rw[UInt8.toNat_ofNat',Nat.mod_eq_of_lt (by have:=sym_lt (patN.getD (op-1) 0/10^(31-k)%10);unfold qJ;omega)]
theorem ret_ob {m0:M}{Q:Value->M->Prop}{x y:Option Value}{k:Value->Option Out}(h:x=y)(g:Ret m0 Q (ob y k)):Ret m0 Q (ob x k):=by rw[h];exact g
theorem qf1 {m0:M}{Q:Value->M->Prop}{x y:Option (Value × M)}{k:Value->M->Option Out}(h:x=y)(g:Ret m0 Q (obp y k)):Ret m0 Q (obp x k):=by rw[h];exact g
theorem iaN (D n:Nat){k:Nat}(h:k<n):zi n 1 (.pointer (some ⟨D,0,none⟩)) (iv k)=some (.pointer (some ⟨D,k,none⟩)):=by
 have h1:vo (iv k)=some k:=rfl
 have h2:Nat.blt k n=true:=by rw[<-Nat.blt_eq]at h;exact h
 unfold zi
 rw[h1,qN,yg,qN,h2,cond_true,Nat.mul_one]
 show some (Value.pointer (some ⟨D,0+k,none⟩))=_
 rw[Nat.zero_add]
set_option maxRecDepth 100000 in
theorem di (n:Nat){m:M}(hm:m.base<=m.n){op:Nat}(h1:1<=op)(h2:op<=47):CallV (ex Tryz.prog (n+1)) 73 [iv op] m (yM op):=by
 refine qj dg0_ok (by simp) ?_
 have q1:((op:Int)<1)=False:=eq_false (by omega)
 have q2:((47:Int)<(op:Int))=False:=eq_false (by omega)
 have q2':(47<op)=False:=eq_false (by omega)
 have q1':(op=0)=False:=eq_false (by omega)
 simp[q1,q1',q2,q2']
 refine ret_ob (y:=some (.agg ⟨patN.map patS⟩)) (by kernel_rfl) ?_
 have st:=(St.nil hm (Ext.refl m)).row (List.replicate 47 (.string ⟨#[]⟩))
 obtain⟨m2,b1,st2,-,-⟩:=st.fill 0 rfl (n:=47) (l':=patN.map patS) rfl rfl (λv hv=>by
  obtain⟨x,-,rfl⟩:=List.mem_map.1 hv
  rfl)
 simp
 refine qf1 b1 ?_
 have w1:IntKind.i64.wrap ((op:Int)-1)=((op-1:Nat):Int):=by rw[wrap64 _ (by omega) (by omega)];omega
 have ia:=iaN m.n 47 (k:=op-1) (by omega)
 have l1:load1 m2 ⟨m.n,op-1,none⟩=some (yM op):=by
  rw[(st2.get 0 rfl).2.2.load1,qgu]
  have hl:patN.length=47:=rfl
  rw[qgd (by omega)]
  show some (patS _)=some (patS (patN.getD (op-1) 0))
  rw[List.getD_eq_getElem?_getD,qgd (by omega)];rfl
 simp[w1,ia,l1]
 exact qx st2.ext (by simp)
def rdP (p:Nat->Nat)(w c:Nat):Nat->Nat × Nat
 | 0=>(0,0)
 | k+1=>if p k=c then ((rdP p w c k).1*2+w/2^(31-k)%2,(rdP p w c k).2+1) else rdP p w c k
theorem Jf (p:Nat->Nat)(w c:Nat):∀k,(rdP p w c k).1<2^(rdP p w c k).2/\(rdP p w c k).2<=k
 | 0=>⟨by show 0<2^0;decide,qgg _⟩
 | k+1=>by
  obtain⟨h1,h2⟩:=Jf p w c k
  unfold rdP
  split
  .refine⟨?_,by simp only;omega⟩
   simp only[Nat.pow_succ]
   have:=Nat.mod_lt (w/2^(31-k)) (show 0<2 by decide)
   omega
  .exact⟨h1,by omega⟩
theorem VZ (p:Nat->Nat)(w c:Nat){k:Nat}(hk:k<=32):(rdP p w c k).1<4294967296/\(rdP p w c k).2<=32:=by
 obtain⟨h1,h2⟩:=Jf p w c k
 exact⟨qgi h1 (Nat.pow_le_pow_right (by decide) (show _<=32 by omega)),by omega⟩
theorem w_shr {w s:Nat}(hs:s<32):shV .shr (wv w) (iv s)=some (wv ((w/2^s:Nat):Int)):=by
 rw[Bn (by omega),qgr,Nat.min_eq_left (by show s<=32;omega)]
 congr 2
 rw[show ((2:Int)^s)=((2^s:Nat):Int) by push_cast;rfl,<-Int.ofNat_fdiv]
theorem w_and1 {w:Nat}(hw:w<4294967296):ky .and (wv w) (.int .u32 1)=some (wv ((w%2:Nat):Int)):=by
 have:=Go.u32_and_nat w 1 hw (by decide)
 rw[xU .u32 (w:Int) 1]
 rw[show (1:Int)=((1:Nat):Int) from rfl,this,Nat.and_one_is_mod]
theorem XB (n:Nat){m:M}(hm:m.base<=m.n)(op:Nat){w c:Nat}(hw:w<4294967296):CallV (ex Tryz.prog (n+1)) 74 [yM op,wv w,.int .u8 c] m (.tuple #[iv (rdP (qJ op) w c 32).1,iv (rdP (qJ op) w c 32).2]):=by
 refine qj dg1_ok (by simp) ?_
 simp
 refine qF (c:=cg1_9) rfl (Ret m _) (λi t m'=>Tm.get 0 t=yM op/\Tm.get 1 t=wv w/\Tm.get 2 t=.int .u8 c/\Tm.get 8 t=iv (rdP (qJ op) w c i).1/\Tm.get 9 t=iv (rdP (qJ op) w c i).2/\Tm.get 10 t=iv i/\m'=m) 32 (by omega)
  ⟨by simp,by simp,by simp,by simp[rdP],by simp[rdP],by simp,rfl⟩ (λi t m' k hi hI hk=>?_)
 obtain⟨t0,t1,t2,t8,t9,t10,rfl⟩:=hI
 by_cases hil:i<32
 .have dd:((i:Int)<32)=True:=eq_true (by omega)
  have w1:=qY (i:=i) (by omega)
  have sx:=bZ op hil
  obtain⟨r1,r2⟩:=VZ (qJ op) w c (k:=i) (by omega)
  obtain⟨v,hv⟩:=qh2 ((rdP (qJ op) w c i).1)
  obtain⟨u,hu⟩:=qh2 ((rdP (qJ op) w c i).2)
  rw[<-hv]at t8 r1
  rw[<-hu]at t9 r2
  by_cases hc:qJ op i=c
  .have e1:rdP (qJ op) w c (i+1)=(v*2+w/2^(31-i)%2,u+1):=by rw[hv,hu];show (if qJ op i=c then _ else _)=_;rw[if_pos hc]
   obtain⟨s,hs⟩:=qh2 (31-i)
   have sb:IntKind.i64.wrap (31-(i:Int))=(s:Int):=by rw[wrap64 _ (by omega) (by omega)];omega
   rw[<-hs]at e1
   have sh:=w_shr (w:=w) (s:=s) (by omega)
   obtain⟨x,hx⟩:=qh2 (w/2^s)
   have xl:x<4294967296:=by rw[hx];exact Nat.lt_of_le_of_lt (Nat.div_le_self _ _) hw
   rw[<-hx]at e1 sh
   have an:=w_and1 xl
   obtain⟨y,hy⟩:=qh2 (x%2)
   have yl:y<2:=by rw[hy];exact Nat.mod_lt _ (by decide)
   rw[<-hy]at e1 an
   have mu:ky .mul (iv v) (.int .i64 2)=some (iv (v*2:Nat)):=by rw[xh .i64 v 2,wrap64 _ (by omega) (by omega)];simp
   obtain⟨z,hz⟩:=qh2 (v*2)
   rw[<-hz]at mu e1
   have cv:xH .i64 (wv y)=some (iv y):=by rw[wV,wrap64 _ (by omega) (by omega)]
   have ad:IntKind.i64.wrap ((z:Int)+(y:Int))=((z+y:Nat):Int):=by rw[wrap64 _ (by omega) (by omega)];simp
   have w2:=qY (i:=u) (by omega)
   obtain⟨a,ha⟩:=qh2 (z+y)
   rw[<-ha]at ad e1
   obtain⟨b,hb⟩:=qh2 (u+1)
   rw[<-hb]at w2 e1
   simp[t0,t1,t2,t8,t9,t10,dd,hil,sx,hc,mu,sb,sh,an,cv,ad,w1,w2]
   exact hk hil _ _ ⟨by simp[t0],by simp[t1],by simp[t2],by simp[e1],by simp[e1],by simp,rfl⟩
  .have e1:rdP (qJ op) w c (i+1)=rdP (qJ op) w c i:=by show (if qJ op i=c then _ else _)=_;rw[if_neg hc]
   have hc':((qJ op i:Int)=(c:Int))=False:=eq_false (by omega)
   have hc2:(qJ op i=c)=False:=eq_false hc
   simp[t0,t1,t2,t8,t9,t10,dd,hil,sx,hc',hc2,w1]
   exact hk hil _ _ ⟨by simp[t0],by simp[t1],by simp[t2],by simp[e1,t8,hv],by simp[e1,t9,hu],by simp,rfl⟩
 .obtain rfl:i=32:=by omega
  simp[t8,t9,t10]
  exact jc (Ext.refl _) (by simp[t8,t9])
def hasB (op c:Nat):Bool:=(List.range 32).any λk=>decide (qJ op k=c)
theorem Has_c (n:Nat){m:M}(hm:m.base<=m.n){op:Nat}(h1:1<=op)(h2:op<=47)(c:Nat):CallV (ex Tryz.prog (n+2)) 99 [iv op,.int .u8 c] m (.bool (hasB op c)):=by
 refine qj di6_ok (by simp) ?_
 obtain⟨v,m1,a1,a2,rfl⟩:=di n hm h1 h2
 have hl:∀t:Tm,Tm.get 10 t=yM op->Xx (tg 10) t=some (iv 32):=λt ht=>by
  show ob (Qc (Tm.get 10 t)) _=_
  rw[ht];rfl
 simp[a1]
 refine qF (c:=ci6_9) rfl (Ret m _) (λi t m'=>Tm.get 1 t=.int .u8 c/\Tm.get 5 t=yM op/\Tm.get 6 t=iv i/\m'=m1/\∀k,k<i->qJ op k≠c) 32 (by omega)
  ⟨by simp,by simp,by simp,rfl,λk hk=>by omega⟩ (λi t m' k hi hI hk=>?_)
 obtain⟨t1,t5,t6,rfl,hn⟩:=hI
 by_cases hil:i<32
 .have dd:((i:Int)<32)=True:=eq_true (by omega)
  have w1:=qY (i:=i) (by omega)
  have sx:=bZ op hil
  by_cases hc:qJ op i=c
  .have hh:hasB op c=true:=by unfold hasB;rw[List.any_eq_true];exact⟨i,by simpa using hil,by simpa using hc⟩
   simp[t1,t5,t6,hl,dd,hil,sx,hc]
   exact qx a2 (by simp[hh])
  .have hc':((qJ op i:Int)=(c:Int))=False:=eq_false (by omega)
   have hc2:(qJ op i=c)=False:=eq_false hc
   simp[t1,t5,t6,hl,dd,hil,sx,hc',hc2,w1]
   exact hk hil _ _ ⟨by simp[t1],by simp[t5],by simp,rfl,λk hk=>by
    rcases Nat.lt_succ_iff_lt_or_eq.1 hk with h | rfl
    .exact hn k h
    .exact hc⟩
 .obtain rfl:i=32:=by omega
  have hh:hasB op c=false:=by
   unfold hasB
   rw[List.any_eq_false]
   intro k hk
   simp at hk
   simpa using hn k hk
  simp[t5,t6,hl]
  exact qx a2 (by simp[hh])
end Go.Sx
namespace Go.Sx
open Go.Dx Go.Proofs
set_option maxRecDepth 10000
def KA6 (t t':Tm):Prop:=Tm.get 0 t'=Tm.get 0 t/\Tm.get 1 t'=Tm.get 1 t/\Tm.get 4 t'=Tm.get 4 t/\Tm.get 5 t'=Tm.get 5 t/\Tm.get 6 t'=Tm.get 6 t
section
variable {x:Ex}{kn kr:K}{ke:Nat->K}{Q:Option Out->Prop}{t:Tm}{m0 m:M}{B R:Nat}{i:Ins}{op v n:Nat}
theorem as_k (st:St m0 m [(B,qv i),(R,z6i)])(t6:Tm.get 6 t=.pointer (some ⟨B,0,none⟩))(t7:Tm.get 7 t=iv v)(t9:Tm.get 9 t=iv n)
  (h:∀t' m' i',KA6 t t'->St m0 m' [(B,qv i'),(R,z6i)]->(i'.op=i.op/\i'.rd=i.rd/\i'.rn=i.rn/\i'.rm=i.rm/\(n=0->i'.cond=i.cond))->Q (kn t' m')):Q (BZ x kn ke kr t m):=by
 by_cases c:n=0
 .subst c
  simp[t9]
  exact h _ _ i ⟨by simp,by simp,by simp,by simp,by simp⟩ st ⟨rfl,rfl,rfl,rfl,λ_=>rfl⟩
 .have q:((0:Int)<(n:Int))=True:=eq_true (by omega)
  have q':(0<n)=True:=eq_true (by omega)
  obtain⟨a,ha⟩:∃a:Int,a=(v:Int).tmod 2:=⟨_,rfl⟩
  have r:=jK .i64 (v:Int) 2 (by decide)
  rw[<-ha]at r
  obtain⟨b,hb⟩:∃b:Int,b=IntKind.i64.wrap (2*a):=⟨_,rfl⟩
  have mu:=xh .i64 2 a
  rw[<-hb]at mu
  obtain⟨c,hc⟩:∃c:Int,c=IntKind.i64.wrap ((v:Int)+1):=⟨_,rfl⟩
  obtain⟨d,hd⟩:∃d:Int,d=IntKind.i64.wrap (c-b):=⟨_,rfl⟩
  obtain⟨m2,s1,st2,-,-⟩:=st.store 0 (b:=B) rfl (o:=5) (v:=iv d) (by simp[qv]) rfl
  simp[t6,t7,t9,q,q',r,mu,<-hc,<-hd,s1]
  exact h _ _ { i with cond:=d } ⟨by simp,by simp,by simp,by simp,by simp[t6]⟩ st2 ⟨rfl,rfl,rfl,rfl,λhn=>absurd hn ‹_›⟩
theorem as_i (t0:Tm.get 0 t=iv op)(t7:Tm.get 7 t=iv v)(t9:Tm.get 9 t=iv n)(hn:n<=32)(h:∀t' (y:Int),KA6 t t'->Tm.get 7 t'=iv y->(n=0->y=v)->Q (kn t' m)):Q (Db x kn ke kr t m):=by
 by_cases c1:18<=op/\op<=21
 .have q1:((18:Int)<=(op:Int))=True:=eq_true (by omega)
  have q1':(18<=op)=True:=eq_true (by omega)
  have q2:((op:Int)<=21)=True:=eq_true (by omega)
  have q2':(op<=21)=True:=eq_true (by omega)
  by_cases c2:n=0
  .subst c2
   simp[t0,t7,t9,q1,q1',q2,q2']
   exact h _ v ⟨by simp,by simp,by simp,by simp,by simp⟩ (by simp[t7]) (λ_=>rfl)
  have q3:((0:Int)<(n:Int))=True:=eq_true (by omega)
  have q3':(0<n)=True:=eq_true (by omega)
  have w1:IntKind.i64.wrap ((n:Int)-1)=((n-1:Nat):Int):=by rw[wrap64 _ (by omega) (by omega)];omega
  obtain⟨k,hk⟩:=qh2 (n-1)
  rw[<-hk]at w1
  have s1:=gi (k:=.i64) (k':=.i64) (a:=1) (b:=(k:Int)) (by omega)
  obtain⟨y,hy⟩:=qh2 (IntKind.i64.wrap (1*2^(min ((k:Int)).toNat IntKind.i64.bits)))
  rw[<-hy]at s1
  by_cases c3:y<=(v:Int)
  .have q4:(y<=(v:Int))=True:=eq_true c3
   have s2:=gi (k:=.i64) (k':=.i64) (a:=1) (b:=(n:Int)) (by omega)
   obtain⟨z,hz⟩:=qh2 (IntKind.i64.wrap (1*2^(min ((n:Int)).toNat IntKind.i64.bits)))
   rw[<-hz]at s2
   obtain⟨d,hd⟩:∃d:Int,d=IntKind.i64.wrap ((v:Int)-z):=⟨_,rfl⟩
   simp[t0,t7,t9,q1,q1',q2,q2',q3,q3',w1,s1,q4,s2,<-hd]
   exact h _ d ⟨by simp,by simp,by simp,by simp,by simp⟩ (by simp) (λh0=>absurd h0 c2)
  .have q4:(y<=(v:Int))=False:=eq_false c3
   simp[t0,t7,t9,q1,q1',q2,q2',q3,q3',w1,s1,q4]
   exact h _ v ⟨by simp,by simp,by simp,by simp,by simp⟩ (by simp[t7]) (λ_=>rfl)
 .by_cases c2:18<=op
  .have q1:((18:Int)<=(op:Int))=True:=eq_true (by omega)
   have q1':(18<=op)=True:=eq_true (by omega)
   have q2:((op:Int)<=21)=False:=eq_false (by omega)
   have q2':(op<=21)=False:=eq_false (by omega)
   simp[t0,t7,t9,q1,q1',q2,q2']
   exact h _ v ⟨by simp,by simp,by simp,by simp,by simp⟩ (by simp[t7]) (λ_=>rfl)
  .have q1:((18:Int)<=(op:Int))=False:=eq_false (by omega)
   have q1':(18<=op)=False:=eq_false (by omega)
   simp[t0,t7,t9,q1,q1']
   exact h _ v ⟨by simp,by simp,by simp,by simp,by simp⟩ (by simp[t7]) (λ_=>rfl)
theorem as_8 {y:Int}(t0:Tm.get 0 t=iv op)(t7:Tm.get 7 t=iv y)(h:∀t' (z:Int),KA6 t t'->Tm.get 7 t'=iv z->(op≠22->op≠23->z=y)->Q (kn t' m)):Q (Dd x kn ke kr t m):=by
 by_cases c1:op=22
 .subst c1
  have mu:=xh .i64 y 8
  obtain⟨z,hz⟩:=qh2 (IntKind.i64.wrap (y*8))
  rw[<-hz]at mu
  simp[t0,t7,mu]
  exact h _ z ⟨by simp,by simp,by simp,by simp,by simp⟩ (by simp) (λh=>absurd rfl h)
 by_cases c2:op=23
 .subst c2
  have mu:=xh .i64 y 8
  obtain⟨z,hz⟩:=qh2 (IntKind.i64.wrap (y*8))
  rw[<-hz]at mu
  simp[t0,t7,mu]
  exact h _ z ⟨by simp,by simp,by simp,by simp,by simp⟩ (by simp) (λ_ h=>absurd rfl h)
 have q1:((op:Int)=22)=False:=eq_false (by omega)
 have q1':(op=22)=False:=eq_false c1
 have q2:((op:Int)=23)=False:=eq_false (by omega)
 have q2':(op=23)=False:=eq_false c2
 simp[t0,t7,q1,q1',q2,q2']
 exact h _ y ⟨by simp,by simp,by simp,by simp,by simp⟩ (by simp[t7]) (λ_ _=>rfl)
theorem as_s {N w:Nat}(st:St m0 m [(B,qv i),(R,z6i)])(hw:w<4294967296)(t0:Tm.get 0 t=iv op)(t1:Tm.get 1 t=wv w)(t5:Tm.get 5 t=yM op)(t6:Tm.get 6 t=.pointer (some ⟨B,0,none⟩))
  (h:∀t' m' i',KA6 t t'->St m0 m' [(B,qv i'),(R,z6i)]->(i'.op=i.op/\i'.rd=i.rd/\i'.rn=i.rn/\i'.rm=i.rm/\i'.cond=i.cond/\(op≠14->i'.imm=i.imm))->Q (kn t' m')):Q (Df (ex Tryz.prog (N+1)) kn ke kr t m):=by
 by_cases c:op=14
 .have q:((op:Int)=14)=True:=eq_true (by omega)
  have q':(op=14)=True:=eq_true c
  obtain⟨v2,m2,a1,a2,rfl⟩:=XB N st.sees.base op (c:=115) hw
  have a1:(ex Tryz.prog (N+1)).f 74 [yM op,wv w,.int .u8 115] m=some (.tuple #[iv (rdP (qJ op) w 115 32).1,iv (rdP (qJ op) w 115 32).2],m2):=a1
  obtain⟨u,hu⟩:=qh2 ((rdP (qJ op) w 115 32).1)
  rw[<-hu]at a1
  have st2:=st.step a2
  obtain⟨d,hd⟩:=qh2 (IntKind.i64.wrap (63-(u:Int)))
  obtain⟨m3,s1,st3,-,-⟩:=st2.store 0 (b:=B) rfl (o:=4) (v:=iv d) (by simp[qv]) rfl
  simp[t0,t1,t5,t6,q,q',a1,<-hd,s1]
  exact h _ _ { i with imm:=d } ⟨by simp,by simp,by simp,by simp,by simp⟩ st3 ⟨rfl,rfl,rfl,rfl,rfl,λhn=>absurd c hn⟩
 .have q:((op:Int)=14)=False:=eq_false (by omega)
  have q':(op=14)=False:=eq_false c
  simp[t0,q,q']
  exact h _ _ i ⟨by simp,by simp,by simp,by simp,by simp⟩ st ⟨rfl,rfl,rfl,rfl,rfl,λ_=>rfl⟩
end
structure AsI (op w:Nat)(i:Ins):Prop where
 hop:i.op=op
 rd:i.rd=(rdP (qJ op) w 100 32).1
 rn:i.rn=(rdP (qJ op) w 110 32).1
 rm:i.rm=(rdP (qJ op) w 109 32).1
 cond:(rdP (qJ op) w 107 32).2=0->i.cond=(rdP (qJ op) w 99 32).1
 imm:(rdP (qJ op) w 105 32).2=0->op≠14->op≠22->op≠23->i.imm=(rdP (qJ op) w 105 32).1
theorem As_c (n:Nat){m:M}(hm:m.base<=m.n){op w:Nat}(h1:1<=op)(h2:op<=47)(hw:w<4294967296):Dx.Call (ex Tryz.prog (n+2)) 57 [iv op,wv w] m λv _=>∃i,v=.agg ⟨qv i⟩/\AsI op w i:=by
 refine qj de4_ok (by simp) ?_
 have st0:=(St.nil hm (Ext.refl m)).row z6i
 obtain⟨m0,hm0⟩:=qh2 (Dx.newRow m z6i)
 have hm0':=hm0.symm
 rw[<-hm0]at st0
 obtain⟨v1,m1,a1,a2,rfl⟩:=di n st0.sees.base h1 h2
 have st1:=(st0.step a2).row z6i
 obtain⟨m2,b1,st2,-,-⟩:=st1.fill 0 rfl (n:=6) (l':=qv ⟨op,0,0,0,0,0⟩) rfl rfl (jV _)
 have bu:wN [zI,zI,zI,zI,zI,zI] [(0,1,iv op)]=some (.agg ⟨qv ⟨op,0,0,0,0,0⟩⟩):=rfl
 have rd:∀{mq:M} (c:Nat),mq.base<=mq.n->∃m',(ex Tryz.prog (n+1)).f 74 [yM op,wv w,.int .u8 c] mq=some (.tuple #[iv (rdP (qJ op) w c 32).1,iv (rdP (qJ op) w c 32).2],m')/\Ext mq m':=λ{mq} c hq=>by
  obtain⟨v,m',x1,x2,rfl⟩:=XB n hq op (c:=c) hw
  exact⟨m',x1,x2⟩
 obtain⟨m3,c1,c2⟩:=rd 100 st2.sees.base
 have c1:(ex Tryz.prog (n+1)).f 74 [yM op,wv w,.int .u8 100] m2=_:=c1
 obtain⟨m4,d1,st4,-,-⟩:=(st2.step c2).store 0 (b:=m1.n) rfl (o:=1) (v:=iv (rdP (qJ op) w 100 32).1) (by simp[qv]) rfl
 obtain⟨m5,e1,e2⟩:=rd 110 st4.sees.base
 have e1:(ex Tryz.prog (n+1)).f 74 [yM op,wv w,.int .u8 110] m4=_:=e1
 obtain⟨m6,f1,st6,-,-⟩:=(st4.step e2).store 0 (b:=m1.n) rfl (o:=2) (v:=iv (rdP (qJ op) w 110 32).1) (by simp[qv]) rfl
 obtain⟨m7,g1,g2⟩:=rd 109 st6.sees.base
 have g1:(ex Tryz.prog (n+1)).f 74 [yM op,wv w,.int .u8 109] m6=_:=g1
 obtain⟨m8,i1,st8,-,-⟩:=(st6.step g2).store 0 (b:=m1.n) rfl (o:=3) (v:=iv (rdP (qJ op) w 109 32).1) (by simp[qv]) rfl
 obtain⟨m9,j1,j2⟩:=rd 99 st8.sees.base
 have j1:(ex Tryz.prog (n+1)).f 74 [yM op,wv w,.int .u8 99] m8=_:=j1
 obtain⟨m10,k1,st10,-,-⟩:=(st8.step j2).store 0 (b:=m1.n) rfl (o:=5) (v:=iv (rdP (qJ op) w 99 32).1) (by simp[qv]) rfl
 obtain⟨m11,o1,o2⟩:=rd 107 st10.sees.base
 have o1:(ex Tryz.prog (n+1)).f 74 [yM op,wv w,.int .u8 107] m10=_:=o1
 have st11:=st10.step o2
 have st11:St m m11 [(m1.n,qv ⟨op,(rdP (qJ op) w 100 32).1,(rdP (qJ op) w 110 32).1,(rdP (qJ op) w 109 32).1,0,(rdP (qJ op) w 99 32).1⟩),(m.n,z6i)]:=st11
 obtain⟨I,hI⟩:∃I:Ins,I=⟨op,(rdP (qJ op) w 100 32).1,(rdP (qJ op) w 110 32).1,(rdP (qJ op) w 109 32).1,0,(rdP (qJ op) w 99 32).1⟩:=⟨_,rfl⟩
 rw[<-hI]at st11
 simp[-Da,hm0',a1,bu,b1,c1,d1,e1,f1,g1,i1,j1,k1,o1]
 refine as_k st11 (by simp) (v:=(rdP (qJ op) w 107 32).1) (n:=(rdP (qJ op) w 107 32).2) (by simp) (by simp) (λt2 m12 I2 ⟨s0,s1,s4,s5,s6⟩ st12 ⟨y1,y2,y3,y4,y5⟩=>?_)
 simp at s0 s1 s4 s5 s6
 obtain⟨m13,p1,p2⟩:=rd 105 st12.sees.base
 have p1:(ex Tryz.prog (n+1)).f 74 [yM op,wv w,.int .u8 105] m12=_:=p1
 have st13:=st12.step p2
 simp[-Dc,s0,s1,s5,p1]
 refine as_i (op:=op) (v:=(rdP (qJ op) w 105 32).1) (n:=(rdP (qJ op) w 105 32).2) (by simp[s0]) (by simp) (by simp) (VZ _ _ _ (by omega)).2 (λt3 y ⟨r0,r1,r4,r5,r6⟩ r7 hy=>?_)
 simp[s0,s1,s4,s5,s6]at r0 r1 r4 r5 r6
 simp[-De]
 refine as_8 r0 r7 (λt4 z ⟨u0,u1,u4,u5,u6⟩ u7 hz=>?_)
 rw[r0]at u0;rw[r1]at u1;rw[r4]at u4;rw[r5]at u5;rw[r6]at u6
 obtain⟨m14,q1,st14,-,-⟩:=st13.store 0 (b:=m1.n) rfl (o:=4) (v:=iv z) (by simp[qv]) rfl
 have st14:St m m14 [(m1.n,qv { I2 with imm:=z }),(m.n,z6i)]:=st14
 simp[-Dg,u6,u7,q1]
 refine as_s (i:={ I2 with imm:=z }) (N:=n) st14 hw (op:=op) (by simp[u0]) (by simp[u1]) (by simp[u5]) (by simp[u6]) (λt5 m15 I3 ⟨x0,x1,x4,x5,x6⟩ st15 ⟨z1,z2,z3,z4,z5,z6⟩=>?_)
 simp[u0,u1,u4,u5,u6]at x0 x1 x4 x5 x6
 have l6:loads m15 ⟨m1.n,0,none⟩ 6=some (qv I3):=(st15.get 0 rfl).2.2.loads (o:=0) (n:=6) (by simp[qv])
 obtain⟨m16,v1,st16,-,-⟩:=st15.fill 1 (b:=m.n) rfl (n:=6) (l':=qv I3) rfl rfl (jV _)
 have l7:=(st16.get 1 rfl).2.2.loads (o:=0) (n:=6) (s:=none) (by simp[qv])
 simp[x4,x6,qd,l6,v1]
 refine kH (a:=⟨m.n,0,none⟩) (by simp[x4]) l7 st16.ext ⟨I3,rfl,?_,?_,?_,?_,λh=>?_,λh ha hb hc=>?_⟩
 .rw[z1];show I2.op=_;rw[y1,hI]
 .rw[z2];show I2.rd=_;rw[y2,hI]
 .rw[z3];show I2.rn=_;rw[y3,hI]
 .rw[z4];show I2.rm=_;rw[y4,hI]
 .rw[z5];show I2.cond=_;rw[y5 h,hI]
 .rw[z6 ha];show z=_;rw[hz hb hc,hy h]
end Go.Sx
namespace Go.Sx
open Go.Dx Go.Proofs
set_option maxRecDepth 10000
def XOp (op:Nat):Prop:=op=28\/op=29\/(36<=op/\op<=39)
def Bw (u:Value)(p:Bool->Prop):Prop:=∃b:Bool,u=.bool b/\p b
theorem Fu {op:Nat}(h1:1<=op)(h2:op<=47):op=1\/op=2\/op=3\/op=4\/op=5\/op=6\/op=7\/op=8\/op=9\/op=10\/op=11\/op=12\/op=13\/op=14\/op=15\/op=16\/op=17\/op=18\/op=19\/op=20\/op=21\/op=22\/op=23\/op=24\/op=25\/op=26\/op=27\/op=28\/op=29\/op=30\/op=31\/op=32\/op=33\/op=34\/op=35\/op=36\/op=37\/op=38\/op=39\/op=40\/op=41\/op=42\/op=43\/op=44\/op=45\/op=46\/op=47:=by omega
theorem Kt (n:Nat)(m:M)(v lo hi:Int):(ex Tryz.prog (n+1)).f 100 [iv v,iv lo,iv hi] m=some (.bool (decide (lo<=v)&&decide (v<=hi)),m):=by
 have H:Dx.Call (ex Tryz.prog (n+1)) 100 [iv v,iv lo,iv hi] m λu m'=>u=.bool (decide (lo<=v)&&decide (v<=hi))/\m'=m:=by
  refine qj di7_ok (by simp) ?_
  by_cases c:lo<=v
  .have q:(lo<=v)=True:=eq_true c
   simp[q]
   exact qx (Ext.refl m) ⟨by simp,rfl⟩
  .have q:(lo<=v)=False:=eq_false c
   simp[q]
   exact qx (Ext.refl m) ⟨by simp,rfl⟩
 obtain⟨u,m',h1,-,rfl,rfl⟩:=H
 exact h1
theorem top_e (n:Nat)(m:M){op c:Nat}(h1:1<=op)(h2:op<=47)(hc:c=100\/c=110\/c=109):∃b:Int,(ex Tryz.prog (n+1)).f 101 [iv op,.int .u8 c] m=some (iv b,m)/\30<=b/\(c=100->XOp op->b=31):=by
 have H:Dx.Call (ex Tryz.prog (n+1)) 101 [iv op,.int .u8 c] m λu m'=>m'=m/\((u=iv 30/\¬(c=100/\XOp op))\/u=iv 31):=by
  refine qj di8_ok (by simp) ?_
  rcases Fu h1 h2 with rfl | rfl | rfl | rfl | rfl | rfl | rfl | rfl | rfl | rfl | rfl | rfl | rfl | rfl | rfl | rfl | rfl | rfl | rfl | rfl | rfl | rfl | rfl | rfl | rfl | rfl | rfl | rfl | rfl | rfl | rfl | rfl | rfl | rfl | rfl | rfl | rfl | rfl | rfl | rfl | rfl | rfl | rfl | rfl | rfl | rfl | rfl<;>rcases hc with rfl | rfl | rfl<;>(simp;exact qx (Ext.refl m) ⟨rfl,by simp[XOp]⟩)
 obtain⟨u,m',e,-,rfl,h⟩:=H
 rcases h with ⟨rfl,h⟩ | rfl
 .exact⟨30,e,by omega,λa b=>absurd ⟨a,b⟩ h⟩
 .exact⟨31,e,by omega,λ_ _=>rfl⟩
theorem gJ (n:Nat){m:M}(hm:m.base<=m.n){op c:Nat}(h1:1<=op)(h2:op<=47)(hc:c=100\/c=110\/c=109)(v:Int) :
  Dx.Call (ex Tryz.prog (n+3)) 75 [iv op,.int .u8 c,iv v] m λu _=>Bw u λb=>hasB op c=true->0<=v->(v<=30\/(c=100/\XOp op/\v<=31))->b=true:=by
 refine qj dg2_ok (by simp) ?_
 obtain⟨u,m1,a1,a2,rfl⟩:=Has_c n hm h1 h2 c
 cases hh:hasB op c with
 | false =>
  rw[hh]at a1
  simp[a1]
  exact qx a2 ⟨decide (v=0),by simp,trivial⟩
 | true =>
  rw[hh]at a1
  obtain⟨b,b1,b2,b3⟩:=top_e (n+1) m1 h1 h2 hc
  have bt:=Kt (n+1) m1 v 0 b
  simp[a1,b1,bt]
  refine qx a2 ⟨decide (0<=v)&&decide (v<=b),by simp,λh0 hv=>?_⟩
  rw[decide_eq_true h0,Bool.true_and]
  refine decide_eq_true ?_
  rcases hv with hv | ⟨x,y,hv⟩
  .omega
  .have:=b3 x y;omega
theorem qe0 (n:Nat){m:M}{op:Nat}(h1:1<=op)(h2:op<=47)(v:Int):Dx.Call (ex Tryz.prog (n+2)) 76 [iv op,iv v] m λu m'=>m'=m/\∃b:Bool,u=.bool b/\(XOp op->v=0->b=true):=by
 refine qj dg3_ok (by simp) ?_
 have bt:=Kt n m v
 rcases Fu h1 h2 with rfl | rfl | rfl | rfl | rfl | rfl | rfl | rfl | rfl | rfl | rfl | rfl | rfl | rfl | rfl | rfl | rfl | rfl | rfl | rfl | rfl | rfl | rfl | rfl | rfl | rfl | rfl | rfl | rfl | rfl | rfl | rfl | rfl | rfl | rfl | rfl | rfl | rfl | rfl | rfl | rfl | rfl | rfl | rfl | rfl | rfl | rfl<;>first
  | (simp[bt];exact qx (Ext.refl m) ⟨rfl,by simp[XOp]<;>omega⟩)
  | (cases c:(decide (0<=v)&&decide (v<=32760)) with
   | false=>simp[bt,c,-Bool.and_eq_false_imp,-Bool.and_eq_true];exact qx (Ext.refl m) ⟨rfl,by simp[XOp]<;>omega⟩
   | true=>simp[bt,c,-Bool.and_eq_false_imp,-Bool.and_eq_true,jK .i64 v 8 (by decide)];exact qx (Ext.refl m) ⟨rfl,by simp[XOp]<;>omega⟩)
theorem DY (n:Nat){m:M}{op:Nat}(h1:1<=op)(h2:op<=47)(v:Int):Dx.Call (ex Tryz.prog (n+1)) 77 [iv op,iv v] m λu m'=>m'=m/\∃b:Bool,u=.bool b/\(XOp op->v=0->b=true):=by
 refine qj dg4_ok (by simp) ?_
 by_cases c:0<=v
 .have q:(0<=v)=True:=eq_true c
  rcases Fu h1 h2 with rfl | rfl | rfl | rfl | rfl | rfl | rfl | rfl | rfl | rfl | rfl | rfl | rfl | rfl | rfl | rfl | rfl | rfl | rfl | rfl | rfl | rfl | rfl | rfl | rfl | rfl | rfl | rfl | rfl | rfl | rfl | rfl | rfl | rfl | rfl | rfl | rfl | rfl | rfl | rfl | rfl | rfl | rfl | rfl | rfl | rfl | rfl<;>(simp[q];exact qx (Ext.refl m) ⟨rfl,by simp[XOp]<;>omega⟩)
 .have q:(0<=v)=False:=eq_false c
  rcases Fu h1 h2 with rfl | rfl | rfl | rfl | rfl | rfl | rfl | rfl | rfl | rfl | rfl | rfl | rfl | rfl | rfl | rfl | rfl | rfl | rfl | rfl | rfl | rfl | rfl | rfl | rfl | rfl | rfl | rfl | rfl | rfl | rfl | rfl | rfl | rfl | rfl | rfl | rfl | rfl | rfl | rfl | rfl | rfl | rfl | rfl | rfl | rfl | rfl<;>(simp[q];exact qx (Ext.refl m) ⟨rfl,by simp[XOp]<;>omega⟩)
end Go.Sx
namespace Go.Sx
open Go.Dx Go.Proofs
set_option maxRecDepth 10000
structure FitX (op:Nat)(i:Ins):Prop where
 has:hasB op 100=true/\hasB op 110=true/\hasB op 109=true
 rd:0<=i.rd/\i.rd<=31
 rn:0<=i.rn/\i.rn<=30
 rm:0<=i.rm/\i.rm<=30
 imm:i.imm=0
 cond:i.cond=0
 ne:op=28\/op=29->i.rm≠i.rd/\i.rm≠i.rn
theorem Fits_c (n:Nat){m:M}(hm:m.base<=m.n){op:Nat}(h1:1<=op)(h2:op<=47){i:Ins}(ho:i.op=op):Dx.Call (ex Tryz.prog (n+4)) 58 [.agg ⟨qv i⟩] m λu _=>Bw u λb=>XOp op->FitX op i->b=true:=by
 refine qj de5_ok (by simp) ?_
 have st:=(St.nil hm (Ext.refl m)).row (qv i)
 obtain⟨m0,hm0⟩:=qh2 (Dx.newRow m (qv i))
 have hb:jv (.agg ⟨qv i⟩) m=some (.pointer (some ⟨m.n,0,none⟩),m0):=by rw[hm0];rfl
 rw[<-hm0]at st
 have L:∀{mq:M} (_:Ext m0 mq) (o:Nat),load1 mq ⟨m.n,o,none⟩=(qv i)[o]?:=λe o=>((st.step e).get 0 rfl).2.2.load1 o none
 have l0:∀{mq:M} (_:Ext m0 mq),load1 mq ⟨m.n,0,none⟩=some (iv op):=λe=>by rw[L e 0,<-ho];rfl
 have l1:∀{mq:M} (_:Ext m0 mq),load1 mq ⟨m.n,1,none⟩=some (iv i.rd):=λe=>L e 1
 have l2:∀{mq:M} (_:Ext m0 mq),load1 mq ⟨m.n,2,none⟩=some (iv i.rn):=λe=>L e 2
 have l3:∀{mq:M} (_:Ext m0 mq),load1 mq ⟨m.n,3,none⟩=some (iv i.rm):=λe=>L e 3
 have l4:∀{mq:M} (_:Ext m0 mq),load1 mq ⟨m.n,4,none⟩=some (iv i.imm):=λe=>L e 4
 have l5:∀{mq:M} (_:Ext m0 mq),load1 mq ⟨m.n,5,none⟩=some (iv i.cond):=λe=>L e 5
 have e0:Ext m0 m0:=Ext.refl m0
 have q1:((op:Int)<1)=False:=eq_false (by omega)
 have q1':(op=0)=False:=eq_false (by omega)
 have q2:((47:Int)<(op:Int))=False:=eq_false (by omega)
 have q2':(47<op)=False:=eq_false (by omega)
 have bad:∀{b:Bool} {p:Prop},b=false->(p->b=true)->¬p:=λhb h hp=>by rw[h hp]at hb;cases hb
 obtain⟨u1,m1,a1,a2,b1,rfl,c1⟩:=gJ n st.sees.base h1 h2 (c:=100) (.inl rfl) i.rd
 have a1:(ex Tryz.prog (n+3)).f 75 [iv op,.int .u8 100,iv i.rd] m0=some (.bool b1,m1):=a1
 cases hb1:b1 with
 | false =>
  rw[hb1]at a1
  simp[hb,l0 e0,l1 e0,q1,q1',q2,q2',a1]
  exact qx (st.ext.trans a2) ⟨false,by simp,λhx hf=>by have:=c1 hf.has.1 hf.rd.1 (.inr ⟨rfl,hx,hf.rd.2⟩);rw[hb1]at this;cases this⟩
 | true =>
 rw[hb1]at a1
 have E1:=a2
 obtain⟨u2,m2,d1,d2,b2,rfl,c2⟩:=gJ n (st.step E1).sees.base h1 h2 (c:=110) (.inr (.inl rfl)) i.rn
 have d1:(ex Tryz.prog (n+3)).f 75 [iv op,.int .u8 110,iv i.rn] m1=some (.bool b2,m2):=d1
 have E2:=E1.trans d2
 cases hb2:b2 with
 | false =>
  rw[hb2]at d1
  simp[hb,l0 e0,l1 e0,q1,q1',q2,q2',a1,l0 E1,l2 E1,d1]
  exact qx (st.ext.trans E2) ⟨false,by simp,λhx hf=>by have:=c2 hf.has.2.1 hf.rn.1 (.inl hf.rn.2);rw[hb2]at this;cases this⟩
 | true =>
 rw[hb2]at d1
 obtain⟨u3,m3,f1,f2,b3,rfl,c3⟩:=gJ n (st.step E2).sees.base h1 h2 (c:=109) (.inr (.inr rfl)) i.rm
 have f1:(ex Tryz.prog (n+3)).f 75 [iv op,.int .u8 109,iv i.rm] m2=some (.bool b3,m3):=f1
 have E3:=E2.trans f2
 cases hb3:b3 with
 | false =>
  rw[hb3]at f1
  simp[hb,l0 e0,l1 e0,q1,q1',q2,q2',a1,l0 E1,l2 E1,d1,l0 E2,l3 E2,f1]
  exact qx (st.ext.trans E3) ⟨false,by simp,λhx hf=>by have:=c3 hf.has.2.2 hf.rm.1 (.inl hf.rm.2);rw[hb3]at this;cases this⟩
 | true =>
 rw[hb3]at f1
 obtain⟨u4,m4,g1,g2,rfl,b4,rfl,c4⟩:=qe0 (n+1) (m:=m3) h1 h2 i.imm
 cases hb4:b4 with
 | false =>
  rw[hb4]at g1
  simp[hb,l0 e0,l1 e0,q1,q1',q2,q2',a1,l0 E1,l2 E1,d1,l0 E2,l3 E2,f1,l0 E3,l4 E3,g1]
  exact qx (st.ext.trans E3) ⟨false,by simp,λhx hf=>by have:=c4 hx hf.imm;rw[hb4]at this;cases this⟩
 | true =>
 rw[hb4]at g1
 obtain⟨u5,m5,k1,k2,rfl,b5,rfl,c5⟩:=DY (n+2) (m:=m4) h1 h2 i.cond
 cases hb5:b5 with
 | false =>
  rw[hb5]at k1
  simp[hb,l0 e0,l1 e0,q1,q1',q2,q2',a1,l0 E1,l2 E1,d1,l0 E2,l3 E2,f1,l0 E3,l4 E3,g1,l5 E3,k1]
  exact qx (st.ext.trans E3) ⟨false,by simp,λhx hf=>by have:=c5 hx hf.cond;rw[hb5]at this;cases this⟩
 | true =>
 rw[hb5]at k1
 by_cases o:op=28\/op=29
 .have r1:(i.rm=i.rd)=True\/(i.rm=i.rd)=False:=(Classical.em _).imp eq_true eq_false
  have r2:(i.rm=i.rn)=True\/(i.rm=i.rn)=False:=(Classical.em _).imp eq_true eq_false
  by_cases o1:op=28
  .have p1:((op:Int)=28)=True:=eq_true (by omega)
   have p1':(op=28)=True:=eq_true o1
   rcases r1 with r1 | r1
   .simp[hb,l0 e0,l1 e0,q1,q1',q2,q2',a1,l0 E1,l2 E1,d1,l0 E2,l3 E2,f1,l0 E3,l4 E3,g1,l5 E3,k1,p1,p1',l3 E3,l1 E3,r1]
    exact qx (st.ext.trans E3) ⟨false,by simp,λ_ hf=>absurd (of_eq_true r1) (hf.ne o).1⟩
   rcases r2 with r2 | r2
   .simp[hb,l0 e0,l1 e0,q1,q1',q2,q2',a1,l0 E1,l2 E1,d1,l0 E2,l3 E2,f1,l0 E3,l4 E3,g1,l5 E3,k1,p1,p1',l3 E3,l1 E3,l2 E3,r1,r2]
    exact qx (st.ext.trans E3) ⟨false,by simp,λ_ hf=>absurd (of_eq_true r2) (hf.ne o).2⟩
   .simp[hb,l0 e0,l1 e0,q1,q1',q2,q2',a1,l0 E1,l2 E1,d1,l0 E2,l3 E2,f1,l0 E3,l4 E3,g1,l5 E3,k1,p1,p1',l3 E3,l1 E3,l2 E3,r1,r2]
    exact qx (st.ext.trans E3) ⟨true,by simp,λ_ _=>rfl⟩
  .have p1:((op:Int)=28)=False:=eq_false (by omega)
   have p1':(op=28)=False:=eq_false o1
   have p2:((op:Int)=29)=True:=eq_true (by omega)
   have p2':(op=29)=True:=eq_true (by omega)
   rcases r1 with r1 | r1
   .simp[hb,l0 e0,l1 e0,q1,q1',q2,q2',a1,l0 E1,l2 E1,d1,l0 E2,l3 E2,f1,l0 E3,l4 E3,g1,l5 E3,k1,p1,p1',p2,p2',l3 E3,l1 E3,r1]
    exact qx (st.ext.trans E3) ⟨false,by simp,λ_ hf=>absurd (of_eq_true r1) (hf.ne o).1⟩
   rcases r2 with r2 | r2
   .simp[hb,l0 e0,l1 e0,q1,q1',q2,q2',a1,l0 E1,l2 E1,d1,l0 E2,l3 E2,f1,l0 E3,l4 E3,g1,l5 E3,k1,p1,p1',p2,p2',l3 E3,l1 E3,l2 E3,r1,r2]
    exact qx (st.ext.trans E3) ⟨false,by simp,λ_ hf=>absurd (of_eq_true r2) (hf.ne o).2⟩
   .simp[hb,l0 e0,l1 e0,q1,q1',q2,q2',a1,l0 E1,l2 E1,d1,l0 E2,l3 E2,f1,l0 E3,l4 E3,g1,l5 E3,k1,p1,p1',p2,p2',l3 E3,l1 E3,l2 E3,r1,r2]
    exact qx (st.ext.trans E3) ⟨true,by simp,λ_ _=>rfl⟩
 .have o1:((op:Int)=28)=False:=eq_false (by omega)
  have o1':(op=28)=False:=eq_false (by omega)
  have o2:((op:Int)=29)=False:=eq_false (by omega)
  have o2':(op=29)=False:=eq_false (by omega)
  simp[hb,l0 e0,l1 e0,q1,q1',q2,q2',a1,l0 E1,l2 E1,d1,l0 E2,l3 E2,f1,l0 E3,l4 E3,g1,l5 E3,k1,o1,o1',o2,o2']
  exact qx (st.ext.trans E3) ⟨true,by simp,λ_ _=>rfl⟩
end Go.Sx
namespace Go.Sx
open Go.Dx Go.Proofs
set_option maxRecDepth 10000
structure ValI (c:Nat)(i:Ins)(x:Int):Prop where
 rd:c=100->x=i.rd
 rn:c=110->x=i.rn
 rm:c=109->x=i.rm
def IntOf (u:Value)(p:Int->Prop):Prop:=∃x:Int,u=iv x/\p x
theorem qfo (n:Nat){m:M}(hm:m.base<=m.n)(i:Ins)(c:Nat):Dx.Call (ex Tryz.prog (n+1)) 78 [.agg ⟨qv i⟩,.int .u8 c] m λu _=>IntOf u (ValI c i):=by
 refine qj dg5_ok (by simp) ?_
 have st:=(St.nil hm (Ext.refl m)).row (qv i)
 obtain⟨m0,hm0⟩:=qh2 (Dx.newRow m (qv i))
 have hb:jv (.agg ⟨qv i⟩) m=some (.pointer (some ⟨m.n,0,none⟩),m0):=by rw[hm0];rfl
 rw[<-hm0]at st
 have L:∀o,load1 m0 ⟨m.n,o,none⟩=(qv i)[o]?:=λo=>(st.get 0 rfl).2.2.load1 o none
 have l0:load1 m0 ⟨m.n,0,none⟩=some (iv i.op):=L 0
 have l1:load1 m0 ⟨m.n,1,none⟩=some (iv i.rd):=L 1
 have l2:load1 m0 ⟨m.n,2,none⟩=some (iv i.rn):=L 2
 have l3:load1 m0 ⟨m.n,3,none⟩=some (iv i.rm):=L 3
 have l4:load1 m0 ⟨m.n,4,none⟩=some (iv i.imm):=L 4
 have l5:load1 m0 ⟨m.n,5,none⟩=some (iv i.cond):=L 5
 have E:=st.ext
 by_cases c1:c=100
 .subst c1
  simp[hb,l1]
  exact qx E ⟨_,by simp,λ_=>rfl,λh=>by omega,λh=>by omega⟩
 have q1:((c:Int)=100)=False:=eq_false (by omega)
 have q1':(c=100)=False:=eq_false c1
 by_cases c2:c=110
 .subst c2
  simp[hb,l2]
  exact qx E ⟨_,by simp,λh=>by omega,λ_=>rfl,λh=>by omega⟩
 have q2:((c:Int)=110)=False:=eq_false (by omega)
 have q2':(c=110)=False:=eq_false c2
 by_cases c3:c=109
 .subst c3
  simp[hb,l3]
  exact qx E ⟨_,by simp,λh=>by omega,λh=>by omega,λ_=>rfl⟩
 have q3:((c:Int)=109)=False:=eq_false (by omega)
 have q3':(c=109)=False:=eq_false c3
 have any:∀x:Int,ValI c i x:=λx=>⟨λh=>absurd h c1,λh=>absurd h c2,λh=>absurd h c3⟩
 by_cases c4:c=99
 .subst c4
  simp[hb,l5]
  exact qx E ⟨i.cond,by simp,any _⟩
 have q4:((c:Int)=99)=False:=eq_false (by omega)
 have q4':(c=99)=False:=eq_false c4
 by_cases c5:c=107
 .subst c5
  have r:=jK .i64 i.cond 2 (by decide)
  obtain⟨a,ha⟩:=qh2 (i.cond.tmod 2)
  rw[<-ha]at r
  by_cases c0:a=0
  .rw[c0]at r
   obtain⟨d,hd⟩:=qh2 (IntKind.i64.wrap (i.cond+1))
   simp[hb,l5,r,<-hd]
   exact qx E ⟨d,by simp,any _⟩
  .have q0:(a=0)=False:=eq_false c0
   obtain⟨d,hd⟩:=qh2 (IntKind.i64.wrap (i.cond-1))
   simp[hb,l5,r,q0,<-hd]
   exact qx E ⟨d,by simp,any _⟩
 have q5:((c:Int)=107)=False:=eq_false (by omega)
 have q5':(c=107)=False:=eq_false c5
 by_cases c6:c=114
 .subst c6
  obtain⟨d,hd⟩:=qh2 (IntKind.i64.wrap (64-i.imm))
  simp[hb,l4,<-hd]
  exact qx E ⟨d,by simp,any _⟩
 have q6:((c:Int)=114)=False:=eq_false (by omega)
 have q6':(c=114)=False:=eq_false c6
 by_cases c7:c=115
 .subst c7
  obtain⟨d,hd⟩:=qh2 (IntKind.i64.wrap (63-i.imm))
  simp[hb,l4,<-hd]
  exact qx E ⟨d,by simp,any _⟩
 have q7:((c:Int)=115)=False:=eq_false (by omega)
 have q7':(c=115)=False:=eq_false c7
 have qu:=gu .i64 i.imm 8 (by decide)
 obtain⟨d,hd⟩:=qh2 (IntKind.i64.wrap (i.imm.tdiv 8))
 rw[<-hd]at qu
 by_cases o1:i.op=22
 .rw[o1]at l0
  simp[hb,q1,q1',q2,q2',q3,q3',q4,q4',q5,q5',q6,q6',q7,q7',l0,l4,qu]
  exact qx E ⟨d,by simp,any _⟩
 have p1:(i.op=22)=False:=eq_false o1
 by_cases o2:i.op=23
 .rw[o2]at l0
  simp[hb,q1,q1',q2,q2',q3,q3',q4,q4',q5,q5',q6,q6',q7,q7',l0,l4,qu]
  exact qx E ⟨d,by simp,any _⟩
 have p2:(i.op=23)=False:=eq_false o2
 simp[hb,q1,q1',q2,q2',q3,q3',q4,q4',q5,q5',q6,q6',q7,q7',l0,p1,p2,l4]
 exact qx E ⟨i.imm,by simp,any _⟩
def vr (p:Nat->Nat)(c a:Nat):Nat->Nat
 | 0=>0
 | n+1=>vr p c a n+if p (a+n)=c then 1 else 0
theorem YJ (p:Nat->Nat)(c a:Nat):∀n,vr p c a n<=n
 | 0=>qgg _
 | n+1=>by
  have:=YJ p c a n
  unfold vr
  split<;>omega
structure FN (p:Nat->Nat)(i:Ins)(k y:Nat):Prop where
 le:y<=1
 one:p k=49->y=1
 zero:p k=48->y=0
 rd:p k=100->∀r:Nat,i.rd=r->r<18446744073709551616->y=r/2^vr p 100 (k+1) (31-k)%2
 rn:p k=110->∀r:Nat,i.rn=r->r<18446744073709551616->y=r/2^vr p 110 (k+1) (31-k)%2
 rm:p k=109->∀r:Nat,i.rm=r->r<18446744073709551616->y=r/2^vr p 109 (k+1) (31-k)%2
def wdF (b:Nat->Nat):Nat->Nat
 | 0=>0
 | n+1=>wdF b n+b (31-n)*2^n
theorem Yu {b:Nat->Nat}:∀n,(∀j,j<n->b (31-j)<=1)->wdF b n<2^n
 | 0,_=>by show 0<2^0;decide
 | n+1,h=>by
  have h1:=Yu n λj hj=>h j (by omega)
  have h2:=h n (by omega)
  unfold wdF
  rw[Nat.pow_succ]
  have:b (31-n)*2^n<=1*2^n:=qgx _ h2
  omega
theorem Qd {b b':Nat->Nat}:∀n,(∀j,j<n->b (31-j)=b' (31-j))->wdF b n=wdF b' n
 | 0,_=>rfl
 | n+1,h=>by unfold wdF;rw[Qd n λj hj=>h j (by omega),h n (by omega)]
theorem or_add {a i:Nat}(h:a<2^i)(y:Nat):a|||y*2^i=a+y*2^i:=by
 have:=Nat.two_pow_add_eq_or_of_lt h y
 rw[Nat.or_comm,Nat.mul_comm,<-this];omega
def WordOf (p:Nat->Nat)(i:Ins)(u:Value):Prop:=∃b:Nat->Nat,(∀k,k<32->FN p i k (b k))/\u=wv (wdF b 32)
theorem Word_c (n:Nat){m:M}(hm:m.base<=m.n){op:Nat}(h1:1<=op)(h2:op<=47){i:Ins}(ho:i.op=op):Dx.Call (ex Tryz.prog (n+2)) 59 [.agg ⟨qv i⟩] m λu _=>WordOf (qJ op) i u:=by
 refine qj de6_ok (by simp) ?_
 have st:=(St.nil hm (Ext.refl m)).row (qv i)
 obtain⟨m0,hm0⟩:=qh2 (Dx.newRow m (qv i))
 have hb:jv (.agg ⟨qv i⟩) m=some (.pointer (some ⟨m.n,0,none⟩),m0):=by rw[hm0];rfl
 rw[<-hm0]at st
 have l0:load1 m0 ⟨m.n,0,none⟩=some (iv op):=by rw[(st.get 0 rfl).2.2.load1,<-ho];rfl
 obtain⟨v1,m1,a1,a2,rfl⟩:=di n st.sees.base h1 h2
 have st1:=st.step a2
 simp[hb,l0,a1]
 refine qF (c:=Di) rfl (Ret m _) (λj t m'=>Tm.get 1 t=.pointer (some ⟨m.n,0,none⟩)/\Tm.get 3 t=yM op/\Tm.get 5 t=iv (31-(j:Int))/\Ext m1 m'/\∃b:Nat->Nat,(∀q,q<j->FN (qJ op) i (31-q) (b (31-q)))/\Tm.get 4 t=wv (wdF b j)) 32 (by omega)
  ⟨by simp,by simp,by simp,Ext.refl _,λ_=>0,λq hq=>by omega,by simp[wdF]⟩ (λj t m' kk hj hI hk=>?_)
 obtain⟨t1,t3,t5,E,b,hbit,t4⟩:=hI
 have st2:=st1.step E
 have hb2:=st2.sees.base
 by_cases hil:j<32
 .obtain⟨k,hk0⟩:=qh2 (31-j)
  have hk5:(31-(j:Int))=(k:Int):=by omega
  rw[hk5]at t5
  have q0:((0:Int)<=(k:Int))=True:=eq_true (by omega)
  have sx:=bZ op (k:=k) (by omega)
  have kdec:IntKind.i64.wrap ((k:Int)-1)=31-((j+1:Nat):Int):=by rw[wrap64 _ (by omega) (by omega)];omega
  obtain⟨kd,hkd⟩:∃kd:Int,kd=31-((j+1:Nat):Int):=⟨_,rfl⟩
  rw[<-hkd]at kdec
  have sb:IntKind.i64.wrap (31-(k:Int))=(j:Int):=by rw[wrap64 _ (by omega) (by omega)];omega
  have W:=Yu j λq hq=>(hbit q hq).le
  have Wl:wdF b j<4294967296:=qgi W (Nat.pow_le_pow_right (by decide) (show j<=32 by omega))
  have fin:∀y:Nat,y<=1->∃z:Nat,shV .shl (wv y) (iv j)=some (wv z)/\ky .or (wv (wdF b j)) (wv z)=some (wv (wdF (λq=>if q=k then y else b q) (j+1))):=λy hy=>by
   have hz:y*2^j<4294967296:=by
    have e1:y*2^j<=1*2^j:=qgx _ hy
    have e2:2^j<=2^31:=Nat.pow_le_pow_right (by decide) (by omega)
    have e3:(2:Nat)^31<4294967296:=by decide
    omega
   refine⟨y*2^j,?_,?_⟩
   .rw[gi (by omega),qgr,Nat.min_eq_left (by show j<=32;omega)]
    congr 2
    rw[show ((2:Int)^j)=((2^j:Nat):Int) by push_cast;rfl,<-Int.natCast_mul,IntKind.wrap_u32]
    omega
   .rw[QY,Go.u32_or_nat _ _ Wl hz,or_add W y]
    congr 3
    show _=wdF (λq=>if q=k then y else b q) j+(if 31-j=k then y else b (31-j))*2^j
    rw[if_pos hk0.symm,Qd j (b:=λq=>if q=k then y else b q) (b':=b) λq hq=>if_neg (by omega)]
  have ext:∀y:Nat,FN (qJ op) i k y->∀q,q<j+1->FN (qJ op) i (31-q) ((λq=>if q=k then y else b q) (31-q)):=λy hy q hq=>by
   by_cases e:31-q=k
   .rw[e];simp only[if_true];exact hy
   .simp only[if_neg e]
    exact hbit q (by omega)
  by_cases c57:57<qJ op k
  .-- a letter
   have g57:((57:Int)<(qJ op k:Int))=True:=eq_true (by omega)
   have g57':(57<qJ op k)=True:=eq_true c57
   have n49:((qJ op k:Int)=49)=False:=eq_false (by omega)
   have n49':(qJ op k=49)=False:=eq_false (by omega)
   have w1:=qY (i:=k) (by omega)
   obtain⟨k1,hk1⟩:=qh2 (k+1)
   rw[<-hk1]at w1
   simp[t1,t3,t4,t5,q0,sx,n49,n49',g57,g57',w1]
   refine qF (c:=Dh) rfl (Ret m _) (λq t m2=>Tm.get 1 t=.pointer (some ⟨m.n,0,none⟩)/\Tm.get 3 t=yM op/\Tm.get 4 t=wv (wdF b j)/\Tm.get 5 t=iv k/\Tm.get 7 t=iv (vr (qJ op) (qJ op k) k1 q)/\Tm.get 8 t=iv (k1+q:Nat)/\m2=m') (31-k) (by omega)
    ⟨by simp[t1],by simp[t3],by simp[t4],by simp[t5],by simp[vr],by simp,rfl⟩ (λq t m2 kq hq hI hkq=>?_)
   obtain⟨t1,t3,t4,t5,t7,t8,rfl⟩:=hI
   obtain⟨a,ha⟩:=qh2 (k1+q)
   rw[<-ha]at t8
   have cl:=YJ (qJ op) (qJ op k) k1 q
   obtain⟨cc,hcc⟩:=qh2 (vr (qJ op) (qJ op k) k1 q)
   rw[<-hcc]at t7 cl
   by_cases hql:q<31-k
   .have d32:((a:Int)<32)=True:=eq_true (by omega)
    have d32':(a<32)=True:=eq_true (by omega)
    have sa:=bZ op (k:=a) (by omega)
    have w2:=qY (i:=a) (by omega)
    have w3:=qY (i:=cc) (by omega)
    obtain⟨a',ha'⟩:=qh2 (a+1)
    rw[<-ha']at w2
    by_cases e:qJ op a=qJ op k
    .have e1:((qJ op a:Int)=(qJ op k:Int))=True:=eq_true (by omega)
     have e1':(qJ op a=qJ op k)=True:=eq_true e
     have ec:vr (qJ op) (qJ op k) k1 (q+1)=cc+1:=by show _+(if qJ op (k1+q)=_ then 1 else 0)=_;rw[<-ha,if_pos e,hcc]
     obtain⟨cd,hcd⟩:=qh2 (cc+1)
     rw[<-hcd]at w3 ec
     simp[t3,t5,t7,t8,d32,d32',sa,sx,e1,e1',w2,w3]
     exact hkq hql _ _ ⟨by simp[t1],by simp[t3],by simp[t4],by simp[t5],by simp[ec],by simp[ha',ha];omega,rfl⟩
    .have e1:((qJ op a:Int)=(qJ op k:Int))=False:=eq_false (by omega)
     have e1':(qJ op a=qJ op k)=False:=eq_false e
     have ec:vr (qJ op) (qJ op k) k1 (q+1)=cc:=by show _+(if qJ op (k1+q)=_ then 1 else 0)=_;rw[<-ha,if_neg e,hcc];rfl
     simp[t3,t5,t7,t8,d32,d32',sa,sx,e1,e1',w2]
     exact hkq hql _ _ ⟨by simp[t1],by simp[t3],by simp[t4],by simp[t5],by simp[ec,t7],by simp[ha',ha];omega,rfl⟩
   .obtain rfl:q=31-k:=by omega
    have d32:((a:Int)<32)=False:=eq_false (by omega)
    have d32':(a<32)=False:=eq_false (by omega)
    obtain⟨v2,x2,b1,b0,b2,x,rfl,hx⟩:=qm (qfo n (qI m2) i (qJ op k))
    obtain⟨m3,hm3⟩:=qh2 (Dx.behind m2 x2)
    rw[<-hm3]at b2
    have li:loads m2 ⟨m.n,0,none⟩ 6=some (qv i):=(st2.get 0 rfl).2.2.loads (o:=0) (n:=6) (by simp[qv])
    have b1:(ex Tryz.prog (n+1)).f 78 [.agg ⟨qv i⟩,.int .u8 (qJ op k:Int)] (qg m2)=some (iv x,x2):=b1
    have hX0:=qd4 x
    have hX1:IntKind.u64.wrap x<18446744073709551616:=by rw[IntKind.wrap_u64];omega
    obtain⟨X,hX⟩:∃X:Nat,IntKind.u64.wrap x=(X:Int):=⟨(IntKind.u64.wrap x).toNat,by omega⟩
    have cv:xH .u64 (iv x)=some (uv X):=by rw[wV,hX]
    have sh:shV .shr (uv X) (iv cc)=some (uv (X/2^cc:Nat)):=by
     rw[Bn (by omega),qgr,Nat.min_eq_left (by show cc<=64;omega)]
     congr 2
     rw[show ((2:Int)^cc)=((2^cc:Nat):Int) by push_cast;rfl,<-Int.ofNat_fdiv]
    obtain⟨Y,hY⟩:=qh2 (X/2^cc)
    rw[<-hY]at sh
    have Yl:Y<18446744073709551616:=by rw[hY];exact Nat.lt_of_le_of_lt (Nat.div_le_self _ _) (by omega)
    have an:ky .and (uv Y) (.int .u64 1)=some (uv (Y%2:Nat)):=by
     have:=XU (a:=Y) (b:=1) Yl (by decide)
     rw[Nat.and_one_is_mod]at this;exact this
    obtain⟨y,hy⟩:=qh2 (Y%2)
    rw[<-hy]at an
    have yl:y<=1:=by omega
    have cv2:xH .u32 (uv y)=some (wv y):=by rw[wV,IntKind.wrap_u32];congr 2;omega
    obtain⟨z,z1,z2⟩:=fin y yl
    simp[t1,t3,t4,t5,t7,t8,d32,d32',qd,li,sx,b1,b0,<-hm3,cv,sh,an,cv2,sb,z1,z2,kdec]
    have same:∀{c:Nat} {f:Int},qJ op k=c->(qJ op k=c->x=f)->∀r:Nat,f=r->r<18446744073709551616->y=r/2^vr (qJ op) c (k+1) (31-k)%2:=λ{c f} e g r hr hl=>by
     have hxr:x=(r:Int):=(g e).trans hr
     have:X=r:=by
      have:=hX
      rw[hxr,IntKind.wrap_u64]at this
      omega
     rw[hy,hY,this,hcc,hk1,e]
    refine hk hil _ _ ⟨by simp[t1],by simp[t3],by simp[hkd],E.trans b2,(λq=>if q=k then y else b q),ext y ⟨yl,λh=>by omega,λh=>by omega,λh=>same h hx.rd,λh=>same h hx.rn,λh=>same h hx.rm⟩,by simp⟩
  .have g57:((57:Int)<(qJ op k:Int))=False:=eq_false (by omega)
   have g57':(57<qJ op k)=False:=eq_false c57
   by_cases c49:qJ op k=49
   .have e49:((qJ op k:Int)=49)=True:=eq_true (by omega)
    have e49':(qJ op k=49)=True:=eq_true c49
    obtain⟨z,z1,z2⟩:=fin 1 (by omega)
    have z1:shV .shl (.int .u32 1) (iv j)=some (wv z):=z1
    simp[t1,t3,t4,t5,q0,sx,e49,e49',g57,g57',sb,z1,z2,kdec]
    exact hk hil _ _ ⟨by simp[t1],by simp[t3],by simp[hkd],E,(λq=>if q=k then 1 else b q),ext 1 ⟨by omega,λ_=>rfl,λh=>by omega,λh=>by omega,λh=>by omega,λh=>by omega⟩,by simp⟩
   .have e49:((qJ op k:Int)=49)=False:=eq_false (by omega)
    have e49':(qJ op k=49)=False:=eq_false c49
    obtain⟨z,z1,z2⟩:=fin 0 (by omega)
    have z1:shV .shl (.int .u32 0) (iv j)=some (wv z):=z1
    simp[t1,t3,t4,t5,q0,sx,e49,e49',g57,g57',sb,z1,z2,kdec]
    exact hk hil _ _ ⟨by simp[t1],by simp[t3],by simp[hkd],E,(λq=>if q=k then 0 else b q),ext 0 ⟨by omega,λh=>absurd h c49,λ_=>rfl,λh=>by omega,λh=>by omega,λh=>by omega⟩,by simp⟩
 .obtain rfl:j=32:=by omega
  have t5':Tm.get 5 t=iv (-1):=t5
  simp[t4,t5']
  exact qx st2.ext ⟨b,λk hk=>by have:=hbit (31-k) (by omega);rwa [show 31-(31-k)=k by omega]at this,by simp⟩
end Go.Sx
namespace Go.Sx
open Go.Dx Go.Proofs
set_option maxRecDepth 10000
theorem bS (p:Nat->Nat)(w c:Nat):∀(N k:Nat),k<N->p k=c->(rdP p w c N).1/2^vr p c (k+1) (N-1-k)%2=w/2^(31-k)%2
 | 0,k,h,_=>by omega
 | N+1,k,h,hk=>by
  by_cases e:k=N
  .subst e
   have e0:k+1-1-k=0:=by omega
   rw[e0]
   show (if p k=c then _ else _:Nat × Nat).1/2^0%2=_
   rw[if_pos hk]
   simp only[Nat.pow_zero,Nat.div_one]
   omega
  .have ih:=bS p w c N k (by omega) hk
   have e0:N+1-1-k=(N-1-k)+1:=by omega
   have e1:k+1+(N-1-k)=N:=by omega
   rw[e0]
   unfold vr
   rw[e1]
   unfold rdP
   split
   .simp only
    rw[Nat.pow_succ,Nat.mul_comm (2^_) 2,<-Nat.div_div_eq_div_mul]
    rw[show ((rdP p w c N).1*2+w/2^(31-N)%2)/2=(rdP p w c N).1 by omega]
    exact ih
   .rw[Nat.add_zero];exact ih
theorem FM {b:Nat->Nat}:∀(n j:Nat),(∀j,j<n->b (31-j)<=1)->j<n->wdF b n/2^j%2=b (31-j)
 | 0,j,_,h=>by omega
 | n+1,j,hb,h=>by
  have lt:=Yu n λj hj=>hb j (by omega)
  have b1:=hb n (by omega)
  unfold wdF
  by_cases e:j=n
  .subst e
   rw[Nat.add_mul_div_right _ _ (Nat.two_pow_pos j),Nat.div_eq_of_lt lt]
   omega
  .have ih:=FM n j (λj hj=>hb j (by omega)) (by omega)
   have e1:2^n=2^j*2*2^(n-j-1):=by rw[<-Nat.pow_succ,<-Nat.pow_add];congr 1;omega
   rw[e1,show b (31-n)*(2^j*2*2^(n-j-1))=2^j*(2*(b (31-n)*2^(n-j-1))) by ac_rfl,Nat.add_mul_div_left _ _ (Nat.two_pow_pos j)]
   omega
theorem XX (w:Nat):∀n,n<=32->wdF (λk=>w/2^(31-k)%2) n=w%2^n
 | 0,_=>by show 0=w%2^0;rw[Nat.pow_zero,Nat.mod_one]
 | n+1,h=>by
  unfold wdF
  rw[XX w n (by omega),show 31-(31-n)=n by omega,Nat.pow_succ,Nat.mod_mul,Nat.mul_comm (2^n)]
structure XW (op w:Nat):Prop where
 lt:w<4294967296
 one:∀k,k<32->qJ op k=49->w/2^(31-k)%2=1
 zero:∀k,k<32->qJ op k=48->w/2^(31-k)%2=0
 rn:w/32%32<=30
 rm:w/65536%32<=30
 ne:op=28\/op=29->w/65536%32≠w%32/\w/65536%32≠w/32%32
theorem lay5 {f:Fld}{p a:Nat}(h1:f.at_=(p:Int))(h2:f.width=5)(h3:f.step=1)(h4:f.turned=false)(hp:p<=16)(ha:a<32):dD f (a:Int)=((a*2^p:Nat):Int):=by
 have hm:Kk f=31:=by unfold Kk;rw[h2];rfl
 have e0:Xb f (a:Int)=(a:Int):=by
  unfold Xb
  rw[h3,hm,Int.tdiv_one,wrap64 _ (by omega) (by omega),show IntKind.u32.wrap (a:Int)=(a:Int) by rw[IntKind.wrap_u32];omega]
  have:=Go.u32_and_nat a 31 (by omega) (by decide)
  have e:a &&& 31=a:=by
   rw[show (31:Nat)=2^5-1 from rfl,Nat.and_two_pow_sub_one_eq_mod,Nat.mod_eq_of_lt ha]
  rw[e]at this
  exact this
 unfold dD Qq
 rw[if_neg (by rw[h2];decide),h4,if_neg (by decide),e0,h1,qgr,Nat.min_eq_left (by omega)]
 have e1:a*2^p<4294967296:=by
  have:a*2^p<=31*2^16:=Nat.mul_le_mul (by omega) (Nat.pow_le_pow_right (by decide) hp)
  have:(31:Nat)*2^16<4294967296:=by decide
  omega
 rw[show ((2:Int)^p)=((2^p:Nat):Int) by push_cast;rfl,<-Int.natCast_mul,IntKind.wrap_u32]
 omega
theorem rd5 {f:Fld}{p w:Nat}(h1:f.at_=(p:Int))(h2:f.width=5)(h3:f.step=1)(h4:f.turned=false)(h5:f.lo=0)(hp:p<=16)(hw:w<4294967296):rdF f (w:Int)=((w/2^p%32:Nat):Int):=by
 have hm:Kk f=31:=by unfold Kk;rw[h2];rfl
 have lt:w/2^p<4294967296:=Nat.lt_of_le_of_lt (Nat.div_le_self _ _) hw
 have e0:VY f (w:Int)=((w/2^p%32:Nat):Int):=by
  unfold VY
  rw[hm,h1,qgr,Nat.min_eq_left (by omega),show ((2:Int)^p)=((2^p:Nat):Int) by push_cast;rfl,<-Int.ofNat_fdiv]
  have:=Go.u32_and_nat (w/2^p) 31 lt (by decide)
  rw[show (31:Nat)=2^5-1 from rfl,Nat.and_two_pow_sub_one_eq_mod]at this
  have e31:((2^5-1:Nat):Int)=31:=rfl
  rw[e31]at this
  rw[this,wrap64 _ (by omega) (by omega)]
 have e1:Xz f (w:Int)=VY f (w:Int):=by unfold Xz;rw[h4,if_neg (by decide)]
 have e2:Be f (w:Int)=VY f (w:Int):=by unfold Be;rw[if_neg (λh=>by have:=h.1;omega),e1]
 unfold rdF
 rw[if_neg (by rw[h2];decide),e2,e0,h3,Int.mul_one,wrap64 _ (by omega) (by omega)]
def xops:List Nat:=[28,29,36,37,38,39]
theorem vZ {op:Nat}:op∈xops ↔ XOp op:=by unfold xops XOp;simp;omega
def fixB (op:Nat):Bool:=(List.range 32).all λk=>!(decide (qJ op k=49)||decide (qJ op k=48))||((decide (10<=31-k/\31-k<16)||decide (21<=31-k))&&(Nat.testBit (xc op) (31-k)==decide (qJ op k=49)))
theorem qar:xops.all fixB=true:=by decide +kernel
theorem word_lt:(xops.all λop=>decide (xc op<4294967296))=true:=by decide +kernel
theorem Yq {a p j:Nat}(ha:a<32)(h:j<p\/p+5<=j):(a*2^p).testBit j=false:=by
 rw[Nat.mul_comm,Nat.testBit_two_pow_mul]
 rcases h with h | h
 .simp;omega
 .have:a.testBit (j-p)=false:=Nat.testBit_lt_two_pow (qgi ha (by
   rw[show (32:Nat)=2^5 from rfl];exact Nat.pow_le_pow_right (by decide) (by omega)))
  simp[this]
theorem qd2 {w j:Nat}:w.testBit j=decide (w/2^j%2=1):=by rw[Nat.testBit_eq_decide_div_mod_eq]
theorem xw_of {op w:Nat}{i:Ins}(hx:XOp op)(hw:w<4294967296)(h:yO op w=some i):XW op w/\i.op=op:=by
 unfold yO at h
 split at h
 .rename_i hc
  rw[qgj]at hc
  obtain⟨hf,hl⟩:=hc
  cases h
  have hl:=of_decide_eq_true hl
  have F:qE op 0=qG 0/\qE op 1=zo 5/\qE op 2=zo 16/\qE op 3=qH/\qE op 4=qH:=by
   rcases hx with rfl | rfl | ⟨h1,h2⟩
   .exact⟨rfl,rfl,rfl,rfl,rfl⟩
   .exact⟨rfl,rfl,rfl,rfl,rfl⟩
   .rcases (by omega:op=36\/op=37\/op=38\/op=39) with rfl | rfl | rfl | rfl<;>exact⟨rfl,rfl,rfl,rfl,rfl⟩
  obtain⟨F0,F1,F2,F3,F4⟩:=F
  obtain⟨x,hxx⟩:=qh2 (fq (qE op) op (w:Int))
  have n14:¬(op:Int)=14:=by unfold XOp at hx;omega
  have xop:x.op=(op:Int):=by rw[hxx];rfl
  have xrd:x.rd=((w/2^0%32:Nat):Int):=by rw[hxx];show rdF (qE op 0) _=_;rw[F0];exact rd5 rfl rfl rfl rfl rfl (by omega) hw
  have xrn:x.rn=((w/2^5%32:Nat):Int):=by rw[hxx];show rdF (qE op 1) _=_;rw[F1];exact rd5 rfl rfl rfl rfl rfl (by omega) hw
  have xrm:x.rm=((w/2^16%32:Nat):Int):=by rw[hxx];show rdF (qE op 2) _=_;rw[F2];exact rd5 rfl rfl rfl rfl rfl (by omega) hw
  rw[<-hxx]at hf hl
  obtain⟨a,ha⟩:=qh2 (w/2^0%32)
  obtain⟨b,hb⟩:=qh2 (w/2^5%32)
  obtain⟨c,hcc⟩:=qh2 (w/2^16%32)
  rw[<-ha]at xrd
  rw[<-hb]at xrn
  rw[<-hcc]at xrm
  have al:a<32:=by omega
  have bl:b<32:=by omega
  have cl:c<32:=by omega
  have Wl:xc op<4294967296:=by simpa using List.all_eq_true.1 word_lt op (vZ.2 hx)
  have l0:dD (qE op 0) x.rd=((a*2^0:Nat):Int):=by rw[F0,xrd];exact lay5 rfl rfl rfl rfl (by omega) al
  have l1:dD (qE op 1) x.rn=((b*2^5:Nat):Int):=by rw[F1,xrn];exact lay5 rfl rfl rfl rfl (by omega) bl
  have l2:dD (qE op 2) x.rm=((c*2^16:Nat):Int):=by rw[F2,xrm];exact lay5 rfl rfl rfl rfl (by omega) cl
  have l3:dD (qE op 3) x.imm=((0:Nat):Int):=by rw[F3];rfl
  have l4:dD (qE op 4) x.cond=((0:Nat):Int):=by rw[F4];rfl
  have orl:∀{p q:Nat},p<4294967296->q<4294967296->p|||q<4294967296:=λ{p q} hp hq=>by
   rw[show (4294967296:Nat)=2^32 from rfl]at *;exact Nat.or_lt_two_pow hp hq
  have W0:=orl Wl (q:=a*2^0) (by omega)
  have W1:=orl W0 (q:=b*2^5) (by omega)
  have W2:=orl W1 (q:=c*2^16) (by omega)
  have W3:=orl W2 (q:=0) (by omega)
  have hor:(((((xc op|||a*2^0)|||b*2^5)|||c*2^16)|||0)|||0:Nat)=w:=by
   unfold bC at hl
   rw[if_neg (by rw[xop];exact n14),jM,jM,jM,jM,jM]at hl
   have e0:yu (xc op) (qE op) x 0=((xc op:Nat):Int):=rfl
   have v0:gM x 0=x.rd:=rfl
   have v1:gM x 1=x.rn:=rfl
   have v2:gM x 2=x.rm:=rfl
   have v3:gM x 3=x.imm:=rfl
   have v4:gM x 4=x.cond:=rfl
   rw[e0,v0,v1,v2,v3,v4,l0,l1,l2,l3,l4,Go.u32_or_nat _ _ Wl (by omega),Go.u32_or_nat _ _ W0 (by omega),Go.u32_or_nat _ _ W1 (by omega),Go.u32_or_nat _ _ W2 (by omega),Go.u32_or_nat _ _ W3 (by omega)]at hl
   exact Int.ofNat.inj hl
  have tb:∀j,((10<=j/\j<16)\/21<=j)->w.testBit j=(xc op).testBit j:=λj hj=>by
   rw[<-hor]
   simp only[Nat.testBit_or,Nat.zero_testBit,Bool.or_false]
   rw[Yq al (by omega),Yq bl (by omega),Yq cl (by omega)]
   simp
  have fx:=List.all_eq_true.1 qar op (vZ.2 hx)
  unfold fixB at fx
  have fk:∀k,k<32->qJ op k=49\/qJ op k=48->w.testBit (31-k)=decide (qJ op k=49):=λk hk hp=>by
   have:=List.all_eq_true.1 fx k (by simpa using hk)
   rw[show (decide (qJ op k=49)||decide (qJ op k=48))=true by simpa using hp]at this
   simp only[Bool.not_true,Bool.false_or,qgj,Bool.or_eq_true,decide_eq_true_eq,beq_iff_eq]at this
   rw[tb _ this.1];exact this.2
  have fits:∀j,j<5->inF (qE op j) (gM x j)=true:=λj hj=>by
   unfold yH vE at hf
   rw[qgj]at hf
   exact List.all_eq_true.1 hf.1 j (by simpa using hj)
  have r1:=fits 1 (by omega)
  have r2:=fits 2 (by omega)
  rw[F1]at r1
  rw[F2]at r2
  have rn:b<=30:=by
   have:inF (zo 5) x.rn=true:=r1
   rw[xrn]at this
   unfold inF at this
   rw[if_neg (by decide)]at this
   simp only[qgj,decide_eq_true_eq]at this
   have:=this.1.2
   have h30:(zo 5).hi=30:=rfl
   omega
  have rm:c<=30:=by
   have:inF (zo 16) x.rm=true:=r2
   rw[xrm]at this
   unfold inF at this
   rw[if_neg (by decide)]at this
   simp only[qgj,decide_eq_true_eq]at this
   have:=this.1.2
   have h30:(zo 16).hi=30:=rfl
   omega
  refine⟨⟨hw,λk hk h49=>?_,λk hk h48=>?_,by omega,by omega,λh28=>?_⟩,rfl⟩
  .have:=fk k hk (.inl h49)
   rw[qd2,h49]at this
   simpa using this
  .have:=fk k hk (.inr h48)
   rw[qd2,h48]at this
   have:¬w/2^(31-k)%2=1:=by simpa using this
   omega
  .unfold yH at hf
   rw[qgj]at hf
   have ft:=hf.2
   unfold br at ft
   rw[if_neg (by rw[xop];exact n14),if_pos (by rw[xop];omega)]at ft
   simp only[qgj,decide_eq_true_eq]at ft
   obtain⟨f1,f2⟩:=ft
   rw[xrm,xrd]at f1
   rw[xrm,xrn]at f2
   constructor<;>omega
 .cases h
end Go.Sx
namespace Go.Sx
open Go.Dx Go.Proofs
set_option maxRecDepth 10000
theorem Je (p:Nat->Nat)(w c:Nat):∀N,(rdP p w c N).2=vr p c 0 N
 | 0=>rfl
 | N+1=>by
  have ih:=Je p w c N
  unfold rdP vr
  rw[Nat.zero_add,<-ih]
  split<;>rfl
def posB (op c s:Nat):Bool:=decide (vr (qJ op) c 0 32=5)&&(List.range 5).all λj=>decide (qJ op (31-s-j)=c)&&decide (vr (qJ op) c (31-s-j+1) (s+j)=j)
def xB (op:Nat):Bool:=posB op 100 0&&posB op 110 5&&posB op 109 16&&decide (vr (qJ op) 105 0 32=0)&&decide (vr (qJ op) 107 0 32=0)&&decide (vr (qJ op) 99 0 32=0)&&hasB op 100&&hasB op 110&&hasB op 109 &&
 (List.range 32).all λk=>decide (qJ op k=49)||decide (qJ op k=48)||decide (qJ op k=100)||decide (qJ op k=110)||decide (qJ op k=109)
theorem qdi:xops.all xB=true:=by decide +kernel
def distB (op op':Nat):Bool:=(List.range 32).any λk=>(decide (qJ op k=49)&&decide (qJ op' k=48))||(decide (qJ op k=48)&&decide (qJ op' k=49))
theorem qac:(xops.all λop=>(List.range 47).all λq=>decide (q+1∈xops)||distB op (q+1))=true:=by decide +kernel
theorem Jb {op c s w:Nat}(h:posB op c s=true)(hs:s<=26):(rdP (qJ op) w c 32).1=w/2^s%32:=by
 unfold posB at h
 rw[qgj]at h
 obtain⟨h1,h2⟩:=h
 have h1:=of_decide_eq_true h1
 have lt:=(Jf (qJ op) w c 32).1
 rw[Je,h1]at lt
 obtain⟨v,hv⟩:=qh2 ((rdP (qJ op) w c 32).1)
 have bit:∀j,j<5->v/2^j%2=w/2^(s+j)%2:=λj hj=>by
  have:=List.all_eq_true.1 h2 j (by simpa using hj)
  rw[qgj]at this
  have e1:=of_decide_eq_true this.1
  have e2:=of_decide_eq_true this.2
  have:=bS (qJ op) w c 32 (31-s-j) (by omega) e1
  rw[show 32-1-(31-s-j)=s+j by omega,e2,<-hv]at this
  exact this
 rw[<-hv]at lt ⊢
 have b0:=bit 0 (by omega)
 have b1:=bit 1 (by omega)
 have b2:=bit 2 (by omega)
 have b3:=bit 3 (by omega)
 have b4:=bit 4 (by omega)
 simp only[Nat.pow_add,<-Nat.div_div_eq_div_mul]at b0 b1 b2 b3 b4
 obtain⟨z,hz⟩:=qh2 (w/2^s)
 rw[<-hz]at b0 b1 b2 b3 b4 ⊢
 simp at b0 b1 b2 b3 b4
 omega
theorem Kg {op c w:Nat}(h:vr (qJ op) c 0 32=0):(rdP (qJ op) w c 32).1=0/\(rdP (qJ op) w c 32).2=0:=by
 have lt:=(Jf (qJ op) w c 32).1
 have e:=Je (qJ op) w c 32
 rw[h]at e
 rw[e]at lt
 exact⟨by simpa using lt,e⟩
theorem x_fit {op w:Nat}(hx:XOp op)(h:XW op w){i:Ins}(hi:AsI op w i):FitX op i:=by
 have k:=List.all_eq_true.1 qdi op (vZ.2 hx)
 unfold xB at k
 simp only[qgj]at k
 obtain⟨⟨⟨⟨⟨⟨⟨⟨⟨k0,k1⟩,k2⟩,k3⟩,k4⟩,k5⟩,k6⟩,k7⟩,k8⟩,-⟩:=k
 have v0:=Jb (w:=w) k0 (by omega)
 have v1:=Jb (w:=w) k1 (by omega)
 have v2:=Jb (w:=w) k2 (by omega)
 have z3:=Kg (w:=w) (of_decide_eq_true k3)
 have z4:=Kg (w:=w) (of_decide_eq_true k4)
 have z5:=Kg (w:=w) (of_decide_eq_true k5)
 have r0:=hi.rd
 have r1:=hi.rn
 have r2:=hi.rm
 rw[v0]at r0
 rw[v1]at r1
 rw[v2]at r2
 have h1:=h.rn
 have h2:=h.rm
 have h3:=h.ne
 refine⟨⟨k6,k7,k8⟩,by omega,by omega,by omega,?_,?_,λho=>?_⟩
 .rw[hi.imm z3.2 (by unfold XOp at hx;omega) (by unfold XOp at hx;omega) (by unfold XOp at hx;omega),z3.1];rfl
 .rw[hi.cond z4.2,z5.1];rfl
 .have:=h3 ho
  rw[r0,r1,r2]
  constructor<;>omega
theorem x_word {op w:Nat}(hx:XOp op)(h:XW op w){i:Ins}(hi:AsI op w i){b:Nat->Nat}(hb:∀k,k<32->FN (qJ op) i k (b k)):wdF b 32=w:=by
 have kk:=List.all_eq_true.1 qdi op (vZ.2 hx)
 unfold xB at kk
 rw[qgj]at kk
 have sg:=kk.2
 have e:∀k,k<32->b k=w/2^(31-k)%2:=λk hk=>by
  have s:=List.all_eq_true.1 sg k (by simpa using hk)
  simp only[Bool.or_eq_true,decide_eq_true_eq]at s
  have bi:=hb k hk
  have bound:∀c,(rdP (qJ op) w c 32).1<18446744073709551616:=λc=>by have:=(VZ (qJ op) w c (k:=32) (by omega)).1;omega
  rcases s with (((s | s) | s) | s) | s
  .rw[bi.one s,h.one k hk s]
  .rw[bi.zero s,h.zero k hk s]
  .rw[bi.rd s _ hi.rd (bound _)];exact bS (qJ op) w 100 32 k hk s
  .rw[bi.rn s _ hi.rn (bound _)];exact bS (qJ op) w 110 32 k hk s
  .rw[bi.rm s _ hi.rm (bound _)];exact bS (qJ op) w 109 32 k hk s
 rw[Qd 32 (b':=λk=>w/2^(31-k)%2) (λj hj=>e (31-j) (by omega)),XX w 32 (by omega)]
 exact Nat.mod_eq_of_lt h.lt
theorem qfy {op op' w:Nat}(hx:XOp op)(h:XW op w)(h1:1<=op')(h2:op'<=47)(hn:¬XOp op'){i:Ins}{b:Nat->Nat}(hb:∀k,k<32->FN (qJ op') i k (b k)):wdF b 32≠w:=λe=>by
 have d:=List.all_eq_true.1 qac op (vZ.2 hx)
 have d:=List.all_eq_true.1 d (op'-1) (by simp;omega)
 rw[show op'-1+1=op' by omega]at d
 have hn':¬op'∈xops:=λhc=>hn (vZ.1 hc)
 rw[show decide (op'∈xops)=false from decide_eq_false hn',Bool.false_or]at d
 unfold distB at d
 obtain⟨k,hk,d⟩:=List.any_eq_true.1 d
 have hk:k<32:=by simpa using hk
 have bk:b k=w/2^(31-k)%2:=by
  have:=FM (b:=b) 32 (31-k) (λj hj=>(hb (31-j) (by omega)).le) (by omega)
  rw[e,show 31-(31-k)=k by omega]at this
  exact this.symm
 simp only[Bool.or_eq_true,qgj,decide_eq_true_eq]at d
 rcases d with ⟨p1,p2⟩ | ⟨p1,p2⟩
 .have:=h.one k hk p1
  have:=(hb k hk).zero p2
  omega
 .have:=h.zero k hk p1
  have:=(hb k hk).one p2
  omega
def DecOf (w:Nat)(u:Value):Prop:=∃(i:Ins) (ok:Bool),u=.tuple #[.agg ⟨qv i⟩,.bool ok]/\∀k0,XOp k0->XW k0 w->ok=true/\∃q:Nat,i.op=(q:Int)/\XOp q
theorem XY (n:Nat){m:M}(hm:m.base<=m.n){w:Nat}(hw:w<4294967296):Dx.Call (ex Tryz.prog (n+5)) 33 [wv w] m λu _=>DecOf w u:=by
 refine qj dc1_ok (by simp) ?_
 have st0:=(St.nil hm (Ext.refl m)).row z6i
 obtain⟨m0,hm0⟩:=qh2 (Dx.newRow m z6i)
 have hm0':=hm0.symm
 rw[<-hm0]at st0
 simp[hm0']
 refine qF (c:=BR) rfl (Ret m _) (λj t m'=>Tm.get 0 t=wv w/\Tm.get 2 t=.pointer (some ⟨m.n,0,none⟩)/\Tm.get 4 t=iv (j+1:Nat)/\St m m' [(m.n,z6i)]/\∀k0,XOp k0->k0<=j->¬XW k0 w) 47 (by omega)
  ⟨by simp,by simp,by simp,st0,λk0 hx hk=>by unfold XOp at hx;omega⟩ (λj t m' kk hj hI hkk=>?_)
 obtain⟨t0,t2,t4,st,hno⟩:=hI
 obtain⟨op,hop⟩:=qh2 (j+1)
 rw[<-hop]at t4
 by_cases hil:j<47
 .have d1:((op:Int)<=47)=True:=eq_true (by omega)
  have d1':(op<=47)=True:=eq_true (by omega)
  have w1:=qY (i:=op) (by omega)
  obtain⟨op1,hop1⟩:=qh2 (op+1)
  rw[<-hop1]at w1
  obtain⟨v1,m1,a1,a2,i,rfl,hi⟩:=As_c (n+2) st.sees.base (op:=op) (by omega) (by omega) hw
  have st1:=(st.step a2).row z6i
  obtain⟨m2,b1,st2,-,-⟩:=st1.fill 0 rfl (n:=6) (l':=qv i) rfl rfl (jV i)
  have li:loads m2 ⟨m1.n,0,none⟩ 6=some (qv i):=(st2.get 0 rfl).2.2.loads (o:=0) (n:=6) (by simp[qv])
  obtain⟨v3,m3,c1,c2,fb,rfl,hf⟩:=Fits_c n st2.sees.base (op:=op) (by omega) (by omega) hi.hop
  have st3:=st2.step c2
  have li3:loads m3 ⟨m1.n,0,none⟩ 6=some (qv i):=(st3.get 0 rfl).2.2.loads (o:=0) (n:=6) (by simp[qv])
  have b1':qB 6 (.pointer (some ⟨m1.n,0,none⟩)) (.agg ⟨qv i⟩) (Dx.newRow m1 [zI,zI,zI,zI,zI,zI])=some (undef,m2):=b1
  cases hfb:fb with
  | false =>
   rw[hfb]at c1
   simp[t0,t4,d1,d1',a1,b1',qd,li,c1,w1]
   refine hkk hil _ _ ⟨by simp[t0],by simp[t2],by simp[hop1,hop],⟨st3.ext,st3.base,λp hp=>by
    rcases qgk.1 hp with rfl
    exact st3.arr _ (by simp),by simp⟩,λk0 hx hk hX=>?_⟩
   by_cases e:k0<=j
   .exact hno k0 hx e hX
   .obtain rfl:k0=op:=by omega
    have:=hf hx (x_fit hx hX hi)
    rw[hfb]at this;cases this
  | true =>
   rw[hfb]at c1
   obtain⟨v4,m4,e1,e2,b,hbit,rfl⟩:=Word_c (n+2) st3.sees.base (op:=op) (by omega) (by omega) hi.hop
   have st4:=st3.step e2
   have li4:loads m4 ⟨m1.n,0,none⟩ 6=some (qv i):=(st4.get 0 rfl).2.2.loads (o:=0) (n:=6) (by simp[qv])
   by_cases hW:wdF b 32=w
   .obtain⟨m5,f1,st5,-,-⟩:=st4.fill 1 (b:=m.n) rfl (n:=6) (l':=qv i) rfl rfl (jV i)
    have l7:loads m5 ⟨m.n,0,none⟩ 6=some (qv i):=(st5.get 1 rfl).2.2.loads (o:=0) (n:=6) (s:=none) (by simp[qv])
    have hW':((wdF b 32:Int)=(w:Int))=True:=eq_true (by omega)
    have hW2:(wdF b 32=w)=True:=eq_true hW
    simp[t0,t2,t4,d1,d1',a1,b1',qd,li,c1,li3,e1,hW',hW2,li4,f1]
    refine qT (a:=⟨m.n,0,none⟩) (by simp[t2]) l7 st5.ext ⟨i,true,by simp,λk0 hx hX=>⟨rfl,op,hi.hop,?_⟩⟩
    exact Classical.byContradiction λhn=>qfy hx hX (by omega) (by omega) hn hbit hW
   .have hW':((wdF b 32:Int)=(w:Int))=False:=eq_false (by omega)
    have hW2:(wdF b 32=w)=False:=eq_false hW
    simp[t0,t2,t4,d1,d1',a1,b1',qd,li,c1,li3,e1,hW',hW2,w1]
    refine hkk hil _ _ ⟨by simp[t0],by simp[t2],by simp[hop1,hop],⟨st4.ext,st4.base,λp hp=>by
     rcases qgk.1 hp with rfl
     exact st4.arr _ (by simp),by simp⟩,λk0 hx hk hX=>?_⟩
    by_cases e:k0<=j
    .exact hno k0 hx e hX
    .obtain rfl:k0=op:=by omega
     exact hW (x_word hx hX hi hbit)
 .obtain rfl:j=47:=by omega
  have t4':Tm.get 4 t=iv 48:=by rw[t4,hop];rfl
  have bu:wN [zI,zI,zI,zI,zI,zI] []=some (.agg ⟨qv VB⟩):=rfl
  obtain⟨m5,f1,st5,-,-⟩:=st.fill 0 (b:=m.n) rfl (n:=6) (l':=qv VB) rfl rfl (jV _)
  have l7:loads m5 ⟨m.n,0,none⟩ 6=some (qv VB):=(st5.get 0 rfl).2.2.loads (o:=0) (n:=6) (s:=none) (by simp[qv])
  simp[t2,t4',bu,f1]
  exact qT (a:=⟨m.n,0,none⟩) (by simp[t2]) l7 st5.ext ⟨VB,false,by simp,λk0 hx hX=>absurd hX (hno k0 hx (by unfold XOp at hx;omega))⟩
def ExOf (ws:List Nat)(u:Value):Prop:=∃r:Bool,u=.bool r/\(r=false->∀w∈ws,∀k0,XOp k0->¬XW k0 w)
theorem JP (n:Nat){m:M}(hm:m.base<=m.n){wl:Value}{ws:List Nat}(h:Rd m wl 1 vM ws)(hw:∀w∈ws,w<4294967296)(hl:ws.length<=9000000000000000000):Dx.Call (ex Tryz.prog (n+6)) 18 [wl] m λu _=>ExOf ws u:=by
 refine qj da9_ok (by simp) ?_
 have ln:=h.len
 simp
 refine qF (c:=BL) rfl (Ret m _) (λj t m'=>Tm.get 0 t=wl/\Tm.get 3 t=iv j/\Ext m m'/\∀q w,q<j->ws[q]?=some w->∀k0,XOp k0->¬XW k0 w) ws.length (by omega)
  ⟨by simp,by simp,Ext.refl m,λq w hq=>by omega⟩ (λj t m' kk hj hI hkk=>?_)
 obtain⟨t0,t3,E,hno⟩:=hI
 by_cases hil:j<ws.length
 .have d1:((j:Int)<(ws.length:Int))=True:=eq_true (by omega)
  have w1:=qY (i:=j) (by omega)
  have hb:m'.base<=m'.n:=((Sees.refl hm).ext E).base
  obtain⟨w,hwj⟩:∃w,ws[j]?=some w:=⟨_,qgd hil⟩
  obtain⟨y1,y2⟩:=Rd.at1 (g:=λ(x:Nat)=>wv x) (h.congr E.n λB hB=>E.obj B (h.lt B hB)) hwj
  have y2':load1 m' (adr 1 wl j)=some (wv w):=y2 m' (Sees.refl hb)
  obtain⟨v1,m1,a1,a2,i,ok,rfl,hd⟩:=XY n hb (hw w (qge hwj))
  have st1:=((St.nil hm E).step a2).row z6i
  obtain⟨m2,b1,st2,-,-⟩:=st1.fill 0 rfl (n:=6) (l':=qv i) rfl rfl (jV i)
  have b1':qB 6 (.pointer (some ⟨m1.n,0,none⟩)) (.agg ⟨qv i⟩) (Dx.newRow m1 [zI,zI,zI,zI,zI,zI])=some (undef,m2):=b1
  have l0:load1 m2 ⟨m1.n,0,none⟩=some (iv i.op):=(st2.get 0 rfl).2.2.load1 0 none
  have on:(∀k0,XOp k0->¬XW k0 w)->∀q w,q<j+1->ws[q]?=some w->∀k0,XOp k0->¬XW k0 w:=λhh q w' hq hw'=>by
   by_cases e:q=j
   .subst e;rw[hwj]at hw';cases hw';exact hh
   .exact hno q w' (by omega) hw'
  cases hok:ok with
  | false =>
   rw[hok]at a1
   simp[t0,t3,ln,d1,hil,y1,y2',a1,b1',w1]
   exact hkk hil _ _ ⟨by simp[t0],by simp,st2.ext,on λk0 hx hX=>by have:=(hd k0 hx hX).1;rw[hok]at this;cases this⟩
  | true =>
   rw[hok]at a1
   have yes:∀{t':Tm},Tm.get 2 t'=.bool true->Ret m (λu _=>ExOf ws u) (kQ [.t 2] t' m2):=λht=>qx st2.ext ⟨true,ht,λh=>by cases h⟩
   by_cases c1:i.op=28
   .have q1:(i.op=28)=True:=eq_true c1
    simp[t0,t3,ln,d1,hil,y1,y2',a1,b1',l0,q1]
    exact yes (by simp)
   have q1:(i.op=28)=False:=eq_false c1
   by_cases c2:i.op=29
   .have q2:(i.op=29)=True:=eq_true c2
    simp[t0,t3,ln,d1,hil,y1,y2',a1,b1',l0,q1,q2]
    exact yes (by simp)
   have q2:(i.op=29)=False:=eq_false c2
   by_cases c3:36<=i.op
   .have q3:(36<=i.op)=True:=eq_true c3
    by_cases c4:i.op<=39
    .have q4:(i.op<=39)=True:=eq_true c4
     simp[t0,t3,ln,d1,hil,y1,y2',a1,b1',l0,q1,q2,q3,q4]
     exact yes (by simp)
    .have q4:(i.op<=39)=False:=eq_false c4
     simp[t0,t3,ln,d1,hil,y1,y2',a1,b1',l0,q1,q2,q3,q4,w1]
     exact hkk hil _ _ ⟨by simp[t0],by simp,st2.ext,on λk0 hx hX=>by
      obtain⟨-,q,e1,e2⟩:=hd k0 hx hX
      unfold XOp at e2;omega⟩
   .have q3:(36<=i.op)=False:=eq_false c3
    simp[t0,t3,ln,d1,hil,y1,y2',a1,b1',l0,q1,q2,q3,w1]
    exact hkk hil _ _ ⟨by simp[t0],by simp,st2.ext,on λk0 hx hX=>by
     obtain⟨-,q,e1,e2⟩:=hd k0 hx hX
     unfold XOp at e2;omega⟩
 .obtain rfl:j=ws.length:=by omega
  simp[t0,t3,ln]
  exact qx E ⟨false,by simp,λ_ w hw=>by
   obtain⟨q,hq⟩:=List.mem_iff_getElem?.1 hw
   exact hno q w (qgf.1 hq).1 hq⟩
theorem nox_of {ws:List Nat}(he:xD ws=0)(hw:∀w∈ws,w<4294967296)(h:∀w∈ws,∀k0,XOp k0->¬XW k0 w):gO (vd ws):=λi hi=>by
 obtain⟨w,hwm,rfl⟩:=List.mem_map.1 hi
 have ok:(je w).2=0:=by
  unfold xD at he
  split at he
  .cases he
  .split at he
   .rename_i hk
    unfold okW at hk
    simpa using List.all_eq_true.1 hk w hwm
   .cases he
 have key:∀q:Nat,(je w).1.op=(q:Int)->¬XOp q:=λq hq hx=>by
  have fixed:∀op,xg w=some op->op=30\/op=31\/op=32\/op=34:=λop h=>by
   unfold xg at h
   split at h
   .cases h;simp
   split at h
   .cases h;simp
   split at h
   .cases h;simp
   split at h
   .cases h;simp
   .cases h
  have from':∀f op,1<=op->(decFrom w f op).2=0->(decFrom w f op).1.op=(q:Int)->False:=λf=>by
   induction f with
   | zero=>intro op _ h _;cases h
   | succ f ih =>
    intro op h1 h2 h3
    unfold decFrom at h2 h3
    cases hd:yO op w with
    | none=>rw[hd]at h2 h3;exact ih (op+1) (by omega) h2 h3
    | some i =>
     rw[hd]at h2 h3
     simp only at h3
     have hio:i.op=(op:Int):=by
      unfold yO at hd
      split at hd
      .cases hd;rfl
      .cases hd
     have:op=q:=by omega
     subst this
     exact h w hwm op hx (xw_of hx (hw w hwm) hd).1
  unfold je at ok hq
  cases hc:(if Kn w then xg w else none) with
  | none=>rw[hc]at ok hq;exact from' 47 1 (by omega) ok hq
  | some op =>
   rw[hc]at hq
   simp only at hq
   have hq:(op:Int)=(q:Int):=hq
   split at hc
   .have:=fixed op hc
    unfold XOp at hx;omega
   .cases hc
 have ok':=(JZ ok).ok.op
 have:(je w).1.op=(((je w).1.op.toNat:Nat):Int):=by omega
 have:=key _ this
 unfold XOp at this
 refine⟨λh=>?_,λh=>?_,λh=>?_⟩<;>omega
end Go.Sx
namespace Go.Sx
open Go.Dx Go.Proofs
set_option maxRecDepth 10000
def HangOf (R:PM)(x b:Nat)(u:Value):Prop:=∃r:Bool,u=.bool r/\(r=true ↔ Hn R b x)
theorem qdw (n:Nat){m:M}(hm:m.base<=m.n){a:Mch}{R:PM}(ha:RL m a R)(hz:Szp R)(x b:Nat):Dx.Call (ex Tryz.prog (n+1)) 19 [.agg ⟨qZ a⟩,iv x,iv b] m λu _=>HangOf R x b u:=by
 refine qj db0_ok (by simp) ?_
 have st:=(St.nil hm (Ext.refl m)).row (qZ a)
 obtain⟨m0,hm0⟩:=qh2 (Dx.newRow m (qZ a))
 have hb1:jv (.agg ⟨qZ a⟩) m=some (.pointer (some ⟨m.n,0,none⟩),m0):=by rw[hm0];rfl
 rw[<-hm0]at st
 have l1:load1 m0 ⟨m.n,1,none⟩=some a.rmw:=(st.get 0 rfl).2.2.load1 1 none
 have l2:load1 m0 ⟨m.n,2,none⟩=some a.addr:=(st.get 0 rfl).2.2.load1 2 none
 have l3:load1 m0 ⟨m.n,3,none⟩=some a.data:=(st.get 0 rfl).2.2.load1 3 none
 have l4:load1 m0 ⟨m.n,4,none⟩=some a.ctrl:=(st.get 0 rfl).2.2.load1 4 none
 have ok:=ha.ok
 simp[qZ]at ok
 have bu:wN [zS,zS,zS,zS] [(0,1,a.addr),(1,1,a.data),(2,1,a.ctrl),(3,1,a.rmw)]=some (.agg ⟨[a.addr,a.data,a.ctrl,a.rmw]⟩):=bu_4 ok.2.2.1 ok.2.2.2.1 ok.2.2.2.2.1 ok.2.1
 have st1:=st.row [kW,kW,kW,kW]
 obtain⟨m1,d1,st2,d2,d3⟩:=st1.fill 0 rfl (n:=4) (l':=[a.addr,a.data,a.ctrl,a.rmw]) rfl rfl (by
  simp
  exact⟨ok.2.2.1,ok.2.2.2.1,ok.2.2.2.2.1,ok.2.1⟩)
 have d1':qB 4 (.pointer (some ⟨m0.n,0,none⟩)) (.agg ⟨[a.addr,a.data,a.ctrl,a.rmw]⟩) (Dx.newRow m0 [zS,zS,zS,zS])=some (undef,m1):=d1
 have R1:RL m1 a R:=ha.ext st2.ext
 have hb:=st2.sees.base
 have tab:∀k,k<4->∃v l,[a.addr,a.data,a.ctrl,a.rmw][k]?=some v/\Rd m1 v 2 qf l/\l.length<=100000000/\((x,b)∈l->Hn R b x)/\(k=0->(x,b)∈R.addr->(x,b)∈l)/\(k=1->(x,b)∈R.data->(x,b)∈l)/\(k=2->(x,b)∈R.ctrl->(x,b)∈l)/\(k=3->(x,b)∈R.rmw->(x,b)∈l):=λk hk=>by
  have:=hz.rmw;have:=hz.addr;have:=hz.data;have:=hz.ctrl
  rcases (by omega:k=0\/k=1\/k=2\/k=3) with rfl | rfl | rfl | rfl
  .exact⟨_,_,rfl,R1.rdAddr,by omega,λh=>.inl h,λ_ h=>h,λh=>by omega,λh=>by omega,λh=>by omega⟩
  .exact⟨_,_,rfl,R1.rdData,by omega,λh=>.inr (.inl h),λh=>by omega,λ_ h=>h,λh=>by omega,λh=>by omega⟩
  .exact⟨_,_,rfl,R1.rdCtrl,by omega,λh=>.inr (.inr (.inl h)),λh=>by omega,λh=>by omega,λ_ h=>h,λh=>by omega⟩
  .exact⟨_,_,rfl,R1.rdRmw,by omega,λh=>.inr (.inr (.inr h)),λh=>by omega,λh=>by omega,λh=>by omega,λ_ h=>h⟩
 simp[hb1,l1,l2,l3,l4,bu,d1']
 refine qF (c:=BO) rfl (Ret m _) (λk t m'=>Tm.get 1 t=iv x/\Tm.get 2 t=iv b/\Tm.get 7 t=.pointer (some ⟨m0.n,0,none⟩)/\Tm.get 8 t=iv k/\m'=m1/\(0<k->(x,b) ∉ R.addr)/\(1<k->(x,b) ∉ R.data)/\(2<k->(x,b) ∉ R.ctrl)/\(3<k->(x,b) ∉ R.rmw)) 4 (by omega)
  ⟨by simp,by simp,by simp,by simp,rfl,λh=>by omega,λh=>by omega,λh=>by omega,λh=>by omega⟩ (λk t m' kk hk hI hkk=>?_)
 obtain⟨t1,t2,t7,t8,rfl,n0,n1,n2,n3⟩:=hI
 by_cases hil:k<4
 .obtain⟨v,l,g1,g2,g3,g4,g5,g6,g7,g8⟩:=tab k hil
  have ia:=ia4 m0.n hil
  have dd:((k:Int)<4)=True:=eq_true (by omega)
  have w1:=qY (i:=k) (by omega)
  have ld:load1 m' ⟨m0.n,k,none⟩=some v:=by rw[(st2.get 0 rfl).2.2.load1];exact g1
  have ll:=g2.len
  simp[t8,dd,hil]
  refine qF (c:=BN) rfl (Ret m _) (λj t m2=>Tm.get 1 t=iv x/\Tm.get 2 t=iv b/\Tm.get 7 t=.pointer (some ⟨m0.n,0,none⟩)/\Tm.get 8 t=iv k/\Tm.get 9 t=iv j/\m2=m'/\∀q,q<j->l[q]?≠some (x,b)) l.length (by omega)
   ⟨by simp[t1],by simp[t2],by simp[t7],by simp[t8],by simp,rfl,λq hq=>by omega⟩ (λj t m2 kj hj hI hkj=>?_)
  obtain⟨t1,t2,t7,t8,t9,rfl,hno⟩:=hI
  by_cases hjl:j<l.length
  .have d2:((j:Int)<(l.length:Int))=True:=eq_true (by omega)
   have w2:=qY (i:=j) (by omega)
   obtain⟨p,hp⟩:∃p,l[j]?=some p:=⟨_,qgd hjl⟩
   obtain⟨x1,-,x3⟩:=g2.at hp
   have y0:load1 m2 ⟨(adr 2 v j).block,(adr 2 v j).off,none⟩=some (iv p.1):=x3 m2 0 none (Sees.refl hb) (by simp[qf])
   have y1:load1 m2 ⟨(adr 2 v j).block,(adr 2 v j).off+1,none⟩=some (iv p.2):=x3 m2 1 none (Sees.refl hb) (by simp[qf])
   have z0:load1 m2 ⟨(adr 2 v j).block,(adr 2 v j).off,(adr 2 v j).spot⟩=some (iv p.1):=x3 m2 0 _ (Sees.refl hb) (by simp[qf])
   have z1:load1 m2 ⟨(adr 2 v j).block,(adr 2 v j).off+1,(adr 2 v j).spot⟩=some (iv p.2):=x3 m2 1 _ (Sees.refl hb) (by simp[qf])
   have on:p≠(x,b)->∀q,q<j+1->l[q]?≠some (x,b):=λhne q hq=>by
    by_cases e:q=j
    .subst e;rw[hp];exact λh=>hne (Option.some.inj h)
    .exact hno q (by omega)
   by_cases c1:p.1=x
   .have q1:((p.1:Int)=(x:Int))=True:=eq_true (by omega)
    have q1':(p.1=x)=True:=eq_true c1
    by_cases c2:p.2=b
    .have q2:((p.2:Int)=(b:Int))=True:=eq_true (by omega)
     have q2':(p.2=b)=True:=eq_true c2
     have hpm:(x,b)∈l:=by rw[<-c1,<-c2];exact qge hp
     simp[t1,t2,t7,t8,t9,ia,ld,ll,d2,hjl,x1,y0,y1,z0,z1,q1,q1',q2,q2']
     exact qx st2.ext ⟨true,by simp,λ_=>g4 hpm,λ_=>rfl⟩
    .have q2:((p.2:Int)=(b:Int))=False:=eq_false (by omega)
     have q2':(p.2=b)=False:=eq_false c2
     simp[t1,t2,t7,t8,t9,ia,ld,ll,d2,hjl,x1,y0,y1,z0,z1,q1,q1',q2,q2',w2]
     exact hkj hjl _ _ ⟨by simp[t1],by simp[t2],by simp[t7],by simp[t8],by simp,rfl,on λh=>c2 (by rw[h])⟩
   .have q1:((p.1:Int)=(x:Int))=False:=eq_false (by omega)
    have q1':(p.1=x)=False:=eq_false c1
    simp[t1,t2,t7,t8,t9,ia,ld,ll,d2,hjl,x1,y0,y1,z0,z1,q1,q1',w2]
    exact hkj hjl _ _ ⟨by simp[t1],by simp[t2],by simp[t7],by simp[t8],by simp,rfl,on λh=>c1 (by rw[h])⟩
  .obtain rfl:j=l.length:=by omega
   have nl:(x,b) ∉ l:=λh=>by
    obtain⟨q,hq⟩:=List.mem_iff_getElem?.1 h
    exact hno q (qgf.1 hq).1 hq
   simp[t7,t8,t9,ia,ld,ll,w1]
   refine hkk hil _ _ ⟨by simp[t1],by simp[t2],by simp[t7],by simp,rfl,λh hx=>?_,λh hx=>?_,λh hx=>?_,λh hx=>?_⟩
   .by_cases e:k=0
    .exact nl (g5 e hx)
    .exact n0 (by omega) hx
   .by_cases e:k=1
    .exact nl (g6 e hx)
    .exact n1 (by omega) hx
   .by_cases e:k=2
    .exact nl (g7 e hx)
    .exact n2 (by omega) hx
   .by_cases e:k=3
    .exact nl (g8 e hx)
    .exact n3 (by omega) hx
 .obtain rfl:k=4:=by omega
  simp[t8]
  exact qx st2.ext ⟨false,by simp,(λh=>by cases h),λh=>by
   rcases h with h | h | h | h
   .exact absurd h (n0 (by omega))
   .exact absurd h (n1 (by omega))
   .exact absurd h (n2 (by omega))
   .exact absurd h (n3 (by omega))⟩
end Go.Sx
namespace Go.Sx
open Go.Dx Go.Proofs
set_option maxRecDepth 10000
theorem ZO (ev:List EvR)(a:Nat):∀d,nR (ev.take a)<=nR (ev.take (a+d))
 | 0=>qgg _
 | d+1=>by
  refine qgp (ZO ev a d) ?_
  rw[<-Nat.add_assoc]
  cases he:ev[a+d]? with
  | none =>
   have:=List.getElem?_eq_none_iff.1 he
   rw[List.take_of_length_le (by omega),List.take_of_length_le (by omega)];exact qgg _
  | some e=>rw[QP he];omega
theorem nR_at {ev:List EvR}{i:Nat}{e:EvR}(h:ev[i]?=some e)(hk:e.kind=1):nR (ev.take i)<nR ev:=by
 have h1:=QP h
 rw[if_pos hk]at h1
 have h2:=ZO ev (i+1) (ev.length-(i+1))
 have:=(qgf.1 h).1
 rw[show i+1+(ev.length-(i+1))=ev.length by omega,List.take_length]at h2
 omega
theorem nR_inj {ev:List EvR}{i j:Nat}{e f:EvR}(hi:ev[i]?=some e)(he:e.kind=1)(hj:ev[j]?=some f)(hf:f.kind=1)(h:nR (ev.take i)=nR (ev.take j)):i=j:=by
 have key:∀{i j:Nat} {e:EvR},ev[i]?=some e->e.kind=1->i<j->nR (ev.take i)<nR (ev.take j):=λ{i j e} hi he hij=>by
  have h1:=QP hi
  rw[if_pos he]at h1
  have h2:=ZO ev (i+1) (j-(i+1))
  rw[show i+1+(j-(i+1))=j by omega]at h2
  omega
 rcases Nat.lt_trichotomy i j with h1 | h1 | h1
 .have:=key hi he h1;omega
 .exact h1
 .have:=key hj hf h1;omega
theorem qcg (m:M):Rd m kW 1 bRow []:=⟨rfl,(λi r h=>by simp at h),rfl,(λB h=>by cases h)⟩
theorem qct:Sp 1 kW:=.inl rfl
theorem qay {m0 m:M}{v:Value}{rs:List Nat}(h:Grown m0 m v 1 xx rs):Gro m v 1 wY (rs.map wdR):=by
 rcases h with ⟨rfl,rfl⟩ | ⟨B,h1,h2,h3,rfl,h4⟩
 .exact .inl ⟨rfl,rfl⟩
 .refine .inr ⟨B,Nat.zero_le _,h2,by simpa using h3,by rw[List.length_map],?_⟩
  rw[List.flatMap_map];exact h4
def Trn (R:PM)(b x:Nat):Prop:=(∃e,R.ev[x]?=some e/\e.kind=1)/\¬Hn R b x/\x≠b
section
variable {kn:K}{ke:Nat->K}
theorem WB (n:Nat){m:M}(hm:m.base<=m.n){wl rl:Value}{ws rs:List Nat}(hws:Rd m wl 1 vM ws)(hrs:Rd m rl 1 xx rs)(hv:∀v∈rs,v<W64)(zr0:rs.length*8+4096<=most)(he:xD ws=0)(nox:gO (vd ws))
  {mr:M} (E:Ext m mr) {R9:Nat} {q1:Mch} {R:PM} (h9:m.n<=R9/\R9<mr.n/\Arr mr R9 (qZ q1)) (R1:RL mr q1 R) (hR:R=zE ws rs [] 20000) {b:Nat} (hb:b<R.ev.length) {y0:Nat} {t:Tm}
  (t0:Tm.get 0 t=wl) (t1:Tm.get 1 t=rl) (t3:Tm.get 3 t=uv y0) (t9:Tm.get 9 t=.pointer (some ⟨R9,0,none⟩)) (t11:Tm.get 11 t=iv b):Ret m (λu _=>u=.bool true) (Vi (xA (n+40)) kn ke (kQ [.t 8]) t mr):=by
 have zr:rs.length*8+4096<=140737488355328:=zr0
 have fo:Qf R:=by rw[hR];exact fu he rs [] (by omega) hv
 have sz:Szp R:=by rw[hR];exact Ye he rs [] (by omega) hv
 have rdl:nR R.ev<=rs.length:=by
  have h1:=(WW 200001 (yZ ws 20000) rs [] (fK he 20000) hv).2
  have h0:(yZ ws 20000).sc.us=0:=rfl
  have h2:(qC 200001 (yZ ws 20000) rs []).sc.us=(nR R.ev:Nat):=by rw[<-fo.us,hR];rfl
  rw[h0,h2]at h1
  omega
 have hbr:mr.base<=mr.n:=((Sees.refl hm).ext E).base
 obtain⟨tv,m1,a1,a2,a3⟩:=Vd (hrs.congr E.n λB hB=>E.obj B (hrs.lt B hB)) 8 (by unfold most;omega) (by omega)
 have g1:=qay a3
 have E1:Ext m m1:=E.trans a2
 have hb1:m1.base<=m1.n:=((Sees.refl hm).ext E1).base
 have n1:=a2.n
 have nm:=E.n
 have tB:∀B∈Qy tv,mr.n<=B/\B<m1.n:=λB hB=>by
  rcases a3 with ⟨_,rfl⟩ | ⟨B',p1,p2,_,rfl,_⟩
  .cases zX.1 hB
  .cases zX.1 hB;exact⟨p1,p2⟩
 have R9':R9<m1.n/\Arr m1 R9 (qZ q1):=⟨by omega,h9.2.2.congr (a2.obj _ h9.2.1)⟩
 have R1':RL m1 q1 R:=R1.ext a2
 simp[t1,a1]
 refine qF (c:=BI) rfl (Ret m _) (λi t m'=>Tm.get 0 t=wl/\Tm.get 3 t=uv y0/\Tm.get 9 t=.pointer (some ⟨R9,0,none⟩)/\Tm.get 11 t=iv b/\Tm.get 12 t=tv/\Tm.get 13 t=iv (nR (R.ev.take i))/\Tm.get 14 t=iv i/\Mc m1 m' (Qy tv) /\
   ∃ts:List Nat,Gro m' tv 1 wY (ts.map wdR)/\ts.length=rs.length/\(∀v∈ts,v<W64)/\∀j,ts[j]?≠rs[j]?->∃i',i'<i/\Trn R b i'/\nR (R.ev.take i')=j) R.ev.length (by have:=fo.len;omega)
  ⟨by simp[t0],by simp[t3],by simp[t9],by simp[t11],by simp,by simp[nR],by simp,Mc.refl,rs,g1,rfl,hv,λj hj=>absurd rfl hj⟩ (λi t m' k hi hI hk=>?_)
 obtain⟨t0,t3,t9,t11,t12,t13,t14,mc,ts,g,tl,tw,td⟩:=hI
 have E':Ext m m':=dH E1 mc (λB hB=>by have:=(tB B hB).1;omega) hm
 have hb':m'.base<=m'.n:=((Sees.refl hm).ext E').base
 have q1lt:∀F,F<6->∀B,blk (lst q1 F)=some B->B<mr.n:=λF hF B hB=>(R1.ls F hF).lt B hB
 have RL':RL m' q1 R:=R1'.keepM mc λF hF B hB hc=>by have:=q1lt F hF B hB;have:=(tB B hc).1;omega
 have row':Arr m' R9 (qZ q1):=R9'.2.congr (mc.obj _ R9'.1 λhc=>by have:=(tB _ hc).1;omega)
 have le:load1 m' ⟨R9,0,none⟩=some q1.ev:=row'.load1 0 none
 have l9:loads m' ⟨R9,0,none⟩ 9=some (qZ q1):=row'.loads (o:=0) (n:=9) (by simp[qZ])
 have re:=RL'.rdEv
 have ll:=re.len
 have rlen:=fo.len
 by_cases hil:i<R.ev.length
 .have dd:((i:Int)<(R.ev.length:Int))=True:=eq_true (by omega)
  have w1:=qY (i:=i) (by omega)
  obtain⟨e,hx⟩:∃e,R.ev[i]?=some e:=⟨_,qgd hil⟩
  obtain⟨x1,-,x3⟩:=re.at hx
  have x4:load1 m' ⟨(adr 5 q1.ev i).block,(adr 5 q1.ev i).off+1,none⟩=some (iv e.kind):=x3 m' 1 none (Sees.refl hb') (by simp[zJ])
  have x5:load1 m' ⟨(adr 5 q1.ev i).block,(adr 5 q1.ev i).off+1,(adr 5 q1.ev i).spot⟩=some (iv e.kind):=x3 m' 1 _ (Sees.refl hb') (by simp[zJ])
  have tn:=QP hx
  by_cases hk1:e.kind=1
  .rw[hk1]at x4 x5
   rw[if_pos hk1]at tn
   obtain⟨v2,m2,c1,c2,r,rfl,hr⟩:=(qdw (n+39) hb' RL' sz i b).xA (g:=19) (by decide)
   obtain⟨p,hp⟩:=qh2 (nR (R.ev.take i))
   rw[<-hp]at t13 tn
   have pl:p<rs.length:=by have:=nR_at hx hk1;omega
   have w2:=qY (i:=p) (by omega)
   obtain⟨p1,hp1⟩:=qh2 (p+1)
   rw[<-hp1]at w2
   have mc2:Mc m1 m2 (Qy tv):=mc.tr2 (W':=[]) (Mc.ofExt c2) (by simp) hb1
   have g2:Gro m2 tv 1 wY (ts.map wdR):=Grown.ext g c2
   have step0:∀j,ts[j]?≠rs[j]?->∃i',i'<i+1/\Trn R b i'/\nR (R.ev.take i')=j:=λj hj=>by
    obtain⟨i',z1,z2,z3⟩:=td j hj
    exact⟨i',by omega,z2,z3⟩
   have q13:∀{t':Tm},Tm.get 13 t'=iv p1->Tm.get 13 t'=iv (nR (R.ev.take (i+1))):=λh=>by rw[h,tn,hp1]
   cases hrr:r with
   | true =>
    rw[hrr]at c1
    simp[t9,t11,t12,t13,t14,le,ll,dd,hil,x1,x4,x5,qd,l9,c1,w1,w2]
    exact hk hil _ _ ⟨by simp[t0],by simp[t3],by simp[t9],by simp[t11],by simp[t12],q13 (by simp),by simp,mc2,ts,g2,tl,tw,step0⟩
   | false =>
    rw[hrr]at c1
    by_cases hib:i=b
    .have qb:((i:Int)=(b:Int))=True:=eq_true (by omega)
     have qb':(i=b)=True:=eq_true hib
     simp[t9,t11,t12,t13,t14,le,ll,dd,hil,x1,x4,x5,qd,l9,c1,w1,w2,qb,qb']
     exact hk hil _ _ ⟨by simp[t0],by simp[t3],by simp[t9],by simp[t11],by simp[t12],q13 (by simp),by simp,mc2,ts,g2,tl,tw,step0⟩
    .have qb:((i:Int)=(b:Int))=False:=eq_false (by omega)
     have qb':(i=b)=False:=eq_false hib
     have nh:¬Hn R b i:=λhc=>by have:=hr.2 hc;rw[hrr]at this;cases this
     obtain⟨x,hxp⟩:∃x,ts[p]?=some x:=⟨_,qgd (by omega)⟩
     have hb2:m2.base<=m2.n:=((Sees.refl hb').ext c2).base
     have hxe:(ts.map wdR)[p]?=some (wdR x):=by rw[qgu,hxp];rfl
     obtain⟨u1,-,u3⟩:=(Grown.rd kJ g2).at hxe
     have y:=u3 m2 0 none (Sees.refl hb2) (by rw[kJ];omega)
     rw[Nat.add_zero,Yz]at y
     have y:load1 m2 (adr 1 tv p)=some (uv x):=y
     obtain⟨z,hz⟩:=qh2 ((x+y0)%18446744073709551616)
     have ad:IntKind.u64.wrap ((x:Int)+(y0:Int))=(z:Int):=by rw[IntKind.wrap_u64,hz];omega
     obtain⟨m3,s1,s2,s3,s4⟩:=g2.putCell hb2 (by omega) (o:=0) (x':=wdR z) hxe (by omega) (u:=uv z) rfl rfl
     rw[Nat.add_zero,Yz]at s1
     rw[<-List.map_set]at s3
     simp[t3,t9,t11,t12,t13,t14,le,ll,dd,hil,x1,x4,x5,qd,l9,c1,w1,w2,qb,qb',u1,y,ad,s1]
     refine hk hil _ _ ⟨by simp[t0],by simp[t3],by simp[t9],by simp[t11],by simp[t12],q13 (by simp),by simp,mc2.trans s2,ts.set p z,s3,by rw[List.length_set];exact tl,λv hvv=>?_,λj hj=>?_⟩
     .rcases List.mem_or_eq_of_mem_set hvv with h | rfl
      .exact tw v h
      .rw[hz];exact Nat.mod_lt _ (by decide)
     .by_cases ejp:j=p
      .exact⟨i,by omega,⟨⟨e,hx,hk1⟩,nh,hib⟩,by rw[ejp,hp]⟩
      .rw[List.getElem?_set_ne (Ne.symm ejp)]at hj
       exact step0 j hj
  .have qk:(e.kind=1)=False:=eq_false hk1
   rw[if_neg hk1]at tn
   simp[t9,t12,t13,t14,le,ll,dd,hil,x1,x4,x5,qk,w1]
   exact hk hil _ _ ⟨by simp[t0],by simp[t3],by simp[t9],by simp[t11],by simp[t12],by simp[t13,tn],by simp,mc,ts,g,tl,tw,λj hj=>by
    obtain⟨i',z1,z2,z3⟩:=td j hj
    exact⟨i',by omega,z2,z3⟩⟩
 obtain rfl:i=R.ev.length:=by omega
 have rdt:Rd m' tv 1 xx ts:=dP (f:=wY) (g:=wdR) (Grown.rd kJ g)
 obtain⟨v4,m4,d1,d2,d3⟩:=(Ju (n+5) hb' (hws.congr E'.n λB hB=>E'.obj B (hws.lt B hB)) rdt (qcg m') (Grown.sp (e:=1) g) qct tw (fuel:=20000) (by omega)).xA (g:=16) (by decide)
 obtain⟨-,q2,rfl,r2,-,-,-,-⟩:=d3.resolve_left (λh=>h.1 he)
 have d1:(xA (n+40)).f 16 [wl,tv,zS,.int .i64 20000] m'=some (.tuple #[.agg ⟨qZ q2⟩,iv 0],m4):=d1
 obtain⟨R',hR'⟩:=qh2 (zE ws ts [] 20000)
 rw[<-hR']at r2
 have st4:=((St.nil hb' (Ext.refl m')).step d2).row z9
 obtain⟨m5,f1,st5,f2,f3⟩:=st4.fill 0 rfl (n:=9) (l':=qZ q2) rfl rfl r2.ok
 have Z9:z9=[zS,zS,zS,zS,zS,zS,zI,zI,zI]:=rfl
 rw[Z9]at f1
 have K45:Kp [m4.n] m4 m5:=(Ext.row m4 z9).kp.trans (Kp.put f2 f3 (by simp))
 have r5:RL m5 q2 R':=r2.kp K45 λF hF B hB hc=>by have:=(r2.ls F hF).lt B hB;simp at hc;omega
 have le2:load1 m5 ⟨m4.n,0,none⟩=some q2.ev:=(st5.get 0 rfl).2.2.load1 0 none
 have ll2:=r5.rdEv.len
 have fo':Qf R':=by rw[hR'];exact fu he ts [] (by omega) tw
 have rlen':=fo'.len
 have E5:Ext m m5:=E'.trans st5.ext
 by_cases hle:R'.ev.length<=b
 .have qle:((R'.ev.length:Int)<=(b:Int))=True:=eq_true (by omega)
  have qle':(R'.ev.length<=b)=True:=eq_true hle
  simp[t0,t9,t11,t12,t14,le,ll,d1,f1,le2,ll2,qle,qle']
  exact qx E5 (by simp)
 have qle:((R'.ev.length:Int)<=(b:Int))=False:=eq_false (by omega)
 have qle':(R'.ev.length<=b)=False:=eq_false hle
 have same:Zr b R R':=by
  have h0:qC 200001 (yZ ws 20000) rs []=R:=by rw[hR];rfl
  have h1:qC 200001 (yZ ws 20000) ts []=R':=by rw[hR'];rfl
  have:=KK (T:=Trn R b) (b:=b) 200001 (yZ ws 20000) (yZ ws 20000) rs ts (Rl.refl _ _) (fK he 20000) (fK he 20000) nox (by show 0<=b;omega) hv tw tl (by rw[h0];exact hb) (by rw[h1];omega) (by rw[h0];exact λx hx=>hx.2.1) (by
   rw[h0]
   intro j i e hi hk hn nt
   refine Classical.byContradiction λhne=>?_
   obtain⟨i',z1,z2,z3⟩:=td j hne
   obtain⟨⟨e',y1,y2⟩,z4,z5⟩:=z2
   have hz:nR ([]:List EvR)=0:=rfl
   have hn:nR (R.ev.take i)=0+j:=hn
   have:i'=i:=nR_inj y1 y2 hi hk (by omega)
   rw[<-this]at nt
   exact nt ⟨⟨e',y1,y2⟩,z4,z5⟩)
  rw[h0,h1]at this
  exact this
 obtain⟨e,e',p1,p2,p3,p4,p5,p6⟩:=same
 have R5:RL m5 q1 R:=(RL'.ext d2).kp K45 λF hF B hB hc=>by have:=q1lt F hF B hB;have:=mc.n;have:=d2.n;simp at hc;omega
 have dn:=d2.n
 have mn:=mc.n
 have row5:Arr m5 R9 (qZ q1):=row'.congr (st5.ext.obj _ (by omega))
 have le5:load1 m5 ⟨R9,0,none⟩=some q1.ev:=row5.load1 0 none
 obtain⟨x1,x2,-⟩:=R5.rdEv.at p1
 have hb5:=st5.sees.base
 have x2':=x2 m5 (Sees.refl hb5)
 have st6:=(St.nil hb5 (Ext.refl m5)).row [zI,zI,zI,zU,zI]
 obtain⟨m6,i1,st6',-,-⟩:=st6.fill 0 rfl (n:=5) (l':=zJ e) rfl rfl (by simp[zJ,okC])
 have le6:load1 m6 ⟨m4.n,0,none⟩=some q2.ev:=((st5.step st6'.ext).get 0 rfl).2.2.load1 0 none
 obtain⟨y1,y2,-⟩:=(r5.ext st6'.ext).rdEv.at p2
 have hb6:=st6'.sees.base
 have y2':=y2 m6 (Sees.refl hb6)
 have st7:=st6'.row [zI,zI,zI,zU,zI]
 obtain⟨m7,i2,st7',-,-⟩:=st7.fill 0 rfl (n:=5) (l':=zJ e') rfl rfl (by simp[zJ,okC])
 have A1:∀o,load1 m7 ⟨m5.n,o,none⟩=(zJ e)[o]?:=λo=>(st7'.get 1 rfl).2.2.load1 o none
 have A2:∀o,load1 m7 ⟨m6.n,o,none⟩=(zJ e')[o]?:=λo=>(st7'.get 0 rfl).2.2.load1 o none
 have k1:load1 m7 ⟨m5.n,1,none⟩=some (iv e.kind):=A1 1
 have k2:load1 m7 ⟨m5.n,2,none⟩=some (iv e.loc):=A1 2
 have k3:load1 m7 ⟨m5.n,3,none⟩=some (uv e.val):=A1 3
 have k4:load1 m7 ⟨m5.n,4,none⟩=some (iv e.mode):=A1 4
 have j1:load1 m7 ⟨m6.n,1,none⟩=some (iv e.kind):=by rw[<-p3];exact A2 1
 have j2:load1 m7 ⟨m6.n,2,none⟩=some (iv e.loc):=by rw[<-p4];exact A2 2
 have j4:load1 m7 ⟨m6.n,4,none⟩=some (iv e.mode):=by rw[<-p5];exact A2 4
 have E7:Ext m m7:=E5.trans st7'.ext
 by_cases hk1:e.kind=1
 .rw[hk1]at k1 j1
  simp[t0,t9,t11,t12,t14,le,ll,d1,f1,le2,ll2,qle,qle',le5,x1,x2',qd,i1,le6,y1,y2',i2,k1,k2,k4,j1,j2,j4]
  exact qx E7 (by simp)
 .have qk:(e.kind=1)=False:=eq_false hk1
  have j3:load1 m7 ⟨m6.n,3,none⟩=some (uv e.val):=by rw[<-p6.resolve_left hk1];exact A2 3
  simp[t0,t9,t11,t12,t14,le,ll,d1,f1,le2,ll2,qle,qle',le5,x1,x2',qd,i1,le6,y1,y2',i2,k1,k2,k3,k4,j1,j2,j3,j4,qk]
  exact qx E7 (by simp)
end
theorem CpuHangs_c (n:Nat){m:M}(hm:m.base<=m.n){wl rl:Value}{ws rs:List Nat}(hws:Rd m wl 1 vM ws)(hrs:Rd m rl 1 xx rs)(srl:Sp 1 rl)(hw:∀w∈ws,w<4294967296)(hv:∀v∈rs,v<W64)(zw:ws.length*4+4096<=most)(zr:rs.length*8+4096<=most)(f:Int)(y0:Nat) :
  CallV (Ex.step Tryz.prog (xA (n+40))) 5 [wl,rl,iv f,uv y0] m (.bool true):=by
 refine step_ret da0_ok (by simp) ?_
 have aw0:=xA_aw (n+40) m
 have zw':ws.length*4+4096<=140737488355328:=zw
 obtain⟨v1,m1,a1,a2,r,rfl,ha⟩:=(JP (n+34) hm hws hw (by omega)).xA (g:=18) (by decide)
 cases hr:r with
 | true =>
  rw[hr]at a1
  simp[aw0,a1]
  exact qx a2 (by simp)
 | false =>
 rw[hr]at a1
 have ex:=ha hr
 have hb1:m1.base<=m1.n:=((Sees.refl hm).ext a2).base
 obtain⟨v2,m2,b1,b2,b3⟩:=(Ju (n+5) hb1 (hws.congr a2.n λB hB=>a2.obj B (hws.lt B hB)) (hrs.congr a2.n λB hB=>a2.obj B (hrs.lt B hB)) (qcg m1) srl qct hv (fuel:=20000) (by omega)).xA (g:=16) (by decide)
 have b1:(xA (n+40)).f 16 [wl,rl,zS,.int .i64 20000] m1=some (v2,m2):=b1
 have st2:=((St.nil hm a2).step b2).row z9
 have Z9:z9=[zS,zS,zS,zS,zS,zS,zI,zI,zI]:=rfl
 rcases b3 with ⟨he,rfl⟩ | ⟨he,q1,rfl,r1,-,-,-,-⟩
 .obtain⟨m3,c1,st3,-,-⟩:=st2.fill 0 rfl (n:=9) (l':=z9) rfl rfl (by simp[okC])
  have l9:loads m3 ⟨m2.n,0,none⟩ 9=some z9:=(st3.get 0 rfl).2.2.loads (o:=0) (n:=9) (by simp)
  have hne:(xD ws=0)=False:=eq_false he
  obtain⟨v4,m4,d1,d2,rfl⟩:=(qdo (n+36) st3.sees.base).xA (g:=17) (by decide)
  rw[Z9]at c1 l9 d1
  simp[aw0,a1,b1,c1,hne,qd,l9,d1]
  exact qx (st3.ext.trans d2) (by simp)
 obtain⟨m3,c1,st3,c2,c3⟩:=st2.fill 0 rfl (n:=9) (l':=qZ q1) rfl rfl r1.ok
 rw[Z9]at c1
 obtain⟨R,hR⟩:=qh2 (zE ws rs [] 20000)
 rw[<-hR]at r1
 have r3:RL m3 q1 R:=r1.kp (D:=[m2.n]) ((Ext.row m2 z9).kp.trans (Kp.put c2 c3 (by simp))) λF hF B hB hc=>by have:=(r1.ls F hF).lt B hB;simp at hc;omega
 have fo:Qf R:=by rw[hR];exact fu he rs [] (by omega) hv
 have rlen:=fo.len
 have le:load1 m3 ⟨m2.n,0,none⟩=some q1.ev:=(st3.get 0 rfl).2.2.load1 0 none
 have ll:=r3.rdEv.len
 by_cases h0:R.ev.length=0
 .have q0:((R.ev.length:Int)=0)=True:=eq_true (by omega)
  have q0':(R.ev.length=0)=True:=eq_true h0
  have q0'':(R.ev=[])=True:=eq_true (qgv h0)
  simp[aw0,a1,b1,c1,le,ll,q0,q0',q0'']
  exact qx st3.ext (by simp)
 have q0:((R.ev.length:Int)=0)=False:=eq_false (by omega)
 have q0':(R.ev.length=0)=False:=eq_false h0
 have q0'':(R.ev=[])=False:=eq_false (λh=>h0 (by rw[h];rfl))
 have rm:=jK .i64 f (R.ev.length:Int) (by omega)
 obtain⟨z,hz⟩:=qh2 (f.tmod (R.ev.length:Int))
 have zb:z.natAbs<R.ev.length:=by
  rw[hz,Int.natAbs_tmod]
  exact Nat.mod_lt _ (by omega)
 rw[<-hz]at rm
 have h9:m.n<=m2.n/\m2.n<m3.n/\Arr m3 m2.n (qZ q1):=st3.get 0 rfl
 have nox:=nox_of he hw ex
 by_cases hneg:z<0
 .have qn:(z<0)=True:=eq_true hneg
  have ng:unV .neg (iv z)=some (iv (z.natAbs:Int)):=by
   show zV (Op.intArith .sub .i64 0 z)=_
   show some (Value.int .i64 (IntKind.i64.wrap (0-z)))=_
   rw[wrap64 _ (by omega) (by omega)]
   congr 2
   omega
  simp[-Ky,aw0,a1,b1,c1,le,ll,q0,q0',q0'',rm,qn,ng]
  exact WB n hm hws hrs hv zr he nox st3.ext h9 r3 hR (b:=z.natAbs) zb (y0:=y0) (by simp) (by simp) (by simp) (by simp) (by simp)
 .have qn:(z<0)=False:=eq_false hneg
  have e:z=(z.natAbs:Int):=by omega
  simp[-Ky,aw0,a1,b1,c1,le,ll,q0,q0',q0'',rm,qn]
  exact WB n hm hws hrs hv zr he nox st3.ext h9 r3 hR (b:=z.natAbs) zb (y0:=y0) (by simp) (by simp) (by simp) (by simp) (by simp;rw[<-e])
end Go.Sx
namespace Go.Dx
open Go.RowKit Go.WideShapes Go.ChangeShapes
section
variable {H:Type}{enc:TypeId × Value->H}{P:Program}
theorem args_stay (hl:laidOutB P=true){W W':World}:∀(ts:List TypeId) (vs:List Value) (ds:List (DataW H)) (ps:List MemPlace),(ts.all λt=>P.readableRec t&&decide (t<P.types.size))=true ->
  DataW.TrodAll enc P W 0 (λ_=>true) true ts vs ds ps->(∀p∈ps,W.sameAt W' p)->∀sp:Nat->Bool,(∀p∈ps,sp p.block=true)->DataW.TrodAll enc P W' 0 sp true ts vs ds ps
 | [],vs,ds,ps,_,h,_,_,_=>by
  obtain⟨rfl,rfl,rfl⟩:=trodAll_nil h
  exact rfl
 | t::ts,vs,ds,ps,ha,h,hs,sp,hsp=>by
  obtain⟨v,vs',d,ds',p,q,rfl,rfl,rfl,h1,h2⟩:=trodAll_cons h
  simp only[List.all_cons,qgj,decide_eq_true_eq]at ha
  exact⟨p,q,WideElems.Trod_stays hl ha.1.1 ha.1.2 h1 (λx hx=>hs x (List.mem_append_left _ hx)) (λx hx=>hsp x (List.mem_append_left _ hx)),
   args_stay hl ts vs' ds' q ha.2 h2 (λx hx=>hs x (List.mem_append_right _ hx)) sp (λx hx=>hsp x (List.mem_append_right _ hx)),rfl⟩
end
end Go.Dx
namespace Go.Sx
open Go.RowKit Go.WideShapes Go.ChangeShapes Go.Dx
theorem XA {α β:Type}{m:M}{v:Value}{e:Nat}{f:β->List Value}{g:α->β}{l:List α}(h:Rd m v e (λx=>f (g x)) l):Rd m v e f (l.map g) :=
 ⟨by rw[List.length_map];exact h.len,λi r hr=>by
  rw[qgu,Option.map_eq_some_iff]at hr
  obtain⟨x,hx,rfl⟩:=hr
  exact h.row i x hx,by rw[List.length_map,List.flatMap_map];exact h.all,h.lt⟩
section
variable {H:Type}{enc:TypeId × Value->H}{P:Program}{w:World}
abbrev N64:Type:={ x:Nat // x<18446744073709551616 }
instance:Inhabited N64:=⟨⟨0,by decide⟩⟩
abbrev N32:Type:={ x:Nat // x<4294967296 }
instance:Inhabited N32:=⟨⟨0,by decide⟩⟩
def LenOf (d:DataW H)(n:Nat):Prop:=n=0\/∃elems spare,d=.slice elems spare/\elems.length=n
theorem Ft {α:Type}[Inhabited α]{tu tus:TypeId}{f:α->List Value}(hs:P.underlying tus=some (.slice tu))(huc:P.cellsOf tu=1)(hrow:∀n cs y,DataW.trod enc P w 0 (λ_=>true) true n tu cs=some y->∃x:α,cs=f x)(hint:∀x,(f x).length=1/\∀v∈f x,gn v=some v)
  {b0:Nat} {v:Value} {d:DataW H} {pl:List MemPlace} (hv:Value.okWide P w .any b0 tus v) (h:DataW.Trod enc P w 0 (λ_=>true) true tus v d pl) (hz:w.noneFrozen pl) :
  ∃(av:Value) (es:List α),VRel (yJ w) av v/\Rd (snapM w) av 1 f es/\Sp 1 av/\LenOf d es.length:=by
 obtain⟨a0,len,cap,rfl⟩:=okWide_slice hs hv
 have k1:Cell.okWide P w .any b0 tus (.slice a0 len cap):=by have:=hv;simp only[Value.okWide,hs]at this;exact this
 obtain⟨fuel,hf⟩:=h
 obtain⟨av,es,r1,r2,r3,r4⟩:=FU (α:=α) (e:=tu) (sz:=1) (f:=f) hs huc (by omega) hrow hint hf (λa l c e=>by rw[e]at k1;exact Yk hs k1) (λb off hb=>hz b off hb)
 refine⟨av,es,r1,r2,r4,?_⟩
 rcases r3 with rfl | ⟨el,sp,e1,e2⟩
 .exact .inl rfl
 .exact .inr ⟨el,sp,e1,e2⟩
theorem u64_arg {tu tus:TypeId}(hs:P.underlying tus=some (.slice tu))(hu:P.underlying tu=some (.int .u64))(huc:P.cellsOf tu=1){b0:Nat}{v:Value}{d:DataW H}{pl:List MemPlace}(hv:Value.okWide P w .any b0 tus v)(h:DataW.Trod enc P w 0 (λ_=>true) true tus v d pl)(hz:w.noneFrozen pl) :
  ∃(av:Value) (es:List Nat),VRel (yJ w) av v/\Rd (snapM w) av 1 xx es/\Sp 1 av/\LenOf d es.length/\∀x∈es,x<W64:=by
 obtain⟨av,es,r1,r2,r3,r4⟩:=Ft (α:=N64) (f:=λx=>xx x.1) hs huc (λn cs y hh=>by
  obtain⟨x,e1,_,wb⟩:=DataW.trod_int hu hh
  simp only[Lit.wf,qgj,decide_eq_true_eq]at wb
  have h1:(0:Int)<=x:=wb.1
  have h2:x<=18446744073709551615:=wb.2
  exact⟨⟨x.toNat,by omega⟩,by rw[e1];show [Value.int .u64 x]=[Value.int .u64 (x.toNat:Int)];rw[Int.toNat_of_nonneg h1]⟩) (λx=>⟨rfl,λv hv=>by simp[xx]at hv;subst hv;rfl⟩) hv h hz
 refine⟨av,es.map (·.1),r1,XA (g:=λx:N64=>x.1) r2,r3,by rw[List.length_map];exact r4,λx hx=>?_⟩
 obtain⟨y,_,rfl⟩:=List.mem_map.1 hx
 exact y.2
theorem u32_arg {tu tus:TypeId}(hs:P.underlying tus=some (.slice tu))(hu:P.underlying tu=some (.int .u32))(huc:P.cellsOf tu=1){b0:Nat}{v:Value}{d:DataW H}{pl:List MemPlace}(hv:Value.okWide P w .any b0 tus v)(h:DataW.Trod enc P w 0 (λ_=>true) true tus v d pl)(hz:w.noneFrozen pl) :
  ∃(av:Value) (es:List Nat),VRel (yJ w) av v/\Rd (snapM w) av 1 vM es/\Sp 1 av/\LenOf d es.length/\∀x∈es,x<4294967296:=by
 obtain⟨av,es,r1,r2,r3,r4⟩:=Ft (α:=N32) (f:=λx=>vM x.1) hs huc (λn cs y hh=>by
  obtain⟨x,e1,_,wb⟩:=DataW.trod_int hu hh
  simp only[Lit.wf,qgj,decide_eq_true_eq]at wb
  have h1:(0:Int)<=x:=wb.1
  have h2:x<=4294967295:=wb.2
  exact⟨⟨x.toNat,by omega⟩,by rw[e1];show [Value.int .u32 x]=[Value.int .u32 (x.toNat:Int)];rw[Int.toNat_of_nonneg h1]⟩) (λx=>⟨rfl,λv hv=>by simp[vM]at hv;subst hv;rfl⟩) hv h hz
 refine⟨av,es.map (·.1),r1,XA (g:=λx:N32=>x.1) r2,r3,by rw[List.length_map];exact r4,λx hx=>?_⟩
 obtain⟨y,_,rfl⟩:=List.mem_map.1 hx
 exact y.2
end
end Go.Sx
