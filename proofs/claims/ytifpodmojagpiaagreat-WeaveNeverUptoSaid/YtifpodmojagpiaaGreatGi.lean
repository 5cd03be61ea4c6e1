/- Contracts. -/
import Derived.Test.YtifpodmojagpiaaGreatGh
import Derived.Test.YtifpodmojagpiaaGreatGc
import Derived.Test.YtifpodmojagpiaaGreatGd
set_option linter.unusedVariables false
set_option linter.unusedSimpArgs false
set_option linter.defProp false
set_option maxHeartbeats 1000000
namespace Go.Sx
open Go.Dx Go.Proofs
section
variable {es:List (Int × Int)}{b:Nat}
theorem XC {N:Nat}(cl:Nat->Nat)(hcl0:cl 0=0)(hst:∀k,cl k<=cl (k+1)/\cl (k+1)<=cl k+1)(R ρ:Nat->Nat)(hR:∀k,k<es.length->R (pos es b k)=ρ (cl k))(hρ:∀c d,c<N->d<N->ρ c=ρ d->c=d){c s:Nat}(hc0:0<c)(hcN:c<N)(hsn:s<es.length)(hs:cl s=c)(hsf:∀j,j<s->cl j<c) :
  ∀(d j:Nat),j+d=s->yc R (ρ c) ((wi es b).drop j) ((List.range (if j=0 then 0 else cl (j-1)+1)).map ρ)=some c:=by
 intro d
 induction d with
 | zero =>
  intro j hj
  have:j=s:=by omega
  subst this
  have h0:j≠0:=by rintro rfl;omega
  rw[xb hsn,yc,if_pos (by rw[hR _ hsn,hs]),if_neg h0]
  have h1:=hsf (j-1) (by omega)
  have h2:=(hst (j-1)).2
  rw[show j-1+1=j by omega]at h2
  simp;omega
 | succ d ih =>
  intro j hj
  have hjn:j<es.length:=by omega
  have hjc:=hsf j (by omega)
  have hRj:R (pos es b j)=ρ (cl j):=hR _ hjn
  rw[xb hjn,yc,if_neg (by rw[hRj];intro h;have:=hρ _ _ (by omega) hcN h;omega),hRj]
  have hnext:=ih (j+1) (by omega)
  rw[if_neg (by omega),Nat.add_sub_cancel]at hnext
  have key:(if ((List.range (if j=0 then 0 else cl (j-1)+1)).map ρ).contains (ρ (cl j)) then (List.range (if j=0 then 0 else cl (j-1)+1)).map ρ else (List.range (if j=0 then 0 else cl (j-1)+1)).map ρ++[ρ (cl j)])=(List.range (cl j+1)).map ρ:=by
   by_cases h0:j=0
   .subst h0
    simp[hcl0]
   .rw[if_neg h0]
    have h2:=hst (j-1)
    rw[show j-1+1=j by omega]at h2
    by_cases he:cl j=cl (j-1)
    .rw[if_pos (by simp;exact⟨cl j,by omega,rfl⟩),he]
    .have e:cl j=cl (j-1)+1:=by omega
     rw[if_neg,e,List.range_succ (n:=cl (j-1)+1),List.map_append]
     .rfl
     .simp
      intro x hx h
      have:=hρ _ _ (by omega) (by omega) h
      omega
  rw[key];exact hnext
def oc (es:List (Int × Int))(b:Nat):Nat->Nat
 | 0=>0
 | k+1=>oc es b k+if qv es (pos es b k) then 1 else 0
theorem ZL (k:Nat):oc es b k<=oc es b (k+1)/\oc es b (k+1)<=oc es b k+1:=by show _<=oc es b k+_/\oc es b k+_<=_;split<;>omega
theorem oc_ic (k:Nat):oc es b k+ic es b k=k:=by
 induction k with
 | zero=>rfl
 | succ k ih =>
  have e1:oc es b (k+1)=oc es b k+if qv es (pos es b k) then 1 else 0:=rfl
  have e2:ic es b (k+1)=ic es b k+if qv es (pos es b k) then 0 else 1:=rfl
  rw[e1,e2];split<;>omega
theorem QD {i j:Nat}(h:i<=j):oc es b i<=oc es b j:=by
 induction j with
 | zero =>
  have:i=0:=by omega
  subst this;exact qgq _
 | succ j ih =>
  rcases Nat.lt_or_ge i (j+1) with h' | h'
  .exact qgz (ih (by omega)) (ZL j).1
  .have:i=j+1:=by omega
   subst this;exact qgq _
theorem Xm:∀(m c:Nat),c<=oc es b m->∃s,s<=m/\oc es b s=c/\∀j,j<s->oc es b j<c
 | 0,c,h=>⟨0,qgq _,by have:oc es b 0=0:=rfl;omega,λj hj=>by omega⟩
 | m+1,c,h=>by
  by_cases h1:c<=oc es b m
  .obtain⟨s,a,b',c'⟩:=Xm m c h1
   exact⟨s,by omega,b',c'⟩
  .have:=(ZL (es:=es) (b:=b) m).2
   exact⟨m+1,qgq _,by omega,λj hj=>by have:=QD (es:=es) (b:=b) (show j<=m by omega);omega⟩
theorem Ft {i j k:Nat}(h:oc es b i=oc es b k)(h1:i<=j)(h2:j<k):qv es (pos es b j)=false:=by
 have a:=QD (es:=es) (b:=b) h1
 have c:=QD (es:=es) (b:=b) (show j+1<=k by omega)
 have e:oc es b (j+1)=oc es b j+if qv es (pos es b j) then 1 else 0:=rfl
 cases ho:qv es (pos es b j) with
 | false=>rfl
 | true=>rw[ho]at e;simp at e;omega
theorem qei {j:Nat}(h:oc es b j<oc es b (j+1)):qv es (pos es b j)=true:=by
 have e:oc es b (j+1)=oc es b j+if qv es (pos es b j) then 1 else 0:=rfl
 cases ho:qv es (pos es b j) with
 | false=>rw[ho]at e;simp at e;omega
 | true=>rfl
theorem fq (hb:b<es.length)(hlast:qv es (pos es b (es.length-1))=true){k:Nat}(hk:k<es.length):kY es b false (pos es b k)=oc es b k/\oc es b k<cnt es:=by
 have hn:0<es.length:=by omega
 have hcl:cnt es<=es.length:=by unfold cnt;exact List.countP_le_length
 have hall:oc es b es.length=cnt es:=by have:=oc_ic (es:=es) (b:=b) es.length;rw[dq hb]at this;omega
 have hlastN:oc es b (es.length-1)+1=cnt es:=by
  have e:oc es b (es.length-1+1)=oc es b (es.length-1)+if qv es (pos es b (es.length-1)) then 1 else 0:=rfl
  rw[hlast,show es.length-1+1=es.length by omega,hall]at e
  simpa using e.symm
 have hlt:∀j,j<es.length->oc es b j<cnt es:=λj hj=>by have:=QD (es:=es) (b:=b) (show j<=es.length-1 by omega);omega
 refine⟨?_,hlt k hk⟩
 have hex:∀c,∃s,c<cnt es->s<=es.length-1/\oc es b s=c/\∀j,j<s->oc es b j<c:=λc=>by
  by_cases h:c<cnt es
  .obtain⟨s,h1⟩:=Xm (es:=es) (b:=b) (es.length-1) c (by omega)
   exact⟨s,λ_=>h1⟩
  .exact⟨0,λh'=>absurd h' h⟩
 obtain⟨sC,hsC⟩:∃sC:Nat->Nat,∀c,c<cnt es->sC c<=es.length-1/\oc es b (sC c)=c/\∀j,j<sC c->oc es b j<c:=⟨λc=>(hex c).choose,λc=>(hex c).choose_spec⟩
 let ρ:Nat->Nat:=λc=>pos es b (sC c)
 have hR:∀k,k<es.length->yd es false (pos es b k)=ρ (oc es b k):=λk hk=>by
  have hs:=hsC _ (hlt k hk)
  have hsk:sC (oc es b k)<=k:=by
   rcases Nat.lt_or_ge k (sC (oc es b k)) with h | h
   .have:=hs.2.2 k h;omega
   .exact h
  unfold yd
  by_cases hs0:sC (oc es b k)=0
  .have h0:oc es b k=0:=by rw[<-hs.2.1,hs0];rfl
   have e:ρ (oc es b k)=pos es b es.length:=by
    show pos es b (sC (oc es b k))=_
    rw[hs0]
    have:=jc (es:=es) (b:=b) 0
    rw[Nat.zero_add]at this;exact this.symm
   rw[e,<-jc (es:=es) (b:=b) k]
   refine bF hn false es.length (k+es.length) es.length (by omega) (by omega) hn (by rw[hlast];simp) λi h1 h2=>?_
   have:i=(i-es.length)+es.length:=by omega
   rw[this,jc]
   exact Ft (es:=es) (b:=b) (i:=0) (j:=i-es.length) (k:=k) (by rw[h0];rfl) (by omega) (by omega)
  .refine bF hn false es.length k _ hsk (by omega) (by omega) ?_ λi h1 h2=>Ft (by rw[hs.2.1]) h1 h2
   have h3:=qei (es:=es) (b:=b) (j:=sC (oc es b k)-1) (by rw[show sC (oc es b k)-1+1=sC (oc es b k) by omega,hs.2.1];exact hs.2.2 _ (by omega))
   rw[h3];simp
 have hinj:∀c d,c<cnt es->d<cnt es->ρ c=ρ d->c=d:=λc d hc hd h=>by
  have:=QF hb (by have:=(hsC c hc).1;omega) (by have:=(hsC d hd).1;omega) h
  rw[<-(hsC c hc).2.1,<-(hsC d hd).2.1,this]
 have main:yc (yd es false) (yd es false (pos es b k)) (wi es b) []=some (oc es b k):=by
  rw[hR k hk]
  have hclt:=hlt k hk
  by_cases hc0:oc es b k=0
  .rw[hc0]
   have hd:=xb (b:=b) hn
   rw[List.drop_zero]at hd
   rw[hd,yc,if_pos (by rw[hR 0 hn];rfl)]
   rfl
  .have hs:=hsC _ hclt
   have:=XC (es:=es) (b:=b) (N:=cnt es) (oc es b) rfl ZL (yd es false) ρ hR hinj (c:=oc es b k) (s:=sC (oc es b k)) (by omega) hclt (by omega) hs.2.1 hs.2.2 (sC (oc es b k)) 0 (by omega)
   simpa using this
 unfold kY
 rw[main];rfl
theorem stt_t {N:Nat}:∀{k:Nat},k<=es.length->(stt es b N k).t=oc es b k
 | 0,_=>rfl
 | k+1,h=>by
  rw[yN (by omega)]
  show (if qv es (pos es b k) then _ else _)=oc es b k+_
  rw[stt_t (by omega)];split<;>rfl
theorem Yw {N k:Nat}:(stt es b N k).th.length=es.length:=by
 have key:∀(l:List Nat) (s:LS),(l.foldl (kg es N) s).th.length=s.th.length:=by
  intro l
  induction l with
  | nil=>intro s;rfl
  | cons i l ih=>intro s;rw[List.foldl_cons,ih];simp[kg]
 unfold stt;rw[key];simp[jh]
theorem qcv (hb:b<es.length){N:Nat}:∀{k:Nat},k<=es.length->∀j,j<k->(stt es b N k).th[pos es b j]?=some (oc es b j)
 | 0,_,j,h=>by omega
 | k+1,hk,j,hj=>by
  rw[yN (by omega)]
  show ((stt es b N k).th.set (pos es b k) ((stt es b N k).t))[pos es b j]?=_
  by_cases e:j=k
  .subst e
   rw[qh7 (by rw[Yw];exact Yp (by omega) _),stt_t (by omega)]
  .rw[qhb (λh=>e (QF hb (by omega) (by omega) h).symm)]
   exact qcv hb (by omega) j (by omega)
theorem XK {N:Nat}:stt es b N es.length=xk es N (wi es b):=by
 unfold stt xk;rw[List.take_of_length_le (by rw[yH];omega)]
theorem dJ (hb:b<es.length){i:Nat}(hi:i<es.length):∃k,k<es.length/\pos es b k=i:=by
 have:=Xh (es:=es) (b:=b) hi
 unfold wi at this
 obtain⟨k,hk,e⟩:=List.mem_map.1 this
 exact⟨k,by simpa using hk,e⟩
theorem qcw (hb:b<es.length)(hlast:qv es (pos es b (es.length-1))=true)(hN:0<es.length-cnt es):∀{k:Nat},k<=es.length->(stt es b (es.length-cnt es) k).wr.length=es.length-cnt es/\∀x,x<es.length-cnt es ->
  (stt es b (es.length-cnt es) k).wr.getD x 0=((wi es b).take k).countP λi=>qu es i&&decide (kY es b true i=x)
 | 0,_=>by
  refine⟨by simp[stt,jh],λx hx=>?_⟩
  simp only[stt,List.take_zero,List.foldl_nil,jh,List.countP_nil]
  rw[List.getD_eq_getElem?_getD,List.getElem?_replicate];split<;>rfl
 | k+1,hk=>by
  obtain⟨h1,h2⟩:=qcw hb hlast hN (k:=k) (by omega)
  obtain⟨h,e⟩:=qgp.1 (yG (es:=es) (b:=b) (show k<es.length by omega))
  rw[yN (by omega),List.take_succ_eq_append_getElem h,e]
  have hc:(stt es b (es.length-cnt es) k).c%(es.length-cnt es)=kY es b true (pos es b k):=by rw[qct (by omega),yR hb hlast hN (by omega)]
  have hclt:kY es b true (pos es b k)<es.length-cnt es:=by rw[<-hc];exact Nat.mod_lt _ hN
  refine⟨?_,λx hx=>?_⟩
  .show (if qu es (pos es b k) then _ else _:List Nat).length=_
   split
   .rw[List.length_set];exact h1
   .exact h1
  .rw[List.countP_append,<-h2 x hx]
   show (if qu es (pos es b k) then (stt es b (es.length-cnt es) k).wr.set ((stt es b (es.length-cnt es) k).c%(es.length-cnt es)) ((stt es b (es.length-cnt es) k).wr.getD ((stt es b (es.length-cnt es) k).c%(es.length-cnt es)) 0+1) else (stt es b (es.length-cnt es) k).wr:List Nat).getD x 0=_
   rw[hc]
   cases hf:qu es (pos es b k) with
   | false=>simp[hf]
   | true =>
    simp only[if_true]
    by_cases ex:kY es b true (pos es b k)=x
    .subst ex
     rw[List.getD_eq_getElem?_getD,qh7 (by omega)]
     simp[hf]
    .rw[List.getD_eq_getElem?_getD,qhb ex,<-List.getD_eq_getElem?_getD]
     simp[hf,ex]
end
end Go.Sx
namespace Go.Sx
open Go.Dx Go.Proofs
theorem Qt (len i:Nat):∀k,back len (k+1) i=back len k (ahN len i)
 | 0=>rfl
 | k+1=>by show ahN len (back len (k+1) i)=ahN len (back len k (ahN len i));rw[Qt len i k]
theorem Qs {len x:Nat}(h:x<len):ahN len ((x+1)%len)=x:=by
 unfold ahN
 by_cases e:x+1=len
 .rw[e,Nat.mod_self,if_pos rfl];omega
 .rw[Nat.mod_eq_of_lt (by omega),if_neg (by omega)];rfl
theorem qdn (es:List (Int × Int))(i d:Nat):bw es i (d+1)=bw es (ahN es.length i) d+if qu es (ahN es.length i) then 1 else 0:=by
 unfold bw
 rw[List.range_succ_eq_map,List.countP_cons,List.countP_map]
 have e:(List.range d).countP ((λt=>qu es (back es.length (t+1) i)) ∘ Nat.succ)=(List.range d).countP λt=>qu es (back es.length (t+1) (ahN es.length i)):=by
  refine List.countP_congr λt _=>?_
  show qu es (back es.length (t+1+1) i)=true ↔ _
  rw[Qt]
 rw[e];rfl
theorem BA {es:List (Int × Int)}{i d:Nat}(h:Stop es (ahN es.length i) d)(ho:qv es (ahN es.length i)=true)(hd:d+1<=1000):Stop es i (d+1):=by
 refine⟨λj hj=>?_,?_,hd⟩
 .cases j with
  | zero=>exact ho
  | succ j=>rw[Qt];exact h.out j (by omega)
 .rw[Qt];exact h.inn
theorem KX {es:List (Int × Int)}{i d d':Nat}(h:Stop es i d)(h':Stop es i d'):d=d':=by
 rcases Nat.lt_trichotomy d d' with g | g | g
 .have:=h'.out d g;rw[h.inn]at this;cases this
 .exact g
 .have:=h.out d' g;rw[h'.inn]at this;cases this
section
variable {es:List (Int × Int)}{ce:List Nat}{b c:Nat}{l:List Nat}
theorem ko (h:kU es ce b c l):∀(j i:Nat),l[j]?=some i->i<es.length/\Stop es i j/\bw es i j=(l.take j).countP (qu es)
 | 0,i,hi=>by
  obtain⟨k0,h1,h2,h3,h4,h5⟩:=h.ex
  rw[h5]at hi
  cases hi
  exact⟨Nat.mod_lt _ (by omega),⟨λj hj=>by omega,h3,by omega⟩,rfl⟩
 | j+1,i,hi=>by
  have hjl:j+1<l.length:=(qgp.1 hi).1
  obtain⟨x,hx⟩:∃x,l[j]?=some x:=⟨_,qgn (by omega)⟩
  obtain⟨h1,h2,h3⟩:=ko h j x hx
  obtain⟨g1,g2⟩:=h.ch.next j x i hx hi
  have ha:ahN es.length i=x:=by rw[g1];exact Qs h1
  have hl:=h.len
  refine⟨h.ch.lt i (qgo hi),BA (by rw[ha];exact h2) (by rw[ha];exact g2) (by omega),?_⟩
  rw[qdn,ha,h3]
  obtain⟨hh,e⟩:=qgp.1 hx
  rw[List.take_succ_eq_append_getElem hh,List.countP_append,e];simp
structure OKv (es:List (Int × Int))(V:Nat->Nat)(va:List Nat)(done:Nat->Prop):Prop where
 len:va.length=es.length
 all:∀i,i<es.length->va[i]?=some 0\/va[i]?=some (xX es V i)
 don:∀i,i<es.length->done i->va[i]?=some (xX es V i)
theorem OKv.set {V:Nat->Nat}{va:List Nat}{done:Nat->Prop}(h:OKv es V va done){x v:Nat}(hx:x<es.length)(hv:v=xX es V x):OKv es V (va.set x v) (λi=>done i\/i=x):=by
 refine⟨by rw[List.length_set];exact h.len,λi hi=>?_,λi hi hd=>?_⟩
 .by_cases e:i=x
  .subst e;rw[qh7 (by rw[h.len];exact hi),hv];exact .inr rfl
  .rw[qhb (λh=>e h.symm)];exact h.all i hi
 .by_cases e:i=x
  .subst e;rw[qh7 (by rw[h.len];exact hi),hv]
  .rw[qhb (λh=>e h.symm)]
   exact h.don i hi (hd.resolve_right e)
theorem QX {V:Nat->Nat}(hV:∀i d,i<es.length->Stop es i d->V i=1+bw es i d)(h:kU es ce b c l):∀(rest pre:List Nat) (va:List Nat) (done:Nat->Prop),l=pre++rest->OKv es V va done->(∀x,x∈pre->done x) ->
  OKv es V (rest.foldl (wy es) (va,pre.countP (qu es))).1 (λi=>done i\/i∈rest)
 | [],pre,va,done,hl,ho,hd=>⟨ho.len,ho.all,λi hi hd=>ho.don i hi (hd.resolve_right (by simp))⟩
 | x::rest,pre,va,done,hl,ho,hd=>by
  have hx:l[pre.length]?=some x:=by rw[hl,qh3 (qgq _),Nat.sub_self];rfl
  obtain⟨hxl,hst,hbw⟩:=ko h _ _ hx
  have htake:l.take pre.length=pre:=by rw[hl];simp
  rw[htake]at hbw
  rw[List.foldl_cons]
  have hl':l=(pre++[x])++rest:=by rw[hl];simp
  have step:∀va' last',wy es (va,pre.countP (qu es)) x=(va',last')->last'=(pre++[x]).countP (qu es)->OKv es V va' (λi=>done i\/i=x)->OKv es V (rest.foldl (wy es) (wy es (va,pre.countP (qu es)) x)).1 (λi=>done i\/i∈x::rest):=by
   intro va' last' e1 e2 ho'
   rw[e1,e2]
   have:=QX hV h rest (pre++[x]) va' _ hl' ho' (λy hy=>by
    rcases qhc.1 hy with hy | hy
    .exact .inl (hd y hy)
    .exact .inr (qgu.1 hy))
   exact⟨this.len,this.all,λi hi hd=>this.don i hi (by
    rcases hd with hd | hd
    .exact .inl (.inl hd)
    .rcases List.mem_cons.1 hd with rfl | hd
     .exact .inl (.inr rfl)
     .exact .inr hd)⟩
  have hVx:=hV x _ hxl hst
  rw[hbw]at hVx
  cases hf:qu es x with
  | true =>
   refine step _ _ (by unfold wy;rw[if_pos hf]) (by rw[List.countP_append];simp[hf]) (ho.set hxl ?_)
   unfold xX;rw[if_pos hf,hVx];omega
  | false =>
   by_cases hk:(eAt es (ahN es.length x)).1=1
   .have hout:qv es (ahN es.length x)=true:=by unfold qv jK;rw[hk];rfl
    obtain⟨j',hj'⟩:∃j',pre.length=j'+1:=by
     cases hp:pre.length with
     | zero=>rw[hp]at hst;have:=hst.inn;rw[show back es.length 0 x=x from rfl,hout]at this;cases this
     | succ j=>exact⟨j,rfl⟩
    obtain⟨y,hy⟩:∃y,l[j']?=some y:=⟨_,qgn (by have:=(qgp.1 hx).1;omega)⟩
    rw[hj']at hx
    obtain⟨hyl,-,-⟩:=ko h _ _ hy
    obtain⟨g1,g2⟩:=h.ch.next j' y x hy hx
    have ha:ahN es.length x=y:=by rw[g1];exact Qs hyl
    have hyp:y∈pre:=by
     have:pre[j']?=some y:=by rw[hl,qh2 (by omega)]at hy;exact hy
     exact qgo this
    have hfy:qu es y=true:=by unfold qu;rw[<-ha,hk];rfl
    have hvy:=ho.don y hyl (hd y hyp)
    have hgy:va.getD y 0=V y:=by rw[List.getD_eq_getElem?_getD,hvy];unfold xX;rw[if_pos hfy];rfl
    refine step _ _ (by unfold wy;rw[if_neg (by simp[hf]),if_pos hk]) (by rw[List.countP_append];simp[hf]) (ho.set hxl ?_)
    show va.getD (ahN es.length x) 0=_
    unfold xX;rw[if_neg (by simp[hf]),if_pos hk,ha,hgy]
   .refine step _ _ (by unfold wy;rw[if_neg (by simp[hf]),if_neg hk]) (by rw[List.countP_append];simp[hf]) ⟨ho.len,ho.all,λi hi hd'=>?_⟩
    rcases hd' with hd' | rfl
    .exact ho.don i hi hd'
    .have hz:xX es V i=0:=by unfold xX;rw[if_neg (by simp[hf]),if_neg hk]
     have:=ho.all i hi
     rw[hz]at this ⊢
     exact this.elim id id
theorem Gc {V:Nat->Nat}(hV:∀i d,i<es.length->Stop es i d->V i=1+bw es i d){ch:Nat->List Nat}{N:Nat}(hch:∀c,c<N->kU es ce b c (ch c)):∀c,c<=N->OKv es V (jm es ch (List.replicate es.length 0) c) (λi=>∃c',c'<c/\i∈ch c')
 | 0,_=>⟨by simp[jm],λi hi=>.inl (by simp[jm,hi]),λi hi ⟨c',h,_⟩=>by omega⟩
 | c+1,hc=>by
  have ih:=Gc hV hch c (by omega)
  rw[gu]
  have:=QX hV (hch c (by omega)) (ch c) [] _ _ (by simp) ih (λx hx=>by simp at hx)
  refine⟨this.len,this.all,λi hi ⟨c',h1,h2⟩=>this.don i hi ?_⟩
  rcases Nat.lt_succ_iff_lt_or_eq.1 h1 with h | rfl
  .exact .inl ⟨c',h,h2⟩
  .exact .inr h2
end
theorem xz {es:List (Int × Int)}{b:Nat}{ch:Nat->List Nat}(hb:b<es.length)(hlast:qv es (pos es b (es.length-1))=true)(hN:0<es.length-cnt es)
  (hch:∀c,c<es.length-cnt es->kU es (xk es (es.length-cnt es) (wi es b)).ce b c (ch c)) {i:Nat} (hi:i<es.length):∃c,c<es.length-cnt es/\i∈ch c:=by
 obtain⟨k,hk,rfl⟩:=dJ hb hi
 obtain⟨N,hNe⟩:=qhd (es.length-cnt es)
 rw[<-hNe]at hN hch ⊢
 have hn:0<es.length:=by omega
 have hall:ic es b es.length=N:=by rw[dq hb,hNe]
 have hc:ic es b k%N<N:=Nat.mod_lt _ hN
 refine⟨_,hc,?_⟩
 have hC:=hch _ hc
 obtain⟨k0,h1,h2,h3,h4,h5⟩:=hC.ex
 have hce:=gU (es:=es) (b:=b) hb (N:=N) (j:=k0) h1
 have hce':ic es b k0%N=ic es b k%N:=by
  have:(xk es N (wi es b)).ce[pos es b k0]?=some (ic es b k%N):=h2
  rw[hce]at this;exact Option.some.inj this
 have hah:∀k,0<k->ahN es.length (pos es b k)=pos es b (k-1):=λk h=>by
  have:=bP (es:=es) (b:=b) hn (k-1);rwa [show k-1+1=k by omega]at this
 have hk0:0<k0:=by
  rcases Nat.eq_zero_or_pos k0 with h | h
  .subst h
   have:=bP (es:=es) (b:=b) hn (es.length-1)
   rw[show es.length-1+1=0+es.length by omega,jc]at this
   have h3':qv es (ahN es.length (pos es b 0))=false:=h3
   rw[this,hlast]at h3';cases h3'
  .exact h
 have hj0:qv es (pos es b (k0-1))=false:=by
  have h3':qv es (ahN es.length (pos es b k0))=false:=h3
  rwa [hah k0 hk0]at h3'
 have hic0:ic es b k0=ic es b (k0-1)+1:=by
  have e:ic es b (k0-1+1)=ic es b (k0-1)+if qv es (pos es b (k0-1)) then 0 else 1:=rfl
  rw[hj0,show k0-1+1=k0 by omega]at e;simpa using e
 have along:∀d,(∀j,j<d->qv es (pos es b (k0+j))=true)->(ch (ic es b k%N))[d]?=some (pos es b (k0+d)):=by
  intro d
  induction d with
  | zero=>intro _;exact h5
  | succ d ih =>
   intro ho
   have hd:=ih λj hj=>ho j (by omega)
   have hod:=ho d (by omega)
   have hdl:=(qgp.1 hd).1
   have hlt:d+1<(ch (ic es b k%N)).length:=by
    rcases Nat.lt_or_ge (d+1) (ch (ic es b k%N)).length with h | h
    .exact h
    .have e:(ch (ic es b k%N)).length-1=d:=by omega
     have:=hC.ch.last (pos es b (k0+d)) (by rw[e];exact hd)
     rw[hod]at this;cases this
   obtain⟨y,hy⟩:∃y,(ch (ic es b k%N))[d+1]?=some y:=⟨_,qgn hlt⟩
   have:=(hC.ch.next d _ y hd hy).1
   rw[hy,this]
   show some (((b+(k0+d))%es.length+1)%es.length)=some ((b+(k0+(d+1)))%es.length)
   rw[Nat.mod_add_mod];rfl
 have hic0N:ic es b k0<=N:=by have:=xD (es:=es) (b:=b) (show k0<=es.length by omega);omega
 have hickN:ic es b k<=N:=by have:=xD (es:=es) (b:=b) (show k<=es.length by omega);omega
 by_cases hz:ic es b k=0
 .-- around the end
  have e0:ic es b k0=N:=by
   rw[hz,Nat.zero_mod]at hce'
   rcases Nat.lt_or_ge (ic es b k0) N with h | h
   .rw[Nat.mod_eq_of_lt h]at hce';omega
   .omega
  have:=along (es.length-k0+k) λj hj=>by
   by_cases hjn:k0+j<es.length
   .exact vJ (es:=es) (b:=b) (i:=k0) (j:=k0+j) (k:=es.length) (by rw[e0,hall]) (by omega) hjn
   .rw[show k0+j=(k0+j-es.length)+es.length by omega,jc]
    exact vJ (es:=es) (b:=b) (i:=0) (j:=k0+j-es.length) (k:=k) (by rw[hz];rfl) (by omega) (by omega)
  rw[show k0+(es.length-k0+k)=k+es.length by omega,jc]at this
  exact qgo this
 .have e0:ic es b k0=ic es b k:=by
   rcases Nat.lt_or_ge (ic es b k0) N with h | h
   .rcases Nat.lt_or_ge (ic es b k) N with h' | h'
    .rwa [Nat.mod_eq_of_lt h,Nat.mod_eq_of_lt h']at hce'
    .have:ic es b k=N:=by omega
     rw[this,Nat.mod_self,Nat.mod_eq_of_lt h]at hce';omega
   .have e1:ic es b k0=N:=by omega
    rcases Nat.lt_or_ge (ic es b k) N with h' | h'
    .rw[e1,Nat.mod_self,Nat.mod_eq_of_lt h']at hce';omega
    .omega
  have hle:k0<=k:=by
   rcases Nat.lt_or_ge k k0 with h | h
   .have:=xD (es:=es) (b:=b) (show k<=k0-1 by omega);omega
   .exact h
  have:=along (k-k0) λj hj=>vJ (es:=es) (b:=b) (i:=k0) (j:=k0+j) (k:=k) e0 (by omega) (by omega)
  rw[show k0+(k-k0)=k by omega]at this
  exact qgo this
noncomputable def fD (es:List (Int × Int)) (i:Nat):Nat:=open Classical in if h:i<es.length/\∃d,Stop es i d then 1+bw es i h.2.choose else 0
theorem fw {es:List (Int × Int)}{i d:Nat}(hi:i<es.length)(h:Stop es i d):fD es i=1+bw es i d:=by
 unfold fD
 have hx:i<es.length/\∃d,Stop es i d:=⟨hi,d,h⟩
 rw[dif_pos hx,KX hx.2.choose_spec h]
theorem Gb (es:List (Int × Int))(i:Nat):fD es i<=1001:=by
 unfold fD
 split
 .rename_i h
  have:=bw_le es i h.2.choose
  have:=h.2.choose_spec.le
  omega
 .omega
theorem Zx (es:List (Int × Int))(ms:List Int)(ch:Nat->List Nat)(h0:(zj es ms).2=0)(hch:∀c,c<es.length-cnt es->kU es (xk es (es.length-cnt es) (wi es (wM es))).ce (wM es) c (ch c)) :
  (∀i,i<es.length->∃d,Stop es i d/\fD es i=1+bw es i d)/\BV es (jm es ch (List.replicate es.length 0) (es.length-cnt es)) (kY es (wM es) false) (kY es (wM es) true) (xX es (fD es)) (wrR es (wM es)):=by
 have hp:(wn es ms).2=0/\¬(cnt es<2\/es.length-cnt es<1):=by
  unfold zj at h0
  by_cases h1:(wn es ms).2≠0
  .rw[if_pos h1]at h0;exact absurd h0 h1
  .rw[if_neg h1]at h0
   refine⟨by omega,λh2=>?_⟩
   rw[if_pos h2]at h0;simp at h0
 obtain⟨hb,hlast⟩:=gz (es:=es) (by omega)
 have hl16:=(jr hp.1).1
 have hN:0<es.length-cnt es:=by omega
 obtain⟨b,hbe⟩:=qhd (wM es)
 rw[<-hbe]at hb hlast hch ⊢
 have hV:∀i d,i<es.length->Stop es i d->fD es i=1+bw es i d:=λi d hi h=>fw hi h
 have hstop:∀i,i<es.length->∃d,Stop es i d:=λi hi=>by
  obtain⟨c,hc,hm⟩:=xz hb hlast hN hch hi
  obtain⟨j,hj,e⟩:=List.getElem_of_mem hm
  exact⟨j,(ko (hch c hc) j i (by rw[qgn hj,e])).2.1⟩
 have hvals:=Gc hV hch (es.length-cnt es) (qgq _)
 have hvr:∀i,xX es (fD es) i<1000000:=λi=>by
  unfold xX
  have h1:=Gb es i
  have h2:=Gb es (ahN es.length i)
  split
  .omega
  .split<;>omega
 refine⟨λi hi=>?_,?_,?_,?_,?_,?_,hvr,?_⟩
 .obtain⟨d,hd⟩:=hstop i hi
  exact⟨d,hd,hV i d hi hd⟩
 .intro i hi
  rw[<-hbe]
  obtain⟨k,hk,rfl⟩:=dJ hb hi
  rw[<-XK,qcv hb (qgq _) k hk,(fq hb hlast hk).1]
 .intro i hi
  obtain⟨k,hk,rfl⟩:=dJ hb hi
  have:=fq hb hlast hk
  omega
 .intro i hi
  rw[<-hbe]
  obtain⟨k,hk,rfl⟩:=dJ hb hi
  rw[gU hb hk,yR hb hlast hN hk]
 .exact λi hi=>hvals.don i hi (xz hb hlast hN hch hi)
 .intro x hx
  rw[<-hbe,<-XK]
  obtain⟨h1,h2⟩:=qcw hb hlast hN (qgq es.length)
  have:=h2 x hx
  rw[List.getD_eq_getElem?_getD,qgn (by omega)]at this
  rw[qgn (by omega)]
  simp only[Option.getD_some]at this
  rw[this,List.take_of_length_le (by rw[yH];omega)]
  unfold wrR
  rw[(yW hb).countP_eq]
 .intro x
  unfold wrR
  have:=List.countP_le_length (p:=λi=>qu es i&&decide (kY es b true i=x)) (l:=List.range es.length)
  rw[List.length_range]at this
  omega
end Go.Sx
namespace Go.Sx
open Go.Dx Go.Proofs
structure GL (es:List (Int × Int))(N:Nat)(l:List Nat)(CE VA WR:Nat->Nat):Prop where
 nd:l.Nodup
 ce:∀i∈l,CE i<N
 pos:∀i∈l,qu es i=true->1<=VA i/\VA i<=WR (CE i)
 inj:∀i∈l,∀j∈l,qu es i=true->qu es j=true->CE i=CE j->VA i=VA j->i=j
 rd:∀i∈l,qu es i=false->VA i=0\/∃j∈l,qu es j=true/\CE j=CE i/\VA j=VA i
 full:∀c v,c<N->1<=v->v<=WR c->∃i∈l,qu es i=true/\CE i=c/\VA i=v
 wr2:∀c,c<N->WR c<=2
section
variable {es:List (Int × Int)}{b:Nat}
theorem Yl (hb:b<es.length):(wi es b).Nodup:=(yW hb).symm.nodup List.nodup_range
theorem vO (hb:b<es.length){i:Nat}:i∈wi es b ↔ i<es.length:=by rw[(yW hb).mem_iff];simp
theorem JG (hb:b<es.length)(hlast:qv es (pos es b (es.length-1))=true)(hN:0<es.length-cnt es){i:Nat}(hi:i<es.length)(ho:qv es i=true):kY es b true ((i+1)%es.length)=kY es b true i:=by
 obtain⟨k,hk,rfl⟩:=dJ hb hi
 have hn:0<es.length:=by omega
 have hnext:(pos es b k+1)%es.length=pos es b (k+1):=by unfold pos;rw[Nat.mod_add_mod];rfl
 rw[hnext,yR hb hlast hN hk]
 have e:ic es b (k+1)=ic es b k+if qv es (pos es b k) then 0 else 1:=rfl
 rw[ho]at e
 simp at e
 by_cases hk1:k+1<es.length
 .rw[yR hb hlast hN hk1,e]
 .have hkn:k+1=es.length:=by omega
  have h0:pos es b (k+1)=pos es b 0:=by rw[hkn];have:=jc (es:=es) (b:=b) 0;rwa [Nat.zero_add]at this
  rw[h0,yR hb hlast hN hn,<-e,hkn,dq hb,Nat.mod_self]
  rfl
theorem xg (hb:b<es.length)(hlast:qv es (pos es b (es.length-1))=true)(hN:0<es.length-cnt es){c:Nat}{l:List Nat}(h:kU es (xk es (es.length-cnt es) (wi es b)).ce b c l):∀(j i:Nat),l[j]?=some i->kY es b true i=c
 | 0,i,hi=>by
  obtain⟨k0,h1,h2,h3,h4,h5⟩:=h.ex
  rw[h5]at hi
  cases hi
  have h2':(xk es (es.length-cnt es) (wi es b)).ce[pos es b k0]?=some c:=h2
  rw[gU hb h1]at h2'
  show kY es b true (pos es b k0)=c
  rw[yR hb hlast hN h1]
  exact Option.some.inj h2'
 | j+1,i,hi=>by
  obtain⟨x,hx⟩:∃x,l[j]?=some x:=⟨_,qgn (by have:=(qgp.1 hi).1;omega)⟩
  obtain⟨g1,g2⟩:=h.ch.next j x i hx hi
  rw[g1,JG hb hlast hN (h.ch.lt x (qgo hx)) g2]
  exact xg hb hlast hN h j x hx
theorem JH {ce:List Nat}{c:Nat}{l:List Nat}(h:kU es ce b c l):l.Nodup:=by
 unfold List.Nodup
 rw[List.pairwise_iff_getElem]
 intro i j hi hj hij he
 obtain⟨x,hx⟩:∃x,l[j]?=some x:=⟨_,qgn hj⟩
 have hx':l[i]?=some x:=by rw[qgn hi,he,<-qgn hj,hx]
 obtain⟨_,s1,_⟩:=ko h _ _ hx'
 obtain⟨_,s2,_⟩:=ko h _ _ hx
 have:=KX s1 s2;omega
theorem fO {p:Nat->Bool}:∀{l:List Nat} {i j x:Nat},l[i]?=some x->i<j->p x=true->(l.take i).countP p+1<=(l.take j).countP p:=by
 intro l i j x hx hij hp
 obtain⟨h,e⟩:=qgp.1 hx
 have h1:(l.take (i+1)).countP p=(l.take i).countP p+1:=by
  rw[List.take_succ_eq_append_getElem h,List.countP_append,e];simp[hp]
 have h2:(l.take (i+1)).countP p<=(l.take j).countP p:=by
  have:l.take (i+1)=(l.take j).take (i+1):=by rw[List.take_take,Nat.min_eq_left (by omega)]
  rw[this]
  exact (List.take_sublist _ _).countP_le
 omega
theorem yq {p:Nat->Bool}:∀{l:List Nat} {v:Nat},v<l.countP p->∃i x,l[i]?=some x/\p x=true/\(l.take i).countP p=v
 | [],v,h=>by simp at h
 | a::l,v,h=>by
  cases hp:p a with
  | true =>
   cases v with
   | zero=>exact⟨0,a,rfl,hp,rfl⟩
   | succ v =>
    rw[List.countP_cons,hp]at h
    simp at h
    obtain⟨i,x,h1,h2,h3⟩:=yq (l:=l) (v:=v) h
    exact⟨i+1,x,h1,h2,by rw[List.take_succ_cons,List.countP_cons,hp,h3];rfl⟩
  | false =>
   rw[List.countP_cons,hp]at h
   simp at h
   obtain⟨i,x,h1,h2,h3⟩:=yq (l:=l) (v:=v) h
   exact⟨i+1,x,h1,h2,by rw[List.take_succ_cons,List.countP_cons,hp,h3];rfl⟩
theorem Fb {es:List (Int × Int)}{N:Nat}(hN:0<N):∀(l:List Nat) (s:LS),s.wr.length=N->(∀x,x<N->s.wr.getD x 0<=2)->dw es N l s=none->∀x,x<N->(l.foldl (kg es N) s).wr.getD x 0<=2
 | [],s,_,h,_=>h
 | i::l,s,hl,h,he=>by
  rw[dw]at he
  by_cases hc:qu es i=true/\2<s.wr.getD (s.c%N) 0+1
  .rw[if_pos hc]at he;cases he
  .rw[if_neg hc]at he
   rw[List.foldl_cons]
   have hcN:s.c%N<N:=Nat.mod_lt _ hN
   refine Fb hN l _ ?_ (λx hx=>?_) he
   .unfold kg;simp only;split
    .rw[List.length_set];exact hl
    .exact hl
   .unfold kg;simp only
    by_cases hf:qu es i=true
    .rw[if_pos hf]
     have h2:¬2<s.wr.getD (s.c%N) 0+1:=λh'=>hc ⟨hf,h'⟩
     by_cases e:s.c%N=x
     .rw[e,List.getD_eq_getElem?_getD,qh7 (by omega)]
      rw[e]at h2
      simp only[Option.getD_some];omega
     .rw[List.getD_eq_getElem?_getD,qhb e,<-List.getD_eq_getElem?_getD];exact h x hx
    .rw[if_neg hf];exact h x hx
end
theorem gl_law (es:List (Int × Int))(ms:List Int)(ch:Nat->List Nat)(h0:(zj es ms).2=0)(hch:∀c,c<es.length-cnt es->kU es (xk es (es.length-cnt es) (wi es (wM es))).ce (wM es) c (ch c)) :
  wM es<es.length/\qv es (pos es (wM es) (es.length-1))=true/\GL es (es.length-cnt es) (wi es (wM es)) (kY es (wM es) true) (xX es (fD es)) (wrR es (wM es)):=by
 have hp:(wn es ms).2=0/\¬(cnt es<2\/es.length-cnt es<1)/\dw es (es.length-cnt es) (wi es (wM es)) (jh es.length (es.length-cnt es))=none:=by
  unfold zj at h0
  by_cases h1:(wn es ms).2≠0
  .rw[if_pos h1]at h0;exact absurd h0 h1
  .rw[if_neg h1]at h0
   by_cases h2:cnt es<2\/es.length-cnt es<1
   .rw[if_pos h2]at h0;simp at h0
   .rw[if_neg h2]at h0
    refine⟨by omega,h2,?_⟩
    cases hl:dw es (es.length-cnt es) (wi es (wM es)) (jh es.length (es.length-cnt es)) with
    | none=>rfl
    | some i=>rw[hl]at h0;simp at h0
 obtain⟨hb,hlast⟩:=gz (es:=es) (by omega)
 have hN:0<es.length-cnt es:=by omega
 refine⟨hb,hlast,?_⟩
 have hLaw:=(Zx es ms ch h0 hch).2
 obtain⟨hlay⟩:Nonempty (dw es (es.length-cnt es) (wi es (wM es)) (jh es.length (es.length-cnt es))=none):=⟨hp.2.2⟩
 obtain⟨b,hbe⟩:=qhd (wM es)
 rw[<-hbe]at hb hlast hch hLaw hlay ⊢
 obtain⟨N,hNe⟩:=qhd (es.length-cnt es)
 have hmem:∀i,i<es.length->∃c j,c<N/\(ch c)[j]?=some i/\kY es b true i=c/\fD es i=1+((ch c).take j).countP (qu es):=λi hi=>by
  obtain⟨c,hc,hm⟩:=xz hb hlast hN hch hi
  obtain⟨j,hj,e⟩:=List.getElem_of_mem hm
  have hj':(ch c)[j]?=some i:=by rw[qgn hj,e]
  obtain⟨_,s2,s3⟩:=ko (hch c hc) j i hj'
  exact⟨c,j,by omega,hj',xg hb hlast hN (hch c hc) j i hj',by rw[fw hi s2,s3]⟩
 have hmem2:∀c,c<N->∀i,i∈ch c ↔ i<es.length/\kY es b true i=c:=λc hc i=>by
  constructor
  .intro hm
   obtain⟨j,hj,e⟩:=List.getElem_of_mem hm
   have hj':(ch c)[j]?=some i:=by rw[qgn hj,e]
   exact⟨(ko (hch c (by omega)) j i hj').1,xg hb hlast hN (hch c (by omega)) j i hj'⟩
  .rintro ⟨hi,hcell⟩
   obtain⟨c',j,h1,h2,h3,_⟩:=hmem i hi
   rw[hcell]at h3
   rw[h3];exact qgo h2
 have hcount:∀c,c<N->wrR es b c=(ch c).countP (qu es):=λc hc=>by
  unfold wrR
  have hperm:(ch c).Perm ((List.range es.length).filter λi=>decide (kY es b true i=c)):=by
   rw[List.perm_ext_iff_of_nodup (JH (hch c (by omega))) (List.filter_sublist.nodup List.nodup_range)]
   intro i
   rw[hmem2 c hc i,List.mem_filter]
   simp
  rw[hperm.countP_eq,List.countP_filter]
 have hval:∀i,qu es i=true->xX es (fD es) i=fD es i:=λi hf=>by unfold xX;rw[if_pos hf]
 refine⟨Yl hb,λi hi=>?_,λi hi hf=>?_,λi hi j hj hfi hfj hc hv=>?_,λi hi hf=>?_,λc v hc hv1 hv2=>?_,λc hc=>?_⟩
 .obtain⟨c,j,h1,_,h3,_⟩:=hmem i ((vO hb).1 hi)
  omega
 .obtain⟨c,j,h1,h2,h3,h4⟩:=hmem i ((vO hb).1 hi)
  rw[hval i hf,h4,h3,hcount c h1]
  refine⟨by omega,?_⟩
  have hj:=(qgp.1 h2).1
  have:=fO (p:=qu es) h2 hj hf
  rw[List.take_length]at this;omega
 .obtain⟨c,k,h1,h2,h3,h4⟩:=hmem i ((vO hb).1 hi)
  obtain⟨c',k',h1',h2',h3',h4'⟩:=hmem j ((vO hb).1 hj)
  have hcc:c=c':=by rw[<-h3,<-h3',hc]
  subst hcc
  rw[hval i hfi,hval j hfj,h4,h4']at hv
  rcases Nat.lt_trichotomy k k' with g | g | g
  .have:=fO (p:=qu es) h2 g hfi;omega
  .subst g;rw[h2]at h2';exact Option.some.inj h2'
  .have:=fO (p:=qu es) h2' g hfj;omega
 .have hil:=(vO hb).1 hi
  unfold xX
  rw[if_neg (by simp[hf])]
  by_cases hk:(eAt es (ahN es.length i)).1=1
  .rw[if_pos hk]
   have hal:ahN es.length i<es.length:=fL hil
   have hfa:qu es (ahN es.length i)=true:=by unfold qu;rw[hk];rfl
   have hoa:qv es (ahN es.length i)=true:=by unfold qv jK;rw[hk];rfl
   refine .inr ⟨ahN es.length i,(vO hb).2 hal,hfa,?_,by rw[if_pos hfa]⟩
   have hnx:(ahN es.length i+1)%es.length=i:=by
    unfold ahN
    by_cases e:i=0
    .subst e;rw[if_pos rfl];rw[show es.length-1+1=es.length by omega,Nat.mod_self]
    .rw[if_neg e,show i-1+1=i by omega,Nat.mod_eq_of_lt hil]
   have:=JG hb hlast hN hal hoa
   rw[hnx]at this;exact this.symm
  .rw[if_neg hk];exact .inl rfl
 .rw[<-hNe]at hc
  rw[hcount c hc]at hv2
  obtain⟨k,x,h1,h2,h3⟩:=yq (p:=qu es) (l:=ch c) (v:=v-1) (by omega)
  have hx:=(hmem2 c hc x).1 (qgo h1)
  refine⟨x,(vO hb).2 hx.1,h2,hx.2,?_⟩
  obtain⟨_,s2,s3⟩:=ko (hch c (by omega)) k x h1
  rw[hval x h2,fw hx.1 s2,s3,h3];omega
 .have hw:=hLaw.wr c hc
  rw[<-hbe]at hw
  have h2:=Fb hN (wi es b) (jh es.length (es.length-cnt es)) (by simp[jh]) (λx hx=>by simp[jh,List.getD_eq_getElem?_getD,List.getElem?_replicate,hx]) hlay c hc
  have h3:(xk es (es.length-cnt es) (wi es b)).wr.getD c 0<=2:=h2
  rw[List.getD_eq_getElem?_getD,hw]at h3
  exact h3
section
variable {es:List (Int × Int)}{ms:List Int}{TH CE VA:Nat->Nat}
abbrev tsF (es:List (Int × Int))(ms:List Int)(CE VA:Nat->Nat)(s:TS)(i:Nat):TS:=gq es ms CE VA i s
theorem XR (j:Nat):∀(l:List Nat) (S:Nat->TS),l.foldl (zR es ms TH CE VA) S j=(l.filter λi=>decide (TH i=j)).foldl (tsF es ms CE VA) (S j)
 | [],S=>rfl
 | i::l,S=>by
  rw[List.foldl_cons,XR j l,List.filter_cons]
  unfold zR
  by_cases h:TH i=j
  .subst h;simp[wJ]
  .rw[kZ _ _ (Ne.symm h)];simp[h]
end
end Go.Sx
namespace Go.Sx
open Go.Dx Go.Proofs
theorem Xv {es:List (Int × Int)}{ms:List Int}(h:(wn es ms).2=0):∀i,i<es.length->WX es i=false:=by
 intro i hi
 unfold wn at h
 by_cases h1:16<es.length
 .rw[if_pos h1]at h;simp at h
 .rw[if_neg h1]at h
  by_cases h2:ms.length≠es.length
  .rw[if_pos h2]at h;simp at h
  .rw[if_neg h2]at h
   cases hf:first es.length λi=>zx (eAt es i) with
   | some j=>rw[hf]at h;simp at h
   | none =>
    rw[hf]at h
    cases hg:first es.length (WX es) with
    | some j=>simp[hg]at h
    | none =>
     unfold first at hg
     rw[List.find?_eq_none]at hg
     have:=hg i (by simpa using hi)
     simpa using this
def nxt (es:List (Int × Int))(i:Nat):Nat:=(i+1)%es.length
structure Qr (es:List (Int × Int))(l:List Nat)(TH CE VA:Nat->Nat):Prop where
 inn:∀i,i<es.length->qv es i=false->TH (nxt es i)=TH i/\∃p,l[p]?=some i/\l[p+1]?=some (nxt es i)
 out:∀i,i<es.length->qv es i=true->CE (nxt es i)=CE i/\((qu es i=true/\qu es (nxt es i)=false/\VA (nxt es i)=VA i)\/(qu es (nxt es i)=true/\VA (nxt es i)=VA i+1))
theorem qai (es:List (Int × Int))(ms:List Int)(ch:Nat->List Nat)(h0:(zj es ms).2=0)(hch:∀c,c<es.length-cnt es->kU es (xk es (es.length-cnt es) (wi es (wM es))).ce (wM es) c (ch c)) :
  Qr es (wi es (wM es)) (kY es (wM es) false) (kY es (wM es) true) (xX es (fD es)):=by
 have hp:(wn es ms).2=0/\¬(cnt es<2\/es.length-cnt es<1):=by
  unfold zj at h0
  by_cases h1:(wn es ms).2≠0
  .rw[if_pos h1]at h0;exact absurd h0 h1
  .rw[if_neg h1]at h0
   by_cases h2:cnt es<2\/es.length-cnt es<1
   .rw[if_pos h2]at h0;simp at h0
   .exact⟨by omega,h2⟩
 obtain⟨hb,hlast⟩:=gz (es:=es) (by omega)
 have hN:0<es.length-cnt es:=by omega
 have hC:=Xv hp.1
 have hE:=fc hp.1
 obtain⟨b,hbe⟩:=qhd (wM es)
 rw[<-hbe]at hb hlast hch ⊢
 obtain⟨n,hn⟩:=qhd (es.length)
 have hn0:0<es.length:=by omega
 refine⟨λi hi ho=>?_,λi hi ho=>?_⟩
 .obtain⟨k,hk,rfl⟩:=dJ hb hi
  have hk1:k+1<es.length:=by
   rcases Nat.lt_or_ge (k+1) es.length with h | h
   .exact h
   .have:k=es.length-1:=by omega
    rw[this,hlast]at ho;cases ho
  have hnx:nxt es (pos es b k)=pos es b (k+1):=by
   unfold nxt pos
   rw[Nat.mod_add_mod,Nat.add_assoc]
  obtain⟨t1,_⟩:=fq hb hlast hk
  obtain⟨t2,_⟩:=fq hb hlast hk1
  have hoc:oc es b (k+1)=oc es b k:=by
   show oc es b k+_=_
   rw[ho];rfl
  refine⟨by rw[hnx,t1,t2,hoc],k,?_,?_⟩
  .unfold wi;rw[qh4,List.getElem?_range hk];rfl
  .unfold wi;rw[qh4,List.getElem?_range hk1,hnx];rfl
 .obtain⟨c,hc,hm⟩:=xz hb hlast hN hch hi
  have hx:=hch c hc
  obtain⟨j,hj,e⟩:=List.getElem_of_mem hm
  have hj':(ch c)[j]?=some i:=by rw[qgn hj,e]
  have hj1:j+1<(ch c).length:=by
   rcases Nat.lt_or_ge (j+1) (ch c).length with h | h
   .exact h
   .have:j=(ch c).length-1:=by omega
    have:=hx.ch.last i (by rw[<-this];exact hj')
    rw[this]at ho;cases ho
  obtain⟨y,hy⟩:∃y,(ch c)[j+1]?=some y:=⟨_,qgn hj1⟩
  obtain⟨hyn,_⟩:=hx.ch.next j i y hj' hy
  have hyn':nxt es i=y:=hyn.symm
  rw[hyn']
  obtain⟨s1,s2,s3⟩:=ko hx j i hj'
  obtain⟨y1,y2,y3⟩:=ko hx (j+1) y hy
  have hcnt:((ch c).take (j+1)).countP (qu es)=((ch c).take j).countP (qu es)+if qu es i then 1 else 0:=by
   rw[List.take_succ_eq_append_getElem hj,e,List.countP_append]
   simp[List.countP_cons]
  have vi:=fw s1 s2
  have vy:=fw y1 y2
  rw[s3]at vi
  rw[y3,hcnt]at vy
  have hah:ahN es.length y=i:=by rw[<-hyn'];exact Qs hi
  have cy:=hC y y1
  unfold WX at cy
  rw[hah]at cy
  have cy':toI (eAt es i).1=qu es y:=by simpa [qu]using cy
  have ei:=hE i (eAt es i) (by unfold eAt;rw[List.getD_eq_getElem?_getD,qgn hi];rfl)
  have ho':(eAt es i).1<=3:=by unfold qv jK at ho;exact of_decide_eq_true ho
  have hk:1<=(eAt es i).1:=by
   unfold zx at ei
   have:=of_decide_eq_false ei
   omega
  refine⟨by rw[xg hb hlast hN hx j i hj',xg hb hlast hN hx (j+1) y hy],?_⟩
  rcases (by omega:(eAt es i).1=1\/(eAt es i).1=2\/(eAt es i).1=3) with hk | hk | hk
  .have f1:qu es i=true:=by unfold qu;rw[hk];rfl
   have f2:qu es y=false:=by rw[<-cy',hk];rfl
   refine .inl ⟨f1,f2,?_⟩
   unfold xX
   rw[if_neg (by rw[f2];simp),hah,if_pos hk,if_pos f1]
  .have f1:qu es i=false:=by unfold qu;rw[hk];rfl
   have f2:qu es y=true:=by rw[<-cy',hk];rfl
   refine .inr ⟨f2,?_⟩
   unfold xX
   rw[if_pos f2,if_neg (by rw[f1];simp),vy,f1]
   have goal:(if (eAt es (ahN es.length i)).1=1 then fD es (ahN es.length i) else 0)=((ch c).take j).countP (qu es):=by
    cases j with
    | zero =>
     obtain⟨k0,q1,q2,q3,q4,q5⟩:=hx.ex
     rw[q5]at hj'
     have hik:(b+k0)%es.length=i:=Option.some.inj hj'
     rw[hik]at q3
     have hne:¬(eAt es (ahN es.length i)).1=1:=λh1=>by
      unfold qv jK at q3
      have:=of_decide_eq_false q3
      omega
     rw[if_neg hne];rfl
    | succ j =>
     obtain⟨x,hxx⟩:∃x,(ch c)[j]?=some x:=⟨_,qgn (by omega)⟩
     obtain⟨hin,hox⟩:=hx.ch.next j x i hxx hj'
     obtain⟨x1,x2,x3⟩:=ko hx j x hxx
     have hahx:ahN es.length i=x:=by rw[hin];exact Qs x1
     have ci:=hC i hi
     unfold WX at ci
     rw[hahx]at ci
     have ci':toI (eAt es x).1=qu es i:=by simpa [qu]using ci
     have ex:=hE x (eAt es x) (by unfold eAt;rw[List.getD_eq_getElem?_getD,qgn x1];rfl)
     have hox':(eAt es x).1<=3:=by unfold qv jK at hox;exact of_decide_eq_true hox
     have hx1:1<=(eAt es x).1:=by
      unfold zx at ex
      have:=of_decide_eq_false ex
      omega
     rw[f1]at ci'
     have kx:(eAt es x).1=1:=by
      rcases (by omega:(eAt es x).1=1\/(eAt es x).1=2\/(eAt es x).1=3) with h | h | h
      .exact h
      .rw[h]at ci';cases ci'
      .rw[h]at ci';cases ci'
     have fx:qu es x=true:=by unfold qu;rw[kx];rfl
     have hjl:=(qgp.1 hxx).1
     have hjx:(ch c)[j]=x:=(qgp.1 hxx).2
     rw[hahx,if_pos kx,fw x1 x2,x3,List.take_succ_eq_append_getElem hjl,hjx,List.countP_append]
     simp[List.countP_cons,fx,Nat.add_comm]
   rw[goal];simp[Nat.add_comm]
  .have f1:qu es i=true:=by unfold qu;rw[hk];rfl
   have f2:qu es y=true:=by rw[<-cy',hk];rfl
   refine .inr ⟨f2,?_⟩
   unfold xX
   rw[if_pos f2,if_pos f1,vy,vi,f1]
   simp[Nat.add_assoc]
end Go.Sx
namespace Go.Sx
open Go.Dx Go.Proofs
def vj (es:List (Int × Int))(CE VA:Nat->Nat)(tr:List Nat)(c:Nat):Nat:=tr.foldl (λv i=>if qu es i=true/\CE i=c then VA i else v) 0
theorem Ww (es:List (Int × Int))(CE VA:Nat->Nat)(tr:List Nat)(c i:Nat):vj es CE VA (tr++[i]) c=if qu es i=true/\CE i=c then VA i else vj es CE VA tr c:=by
 unfold vj;rw[List.foldl_append];rfl
theorem YX (es:List (Int × Int))(CE VA:Nat->Nat)(c:Nat):∀(tr:List Nat) (v:Nat),(tr.foldl (λv i=>if qu es i=true/\CE i=c then VA i else v) v=v/\∀i∈tr,¬(qu es i=true/\CE i=c)) \/
  ∃(p:Nat) (w:Nat),tr[p]?=some w/\qu es w=true/\CE w=c/\tr.foldl (λv i=>if qu es i=true/\CE i=c then VA i else v) v=VA w/\∀(q:Nat) (z:Nat),p<q->tr[q]?=some z->¬(qu es z=true/\CE z=c)
 | [],v=>.inl ⟨rfl,λi hi=>by cases hi⟩
 | i::t,v=>by
  rw[List.foldl_cons]
  rcases YX es CE VA c t (if qu es i=true/\CE i=c then VA i else v) with ⟨h1,h2⟩ | ⟨p,w,h1,h2,h3,h4,h5⟩
  .by_cases hi:qu es i=true/\CE i=c
   .refine .inr ⟨0,i,rfl,hi.1,hi.2,by rw[h1,if_pos hi],λq z hq hz=>?_⟩
    obtain⟨q,rfl⟩:∃q',q=q'+1:=⟨q-1,by omega⟩
    exact h2 z (qgo (by simpa using hz))
   .refine .inl ⟨by rw[h1,if_neg hi],λk hk=>?_⟩
    rcases List.mem_cons.1 hk with rfl | hk
    .exact hi
    .exact h2 k hk
  .refine .inr ⟨p+1,w,by simpa using h1,h2,h3,h4,λq z hq hz=>?_⟩
   obtain⟨q,rfl⟩:∃q',q=q'+1:=⟨q-1,by omega⟩
   exact h5 q z (by omega) (by simpa using hz)
theorem ZG {l:List Nat}(h:l.Nodup){p q x:Nat}(hp:l[p]?=some x)(hq:l[q]?=some x):p=q:=by
 obtain⟨hp1,hp2⟩:=qgp.1 hp
 obtain⟨hq1,hq2⟩:=qgp.1 hq
 unfold List.Nodup at h
 rw[List.pairwise_iff_getElem]at h
 rcases Nat.lt_trichotomy p q with g | g | g
 .exact absurd (hp2.trans hq2.symm) (h p q hp1 hq1 g)
 .exact g
 .exact absurd (hq2.trans hp2.symm) (h q p hq1 hp1 g)
theorem sub2 {a b:Nat}:∀{L:List Nat},[a,b].Sublist L->∃p q:Nat,p<q/\L[p]?=some a/\L[q]?=some b
 | _::L,.cons _ h=>by
  obtain⟨p,q,h1,h2,h3⟩:=sub2 h
  exact⟨p+1,q+1,by omega,by simpa using h2,by simpa using h3⟩
 | _::L,.cons_cons _ h=>by
  have hm:b∈L:=h.subset (qgu.2 rfl)
  obtain⟨q,hq⟩:=qh9 hm
  exact⟨0,q+1,by omega,rfl,by simpa using hq⟩
theorem qcx {a b:Nat}:∀{L:List Nat} {p:Nat},L[p]?=some a->L[p+1]?=some b->[a,b].Sublist L
 | [],p,h,_=>by simp at h
 | x::[],0,_,h=>by simp at h
 | x::y::L,0,h,k=>by
  simp at h k
  subst h k
  exact .cons_cons _ (.cons_cons _ (List.nil_sublist _))
 | x::L,p+1,h,k=>.cons _ (qcx (p:=p) (by simpa using h) (by simpa using k))
theorem never {es:List (Int × Int)}{N:Nat}{l:List Nat}{TH CE VA WR:Nat->Nat}(hg:GL es N l CE VA WR)(he:Qr es l TH CE VA)(hl:∀i,i∈l ↔ i<es.length)(h0:0<es.length){tr:List Nat}
  (ht:∀j,tr.filter (λi=>decide (TH i=j))=l.filter λi=>decide (TH i=j)) (hr:∀(p i:Nat),tr[p]?=some i->qu es i=false->vj es CE VA (tr.take p) (CE i)=VA i)
  (hw:∀c,c<N->vj es CE VA tr c=WR c):False:=by
 have hm:∀i,i∈tr ↔ i<es.length:=λi=>by
  have h1:i∈tr.filter (λk=>decide (TH k=TH i)) ↔ i∈l.filter λk=>decide (TH k=TH i):=by rw[ht]
  rw[List.mem_filter,List.mem_filter]at h1
  simpa [hl]using h1
 have hnd:tr.Nodup:=by
  rw[List.nodup_iff_count]
  intro i
  have h1:(tr.filter λk=>decide (TH k=TH i)).count i=(l.filter λk=>decide (TH k=TH i)).count i:=by rw[ht]
  rw[List.count_filter (by simp),List.count_filter (by simp)]at h1
  rw[h1]
  exact List.nodup_iff_count.1 hg.nd i
 have nx:∀i,i<es.length->nxt es i<es.length:=λi hi=>Nat.mod_lt _ h0
 have at_:∀i,i<es.length->∃p:Nat,tr[p]?=some i:=λi hi=>qh9 ((hm i).2 hi)
 have inj:∀i k,i<es.length->k<es.length->qu es i=true->qu es k=true->CE i=CE k->VA i=VA k->i=k:=λi k hi hk fi fk hc hv=>hg.inj i ((hl i).2 hi) k ((hl k).2 hk) fi fk hc hv
 have ltm:∀{p i:Nat},tr[p]?=some i->i<es.length:=λ{p i} h=>(hm i).1 (qgo h)
 have fin2:∀k pk,tr[pk]?=some k->qu es k=true->VA k=2->∀(q z:Nat),pk<q->tr[q]?=some z->¬(qu es z=true/\CE z=CE k):=λk pk hpk fk hv=>by
  have hkl:=ltm hpk
  have hcN:=hg.ce k ((hl k).2 hkl)
  have h1:=hg.pos k ((hl k).2 hkl) fk
  have h2:=hg.wr2 _ hcN
  have h3:=hw _ hcN
  rcases YX es CE VA (CE k) tr 0 with ⟨g1,_⟩ | ⟨p,w,g1,g2,g3,g4,g5⟩
  .have:vj es CE VA tr (CE k)=0:=g1
   omega
  .have g4':vj es CE VA tr (CE k)=VA w:=g4
   have hwk:w=k:=inj w k (ltm g1) hkl g2 fk g3 (by omega)
   subst hwk
   rw[ZG hnd hpk g1]
   exact g5
 have edge:∀i,i<es.length->∃p q:Nat,p<q/\tr[p]?=some i/\tr[q]?=some (nxt es i):=λi hi=>by
  cases ho:qv es i with
  | false =>
   obtain⟨h1,p,h2,h3⟩:=he.inn i hi ho
   have hs:=qcx h2 h3
   have hf:=hs.filter λk=>decide (TH k=TH i)
   have he2:[i,nxt es i].filter (λk=>decide (TH k=TH i))=[i,nxt es i]:=by simp[h1]
   rw[he2,<-ht]at hf
   exact sub2 (hf.trans List.filter_sublist)
  | true =>
   obtain⟨hc,h⟩:=he.out i hi ho
   obtain⟨k,hk⟩:=qhd (nxt es i)
   rw[<-hk]at hc h ⊢
   have hkl:k<es.length:=by rw[hk];exact nx i hi
   obtain⟨pi,hpi⟩:=at_ i hi
   obtain⟨pk,hpk⟩:=at_ k hkl
   rcases h with ⟨fi,fk,hv⟩ | ⟨fk,hv⟩
   .have h1:=hr pk k hpk fk
    have h2:=(hg.pos i ((hl i).2 hi) fi).1
    rcases YX es CE VA (CE k) (tr.take pk) 0 with ⟨g1,_⟩ | ⟨p,w,g1,g2,g3,g4,g5⟩
    .have:vj es CE VA (tr.take pk) (CE k)=0:=g1
     omega
    .have g4':vj es CE VA (tr.take pk) (CE k)=VA w:=g4
     have hp:p<pk:=by
      have:=(qgp.1 g1).1
      rw[List.length_take]at this;omega
     have g1':tr[p]?=some w:=by rw[List.getElem?_take_of_lt hp]at g1;exact g1
     have hwi:w=i:=inj w i (ltm g1') hi g2 fi (by rw[g3,hc]) (by omega)
     subst hwi
     exact⟨p,pk,hp,g1',hpk⟩
   .rcases Nat.lt_trichotomy pi pk with g | g | g
    .exact⟨pi,pk,g,hpi,hpk⟩
    .subst g
     rw[hpi]at hpk
     have:i=k:=Option.some.inj hpk
     rw[this]at hv;omega
    .exfalso
     have hcN:=hg.ce k ((hl k).2 hkl)
     have hpos:=hg.pos k ((hl k).2 hkl) fk
     have hwr:=hg.wr2 _ hcN
     cases fi:qu es i with
     | true =>
      have h2:=(hg.pos i ((hl i).2 hi) fi).1
      exact fin2 k pk hpk fk (by omega) pi i g hpi ⟨fi,hc.symm⟩
     | false =>
      have h1:=hr pi i hpi fi
      rcases YX es CE VA (CE i) (tr.take pi) 0 with ⟨_,g2⟩ | ⟨p,w,g1,g2,g3,g4,g5⟩
      .exact g2 k (qgo (i:=pk) (by rw[List.getElem?_take_of_lt g];exact hpk)) ⟨fk,hc⟩
      .have g4':vj es CE VA (tr.take pi) (CE i)=VA w:=g4
       have hp:p<pi:=by
        have:=(qgp.1 g1).1
        rw[List.length_take]at this;omega
       have g1':tr[p]?=some w:=by rw[List.getElem?_take_of_lt hp]at g1;exact g1
       have hw1:=(hg.pos w ((hl w).2 (ltm g1')) g2).1
       rcases Nat.lt_trichotomy p pk with q | q | q
       .exact g5 pk k q (by rw[List.getElem?_take_of_lt g];exact hpk) ⟨fk,hc⟩
       .subst q
        rw[g1']at hpk
        have:w=k:=Option.some.inj hpk
        rw[this]at g4';omega
       .exact fin2 k pk hpk fk (by omega) p w q g1' ⟨g2,by rw[g3,hc]⟩
 have hlen:0<tr.length:=by
  obtain⟨p,hp⟩:=at_ 0 h0
  have:=(qgp.1 hp).1
  omega
 obtain⟨x,hx⟩:∃x,tr[tr.length-1]?=some x:=⟨_,qgn (by omega)⟩
 obtain⟨p,q,h1,h2,h3⟩:=edge x (ltm hx)
 have:=ZG hnd h2 hx
 have:=(qgp.1 h3).1
 omega
end Go.Sx
namespace Go.Sx
open Go.Dx Go.Proofs
section
variable {es:List (Int × Int)}{ms:List Int}{TH CE VA:Nat->Nat}
def isE (a:AB):Bool:=decide (a.1=2\/a.1=3)
def rdB (es:List (Int × Int))(i:Nat):Bool:=!qu es i
def ActK (es:List (Int × Int))(ms:List Int)(CE VA:Nat->Nat)(l:List Nat)(c:Nat)(a:AB):Prop :=
 (∃f,a=fenA f/\∃i∈l,f=yu es i/\f≠0)\/(∃i,l[c]?=some i/\qu es i=true/\a=stA (CE i) (mAt ms i) (VA i))\/∃i,l[c]?=some i/\qu es i=false/\a=ldA ((l.take c).countP (rdB es)) (CE i) (mAt ms i)
structure AP (es:List (Int × Int))(ms:List Int)(CE VA:Nat->Nat)(l:List Nat)(s:TS):Prop where
 loc:s.loc=l.countP (rdB es)
 outs:s.outs=(l.filter (rdB es)).map VA
 cnt:s.acts.countP isE=l.length
 len:s.acts.length<=2*l.length
 at_:∀(p:Nat) a,s.acts[p]?=some a->ActK es ms CE VA l ((s.acts.take p).countP isE) a
theorem ActK.more {l:List Nat}{c:Nat}{a:AB}(i:Nat)(h:ActK es ms CE VA l c a):ActK es ms CE VA (l++[i]) c a:=by
 have get:∀k,l[c]?=some k->(l++[i])[c]?=some k/\(l++[i]).take c=l.take c:=λk hk=>by
  have hc:=(qgp.1 hk).1
  exact⟨by rw[qh2 hc];exact hk,by rw[List.take_append_of_le_length (by omega)]⟩
 rcases h with ⟨f,rfl,k,hk,h⟩ | ⟨k,h1,h2⟩ | ⟨k,h1,h2,h3⟩
 .exact .inl ⟨f,rfl,k,List.mem_append_left _ hk,h⟩
 .exact .inr (.inl ⟨k,(get k h1).1,h2⟩)
 .exact .inr (.inr ⟨k,(get k h1).1,h2,by rw[(get k h1).2];exact h3⟩)
theorem qe1 (f:Int):(evF f).countP isE=0:=by
 unfold evF
 split
 .rfl
 .rfl
theorem qe2 (f:Int):(evF f).length<=1:=by
 unfold evF
 split<;>simp
theorem qdk {l:List Nat}{s:TS}(h:AP es ms CE VA l s)(i:Nat):AP es ms CE VA (l++[i]) (gq es ms CE VA i s):=by
 have key:∀(x:AB) (hx:isE x=true) (hk:ActK es ms CE VA (l++[i]) l.length x),(s.acts++evF (yu es i)++[x]).countP isE=(l++[i]).length/\(s.acts++evF (yu es i)++[x]).length<=2*(l++[i]).length /\
   ∀(p:Nat) a,(s.acts++evF (yu es i)++[x])[p]?=some a->ActK es ms CE VA (l++[i]) (((s.acts++evF (yu es i)++[x]).take p).countP isE) a:=λx hx hk=>by
  have hf:=qe1 (yu es i)
  have hfl:=qe2 (yu es i)
  have hl:=h.len
  refine⟨by rw[List.countP_append,List.countP_append,h.cnt,hf,qgx];simp[List.countP_cons,hx],by simp only[qgx,List.length_cons,List.length_nil];omega,λp a ha=>?_⟩
  rcases Nat.lt_trichotomy p (s.acts++evF (yu es i)).length with g | g | g
  .rw[qh2 g]at ha
   rw[List.take_append_of_le_length (by omega)]
   by_cases g2:p<s.acts.length
   .rw[qh2 g2]at ha
    rw[List.take_append_of_le_length (by omega)]
    exact (h.at_ p a ha).more i
   .rw[qh3 (by omega)]at ha
    have hm:=qgo ha
    unfold evF at hm
    by_cases h0:yu es i=0
    .rw[if_pos h0]at hm;cases hm
    .rw[if_neg h0]at hm
     have:=qgu.1 hm
     exact .inl ⟨_,this,i,by simp,rfl,h0⟩
  .subst g
   rw[qh3 (qgq _)]at ha
   simp at ha
   subst ha
   rw[List.take_left,List.countP_append,h.cnt,hf]
   exact hk
  .have:=(qgp.1 ha).1
   rw[qgx,List.length_singleton]at this
   omega
 have hget:(l++[i])[l.length]?=some i:=by simp
 have htk:(l++[i]).take l.length=l:=by simp
 unfold gq
 cases hf:qu es i with
 | true =>
  obtain⟨k1,k2,k3⟩:=key (stA (CE i) (mAt ms i) (VA i)) rfl (.inr (.inl ⟨i,hget,hf,rfl⟩))
  exact⟨by simp[h.loc,List.countP_append,List.countP_cons,rdB,hf],by simp[h.outs,List.filter_append,rdB,hf],k1,k2,k3⟩
 | false =>
  obtain⟨k1,k2,k3⟩:=key (ldA s.loc (CE i) (mAt ms i)) rfl (.inr (.inr ⟨i,hget,hf,by rw[htk,h.loc]⟩))
  exact⟨by simp[h.loc,List.countP_append,List.countP_cons,rdB,hf],by simp[h.outs,List.filter_append,rdB,hf],k1,k2,k3⟩
theorem YJ:∀(l pre:List Nat) (s:TS),AP es ms CE VA pre s->AP es ms CE VA (pre++l) (l.foldl (tsF es ms CE VA) s)
 | [],pre,s,h=>by rw[List.append_nil];exact h
 | i::l,pre,s,h=>by
  have:=YJ l (pre++[i]) _ (qdk h i)
  rwa [List.append_assoc]at this
def body (es:List (Int × Int))(ms:List Int)(TH CE VA:Nat->Nat)(l:List Nat)(j:Nat):TS:=(l.filter λi=>decide (TH i=j)).foldl (tsF es ms CE VA) (TS0 j)
theorem xx (l:List Nat)(j:Nat):AP es ms CE VA (l.filter λi=>decide (TH i=j)) (body es ms TH CE VA l j) :=
 YJ _ [] _ ⟨rfl,rfl,rfl,by simp[TS0],λp a ha=>by simp[TS0]at ha⟩
theorem VS (l:List Nat)(j:Nat):(l.foldl (zR es ms TH CE VA) TS0 j).fin=⟨(body es ms TH CE VA l j).loc,(body es ms TH CE VA l j).acts++jt (body es ms TH CE VA l j).loc,(body es ms TH CE VA l j).outs⟩:=by
 unfold TS.fin TS.pr body
 rw[XR]
end
end Go.Sx
namespace Go.Sx
open Go.Dx Go.Proofs
def abE:Option (Int × Nat)->List Nd
 | none=>[]
 | some (o,v)=>[⟨o,⟨v%18446744073709551616,Nat.mod_lt _ (by omega)⟩,0,0⟩]
structure ActR (a:Ac)(b:AB):Prop where
 op:a.op=b.1
 dst:a.dst=b.2.1
 base:a.base=b.2.2.1
 size:a.size=0
 mode:a.mode=b.2.2.2.1
 es:a.es=abE b.2.2.2.2
section
variable {cur:List Ac}{s:Ms}{a:Ac}
theorem GX (h:MI cur s)(ha:cur[s.at_]?=some a)(ho:ownB a=false):(qI cur s).at_=s.at_/\(qI cur s).ls=s.ls/\(qI cur s).opn=s.opn/\(qI cur s).asked=true/\(qI cur s).now=qU s a:=by
 unfold qI
 by_cases hc:s.asked=true/\s.now.what≠6
 .rw[if_pos hc]
  refine⟨rfl,rfl,rfl,hc.1,?_⟩
  rw[h.now hc.1 hc.2]
  unfold ja
  rw[ha]
  simp[ho]
 .rw[if_neg hc]
  have e:adv cur 100000 { s with asked:=true }={ s with asked:=true }:=QM (a:=a) _ ha ho
  rw[e]
  refine⟨rfl,rfl,rfl,rfl,?_⟩
  show ja cur { s with asked:=true }=_
  unfold ja
  rw[show cur[({ s with asked:=true }:Ms).at_]?=some a from ha]
  simp only[ho,if_false,Bool.false_eq_true]
  rfl
theorem KI (h:MI cur s)(ha:cur[s.at_]?=none):(qI cur s).at_=s.at_/\(qI cur s).ls=s.ls/\(qI cur s).opn=s.opn/\(qI cur s).now=jP:=by
 unfold qI
 by_cases hc:s.asked=true/\s.now.what≠6
 .rw[if_pos hc]
  refine⟨rfl,rfl,rfl,?_⟩
  rw[h.now hc.1 hc.2]
  unfold ja
  rw[ha]
 .rw[if_neg hc]
  have e:adv cur 100000 { s with asked:=true }={ s with asked:=true }:=QL _ ha
  rw[e]
  refine⟨rfl,rfl,rfl,?_⟩
  show ja cur { s with asked:=true }=_
  unfold ja
  rw[show cur[({ s with asked:=true }:Ms).at_]?=none from ha]
theorem vF (ha:cur[s.at_]?=some a)(he:s.now.ex=false)(v:U):(zg cur v s).at_=s.at_+1/\(zg cur v s).opn=s.opn/\(zg cur v s).ls=if s.now.what=1 then s.ls.set a.dst.toNat v else s.ls:=by
 unfold zg
 rw[ha]
 simp only
 unfold zX
 rw[if_neg (by rw[he];simp)]
 unfold fB
 rw[if_neg (by simp[he])]
 by_cases h1:s.now.what=1
 .simp[h1]
 .simp[h1]
end
theorem qd5 (ls:List U)(v:Nat)(hv:v<18446744073709551616):(jk ls (abE (some (1,v)))).1=v:=by
 unfold abE jk
 show dV ls [⟨1,⟨v%18446744073709551616,_⟩,0,0⟩] 0=v
 rw[Jn ls _ (i:=0) rfl]
 unfold xH
 simp[Nat.mod_eq_of_lt hv]
theorem qd4 (ls:List U)(k:Nat)(hk:k<ls.length)(hv:k<18446744073709551616):(jk ls (abE (some (2,k)))).1=(ls.getD k u0).1:=by
 unfold abE jk
 show dV ls [⟨2,⟨k%18446744073709551616,_⟩,0,0⟩] 0=_
 rw[Jn ls _ (i:=0) rfl]
 unfold xH
 unfold wAt
 simp[Nat.mod_eq_of_lt hv,hk,List.getD_eq_getElem?_getD]
structure DoF (S S':RS)(t:Nat)(s':Ms):Prop where
 at_:∃x',S'.ths[t]?=some x'/\x'.s=s'
 ne:∀t',t'≠t->S'.ths[t']?=S.ths[t']?
 len:S'.ths.length=S.ths.length
 used:S'.used=S.used
 ev:S'.ev.length<=S.ev.length+1
section
variable {S:RS}{t:Nat}{x:Tr}{cur:List Ac}{w:Wt}
theorem dA {α:Type}{l:List α}{i:Nat}{f:α->α}{a:α}(h:l[i]?=some a):(l.modify i f)[i]?=some (f a):=by rw[List.getElem?_modify,h];simp
theorem dC {α:Type}{l:List α}{i j:Nat}{f:α->α}(h:j≠i):(l.modify i f)[j]?=l[j]?:=by
 rw[List.getElem?_modify]
 cases l[j]? with
 | none=>rfl
 | some a=>simp[h.symm]
theorem VK (ht:S.ths[t]?=some x)(e:Ev5):(evS S t e).ths[t]?=some { x with nums:=x.nums++[(S.ev.length:Int)] }:=dA ht
theorem VM (e:Ev5){t':Nat}(h:t'≠t):(evS S t e).ths[t']?=S.ths[t']?:=dC h
theorem Zo (e:Ev5):(evS S t e).ths.length=S.ths.length:=List.length_modify ..
theorem VL (e:Ev5):(evS S t e).ev.length=S.ev.length+1:=by show (S.ev++[_]).length=_;simp
theorem GA (ht:S.ths[t]?=some x)(h1:w.what=1)(hx:w.ex=false):DoF S (doR cur t w S) t (zg cur (cellAt S w.loc.toNat) x.s)/\(doR cur t w S).outs=S.outs/\(doR cur t w S).cells=S.cells:=by
 unfold doR
 rw[if_pos h1]
 simp only[hx,if_false,Bool.false_eq_true]
 unfold jD
 simp only[hx,if_false,Bool.false_eq_true]
 obtain⟨S1,hS1⟩:=qhd (evS S t ⟨0,1,w.loc,cellAt S w.loc.toNat,w.mode⟩)
 have a1:=VK ht ⟨0,1,w.loc,cellAt S w.loc.toNat,w.mode⟩
 rw[<-hS1]at a1 ⊢
 refine⟨⟨⟨_,dA a1,rfl⟩,λt' h=>?_,?_,by rw[hS1];rfl,?_⟩,by rw[hS1];rfl,by rw[hS1];rfl⟩
 .show (S1.ths.modify t _)[t']?=_
  rw[dC h,hS1,VM _ h]
 .show (S1.ths.modify t _).length=_
  rw[List.length_modify,hS1,Zo]
 .show S1.ev.length<=_
  rw[hS1,VL];exact qgq _
theorem VC (ht:S.ths[t]?=some x)(h2:w.what=2):DoF S (doR cur t w S) t (zg cur u1 x.s)/\(doR cur t w S).outs=S.outs/\(doR cur t w S).cells=S.cells.set w.loc.toNat w.val:=by
 unfold doR
 rw[if_neg (by omega),if_pos h2]
 unfold jg
 obtain⟨S1,hS1⟩:=qhd (evS S t ⟨0,2,w.loc,w.val,w.mode⟩)
 have a1:=VK ht ⟨0,2,w.loc,w.val,w.mode⟩
 rw[<-hS1]at a1 ⊢
 refine⟨⟨⟨_,dA a1,rfl⟩,λt' h=>?_,?_,by rw[hS1];rfl,?_⟩,by rw[hS1];rfl,by rw[hS1];rfl⟩
 .show (S1.ths.modify t _)[t']?=_
  rw[dC h,hS1,VM _ h]
 .show (S1.ths.modify t _).length=_
  rw[List.length_modify,hS1,Zo]
 .show S1.ev.length<=_
  rw[hS1,VL];exact qgq _
theorem Vz (ht:S.ths[t]?=some x)(h3:w.what=3):DoF S (doR cur t w S) t (zg cur u0 x.s)/\(doR cur t w S).outs=S.outs/\(doR cur t w S).cells=S.cells:=by
 unfold doR
 rw[if_neg (by omega),if_neg (by omega),if_pos h3]
 obtain⟨S1,hS1⟩:=qhd (evS S t ⟨0,3,-1,u0,w.mode⟩)
 have a1:=VK ht ⟨0,3,-1,u0,w.mode⟩
 rw[<-hS1]at a1 ⊢
 refine⟨⟨⟨_,dA a1,rfl⟩,λt' h=>?_,?_,by rw[hS1];rfl,?_⟩,by rw[hS1];rfl,by rw[hS1];rfl⟩
 .show (S1.ths.modify t _)[t']?=_
  rw[dC h,hS1,VM _ h]
 .show (S1.ths.modify t _).length=_
  rw[List.length_modify,hS1,Zo]
 .show S1.ev.length<=_
  rw[hS1,VL];exact qgq _
theorem VB (ht:S.ths[t]?=some x)(h4:w.what=4):DoF S (doR cur t w S) t (zg cur u0 x.s)/\(doR cur t w S).outs=S.outs.modify t (· ++ [w.val])/\(doR cur t w S).cells=S.cells:=by
 unfold doR
 rw[if_neg (by omega),if_neg (by omega),if_neg (by omega),if_pos h4]
 refine⟨⟨⟨_,dA (l:=(Qn S t w.val).ths) ht,rfl⟩,λt' h=>?_,?_,rfl,?_⟩,rfl,rfl⟩
 .show (S.ths.modify t _)[t']?=_
  rw[dC h]
 .show (S.ths.modify t _).length=_
  rw[List.length_modify]
 .show S.ev.length<=_
  omega
end
end Go.Sx
namespace Go.Sx
open Go.Dx Go.Proofs
def abL (es:List (Int × Int))(ms:List Int)(TH CE VA:Nat->Nat)(l:List Nat)(t:Nat):List AB:=(body es ms TH CE VA l t).acts++jt (body es ms TH CE VA l t).loc
def evs (TH:Nat->Nat)(l:List Nat)(t:Nat):List Nat:=l.filter λi=>decide (TH i=t)
def rds (es:List (Int × Int))(TH:Nat->Nat)(l:List Nat)(t:Nat):List Nat:=(evs TH l t).filter (rdB es)
def jX (f:Nat->Nat):Nat->Nat
 | 0=>0
 | n+1=>jX f n+f n
theorem Jj {f g:Nat->Nat}:∀n,(∀i,i<n->f i<=g i)->jX f n<=jX g n
 | 0,_=>qgq _
 | n+1,h=>Nat.add_le_add (Jj n λi hi=>h i (by omega)) (h n (by omega))
theorem FT {f g:Nat->Nat}{t:Nat}:∀n,t<n->(∀i,i<n->i≠t->f i<=g i)->f t+1<=g t->jX f n+1<=jX g n
 | 0,h,_,_=>by omega
 | n+1,h,h1,h2=>by
  show jX f n+f n+1<=jX g n+g n
  by_cases e:t=n
  .subst e
   have:=Jj t (f:=f) (g:=g) λi hi=>h1 i (by omega) (by omega)
   omega
  .have:=FT n (by omega) (λi hi hne=>h1 i (by omega) hne) h2
   have:=h1 n (by omega) (λe2=>e e2.symm)
   omega
section
variable {es:List (Int × Int)}{ms:List Int}{TH CE VA:Nat->Nat}{N nt:Nat}{l:List Nat}
def bY (es:List (Int × Int))(ms:List Int)(TH CE VA:Nat->Nat)(l:List Nat)(t pc:Nat):Nat:=((abL es ms TH CE VA l t).take pc).countP isE
theorem Bn {q k:Nat}{b:AB}(h:(jt q)[k]?=some b):b=prA k/\k<q:=by
 unfold jt at h
 have hk:=(qgp.1 h).1
 simp at hk
 rw[qh4,List.getElem?_range hk]at h
 cases h
 exact⟨rfl,hk⟩
theorem Gx {t pc:Nat}{b:AB}(h:(abL es ms TH CE VA l t)[pc]?=some b):bY es ms TH CE VA l t (pc+1)=bY es ms TH CE VA l t pc+if isE b then 1 else 0:=by
 unfold bY
 rw[List.take_add_one,h,List.countP_append]
 simp[List.countP_cons]
theorem Zg {t pc:Nat}{b:AB}(h:(abL es ms TH CE VA l t)[pc]?=some b) :
  (pc<(body es ms TH CE VA l t).acts.length/\ActK es ms CE VA (evs TH l t) (bY es ms TH CE VA l t pc) b) \/
   ((body es ms TH CE VA l t).acts.length<=pc/\b=prA (pc-(body es ms TH CE VA l t).acts.length)/\pc-(body es ms TH CE VA l t).acts.length<(body es ms TH CE VA l t).loc):=by
 by_cases hp:pc<(body es ms TH CE VA l t).acts.length
 .refine .inl ⟨hp,?_⟩
  have:=(xx (es:=es) (ms:=ms) (TH:=TH) (CE:=CE) (VA:=VA) l t).at_ pc b (by unfold abL at h;rw[qh2 hp]at h;exact h)
  unfold bY abL
  rw[List.take_append_of_le_length (by omega)]
  exact this
 .unfold abL at h
  rw[qh3 (by omega)]at h
  obtain⟨h1,h2⟩:=Bn h
  exact .inr ⟨by omega,h1,h2⟩
theorem dh {p:Nat->Bool}:∀{L:List Nat} {c i:Nat},L[c]?=some i->p i=true->(L.filter p)[(L.take c).countP p]?=some i
 | [],_,_,h,_=>by simp at h
 | x::L,0,i,h,hp=>by
  simp at h
  subst h
  simp[hp]
 | x::L,c+1,i,h,hp=>by
  have ih:=dh (L:=L) (c:=c) (by simpa using h) hp
  rw[List.take_succ_cons,List.countP_cons,List.filter_cons]
  by_cases hx:p x=true
  .simp only[hx,if_true]
   rw[List.getElem?_cons_succ]
   exact ih
  .simp only[hx,if_false,Bool.false_eq_true]
   exact ih
structure SimT (es:List (Int × Int))(ms:List Int)(TH CE VA:Nat->Nat)(l:List Nat)(t:Nat)(x:Tr)(o:List U)(tr:List Nat):Prop where
 opn:x.s.opn=false
 le:x.s.at_<=(abL es ms TH CE VA l t).length
 lsl:x.s.ls.length=(body es ms TH CE VA l t).loc
 tk:tr.filter (λi=>decide (TH i=t))=(evs TH l t).take (bY es ms TH CE VA l t x.s.at_)
 rd:∀r i p:Nat,(rds es TH l t)[r]?=some i->tr[p]?=some i->(x.s.ls.getD r u0).1=vj es CE VA (tr.take p) (CE i)
 ol:o.length=x.s.at_-(body es ms TH CE VA l t).acts.length
 oe:∀(k:Nat) (u:U),o[k]?=some u->u.1=(x.s.ls.getD k u0).1
def atS (S:RS)(t:Nat):Nat:=match S.ths[t]? with
 | some x=>x.s.at_
 | none=>0
structure Sim (es:List (Int × Int))(ms:List Int)(TH CE VA:Nat->Nat)(l:List Nat)(N nt:Nat)(S:RS)(tr:List Nat):Prop where
 th:∀t,t<nt->∃x o,S.ths[t]?=some x/\S.outs[t]?=some o/\SimT es ms TH CE VA l t x o tr
 ln:S.ths.length=nt
 cl:S.cells.length=N
 cv:∀c,c<N->(cellAt S c).1=vj es CE VA tr c
 tm:∀i∈tr,i∈l
 ev:S.ev.length<=N+S.used
 us:S.used<=jX (atS S) nt
structure NvH (es:List (Int × Int))(ms:List Int)(TH CE VA:Nat->Nat)(l:List Nat)(N nt:Nat)(curs:Nat->List Ac):Prop where
 cur:∀t,t<nt->(curs t).length=(abL es ms TH CE VA l t).length/\∀(k:Nat) b,(abL es ms TH CE VA l t)[k]?=some b->∃a,(curs t)[k]?=some a/\ActR a b
 vs:∀i,VA i<1000000
 nd:l.Nodup
 ce:∀i∈l,CE i<N
 ln:l.length<=1000
theorem jS {t i c:Nat}(h:(evs TH l t)[c]?=some i):i∈l/\TH i=t:=by
 have:=qgo h
 unfold evs at this
 rw[List.mem_filter]at this
 exact⟨this.1,by simpa using this.2⟩
theorem FX {t i:Nat}{tr:List Nat}{c:Nat}(h:tr.filter (λi=>decide (TH i=t))=(evs TH l t).take c)(hi:(evs TH l t)[c]?=some i):(tr++[i]).filter (λi=>decide (TH i=t))=(evs TH l t).take (c+1):=by
 rw[List.filter_append,h,List.take_add_one,hi]
 simp[(jS hi).2]
theorem qcy {t t' i:Nat}{tr:List Nat}{c:Nat}(hi:TH i=t)(hne:t'≠t)(h:tr.filter (λi=>decide (TH i=t'))=(evs TH l t').take c):(tr++[i]).filter (λi=>decide (TH i=t'))=(evs TH l t').take c:=by
 rw[List.filter_append,h]
 have:¬TH i=t':=λe=>hne (by rw[<-hi,e])
 simp[this]
theorem FG {t i r:Nat}(h:(rds es TH l t)[r]?=some i):TH i=t/\qu es i=false/\i∈l:=by
 have:=qgo h
 unfold rds at this
 rw[List.mem_filter]at this
 obtain⟨c,hc⟩:=qh9 this.1
 exact⟨(jS hc).2,by simpa [rdB]using this.2,(jS hc).1⟩
theorem SimT.other {t t' i:Nat}{x:Tr}{o:List U}{tr:List Nat}(h:SimT es ms TH CE VA l t' x o tr)(hi:TH i=t)(hne:t'≠t):SimT es ms TH CE VA l t' x o (tr++[i]):=by
 refine⟨h.opn,h.le,h.lsl,qcy hi hne h.tk,λr k p hr hp=>?_,h.ol,h.oe⟩
 by_cases hpl:p<tr.length
 .rw[qh2 hpl]at hp
  rw[List.take_append_of_le_length (by omega)]
  exact h.rd r k p hr hp
 .rw[qh3 (by omega)]at hp
  have hk:k=i:=by
   cases hq:p-tr.length with
   | zero=>rw[hq]at hp;simp at hp;exact hp.symm
   | succ n=>rw[hq]at hp;simp at hp
  subst hk
  exact absurd ((FG hr).1.symm.trans hi) hne
end
end Go.Sx
namespace Go.Sx
open Go.Dx Go.Proofs
section
variable {es:List (Int × Int)}{ms:List Int}{TH CE VA:Nat->Nat}{N nt:Nat}{l:List Nat}
theorem Jv {L:List Nat}{c:Nat}{a:Ac}{b:AB}(h:ActK es ms CE VA L c b\/∃k,b=prA k)(hb:ActR a b):ownB a=false:=by
 unfold ownB
 refine decide_eq_false ?_
 have:=hb.op
 rcases h with (⟨f,rfl,_⟩ | ⟨i,_,_,rfl⟩ | ⟨i,_,_,rfl⟩) | ⟨k,rfl⟩<;>(simp only at this;omega)
theorem loc_0 {ls:List U}{a:Ac}(h:a.size=0):gW ls a=a.base:=if_pos h
theorem JR (ls:List U)(r k:Nat)(v:U):(ls.set r v).getD k u0=if k=r/\r<ls.length then v else ls.getD k u0:=by
 rw[List.getD_eq_getElem?_getD,List.getD_eq_getElem?_getD,List.getElem?_set]
 by_cases e:r=k
 .subst e
  by_cases h:r<ls.length
  .simp[h]
  .simp[h]
 .have:¬k=r:=λe2=>e e2.symm
  simp[e,this]
theorem qch {curs:Nat->List Ac}(hH:NvH es ms TH CE VA l N nt curs){S:RS}{tr:List Nat}{cells:Int}(h:Sim es ms TH CE VA l N nt S tr)(hG:TG S curs cells)(p:Int) :
  ∃tr',Sim es ms TH CE VA l N nt (kz curs p S) tr'/\(∀t,atS S t<=atS (kz curs p S) t)/\∀t:Nat,t<nt->p=t->atS S t<(abL es ms TH CE VA l t).length->atS S t+1<=atS (kz curs p S) t:=by
 by_cases hp:0<=p/\p<S.ths.length
 rotate_left
 .have e:kz curs p S=S:=by unfold kz;rw[if_neg hp]
  rw[e]
  exact⟨tr,h,λ_=>qgq _,λt ht hpt=>absurd ⟨by omega,by rw[h.ln];omega⟩ hp⟩
 obtain⟨t,rfl⟩:∃t:Nat,p=t:=⟨p.toNat,by omega⟩
 have htn:t<nt:=by have:=h.ln;omega
 obtain⟨x,o,hx,ho,hs⟩:=h.th t htn
 obtain⟨g1,g2,g3,g4⟩:=hG.hg t x hx
 obtain⟨hcl,hcb⟩:=hH.cur t htn
 obtain⟨S1,hS1⟩:=qhd (mcS S t (qI (curs t)))
 have ht1:S1.ths[t]?=some { x with s:=qI (curs t) x.s }:=by rw[hS1];exact ZB S _ hx
 have hne1:∀t',t'≠t->S1.ths[t']?=S.ths[t']?:=λt' h'=>by rw[hS1];exact VY S _ (λe=>h' e.symm)
 have hnow:ZJ S1 t=(qI (curs t) x.s).now:=by unfold ZJ;rw[ht1]
 have hpick:kz curs t S=if okR S1 (qI (curs t) x.s).now then doR (curs t) t (qI (curs t) x.s).now (gX (zw S1) t) else S1:=by
  unfold kz
  rw[if_pos hp]
  simp only[qh1,<-hS1,hnow]
 have hatx:atS S t=x.s.at_:=by unfold atS;rw[hx]
 by_cases hat:x.s.at_<(abL es ms TH CE VA l t).length
 rotate_left
 .have hnone:(curs t)[x.s.at_]?=none:=qha (by omega)
  obtain⟨n1,n2,n3,n4⟩:=KI g4 hnone
  have hok:okR S1 (qI (curs t) x.s).now=false:=by
   rw[n4]
   exact decide_eq_false (by simp[jP])
  rw[hok]at hpick
  simp only[if_false,Bool.false_eq_true]at hpick
  rw[hpick]
  have hat1:∀t',atS S1 t'=atS S t':=λt'=>by
   by_cases e:t'=t
   .subst e
    rw[hatx]
    unfold atS
    rw[ht1];exact n1
   .unfold atS;rw[hne1 t' e]
  refine⟨tr,⟨λt' ht'=>?_,?_,?_,?_,h.tm,?_,?_⟩,λt'=>by rw[hat1];exact qgq _,λt' _ e2 h'=>?_⟩
  .by_cases e:t'=t
   .subst e
    exact⟨_,o,ht1,by rw[hS1];exact ho,⟨n3.trans hs.opn,by show (qI _ _).at_<=_;rw[n1];exact hs.le,by show (qI _ _).ls.length=_;rw[n2];exact hs.lsl,by show _=List.take (bY _ _ _ _ _ _ _ (qI _ _).at_) _;rw[n1];exact hs.tk,by show ∀r i p:Nat,_->_->((qI _ _).ls.getD r u0).1=_;rw[n2];exact hs.rd,by show _=(qI _ _).at_-_;rw[n1];exact hs.ol,by show ∀(k:Nat) (u:U),_->u.1=((qI _ _).ls.getD k u0).1;rw[n2];exact hs.oe⟩⟩
   .obtain⟨x',o',k1,k2,k3⟩:=h.th t' ht'
    exact⟨x',o',by rw[hne1 t' e];exact k1,by rw[hS1];exact k2,k3⟩
  .rw[hS1,mcS];show (S.ths.modify t _).length=_;rw[List.length_modify];exact h.ln
  .rw[hS1];exact h.cl
  .rw[hS1];exact h.cv
  .rw[hS1];exact h.ev
  .have:jX (atS S1) nt=jX (atS S) nt:=by
    have:atS S1=atS S:=funext hat1
    rw[this]
   rw[this,hS1];exact h.us
  .have:t'=t:=by omega
   subst this
   rw[hatx]at h'
   exact absurd h' hat
 .obtain⟨b,hb⟩:∃b,(abL es ms TH CE VA l t)[x.s.at_]?=some b:=⟨_,qgn hat⟩
  obtain⟨a,ha,hab⟩:=hcb _ b hb
  have hk:=Zg hb
  have how:ownB a=false:=by
   rcases hk with ⟨_,h1⟩ | ⟨_,h1,_⟩
   .exact Jv (.inl h1) hab
   .exact Jv (es:=es) (ms:=ms) (CE:=CE) (VA:=VA) (L:=evs TH l t) (c:=0) (.inr ⟨_,h1⟩) hab
  obtain⟨n1,n2,n3,n4,n5⟩:=GX g4 ha how
  obtain⟨s1,hs1⟩:=qhd (qI (curs t) x.s)
  rw[<-hs1]at n1 n2 n3 n4 n5 ht1 hpick
  obtain⟨w,hw⟩:=qhd (qU x.s a)
  rw[n5,<-hw]at hpick
  obtain⟨S2,hS2⟩:=qhd (gX (zw S1) t)
  rw[<-hS2]at hpick
  have ht2:S2.ths[t]?=some { x with s:=s1 }:=by rw[hS2];exact ht1
  have hne2:∀t',t'≠t->S2.ths[t']?=S.ths[t']?:=λt' h'=>by rw[hS2];exact hne1 t' h'
  have f2:S2.outs=S.outs/\S2.cells=S.cells/\S2.ev=S.ev/\S2.used=S.used+1/\S2.ths.length=S.ths.length:=by
   rw[hS2,hS1]
   exact⟨rfl,rfl,rfl,rfl,List.length_modify ..⟩
  have ha1:(curs t)[s1.at_]?=some a:=by rw[n1];exact ha
  have hcs:=Gx (es:=es) (ms:=ms) (TH:=TH) (CE:=CE) (VA:=VA) (l:=l) hb
  have wrap:∀(S':RS) (s':Ms) (tr':List Nat) (o':List U),DoF S2 S' t s'->s'.at_=x.s.at_+1->S'.outs[t]?=some o'->(∀x':Tr,x'.s=s'->SimT es ms TH CE VA l t x' o' tr')->(∀(t':Nat) (x':Tr) (o2:List U),t'≠t->SimT es ms TH CE VA l t' x' o2 tr->SimT es ms TH CE VA l t' x' o2 tr') ->
    (∀t',t'≠t->S'.outs[t']?=S.outs[t']?)->S'.cells.length=N->(∀c,c<N->(cellAt S' c).1=vj es CE VA tr' c)->(∀i∈tr',i∈l) ->
    ∃tr',Sim es ms TH CE VA l N nt S' tr'/\(∀t,atS S t<=atS S' t)/\∀t':Nat,t'<nt->(t:Int)=t'->atS S t'<(abL es ms TH CE VA l t').length->atS S t'+1<=atS S' t':=by
   intro S' s' tr' o' hD has hou hst hoth hout hcel hcv htm
   obtain⟨x',hx',hxs⟩:=hD.at_
   have at':∀t',t'≠t->atS S' t'=atS S t':=λt' e=>by unfold atS;rw[hD.ne t' e,hne2 t' e]
   have att:atS S' t=atS S t+1:=by
    rw[hatx]
    unfold atS;rw[hx']
    show x'.s.at_=_
    rw[hxs,has]
   refine⟨tr',⟨λt' ht'=>?_,by rw[hD.len,f2.2.2.2.2];exact h.ln,hcel,hcv,htm,?_,?_⟩,λt'=>?_,λt' _ e2 _=>?_⟩
   .by_cases e:t'=t
    .subst e;exact⟨x',o',hx',hou,hst x' hxs⟩
    .obtain⟨x2,o2,k1,k2,k3⟩:=h.th t' ht'
     exact⟨x2,o2,by rw[hD.ne t' e,hne2 t' e];exact k1,by rw[hout t' e];exact k2,hoth t' x2 o2 e k3⟩
   .have:=hD.ev
    rw[f2.2.2.1]at this
    rw[hD.used,f2.2.2.2.1]
    have:=h.ev
    omega
   .rw[hD.used,f2.2.2.2.1]
    have:=FT (f:=atS S) (g:=atS S') nt htn (λi _ hne=>by rw[at' i hne];exact qgq _) (by rw[att];exact qgq _)
    have:=h.us
    omega
   .by_cases e:t'=t
    .subst e;rw[att];omega
    .rw[at' t' e];exact qgq _
   .have:t'=t:=by omega
    subst this
    rw[att];exact qgq _
  rcases hk with ⟨hpc,hA⟩ | ⟨hpc,hbk,hkl⟩
  .have ho0:o=[]:=by
    have:=hs.ol
    exact qh5 (by omega)
   rcases hA with ⟨f,rfl,_⟩ | ⟨i,hi,hfi,rfl⟩ | ⟨i,hi,hfi,rfl⟩
   .-- a fence
    have hwv:w=⟨3,0,a.mode,u0,false⟩:=by
     have:=hab.op
     simp only at this
     rw[hw];unfold qU
     rw[if_neg (by omega),if_neg (by omega),if_pos (by omega)]
    have hok:okR S1 w=true:=by rw[hwv];exact decide_eq_true (by simp)
    rw[hok]at hpick
    simp only[if_true]at hpick
    obtain⟨hD,hO,hC⟩:=Vz (cur:=curs t) (w:=w) ht2 (by rw[hwv])
    obtain⟨q1,q2,q3⟩:=vF (s:=s1) ha1 (by rw[n5,<-hw,hwv]) u0
    rw[n5,<-hw,hwv]at q3
    simp at q3
    rw[hpick]
    refine wrap _ _ tr o hD (by rw[q1,n1]) (by rw[hO,f2.1];exact ho) (λx' e=>?_) (λ_ _ _ _ k=>k) (λt' _=>by rw[hO,f2.1]) (by rw[hC,f2.2.1];exact h.cl) (λc hc=>by unfold cellAt;rw[hC,f2.2.1];exact h.cv c hc) h.tm
    have hce:isE (fenA f)=false:=rfl
    rw[hce]at hcs
    simp at hcs
    refine⟨by rw[e,q2,n3];exact hs.opn,by rw[e,q1,n1];omega,by rw[e,q3,n2];exact hs.lsl,by rw[e,q1,n1,hcs];exact hs.tk,by rw[e,q3,n2];exact hs.rd,by rw[e,q1,n1];have:=hs.ol;omega,by rw[e,q3,n2];exact hs.oe⟩
   .-- a store
    have hil:=(jS hi).1
    have hit:=(jS hi).2
    have hwv:w.what=2/\w.loc=CE i/\w.ex=false/\w.val.1=VA i:=by
     have h1:=hab.op
     have h2:=hab.base
     have h3:=hab.es
     simp only at h1 h2 h3
     rw[hw];unfold qU
     rw[if_neg (by omega),if_pos (by omega)]
     refine⟨rfl,by show gW _ _=_;rw[loc_0 hab.size,h2],rfl,?_⟩
     show (jk x.s.ls a.es).1=_
     rw[h3]
     exact qd5 _ _ (by have:=hH.vs i;omega)
    have hciN:=hH.ce i hil
    have hok:okR S1 w=true:=decide_eq_true (.inl ⟨.inr hwv.1,by rw[hwv.2.1];omega,by rw[hwv.2.1,hS1];show _<(S.cells.length:Int);rw[h.cl];omega⟩)
    rw[hok]at hpick
    simp only[if_true]at hpick
    obtain⟨hD,hO,hC⟩:=VC (cur:=curs t) (w:=w) ht2 hwv.1
    obtain⟨q1,q2,q3⟩:=vF (s:=s1) ha1 (by rw[n5,<-hw];exact hwv.2.2.1) u1
    rw[n5,<-hw,if_neg (by rw[hwv.1];omega)]at q3
    have hce:isE (stA (CE i) (mAt ms i) (VA i))=true:=rfl
    rw[hce]at hcs
    simp at hcs
    rw[hpick]
    have hln:w.loc.toNat=CE i:=by rw[hwv.2.1];simp
    refine wrap _ _ (tr++[i]) o hD (by rw[q1,n1]) (by rw[hO,f2.1];exact ho) (λx' e=>?_) (λt' _ _ hne k=>k.other hit hne) (λt' _=>by rw[hO,f2.1]) (by rw[hC,f2.2.1,List.length_set];exact h.cl) (λc hc=>?_) (λk hk=>by
     rcases qhc.1 hk with hk | hk
     .exact h.tm k hk
     .rw[qgu.1 hk];exact hil)
    .refine⟨by rw[e,q2,n3];exact hs.opn,by rw[e,q1,n1];omega,by rw[e,q3,n2];exact hs.lsl,by rw[e,q1,n1,hcs];exact FX hs.tk hi,λr k p hr hp=>?_,by rw[e,q1,n1];have:=hs.ol;omega,by rw[e,q3,n2];exact hs.oe⟩
     rw[e,q3,n2]
     by_cases hpl:p<tr.length
     .rw[qh2 hpl]at hp
      rw[List.take_append_of_le_length (by omega)]
      exact hs.rd r k p hr hp
     .rw[qh3 (by omega)]at hp
      have hk2:k=i:=by
       cases hq:p-tr.length with
       | zero=>rw[hq]at hp;simp at hp;exact hp.symm
       | succ n=>rw[hq]at hp;simp at hp
      subst hk2
      rw[(FG hr).2.1]at hfi
      cases hfi
    .rw[Ww]
     unfold cellAt
     rw[hC,f2.2.1,JR,hln]
     by_cases e:c=CE i
     .subst e
      rw[if_pos ⟨rfl,by rw[h.cl];exact hc⟩,if_pos ⟨hfi,rfl⟩]
      exact hwv.2.2.2
     .rw[if_neg (λe2=>e e2.1),if_neg (λe2=>e e2.2.symm)]
      exact h.cv c hc
   .-- a load
    have hil:=(jS hi).1
    have hit:=(jS hi).2
    obtain⟨r0,hr0⟩:=qhd (((evs TH l t).take (bY es ms TH CE VA l t x.s.at_)).countP (rdB es))
    have hr:(rds es TH l t)[r0]?=some i:=by rw[hr0];exact dh hi (by simp[rdB,hfi])
    have hwv:w.what=1/\w.loc=CE i/\w.ex=false:=by
     have h1:=hab.op
     have h2:=hab.base
     simp only at h1 h2
     rw[hw];unfold qU
     rw[if_pos (by omega)]
     exact⟨rfl,by show gW _ _=_;rw[loc_0 hab.size,h2],rfl⟩
    have hdst:a.dst.toNat=r0:=by
     have h1:=hab.dst
     simp only at h1
     rw[h1,hr0];simp
    have hciN:=hH.ce i hil
    have hok:okR S1 w=true:=decide_eq_true (.inl ⟨.inl hwv.1,by rw[hwv.2.1];omega,by rw[hwv.2.1,hS1];show _<(S.cells.length:Int);rw[h.cl];omega⟩)
    rw[hok]at hpick
    simp only[if_true]at hpick
    obtain⟨hD,hO,hC⟩:=GA (cur:=curs t) (w:=w) ht2 hwv.1 hwv.2.2
    obtain⟨q1,q2,q3⟩:=vF (s:=s1) ha1 (by rw[n5,<-hw];exact hwv.2.2) (cellAt S2 w.loc.toNat)
    rw[n5,<-hw,if_pos hwv.1,hdst,n2]at q3
    have hce:isE (ldA r0 (CE i) (mAt ms i))=true:=rfl
    rw[<-hr0,hce]at hcs
    simp at hcs
    rw[hpick]
    have hln:w.loc.toNat=CE i:=by rw[hwv.2.1];simp
    have hlr:r0<x.s.ls.length:=by
     rw[hs.lsl]
     have hap:=(xx (es:=es) (ms:=ms) (TH:=TH) (CE:=CE) (VA:=VA) l t).loc
     rw[hap]
     have:=(qgp.1 hr).1
     unfold rds at this
     rw[<-List.countP_eq_length_filter]at this
     exact this
    have hevn:(evs TH l t).Nodup:=hH.nd.filter _
    have hnotin:i ∉ tr:=λhin=>by
     have h1:i∈tr.filter λk=>decide (TH k=t):=List.mem_filter.2 ⟨hin,by simp[hit]⟩
     rw[hs.tk]at h1
     obtain⟨q,hq⟩:=qh9 h1
     have hqc:q<bY es ms TH CE VA l t x.s.at_:=by
      have:=(qgp.1 hq).1
      rw[List.length_take]at this;omega
     rw[List.getElem?_take_of_lt hqc]at hq
     have:=ZG hevn hq hi
     omega
    refine wrap _ _ (tr++[i]) o hD (by rw[q1,n1]) (by rw[hO,f2.1];exact ho) (λx' e=>?_) (λt' _ _ hne k=>k.other hit hne) (λt' _=>by rw[hO,f2.1]) (by rw[hC,f2.2.1];exact h.cl) (λc hc=>?_) (λk hk=>by
     rcases qhc.1 hk with hk | hk
     .exact h.tm k hk
     .rw[qgu.1 hk];exact hil)
    .refine⟨by rw[e,q2,n3];exact hs.opn,by rw[e,q1,n1];omega,by rw[e,q3,List.length_set];exact hs.lsl,by rw[e,q1,n1,hcs];exact FX hs.tk hi,λr k p hrk hp=>?_,by rw[e,q1,n1];have:=hs.ol;omega,λk u hk=>by rw[ho0]at hk;simp at hk⟩
     rw[e,q3,JR]
     by_cases hpl:p<tr.length
     .rw[qh2 hpl]at hp
      rw[List.take_append_of_le_length (by omega)]
      have hne:¬r=r0:=λe2=>by
       subst e2
       rw[hr]at hrk
       cases hrk
       exact hnotin (qgo hp)
      rw[if_neg (λe2=>hne e2.1)]
      exact hs.rd r k p hrk hp
     .rw[qh3 (by omega)]at hp
      have hk2:k=i/\p=tr.length:=by
       cases hq:p-tr.length with
       | zero=>rw[hq]at hp;simp at hp;exact⟨hp.symm,by omega⟩
       | succ n=>rw[hq]at hp;simp at hp
      obtain⟨rfl,rfl⟩:=hk2
      have hrr:r=r0:=ZG (hevn.filter _) hrk hr
      rw[if_pos ⟨hrr,hlr⟩,List.take_left,hln]
      have:cellAt S2 (CE k)=cellAt S (CE k):=by unfold cellAt;rw[f2.2.1]
      rw[this]
      exact h.cv _ hciN
    .rw[Ww,if_neg (by rw[hfi];simp)]
     unfold cellAt
     rw[hC,f2.2.1]
     exact h.cv c hc
  .-- a print
   obtain⟨k,hke⟩:=qhd (x.s.at_-(body es ms TH CE VA l t).acts.length)
   rw[<-hke]at hbk hkl
   subst hbk
   have hkls:k<x.s.ls.length:=by rw[hs.lsl];exact hkl
   have hap:=(xx (es:=es) (ms:=ms) (TH:=TH) (CE:=CE) (VA:=VA) l t).loc
   have hk1000:k<18446744073709551616:=by
    have h1:(body es ms TH CE VA l t).loc<=l.length:=by
     rw[hap]
     exact qgz List.countP_le_length (List.length_filter_le _ _)
    have:=hH.ln
    omega
   have hwv:w.what=4/\w.ex=false/\w.val.1=(x.s.ls.getD k u0).1:=by
    have h1:=hab.op
    have h3:=hab.es
    simp only at h1 h3
    rw[hw];unfold qU
    rw[if_neg (by omega),if_neg (by omega),if_neg (by omega),if_pos (by omega)]
    refine⟨rfl,rfl,?_⟩
    show (jk x.s.ls a.es).1=_
    rw[h3]
    exact qd4 _ _ hkls hk1000
   have hok:okR S1 w=true:=decide_eq_true (.inr (.inr (.inl hwv.1)))
   rw[hok]at hpick
   simp only[if_true]at hpick
   obtain⟨hD,hO,hC⟩:=VB (cur:=curs t) (w:=w) ht2 hwv.1
   obtain⟨q1,q2,q3⟩:=vF (s:=s1) ha1 (by rw[n5,<-hw];exact hwv.2.1) u0
   rw[n5,<-hw,if_neg (by rw[hwv.1];omega)]at q3
   have hce:isE (prA k)=false:=rfl
   rw[hce]at hcs
   simp at hcs
   rw[hpick]
   have hol:o.length=k:=by rw[hs.ol,hke]
   refine wrap _ _ tr (o++[w.val]) hD (by rw[q1,n1]) (by rw[hO,f2.1];exact dA ho) (λx' e=>?_) (λ_ _ _ _ k=>k) (λt' hne=>by rw[hO,f2.1];exact dC hne) (by rw[hC,f2.2.1];exact h.cl) (λc hc=>by unfold cellAt;rw[hC,f2.2.1];exact h.cv c hc) h.tm
   refine⟨by rw[e,q2,n3];exact hs.opn,by rw[e,q1,n1];omega,by rw[e,q3,n2];exact hs.lsl,by rw[e,q1,n1,hcs];exact hs.tk,by rw[e,q3,n2];exact hs.rd,by rw[e,q1,n1,qgx,hol];simp;omega,λj u hj=>?_⟩
   rw[e,q3,n2]
   by_cases hjl:j<o.length
   .rw[qh2 hjl]at hj
    exact hs.oe j u hj
   .rw[qh3 (by omega)]at hj
    have hjk:j=k/\u=w.val:=by
     cases hq:j-o.length with
     | zero=>rw[hq]at hj;simp at hj;exact⟨by omega,hj.symm⟩
     | succ n=>rw[hq]at hj;simp at hj
    rw[hjk.1,hjk.2]
    exact hwv.2.2
end
end Go.Sx
namespace Go.Sx
open Go.Dx Go.Proofs
section
variable {es:List (Int × Int)}{ms:List Int}{TH CE VA WR:Nat->Nat}{N nt:Nat}{l:List Nat}{curs:Nat->List Ac}{cells:Int}
theorem fm (hH:NvH es ms TH CE VA l N nt curs)(hn:∀t,NP (curs t)):∀(L:List Int) (S:RS) (tr:List Nat),Sim es ms TH CE VA l N nt S tr->TG S curs cells->IV S S.used ->
  ∃tr',Sim es ms TH CE VA l N nt (wk curs L S) tr'/\(∀t,atS S t<=atS (wk curs L S) t)/\∀t:Nat,t<nt->(t:Int)∈L->atS S t<(abL es ms TH CE VA l t).length->atS S t+1<=atS (wk curs L S) t
 | [],S,tr,h,_,_=>⟨tr,h,λ_=>qgq _,λt _ hm=>by cases hm⟩
 | p::L,S,tr,h,hG,hI=>by
  obtain⟨tr1,h1,h2,h3⟩:=qch hH h hG p
  obtain⟨k1,k2,_⟩:=KQ hG hn hI p
  obtain⟨tr2,g1,g2,g3⟩:=fm hH hn L (kz curs p S) tr1 h1 k1 k2
  refine⟨tr2,g1,λt=>qgz (h2 t) (g2 t),λt ht hm hl=>?_⟩
  rcases List.mem_cons.1 hm with e | hm
  .exact qgz (h3 t ht e.symm hl) (g2 t)
  .by_cases hl2:atS (kz curs p S) t<(abL es ms TH CE VA l t).length
   .exact qgz (Nat.add_le_add_right (h2 t) 1) (g3 t ht hm hl2)
   .have:=g2 t
    show atS S t+1<=atS (wk curs L (kz curs p S)) t
    omega
def rnd (nt:Nat):List Int:=(List.range nt).map λ(t:Nat)=>(t:Int)
def yh (nt:Nat):Nat->List Int
 | 0=>[]
 | k+1=>yh nt k++rnd nt
theorem qf3 {nt t:Nat}(h:t<nt):(t:Int)∈rnd nt:=List.mem_map.2 ⟨t,List.mem_range.2 h,rfl⟩
theorem dI (acts:Nat->List Ac)(a b:List Int)(S:RS):wk acts (a++b) S=wk acts b (wk acts a S):=by unfold wk;rw[List.foldl_append]
theorem XJ (hH:NvH es ms TH CE VA l N nt curs)(hn:∀t,NP (curs t)){S:RS}{tr:List Nat}(h:Sim es ms TH CE VA l N nt S tr)(hG:TG S curs cells)(hI:IV S S.used):∀k,∃tr',Sim es ms TH CE VA l N nt (wk curs (yh nt k) S) tr'/\∀t,t<nt->min (abL es ms TH CE VA l t).length k<=atS (wk curs (yh nt k) S) t
 | 0=>⟨tr,h,λt _=>by rw[Nat.min_zero];exact Nat.zero_le _⟩
 | k+1=>by
  obtain⟨tr1,h1,h2⟩:=XJ hH hn h hG hI k
  obtain⟨k1,k2,_⟩:=zM hn (yh nt k) S hG hI
  obtain⟨tr2,g1,g2,g3⟩:=fm hH hn (rnd nt) _ tr1 h1 k1 k2
  refine⟨tr2,by show Sim _ _ _ _ _ _ _ _ (wk curs (yh nt k++rnd nt) S) _;rw[dI];exact g1,λt ht=>?_⟩
  show _<=atS (wk curs (yh nt k++rnd nt) S) t
  rw[dI]
  have a:=h2 t ht
  have b:=g2 t
  by_cases hl:atS (wk curs (yh nt k) S) t<(abL es ms TH CE VA l t).length
  .have:=g3 t ht (qf3 ht) hl
   omega
  .omega
theorem Zf (t:Nat):(abL es ms TH CE VA l t).length<=3*(evs TH l t).length:=by
 have h:=xx (es:=es) (ms:=ms) (TH:=TH) (CE:=CE) (VA:=VA) l t
 unfold abL
 rw[qgx,vR]
 have h1:=h.len
 have h2:(body es ms TH CE VA l t).loc<=(evs TH l t).length:=by rw[h.loc];exact List.countP_le_length
 have h3:(evs TH l t).length=(l.filter λi=>decide (TH i=t)).length:=rfl
 omega
theorem FU (TH:Nat->Nat):∀(l:List Nat) (nt:Nat),jX (λt=>(evs TH l t).length) nt<=l.length
 | [],nt=>by
  have:∀n,jX (λt=>(evs TH [] t).length) n=0:=λn=>by
   induction n with
   | zero=>rfl
   | succ n ih=>show jX _ n+_=0;rw[ih];rfl
  rw[this];exact Nat.zero_le _
 | i::l,nt=>by
  have ih:=FU TH l nt
  have key:∀n,jX (λt=>(evs TH (i::l) t).length) n<=jX (λt=>(evs TH l t).length) n+if TH i<n then 1 else 0:=λn=>by
   induction n with
   | zero=>simp[jX]
   | succ n ih2 =>
    show jX _ n+(evs TH (i::l) n).length<=jX _ n+(evs TH l n).length+_
    have:(evs TH (i::l) n).length=(evs TH l n).length+if TH i=n then 1 else 0:=by
     unfold evs
     rw[List.filter_cons]
     by_cases e:TH i=n<;>simp[e]
    rw[this]
    by_cases e:TH i=n
    .rw[if_pos e,if_pos (by omega)]
     rw[if_neg (by omega)]at ih2
     omega
    .rw[if_neg e]
     by_cases e2:TH i<n
     .rw[if_pos e2]at ih2
      rw[if_pos (by omega)]
      omega
     .rw[if_neg e2]at ih2
      rw[if_neg (by omega)]
      omega
  have:=key nt
  rw[List.length_cons]
  split at this<;>omega
theorem XL (f:Nat->Nat)(c:Nat):∀n,jX (λt=>c*f t) n=c*jX f n
 | 0=>by simp[jX]
 | n+1=>by show jX _ n+c*f n=c*(jX f n+f n);rw[XL f c n,Nat.mul_add]
theorem Sim.bd {S:RS}{tr:List Nat}(h:Sim es ms TH CE VA l N nt S tr):S.used<=3*l.length/\S.ev.length<=N+3*l.length:=by
 have h1:jX (atS S) nt<=3*l.length:=by
  refine qgz (Jj (g:=λt=>3*(evs TH l t).length) nt λt ht=>?_) (by rw[XL];have:=FU TH l nt;omega)
  obtain⟨x,o,hx,_,hs⟩:=h.th t ht
  have:atS S t=x.s.at_:=by unfold atS;rw[hx]
  rw[this]
  exact qgz hs.le (Zf t)
 have h2:=h.us
 have h3:=h.ev
 omega
def Done (es:List (Int × Int))(ms:List Int)(TH CE VA:Nat->Nat)(l:List Nat)(nt:Nat)(S:RS):Prop:=∀t,t<nt->atS S t=(abL es ms TH CE VA l t).length
theorem qdv {S:RS}{tr:List Nat}(h:Sim es ms TH CE VA l N nt S tr){k:Nat}(hk:∀t,t<nt->min (abL es ms TH CE VA l t).length k<=atS S t)(hl:3*l.length<=k):Done es ms TH CE VA l nt S:=λt ht=>by
 obtain⟨x,o,hx,_,hs⟩:=h.th t ht
 have e:atS S t=x.s.at_:=by unfold atS;rw[hx]
 have h1:=hs.le
 have h2:=hk t ht
 have h3:(abL es ms TH CE VA l t).length<=3*l.length:=qgz (Zf t) (Nat.mul_le_mul_left 3 (List.length_filter_le _ _))
 omega
theorem GB (hH:NvH es ms TH CE VA l N nt curs){S:RS}{tr:List Nat}(h:Sim es ms TH CE VA l N nt S tr)(hd:Done es ms TH CE VA l nt S)(hG:TG S curs cells){t:Nat}(ht:t<nt):∃x,S.ths[t]?=some x/\(qI (curs t) x.s).now.what=5:=by
 obtain⟨x,o,hx,_,hs⟩:=h.th t ht
 have e:=hd t ht
 have e2:atS S t=x.s.at_:=by unfold atS;rw[hx]
 obtain⟨_,_,_,g4⟩:=hG.hg t x hx
 obtain⟨_,_,_,n4⟩:=KI g4 (qha (by rw[(hH.cur t ht).1];omega))
 exact⟨x,hx,by rw[n4];rfl⟩
theorem VD (hH:NvH es ms TH CE VA l N nt curs)(hg:GL es N l CE VA WR)(he:Qr es l TH CE VA)(hl:∀i,i∈l ↔ i<es.length)(h0:0<es.length)(hTH:∀i∈l,TH i<nt){S:RS}{tr:List Nat}(h:Sim es ms TH CE VA l N nt S tr)(hd:Done es ms TH CE VA l nt S)
  (hO:∀t,t<nt->∀o,S.outs[t]?=some o->o.map (·.1)=(body es ms TH CE VA l t).outs) (hF:S.cells.map (·.1)=(List.range N).map WR):False:=by
 have hb:=λt=>xx (es:=es) (ms:=ms) (TH:=TH) (CE:=CE) (VA:=VA) l t
 have full:∀t,bY es ms TH CE VA l t (abL es ms TH CE VA l t).length=(evs TH l t).length:=λt=>by
  unfold bY
  rw[List.take_length]
  unfold abL
  rw[List.countP_append,(hb t).cnt]
  have:(jt (body es ms TH CE VA l t).loc).countP isE=0:=by
   rw[List.countP_eq_zero]
   intro b hb2
   unfold jt at hb2
   obtain⟨k,_,rfl⟩:=List.mem_map.1 hb2
   simp[isE]
  rw[this];rfl
 have data:∀t,t<nt->∃x o,S.ths[t]?=some x/\S.outs[t]?=some o/\SimT es ms TH CE VA l t x o tr/\x.s.at_=(abL es ms TH CE VA l t).length:=λt ht=>by
  obtain⟨x,o,hx,ho,hs⟩:=h.th t ht
  have e:=hd t ht
  have e2:atS S t=x.s.at_:=by unfold atS;rw[hx]
  exact⟨x,o,hx,ho,hs,by omega⟩
 refine never hg he hl h0 (tr:=tr) (λj=>?_) (λp i hp hf=>?_) (λc hc=>?_)
 .by_cases hj:j<nt
  .obtain⟨x,o,hx,ho,hs,e⟩:=data j hj
   rw[hs.tk,e,full,List.take_length];rfl
  .have h1:tr.filter (λi=>decide (TH i=j))=[]:=by
    rw[List.filter_eq_nil_iff]
    intro i hi
    have:=hTH i (h.tm i hi)
    simp;omega
   have h2:l.filter (λi=>decide (TH i=j))=[]:=by
    rw[List.filter_eq_nil_iff]
    intro i hi
    have:=hTH i hi
    simp;omega
   rw[h1,h2]
 .have hil:=h.tm i (qgo hp)
  obtain⟨x,o,hx,ho,hs,e⟩:=data (TH i) (hTH i hil)
  have hir:i∈rds es TH l (TH i):=by
   unfold rds evs
   exact List.mem_filter.2 ⟨List.mem_filter.2 ⟨hil,by simp⟩,by simp[rdB,hf]⟩
  obtain⟨r,hr⟩:=qh9 hir
  have h1:=hs.rd r i p hr hp
  have h2:=hO (TH i) (hTH i hil) o ho
  have hrl:=(qgp.1 hr).1
  have hol:o.length=(rds es TH l (TH i)).length:=by
   have:=hs.ol
   rw[e]at this
   rw[this]
   unfold abL
   rw[qgx,vR,(hb (TH i)).loc]
   unfold rds
   rw[<-List.countP_eq_length_filter]
   show _+List.countP _ (evs TH l (TH i))-_=_
   omega
  obtain⟨u,hu⟩:∃u,o[r]?=some u:=⟨_,qgn (by omega)⟩
  have h3:=hs.oe r u hu
  have h4:(o.map (·.1))[r]?=some u.1:=by rw[qh4,hu];rfl
  rw[h2,(hb (TH i)).outs,qh4]at h4
  have h5:((l.filter λk=>decide (TH k=TH i)).filter (rdB es))[r]?=some i:=hr
  rw[h5]at h4
  simp at h4
  rw[<-h1,<-h3,h4]
 .have h1:=h.cv c hc
  rw[<-h1]
  have h2:(S.cells.map (·.1))[c]?=some (WR c):=by rw[hF,qh4,List.getElem?_range hc];rfl
  rw[qh4]at h2
  unfold cellAt
  rw[List.getD_eq_getElem?_getD]
  cases hq:S.cells[c]? with
  | none=>rw[hq]at h2;cases h2
  | some u=>rw[hq]at h2;simp at h2;simp[h2]
end
end Go.Sx
