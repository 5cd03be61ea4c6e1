/- Contracts. -/
import Derived.Test.YtjoapkgigchboaaGreatGg
import Derived.Test.YtjoapkgigchboaaGreatGb3
import Derived.Test.YtjoapkgigchboaaGreatEd
set_option linter.unusedVariables false
set_option linter.unusedSimpArgs false
set_option linter.defProp false
set_option maxHeartbeats 8000000
namespace Go.Dx
theorem KP {c:C}:∀{a b o:Nat} {l:List Value},ldn c o (a+b)=some l->ldn c o a=some (l.take a)/\ldn c (o+a) b=some (l.drop a)
 | 0,b,o,l,h=>by rw[Nat.zero_add]at h;exact⟨rfl,h⟩
 | a+1,b,o,l,h=>by
  rw[show a+1+b=a+b+1 by omega,yT]at h
  obtain⟨v,hv,h⟩:=qc h
  obtain⟨t,ht,h⟩:=qc h
  have hl:l=v::t:=by unfold YK at h;cases h;rfl
  subst hl
  obtain⟨h1,h2⟩:=KP ht
  refine⟨?_,?_⟩
  .rw[yT,hv];show ob (ldn c (o+1) a) _=_;rw[h1];rfl
  .rw[show o+(a+1)=o+1+a by omega,h2];rfl
theorem Qr {m:M}{B o a b:Nat}{s:Option Nat}{l:List Value}(h:loads m ⟨B,o,s⟩ (a+b)=some l):loads m ⟨B,o,s⟩ a=some (l.take a)/\loads m ⟨B,o+a,s⟩ b=some (l.drop a):=by
 unfold loads at h ⊢
 obtain⟨c,hc,h⟩:=qc h
 simp only at hc
 rw[hc]
 exact KP h
section
variable {α:Type}{m:M}{v:Value}{e:Nat}{f:α->List Value}{l:List α}
theorem Rd.drop (h:Rd m v e f l)(hs:Sp e v)(hf:∀x,(f x).length=e){k:Nat}(hk:k<=l.length):∃a n c,slV e (some (.int .i64 (k:Int))) none none v=some (.slice a n c)/\Rd m (.slice a n c) e f (l.drop k)/\Sp e (.slice a n c)/\(∀B,blk (.slice a n c)=some B->blk v=some B):=by
 rcases hs with rfl | ⟨B,o,n,c,x,rfl,hnc⟩
 .have hl:l.length=0:=by have:=h.len;simp[jW]at this;omega
  have hk0:k=0:=by omega
  have hl':l=[]:=qgv hl
  subst hk0;subst hl'
  exact⟨none,0,0,rfl,h,.inl rfl,λB hB=>hB⟩
 .have hn:n=l.length:=by have:=h.len;simp[jW]at this;omega
  have hdl:(l.drop k).length=n-k:=by rw[List.length_drop,hn]
  have hfl:=wG hf l
  have hall:loads m ⟨B,o,some (code e x)⟩ (l.length*e)=some (l.flatMap f):=h.all
  have hsplit:l.length*e=k*e+(l.drop k).length*e:=by rw[hdl,hn,<-Nat.add_mul];congr 1;omega
  have hdrop:(l.flatMap f).drop (k*e)=(l.drop k).flatMap f:=by
   have hl2:l=l.take k++l.drop k:=(List.take_append_drop k l).symm
   have hlt:=wG hf (l.take k)
   rw[List.length_take,Nat.min_eq_left hk]at hlt
   conv=>lhs;rw[hl2,List.flatMap_append]
   rw[List.drop_append_of_le_length (by omega),<-hlt,List.drop_length,List.nil_append]
  rw[hsplit]at hall
  obtain⟨h1,h2⟩:=Qr hall
  rw[hdrop]at h2
  have hb:fF n c (some (.int .i64 (k:Int))) none none=some (k,n,c):=by
   show ob (Wa (some (.int .i64 (k:Int))) 0 n) _=_
   show ob (bif Nat.ble k n then some k else none) _=_
   rw[qgl (by omega)];rfl
  have hcd:Nat.beq (code e x/2) e=true:=by
   have:code e x/2=e:=by
    cases x
    .show (2*e)/2=e;omega
    .show (2*e+1)/2=e;omega
   rw[this,Nat.beq_refl]
  have hex:vH (code e x)=x:=by
   cases x
   .show Nat.beq ((2*e)%2) 1=false
    rw[show (2*e)%2=0 by omega];rfl
   .show Nat.beq ((2*e+1)%2) 1=true
    rw[show (2*e+1)%2=1 by omega];rfl
  have hsl:slV e (some (.int .i64 (k:Int))) none none (.slice (some ⟨B,o,some (code e x)⟩) n c)=some (.slice (some ⟨B,bif x&&Nat.beq c k then o else o+k*e,some (code e x)⟩) (n-k) (c-k)):=by
   unfold slV
   simp only[qN,hb,hcd,hex,Option.isSome_none,Bool.or_false]
   rfl
  refine⟨_,_,_,hsl,⟨by rw[hdl];rfl,λi r hr=>?_,?_,λC hC=>by cases hC;exact h.lt _ rfl⟩,.inr ⟨_,_,_,_,_,rfl,by omega⟩,λC hC=>hC⟩
  .have hi:i<(l.drop k).length:=(qgf.1 hr).1
   rw[List.getElem?_drop]at hr
   have hck:(x&&Nat.beq c k)=false:=by
    cases q:Nat.beq c k with
    | false=>simp
    | true=>have:=qgq q;omega
   rw[hck]
   obtain⟨g1,g2,g3⟩:=h.row (k+i) r hr
   refine⟨?_,g2,?_⟩
   .show (bif Nat.blt i (n-k) then gS (i*e) _ else none)=_
    rw[show Nat.blt i (n-k)=true from qgl (by omega)];rfl
   .have e1:adr e (.slice (some ⟨B,o,some (code e x)⟩) n c) (k+i)=⟨B,o+(k+i)*e,none⟩:=rfl
    have e2:adr e (.slice (some ⟨B,bif false then o else o+k*e,some (code e x)⟩) (n-k) (c-k)) i=⟨B,o+k*e+i*e,none⟩:=rfl
    rw[e1]at g3
    rw[e2,<-g3,Nat.add_mul,Nat.add_assoc]
  .show loads m ⟨B,bif x&&Nat.beq c k then o else o+k*e,some (code e x)⟩ ((l.drop k).length*e)=_
   cases q:(x&&Nat.beq c k) with
   | false=>exact h2
   | true =>
    rw[qgj]at q
    have:=qgq q.2
    have h0:l.drop k=[]:=List.drop_eq_nil_of_le (by omega)
    rw[h0]at h2 ⊢
    unfold loads at h1 ⊢
    obtain⟨cc,hcc,_⟩:=qc h1
    simp only at hcc
    show ob (cellsOf m B) _=_
    rw[hcc]
    show ldn cc _ (0*e)=_
    rw[Nat.zero_mul];rfl
theorem Rd.take (h:Rd m v e f l)(hs:Sp e v)(hf:∀x,(f x).length=e){k:Nat}(hk:k<=l.length):∃a n c,slV e none (some (.int .i64 (k:Int))) none v=some (.slice a n c)/\Rd m (.slice a n c) e f (l.take k)/\Sp e (.slice a n c)/\(∀B,blk (.slice a n c)=some B->blk v=some B):=by
 rcases hs with rfl | ⟨B,o,n,c,x,rfl,hnc⟩
 .have hl:l.length=0:=by have:=h.len;simp[jW]at this;omega
  have hk0:k=0:=by omega
  have hl':l=[]:=qgv hl
  subst hk0;subst hl'
  exact⟨none,0,0,rfl,h,.inl rfl,λB hB=>hB⟩
 .have hn:n=l.length:=by have:=h.len;simp[jW]at this;omega
  have htl:(l.take k).length=k:=by rw[List.length_take,Nat.min_eq_left hk]
  have hall:loads m ⟨B,o,some (code e x)⟩ (l.length*e)=some (l.flatMap f):=h.all
  have hsplit:l.length*e=k*e+(l.length-k)*e:=by rw[<-Nat.add_mul];congr 1;omega
  have htake:(l.flatMap f).take (k*e)=(l.take k).flatMap f:=by
   have hl2:l=l.take k++l.drop k:=(List.take_append_drop k l).symm
   have hlt:=wG hf (l.take k)
   rw[htl]at hlt
   conv=>lhs;rw[hl2,List.flatMap_append]
   rw[List.take_append_of_le_length (by omega),<-hlt,List.take_length]
  rw[hsplit]at hall
  obtain⟨h1,h2⟩:=Qr hall
  rw[htake]at h1
  have hcd:Nat.beq (code e x/2) e=true:=by
   have:code e x/2=e:=by
    cases x
    .show (2*e)/2=e;omega
    .show (2*e+1)/2=e;omega
   rw[this,Nat.beq_refl]
  have hex:vH (code e x)=x:=by
   cases x
   .show Nat.beq ((2*e)%2) 1=false
    rw[show (2*e)%2=0 by omega];rfl
   .show Nat.beq ((2*e+1)%2) 1=true
    rw[show (2*e+1)%2=1 by omega];rfl
  have hb:fF n c none (some (.int .i64 (k:Int))) none=some (0,k,c):=by
   show ob (Wa (some (.int .i64 (k:Int))) n c) _=_
   show ob (bif Nat.ble k c then some k else none) _=_
   rw[qgl (by omega)];rfl
  have hoff:(bif x&&Nat.beq c 0 then o else o+0*e)=o:=by cases (x&&Nat.beq c 0)<;>simp
  have hsl:slV e none (some (.int .i64 (k:Int))) none (.slice (some ⟨B,o,some (code e x)⟩) n c)=some (.slice (some ⟨B,o,some (code e x)⟩) k c):=by
   unfold slV
   simp only[qN,hb,hcd,hex,Option.isSome_none,Bool.or_false]
   show some (Value.slice (some ⟨B,bif x&&Nat.beq c 0 then o else o+0*e,some (code e x)⟩) (k-0) (c-0))=_
   rw[hoff];rfl
  refine⟨_,_,_,hsl,⟨by rw[htl];rfl,λi r hr=>?_,?_,λC hC=>by cases hC;exact h.lt _ rfl⟩,.inr ⟨_,_,_,_,_,rfl,by omega⟩,λC hC=>hC⟩
  .have hi:i<(l.take k).length:=(qgf.1 hr).1
   rw[htl]at hi
   rw[List.getElem?_take,if_pos hi]at hr
   obtain⟨g1,g2,g3⟩:=h.row i r hr
   refine⟨?_,g2,g3⟩
   show (bif Nat.blt i k then gS (i*e) _ else none)=_
   rw[show Nat.blt i k=true from qgl hi];rfl
  .show loads m ⟨B,o,some (code e x)⟩ ((l.take k).length*e)=_
   rw[htl];exact h1
end
end Go.Dx
namespace Go.Sx
open Go.Dx Go.Proofs
set_option maxRecDepth 10000
theorem xm {S:PM}{w:Wnt}(h:look S=some w):wu S=(S,w):=WK h _
theorem GK {S:PM}(h:WF S):wu (wu S).1=wu S:=by
 rw[xm (kx h).1]
theorem XR (S:PM)(i:Ins)(w:Wnt)(v b:Nat):(storeP S i w v b).outs=S.outs:=by
 unfold storeP
 cases w.ex with
 | false=>rfl
 | true =>
  simp only[if_true]
  split
  .exact (qR _ _ _ _).outs
  .exact (qR _ _ _ _).outs
theorem Qh (S:PM)(i:Ins)(w:Wnt)(v b:Nat):(beginP S i w v b).outs=S.outs:=by
 unfold beginP
 simp only
 split
 .exact (qR _ _ _ _).outs
 .exact (qR _ _ _ _).outs
theorem JN (w:Wnt)(b:Nat)(S:PM):(exP w b S).outs=S.outs:=by unfold exP;split<;>rfl
theorem Gq (S:PM)(b:Nat):(endP S b).outs=S.outs:=by unfold endP;split<;>rfl
theorem Vy (S:PM)(i:Ins)(w:Wnt)(v:Nat):(kR S i w v).outs=if w.what=4 then S.outs++[w.val] else S.outs:=by
 unfold kR
 by_cases h1:w.what=1
 .simp only[if_pos h1,if_neg (show ¬w.what=4 by omega)]
  split
  .split
   .exact Qh _ _ _ _ _
   .exact (JN _ _ _).trans (Qh _ _ _ _ _)
  .exact (JN _ _ _).trans (qR _ _ _ _).outs
 by_cases h2:w.what=2
 .simp only[if_neg h1,if_pos h2,if_neg (show ¬w.what=4 by omega)]
  split
  .exact Gq _ _
  .exact XR _ _ _ _ _
 by_cases h3:w.what=3
 .simp only[if_neg h1,if_neg h2,if_pos h3,if_neg (show ¬w.what=4 by omega)];rfl
 by_cases h4:w.what=4
 .simp only[if_neg h1,if_neg h2,if_neg h3,if_pos h4];rfl
 .simp only[if_neg h1,if_neg h2,if_neg h3,if_neg h4];rfl
theorem Ws {S:PM}(h:WF S)(v:Nat):(wE S v).1.outs.length<=S.outs.length+1:=by
 obtain⟨h1,h2,h3⟩:=kx h
 unfold wE vV
 split
 .rw[h3.outs];omega
 .cases hf:fetch (wu S).1 with
  | none=>simp only;rw[h3.outs];omega
  | some i =>
   simp only
   rw[Vy]
   split
   .rw[qgn,h3.outs];simp
   .rw[h3.outs];omega
end Go.Sx
namespace Go.Sx
open Go.Dx Go.Proofs
set_option maxRecDepth 10000
def jy (S:PM):PM:={ vw S with sc:={ S.sc with st:=4 } }
def wH (k:PM->List Nat->List Bool->PM)(S1:PM)(w:Wnt)(rs:List Nat)(ws:List Bool):PM :=
 if w.what=2/\w.one=true then k (wE S1 0).1 rs ws
 else if w.what=7\/w.what=6 then jC S1
 else if ki S1.sc=true then jy S1
 else if w.what=5 then jC S1
 else if w.what=1 then (match rs with
  | []=>jC S1
  | v::rs'=>k (wE S1 v).1 rs' ws)
 else if w.what=2/\w.ex=true then (match ws with
  | []=>jC S1
  | b::ws'=>k (wE S1 (if b then 1 else 0)).1 rs ws')
 else k (wE S1 0).1 rs ws
def qC:Nat->PM->List Nat->List Bool->PM
 | 0,S,_,_=>S
 | k+1,S,rs,ws=>wH (qC k) (wu S).1 (wu S).2 rs ws
def yZ (ws:List Nat)(fuel:Int):PM:=vh (newS ws) 87 fuel
def zE (ws:List Nat)(rs:List Nat)(wins:List Bool)(fuel:Int):PM:=qC 200001 (yZ ws fuel) rs wins
theorem fK {ws:List Nat}(h:xD ws=0)(fuel:Int):WF (yZ ws fuel):=by
 have k:=qeb h
 exact⟨k.code,k.len,k.v,k.t,k.ft,k.way,gm rfl,k.ev,k.rmw,k.addr,k.data,k.ctrl,k.own,k.rd,k.us⟩
structure DnB (S:PM):Prop where
 dn:0<=S.sc.dn/\S.sc.dn<=S.sc.limit
 lim:S.sc.limit<=100000
def mu (S:PM):Int:=2*(S.sc.limit-S.sc.dn)+(if S.half=none then 0 else 1)
theorem bL:∀(k:Nat) (S:PM),DnB S->DnB (zx k S).1/\mu (zx k S).1<=mu S
 | 0,S,h=>⟨h,Int.le_refl _⟩
 | k+1,S,h=>by
  unfold zx
  cases hl:look S with
  | some w=>exact⟨h,Int.le_refl _⟩
  | none =>
   obtain⟨h1,i,h2,h3,h4,h5⟩:=vX hl
   have e:za S=vn S i:=by unfold za;rw[h2]
   have hs:=QO S i
   have hd:=qcy S i
   have hlt:S.sc.dn<S.sc.limit:=by
    unfold ki at h5
    simp at h5
    have:=h.dn;omega
   have hb:=h.dn
   have hli:=h.lim
   rw[wrap64 _ (by omega) (by omega)]at hd
   have k1:DnB (za S):=by rw[e];exact⟨by rw[hd,hs.limit];omega,by rw[hs.limit];exact hli⟩
   obtain⟨a,b⟩:=bL k (za S) k1
   refine⟨a,Int.le_trans b ?_⟩
   unfold mu
   rw[e,hd,hs.limit,hs.half,h1]
   simp only[if_true];omega
theorem yf (S:PM)(k x:Nat)(l:List Nat):(setRP S k x l).sc.dn=S.sc.dn/\(setRP S k x l).sc.limit=S.sc.limit:=⟨(qR _ _ _ _).dn,(qR _ _ _ _).limit⟩
theorem Wo (S:PM)(i:Ins)(w:Wnt)(v:Nat)(hh:w.what=2->w.one=true->S.half≠none):(kR S i w v).sc.limit=S.sc.limit/\(if w.what=2/\w.one=true then (kR S i w v).sc.dn=S.sc.dn/\(kR S i w v).half=none else (kR S i w v).sc.dn=IntKind.i64.wrap (S.sc.dn+1)):=by
 have ex1:∀(b:Nat) (T:PM),(exP w b T).sc.dn=T.sc.dn/\(exP w b T).sc.limit=T.sc.limit:=λb T=>by unfold exP;split<;>exact⟨rfl,rfl⟩
 have go:∀T:PM,T.sc.dn=S.sc.dn->T.sc.limit=S.sc.limit->(jL T).sc.limit=S.sc.limit/\(jL T).sc.dn=IntKind.i64.wrap (S.sc.dn+1):=λT h1 h2=>⟨h2,by show IntKind.i64.wrap (T.sc.dn+1)=_;rw[h1]⟩
 have bg:∀(T:PM) (b:Nat),(beginP T i w v b).sc.dn=T.sc.dn/\(beginP T i w v b).sc.limit=T.sc.limit:=λT b=>by
  unfold beginP
  simp only
  split
  .exact yf _ _ _ _
  .exact yf _ _ _ _
 have stp:∀(b:Nat),(storeP S i w v b).sc.dn=S.sc.dn/\(storeP S i w v b).sc.limit=S.sc.limit:=λb=>by
  unfold storeP
  cases w.ex with
  | false=>exact⟨rfl,rfl⟩
  | true =>
   simp only[if_true]
   split
   .exact yf _ _ _ _
   .exact yf _ _ _ _
 unfold kR
 by_cases h1:w.what=1
 .simp only[if_pos h1]
  rw[if_neg (show ¬(w.what=2/\w.one=true) from λh=>by have:=h.1;omega)]
  split
  .split
   .exact⟨(bg _ _).2,rfl⟩
   .exact go _ ((ex1 _ _).1.trans (bg _ _).1) ((ex1 _ _).2.trans (bg _ _).2)
  .exact go _ ((ex1 _ _).1.trans (yf _ _ _ _).1) ((ex1 _ _).2.trans (yf _ _ _ _).2)
 by_cases h2:w.what=2
 .simp only[if_neg h1,if_pos h2]
  by_cases ho:w.one=true
  .rw[if_pos ho,if_pos ⟨h2,ho⟩]
   have:=hh h2 ho
   unfold endP
   cases hS:S.half with
   | none=>exact absurd hS this
   | some x=>exact⟨rfl,rfl,rfl⟩
  .rw[if_neg ho,if_neg (λh=>ho h.2)]
   exact go _ (stp _).1 (stp _).2
 have n21:¬(w.what=2/\w.one=true):=λh=>h2 h.1
 by_cases h3:w.what=3
 .simp only[if_neg h1,if_neg h2,if_pos h3,if_neg n21]
  exact go _ rfl rfl
 by_cases h4:w.what=4
 .simp only[if_neg h1,if_neg h2,if_neg h3,if_pos h4,if_neg n21]
  exact go _ rfl rfl
 .simp only[if_neg h1,if_neg h2,if_neg h3,if_neg h4,if_neg n21]
  exact go _ rfl rfl
theorem ZE {S:PM}(h:WF S){w:Wnt}(hl:look S=some w)(hd:DnB S){v:Nat}(h5:w.what<5)(hv:w.what=2->w.ex=true->v<=1)(hs:¬(w.what=2/\w.one=true)->ki S.sc=false)(hlim:0<=S.sc.limit) :
  DnB (wE S v).1/\mu (wE S v).1+1<=mu S:=by
 have hWO:=jd h hl
 obtain⟨i,hf⟩:=hWO.fetch h5
 have hn:(wE S v).1=kR S i w v:=by
  unfold wE
  rw[xm hl]
  unfold vV
  rw[if_neg (λhc=>by
   rcases hc with hc | ⟨a,b,c⟩
   .simp only at hc;omega
   .have:=hv a b;omega)]
  simp only[hf]
 rw[hn]
 obtain⟨k1,k2⟩:=Wo S i w v (λa b e=>by obtain⟨x,hx⟩:=hWO.one2 a b;rw[hx]at e;cases e)
 have hb:=hd.dn
 have hli:=hd.lim
 by_cases c:w.what=2/\w.one=true
 .rw[if_pos c]at k2
  obtain⟨x,hx⟩:=hWO.one2 c.1 c.2
  refine⟨⟨by rw[k2.1,k1];exact hb,by rw[k1];exact hli⟩,?_⟩
  unfold mu
  rw[k2.1,k1,k2.2,hx]
  simp
 .rw[if_neg c]at k2
  have hsp:=hs c
  unfold ki at hsp
  simp at hsp
  have hlt:=hsp hlim
  rw[wrap64 _ (by omega) (by omega)]at k2
  refine⟨⟨by rw[k2,k1];omega,by rw[k1];exact hli⟩,?_⟩
  unfold mu
  rw[k2,k1]
  have:∀o:Option Hf,(0:Int)<=(if o=none then 0 else 1)/\(if o=none then (0:Int) else 1)<=1:=λo=>by split<;>omega
  have a:=this (kR S i w v).half
  have b:=this S.half
  omega
end Go.Sx
namespace Go.Sx
open Go.Dx Go.Proofs
set_option maxRecDepth 10000
abbrev bRow (b:Bool):List Value:=[.bool b]
def gR (ws rs:List Nat)(wins:List Bool)(fuel:Int)(m:M)(v:Value)(m':M):Prop :=
 (xD ws≠0/\v=.tuple #[.agg ⟨z9⟩,iv (xD ws)]) \/
 (xD ws=0/\∃q,v=.tuple #[.agg ⟨qZ q⟩,iv 0]/\RL m' q (zE ws rs wins fuel)/\Kh m.n q/\q.st=(zE ws rs wins fuel).sc.st/\q.lc=(zE ws rs wins fuel).sc.lc/\q.us=(zE ws rs wins fuel).sc.us)
section
variable {m0 m m':M}{W:List Nat}{Z:Nat->Prop}{P:Nat}{σ:List (Nat × List Value)}{s s':Mch}{g:Gh}{S S':PM}
theorem ML.mxB (h:ML m P s g S){σ:List (Nat × List Value)}(hσ:∀p∈σ,p.1<m.n/\Arr m p.1 p.2/\p.1 ∉ own P s/\¬Sh s g p.1)(hn:(σ.map (·.1)).Nodup):MX m m (σ.map (·.1)++own P s) (Sh s g) P σ s g S:=by
 refine⟨Ow.start h.base (λp hp=>?_) ?_,h.hp,h.sc,λB hB=>.inl (List.mem_append_right _ (wR.2 (.inr hB))),λB hB=>.inl hB,λp hp=>⟨λhL=>(hσ p hp).2.2.1 (wR.2 (.inr hL)),(hσ p hp).2.2.2⟩,List.mem_append_right _ (wR.2 (.inl rfl)),λB hB=>?_⟩
 .rcases qh1.1 hp with hp | hp
  .exact⟨List.mem_append_left _ (List.mem_map.2 ⟨p,hp,rfl⟩),(hσ p hp).1,(hσ p hp).2.1⟩
  .rw[qgk.1 hp]
   exact⟨List.mem_append_right _ (wR.2 (.inl rfl)),h.mat.lt,h.mat.arr⟩
 .rw[List.map_append,List.nodup_append]
  refine⟨hn,by simp,λa ha b hb=>?_⟩
  obtain⟨p,hp,rfl⟩:=List.mem_map.1 ha
  simp at hb
  subst hb
  exact λe=>(hσ p hp).2.2.1 (wR.2 (.inl e))
 .rcases qh1.1 hB with hB | hB
  .obtain⟨p,hp,rfl⟩:=List.mem_map.1 hB
   exact (hσ p hp).1
  .rcases wR.1 hB with rfl | hL
   .exact h.mat.lt
   .exact h.hp.ln hL
theorem MX.runBox (h:MX m0 m W Z P σ s g S)(n:Nat)(hw:WF S)(hz:Sz S)(k:Nat){R:Nat}{l:List Value}(hk:σ[k]?=some (R,l))(hl:l.length=9)(hR:R<m.n) :
  ∃q m5 m6,(ex Tryz.prog (n+33)).f 14 [mP P] m=some (.agg ⟨qZ q⟩,m5)/\qB 9 (.pointer (some ⟨R,0,none⟩)) (.agg ⟨qZ q⟩) m5=some (undef,m6)/\Mc m0 m6 W/\loads m6 ⟨R,0,none⟩ 9=some (qZ q)/\RL m6 q (jC S)/\Kh m.n q/\q.st=(jC S).sc.st/\q.lc=(jC S).sc.lc/\q.us=S.sc.us:=by
 obtain⟨v5,m5,a1,a2,q,rfl,a3,a4,e1,e2,e3⟩:=Run_m n h.ml hw hz
 have h5:=h.ext a2
 obtain⟨m6,b1,b2,b3⟩:=h5.fill k hk (n:=9) (l':=qZ q) (by omega) hl rfl a3.ok
 obtain⟨hkl,-⟩:=qgf.1 hk
 have ob:∀X,X≠R->m6.obj X=m5.obj X:=by
  obtain⟨m6',c1,-,-,c3⟩:=h5.ow.storeN k (fE hk) (o:=0) (n:=9) (l':=qZ q) (by omega) rfl (by omega) a3.ok
  rw[b1]at c1;cases c1;exact c3
 refine⟨q,m5,m6,a1,b1,b2.ow.mc,(b2.box (k:=k) (by rw[List.getElem?_set_self hkl])).2.loads (o:=0) (n:=9) (by simp[qZ]),a3.kp (D:=[R]) (Kp.put b3 ob (by simp)) λF hF B hB hc=>?_,a4,e1,e2,e3⟩
 have:=a4 F hF B hB
 simp at hc;omega
end
theorem dH {a b c:M}{W:List Nat}(h:Ext a b)(k:Mc b c W)(hW:∀B∈W,a.n<=B)(hb:a.base<=a.n):Ext a c:=h.mcx k hW hb
theorem bu_z9:wN [zS,zS,zS,zS,zS,zS,zI,zI,zI] []=some (.agg ⟨z9⟩):=rfl
theorem wf_sz {S:PM}(h:WF S)(ho:S.outs.length*8<=most):Sz S:=λF hF=>by
 have hr:=h.rm
 have h0:=h.ev
 rcases six hF with rfl | rfl | rfl | rfl | rfl | rfl
 .show (rowsOf S 0).length*40<=_;rw[xn];unfold most;omega
 .show (rowsOf S 1).length*16<=_;rw[yc];have:=hr.rmw;unfold most;omega
 .show (rowsOf S 2).length*16<=_;rw[fP];have:=hr.addr;unfold most;omega
 .show (rowsOf S 3).length*16<=_;rw[fQ];have:=hr.data;unfold most;omega
 .show (rowsOf S 4).length*16<=_;rw[fR];have:=hr.ctrl;unfold most;omega
 .show (rowsOf S 5).length*8<=_;rw[fS];exact ho
theorem Ju (n:Nat){m:M}(hm:m.base<=m.n){wl rl bl:Value}{ws rs:List Nat}{wins:List Bool}(hws:Rd m wl 1 vM ws)(hrs:Rd m rl 1 xx rs)(hbs:Rd m bl 1 bRow wins)(srl:Sp 1 rl)(sbl:Sp 1 bl)(hv:∀v∈rs,v<W64){fuel:Int}(hf:0<=fuel/\fuel<=100000) :
  Dx.Call (ex Tryz.prog (n+35)) 16 [wl,rl,bl,iv fuel] m (gR ws rs wins fuel m):=by
 refine qj da7_ok (by simp) ?_
 obtain⟨m0,hm0⟩:=qh2 (Dx.newRow m z9)
 have hm0':Dx.newRow m [zS,zS,zS,zS,zS,zS,zI,zI,zI]=m0:=hm0.symm
 have E0:Ext m m0:=by rw[hm0];exact Ext.row _ _
 have n0:m0.n=m.n+1:=by rw[hm0,qQ]
 have hS0:Sees m m0:=(Sees.refl hm).ext E0
 obtain⟨v1,m1,a1,a2,a3⟩:=New_m (n+28) hS0.base (hws.sees hS0)
 have E1:=E0.trans a2
 have st1:=(((St.nil hm (Ext.refl m)).row z9))
 rw[<-hm0]at st1
 have st1:=st1.step a2
 rcases a3 with ⟨he,P,lv,rfl,hP,hml,hlv⟩ | ⟨he,rfl⟩
 rotate_left
 .obtain⟨m2,b1,st2,-,-⟩:=st1.fill 0 rfl (n:=9) (l':=z9) rfl rfl (by simp[okC])
  have b2:=(st2.get 0 rfl).2.2.loads (o:=0) (n:=9) (s:=none) (by simp)
  have hne:(xD ws=0)=False:=eq_false he
  simp[hm0',a1,hne,bu_z9,b1]
  exact qT (a:=⟨m.n,0,none⟩) (by simp) b2 st2.ext (.inl ⟨he,by simp⟩)
 have f0:(fuel<0)=False:=eq_false (by omega)
 have f1:(100000<fuel)=False:=eq_false (by omega)
 have ownge:∀B∈own P (xM lv),m.n<B:=λB hB=>by
  rcases wR.1 hB with rfl | hL
  .omega
  .exact absurd hL ZP
 have shge:∀B,Sh (xM lv) gh0 B->m.n<B:=λB hB=>by have:=hlv B (VI hB);omega
 have hx1:=hml.mxB (σ:=[(m.n,z9)]) (by
  intro p hp
  rw[qgk.1 hp]
  exact⟨(st1.get 0 rfl).2.1,(st1.get 0 rfl).2.2,λhc=>Nat.lt_irrefl _ (ownge _ hc),λhc=>Nat.lt_irrefl _ (shge _ hc)⟩) (by simp)
 obtain⟨Wq,hWq⟩:=qh2 (List.map (·.1) [(m.n,z9)]++own P (xM lv))
 rw[<-hWq]at hx1
 have hWge:∀B∈Wq,m.n<=B:=λB hB=>by
  rw[hWq]at hB
  rcases qh1.1 hB with hB | hB
  .simp at hB;omega
  .have:=ownge B hB;omega
 obtain⟨m2,c1,hx2,c2⟩:=hx1.num (o:=87) (by decide) fuel
 have hx2:MX m1 m2 Wq (Sh (xM lv) gh0) P [(m.n,z9)] _ gh0 (yZ ws fuel):=hx2
 have hE:(0:Int)=0:=rfl
 simp[hm0',a1,he,f0,f1,c1]
 have lt1:∀{u:Value} {e:Nat} {β:Type} {f:β->List Value} {es:List β},Rd m u e f es->∀B,blk u=some B->B<m.n:=λh=>h.lt
 refine qF (c:=BK) rfl (Ret m _) (λj t m'=>Tm.get 8 t=.pointer (some ⟨m.n,0,none⟩)/\Tm.get 10 t=mP P/\∃s' g' S' rl' bl' rs' ws',Tm.get 1 t=rl'/\Tm.get 2 t=bl'/\MX m1 m' Wq (Sh (xM lv) gh0) P [(m.n,z9)] s' g' S'/\WF S'/\DnB S'/\S'.sc.limit=fuel/\mu S'+j<=2*fuel/\S'.outs.length<=j /\
   Rd m rl' 1 xx rs'/\Rd m bl' 1 bRow ws'/\Sp 1 rl'/\Sp 1 bl'/\(∀v∈rs',v<W64)/\qC (200001-j) S' rs' ws'=zE ws rs wins fuel) 200000 (by omega)
  ⟨by simp,by simp,_,_,yZ ws fuel,rl,bl,rs,wins,by simp,by simp,hx2,fK he fuel,⟨by show (0:Int)<=0/\(0:Int)<=fuel;omega,hf.2⟩,rfl,by show 2*(fuel-0)+(if (none:Option Hf)=none then 0 else 1)+((0:Nat):Int)<=_;simp,Nat.zero_le _,hrs,hbs,srl,sbl,hv,rfl⟩ (λj t m' k hj hI hk=>?_)
 obtain⟨t8,t10,s',g',S',rl',bl',rs',ws',t1,t2,hx,hwf,hdn,hlim,hmu,hou,hr',hb',sr',sb',hv',hrep⟩:=hI
 rw[show 200001-j=(200000-j)+1 by omega]at hrep
 obtain⟨v3,m3,s3,g3,d1,d2,rfl⟩:=XZ (n+2) hx.ml hwf
 obtain⟨hlk,hwn,hst⟩:=kx hwf
 obtain⟨hdn1,hmu1⟩:=bL 100001 S' hdn
 have hWO:=jd hwn hlk
 have hnn:=GK hwf
 obtain⟨S1,hS1⟩:=qh2 ((wu S').1)
 obtain⟨w,hwd⟩:=qh2 ((wu S').2)
 have hdn1:DnB S1:=by rw[hS1];exact hdn1
 have hmu1:mu S1<=mu S':=by rw[hS1];exact hmu1
 have hlim1:S1.sc.limit=fuel:=by rw[hS1,hst.limit,hlim]
 have hou1:S1.outs.length<=j:=by rw[hS1,hst.outs];exact hou
 rw[<-hwd]at d1 hlk hWO
 rw[<-hS1]at d2 hlk hwn hWO
 have hx3:=(hx.call d2).row z6w
 obtain⟨m4,x1,hx4,x2⟩:=hx3.fill 0 rfl (n:=6) (l':=qy w) (by omega) rfl rfl (vp _)
 have x1':qB 6 (.pointer (some ⟨m3.n,0,none⟩)) (.agg ⟨qy w⟩) (Dx.newRow m3 [zI,zI,zI,zU,.bool false,.bool false])=some (undef,m4):=x1
 have hx4:MX m1 m4 Wq (Sh (xM lv) gh0) P [(m3.n,qy w),(m.n,z9)] s3 g3 S1:=hx4
 have l0:load1 m4 ⟨m3.n,0,none⟩=some (iv w.what):=(hx4.box (k:=0) rfl).2.load1 0 none
 have l4:load1 m4 ⟨m3.n,4,none⟩=some (.bool w.ex):=(hx4.box (k:=0) rfl).2.load1 4 none
 have l5:load1 m4 ⟨m3.n,5,none⟩=some (.bool w.one):=(hx4.box (k:=0) rfl).2.load1 5 none
 have Em4:Ext m m4:=dH E1 hx4.ow.mc hWge hm
 have m4n:m.n<m4.n:=(hx4.box (k:=1) rfl).1
 have hsz:Sz S1:=wf_sz hwn (by unfold most;omega)
 have fed:∀{mq:M} {σ:List (Nat × List Value)} {v:Nat} (hxq:MX m1 mq Wq (Sh (xM lv) gh0) P σ s3 g3 S1) (hσ:(m.n,z9)∈σ) (hvl:v<W64) (hv1:w.what=2->w.ex=true->v<=1) (h5:w.what<5) (hs:¬(w.what=2/\w.one=true)->ki S1.sc=false),
   ∃u m5 s5 g5,(ex Tryz.prog (n+34)).f 23 [mP P,uv v] mq=some (u,m5)/\MX m1 m5 Wq (Sh (xM lv) gh0) P [(m.n,z9)] s5 g5 (wE S1 v).1/\j<200000/\WF (wE S1 v).1/\DnB (wE S1 v).1/\(wE S1 v).1.sc.limit=fuel/\mu (wE S1 v).1+((j+1:Nat):Int)<=2*fuel/\(wE S1 v).1.outs.length<=j+1:=by
  intro mq σ v hxq hσ hvl hv1 h5 hs
  obtain⟨u,m5,s5,g5,e1,e2,-⟩:=Feed_m (n+1) hxq.ml hwn hvl (by unfold most;omega)
  obtain⟨q1,q2⟩:=ZE hwn hlk hdn1 h5 hv1 hs (by rw[hlim1];exact hf.1)
  have q3:0<=mu (wE S1 v).1:=by
   unfold mu
   have:=q1.dn
   split<;>omega
  have q4:(wE S1 v).1.sc.limit=fuel:=by
   rw[<-hlim1]
   obtain⟨i,hfi⟩:=hWO.fetch h5
   unfold wE
   rw[xm hlk]
   unfold vV
   simp only[hfi]
   split
   .rfl
   .exact (Wo S1 i w v (λa b e=>by obtain⟨x,hx⟩:=hWO.one2 a b;rw[hx]at e;cases e)).1
  refine⟨u,m5,s5,g5,e1,(hxq.call e2).drop (by simpa using hσ) ?_,by omega,vU hwn hvl,q1,q4,by omega,?_⟩
  .have:=hx.ow.nd;exact this
  .have:=Ws hwn v;omega
 have fin:∀{t':Tm} {m6:M} {q:Mch} {T:PM},Tm.get 8 t'=.pointer (some ⟨m.n,0,none⟩)->Tm.get 9 t'=iv 0->zE ws rs wins fuel=T->Mc m1 m6 Wq->loads m6 ⟨m.n,0,none⟩ 9=some (qZ q)->RL m6 q T->Kh m4.n q->q.st=T.sc.st->q.lc=T.sc.lc->q.us=T.sc.us->Ret m (gR ws rs wins fuel m) (kQ [.cell 8 9,.t 9] t' m6):=by
  intro t' m6 q T h8 h9 hT hmc hl hrl hnew e1 e2 e3
  refine qT (a:=⟨m.n,0,none⟩) h8 hl (dH E1 hmc hWge hm) (.inr ⟨he,q,by rw[h9],by rw[hT];exact hrl,λF hF B hB=>by have:=hnew F hF B hB;omega,by rw[hT];exact e1,by rw[hT];exact e2,by rw[hT];exact e3⟩)
 have hrep':zE ws rs wins fuel=wH (qC (200000-j)) S1 w rs' ws':=by rw[<-hrep,hS1,hwd];rfl
 have hsub:200000-j=200001-(j+1):=by omega
 obtain⟨q,m5,m6,r1,r2,r3,r4,r5,r6,r7,r8,r9⟩:=hx4.runBox (n+1) hwn hsz 1 rfl rfl m4n
 unfold wH at hrep'
 have endRun:zE ws rs wins fuel=jC S1->∀{t':Tm},Tm.get 8 t'=.pointer (some ⟨m.n,0,none⟩)->Tm.get 9 t'=iv 0->Ret m (gR ws rs wins fuel m) (kQ [.cell 8 9,.t 9] t' m6):=λhT t' h8 h9=>fin h8 h9 hT r3 r4 r5 r6 r7 r8 r9
 by_cases h21:w.what=2/\w.one=true
 .rw[if_pos h21]at hrep'
  obtain⟨u,m7,s5,g5,e1,e2,e3,e4,e5,e6,e7,e8⟩:=fed (v:=0) hx4 (by simp) (by decide) (λ_ _=>by omega) (by omega) (λh=>absurd h21 h)
  have e1:(ex Tryz.prog (n+34)).f 23 [mP P,zU] m4=some (u,m7):=e1
  rw[h21.1]at l0
  rw[h21.2]at l5
  simp[t8,t10,d1,x1',l0,l5,e1]
  exact hk e3 _ _ ⟨by simp[t8],by simp[t10],s5,g5,_,rl',bl',rs',ws',by simp[t1],by simp[t2],e2,e4,e5,e6,e7,e8,hr',hb',sr',sb',hv',by rw[<-hsub];exact hrep'.symm⟩
 rw[if_neg h21]at hrep'
 by_cases h67:w.what=7\/w.what=6
 .rw[if_pos h67]at hrep'
  rcases h67 with h | h
  .rw[h]at l0
   simp[t8,t10,d1,x1',l0,r1,r2]
   exact endRun hrep' (by simp[t8]) (by simp)
  .rw[h]at l0
   simp[t8,t10,d1,x1',l0,r1,r2]
   exact endRun hrep' (by simp[t8]) (by simp)
 rw[if_neg h67]at hrep'
 have n7:(w.what=7)=False:=eq_false λh=>h67 (.inl h)
 have n6:(w.what=6)=False:=eq_false λh=>h67 (.inr h)
 obtain⟨v8,m8,y1,y2,rfl⟩:=FH (n+33) hx4.mat
 rw[XN hx4.sc]at y1
 have hx8:=hx4.ext y2
 have k0:load1 m8 ⟨m3.n,0,none⟩=some (iv w.what):=(hx8.box (k:=0) rfl).2.load1 0 none
 have k4:load1 m8 ⟨m3.n,4,none⟩=some (.bool w.ex):=(hx8.box (k:=0) rfl).2.load1 4 none
 have one:w.what=2->w.one=false:=λh2=>by
  cases ho:w.one with
  | false=>rfl
  | true=>exact absurd ⟨h2,ho⟩ h21
 cases hsp:ki S1.sc with
 | true =>
  rw[if_pos hsp]at hrep'
  rw[hsp]at y1
  have lr:=dT hx8.mat
  have hzp:Szp S1:=⟨hsz,by have:=hwn.rm.rmw;omega,by have:=hwn.rm.addr;omega,by have:=hwn.rm.data;omega,by have:=hwn.rm.ctrl;omega⟩
  obtain⟨v9,m9,z1,z2,q9,rfl,z3,z4,z5,z6,z7⟩:=XL (n+4) hx8.mb hx8.hp.rl hzp
  have hx9:=(hx8.ext z2).row z9
  obtain⟨mA,p1,hxA,p2⟩:=hx9.fill 0 rfl (n:=9) (l':=qZ q9) (by omega) rfl rfl z3.ok
  have p1':qB 9 (.pointer (some ⟨m9.n,0,none⟩)) (.agg ⟨qZ q9⟩) (Dx.newRow m9 [zS,zS,zS,zS,zS,zS,zI,zI,zI])=some (undef,mA):=p1
  obtain⟨mB,o1,hxB,o2⟩:=hxA.put 0 rfl (o:=6) (v:=iv 4) (by simp[qZ]) rfl
  obtain⟨Q,hQ⟩:∃Q:Mch,Q={ q9 with st:=4 }:=⟨_,rfl⟩
  have hxB:MX m1 mB Wq (Sh (xM lv) gh0) P [(m9.n,qZ Q),(m3.n,qy w),(m.n,z9)] s3 g3 S1:=by rw[hQ];exact hxB
  have lB:loads mB ⟨m9.n,0,none⟩ 9=some (qZ Q):=(hxB.box (k:=0) rfl).2.loads (o:=0) (n:=9) (by simp[qZ])
  have o1:qB 1 (.pointer (some ⟨m9.n,6,none⟩)) (.int .i64 4) mA=some (undef,mB):=o1
  have lQ:∀F,lst Q F=lst q9 F:=λF=>by rw[hQ];unfold lst;split<;>rfl
  have lt9:∀F,F<6->∀B,blk (lst q9 F)=some B->B<m9.n:=λF hF B hB=>(z3.ls F hF).lt B hB
  have mAo:∀X,X≠m9.n->mA.obj X=(Dx.newRow m9 z9).obj X:=by
   obtain⟨m',c1,-,-,c3⟩:=hx9.ow.storeN 0 rfl (o:=0) (n:=9) (l':=qZ q9) (by omega) rfl (by simp) z3.ok
   rw[p1]at c1;cases c1;exact c3
  have mBo:∀X,X≠m9.n->mB.obj X=mA.obj X:=by
   obtain⟨m',c1,-,-,c3⟩:=hxA.ow.store 0 rfl (o:=6) (v:=iv 4) (by simp[qZ]) rfl
   have c1:qB 1 (.pointer (some ⟨m9.n,6,none⟩)) (.int .i64 4) mA=some (undef,m'):=c1
   rw[o1]at c1;cases c1;exact c3
  have rlB:RL mB q9 (vw S1):=(z3.ext (Ext.row m9 z9)).kp (D:=[m9.n]) ((Kp.put p2 mAo (by simp)).trans (Kp.put o2 mBo (by simp))) λF hF B hB hc=>by have:=lt9 F hF B hB;simp at hc;omega
  have rlQ:RL mB Q (jy S1):=⟨λF hF=>by rw[lQ];exact rlB.ls F hF,λF G hF hG hne B hB=>by rw[lQ]at hB ⊢;exact rlB.dis F G hF hG hne B hB⟩
  have n98:m4.n<=m8.n:=y2.n
  obtain⟨mC,i1,hxC,i2⟩:=hxB.fill 2 rfl (n:=9) (l':=qZ Q) (by omega) rfl rfl rlQ.ok
  have mCo:∀X,X≠m.n->mC.obj X=mB.obj X:=by
   obtain⟨m',c1,-,-,c3⟩:=hxB.ow.storeN 2 rfl (o:=0) (n:=9) (l':=qZ Q) (by omega) rfl (by simp) rlQ.ok
   rw[i1]at c1;cases c1;exact c3
  have lC:=(hxC.box (k:=2) rfl).2.loads (o:=0) (n:=9) (s:=none) (by simp[qZ])
  have rlC:RL mC Q (jy S1):=rlQ.kp (D:=[m.n]) (Kp.put i2 mCo (by simp)) λF hF B hB hc=>by
   rw[lQ]at hB
   have:=z4 F hF B hB
   simp at hc;omega
  have s3e:q9.lc=S1.sc.lc:=by rw[z6,<-hx8.sc];rfl
  have s3u:q9.us=S1.sc.us:=by rw[z7,<-hx8.sc];rfl
  have fine:∀{t':Tm},Tm.get 8 t'=.pointer (some ⟨m.n,0,none⟩)->Tm.get 9 t'=iv 0->Ret m (gR ws rs wins fuel m) (kQ [.cell 8 9,.t 9] t' mC):=λ{t'} h8 h9 =>
   fin h8 h9 hrep' hxC.ow.mc lC rlC (λF hF B hB=>by rw[lQ]at hB;have:=z4 F hF B hB;omega) (by rw[hQ];rfl) (by rw[hQ];exact s3e) (by rw[hQ];exact s3u)
  by_cases h2:w.what=2
  .rw[h2]at l0
   rw[one h2]at l5
   simp[t8,t10,d1,x1',l0,l5,y1,qd,lr,z1,p1',o1,lB,i1]
   exact fine (by simp[t8]) (by simp)
  .have n2:(w.what=2)=False:=eq_false h2
   simp[t8,t10,d1,x1',l0,n2,n6,n7,y1,qd,lr,z1,p1',o1,lB,i1]
   exact fine (by simp[t8]) (by simp)
 | false =>
  rw[if_neg (by rw[hsp];simp)]at hrep'
  rw[hsp]at y1
  have m8n:m.n<m8.n:=(hx8.box (k:=1) rfl).1
  obtain⟨q,mR,r1,r2,r3,r4,r5,r6,r7,r8,r9,r10⟩:=hx8.runBox (n+1) hwn hsz 1 rfl rfl m8n
  have n84:=y2.n
  have endRun:zE ws rs wins fuel=jC S1->∀{t':Tm},Tm.get 8 t'=.pointer (some ⟨m.n,0,none⟩)->Tm.get 9 t'=iv 0->Ret m (gR ws rs wins fuel m) (kQ [.cell 8 9,.t 9] t' r1):=λhT t' h8 h9=>fin h8 h9 hT r4 r5 r6 (λF hF B hB=>by have:=r7 F hF B hB;omega) r8 r9 r10
  have hwh:=hWO.what
  have h6:w.what≠6:=λh=>h67 (.inr h)
  have h7:w.what≠7:=λh=>h67 (.inl h)
  rcases (by omega:w.what=5\/w.what=1\/w.what=2\/w.what=3\/w.what=4) with hq | hq | hq | hq | hq
  .rw[if_pos hq]at hrep'
   rw[hq]at l0 k0
   simp[t8,t10,d1,x1',l0,y1,k0,r2,r3]
   exact endRun hrep' (by simp[t8]) (by simp)
  .rw[if_neg (by omega),if_pos hq]at hrep'
   rw[hq]at l0 k0
   have hE8:Ext m m8:=dH E1 hx8.ow.mc hWge hm
   have hr8:=hr'.sees ((Sees.refl hm).ext hE8)
   have ln:=hr8.len
   cases hrs':rs' with
   | nil =>
    rw[hrs']at hrep' ln
    have ln:jW rl'=some zI:=ln
    simp[t8,t10,t1,d1,x1',l0,y1,k0,ln,r2,r3]
    exact endRun hrep' (by simp[t8]) (by simp)
   | cons v rs2 =>
    rw[hrs']at hrep' ln hr' hr8 hv'
    have hvl:v<W64:=hv' v (by simp)
    have lz:(((v::rs2).length:Int)=0)=False:=eq_false (by rw[List.length_cons];omega)
    obtain⟨L,hL⟩:=qh2 ((v::rs2).length)
    rw[<-hL]at ln lz
    have lz2:(L=0)=False:=eq_false (by rw[hL];simp)
    obtain⟨b1,b2⟩:=Rd.at1 (i:=0) (g:=λ(x:Nat)=>uv x) hr8 (r:=v) rfl
    have b2':load1 m8 (adr 1 rl' 0)=some (uv v):=b2 m8 (Sees.refl hx8.mb)
    have b1:jU 1 rl' zI=some (.pointer (some (adr 1 rl' 0))):=b1
    obtain⟨sa,sn,sc,w1,w2,w3,w4⟩:=hr'.drop sr' (λ_=>rfl) (k:=1) (by simp)
    have w1:slV 1 (some (.int .i64 1)) none none rl'=some (.slice sa sn sc):=w1
    obtain⟨u,m7,s5,g5,e1,e2,e3,e4,e5,e6,e7,e8⟩:=fed (v:=v) hx8 (by simp) hvl (λh=>by omega) (by omega) (λ_=>hsp)
    simp[t8,t10,t1,d1,x1',l0,y1,k0,ln,lz,lz2,b1,b2',fh,w1,e1]
    exact hk e3 _ _ ⟨by simp[t8],by simp[t10],s5,g5,_,_,bl',rs2,ws',by simp,by simp[t2],e2,e4,e5,e6,e7,e8,w2,hb',w3,sb',λx hx=>hv' x (by simp[hx]),by rw[<-hsub];exact hrep'.symm⟩
  .rw[if_neg (by omega),if_neg (by omega)]at hrep'
   rw[hq]at l0 k0
   rw[one hq]at l5
   cases hex:w.ex with
   | false =>
    rw[if_neg (by rw[hex];simp)]at hrep'
    rw[hex]at k4
    obtain⟨u,m7,s5,g5,e1,e2,e3,e4,e5,e6,e7,e8⟩:=fed (v:=0) hx8 (by simp) (by decide) (λ_ _=>by omega) (by omega) (λ_=>hsp)
    have e1:(ex Tryz.prog (n+34)).f 23 [mP P,zU] m8=some (u,m7):=e1
    simp[t8,t10,d1,x1',l0,l5,y1,k0,k4,e1]
    exact hk e3 _ _ ⟨by simp[t8],by simp[t10],s5,g5,_,rl',bl',rs',ws',by simp[t1],by simp[t2],e2,e4,e5,e6,e7,e8,hr',hb',sr',sb',hv',by rw[<-hsub];exact hrep'.symm⟩
   | true =>
    rw[if_pos ⟨hq,hex⟩]at hrep'
    rw[hex]at k4
    have hE8:Ext m m8:=dH E1 hx8.ow.mc hWge hm
    have hb8:=hb'.sees ((Sees.refl hm).ext hE8)
    have ln:=hb8.len
    cases hws':ws' with
    | nil =>
     rw[hws']at hrep' ln
     have ln:jW bl'=some zI:=ln
     simp[t8,t10,t2,d1,x1',l0,l5,y1,k0,k4,ln,r2,r3]
     exact endRun hrep' (by simp[t8]) (by simp)
    | cons b ws2 =>
     rw[hws']at hrep' ln hb' hb8
     have lz:(((b::ws2).length:Int)=0)=False:=eq_false (by rw[List.length_cons];omega)
     obtain⟨L,hL⟩:=qh2 ((b::ws2).length)
     rw[<-hL]at ln lz
     have lz2:(L=0)=False:=eq_false (by rw[hL];simp)
     obtain⟨b1,b2⟩:=Rd.at1 (i:=0) (g:=λ(x:Bool)=>.bool x) hb8 (r:=b) rfl
     have b2':load1 m8 (adr 1 bl' 0)=some (.bool b):=b2 m8 (Sees.refl hx8.mb)
     have b1:jU 1 bl' zI=some (.pointer (some (adr 1 bl' 0))):=b1
     obtain⟨sa,sn,sc,w1,w2,w3,w4⟩:=hb'.drop sb' (λ_=>rfl) (k:=1) (by simp)
     have w1:slV 1 (some (.int .i64 1)) none none bl'=some (.slice sa sn sc):=w1
     cases b with
     | true =>
      obtain⟨u,m7,s5,g5,e1,e2,e3,e4,e5,e6,e7,e8⟩:=fed (v:=1) hx8 (by simp) (by decide) (λ_ _=>by omega) (by omega) (λ_=>hsp)
      have e1:(ex Tryz.prog (n+34)).f 23 [mP P,.int .u64 1] m8=some (u,m7):=e1
      simp[t8,t10,t2,d1,x1',l0,l5,y1,k0,k4,ln,lz,lz2,b1,b2',fh,w1,e1]
      exact hk e3 _ _ ⟨by simp[t8],by simp[t10],s5,g5,_,rl',_,rs',ws2,by simp[t1],by simp,e2,e4,e5,e6,e7,e8,hr',w2,sr',w3,hv',by rw[<-hsub];exact hrep'.symm⟩
     | false =>
      obtain⟨u,m7,s5,g5,e1,e2,e3,e4,e5,e6,e7,e8⟩:=fed (v:=0) hx8 (by simp) (by decide) (λ_ _=>by omega) (by omega) (λ_=>hsp)
      have e1:(ex Tryz.prog (n+34)).f 23 [mP P,zU] m8=some (u,m7):=e1
      simp[t8,t10,t2,d1,x1',l0,l5,y1,k0,k4,ln,lz,lz2,b1,b2',fh,w1,e1]
      exact hk e3 _ _ ⟨by simp[t8],by simp[t10],s5,g5,_,rl',_,rs',ws2,by simp[t1],by simp,e2,e4,e5,e6,e7,e8,hr',w2,sr',w3,hv',by rw[<-hsub];exact hrep'.symm⟩
  all_goals
   rw[if_neg (by omega),if_neg (by omega),if_neg (by omega)]at hrep'
   rw[hq]at l0 k0
   obtain⟨u,m7,s5,g5,e1,e2,e3,e4,e5,e6,e7,e8⟩:=fed (v:=0) hx8 (by simp) (by decide) (λ_ _=>by omega) (by omega) (λ_=>hsp)
   have e1:(ex Tryz.prog (n+34)).f 23 [mP P,zU] m8=some (u,m7):=e1
   simp[t8,t10,d1,x1',l0,y1,k0,e1]
   exact hk e3 _ _ ⟨by simp[t8],by simp[t10],s5,g5,_,rl',bl',rs',ws',by simp[t1],by simp[t2],e2,e4,e5,e6,e7,e8,hr',hb',sr',sb',hv',by rw[<-hsub];exact hrep'.symm⟩
end Go.Sx
namespace Go.Sx
open Go.Dx Go.Proofs
set_option maxRecDepth 10000
theorem dP {α β:Type}{m:M}{v:Value}{e:Nat}{f:β->List Value}{g:α->β}{l:List α}(h:Rd m v e f (l.map g)):Rd m v e (λx=>f (g x)) l :=
 ⟨by have:=h.len;rwa [List.length_map]at this,λi r hr=>h.row i (g r) (by rw[qgu,hr];rfl),by have:=h.all;rw[List.length_map,List.flatMap_map]at this;exact this,h.lt⟩
theorem RL.rdF {m:M}{s:Mch}{S:PM}(h:RL m s S){F:Nat}(hF:F<6):Rd m (lst s F) (esz F) wY (rowsOf S F):=Grown.rd kJ (h.ls F hF)
theorem RL.rdEv {m:M}{s:Mch}{S:PM}(h:RL m s S):Rd m s.ev 5 zJ S.ev:=dP (f:=wY) (g:=evR) (h.rdF (F:=0) (by omega))
theorem RL.rdRmw {m:M}{s:Mch}{S:PM}(h:RL m s S):Rd m s.rmw 2 qf S.rmw:=dP (f:=wY) (g:=prR) (h.rdF (F:=1) (by omega))
theorem RL.rdAddr {m:M}{s:Mch}{S:PM}(h:RL m s S):Rd m s.addr 2 qf S.addr:=dP (f:=wY) (g:=prR) (h.rdF (F:=2) (by omega))
theorem RL.rdData {m:M}{s:Mch}{S:PM}(h:RL m s S):Rd m s.data 2 qf S.data:=dP (f:=wY) (g:=prR) (h.rdF (F:=3) (by omega))
theorem RL.rdCtrl {m:M}{s:Mch}{S:PM}(h:RL m s S):Rd m s.ctrl 2 qf S.ctrl:=dP (f:=wY) (g:=prR) (h.rdF (F:=4) (by omega))
structure SameRun (A B:PM):Prop where
 ev:A.ev=B.ev
 outs:A.outs=B.outs
 rmw:A.rmw=B.rmw
 addr:A.addr=B.addr
 data:A.data=B.data
 ctrl:A.ctrl=B.ctrl
theorem SameRun.refl (A:PM):SameRun A A:=⟨rfl,rfl,rfl,rfl,rfl,rfl⟩
end Go.Sx
namespace Go.Sx
open Go.Dx Go.Proofs
set_option maxRecDepth 10000
theorem ln0:jW kW=some zI:=rfl
theorem qck (n:Nat)(m:M):CallV (ex Tryz.prog (n+1)) 72 [kW] m kW:=by
 refine qj df9_ok (by simp) ?_
 simp
 refine qF (c:=Dp) rfl (Ret m _) (λi t m'=>Tm.get 0 t=kW/\Tm.get 3 t=kW/\Tm.get 4 t=iv 0/\m'=m) 0 (by omega) ⟨by simp,by simp,by simp,rfl⟩ (λi t m' k hi hI hk=>?_)
 obtain⟨t0,t3,t4,rfl⟩:=hI
 simp[t0,t3,t4,ln0]
 exact qx (Ext.refl _) (by simp[t3])
theorem QK (n:Nat)(m:M):CallV (ex Tryz.prog (n+2)) 56 [kW,kW] m (.bool true):=by
 refine qj de3_ok (by simp) ?_
 obtain⟨v1,m1,a1,a2,rfl⟩:=qck n m
 simp[a1,ln0]
 refine qF (c:=BX) rfl (Ret m _) (λi t m'=>Tm.get 0 t=kW/\Tm.get 6 t=iv 0/\m'=m1) 0 (by omega) ⟨by simp,by simp,rfl⟩ (λi t m' k hi hI hk=>?_)
 obtain⟨t0,t6,rfl⟩:=hI
 simp[t0,t6,ln0]
 exact qx a2 (by simp)
def zM:List Value:=[zS,zI,zU,zS,zU,zS,zU,zS,zU,zS,zU,zS,zU,zS,zU,zS,zU,zS,zU,zS,zU,zS,zU,zS,zU,zS,zU,zS,zU,zS,zU,zS,zU,zS,zU,zS,zU,zS,zU,zS,zU,zS,zU,zS,zU,zS,zU,zS,zU,zS,zU,zS,zU,zS,zU,zS,zU,zS,zU,zS,zU,zS,zU,zS,zU,zS,.bool false,.bool false,.bool false,.bool false,zS,zS,.bool false,zI,zI,zI,zI,zI,zS,zS,zS,zS,zS,zS,zI,.bool false,zI,zI,zI,zU,.bool false,.bool false,zS,zS,zI]
theorem told_0 (n:Nat){m:M}(hm:m.base<=m.n):CallV (ex Tryz.prog (n+3)) 32 [.agg ⟨z9⟩,.agg ⟨zM⟩,iv 0,iv 0] m (.bool true):=by
 refine qj dc0_ok (by simp) ?_
 have st:=((St.nil hm (Ext.refl m)).row z9).row zM
 obtain⟨m0,hm0⟩:=qh2 (Dx.newRow m z9)
 have hb1:jv (.agg ⟨z9⟩) m=some (.pointer (some ⟨m.n,0,none⟩),m0):=by rw[hm0];rfl
 have hb1:jv (.agg ⟨[zS,zS,zS,zS,zS,zS,zI,zI,zI]⟩) m=some (.pointer (some ⟨m.n,0,none⟩),m0):=hb1
 rw[<-hm0]at st
 obtain⟨m1,hm1⟩:=qh2 (Dx.newRow m0 zM)
 have hb2:jv (.agg ⟨zM⟩) m0=some (.pointer (some ⟨m0.n,0,none⟩),m1):=by rw[hm1];rfl
 rw[<-hm1]at st
 have la:∀{mq:M},St m mq [(m0.n,zM),(m.n,z9)]->∀o,load1 mq ⟨m.n,o,none⟩=z9[o]?:=λst o=>(st.get 1 rfl).2.2.load1 o none
 have lb:∀{mq:M},St m mq [(m0.n,zM),(m.n,z9)]->∀o,load1 mq ⟨m0.n,o,none⟩=zM[o]?:=λst o=>(st.get 0 rfl).2.2.load1 o none
 have a0:load1 m1 ⟨m.n,0,none⟩=some zS:=la st 0
 have a5:load1 m1 ⟨m.n,5,none⟩=some zS:=la st 5
 have a6:load1 m1 ⟨m.n,6,none⟩=some zI:=la st 6
 have a7:load1 m1 ⟨m.n,7,none⟩=some zI:=la st 7
 have a8:load1 m1 ⟨m.n,8,none⟩=some zI:=la st 8
 have b78:load1 m1 ⟨m0.n,78,none⟩=some zS:=lb st 78
 have b83:load1 m1 ⟨m0.n,83,none⟩=some zS:=lb st 83
 have b84:load1 m1 ⟨m0.n,84,none⟩=some zI:=lb st 84
 have a1:load1 m1 ⟨m.n,1,none⟩=some zS:=la st 1
 have b79:load1 m1 ⟨m0.n,79,none⟩=some zS:=lb st 79
 obtain⟨u1,n1,f1,g1,rfl⟩:=QK n m1
 have S1:=st.step g1
 obtain⟨u2,n2,f2,g2,rfl⟩:=QK n n1
 have S2:=S1.step g2
 obtain⟨u3,n3,f3,g3,rfl⟩:=QK n n2
 have S3:=S2.step g3
 obtain⟨u4,n4,f4,g4,rfl⟩:=QK n n3
 have S4:=S3.step g4
 have c2:load1 n1 ⟨m.n,2,none⟩=some zS:=la S1 2
 have d80:load1 n1 ⟨m0.n,80,none⟩=some zS:=lb S1 80
 have c3:load1 n2 ⟨m.n,3,none⟩=some zS:=la S2 3
 have d81:load1 n2 ⟨m0.n,81,none⟩=some zS:=lb S2 81
 have c4:load1 n3 ⟨m.n,4,none⟩=some zS:=la S3 4
 have d82:load1 n3 ⟨m0.n,82,none⟩=some zS:=lb S3 82
 have f1:(ex Tryz.prog (n+2)).f 56 [zS,zS] m1=some (.bool true,n1):=f1
 have f2:(ex Tryz.prog (n+2)).f 56 [zS,zS] n1=some (.bool true,n2):=f2
 have f3:(ex Tryz.prog (n+2)).f 56 [zS,zS] n2=some (.bool true,n3):=f3
 have f4:(ex Tryz.prog (n+2)).f 56 [zS,zS] n3=some (.bool true,n4):=f4
 simp[hb1,hb2,a0,a5,a6,a7,a8,b78,b83,b84,ln0]
 refine qF (c:=BP) rfl (Ret m _) (λi t m'=>Tm.get 4 t=.pointer (some ⟨m.n,0,none⟩)/\Tm.get 5 t=.pointer (some ⟨m0.n,0,none⟩)/\Tm.get 9 t=iv 0/\m'=m1) 0 (by omega) ⟨by simp,by simp,by simp,rfl⟩ (λi t m' k hi hI hk=>?_)
 obtain⟨t4,t5,t9,rfl⟩:=hI
 simp[t4,t5,t9,a0,ln0]
 refine qF (c:=BQ) rfl (Ret m _) (λi t mm=>Tm.get 4 t=.pointer (some ⟨m.n,0,none⟩)/\Tm.get 5 t=.pointer (some ⟨m0.n,0,none⟩)/\Tm.get 11 t=iv 0/\mm=m') 0 (by omega) ⟨by simp[t4],by simp[t5],by simp,rfl⟩ (λi t mm k hi hI hk=>?_)
 obtain⟨t4,t5,t11,rfl⟩:=hI
 simp[t4,t5,t11,a5,ln0,a1,b79,f1,c2,d80,f2,c3,d81,f3,c4,d82,f4]
 exact qx S4.ext (by simp)
theorem qdo (n:Nat){m:M}(hm:m.base<=m.n):CallV (ex Tryz.prog (n+4)) 17 [.agg ⟨z9⟩] m (.bool true):=by
 refine qj da8_ok (by simp) ?_
 have st:=(St.nil hm (Ext.refl m)).row z9
 obtain⟨m0,hm0⟩:=qh2 (Dx.newRow m z9)
 have hb1:jv (.agg ⟨z9⟩) m=some (.pointer (some ⟨m.n,0,none⟩),m0):=by rw[hm0];rfl
 have hb1:jv (.agg ⟨[zS,zS,zS,zS,zS,zS,zI,zI,zI]⟩) m=some (.pointer (some ⟨m.n,0,none⟩),m0):=hb1
 rw[<-hm0]at st
 have l9:loads m0 ⟨m.n,0,none⟩ 9=some z9:=(st.get 0 rfl).2.2.loads (o:=0) (n:=9) (by simp)
 have bu:wN [zS,zI,zU,zS,zU,zS,zU,zS,zU,zS,zU,zS,zU,zS,zU,zS,zU,zS,zU,zS,zU,zS,zU,zS,zU,zS,zU,zS,zU,zS,zU,zS,zU,zS,zU,zS,zU,zS,zU,zS,zU,zS,zU,zS,zU,zS,zU,zS,zU,zS,zU,zS,zU,zS,zU,zS,zU,zS,zU,zS,zU,zS,zU,zS,zU,zS,.bool false,.bool false,.bool false,.bool false,zS,zS,.bool false,zI,zI,zI,zI,zI,zS,zS,zS,zS,zS,zS,zI,.bool false,zI,zI,zI,zU,.bool false,.bool false,zS,zS,zI] []=some (.agg ⟨zM⟩):=rfl
 obtain⟨u,m1,a1,a2,rfl⟩:=told_0 n st.sees.base
 have a1:(ex Tryz.prog (n+3)).f 32 [.agg ⟨z9⟩,.agg ⟨zM⟩,zI,zI] m0=some (.bool true,m1):=a1
 simp[hb1,qd,l9,bu,a1]
 exact qx (st.ext.trans a2) (by simp)
end Go.Sx
namespace Go.Sx
open Go.Dx Go.Proofs
set_option maxRecDepth 10000
structure Pre (A B:PM):Prop where
 ev:A.ev <+: B.ev
 outs:A.outs <+: B.outs
 us:A.sc.us<=B.sc.us
theorem Pre.refl (A:PM):Pre A A:=⟨List.prefix_rfl,List.prefix_rfl,Int.le_refl _⟩
theorem Pre.trans {A B C:PM}(h:Pre A B)(k:Pre B C):Pre A C:=⟨h.ev.trans k.ev,h.outs.trans k.outs,Int.le_trans h.us k.us⟩
theorem Pre.of {A B:PM}(h1:B.ev=A.ev)(h2:B.outs=A.outs)(h3:B.sc.us=A.sc.us):Pre A B:=⟨by rw[h1];exact List.prefix_rfl,by rw[h2];exact List.prefix_rfl,by rw[h3];exact Int.le_refl _⟩
structure Eqv (A B:PM):Prop where
 ev:B.ev=A.ev
 outs:B.outs=A.outs
 us:B.sc.us=A.sc.us
theorem Eqv.pre {A B:PM}(h:Eqv A B):Pre A B:=.of h.ev h.outs h.us
theorem Eqv.trans {A B C:PM}(h:Eqv A B)(k:Eqv B C):Eqv A C:=⟨k.ev.trans h.ev,k.outs.trans h.outs,k.us.trans h.us⟩
theorem OwnS.eqv {A B:PM}(h:OwnS A B):Eqv A B:=⟨h.ev,h.outs,h.us⟩
theorem StepS.eqv {A B:PM}(h:StepS A B):Eqv A B:=⟨h.ev,h.outs,h.us⟩
theorem QF (S:PM):Eqv S (jC S):=⟨rfl,rfl,rfl⟩
theorem Gr (S:PM):Eqv S (jy S):=⟨rfl,rfl,rfl⟩
theorem yR (S:PM):Eqv S (jL S):=⟨rfl,rfl,rfl⟩
theorem YO (w:Wnt)(b:Nat)(S:PM):Eqv S (exP w b S):=by unfold exP;split<;>exact⟨rfl,rfl,rfl⟩
theorem KF (S:PM)(i:Ins)(w:Wnt)(v b:Nat):Eqv S (beginP S i w v b):=by
 unfold beginP
 simp only
 split
 .have:=(qR S (if i.op<=39 then i.rm.toNat else i.rd.toNat) v [b]).eqv
  exact⟨this.ev,this.outs,this.us⟩
 .exact (qR _ _ _ _).eqv
theorem dN (S:PM)(ad:List Nat)(e:EvR):Pre S (kG S ad e):=⟨List.prefix_append _ _,List.prefix_rfl,Int.le_refl _⟩
theorem GY (S:PM)(i:Ins)(w:Wnt)(v b:Nat):Pre S (storeP S i w v b):=by
 have two:∀S1:PM,S1.ev=S.ev->S1.outs=S.outs->S1.sc.us=S.sc.us->Pre S (dataP (kG S1 (S1.t i.rn.toNat) ⟨0,2,w.loc,w.val,w.mode⟩) (S1.t i.rd.toNat) b):=λS1 h1 h2 h3=>(Pre.of (A:=S) h1 h2 h3).trans ((dN S1 (S1.t i.rn.toNat) ⟨0,2,w.loc,w.val,w.mode⟩).trans (Eqv.pre ⟨rfl,rfl,rfl⟩))
 unfold storeP
 cases w.ex with
 | false=>exact two S rfl rfl rfl
 | true =>
  simp only[if_true]
  split
  .exact (Eqv.pre ⟨rfl,rfl,rfl⟩:Pre S { S with sc:={ S.sc with opn:=false } }).trans (qR _ i.rm.toNat 1 []).eqv.pre
  .refine (two { S with sc:={ S.sc with opn:=false } } rfl rfl rfl).trans (Pre.trans (Eqv.pre ?_) (qR _ _ _ _).eqv.pre)
   exact⟨rfl,rfl,rfl⟩
theorem qeu (S:PM)(b:Nat):Pre S (endP S b):=by
 unfold endP
 cases S.half with
 | none=>exact Pre.refl S
 | some h =>
  have k:=dN { S with half:=none } h.ad ⟨0,2,h.w.loc,h.w.val,h.w.mode⟩
  exact⟨k.ev,k.outs,k.us⟩
theorem qfm {S:PM}(h:WF S):IntKind.i64.wrap (S.sc.us+1)=S.sc.us+1:=by
 obtain⟨a,h1,h2⟩:=h.us
 have:=h.ev
 rw[h1,wrap64 _ (by omega) (by omega)]
theorem qce {S:PM}(h:WF S)(i:Ins)(w:Wnt)(v:Nat):Pre S (loadP S i w v)/\(loadP S i w v).sc.us=S.sc.us+1:=by
 have e:(loadP S i w v).sc.us=IntKind.i64.wrap (S.sc.us+1):=rfl
 rw[qfm h]at e
 exact⟨⟨List.prefix_append _ _,List.prefix_rfl,by omega⟩,e⟩
theorem qda (S:PM)(i:Ins)(w:Wnt)(v b:Nat):(storeP S i w v b).sc.us=S.sc.us:=by
 unfold storeP
 cases w.ex with
 | false=>rfl
 | true =>
  simp only[if_true]
  split
  .exact (qR _ _ _ _).us
  .exact (qR _ _ _ _).us
theorem Gt {S:PM}(h:WF S)(i:Ins)(w:Wnt)(v:Nat):Pre S (kR S i w v)/\(kR S i w v).sc.us=if w.what=1 then S.sc.us+1 else S.sc.us:=by
 unfold kR
 by_cases h1:w.what=1
 .obtain⟨p1,p2⟩:=qce h i w v
  simp only[if_pos h1]
  split
  .split
   .have e:=KF (loadP S i w v) i w v S.ev.length
    exact⟨p1.trans ⟨by show _ <+: (beginP _ _ _ _ _).ev;rw[e.ev];exact List.prefix_rfl,by show _ <+: (beginP _ _ _ _ _).outs;rw[e.outs];exact List.prefix_rfl,Int.le_of_eq e.us.symm⟩,e.us.trans p2⟩
   .have e:=((KF (loadP S i w v) i w v S.ev.length).trans (YO w S.ev.length _)).trans (yR _)
    exact⟨p1.trans e.pre,e.us.trans p2⟩
  .have e:=((qR (loadP S i w v) i.rd.toNat v [S.ev.length]).eqv.trans (YO w S.ev.length _)).trans (yR _)
   exact⟨p1.trans e.pre,e.us.trans p2⟩
 by_cases h2:w.what=2
 .simp only[if_neg h1,if_pos h2]
  split
  .refine⟨qeu _ _,?_⟩
   unfold endP
   cases S.half<;>rfl
  .exact⟨(GY _ _ _ _ _).trans (yR _).pre,qda _ _ _ _ _⟩
 by_cases h3:w.what=3
 .simp only[if_neg h1,if_neg h2,if_pos h3]
  exact⟨(dN S [] _).trans (yR _).pre,rfl⟩
 by_cases h4:w.what=4
 .simp only[if_neg h1,if_neg h2,if_neg h3,if_pos h4]
  exact⟨⟨List.prefix_rfl,List.prefix_append _ _,Int.le_refl _⟩,rfl⟩
 .simp only[if_neg h1,if_neg h2,if_neg h3,if_neg h4]
  exact⟨(yR _).pre,rfl⟩
theorem qdr {S:PM}(h:WF S){w:Wnt}(hl:look S=some w)(v:Nat):Pre S (wE S v).1/\(wE S v).1.sc.us<=S.sc.us+(if w.what=1 then 1 else 0):=by
 unfold wE
 rw[xm hl]
 unfold vV
 simp only
 split
 .exact⟨Pre.refl S,by show S.sc.us<=_;split<;>omega⟩
 .cases hf:fetch S with
  | none=>exact⟨Pre.refl S,by show S.sc.us<=_;split<;>omega⟩
  | some i =>
   obtain⟨a,b⟩:=Gt h i w v
   refine⟨a,?_⟩
   show (kR S i w v).sc.us<=_
   rw[b];split<;>omega
theorem WW:∀(k:Nat) (S:PM) (rs:List Nat) (ws:List Bool),WF S->(∀v∈rs,v<W64)->Pre S (qC k S rs ws)/\(qC k S rs ws).sc.us<=S.sc.us+rs.length
 | 0,S,rs,ws,h,hv=>⟨Pre.refl S,by show S.sc.us<=_;omega⟩
 | k+1,S,rs,ws,h,hv=>by
  obtain⟨hl,hw,hs⟩:=kx h
  show Pre S (wH (qC k) (wu S).1 (wu S).2 rs ws)/\(wH (qC k) (wu S).1 (wu S).2 rs ws).sc.us<=_
  obtain⟨S1,hS1⟩:=qh2 ((wu S).1)
  obtain⟨w,hwd⟩:=qh2 ((wu S).2)
  rw[<-hS1,<-hwd]at hl ⊢
  rw[<-hS1]at hw hs
  have e1:=hs.eqv
  have stop:∀{R:PM},Eqv S1 R->Pre S R/\R.sc.us<=S.sc.us+rs.length:=λe=>⟨e1.pre.trans e.pre,by rw[e.us,e1.us];omega⟩
  have on:∀(v:Nat) (rs':List Nat) (ws':List Bool),v<W64->(∀x∈rs',x<W64)->((if w.what=1 then 1 else 0)+rs'.length<=rs.length)->Pre S (qC k (wE S1 v).1 rs' ws')/\(qC k (wE S1 v).1 rs' ws').sc.us<=S.sc.us+rs.length:=λv rs' ws' hv1 hv2 hle=>by
   obtain⟨a,b⟩:=qdr hw hl v
   obtain⟨c,d⟩:=WW k (wE S1 v).1 rs' ws' (vU hw hv1) hv2
   have:=e1.us
   refine⟨(e1.pre.trans a).trans c,?_⟩
   split at b<;>(rename_i hq;simp only[hq,if_true,if_false]at hle;omega)
  have n1:¬w.what=1->(if w.what=1 then 1 else 0)+rs.length<=rs.length:=λh=>by rw[if_neg h];omega
  unfold wH
  by_cases c1:w.what=2/\w.one=true
  .rw[if_pos c1];exact on 0 rs ws (by decide) hv (n1 (by omega))
  rw[if_neg c1]
  by_cases c2:w.what=7\/w.what=6
  .rw[if_pos c2];exact stop (QF S1)
  rw[if_neg c2]
  by_cases c3:ki S1.sc=true
  .rw[if_pos c3];exact stop (Gr S1)
  rw[if_neg c3]
  by_cases c4:w.what=5
  .rw[if_pos c4];exact stop (QF S1)
  rw[if_neg c4]
  by_cases c5:w.what=1
  .rw[if_pos c5]
   cases rs with
   | nil=>exact stop (QF S1)
   | cons v rs'=>exact on v rs' ws (hv v (by simp)) (λx hx=>hv x (by simp[hx])) (by rw[if_pos c5,List.length_cons];omega)
  rw[if_neg c5]
  by_cases c6:w.what=2/\w.ex=true
  .rw[if_pos c6]
   cases ws with
   | nil=>exact stop (QF S1)
   | cons b ws'=>exact on _ rs ws' (by cases b<;>decide) hv (n1 c5)
  .rw[if_neg c6];exact on 0 rs ws (by decide) hv (n1 c5)
end Go.Sx
namespace Go.Sx
open Go.Dx Go.Proofs
set_option maxRecDepth 10000
theorem JQ {S:PM}{w:Wnt}(h:look S=some w)(hw:w.what=2->w.one=true->S.half≠none)(v:Nat):(wE S v).1.sc.limit=S.sc.limit:=by
 unfold wE
 rw[xm h]
 unfold vV
 simp only
 split
 .rfl
 .cases fetch S with
  | none=>rfl
  | some i=>exact (Wo S i w v hw).1
end Go.Sx
namespace Go.Sx
open Go.Dx Go.Proofs
set_option maxRecDepth 10000
theorem yA (I:PM->Prop)(hstep:∀S,WF S->I S->I (wu S).1)
  (hfeed:∀S w v,WF S->I S->look S=some w->w.what<5->v<W64->(w.what=2->w.ex=true->v<=1)->(¬(w.what=2/\w.one=true)->ki S.sc=false)->I (wE S v).1) :
  ∀(k:Nat) (S:PM) (rs:List Nat) (ws:List Bool),WF S->I S->(∀v∈rs,v<W64)->∃T,WF T/\I T/\(qC k S rs ws=T\/qC k S rs ws=jC T\/qC k S rs ws=jy T)
 | 0,S,rs,ws,h,hi,hv=>⟨S,h,hi,.inl rfl⟩
 | k+1,S,rs,ws,h,hi,hv=>by
  obtain⟨hl,hw,hs⟩:=kx h
  have hi1:=hstep S h hi
  show ∃T,WF T/\I T/\(wH (qC k) (wu S).1 (wu S).2 rs ws=T\/wH (qC k) (wu S).1 (wu S).2 rs ws=jC T\/wH (qC k) (wu S).1 (wu S).2 rs ws=jy T)
  obtain⟨S1,hS1⟩:=qh2 ((wu S).1)
  obtain⟨w,hwd⟩:=qh2 ((wu S).2)
  have hWO:=jd hw hl
  rw[<-hS1,<-hwd]at hl hWO ⊢
  rw[<-hS1]at hw hs hi1
  have wh:=hWO.what
  have on:∀(v:Nat) (rs':List Nat) (ws':List Bool),v<W64->(∀x∈rs',x<W64)->w.what<5->(w.what=2->w.ex=true->v<=1)->(¬(w.what=2/\w.one=true)->ki S1.sc=false) ->
    ∃T,WF T/\I T/\(qC k (wE S1 v).1 rs' ws'=T\/qC k (wE S1 v).1 rs' ws'=jC T\/qC k (wE S1 v).1 rs' ws'=jy T):=λv rs' ws' h1 h2 h3 h4 h5 =>
   yA I hstep hfeed k (wE S1 v).1 rs' ws' (vU hw h1) (hfeed S1 w v hw hi1 hl h3 h1 h4 h5) h2
  unfold wH
  by_cases c1:w.what=2/\w.one=true
  .rw[if_pos c1];exact on 0 rs ws (by decide) hv (by omega) (λ_ _=>by omega) (λh=>absurd c1 h)
  rw[if_neg c1]
  by_cases c2:w.what=7\/w.what=6
  .rw[if_pos c2];exact⟨S1,hw,hi1,.inr (.inl rfl)⟩
  rw[if_neg c2]
  by_cases c3:ki S1.sc=true
  .rw[if_pos c3];exact⟨S1,hw,hi1,.inr (.inr rfl)⟩
  have c3':ki S1.sc=false:=by simpa using c3
  rw[if_neg c3]
  by_cases c4:w.what=5
  .rw[if_pos c4];exact⟨S1,hw,hi1,.inr (.inl rfl)⟩
  rw[if_neg c4]
  by_cases c5:w.what=1
  .rw[if_pos c5]
   cases rs with
   | nil=>exact⟨S1,hw,hi1,.inr (.inl rfl)⟩
   | cons v rs'=>exact on v rs' ws (hv v (by simp)) (λx hx=>hv x (by simp[hx])) (by omega) (λh=>by omega) (λ_=>c3')
  rw[if_neg c5]
  by_cases c6:w.what=2/\w.ex=true
  .rw[if_pos c6]
   cases ws with
   | nil=>exact⟨S1,hw,hi1,.inr (.inl rfl)⟩
   | cons b ws'=>exact on _ rs ws' (by cases b<;>decide) hv (by omega) (λ_ _=>by cases b<;>simp) (λ_=>c3')
  .rw[if_neg c6];exact on 0 rs ws (by decide) hv (by omega) (λ_ _=>by omega) (λ_=>c3')
def DnI (L:Int)(S:PM):Prop:=DnB S/\S.sc.limit=L/\mu S+S.outs.length<=2*L
theorem DnI.step {L:Int}{S:PM}(h:WF S)(k:DnI L S):DnI L (wu S).1:=by
 obtain⟨a,b⟩:=bL 100001 S k.1
 have hs:=(kx h).2.2
 have b:mu (wu S).1<=mu S:=b
 have c:=k.2.2
 exact⟨a,by rw[hs.limit];exact k.2.1,by rw[hs.outs];omega⟩
theorem DnI.feed {L:Int}(hL:0<=L){S:PM}{w:Wnt}{v:Nat}(h:WF S)(k:DnI L S)(hl:look S=some w)(h5:w.what<5)(hv:w.what=2->w.ex=true->v<=1)(hs:¬(w.what=2/\w.one=true)->ki S.sc=false):DnI L (wE S v).1:=by
 obtain⟨a,b⟩:=ZE h hl k.1 h5 hv hs (by rw[k.2.1];exact hL)
 have hWO:=jd h hl
 have c:=Ws h v
 have d:=k.2.2
 refine⟨a,?_,by omega⟩
 rw[JQ hl (λh1 h2 e=>by obtain⟨x,hx⟩:=hWO.one2 h1 h2;rw[hx]at e;cases e)]
 exact k.2.1
theorem qcu (l:List (Nat × Nat)):(yD l).length=l.length:=(jZ toP l).1.length_eq
theorem qd1 {S:PM}(h1:S.ev.length<=256)(h2:S.rmw.length<=100000)(h3:S.addr.length<=100000)(h4:S.data.length<=100000)(h5:S.ctrl.length<=100000)(h6:S.outs.length*8<=most):Szp S :=
 ⟨λF hF=>by
  rcases six hF with rfl | rfl | rfl | rfl | rfl | rfl
  .show (rowsOf S 0).length*40<=_;rw[xn];unfold most;omega
  .show (rowsOf S 1).length*16<=_;rw[yc];unfold most;omega
  .show (rowsOf S 2).length*16<=_;rw[fP];unfold most;omega
  .show (rowsOf S 3).length*16<=_;rw[fQ];unfold most;omega
  .show (rowsOf S 4).length*16<=_;rw[fR];unfold most;omega
  .show (rowsOf S 5).length*8<=_;rw[fS];exact h6,by omega,by omega,by omega,by omega⟩
theorem szp_wf {S:PM}(h:WF S)(ho:S.outs.length*8<=most):Szp S:=qd1 h.ev h.rm.rmw h.rm.addr h.rm.data h.rm.ctrl ho
theorem Bp (i:Nat)(S:PM):(xN i S).rmw.length=S.rmw.length/\(xN i S).addr.length=S.addr.length/\(xN i S).data.length=S.data.length/\(xN i S).ctrl.length=S.ctrl.length:=by
 unfold xN
 simp only
 refine⟨?_,?_,?_,?_⟩<;>(split<;>simp[qcu])
theorem Kc {S:PM}(h:WF S)(ho:S.outs.length*8<=most):Szp (vw S):=by
 obtain⟨a,b,c,d⟩:=Bp 4 S
 exact qd1 h.ev (by show (xN 4 S).rmw.length<=_;rw[a];exact h.rm.rmw) (by show (xN 4 S).addr.length<=_;rw[b];exact h.rm.addr) (by show (xN 4 S).data.length<=_;rw[c];exact h.rm.data) (by show (xN 4 S).ctrl.length<=_;rw[d];exact h.rm.ctrl) ho
theorem Szp.of {A B:PM}(h:Szp A)(k:∀F,F<6->rowsOf B F=rowsOf A F)(h1:B.rmw=A.rmw)(h2:B.addr=A.addr)(h3:B.data=A.data)(h4:B.ctrl=A.ctrl):Szp B :=
 ⟨λF hF=>by rw[k F hF];exact h.sz F hF,by rw[h1];exact h.rmw,by rw[h2];exact h.addr,by rw[h3];exact h.data,by rw[h4];exact h.ctrl⟩
theorem qfl {S:PM}(h:WF S)(ho:S.outs.length*8<=most):Szp (jC S):=(Kc h ho).of (λF hF=>bX rfl rfl rfl rfl rfl rfl F hF) rfl rfl rfl rfl
theorem Bq {S:PM}(h:WF S)(ho:S.outs.length*8<=most):Szp (jy S):=(Kc h ho).of (λF hF=>bX rfl rfl rfl rfl rfl rfl F hF) rfl rfl rfl rfl
theorem YM {ws:List Nat}{fuel:Int}(hf:0<=fuel/\fuel<=100000):DnI fuel (yZ ws fuel):=by
 refine⟨⟨by show (0:Int)<=0/\(0:Int)<=fuel;omega,hf.2⟩,rfl,?_⟩
 show 2*(fuel-0)+(if (none:Option Hf)=none then 0 else 1)+(([]:List Nat).length:Int)<=_
 simp
theorem Yd {ws:List Nat}(he:xD ws=0)(rs:List Nat)(wins:List Bool){fuel:Int}(hf:0<=fuel/\fuel<=100000)(hv:∀v∈rs,v<W64) :
  ∃T,WF T/\T.outs.length<=200000/\(zE ws rs wins fuel=T\/zE ws rs wins fuel=jC T\/zE ws rs wins fuel=jy T):=by
 obtain⟨T,h1,h2,h3⟩:=yA (DnI fuel) (λS h k=>k.step h) (λS w v h k hl h5 _ hv1 hs=>k.feed hf.1 h hl h5 hv1 hs) 200001 (yZ ws fuel) rs wins (fK he fuel) (YM hf) hv
 refine⟨T,h1,?_,h3⟩
 obtain⟨a,b,c⟩:=h2
 have:=a.dn
 unfold mu at c
 split at c<;>omega
theorem Ye {ws:List Nat}(he:xD ws=0)(rs:List Nat)(wins:List Bool){fuel:Int}(hf:0<=fuel/\fuel<=100000)(hv:∀v∈rs,v<W64):Szp (zE ws rs wins fuel):=by
 obtain⟨T,h1,h2,h3⟩:=Yd he rs wins hf hv
 have ho:T.outs.length*8<=most:=by unfold most;omega
 rcases h3 with e | e | e
 .rw[e];exact szp_wf h1 ho
 .rw[e];exact qfl h1 ho
 .rw[e];exact Bq h1 ho
end Go.Sx
namespace Go.Dx
open Go.RowKit
noncomputable section
def bI (ins:List (List Value)):M:=M.rec (λh nx _ _=>⟨h,nx,ins.length,[]⟩) (jI ins M.empty)
def Yp (σ:List Nat)(n:Nat)(i:Nat):Nat:=bif Nat.blt i σ.length then σ.getD i 0 else n+(i-σ.length)
def Yj (k:Nat)(rows:List (Nat × List Value))(i:Nat):Nat:=bif Nat.blt i k then i else sig rows (i-k)
def vG (σ:List Nat)(rows:List (Nat × List Value))(m:M):M:=jI (rows.map λp=>p.2.map (ren (Yp σ m.n))) m
def YA (k:Nat):List Nat->Bool
 | []=>true
 | a::l=>Nat.ble k a&&YA k l
def chkM (ins:List (List Value))(rows:List (Nat × List Value))(v0:Value)(o:Option (Value × M)):Bool:=match o with
 | some (v,m1)=>m1.log.isEmpty&&YA ins.length (rows.map (·.1))&&eq2 (Yj ins.length rows) (ins.length+rows.length) v0 v&&dS (Yj ins.length rows) (ins.length+rows.length) m1 rows&&dJ (rows.map (·.1))
 | none=>false
def okM (pargs:List Value)(ins:List (List Value))(σ:List Nat)(args:List Value)(m:M):Bool :=
 Nat.beq σ.length ins.length&&eqL1 (λi=>σ.getD i 0) ins.length pargs args&&dS (λi=>σ.getD i 0) ins.length m (σ.zip ins)&&dJ σ
theorem gG (ins:List (List Value)):(bI ins).n=ins.length:=by
 have h:(bI ins).n=(jI ins M.empty).n:=by unfold bI;cases jI ins M.empty;rfl
 rw[h,bx];show 0+ins.length=_;omega
theorem WH (ins:List (List Value))(X:Nat):(bI ins).obj X=(ins[X]?).map (λr=>.cells (mkn .lf 0 r)):=by
 have h:(bI ins).obj X=(jI ins M.empty).obj X:=by unfold bI;cases jI ins M.empty;rfl
 rw[h,xj]
 show (if 0<=X/\X<0+ins.length then (ins[X-0]?).map (λr=>DObj.cells (mkn .lf 0 r)) else _)=_
 by_cases hX:X<ins.length
 .rw[if_pos (by omega)];rfl
 .rw[if_neg (by omega),qgz (by omega)];exact A3.get_lf none X
theorem GG (ins:List (List Value)):(bI ins).base=ins.length:=by unfold bI;cases jI ins M.empty;rfl
theorem Kq {k:Nat}:∀{l:List Nat},YA k l=true->∀(i a:Nat),l[i]?=some a->k<=a
 | [],_,i,a,h=>by simp at h
 | b::l,h,i,a,hi=>by
  change (Nat.ble k b&&YA k l)=true at h
  rw[qgj]at h
  cases i with
  | zero=>simp at hi;subst hi;exact qgm h.1
  | succ i=>exact Kq h.2 i a (by simpa using hi)
theorem Yc (x:Value):ren (λi=>i) x=x:=by
 unfold ren
 split<;>rfl
theorem qey (x:Value):Jg (λi=>i) x=x:=by
 unfold Jg
 split
 .rename_i cs
  have:cs.toList.map (ren λi=>i)=cs.toList:=by
   rw[List.map_congr_left (g:=λx=>x) λx _=>Yc x];simp
  rw[this]
 .exact Yc _
theorem blt_t {i k:Nat}(h:i<k):Nat.blt i k=true:=qgl h
theorem blt_f {i k:Nat}(h:¬i<k):Nat.blt i k=false:=by
 cases q:Nat.blt i k with
 | false=>rfl
 | true=>exact absurd (qgm q) h
theorem XI {φ φ':Phi}{σ τ:Nat->Nat}{r:Nat}(hφ:∀i l,i<r->φ (σ i)=some l->φ' (τ i)=some l){w:World}{c:C}{row:List Value}(hok:bW σ r c 0 row=true){l:Loc}(h:ObjRel φ w (.cells c) l) :
  ObjRel φ' w (.cells (mkn .lf 0 (row.map (ren τ)))) l:=by
 obtain⟨cs,e,fz,k1,k2,k3,k4⟩:=h
 have hsub:∀j x,A.get none j (mkn .lf 0 (row.map (ren τ)))=some x->∃y,A.get none j c=some y:=λj x hx=>by
  rw[jF,A.get_lf]at hx
  split at hx
  .simp only[Nat.sub_zero,qgu]at hx
   cases hg:row[j]? with
   | none=>rw[hg]at hx;cases hx
   | some y =>
    obtain⟨z,e1,_⟩:=jn hok j y hg
    rw[Nat.zero_add]at e1
    exact⟨z,e1⟩
  .cases hx
 have hfc:FzC l.d cs.size fz (mkn .lf 0 (row.map (ren τ))):=⟨λha hd=>k3.1 (by
   cases hrw:row with
   | nil=>rw[hrw]at ha;cases ha
   | cons y ys =>
    obtain⟨z,e1,_⟩:=jn hok 0 y (by rw[hrw];rfl)
    exact dk e1) hd,λj x hx=>let ⟨y,hy⟩:=hsub j x hx;k3.2 j y hy⟩
 refine⟨cs,e,fz,k1,k2,hfc,λj x hx=>?_⟩
 rw[jF,A.get_lf]at hx
 split at hx
 .rename_i hj
  simp only[Nat.sub_zero,qgu]at hx
  cases hg:row[j]? with
  | none=>rw[hg]at hx;cases hx
  | some y =>
   rw[hg]at hx
   cases hx
   obtain⟨z,e1,e2,e3⟩:=jn hok j y hg
   rw[Nat.zero_add]at e1
   obtain⟨q1,v'',q2,q3⟩:=k4 j z e1
   refine⟨q1,v'',q2,?_⟩
   rw[<-e3]at q3
   exact bT hφ e2 q3
 .cases hx
theorem XH {σ:Nat->Nat}{r:Nat}{row:List Value}(hok:bW σ r .lf 0 row=true):row=[]:=by
 cases row with
 | nil=>rfl
 | cons x l =>
  obtain⟨y,hy,_⟩:=jn hok 0 x rfl
  rw[A.get_lf]at hy;cases hy
theorem Gw {P:Program}{x:Ex}(hx:xe P x){g:Nat}{pargs args:List Value}{v0:Value}{ins:List (List Value)}{rows:List (Nat × List Value)}(h:chkM ins rows v0 (x.f g pargs (bI ins))=true){σ:List Nat}{m:M}(hm:okM pargs ins σ args m=true) :
  DStep m (vG σ rows m)/\Enters P g/\Yx P g args m (Yb (Yp σ m.n) v0) (vG σ rows m):=by
 unfold chkM at h
 split at h
 .rename_i v m1 hrun
  simp only[qgj]at h
  obtain⟨⟨⟨⟨hlog,hge⟩,hv⟩,hrows⟩,hnd⟩:=h
  unfold okM at hm
  simp only[qgj]at hm
  obtain⟨⟨⟨hkl,hma⟩,hmr⟩,hms⟩:=hm
  have hk:σ.length=ins.length:=qgq hkl
  have hlog:m1.log=[]:=by simpa using hlog
  obtain⟨hd1,hent,hJ⟩:=hx.f _ _ _ _ _ hrun
  have hlen:(rows.map λp=>p.2.map (ren (Yp σ m.n))).length=rows.length:=by simp
  obtain⟨s,hs⟩:∃s:Nat->Nat,s=λi=>σ.getD i 0:=⟨_,rfl⟩
  obtain⟨τ,hτ⟩:=qh2 (Yp σ m.n)
  rw[<-hs]at hma hmr
  have hτ1:∀i,i<ins.length->τ i=s i:=λi hi=>by rw[hτ,hs];unfold Yp;rw[blt_t (by omega)];rfl
  have hτ2:∀i,τ (ins.length+i)=m.n+i:=λi=>by rw[hτ];unfold Yp;rw[blt_f (by omega),hk];show m.n+(ins.length+i-ins.length)=_;omega
  have hs1:∀i,i<ins.length->Yj ins.length rows i=i:=λi hi=>by unfold Yj;rw[blt_t hi];rfl
  have hs2:∀i,Yj ins.length rows (ins.length+i)=sig rows i:=λi=>by unfold Yj;rw[blt_f (by omega)];show sig rows (ins.length+i-ins.length)=_;congr 1;omega
  have hin:∀i (hi:i<ins.length),∃c,m.obj (s i)=some (.cells c)/\bW s ins.length c 0 ins[i]=true:=λi hi=>by
   have hz:(σ.zip ins)[i]?=some (s i,ins[i]):=by
    rw[List.getElem?_zip_eq_some]
    refine⟨?_,qgd hi⟩
    rw[hs];simp[show i<σ.length by omega]
   exact jl hmr i _ hz
  have hinj:∀i j,i<ins.length->j<ins.length->s i=s j->i=j:=λi j hi hj e =>
   yx hms i j (s i) (by rw[hs];simp[show i<σ.length by omega]) (by rw[e,hs];simp[show j<σ.length by omega])
  show DStep m (jI _ m)/\_
  rw[<-hτ]
  refine⟨(zB _ m).1,hent,λφ w args' hR hargs' hF=>?_⟩
  have hgn:(vG σ rows m).n=m.n+rows.length:=by unfold vG;rw[bx,hlen]
  rw[hgn]at hF
  have hlt:∀i,i<ins.length->s i<m.n:=λi hi=>by
   obtain⟨c,hc,_⟩:=hin i hi
   exact Classical.byContradiction λh=>by rw[hR.wf (s i) (by omega)]at hc;cases hc
  obtain⟨φL,hφL⟩:∃φL:Phi,φL=λB=>if B<ins.length then φ (s B) else none:=⟨_,rfl⟩
  have hL1:∀i,i<ins.length->φL i=φ (s i):=λi hi=>by rw[hφL];simp only[if_pos hi]
  have hL2:∀i,¬i<ins.length->φL i=none:=λi hi=>by rw[hφL];simp only[if_neg hi]
  have hturnL:∀i l,i<ins.length->φ (s i)=some l->φL i=some l:=λi l hi h=>by rw[hL1 i hi];exact h
  have hRL:R φL (bI ins) w:=by
   refine⟨λB hB=>?_,λB l hB hl=>?_,λB₁ B₂ l₁ l₂ h1 h2 hl1 hl2 hb hne=>?_⟩
   .rw[gG]at hB
    rw[WH,qgz (by omega)];rfl
   .rw[gG]at hB
    rw[hL1 B hB]at hl
    obtain⟨c,hc,hok⟩:=hin B hB
    obtain⟨o,ho1,ho2⟩:=hR.obj _ l (hlt B hB) hl
    rw[hc]at ho1;cases ho1
    refine⟨_,by rw[WH,qgd hB];rfl,?_⟩
    have:=XI (φ':=φL) (τ:=λi=>i) hturnL hok ho2
    rwa [List.map_congr_left (g:=λx=>x) λx _=>Yc x,List.map_id']at this
   .rw[gG]at h1 h2
    rw[hL1 _ h1]at hl1
    rw[hL1 _ h2]at hl2
    have key:∀B,B<ins.length->dead m (s B)->dead (bI ins) B:=λB hB hd=>by
     obtain⟨c,hc,hok⟩:=hin B hB
     unfold dead at hd ⊢
     rw[hc]at hd
     cases hd
     rw[WH,qgd hB,XH hok];rfl
    exact (hR.inj _ _ _ _ (hlt _ h1) (hlt _ h2) hl1 hl2 hb λe=>hne (hinj _ _ h1 h2 e)).imp (key _ h1) (key _ h2)
  have hargsL:VRels φL pargs args'.toList:=by
   have:=dy (φ':=φL) (τ:=λi=>i) hturnL hma hargs'
   rwa [List.map_congr_left (g:=λx=>x) λx _=>qey x,List.map_id']at this
  refine (hJ φL w args' hRL hargsL (λB hB _=>hL2 B (by rw[gG]at hB;omega))).mono ?_
  rintro e w' ⟨φ1,v',rfl,hR1,hst,hr1⟩
  have hnoT:∀B,¬Tou (bI ins) m1 B:=λB ht=>by
   obtain⟨t1,t2,_⟩:=ht
   rw[gG]at t1
   rcases t2 with t2 | t2
   .rw[hd1.base,GG]at t2;omega
   .rw[hlog]at t2;cases t2
  have hheap:∀b,b<w.heap.size->w'.heap[b]?=w.heap[b]?:=λb hb=>hst.frame b hb λB _ _ _=>hnoT B
  obtain⟨φ',hφ'⟩:∃φ':Phi,φ'=λB=>if m.n<=B/\B<m.n+rows.length then φ1 (sig rows (B-m.n)) else φ B:=⟨_,rfl⟩
  have hold:∀B,¬(m.n<=B/\B<m.n+rows.length)->φ' B=φ B:=λB hB=>by rw[hφ'];simp only[if_neg hB]
  have hnew:∀i,i<rows.length->φ' (m.n+i)=φ1 (sig rows i):=λi hi=>by rw[hφ'];simp only[if_pos (show m.n<=m.n+i/\m.n+i<m.n+rows.length by omega)];rw[show m.n+i-m.n=i by omega]
  have hle:PLe φ φ':=λB l hl=>by
   by_cases hB:m.n<=B/\B<m.n+rows.length
   .rw[hF B hB.1 hB.2]at hl;cases hl
   .rw[hold B hB];exact hl
  have hturn:∀i l,i<ins.length+rows.length->φ1 (Yj ins.length rows i)=some l->φ' (τ i)=some l:=λi l hi hl=>by
   by_cases hik:i<ins.length
   .rw[hs1 i hik,hst.ext i (.inl (by rw[gG];exact hik)),hL1 i hik]at hl
    rw[hτ1 i hik,hold _ (by have:=hlt i hik;omega)];exact hl
   .obtain⟨j,rfl⟩:∃j,i=ins.length+j:=⟨i-ins.length,by omega⟩
    rw[hs2]at hl
    rw[hτ2,hnew j (by omega)];exact hl
  have hsig:∀i (hi:i<rows.length),sig rows i=rows[i].1:=λi hi=>by unfold sig;simp[hi]
  have hge':∀i,i<rows.length->ins.length<=sig rows i:=λi hi=>by
   rw[hsig i hi];exact Kq hge i _ (by simp[hi])
  have hlt1:∀i,i<rows.length->sig rows i<m1.n:=λi hi=>by
   obtain⟨c,hc,_⟩:=jl hrows i rows[i] (by simp[hi])
   rw[hsig i hi];exact hR1.lt hc
  have hfresh:∀i l,i<rows.length->φ1 (sig rows i)=some l->w.heap.size<=l.b:=λi l hi hl=>by
   rcases hst.fresh (sig rows i) l (by rw[gG];exact hge' i hi) (hlt1 i hi) hl with h | ⟨B0,l0,ht,h,_⟩
   .exact h
   .exact absurd ht (hnoT B0)
  have hobj:∀B,B<m.n->(vG σ rows m).obj B=m.obj B:=λB hB=>by unfold vG;rw[xj,if_neg (by omega)]
  have hobjN:∀i (hi:i<rows.length),(vG σ rows m).obj (m.n+i)=some (.cells (mkn .lf 0 (rows[i].2.map (ren τ)))):=λi hi=>by
   unfold vG
   rw[xj,if_pos (by simp;omega),show m.n+i-m.n=i by omega,hτ]
   simp[hi]
  have hrow:∀i (hi:i<rows.length) l,φ1 (sig rows i)=some l->ObjRel φ' w' (.cells (mkn .lf 0 (rows[i].2.map (ren τ)))) l:=λi hi l hl=>by
   obtain⟨c,hc,hok⟩:=jl hrows i rows[i] (by simp[hi])
   obtain⟨ob,ho1,ho2⟩:=hR1.obj (sig rows i) l (hlt1 i hi) hl
   rw[hsig i hi,hc]at ho1
   cases ho1
   exact XI hturn hok ho2
  refine⟨φ',v',rfl,⟨λB hB=>?_,λB l hB hl=>?_,λB₁ B₂ l₁ l₂ h1 h2 hl1 hl2 hb hne=>?_⟩,⟨(zB _ m).1,hle,λB hB=>?_,λB l h1 h2 hl=>?_,λB _ h1 h2=>absurd ((zB _ m).2 B h1) h2,hst.os,hst.tape,hst.output,hst.size,λb hb _=>hheap b hb⟩,JJ hturn hv hr1⟩
  .exact (zB _ m).1.wf hR.wf B hB
  .rw[hgn]at hB
   by_cases hlt:B<m.n
   .rw[hold B (by omega)]at hl
    obtain⟨o,h1,h2⟩:=hR.obj B l hlt hl
    exact⟨o,by rw[hobj B hlt];exact h1,(h2.mono hle).world (hheap l.b h2.lt)⟩
   .obtain⟨i,rfl⟩:∃i,B=m.n+i:=⟨B-m.n,by omega⟩
    have hi:i<rows.length:=by omega
    rw[hnew i hi]at hl
    exact⟨_,hobjN i hi,hrow i hi l hl⟩
  .rw[hgn]at h1 h2
   have lt:∀B l,B<m.n->φ B=some l->l.b<w.heap.size:=λB l hB hl=>by
    obtain⟨o,_,ho⟩:=hR.obj B l hB hl
    exact ho.lt
   by_cases e1:B₁<m.n
   .rw[hold B₁ (by omega)]at hl1
    have:=lt B₁ l₁ e1 hl1
    by_cases e2:B₂<m.n
    .rw[hold B₂ (by omega)]at hl2
     exact (hR.inj B₁ B₂ l₁ l₂ e1 e2 hl1 hl2 hb hne).imp (λe=>by unfold dead;rw[hobj B₁ e1];exact e) (λe=>by unfold dead;rw[hobj B₂ e2];exact e)
    .obtain⟨i,rfl⟩:∃i,B₂=m.n+i:=⟨B₂-m.n,by omega⟩
     rw[hnew i (by omega)]at hl2
     have:=hfresh i l₂ (by omega) hl2
     omega
   .obtain⟨i,rfl⟩:∃i,B₁=m.n+i:=⟨B₁-m.n,by omega⟩
    have hi:i<rows.length:=by omega
    rw[hnew i hi]at hl1
    by_cases e2:B₂<m.n
    .rw[hold B₂ (by omega)]at hl2
     have:=lt B₂ l₂ e2 hl2
     have:=hfresh i l₁ hi hl1
     omega
    .obtain⟨j,rfl⟩:∃j,B₂=m.n+j:=⟨B₂-m.n,by omega⟩
     have hj:j<rows.length:=by omega
     rw[hnew j hj]at hl2
     have hij:sig rows i≠sig rows j:=λe=>by
      rw[hsig i hi,hsig j hj]at e
      have:=yx hnd i j rows[i].1 (by simp[hi]) (by simp[hj,e])
      omega
     have emp:∀k (hk:k<rows.length),dead m1 (sig rows k)->dead (vG σ rows m) (m.n+k):=λk hk hdk=>by
      obtain⟨c,hc,hok⟩:=jl hrows k rows[k] (by simp[hk])
      unfold dead at hdk
      rw[hsig k hk,hc]at hdk
      cases hdk
      unfold dead
      rw[hobjN k hk,XH hok];rfl
     exact (hR1.inj _ _ l₁ l₂ (hlt1 i hi) (hlt1 j hj) hl1 hl2 hb hij).imp (emp i hi) (emp j hj)
  .rw[hgn]at hB
   exact hold B (by omega)
  .rw[hgn]at h2
   obtain⟨i,rfl⟩:∃i,B=m.n+i:=⟨B-m.n,by omega⟩
   rw[hnew i (by omega)]at hl
   exact .inl (hfresh i l (by omega) hl)
 .cases h
structure PreM where
 g:Nat
 args:List Value
 ins:List (List Value)
 v:Value
 rows:List (Nat × List Value)
def uV (σ:List Nat)(x y:Value):List Nat:=match x,y with
 | .pointer (some a),.pointer (some b)=>bif Nat.beq a.block σ.length then σ++[b.block] else σ
 | .slice (some a) _ _,.slice (some b) _ _=>bif Nat.beq a.block σ.length then σ++[b.block] else σ
 | _,_=>σ
def uL:List Nat->List Value->List Value->List Nat
 | σ,x::l,y::k=>uL (uV σ x y) l k
 | σ,_,_=>σ
def u1 (σ:List Nat)(x y:Value):List Nat:=match x,y with
 | .agg a,.agg b=>uL σ a.toList b.toList
 | _,_=>uV σ x y
def uA:List Nat->List Value->List Value->List Nat
 | σ,x::l,y::k=>uA (u1 σ x y) l k
 | σ,_,_=>σ
def uRow (c:C):Nat->List Nat->List Value->List Nat
 | j,σ,x::l=>uRow c (j+1) (match A.get none j c with
  | some y=>uV σ x y
  | none=>σ) l
 | _,σ,[]=>σ
def uRows (m:M):Nat->List Nat->List (List Value)->List Nat
 | i,σ,r::l=>uRows m (i+1) (match m.obj (σ.getD i 0) with
  | some (.cells c)=>uRow c 0 σ r
  | _=>σ) l
 | _,σ,[]=>σ
def sigM (p:PreM)(args:List Value)(m:M):List Nat:=uRows m 0 (uA [] p.args args) p.ins
def ZF (p:PreM)(σ:List Nat)(args:List Value)(m:M)(r:Option (PreM × List Nat)):Option (PreM × List Nat):=bif okM p.args p.ins σ args m then some (p,σ) else r
def Ww (g:Nat)(args:List Value)(m:M)(l:List PreM):Option (PreM × List Nat):=List.rec none (λp _ ih=>bif Nat.beq p.g g then ZF p (sigM p args m) args m ih else ih) l
def qcd (P:Program)(l:List Pre)(k:List PreM)(x:Ex)(g:Nat)(args:List Value)(m:M):Option (Value × M) :=
 Option.rec (GX P l x g args m) (λp=>some (Yb (Yp p.2 m.n) p.1.v,vG p.2 p.1.rows m)) (Ww g args m k)
def exgm (P:Program)(l:List Pre)(k:List PreM)(n:Nat):Ex:=Nat.rec .bot (λ_ x=>⟨qcd P l k x,Bv P x⟩) n
def PreMOK (P:Program)(p:PreM):Prop:=∃x,xe P x/\chkM p.ins p.rows p.v (x.f p.g p.args (bI p.ins))=true
theorem Wx {g:Nat}{args:List Value}{m:M}:∀{l:List PreM} {p:PreM} {σ:List Nat},Ww g args m l=some (p,σ)->p∈l/\p.g=g/\okM p.args p.ins σ args m=true
 | [],p,σ,h=>by cases h
 | q::l,p,σ,h=>by
  change (bif Nat.beq q.g g then ZF q (sigM q args m) args m (Ww g args m l) else Ww g args m l)=some (p,σ) at h
  have rest:Ww g args m l=some (p,σ)->p∈q::l/\p.g=g/\okM p.args p.ins σ args m=true:=λh=>by
   obtain⟨h1,h2⟩:=Wx h
   exact⟨by simp[h1],h2⟩
  cases hb:Nat.beq q.g g with
  | false=>rw[hb]at h;exact rest h
  | true =>
   rw[hb]at h
   change ZF q (sigM q args m) args m (Ww g args m l)=some (p,σ) at h
   unfold ZF at h
   cases ho:okM q.args q.ins (sigM q args m) args m with
   | true=>rw[ho]at h;cases h;exact⟨by simp,qgq hb,ho⟩
   | false=>rw[ho]at h;exact rest h
theorem ZD {P:Program}(hP:P.follows .mixedOrders=true){l:List Pre}{k:List PreM}(hl:∀p∈l,PreOK2 P p)(hk:∀p∈k,PreMOK P p):∀n,xe P (exgm P l k n)
 | 0=>⟨λ_ _ _ _ _ h=>(by cases h),λ_ _ _ _ _ h=>(by cases h)⟩
 | n+1=>by
  have ih:=ZD hP hl hk n
  have hs:=Ex.step_ok ih hP
  refine⟨λg args m v m' h=>?_,hs.y⟩
  change qcd P l k (exgm P l k n) g args m=some (v,m') at h
  unfold qcd at h
  cases hm:Ww g args m k with
  | some q =>
   obtain⟨p,σ⟩:=q
   rw[hm]at h
   cases h
   obtain⟨h1,rfl,h2⟩:=Wx hm
   obtain⟨x,hx,h3⟩:=hk p h1
   exact Gw hx h3 h2
  | none =>
   rw[hm]at h
   change GX P l (exgm P l k n) g args m=some (v,m') at h
   unfold GX at h
   cases hf:JS g args l with
   | none=>rw[hf]at h;exact hs.f g args m v m' h
   | some p =>
    rw[hf]at h
    cases h
    obtain⟨h1,rfl,rfl⟩:=gx hf
    obtain⟨h2,x,hx,h3⟩:=hl p h1
    exact JW hx h2 h3 m
theorem PreMOK.of {P:Program}(hP:P.follows .mixedOrders=true){l:List Pre}{k:List PreM}(hl:∀p∈l,PreOK2 P p)(hk:∀p∈k,PreMOK P p){n:Nat}{p:PreM}(h:chkM p.ins p.rows p.v ((exgm P l k n).f p.g p.args (bI p.ins))=true):PreMOK P p:=⟨_,ZD hP hl hk n,h⟩
theorem PreOK2.of {P:Program}(hP:P.follows .mixedOrders=true){l:List Pre}{k:List PreM}(hl:∀p∈l,PreOK2 P p)(hk:∀p∈k,PreMOK P p){n:Nat}{p:Pre}(ha:p.args.all scalar=true)(h:chk p.rows p.v ((exgm P l k n).f p.g p.args M.empty)=true):PreOK2 P p:=⟨ha,_,ZD hP hl hk n,h⟩
end
end Go.Dx
namespace Go.Sx
open Go.Dx Go.Proofs
set_option maxRecDepth 10000
def aw:Dx.Pre:=⟨8,[],.bool true,[]⟩
noncomputable def xA (N:Nat):Ex:=⟨λg args m=>bif Nat.beq g 8 then (exg Tryz.prog [aw] 1).f g args m else (ex Tryz.prog N).f g args m,(ex Tryz.prog N).y⟩
theorem xA_f (N g:Nat)(args:List Value)(m:M)(h:g≠8):(xA N).f g args m=(ex Tryz.prog N).f g args m:=by
 show (bif Nat.beq g 8 then _ else _)=_
 rw[dl h];rfl
theorem xA_aw (N:Nat)(m:M):(xA N).f 8 [] m=some (.bool true,m):=rfl
theorem xA_ok (hP:Tryz.prog.follows .mixedOrders=true)(haw:PreOK2 Tryz.prog aw)(N:Nat):xe Tryz.prog (xA N):=by
 refine⟨λg args m v m' h=>?_,(JO hP N).y⟩
 change (bif Nat.beq g 8 then (exg Tryz.prog [aw] 1).f g args m else (ex Tryz.prog N).f g args m)=some (v,m') at h
 cases hb:Nat.beq g 8 with
 | true=>rw[hb]at h;exact (YQ hP (l:=[aw]) (λp hp=>by rw[qgk.1 hp];exact haw) 1).f g args m v m' h
 | false=>rw[hb]at h;exact (JO hP N).f g args m v m' h
theorem step_ret {P:Program}{x:Ex}{g:Nat}{c:SC}{nt:Nat}{res:List RV}{args:List Value}{m:M}{Q:Value->M->Prop}(hd:qS P g=some ⟨c,nt,res⟩)(ha:args.length<=nt)
  (h:Ret m Q (c x (kQ res) noK (kQ res) (vg .blank 0 args) m)):Dx.Call (Ex.step P x) g args m Q:=by
 obtain⟨v,m',e,h1,h2⟩:=h
 refine⟨v,m',?_,h1,h2⟩
 show ob (qS P g) (callF x args m)=_
 rw[hd,qN,Wd _ _ _ _ _ _ ha];exact e
theorem _root_.Go.Dx.Call.xA {N g:Nat}{args:List Value}{m:M}{Q:Value->M->Prop}(h:Dx.Call (ex Tryz.prog N) g args m Q)(hg:g≠8):Dx.Call (xA N) g args m Q:=by
 obtain⟨v,m',a,b,c⟩:=h
 exact⟨v,m',(xA_f N g args m hg).trans a,b,c⟩
end Go.Sx
namespace Go.Sx
open Go.Dx Go.Proofs
set_option maxRecDepth 10000
def RdL (ev:List EvR)(l:List Nat):Prop:=∀x∈l,∃e,ev[x]?=some e/\e.kind=1
theorem RdL.nil (ev:List EvR):RdL ev []:=λx hx=>by cases hx
theorem RdL.uni {ev:List EvR}{a b:List Nat}(ha:RdL ev a)(hb:RdL ev b):RdL ev (uni a b):=λx hx=>(bK.1 hx).elim (ha x) (hb x)
theorem gV {ev:List EvR}{x:Nat}{e y:EvR}(h:ev[x]?=some e):(ev++[y])[x]?=some e:=by rw[qgs (qgf.1 h).1];exact h
theorem RdL.mono {ev:List EvR}{l:List Nat}(h:RdL ev l)(y:EvR):RdL (ev++[y]) l:=λx hx=>by
 obtain⟨e,h1,h2⟩:=h x hx
 exact⟨e,gV h1,h2⟩
theorem RdL.one (ev:List EvR){e:EvR}(h:e.kind=1):RdL (ev++[e]) [ev.length]:=λx hx=>by
 rw[qgk.1 hx];exact⟨e,by simp,h⟩
structure EvOK (e:EvR):Prop where
 th:e.th=0
 fence:e.kind=3->e.loc=-1/\e.val=0
 loc:e.kind≠3->0<=e.loc/\e.loc<4096
structure PrI (K:Nat × Nat->EvR->EvR->Prop)(ev:List EvR)(l:List (Nat × Nat)):Prop where
 nd:l.Nodup
 ok:∀p∈l,∃r e,ev[p.1]?=some r/\r.kind=1/\p.1<p.2/\ev[p.2]?=some e/\K p r e
theorem PrI.nil (K:Nat × Nat->EvR->EvR->Prop)(ev:List EvR):PrI K ev []:=⟨List.nodup_nil,λp hp=>by cases hp⟩
theorem PrI.add {K:Nat × Nat->EvR->EvR->Prop}{ev:List EvR}{l:List (Nat × Nat)}(h:PrI K ev l){e:EvR}{s:List Nat}(hs:SetOK ev.length s)(hr:RdL ev s)(hk:∀a∈s,∀r,ev[a]?=some r->r.kind=1->K (a,ev.length) r e) :
  PrI K (ev++[e]) (l++zc s ev.length):=by
 refine⟨List.nodup_append.2 ⟨h.nd,?_,?_⟩,λp hp=>?_⟩
 .unfold zc
  exact List.pairwise_map.2 (hs.up.imp λ{a b} hab e=>by
   have:a=b:=congrArg Prod.fst e
   omega)
 .intro p hp q hq e
  obtain⟨r,e',_,_,_,h4,_⟩:=h.ok p hp
  unfold zc at hq
  obtain⟨a,_,rfl⟩:=List.mem_map.1 hq
  rw[e]at h4
  have:=(qgf.1 h4).1
  exact Nat.lt_irrefl _ this
 .rcases qh1.1 hp with hp | hp
  .obtain⟨r,e',h1,h2,h3,h4,h5⟩:=h.ok p hp
   exact⟨r,e',gV h1,h2,h3,gV h4,h5⟩
  .unfold zc at hp
   obtain⟨a,ha,rfl⟩:=List.mem_map.1 hp
   obtain⟨r,h1,h2⟩:=hr a ha
   exact⟨r,e,gV h1,h2,hs.lt a ha,by simp,hk a ha r h1 h2⟩
def KA (_:Nat × Nat)(_ e:EvR):Prop:=e.kind≠3
def KD (_:Nat × Nat)(_ e:EvR):Prop:=e.kind=2
def KC (_:Nat × Nat)(_ _:EvR):Prop:=True
def KR (p:Nat × Nat)(r e:EvR):Prop:=p.2=p.1+1/\e.kind=2/\r.loc=e.loc
def nR (ev:List EvR):Nat:=(ev.filter λe=>decide (e.kind=1)).length
theorem dI (ev:List EvR)(e:EvR):nR (ev++[e])=nR ev+if e.kind=1 then 1 else 0:=by
 unfold nR
 rw[List.filter_append,qgn]
 congr 1
 by_cases h:e.kind=1<;>simp[h]
structure FL (S:PM):Prop where
 ev:∀e∈S.ev,EvOK e
 rmw:PrI KR S.ev S.rmw
 addr:PrI KA S.ev S.addr
 data:PrI KD S.ev S.data
 ctrl:PrI KC S.ev S.ctrl
 us:S.sc.us=(nR S.ev:Nat)
structure FT (S:PM):Prop where
 t:∀k,RdL S.ev (S.t k)
 ft:RdL S.ev S.ft
 way:RdL S.ev S.way
structure FO (S:PM):Prop where
 half:∀h,S.half=some h->RdL S.ev h.ad/\RdL S.ev h.da/\h.rd+1=S.ev.length/\(∃e,S.ev[h.rd]?=some e/\e.kind=1/\e.loc=h.w.loc)/\0<=h.w.loc/\h.w.loc<4096
 opn:S.sc.opn=true->∃a:Nat,S.sc.rd=(a:Int)/\a+1=S.ev.length/\∃e,S.ev[a]?=some e/\e.kind=1/\e.loc=S.sc.loc
structure FW (S:PM):Prop where
 l:FL S
 t:FT S
 o:FO S
theorem FL.of {S S':PM}(h:FL S)(k:StepS S S'):FL S' :=
 ⟨by rw[k.ev];exact h.ev,by rw[k.ev,k.rmw];exact h.rmw,by rw[k.ev,k.addr];exact h.addr,by rw[k.ev,k.data];exact h.data,by rw[k.ev,k.ctrl];exact h.ctrl,by rw[k.us,k.ev];exact h.us⟩
theorem FL.push {S S':PM}(h:FL S)(hw:WF S){e:EvR}(he:EvOK e){ad da rm:List Nat}(h1:S'.ev=S.ev++[e])(h2:S'.addr=S.addr++zc ad S.ev.length)(h3:S'.ctrl=S.ctrl++zc S.way S.ev.length)(h4:S'.data=S.data++zc da S.ev.length)(h5:S'.rmw=S.rmw++zc rm S.ev.length)
  (ht:FT S) (a1:SetOK S.ev.length ad) (a2:RdL S.ev ad) (a3:ad=[]\/e.kind≠3) (d1:SetOK S.ev.length da) (d2:RdL S.ev da) (d3:da=[]\/e.kind=2)
  (r1:rm=[]\/∃a r,rm=[a]/\a+1=S.ev.length/\S.ev[a]?=some r/\r.kind=1/\r.loc=e.loc/\e.kind=2) (hu:S'.sc.us=S.sc.us+if e.kind=1 then 1 else 0):FL S':=by
 have r2:SetOK S.ev.length rm/\RdL S.ev rm/\∀a∈rm,∀r,S.ev[a]?=some r->r.kind=1->KR (a,S.ev.length) r e:=by
  rcases r1 with rfl | ⟨a,r,rfl,q1,q2,q3,q4,q5⟩
  .exact⟨SetOK.nil _,RdL.nil _,λa ha=>by cases ha⟩
  .refine⟨⟨by simp,λx hx=>by rw[qgk.1 hx];omega⟩,λx hx=>by rw[qgk.1 hx];exact⟨r,q2,q3⟩,λx hx r' hr' _=>?_⟩
   rw[qgk.1 hx]at hr' ⊢
   rw[q2]at hr';cases hr'
   exact⟨q1.symm,q5,q4⟩
 refine⟨λx hx=>?_,?_,?_,?_,?_,?_⟩
 .rw[h1]at hx
  rcases qh1.1 hx with hx | hx
  .exact h.ev x hx
  .rw[qgk.1 hx];exact he
 .rw[h1,h5];exact h.rmw.add r2.1 r2.2.1 r2.2.2
 .rw[h1,h2];exact h.addr.add a1 a2 λa ha r _ _=>a3.elim (λe=>by rw[e]at ha;cases ha) _root_.id
 .rw[h1,h4];exact h.data.add d1 d2 λa ha r _ _=>d3.elim (λe=>by rw[e]at ha;cases ha) _root_.id
 .rw[h1,h3];exact h.ctrl.add hw.way ht.way λa ha r _ _=>trivial
 .rw[hu,h1,dI,h.us];split<;>simp
theorem FT.setRP {S:PM}(h:FT S)(k x:Nat){l:List Nat}(hl:RdL S.ev l):FT (setRP S k x l):=by
 unfold Sx.setRP
 split
 .exact h
 .refine⟨λq=>?_,h.ft,h.way⟩
  show RdL S.ev (upN S.t k l q)
  by_cases e:q=k
  .rw[e,xa];exact hl
  .rw[yE _ _ e];exact h.t q
theorem doF_ft {S:PM}(h:FT S)(i:Ins):FT (doF S i).1:=by
 unfold doF
 simp only
 repeat' split
 all_goals first
  | exact h
  | exact⟨h.t,h.ft,h.way.uni h.ft⟩
  | exact⟨h.t,h.ft,h.way.uni (h.t _)⟩
  | exact⟨h.t,(h.t _).uni (h.t _),h.way⟩
  | exact h.setRP _ _ h.ft
  | exact h.setRP _ _ (RdL.nil _)
  | exact h.setRP _ _ (h.t _)
  | exact FT.setRP (S:={ S with sc:={ S.sc with opn:=false } }) ⟨h.t,h.ft,h.way⟩ _ _ (RdL.nil _)
  | exact h.setRP _ _ ((h.t _).uni (h.t _))
structure OpS (S S':PM):Prop where
 opn:S'.sc.opn=true->S.sc.opn=true
 rd:S'.sc.rd=S.sc.rd
 loc:S'.sc.loc=S.sc.loc
theorem ye (S:PM)(k x:Nat)(l:List Nat):OpS S (setRP S k x l):=by
 unfold Sx.setRP
 split<;>exact⟨_root_.id,rfl,rfl⟩
theorem doF_op (S:PM)(i:Ins):OpS S (doF S i).1:=by
 unfold doF
 simp only
 repeat' split
 all_goals first
  | exact ye _ _ _ _
  | exact⟨_root_.id,rfl,rfl⟩
  | exact⟨(λh=>by have:=(ye { S with sc:={ S.sc with opn:=false } } _ _ _).opn h;cases this),(ye { S with sc:={ S.sc with opn:=false } } _ _ _).rd,(ye { S with sc:={ S.sc with opn:=false } } _ _ _).loc⟩
theorem FO.of {S S':PM}(h:FO S)(k:OpS S S')(he:S'.ev=S.ev)(hh:S'.half=S.half):FO S' :=
 ⟨λx hx=>by rw[hh]at hx;rw[he];exact h.half x hx,λho=>by rw[k.rd,k.loc,he];exact h.opn (k.opn ho)⟩
theorem FW.step {S:PM}(h:FW S)(hl:look S=none):FW (za S):=by
 obtain⟨h1,i,h2,h3,h4,h5⟩:=vX hl
 have e:za S=vn S i:=by unfold za;rw[h2]
 have k:=QO S i
 rw[e]
 have kt:=doF_ft (S:=vb S) ⟨h.t.t,h.t.ft,h.t.way⟩ i
 have ko:=doF_op (vb S) i
 have kt':FT (vn S i):=⟨kt.t,kt.ft,kt.way⟩
 exact⟨h.l.of k,kt',h.o.of ⟨ko.opn,ko.rd,ko.loc⟩ k.ev k.half⟩
theorem Xn:∀(k:Nat) (S:PM),FW S->FW (zx k S).1
 | 0,S,h=>h
 | k+1,S,h=>by
  unfold zx
  cases hl:look S with
  | some w=>exact h
  | none=>exact Xn k (za S) (h.step hl)
theorem Xp {S:PM}(h:FW S):FW (wu S).1:=Xn _ S h
end Go.Sx
namespace Go.Sx
open Go.Dx Go.Proofs
set_option maxRecDepth 10000
theorem Dj {s:Mch}{i:Ins}(h:zP s i=true):0<=cellL s i/\cellL s i<4096:=by
 unfold zP at h
 rw[qgj]at h
 have h2:=of_decide_eq_true h.2
 have h0:=qd4 ((bc s i).tdiv 8)
 unfold cellL
 rw[wrap64 _ (by omega) (by omega)]
 exact⟨h0,h2⟩
theorem Br (s:Mch)(evn:Nat)(i:Ins)(h:(wD s evn i).2=false)(h1:(wD s evn i).1.what=1\/(wD s evn i).1.what=2) :
  (0<=(wD s evn i).1.loc/\(wD s evn i).1.loc<4096)/\((wD s evn i).1.what=2->(wD s evn i).1.ex=true->s.opn=true/\s.loc=(wD s evn i).1.loc):=by
 have room:∀w:Wnt,((ku evn w).what=1\/(ku evn w).what=2)->ku evn w=w:=λw hw=>by
  rcases fw evn w with e | ⟨e,k⟩
  .rw[e]at hw;simp only[zl]at hw;omega
  .exact e
 unfold wD at h h1 ⊢
 split
 .rename_i c;rw[if_pos c]at h1;have:=room _ h1;rw[this]at h1;simp only at h1;omega
 rename_i c1
 rw[if_neg c1]at h h1
 split
 .rename_i c;rw[if_pos c]at h1;have:=room _ h1;rw[this]at h1;simp only at h1;omega
 rename_i c2
 rw[if_neg c2]at h h1
 split
 .rename_i c;rw[if_pos c]at h1;simp only at h1;omega
 rename_i c3
 rw[if_neg c3]at h h1
 split
 .rename_i c;rw[if_pos c]at h1;simp only[zl]at h1;omega
 rename_i c4
 rw[if_neg c4]at h h1
 split
 .rename_i c;rw[if_pos c]at h;cases h
 rename_i c5
 rw[if_neg c5]at h h1
 split
 .rename_i c;rw[if_pos c]at h1;simp only[zl]at h1;omega
 rename_i c6
 rw[if_neg c6]at h h1
 have hc:zP s i=true:=by simpa using c6
 have rng:=Dj hc
 split
 .rename_i c
  rw[if_pos c]at h1
  have e:=room _ h1
  rw[e]
  exact⟨rng,λh2=>absurd (show (1:Int)=2 from h2) (by decide)⟩
 rename_i c7
 rw[if_neg c7]at h h1
 split
 .rename_i c;rw[if_pos c]at h;cases h
 rename_i c8
 rw[if_neg c8]at h1
 have e:=room _ h1
 rw[e]
 refine⟨rng,λh2 h3=>?_⟩
 have h2:(if i.op=23\/i.op=25\/i.op=28\/i.op=29 then (2:Int) else 1)=2:=h2
 have h3:decide (26<=i.op)=true:=h3
 have h3:=of_decide_eq_true h3
 have ho:i.op=28\/i.op=29:=by
  split at h2
  .rename_i c;omega
  .omega
 by_cases q1:s.opn=true
 .by_cases q2:s.loc=cellL s i
  .exact⟨q1,q2⟩
  .exact absurd ⟨ho,.inr q2⟩ c8
 .exact absurd ⟨ho,.inl (by simpa using q1)⟩ c8
theorem Xg {S:PM}(h:WF S){w:Wnt}(hl:look S=some w)(h1:w.what=1\/(w.what=2/\w.one=false)):(0<=w.loc/\w.loc<4096)/\(w.what=2->w.ex=true->S.sc.opn=true/\S.sc.loc=w.loc):=by
 unfold look at hl
 cases hh:S.half with
 | some x =>
  rw[hh]at hl;cases hl
  have k:=h.half x hh
  rw[k.what,k.one]at h1
  rcases h1 with h1 | ⟨_,h1⟩
  .omega
  .cases h1
 | none =>
  rw[hh]at hl
  cases hf:fetch S with
  | none=>rw[hf]at hl;cases hl;simp only[zl]at h1;omega
  | some i =>
   rw[hf]at hl
   simp only at hl
   split at hl
   .rename_i c
    cases hl
    exact Br _ _ _ c (h1.imp _root_.id (·.1))
   .split at hl
    .cases hl;simp only[zl]at h1;omega
    .cases hl
theorem FW.setRP {S:PM}(h:FW S)(k x:Nat){l:List Nat}(hl:RdL S.ev l):FW (setRP S k x l):=by
 have o:=qR S k x l
 exact⟨h.l.of ⟨o.code,o.half,o.ev,o.rmw,o.addr,o.data,o.ctrl,o.outs,o.rd,o.us,o.limit,o.st⟩,h.t.setRP k x hl,h.o.of (ye S k x l) o.ev o.half⟩
theorem FW.goOn {S:PM}(h:FW S):FW (jL S):=⟨⟨h.l.ev,h.l.rmw,h.l.addr,h.l.data,h.l.ctrl,h.l.us⟩,⟨h.t.t,h.t.ft,h.t.way⟩,⟨h.o.half,h.o.opn⟩⟩
theorem FO.shut {S:PM}(h1:S.half=none)(h2:S.sc.opn=false):FO S:=⟨gm h1,λh=>by rw[h2]at h;cases h⟩
theorem FW.loadP {S:PM}(h:FW S)(hw:WF S)(hn:S.half=none)(i:Ins)(w:Wnt)(v:Nat)(hr:0<=w.loc/\w.loc<4096):FW (loadP S i w v):=by
 have hus:(Sx.loadP S i w v).sc.us=S.sc.us+1:=by
  obtain⟨a,h1,h2⟩:=hw.us
  show IntKind.i64.wrap (S.sc.us+1)=_
  have:=hw.ev
  rw[h1,wrap64 _ (by omega) (by omega)]
 refine⟨h.l.push hw (e:=⟨0,1,w.loc,v,w.mode⟩) ⟨rfl,λh=>absurd (show (1:Int)=3 from h) (by decide),λ_=>hr⟩ (ad:=S.t i.rn.toNat) (da:=[]) (rm:=[]) rfl rfl rfl (List.append_nil _).symm (List.append_nil _).symm h.t (hw.t _) (h.t.t _) (.inr (by show (1:Int)≠3;decide)) (SetOK.nil _) (RdL.nil _) (.inl rfl) (.inl rfl) (by rw[hus];rfl),?_,FO.shut hn rfl⟩
 exact⟨λk=>(h.t.t k).mono _,h.t.ft.mono _,h.t.way.mono _⟩
theorem qb7 (S:PM)(i:Ins)(w:Wnt)(v:Nat):(loadP S i w v).ev=S.ev++[⟨0,1,w.loc,v,w.mode⟩]:=rfl
theorem FW.exP {S:PM}(h:FW S)(hn:S.half=none)(w:Wnt){b:Nat}(hb:b+1=S.ev.length)(hr:∃e,S.ev[b]?=some e/\e.kind=1/\e.loc=w.loc):FW (exP w b S):=by
 unfold Sx.exP
 split
 .exact⟨⟨h.l.ev,h.l.rmw,h.l.addr,h.l.data,h.l.ctrl,h.l.us⟩,⟨h.t.t,h.t.ft,h.t.way⟩,⟨gm hn,λ_=>⟨b,rfl,hb,hr⟩⟩⟩
 .exact h
theorem FW.storeP {S:PM}(h:FW S)(hw:WF S)(hn:S.half=none)(i:Ins)(w:Wnt)(v:Nat)(hr:0<=w.loc/\w.loc<4096)(hx:w.ex=true->S.sc.opn=true/\S.sc.loc=w.loc):FW (storeP S i w v S.ev.length):=by
 have he:EvOK ⟨0,2,w.loc,w.val,w.mode⟩:=⟨rfl,λh=>absurd (show (2:Int)=3 from h) (by decide),λ_=>hr⟩
 have two:∀{S1:PM},S1.half=none->S1.ev=S.ev->S1.rmw=S.rmw->S1.addr=S.addr->S1.data=S.data->S1.ctrl=S.ctrl->S1.t=S.t->S1.ft=S.ft->S1.way=S.way->S1.sc.us=S.sc.us->∀rm,(rm=[]\/∃a r,rm=[a]/\a+1=S.ev.length/\S.ev[a]?=some r/\r.kind=1/\r.loc=w.loc/\(2:Int)=2) ->
   FW { Sx.dataP (kG S1 (S1.t i.rn.toNat) ⟨0,2,w.loc,w.val,w.mode⟩) (S1.t i.rd.toNat) S.ev.length with rmw:=S1.rmw++zc rm S.ev.length }:=λ{S1} k1 k2 k3 k4 k5 k6 k7 k8 k9 k10 rm hrm=>by
  refine⟨h.l.push hw he (ad:=S.t i.rn.toNat) (da:=S.t i.rd.toNat) (rm:=rm) ?_ ?_ ?_ ?_ ?_ h.t (hw.t _) (h.t.t _) (.inr (by show (2:Int)≠3;decide)) (hw.t _) (h.t.t _) (.inr rfl) hrm ?_,?_,FO.shut k1 rfl⟩
  .show S1.ev++_=_;rw[k2]
  .show S1.addr++zc (S1.t _) S1.ev.length=_;rw[k4,k7,k2]
  .show S1.ctrl++zc S1.way S1.ev.length=_;rw[k6,k9,k2]
  .show S1.data++zc (S1.t _) _=_;rw[k5,k7]
  .show S1.rmw++_=_;rw[k3]
  .show S1.sc.us=_;rw[k10];show _=S.sc.us+0;omega
  .refine⟨λk=>?_,?_,?_⟩
   .show RdL (S1.ev++_) (S1.t k);rw[k2,k7];exact (h.t.t k).mono _
   .show RdL (S1.ev++_) S1.ft;rw[k2,k8];exact h.t.ft.mono _
   .show RdL (S1.ev++_) S1.way;rw[k2,k9];exact h.t.way.mono _
 unfold Sx.storeP
 cases hwe:w.ex with
 | false =>
  simp only[Bool.false_eq_true,if_false,false_and]
  have:=two hn rfl rfl rfl rfl rfl rfl rfl rfl rfl [] (.inl rfl)
  have e:({ Sx.dataP (kG S (S.t i.rn.toNat) ⟨0,2,w.loc,w.val,w.mode⟩) (S.t i.rd.toNat) S.ev.length with rmw:=S.rmw++zc [] S.ev.length }:PM)=Sx.dataP (kG S (S.t i.rn.toNat) ⟨0,2,w.loc,w.val,w.mode⟩) (S.t i.rd.toNat) S.ev.length:=by
   show ({ Sx.dataP (kG S (S.t i.rn.toNat) ⟨0,2,w.loc,w.val,w.mode⟩) (S.t i.rd.toNat) S.ev.length with rmw:=S.rmw++[] }:PM)=_
   rw[List.append_nil];rfl
  rw[e]at this;exact this
 | true =>
  simp only[if_true,true_and]
  split
  .exact FW.setRP (S:={ S with sc:={ S.sc with opn:=false } }) ⟨⟨h.l.ev,h.l.rmw,h.l.addr,h.l.data,h.l.ctrl,h.l.us⟩,⟨h.t.t,h.t.ft,h.t.way⟩,FO.shut hn rfl⟩ _ _ (RdL.nil _)
  .obtain⟨o1,o2⟩:=hx hwe
   obtain⟨a,a1,a2,e,a3,a4,a5⟩:=h.o.opn o1
   refine FW.setRP ?_ _ _ (RdL.nil _)
   have:=two (S1:={ S with sc:={ S.sc with opn:=false } }) hn rfl rfl rfl rfl rfl rfl rfl rfl rfl [a] (.inr ⟨a,e,rfl,a2,a3,a4,by rw[a5,o2],rfl⟩)
   have e1:S.sc.rd.toNat=a:=by rw[a1];rfl
   show FW (rmwP _ S.sc.rd.toNat S.ev.length)
   rw[e1]
   exact this
theorem FW.endP {S:PM}(h:FW S)(hw:WF S){hf:Hf}(hh:S.half=some hf):FW (endP S S.ev.length):=by
 have hk:=hw.half hf hh
 obtain⟨a1,a2,a3,⟨e,a4,a5,a6⟩,a7⟩:=h.o.half hf hh
 unfold Sx.endP
 rw[hh]
 refine⟨h.l.push hw (e:=⟨0,2,hf.w.loc,hf.w.val,hf.w.mode⟩) ⟨rfl,λh=>absurd (show (2:Int)=3 from h) (by decide),λ_=>a7⟩ (ad:=hf.ad) (da:=hf.da) (rm:=[hf.rd]) rfl rfl rfl rfl rfl h.t hk.ad a1 (.inr (by show (2:Int)≠3;decide)) hk.da a2 (.inr rfl) (.inr ⟨hf.rd,e,rfl,a3,a4,a5,a6,rfl⟩) (by show S.sc.us=S.sc.us+0;omega),?_,FO.shut rfl rfl⟩
 exact⟨λk=>(h.t.t k).mono _,h.t.ft.mono _,h.t.way.mono _⟩
theorem FW.beginP {S:PM}(h:FW S)(i:Ins)(w:Wnt)(v:Nat){b:Nat}(hn:S.half=none)(hb:b+1=S.ev.length)(hr:∃e,S.ev[b]?=some e/\e.kind=1/\e.loc=w.loc)(hl:0<=w.loc/\w.loc<4096)(ho:S.sc.opn=false):FW (beginP S i w v b)/\(zZ S i v=false->(beginP S i w v b).half=none/\(beginP S i w v b).ev=S.ev):=by
 obtain⟨e,r1,r2,r3⟩:=hr
 have one:RdL S.ev [b]:=λx hx=>by rw[qgk.1 hx];exact⟨e,r1,r2⟩
 have k:=h.setRP (if i.op<=39 then i.rm.toNat else i.rd.toNat) v one
 have o:=qR S (if i.op<=39 then i.rm.toNat else i.rd.toNat) v [b]
 have op:=ye S (if i.op<=39 then i.rm.toNat else i.rd.toNat) v [b]
 unfold Sx.beginP
 cases hB:zZ S i v with
 | false=>simp only[Bool.false_eq_true,if_false];exact⟨k,λ_=>⟨o.half.trans hn,o.ev⟩⟩
 | true =>
  simp only[if_true]
  refine⟨⟨⟨k.l.ev,k.l.rmw,k.l.addr,k.l.data,k.l.ctrl,k.l.us⟩,⟨k.t.t,k.t.ft,k.t.way⟩,λx hx=>?_,λhc=>?_⟩,λh=>by cases h⟩
  .have hx:some (Qz S i w v b)=some x:=hx
   cases hx
   show RdL (Sx.setRP S _ v [b]).ev _/\RdL (Sx.setRP S _ v [b]).ev _/\_+1=(Sx.setRP S _ v [b]).ev.length/\(∃e,(Sx.setRP S _ v [b]).ev[_]?=some e/\_)/\_
   rw[o.ev]
   unfold Qz
   split
   .exact⟨h.t.t _,h.t.t _,hb,⟨e,r1,r2,r3⟩,hl⟩
   .exact⟨h.t.t _,h.t.t _,hb,⟨e,r1,r2,r3⟩,hl⟩
  .have hc:=op.opn hc
   rw[ho]at hc;cases hc
theorem qal {S:PM}(h:FW S)(hw:WF S){i:Ins}(hf:fetch S=some i){w:Wnt}(hl:look S=some w)(hW:Jv S w)(v:Nat):FW (kR S i w v):=by
 unfold kR
 simp only
 split
 .rename_i h1
  have hn:=hW.noHalf (.inl (by omega))
  obtain⟨rng,-⟩:=Xg hw hl (.inl h1)
  have kl:=h.loadP hw hn i w v rng
  have hev:=qb7 S i w v
  have hlen:S.ev.length+1=(loadP S i w v).ev.length:=by rw[hev];simp
  have hrd:∃e,(loadP S i w v).ev[S.ev.length]?=some e/\e.kind=1/\e.loc=w.loc:=⟨⟨0,1,w.loc,v,w.mode⟩,by rw[hev];simp,rfl,rfl⟩
  have kb:=kl.beginP i w v hn hlen hrd rng rfl
  split
  .split
   .exact⟨⟨kb.1.l.ev,kb.1.l.rmw,kb.1.l.addr,kb.1.l.data,kb.1.l.ctrl,kb.1.l.us⟩,⟨kb.1.t.t,kb.1.t.ft,kb.1.t.way⟩,⟨kb.1.o.half,kb.1.o.opn⟩⟩
   .rename_i hb
    obtain⟨q1,q2⟩:=kb.2 (by simpa using hb)
    exact (kb.1.exP q1 w (by rw[q2];exact hlen) (by rw[q2];exact hrd)).goOn
  .have one:RdL (loadP S i w v).ev [S.ev.length]:=by rw[hev];exact RdL.one _ rfl
   have o:=qR (loadP S i w v) i.rd.toNat v [S.ev.length]
   exact ((kl.setRP i.rd.toNat v one).exP (o.half.trans hn) w (by rw[o.ev];exact hlen) (by rw[o.ev];exact hrd)).goOn
 split
 .rename_i h1 h2
  split
  .rename_i ho
   obtain⟨x,hx⟩:=hW.one2 h2 ho
   exact h.endP hw hx
  .rename_i ho
   have ho:w.one=false:=by simpa using ho
   obtain⟨rng,hx⟩:=Xg hw hl (.inr ⟨h2,ho⟩)
   exact (h.storeP hw (hW.noHalf (.inr ho)) i w v rng (hx h2)).goOn
 split
 .rename_i h1 h2 h3
  refine FW.goOn ⟨h.l.push hw (e:=⟨0,3,-1,0,w.mode⟩) ⟨rfl,λ_=>⟨rfl,rfl⟩,λh=>absurd rfl h⟩ (ad:=[]) (da:=[]) (rm:=[]) rfl rfl rfl (List.append_nil _).symm (List.append_nil _).symm h.t (SetOK.nil _) (RdL.nil _) (.inl rfl) (SetOK.nil _) (RdL.nil _) (.inl rfl) (.inl rfl) (by show S.sc.us=S.sc.us+0;omega),⟨λk=>(h.t.t k).mono _,h.t.ft.mono _,h.t.way.mono _⟩,FO.shut (hW.noHalf (.inl (by omega))) rfl⟩
 split
 .exact FW.goOn ⟨⟨h.l.ev,h.l.rmw,h.l.addr,h.l.data,h.l.ctrl,h.l.us⟩,⟨h.t.t,h.t.ft,h.t.way⟩,⟨h.o.half,h.o.opn⟩⟩
 .exact h.goOn
theorem qao {S:PM}(h:FW S)(hw:WF S)(v:Nat):FW (wE S v).1:=by
 obtain⟨h1,h2,h3⟩:=kx hw
 have k:=Xp h
 unfold wE vV
 split
 .exact k
 .cases hf:fetch (wu S).1 with
  | none=>exact k
  | some i=>exact qal k h2 hf h1 (jd h2 h1) v
theorem qea (ws:List Nat)(fuel:Int):FW (yZ ws fuel) :=
 ⟨⟨λe he=>(by cases he),PrI.nil _ _,PrI.nil _ _,PrI.nil _ _,PrI.nil _ _,rfl⟩,⟨λk x hx=>(by cases hx),RdL.nil _,RdL.nil _⟩,FO.shut rfl rfl⟩
end Go.Sx
namespace Go.Sx
open Go.Dx Go.Proofs
set_option maxRecDepth 10000
theorem WV (I:PM->Prop)(hd:∀S,I S->DnB S/\0<=S.sc.limit)(hstep:∀S,WF S->I S->I (wu S).1)
  (hfeed:∀S w v,WF S->I S->look S=some w->w.what<5->v<W64->(w.what=2->w.ex=true->v<=1)->(¬(w.what=2/\w.one=true)->ki S.sc=false)->I (wE S v).1) :
  ∀(k:Nat) (S:PM) (rs:List Nat) (ws:List Bool),WF S->I S->(∀v∈rs,v<W64)->mu S<k->∃T,WF T/\I T/\(qC k S rs ws=jC T\/qC k S rs ws=jy T)
 | 0,S,rs,ws,h,hi,hv,hm=>by
  have:=(hd S hi).1.dn
  unfold mu at hm
  split at hm<;>omega
 | k+1,S,rs,ws,h,hi,hv,hm=>by
  obtain⟨hl,hw,hs⟩:=kx h
  have hi1:=hstep S h hi
  have hm1:mu (wu S).1<=mu S:=(bL 100001 S (hd S hi).1).2
  show ∃T,WF T/\I T/\(wH (qC k) (wu S).1 (wu S).2 rs ws=jC T\/wH (qC k) (wu S).1 (wu S).2 rs ws=jy T)
  obtain⟨S1,hS1⟩:=qh2 ((wu S).1)
  obtain⟨w,hwd⟩:=qh2 ((wu S).2)
  have hWO:=jd hw hl
  rw[<-hS1,<-hwd]at hl hWO ⊢
  rw[<-hS1]at hw hs hi1 hm1
  have wh:=hWO.what
  have on:∀(v:Nat) (rs':List Nat) (ws':List Bool),v<W64->(∀x∈rs',x<W64)->w.what<5->(w.what=2->w.ex=true->v<=1)->(¬(w.what=2/\w.one=true)->ki S1.sc=false) ->
    ∃T,WF T/\I T/\(qC k (wE S1 v).1 rs' ws'=jC T\/qC k (wE S1 v).1 rs' ws'=jy T):=λv rs' ws' h1 h2 h3 h4 h5=>by
   have:=(ZE hw hl (hd _ hi1).1 h3 h4 h5 (hd _ hi1).2).2
   exact WV I hd hstep hfeed k (wE S1 v).1 rs' ws' (vU hw h1) (hfeed S1 w v hw hi1 hl h3 h1 h4 h5) h2 (by omega)
  unfold wH
  by_cases c1:w.what=2/\w.one=true
  .rw[if_pos c1];exact on 0 rs ws (by decide) hv (by omega) (λ_ _=>by omega) (λh=>absurd c1 h)
  rw[if_neg c1]
  by_cases c2:w.what=7\/w.what=6
  .rw[if_pos c2];exact⟨S1,hw,hi1,.inl rfl⟩
  rw[if_neg c2]
  by_cases c3:ki S1.sc=true
  .rw[if_pos c3];exact⟨S1,hw,hi1,.inr rfl⟩
  have c3':ki S1.sc=false:=by simpa using c3
  rw[if_neg c3]
  by_cases c4:w.what=5
  .rw[if_pos c4];exact⟨S1,hw,hi1,.inl rfl⟩
  rw[if_neg c4]
  by_cases c5:w.what=1
  .rw[if_pos c5]
   cases rs with
   | nil=>exact⟨S1,hw,hi1,.inl rfl⟩
   | cons v rs'=>exact on v rs' ws (hv v (by simp)) (λx hx=>hv x (by simp[hx])) (by omega) (λh=>by omega) (λ_=>c3')
  rw[if_neg c5]
  by_cases c6:w.what=2/\w.ex=true
  .rw[if_pos c6]
   cases ws with
   | nil=>exact⟨S1,hw,hi1,.inl rfl⟩
   | cons b ws'=>exact on _ rs ws' (by cases b<;>decide) hv (by omega) (λ_ _=>by cases b<;>simp) (λ_=>c3')
  .rw[if_neg c6];exact on 0 rs ws (by decide) hv (by omega) (λ_ _=>by omega) (λ_=>c3')
structure Rs (K:Nat × Nat->EvR->EvR->Prop)(ev:List EvR)(l:List (Nat × Nat)):Prop where
 up:l.Pairwise λp q=>ltP p q=true
 ok:∀p∈l,∃r e,ev[p.1]?=some r/\r.kind=1/\p.1<p.2/\ev[p.2]?=some e/\K p r e
theorem qe2 {p q:Nat × Nat}(h:ltP q p=false)(hne:p≠q):ltP p q=true:=by
 obtain⟨a,b⟩:=p
 obtain⟨c,d⟩:=q
 unfold ltP at *
 simp at *
 by_cases e:a=c
 .subst e
  by_cases e2:b=d
  .exact absurd e2 (by simpa using hne)
  .exact .inr ⟨rfl,by omega⟩
 .exact .inl (by omega)
theorem PrI.rise {K:Nat × Nat->EvR->EvR->Prop}{ev:List EvR}{l:List (Nat × Nat)}(h:PrI K ev l):Rs K ev (yD l):=by
 obtain⟨h1,h2⟩:=jZ toP l
 have h1:(yD l).Perm l:=h1
 have h2:(yD l).Pairwise λx y=>ltP y x=false:=h2
 refine⟨?_,λp hp=>h.ok p (h1.mem_iff.1 hp)⟩
 have nd:(yD l).Nodup:=h1.nodup_iff.2 h.nd
 exact (h2.and nd).imp λ{a b} ⟨x,y⟩=>qe2 x y
structure Qf (R:PM):Prop where
 len:R.ev.length<=256
 us:R.sc.us=(nR R.ev:Nat)
 ev:∀e∈R.ev,EvOK e
 rmw:Rs KR R.ev R.rmw
 addr:Rs KA R.ev R.addr
 data:Rs KD R.ev R.data
 ctrl:Rs KC R.ev R.ctrl
theorem qat {T:PM}(hw:WF T)(h:FW T):Qf (jC T):=⟨hw.ev,h.l.us,h.l.ev,h.l.rmw.rise,h.l.addr.rise,h.l.data.rise,h.l.ctrl.rise⟩
theorem VA {T:PM}(hw:WF T)(h:FW T):Qf (jy T):=⟨hw.ev,h.l.us,h.l.ev,h.l.rmw.rise,h.l.addr.rise,h.l.data.rise,h.l.ctrl.rise⟩
theorem fu {ws:List Nat}(he:xD ws=0)(rs:List Nat)(wins:List Bool){fuel:Int}(hf:0<=fuel/\fuel<=100000)(hv:∀v∈rs,v<W64):Qf (zE ws rs wins fuel):=by
 obtain⟨T,h1,h2,h3⟩:=WV (λS=>FW S/\DnI fuel S) (λS k=>⟨k.2.1,by rw[k.2.2.1];exact hf.1⟩) (λS h k=>⟨Xp k.1,k.2.step h⟩) (λS w v h k hl h5 _ hv1 hs=>⟨qao k.1 h v,k.2.feed hf.1 h hl h5 hv1 hs⟩)
  200001 (yZ ws fuel) rs wins (fK he fuel) ⟨qea ws fuel,YM hf⟩ hv (by
   show 2*(fuel-0)+(if (none:Option Hf)=none then 0 else 1)<_
   simp;omega)
 rcases h3 with e | e
 .show Qf (qC 200001 (yZ ws fuel) rs wins);rw[e];exact qat h1 h2.1
 .show Qf (qC 200001 (yZ ws fuel) rs wins);rw[e];exact VA h1 h2.1
end Go.Sx
namespace Go.Sx
open Go.Dx Go.Proofs
set_option maxRecDepth 10000
theorem QP {ev:List EvR}{i:Nat}{e:EvR}(h:ev[i]?=some e):nR (ev.take (i+1))=nR (ev.take i)+if e.kind=1 then 1 else 0:=by
 rw[List.take_add_one,h];exact dI _ _
end Go.Sx
namespace Go.Sx
open Go.Dx Go.Proofs
set_option maxRecDepth 10000
section
variable {x:Ex}{kn kr:K}{ke:Nat->K}{Q:Option Out->Prop}{t:Tm}{m:M}{B C D:Nat}{ev v:Value}{A:List EvR}{l:List (Nat × Nat)}{p:Nat × Nat}{r e:EvR}{i j:Nat}
end
theorem ia4 (D:Nat){k:Nat}(h:k<4):zi 4 1 (.pointer (some ⟨D,0,none⟩)) (iv k)=some (.pointer (some ⟨D,k,none⟩)):=by
 have h1:vo (iv k)=some k:=rfl
 have h2:Nat.blt k 4=true:=by rw[<-Nat.blt_eq]at h;exact h
 unfold zi
 rw[h1,qN,yg,qN,h2,cond_true,Nat.mul_one]
 show some (Value.pointer (some ⟨D,0+k,none⟩))=_
 rw[Nat.zero_add]
end Go.Sx
namespace Go.Sx
open Go.Dx Go.Proofs
set_option maxRecDepth 10000
theorem bu_4 {a b c d:Value}(ha:okC a=true)(hb:okC b=true)(hc:okC c=true)(hd:okC d=true):wN [zS,zS,zS,zS] [(0,1,a),(1,1,b),(2,1,c),(3,1,d)]=some (.agg ⟨[a,b,c,d]⟩):=by
 have k:∀v:Value,okC v=true->jH v=some [v]:=λv hv=>by cases v<;>first | rfl | simp[okC]at hv
 unfold wN
 simp only[JR,k a ha,k b hb,k c hc,k d hd,qN]
 rfl
theorem RL.any {m:M}{s:Mch}{S:PM}(h:RL m s S):RL (qg m) s S:=h.kp (D:=[]) ⟨by rw[qq];exact qgg _,λB _ _=>qw _ _⟩ (by simp)
end Go.Sx
namespace Go.Sx
open Go.Dx Go.Proofs
set_option maxRecDepth 10000
structure Mq where
 P:Nat
 s:Mch
 g:Gh
 S:PM
structure Sep (a b:Mq):Prop where
 ww:∀B∈own a.P a.s,B ∉ own b.P b.s
 wz:∀B∈own a.P a.s,¬Sh b.s b.g B
 zw:∀B∈own b.P b.s,¬Sh a.s a.g B
theorem Sep.symm {a b:Mq}(h:Sep a b):Sep b a:=⟨λB hB hA=>h.ww B hA hB,h.zw,h.wz⟩
theorem ML.own_lt {m:M}{P:Nat}{s:Mch}{g:Gh}{S:PM}(h:ML m P s g S){B:Nat}(hB:B∈own P s):B<m.n:=by
 rcases wR.1 hB with rfl | hL
 .exact h.mat.lt
 .exact h.hp.ln hL
theorem ML.keepM {m m':M}{V:List Nat}{P:Nat}{s:Mch}{g:Gh}{S:PM}(h:ML m P s g S)(k:Mc m m' V)(h1:∀B∈V,B ∉ own P s)(h2:∀B∈V,¬Sh s g B):ML m' P s g S:=by
 have hn:=k.n
 have o:∀B∈own P s,m'.obj B=m.obj B:=λB hB=>k.obj B (h.own_lt hB) λhv=>h1 B hv hB
 exact⟨by rw[k.base];exact qgp h.base hn,⟨h.mat.arr.congr (o P (wR.2 (.inl rfl))),qgi h.mat.lt hn⟩,h.hp.congr hn (λB hB=>k.obj B (h.hp.sn B hB) λhv=>h2 B hv hB) (λB hB=>o B (wR.2 (.inr hB))),h.sc⟩
theorem ML.extM {m m':M}{P:Nat}{s:Mch}{g:Gh}{S:PM}(h:ML m P s g S)(e:Ext m m'):ML m' P s g S :=
 h.keepM (V:=[]) ⟨e.n,λB hB _=>e.obj B hB,e.base,λB hB=>.inl (by rw[<-e.log];exact hB),λ_=>e.log⟩ (by simp) (by simp)
structure Ms (m0 m:M)(L:List Mq):Prop where
 b0:m0.base<=m0.n
 ext:Ext m0 m
 ml:∀q∈L,ML m q.P q.s q.g q.S/\∀B∈own q.P q.s,m0.n<=B
 sep:∀(i j:Nat) (a b:Mq),i≠j->L[i]?=some a->L[j]?=some b->Sep a b
section
variable {m0 m m':M}{L:List Mq}{i:Nat}{P:Nat}{s s':Mch}{g g':Gh}{S S':PM}
theorem Ms.nil {m:M}(h:m.base<=m.n):Ms m m []:=⟨h,Ext.refl m,(λq hq=>by cases hq),(λi j a b _ h _=>by simp at h)⟩
theorem Ms.base (h:Ms m0 m L):m.base<=m.n:=((Sees.refl h.b0).ext h.ext).base
theorem Ms.step (h:Ms m0 m L)(e:Ext m m'):Ms m0 m' L:=⟨h.b0,h.ext.trans e,λq hq=>⟨(h.ml q hq).1.extM e,(h.ml q hq).2⟩,h.sep⟩
theorem Ms.get (h:Ms m0 m L)(hi:L[i]?=some ⟨P,s,g,S⟩):ML m P s g S:=(h.ml _ (qge hi)).1
theorem Ms.upd (h:Ms m0 m L)(hi:L[i]?=some ⟨P,s,g,S⟩)(r:Res m m' P s g s' g' S'):Ms m0 m' (L.set i ⟨P,s',g',S'⟩):=by
 obtain⟨h1,h2⟩:=h.ml _ (qge hi)
 have hlt:=h.ext.n
 have ow':∀B∈own P s',B∈own P s\/m.n<=B:=λB hB=>by
  rcases wR.1 hB with rfl | hL
  .exact .inl (wR.2 (.inl rfl))
  .exact (r.lb B hL).imp (λk=>wR.2 (.inr k)) _root_.id
 have il:i<L.length:=(qgf.1 hi).1
 have hset:∀j,(L.set i ⟨P,s',g',S'⟩)[j]?=if i=j then some ⟨P,s',g',S'⟩ else L[j]?:=λj=>by
  rw[List.getElem?_set];split<;>simp_all
 have one:∀j b,i≠j->L[j]?=some b->Sep ⟨P,s',g',S'⟩ b:=λj b hj hb=>by
  have k:=h.sep i j _ _ hj hi hb
  have hm:=(h.ml _ (qge hb)).1
  refine⟨λB hB hB2=>?_,λB hB hB2=>?_,λB hB hB2=>?_⟩
  .rcases ow' B hB with q | q
   .exact k.ww B q hB2
   .exact absurd (hm.own_lt hB2) (by omega)
  .rcases ow' B hB with q | q
   .exact k.wz B q hB2
   .exact absurd (hm.hp.sn B hB2) (by omega)
  .rcases r.sh B hB2 with q | q
   .exact k.zw B hB q
   .exact absurd (hm.own_lt hB) (by omega)
 have hb:m'.base<=m'.n:=by rw[r.mc.base];exact qgp h1.base r.mc.n
 refine⟨h.b0,dH h.ext r.mc h2 h.b0,λq hq=>?_,λa b x y hab hx hy=>?_⟩
 .obtain⟨j,hj⟩:=List.mem_iff_getElem?.1 hq
  rw[hset]at hj
  split at hj
  .cases hj
   refine⟨⟨hb,r.mat,r.hp,r.sc⟩,λB hB=>?_⟩
   rcases ow' B hB with q | q
   .exact h2 B q
   .omega
  .rename_i hne
   obtain⟨k1,k2⟩:=h.ml _ (qge hj)
   have k:=h.sep i j _ _ hne hi hj
   exact⟨k1.keepM r.mc k.ww k.wz,k2⟩
 .rw[hset]at hx hy
  split at hx
  .rename_i e1
   split at hy
   .rename_i e2;omega
   .rename_i e2;cases hx;exact one b y e2 hy
  .rename_i e1
   split at hy
   .rename_i e2;cases hy;exact (one a x e1 hx).symm
   .exact h.sep a b x y hab hx hy
theorem Ms.push (h:Ms m0 m L)(k:ML m P s g S)(h1:∀B∈own P s,m0.n<=B)(h2:∀q∈L,Sep q ⟨P,s,g,S⟩):Ms m0 m (L++[⟨P,s,g,S⟩]):=by
 have hget:∀j x,(L++[(⟨P,s,g,S⟩:Mq)])[j]?=some x->L[j]?=some x\/(j=L.length/\x=⟨P,s,g,S⟩):=λj x hx=>by
  by_cases hj:j<L.length
  .rw[qgs hj]at hx;exact .inl hx
  .rw[qgt (by omega)]at hx
   obtain⟨q1,q2⟩:=qgf.1 hx
   simp at q1 q2
   exact .inr ⟨by omega,q2.symm⟩
 refine⟨h.b0,h.ext,λq hq=>?_,λa b x y hab hx hy=>?_⟩
 .rcases qh1.1 hq with hq | hq
  .exact h.ml q hq
  .rw[qgk.1 hq];exact⟨k,h1⟩
 .rcases hget a x hx with h3 | ⟨h3,rfl⟩
  .rcases hget b y hy with h4 | ⟨h4,rfl⟩
   .exact h.sep a b x y hab h3 h4
   .exact h2 x (qge h3)
  .rcases hget b y hy with h4 | ⟨h4,rfl⟩
   .exact (h2 y (qge h4)).symm
   .omega
theorem Ms.reg_c (h:Ms m0 m L)(n:Nat)(hi:L[i]?=some ⟨P,s,g,S⟩){k:Nat}(hk:k<=30):∃m',(xA (n+40)).f 12 [mP P,iv k] m=some (uv (S.sc.v k),m')/\Ms m0 m' L/\Ext m m':=by
 obtain⟨v,m',a1,a2,rfl⟩:=Reg_m (n+39) (h.get hi) hk
 exact⟨m',by rw[xA_f _ _ _ _ (by decide)];exact a1,h.step a2,a2⟩
end
end Go.Sx
namespace Go.Sx
open Go.Dx Go.Proofs
set_option maxRecDepth 10000
section
variable {e:Nat}{m:M}{v:Value}{es:List (Row e)}
theorem KG {o:Nat}{x x':Row e}{u:Value}(ho:o<e)(hx:wY x'=(wY x).set o u):∀(es:List (Row e)) (i:Nat),es[i]?=some x->(es.flatMap wY).set (i*e+o) u=(es.set i x').flatMap wY
 | [],i,h=>by simp at h
 | y::es,0,h=>by
  simp at h;subst h
  simp only[List.flatMap_cons,List.set_cons_zero,Nat.zero_mul,Nat.zero_add]
  rw[List.set_append_left _ _ (by rw[kJ];exact ho),hx]
 | y::es,i+1,h=>by
  have h':es[i]?=some x:=by simpa using h
  simp only[List.flatMap_cons,List.set_cons_succ]
  rw[List.set_append_right _ _ (by rw[kJ,Nat.add_mul];omega),kJ,show (i+1)*e+o-e=i*e+o by rw[Nat.add_mul];omega,KG ho hx es i h']
theorem _root_.Go.Dx.Gro.isAt (h:Gro m v e wY es){i:Nat}{x:Row e}(hi:es[i]?=some x):∃B,v=.slice (some ⟨B,0,some (code e false)⟩) es.length es.length/\B<m.n/\Arr m B (es.flatMap wY):=by
 rcases h with ⟨rfl,_⟩ | ⟨B,_,h2,_,h4,h5⟩
 .simp at hi
 .exact⟨B,h4,h2,h5⟩
theorem own1 {B:Nat}{l:List Value}(hm:m.base<=m.n)(h1:B<m.n)(h2:Arr m B l):Ow m m [B] [(B,l)]:=Ow.start hm (by simp;exact⟨h1,h2⟩) (by simp)
theorem _root_.Go.Dx.Gro.putCell (h:Gro m v e wY es)(hm:m.base<=m.n)(he:0<e){i o:Nat}{x x':Row e}(hi:es[i]?=some x)(ho:o<e){u:Value}(hu:okC u=true)(hx':wY x'=(wY x).set o u) :
  ∃m',qB 1 (.pointer (some ⟨(adr e v i).block,(adr e v i).off+o,none⟩)) u m=some (undef,m')/\Mc m m' (Qy v)/\Gro m' v e wY (es.set i x')/\m'.n=m.n:=by
 obtain⟨B,rfl,h1,h2⟩:=h.isAt hi
 have il:=(qgf.1 hi).1
 have hfl:=wG (kJ (e:=e)) es
 have hmul:(i+1)*e<=es.length*e:=qgx e il
 rw[Nat.add_mul,Nat.one_mul]at hmul
 obtain⟨m',a1,a2,a3,a4⟩:=(own1 hm h1 h2).store 0 rfl (o:=0+i*e+o) (v:=u) (by rw[hfl];omega) hu
 rw[Nat.zero_add,KG ho hx' es i hi]at a2
 obtain⟨-,b1,b2⟩:=a2.get 0 rfl
 exact⟨m',a1,a2.mc,.inr ⟨B,Nat.zero_le _,b1,λhc=>by rw[<-List.length_eq_zero_iff,List.length_set]at hc;omega,by rw[List.length_set],b2⟩,a3⟩
theorem _root_.Go.Dx.Gro.app1 (h:Gro m v e wY es)(hm:m.base<=m.n)(he:0<e){x:Row e}{X:Nat}{sp:Option Nat}(hx:loads m ⟨X,0,sp⟩ e=some (wY x)){bytes:Nat}(hs:(es.length+1)*bytes<=most)(hn:es.length+1<=4611686018427387904) :
  ∃v' m',wZ m e bytes v (.slice (some ⟨X,0,sp⟩) 1 1)=some (v',m')/\Mc m m' (Qy v)/\Gro m' v' e wY (es++[x])/\∀B,Dx.blk v'=some B->m.n<=B:=by
 obtain⟨v',m',h1,h2,h3,h4,h5,h6,h7⟩:=Grown.core h he kJ Ji hx (Nat.zero_le _) hs hn
 have lt:=h.lt
 have ow:Ow m m (Qy v) []:=Ow.start hm (by simp) (by simp)
 refine⟨v',m',h1,(ow.kill (v:=v) (λB hB=>.inl (zX.2 hB)) (by omega) h4 (h5.imp _root_.id λ⟨B,b1,_,b3⟩=>⟨B,b1,b3⟩) h6 (by simp)).mc,h2,h7⟩
end
end Go.Sx
namespace Go.Sx
open Go.Dx Go.Proofs
set_option maxRecDepth 10000
section
variable {α:Type}{m0 m m':M}{v:Value}{e:Nat}{f:α->List Value}{es:List α}
theorem Grown.sp (h:Grown m0 m v e f es):Sp e v:=by
 rcases h with ⟨_,rfl⟩ | ⟨B,_,_,_,rfl,_⟩
 .exact .inl rfl
 .exact .inr ⟨B,0,_,_,false,rfl,qgg _⟩
end
section
variable {m0 m m':M}{P:Nat}{s s':Mch}{g g':Gh}{S S':PM}
theorem Mc.ofExt {W:List Nat}(e:Ext m m'):Mc m m' W:=⟨e.n,λB hB _=>e.obj B hB,e.base,λB hB=>.inl (by rw[<-e.log];exact hB),λ_=>e.log⟩
theorem RL.anyR (h:RL m s S):RL (qg m) s S:=h.kp (D:=[]) ⟨by rw[qq];exact qgg _,λB _ _=>qw _ _⟩ (by simp)
theorem RL.keepM {V:List Nat}(h:RL m s S)(k:Mc m m' V)(hV:∀F,F<6->∀B,blk (lst s F)=some B->B ∉ V):RL m' s S:=h.kp (D:=V) ⟨k.n,k.obj⟩ hV
theorem RL.setF (h:RL m s S){F:Nat}(hF:F<6)(k:Mc m m' (Qy (lst s F))){v:Value}(hn:Gro m' v (esz F) wY (rowsOf S' F))(hv:∀B,blk v=some B->m.n<=B)(ho:∀G,G<6->G≠F->rowsOf S' G=rowsOf S G):RL m' (vL s F v) S':=by
 have old:∀G,G<6->G≠F->Gro m' (lst s G) (esz G) wY (rowsOf S' G):=λG hG e=>by
  rw[ho G hG e]
  exact (h.ls G hG).keep k.n λB hB hb=>k.obj B hB λhc=>h.dis G F hG hF e B hb (zX.1 hc)
 refine⟨λG hG=>?_,λG H hG hH hne B hB hc=>?_⟩
 .by_cases e:G=F
  .subst e;rw[xQ s hG];exact hn
  .rw[zq s hF hG e];exact old G hG e
 .by_cases e:G=F
  .subst e
   rw[xQ s hG]at hB
   rw[zq s hG hH (Ne.symm hne)]at hc
   have:=hv B hB
   have:=(h.ls H hH).lt B hc
   omega
  .rw[zq s hF hG e]at hB
   by_cases e2:H=F
   .subst e2
    rw[xQ s hF]at hc
    have:=hv B hc
    have:=(h.ls G hG).lt B hB
    omega
   .rw[zq s hF hH e2]at hc
    exact h.dis G H hG hH hne B hB hc
end
structure KI (mB m:M)(A:Nat)(V:List Nat)(q:Mch)(S:PM):Prop where
 b0:mB.base<=mB.n
 mc:Mc mB m V
 lt:A<mB.n
 arr:Arr m A (qZ q)
 rl:RL m q S
 AV:A∈V
 bl:∀F,F<6->∀B,blk (lst q F)=some B->(B∈V\/mB.n<=B)/\B≠A
theorem KI.base {mB m:M}{A:Nat}{V:List Nat}{q:Mch}{S:PM}(h:KI mB m A V q S):m.base<=m.n:=by rw[h.mc.base];exact qgp h.b0 h.mc.n
theorem KI.ld {mB m:M}{A:Nat}{V:List Nat}{q:Mch}{S:PM}(h:KI mB m A V q S)(o:Nat):load1 m ⟨A,o,none⟩=(qZ q)[o]?:=h.arr.load1 o none
theorem qcp (q:Mch){F:Nat}(hF:F<6)(v:Value):(qZ q).set F v=qZ (vL q F v):=by rcases six hF with rfl | rfl | rfl | rfl | rfl | rfl<;>rfl
theorem KI.push {mB m:M}{A:Nat}{V:List Nat}{q:Mch}{S S':PM}(h:KI mB m A V q S){F:Nat}(hF:F<6){r:Row (esz F)}(hr:rowsOf S' F=rowsOf S F++[r])(ho:∀G,G<6->G≠F->rowsOf S' G=rowsOf S G){bytes:Nat}(hz:((rowsOf S F).length+1)*bytes<=most)(hn:(rowsOf S F).length+1<=4611686018427387904)(sp:Option Nat) :
  ∃v' m2 m3,wZ (Dx.newRow m (wY r)) (esz F) bytes (lst q F) (.slice (some ⟨m.n,0,sp⟩) 1 1)=some (v',m2)/\qB 1 (.pointer (some ⟨A,F,none⟩)) v' m2=some (undef,m3)/\load1 m2 ⟨A,F,none⟩=some (lst q F)/\KI mB m3 A V (vL q F v') S':=by
 have e0:Ext m (Dx.newRow m (wY r)):=Ext.row m _
 have hb0:(Dx.newRow m (wY r)).base<=(Dx.newRow m (wY r)).n:=by rw[e0.base];exact qgp h.base e0.n
 have lx:loads (Dx.newRow m (wY r)) ⟨m.n,0,sp⟩ (esz F)=some (wY r):=by
  have:=(Arr.row m (wY r)).loads (o:=0) (n:=esz F) (s:=sp) (by rw[kJ];omega)
  rw[List.drop_zero,List.take_of_length_le (by rw[kJ];omega)]at this
  exact this
 have r0:=h.rl.ext e0
 obtain⟨v',m2,a1,a2,a3,a4⟩:=(r0.ls F hF).app1 hb0 (ZC F) lx hz hn
 have mn:=h.mc.n
 have en:=e0.n
 have An:A<m.n:=qgi h.lt mn
 have hA:∀B,blk (lst q F)=some B->B≠A:=λB hB=>(h.bl F hF B hB).2
 have arr2:Arr m2 A (qZ q):=(h.arr.congr (e0.obj A An)).congr (a2.obj A (by omega) λhc=>hA A (zX.1 hc) rfl)
 have a2n:=a2.n
 have hb2:m2.base<=m2.n:=by rw[a2.base];exact qgp hb0 a2n
 have r2:RL m2 (vL q F v') S':=r0.setF hF a2 (by rw[hr];exact a3) a4 ho
 have hlen:F<(qZ q).length:=by simp[qZ];omega
 have okv:okC v'=true:=Grown.okC a3
 obtain⟨m3,b1,b2,b3,b4⟩:=(own1 hb2 (by omega) arr2).store 0 rfl (o:=F) (v:=v') hlen okv
 rw[show ([(A,qZ q)]:List (Nat × List Value)).set 0 (A,(qZ q).set F v')=[(A,(qZ q).set F v')] from rfl,qcp q hF v']at b2
 have bl':∀G,G<6->∀B,blk (lst (vL q F v') G)=some B->(B∈V\/mB.n<=B)/\B≠A:=λG hG B hB=>by
  by_cases e:G=F
  .subst e
   rw[xQ q hG]at hB
   have:=a4 B hB
   exact⟨.inr (by omega),by omega⟩
  .rw[zq q hF hG e]at hB;exact h.bl G hG B hB
 refine⟨v',m2,m3,a1,b1,?_,h.b0,?_,h.lt,(b2.get 0 rfl).2.2,r2.keepM b2.mc (λG hG B hB hc=>?_),h.AV,bl'⟩
 .rw[arr2.load1]
  rcases six hF with rfl | rfl | rfl | rfl | rfl | rfl<;>rfl
 .refine ((h.mc.tr2 (Mc.ofExt (W:=[]) e0) (by simp) h.b0).tr2 a2 (λB hB=>?_) h.b0).tr2 b2.mc (λB hB=>by simp at hB;rw[hB];exact .inl h.AV) h.b0
  exact (h.bl F hF B (zX.1 hB)).1
 .simp at hc
  exact (bl' G hG B hB).2 hc
structure KL (mB m:M)(A:Nat)(V:List Nat)(q:Mch)(lo:Nat):Prop where
 b0:mB.base<=mB.n
 mc:Mc mB m V
 lt:A<mB.n
 arr:Arr m A (qZ q)
 gs:∀F,lo<=F->1<=F->F<5->∃es:List (Row 2),Gro m (lst q F) 2 wY es/\es.length<=1000000
 dis:∀F G,F<6->G<6->F≠G->∀B,blk (lst q F)=some B->blk (lst q G)≠some B
 bl:∀F,F<6->∀B,blk (lst q F)=some B->(B∈V\/mB.n<=B)/\B≠A
theorem KI.kl {mB m:M}{A:Nat}{V:List Nat}{q:Mch}{S:PM}(h:KI mB m A V q S)(h1:S.rmw.length<=1000000)(h2:S.addr.length<=1000000)(h3:S.data.length<=1000000)(h4:S.ctrl.length<=1000000):KL mB m A V q 1 :=
 ⟨h.b0,h.mc,h.lt,h.arr,λF _ hF1 hF=>by
  rcases (by omega:F=1\/F=2\/F=3\/F=4) with rfl | rfl | rfl | rfl
  .exact⟨_,h.rl.ls 1 (by omega),by show (rowsOf S 1).length<=_;rw[yc];exact h1⟩
  .exact⟨_,h.rl.ls 2 (by omega),by show (rowsOf S 2).length<=_;rw[fP];exact h2⟩
  .exact⟨_,h.rl.ls 3 (by omega),by show (rowsOf S 3).length<=_;rw[fQ];exact h3⟩
  .exact⟨_,h.rl.ls 4 (by omega),by show (rowsOf S 4).length<=_;rw[fR];exact h4⟩,h.rl.dis,h.bl⟩
theorem Yz (e:Nat)(v:Value)(i:Nat):(⟨(adr e v i).block,(adr e v i).off,none⟩:Addr)=adr e v i:=by unfold adr;split<;>rfl
end Go.Sx
namespace Go.Sx
open Go.Dx Go.Proofs
set_option maxRecDepth 10000
abbrev TF (T:Nat->Prop)(l:List Nat):Prop:=∀x∈l,¬T x
section
variable {T:Nat->Prop}{A B:PM}
theorem TF.ul {a b:List Nat}(h:TF T (uni a b)):TF T a:=λx hx=>h x (bK.2 (.inl hx))
theorem TF.ur {a b:List Nat}(h:TF T (uni a b)):TF T b:=λx hx=>h x (bK.2 (.inr hx))
def HR (T:Nat->Prop):Option Hf->Option Hf->Prop
 | none,none=>True
 | some h,some k=>k.ad=h.ad/\k.da=h.da/\k.rd=h.rd/\(k.w.what=h.w.what/\k.w.mode=h.w.mode/\k.w.ex=h.w.ex/\k.w.one=h.w.one)/\(TF T h.ad->k.w.loc=h.w.loc)/\(TF T h.da->¬T h.rd->k.w.val=h.w.val)
 | _,_=>False
structure Rl (T:Nat->Prop)(A B:PM):Prop where
 code:B.code=A.code
 at_:B.sc.at_=A.sc.at_
 own:B.sc.own=A.sc.own
 dn:B.sc.dn=A.sc.dn
 limit:B.sc.limit=A.sc.limit
 evl:B.ev.length=A.ev.length
 t:B.t=A.t
 ft:B.ft=A.ft
 way:B.way=A.way
 v:∀k,TF T (A.t k)->B.sc.v k=A.sc.v k
 fl:TF T A.ft->B.sc.fn=A.sc.fn/\B.sc.fz=A.sc.fz/\B.sc.fc=A.sc.fc/\B.sc.fv=A.sc.fv
 half:HR T A.half B.half
theorem Rl.setRP (h:Rl T A B)(k:Nat){x y:Nat}{l:List Nat}(hv:TF T l->y=x):Rl T (setRP A k x l) (setRP B k y l):=by
 unfold Sx.setRP
 split
 .exact h
 .refine⟨h.code,h.at_,h.own,h.dn,h.limit,h.evl,by show upN B.t k l=_;rw[h.t],h.ft,h.way,λq hq=>?_,h.fl,h.half⟩
  show upN B.sc.v k y q=upN A.sc.v k x q
  have hq:TF T (upN A.t k l q):=hq
  by_cases e:q=k
  .rw[e,xa,xa];rw[e,xa]at hq;exact hv hq
  .rw[yE _ _ e,yE _ _ e];rw[yE _ _ e]at hq;exact h.v q hq
theorem JX {s s':Mch}(h:s'.fn=s.fn/\s'.fz=s.fz/\s'.fc=s.fc/\s'.fv=s.fv)(c:Nat):jx s' c=jx s c:=by
 unfold jx isF
 rw[h.1,h.2.1,h.2.2.1,h.2.2.2]
theorem Ya {op:Int}(h:12<=op)(a b b' k:Nat):xv op a b k=xv op a b' k:=by
 unfold xv
 simp only[if_neg (show ¬op=3 by omega),if_neg (show ¬op=4 by omega),if_neg (show ¬op=5 by omega),if_neg (show ¬op=6 by omega),if_neg (show ¬op=7 by omega),if_neg (show ¬op=8 by omega),if_neg (show ¬op=9 by omega),if_neg (show ¬op=10 by omega),if_neg (show ¬op=11 by omega)]
theorem doF_rl (h:Rl T A B)(i:Ins)(hx:i.op≠28/\i.op≠29)(hw:TF T (doF A i).1.way):Rl T (doF A i).1 (doF B i).1/\(doF B i).2=(doF A i).2:=by
 unfold doF at hw ⊢
 simp only at hw ⊢
 rw[h.at_]
 by_cases c:i.op=18
 .simp only[if_pos c]at hw ⊢;exact⟨h,by simp⟩
 simp only[if_neg c]at hw ⊢
 by_cases c:i.op=19
 .simp only[if_pos c]at hw ⊢
  refine⟨⟨h.code,h.at_,h.own,h.dn,h.limit,h.evl,h.t,h.ft,by show uni B.way B.ft=uni A.way A.ft;rw[h.way,h.ft],h.v,h.fl,h.half⟩,?_⟩
  rw[JX (h.fl (TF.ur hw))]
 simp only[if_neg c]at hw ⊢
 by_cases c:i.op=20\/i.op=21
 .simp only[if_pos c]at hw ⊢
  refine⟨⟨h.code,h.at_,h.own,h.dn,h.limit,h.evl,h.t,h.ft,by show uni B.way (B.t _)=uni A.way (A.t _);rw[h.way,h.t],h.v,h.fl,h.half⟩,?_⟩
  rw[h.v _ (TF.ur hw)]
 simp only[if_neg c]at hw ⊢
 by_cases c:i.op=16
 .simp only[if_pos c]at hw ⊢
  refine⟨⟨h.code,h.at_,h.own,h.dn,h.limit,h.evl,h.t,by show uni (B.t _) (B.t _)=uni (A.t _) (A.t _);rw[h.t],h.way,h.v,λhf=>?_,h.half⟩,by simp⟩
  have hf:TF T (uni (A.t i.rn.toNat) (A.t i.rm.toNat)):=hf
  unfold cmpP vR
  rw[h.v _ (TF.ul hf),h.v _ (TF.ur hf)]
  exact⟨rfl,rfl,rfl,rfl⟩
 simp only[if_neg c]at hw ⊢
 by_cases c:i.op=17
 .simp only[if_pos c]at hw ⊢
  rw[h.ft]
  exact⟨h.setRP _ λhf=>by rw[JX (h.fl hf)],by simp⟩
 simp only[if_neg c]at hw ⊢
 by_cases c:i.op=1
 .simp only[if_pos c]at hw ⊢;exact⟨h.setRP _ λ_=>rfl,by simp⟩
 simp only[if_neg c]at hw ⊢
 by_cases c:i.op=2
 .simp only[if_pos c]at hw ⊢
  rw[h.t]
  exact⟨h.setRP _ λhf=>by rw[h.v _ hf],by simp⟩
 simp only[if_neg c]at hw ⊢
 have c28:¬(i.op=28\/i.op=29):=by omega
 simp only[if_neg c28]at hw ⊢
 by_cases c:i.op=32
 .simp only[if_pos c]at hw ⊢;exact⟨h,by simp⟩
 simp only[if_neg c]at hw ⊢
 rw[h.t]
 refine⟨h.setRP _ λhf=>?_,by simp⟩
 by_cases c:i.op<12
 .rw[if_pos c]at hf
  rw[h.v _ (TF.ul hf),h.v _ (TF.ur hf)]
 .rw[if_neg c]at hf
  rw[h.v _ hf,Ya (by omega)]
structure WR (T:Nat->Prop)(A:PM)(w w':Wnt):Prop where
 what:w'.what=w.what
 mode:w'.mode=w.mode
 ex:w'.ex=w.ex
 one:w'.one=w.one
 acc:∀i,fetch A=some i->w.what=1\/(w.what=2/\w.one=false)->(TF T (A.t i.rn.toNat)->w'.loc=w.loc)/\(w.what=2->w.ex=false/\(TF T (A.t i.rd.toNat)->w'.val=w.val))/\(w.what=1->w.one=true->40<=i.op)
def NoX (i:Ins):Prop:=i.op≠28/\i.op≠29/\¬(36<=i.op/\i.op<=39)
def gO (l:List Ins):Prop:=∀i∈l,NoX i
theorem YG (h:Rl T A B)(i:Ins)(hf:TF T (A.t i.rn.toNat)):cellL B.sc i=cellL A.sc i:=by
 unfold cellL bc
 rw[h.v _ hf]
theorem Zi {evn:Nat}{w w':Wnt}(h:w'.one=w.one):(ku evn w=zl 6/\ku evn w'=zl 6)\/(ku evn w=w/\ku evn w'=w'):=by
 unfold ku
 rw[h]
 by_cases c:256<=evn+(if w.one then 1 else 0)
 .exact .inl ⟨if_pos c,if_pos c⟩
 .exact .inr ⟨if_neg c,if_neg c⟩
theorem WR.same {w:Wnt}(h1:w.what≠1)(h2:w.what≠2):WR T A w w:=⟨rfl,rfl,rfl,rfl,λi _ h=>by omega⟩
theorem qdd (h:Rl T A B)(i:Ins)(hx:NoX i)(hf:fetch A=some i)(n:Nat):(wD B.sc n i).2=(wD A.sc n i).2/\((wD A.sc n i).2=false->(wD B.sc n i).1=zl 7\/(wD A.sc n i).1=zl 7\/WR T A (wD A.sc n i).1 (wD B.sc n i).1):=by
 unfold wD
 have r6:WR T A (zl 6) (zl 6):=.same (by decide) (by decide)
 have fence:∀m:Int,WR T A (ku n ⟨3,0,m,0,false,false⟩) (ku n ⟨3,0,m,0,false,false⟩):=λm=>by
  rcases fw n ⟨3,0,m,0,false,false⟩ with e | ⟨e,-⟩<;>rw[e]
  .exact r6
  .exact .same (by show (3:Int)≠1;decide) (by show (3:Int)≠2;decide)
 by_cases c:i.op=30
 .simp only[if_pos c];exact⟨by simp,λ_=>.inr (.inr (fence _))⟩
 simp only[if_neg c]
 by_cases c:i.op=31
 .simp only[if_pos c];exact⟨by simp,λ_=>.inr (.inr (fence _))⟩
 simp only[if_neg c]
 by_cases c:i.op=33
 .simp only[if_pos c];exact⟨by simp,λ_=>.inr (.inr ⟨rfl,rfl,rfl,rfl,λj _ hj=>by simp only at hj;omega⟩)⟩
 simp only[if_neg c]
 by_cases c:i.op=34
 .simp only[if_pos c];exact⟨by simp,λ_=>.inr (.inr (.same (by decide) (by decide)))⟩
 simp only[if_neg c]
 by_cases c:i.op<22\/i.op=32
 .simp only[if_pos c];exact⟨by simp,λhc=>by simp at hc⟩
 simp only[if_neg c]
 have c8:∀s:Mch,¬((i.op=28\/i.op=29)/\(s.opn=false\/s.loc≠cellL s i)):=λs hc=>by have:=hx.1;have:=hx.2.1;omega
 simp only[if_neg (c8 _)]
 by_cases hA:zP A.sc i=false
 .simp only[hA,if_true]
  refine⟨?_,λ_=>.inr (.inl (by simp))⟩
  split
  .rfl
  .split<;>rfl
 simp only[if_neg hA]
 by_cases hB:zP B.sc i=false
 .simp only[hB,if_true]
  refine⟨?_,λ_=>.inl (by simp)⟩
  split<;>rfl
 simp only[if_neg hB]
 by_cases c:35<=i.op
 .simp only[if_pos c]
  refine⟨by simp,λ_=>.inr (.inr ?_)⟩
  rcases Zi (evn:=n) (w:=jz i (xb (cellL A.sc i))) (w':=jz i (xb (cellL B.sc i))) rfl with ⟨e1,e2⟩ | ⟨e1,e2⟩<;>rw[e1,e2]
  .exact r6
  .refine⟨rfl,rfl,rfl,rfl,λj hj _=>?_⟩
   rw[hf]at hj;cases hj
   refine⟨λht=>YG h i ht,λh2=>absurd (show (1:Int)=2 from h2) (by decide),λ_ ho=>?_⟩
   have ho:decide (36<=i.op)=true:=ho
   have:=of_decide_eq_true ho
   have:=hx.2.2
   omega
 .simp only[if_neg c]
  refine⟨by simp,λ_=>.inr (.inr ?_)⟩
  rcases Zi (evn:=n) (w:=jm A.sc i) (w':=jm B.sc i) rfl with ⟨e1,e2⟩ | ⟨e1,e2⟩<;>rw[e1,e2]
  .exact r6
  .refine⟨rfl,rfl,rfl,rfl,λj hj _=>?_⟩
   rw[hf]at hj;cases hj
   refine⟨λht=>YG h i ht,λh2=>⟨?_,λht=>?_⟩,λ_ ho=>by cases ho⟩
   .have h2:(if i.op=23\/i.op=25\/i.op=28\/i.op=29 then (2:Int) else 1)=2:=h2
    show decide (26<=i.op)=false
    have:=hx.1;have:=hx.2.1
    split at h2
    .exact decide_eq_false (by omega)
    .omega
   .show (if i.op=23\/i.op=25\/i.op=28\/i.op=29 then B.sc.v i.rd.toNat else 0)=(if i.op=23\/i.op=25\/i.op=28\/i.op=29 then A.sc.v i.rd.toNat else 0)
    rw[h.v _ ht]
theorem Wt (h:Rl T A B):fetch B=fetch A:=by unfold fetch;rw[h.at_,h.code]
theorem XM (h:Rl T A B):ki B.sc=ki A.sc:=by unfold ki;rw[h.limit,h.dn]
theorem dz {S:PM}{i:Ins}(h:fetch S=some i):i∈S.code:=by
 obtain⟨a,_,h2⟩:=yr h
 exact qge h2
theorem Fc (h:Rl T A B)(hw:WF A)(hc:gO A.code):(look A=none/\look B=none)\/∃w w',look A=some w/\look B=some w'/\(w'=zl 7\/w=zl 7\/WR T A w w'):=by
 have hh:=h.half
 unfold look
 cases hA:A.half with
 | some x =>
  cases hB:B.half with
  | none=>rw[hA,hB]at hh;exact absurd hh id
  | some y =>
   rw[hA,hB]at hh
   obtain⟨-,-,-,h4,-,-⟩:=hh
   have k:=hw.half x hA
   exact .inr ⟨_,_,rfl,rfl,.inr (.inr ⟨h4.1,h4.2.1,h4.2.2.1,h4.2.2.2,λi _ hi=>by rw[k.what,k.one]at hi;rcases hi with hi | ⟨_,hi⟩;omega;cases hi⟩)⟩
 | none =>
  cases hB:B.half with
  | some y=>rw[hA,hB]at hh;exact absurd hh id
  | none =>
   simp only
   rw[Wt h]
   cases hf:fetch A with
   | none=>exact .inr ⟨_,_,rfl,rfl,.inl rfl⟩
   | some i =>
    simp only
    obtain⟨w1,w2⟩:=qdd h i (hc i (dz hf)) hf A.ev.length
    rw[h.evl,w1,h.own,XM h]
    by_cases c:(wD A.sc A.ev.length i).2=false
    .rw[if_pos c,if_pos c];exact .inr ⟨_,_,rfl,rfl,w2 c⟩
    .rw[if_neg c,if_neg c]
     by_cases c2:100000<=A.sc.own\/ki A.sc=true
     .rw[if_pos c2];exact .inr ⟨_,_,rfl,rfl,.inr (.inr (.same (by decide) (by decide)))⟩
     .rw[if_neg c2];exact .inl ⟨rfl,rfl⟩
theorem qdf (S:PM):∀x∈S.way,x∈(za S).way:=by
 have d:∀(S:PM) (i:Ins),∀x∈S.way,x∈(doF S i).1.way:=λS i x hx=>by
  unfold doF
  simp only
  repeat' split
  all_goals first
   | exact hx
   | exact bK.2 (.inl hx)
   | (unfold setRP;split<;>exact hx)
 intro x hx
 unfold za
 split
 .exact d (vb S) _ x hx
 .exact hx
theorem Ke:∀(k:Nat) (S:PM),∀x∈S.way,x∈(zx k S).1.way
 | 0,S,x,hx=>hx
 | k+1,S,x,hx=>by
  unfold zx
  cases look S with
  | some w=>exact hx
  | none=>exact Ke k (za S) x (qdf S x hx)
theorem qfi (h:Rl T A B)(hc:gO A.code)(hl:look A=none)(hw:TF T (za A).way):Rl T (za A) (za B):=by
 obtain⟨h1,i,h2,h3,h4,h5⟩:=vX hl
 have eA:za A=vn A i:=by unfold za;rw[h2]
 have eB:za B=vn B i:=by unfold za;rw[Wt h,h2]
 have hx:=hc i (dz h2)
 rw[eA]at hw
 rw[eA,eB]
 have hb:Rl T (vb A) (vb B):=⟨h.code,h.at_,by show B.sc.own+1=A.sc.own+1;rw[h.own],by show IntKind.i64.wrap (B.sc.dn+1)=IntKind.i64.wrap (A.sc.dn+1);rw[h.dn],h.limit,h.evl,h.t,h.ft,h.way,h.v,h.fl,h.half⟩
 obtain⟨k,e⟩:=doF_rl hb i ⟨hx.1,hx.2.1⟩ hw
 exact⟨k.code,e,k.own,k.dn,k.limit,k.evl,k.t,k.ft,k.way,k.v,k.fl,k.half⟩
theorem Xo:∀(k:Nat) (A B:PM),Rl T A B->WF A->gO A.code->TF T (zx k A).1.way->Rl T (zx k A).1 (zx k B).1/\((zx k B).2=zl 7\/(zx k A).2=zl 7\/WR T (zx k A).1 (zx k A).2 (zx k B).2)
 | 0,A,B,h,_,_,_=>⟨h,.inr (.inr (.same (by show (6:Int)≠1;decide) (by show (6:Int)≠2;decide)))⟩
 | k+1,A,B,h,wf,hc,hw=>by
  unfold zx at hw ⊢
  rcases Fc h wf hc with ⟨h1,h2⟩ | ⟨w,w',h1,h2,h3⟩
  .rw[h1]at hw
   rw[h1,h2]
   simp only at hw ⊢
   exact Xo k (za A) (za B) (qfi h hc h1 λx hx=>hw x (Ke k _ x hx)) (wf.step h1) (by rw[(FJ A).code];exact hc) hw
  .rw[h1,h2];exact⟨h,h3⟩
end
end Go.Sx
namespace Go.Sx
open Go.Dx Go.Proofs
set_option maxRecDepth 10000
section
variable {T:Nat->Prop}{A B:PM}
theorem Rl.push (h:Rl T A B){A' B':PM}(h1:A'.code=A.code/\B'.code=B.code)(h2:A'.sc.at_=A.sc.at_/\B'.sc.at_=B.sc.at_)(h3:A'.sc.own=A.sc.own/\B'.sc.own=B.sc.own)(h4:A'.sc.dn=A.sc.dn/\B'.sc.dn=B.sc.dn)(h5:A'.sc.limit=A.sc.limit/\B'.sc.limit=B.sc.limit)(h6:B'.ev.length=A'.ev.length)
  (h7:A'.t=A.t/\B'.t=B.t) (h8:A'.ft=A.ft/\B'.ft=B.ft) (h9:A'.way=A.way/\B'.way=B.way) (h10:A'.sc.v=A.sc.v/\B'.sc.v=B.sc.v) (h11:(A'.sc.fn=A.sc.fn/\A'.sc.fz=A.sc.fz/\A'.sc.fc=A.sc.fc/\A'.sc.fv=A.sc.fv)/\(B'.sc.fn=B.sc.fn/\B'.sc.fz=B.sc.fz/\B'.sc.fc=B.sc.fc/\B'.sc.fv=B.sc.fv)) (h12:HR T A'.half B'.half):Rl T A' B' :=
 ⟨by rw[h1.1,h1.2,h.code],by rw[h2.1,h2.2,h.at_],by rw[h3.1,h3.2,h.own],by rw[h4.1,h4.2,h.dn],by rw[h5.1,h5.2,h.limit],h6,by rw[h7.1,h7.2,h.t],by rw[h8.1,h8.2,h.ft],by rw[h9.1,h9.2,h.way],λk hk=>by rw[h7.1]at hk;rw[h10.1,h10.2];exact h.v k hk,
  λhf=>by
   rw[h8.1]at hf
   obtain⟨⟨a1,a2,a3,a4⟩,b1,b2,b3,b4⟩:=h11
   rw[a1,a2,a3,a4,b1,b2,b3,b4];exact h.fl hf,h12⟩
theorem Rl.event (h:Rl T A B)(ad ad':List Nat)(e e':EvR):Rl T (kG A ad e) (kG B ad' e') :=
 h.push ⟨rfl,rfl⟩ ⟨rfl,rfl⟩ ⟨rfl,rfl⟩ ⟨rfl,rfl⟩ ⟨rfl,rfl⟩ (by show (B.ev++[e']).length=(A.ev++[e]).length;simp[h.evl]) ⟨rfl,rfl⟩ ⟨rfl,rfl⟩ ⟨rfl,rfl⟩ ⟨rfl,rfl⟩ ⟨⟨rfl,rfl,rfl,rfl⟩,rfl,rfl,rfl,rfl⟩ h.half
theorem Rl.goOn (h:Rl T A B):Rl T (jL A) (jL B) :=
 ⟨h.code,by show IntKind.i64.wrap (B.sc.at_+1)=IntKind.i64.wrap (A.sc.at_+1);rw[h.at_],rfl,by show IntKind.i64.wrap (B.sc.dn+1)=IntKind.i64.wrap (A.sc.dn+1);rw[h.dn],h.limit,h.evl,h.t,h.ft,h.way,h.v,h.fl,h.half⟩
theorem Rl.load (h:Rl T A B)(i:Ins)(w w':Wnt)(v v':Nat):Rl T (loadP A i w v) (loadP B i w' v') :=
 (h.event (A.t i.rn.toNat) (B.t i.rn.toNat) ⟨0,1,w.loc,v,w.mode⟩ ⟨0,1,w'.loc,v',w'.mode⟩).push ⟨rfl,rfl⟩ ⟨rfl,rfl⟩ ⟨rfl,rfl⟩ ⟨rfl,rfl⟩ ⟨rfl,rfl⟩ (by show (B.ev++[_]).length=(A.ev++[_]).length;simp[h.evl]) ⟨rfl,rfl⟩ ⟨rfl,rfl⟩ ⟨rfl,rfl⟩ ⟨rfl,rfl⟩ ⟨⟨rfl,rfl,rfl,rfl⟩,rfl,rfl,rfl,rfl⟩ h.half
theorem Rl.exP (h:Rl T A B){w w':Wnt}(he:w'.ex=w.ex)(b b':Nat):Rl T (exP w b A) (exP w' b' B):=by
 unfold Sx.exP
 rw[he]
 split
 .exact h.push ⟨rfl,rfl⟩ ⟨rfl,rfl⟩ ⟨rfl,rfl⟩ ⟨rfl,rfl⟩ ⟨rfl,rfl⟩ h.evl ⟨rfl,rfl⟩ ⟨rfl,rfl⟩ ⟨rfl,rfl⟩ ⟨rfl,rfl⟩ ⟨⟨rfl,rfl,rfl,rfl⟩,rfl,rfl,rfl,rfl⟩ h.half
 .exact h
theorem qam (h:Rl T A B){i:Ins}(hf:fetch A=some i)(hx:NoX i){w w':Wnt}(hW:WR T A w w')(hWO:Jv A w){v v':Nat}(hv:¬T A.ev.length->v'=v):Rl T (kR A i w v) (kR B i w' v'):=by
 unfold kR
 simp only
 rw[hW.what,hW.one,h.evl]
 by_cases c1:w.what=1
 .simp only[if_pos c1]
  have hl:=h.load i w w' v v'
  obtain⟨a1,-,a3⟩:=hW.acc i hf (.inl c1)
  have one:TF T [A.ev.length]->v'=v:=λht=>hv (ht _ (by simp))
  cases ho:w.one with
  | true =>
   have h40:=a3 c1 ho
   have n39:¬i.op<=39:=by omega
   have bA:zZ (loadP A i w v) i v=true:=by unfold zZ;rw[if_neg n39]
   have bB:zZ (loadP B i w' v') i v'=true:=by unfold zZ;rw[if_neg n39]
   simp only[if_true,bA,bB]
   have hb:Rl T (beginP (loadP A i w v) i w v A.ev.length) (beginP (loadP B i w' v') i w' v' A.ev.length):=by
    unfold beginP
    simp only[bA,bB,if_true,if_neg n39]
    refine (hl.setRP i.rd.toNat (l:=[A.ev.length]) one).push ⟨rfl,rfl⟩ ⟨rfl,rfl⟩ ⟨rfl,rfl⟩ ⟨rfl,rfl⟩ ⟨rfl,rfl⟩ (hl.setRP i.rd.toNat (l:=[A.ev.length]) one).evl ⟨rfl,rfl⟩ ⟨rfl,rfl⟩ ⟨rfl,rfl⟩ ⟨rfl,rfl⟩ ⟨⟨rfl,rfl,rfl,rfl⟩,rfl,rfl,rfl,rfl⟩ ?_
    show HR T (some (Qz (loadP A i w v) i w v A.ev.length)) (some (Qz (loadP B i w' v') i w' v' A.ev.length))
    unfold Qz
    simp only[if_neg n39]
    refine⟨by show B.t _=A.t _;rw[h.t],by show B.t _=A.t _;rw[h.t],rfl,⟨rfl,rfl,rfl,rfl⟩,λht=>a1 ht,λht hr=>?_⟩
    have ht:TF T (A.t i.rm.toNat):=ht
    have hr:¬T A.ev.length:=hr
    show (if 44<=i.op then (B.sc.v i.rm.toNat+v')%W64 else B.sc.v i.rm.toNat)=(if 44<=i.op then (A.sc.v i.rm.toNat+v)%W64 else A.sc.v i.rm.toNat)
    rw[h.v _ ht,hv hr]
   exact⟨hb.code,hb.at_,rfl,by show IntKind.i64.wrap (B.sc.dn+1)=IntKind.i64.wrap (A.sc.dn+1);rw[h.dn],hb.limit,hb.evl,hb.t,hb.ft,hb.way,hb.v,hb.fl,hb.half⟩
  | false =>
   simp only[Bool.false_eq_true,if_false]
   exact ((hl.setRP i.rd.toNat (l:=[A.ev.length]) one).exP hW.ex _ _).goOn
 simp only[if_neg c1]
 by_cases c2:w.what=2
 .simp only[if_pos c2]
  cases ho:w.one with
  | true =>
   simp only[if_true]
   obtain⟨x,hxx⟩:=hWO.one2 c2 ho
   have hh:=h.half
   unfold endP
   cases hB:B.half with
   | none=>rw[hxx,hB]at hh;exact absurd hh id
   | some y =>
    rw[hxx]
    simp only
    have k:=Rl.event (h.push (A':={ A with half:=none }) (B':={ B with half:=none }) ⟨rfl,rfl⟩ ⟨rfl,rfl⟩ ⟨rfl,rfl⟩ ⟨rfl,rfl⟩ ⟨rfl,rfl⟩ h.evl ⟨rfl,rfl⟩ ⟨rfl,rfl⟩ ⟨rfl,rfl⟩ ⟨rfl,rfl⟩ ⟨⟨rfl,rfl,rfl,rfl⟩,rfl,rfl,rfl,rfl⟩ trivial) x.ad y.ad ⟨0,2,x.w.loc,x.w.val,x.w.mode⟩ ⟨0,2,y.w.loc,y.w.val,y.w.mode⟩
    exact⟨k.code,by show IntKind.i64.wrap (B.sc.at_+1)=IntKind.i64.wrap (A.sc.at_+1);rw[h.at_],rfl,k.dn,k.limit,k.evl,k.t,k.ft,k.way,k.v,k.fl,k.half⟩
  | false =>
   simp only[Bool.false_eq_true,if_false]
   obtain⟨-,a2,-⟩:=hW.acc i hf (.inr ⟨c2,ho⟩)
   have he:=(a2 c2).1
   have he':w'.ex=false:=by rw[hW.ex];exact he
   unfold storeP
   simp only[he,he',Bool.false_eq_true,if_false,false_and]
   have k:=h.event (A.t i.rn.toNat) (B.t i.rn.toNat) ⟨0,2,w.loc,w.val,w.mode⟩ ⟨0,2,w'.loc,w'.val,w'.mode⟩
   exact Rl.goOn (k.push ⟨rfl,rfl⟩ ⟨rfl,rfl⟩ ⟨rfl,rfl⟩ ⟨rfl,rfl⟩ ⟨rfl,rfl⟩ k.evl ⟨rfl,rfl⟩ ⟨rfl,rfl⟩ ⟨rfl,rfl⟩ ⟨rfl,rfl⟩ ⟨⟨rfl,rfl,rfl,rfl⟩,rfl,rfl,rfl,rfl⟩ k.half)
 simp only[if_neg c2]
 by_cases c3:w.what=3
 .simp only[if_pos c3];exact (h.event _ _ _ _).goOn
 simp only[if_neg c3]
 by_cases c4:w.what=4
 .simp only[if_pos c4]
  exact Rl.goOn (h.push ⟨rfl,rfl⟩ ⟨rfl,rfl⟩ ⟨rfl,rfl⟩ ⟨rfl,rfl⟩ ⟨rfl,rfl⟩ h.evl ⟨rfl,rfl⟩ ⟨rfl,rfl⟩ ⟨rfl,rfl⟩ ⟨rfl,rfl⟩ ⟨⟨rfl,rfl,rfl,rfl⟩,rfl,rfl,rfl,rfl⟩ h.half)
 simp only[if_neg c4]
 exact h.goOn
end
structure GrP (A B:PM):Prop where
 ev:A.ev <+: B.ev
 addr:∀p∈A.addr,p∈B.addr
 data:∀p∈A.data,p∈B.data
 ctrl:∀p∈A.ctrl,p∈B.ctrl
 rmw:∀p∈A.rmw,p∈B.rmw
theorem GrP.refl (A:PM):GrP A A:=⟨List.prefix_rfl,λ_ h=>h,λ_ h=>h,λ_ h=>h,λ_ h=>h⟩
theorem GrP.trans {A B C:PM}(h:GrP A B)(k:GrP B C):GrP A C:=⟨h.ev.trans k.ev,λp hp=>k.addr p (h.addr p hp),λp hp=>k.data p (h.data p hp),λp hp=>k.ctrl p (h.ctrl p hp),λp hp=>k.rmw p (h.rmw p hp)⟩
theorem GrP.of {A B:PM}(h1:B.ev=A.ev)(h2:B.addr=A.addr)(h3:B.data=A.data)(h4:B.ctrl=A.ctrl)(h5:B.rmw=A.rmw):GrP A B :=
 ⟨by rw[h1];exact List.prefix_rfl,λp hp=>by rw[h2];exact hp,λp hp=>by rw[h3];exact hp,λp hp=>by rw[h4];exact hp,λp hp=>by rw[h5];exact hp⟩
theorem StepS.gr {A B:PM}(h:StepS A B):GrP A B:=.of h.ev h.addr h.data h.ctrl h.rmw
theorem OwnS.gr {A B:PM}(h:OwnS A B):GrP A B:=.of h.ev h.addr h.data h.ctrl h.rmw
theorem bw (S:PM)(ad:List Nat)(e:EvR):GrP S (kG S ad e) :=
 ⟨List.prefix_append _ _,λp hp=>List.mem_append_left _ hp,λp hp=>hp,λp hp=>List.mem_append_left _ hp,λp hp=>hp⟩
theorem vx {l:List (Nat × Nat)}{p:Nat × Nat}:p∈yD l ↔ p∈l:=(jZ toP l).1.mem_iff
theorem qax (S:PM):GrP S (jC S):=⟨List.prefix_rfl,λp hp=>vx.2 hp,λp hp=>vx.2 hp,λp hp=>vx.2 hp,λp hp=>vx.2 hp⟩
theorem JV (S:PM):GrP S (jy S):=⟨List.prefix_rfl,λp hp=>vx.2 hp,λp hp=>vx.2 hp,λp hp=>vx.2 hp,λp hp=>vx.2 hp⟩
structure EvP (S S':PM)(e:EvR)(ad da:List Nat)(rm:List Nat):Prop where
 ev:S'.ev=S.ev++[e]
 addr:∀x∈ad,(x,S.ev.length)∈S'.addr
 data:∀x∈da,(x,S.ev.length)∈S'.data
 ctrl:∀x∈S.way,(x,S.ev.length)∈S'.ctrl
 rmw:∀x∈rm,(x,S.ev.length)∈S'.rmw
theorem fJ {l:List Nat}{x b:Nat}(h:x∈l):(x,b)∈zc l b:=List.mem_map.2 ⟨x,h,rfl⟩
theorem bj (S:PM)(ad:List Nat)(e:EvR):EvP S (kG S ad e) e ad [] [] :=
 ⟨rfl,λx hx=>List.mem_append_right _ (fJ hx),(λx hx=>by cases hx),λx hx=>List.mem_append_right _ (fJ hx),(λx hx=>by cases hx)⟩
theorem EvP.on {S S' S'':PM}{e:EvR}{ad da rm:List Nat}(h:EvP S S' e ad da rm)(k:GrP S' S'')(he:S''.ev=S'.ev):EvP S S'' e ad da rm :=
 ⟨he.trans h.ev,λx hx=>k.addr _ (h.addr x hx),λx hx=>k.data _ (h.data x hx),λx hx=>k.ctrl _ (h.ctrl x hx),λx hx=>k.rmw _ (h.rmw x hx)⟩
theorem YU (S:PM):GrP S (jL S):=.of rfl rfl rfl rfl rfl
theorem qaw (w:Wnt)(b:Nat)(S:PM):GrP S (exP w b S)/\(exP w b S).ev=S.ev/\(exP w b S).way=S.way:=by unfold exP;split<;>exact⟨.of rfl rfl rfl rfl rfl,rfl,rfl⟩
theorem Zj (S:PM)(k x:Nat)(l:List Nat):(setRP S k x l).way=S.way:=by unfold setRP;split<;>rfl
theorem qav (S:PM)(i:Ins)(w:Wnt)(v b:Nat):GrP S (beginP S i w v b)/\(beginP S i w v b).ev=S.ev/\(beginP S i w v b).way=S.way:=by
 have o:=qR S (if i.op<=39 then i.rm.toNat else i.rd.toNat) v [b]
 have y:=Zj S (if i.op<=39 then i.rm.toNat else i.rd.toNat) v [b]
 unfold beginP
 simp only
 split
 .exact⟨.of o.ev o.addr o.data o.ctrl o.rmw,o.ev,y⟩
 .exact⟨o.gr,o.ev,y⟩
structure FdP (S S':PM)(i:Ins)(w:Wnt)(v:Nat):Prop where
 gr:GrP S S'
 way:S'.way=S.way
 rd:w.what=1->EvP S S' ⟨0,1,w.loc,v,w.mode⟩ (S.t i.rn.toNat) [] []
 wr:w.what=2->w.one=false->w.ex=false->EvP S S' ⟨0,2,w.loc,w.val,w.mode⟩ (S.t i.rn.toNat) (S.t i.rd.toNat) []
 hf:w.what=2->w.one=true->∀h,S.half=some h->EvP S S' ⟨0,2,h.w.loc,h.w.val,h.w.mode⟩ h.ad h.da [h.rd]
 fe:w.what=3->EvP S S' ⟨0,3,-1,0,w.mode⟩ [] [] []
 no:w.what≠1->w.what≠2->w.what≠3->S'.ev=S.ev
theorem qak (S:PM)(i:Ins)(w:Wnt)(v:Nat)(hex:w.what=2->w.one=false->w.ex=false)(hh:w.what=2->w.one=true->∃h,S.half=some h):FdP S (kR S i w v) i w v:=by
 unfold kR
 simp only
 by_cases c1:w.what=1
 .simp only[if_pos c1]
  have e0:EvP S (loadP S i w v) ⟨0,1,w.loc,v,w.mode⟩ (S.t i.rn.toNat) [] []:=(bj S (S.t i.rn.toNat) ⟨0,1,w.loc,v,w.mode⟩).on (.of rfl rfl rfl rfl rfl) rfl
  have g0:GrP S (loadP S i w v):=(bw S (S.t i.rn.toNat) ⟨0,1,w.loc,v,w.mode⟩).trans (.of rfl rfl rfl rfl rfl)
  have fin:∀{S':PM},GrP (loadP S i w v) S'->S'.ev=(loadP S i w v).ev->S'.way=S.way->FdP S S' i w v:=λ{S'} g1 g2 g3=>⟨g0.trans g1,g3,λ_=>e0.on g1 g2,λh=>by omega,λh=>by omega,λh=>by omega,λh=>absurd c1 h⟩
  obtain⟨b1,b2,b3⟩:=qav (loadP S i w v) i w v S.ev.length
  split
  .split
   .exact fin (b1.trans (.of rfl rfl rfl rfl rfl)) b2 b3
   .obtain⟨x1,x2,x3⟩:=qaw w S.ev.length (beginP (loadP S i w v) i w v S.ev.length)
    exact fin ((b1.trans x1).trans (YU _)) (x2.trans b2) (x3.trans b3)
  .obtain⟨x1,x2,x3⟩:=qaw w S.ev.length (setRP (loadP S i w v) i.rd.toNat v [S.ev.length])
   have o:=qR (loadP S i w v) i.rd.toNat v [S.ev.length]
   exact fin ((o.gr.trans x1).trans (YU _)) (x2.trans o.ev) (x3.trans (Zj _ _ _ _))
 simp only[if_neg c1]
 by_cases c2:w.what=2
 .simp only[if_pos c2]
  cases ho:w.one with
  | true =>
   simp only[if_true]
   obtain⟨h,hS⟩:=hh c2 ho
   unfold endP
   rw[hS]
   simp only
   obtain⟨X,hX⟩:=qh2 (kG { S with half:=none } h.ad ⟨0,2,h.w.loc,h.w.val,h.w.mode⟩)
   have e0:EvP S X ⟨0,2,h.w.loc,h.w.val,h.w.mode⟩ h.ad [] []:=by
    have:=bj { S with half:=none } h.ad ⟨0,2,h.w.loc,h.w.val,h.w.mode⟩
    rw[hX];exact⟨this.ev,this.addr,this.data,this.ctrl,this.rmw⟩
   have g0:GrP S X:=by
    have:=bw { S with half:=none } h.ad ⟨0,2,h.w.loc,h.w.val,h.w.mode⟩
    rw[hX];exact⟨this.ev,this.addr,this.data,this.ctrl,this.rmw⟩
   rw[<-hX]
   have wX:X.way=S.way:=by rw[hX];rfl
   refine⟨⟨g0.ev,g0.addr,λp hp=>List.mem_append_left _ (g0.data p hp),g0.ctrl,λp hp=>List.mem_append_left _ (g0.rmw p hp)⟩,wX,λh=>by omega,λ_ h=>(by rw[ho]at h;cases h),λ_ _ h' hS'=>?_,λh=>by omega,λ_ h=>absurd c2 h⟩
   rw[hS]at hS';cases hS'
   exact⟨e0.ev,e0.addr,λx hx=>List.mem_append_right _ (fJ hx),e0.ctrl,λx hx=>List.mem_append_right _ (by rw[qgk.1 hx];simp)⟩
  | false =>
   have he:=hex c2 ho
   simp only[Bool.false_eq_true,if_false]
   unfold storeP
   simp only[he,Bool.false_eq_true,if_false,false_and]
   obtain⟨X,hX⟩:=qh2 (kG S (S.t i.rn.toNat) ⟨0,2,w.loc,w.val,w.mode⟩)
   have e0:=bj S (S.t i.rn.toNat) ⟨0,2,w.loc,w.val,w.mode⟩
   have g0:=bw S (S.t i.rn.toNat) ⟨0,2,w.loc,w.val,w.mode⟩
   rw[<-hX]at e0 g0 ⊢
   have wX:X.way=S.way:=by rw[hX];rfl
   exact⟨⟨g0.ev,g0.addr,λp hp=>List.mem_append_left _ (g0.data p hp),g0.ctrl,g0.rmw⟩,wX,λh=>by omega,λ_ _ _=>⟨e0.ev,e0.addr,λx hx=>List.mem_append_right _ (fJ hx),e0.ctrl,e0.rmw⟩,λ_ h=>(by rw[ho]at h;cases h),λh=>by omega,λ_ h=>absurd c2 h⟩
 simp only[if_neg c2]
 by_cases c3:w.what=3
 .simp only[if_pos c3]
  have e0:=bj S [] ⟨0,3,-1,0,w.mode⟩
  have g0:=bw S [] ⟨0,3,-1,0,w.mode⟩
  exact⟨⟨g0.ev,g0.addr,g0.data,g0.ctrl,g0.rmw⟩,rfl,λh=>by omega,λh=>by omega,λh=>by omega,λ_=>⟨e0.ev,e0.addr,e0.data,e0.ctrl,e0.rmw⟩,λ_ _ h=>absurd c3 h⟩
 simp only[if_neg c3]
 by_cases c4:w.what=4
 .simp only[if_pos c4]
  exact⟨.of rfl rfl rfl rfl rfl,rfl,λh=>by omega,λh=>by omega,λh=>by omega,λh=>by omega,λ_ _ _=>rfl⟩
 .simp only[if_neg c4]
  exact⟨.of rfl rfl rfl rfl rfl,rfl,λh=>by omega,λh=>by omega,λh=>by omega,λh=>by omega,λ_ _ _=>rfl⟩
end Go.Sx
namespace Go.Sx
open Go.Dx Go.Proofs
set_option maxRecDepth 10000
theorem XP (S:PM)(i:Ins)(w:Wnt)(v b:Nat):(storeP S i w v b).code=S.code:=by
 unfold storeP
 cases w.ex with
 | false=>rfl
 | true =>
  simp only[if_true]
  split
  .exact (qR _ _ _ _).code
  .exact (qR _ _ _ _).code
theorem Qg (S:PM)(i:Ins)(w:Wnt)(v b:Nat):(beginP S i w v b).code=S.code:=by
 unfold beginP
 simp only
 split
 .exact (qR _ _ _ _).code
 .exact (qR _ _ _ _).code
theorem JL (w:Wnt)(b:Nat)(S:PM):(exP w b S).code=S.code:=by unfold exP;split<;>rfl
theorem Gp (S:PM)(b:Nat):(endP S b).code=S.code:=by unfold endP;split<;>rfl
theorem yq (S:PM)(i:Ins)(w:Wnt)(v:Nat):(kR S i w v).code=S.code:=by
 unfold kR
 simp only
 split
 .split
  .split
   .exact Qg _ _ _ _ _
   .exact (JL _ _ _).trans (Qg _ _ _ _ _)
  .exact (JL _ _ _).trans (qR _ _ _ _).code
 split
 .split
  .exact Gp _ _
  .exact XP _ _ _ _ _
 split
 .rfl
 split<;>rfl
theorem Rl.refl (T:Nat->Prop)(A:PM):Rl T A A :=
 ⟨rfl,rfl,rfl,rfl,rfl,rfl,rfl,rfl,rfl,λ_ _=>rfl,λ_=>⟨rfl,rfl,rfl,rfl⟩,by
  cases A.half with
  | none=>trivial
  | some h=>exact⟨rfl,rfl,rfl,⟨rfl,rfl,rfl,rfl⟩,λ_=>rfl,λ_ _=>rfl⟩⟩
theorem qds {S:PM}(h:WF S){w:Wnt}(hl:look S=some w)(h5:w.what<5){v:Nat}(hv:w.what=2->w.ex=true->v<=1):∃i,fetch S=some i/\(wE S v).1=kR S i w v:=by
 obtain⟨i,hf⟩:=(jd h hl).fetch h5
 refine⟨i,hf,?_⟩
 unfold wE
 rw[xm hl]
 unfold vV
 rw[if_neg (λhc=>by
  rcases hc with hc | ⟨a,b,c⟩
  .simp only at hc;omega
  .have:=hv a b;omega)]
 simp only[hf]
theorem Fp {S:PM}(h:WF S)(hc:gO S.code){w:Wnt}(hl:look S=some w){i:Ins}(hf:fetch S=some i)(h2:w.what=2)(h1:w.one=false):w.ex=false:=by
 rcases Fc (Rl.refl (λ_=>False) S) h hc with ⟨e,_⟩ | ⟨a,b,e1,e2,e3⟩
 .rw[hl]at e;cases e
 .rw[hl]at e1;cases e1
  rcases e3 with e3 | e3 | e3
  .rw[hl]at e2;cases e2;rw[e3]at h2;simp only[zl]at h2;omega
  .rw[e3]at h2;simp only[zl]at h2;omega
  .exact ((e3.acc i hf (.inr ⟨h2,h1⟩)).2.1 h2).1
theorem QG {S:PM}(h:WF S)(hc:gO S.code){w:Wnt}(hl:look S=some w)(h5:w.what<5){v:Nat}(hv:w.what=2->w.ex=true->v<=1):∃i,fetch S=some i/\(wE S v).1=kR S i w v/\FdP S (wE S v).1 i w v:=by
 obtain⟨i,hf,e⟩:=qds h hl h5 hv
 exact⟨i,hf,e,by rw[e];exact qak S i w v (λa b=>Fp h hc hl hf a b) λa b=>(jd h hl).one2 a b⟩
theorem KJ {S0:PM}(hc:gO S0.code)(k:Nat)(rs:List Nat)(ws:List Bool)(h:WF S0)(hv:∀v∈rs,v<W64):GrP S0 (qC k S0 rs ws):=by
 obtain⟨T,h1,⟨h2,h3⟩,h4⟩:=yA (λS=>GrP S0 S/\S.code=S0.code) (λS w k=>⟨k.1.trans (kx w).2.2.gr,(kx w).2.2.code.trans k.2⟩)
  (λS w v wf k hl h5 _ hv1 _=>by
   obtain⟨i,hf,e,fd⟩:=QG wf (by rw[k.2];exact hc) hl h5 hv1
   exact⟨k.1.trans fd.gr,by rw[e,yq];exact k.2⟩) k S0 rs ws h ⟨GrP.refl _,rfl⟩ hv
 rcases h4 with e | e | e<;>rw[e]
 .exact h2
 .exact h2.trans (qax T)
 .exact h2.trans (JV T)
theorem Yt {S0:PM}(hc:gO S0.code)(k:Nat)(rs:List Nat)(ws:List Bool)(h:WF S0)(hv:∀v∈rs,v<W64){b x:Nat}(hx:x∈S0.way)(hb:S0.ev.length<=b)(hR:b<(qC k S0 rs ws).ev.length):(x,b)∈(qC k S0 rs ws).ctrl:=by
 obtain⟨T,h1,⟨h2,h3,h4⟩,h5⟩:=yA (λS=>S.code=S0.code/\(S.ev.length<=b->x∈S.way)/\(b<S.ev.length->(x,b)∈S.ctrl))
  (λS w k=>by
   have s:=(kx w).2.2
   exact⟨s.code.trans k.1,λhl=>Ke _ S x (k.2.1 (by rw[<-s.ev];exact hl)),λhl=>by rw[s.ctrl];exact k.2.2 (by rw[<-s.ev];exact hl)⟩)
  (λS w v wf k hl h5 _ hv1 _=>by
   obtain⟨i,hf,e,fd⟩:=QG wf (by rw[k.1];exact hc) hl h5 hv1
   refine⟨by rw[e,yq];exact k.1,λhb2=>?_,λhb2=>?_⟩
   .rw[fd.way]
    refine k.2.1 (qgp ?_ hb2)
    exact fd.gr.ev.length_le
   .by_cases hb3:b<S.ev.length
    .exact fd.gr.ctrl _ (k.2.2 hb3)
    have hxs:=k.2.1 (by omega)
    have ev1:∀{e:EvR} {ad da rm:List Nat},EvP S (wE S v).1 e ad da rm->(x,b)∈(wE S v).1.ctrl:=λep=>by
     have:=ep.ctrl x hxs
     have hl:=congrArg List.length ep.ev
     rw[qgn]at hl
     simp at hl
     rw[show b=S.ev.length by omega];exact this
    have wk:=(jd wf hl).what
    by_cases c1:w.what=1
    .exact ev1 (fd.rd c1)
    by_cases c2:w.what=2
    .cases ho:w.one with
     | true =>
      obtain⟨y,hy⟩:=(jd wf hl).one2 c2 ho
      exact ev1 (fd.hf c2 ho y hy)
     | false=>exact ev1 (fd.wr c2 ho (Fp wf (by rw[k.1];exact hc) hl hf c2 ho))
    by_cases c3:w.what=3
    .exact ev1 (fd.fe c3)
    .rw[fd.no c1 c2 c3]at hb2;omega) k S0 rs ws h ⟨rfl,λ_=>hx,λhl=>by omega⟩ hv
 rcases h5 with e | e | e<;>rw[e]at hR ⊢
 .exact h4 hR
 .exact (qax T).ctrl _ (h4 hR)
 .exact (JV T).ctrl _ (h4 hR)
def Hn (R:PM)(b x:Nat):Prop:=(x,b)∈R.addr\/(x,b)∈R.data\/(x,b)∈R.ctrl\/(x,b)∈R.rmw
def Zr (b:Nat)(R R':PM):Prop:=∃e e',R.ev[b]?=some e/\R'.ev[b]?=some e'/\e'.kind=e.kind/\e'.loc=e.loc/\e'.mode=e.mode/\(e.kind=1\/e'.val=e.val)
def Rds (T:Nat->Prop)(R:PM)(n:Nat)(rs rs':List Nat):Prop:=∀(j i:Nat) (e:EvR),R.ev[i]?=some e->e.kind=1->nR (R.ev.take i)=n+j->¬T i->rs'[j]?=rs[j]?
theorem Jd {l l':List EvR}{e:EvR}(h:l++[e] <+: l'):l'[l.length]?=some e/\l'.take l.length=l:=by
 obtain⟨t,rfl⟩:=h
 constructor
 .rw[qgy,qgt (qgg _)];simp
 .rw[qgy,List.take_left]
theorem KK {T:Nat->Prop}{b:Nat}:∀(k:Nat) (A B:PM) (rs rs':List Nat),Rl T A B->WF A->WF B->gO A.code->A.ev.length<=b->(∀v∈rs,v<W64)->(∀v∈rs',v<W64)->rs'.length=rs.length ->
  b<(qC k A rs []).ev.length->b<(qC k B rs' []).ev.length->(∀x,T x->¬Hn (qC k A rs []) b x)->Rds T (qC k A rs []) (nR A.ev) rs rs'->Zr b (qC k A rs []) (qC k B rs' [])
 | 0,A,B,rs,rs',_,_,_,_,hb,_,_,_,hR,_,_,_=>absurd (show b<A.ev.length from hR) (by omega)
 | k+1,A,B,rs,rs',h,wA,wB,hc,hb,hv,hv',hlen,hR,hR',hT,hrd=>by
  obtain⟨lA,wA1,sA⟩:=kx wA
  obtain⟨lB,wB1,sB⟩:=kx wB
  obtain⟨A1,hA1⟩:=qh2 ((wu A).1)
  obtain⟨w,hw⟩:=qh2 ((wu A).2)
  obtain⟨B1,hB1⟩:=qh2 ((wu B).1)
  obtain⟨w',hw'⟩:=qh2 ((wu B).2)
  rw[<-hA1,<-hw]at lA
  rw[<-hA1]at wA1 sA
  rw[<-hB1,<-hw']at lB
  rw[<-hB1]at wB1 sB
  have hcA:gO A1.code:=by rw[sA.code];exact hc
  have eR:qC (k+1) A rs []=wH (qC k) A1 w rs []:=by show wH (qC k) (wu A).1 (wu A).2 rs []=_;rw[<-hA1,<-hw]
  have eR':qC (k+1) B rs' []=wH (qC k) B1 w' rs' []:=by show wH (qC k) (wu B).1 (wu B).2 rs' []=_;rw[<-hB1,<-hw']
  have eR1:qC (k+1) A rs []=qC (k+1) A1 rs []:=by
   rw[eR];show _=wH (qC k) (wu A1).1 (wu A1).2 rs [];rw[xm lA]
  have evA:A1.ev=A.ev:=sA.ev
  have tfw:TF T A1.way:=λx hx ht=>by
   have:=Yt hcA (k+1) rs [] wA1 hv hx (by rw[evA];exact hb) (by rw[<-eR1];exact hR)
   exact hT x ht (.inr (.inr (.inl (by rw[eR1];exact this))))
  obtain⟨h1,h2⟩:=Xo 100001 A B h wA hc (by have:(zx 100001 A).1=A1:=hA1.symm;rw[this];exact tfw)
  have h1:Rl T A1 B1:=by rw[hA1,hB1];exact h1
  have h2:w'=zl 7\/w=zl 7\/WR T A1 w w':=by rw[hA1,hw,hw'];exact h2
  rw[eR]at hR hT hrd ⊢
  rw[eR']at hR' ⊢
  have end7:∀(S:PM) (l:List Nat),wH (qC k) S (zl 7) l []=jC S:=λS l=>rfl
  rcases h2 with rfl | rfl | hW
  .rw[end7]at hR'
   have:(jC B1).ev.length=B1.ev.length:=rfl
   rw[this,h1.evl,evA]at hR';omega
  .rw[end7]at hR
   have:(jC A1).ev.length=A1.ev.length:=rfl
   rw[this,evA]at hR;omega
  have okA:=jd wA1 lA
  have okB:=jd wB1 lB
  have wk:=okA.what
  have on:∀(v v':Nat) (rs1 rs1':List Nat),v<W64->v'<W64->(∀x∈rs1,x<W64)->(∀x∈rs1',x<W64)->rs1'.length=rs1.length->w.what<5->(w.what=2->w.ex=true->v<=1)->(w.what=2->w.ex=true->v'<=1) ->
    (w.what=1->rs=v::rs1/\rs'=v'::rs1')->(w.what≠1->rs=rs1/\rs'=rs1'/\v'=v) ->
    wH (qC k) A1 w rs []=qC k (wE A1 v).1 rs1 []->wH (qC k) B1 w' rs' []=qC k (wE B1 v').1 rs1' []->Zr b (wH (qC k) A1 w rs []) (wH (qC k) B1 w' rs' []):=λv v' rs1 rs1' vl vl' hl1 hl1' hll h5 hx hx' q1 qn r1 r2=>by
   obtain⟨i,hf,eA,fA⟩:=QG wA1 hcA lA h5 hx
   have hcB:gO B1.code:=by rw[h1.code];exact hcA
   obtain⟨i',hf',eB,fB⟩:=QG wB1 hcB lB (by rw[hW.what];exact h5) (v:=v') (by rw[hW.what,hW.ex];exact hx')
   have:i'=i:=by rw[Wt h1,hf]at hf';cases hf';rfl
   subst this
   rw[r1]at hR hT hrd ⊢
   rw[r2]at hR' ⊢
   have wA2:=vU wA1 vl
   have wB2:=vU wB1 vl'
   obtain⟨A2,hA2⟩:=qh2 ((wE A1 v).1)
   obtain⟨B2,hB2⟩:=qh2 ((wE B1 v').1)
   rw[<-hA2]at eA fA wA2 hR hT hrd ⊢
   rw[<-hB2]at eB fB wB2 hR' ⊢
   have hcA2:gO A2.code:=by rw[eA,yq];exact hcA
   have hcB2:gO B2.code:=by rw[eB,yq];exact hcB
   have gA:=KJ hcA2 k rs1 [] wA2 hl1
   have gB:=KJ hcB2 k rs1' [] wB2 hl1'
   obtain⟨R,hRe⟩:=qh2 (qC k A2 rs1 [])
   obtain⟨R',hRe'⟩:=qh2 (qC k B2 rs1' [])
   have hvv:¬T A1.ev.length->v'=v:=λnt=>by
    by_cases c1:w.what=1
    .obtain⟨e1,e2⟩:=q1 c1
     have ep:=fA.rd c1
     have g:=gA.ev
     rw[ep.ev]at g
     obtain⟨p1,p2⟩:=Jd g
     have:=hrd 0 A1.ev.length _ p1 rfl (by rw[p2,evA];rfl) nt
     rw[e1,e2]at this
     simpa using this
    .exact (qn c1).2.2
   have hr:Rl T A2 B2:=by rw[eA,eB];exact qam h1 hf (hcA _ (dz hf)) hW okA hvv
   by_cases hb2:A2.ev.length<=b
   .refine KK k A2 B2 rs1 rs1' hr wA2 wB2 hcA2 hb2 hl1 hl1' hll hR hR' hT (λj i' e he hk hn nt=>?_)
    by_cases c1:w.what=1
    .obtain⟨e1,e2⟩:=q1 c1
     have ep:=fA.rd c1
     have hn1:nR A2.ev=nR A.ev+1:=by rw[ep.ev,evA,dI];rfl
     have:=hrd (j+1) i' e he hk (by rw[hn,hn1];omega) nt
     rw[e1,e2]at this
     simpa using this
    .obtain⟨e1,e2,-⟩:=qn c1
     have hn1:nR A2.ev=nR A.ev:=by
      by_cases c2:w.what=2
      .cases ho:w.one with
       | true =>
        obtain⟨y,hy⟩:=okA.one2 c2 ho
        rw[(fA.hf c2 ho y hy).ev,evA,dI];rfl
       | false=>rw[(fA.wr c2 ho (Fp wA1 hcA lA hf c2 ho)).ev,evA,dI];rfl
      by_cases c3:w.what=3
      .rw[(fA.fe c3).ev,evA,dI];rfl
      .rw[fA.no c1 c2 c3,evA]
     have:=hrd j i' e he hk (by rw[hn,hn1]) nt
     rw[e1,e2]at this;exact this
   .-- here is the event
    have key:∀{e e':EvR} {ad da rm ad' da' rm':List Nat},EvP A1 A2 e ad da rm->EvP B1 B2 e' ad' da' rm'->(TF T ad->TF T da->TF T rm->e'.kind=e.kind/\e'.loc=e.loc/\e'.mode=e.mode/\(e.kind=1\/e'.val=e.val))->Zr b (qC k A2 rs1 []) (qC k B2 rs1' []):=λ{e e' ad da rm ad' da' rm'} ea eb q=>by
     have la:=congrArg List.length ea.ev
     rw[qgn]at la
     simp at la
     have hbl:b=A1.ev.length:=by rw[evA]at la ⊢;omega
     have g:=gA.ev
     rw[ea.ev]at g
     have g':=gB.ev
     rw[eb.ev]at g'
     have p:=(Jd g).1
     have p':=(Jd g').1
     rw[h1.evl]at p'
     rw[hbl]
     rw[hbl]at hT
     refine⟨e,e',p,p',q (λx hx ht=>hT x ht (.inl (gA.addr _ (ea.addr x hx)))) (λx hx ht=>hT x ht (.inr (.inl (gA.data _ (ea.data x hx))))) λx hx ht=>hT x ht (.inr (.inr (.inr (gA.rmw _ (ea.rmw x hx)))))⟩
    by_cases c1:w.what=1
    .refine key (fA.rd c1) (fB.rd (by rw[hW.what];exact c1)) (λt1 _ _=>⟨rfl,(hW.acc _ hf (.inl c1)).1 t1,hW.mode,.inl rfl⟩)
    by_cases c2:w.what=2
    .cases ho:w.one with
     | true =>
      obtain⟨y,hy⟩:=okA.one2 c2 ho
      obtain⟨y',hy'⟩:=okB.one2 (by rw[hW.what];exact c2) (by rw[hW.one];exact ho)
      have hh:=h1.half
      rw[hy,hy']at hh
      obtain⟨-,-,-,⟨-,m2,-,-⟩,l1,l2⟩:=hh
      exact key (fA.hf c2 ho y hy) (fB.hf (by rw[hW.what];exact c2) (by rw[hW.one];exact ho) y' hy') (λt1 t2 t3=>⟨rfl,l1 t1,m2,.inr (l2 t2 (t3 _ (by simp)))⟩)
     | false =>
      have hxA:=Fp wA1 hcA lA hf c2 ho
      obtain⟨a1,a2,-⟩:=hW.acc _ hf (.inr ⟨c2,ho⟩)
      exact key (fA.wr c2 ho hxA) (fB.wr (by rw[hW.what];exact c2) (by rw[hW.one];exact ho) (by rw[hW.ex];exact hxA)) (λt1 t2 _=>⟨rfl,a1 t1,hW.mode,.inr ((a2 c2).2 t2)⟩)
    by_cases c3:w.what=3
    .exact key (fA.fe c3) (fB.fe (by rw[hW.what];exact c3)) (λ_ _ _=>⟨rfl,rfl,hW.mode,.inr rfl⟩)
    .rw[fA.no c1 c2 c3,evA]at hb2;omega
  have over:∀(S S':PM),(S=jC A1\/S=jy A1)->wH (qC k) A1 w rs []=S->False:=λS S' hS e=>by
   rw[e]at hR
   rcases hS with rfl | rfl
   .have:(jC A1).ev.length=A1.ev.length:=rfl
    rw[this,evA]at hR;omega
   .have:(jy A1).ev.length=A1.ev.length:=rfl
    rw[this,evA]at hR;omega
  by_cases c1:w.what=2/\w.one=true
  .exact on 0 0 rs rs' (by decide) (by decide) hv hv' hlen (by omega) (λ_ _=>by omega) (λ_ _=>by omega) (λh=>by omega) (λ_=>⟨rfl,rfl,rfl⟩) (by unfold wH;rw[if_pos c1]) (by unfold wH;rw[hW.what,hW.one,if_pos c1])
  by_cases c2:w.what=7\/w.what=6
  .exact absurd (by unfold wH;rw[if_neg c1,if_pos c2]) (over _ A1 (.inl rfl))
  by_cases c3:ki A1.sc=true
  .exact absurd (by unfold wH;rw[if_neg c1,if_neg c2,if_pos c3]) (over _ A1 (.inr rfl))
  have c3':¬ki B1.sc=true:=by rw[XM h1];exact c3
  by_cases c4:w.what=5
  .exact absurd (by unfold wH;rw[if_neg c1,if_neg c2,if_neg c3,if_pos c4]) (over _ A1 (.inl rfl))
  by_cases c5:w.what=1
  .cases rs with
   | nil=>exact absurd (by unfold wH;rw[if_neg c1,if_neg c2,if_neg c3,if_neg c4,if_pos c5]) (over _ A1 (.inl rfl))
   | cons v rs1 =>
    cases rs' with
    | nil=>simp at hlen
    | cons v' rs1' =>
     exact on v v' rs1 rs1' (hv v (by simp)) (hv' v' (by simp)) (λx hx=>hv x (by simp[hx])) (λx hx=>hv' x (by simp[hx])) (by simpa using hlen) (by omega) (λh=>by omega) (λh=>by omega) (λ_=>⟨rfl,rfl⟩) (λh=>absurd c5 h)
      (by unfold wH;rw[if_neg c1,if_neg c2,if_neg c3,if_neg c4,if_pos c5]) (by unfold wH;rw[hW.what,hW.one,if_neg c1,if_neg c2,if_neg c3',if_neg c4,if_pos c5])
  by_cases c6:w.what=2/\w.ex=true
  .exact absurd (by unfold wH;rw[if_neg c1,if_neg c2,if_neg c3,if_neg c4,if_neg c5,if_pos c6]) (over _ A1 (.inl rfl))
  .exact on 0 0 rs rs' (by decide) (by decide) hv hv' hlen (by omega) (λ_ _=>by omega) (λ_ _=>by omega) (λh=>absurd h c5) (λ_=>⟨rfl,rfl,rfl⟩) (by unfold wH;rw[if_neg c1,if_neg c2,if_neg c3,if_neg c4,if_neg c5,if_neg c6]) (by unfold wH;rw[hW.what,hW.one,hW.ex,if_neg c1,if_neg c2,if_neg c3',if_neg c4,if_neg c5,if_neg c6])
end Go.Sx
