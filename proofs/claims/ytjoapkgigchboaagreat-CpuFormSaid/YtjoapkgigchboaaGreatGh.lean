/- Contracts. -/
import Derived.Test.YtjoapkgigchboaaGreatGg
import Derived.Test.YtjoapkgigchboaaGreatGb3
import Derived.Test.YtjoapkgigchboaaGreatEd
import Derived.Test.YtjoapkgigchboaaGreatGa
import Derived.Test.YtjoapkgigchboaaGreatPost
import Derived.WideKeyArgs
set_option linter.unusedVariables false
set_option linter.unusedSimpArgs false
set_option linter.defProp false
namespace Go.Dx
theorem We {c:C}:∀{a b o:Nat} {l:List Value},ldn c o (a+b)=some l->ldn c o a=some (l.take a)/\ldn c (o+a) b=some (l.drop a)
 | 0,b,o,l,h=>by rw[Nat.zero_add]at h;exact⟨rfl,h⟩
 | a+1,b,o,l,h=>by
  rw[show a+1+b=a+b+1 by omega,ye]at h
  obtain⟨v,hv,h⟩:=qb h
  obtain⟨t,ht,h⟩:=qb h
  have hl:l=v :: t:=by unfold XN at h;cases h;rfl
  subst hl
  obtain⟨h1,h2⟩:=We ht
  refine⟨?_,?_⟩
  ·rw[ye,hv];show ob (ldn c (o+1) a) _=_;rw[h1];rfl
  ·rw[show o+(a+1)=o+1+a by omega,h2];rfl
theorem bX {m:M} {B o a b:Nat} {s:Option Nat} {l:List Value} (h:loads m ⟨B,o,s⟩ (a+b)=some l):loads m ⟨B,o,s⟩ a=some (l.take a)/\loads m ⟨B,o+a,s⟩ b=some (l.drop a):=by
 unfold loads at h ⊢
 obtain⟨c,hc,h⟩:=qb h
 simp only at hc
 rw[hc]
 exact We h
section
variable {α:Type} {m:M} {v:Value} {e:Nat} {f:α->List Value} {l:List α}
theorem Rd.drop (h:Rd m v e f l) (hs:Sp e v) (hf:∀x,(f x).length=e) {k:Nat} (hk:k<=l.length):∃a n c,slV e (some (.int .i64 (k:Int))) none none v=some (.slice a n c)/\Rd m (.slice a n c) e f (l.drop k)/\Sp e (.slice a n c)/\(∀B,blk (.slice a n c)=some B->blk v=some B):=by
 rcases hs with rfl | ⟨B,o,n,c,x,rfl,hnc⟩
 ·have hl:l.length=0:=by have:=h.len;simp[ze]at this;omega
  have hk0:k=0:=by omega
  have hl':l=[]:=qd0 hl
  subst hk0;subst hl'
  exact⟨none,0,0,rfl,h,.inl rfl,fun B hB=>hB⟩
 ·have hn:n=l.length:=by have:=h.len;simp[ze]at this;omega
  have hdl:(l.drop k).length=n - k:=by rw[List.length_drop,hn]
  have hfl:=wt hf l
  have hall:loads m ⟨B,o,some (code e x)⟩ (l.length*e)=some (l.flatMap f):=h.all
  have hsplit:l.length*e=k*e+(l.drop k).length*e:=by rw[hdl,hn,<-Nat.add_mul];congr 1;omega
  have hdrop:(l.flatMap f).drop (k*e)=(l.drop k).flatMap f:=by
   have hl2:l=l.take k ++ l.drop k:=(List.take_append_drop k l).symm
   have hlt:=wt hf (l.take k)
   rw[List.length_take,Nat.min_eq_left hk]at hlt
   conv=>lhs;rw[hl2,List.flatMap_append]
   rw[List.drop_append_of_le_length (by omega),<-hlt,List.drop_length,List.nil_append]
  rw[hsplit]at hall
  obtain⟨h1,h2⟩:=bX hall
  rw[hdrop]at h2
  have hb:yw n c (some (.int .i64 (k:Int))) none none=some (k,n,c):=by
   show ob (dM (some (.int .i64 (k:Int))) 0 n) _=_
   show ob (bif Nat.ble k n then some k else none) _=_
   rw[qcr (by omega)];rfl
  have hcd:Nat.beq (code e x / 2) e=true:=by
   have:code e x / 2=e:=by
    cases x
    ·show (2*e) / 2=e;omega
    ·show (2*e+1) / 2=e;omega
   rw[this,Nat.beq_refl]
  have hex:xY (code e x)=x:=by
   cases x
   ·show Nat.beq ((2*e) % 2) 1=false
    rw[show (2*e) % 2=0 by omega];rfl
   ·show Nat.beq ((2*e+1) % 2) 1=true
    rw[show (2*e+1) % 2=1 by omega];rfl
  have hsl:slV e (some (.int .i64 (k:Int))) none none (.slice (some ⟨B,o,some (code e x)⟩) n c)=some (.slice (some ⟨B,bif x && Nat.beq c k then o else o+k*e,some (code e x)⟩) (n - k) (c - k)):=by
   unfold slV
   simp only[qK,hb,hcd,hex,Option.isSome_none,Bool.or_false]
   rfl
  refine⟨_,_,_,hsl,⟨by rw[hdl];rfl,fun i r hr=>?_,?_,fun C hC=>by cases hC;exact h.lt _ rfl⟩,.inr ⟨_,_,_,_,_,rfl,by omega⟩,fun C hC=>hC⟩
  ·have hi:i<(l.drop k).length:=(qcl.1 hr).1
   rw[List.getElem?_drop]at hr
   have hck:(x && Nat.beq c k)=false:=by
    cases q:Nat.beq c k with
    | false=>simp
    | true=>have:=qcw q;omega
   rw[hck]
   obtain⟨g1,g2,g3⟩:=h.row (k+i) r hr
   refine⟨?_,g2,?_⟩
   ·show (bif Nat.blt i (n - k) then fM (i*e) _ else none)=_
    rw[show Nat.blt i (n - k)=true from qcr (by omega)];rfl
   ·have e1:adr e (.slice (some ⟨B,o,some (code e x)⟩) n c) (k+i)=⟨B,o+(k+i)*e,none⟩:=rfl
    have e2:adr e (.slice (some ⟨B,bif false then o else o+k*e,some (code e x)⟩) (n - k) (c - k)) i=⟨B,o+k*e+i*e,none⟩:=rfl
    rw[e1]at g3
    rw[e2,<-g3,Nat.add_mul,Nat.add_assoc]
  ·show loads m ⟨B,bif x && Nat.beq c k then o else o+k*e,some (code e x)⟩ ((l.drop k).length*e)=_
   cases q:(x && Nat.beq c k) with
   | false=>exact h2
   | true =>
    rw[qcp]at q
    have:=qcw q.2
    have h0:l.drop k=[]:=List.drop_eq_nil_of_le (by omega)
    rw[h0]at h2 ⊢
    unfold loads at h1 ⊢
    obtain⟨cc,hcc,_⟩:=qb h1
    simp only at hcc
    show ob (cellsOf m B) _=_
    rw[hcc]
    show ldn cc _ (0*e)=_
    rw[Nat.zero_mul];rfl
theorem Rd.take (h:Rd m v e f l) (hs:Sp e v) (hf:∀x,(f x).length=e) {k:Nat} (hk:k<=l.length):∃a n c,slV e none (some (.int .i64 (k:Int))) none v=some (.slice a n c)/\Rd m (.slice a n c) e f (l.take k)/\Sp e (.slice a n c)/\(∀B,blk (.slice a n c)=some B->blk v=some B):=by
 rcases hs with rfl | ⟨B,o,n,c,x,rfl,hnc⟩
 ·have hl:l.length=0:=by have:=h.len;simp[ze]at this;omega
  have hk0:k=0:=by omega
  have hl':l=[]:=qd0 hl
  subst hk0;subst hl'
  exact⟨none,0,0,rfl,h,.inl rfl,fun B hB=>hB⟩
 ·have hn:n=l.length:=by have:=h.len;simp[ze]at this;omega
  have htl:(l.take k).length=k:=by rw[List.length_take,Nat.min_eq_left hk]
  have hall:loads m ⟨B,o,some (code e x)⟩ (l.length*e)=some (l.flatMap f):=h.all
  have hsplit:l.length*e=k*e+(l.length - k)*e:=by rw[<-Nat.add_mul];congr 1;omega
  have htake:(l.flatMap f).take (k*e)=(l.take k).flatMap f:=by
   have hl2:l=l.take k ++ l.drop k:=(List.take_append_drop k l).symm
   have hlt:=wt hf (l.take k)
   rw[htl]at hlt
   conv=>lhs;rw[hl2,List.flatMap_append]
   rw[List.take_append_of_le_length (by omega),<-hlt,List.take_length]
  rw[hsplit]at hall
  obtain⟨h1,h2⟩:=bX hall
  rw[htake]at h1
  have hcd:Nat.beq (code e x / 2) e=true:=by
   have:code e x / 2=e:=by
    cases x
    ·show (2*e) / 2=e;omega
    ·show (2*e+1) / 2=e;omega
   rw[this,Nat.beq_refl]
  have hex:xY (code e x)=x:=by
   cases x
   ·show Nat.beq ((2*e) % 2) 1=false
    rw[show (2*e) % 2=0 by omega];rfl
   ·show Nat.beq ((2*e+1) % 2) 1=true
    rw[show (2*e+1) % 2=1 by omega];rfl
  have hb:yw n c none (some (.int .i64 (k:Int))) none=some (0,k,c):=by
   show ob (dM (some (.int .i64 (k:Int))) n c) _=_
   show ob (bif Nat.ble k c then some k else none) _=_
   rw[qcr (by omega)];rfl
  have hoff:(bif x && Nat.beq c 0 then o else o+0*e)=o:=by cases (x && Nat.beq c 0)<;>simp
  have hsl:slV e none (some (.int .i64 (k:Int))) none (.slice (some ⟨B,o,some (code e x)⟩) n c)=some (.slice (some ⟨B,o,some (code e x)⟩) k c):=by
   unfold slV
   simp only[qK,hb,hcd,hex,Option.isSome_none,Bool.or_false]
   show some (Value.slice (some ⟨B,bif x && Nat.beq c 0 then o else o+0*e,some (code e x)⟩) (k - 0) (c - 0))=_
   rw[hoff];rfl
  refine⟨_,_,_,hsl,⟨by rw[htl];rfl,fun i r hr=>?_,?_,fun C hC=>by cases hC;exact h.lt _ rfl⟩,.inr ⟨_,_,_,_,_,rfl,by omega⟩,fun C hC=>hC⟩
  ·have hi:i<(l.take k).length:=(qcl.1 hr).1
   rw[htl]at hi
   rw[List.getElem?_take,if_pos hi]at hr
   obtain⟨g1,g2,g3⟩:=h.row i r hr
   refine⟨?_,g2,g3⟩
   show (bif Nat.blt i k then fM (i*e) _ else none)=_
   rw[show Nat.blt i k=true from qcr hi];rfl
  ·show loads m ⟨B,o,some (code e x)⟩ ((l.take k).length*e)=_
   rw[htl];exact h1
end
end Go.Dx
namespace Go.Sx
open Go.Dx Go.Proofs
set_option maxRecDepth 10000
theorem yA {S:PM} {w:Wnt} (h:look S=some w):wy S=(S,w):=Qp h _
theorem Yw {S:PM} (h:WF S):wy (wy S).1=wy S:=by
 rw[yA (zw h).1]
theorem Jg (S:PM) (i:Ins) (w:Wnt) (v b:Nat):(storeP S i w v b).outs=S.outs:=by
 unfold storeP
 cases w.ex with
 | false=>rfl
 | true =>
  simp only[if_true]
  split
  ·exact (wE _ _ _ _).outs
  ·exact (wE _ _ _ _).outs
theorem bM (S:PM) (i:Ins) (w:Wnt) (v b:Nat):(beginP S i w v b).outs=S.outs:=by
 unfold beginP
 simp only
 split
 ·exact (wE _ _ _ _).outs
 ·exact (wE _ _ _ _).outs
theorem Zj (w:Wnt) (b:Nat) (S:PM):(exP w b S).outs=S.outs:=by unfold exP;split<;>rfl
theorem Yc (S:PM) (b:Nat):(endP S b).outs=S.outs:=by unfold endP;split<;>rfl
theorem JK (S:PM) (i:Ins) (w:Wnt) (v:Nat):(zB S i w v).outs=if w.what=4 then S.outs ++ [w.val] else S.outs:=by
 unfold zB
 by_cases h1:w.what=1
 ·simp only[if_pos h1,if_neg (show ¬w.what=4 by omega)]
  split
  ·split
   ·exact bM _ _ _ _ _
   ·exact (Zj _ _ _).trans (bM _ _ _ _ _)
  ·exact (Zj _ _ _).trans (wE _ _ _ _).outs
 by_cases h2:w.what=2
 ·simp only[if_neg h1,if_pos h2,if_neg (show ¬w.what=4 by omega)]
  split
  ·exact Yc _ _
  ·exact Jg _ _ _ _ _
 by_cases h3:w.what=3
 ·simp only[if_neg h1,if_neg h2,if_pos h3,if_neg (show ¬w.what=4 by omega)];rfl
 by_cases h4:w.what=4
 ·simp only[if_neg h1,if_neg h2,if_neg h3,if_pos h4];rfl
 ·simp only[if_neg h1,if_neg h2,if_neg h3,if_neg h4];rfl
theorem dZ {S:PM} (h:WF S) (v:Nat):(wP S v).1.outs.length<=S.outs.length+1:=by
 obtain⟨h1,h2,h3⟩:=zw h
 unfold wP ya
 split
 ·rw[h3.outs];omega
 ·cases hf:fetch (wy S).1 with
  | none=>simp only;rw[h3.outs];omega
  | some i =>
   simp only
   rw[JK]
   split
   ·rw[qct,h3.outs];simp
   ·rw[h3.outs];omega
end Go.Sx
namespace Go.Sx
open Go.Dx Go.Proofs
set_option maxRecDepth 10000
def xf (S:PM):PM:={ xO S with sc:={ S.sc with st:=4 } }
def jR (k:PM->List Nat->List Bool->PM) (S1:PM) (w:Wnt) (rs:List Nat) (ws:List Bool):PM :=
 if w.what=2/\w.one=true then k (wP S1 0).1 rs ws
 else if w.what=7\/w.what=6 then xe S1
 else if kH S1.sc=true then xf S1
 else if w.what=5 then xe S1
 else if w.what=1 then (match rs with
  | []=>xe S1
  | v :: rs'=>k (wP S1 v).1 rs' ws)
 else if w.what=2/\w.ex=true then (match ws with
  | []=>xe S1
  | b :: ws'=>k (wP S1 (if b then 1 else 0)).1 rs ws')
 else k (wP S1 0).1 rs ws
def ky:Nat->PM->List Nat->List Bool->PM
 | 0,S,_,_=>S
 | k+1,S,rs,ws=>jR (ky k) (wy S).1 (wy S).2 rs ws
def QL (ws:List Nat) (fuel:Int):PM:=xE (newS ws) 87 fuel
def zx (ws:List Nat) (rs:List Nat) (wins:List Bool) (fuel:Int):PM:=ky 200001 (QL ws fuel) rs wins
theorem Kj {ws:List Nat} (h:xD ws=0) (fuel:Int):WF (QL ws fuel):=by
 have k:=qal h
 exact⟨k.code,k.len,k.v,k.t,k.ft,k.way,yZ rfl,k.ev,k.rmw,k.addr,k.data,k.ctrl,k.own,k.rd,k.us⟩
structure DnB (S:PM):Prop where
 dn:0<=S.sc.dn/\S.sc.dn<=S.sc.limit
 lim:S.sc.limit<=100000
def mu (S:PM):Int:=2*(S.sc.limit - S.sc.dn)+(if S.half=none then 0 else 1)
theorem gx:∀(k:Nat) (S:PM),DnB S->DnB (jE k S).1/\mu (jE k S).1<=mu S
 | 0,S,h=>⟨h,Int.le_refl _⟩
 | k+1,S,h=>by
  unfold jE
  cases hl:look S with
  | some w=>exact⟨h,Int.le_refl _⟩
  | none =>
   obtain⟨h1,i,h2,h3,h4,h5⟩:=yB hl
   have e:zR S=vt S i:=by unfold zR;rw[h2]
   have hs:=dC S i
   have hd:=DG S i
   have hlt:S.sc.dn<S.sc.limit:=by
    unfold kH at h5
    simp at h5
    have:=h.dn;omega
   have hb:=h.dn
   have hli:=h.lim
   rw[wrap64 _ (by omega) (by omega)]at hd
   have k1:DnB (zR S):=by rw[e];exact⟨by rw[hd,hs.limit];omega,by rw[hs.limit];exact hli⟩
   obtain⟨a,b⟩:=gx k (zR S) k1
   refine⟨a,Int.le_trans b ?_⟩
   unfold mu
   rw[e,hd,hs.limit,hs.half,h1]
   simp only[if_true];omega
theorem vq (S:PM) (k x:Nat) (l:List Nat):(setRP S k x l).sc.dn=S.sc.dn/\(setRP S k x l).sc.limit=S.sc.limit:=⟨(wE _ _ _ _).dn,(wE _ _ _ _).limit⟩
theorem dY (S:PM) (i:Ins) (w:Wnt) (v:Nat) (hh:w.what=2->w.one=true->S.half≠none):(zB S i w v).sc.limit=S.sc.limit/\(if w.what=2/\w.one=true then (zB S i w v).sc.dn=S.sc.dn/\(zB S i w v).half=none else (zB S i w v).sc.dn=IntKind.i64.wrap (S.sc.dn+1)):=by
 have ex1:∀(b:Nat) (T:PM),(exP w b T).sc.dn=T.sc.dn/\(exP w b T).sc.limit=T.sc.limit:=fun b T=>by unfold exP;split<;>exact⟨rfl,rfl⟩
 have go:∀T:PM,T.sc.dn=S.sc.dn->T.sc.limit=S.sc.limit->(xh T).sc.limit=S.sc.limit/\(xh T).sc.dn=IntKind.i64.wrap (S.sc.dn+1):=fun T h1 h2=>⟨h2,by show IntKind.i64.wrap (T.sc.dn+1)=_;rw[h1]⟩
 have bg:∀(T:PM) (b:Nat),(beginP T i w v b).sc.dn=T.sc.dn/\(beginP T i w v b).sc.limit=T.sc.limit:=fun T b=>by
  unfold beginP
  simp only
  split
  ·exact vq _ _ _ _
  ·exact vq _ _ _ _
 have stp:∀(b:Nat),(storeP S i w v b).sc.dn=S.sc.dn/\(storeP S i w v b).sc.limit=S.sc.limit:=fun b=>by
  unfold storeP
  cases w.ex with
  | false=>exact⟨rfl,rfl⟩
  | true =>
   simp only[if_true]
   split
   ·exact vq _ _ _ _
   ·exact vq _ _ _ _
 unfold zB
 by_cases h1:w.what=1
 ·simp only[if_pos h1]
  rw[if_neg (show ¬(w.what=2/\w.one=true) from fun h=>by have:=h.1;omega)]
  split
  ·split
   ·exact⟨(bg _ _).2,rfl⟩
   ·exact go _ ((ex1 _ _).1.trans (bg _ _).1) ((ex1 _ _).2.trans (bg _ _).2)
  ·exact go _ ((ex1 _ _).1.trans (vq _ _ _ _).1) ((ex1 _ _).2.trans (vq _ _ _ _).2)
 by_cases h2:w.what=2
 ·simp only[if_neg h1,if_pos h2]
  by_cases ho:w.one=true
  ·rw[if_pos ho,if_pos ⟨h2,ho⟩]
   have:=hh h2 ho
   unfold endP
   cases hS:S.half with
   | none=>exact absurd hS this
   | some x=>exact⟨rfl,rfl,rfl⟩
  ·rw[if_neg ho,if_neg (fun h=>ho h.2)]
   exact go _ (stp _).1 (stp _).2
 have n21:¬(w.what=2/\w.one=true):=fun h=>h2 h.1
 by_cases h3:w.what=3
 ·simp only[if_neg h1,if_neg h2,if_pos h3,if_neg n21]
  exact go _ rfl rfl
 by_cases h4:w.what=4
 ·simp only[if_neg h1,if_neg h2,if_neg h3,if_pos h4,if_neg n21]
  exact go _ rfl rfl
 ·simp only[if_neg h1,if_neg h2,if_neg h3,if_neg h4,if_neg n21]
  exact go _ rfl rfl
theorem WX {S:PM} (h:WF S) {w:Wnt} (hl:look S=some w) (hd:DnB S) {v:Nat} (h5:w.what<5) (hv:w.what=2->w.ex=true->v<=1) (hs:¬(w.what=2/\w.one=true)->kH S.sc=false) (hlim:0<=S.sc.limit) :
  DnB (wP S v).1/\mu (wP S v).1+1<=mu S:=by
 have hWO:=xR h hl
 obtain⟨i,hf⟩:=hWO.fetch h5
 have hn:(wP S v).1=zB S i w v:=by
  unfold wP
  rw[yA hl]
  unfold ya
  rw[if_neg (fun hc=>by
   rcases hc with hc | ⟨a,b,c⟩
   ·simp only at hc;omega
   ·have:=hv a b;omega)]
  simp only[hf]
 rw[hn]
 obtain⟨k1,k2⟩:=dY S i w v (fun a b e=>by obtain⟨x,hx⟩:=hWO.one2 a b;rw[hx]at e;cases e)
 have hb:=hd.dn
 have hli:=hd.lim
 by_cases c:w.what=2/\w.one=true
 ·rw[if_pos c]at k2
  obtain⟨x,hx⟩:=hWO.one2 c.1 c.2
  refine⟨⟨by rw[k2.1,k1];exact hb,by rw[k1];exact hli⟩,?_⟩
  unfold mu
  rw[k2.1,k1,k2.2,hx]
  simp
 ·rw[if_neg c]at k2
  have hsp:=hs c
  unfold kH at hsp
  simp at hsp
  have hlt:=hsp hlim
  rw[wrap64 _ (by omega) (by omega)]at k2
  refine⟨⟨by rw[k2,k1];omega,by rw[k1];exact hli⟩,?_⟩
  unfold mu
  rw[k2,k1]
  have:∀o:Option Hf,(0:Int)<=(if o=none then 0 else 1)/\(if o=none then (0:Int) else 1)<=1:=fun o=>by split<;>omega
  have a:=this (zB S i w v).half
  have b:=this S.half
  omega
end Go.Sx
namespace Go.Sx
open Go.Dx Go.Proofs
set_option maxRecDepth 10000
abbrev VH (b:Bool):List Value:=[.bool b]
def fL (ws rs:List Nat) (wins:List Bool) (fuel:Int) (m:M) (v:Value) (m':M):Prop :=
 (xD ws≠0/\v=.tuple #[.agg ⟨z9⟩,iv (xD ws)]) \/
 (xD ws=0/\∃q,v=.tuple #[.agg ⟨qY q⟩,iv 0]/\RL m' q (zx ws rs wins fuel)/\QI m.n q/\q.st=(zx ws rs wins fuel).sc.st/\q.lc=(zx ws rs wins fuel).sc.lc/\q.us=(zx ws rs wins fuel).sc.us)
section
variable {m0 m m':M} {W:List Nat} {Z:Nat->Prop} {P:Nat} {σ:List (Nat × List Value)} {s s':Mch} {g:Gh} {S S':PM}
theorem ML.mxB (h:ML m P s g S) {σ:List (Nat × List Value)} (hσ:∀p∈σ,p.1<m.n/\Arr m p.1 p.2/\p.1 ∉ own P s/\¬Sh s g p.1) (hn:(σ.map (·.1)).Nodup):MX m m (σ.map (·.1) ++ own P s) (Sh s g) P σ s g S:=by
 refine⟨Ow.start h.base (fun p hp=>?_) ?_,h.hp,h.sc,fun B hB=>.inl (List.mem_append_right _ (kj.2 (.inr hB))),fun B hB=>.inl hB,fun p hp=>⟨fun hL=>(hσ p hp).2.2.1 (kj.2 (.inr hL)),(hσ p hp).2.2.2⟩,List.mem_append_right _ (kj.2 (.inl rfl)),fun B hB=>?_⟩
 ·rcases qd5.1 hp with hp | hp
  ·exact⟨List.mem_append_left _ (List.mem_map.2 ⟨p,hp,rfl⟩),(hσ p hp).1,(hσ p hp).2.1⟩
  ·rw[qcq.1 hp]
   exact⟨List.mem_append_right _ (kj.2 (.inl rfl)),h.mat.lt,h.mat.arr⟩
 ·rw[List.map_append,List.nodup_append]
  refine⟨hn,by simp,fun a ha b hb=>?_⟩
  obtain⟨p,hp,rfl⟩:=List.mem_map.1 ha
  simp at hb
  subst hb
  exact fun e=>(hσ p hp).2.2.1 (kj.2 (.inl e))
 ·rcases qd5.1 hB with hB | hB
  ·obtain⟨p,hp,rfl⟩:=List.mem_map.1 hB
   exact (hσ p hp).1
  ·rcases kj.1 hB with rfl | hL
   ·exact h.mat.lt
   ·exact h.hp.ln hL
theorem MX.runBox (h:MX m0 m W Z P σ s g S) (n:Nat) (hw:WF S) (hz:Sz S) (k:Nat) {R:Nat} {l:List Value} (hk:σ[k]?=some (R,l)) (hl:l.length=9) (hR:R<m.n) :
  ∃q m5 m6,(ex Tryz.prog (n+33)).f 14 [mP P] m=some (.agg ⟨qY q⟩,m5)/\qz 9 (.pointer (some ⟨R,0,none⟩)) (.agg ⟨qY q⟩) m5=some (undef,m6)/\Mc m0 m6 W/\loads m6 ⟨R,0,none⟩ 9=some (qY q)/\RL m6 q (xe S)/\QI m.n q/\q.st=(xe S).sc.st/\q.lc=(xe S).sc.lc/\q.us=S.sc.us:=by
 obtain⟨v5,m5,a1,a2,q,rfl,a3,a4,e1,e2,e3⟩:=Run_m n h.ml hw hz
 have h5:=h.ext a2
 obtain⟨m6,b1,b2,b3⟩:=h5.fill k hk (n:=9) (l':=qY q) (by omega) hl rfl a3.ok
 obtain⟨hkl,-⟩:=qcl.1 hk
 have ob:∀X,X≠R->m6.obj X=m5.obj X:=by
  obtain⟨m6',c1,-,-,c3⟩:=h5.ow.storeN k (yu hk) (o:=0) (n:=9) (l':=qY q) (by omega) rfl (by omega) a3.ok
  rw[b1]at c1;cases c1;exact c3
 refine⟨q,m5,m6,a1,b1,b2.ow.mc,(b2.box (k:=k) (by rw[List.getElem?_set_self hkl])).2.loads (o:=0) (n:=9) (by simp[qY]),a3.kp (D:=[R]) (Kp.put b3 ob (by simp)) fun F hF B hB hc=>?_,a4,e1,e2,e3⟩
 have:=a4 F hF B hB
 simp at hc;omega
end
theorem Kg {a b c:M} {W:List Nat} (h:Ext a b) (k:Mc b c W) (hW:∀B∈W,a.n<=B) (hb:a.base<=a.n):Ext a c:=h.mcx k hW hb
theorem bu_z9:ww [zS,zS,zS,zS,zS,zS,zI,zI,zI] []=some (.agg ⟨z9⟩):=rfl
theorem wf_sz {S:PM} (h:WF S) (ho:S.outs.length*8<=wB):Sz S:=fun F hF=>by
 have hr:=h.rm
 have h0:=h.ev
 rcases six hF with rfl | rfl | rfl | rfl | rfl | rfl
 ·show (rowsOf S 0).length*40<=_;rw[jK];unfold wB;omega
 ·show (rowsOf S 1).length*16<=_;rw[yG];have:=hr.rmw;unfold wB;omega
 ·show (rowsOf S 2).length*16<=_;rw[bw];have:=hr.addr;unfold wB;omega
 ·show (rowsOf S 3).length*16<=_;rw[bx];have:=hr.data;unfold wB;omega
 ·show (rowsOf S 4).length*16<=_;rw[bz];have:=hr.ctrl;unfold wB;omega
 ·show (rowsOf S 5).length*8<=_;rw[yH];exact ho
set_option maxHeartbeats 8000000 in
theorem Fe (n:Nat) {m:M} (hm:m.base<=m.n) {wl rl bl:Value} {ws rs:List Nat} {wins:List Bool} (hws:Rd m wl 1 yr ws) (hrs:Rd m rl 1 vO rs) (hbs:Rd m bl 1 VH wins) (srl:Sp 1 rl) (sbl:Sp 1 bl) (hv:∀v∈rs,v<W64) {fuel:Int} (hf:0<=fuel/\fuel<=100000) :
  Dx.Call (ex Tryz.prog (n+35)) 16 [wl,rl,bl,iv fuel] m (fL ws rs wins fuel m):=by
 refine qk da7_ok (by simp) ?_
 obtain⟨m0,hm0⟩:=qd6 (Dx.newRow m z9)
 have hm0':Dx.newRow m [zS,zS,zS,zS,zS,zS,zI,zI,zI]=m0:=hm0.symm
 have E0:Ext m m0:=by rw[hm0];exact Ext.row _ _
 have n0:m0.n=m.n+1:=by rw[hm0,qv]
 have hS0:Sees m m0:=(Sees.refl hm).ext E0
 obtain⟨v1,m1,a1,a2,a3⟩:=New_m (n+28) hS0.base (hws.sees hS0)
 have E1:=E0.trans a2
 have st1:=(((St.nil hm (Ext.refl m)).row z9))
 rw[<-hm0]at st1
 have st1:=st1.step a2
 rcases a3 with ⟨he,P,lv,rfl,hP,hml,hlv⟩ | ⟨he,rfl⟩
 rotate_left
 ·obtain⟨m2,b1,st2,-,-⟩:=st1.fill 0 rfl (n:=9) (l':=z9) rfl rfl (by simp[okC])
  have b2:=(st2.get 0 rfl).2.2.loads (o:=0) (n:=9) (s:=none) (by simp)
  have hne:(xD ws=0)=False:=eq_false he
  simp[hm0',a1,hne,bu_z9,b1]
  exact qM (a:=⟨m.n,0,none⟩) (by simp) b2 st2.ext (.inl ⟨he,by simp⟩)
 have f0:(fuel<0)=False:=eq_false (by omega)
 have f1:(100000<fuel)=False:=eq_false (by omega)
 have ownge:∀B∈own P (xi lv),m.n<B:=fun B hB=>by
  rcases kj.1 hB with rfl | hL
  ·omega
  ·exact absurd hL Kk
 have shge:∀B,Sh (xi lv) gh0 B->m.n<B:=fun B hB=>by have:=hlv B (JT hB);omega
 have hx1:=hml.mxB (σ:=[(m.n,z9)]) (by
  intro p hp
  rw[qcq.1 hp]
  exact⟨(st1.get 0 rfl).2.1,(st1.get 0 rfl).2.2,fun hc=>Nat.lt_irrefl _ (ownge _ hc),fun hc=>Nat.lt_irrefl _ (shge _ hc)⟩) (by simp)
 obtain⟨Wq,hWq⟩:=qd6 (List.map (·.1) [(m.n,z9)] ++ own P (xi lv))
 rw[<-hWq]at hx1
 have hWge:∀B∈Wq,m.n<=B:=fun B hB=>by
  rw[hWq]at hB
  rcases qd5.1 hB with hB | hB
  ·simp at hB;omega
  ·have:=ownge B hB;omega
 obtain⟨m2,c1,hx2,c2⟩:=hx1.num (o:=87) (by decide) fuel
 have hx2:MX m1 m2 Wq (Sh (xi lv) gh0) P [(m.n,z9)] _ gh0 (QL ws fuel):=hx2
 have hE:(0:Int)=0:=rfl
 simp[hm0',a1,he,f0,f1,c1]
 have lt1:∀{u:Value} {e:Nat} {β:Type} {f:β->List Value} {es:List β},Rd m u e f es->∀B,blk u=some B->B<m.n:=fun h=>h.lt
 refine qE (c:=Fz) rfl (Ret m _) (fun j t m'=>Tm.get 8 t=.pointer (some ⟨m.n,0,none⟩)/\Tm.get 10 t=mP P/\∃s' g' S' rl' bl' rs' ws',Tm.get 1 t=rl'/\Tm.get 2 t=bl'/\MX m1 m' Wq (Sh (xi lv) gh0) P [(m.n,z9)] s' g' S'/\WF S'/\DnB S'/\S'.sc.limit=fuel/\mu S'+j<=2*fuel/\S'.outs.length<=j /\
   Rd m rl' 1 vO rs'/\Rd m bl' 1 VH ws'/\Sp 1 rl'/\Sp 1 bl'/\(∀v∈rs',v<W64)/\ky (200001 - j) S' rs' ws'=zx ws rs wins fuel) 200000 (by omega)
  ⟨by simp,by simp,_,_,QL ws fuel,rl,bl,rs,wins,by simp,by simp,hx2,Kj he fuel,⟨by show (0:Int)<=0/\(0:Int)<=fuel;omega,hf.2⟩,rfl,by show 2*(fuel - 0)+(if (none:Option Hf)=none then 0 else 1)+((0:Nat):Int)<=_;simp,Nat.zero_le _,hrs,hbs,srl,sbl,hv,rfl⟩ (fun j t m' k hj hI hk=>?_)
 obtain⟨t8,t10,s',g',S',rl',bl',rs',ws',t1,t2,hx,hwf,hdn,hlim,hmu,hou,hr',hb',sr',sb',hv',hrep⟩:=hI
 rw[show 200001 - j=(200000 - j)+1 by omega]at hrep
 obtain⟨v3,m3,s3,g3,d1,d2,rfl⟩:=Jk (n+2) hx.ml hwf
 obtain⟨hlk,hwn,hst⟩:=zw hwf
 obtain⟨hdn1,hmu1⟩:=gx 100001 S' hdn
 have hWO:=xR hwn hlk
 have hnn:=Yw hwf
 obtain⟨S1,hS1⟩:=qd6 ((wy S').1)
 obtain⟨w,hwd⟩:=qd6 ((wy S').2)
 have hdn1:DnB S1:=by rw[hS1];exact hdn1
 have hmu1:mu S1<=mu S':=by rw[hS1];exact hmu1
 have hlim1:S1.sc.limit=fuel:=by rw[hS1,hst.limit,hlim]
 have hou1:S1.outs.length<=j:=by rw[hS1,hst.outs];exact hou
 rw[<-hwd]at d1 hlk hWO
 rw[<-hS1]at d2 hlk hwn hWO
 have hx3:=(hx.call d2).row z6w
 obtain⟨m4,x1,hx4,x2⟩:=hx3.fill 0 rfl (n:=6) (l':=qm w) (by omega) rfl rfl (zy _)
 have x1':qz 6 (.pointer (some ⟨m3.n,0,none⟩)) (.agg ⟨qm w⟩) (Dx.newRow m3 [zI,zI,zI,zU,.bool false,.bool false])=some (undef,m4):=x1
 have hx4:MX m1 m4 Wq (Sh (xi lv) gh0) P [(m3.n,qm w),(m.n,z9)] s3 g3 S1:=hx4
 have l0:load1 m4 ⟨m3.n,0,none⟩=some (iv w.what):=(hx4.box (k:=0) rfl).2.load1 0 none
 have l4:load1 m4 ⟨m3.n,4,none⟩=some (.bool w.ex):=(hx4.box (k:=0) rfl).2.load1 4 none
 have l5:load1 m4 ⟨m3.n,5,none⟩=some (.bool w.one):=(hx4.box (k:=0) rfl).2.load1 5 none
 have Em4:Ext m m4:=Kg E1 hx4.ow.mc hWge hm
 have m4n:m.n<m4.n:=(hx4.box (k:=1) rfl).1
 have hsz:Sz S1:=wf_sz hwn (by unfold wB;omega)
 have fed:∀{mq:M} {σ:List (Nat × List Value)} {v:Nat} (hxq:MX m1 mq Wq (Sh (xi lv) gh0) P σ s3 g3 S1) (hσ:(m.n,z9)∈σ) (hvl:v<W64) (hv1:w.what=2->w.ex=true->v<=1) (h5:w.what<5) (hs:¬(w.what=2/\w.one=true)->kH S1.sc=false),
   ∃u m5 s5 g5,(ex Tryz.prog (n+34)).f 23 [mP P,uv v] mq=some (u,m5)/\MX m1 m5 Wq (Sh (xi lv) gh0) P [(m.n,z9)] s5 g5 (wP S1 v).1/\j<200000/\WF (wP S1 v).1/\DnB (wP S1 v).1/\(wP S1 v).1.sc.limit=fuel/\mu (wP S1 v).1+((j+1:Nat):Int)<=2*fuel/\(wP S1 v).1.outs.length<=j+1:=by
  intro mq σ v hxq hσ hvl hv1 h5 hs
  obtain⟨u,m5,s5,g5,e1,e2,-⟩:=Feed_m (n+1) hxq.ml hwn hvl (by unfold wB;omega)
  obtain⟨q1,q2⟩:=WX hwn hlk hdn1 h5 hv1 hs (by rw[hlim1];exact hf.1)
  have q3:0<=mu (wP S1 v).1:=by
   unfold mu
   have:=q1.dn
   split<;>omega
  have q4:(wP S1 v).1.sc.limit=fuel:=by
   rw[<-hlim1]
   obtain⟨i,hfi⟩:=hWO.fetch h5
   unfold wP
   rw[yA hlk]
   unfold ya
   simp only[hfi]
   split
   ·rfl
   ·exact (dY S1 i w v (fun a b e=>by obtain⟨x,hx⟩:=hWO.one2 a b;rw[hx]at e;cases e)).1
  refine⟨u,m5,s5,g5,e1,(hxq.call e2).drop (by simpa using hσ) ?_,by omega,Qa hwn hvl,q1,q4,by omega,?_⟩
  ·have:=hx.ow.nd;exact this
  ·have:=dZ hwn v;omega
 have fin:∀{t':Tm} {m6:M} {q:Mch} {T:PM},Tm.get 8 t'=.pointer (some ⟨m.n,0,none⟩)->Tm.get 9 t'=iv 0->zx ws rs wins fuel=T->Mc m1 m6 Wq->loads m6 ⟨m.n,0,none⟩ 9=some (qY q)->RL m6 q T->QI m4.n q->q.st=T.sc.st->q.lc=T.sc.lc->q.us=T.sc.us->Ret m (fL ws rs wins fuel m) (ku [.cell 8 9,.t 9] t' m6):=by
  intro t' m6 q T h8 h9 hT hmc hl hrl hnew e1 e2 e3
  refine qM (a:=⟨m.n,0,none⟩) h8 hl (Kg E1 hmc hWge hm) (.inr ⟨he,q,by rw[h9],by rw[hT];exact hrl,fun F hF B hB=>by have:=hnew F hF B hB;omega,by rw[hT];exact e1,by rw[hT];exact e2,by rw[hT];exact e3⟩)
 have hrep':zx ws rs wins fuel=jR (ky (200000 - j)) S1 w rs' ws':=by rw[<-hrep,hS1,hwd];rfl
 have hsub:200000 - j=200001 - (j+1):=by omega
 obtain⟨q,m5,m6,r1,r2,r3,r4,r5,r6,r7,r8,r9⟩:=hx4.runBox (n+1) hwn hsz 1 rfl rfl m4n
 unfold jR at hrep'
 have endRun:zx ws rs wins fuel=xe S1->∀{t':Tm},Tm.get 8 t'=.pointer (some ⟨m.n,0,none⟩)->Tm.get 9 t'=iv 0->Ret m (fL ws rs wins fuel m) (ku [.cell 8 9,.t 9] t' m6):=fun hT t' h8 h9=>fin h8 h9 hT r3 r4 r5 r6 r7 r8 r9
 by_cases h21:w.what=2/\w.one=true
 ·rw[if_pos h21]at hrep'
  obtain⟨u,m7,s5,g5,e1,e2,e3,e4,e5,e6,e7,e8⟩:=fed (v:=0) hx4 (by simp) (by decide) (fun _ _=>by omega) (by omega) (fun h=>absurd h21 h)
  have e1:(ex Tryz.prog (n+34)).f 23 [mP P,zU] m4=some (u,m7):=e1
  rw[h21.1]at l0
  rw[h21.2]at l5
  simp[t8,t10,d1,x1',l0,l5,e1]
  exact hk e3 _ _ ⟨by simp[t8],by simp[t10],s5,g5,_,rl',bl',rs',ws',by simp[t1],by simp[t2],e2,e4,e5,e6,e7,e8,hr',hb',sr',sb',hv',by rw[<-hsub];exact hrep'.symm⟩
 rw[if_neg h21]at hrep'
 by_cases h67:w.what=7\/w.what=6
 ·rw[if_pos h67]at hrep'
  rcases h67 with h | h
  ·rw[h]at l0
   simp[t8,t10,d1,x1',l0,r1,r2]
   exact endRun hrep' (by simp[t8]) (by simp)
  ·rw[h]at l0
   simp[t8,t10,d1,x1',l0,r1,r2]
   exact endRun hrep' (by simp[t8]) (by simp)
 rw[if_neg h67]at hrep'
 have n7:(w.what=7)=False:=eq_false fun h=>h67 (.inl h)
 have n6:(w.what=6)=False:=eq_false fun h=>h67 (.inr h)
 obtain⟨v8,m8,y1,y2,rfl⟩:=VA (n+33) hx4.mat
 rw[Jd hx4.sc]at y1
 have hx8:=hx4.ext y2
 have k0:load1 m8 ⟨m3.n,0,none⟩=some (iv w.what):=(hx8.box (k:=0) rfl).2.load1 0 none
 have k4:load1 m8 ⟨m3.n,4,none⟩=some (.bool w.ex):=(hx8.box (k:=0) rfl).2.load1 4 none
 have one:w.what=2->w.one=false:=fun h2=>by
  cases ho:w.one with
  | false=>rfl
  | true=>exact absurd ⟨h2,ho⟩ h21
 cases hsp:kH S1.sc with
 | true =>
  rw[if_pos hsp]at hrep'
  rw[hsp]at y1
  have lr:=bB hx8.mat
  have hzp:Szp S1:=⟨hsz,by have:=hwn.rm.rmw;omega,by have:=hwn.rm.addr;omega,by have:=hwn.rm.data;omega,by have:=hwn.rm.ctrl;omega⟩
  obtain⟨v9,m9,z1,z2,q9,rfl,z3,z4,z5,z6,z7⟩:=Jb (n+4) hx8.mb hx8.hp.rl hzp
  have hx9:=(hx8.ext z2).row z9
  obtain⟨mA,p1,hxA,p2⟩:=hx9.fill 0 rfl (n:=9) (l':=qY q9) (by omega) rfl rfl z3.ok
  have p1':qz 9 (.pointer (some ⟨m9.n,0,none⟩)) (.agg ⟨qY q9⟩) (Dx.newRow m9 [zS,zS,zS,zS,zS,zS,zI,zI,zI])=some (undef,mA):=p1
  obtain⟨mB,o1,hxB,o2⟩:=hxA.put 0 rfl (o:=6) (v:=iv 4) (by simp[qY]) rfl
  obtain⟨Q,hQ⟩:∃Q:Mch,Q={ q9 with st:=4 }:=⟨_,rfl⟩
  have hxB:MX m1 mB Wq (Sh (xi lv) gh0) P [(m9.n,qY Q),(m3.n,qm w),(m.n,z9)] s3 g3 S1:=by rw[hQ];exact hxB
  have lB:loads mB ⟨m9.n,0,none⟩ 9=some (qY Q):=(hxB.box (k:=0) rfl).2.loads (o:=0) (n:=9) (by simp[qY])
  have o1:qz 1 (.pointer (some ⟨m9.n,6,none⟩)) (.int .i64 4) mA=some (undef,mB):=o1
  have lQ:∀F,lst Q F=lst q9 F:=fun F=>by rw[hQ];unfold lst;split<;>rfl
  have lt9:∀F,F<6->∀B,blk (lst q9 F)=some B->B<m9.n:=fun F hF B hB=>(z3.ls F hF).lt B hB
  have mAo:∀X,X≠m9.n->mA.obj X=(Dx.newRow m9 z9).obj X:=by
   obtain⟨m',c1,-,-,c3⟩:=hx9.ow.storeN 0 rfl (o:=0) (n:=9) (l':=qY q9) (by omega) rfl (by simp) z3.ok
   rw[p1]at c1;cases c1;exact c3
  have mBo:∀X,X≠m9.n->mB.obj X=mA.obj X:=by
   obtain⟨m',c1,-,-,c3⟩:=hxA.ow.store 0 rfl (o:=6) (v:=iv 4) (by simp[qY]) rfl
   have c1:qz 1 (.pointer (some ⟨m9.n,6,none⟩)) (.int .i64 4) mA=some (undef,m'):=c1
   rw[o1]at c1;cases c1;exact c3
  have rlB:RL mB q9 (xO S1):=(z3.ext (Ext.row m9 z9)).kp (D:=[m9.n]) ((Kp.put p2 mAo (by simp)).trans (Kp.put o2 mBo (by simp))) fun F hF B hB hc=>by have:=lt9 F hF B hB;simp at hc;omega
  have rlQ:RL mB Q (xf S1):=⟨fun F hF=>by rw[lQ];exact rlB.ls F hF,fun F G hF hG hne B hB=>by rw[lQ]at hB ⊢;exact rlB.dis F G hF hG hne B hB⟩
  have n98:m4.n<=m8.n:=y2.n
  obtain⟨mC,i1,hxC,i2⟩:=hxB.fill 2 rfl (n:=9) (l':=qY Q) (by omega) rfl rfl rlQ.ok
  have mCo:∀X,X≠m.n->mC.obj X=mB.obj X:=by
   obtain⟨m',c1,-,-,c3⟩:=hxB.ow.storeN 2 rfl (o:=0) (n:=9) (l':=qY Q) (by omega) rfl (by simp) rlQ.ok
   rw[i1]at c1;cases c1;exact c3
  have lC:=(hxC.box (k:=2) rfl).2.loads (o:=0) (n:=9) (s:=none) (by simp[qY])
  have rlC:RL mC Q (xf S1):=rlQ.kp (D:=[m.n]) (Kp.put i2 mCo (by simp)) fun F hF B hB hc=>by
   rw[lQ]at hB
   have:=z4 F hF B hB
   simp at hc;omega
  have s3e:q9.lc=S1.sc.lc:=by rw[z6,<-hx8.sc];rfl
  have s3u:q9.us=S1.sc.us:=by rw[z7,<-hx8.sc];rfl
  have fine:∀{t':Tm},Tm.get 8 t'=.pointer (some ⟨m.n,0,none⟩)->Tm.get 9 t'=iv 0->Ret m (fL ws rs wins fuel m) (ku [.cell 8 9,.t 9] t' mC):=fun {t'} h8 h9 =>
   fin h8 h9 hrep' hxC.ow.mc lC rlC (fun F hF B hB=>by rw[lQ]at hB;have:=z4 F hF B hB;omega) (by rw[hQ];rfl) (by rw[hQ];exact s3e) (by rw[hQ];exact s3u)
  by_cases h2:w.what=2
  ·rw[h2]at l0
   rw[one h2]at l5
   simp[t8,t10,d1,x1',l0,l5,y1,qc,lr,z1,p1',o1,lB,i1]
   exact fine (by simp[t8]) (by simp)
  ·have n2:(w.what=2)=False:=eq_false h2
   simp[t8,t10,d1,x1',l0,n2,n6,n7,y1,qc,lr,z1,p1',o1,lB,i1]
   exact fine (by simp[t8]) (by simp)
 | false =>
  rw[if_neg (by rw[hsp];simp)]at hrep'
  rw[hsp]at y1
  have m8n:m.n<m8.n:=(hx8.box (k:=1) rfl).1
  obtain⟨q,mR,r1,r2,r3,r4,r5,r6,r7,r8,r9,r10⟩:=hx8.runBox (n+1) hwn hsz 1 rfl rfl m8n
  have n84:=y2.n
  have endRun:zx ws rs wins fuel=xe S1->∀{t':Tm},Tm.get 8 t'=.pointer (some ⟨m.n,0,none⟩)->Tm.get 9 t'=iv 0->Ret m (fL ws rs wins fuel m) (ku [.cell 8 9,.t 9] t' r1):=fun hT t' h8 h9=>fin h8 h9 hT r4 r5 r6 (fun F hF B hB=>by have:=r7 F hF B hB;omega) r8 r9 r10
  have hwh:=hWO.what
  have h6:w.what≠6:=fun h=>h67 (.inr h)
  have h7:w.what≠7:=fun h=>h67 (.inl h)
  rcases (by omega:w.what=5\/w.what=1\/w.what=2\/w.what=3\/w.what=4) with hq | hq | hq | hq | hq
  ·rw[if_pos hq]at hrep'
   rw[hq]at l0 k0
   simp[t8,t10,d1,x1',l0,y1,k0,r2,r3]
   exact endRun hrep' (by simp[t8]) (by simp)
  ·rw[if_neg (by omega),if_pos hq]at hrep'
   rw[hq]at l0 k0
   have hE8:Ext m m8:=Kg E1 hx8.ow.mc hWge hm
   have hr8:=hr'.sees ((Sees.refl hm).ext hE8)
   have ln:=hr8.len
   cases hrs':rs' with
   | nil =>
    rw[hrs']at hrep' ln
    have ln:ze rl'=some zI:=ln
    simp[t8,t10,t1,d1,x1',l0,y1,k0,ln,r2,r3]
    exact endRun hrep' (by simp[t8]) (by simp)
   | cons v rs2 =>
    rw[hrs']at hrep' ln hr' hr8 hv'
    have hvl:v<W64:=hv' v (by simp)
    have lz:(((v :: rs2).length:Int)=0)=False:=eq_false (by rw[List.length_cons];omega)
    obtain⟨L,hL⟩:=qd6 ((v :: rs2).length)
    rw[<-hL]at ln lz
    have lz2:(L=0)=False:=eq_false (by rw[hL];simp)
    obtain⟨b1,b2⟩:=Rd.at1 (i:=0) (g:=fun (x:Nat)=>uv x) hr8 (r:=v) rfl
    have b2':load1 m8 (adr 1 rl' 0)=some (uv v):=b2 m8 (Sees.refl hx8.mb)
    have b1:jx 1 rl' zI=some (.pointer (some (adr 1 rl' 0))):=b1
    obtain⟨sa,sn,sc,w1,w2,w3,w4⟩:=hr'.drop sr' (fun _=>rfl) (k:=1) (by simp)
    have w1:slV 1 (some (.int .i64 1)) none none rl'=some (.slice sa sn sc):=w1
    obtain⟨u,m7,s5,g5,e1,e2,e3,e4,e5,e6,e7,e8⟩:=fed (v:=v) hx8 (by simp) hvl (fun h=>by omega) (by omega) (fun _=>hsp)
    simp[t8,t10,t1,d1,x1',l0,y1,k0,ln,lz,lz2,b1,b2',ym,w1,e1]
    exact hk e3 _ _ ⟨by simp[t8],by simp[t10],s5,g5,_,_,bl',rs2,ws',by simp,by simp[t2],e2,e4,e5,e6,e7,e8,w2,hb',w3,sb',fun x hx=>hv' x (by simp[hx]),by rw[<-hsub];exact hrep'.symm⟩
  ·rw[if_neg (by omega),if_neg (by omega)]at hrep'
   rw[hq]at l0 k0
   rw[one hq]at l5
   cases hex:w.ex with
   | false =>
    rw[if_neg (by rw[hex];simp)]at hrep'
    rw[hex]at k4
    obtain⟨u,m7,s5,g5,e1,e2,e3,e4,e5,e6,e7,e8⟩:=fed (v:=0) hx8 (by simp) (by decide) (fun _ _=>by omega) (by omega) (fun _=>hsp)
    have e1:(ex Tryz.prog (n+34)).f 23 [mP P,zU] m8=some (u,m7):=e1
    simp[t8,t10,d1,x1',l0,l5,y1,k0,k4,e1]
    exact hk e3 _ _ ⟨by simp[t8],by simp[t10],s5,g5,_,rl',bl',rs',ws',by simp[t1],by simp[t2],e2,e4,e5,e6,e7,e8,hr',hb',sr',sb',hv',by rw[<-hsub];exact hrep'.symm⟩
   | true =>
    rw[if_pos ⟨hq,hex⟩]at hrep'
    rw[hex]at k4
    have hE8:Ext m m8:=Kg E1 hx8.ow.mc hWge hm
    have hb8:=hb'.sees ((Sees.refl hm).ext hE8)
    have ln:=hb8.len
    cases hws':ws' with
    | nil =>
     rw[hws']at hrep' ln
     have ln:ze bl'=some zI:=ln
     simp[t8,t10,t2,d1,x1',l0,l5,y1,k0,k4,ln,r2,r3]
     exact endRun hrep' (by simp[t8]) (by simp)
    | cons b ws2 =>
     rw[hws']at hrep' ln hb' hb8
     have lz:(((b :: ws2).length:Int)=0)=False:=eq_false (by rw[List.length_cons];omega)
     obtain⟨L,hL⟩:=qd6 ((b :: ws2).length)
     rw[<-hL]at ln lz
     have lz2:(L=0)=False:=eq_false (by rw[hL];simp)
     obtain⟨b1,b2⟩:=Rd.at1 (i:=0) (g:=fun (x:Bool)=>.bool x) hb8 (r:=b) rfl
     have b2':load1 m8 (adr 1 bl' 0)=some (.bool b):=b2 m8 (Sees.refl hx8.mb)
     have b1:jx 1 bl' zI=some (.pointer (some (adr 1 bl' 0))):=b1
     obtain⟨sa,sn,sc,w1,w2,w3,w4⟩:=hb'.drop sb' (fun _=>rfl) (k:=1) (by simp)
     have w1:slV 1 (some (.int .i64 1)) none none bl'=some (.slice sa sn sc):=w1
     cases b with
     | true =>
      obtain⟨u,m7,s5,g5,e1,e2,e3,e4,e5,e6,e7,e8⟩:=fed (v:=1) hx8 (by simp) (by decide) (fun _ _=>by omega) (by omega) (fun _=>hsp)
      have e1:(ex Tryz.prog (n+34)).f 23 [mP P,.int .u64 1] m8=some (u,m7):=e1
      simp[t8,t10,t2,d1,x1',l0,l5,y1,k0,k4,ln,lz,lz2,b1,b2',ym,w1,e1]
      exact hk e3 _ _ ⟨by simp[t8],by simp[t10],s5,g5,_,rl',_,rs',ws2,by simp[t1],by simp,e2,e4,e5,e6,e7,e8,hr',w2,sr',w3,hv',by rw[<-hsub];exact hrep'.symm⟩
     | false =>
      obtain⟨u,m7,s5,g5,e1,e2,e3,e4,e5,e6,e7,e8⟩:=fed (v:=0) hx8 (by simp) (by decide) (fun _ _=>by omega) (by omega) (fun _=>hsp)
      have e1:(ex Tryz.prog (n+34)).f 23 [mP P,zU] m8=some (u,m7):=e1
      simp[t8,t10,t2,d1,x1',l0,l5,y1,k0,k4,ln,lz,lz2,b1,b2',ym,w1,e1]
      exact hk e3 _ _ ⟨by simp[t8],by simp[t10],s5,g5,_,rl',_,rs',ws2,by simp[t1],by simp,e2,e4,e5,e6,e7,e8,hr',w2,sr',w3,hv',by rw[<-hsub];exact hrep'.symm⟩
  all_goals
   rw[if_neg (by omega),if_neg (by omega),if_neg (by omega)]at hrep'
   rw[hq]at l0 k0
   obtain⟨u,m7,s5,g5,e1,e2,e3,e4,e5,e6,e7,e8⟩:=fed (v:=0) hx8 (by simp) (by decide) (fun _ _=>by omega) (by omega) (fun _=>hsp)
   have e1:(ex Tryz.prog (n+34)).f 23 [mP P,zU] m8=some (u,m7):=e1
   simp[t8,t10,d1,x1',l0,y1,k0,e1]
   exact hk e3 _ _ ⟨by simp[t8],by simp[t10],s5,g5,_,rl',bl',rs',ws',by simp[t1],by simp[t2],e2,e4,e5,e6,e7,e8,hr',hb',sr',sb',hv',by rw[<-hsub];exact hrep'.symm⟩
end Go.Sx
namespace Go.Sx
open Go.Dx Go.Proofs
set_option maxRecDepth 10000
theorem Qx {α β:Type} {m:M} {v:Value} {e:Nat} {f:β->List Value} {g:α->β} {l:List α} (h:Rd m v e f (l.map g)):Rd m v e (fun x=>f (g x)) l :=
 ⟨by have:=h.len;rwa [List.length_map]at this,fun i r hr=>h.row i (g r) (by rw[qcz,hr];rfl),by have:=h.all;rw[List.length_map,List.flatMap_map]at this;exact this,h.lt⟩
theorem RL.rdF {m:M} {s:Mch} {S:PM} (h:RL m s S) {F:Nat} (hF:F<6):Rd m (lst s F) (esz F) zt (rowsOf S F):=Grown.rd jz (h.ls F hF)
theorem RL.rdEv {m:M} {s:Mch} {S:PM} (h:RL m s S):Rd m s.ev 5 kA S.ev:=Qx (f:=zt) (g:=evR) (h.rdF (F:=0) (by omega))
theorem RL.rdRmw {m:M} {s:Mch} {S:PM} (h:RL m s S):Rd m s.rmw 2 qd S.rmw:=Qx (f:=zt) (g:=prR) (h.rdF (F:=1) (by omega))
theorem RL.rdAddr {m:M} {s:Mch} {S:PM} (h:RL m s S):Rd m s.addr 2 qd S.addr:=Qx (f:=zt) (g:=prR) (h.rdF (F:=2) (by omega))
theorem RL.rdData {m:M} {s:Mch} {S:PM} (h:RL m s S):Rd m s.data 2 qd S.data:=Qx (f:=zt) (g:=prR) (h.rdF (F:=3) (by omega))
theorem RL.rdCtrl {m:M} {s:Mch} {S:PM} (h:RL m s S):Rd m s.ctrl 2 qd S.ctrl:=Qx (f:=zt) (g:=prR) (h.rdF (F:=4) (by omega))
structure SameRun (A B:PM):Prop where
 ev:A.ev=B.ev
 outs:A.outs=B.outs
 rmw:A.rmw=B.rmw
 addr:A.addr=B.addr
 data:A.data=B.data
 ctrl:A.ctrl=B.ctrl
theorem SameRun.refl (A:PM):SameRun A A:=⟨rfl,rfl,rfl,rfl,rfl,rfl⟩
end Go.Sx
namespace Go.Sx
open Go.Dx Go.Proofs
set_option maxRecDepth 10000
theorem ln0:ze kg=some zI:=rfl
theorem Ds (n:Nat) (m:M):CallV (ex Tryz.prog (n+1)) 72 [kg] m kg:=by
 refine qk df4_ok (by simp) ?_
 simp
 refine qE (c:=FR) rfl (Ret m _) (fun i t m'=>Tm.get 0 t=kg/\Tm.get 3 t=kg/\Tm.get 4 t=iv 0/\m'=m) 0 (by omega) ⟨by simp,by simp,by simp,rfl⟩ (fun i t m' k hi hI hk=>?_)
 obtain⟨t0,t3,t4,rfl⟩:=hI
 simp[t0,t3,t4,ln0]
 exact qL (Ext.refl _) (by simp[t3])
theorem dy (n:Nat) (m:M):CallV (ex Tryz.prog (n+2)) 56 [kg,kg] m (.bool true):=by
 refine qk de1_ok (by simp) ?_
 obtain⟨v1,m1,a1,a2,rfl⟩:=Ds n m
 simp[a1,ln0]
 refine qE (c:=FH) rfl (Ret m _) (fun i t m'=>Tm.get 0 t=kg/\Tm.get 6 t=iv 0/\m'=m1) 0 (by omega) ⟨by simp,by simp,rfl⟩ (fun i t m' k hi hI hk=>?_)
 obtain⟨t0,t6,rfl⟩:=hI
 simp[t0,t6,ln0]
 exact qL a2 (by simp)
def zM:List Value:=[zS,zI,zU,zS,zU,zS,zU,zS,zU,zS,zU,zS,zU,zS,zU,zS,zU,zS,zU,zS,zU,zS,zU,zS,zU,zS,zU,zS,zU,zS,zU,zS,zU,zS,zU,zS,zU,zS,zU,zS,zU,zS,zU,zS,zU,zS,zU,zS,zU,zS,zU,zS,zU,zS,zU,zS,zU,zS,zU,zS,zU,zS,zU,zS,zU,zS,.bool false,.bool false,.bool false,.bool false,zS,zS,.bool false,zI,zI,zI,zI,zI,zS,zS,zS,zS,zS,zS,zI,.bool false,zI,zI,zI,zU,.bool false,.bool false,zS,zS,zI]
set_option maxHeartbeats 1000000 in
theorem told_0 (n:Nat) {m:M} (hm:m.base<=m.n):CallV (ex Tryz.prog (n+3)) 32 [.agg ⟨z9⟩,.agg ⟨zM⟩,iv 0,iv 0] m (.bool true):=by
 refine qk db9_ok (by simp) ?_
 have st:=((St.nil hm (Ext.refl m)).row z9).row zM
 obtain⟨m0,hm0⟩:=qd6 (Dx.newRow m z9)
 have hb1:kf (.agg ⟨z9⟩) m=some (.pointer (some ⟨m.n,0,none⟩),m0):=by rw[hm0];rfl
 have hb1:kf (.agg ⟨[zS,zS,zS,zS,zS,zS,zI,zI,zI]⟩) m=some (.pointer (some ⟨m.n,0,none⟩),m0):=hb1
 rw[<-hm0]at st
 obtain⟨m1,hm1⟩:=qd6 (Dx.newRow m0 zM)
 have hb2:kf (.agg ⟨zM⟩) m0=some (.pointer (some ⟨m0.n,0,none⟩),m1):=by rw[hm1];rfl
 rw[<-hm1]at st
 have la:∀{mq:M},St m mq [(m0.n,zM),(m.n,z9)]->∀o,load1 mq ⟨m.n,o,none⟩=z9[o]?:=fun st o=>(st.get 1 rfl).2.2.load1 o none
 have lb:∀{mq:M},St m mq [(m0.n,zM),(m.n,z9)]->∀o,load1 mq ⟨m0.n,o,none⟩=zM[o]?:=fun st o=>(st.get 0 rfl).2.2.load1 o none
 have a0:load1 m1 ⟨m.n,0,none⟩=some zS:=la st 0
 have a5:load1 m1 ⟨m.n,5,none⟩=some zS:=la st 5
 have a6:load1 m1 ⟨m.n,6,none⟩=some zI:=la st 6
 have a7:load1 m1 ⟨m.n,7,none⟩=some zI:=la st 7
 have a8:load1 m1 ⟨m.n,8,none⟩=some zI:=la st 8
 have b78:load1 m1 ⟨m0.n,78,none⟩=some zS:=lb st 78
 have b83:load1 m1 ⟨m0.n,83,none⟩=some zS:=lb st 83
 have b84:load1 m1 ⟨m0.n,84,none⟩=some zI:=lb st 84
 have a1:load1 m1 ⟨m.n,1,none⟩=some zS:=la st 1
 have b79:load1 m1 ⟨m0.n,79,none⟩=some zS:=lb st 79
 obtain⟨u1,n1,f1,g1,rfl⟩:=dy n m1
 have S1:=st.step g1
 obtain⟨u2,n2,f2,g2,rfl⟩:=dy n n1
 have S2:=S1.step g2
 obtain⟨u3,n3,f3,g3,rfl⟩:=dy n n2
 have S3:=S2.step g3
 obtain⟨u4,n4,f4,g4,rfl⟩:=dy n n3
 have S4:=S3.step g4
 have c2:load1 n1 ⟨m.n,2,none⟩=some zS:=la S1 2
 have d80:load1 n1 ⟨m0.n,80,none⟩=some zS:=lb S1 80
 have c3:load1 n2 ⟨m.n,3,none⟩=some zS:=la S2 3
 have d81:load1 n2 ⟨m0.n,81,none⟩=some zS:=lb S2 81
 have c4:load1 n3 ⟨m.n,4,none⟩=some zS:=la S3 4
 have d82:load1 n3 ⟨m0.n,82,none⟩=some zS:=lb S3 82
 have f1:(ex Tryz.prog (n+2)).f 56 [zS,zS] m1=some (.bool true,n1):=f1
 have f2:(ex Tryz.prog (n+2)).f 56 [zS,zS] n1=some (.bool true,n2):=f2
 have f3:(ex Tryz.prog (n+2)).f 56 [zS,zS] n2=some (.bool true,n3):=f3
 have f4:(ex Tryz.prog (n+2)).f 56 [zS,zS] n3=some (.bool true,n4):=f4
 simp[hb1,hb2,a0,a5,a6,a7,a8,b78,b83,b84,ln0]
 refine qE (c:=FB) rfl (Ret m _) (fun i t m'=>Tm.get 4 t=.pointer (some ⟨m.n,0,none⟩)/\Tm.get 5 t=.pointer (some ⟨m0.n,0,none⟩)/\Tm.get 9 t=iv 0/\m'=m1) 0 (by omega) ⟨by simp,by simp,by simp,rfl⟩ (fun i t m' k hi hI hk=>?_)
 obtain⟨t4,t5,t9,rfl⟩:=hI
 simp[t4,t5,t9,a0,ln0]
 refine qE (c:=FC) rfl (Ret m _) (fun i t mm=>Tm.get 4 t=.pointer (some ⟨m.n,0,none⟩)/\Tm.get 5 t=.pointer (some ⟨m0.n,0,none⟩)/\Tm.get 11 t=iv 0/\mm=m') 0 (by omega) ⟨by simp[t4],by simp[t5],by simp,rfl⟩ (fun i t mm k hi hI hk=>?_)
 obtain⟨t4,t5,t11,rfl⟩:=hI
 simp[t4,t5,t11,a5,ln0,a1,b79,f1,c2,d80,f2,c3,d81,f3,c4,d82,f4]
 exact qL S4.ext (by simp)
theorem qa2 (n:Nat) {m:M} (hm:m.base<=m.n):CallV (ex Tryz.prog (n+4)) 17 [.agg ⟨z9⟩] m (.bool true):=by
 refine qk da8_ok (by simp) ?_
 have st:=(St.nil hm (Ext.refl m)).row z9
 obtain⟨m0,hm0⟩:=qd6 (Dx.newRow m z9)
 have hb1:kf (.agg ⟨z9⟩) m=some (.pointer (some ⟨m.n,0,none⟩),m0):=by rw[hm0];rfl
 have hb1:kf (.agg ⟨[zS,zS,zS,zS,zS,zS,zI,zI,zI]⟩) m=some (.pointer (some ⟨m.n,0,none⟩),m0):=hb1
 rw[<-hm0]at st
 have l9:loads m0 ⟨m.n,0,none⟩ 9=some z9:=(st.get 0 rfl).2.2.loads (o:=0) (n:=9) (by simp)
 have bu:ww [zS,zI,zU,zS,zU,zS,zU,zS,zU,zS,zU,zS,zU,zS,zU,zS,zU,zS,zU,zS,zU,zS,zU,zS,zU,zS,zU,zS,zU,zS,zU,zS,zU,zS,zU,zS,zU,zS,zU,zS,zU,zS,zU,zS,zU,zS,zU,zS,zU,zS,zU,zS,zU,zS,zU,zS,zU,zS,zU,zS,zU,zS,zU,zS,zU,zS,.bool false,.bool false,.bool false,.bool false,zS,zS,.bool false,zI,zI,zI,zI,zI,zS,zS,zS,zS,zS,zS,zI,.bool false,zI,zI,zI,zU,.bool false,.bool false,zS,zS,zI] []=some (.agg ⟨zM⟩):=rfl
 obtain⟨u,m1,a1,a2,rfl⟩:=told_0 n st.sees.base
 have a1:(ex Tryz.prog (n+3)).f 32 [.agg ⟨z9⟩,.agg ⟨zM⟩,zI,zI] m0=some (.bool true,m1):=a1
 simp[hb1,qc,l9,bu,a1]
 exact qL (st.ext.trans a2) (by simp)
end Go.Sx
namespace Go.Sx
open Go.Dx Go.Proofs
set_option maxRecDepth 10000
structure Pre (A B:PM):Prop where
 ev:A.ev <+: B.ev
 outs:A.outs <+: B.outs
 us:A.sc.us<=B.sc.us
theorem Pre.refl (A:PM):Pre A A:=⟨List.prefix_rfl,List.prefix_rfl,Int.le_refl _⟩
theorem Pre.trans {A B C:PM} (h:Pre A B) (k:Pre B C):Pre A C:=⟨h.ev.trans k.ev,h.outs.trans k.outs,Int.le_trans h.us k.us⟩
theorem Pre.of {A B:PM} (h1:B.ev=A.ev) (h2:B.outs=A.outs) (h3:B.sc.us=A.sc.us):Pre A B:=⟨by rw[h1];exact List.prefix_rfl,by rw[h2];exact List.prefix_rfl,by rw[h3];exact Int.le_refl _⟩
structure Eqv (A B:PM):Prop where
 ev:B.ev=A.ev
 outs:B.outs=A.outs
 us:B.sc.us=A.sc.us
theorem Eqv.pre {A B:PM} (h:Eqv A B):Pre A B:=.of h.ev h.outs h.us
theorem Eqv.trans {A B C:PM} (h:Eqv A B) (k:Eqv B C):Eqv A C:=⟨k.ev.trans h.ev,k.outs.trans h.outs,k.us.trans h.us⟩
end Go.Sx
namespace Go.Sx
open Go.Dx Go.Proofs
set_option maxRecDepth 10000
theorem Zl {S:PM} {w:Wnt} (h:look S=some w) (hw:w.what=2->w.one=true->S.half≠none) (v:Nat):(wP S v).1.sc.limit=S.sc.limit:=by
 unfold wP
 rw[yA h]
 unfold ya
 simp only
 split
 ·rfl
 ·cases fetch S with
  | none=>rfl
  | some i=>exact (dY S i w v hw).1
end Go.Sx
namespace Go.Sx
open Go.Dx Go.Proofs
set_option maxRecDepth 10000
theorem Qz (I:PM->Prop) (hstep:∀S,WF S->I S->I (wy S).1)
  (hfeed:∀S w v,WF S->I S->look S=some w->w.what<5->v<W64->(w.what=2->w.ex=true->v<=1)->(¬(w.what=2/\w.one=true)->kH S.sc=false)->I (wP S v).1) :
  ∀(k:Nat) (S:PM) (rs:List Nat) (ws:List Bool),WF S->I S->(∀v∈rs,v<W64)->∃T,WF T/\I T/\(ky k S rs ws=T\/ky k S rs ws=xe T\/ky k S rs ws=xf T)
 | 0,S,rs,ws,h,hi,hv=>⟨S,h,hi,.inl rfl⟩
 | k+1,S,rs,ws,h,hi,hv=>by
  obtain⟨hl,hw,hs⟩:=zw h
  have hi1:=hstep S h hi
  show ∃T,WF T/\I T/\(jR (ky k) (wy S).1 (wy S).2 rs ws=T\/jR (ky k) (wy S).1 (wy S).2 rs ws=xe T\/jR (ky k) (wy S).1 (wy S).2 rs ws=xf T)
  obtain⟨S1,hS1⟩:=qd6 ((wy S).1)
  obtain⟨w,hwd⟩:=qd6 ((wy S).2)
  have hWO:=xR hw hl
  rw[<-hS1,<-hwd]at hl hWO ⊢
  rw[<-hS1]at hw hs hi1
  have wh:=hWO.what
  have on:∀(v:Nat) (rs':List Nat) (ws':List Bool),v<W64->(∀x∈rs',x<W64)->w.what<5->(w.what=2->w.ex=true->v<=1)->(¬(w.what=2/\w.one=true)->kH S1.sc=false) ->
    ∃T,WF T/\I T/\(ky k (wP S1 v).1 rs' ws'=T\/ky k (wP S1 v).1 rs' ws'=xe T\/ky k (wP S1 v).1 rs' ws'=xf T):=fun v rs' ws' h1 h2 h3 h4 h5 =>
   Qz I hstep hfeed k (wP S1 v).1 rs' ws' (Qa hw h1) (hfeed S1 w v hw hi1 hl h3 h1 h4 h5) h2
  unfold jR
  by_cases c1:w.what=2/\w.one=true
  ·rw[if_pos c1];exact on 0 rs ws (by decide) hv (by omega) (fun _ _=>by omega) (fun h=>absurd c1 h)
  rw[if_neg c1]
  by_cases c2:w.what=7\/w.what=6
  ·rw[if_pos c2];exact⟨S1,hw,hi1,.inr (.inl rfl)⟩
  rw[if_neg c2]
  by_cases c3:kH S1.sc=true
  ·rw[if_pos c3];exact⟨S1,hw,hi1,.inr (.inr rfl)⟩
  have c3':kH S1.sc=false:=by simpa using c3
  rw[if_neg c3]
  by_cases c4:w.what=5
  ·rw[if_pos c4];exact⟨S1,hw,hi1,.inr (.inl rfl)⟩
  rw[if_neg c4]
  by_cases c5:w.what=1
  ·rw[if_pos c5]
   cases rs with
   | nil=>exact⟨S1,hw,hi1,.inr (.inl rfl)⟩
   | cons v rs'=>exact on v rs' ws (hv v (by simp)) (fun x hx=>hv x (by simp[hx])) (by omega) (fun h=>by omega) (fun _=>c3')
  rw[if_neg c5]
  by_cases c6:w.what=2/\w.ex=true
  ·rw[if_pos c6]
   cases ws with
   | nil=>exact⟨S1,hw,hi1,.inr (.inl rfl)⟩
   | cons b ws'=>exact on _ rs ws' (by cases b<;>decide) hv (by omega) (fun _ _=>by cases b<;>simp) (fun _=>c3')
  ·rw[if_neg c6];exact on 0 rs ws (by decide) hv (by omega) (fun _ _=>by omega) (fun _=>c3')
def DnI (L:Int) (S:PM):Prop:=DnB S/\S.sc.limit=L/\mu S+S.outs.length<=2*L
theorem DnI.step {L:Int} {S:PM} (h:WF S) (k:DnI L S):DnI L (wy S).1:=by
 obtain⟨a,b⟩:=gx 100001 S k.1
 have hs:=(zw h).2.2
 have b:mu (wy S).1<=mu S:=b
 have c:=k.2.2
 exact⟨a,by rw[hs.limit];exact k.2.1,by rw[hs.outs];omega⟩
theorem DnI.feed {L:Int} (hL:0<=L) {S:PM} {w:Wnt} {v:Nat} (h:WF S) (k:DnI L S) (hl:look S=some w) (h5:w.what<5) (hv:w.what=2->w.ex=true->v<=1) (hs:¬(w.what=2/\w.one=true)->kH S.sc=false):DnI L (wP S v).1:=by
 obtain⟨a,b⟩:=WX h hl k.1 h5 hv hs (by rw[k.2.1];exact hL)
 have hWO:=xR h hl
 have c:=dZ h v
 have d:=k.2.2
 refine⟨a,?_,by omega⟩
 rw[Zl hl (fun h1 h2 e=>by obtain⟨x,hx⟩:=hWO.one2 h1 h2;rw[hx]at e;cases e)]
 exact k.2.1
theorem DC (l:List (Nat × Nat)):(vW l).length=l.length:=(jX toP l).1.length_eq
theorem DJ {S:PM} (h1:S.ev.length<=256) (h2:S.rmw.length<=100000) (h3:S.addr.length<=100000) (h4:S.data.length<=100000) (h5:S.ctrl.length<=100000) (h6:S.outs.length*8<=wB):Szp S :=
 ⟨fun F hF=>by
  rcases six hF with rfl | rfl | rfl | rfl | rfl | rfl
  ·show (rowsOf S 0).length*40<=_;rw[jK];unfold wB;omega
  ·show (rowsOf S 1).length*16<=_;rw[yG];unfold wB;omega
  ·show (rowsOf S 2).length*16<=_;rw[bw];unfold wB;omega
  ·show (rowsOf S 3).length*16<=_;rw[bx];unfold wB;omega
  ·show (rowsOf S 4).length*16<=_;rw[bz];unfold wB;omega
  ·show (rowsOf S 5).length*8<=_;rw[yH];exact h6,by omega,by omega,by omega,by omega⟩
theorem szp_wf {S:PM} (h:WF S) (ho:S.outs.length*8<=wB):Szp S:=DJ h.ev h.rm.rmw h.rm.addr h.rm.data h.rm.ctrl ho
theorem YV (i:Nat) (S:PM):(xj i S).rmw.length=S.rmw.length/\(xj i S).addr.length=S.addr.length/\(xj i S).data.length=S.data.length/\(xj i S).ctrl.length=S.ctrl.length:=by
 unfold xj
 simp only
 refine⟨?_,?_,?_,?_⟩<;>(split<;>simp[DC])
theorem QF {S:PM} (h:WF S) (ho:S.outs.length*8<=wB):Szp (xO S):=by
 obtain⟨a,b,c,d⟩:=YV 4 S
 exact DJ h.ev (by show (xj 4 S).rmw.length<=_;rw[a];exact h.rm.rmw) (by show (xj 4 S).addr.length<=_;rw[b];exact h.rm.addr) (by show (xj 4 S).data.length<=_;rw[c];exact h.rm.data) (by show (xj 4 S).ctrl.length<=_;rw[d];exact h.rm.ctrl) ho
theorem Szp.of {A B:PM} (h:Szp A) (k:∀F,F<6->rowsOf B F=rowsOf A F) (h1:B.rmw=A.rmw) (h2:B.addr=A.addr) (h3:B.data=A.data) (h4:B.ctrl=A.ctrl):Szp B :=
 ⟨fun F hF=>by rw[k F hF];exact h.sz F hF,by rw[h1];exact h.rmw,by rw[h2];exact h.addr,by rw[h3];exact h.data,by rw[h4];exact h.ctrl⟩
theorem qbt {S:PM} (h:WF S) (ho:S.outs.length*8<=wB):Szp (xe S):=(QF h ho).of (fun F hF=>gJ rfl rfl rfl rfl rfl rfl F hF) rfl rfl rfl rfl
theorem YW {S:PM} (h:WF S) (ho:S.outs.length*8<=wB):Szp (xf S):=(QF h ho).of (fun F hF=>gJ rfl rfl rfl rfl rfl rfl F hF) rfl rfl rfl rfl
theorem XP {ws:List Nat} {fuel:Int} (hf:0<=fuel/\fuel<=100000):DnI fuel (QL ws fuel):=by
 refine⟨⟨by show (0:Int)<=0/\(0:Int)<=fuel;omega,hf.2⟩,rfl,?_⟩
 show 2*(fuel - 0)+(if (none:Option Hf)=none then 0 else 1)+(([]:List Nat).length:Int)<=_
 simp
theorem Xm {ws:List Nat} (he:xD ws=0) (rs:List Nat) (wins:List Bool) {fuel:Int} (hf:0<=fuel/\fuel<=100000) (hv:∀v∈rs,v<W64) :
  ∃T,WF T/\T.outs.length<=200000/\(zx ws rs wins fuel=T\/zx ws rs wins fuel=xe T\/zx ws rs wins fuel=xf T):=by
 obtain⟨T,h1,h2,h3⟩:=Qz (DnI fuel) (fun S h k=>k.step h) (fun S w v h k hl h5 _ hv1 hs=>k.feed hf.1 h hl h5 hv1 hs) 200001 (QL ws fuel) rs wins (Kj he fuel) (XP hf) hv
 refine⟨T,h1,?_,h3⟩
 obtain⟨a,b,c⟩:=h2
 have:=a.dn
 unfold mu at c
 split at c<;>omega
theorem Xn {ws:List Nat} (he:xD ws=0) (rs:List Nat) (wins:List Bool) {fuel:Int} (hf:0<=fuel/\fuel<=100000) (hv:∀v∈rs,v<W64):Szp (zx ws rs wins fuel):=by
 obtain⟨T,h1,h2,h3⟩:=Xm he rs wins hf hv
 have ho:T.outs.length*8<=wB:=by unfold wB;omega
 rcases h3 with e | e | e
 ·rw[e];exact szp_wf h1 ho
 ·rw[e];exact qbt h1 ho
 ·rw[e];exact YW h1 ho
end Go.Sx
namespace Go.Dx
open Go.RowKit
noncomputable section
def gv (ins:List (List Value)):M:=M.rec (fun h nx _ _=>⟨h,nx,ins.length,[]⟩) (jk ins M.empty)
def Xx (σ:List Nat) (n:Nat) (i:Nat):Nat:=bif Nat.blt i σ.length then σ.getD i 0 else n+(i - σ.length)
def Xs (k:Nat) (rows:List (Nat × List Value)) (i:Nat):Nat:=bif Nat.blt i k then i else sig rows (i - k)
def xX (σ:List Nat) (rows:List (Nat × List Value)) (m:M):M:=jk (rows.map fun p=>p.2.map (ren (Xx σ m.n))) m
def XF (k:Nat):List Nat->Bool
 | []=>true
 | a :: l=>Nat.ble k a && XF k l
def chkM (ins:List (List Value)) (rows:List (Nat × List Value)) (v0:Value) (o:Option (Value × M)):Bool:=match o with
 | some (v,m1)=>m1.log.isEmpty && XF ins.length (rows.map (·.1)) && eq2 (Xs ins.length rows) (ins.length+rows.length) v0 v && bA (Xs ins.length rows) (ins.length+rows.length) m1 rows && bj (rows.map (·.1))
 | none=>false
def okM (pargs:List Value) (ins:List (List Value)) (σ:List Nat) (args:List Value) (m:M):Bool :=
 Nat.beq σ.length ins.length && eqL1 (fun i=>σ.getD i 0) ins.length pargs args && bA (fun i=>σ.getD i 0) ins.length m (σ.zip ins) && bj σ
theorem fC (ins:List (List Value)):(gv ins).n=ins.length:=by
 have h:(gv ins).n=(jk ins M.empty).n:=by unfold gv;cases jk ins M.empty;rfl
 rw[h,gi];show 0+ins.length=_;omega
theorem Qn (ins:List (List Value)) (X:Nat):(gv ins).obj X=(ins[X]?).map (fun r=>.cells (mkn .lf 0 r)):=by
 have h:(gv ins).obj X=(jk ins M.empty).obj X:=by unfold gv;cases jk ins M.empty;rfl
 rw[h,jG]
 show (if 0<=X/\X<0+ins.length then (ins[X - 0]?).map (fun r=>DObj.cells (mkn .lf 0 r)) else _)=_
 by_cases hX:X<ins.length
 ·rw[if_pos (by omega)];rfl
 ·rw[if_neg (by omega),qd4 (by omega)];exact A3.get_lf none X
theorem Yr (ins:List (List Value)):(gv ins).base=ins.length:=by unfold gv;cases jk ins M.empty;rfl
theorem QQ {k:Nat}:∀{l:List Nat},XF k l=true->∀(i a:Nat),l[i]?=some a->k<=a
 | [],_,i,a,h=>by simp at h
 | b :: l,h,i,a,hi=>by
  change (Nat.ble k b && XF k l)=true at h
  rw[qcp]at h
  cases i with
  | zero=>simp at hi;subst hi;exact qcs h.1
  | succ i=>exact QQ h.2 i a (by simpa using hi)
theorem Xl (x:Value):ren (fun i=>i) x=x:=by
 unfold ren
 split<;>rfl
theorem qb7 (x:Value):Ky (fun i=>i) x=x:=by
 unfold Ky
 split
 ·rename_i cs
  have:cs.toList.map (ren fun i=>i)=cs.toList:=by
   rw[List.map_congr_left (g:=fun x=>x) fun x _=>Xl x];simp
  rw[this]
 ·exact Xl _
theorem blt_t {i k:Nat} (h:i<k):Nat.blt i k=true:=qcr h
theorem blt_f {i k:Nat} (h:¬i<k):Nat.blt i k=false:=by
 cases q:Nat.blt i k with
 | false=>rfl
 | true=>exact absurd (qcs q) h
theorem ZY {φ φ':Phi} {σ τ:Nat->Nat} {r:Nat} (hφ:∀i l,i<r->φ (σ i)=some l->φ' (τ i)=some l) {w:World} {c:C} {row:List Value} (hok:gI σ r c 0 row=true) {l:Loc} (h:ObjRel φ w (.cells c) l) :
  ObjRel φ' w (.cells (mkn .lf 0 (row.map (ren τ)))) l:=by
 obtain⟨cs,e,fz,k1,k2,k3,k4⟩:=h
 have hsub:∀j x,A.get none j (mkn .lf 0 (row.map (ren τ)))=some x->∃y,A.get none j c=some y:=fun j x hx=>by
  rw[jg,A.get_lf]at hx
  split at hx
  ·simp only[Nat.sub_zero,qcz]at hx
   cases hg:row[j]? with
   | none=>rw[hg]at hx;cases hx
   | some y =>
    obtain⟨z,e1,_⟩:=zT hok j y hg
    rw[Nat.zero_add]at e1
    exact⟨z,e1⟩
  ·cases hx
 have hfc:FzC l.d cs.size fz (mkn .lf 0 (row.map (ren τ))):=⟨fun ha hd=>k3.1 (by
   cases hrw:row with
   | nil=>rw[hrw]at ha;cases ha
   | cons y ys =>
    obtain⟨z,e1,_⟩:=zT hok 0 y (by rw[hrw];rfl)
    exact gQ e1) hd,fun j x hx=>let ⟨y,hy⟩:=hsub j x hx;k3.2 j y hy⟩
 refine⟨cs,e,fz,k1,k2,hfc,fun j x hx=>?_⟩
 rw[jg,A.get_lf]at hx
 split at hx
 ·rename_i hj
  simp only[Nat.sub_zero,qcz]at hx
  cases hg:row[j]? with
  | none=>rw[hg]at hx;cases hx
  | some y =>
   rw[hg]at hx
   cases hx
   obtain⟨z,e1,e2,e3⟩:=zT hok j y hg
   rw[Nat.zero_add]at e1
   obtain⟨q1,v'',q2,q3⟩:=k4 j z e1
   refine⟨q1,v'',q2,?_⟩
   rw[<-e3]at q3
   exact gF hφ e2 q3
 ·cases hx
theorem ZX {σ:Nat->Nat} {r:Nat} {row:List Value} (hok:gI σ r .lf 0 row=true):row=[]:=by
 cases row with
 | nil=>rfl
 | cons x l =>
  obtain⟨y,hy,_⟩:=zT hok 0 x rfl
  rw[A.get_lf]at hy;cases hy
theorem Yg {P:Program} {x:Ex} (hx:jC P x) {g:Nat} {pargs args:List Value} {v0:Value} {ins:List (List Value)} {rows:List (Nat × List Value)} (h:chkM ins rows v0 (x.f g pargs (gv ins))=true) {σ:List Nat} {m:M} (hm:okM pargs ins σ args m=true) :
  DStep m (xX σ rows m)/\Enters P g/\XC P g args m (Xk (Xx σ m.n) v0) (xX σ rows m):=by
 unfold chkM at h
 split at h
 ·rename_i v m1 hrun
  simp only[qcp]at h
  obtain⟨⟨⟨⟨hlog,hge⟩,hv⟩,hrows⟩,hnd⟩:=h
  unfold okM at hm
  simp only[qcp]at hm
  obtain⟨⟨⟨hkl,hma⟩,hmr⟩,hms⟩:=hm
  have hk:σ.length=ins.length:=qcw hkl
  have hlog:m1.log=[]:=by simpa using hlog
  obtain⟨hd1,hent,hJ⟩:=hx.f _ _ _ _ _ hrun
  have hlen:(rows.map fun p=>p.2.map (ren (Xx σ m.n))).length=rows.length:=by simp
  obtain⟨s,hs⟩:∃s:Nat->Nat,s=fun i=>σ.getD i 0:=⟨_,rfl⟩
  obtain⟨τ,hτ⟩:=qd6 (Xx σ m.n)
  rw[<-hs]at hma hmr
  have hτ1:∀i,i<ins.length->τ i=s i:=fun i hi=>by rw[hτ,hs];unfold Xx;rw[blt_t (by omega)];rfl
  have hτ2:∀i,τ (ins.length+i)=m.n+i:=fun i=>by rw[hτ];unfold Xx;rw[blt_f (by omega),hk];show m.n+(ins.length+i - ins.length)=_;omega
  have hs1:∀i,i<ins.length->Xs ins.length rows i=i:=fun i hi=>by unfold Xs;rw[blt_t hi];rfl
  have hs2:∀i,Xs ins.length rows (ins.length+i)=sig rows i:=fun i=>by unfold Xs;rw[blt_f (by omega)];show sig rows (ins.length+i - ins.length)=_;congr 1;omega
  have hin:∀i (hi:i<ins.length),∃c,m.obj (s i)=some (.cells c)/\gI s ins.length c 0 ins[i]=true:=fun i hi=>by
   have hz:(σ.zip ins)[i]?=some (s i,ins[i]):=by
    rw[List.getElem?_zip_eq_some]
    refine⟨?_,qcj hi⟩
    rw[hs];simp[show i<σ.length by omega]
   exact zQ hmr i _ hz
  have hinj:∀i j,i<ins.length->j<ins.length->s i=s j->i=j:=fun i j hi hj e =>
   vI hms i j (s i) (by rw[hs];simp[show i<σ.length by omega]) (by rw[e,hs];simp[show j<σ.length by omega])
  show DStep m (jk _ m)/\_
  rw[<-hτ]
  refine⟨(zg _ m).1,hent,fun φ w args' hR hargs' hF=>?_⟩
  have hgn:(xX σ rows m).n=m.n+rows.length:=by unfold xX;rw[gi,hlen]
  rw[hgn]at hF
  have hlt:∀i,i<ins.length->s i<m.n:=fun i hi=>by
   obtain⟨c,hc,_⟩:=hin i hi
   exact Classical.byContradiction fun h=>by rw[hR.wf (s i) (by omega)]at hc;cases hc
  obtain⟨φL,hφL⟩:∃φL:Phi,φL=fun B=>if B<ins.length then φ (s B) else none:=⟨_,rfl⟩
  have hL1:∀i,i<ins.length->φL i=φ (s i):=fun i hi=>by rw[hφL];simp only[if_pos hi]
  have hL2:∀i,¬i<ins.length->φL i=none:=fun i hi=>by rw[hφL];simp only[if_neg hi]
  have hturnL:∀i l,i<ins.length->φ (s i)=some l->φL i=some l:=fun i l hi h=>by rw[hL1 i hi];exact h
  have hRL:R φL (gv ins) w:=by
   refine⟨fun B hB=>?_,fun B l hB hl=>?_,fun B₁ B₂ l₁ l₂ h1 h2 hl1 hl2 hb hne=>?_⟩
   ·rw[fC]at hB
    rw[Qn,qd4 (by omega)];rfl
   ·rw[fC]at hB
    rw[hL1 B hB]at hl
    obtain⟨c,hc,hok⟩:=hin B hB
    obtain⟨o,ho1,ho2⟩:=hR.obj _ l (hlt B hB) hl
    rw[hc]at ho1;cases ho1
    refine⟨_,by rw[Qn,qcj hB];rfl,?_⟩
    have:=ZY (φ':=φL) (τ:=fun i=>i) hturnL hok ho2
    rwa [List.map_congr_left (g:=fun x=>x) fun x _=>Xl x,List.map_id']at this
   ·rw[fC]at h1 h2
    rw[hL1 _ h1]at hl1
    rw[hL1 _ h2]at hl2
    have key:∀B,B<ins.length->dead m (s B)->dead (gv ins) B:=fun B hB hd=>by
     obtain⟨c,hc,hok⟩:=hin B hB
     unfold dead at hd ⊢
     rw[hc]at hd
     cases hd
     rw[Qn,qcj hB,ZX hok];rfl
    exact (hR.inj _ _ _ _ (hlt _ h1) (hlt _ h2) hl1 hl2 hb fun e=>hne (hinj _ _ h1 h2 e)).imp (key _ h1) (key _ h2)
  have hargsL:VRels φL pargs args'.toList:=by
   have:=gZ (φ':=φL) (τ:=fun i=>i) hturnL hma hargs'
   rwa [List.map_congr_left (g:=fun x=>x) fun x _=>qb7 x,List.map_id']at this
  refine (hJ φL w args' hRL hargsL (fun B hB _=>hL2 B (by rw[fC]at hB;omega))).mono ?_
  rintro e w' ⟨φ1,v',rfl,hR1,hst,hr1⟩
  have hnoT:∀B,¬Tou (gv ins) m1 B:=fun B ht=>by
   obtain⟨t1,t2,_⟩:=ht
   rw[fC]at t1
   rcases t2 with t2 | t2
   ·rw[hd1.base,Yr]at t2;omega
   ·rw[hlog]at t2;cases t2
  have hheap:∀b,b<w.heap.size->w'.heap[b]?=w.heap[b]?:=fun b hb=>hst.frame b hb fun B _ _ _=>hnoT B
  obtain⟨φ',hφ'⟩:∃φ':Phi,φ'=fun B=>if m.n<=B/\B<m.n+rows.length then φ1 (sig rows (B - m.n)) else φ B:=⟨_,rfl⟩
  have hold:∀B,¬(m.n<=B/\B<m.n+rows.length)->φ' B=φ B:=fun B hB=>by rw[hφ'];simp only[if_neg hB]
  have hnew:∀i,i<rows.length->φ' (m.n+i)=φ1 (sig rows i):=fun i hi=>by rw[hφ'];simp only[if_pos (show m.n<=m.n+i/\m.n+i<m.n+rows.length by omega)];rw[show m.n+i - m.n=i by omega]
  have hle:PLe φ φ':=fun B l hl=>by
   by_cases hB:m.n<=B/\B<m.n+rows.length
   ·rw[hF B hB.1 hB.2]at hl;cases hl
   ·rw[hold B hB];exact hl
  have hturn:∀i l,i<ins.length+rows.length->φ1 (Xs ins.length rows i)=some l->φ' (τ i)=some l:=fun i l hi hl=>by
   by_cases hik:i<ins.length
   ·rw[hs1 i hik,hst.ext i (.inl (by rw[fC];exact hik)),hL1 i hik]at hl
    rw[hτ1 i hik,hold _ (by have:=hlt i hik;omega)];exact hl
   ·obtain⟨j,rfl⟩:∃j,i=ins.length+j:=⟨i - ins.length,by omega⟩
    rw[hs2]at hl
    rw[hτ2,hnew j (by omega)];exact hl
  have hsig:∀i (hi:i<rows.length),sig rows i=rows[i].1:=fun i hi=>by unfold sig;simp[hi]
  have hge':∀i,i<rows.length->ins.length<=sig rows i:=fun i hi=>by
   rw[hsig i hi];exact QQ hge i _ (by simp[hi])
  have hlt1:∀i,i<rows.length->sig rows i<m1.n:=fun i hi=>by
   obtain⟨c,hc,_⟩:=zQ hrows i rows[i] (by simp[hi])
   rw[hsig i hi];exact hR1.lt hc
  have hfresh:∀i l,i<rows.length->φ1 (sig rows i)=some l->w.heap.size<=l.b:=fun i l hi hl=>by
   rcases hst.fresh (sig rows i) l (by rw[fC];exact hge' i hi) (hlt1 i hi) hl with h | ⟨B0,l0,ht,h,_⟩
   ·exact h
   ·exact absurd ht (hnoT B0)
  have hobj:∀B,B<m.n->(xX σ rows m).obj B=m.obj B:=fun B hB=>by unfold xX;rw[jG,if_neg (by omega)]
  have hobjN:∀i (hi:i<rows.length),(xX σ rows m).obj (m.n+i)=some (.cells (mkn .lf 0 (rows[i].2.map (ren τ)))):=fun i hi=>by
   unfold xX
   rw[jG,if_pos (by simp;omega),show m.n+i - m.n=i by omega,hτ]
   simp[hi]
  have hrow:∀i (hi:i<rows.length) l,φ1 (sig rows i)=some l->ObjRel φ' w' (.cells (mkn .lf 0 (rows[i].2.map (ren τ)))) l:=fun i hi l hl=>by
   obtain⟨c,hc,hok⟩:=zQ hrows i rows[i] (by simp[hi])
   obtain⟨ob,ho1,ho2⟩:=hR1.obj (sig rows i) l (hlt1 i hi) hl
   rw[hsig i hi,hc]at ho1
   cases ho1
   exact ZY hturn hok ho2
  refine⟨φ',v',rfl,⟨fun B hB=>?_,fun B l hB hl=>?_,fun B₁ B₂ l₁ l₂ h1 h2 hl1 hl2 hb hne=>?_⟩,⟨(zg _ m).1,hle,fun B hB=>?_,fun B l h1 h2 hl=>?_,fun B _ h1 h2=>absurd ((zg _ m).2 B h1) h2,hst.os,hst.tape,hst.output,hst.size,fun b hb _=>hheap b hb⟩,Zg hturn hv hr1⟩
  ·exact (zg _ m).1.wf hR.wf B hB
  ·rw[hgn]at hB
   by_cases hlt:B<m.n
   ·rw[hold B (by omega)]at hl
    obtain⟨o,h1,h2⟩:=hR.obj B l hlt hl
    exact⟨o,by rw[hobj B hlt];exact h1,(h2.mono hle).world (hheap l.b h2.lt)⟩
   ·obtain⟨i,rfl⟩:∃i,B=m.n+i:=⟨B - m.n,by omega⟩
    have hi:i<rows.length:=by omega
    rw[hnew i hi]at hl
    exact⟨_,hobjN i hi,hrow i hi l hl⟩
  ·rw[hgn]at h1 h2
   have lt:∀B l,B<m.n->φ B=some l->l.b<w.heap.size:=fun B l hB hl=>by
    obtain⟨o,_,ho⟩:=hR.obj B l hB hl
    exact ho.lt
   by_cases e1:B₁<m.n
   ·rw[hold B₁ (by omega)]at hl1
    have:=lt B₁ l₁ e1 hl1
    by_cases e2:B₂<m.n
    ·rw[hold B₂ (by omega)]at hl2
     exact (hR.inj B₁ B₂ l₁ l₂ e1 e2 hl1 hl2 hb hne).imp (fun e=>by unfold dead;rw[hobj B₁ e1];exact e) (fun e=>by unfold dead;rw[hobj B₂ e2];exact e)
    ·obtain⟨i,rfl⟩:∃i,B₂=m.n+i:=⟨B₂ - m.n,by omega⟩
     rw[hnew i (by omega)]at hl2
     have:=hfresh i l₂ (by omega) hl2
     omega
   ·obtain⟨i,rfl⟩:∃i,B₁=m.n+i:=⟨B₁ - m.n,by omega⟩
    have hi:i<rows.length:=by omega
    rw[hnew i hi]at hl1
    by_cases e2:B₂<m.n
    ·rw[hold B₂ (by omega)]at hl2
     have:=lt B₂ l₂ e2 hl2
     have:=hfresh i l₁ hi hl1
     omega
    ·obtain⟨j,rfl⟩:∃j,B₂=m.n+j:=⟨B₂ - m.n,by omega⟩
     have hj:j<rows.length:=by omega
     rw[hnew j hj]at hl2
     have hij:sig rows i≠sig rows j:=fun e=>by
      rw[hsig i hi,hsig j hj]at e
      have:=vI hnd i j rows[i].1 (by simp[hi]) (by simp[hj,e])
      omega
     have emp:∀k (hk:k<rows.length),dead m1 (sig rows k)->dead (xX σ rows m) (m.n+k):=fun k hk hdk=>by
      obtain⟨c,hc,hok⟩:=zQ hrows k rows[k] (by simp[hk])
      unfold dead at hdk
      rw[hsig k hk,hc]at hdk
      cases hdk
      unfold dead
      rw[hobjN k hk,ZX hok];rfl
     exact (hR1.inj _ _ l₁ l₂ (hlt1 i hi) (hlt1 j hj) hl1 hl2 hb hij).imp (emp i hi) (emp j hj)
  ·rw[hgn]at hB
   exact hold B (by omega)
  ·rw[hgn]at h2
   obtain⟨i,rfl⟩:∃i,B=m.n+i:=⟨B - m.n,by omega⟩
   rw[hnew i (by omega)]at hl
   exact .inl (hfresh i l (by omega) hl)
 ·cases h
structure PreM where
 g:Nat
 args:List Value
 ins:List (List Value)
 v:Value
 rows:List (Nat × List Value)
def uV (σ:List Nat) (x y:Value):List Nat:=match x,y with
 | .pointer (some a),.pointer (some b)=>bif Nat.beq a.block σ.length then σ ++ [b.block] else σ
 | .slice (some a) _ _,.slice (some b) _ _=>bif Nat.beq a.block σ.length then σ ++ [b.block] else σ
 | _,_=>σ
def uL:List Nat->List Value->List Value->List Nat
 | σ,x :: l,y :: k=>uL (uV σ x y) l k
 | σ,_,_=>σ
def u1 (σ:List Nat) (x y:Value):List Nat:=match x,y with
 | .agg a,.agg b=>uL σ a.toList b.toList
 | _,_=>uV σ x y
def uA:List Nat->List Value->List Value->List Nat
 | σ,x :: l,y :: k=>uA (u1 σ x y) l k
 | σ,_,_=>σ
def uRow (c:C):Nat->List Nat->List Value->List Nat
 | j,σ,x :: l=>uRow c (j+1) (match A.get none j c with
  | some y=>uV σ x y
  | none=>σ) l
 | _,σ,[]=>σ
def uRows (m:M):Nat->List Nat->List (List Value)->List Nat
 | i,σ,r :: l=>uRows m (i+1) (match m.obj (σ.getD i 0) with
  | some (.cells c)=>uRow c 0 σ r
  | _=>σ) l
 | _,σ,[]=>σ
def sigM (p:PreM) (args:List Value) (m:M):List Nat:=uRows m 0 (uA [] p.args args) p.ins
def WY (p:PreM) (σ:List Nat) (args:List Value) (m:M) (r:Option (PreM × List Nat)):Option (PreM × List Nat):=bif okM p.args p.ins σ args m then some (p,σ) else r
def Qd (g:Nat) (args:List Value) (m:M) (l:List PreM):Option (PreM × List Nat):=List.rec none (fun p _ ih=>bif Nat.beq p.g g then WY p (sigM p args m) args m ih else ih) l
def Dn (P:Program) (l:List Pre) (k:List PreM) (x:Ex) (g:Nat) (args:List Value) (m:M):Option (Value × M) :=
 Option.rec (YH P l x g args m) (fun p=>some (Xk (Xx p.2 m.n) p.1.v,xX p.2 p.1.rows m)) (Qd g args m k)
def exgm (P:Program) (l:List Pre) (k:List PreM) (n:Nat):Ex:=Nat.rec .bot (fun _ x=>⟨Dn P l k x,Fb P x⟩) n
def PreMOK (P:Program) (p:PreM):Prop:=∃x,jC P x/\chkM p.ins p.rows p.v (x.f p.g p.args (gv p.ins))=true
theorem Qe {g:Nat} {args:List Value} {m:M}:∀{l:List PreM} {p:PreM} {σ:List Nat},Qd g args m l=some (p,σ)->p∈l/\p.g=g/\okM p.args p.ins σ args m=true
 | [],p,σ,h=>by cases h
 | q :: l,p,σ,h=>by
  change (bif Nat.beq q.g g then WY q (sigM q args m) args m (Qd g args m l) else Qd g args m l)=some (p,σ) at h
  have rest:Qd g args m l=some (p,σ)->p∈q :: l/\p.g=g/\okM p.args p.ins σ args m=true:=fun h=>by
   obtain⟨h1,h2⟩:=Qe h
   exact⟨by simp[h1],h2⟩
  cases hb:Nat.beq q.g g with
  | false=>rw[hb]at h;exact rest h
  | true =>
   rw[hb]at h
   change WY q (sigM q args m) args m (Qd g args m l)=some (p,σ) at h
   unfold WY at h
   cases ho:okM q.args q.ins (sigM q args m) args m with
   | true=>rw[ho]at h;cases h;exact⟨by simp,qcw hb,ho⟩
   | false=>rw[ho]at h;exact rest h
theorem WW {P:Program} (hP:P.follows .mixedOrders=true) {l:List Pre} {k:List PreM} (hl:∀p∈l,PreOK2 P p) (hk:∀p∈k,PreMOK P p):∀n,jC P (exgm P l k n)
 | 0=>⟨fun _ _ _ _ _ h=>(by cases h),fun _ _ _ _ _ h=>(by cases h)⟩
 | n+1=>by
  have ih:=WW hP hl hk n
  have hs:=Ex.step_ok ih hP
  refine⟨fun g args m v m' h=>?_,hs.y⟩
  change Dn P l k (exgm P l k n) g args m=some (v,m') at h
  unfold Dn at h
  cases hm:Qd g args m k with
  | some q =>
   obtain⟨p,σ⟩:=q
   rw[hm]at h
   cases h
   obtain⟨h1,rfl,h2⟩:=Qe hm
   obtain⟨x,hx,h3⟩:=hk p h1
   exact Yg hx h3 h2
  | none =>
   rw[hm]at h
   change YH P l (exgm P l k n) g args m=some (v,m') at h
   unfold YH at h
   cases hf:Zn g args l with
   | none=>rw[hf]at h;exact hs.f g args m v m' h
   | some p =>
    rw[hf]at h
    cases h
    obtain⟨h1,rfl,rfl⟩:=fq hf
    obtain⟨h2,x,hx,h3⟩:=hl p h1
    exact Zr hx h2 h3 m
theorem PreMOK.of {P:Program} (hP:P.follows .mixedOrders=true) {l:List Pre} {k:List PreM} (hl:∀p∈l,PreOK2 P p) (hk:∀p∈k,PreMOK P p) {n:Nat} {p:PreM} (h:chkM p.ins p.rows p.v ((exgm P l k n).f p.g p.args (gv p.ins))=true):PreMOK P p:=⟨_,WW hP hl hk n,h⟩
theorem PreOK2.of {P:Program} (hP:P.follows .mixedOrders=true) {l:List Pre} {k:List PreM} (hl:∀p∈l,PreOK2 P p) (hk:∀p∈k,PreMOK P p) {n:Nat} {p:Pre} (ha:p.args.all scalar=true) (h:chk p.rows p.v ((exgm P l k n).f p.g p.args M.empty)=true):PreOK2 P p:=⟨ha,_,WW hP hl hk n,h⟩
end
end Go.Dx
namespace Go.Sx
open Go.Dx Go.Proofs
set_option maxRecDepth 10000
def aw:Dx.Pre:=⟨8,[],.bool true,[]⟩
noncomputable def xA (N:Nat):Ex:=⟨fun g args m=>bif Nat.beq g 8 then (exg Tryz.prog [aw] 1).f g args m else (ex Tryz.prog N).f g args m,(ex Tryz.prog N).y⟩
theorem xA_f (N g:Nat) (args:List Value) (m:M) (h:g≠8):(xA N).f g args m=(ex Tryz.prog N).f g args m:=by
 show (bif Nat.beq g 8 then _ else _)=_
 rw[gR h];rfl
theorem xA_aw (N:Nat) (m:M):(xA N).f 8 [] m=some (.bool true,m):=rfl
theorem xA_ok (hP:Tryz.prog.follows .mixedOrders=true) (haw:PreOK2 Tryz.prog aw) (N:Nat):jC Tryz.prog (xA N):=by
 refine⟨fun g args m v m' h=>?_,(Zk hP N).y⟩
 change (bif Nat.beq g 8 then (exg Tryz.prog [aw] 1).f g args m else (ex Tryz.prog N).f g args m)=some (v,m') at h
 cases hb:Nat.beq g 8 with
 | true=>rw[hb]at h;exact (XT hP (l:=[aw]) (fun p hp=>by rw[qcq.1 hp];exact haw) 1).f g args m v m' h
 | false=>rw[hb]at h;exact (Zk hP N).f g args m v m' h
theorem step_ret {P:Program} {x:Ex} {g:Nat} {c:SC} {nt:Nat} {res:List RV} {args:List Value} {m:M} {Q:Value->M->Prop} (hd:qR P g=some ⟨c,nt,res⟩) (ha:args.length<=nt)
  (h:Ret m Q (c x (ku res) noK (ku res) (xC .blank 0 args) m)):Dx.Call (Ex.step P x) g args m Q:=by
 obtain⟨v,m',e,h1,h2⟩:=h
 refine⟨v,m',?_,h1,h2⟩
 show ob (qR P g) (callF x args m)=_
 rw[hd,qK,dP _ _ _ _ _ _ ha];exact e
theorem _root_.Go.Dx.Call.xA {N g:Nat} {args:List Value} {m:M} {Q:Value->M->Prop} (h:Dx.Call (ex Tryz.prog N) g args m Q) (hg:g≠8):Dx.Call (xA N) g args m Q:=by
 obtain⟨v,m',a,b,c⟩:=h
 exact⟨v,m',(xA_f N g args m hg).trans a,b,c⟩
theorem mm_max (a b:Int):mmL true [.int .i64 a,.int .i64 b]=some (.int .i64 (max a b)):=by
 have h:mmL true [.int .i64 a,.int .i64 b]=some (.int .i64 (bif ltI a b then b else a)):=rfl
 rw[h,xb]
 by_cases hab:a<b
 ·rw[decide_eq_true hab,cond_true,Int.max_eq_right (by omega)]
 ·rw[decide_eq_false hab,cond_false,Int.max_eq_left (by omega)]
theorem mm_min (a b:Int):mmL false [.int .i64 a,.int .i64 b]=some (.int .i64 (min a b)):=by
 have h:mmL false [.int .i64 a,.int .i64 b]=some (.int .i64 (bif ltI b a then b else a)):=rfl
 rw[h,xb]
 by_cases hab:b<a
 ·rw[decide_eq_true hab,cond_true,Int.min_eq_right (by omega)]
 ·rw[decide_eq_false hab,cond_false,Int.min_eq_left (by omega)]
theorem Dk (mx:Bool) (xs:List V) (t:Tm):pMm mx xs t=mmL mx (evs t xs):=rfl
theorem clampN (n:Int) (L:Nat):∃k:Nat,min (max n 0) (L:Int)=(k:Int)/\k<=L:=⟨(min (max n 0) (L:Int)).toNat,by omega,by omega⟩
end Go.Sx
namespace Go.Sx
open Go.Dx Go.Proofs
set_option maxRecDepth 10000
def RdL (ev:List EvR) (l:List Nat):Prop:=∀x∈l,∃e,ev[x]?=some e/\e.kind=1
theorem RdL.nil (ev:List EvR):RdL ev []:=fun x hx=>by cases hx
theorem RdL.uni {ev:List EvR} {a b:List Nat} (ha:RdL ev a) (hb:RdL ev b):RdL ev (uni a b):=fun x hx=>(Vi.1 hx).elim (ha x) (hb x)
theorem fQ {ev:List EvR} {x:Nat} {e y:EvR} (h:ev[x]?=some e):(ev ++ [y])[x]?=some e:=by rw[qcx (qcl.1 h).1];exact h
theorem RdL.mono {ev:List EvR} {l:List Nat} (h:RdL ev l) (y:EvR):RdL (ev ++ [y]) l:=fun x hx=>by
 obtain⟨e,h1,h2⟩:=h x hx
 exact⟨e,fQ h1,h2⟩
theorem RdL.one (ev:List EvR) {e:EvR} (h:e.kind=1):RdL (ev ++ [e]) [ev.length]:=fun x hx=>by
 rw[qcq.1 hx];exact⟨e,by simp,h⟩
structure EvOK (e:EvR):Prop where
 th:e.th=0
 fence:e.kind=3->e.loc=-1/\e.val=0
 loc:e.kind≠3->0<=e.loc/\e.loc<4096
structure PrI (K:Nat × Nat->EvR->EvR->Prop) (ev:List EvR) (l:List (Nat × Nat)):Prop where
 nd:l.Nodup
 ok:∀p∈l,∃r e,ev[p.1]?=some r/\r.kind=1/\p.1<p.2/\ev[p.2]?=some e/\K p r e
theorem PrI.nil (K:Nat × Nat->EvR->EvR->Prop) (ev:List EvR):PrI K ev []:=⟨List.nodup_nil,fun p hp=>by cases hp⟩
theorem PrI.add {K:Nat × Nat->EvR->EvR->Prop} {ev:List EvR} {l:List (Nat × Nat)} (h:PrI K ev l) {e:EvR} {s:List Nat} (hs:SetOK ev.length s) (hr:RdL ev s) (hk:∀a∈s,∀r,ev[a]?=some r->r.kind=1->K (a,ev.length) r e) :
  PrI K (ev ++ [e]) (l ++ kR s ev.length):=by
 refine⟨List.nodup_append.2 ⟨h.nd,?_,?_⟩,fun p hp=>?_⟩
 ·unfold kR
  exact List.pairwise_map.2 (hs.up.imp fun {a b} hab e=>by
   have:a=b:=congrArg Prod.fst e
   omega)
 ·intro p hp q hq e
  obtain⟨r,e',_,_,_,h4,_⟩:=h.ok p hp
  unfold kR at hq
  obtain⟨a,_,rfl⟩:=List.mem_map.1 hq
  rw[e]at h4
  have:=(qcl.1 h4).1
  exact Nat.lt_irrefl _ this
 ·rcases qd5.1 hp with hp | hp
  ·obtain⟨r,e',h1,h2,h3,h4,h5⟩:=h.ok p hp
   exact⟨r,e',fQ h1,h2,h3,fQ h4,h5⟩
  ·unfold kR at hp
   obtain⟨a,ha,rfl⟩:=List.mem_map.1 hp
   obtain⟨r,h1,h2⟩:=hr a ha
   exact⟨r,e,fQ h1,h2,hs.lt a ha,by simp,hk a ha r h1 h2⟩
def KA (_:Nat × Nat) (_ e:EvR):Prop:=e.kind≠3
def KD (_:Nat × Nat) (_ e:EvR):Prop:=e.kind=2
def KC (_:Nat × Nat) (_ _:EvR):Prop:=True
def KR (p:Nat × Nat) (r e:EvR):Prop:=p.2=p.1+1/\e.kind=2/\r.loc=e.loc
def nR (ev:List EvR):Nat:=(ev.filter fun e=>decide (e.kind=1)).length
theorem BM (ev:List EvR) (e:EvR):nR (ev ++ [e])=nR ev+if e.kind=1 then 1 else 0:=by
 unfold nR
 rw[List.filter_append,qct]
 congr 1
 by_cases h:e.kind=1<;>simp[h]
structure FL (S:PM):Prop where
 ev:∀e∈S.ev,EvOK e
 rmw:PrI KR S.ev S.rmw
 addr:PrI KA S.ev S.addr
 data:PrI KD S.ev S.data
 ctrl:PrI KC S.ev S.ctrl
 us:S.sc.us=(nR S.ev:Nat)
structure FT (S:PM):Prop where
 t:∀k,RdL S.ev (S.t k)
 ft:RdL S.ev S.ft
 way:RdL S.ev S.way
structure FO (S:PM):Prop where
 half:∀h,S.half=some h->RdL S.ev h.ad/\RdL S.ev h.da/\h.rd+1=S.ev.length/\(∃e,S.ev[h.rd]?=some e/\e.kind=1/\e.loc=h.w.loc)/\0<=h.w.loc/\h.w.loc<4096
 opn:S.sc.opn=true->∃a:Nat,S.sc.rd=(a:Int)/\a+1=S.ev.length/\∃e,S.ev[a]?=some e/\e.kind=1/\e.loc=S.sc.loc
structure FW (S:PM):Prop where
 l:FL S
 t:FT S
 o:FO S
theorem FL.of {S S':PM} (h:FL S) (k:StepS S S'):FL S' :=
 ⟨by rw[k.ev];exact h.ev,by rw[k.ev,k.rmw];exact h.rmw,by rw[k.ev,k.addr];exact h.addr,by rw[k.ev,k.data];exact h.data,by rw[k.ev,k.ctrl];exact h.ctrl,by rw[k.us,k.ev];exact h.us⟩
theorem FL.push {S S':PM} (h:FL S) (hw:WF S) {e:EvR} (he:EvOK e) {ad da rm:List Nat} (h1:S'.ev=S.ev ++ [e]) (h2:S'.addr=S.addr ++ kR ad S.ev.length) (h3:S'.ctrl=S.ctrl ++ kR S.way S.ev.length) (h4:S'.data=S.data ++ kR da S.ev.length) (h5:S'.rmw=S.rmw ++ kR rm S.ev.length)
  (ht:FT S) (a1:SetOK S.ev.length ad) (a2:RdL S.ev ad) (a3:ad=[]\/e.kind≠3) (d1:SetOK S.ev.length da) (d2:RdL S.ev da) (d3:da=[]\/e.kind=2)
  (r1:rm=[]\/∃a r,rm=[a]/\a+1=S.ev.length/\S.ev[a]?=some r/\r.kind=1/\r.loc=e.loc/\e.kind=2) (hu:S'.sc.us=S.sc.us+if e.kind=1 then 1 else 0):FL S':=by
 have r2:SetOK S.ev.length rm/\RdL S.ev rm/\∀a∈rm,∀r,S.ev[a]?=some r->r.kind=1->KR (a,S.ev.length) r e:=by
  rcases r1 with rfl | ⟨a,r,rfl,q1,q2,q3,q4,q5⟩
  ·exact⟨SetOK.nil _,RdL.nil _,fun a ha=>by cases ha⟩
  ·refine⟨⟨by simp,fun x hx=>by rw[qcq.1 hx];omega⟩,fun x hx=>by rw[qcq.1 hx];exact⟨r,q2,q3⟩,fun x hx r' hr' _=>?_⟩
   rw[qcq.1 hx]at hr' ⊢
   rw[q2]at hr';cases hr'
   exact⟨q1.symm,q5,q4⟩
 refine⟨fun x hx=>?_,?_,?_,?_,?_,?_⟩
 ·rw[h1]at hx
  rcases qd5.1 hx with hx | hx
  ·exact h.ev x hx
  ·rw[qcq.1 hx];exact he
 ·rw[h1,h5];exact h.rmw.add r2.1 r2.2.1 r2.2.2
 ·rw[h1,h2];exact h.addr.add a1 a2 fun a ha r _ _=>a3.elim (fun e=>by rw[e]at ha;cases ha) _root_.id
 ·rw[h1,h4];exact h.data.add d1 d2 fun a ha r _ _=>d3.elim (fun e=>by rw[e]at ha;cases ha) _root_.id
 ·rw[h1,h3];exact h.ctrl.add hw.way ht.way fun a ha r _ _=>trivial
 ·rw[hu,h1,BM,h.us];split<;>simp
theorem FT.setRP {S:PM} (h:FT S) (k x:Nat) {l:List Nat} (hl:RdL S.ev l):FT (setRP S k x l):=by
 unfold Sx.setRP
 split
 ·exact h
 ·refine⟨fun q=>?_,h.ft,h.way⟩
  show RdL S.ev (upN S.t k l q)
  by_cases e:q=k
  ·rw[e,vu];exact hl
  ·rw[bK _ _ e];exact h.t q
theorem doF_ft {S:PM} (h:FT S) (i:Ins):FT (doF S i).1:=by
 unfold doF
 simp only
 repeat' split
 all_goals first
  | exact h
  | exact⟨h.t,h.ft,h.way.uni h.ft⟩
  | exact⟨h.t,h.ft,h.way.uni (h.t _)⟩
  | exact⟨h.t,(h.t _).uni (h.t _),h.way⟩
  | exact h.setRP _ _ h.ft
  | exact h.setRP _ _ (RdL.nil _)
  | exact h.setRP _ _ (h.t _)
  | exact FT.setRP (S:={ S with sc:={ S.sc with opn:=false } }) ⟨h.t,h.ft,h.way⟩ _ _ (RdL.nil _)
  | exact h.setRP _ _ ((h.t _).uni (h.t _))
structure OpS (S S':PM):Prop where
 opn:S'.sc.opn=true->S.sc.opn=true
 rd:S'.sc.rd=S.sc.rd
 loc:S'.sc.loc=S.sc.loc
theorem vp (S:PM) (k x:Nat) (l:List Nat):OpS S (setRP S k x l):=by
 unfold Sx.setRP
 split<;>exact⟨_root_.id,rfl,rfl⟩
theorem doF_op (S:PM) (i:Ins):OpS S (doF S i).1:=by
 unfold doF
 simp only
 repeat' split
 all_goals first
  | exact vp _ _ _ _
  | exact⟨_root_.id,rfl,rfl⟩
  | exact⟨(fun h=>by have:=(vp { S with sc:={ S.sc with opn:=false } } _ _ _).opn h;cases this),(vp { S with sc:={ S.sc with opn:=false } } _ _ _).rd,(vp { S with sc:={ S.sc with opn:=false } } _ _ _).loc⟩
theorem FO.of {S S':PM} (h:FO S) (k:OpS S S') (he:S'.ev=S.ev) (hh:S'.half=S.half):FO S' :=
 ⟨fun x hx=>by rw[hh]at hx;rw[he];exact h.half x hx,fun ho=>by rw[k.rd,k.loc,he];exact h.opn (k.opn ho)⟩
theorem FW.step {S:PM} (h:FW S) (hl:look S=none):FW (zR S):=by
 obtain⟨h1,i,h2,h3,h4,h5⟩:=yB hl
 have e:zR S=vt S i:=by unfold zR;rw[h2]
 have k:=dC S i
 rw[e]
 have kt:=doF_ft (S:=vR S) ⟨h.t.t,h.t.ft,h.t.way⟩ i
 have ko:=doF_op (vR S) i
 have kt':FT (vt S i):=⟨kt.t,kt.ft,kt.way⟩
 exact⟨h.l.of k,kt',h.o.of ⟨ko.opn,ko.rd,ko.loc⟩ k.ev k.half⟩
theorem ZG:∀(k:Nat) (S:PM),FW S->FW (jE k S).1
 | 0,S,h=>h
 | k+1,S,h=>by
  unfold jE
  cases hl:look S with
  | some w=>exact h
  | none=>exact ZG k (zR S) (h.step hl)
theorem ZH {S:PM} (h:FW S):FW (wy S).1:=ZG _ S h
end Go.Sx
namespace Go.Sx
open Go.Dx Go.Proofs
set_option maxRecDepth 10000
theorem FM {s:Mch} {i:Ins} (h:zJ s i=true):0<=cellL s i/\cellL s i<4096:=by
 unfold zJ at h
 rw[qcp]at h
 have h2:=of_decide_eq_true h.2
 have h0:=u64_nn ((bO s i).tdiv 8)
 unfold cellL
 rw[wrap64 _ (by omega) (by omega)]
 exact⟨h0,h2⟩
theorem YX (s:Mch) (evn:Nat) (i:Ins) (h:(qw s evn i).2=false) (h1:(qw s evn i).1.what=1\/(qw s evn i).1.what=2) :
  (0<=(qw s evn i).1.loc/\(qw s evn i).1.loc<4096)/\((qw s evn i).1.what=2->(qw s evn i).1.ex=true->s.opn=true/\s.loc=(qw s evn i).1.loc):=by
 have room:∀w:Wnt,((wJ evn w).what=1\/(wJ evn w).what=2)->wJ evn w=w:=fun w hw=>by
  rcases de evn w with e | ⟨e,k⟩
  ·rw[e]at hw;simp only[zY]at hw;omega
  ·exact e
 unfold qw at h h1 ⊢
 split
 ·rename_i c;rw[if_pos c]at h1;have:=room _ h1;rw[this]at h1;simp only at h1;omega
 rename_i c1
 rw[if_neg c1]at h h1
 split
 ·rename_i c;rw[if_pos c]at h1;have:=room _ h1;rw[this]at h1;simp only at h1;omega
 rename_i c2
 rw[if_neg c2]at h h1
 split
 ·rename_i c;rw[if_pos c]at h1;simp only at h1;omega
 rename_i c3
 rw[if_neg c3]at h h1
 split
 ·rename_i c;rw[if_pos c]at h1;simp only[zY]at h1;omega
 rename_i c4
 rw[if_neg c4]at h h1
 split
 ·rename_i c;rw[if_pos c]at h;cases h
 rename_i c5
 rw[if_neg c5]at h h1
 split
 ·rename_i c;rw[if_pos c]at h1;simp only[zY]at h1;omega
 rename_i c6
 rw[if_neg c6]at h h1
 have hc:zJ s i=true:=by simpa using c6
 have rng:=FM hc
 split
 ·rename_i c
  rw[if_pos c]at h1
  have e:=room _ h1
  rw[e]
  exact⟨rng,fun h2=>absurd (show (1:Int)=2 from h2) (by decide)⟩
 rename_i c7
 rw[if_neg c7]at h h1
 split
 ·rename_i c;rw[if_pos c]at h;cases h
 rename_i c8
 rw[if_neg c8]at h1
 have e:=room _ h1
 rw[e]
 refine⟨rng,fun h2 h3=>?_⟩
 have h2:(if i.op=23\/i.op=25\/i.op=28\/i.op=29 then (2:Int) else 1)=2:=h2
 have h3:decide (26<=i.op)=true:=h3
 have h3:=of_decide_eq_true h3
 have ho:i.op=28\/i.op=29:=by
  split at h2
  ·rename_i c;omega
  ·omega
 by_cases q1:s.opn=true
 ·by_cases q2:s.loc=cellL s i
  ·exact⟨q1,q2⟩
  ·exact absurd ⟨ho,.inr q2⟩ c8
 ·exact absurd ⟨ho,.inl (by simpa using q1)⟩ c8
theorem Zz {S:PM} (h:WF S) {w:Wnt} (hl:look S=some w) (h1:w.what=1\/(w.what=2/\w.one=false)):(0<=w.loc/\w.loc<4096)/\(w.what=2->w.ex=true->S.sc.opn=true/\S.sc.loc=w.loc):=by
 unfold look at hl
 cases hh:S.half with
 | some x =>
  rw[hh]at hl;cases hl
  have k:=h.half x hh
  rw[k.what,k.one]at h1
  rcases h1 with h1 | ⟨_,h1⟩
  ·omega
  ·cases h1
 | none =>
  rw[hh]at hl
  cases hf:fetch S with
  | none=>rw[hf]at hl;cases hl;simp only[zY]at h1;omega
  | some i =>
   rw[hf]at hl
   simp only at hl
   split at hl
   ·rename_i c
    cases hl
    exact YX _ _ _ c (h1.imp _root_.id (·.1))
   ·split at hl
    ·cases hl;simp only[zY]at h1;omega
    ·cases hl
theorem FW.setRP {S:PM} (h:FW S) (k x:Nat) {l:List Nat} (hl:RdL S.ev l):FW (setRP S k x l):=by
 have o:=wE S k x l
 exact⟨h.l.of ⟨o.code,o.half,o.ev,o.rmw,o.addr,o.data,o.ctrl,o.outs,o.rd,o.us,o.limit,o.st⟩,h.t.setRP k x hl,h.o.of (vp S k x l) o.ev o.half⟩
theorem FW.goOn {S:PM} (h:FW S):FW (xh S):=⟨⟨h.l.ev,h.l.rmw,h.l.addr,h.l.data,h.l.ctrl,h.l.us⟩,⟨h.t.t,h.t.ft,h.t.way⟩,⟨h.o.half,h.o.opn⟩⟩
theorem FO.shut {S:PM} (h1:S.half=none) (h2:S.sc.opn=false):FO S:=⟨yZ h1,fun h=>by rw[h2]at h;cases h⟩
theorem FW.loadP {S:PM} (h:FW S) (hw:WF S) (hn:S.half=none) (i:Ins) (w:Wnt) (v:Nat) (hr:0<=w.loc/\w.loc<4096):FW (loadP S i w v):=by
 have hus:(Sx.loadP S i w v).sc.us=S.sc.us+1:=by
  obtain⟨a,h1,h2⟩:=hw.us
  show IntKind.i64.wrap (S.sc.us+1)=_
  have:=hw.ev
  rw[h1,wrap64 _ (by omega) (by omega)]
 refine⟨h.l.push hw (e:=⟨0,1,w.loc,v,w.mode⟩) ⟨rfl,fun h=>absurd (show (1:Int)=3 from h) (by decide),fun _=>hr⟩ (ad:=S.t i.rn.toNat) (da:=[]) (rm:=[]) rfl rfl rfl (List.append_nil _).symm (List.append_nil _).symm h.t (hw.t _) (h.t.t _) (.inr (by show (1:Int)≠3;decide)) (SetOK.nil _) (RdL.nil _) (.inl rfl) (.inl rfl) (by rw[hus];rfl),?_,FO.shut hn rfl⟩
 exact⟨fun k=>(h.t.t k).mono _,h.t.ft.mono _,h.t.way.mono _⟩
theorem Br (S:PM) (i:Ins) (w:Wnt) (v:Nat):(loadP S i w v).ev=S.ev ++ [⟨0,1,w.loc,v,w.mode⟩]:=rfl
theorem FW.exP {S:PM} (h:FW S) (hn:S.half=none) (w:Wnt) {b:Nat} (hb:b+1=S.ev.length) (hr:∃e,S.ev[b]?=some e/\e.kind=1/\e.loc=w.loc):FW (exP w b S):=by
 unfold Sx.exP
 split
 ·exact⟨⟨h.l.ev,h.l.rmw,h.l.addr,h.l.data,h.l.ctrl,h.l.us⟩,⟨h.t.t,h.t.ft,h.t.way⟩,⟨yZ hn,fun _=>⟨b,rfl,hb,hr⟩⟩⟩
 ·exact h
theorem FW.storeP {S:PM} (h:FW S) (hw:WF S) (hn:S.half=none) (i:Ins) (w:Wnt) (v:Nat) (hr:0<=w.loc/\w.loc<4096) (hx:w.ex=true->S.sc.opn=true/\S.sc.loc=w.loc):FW (storeP S i w v S.ev.length):=by
 have he:EvOK ⟨0,2,w.loc,w.val,w.mode⟩:=⟨rfl,fun h=>absurd (show (2:Int)=3 from h) (by decide),fun _=>hr⟩
 have two:∀{S1:PM},S1.half=none->S1.ev=S.ev->S1.rmw=S.rmw->S1.addr=S.addr->S1.data=S.data->S1.ctrl=S.ctrl->S1.t=S.t->S1.ft=S.ft->S1.way=S.way->S1.sc.us=S.sc.us->∀rm,(rm=[]\/∃a r,rm=[a]/\a+1=S.ev.length/\S.ev[a]?=some r/\r.kind=1/\r.loc=w.loc/\(2:Int)=2) ->
   FW { Sx.dataP (zl S1 (S1.t i.rn.toNat) ⟨0,2,w.loc,w.val,w.mode⟩) (S1.t i.rd.toNat) S.ev.length with rmw:=S1.rmw ++ kR rm S.ev.length }:=fun {S1} k1 k2 k3 k4 k5 k6 k7 k8 k9 k10 rm hrm=>by
  refine⟨h.l.push hw he (ad:=S.t i.rn.toNat) (da:=S.t i.rd.toNat) (rm:=rm) ?_ ?_ ?_ ?_ ?_ h.t (hw.t _) (h.t.t _) (.inr (by show (2:Int)≠3;decide)) (hw.t _) (h.t.t _) (.inr rfl) hrm ?_,?_,FO.shut k1 rfl⟩
  ·show S1.ev ++ _=_;rw[k2]
  ·show S1.addr ++ kR (S1.t _) S1.ev.length=_;rw[k4,k7,k2]
  ·show S1.ctrl ++ kR S1.way S1.ev.length=_;rw[k6,k9,k2]
  ·show S1.data ++ kR (S1.t _) _=_;rw[k5,k7]
  ·show S1.rmw ++ _=_;rw[k3]
  ·show S1.sc.us=_;rw[k10];show _=S.sc.us+0;omega
  ·refine⟨fun k=>?_,?_,?_⟩
   ·show RdL (S1.ev ++ _) (S1.t k);rw[k2,k7];exact (h.t.t k).mono _
   ·show RdL (S1.ev ++ _) S1.ft;rw[k2,k8];exact h.t.ft.mono _
   ·show RdL (S1.ev ++ _) S1.way;rw[k2,k9];exact h.t.way.mono _
 unfold Sx.storeP
 cases hwe:w.ex with
 | false =>
  simp only[Bool.false_eq_true,if_false,false_and]
  have:=two hn rfl rfl rfl rfl rfl rfl rfl rfl rfl [] (.inl rfl)
  have e:({ Sx.dataP (zl S (S.t i.rn.toNat) ⟨0,2,w.loc,w.val,w.mode⟩) (S.t i.rd.toNat) S.ev.length with rmw:=S.rmw ++ kR [] S.ev.length }:PM)=Sx.dataP (zl S (S.t i.rn.toNat) ⟨0,2,w.loc,w.val,w.mode⟩) (S.t i.rd.toNat) S.ev.length:=by
   show ({ Sx.dataP (zl S (S.t i.rn.toNat) ⟨0,2,w.loc,w.val,w.mode⟩) (S.t i.rd.toNat) S.ev.length with rmw:=S.rmw ++ [] }:PM)=_
   rw[List.append_nil];rfl
  rw[e]at this;exact this
 | true =>
  simp only[if_true,true_and]
  split
  ·exact FW.setRP (S:={ S with sc:={ S.sc with opn:=false } }) ⟨⟨h.l.ev,h.l.rmw,h.l.addr,h.l.data,h.l.ctrl,h.l.us⟩,⟨h.t.t,h.t.ft,h.t.way⟩,FO.shut hn rfl⟩ _ _ (RdL.nil _)
  ·obtain⟨o1,o2⟩:=hx hwe
   obtain⟨a,a1,a2,e,a3,a4,a5⟩:=h.o.opn o1
   refine FW.setRP ?_ _ _ (RdL.nil _)
   have:=two (S1:={ S with sc:={ S.sc with opn:=false } }) hn rfl rfl rfl rfl rfl rfl rfl rfl rfl [a] (.inr ⟨a,e,rfl,a2,a3,a4,by rw[a5,o2],rfl⟩)
   have e1:S.sc.rd.toNat=a:=by rw[a1];rfl
   show FW (rmwP _ S.sc.rd.toNat S.ev.length)
   rw[e1]
   exact this
theorem FW.endP {S:PM} (h:FW S) (hw:WF S) {hf:Hf} (hh:S.half=some hf):FW (endP S S.ev.length):=by
 have hk:=hw.half hf hh
 obtain⟨a1,a2,a3,⟨e,a4,a5,a6⟩,a7⟩:=h.o.half hf hh
 unfold Sx.endP
 rw[hh]
 refine⟨h.l.push hw (e:=⟨0,2,hf.w.loc,hf.w.val,hf.w.mode⟩) ⟨rfl,fun h=>absurd (show (2:Int)=3 from h) (by decide),fun _=>a7⟩ (ad:=hf.ad) (da:=hf.da) (rm:=[hf.rd]) rfl rfl rfl rfl rfl h.t hk.ad a1 (.inr (by show (2:Int)≠3;decide)) hk.da a2 (.inr rfl) (.inr ⟨hf.rd,e,rfl,a3,a4,a5,a6,rfl⟩) (by show S.sc.us=S.sc.us+0;omega),?_,FO.shut rfl rfl⟩
 exact⟨fun k=>(h.t.t k).mono _,h.t.ft.mono _,h.t.way.mono _⟩
theorem FW.beginP {S:PM} (h:FW S) (i:Ins) (w:Wnt) (v:Nat) {b:Nat} (hn:S.half=none) (hb:b+1=S.ev.length) (hr:∃e,S.ev[b]?=some e/\e.kind=1/\e.loc=w.loc) (hl:0<=w.loc/\w.loc<4096) (ho:S.sc.opn=false):FW (beginP S i w v b)/\(jt S i v=false->(beginP S i w v b).half=none/\(beginP S i w v b).ev=S.ev):=by
 obtain⟨e,r1,r2,r3⟩:=hr
 have one:RdL S.ev [b]:=fun x hx=>by rw[qcq.1 hx];exact⟨e,r1,r2⟩
 have k:=h.setRP (if i.op<=39 then i.rm.toNat else i.rd.toNat) v one
 have o:=wE S (if i.op<=39 then i.rm.toNat else i.rd.toNat) v [b]
 have op:=vp S (if i.op<=39 then i.rm.toNat else i.rd.toNat) v [b]
 unfold Sx.beginP
 cases hB:jt S i v with
 | false=>simp only[Bool.false_eq_true,if_false];exact⟨k,fun _=>⟨o.half.trans hn,o.ev⟩⟩
 | true =>
  simp only[if_true]
  refine⟨⟨⟨k.l.ev,k.l.rmw,k.l.addr,k.l.data,k.l.ctrl,k.l.us⟩,⟨k.t.t,k.t.ft,k.t.way⟩,fun x hx=>?_,fun hc=>?_⟩,fun h=>by cases h⟩
  ·have hx:some (WZ S i w v b)=some x:=hx
   cases hx
   show RdL (Sx.setRP S _ v [b]).ev _/\RdL (Sx.setRP S _ v [b]).ev _/\_+1=(Sx.setRP S _ v [b]).ev.length/\(∃e,(Sx.setRP S _ v [b]).ev[_]?=some e/\_)/\_
   rw[o.ev]
   unfold WZ
   split
   ·exact⟨h.t.t _,h.t.t _,hb,⟨e,r1,r2,r3⟩,hl⟩
   ·exact⟨h.t.t _,h.t.t _,hb,⟨e,r1,r2,r3⟩,hl⟩
  ·have hc:=op.opn hc
   rw[ho]at hc;cases hc
theorem GX {S:PM} (h:FW S) (hw:WF S) {i:Ins} (hf:fetch S=some i) {w:Wnt} (hl:look S=some w) (hW:XE S w) (v:Nat):FW (zB S i w v):=by
 unfold zB
 simp only
 split
 ·rename_i h1
  have hn:=hW.noHalf (.inl (by omega))
  obtain⟨rng,-⟩:=Zz hw hl (.inl h1)
  have kl:=h.loadP hw hn i w v rng
  have hev:=Br S i w v
  have hlen:S.ev.length+1=(loadP S i w v).ev.length:=by rw[hev];simp
  have hrd:∃e,(loadP S i w v).ev[S.ev.length]?=some e/\e.kind=1/\e.loc=w.loc:=⟨⟨0,1,w.loc,v,w.mode⟩,by rw[hev];simp,rfl,rfl⟩
  have kb:=kl.beginP i w v hn hlen hrd rng rfl
  split
  ·split
   ·exact⟨⟨kb.1.l.ev,kb.1.l.rmw,kb.1.l.addr,kb.1.l.data,kb.1.l.ctrl,kb.1.l.us⟩,⟨kb.1.t.t,kb.1.t.ft,kb.1.t.way⟩,⟨kb.1.o.half,kb.1.o.opn⟩⟩
   ·rename_i hb
    obtain⟨q1,q2⟩:=kb.2 (by simpa using hb)
    exact (kb.1.exP q1 w (by rw[q2];exact hlen) (by rw[q2];exact hrd)).goOn
  ·have one:RdL (loadP S i w v).ev [S.ev.length]:=by rw[hev];exact RdL.one _ rfl
   have o:=wE (loadP S i w v) i.rd.toNat v [S.ev.length]
   exact ((kl.setRP i.rd.toNat v one).exP (o.half.trans hn) w (by rw[o.ev];exact hlen) (by rw[o.ev];exact hrd)).goOn
 split
 ·rename_i h1 h2
  split
  ·rename_i ho
   obtain⟨x,hx⟩:=hW.one2 h2 ho
   exact h.endP hw hx
  ·rename_i ho
   have ho:w.one=false:=by simpa using ho
   obtain⟨rng,hx⟩:=Zz hw hl (.inr ⟨h2,ho⟩)
   exact (h.storeP hw (hW.noHalf (.inr ho)) i w v rng (hx h2)).goOn
 split
 ·rename_i h1 h2 h3
  refine FW.goOn ⟨h.l.push hw (e:=⟨0,3,-1,0,w.mode⟩) ⟨rfl,fun _=>⟨rfl,rfl⟩,fun h=>absurd rfl h⟩ (ad:=[]) (da:=[]) (rm:=[]) rfl rfl rfl (List.append_nil _).symm (List.append_nil _).symm h.t (SetOK.nil _) (RdL.nil _) (.inl rfl) (SetOK.nil _) (RdL.nil _) (.inl rfl) (.inl rfl) (by show S.sc.us=S.sc.us+0;omega),⟨fun k=>(h.t.t k).mono _,h.t.ft.mono _,h.t.way.mono _⟩,FO.shut (hW.noHalf (.inl (by omega))) rfl⟩
 split
 ·exact FW.goOn ⟨⟨h.l.ev,h.l.rmw,h.l.addr,h.l.data,h.l.ctrl,h.l.us⟩,⟨h.t.t,h.t.ft,h.t.way⟩,⟨h.o.half,h.o.opn⟩⟩
 ·exact h.goOn
theorem GZ {S:PM} (h:FW S) (hw:WF S) (v:Nat):FW (wP S v).1:=by
 obtain⟨h1,h2,h3⟩:=zw hw
 have k:=ZH h
 unfold wP ya
 split
 ·exact k
 ·cases hf:fetch (wy S).1 with
  | none=>exact k
  | some i=>exact GX k h2 hf h1 (xR h2 h1) v
theorem qak (ws:List Nat) (fuel:Int):FW (QL ws fuel) :=
 ⟨⟨fun e he=>(by cases he),PrI.nil _ _,PrI.nil _ _,PrI.nil _ _,PrI.nil _ _,rfl⟩,⟨fun k x hx=>(by cases hx),RdL.nil _,RdL.nil _⟩,FO.shut rfl rfl⟩
end Go.Sx
namespace Go.Sx
open Go.Dx Go.Proofs
set_option maxRecDepth 10000
theorem Qy (I:PM->Prop) (hd:∀S,I S->DnB S/\0<=S.sc.limit) (hstep:∀S,WF S->I S->I (wy S).1)
  (hfeed:∀S w v,WF S->I S->look S=some w->w.what<5->v<W64->(w.what=2->w.ex=true->v<=1)->(¬(w.what=2/\w.one=true)->kH S.sc=false)->I (wP S v).1) :
  ∀(k:Nat) (S:PM) (rs:List Nat) (ws:List Bool),WF S->I S->(∀v∈rs,v<W64)->mu S<k->∃T,WF T/\I T/\(ky k S rs ws=xe T\/ky k S rs ws=xf T)
 | 0,S,rs,ws,h,hi,hv,hm=>by
  have:=(hd S hi).1.dn
  unfold mu at hm
  split at hm<;>omega
 | k+1,S,rs,ws,h,hi,hv,hm=>by
  obtain⟨hl,hw,hs⟩:=zw h
  have hi1:=hstep S h hi
  have hm1:mu (wy S).1<=mu S:=(gx 100001 S (hd S hi).1).2
  show ∃T,WF T/\I T/\(jR (ky k) (wy S).1 (wy S).2 rs ws=xe T\/jR (ky k) (wy S).1 (wy S).2 rs ws=xf T)
  obtain⟨S1,hS1⟩:=qd6 ((wy S).1)
  obtain⟨w,hwd⟩:=qd6 ((wy S).2)
  have hWO:=xR hw hl
  rw[<-hS1,<-hwd]at hl hWO ⊢
  rw[<-hS1]at hw hs hi1 hm1
  have wh:=hWO.what
  have on:∀(v:Nat) (rs':List Nat) (ws':List Bool),v<W64->(∀x∈rs',x<W64)->w.what<5->(w.what=2->w.ex=true->v<=1)->(¬(w.what=2/\w.one=true)->kH S1.sc=false) ->
    ∃T,WF T/\I T/\(ky k (wP S1 v).1 rs' ws'=xe T\/ky k (wP S1 v).1 rs' ws'=xf T):=fun v rs' ws' h1 h2 h3 h4 h5=>by
   have:=(WX hw hl (hd _ hi1).1 h3 h4 h5 (hd _ hi1).2).2
   exact Qy I hd hstep hfeed k (wP S1 v).1 rs' ws' (Qa hw h1) (hfeed S1 w v hw hi1 hl h3 h1 h4 h5) h2 (by omega)
  unfold jR
  by_cases c1:w.what=2/\w.one=true
  ·rw[if_pos c1];exact on 0 rs ws (by decide) hv (by omega) (fun _ _=>by omega) (fun h=>absurd c1 h)
  rw[if_neg c1]
  by_cases c2:w.what=7\/w.what=6
  ·rw[if_pos c2];exact⟨S1,hw,hi1,.inl rfl⟩
  rw[if_neg c2]
  by_cases c3:kH S1.sc=true
  ·rw[if_pos c3];exact⟨S1,hw,hi1,.inr rfl⟩
  have c3':kH S1.sc=false:=by simpa using c3
  rw[if_neg c3]
  by_cases c4:w.what=5
  ·rw[if_pos c4];exact⟨S1,hw,hi1,.inl rfl⟩
  rw[if_neg c4]
  by_cases c5:w.what=1
  ·rw[if_pos c5]
   cases rs with
   | nil=>exact⟨S1,hw,hi1,.inl rfl⟩
   | cons v rs'=>exact on v rs' ws (hv v (by simp)) (fun x hx=>hv x (by simp[hx])) (by omega) (fun h=>by omega) (fun _=>c3')
  rw[if_neg c5]
  by_cases c6:w.what=2/\w.ex=true
  ·rw[if_pos c6]
   cases ws with
   | nil=>exact⟨S1,hw,hi1,.inl rfl⟩
   | cons b ws'=>exact on _ rs ws' (by cases b<;>decide) hv (by omega) (fun _ _=>by cases b<;>simp) (fun _=>c3')
  ·rw[if_neg c6];exact on 0 rs ws (by decide) hv (by omega) (fun _ _=>by omega) (fun _=>c3')
structure Rs (K:Nat × Nat->EvR->EvR->Prop) (ev:List EvR) (l:List (Nat × Nat)):Prop where
 up:l.Pairwise fun p q=>ltP p q=true
 ok:∀p∈l,∃r e,ev[p.1]?=some r/\r.kind=1/\p.1<p.2/\ev[p.2]?=some e/\K p r e
theorem qac {p q:Nat × Nat} (h:ltP q p=false) (hne:p≠q):ltP p q=true:=by
 obtain⟨a,b⟩:=p
 obtain⟨c,d⟩:=q
 unfold ltP at *
 simp at *
 by_cases e:a=c
 ·subst e
  by_cases e2:b=d
  ·exact absurd e2 (by simpa using hne)
  ·exact .inr ⟨rfl,by omega⟩
 ·exact .inl (by omega)
theorem PrI.rise {K:Nat × Nat->EvR->EvR->Prop} {ev:List EvR} {l:List (Nat × Nat)} (h:PrI K ev l):Rs K ev (vW l):=by
 obtain⟨h1,h2⟩:=jX toP l
 have h1:(vW l).Perm l:=h1
 have h2:(vW l).Pairwise fun x y=>ltP y x=false:=h2
 refine⟨?_,fun p hp=>h.ok p (h1.mem_iff.1 hp)⟩
 have nd:(vW l).Nodup:=h1.nodup_iff.2 h.nd
 exact (h2.and nd).imp fun {a b} ⟨x,y⟩=>qac x y
structure QO (R:PM):Prop where
 len:R.ev.length<=256
 us:R.sc.us=(nR R.ev:Nat)
 ev:∀e∈R.ev,EvOK e
 rmw:Rs KR R.ev R.rmw
 addr:Rs KA R.ev R.addr
 data:Rs KD R.ev R.data
 ctrl:Rs KC R.ev R.ctrl
theorem Bd {T:PM} (hw:WF T) (h:FW T):QO (xe T):=⟨hw.ev,h.l.us,h.l.ev,h.l.rmw.rise,h.l.addr.rise,h.l.data.rise,h.l.ctrl.rise⟩
theorem JM {T:PM} (hw:WF T) (h:FW T):QO (xf T):=⟨hw.ev,h.l.us,h.l.ev,h.l.rmw.rise,h.l.addr.rise,h.l.data.rise,h.l.ctrl.rise⟩
theorem ZS {ws:List Nat} (he:xD ws=0) (rs:List Nat) (wins:List Bool) {fuel:Int} (hf:0<=fuel/\fuel<=100000) (hv:∀v∈rs,v<W64):QO (zx ws rs wins fuel):=by
 obtain⟨T,h1,h2,h3⟩:=Qy (fun S=>FW S/\DnI fuel S) (fun S k=>⟨k.2.1,by rw[k.2.2.1];exact hf.1⟩) (fun S h k=>⟨ZH k.1,k.2.step h⟩) (fun S w v h k hl h5 _ hv1 hs=>⟨GZ k.1 h v,k.2.feed hf.1 h hl h5 hv1 hs⟩)
  200001 (QL ws fuel) rs wins (Kj he fuel) ⟨qak ws fuel,XP hf⟩ hv (by
   show 2*(fuel - 0)+(if (none:Option Hf)=none then 0 else 1)<_
   simp;omega)
 rcases h3 with e | e
 ·show QO (ky 200001 (QL ws fuel) rs wins);rw[e];exact Bd h1 h2.1
 ·show QO (ky 200001 (QL ws fuel) rs wins);rw[e];exact JM h1 h2.1
end Go.Sx
namespace Go.Sx
open Go.Dx Go.Proofs
set_option maxRecDepth 10000
theorem qbu {ev:List EvR} {i:Nat} {e:EvR} (h:ev[i]?=some e):nR (ev.take (i+1))=nR (ev.take i)+if e.kind=1 then 1 else 0:=by
 rw[List.take_add_one,h];exact BM _ _
theorem nR_le (ev:List EvR):nR ev<=ev.length:=List.length_filter_le _ _
theorem DZ (n:Nat) {m:M} (hm:m.base<=m.n) {a:Mch} {A:PM} (ha:RL m a A) (hl:A.ev.length<=1000):CallV (ex Tryz.prog (n+1)) 20 [.agg ⟨qY a⟩,iv 1] m (iv (nR A.ev)):=by
 refine qk da9_ok (by simp) ?_
 have st:=(St.nil hm (Ext.refl m)).row (qY a)
 obtain⟨m0,hm0⟩:=qd6 (Dx.newRow m (qY a))
 have hb1:kf (.agg ⟨qY a⟩) m=some (.pointer (some ⟨m.n,0,none⟩),m0):=by rw[hm0];rfl
 rw[<-hm0]at st
 have a0:load1 m0 ⟨m.n,0,none⟩=some a.ev:=(st.get 0 rfl).2.2.load1 0 none
 have re:=(ha.ext st.ext).rdEv
 have le:=re.len
 simp[hb1]
 refine qE (c:=ca9_8) rfl (Ret m _) (fun i t m'=>Tm.get 1 t=iv 1/\Tm.get 2 t=.pointer (some ⟨m.n,0,none⟩)/\Tm.get 5 t=iv (nR (A.ev.take i))/\Tm.get 6 t=iv i/\m'=m0) A.ev.length (by omega)
  ⟨by simp,by simp,by simp[nR],by simp,rfl⟩ (fun i t m' k hi hI hk=>?_)
 obtain⟨t1,t2,t5,t6,rfl⟩:=hI
 by_cases hil:i<A.ev.length
 ·have d1:((i:Int)<(A.ev.length:Int))=True:=eq_true (by omega)
  have w1:=qV (i:=i) (by omega)
  obtain⟨x,hx⟩:∃x,A.ev[i]?=some x:=⟨_,qcj hil⟩
  obtain⟨x1,-,x3⟩:=re.at hx
  have x4:load1 m' ⟨(adr 5 a.ev i).block,(adr 5 a.ev i).off+1,none⟩=some (iv x.kind):=x3 m' 1 none (Sees.refl st.sees.base) (by simp[kA])
  have x5:load1 m' ⟨(adr 5 a.ev i).block,(adr 5 a.ev i).off+1,(adr 5 a.ev i).spot⟩=some (iv x.kind):=x3 m' 1 _ (Sees.refl st.sees.base) (by simp[kA])
  have hn:=qbu hx
  have hle:=nR_le (A.ev.take i)
  have hln:(A.ev.take i).length<=1000:=by rw[List.length_take];omega
  by_cases hk1:x.kind=1
  ·rw[if_pos hk1]at hn
   have w2:=qV (i:=nR (A.ev.take i)) (by omega)
   simp[t1,t2,t5,t6,a0,le,d1,hil,x1,x4,x5,hk1,w1,w2]
   exact hk hil _ _ ⟨by simp[t1],by simp[t2],by simp[hn],by simp,rfl⟩
  ·rw[if_neg hk1]at hn
   have hk1':(x.kind=1)=False:=eq_false hk1
   simp[t1,t2,t5,t6,a0,le,d1,hil,x1,x4,x5,hk1',w1]
   exact hk hil _ _ ⟨by simp[t1],by simp[t2],by simp[hn,t5],by simp,rfl⟩
 ·obtain rfl:i=A.ev.length:=by omega
  rw[List.take_length]at t5
  simp[t1,t2,t5,t6,a0,le]
  exact qL st.ext (by simp)
end Go.Sx
namespace Go.Sx
open Go.Dx Go.Proofs
set_option maxRecDepth 10000
def KT (t t':Tm):Prop:=Tm.get 9 t'=Tm.get 9 t/\Tm.get 11 t'=Tm.get 11 t/\Tm.get 12 t'=Tm.get 12 t/\Tm.get 13 t'=Tm.get 13 t/\Tm.get 14 t'=Tm.get 14 t/\Tm.get 15 t'=Tm.get 15 t
section
variable {x:Ex} {kn kr:K} {ke:Nat->K} {Q:Option Out->Prop} {t:Tm} {m:M} {B C D:Nat} {ev v:Value} {A:List EvR} {l:List (Nat × Nat)} {p:Nat × Nat} {r e:EvR} {i j:Nat}
set_option maxHeartbeats 1000000 in
theorem form1 (hm:m.base<=m.n) (t9:Tm.get 9 t=.pointer (some ⟨B,0,none⟩)) (t14:Tm.get 14 t=.pointer (some ⟨C,0,none⟩)) (l0:load1 m ⟨C,0,none⟩=some (iv p.1)) (l1:load1 m ⟨C,1,none⟩=some (iv p.2)) (le:load1 m ⟨B,0,none⟩=some ev) (re:Rd m ev 5 kA A)
  (hr:A[p.1]?=some r) (hk:r.kind=1) (hlt:p.1<p.2) (hlen:p.2<A.length) (h:∀t',KT t t'->Q (kn t' m)):Q (Js x kn ke kr t m):=by
 have q1:((p.1:Int)<0)=False:=eq_false (by omega)
 have q2:((p.2:Int)<=(p.1:Int))=False:=eq_false (by omega)
 have q2':(p.2<=p.1)=False:=eq_false (by omega)
 have q3:((A.length:Int)<=(p.2:Int))=False:=eq_false (by omega)
 have q3':(A.length<=p.2)=False:=eq_false (by omega)
 have len:=re.len
 obtain⟨x1,-,x3⟩:=re.at hr
 have x4:load1 m ⟨(adr 5 ev p.1).block,(adr 5 ev p.1).off+1,none⟩=some (iv r.kind):=x3 m 1 none (Sees.refl hm) (by simp[kA])
 have x5:=x3 m 1 (adr 5 ev p.1).spot (Sees.refl hm) (by simp[kA])
 simp[t9,t14,l0,l1,le,len,q1,q2,q2',q3,q3',x1,x4,hk]
 exact h _ ⟨by simp,by simp,by simp,by simp,by simp,by simp⟩
set_option maxHeartbeats 4000000 in
theorem form2 (hm:m.base<=m.n) {J:Int} (t11:Tm.get 11 t=.pointer (some ⟨D,0,none⟩)) (t12:Tm.get 12 t=iv i) (t13:Tm.get 13 t=iv J) (t14:Tm.get 14 t=.pointer (some ⟨C,0,none⟩)) (l0:load1 m ⟨C,0,none⟩=some (iv p.1)) (l1:load1 m ⟨C,1,none⟩=some (iv p.2))
  (ia:zc 4 1 (.pointer (some ⟨D,0,none⟩)) (iv i)=some (.pointer (some ⟨D,i,none⟩))) (ld:load1 m ⟨D,i,none⟩=some v) (rl:Rd m v 2 qd l)
  (hJ:J=0\/0<J/\∃(j:Nat) (q:Nat × Nat),IntKind.i64.wrap (J - 1)=(j:Int)/\l[j]?=some q/\ltP q p=true) (h:∀t',KT t t'->Q (kn t' m)):Q (Jt x kn ke kr t m):=by
 rcases hJ with rfl | ⟨h0,j,q,w,hq,hlt⟩
 ·simp[t13]
  exact h _ ⟨by simp,by simp,by simp,by simp,by simp,by simp⟩
 have h0':((0:Int)<J)=True:=eq_true h0
 obtain⟨x1,-,x3⟩:=rl.at hq
 have y0:load1 m ⟨(adr 2 v j).block,(adr 2 v j).off,none⟩=some (iv q.1):=x3 m 0 none (Sees.refl hm) (by simp[qd])
 have y1:load1 m ⟨(adr 2 v j).block,(adr 2 v j).off+1,none⟩=some (iv q.2):=x3 m 1 none (Sees.refl hm) (by simp[qd])
 have z0:load1 m ⟨(adr 2 v j).block,(adr 2 v j).off,(adr 2 v j).spot⟩=some (iv q.1):=x3 m 0 (adr 2 v j).spot (Sees.refl hm) (by simp[qd])
 have z1:load1 m ⟨(adr 2 v j).block,(adr 2 v j).off+1,(adr 2 v j).spot⟩=some (iv q.2):=x3 m 1 (adr 2 v j).spot (Sees.refl hm) (by simp[qd])
 have hl:q.1<p.1\/(q.1=p.1/\q.2<p.2):=by unfold ltP at hlt;simpa using hlt
 have q1:((p.1:Int)<(q.1:Int))=False:=eq_false (by omega)
 have q1':(p.1<q.1)=False:=eq_false (by omega)
 by_cases c:p.1=q.1
 ·have q2:((p.1:Int)=(q.1:Int))=True:=eq_true (by omega)
  have q3:((p.2:Int)<=(q.2:Int))=False:=eq_false (by omega)
  have q3':(p.2<=q.2)=False:=eq_false (by omega)
  rw[c]at l0 q1 q1'
  simp[t11,t12,t13,t14,l0,l1,ia,ld,h0',w,x1,y0,y1,z0,z1,q1,q1',q3,q3']
  exact h _ ⟨by simp,by simp,by simp,by simp,by simp,by simp⟩
 ·have q2:((p.1:Int)=(q.1:Int))=False:=eq_false (by omega)
  have q2':(p.1=q.1)=False:=eq_false c
  simp[t11,t12,t13,t14,l0,l1,ia,ld,h0',w,x1,y0,y1,z0,z1,q1,q1',q2,q2']
  exact h _ ⟨by simp,by simp,by simp,by simp,by simp,by simp⟩
set_option maxHeartbeats 4000000 in
theorem form3 (hm:m.base<=m.n) (t9:Tm.get 9 t=.pointer (some ⟨B,0,none⟩)) (t12:Tm.get 12 t=iv i) (t14:Tm.get 14 t=.pointer (some ⟨C,0,none⟩)) (t15:Tm.get 15 t=iv e.kind) (l0:load1 m ⟨C,0,none⟩=some (iv p.1)) (l1:load1 m ⟨C,1,none⟩=some (iv p.2)) (le:load1 m ⟨B,0,none⟩=some ev) (re:Rd m ev 5 kA A)
  (hr:A[p.1]?=some r) (he:A[p.2]?=some e) (hlen:A.length<=1000) (hi:i<4) (f0:i=0->p.2=p.1+1/\e.kind=2/\r.loc=e.loc) (f1:i=1->e.kind≠3) (f2:i=2->e.kind=2) (h:∀t',KT t t'->Q (kn t' m)):Q (Ju x kn ke kr t m):=by
 have fin:∀t',(Tm.get 9 t'=Tm.get 9 t/\Tm.get 11 t'=Tm.get 11 t/\Tm.get 12 t'=Tm.get 12 t/\Tm.get 13 t'=Tm.get 13 t/\Tm.get 14 t'=Tm.get 14 t/\Tm.get 15 t'=Tm.get 15 t)->Q (kn t' m):=h
 rcases (by omega:i=0\/i=1\/i=2\/i=3) with rfl | rfl | rfl | rfl
 ·obtain⟨a1,a2,a3⟩:=f0 rfl
  have hp:=(qcl.1 hr).1
  have w:=qV (i:=p.1) (by omega)
  obtain⟨b,hb⟩:∃b:Int,b=((p.2:Nat):Int):=⟨_,rfl⟩
  rw[<-a1,<-hb]at w
  have l1':load1 m ⟨C,1,none⟩=some (iv b):=by rw[hb];exact l1
  obtain⟨x1,-,x3⟩:=re.at hr
  obtain⟨y1,-,y3⟩:=re.at he
  have x4:load1 m ⟨(adr 5 ev p.1).block,(adr 5 ev p.1).off+2,none⟩=some (iv r.loc):=x3 m 2 none (Sees.refl hm) (by simp[kA])
  have x5:load1 m ⟨(adr 5 ev p.1).block,(adr 5 ev p.1).off+2,(adr 5 ev p.1).spot⟩=some (iv r.loc):=x3 m 2 _ (Sees.refl hm) (by simp[kA])
  have y4:load1 m ⟨(adr 5 ev p.2).block,(adr 5 ev p.2).off+2,none⟩=some (iv e.loc):=y3 m 2 none (Sees.refl hm) (by simp[kA])
  have y5:load1 m ⟨(adr 5 ev p.2).block,(adr 5 ev p.2).off+2,(adr 5 ev p.2).spot⟩=some (iv e.loc):=y3 m 2 _ (Sees.refl hm) (by simp[kA])
  rw[<-hb]at y1
  rw[a2]at t15
  simp[t9,t12,t14,t15,l0,l1',le,w,x1,x4,x5,y1,y4,y5,a3]
  exact fin _ ⟨by simp,by simp,by simp,by simp,by simp,by simp⟩
 ·have q:(e.kind=3)=False:=eq_false (f1 rfl)
  simp[t9,t12,t14,t15,q]
  exact fin _ ⟨by simp,by simp,by simp,by simp,by simp,by simp⟩
 ·rw[f2 rfl]at t15
  simp[t9,t12,t14,t15]
  exact fin _ ⟨by simp,by simp,by simp,by simp,by simp,by simp⟩
 ·simp[t9,t12,t14,t15]
  exact fin _ ⟨by simp,by simp,by simp,by simp,by simp,by simp⟩
end
theorem ia4 (D:Nat) {k:Nat} (h:k<4):zc 4 1 (.pointer (some ⟨D,0,none⟩)) (iv k)=some (.pointer (some ⟨D,k,none⟩)):=by
 have h1:vb (iv k)=some k:=rfl
 have h2:Nat.blt k 4=true:=by rw[<-Nat.blt_eq]at h;exact h
 unfold zc
 rw[h1,qK,yt,qK,h2,cond_true,Nat.mul_one]
 show some (Value.pointer (some ⟨D,0+k,none⟩))=_
 rw[Nat.zero_add]
end Go.Sx
namespace Go.Sx
open Go.Dx Go.Proofs
set_option maxRecDepth 10000
theorem bu_4 {a b c d:Value} (ha:okC a=true) (hb:okC b=true) (hc:okC c=true) (hd:okC d=true):ww [zS,zS,zS,zS] [(0,1,a),(1,1,b),(2,1,c),(3,1,d)]=some (.agg ⟨[a,b,c,d]⟩):=by
 have k:∀v:Value,okC v=true->ji v=some [v]:=fun v hv=>by cases v<;>first | rfl | simp[okC]at hv
 unfold ww
 simp only[Zm,k a ha,k b hb,k c hc,k d hd,qK]
 rfl
theorem _root_.Go.Dx.Rd.extR {α:Type} {m m':M} {v:Value} {e:Nat} {f:α->List Value} {es:List α} (h:Rd m v e f es) (k:Ext m m'):Rd m' v e f es:=h.congr k.n fun B hB=>k.obj B (h.lt B hB)
theorem RL.any {m:M} {s:Mch} {S:PM} (h:RL m s S):RL (qe m) s S:=h.kp (D:=[]) ⟨by rw[qp];exact qcm _,fun B _ _=>qq _ _⟩ (by simp)
set_option maxHeartbeats 8000000 in
theorem CpuForm_c (n:Nat) {m:M} (hm:m.base<=m.n) {wl rl bl:Value} {ws rs:List Nat} {wins:List Bool} (hws:Rd m wl 1 yr ws) (hrs:Rd m rl 1 vO rs) (hbs:Rd m bl 1 VH wins) (srl:Sp 1 rl) (sbl:Sp 1 bl) (hv:∀v∈rs,v<W64) (f:Int) :
  CallV (Ex.step Tryz.prog (xA (n+40))) 6 [wl,rl,bl,iv f] m (.bool true):=by
 refine step_ret da0_ok (by simp) ?_
 have aw0:=xA_aw (n+40) m
 obtain⟨F,hF,hFl⟩:=clampN f 20000
 have hF':min (max f 0) 20000=(F:Int):=hF
 have z1:=mm_max f 0
 have z2:=mm_min (max f 0) 20000
 rw[hF']at z2
 obtain⟨v1,m1,a1,a2,a3⟩:=(Fe (n+5) hm hws hrs hbs srl sbl hv (fuel:=(F:Int)) (by omega)).xA (by decide)
 have a1:(xA (n+40)).f 16 [wl,rl,bl,iv F] m=some (v1,m1):=a1
 have st1:=((St.nil hm (Ext.refl m)).step a2).row z9
 rcases a3 with ⟨he,rfl⟩ | ⟨he,q1,rfl,r1,n1,-,-,u1⟩
 ·obtain⟨m2,b1,st2,-,-⟩:=st1.fill 0 rfl (n:=9) (l':=z9) rfl rfl (by simp[okC])
  have b1':qz 9 (.pointer (some ⟨m1.n,0,none⟩)) (.agg ⟨[zS,zS,zS,zS,zS,zS,zI,zI,zI]⟩) (Dx.newRow m1 [zS,zS,zS,zS,zS,zS,zI,zI,zI])=some (undef,m2):=b1
  have b2:loads m2 ⟨m1.n,0,none⟩ 9=some z9:=(st2.get 0 rfl).2.2.loads (o:=0) (n:=9) (by simp)
  have hne:(xD ws=0)=False:=eq_false he
  obtain⟨v3,m3,c1,c2,rfl⟩:=(qa2 (n+36) st2.sees.base).xA (by decide)
  have c1':(xA (n+40)).f 17 [.agg ⟨[zS,zS,zS,zS,zS,zS,zI,zI,zI]⟩] m2=some (.bool true,m3):=c1
  simp[aw0,Dk,z1,z2,a1,b1',hne,qc,b2,c1']
  exact qL (st2.ext.trans c2) (by simp)
 obtain⟨m2,b1,st2,b2,b3⟩:=st1.fill 0 rfl (n:=9) (l':=qY q1) rfl rfl r1.ok
 have b1':qz 9 (.pointer (some ⟨m1.n,0,none⟩)) (.agg ⟨qY q1⟩) (Dx.newRow m1 [zS,zS,zS,zS,zS,zS,zI,zI,zI])=some (undef,m2):=b1
 obtain⟨A,hA⟩:=qd6 (zx ws rs wins F)
 have fo:QO A:=by rw[hA];exact ZS he rs wins (by omega) hv
 rw[<-hA]at r1 u1
 have K12:Kp [m1.n] m1 m2:=(Ext.row m1 z9).kp.trans (Kp.put b2 b3 (by simp))
 have R1:RL m2 q1 A:=r1.kp K12 fun F hF B hB hc=>by
  have:=(r1.ls F hF).lt B hB
  simp at hc;omega
 obtain⟨v3,x3,c1,c0,c2,rfl⟩:=ql ((DZ (n+39) (qC m2) (R1.any) (by have:=fo.len;omega)).xA (by decide))
 obtain⟨m3,hm3⟩:=qd6 (Dx.behind m2 x3)
 rw[<-hm3]at c2
 have st3:=st2.step c2
 have l0:load1 m2 ⟨m1.n,0,none⟩=some q1.ev:=(st2.get 0 rfl).2.2.load1 0 none
 have l8:load1 m2 ⟨m1.n,8,none⟩=some (iv q1.us):=(st2.get 0 rfl).2.2.load1 8 none
 have l9:loads m2 ⟨m1.n,0,none⟩ 9=some (qY q1):=(st2.get 0 rfl).2.2.loads (o:=0) (n:=9) (by simp[qY])
 have len:=R1.rdEv.len
 have us:q1.us=(nR A.ev:Int):=u1.trans fo.us
 have d256:((256:Int)<(A.ev.length:Int))=False:=eq_false (by have:=fo.len;omega)
 have d256':(256<A.ev.length)=False:=eq_false (by have:=fo.len;omega)
 have k1:load1 m3 ⟨m1.n,1,none⟩=some q1.rmw:=(st3.get 0 rfl).2.2.load1 1 none
 have k2:load1 m3 ⟨m1.n,2,none⟩=some q1.addr:=(st3.get 0 rfl).2.2.load1 2 none
 have k3:load1 m3 ⟨m1.n,3,none⟩=some q1.data:=(st3.get 0 rfl).2.2.load1 3 none
 have k4:load1 m3 ⟨m1.n,4,none⟩=some q1.ctrl:=(st3.get 0 rfl).2.2.load1 4 none
 have st4:=st3.row [kg,kg,kg,kg]
 obtain⟨m4,d1,st5,d2,d3⟩:=st4.fill 0 rfl (n:=4) (l':=[q1.rmw,q1.addr,q1.data,q1.ctrl]) rfl rfl (by
  have:=r1.ok
  simp[qY]at this ⊢
  exact⟨this.2.1,this.2.2.1,this.2.2.2.1,this.2.2.2.2.1⟩)
 have d1':qz 4 (.pointer (some ⟨m3.n,0,none⟩)) (.agg ⟨[q1.rmw,q1.addr,q1.data,q1.ctrl]⟩) (Dx.newRow m3 [zS,zS,zS,zS])=some (undef,m4):=d1
 have bu:ww [zS,zS,zS,zS] [(0,1,q1.rmw),(1,1,q1.addr),(2,1,q1.data),(3,1,q1.ctrl)]=some (.agg ⟨[q1.rmw,q1.addr,q1.data,q1.ctrl]⟩):=by
  have:=r1.ok
  simp[qY]at this
  exact bu_4 this.2.1 this.2.2.1 this.2.2.2.1 this.2.2.2.2.1
 have K34:Kp [m3.n] m3 m4:=(Ext.row m3 [kg,kg,kg,kg]).kp.trans (Kp.put d2 d3 (by simp))
 have R4:RL m4 q1 A:=(R1.ext c2).kp K34 fun F hF B hB hc=>by
  have:=((R1.ext c2).ls F hF).lt B hB
  simp at hc;omega
 simp[aw0,Dk,z1,z2,a1,b1',qc,l0,len,d256,d256',l8,l9,c1,c0,<-hm3,us,k1,k2,k3,k4,bu,d1']
 have sz:=Xn he rs wins (fuel:=(F:Int)) (by omega) hv
 rw[<-hA]at sz
 have tab:∀i,i<4->∃v l,[q1.rmw,q1.addr,q1.data,q1.ctrl][i]?=some v/\Rd m4 v 2 qd l/\l.length<=100000000/\(l.Pairwise fun p q=>ltP p q=true) /\
   ∀p∈l,∃r e,A.ev[p.1]?=some r/\r.kind=1/\p.1<p.2/\A.ev[p.2]?=some e/\(i=0->p.2=p.1+1/\e.kind=2/\r.loc=e.loc)/\(i=1->e.kind≠3)/\(i=2->e.kind=2):=fun i hi=>by
  have:=sz.rmw;have:=sz.addr;have:=sz.data;have:=sz.ctrl
  rcases (by omega:i=0\/i=1\/i=2\/i=3) with rfl | rfl | rfl | rfl
  ·refine⟨_,_,rfl,R4.rdRmw,by omega,fo.rmw.up,fun p hp=>?_⟩
   obtain⟨r,e,h1,h2,h3,h4,h5⟩:=fo.rmw.ok p hp
   exact⟨r,e,h1,h2,h3,h4,fun _=>h5,fun h=>by omega,fun h=>by omega⟩
  ·refine⟨_,_,rfl,R4.rdAddr,by omega,fo.addr.up,fun p hp=>?_⟩
   obtain⟨r,e,h1,h2,h3,h4,h5⟩:=fo.addr.ok p hp
   exact⟨r,e,h1,h2,h3,h4,fun h=>by omega,fun _=>h5,fun h=>by omega⟩
  ·refine⟨_,_,rfl,R4.rdData,by omega,fo.data.up,fun p hp=>?_⟩
   obtain⟨r,e,h1,h2,h3,h4,h5⟩:=fo.data.ok p hp
   exact⟨r,e,h1,h2,h3,h4,fun h=>by omega,fun h=>by omega,fun _=>h5⟩
  ·refine⟨_,_,rfl,R4.rdCtrl,by omega,fo.ctrl.up,fun p hp=>?_⟩
   obtain⟨r,e,h1,h2,h3,h4,h5⟩:=fo.ctrl.ok p hp
   exact⟨r,e,h1,h2,h3,h4,fun h=>by omega,fun h=>by omega,fun h=>by omega⟩
 have hm4:=st5.sees.base
 have alen:=fo.len
 refine qE (c:=Fv) rfl (Ret m _) (fun i t m'=>Tm.get 9 t=.pointer (some ⟨m1.n,0,none⟩)/\Tm.get 11 t=.pointer (some ⟨m3.n,0,none⟩)/\Tm.get 12 t=iv i/\Ext m4 m') 4 (by omega)
  ⟨by simp,by simp,by simp,Ext.refl _⟩ (fun i t m' k hi hI hk=>?_)
 obtain⟨t9,t11,t12,E⟩:=hI
 by_cases hil:i<4
 ·obtain⟨v,l,g1,g2,g3,g4,g5⟩:=tab i hil
  have ia:=ia4 m3.n hil
  have d1:((i:Int)<4)=True:=eq_true (by omega)
  have w1:=qV (i:=i) (by omega)
  simp[t12,d1,hil]
  refine qE (c:=Fu) rfl (Ret m _) (fun j t m'=>Tm.get 9 t=.pointer (some ⟨m1.n,0,none⟩)/\Tm.get 11 t=.pointer (some ⟨m3.n,0,none⟩)/\Tm.get 12 t=iv i/\Tm.get 13 t=iv j/\Ext m4 m') l.length (by omega)
   ⟨by simp[t9],by simp[t11],by simp[t12],by simp,E⟩ (fun j t m' kk hj hI hkk=>?_)
  obtain⟨t9,t11,t12,t13,E⟩:=hI
  have st6:=st5.step E
  have ld:load1 m' ⟨m3.n,i,none⟩=some v:=by rw[(st6.get 0 rfl).2.2.load1];exact g1
  have rl:=g2.extR E
  have ll:=rl.len
  by_cases hjl:j<l.length
  ·have d2:((j:Int)<(l.length:Int))=True:=eq_true (by omega)
   obtain⟨p,hp⟩:∃p,l[j]?=some p:=⟨_,qcj hjl⟩
   obtain⟨r,e,h1,h2,h3,h4,h5,h6,h7⟩:=g5 p (qck hp)
   obtain⟨x1,x2,-⟩:=rl.at hp
   have x2':=x2 m' (Sees.refl st6.sees.base)
   have own:=((St.nil hm4 E).row [zI,zI])
   obtain⟨m6,e1,own6,e2,e3⟩:=own.fill 0 rfl (n:=2) (l':=qd p) rfl rfl (by simp[qd,okC])
   have E6:=own6.ext
   have st7:=st5.step E6
   have hm6:=st7.sees.base
   have y0:load1 m6 ⟨m'.n,0,none⟩=some (iv p.1):=(own6.get 0 rfl).2.2.load1 0 none
   have y1:load1 m6 ⟨m'.n,1,none⟩=some (iv p.2):=(own6.get 0 rfl).2.2.load1 1 none
   have le:load1 m6 ⟨m1.n,0,none⟩=some q1.ev:=(st7.get 1 rfl).2.2.load1 0 none
   have ld6:load1 m6 ⟨m3.n,i,none⟩=some v:=by rw[(st7.get 0 rfl).2.2.load1];exact g1
   have re:=(R4.ext E6).rdEv
   have w2:=qV (i:=j) (by omega)
   simp[-VM,t9,t11,t12,t13,ia,ld,ll,d2,hjl,x1,x2',qc,e1]
   refine form1 hm6 (B:=m1.n) (C:=m'.n) (p:=p) (by simp[t9]) (by simp) y0 y1 le re h1 h2 h3 (qcl.1 h4).1 (fun t1 ⟨s1,s2,s3,s4,s5,s6⟩=>?_)
   simp[t9,t11,t12,t13]at s1 s2 s3 s4 s5
   simp[-VN]
   refine form2 hm6 (D:=m3.n) (C:=m'.n) (p:=p) (i:=i) (v:=v) (J:=(j:Int)) s2 s3 s4 s5 y0 y1 ia ld6 (g2.extR E6) ?_ (fun t2 ⟨u1,u2,u3,u4,u5,u6⟩=>?_)
   ·cases j with
    | zero=>exact .inl rfl
    | succ j =>
     obtain⟨q,hq⟩:∃q,l[j]?=some q:=⟨_,qcj (by omega)⟩
     refine .inr ⟨by omega,j,q,by rw[wrap64 _ (by omega) (by omega)];omega,hq,?_⟩
     obtain⟨b1,b2⟩:=qcl.1 hq
     obtain⟨b3,b4⟩:=qcl.1 hp
     rw[<-b2,<-b4]
     exact List.pairwise_iff_getElem.1 g4 j (j+1) b1 b3 (by omega)
   rw[s1]at u1;rw[s2]at u2;rw[s3]at u3;rw[s4]at u4;rw[s5]at u5
   obtain⟨z1,-,z3⟩:=re.at h4
   have z4:load1 m6 ⟨(adr 5 q1.ev p.2).block,(adr 5 q1.ev p.2).off+1,none⟩=some (iv e.kind):=z3 m6 1 none (Sees.refl hm6) (by simp[kA])
   have z5:load1 m6 ⟨(adr 5 q1.ev p.2).block,(adr 5 q1.ev p.2).off+1,(adr 5 q1.ev p.2).spot⟩=some (iv e.kind):=z3 m6 1 _ (Sees.refl hm6) (by simp[kA])
   simp[-VO,u1,u5,le,y1,z1,z4,z5]
   refine form3 hm6 (B:=m1.n) (C:=m'.n) (p:=p) (i:=i) (r:=r) (e:=e) (by simp[u1]) (by simp[u3]) (by simp[u5]) (by simp) y0 y1 le re h1 h4 (by omega) hil h5 h6 h7 (fun t3 ⟨o1,o2,o3,o4,o5,o6⟩=>?_)
   simp[u1,u2,u3,u4]at o1 o2 o3 o4
   simp[o4,w2]
   exact hkk hjl _ _ ⟨by simp[o1],by simp[o2],by simp[o3],by simp,E6⟩
  ·obtain rfl:j=l.length:=by omega
   simp[t12,t13,t11,ia,ld,ll,w1]
   exact hk hil _ _ ⟨by simp[t9],by simp[t11],by simp,E⟩
 obtain rfl:i=4:=by omega
 simp[t12]
 refine qE (c:=Fx) rfl (Ret m _) (fun j t m'=>Tm.get 9 t=.pointer (some ⟨m1.n,0,none⟩)/\Tm.get 16 t=iv j/\Ext m4 m') A.ev.length (by omega)
  ⟨by simp[t9],by simp,E⟩ (fun j t m' kk hj hI hkk=>?_)
 obtain⟨t9,t16,E⟩:=hI
 have st6:=st5.step E
 have le:load1 m' ⟨m1.n,0,none⟩=some q1.ev:=(st6.get 1 rfl).2.2.load1 0 none
 have re:=(R4.ext E).rdEv
 have ll:=re.len
 by_cases hjl:j<A.ev.length
 ·have d2:((j:Int)<(A.ev.length:Int))=True:=eq_true (by omega)
  have w2:=qV (i:=j) (by omega)
  obtain⟨e,hp⟩:∃p,A.ev[j]?=some p:=⟨_,qcj hjl⟩
  have eo:=fo.ev e (qck hp)
  obtain⟨x1,x2,-⟩:=re.at hp
  have x2':=x2 m' (Sees.refl st6.sees.base)
  have own:=((St.nil hm4 E).row [zI,zI,zI,zU,zI])
  obtain⟨m6,e1,own6,e2,e3⟩:=own.fill 0 rfl (n:=5) (l':=kA e) rfl rfl (by simp[kA,okC])
  have E6:=own6.ext
  have y0:load1 m6 ⟨m'.n,0,none⟩=some (iv 0):=by rw[<-eo.th];exact (own6.get 0 rfl).2.2.load1 0 none
  have y1:load1 m6 ⟨m'.n,1,none⟩=some (iv e.kind):=(own6.get 0 rfl).2.2.load1 1 none
  have y2:load1 m6 ⟨m'.n,2,none⟩=some (iv e.loc):=(own6.get 0 rfl).2.2.load1 2 none
  have y3:load1 m6 ⟨m'.n,3,none⟩=some (uv e.val):=(own6.get 0 rfl).2.2.load1 3 none
  by_cases hk3:e.kind=3
  ·obtain⟨c1,c2⟩:=eo.fence hk3
   rw[hk3]at y1
   rw[c1]at y2
   rw[c2]at y3
   simp[t9,t16,le,ll,d2,hjl,x1,x2',qc,e1,y0,y1,y2,y3,w2]
   exact hkk hjl _ _ ⟨by simp[t9],by simp,E6⟩
  ·obtain⟨c1,c2⟩:=eo.loc hk3
   have k3:(e.kind=3)=False:=eq_false hk3
   have q1:(e.loc<0)=False:=eq_false (by omega)
   have q2:((4096:Int)<=e.loc)=False:=eq_false (by omega)
   simp[t9,t16,le,ll,d2,hjl,x1,x2',qc,e1,y0,y1,y2,y3,k3,q1,q2,w2]
   exact hkk hjl _ _ ⟨by simp[t9],by simp,E6⟩
 ·obtain rfl:j=A.ev.length:=by omega
  simp[t9,t16,le,ll]
  exact qL st6.ext (by simp)
end Go.Sx
namespace Go.Dx
open Go.RowKit Go.WideShapes Go.ChangeShapes
section
variable {H:Type} {enc:TypeId × Value->H} {P:Program}
theorem args_stay (hl:laidOutB P=true) {W W':World}:∀(ts:List TypeId) (vs:List Value) (ds:List (DataW H)) (ps:List MemPlace),(ts.all fun t=>P.readableRec t && decide (t<P.types.size))=true ->
  DataW.TrodAll enc P W 0 (fun _=>true) true ts vs ds ps->(∀p∈ps,W.sameAt W' p)->∀sp:Nat->Bool,(∀p∈ps,sp p.block=true)->DataW.TrodAll enc P W' 0 sp true ts vs ds ps
 | [],vs,ds,ps,_,h,_,_,_=>by
  obtain⟨rfl,rfl,rfl⟩:=trodAll_nil h
  exact rfl
 | t :: ts,vs,ds,ps,ha,h,hs,sp,hsp=>by
  obtain⟨v,vs',d,ds',p,q,rfl,rfl,rfl,h1,h2⟩:=trodAll_cons h
  simp only[List.all_cons,qcp,decide_eq_true_eq]at ha
  exact⟨p,q,WideElems.Trod_stays hl ha.1.1 ha.1.2 h1 (fun x hx=>hs x (List.mem_append_left _ hx)) (fun x hx=>hsp x (List.mem_append_left _ hx)),
   args_stay hl ts vs' ds' q ha.2 h2 (fun x hx=>hs x (List.mem_append_right _ hx)) sp (fun x hx=>hsp x (List.mem_append_right _ hx)),rfl⟩
end
end Go.Dx
namespace Go.Sx
open Go.RowKit Go.WideShapes Go.ChangeShapes Go.Dx
theorem ZQ {α β:Type} {m:M} {v:Value} {e:Nat} {f:β->List Value} {g:α->β} {l:List α} (h:Rd m v e (fun x=>f (g x)) l):Rd m v e f (l.map g) :=
 ⟨by rw[List.length_map];exact h.len,fun i r hr=>by
  rw[qcz,Option.map_eq_some_iff]at hr
  obtain⟨x,hx,rfl⟩:=hr
  exact h.row i x hx,by rw[List.length_map,List.flatMap_map];exact h.all,h.lt⟩
section
variable {H:Type} {enc:TypeId × Value->H} {P:Program} {w:World}
abbrev N64:Type:={ x:Nat // x<18446744073709551616 }
instance:Inhabited N64:=⟨⟨0,by decide⟩⟩
abbrev N32:Type:={ x:Nat // x<4294967296 }
instance:Inhabited N32:=⟨⟨0,by decide⟩⟩
def XD (d:DataW H) (n:Nat):Prop:=n=0\/∃elems spare,d=.slice elems spare/\elems.length=n
theorem Kq {α:Type} [Inhabited α] {tu tus:TypeId} {f:α->List Value} (hs:P.underlying tus=some (.slice tu)) (huc:P.cellsOf tu=1) (hrow:∀n cs y,DataW.trod enc P w 0 (fun _=>true) true n tu cs=some y->∃x:α,cs=f x) (hint:∀x,(f x).length=1/\∀v∈f x,fb v=some v)
  {b0:Nat} {v:Value} {d:DataW H} {pl:List MemPlace} (hv:Value.okWide P w .any b0 tus v) (h:DataW.Trod enc P w 0 (fun _=>true) true tus v d pl) (hz:w.noneFrozen pl) :
  ∃(av:Value) (es:List α),VRel (vr w) av v/\Rd (snapM w) av 1 f es/\Sp 1 av/\XD d es.length:=by
 obtain⟨a0,len,cap,rfl⟩:=okWide_slice hs hv
 have k1:Cell.okWide P w .any b0 tus (.slice a0 len cap):=by have:=hv;simp only[Value.okWide,hs]at this;exact this
 obtain⟨fuel,hf⟩:=h
 obtain⟨av,es,r1,r2,r3,r4⟩:=VG (α:=α) (e:=tu) (sz:=1) (f:=f) hs huc (by omega) hrow hint hf (fun a l c e=>by rw[e]at k1;exact Xt hs k1) (fun b off hb=>hz b off hb)
 refine⟨av,es,r1,r2,r4,?_⟩
 rcases r3 with rfl | ⟨el,sp,e1,e2⟩
 ·exact .inl rfl
 ·exact .inr ⟨el,sp,e1,e2⟩
theorem u64_arg {tu tus:TypeId} (hs:P.underlying tus=some (.slice tu)) (hu:P.underlying tu=some (.int .u64)) (huc:P.cellsOf tu=1) {b0:Nat} {v:Value} {d:DataW H} {pl:List MemPlace} (hv:Value.okWide P w .any b0 tus v) (h:DataW.Trod enc P w 0 (fun _=>true) true tus v d pl) (hz:w.noneFrozen pl) :
  ∃(av:Value) (es:List Nat),VRel (vr w) av v/\Rd (snapM w) av 1 vO es/\Sp 1 av/\XD d es.length/\∀x∈es,x<W64:=by
 obtain⟨av,es,r1,r2,r3,r4⟩:=Kq (α:=N64) (f:=fun x=>vO x.1) hs huc (fun n cs y hh=>by
  obtain⟨x,e1,_,wb⟩:=DataW.trod_int hu hh
  simp only[Lit.wf,qcp,decide_eq_true_eq]at wb
  have h1:(0:Int)<=x:=wb.1
  have h2:x<=18446744073709551615:=wb.2
  exact⟨⟨x.toNat,by omega⟩,by rw[e1];show [Value.int .u64 x]=[Value.int .u64 (x.toNat:Int)];rw[Int.toNat_of_nonneg h1]⟩) (fun x=>⟨rfl,fun v hv=>by simp[vO]at hv;subst hv;rfl⟩) hv h hz
 refine⟨av,es.map (·.1),r1,ZQ (g:=fun x:N64=>x.1) r2,r3,by rw[List.length_map];exact r4,fun x hx=>?_⟩
 obtain⟨y,_,rfl⟩:=List.mem_map.1 hx
 exact y.2
theorem u32_arg {tu tus:TypeId} (hs:P.underlying tus=some (.slice tu)) (hu:P.underlying tu=some (.int .u32)) (huc:P.cellsOf tu=1) {b0:Nat} {v:Value} {d:DataW H} {pl:List MemPlace} (hv:Value.okWide P w .any b0 tus v) (h:DataW.Trod enc P w 0 (fun _=>true) true tus v d pl) (hz:w.noneFrozen pl) :
  ∃(av:Value) (es:List Nat),VRel (vr w) av v/\Rd (snapM w) av 1 yr es/\Sp 1 av/\XD d es.length/\∀x∈es,x<4294967296:=by
 obtain⟨av,es,r1,r2,r3,r4⟩:=Kq (α:=N32) (f:=fun x=>yr x.1) hs huc (fun n cs y hh=>by
  obtain⟨x,e1,_,wb⟩:=DataW.trod_int hu hh
  simp only[Lit.wf,qcp,decide_eq_true_eq]at wb
  have h1:(0:Int)<=x:=wb.1
  have h2:x<=4294967295:=wb.2
  exact⟨⟨x.toNat,by omega⟩,by rw[e1];show [Value.int .u32 x]=[Value.int .u32 (x.toNat:Int)];rw[Int.toNat_of_nonneg h1]⟩) (fun x=>⟨rfl,fun v hv=>by simp[yr]at hv;subst hv;rfl⟩) hv h hz
 refine⟨av,es.map (·.1),r1,ZQ (g:=fun x:N32=>x.1) r2,r3,by rw[List.length_map];exact r4,fun x hx=>?_⟩
 obtain⟨y,_,rfl⟩:=List.mem_map.1 hx
 exact y.2
theorem bool_arg {tu tus:TypeId} (hs:P.underlying tus=some (.slice tu)) (hu:P.underlying tu=some .bool) (huc:P.cellsOf tu=1) {b0:Nat} {v:Value} {d:DataW H} {pl:List MemPlace} (hv:Value.okWide P w .any b0 tus v) (h:DataW.Trod enc P w 0 (fun _=>true) true tus v d pl) (hz:w.noneFrozen pl) :
  ∃(av:Value) (es:List Bool),VRel (vr w) av v/\Rd (snapM w) av 1 VH es/\Sp 1 av/\XD d es.length:=by
 exact Kq (α:=Bool) (f:=VH) hs huc (fun n cs y hh=>by
  obtain⟨x,e1,_⟩:=DataW.trod_bool hu hh
  exact⟨x,e1⟩) (fun x=>⟨rfl,fun v hv=>by simp[VH]at hv;subst hv;rfl⟩) hv h hz
end
end Go.Sx
