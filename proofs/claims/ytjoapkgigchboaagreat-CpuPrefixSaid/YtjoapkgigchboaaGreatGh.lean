/- Contracts. -/
import Derived.Test.YtjoapkgigchboaaGreatGg
import Derived.Test.YtjoapkgigchboaaGreatGb3
import Derived.Test.YtjoapkgigchboaaGreatEd
import Derived.Test.YtjoapkgigchboaaGreatGa
import Derived.Test.YtjoapkgigchboaaGreatPost
import Derived.WideKeyArgs
set_option linter.unusedVariables false
set_option linter.unusedSimpArgs false
set_option linter.defProp false
namespace Go.Dx
theorem WA {c:C}:∀{a b o:Nat} {l:List Value},ldn c o (a+b)=some l->ldn c o a=some (l.take a)/\ldn c (o+a) b=some (l.drop a)
 | 0,b,o,l,h=>by rw[Nat.zero_add]at h;exact⟨rfl,h⟩
 | a+1,b,o,l,h=>by
  rw[show a+1+b=a+b+1 by omega,yn]at h
  obtain⟨v,hv,h⟩:=qb h
  obtain⟨t,ht,h⟩:=qb h
  have hl:l=v :: t:=by unfold XW at h;cases h;rfl
  subst hl
  obtain⟨h1,h2⟩:=WA ht
  refine⟨?_,?_⟩
  ·rw[yn,hv];show ob (ldn c (o+1) a) _=_;rw[h1];rfl
  ·rw[show o+(a+1)=o+1+a by omega,h2];rfl
theorem dq {m:M} {B o a b:Nat} {s:Option Nat} {l:List Value} (h:loads m ⟨B,o,s⟩ (a+b)=some l):loads m ⟨B,o,s⟩ a=some (l.take a)/\loads m ⟨B,o+a,s⟩ b=some (l.drop a):=by
 unfold loads at h ⊢
 obtain⟨c,hc,h⟩:=qb h
 simp only at hc
 rw[hc]
 exact WA h
section
variable {α:Type} {m:M} {v:Value} {e:Nat} {f:α->List Value} {l:List α}
theorem Rd.drop (h:Rd m v e f l) (hs:Sp e v) (hf:∀x,(f x).length=e) {k:Nat} (hk:k<=l.length):∃a n c,slV e (some (.int .i64 (k:Int))) none none v=some (.slice a n c)/\Rd m (.slice a n c) e f (l.drop k)/\Sp e (.slice a n c)/\(∀B,blk (.slice a n c)=some B->blk v=some B):=by
 rcases hs with rfl | ⟨B,o,n,c,x,rfl,hnc⟩
 ·have hl:l.length=0:=by have:=h.len;simp[zf]at this;omega
  have hk0:k=0:=by omega
  have hl':l=[]:=qdc hl
  subst hk0;subst hl'
  exact⟨none,0,0,rfl,h,.inl rfl,fun B hB=>hB⟩
 ·have hn:n=l.length:=by have:=h.len;simp[zf]at this;omega
  have hdl:(l.drop k).length=n - k:=by rw[List.length_drop,hn]
  have hfl:=wu hf l
  have hall:loads m ⟨B,o,some (code e x)⟩ (l.length*e)=some (l.flatMap f):=h.all
  have hsplit:l.length*e=k*e+(l.drop k).length*e:=by rw[hdl,hn,<-Nat.add_mul];congr 1;omega
  have hdrop:(l.flatMap f).drop (k*e)=(l.drop k).flatMap f:=by
   have hl2:l=l.take k ++ l.drop k:=(List.take_append_drop k l).symm
   have hlt:=wu hf (l.take k)
   rw[List.length_take,Nat.min_eq_left hk]at hlt
   conv=>lhs;rw[hl2,List.flatMap_append]
   rw[List.drop_append_of_le_length (by omega),<-hlt,List.drop_length,List.nil_append]
  rw[hsplit]at hall
  obtain⟨h1,h2⟩:=dq hall
  rw[hdrop]at h2
  have hb:yE n c (some (.int .i64 (k:Int))) none none=some (k,n,c):=by
   show ob (Qb (some (.int .i64 (k:Int))) 0 n) _=_
   show ob (bif Nat.ble k n then some k else none) _=_
   rw[qd3 (by omega)];rfl
  have hcd:Nat.beq (code e x / 2) e=true:=by
   have:code e x / 2=e:=by
    cases x
    ·show (2*e) / 2=e;omega
    ·show (2*e+1) / 2=e;omega
   rw[this,Nat.beq_refl]
  have hex:vh (code e x)=x:=by
   cases x
   ·show Nat.beq ((2*e) % 2) 1=false
    rw[show (2*e) % 2=0 by omega];rfl
   ·show Nat.beq ((2*e+1) % 2) 1=true
    rw[show (2*e+1) % 2=1 by omega];rfl
  have hsl:slV e (some (.int .i64 (k:Int))) none none (.slice (some ⟨B,o,some (code e x)⟩) n c)=some (.slice (some ⟨B,bif x && Nat.beq c k then o else o+k*e,some (code e x)⟩) (n - k) (c - k)):=by
   unfold slV
   simp only[qT,hb,hcd,hex,Option.isSome_none,Bool.or_false]
   rfl
  refine⟨_,_,_,hsl,⟨by rw[hdl];rfl,fun i r hr=>?_,?_,fun C hC=>by cases hC;exact h.lt _ rfl⟩,.inr ⟨_,_,_,_,_,rfl,by omega⟩,fun C hC=>hC⟩
  ·have hi:i<(l.drop k).length:=(qcx.1 hr).1
   rw[List.getElem?_drop]at hr
   have hck:(x && Nat.beq c k)=false:=by
    cases q:Nat.beq c k with
    | false=>simp
    | true=>have:=qd8 q;omega
   rw[hck]
   obtain⟨g1,g2,g3⟩:=h.row (k+i) r hr
   refine⟨?_,g2,?_⟩
   ·show (bif Nat.blt i (n - k) then fQ (i*e) _ else none)=_
    rw[show Nat.blt i (n - k)=true from qd3 (by omega)];rfl
   ·have e1:adr e (.slice (some ⟨B,o,some (code e x)⟩) n c) (k+i)=⟨B,o+(k+i)*e,none⟩:=rfl
    have e2:adr e (.slice (some ⟨B,bif false then o else o+k*e,some (code e x)⟩) (n - k) (c - k)) i=⟨B,o+k*e+i*e,none⟩:=rfl
    rw[e1]at g3
    rw[e2,<-g3,Nat.add_mul,Nat.add_assoc]
  ·show loads m ⟨B,bif x && Nat.beq c k then o else o+k*e,some (code e x)⟩ ((l.drop k).length*e)=_
   cases q:(x && Nat.beq c k) with
   | false=>exact h2
   | true =>
    rw[qd1]at q
    have:=qd8 q.2
    have h0:l.drop k=[]:=List.drop_eq_nil_of_le (by omega)
    rw[h0]at h2 ⊢
    unfold loads at h1 ⊢
    obtain⟨cc,hcc,_⟩:=qb h1
    simp only at hcc
    show ob (cellsOf m B) _=_
    rw[hcc]
    show ldn cc _ (0*e)=_
    rw[Nat.zero_mul];rfl
theorem Rd.take (h:Rd m v e f l) (hs:Sp e v) (hf:∀x,(f x).length=e) {k:Nat} (hk:k<=l.length):∃a n c,slV e none (some (.int .i64 (k:Int))) none v=some (.slice a n c)/\Rd m (.slice a n c) e f (l.take k)/\Sp e (.slice a n c)/\(∀B,blk (.slice a n c)=some B->blk v=some B):=by
 rcases hs with rfl | ⟨B,o,n,c,x,rfl,hnc⟩
 ·have hl:l.length=0:=by have:=h.len;simp[zf]at this;omega
  have hk0:k=0:=by omega
  have hl':l=[]:=qdc hl
  subst hk0;subst hl'
  exact⟨none,0,0,rfl,h,.inl rfl,fun B hB=>hB⟩
 ·have hn:n=l.length:=by have:=h.len;simp[zf]at this;omega
  have htl:(l.take k).length=k:=by rw[List.length_take,Nat.min_eq_left hk]
  have hall:loads m ⟨B,o,some (code e x)⟩ (l.length*e)=some (l.flatMap f):=h.all
  have hsplit:l.length*e=k*e+(l.length - k)*e:=by rw[<-Nat.add_mul];congr 1;omega
  have htake:(l.flatMap f).take (k*e)=(l.take k).flatMap f:=by
   have hl2:l=l.take k ++ l.drop k:=(List.take_append_drop k l).symm
   have hlt:=wu hf (l.take k)
   rw[htl]at hlt
   conv=>lhs;rw[hl2,List.flatMap_append]
   rw[List.take_append_of_le_length (by omega),<-hlt,List.take_length]
  rw[hsplit]at hall
  obtain⟨h1,h2⟩:=dq hall
  rw[htake]at h1
  have hcd:Nat.beq (code e x / 2) e=true:=by
   have:code e x / 2=e:=by
    cases x
    ·show (2*e) / 2=e;omega
    ·show (2*e+1) / 2=e;omega
   rw[this,Nat.beq_refl]
  have hex:vh (code e x)=x:=by
   cases x
   ·show Nat.beq ((2*e) % 2) 1=false
    rw[show (2*e) % 2=0 by omega];rfl
   ·show Nat.beq ((2*e+1) % 2) 1=true
    rw[show (2*e+1) % 2=1 by omega];rfl
  have hb:yE n c none (some (.int .i64 (k:Int))) none=some (0,k,c):=by
   show ob (Qb (some (.int .i64 (k:Int))) n c) _=_
   show ob (bif Nat.ble k c then some k else none) _=_
   rw[qd3 (by omega)];rfl
  have hoff:(bif x && Nat.beq c 0 then o else o+0*e)=o:=by cases (x && Nat.beq c 0)<;>simp
  have hsl:slV e none (some (.int .i64 (k:Int))) none (.slice (some ⟨B,o,some (code e x)⟩) n c)=some (.slice (some ⟨B,o,some (code e x)⟩) k c):=by
   unfold slV
   simp only[qT,hb,hcd,hex,Option.isSome_none,Bool.or_false]
   show some (Value.slice (some ⟨B,bif x && Nat.beq c 0 then o else o+0*e,some (code e x)⟩) (k - 0) (c - 0))=_
   rw[hoff];rfl
  refine⟨_,_,_,hsl,⟨by rw[htl];rfl,fun i r hr=>?_,?_,fun C hC=>by cases hC;exact h.lt _ rfl⟩,.inr ⟨_,_,_,_,_,rfl,by omega⟩,fun C hC=>hC⟩
  ·have hi:i<(l.take k).length:=(qcx.1 hr).1
   rw[htl]at hi
   rw[List.getElem?_take,if_pos hi]at hr
   obtain⟨g1,g2,g3⟩:=h.row i r hr
   refine⟨?_,g2,g3⟩
   show (bif Nat.blt i k then fQ (i*e) _ else none)=_
   rw[show Nat.blt i k=true from qd3 hi];rfl
  ·show loads m ⟨B,o,some (code e x)⟩ ((l.take k).length*e)=_
   rw[htl];exact h1
end
end Go.Dx
namespace Go.Sx
open Go.Dx Go.Proofs
set_option maxRecDepth 10000
theorem jS {S:PM} {w:Wnt} (h:look S=some w):qX S=(S,w):=xI h _
theorem YH {S:PM} (h:WF S):qX (qX S).1=qX S:=by
 rw[jS (zn h).1]
theorem Ju (S:PM) (i:Ins) (w:Wnt) (v b:Nat):(storeP S i w v b).outs=S.outs:=by
 unfold storeP
 cases w.ex with
 | false=>rfl
 | true =>
  simp only[if_true]
  split
  ·exact (wx _ _ _ _).outs
  ·exact (wx _ _ _ _).outs
theorem bY (S:PM) (i:Ins) (w:Wnt) (v b:Nat):(wJ S i w v b).outs=S.outs:=by
 unfold wJ
 simp only
 split
 ·exact (wx _ _ _ _).outs
 ·exact (wx _ _ _ _).outs
theorem ZC (w:Wnt) (b:Nat) (S:PM):(exP w b S).outs=S.outs:=by unfold exP;split<;>rfl
theorem Yk (S:PM) (b:Nat):(vJ S b).outs=S.outs:=by unfold vJ;split<;>rfl
theorem JW (S:PM) (i:Ins) (w:Wnt) (v:Nat):(zd S i w v).outs=if w.what=4 then S.outs ++ [w.val] else S.outs:=by
 unfold zd
 by_cases h1:w.what=1
 ·simp only[if_pos h1,if_neg (show ¬w.what=4 by omega)]
  split
  ·split
   ·exact bY _ _ _ _ _
   ·exact (ZC _ _ _).trans (bY _ _ _ _ _)
  ·exact (ZC _ _ _).trans (wx _ _ _ _).outs
 by_cases h2:w.what=2
 ·simp only[if_neg h1,if_pos h2,if_neg (show ¬w.what=4 by omega)]
  split
  ·exact Yk _ _
  ·exact Ju _ _ _ _ _
 by_cases h3:w.what=3
 ·simp only[if_neg h1,if_neg h2,if_pos h3,if_neg (show ¬w.what=4 by omega)];rfl
 by_cases h4:w.what=4
 ·simp only[if_neg h1,if_neg h2,if_neg h3,if_pos h4];rfl
 ·simp only[if_neg h1,if_neg h2,if_neg h3,if_neg h4];rfl
theorem Qq {S:PM} (h:WF S) (v:Nat):(wB S v).1.outs.length<=S.outs.length+1:=by
 obtain⟨h1,h2,h3⟩:=zn h
 unfold wB vZ
 split
 ·rw[h3.outs];omega
 ·cases hf:fetch (qX S).1 with
  | none=>simp only;rw[h3.outs];omega
  | some i =>
   simp only
   rw[JW]
   split
   ·rw[qd5,h3.outs];simp
   ·rw[h3.outs];omega
end Go.Sx
namespace Go.Sx
open Go.Dx Go.Proofs
set_option maxRecDepth 10000
def vT (S:PM):PM:={ xV S with sc:={ S.sc with st:=4 } }
def zq (k:PM->List Nat->List Bool->PM) (S1:PM) (w:Wnt) (rs:List Nat) (ws:List Bool):PM :=
 if w.what=2/\w.one=true then k (wB S1 0).1 rs ws
 else if w.what=7\/w.what=6 then xR S1
 else if wU S1.sc=true then vT S1
 else if w.what=5 then xR S1
 else if w.what=1 then (match rs with
  | []=>xR S1
  | v :: rs'=>k (wB S1 v).1 rs' ws)
 else if w.what=2/\w.ex=true then (match ws with
  | []=>xR S1
  | b :: ws'=>k (wB S1 (if b then 1 else 0)).1 rs ws')
 else k (wB S1 0).1 rs ws
def wE:Nat->PM->List Nat->List Bool->PM
 | 0,S,_,_=>S
 | k+1,S,rs,ws=>zq (wE k) (qX S).1 (qX S).2 rs ws
def KE (ws:List Nat) (fuel:Int):PM:=xJ (newS ws) 87 fuel
def wZ (ws:List Nat) (rs:List Nat) (wins:List Bool) (fuel:Int):PM:=wE 200001 (KE ws fuel) rs wins
theorem dK {ws:List Nat} (h:xQ ws=0) (fuel:Int):WF (KE ws fuel):=by
 have k:=qax h
 exact⟨k.code,k.len,k.v,k.t,k.ft,k.way,dl rfl,k.ev,k.rmw,k.addr,k.data,k.ctrl,k.own,k.rd,k.us⟩
structure DnB (S:PM):Prop where
 dn:0<=S.sc.dn/\S.sc.dn<=S.sc.limit
 lim:S.sc.limit<=100000
def mu (S:PM):Int:=2*(S.sc.limit - S.sc.dn)+(if S.half=none then 0 else 1)
theorem QE:∀(k:Nat) (S:PM),DnB S->DnB (jx k S).1/\mu (jx k S).1<=mu S
 | 0,S,h=>⟨h,Int.le_refl _⟩
 | k+1,S,h=>by
  unfold jx
  cases hl:look S with
  | some w=>exact⟨h,Int.le_refl _⟩
  | none =>
   obtain⟨h1,i,h2,h3,h4,h5⟩:=bx hl
   have e:zV S=xW S i:=by unfold zV;rw[h2]
   have hs:=Za S i
   have hd:=DO S i
   have hlt:S.sc.dn<S.sc.limit:=by
    unfold wU at h5
    simp at h5
    have:=h.dn;omega
   have hb:=h.dn
   have hli:=h.lim
   rw[wrap64 _ (by omega) (by omega)]at hd
   have k1:DnB (zV S):=by rw[e];exact⟨by rw[hd,hs.limit];omega,by rw[hs.limit];exact hli⟩
   obtain⟨a,b⟩:=QE k (zV S) k1
   refine⟨a,Int.le_trans b ?_⟩
   unfold mu
   rw[e,hd,hs.limit,hs.half,h1]
   simp only[if_true];omega
theorem vx (S:PM) (k x:Nat) (l:List Nat):(setRP S k x l).sc.dn=S.sc.dn/\(setRP S k x l).sc.limit=S.sc.limit:=⟨(wx _ _ _ _).dn,(wx _ _ _ _).limit⟩
theorem Qp (S:PM) (i:Ins) (w:Wnt) (v:Nat) (hh:w.what=2->w.one=true->S.half≠none):(zd S i w v).sc.limit=S.sc.limit/\(if w.what=2/\w.one=true then (zd S i w v).sc.dn=S.sc.dn/\(zd S i w v).half=none else (zd S i w v).sc.dn=IntKind.i64.wrap (S.sc.dn+1)):=by
 have ex1:∀(b:Nat) (T:PM),(exP w b T).sc.dn=T.sc.dn/\(exP w b T).sc.limit=T.sc.limit:=fun b T=>by unfold exP;split<;>exact⟨rfl,rfl⟩
 have go:∀T:PM,T.sc.dn=S.sc.dn->T.sc.limit=S.sc.limit->(jN T).sc.limit=S.sc.limit/\(jN T).sc.dn=IntKind.i64.wrap (S.sc.dn+1):=fun T h1 h2=>⟨h2,by show IntKind.i64.wrap (T.sc.dn+1)=_;rw[h1]⟩
 have bg:∀(T:PM) (b:Nat),(wJ T i w v b).sc.dn=T.sc.dn/\(wJ T i w v b).sc.limit=T.sc.limit:=fun T b=>by
  unfold wJ
  simp only
  split
  ·exact vx _ _ _ _
  ·exact vx _ _ _ _
 have stp:∀(b:Nat),(storeP S i w v b).sc.dn=S.sc.dn/\(storeP S i w v b).sc.limit=S.sc.limit:=fun b=>by
  unfold storeP
  cases w.ex with
  | false=>exact⟨rfl,rfl⟩
  | true =>
   simp only[if_true]
   split
   ·exact vx _ _ _ _
   ·exact vx _ _ _ _
 unfold zd
 by_cases h1:w.what=1
 ·simp only[if_pos h1]
  rw[if_neg (show ¬(w.what=2/\w.one=true) from fun h=>by have:=h.1;omega)]
  split
  ·split
   ·exact⟨(bg _ _).2,rfl⟩
   ·exact go _ ((ex1 _ _).1.trans (bg _ _).1) ((ex1 _ _).2.trans (bg _ _).2)
  ·exact go _ ((ex1 _ _).1.trans (vx _ _ _ _).1) ((ex1 _ _).2.trans (vx _ _ _ _).2)
 by_cases h2:w.what=2
 ·simp only[if_neg h1,if_pos h2]
  by_cases ho:w.one=true
  ·rw[if_pos ho,if_pos ⟨h2,ho⟩]
   have:=hh h2 ho
   unfold vJ
   cases hS:S.half with
   | none=>exact absurd hS this
   | some x=>exact⟨rfl,rfl,rfl⟩
  ·rw[if_neg ho,if_neg (fun h=>ho h.2)]
   exact go _ (stp _).1 (stp _).2
 have n21:¬(w.what=2/\w.one=true):=fun h=>h2 h.1
 by_cases h3:w.what=3
 ·simp only[if_neg h1,if_neg h2,if_pos h3,if_neg n21]
  exact go _ rfl rfl
 by_cases h4:w.what=4
 ·simp only[if_neg h1,if_neg h2,if_neg h3,if_pos h4,if_neg n21]
  exact go _ rfl rfl
 ·simp only[if_neg h1,if_neg h2,if_neg h3,if_neg h4,if_neg n21]
  exact go _ rfl rfl
theorem Vd {S:PM} (h:WF S) {w:Wnt} (hl:look S=some w) (hd:DnB S) {v:Nat} (h5:w.what<5) (hv:w.what=2->w.ex=true->v<=1) (hs:¬(w.what=2/\w.one=true)->wU S.sc=false) (hlim:0<=S.sc.limit) :
  DnB (wB S v).1/\mu (wB S v).1+1<=mu S:=by
 have hWO:=vV h hl
 obtain⟨i,hf⟩:=hWO.fetch h5
 have hn:(wB S v).1=zd S i w v:=by
  unfold wB
  rw[jS hl]
  unfold vZ
  rw[if_neg (fun hc=>by
   rcases hc with hc | ⟨a,b,c⟩
   ·simp only at hc;omega
   ·have:=hv a b;omega)]
  simp only[hf]
 rw[hn]
 obtain⟨k1,k2⟩:=Qp S i w v (fun a b e=>by obtain⟨x,hx⟩:=hWO.one2 a b;rw[hx]at e;cases e)
 have hb:=hd.dn
 have hli:=hd.lim
 by_cases c:w.what=2/\w.one=true
 ·rw[if_pos c]at k2
  obtain⟨x,hx⟩:=hWO.one2 c.1 c.2
  refine⟨⟨by rw[k2.1,k1];exact hb,by rw[k1];exact hli⟩,?_⟩
  unfold mu
  rw[k2.1,k1,k2.2,hx]
  simp
 ·rw[if_neg c]at k2
  have hsp:=hs c
  unfold wU at hsp
  simp at hsp
  have hlt:=hsp hlim
  rw[wrap64 _ (by omega) (by omega)]at k2
  refine⟨⟨by rw[k2,k1];omega,by rw[k1];exact hli⟩,?_⟩
  unfold mu
  rw[k2,k1]
  have:∀o:Option Hf,(0:Int)<=(if o=none then 0 else 1)/\(if o=none then (0:Int) else 1)<=1:=fun o=>by split<;>omega
  have a:=this (zd S i w v).half
  have b:=this S.half
  omega
end Go.Sx
namespace Go.Sx
open Go.Dx Go.Proofs
set_option maxRecDepth 10000
abbrev VS (b:Bool):List Value:=[.bool b]
def fP (ws rs:List Nat) (wins:List Bool) (fuel:Int) (m:M) (v:Value) (m':M):Prop :=
 (xQ ws≠0/\v=.tuple #[.agg ⟨z9⟩,iv (xQ ws)]) \/
 (xQ ws=0/\∃q,v=.tuple #[.agg ⟨qU q⟩,iv 0]/\RL m' q (wZ ws rs wins fuel)/\QY m.n q/\q.st=(wZ ws rs wins fuel).sc.st/\q.lc=(wZ ws rs wins fuel).sc.lc/\q.us=(wZ ws rs wins fuel).sc.us)
section
variable {m0 m m':M} {W:List Nat} {Z:Nat->Prop} {P:Nat} {σ:List (Nat × List Value)} {s s':Mch} {g:Gh} {S S':PM}
theorem ML.mxB (h:ML m P s g S) {σ:List (Nat × List Value)} (hσ:∀p∈σ,p.1<m.n/\Arr m p.1 p.2/\p.1 ∉ own P s/\¬Sh s g p.1) (hn:(σ.map (·.1)).Nodup):MX m m (σ.map (·.1) ++ own P s) (Sh s g) P σ s g S:=by
 refine⟨Ow.start h.base (fun p hp=>?_) ?_,h.hp,h.sc,fun B hB=>.inl (List.mem_append_right _ (kw.2 (.inr hB))),fun B hB=>.inl hB,fun p hp=>⟨fun hL=>(hσ p hp).2.2.1 (kw.2 (.inr hL)),(hσ p hp).2.2.2⟩,List.mem_append_right _ (kw.2 (.inl rfl)),fun B hB=>?_⟩
 ·rcases qdh.1 hp with hp | hp
  ·exact⟨List.mem_append_left _ (List.mem_map.2 ⟨p,hp,rfl⟩),(hσ p hp).1,(hσ p hp).2.1⟩
  ·rw[qd2.1 hp]
   exact⟨List.mem_append_right _ (kw.2 (.inl rfl)),h.mat.lt,h.mat.arr⟩
 ·rw[List.map_append,List.nodup_append]
  refine⟨hn,by simp,fun a ha b hb=>?_⟩
  obtain⟨p,hp,rfl⟩:=List.mem_map.1 ha
  simp at hb
  subst hb
  exact fun e=>(hσ p hp).2.2.1 (kw.2 (.inl e))
 ·rcases qdh.1 hB with hB | hB
  ·obtain⟨p,hp,rfl⟩:=List.mem_map.1 hB
   exact (hσ p hp).1
  ·rcases kw.1 hB with rfl | hL
   ·exact h.mat.lt
   ·exact h.hp.ln hL
theorem MX.runBox (h:MX m0 m W Z P σ s g S) (n:Nat) (hw:WF S) (hz:Sz S) (k:Nat) {R:Nat} {l:List Value} (hk:σ[k]?=some (R,l)) (hl:l.length=9) (hR:R<m.n) :
  ∃q m5 m6,(ex Tryz.prog (n+33)).f 14 [mP P] m=some (.agg ⟨qU q⟩,m5)/\qz 9 (.pointer (some ⟨R,0,none⟩)) (.agg ⟨qU q⟩) m5=some (undef,m6)/\Mc m0 m6 W/\loads m6 ⟨R,0,none⟩ 9=some (qU q)/\RL m6 q (xR S)/\QY m.n q/\q.st=(xR S).sc.st/\q.lc=(xR S).sc.lc/\q.us=S.sc.us:=by
 obtain⟨v5,m5,a1,a2,q,rfl,a3,a4,e1,e2,e3⟩:=Run_m n h.ml hw hz
 have h5:=h.ext a2
 obtain⟨m6,b1,b2,b3⟩:=h5.fill k hk (n:=9) (l':=qU q) (by omega) hl rfl a3.ok
 obtain⟨hkl,-⟩:=qcx.1 hk
 have ob:∀X,X≠R->m6.obj X=m5.obj X:=by
  obtain⟨m6',c1,-,-,c3⟩:=h5.ow.storeN k (yC hk) (o:=0) (n:=9) (l':=qU q) (by omega) rfl (by omega) a3.ok
  rw[b1]at c1;cases c1;exact c3
 refine⟨q,m5,m6,a1,b1,b2.ow.mc,(b2.box (k:=k) (by rw[List.getElem?_set_self hkl])).2.loads (o:=0) (n:=9) (by simp[qU]),a3.kp (D:=[R]) (Kp.put b3 ob (by simp)) fun F hF B hB hc=>?_,a4,e1,e2,e3⟩
 have:=a4 F hF B hB
 simp at hc;omega
end
theorem Kz {a b c:M} {W:List Nat} (h:Ext a b) (k:Mc b c W) (hW:∀B∈W,a.n<=B) (hb:a.base<=a.n):Ext a c:=h.mcx k hW hb
theorem bu_z9:wD [zS,zS,zS,zS,zS,zS,zI,zI,zI] []=some (.agg ⟨z9⟩):=rfl
theorem wf_sz {S:PM} (h:WF S) (ho:S.outs.length*8<=wy):Sz S:=fun F hF=>by
 have hr:=h.rm
 have h0:=h.ev
 rcases six hF with rfl | rfl | rfl | rfl | rfl | rfl
 ·show (rowsOf S 0).length*40<=_;rw[zX];unfold wy;omega
 ·show (rowsOf S 1).length*16<=_;rw[yM];have:=hr.rmw;unfold wy;omega
 ·show (rowsOf S 2).length*16<=_;rw[bK];have:=hr.addr;unfold wy;omega
 ·show (rowsOf S 3).length*16<=_;rw[bL];have:=hr.data;unfold wy;omega
 ·show (rowsOf S 4).length*16<=_;rw[bM];have:=hr.ctrl;unfold wy;omega
 ·show (rowsOf S 5).length*8<=_;rw[xw];exact ho
set_option maxHeartbeats 8000000 in
theorem dR (n:Nat) {m:M} (hm:m.base<=m.n) {wl rl bl:Value} {ws rs:List Nat} {wins:List Bool} (hws:Rd m wl 1 yA ws) (hrs:Rd m rl 1 xZ rs) (hbs:Rd m bl 1 VS wins) (srl:Sp 1 rl) (sbl:Sp 1 bl) (hv:∀v∈rs,v<W64) {fuel:Int} (hf:0<=fuel/\fuel<=100000) :
  Dx.Call (ex Tryz.prog (n+35)) 16 [wl,rl,bl,iv fuel] m (fP ws rs wins fuel m):=by
 refine qk da6_ok (by simp) ?_
 obtain⟨m0,hm0⟩:=qdi (Dx.newRow m z9)
 have hm0':Dx.newRow m [zS,zS,zS,zS,zS,zS,zI,zI,zI]=m0:=hm0.symm
 have E0:Ext m m0:=by rw[hm0];exact Ext.row _ _
 have n0:m0.n=m.n+1:=by rw[hm0,qv]
 have hS0:Sees m m0:=(Sees.refl hm).ext E0
 obtain⟨v1,m1,a1,a2,a3⟩:=New_m (n+28) hS0.base (hws.sees hS0)
 have E1:=E0.trans a2
 have st1:=(((St.nil hm (Ext.refl m)).row z9))
 rw[<-hm0]at st1
 have st1:=st1.step a2
 rcases a3 with ⟨he,P,lv,rfl,hP,hml,hlv⟩ | ⟨he,rfl⟩
 rotate_left
 ·obtain⟨m2,b1,st2,-,-⟩:=st1.fill 0 rfl (n:=9) (l':=z9) rfl rfl (by simp[okC])
  have b2:=(st2.get 0 rfl).2.2.loads (o:=0) (n:=9) (s:=none) (by simp)
  have hne:(xQ ws=0)=False:=eq_false he
  simp[hm0',a1,hne,bu_z9,b1]
  exact qM (a:=⟨m.n,0,none⟩) (by simp) b2 st2.ext (.inl ⟨he,by simp⟩)
 have f0:(fuel<0)=False:=eq_false (by omega)
 have f1:(100000<fuel)=False:=eq_false (by omega)
 have ownge:∀B∈own P (xl lv),m.n<B:=fun B hB=>by
  rcases kw.1 hB with rfl | hL
  ·omega
  ·exact absurd hL KF
 have shge:∀B,Sh (xl lv) gh0 B->m.n<B:=fun B hB=>by have:=hlv B (Xg hB);omega
 have hx1:=hml.mxB (σ:=[(m.n,z9)]) (by
  intro p hp
  rw[qd2.1 hp]
  exact⟨(st1.get 0 rfl).2.1,(st1.get 0 rfl).2.2,fun hc=>Nat.lt_irrefl _ (ownge _ hc),fun hc=>Nat.lt_irrefl _ (shge _ hc)⟩) (by simp)
 obtain⟨Wq,hWq⟩:=qdi (List.map (·.1) [(m.n,z9)] ++ own P (xl lv))
 rw[<-hWq]at hx1
 have hWge:∀B∈Wq,m.n<=B:=fun B hB=>by
  rw[hWq]at hB
  rcases qdh.1 hB with hB | hB
  ·simp at hB;omega
  ·have:=ownge B hB;omega
 obtain⟨m2,c1,hx2,c2⟩:=hx1.num (o:=87) (by decide) fuel
 have hx2:MX m1 m2 Wq (Sh (xl lv) gh0) P [(m.n,z9)] _ gh0 (KE ws fuel):=hx2
 have hE:(0:Int)=0:=rfl
 simp[hm0',a1,he,f0,f1,c1]
 have lt1:∀{u:Value} {e:Nat} {β:Type} {f:β->List Value} {es:List β},Rd m u e f es->∀B,blk u=some B->B<m.n:=fun h=>h.lt
 refine qE (c:=FO) rfl (Ret m _) (fun j t m'=>Tm.get 8 t=.pointer (some ⟨m.n,0,none⟩)/\Tm.get 10 t=mP P/\∃s' g' S' rl' bl' rs' ws',Tm.get 1 t=rl'/\Tm.get 2 t=bl'/\MX m1 m' Wq (Sh (xl lv) gh0) P [(m.n,z9)] s' g' S'/\WF S'/\DnB S'/\S'.sc.limit=fuel/\mu S'+j<=2*fuel/\S'.outs.length<=j /\
   Rd m rl' 1 xZ rs'/\Rd m bl' 1 VS ws'/\Sp 1 rl'/\Sp 1 bl'/\(∀v∈rs',v<W64)/\wE (200001 - j) S' rs' ws'=wZ ws rs wins fuel) 200000 (by omega)
  ⟨by simp,by simp,_,_,KE ws fuel,rl,bl,rs,wins,by simp,by simp,hx2,dK he fuel,⟨by show (0:Int)<=0/\(0:Int)<=fuel;omega,hf.2⟩,rfl,by show 2*(fuel - 0)+(if (none:Option Hf)=none then 0 else 1)+((0:Nat):Int)<=_;simp,Nat.zero_le _,hrs,hbs,srl,sbl,hv,rfl⟩ (fun j t m' k hj hI hk=>?_)
 obtain⟨t8,t10,s',g',S',rl',bl',rs',ws',t1,t2,hx,hwf,hdn,hlim,hmu,hou,hr',hb',sr',sb',hv',hrep⟩:=hI
 rw[show 200001 - j=(200000 - j)+1 by omega]at hrep
 obtain⟨v3,m3,s3,g3,d1,d2,rfl⟩:=Jy (n+2) hx.ml hwf
 obtain⟨hlk,hwn,hst⟩:=zn hwf
 obtain⟨hdn1,hmu1⟩:=QE 100001 S' hdn
 have hWO:=vV hwn hlk
 have hnn:=YH hwf
 obtain⟨S1,hS1⟩:=qdi ((qX S').1)
 obtain⟨w,hwd⟩:=qdi ((qX S').2)
 have hdn1:DnB S1:=by rw[hS1];exact hdn1
 have hmu1:mu S1<=mu S':=by rw[hS1];exact hmu1
 have hlim1:S1.sc.limit=fuel:=by rw[hS1,hst.limit,hlim]
 have hou1:S1.outs.length<=j:=by rw[hS1,hst.outs];exact hou
 rw[<-hwd]at d1 hlk hWO
 rw[<-hS1]at d2 hlk hwn hWO
 have hx3:=(hx.call d2).row z6w
 obtain⟨m4,x1,hx4,x2⟩:=hx3.fill 0 rfl (n:=6) (l':=qm w) (by omega) rfl rfl (zB _)
 have x1':qz 6 (.pointer (some ⟨m3.n,0,none⟩)) (.agg ⟨qm w⟩) (Dx.newRow m3 [zI,zI,zI,zU,.bool false,.bool false])=some (undef,m4):=x1
 have hx4:MX m1 m4 Wq (Sh (xl lv) gh0) P [(m3.n,qm w),(m.n,z9)] s3 g3 S1:=hx4
 have l0:load1 m4 ⟨m3.n,0,none⟩=some (iv w.what):=(hx4.box (k:=0) rfl).2.load1 0 none
 have l4:load1 m4 ⟨m3.n,4,none⟩=some (.bool w.ex):=(hx4.box (k:=0) rfl).2.load1 4 none
 have l5:load1 m4 ⟨m3.n,5,none⟩=some (.bool w.one):=(hx4.box (k:=0) rfl).2.load1 5 none
 have Em4:Ext m m4:=Kz E1 hx4.ow.mc hWge hm
 have m4n:m.n<m4.n:=(hx4.box (k:=1) rfl).1
 have hsz:Sz S1:=wf_sz hwn (by unfold wy;omega)
 have fed:∀{mq:M} {σ:List (Nat × List Value)} {v:Nat} (hxq:MX m1 mq Wq (Sh (xl lv) gh0) P σ s3 g3 S1) (hσ:(m.n,z9)∈σ) (hvl:v<W64) (hv1:w.what=2->w.ex=true->v<=1) (h5:w.what<5) (hs:¬(w.what=2/\w.one=true)->wU S1.sc=false),
   ∃u m5 s5 g5,(ex Tryz.prog (n+34)).f 23 [mP P,uv v] mq=some (u,m5)/\MX m1 m5 Wq (Sh (xl lv) gh0) P [(m.n,z9)] s5 g5 (wB S1 v).1/\j<200000/\WF (wB S1 v).1/\DnB (wB S1 v).1/\(wB S1 v).1.sc.limit=fuel/\mu (wB S1 v).1+((j+1:Nat):Int)<=2*fuel/\(wB S1 v).1.outs.length<=j+1:=by
  intro mq σ v hxq hσ hvl hv1 h5 hs
  obtain⟨u,m5,s5,g5,e1,e2,-⟩:=Feed_m (n+1) hxq.ml hwn hvl (by unfold wy;omega)
  obtain⟨q1,q2⟩:=Vd hwn hlk hdn1 h5 hv1 hs (by rw[hlim1];exact hf.1)
  have q3:0<=mu (wB S1 v).1:=by
   unfold mu
   have:=q1.dn
   split<;>omega
  have q4:(wB S1 v).1.sc.limit=fuel:=by
   rw[<-hlim1]
   obtain⟨i,hfi⟩:=hWO.fetch h5
   unfold wB
   rw[jS hlk]
   unfold vZ
   simp only[hfi]
   split
   ·rfl
   ·exact (Qp S1 i w v (fun a b e=>by obtain⟨x,hx⟩:=hWO.one2 a b;rw[hx]at e;cases e)).1
  refine⟨u,m5,s5,g5,e1,(hxq.call e2).drop (by simpa using hσ) ?_,by omega,gh hwn hvl,q1,q4,by omega,?_⟩
  ·have:=hx.ow.nd;exact this
  ·have:=Qq hwn v;omega
 have fin:∀{t':Tm} {m6:M} {q:Mch} {T:PM},Tm.get 8 t'=.pointer (some ⟨m.n,0,none⟩)->Tm.get 9 t'=iv 0->wZ ws rs wins fuel=T->Mc m1 m6 Wq->loads m6 ⟨m.n,0,none⟩ 9=some (qU q)->RL m6 q T->QY m4.n q->q.st=T.sc.st->q.lc=T.sc.lc->q.us=T.sc.us->Ret m (fP ws rs wins fuel m) (kx [.cell 8 9,.t 9] t' m6):=by
  intro t' m6 q T h8 h9 hT hmc hl hrl hnew e1 e2 e3
  refine qM (a:=⟨m.n,0,none⟩) h8 hl (Kz E1 hmc hWge hm) (.inr ⟨he,q,by rw[h9],by rw[hT];exact hrl,fun F hF B hB=>by have:=hnew F hF B hB;omega,by rw[hT];exact e1,by rw[hT];exact e2,by rw[hT];exact e3⟩)
 have hrep':wZ ws rs wins fuel=zq (wE (200000 - j)) S1 w rs' ws':=by rw[<-hrep,hS1,hwd];rfl
 have hsub:200000 - j=200001 - (j+1):=by omega
 obtain⟨q,m5,m6,r1,r2,r3,r4,r5,r6,r7,r8,r9⟩:=hx4.runBox (n+1) hwn hsz 1 rfl rfl m4n
 unfold zq at hrep'
 have endRun:wZ ws rs wins fuel=xR S1->∀{t':Tm},Tm.get 8 t'=.pointer (some ⟨m.n,0,none⟩)->Tm.get 9 t'=iv 0->Ret m (fP ws rs wins fuel m) (kx [.cell 8 9,.t 9] t' m6):=fun hT t' h8 h9=>fin h8 h9 hT r3 r4 r5 r6 r7 r8 r9
 by_cases h21:w.what=2/\w.one=true
 ·rw[if_pos h21]at hrep'
  obtain⟨u,m7,s5,g5,e1,e2,e3,e4,e5,e6,e7,e8⟩:=fed (v:=0) hx4 (by simp) (by decide) (fun _ _=>by omega) (by omega) (fun h=>absurd h21 h)
  have e1:(ex Tryz.prog (n+34)).f 23 [mP P,zU] m4=some (u,m7):=e1
  rw[h21.1]at l0
  rw[h21.2]at l5
  simp[t8,t10,d1,x1',l0,l5,e1]
  exact hk e3 _ _ ⟨by simp[t8],by simp[t10],s5,g5,_,rl',bl',rs',ws',by simp[t1],by simp[t2],e2,e4,e5,e6,e7,e8,hr',hb',sr',sb',hv',by rw[<-hsub];exact hrep'.symm⟩
 rw[if_neg h21]at hrep'
 by_cases h67:w.what=7\/w.what=6
 ·rw[if_pos h67]at hrep'
  rcases h67 with h | h
  ·rw[h]at l0
   simp[t8,t10,d1,x1',l0,r1,r2]
   exact endRun hrep' (by simp[t8]) (by simp)
  ·rw[h]at l0
   simp[t8,t10,d1,x1',l0,r1,r2]
   exact endRun hrep' (by simp[t8]) (by simp)
 rw[if_neg h67]at hrep'
 have n7:(w.what=7)=False:=eq_false fun h=>h67 (.inl h)
 have n6:(w.what=6)=False:=eq_false fun h=>h67 (.inr h)
 obtain⟨v8,m8,y1,y2,rfl⟩:=VK (n+33) hx4.mat
 rw[Jr hx4.sc]at y1
 have hx8:=hx4.ext y2
 have k0:load1 m8 ⟨m3.n,0,none⟩=some (iv w.what):=(hx8.box (k:=0) rfl).2.load1 0 none
 have k4:load1 m8 ⟨m3.n,4,none⟩=some (.bool w.ex):=(hx8.box (k:=0) rfl).2.load1 4 none
 have one:w.what=2->w.one=false:=fun h2=>by
  cases ho:w.one with
  | false=>rfl
  | true=>exact absurd ⟨h2,ho⟩ h21
 cases hsp:wU S1.sc with
 | true =>
  rw[if_pos hsp]at hrep'
  rw[hsp]at y1
  have lr:=bO hx8.mat
  have hzp:Szp S1:=⟨hsz,by have:=hwn.rm.rmw;omega,by have:=hwn.rm.addr;omega,by have:=hwn.rm.data;omega,by have:=hwn.rm.ctrl;omega⟩
  obtain⟨v9,m9,z1,z2,q9,rfl,z3,z4,z5,z6,z7⟩:=Jq (n+4) hx8.mb hx8.hp.rl hzp
  have hx9:=(hx8.ext z2).row z9
  obtain⟨mA,p1,hxA,p2⟩:=hx9.fill 0 rfl (n:=9) (l':=qU q9) (by omega) rfl rfl z3.ok
  have p1':qz 9 (.pointer (some ⟨m9.n,0,none⟩)) (.agg ⟨qU q9⟩) (Dx.newRow m9 [zS,zS,zS,zS,zS,zS,zI,zI,zI])=some (undef,mA):=p1
  obtain⟨mB,o1,hxB,o2⟩:=hxA.put 0 rfl (o:=6) (v:=iv 4) (by simp[qU]) rfl
  obtain⟨Q,hQ⟩:∃Q:Mch,Q={ q9 with st:=4 }:=⟨_,rfl⟩
  have hxB:MX m1 mB Wq (Sh (xl lv) gh0) P [(m9.n,qU Q),(m3.n,qm w),(m.n,z9)] s3 g3 S1:=by rw[hQ];exact hxB
  have lB:loads mB ⟨m9.n,0,none⟩ 9=some (qU Q):=(hxB.box (k:=0) rfl).2.loads (o:=0) (n:=9) (by simp[qU])
  have o1:qz 1 (.pointer (some ⟨m9.n,6,none⟩)) (.int .i64 4) mA=some (undef,mB):=o1
  have lQ:∀F,lst Q F=lst q9 F:=fun F=>by rw[hQ];unfold lst;split<;>rfl
  have lt9:∀F,F<6->∀B,blk (lst q9 F)=some B->B<m9.n:=fun F hF B hB=>(z3.ls F hF).lt B hB
  have mAo:∀X,X≠m9.n->mA.obj X=(Dx.newRow m9 z9).obj X:=by
   obtain⟨m',c1,-,-,c3⟩:=hx9.ow.storeN 0 rfl (o:=0) (n:=9) (l':=qU q9) (by omega) rfl (by simp) z3.ok
   rw[p1]at c1;cases c1;exact c3
  have mBo:∀X,X≠m9.n->mB.obj X=mA.obj X:=by
   obtain⟨m',c1,-,-,c3⟩:=hxA.ow.store 0 rfl (o:=6) (v:=iv 4) (by simp[qU]) rfl
   have c1:qz 1 (.pointer (some ⟨m9.n,6,none⟩)) (.int .i64 4) mA=some (undef,m'):=c1
   rw[o1]at c1;cases c1;exact c3
  have rlB:RL mB q9 (xV S1):=(z3.ext (Ext.row m9 z9)).kp (D:=[m9.n]) ((Kp.put p2 mAo (by simp)).trans (Kp.put o2 mBo (by simp))) fun F hF B hB hc=>by have:=lt9 F hF B hB;simp at hc;omega
  have rlQ:RL mB Q (vT S1):=⟨fun F hF=>by rw[lQ];exact rlB.ls F hF,fun F G hF hG hne B hB=>by rw[lQ]at hB ⊢;exact rlB.dis F G hF hG hne B hB⟩
  have n98:m4.n<=m8.n:=y2.n
  obtain⟨mC,i1,hxC,i2⟩:=hxB.fill 2 rfl (n:=9) (l':=qU Q) (by omega) rfl rfl rlQ.ok
  have mCo:∀X,X≠m.n->mC.obj X=mB.obj X:=by
   obtain⟨m',c1,-,-,c3⟩:=hxB.ow.storeN 2 rfl (o:=0) (n:=9) (l':=qU Q) (by omega) rfl (by simp) rlQ.ok
   rw[i1]at c1;cases c1;exact c3
  have lC:=(hxC.box (k:=2) rfl).2.loads (o:=0) (n:=9) (s:=none) (by simp[qU])
  have rlC:RL mC Q (vT S1):=rlQ.kp (D:=[m.n]) (Kp.put i2 mCo (by simp)) fun F hF B hB hc=>by
   rw[lQ]at hB
   have:=z4 F hF B hB
   simp at hc;omega
  have s3e:q9.lc=S1.sc.lc:=by rw[z6,<-hx8.sc];rfl
  have s3u:q9.us=S1.sc.us:=by rw[z7,<-hx8.sc];rfl
  have fine:∀{t':Tm},Tm.get 8 t'=.pointer (some ⟨m.n,0,none⟩)->Tm.get 9 t'=iv 0->Ret m (fP ws rs wins fuel m) (kx [.cell 8 9,.t 9] t' mC):=fun {t'} h8 h9 =>
   fin h8 h9 hrep' hxC.ow.mc lC rlC (fun F hF B hB=>by rw[lQ]at hB;have:=z4 F hF B hB;omega) (by rw[hQ];rfl) (by rw[hQ];exact s3e) (by rw[hQ];exact s3u)
  by_cases h2:w.what=2
  ·rw[h2]at l0
   rw[one h2]at l5
   simp[t8,t10,d1,x1',l0,l5,y1,qc,lr,z1,p1',o1,lB,i1]
   exact fine (by simp[t8]) (by simp)
  ·have n2:(w.what=2)=False:=eq_false h2
   simp[t8,t10,d1,x1',l0,n2,n6,n7,y1,qc,lr,z1,p1',o1,lB,i1]
   exact fine (by simp[t8]) (by simp)
 | false =>
  rw[if_neg (by rw[hsp];simp)]at hrep'
  rw[hsp]at y1
  have m8n:m.n<m8.n:=(hx8.box (k:=1) rfl).1
  obtain⟨q,mR,r1,r2,r3,r4,r5,r6,r7,r8,r9,r10⟩:=hx8.runBox (n+1) hwn hsz 1 rfl rfl m8n
  have n84:=y2.n
  have endRun:wZ ws rs wins fuel=xR S1->∀{t':Tm},Tm.get 8 t'=.pointer (some ⟨m.n,0,none⟩)->Tm.get 9 t'=iv 0->Ret m (fP ws rs wins fuel m) (kx [.cell 8 9,.t 9] t' r1):=fun hT t' h8 h9=>fin h8 h9 hT r4 r5 r6 (fun F hF B hB=>by have:=r7 F hF B hB;omega) r8 r9 r10
  have hwh:=hWO.what
  have h6:w.what≠6:=fun h=>h67 (.inr h)
  have h7:w.what≠7:=fun h=>h67 (.inl h)
  rcases (by omega:w.what=5\/w.what=1\/w.what=2\/w.what=3\/w.what=4) with hq | hq | hq | hq | hq
  ·rw[if_pos hq]at hrep'
   rw[hq]at l0 k0
   simp[t8,t10,d1,x1',l0,y1,k0,r2,r3]
   exact endRun hrep' (by simp[t8]) (by simp)
  ·rw[if_neg (by omega),if_pos hq]at hrep'
   rw[hq]at l0 k0
   have hE8:Ext m m8:=Kz E1 hx8.ow.mc hWge hm
   have hr8:=hr'.sees ((Sees.refl hm).ext hE8)
   have ln:=hr8.len
   cases hrs':rs' with
   | nil =>
    rw[hrs']at hrep' ln
    have ln:zf rl'=some zI:=ln
    simp[t8,t10,t1,d1,x1',l0,y1,k0,ln,r2,r3]
    exact endRun hrep' (by simp[t8]) (by simp)
   | cons v rs2 =>
    rw[hrs']at hrep' ln hr' hr8 hv'
    have hvl:v<W64:=hv' v (by simp)
    have lz:(((v :: rs2).length:Int)=0)=False:=eq_false (by rw[List.length_cons];omega)
    obtain⟨L,hL⟩:=qdi ((v :: rs2).length)
    rw[<-hL]at ln lz
    have lz2:(L=0)=False:=eq_false (by rw[hL];simp)
    obtain⟨b1,b2⟩:=Rd.at1 (i:=0) (g:=fun (x:Nat)=>uv x) hr8 (r:=v) rfl
    have b2':load1 m8 (adr 1 rl' 0)=some (uv v):=b2 m8 (Sees.refl hx8.mb)
    have b1:jG 1 rl' zI=some (.pointer (some (adr 1 rl' 0))):=b1
    obtain⟨sa,sn,sc,w1,w2,w3,w4⟩:=hr'.drop sr' (fun _=>rfl) (k:=1) (by simp)
    have w1:slV 1 (some (.int .i64 1)) none none rl'=some (.slice sa sn sc):=w1
    obtain⟨u,m7,s5,g5,e1,e2,e3,e4,e5,e6,e7,e8⟩:=fed (v:=v) hx8 (by simp) hvl (fun h=>by omega) (by omega) (fun _=>hsp)
    simp[t8,t10,t1,d1,x1',l0,y1,k0,ln,lz,lz2,b1,b2',yv,w1,e1]
    exact hk e3 _ _ ⟨by simp[t8],by simp[t10],s5,g5,_,_,bl',rs2,ws',by simp,by simp[t2],e2,e4,e5,e6,e7,e8,w2,hb',w3,sb',fun x hx=>hv' x (by simp[hx]),by rw[<-hsub];exact hrep'.symm⟩
  ·rw[if_neg (by omega),if_neg (by omega)]at hrep'
   rw[hq]at l0 k0
   rw[one hq]at l5
   cases hex:w.ex with
   | false =>
    rw[if_neg (by rw[hex];simp)]at hrep'
    rw[hex]at k4
    obtain⟨u,m7,s5,g5,e1,e2,e3,e4,e5,e6,e7,e8⟩:=fed (v:=0) hx8 (by simp) (by decide) (fun _ _=>by omega) (by omega) (fun _=>hsp)
    have e1:(ex Tryz.prog (n+34)).f 23 [mP P,zU] m8=some (u,m7):=e1
    simp[t8,t10,d1,x1',l0,l5,y1,k0,k4,e1]
    exact hk e3 _ _ ⟨by simp[t8],by simp[t10],s5,g5,_,rl',bl',rs',ws',by simp[t1],by simp[t2],e2,e4,e5,e6,e7,e8,hr',hb',sr',sb',hv',by rw[<-hsub];exact hrep'.symm⟩
   | true =>
    rw[if_pos ⟨hq,hex⟩]at hrep'
    rw[hex]at k4
    have hE8:Ext m m8:=Kz E1 hx8.ow.mc hWge hm
    have hb8:=hb'.sees ((Sees.refl hm).ext hE8)
    have ln:=hb8.len
    cases hws':ws' with
    | nil =>
     rw[hws']at hrep' ln
     have ln:zf bl'=some zI:=ln
     simp[t8,t10,t2,d1,x1',l0,l5,y1,k0,k4,ln,r2,r3]
     exact endRun hrep' (by simp[t8]) (by simp)
    | cons b ws2 =>
     rw[hws']at hrep' ln hb' hb8
     have lz:(((b :: ws2).length:Int)=0)=False:=eq_false (by rw[List.length_cons];omega)
     obtain⟨L,hL⟩:=qdi ((b :: ws2).length)
     rw[<-hL]at ln lz
     have lz2:(L=0)=False:=eq_false (by rw[hL];simp)
     obtain⟨b1,b2⟩:=Rd.at1 (i:=0) (g:=fun (x:Bool)=>.bool x) hb8 (r:=b) rfl
     have b2':load1 m8 (adr 1 bl' 0)=some (.bool b):=b2 m8 (Sees.refl hx8.mb)
     have b1:jG 1 bl' zI=some (.pointer (some (adr 1 bl' 0))):=b1
     obtain⟨sa,sn,sc,w1,w2,w3,w4⟩:=hb'.drop sb' (fun _=>rfl) (k:=1) (by simp)
     have w1:slV 1 (some (.int .i64 1)) none none bl'=some (.slice sa sn sc):=w1
     cases b with
     | true =>
      obtain⟨u,m7,s5,g5,e1,e2,e3,e4,e5,e6,e7,e8⟩:=fed (v:=1) hx8 (by simp) (by decide) (fun _ _=>by omega) (by omega) (fun _=>hsp)
      have e1:(ex Tryz.prog (n+34)).f 23 [mP P,.int .u64 1] m8=some (u,m7):=e1
      simp[t8,t10,t2,d1,x1',l0,l5,y1,k0,k4,ln,lz,lz2,b1,b2',yv,w1,e1]
      exact hk e3 _ _ ⟨by simp[t8],by simp[t10],s5,g5,_,rl',_,rs',ws2,by simp[t1],by simp,e2,e4,e5,e6,e7,e8,hr',w2,sr',w3,hv',by rw[<-hsub];exact hrep'.symm⟩
     | false =>
      obtain⟨u,m7,s5,g5,e1,e2,e3,e4,e5,e6,e7,e8⟩:=fed (v:=0) hx8 (by simp) (by decide) (fun _ _=>by omega) (by omega) (fun _=>hsp)
      have e1:(ex Tryz.prog (n+34)).f 23 [mP P,zU] m8=some (u,m7):=e1
      simp[t8,t10,t2,d1,x1',l0,l5,y1,k0,k4,ln,lz,lz2,b1,b2',yv,w1,e1]
      exact hk e3 _ _ ⟨by simp[t8],by simp[t10],s5,g5,_,rl',_,rs',ws2,by simp[t1],by simp,e2,e4,e5,e6,e7,e8,hr',w2,sr',w3,hv',by rw[<-hsub];exact hrep'.symm⟩
  all_goals
   rw[if_neg (by omega),if_neg (by omega),if_neg (by omega)]at hrep'
   rw[hq]at l0 k0
   obtain⟨u,m7,s5,g5,e1,e2,e3,e4,e5,e6,e7,e8⟩:=fed (v:=0) hx8 (by simp) (by decide) (fun _ _=>by omega) (by omega) (fun _=>hsp)
   have e1:(ex Tryz.prog (n+34)).f 23 [mP P,zU] m8=some (u,m7):=e1
   simp[t8,t10,d1,x1',l0,y1,k0,e1]
   exact hk e3 _ _ ⟨by simp[t8],by simp[t10],s5,g5,_,rl',bl',rs',ws',by simp[t1],by simp[t2],e2,e4,e5,e6,e7,e8,hr',hb',sr',sb',hv',by rw[<-hsub];exact hrep'.symm⟩
end Go.Sx
namespace Go.Sx
open Go.Dx Go.Proofs
set_option maxRecDepth 10000
theorem bH {α β:Type} {m:M} {v:Value} {e:Nat} {f:β->List Value} {g:α->β} {l:List α} (h:Rd m v e f (l.map g)):Rd m v e (fun x=>f (g x)) l :=
 ⟨by have:=h.len;rwa [List.length_map]at this,fun i r hr=>h.row i (g r) (by rw[qdb,hr];rfl),by have:=h.all;rw[List.length_map,List.flatMap_map]at this;exact this,h.lt⟩
theorem RL.rdF {m:M} {s:Mch} {S:PM} (h:RL m s S) {F:Nat} (hF:F<6):Rd m (lst s F) (esz F) zp (rowsOf S F):=Grown.rd jI (h.ls F hF)
theorem RL.rdEv {m:M} {s:Mch} {S:PM} (h:RL m s S):Rd m s.ev 5 zO S.ev:=bH (f:=zp) (g:=evR) (h.rdF (F:=0) (by omega))
theorem RL.rdOuts {m:M} {s:Mch} {S:PM} (h:RL m s S):Rd m s.outs 1 xZ S.outs:=bH (f:=zp) (g:=wdR) (h.rdF (F:=5) (by omega))
theorem RL.rdRmw {m:M} {s:Mch} {S:PM} (h:RL m s S):Rd m s.rmw 2 qd S.rmw:=bH (f:=zp) (g:=prR) (h.rdF (F:=1) (by omega))
theorem RL.rdAddr {m:M} {s:Mch} {S:PM} (h:RL m s S):Rd m s.addr 2 qd S.addr:=bH (f:=zp) (g:=prR) (h.rdF (F:=2) (by omega))
theorem RL.rdData {m:M} {s:Mch} {S:PM} (h:RL m s S):Rd m s.data 2 qd S.data:=bH (f:=zp) (g:=prR) (h.rdF (F:=3) (by omega))
theorem RL.rdCtrl {m:M} {s:Mch} {S:PM} (h:RL m s S):Rd m s.ctrl 2 qd S.ctrl:=bH (f:=zp) (g:=prR) (h.rdF (F:=4) (by omega))
theorem qaf (x:Nat × Nat):kY [1,1] (qd x) (qd x)=some true:=by
 unfold qd;rw[jo,jo,Qn]
theorem Bf (x:EvR):kY [1,1,1,1,1] (zO x) (zO x)=some true:=by
 unfold zO;rw[jo,jo,jo,jo,jo,Qn]
theorem Kv (n:Nat) {m:M} (hm:m.base<=m.n) {a b:Value} {l:List (Nat × Nat)} (ha:Rd m a 2 qd l) (hb:Rd m b 2 qd l) (hl:l.length<=9000000000000000000):CallV (ex Tryz.prog (n+1)) 26 [a,b] m (.bool true):=by
 refine qk db1_ok (by simp) ?_
 have la:=ha.len
 have lb:=hb.len
 simp[la,lb]
 refine qE (c:=FR) rfl (Ret m _) (fun i t m'=>Tm.get 0 t=a/\Tm.get 1 t=b/\Tm.get 5 t=iv i/\m'=m) l.length (by omega)
  ⟨by simp,by simp,by simp,rfl⟩ (fun i t m' k hi hI hk=>?_)
 obtain⟨t0,t1,t5,rfl⟩:=hI
 by_cases hil:i<l.length
 ·have d1:((i:Int)<(l.length:Int))=True:=eq_true (by omega)
  have w1:=qW (i:=i) (by omega)
  obtain⟨x,hx⟩:∃x,l[i]?=some x:=⟨_,qcv hil⟩
  obtain⟨a1,a2,-⟩:=ha.at hx
  obtain⟨b1,b2,-⟩:=hb.at hx
  have a2':=a2 m' (Sees.refl hm)
  have b2':=b2 m' (Sees.refl hm)
  have q:=qaf x
  simp[t0,t1,t5,la,d1,hil,a1,b1,a2',b2',qc,q,w1]
  exact hk hil _ _ ⟨by simp[t0],by simp[t1],by simp,rfl⟩
 ·obtain rfl:i=l.length:=by omega
  simp[t0,t5,la]
  exact qJ (Ext.refl _) (by simp)
structure SameRun (A B:PM):Prop where
 ev:A.ev=B.ev
 outs:A.outs=B.outs
 rmw:A.rmw=B.rmw
 addr:A.addr=B.addr
 data:A.data=B.data
 ctrl:A.ctrl=B.ctrl
theorem SameRun.refl (A:PM):SameRun A A:=⟨rfl,rfl,rfl,rfl,rfl,rfl⟩
set_option maxHeartbeats 2000000 in
theorem same_c (n:Nat) {m:M} (hm:m.base<=m.n) {a b:Mch} {A B:PM} (ha:RL m a A) (hb:RL m b B) (h:SameRun A B) (hst:a.st=b.st) (hlc:a.lc=b.lc) (hus:a.us=b.us) (hz:Szp A) :
  CallV (ex Tryz.prog (n+2)) 13 [.agg ⟨qU a⟩,.agg ⟨qU b⟩] m (.bool true):=by
 refine qk da3_ok (by simp) ?_
 have st:=((St.nil hm (Ext.refl m)).row (qU a)).row (qU b)
 obtain⟨m0,hm0⟩:=qdi (Dx.newRow m (qU a))
 have hb1:ki (.agg ⟨qU a⟩) m=some (.pointer (some ⟨m.n,0,none⟩),m0):=by rw[hm0];rfl
 rw[<-hm0]at st
 obtain⟨m1,hm1⟩:=qdi (Dx.newRow m0 (qU b))
 have hb2:ki (.agg ⟨qU b⟩) m0=some (.pointer (some ⟨m0.n,0,none⟩),m1):=by rw[hm1];rfl
 rw[<-hm1]at st
 have la:∀o,load1 m1 ⟨m.n,o,none⟩=(qU a)[o]?:=fun o=>(st.get 1 rfl).2.2.load1 o none
 have lb:∀o,load1 m1 ⟨m0.n,o,none⟩=(qU b)[o]?:=fun o=>(st.get 0 rfl).2.2.load1 o none
 have E:=st.ext
 have ra:=ha.ext E
 have rb:=hb.ext E
 have a0:load1 m1 ⟨m.n,0,none⟩=some a.ev:=la 0
 have a1:load1 m1 ⟨m.n,1,none⟩=some a.rmw:=la 1
 have a2:load1 m1 ⟨m.n,2,none⟩=some a.addr:=la 2
 have a3:load1 m1 ⟨m.n,3,none⟩=some a.data:=la 3
 have a4:load1 m1 ⟨m.n,4,none⟩=some a.ctrl:=la 4
 have a5:load1 m1 ⟨m.n,5,none⟩=some a.outs:=la 5
 have a6:load1 m1 ⟨m.n,6,none⟩=some (iv a.st):=la 6
 have a7:load1 m1 ⟨m.n,7,none⟩=some (iv a.lc):=la 7
 have a8:load1 m1 ⟨m.n,8,none⟩=some (iv a.us):=la 8
 have b0:load1 m1 ⟨m0.n,0,none⟩=some b.ev:=lb 0
 have b1:load1 m1 ⟨m0.n,1,none⟩=some b.rmw:=lb 1
 have b2:load1 m1 ⟨m0.n,2,none⟩=some b.addr:=lb 2
 have b3:load1 m1 ⟨m0.n,3,none⟩=some b.data:=lb 3
 have b4:load1 m1 ⟨m0.n,4,none⟩=some b.ctrl:=lb 4
 have b5:load1 m1 ⟨m0.n,5,none⟩=some b.outs:=lb 5
 have b6:load1 m1 ⟨m0.n,6,none⟩=some (iv a.st):=by rw[hst];exact lb 6
 have b7:load1 m1 ⟨m0.n,7,none⟩=some (iv a.lc):=by rw[hlc];exact lb 7
 have b8:load1 m1 ⟨m0.n,8,none⟩=some (iv a.us):=by rw[hus];exact lb 8
 have rea:=ra.rdEv
 have reb:=rb.rdEv
 rw[<-h.ev]at reb
 have roa:=ra.rdOuts
 have rob:=rb.rdOuts
 rw[<-h.outs]at rob
 have lea:=rea.len
 have leb:=reb.len
 have loa:=roa.len
 have lob:=rob.len
 have hle:A.ev.length*40<=wy:=by have:=hz.sz 0 (by omega);rw[zX]at this;exact this
 have hlo:A.outs.length*8<=wy:=by have:=hz.sz 5 (by omega);rw[xw]at this;exact this
 have hle:A.ev.length<=9000000000000000000:=by unfold wy at hle;omega
 have hlo:A.outs.length<=9000000000000000000:=by unfold wy at hlo;omega
 simp[hb1,hb2,a0,b0,a5,b5,a6,b6,a7,b7,a8,b8,lea,leb,loa,lob]
 refine qE (c:=FL) rfl (Ret m _) (fun i t m'=>Tm.get 2 t=.pointer (some ⟨m.n,0,none⟩)/\Tm.get 3 t=.pointer (some ⟨m0.n,0,none⟩)/\Tm.get 5 t=iv i/\m'=m1) A.ev.length (by omega)
  ⟨by simp,by simp,by simp,rfl⟩ (fun i t m' k hi hI hk=>?_)
 obtain⟨t2,t3,t5,rfl⟩:=hI
 have hs1:=st.sees.base
 by_cases hil:i<A.ev.length
 ·have d1:((i:Int)<(A.ev.length:Int))=True:=eq_true (by omega)
  have w1:=qW (i:=i) (by omega)
  obtain⟨x,hx⟩:∃x,A.ev[i]?=some x:=⟨_,qcv hil⟩
  obtain⟨x1,x2,-⟩:=rea.at hx
  obtain⟨y1,y2,-⟩:=reb.at hx
  have x2':=x2 m' (Sees.refl hs1)
  have y2':=y2 m' (Sees.refl hs1)
  have q:=Bf x
  simp[t2,t3,t5,a0,b0,lea,d1,hil,x1,y1,x2',y2',qc,q,w1]
  exact hk hil _ _ ⟨by simp[t2],by simp[t3],by simp,rfl⟩
 obtain rfl:i=A.ev.length:=by omega
 simp[t2,t3,t5,a0,lea]
 refine qE (c:=FM) rfl (Ret m _) (fun i t mm=>Tm.get 2 t=.pointer (some ⟨m.n,0,none⟩)/\Tm.get 3 t=.pointer (some ⟨m0.n,0,none⟩)/\Tm.get 6 t=iv i/\mm=m') A.outs.length (by omega)
  ⟨by simp[t2],by simp[t3],by simp,rfl⟩ (fun i t mm k hi hI hk=>?_)
 obtain⟨t2,t3,t6,rfl⟩:=hI
 by_cases hil:i<A.outs.length
 ·have d1:((i:Int)<(A.outs.length:Int))=True:=eq_true (by omega)
  have w1:=qW (i:=i) (by omega)
  obtain⟨x,hx⟩:∃x,A.outs[i]?=some x:=⟨_,qcv hil⟩
  obtain⟨x1,x2⟩:=Rd.at1 (g:=fun (x:Nat)=>uv x) roa hx
  obtain⟨y1,y2⟩:=Rd.at1 (g:=fun (x:Nat)=>uv x) rob hx
  have x2':load1 mm (adr 1 a.outs i)=some (uv x):=x2 mm (Sees.refl hs1)
  have y2':load1 mm (adr 1 b.outs i)=some (uv x):=y2 mm (Sees.refl hs1)
  simp[t2,t3,t6,a5,b5,loa,d1,hil,x1,y1,x2',y2',w1]
  exact hk hil _ _ ⟨by simp[t2],by simp[t3],by simp,rfl⟩
 obtain rfl:i=A.outs.length:=by omega
 have rma:=ra.rdRmw
 have rmb:=rb.rdRmw
 have rda:=ra.rdAddr
 have rdb:=rb.rdAddr
 have rta:=ra.rdData
 have rtb:=rb.rdData
 have rca:=ra.rdCtrl
 have rcb:=rb.rdCtrl
 rw[<-h.rmw]at rmb
 rw[<-h.addr]at rdb
 rw[<-h.data]at rtb
 rw[<-h.ctrl]at rcb
 obtain⟨u1,n1,f1,g1,rfl⟩:=Kv n hs1 rma rmb (by have:=hz.rmw;omega)
 have S1:=st.step g1
 have k2:load1 n1 ⟨m.n,2,none⟩=some a.addr:=(S1.get 1 rfl).2.2.load1 2 none
 have k2':load1 n1 ⟨m0.n,2,none⟩=some b.addr:=(S1.get 0 rfl).2.2.load1 2 none
 obtain⟨u2,n2,f2,g2,rfl⟩:=Kv n S1.sees.base (rda.sees ((Sees.refl hs1).ext g1)) (rdb.sees ((Sees.refl hs1).ext g1)) (by have:=hz.addr;omega)
 have S2:=S1.step g2
 have g12:=g1.trans g2
 have k3:load1 n2 ⟨m.n,3,none⟩=some a.data:=(S2.get 1 rfl).2.2.load1 3 none
 have k3':load1 n2 ⟨m0.n,3,none⟩=some b.data:=(S2.get 0 rfl).2.2.load1 3 none
 obtain⟨u3,n3,f3,g3,rfl⟩:=Kv n S2.sees.base (rta.sees ((Sees.refl hs1).ext g12)) (rtb.sees ((Sees.refl hs1).ext g12)) (by have:=hz.data;omega)
 have S3:=S2.step g3
 have g123:=g12.trans g3
 have k4:load1 n3 ⟨m.n,4,none⟩=some a.ctrl:=(S3.get 1 rfl).2.2.load1 4 none
 have k4':load1 n3 ⟨m0.n,4,none⟩=some b.ctrl:=(S3.get 0 rfl).2.2.load1 4 none
 obtain⟨u4,n4,f4,g4,rfl⟩:=Kv n S3.sees.base (rca.sees ((Sees.refl hs1).ext g123)) (rcb.sees ((Sees.refl hs1).ext g123)) (by have:=hz.ctrl;omega)
 have S4:=S3.step g4
 simp[t2,t3,t6,a5,loa,a1,b1,f1,k2,k2',f2,k3,k3',f3,k4,k4',f4]
 exact qJ S4.ext (by simp)
end Go.Sx
namespace Go.Sx
open Go.Dx Go.Proofs
set_option maxRecDepth 10000
theorem ln0:zf kT=some zI:=rfl
theorem DC (n:Nat) (m:M):CallV (ex Tryz.prog (n+1)) 72 [kT] m kT:=by
 refine qk df2_ok (by simp) ?_
 simp
 refine qE (c:=Gf) rfl (Ret m _) (fun i t m'=>Tm.get 0 t=kT/\Tm.get 3 t=kT/\Tm.get 4 t=iv 0/\m'=m) 0 (by omega) ⟨by simp,by simp,by simp,rfl⟩ (fun i t m' k hi hI hk=>?_)
 obtain⟨t0,t3,t4,rfl⟩:=hI
 simp[t0,t3,t4,ln0]
 exact qJ (Ext.refl _) (by simp[t3])
theorem dL (n:Nat) (m:M):CallV (ex Tryz.prog (n+2)) 56 [kT,kT] m (.bool true):=by
 refine qk dd9_ok (by simp) ?_
 obtain⟨v1,m1,a1,a2,rfl⟩:=DC n m
 simp[a1,ln0]
 refine qE (c:=FZ) rfl (Ret m _) (fun i t m'=>Tm.get 0 t=kT/\Tm.get 6 t=iv 0/\m'=m1) 0 (by omega) ⟨by simp,by simp,rfl⟩ (fun i t m' k hi hI hk=>?_)
 obtain⟨t0,t6,rfl⟩:=hI
 simp[t0,t6,ln0]
 exact qJ a2 (by simp)
def zM:List Value:=[zS,zI,zU,zS,zU,zS,zU,zS,zU,zS,zU,zS,zU,zS,zU,zS,zU,zS,zU,zS,zU,zS,zU,zS,zU,zS,zU,zS,zU,zS,zU,zS,zU,zS,zU,zS,zU,zS,zU,zS,zU,zS,zU,zS,zU,zS,zU,zS,zU,zS,zU,zS,zU,zS,zU,zS,zU,zS,zU,zS,zU,zS,zU,zS,zU,zS,.bool false,.bool false,.bool false,.bool false,zS,zS,.bool false,zI,zI,zI,zI,zI,zS,zS,zS,zS,zS,zS,zI,.bool false,zI,zI,zI,zU,.bool false,.bool false,zS,zS,zI]
set_option maxHeartbeats 1000000 in
theorem told_0 (n:Nat) {m:M} (hm:m.base<=m.n):CallV (ex Tryz.prog (n+3)) 32 [.agg ⟨z9⟩,.agg ⟨zM⟩,iv 0,iv 0] m (.bool true):=by
 refine qk db7_ok (by simp) ?_
 have st:=((St.nil hm (Ext.refl m)).row z9).row zM
 obtain⟨m0,hm0⟩:=qdi (Dx.newRow m z9)
 have hb1:ki (.agg ⟨z9⟩) m=some (.pointer (some ⟨m.n,0,none⟩),m0):=by rw[hm0];rfl
 have hb1:ki (.agg ⟨[zS,zS,zS,zS,zS,zS,zI,zI,zI]⟩) m=some (.pointer (some ⟨m.n,0,none⟩),m0):=hb1
 rw[<-hm0]at st
 obtain⟨m1,hm1⟩:=qdi (Dx.newRow m0 zM)
 have hb2:ki (.agg ⟨zM⟩) m0=some (.pointer (some ⟨m0.n,0,none⟩),m1):=by rw[hm1];rfl
 rw[<-hm1]at st
 have la:∀{mq:M},St m mq [(m0.n,zM),(m.n,z9)]->∀o,load1 mq ⟨m.n,o,none⟩=z9[o]?:=fun st o=>(st.get 1 rfl).2.2.load1 o none
 have lb:∀{mq:M},St m mq [(m0.n,zM),(m.n,z9)]->∀o,load1 mq ⟨m0.n,o,none⟩=zM[o]?:=fun st o=>(st.get 0 rfl).2.2.load1 o none
 have a0:load1 m1 ⟨m.n,0,none⟩=some zS:=la st 0
 have a5:load1 m1 ⟨m.n,5,none⟩=some zS:=la st 5
 have a6:load1 m1 ⟨m.n,6,none⟩=some zI:=la st 6
 have a7:load1 m1 ⟨m.n,7,none⟩=some zI:=la st 7
 have a8:load1 m1 ⟨m.n,8,none⟩=some zI:=la st 8
 have b78:load1 m1 ⟨m0.n,78,none⟩=some zS:=lb st 78
 have b83:load1 m1 ⟨m0.n,83,none⟩=some zS:=lb st 83
 have b84:load1 m1 ⟨m0.n,84,none⟩=some zI:=lb st 84
 have a1:load1 m1 ⟨m.n,1,none⟩=some zS:=la st 1
 have b79:load1 m1 ⟨m0.n,79,none⟩=some zS:=lb st 79
 obtain⟨u1,n1,f1,g1,rfl⟩:=dL n m1
 have S1:=st.step g1
 obtain⟨u2,n2,f2,g2,rfl⟩:=dL n n1
 have S2:=S1.step g2
 obtain⟨u3,n3,f3,g3,rfl⟩:=dL n n2
 have S3:=S2.step g3
 obtain⟨u4,n4,f4,g4,rfl⟩:=dL n n3
 have S4:=S3.step g4
 have c2:load1 n1 ⟨m.n,2,none⟩=some zS:=la S1 2
 have d80:load1 n1 ⟨m0.n,80,none⟩=some zS:=lb S1 80
 have c3:load1 n2 ⟨m.n,3,none⟩=some zS:=la S2 3
 have d81:load1 n2 ⟨m0.n,81,none⟩=some zS:=lb S2 81
 have c4:load1 n3 ⟨m.n,4,none⟩=some zS:=la S3 4
 have d82:load1 n3 ⟨m0.n,82,none⟩=some zS:=lb S3 82
 have f1:(ex Tryz.prog (n+2)).f 56 [zS,zS] m1=some (.bool true,n1):=f1
 have f2:(ex Tryz.prog (n+2)).f 56 [zS,zS] n1=some (.bool true,n2):=f2
 have f3:(ex Tryz.prog (n+2)).f 56 [zS,zS] n2=some (.bool true,n3):=f3
 have f4:(ex Tryz.prog (n+2)).f 56 [zS,zS] n3=some (.bool true,n4):=f4
 simp[hb1,hb2,a0,a5,a6,a7,a8,b78,b83,b84,ln0]
 refine qE (c:=FT) rfl (Ret m _) (fun i t m'=>Tm.get 4 t=.pointer (some ⟨m.n,0,none⟩)/\Tm.get 5 t=.pointer (some ⟨m0.n,0,none⟩)/\Tm.get 9 t=iv 0/\m'=m1) 0 (by omega) ⟨by simp,by simp,by simp,rfl⟩ (fun i t m' k hi hI hk=>?_)
 obtain⟨t4,t5,t9,rfl⟩:=hI
 simp[t4,t5,t9,a0,ln0]
 refine qE (c:=FU) rfl (Ret m _) (fun i t mm=>Tm.get 4 t=.pointer (some ⟨m.n,0,none⟩)/\Tm.get 5 t=.pointer (some ⟨m0.n,0,none⟩)/\Tm.get 11 t=iv 0/\mm=m') 0 (by omega) ⟨by simp[t4],by simp[t5],by simp,rfl⟩ (fun i t mm k hi hI hk=>?_)
 obtain⟨t4,t5,t11,rfl⟩:=hI
 simp[t4,t5,t11,a5,ln0,a1,b79,f1,c2,d80,f2,c3,d81,f3,c4,d82,f4]
 exact qJ S4.ext (by simp)
theorem qac (n:Nat) {m:M} (hm:m.base<=m.n):CallV (ex Tryz.prog (n+4)) 17 [.agg ⟨z9⟩] m (.bool true):=by
 refine qk da7_ok (by simp) ?_
 have st:=(St.nil hm (Ext.refl m)).row z9
 obtain⟨m0,hm0⟩:=qdi (Dx.newRow m z9)
 have hb1:ki (.agg ⟨z9⟩) m=some (.pointer (some ⟨m.n,0,none⟩),m0):=by rw[hm0];rfl
 have hb1:ki (.agg ⟨[zS,zS,zS,zS,zS,zS,zI,zI,zI]⟩) m=some (.pointer (some ⟨m.n,0,none⟩),m0):=hb1
 rw[<-hm0]at st
 have l9:loads m0 ⟨m.n,0,none⟩ 9=some z9:=(st.get 0 rfl).2.2.loads (o:=0) (n:=9) (by simp)
 have bu:wD [zS,zI,zU,zS,zU,zS,zU,zS,zU,zS,zU,zS,zU,zS,zU,zS,zU,zS,zU,zS,zU,zS,zU,zS,zU,zS,zU,zS,zU,zS,zU,zS,zU,zS,zU,zS,zU,zS,zU,zS,zU,zS,zU,zS,zU,zS,zU,zS,zU,zS,zU,zS,zU,zS,zU,zS,zU,zS,zU,zS,zU,zS,zU,zS,zU,zS,.bool false,.bool false,.bool false,.bool false,zS,zS,.bool false,zI,zI,zI,zI,zI,zS,zS,zS,zS,zS,zS,zI,.bool false,zI,zI,zI,zU,.bool false,.bool false,zS,zS,zI] []=some (.agg ⟨zM⟩):=rfl
 obtain⟨u,m1,a1,a2,rfl⟩:=told_0 n st.sees.base
 have a1:(ex Tryz.prog (n+3)).f 32 [.agg ⟨z9⟩,.agg ⟨zM⟩,zI,zI] m0=some (.bool true,m1):=a1
 simp[hb1,qc,l9,bu,a1]
 exact qJ (st.ext.trans a2) (by simp)
end Go.Sx
namespace Go.Sx
open Go.Dx Go.Proofs
set_option maxRecDepth 10000
structure Pre (A B:PM):Prop where
 ev:A.ev <+: B.ev
 outs:A.outs <+: B.outs
 us:A.sc.us<=B.sc.us
theorem Pre.refl (A:PM):Pre A A:=⟨List.prefix_rfl,List.prefix_rfl,Int.le_refl _⟩
theorem Pre.trans {A B C:PM} (h:Pre A B) (k:Pre B C):Pre A C:=⟨h.ev.trans k.ev,h.outs.trans k.outs,Int.le_trans h.us k.us⟩
theorem Pre.of {A B:PM} (h1:B.ev=A.ev) (h2:B.outs=A.outs) (h3:B.sc.us=A.sc.us):Pre A B:=⟨by rw[h1];exact List.prefix_rfl,by rw[h2];exact List.prefix_rfl,by rw[h3];exact Int.le_refl _⟩
structure Eqv (A B:PM):Prop where
 ev:B.ev=A.ev
 outs:B.outs=A.outs
 us:B.sc.us=A.sc.us
theorem Eqv.pre {A B:PM} (h:Eqv A B):Pre A B:=.of h.ev h.outs h.us
theorem Eqv.pre' {A B:PM} (h:Eqv A B):Pre B A:=.of h.ev.symm h.outs.symm h.us.symm
theorem Eqv.trans {A B C:PM} (h:Eqv A B) (k:Eqv B C):Eqv A C:=⟨k.ev.trans h.ev,k.outs.trans h.outs,k.us.trans h.us⟩
theorem OwnS.eqv {A B:PM} (h:OwnS A B):Eqv A B:=⟨h.ev,h.outs,h.us⟩
theorem StepS.eqv {A B:PM} (h:StepS A B):Eqv A B:=⟨h.ev,h.outs,h.us⟩
theorem jF (S:PM):Eqv S (xR S):=⟨rfl,rfl,rfl⟩
theorem Wv (S:PM):Eqv S (vT S):=⟨rfl,rfl,rfl⟩
theorem yj (S:PM):Eqv S (jN S):=⟨rfl,rfl,rfl⟩
theorem XZ (w:Wnt) (b:Nat) (S:PM):Eqv S (exP w b S):=by unfold exP;split<;>exact⟨rfl,rfl,rfl⟩
theorem Wu (S:PM) (i:Ins) (w:Wnt) (v b:Nat):Eqv S (wJ S i w v b):=by
 unfold wJ
 simp only
 split
 ·have:=(wx S (if i.op<=39 then i.rm.toNat else i.rd.toNat) v [b]).eqv
  exact⟨this.ev,this.outs,this.us⟩
 ·exact (wx _ _ _ _).eqv
theorem bF (S:PM) (ad:List Nat) (e:EvR):Pre S (zw S ad e):=⟨List.prefix_append _ _,List.prefix_rfl,Int.le_refl _⟩
theorem YU (S:PM) (i:Ins) (w:Wnt) (v b:Nat):Pre S (storeP S i w v b):=by
 have two:∀S1:PM,S1.ev=S.ev->S1.outs=S.outs->S1.sc.us=S.sc.us->Pre S (dataP (zw S1 (S1.t i.rn.toNat) ⟨0,2,w.loc,w.val,w.mode⟩) (S1.t i.rd.toNat) b):=fun S1 h1 h2 h3=>(Pre.of (A:=S) h1 h2 h3).trans ((bF S1 (S1.t i.rn.toNat) ⟨0,2,w.loc,w.val,w.mode⟩).trans (Eqv.pre ⟨rfl,rfl,rfl⟩))
 unfold storeP
 cases w.ex with
 | false=>exact two S rfl rfl rfl
 | true =>
  simp only[if_true]
  split
  ·exact (Eqv.pre ⟨rfl,rfl,rfl⟩:Pre S { S with sc:={ S.sc with opn:=false } }).trans (wx _ i.rm.toNat 1 []).eqv.pre
  ·refine (two { S with sc:={ S.sc with opn:=false } } rfl rfl rfl).trans (Pre.trans (Eqv.pre ?_) (wx _ _ _ _).eqv.pre)
   exact⟨rfl,rfl,rfl⟩
theorem qbg (S:PM) (b:Nat):Pre S (vJ S b):=by
 unfold vJ
 cases S.half with
 | none=>exact Pre.refl S
 | some h =>
  have k:=bF { S with half:=none } h.ad ⟨0,2,h.w.loc,h.w.val,h.w.mode⟩
  exact⟨k.ev,k.outs,k.us⟩
theorem qc6 {S:PM} (h:WF S):IntKind.i64.wrap (S.sc.us+1)=S.sc.us+1:=by
 obtain⟨a,h1,h2⟩:=h.us
 have:=h.ev
 rw[h1,wrap64 _ (by omega) (by omega)]
theorem Dv {S:PM} (h:WF S) (i:Ins) (w:Wnt) (v:Nat):Pre S (loadP S i w v)/\(loadP S i w v).sc.us=S.sc.us+1:=by
 have e:(loadP S i w v).sc.us=IntKind.i64.wrap (S.sc.us+1):=rfl
 rw[qc6 h]at e
 exact⟨⟨List.prefix_append _ _,List.prefix_rfl,by omega⟩,e⟩
theorem DZ (S:PM) (i:Ins) (w:Wnt) (v b:Nat):(storeP S i w v b).sc.us=S.sc.us:=by
 unfold storeP
 cases w.ex with
 | false=>rfl
 | true =>
  simp only[if_true]
  split
  ·exact (wx _ _ _ _).us
  ·exact (wx _ _ _ _).us
theorem Yn {S:PM} (h:WF S) (i:Ins) (w:Wnt) (v:Nat):Pre S (zd S i w v)/\(zd S i w v).sc.us=if w.what=1 then S.sc.us+1 else S.sc.us:=by
 unfold zd
 by_cases h1:w.what=1
 ·obtain⟨p1,p2⟩:=Dv h i w v
  simp only[if_pos h1]
  split
  ·split
   ·have e:=Wu (loadP S i w v) i w v S.ev.length
    exact⟨p1.trans ⟨by show _ <+: (wJ _ _ _ _ _).ev;rw[e.ev];exact List.prefix_rfl,by show _ <+: (wJ _ _ _ _ _).outs;rw[e.outs];exact List.prefix_rfl,Int.le_of_eq e.us.symm⟩,e.us.trans p2⟩
   ·have e:=((Wu (loadP S i w v) i w v S.ev.length).trans (XZ w S.ev.length _)).trans (yj _)
    exact⟨p1.trans e.pre,e.us.trans p2⟩
  ·have e:=((wx (loadP S i w v) i.rd.toNat v [S.ev.length]).eqv.trans (XZ w S.ev.length _)).trans (yj _)
   exact⟨p1.trans e.pre,e.us.trans p2⟩
 by_cases h2:w.what=2
 ·simp only[if_neg h1,if_pos h2]
  split
  ·refine⟨qbg _ _,?_⟩
   unfold vJ
   cases S.half<;>rfl
  ·exact⟨(YU _ _ _ _ _).trans (yj _).pre,DZ _ _ _ _ _⟩
 by_cases h3:w.what=3
 ·simp only[if_neg h1,if_neg h2,if_pos h3]
  exact⟨(bF S [] _).trans (yj _).pre,rfl⟩
 by_cases h4:w.what=4
 ·simp only[if_neg h1,if_neg h2,if_neg h3,if_pos h4]
  exact⟨⟨List.prefix_rfl,List.prefix_append _ _,Int.le_refl _⟩,rfl⟩
 ·simp only[if_neg h1,if_neg h2,if_neg h3,if_neg h4]
  exact⟨(yj _).pre,rfl⟩
theorem qah {S:PM} (h:WF S) {w:Wnt} (hl:look S=some w) (v:Nat):Pre S (wB S v).1/\(wB S v).1.sc.us<=S.sc.us+(if w.what=1 then 1 else 0):=by
 unfold wB
 rw[jS hl]
 unfold vZ
 simp only
 split
 ·exact⟨Pre.refl S,by show S.sc.us<=_;split<;>omega⟩
 ·cases hf:fetch S with
  | none=>exact⟨Pre.refl S,by show S.sc.us<=_;split<;>omega⟩
  | some i =>
   obtain⟨a,b⟩:=Yn h i w v
   refine⟨a,?_⟩
   show (zd S i w v).sc.us<=_
   rw[b];split<;>omega
theorem fJ:∀(k:Nat) (S:PM) (rs:List Nat) (ws:List Bool),WF S->(∀v∈rs,v<W64)->Pre S (wE k S rs ws)/\(wE k S rs ws).sc.us<=S.sc.us+rs.length
 | 0,S,rs,ws,h,hv=>⟨Pre.refl S,by show S.sc.us<=_;omega⟩
 | k+1,S,rs,ws,h,hv=>by
  obtain⟨hl,hw,hs⟩:=zn h
  show Pre S (zq (wE k) (qX S).1 (qX S).2 rs ws)/\(zq (wE k) (qX S).1 (qX S).2 rs ws).sc.us<=_
  obtain⟨S1,hS1⟩:=qdi ((qX S).1)
  obtain⟨w,hwd⟩:=qdi ((qX S).2)
  rw[<-hS1,<-hwd]at hl ⊢
  rw[<-hS1]at hw hs
  have e1:=hs.eqv
  have stop:∀{R:PM},Eqv S1 R->Pre S R/\R.sc.us<=S.sc.us+rs.length:=fun e=>⟨e1.pre.trans e.pre,by rw[e.us,e1.us];omega⟩
  have on:∀(v:Nat) (rs':List Nat) (ws':List Bool),v<W64->(∀x∈rs',x<W64)->((if w.what=1 then 1 else 0)+rs'.length<=rs.length)->Pre S (wE k (wB S1 v).1 rs' ws')/\(wE k (wB S1 v).1 rs' ws').sc.us<=S.sc.us+rs.length:=fun v rs' ws' hv1 hv2 hle=>by
   obtain⟨a,b⟩:=qah hw hl v
   obtain⟨c,d⟩:=fJ k (wB S1 v).1 rs' ws' (gh hw hv1) hv2
   have:=e1.us
   refine⟨(e1.pre.trans a).trans c,?_⟩
   split at b<;>(rename_i hq;simp only[hq,if_true,if_false]at hle;omega)
  have n1:¬w.what=1->(if w.what=1 then 1 else 0)+rs.length<=rs.length:=fun h=>by rw[if_neg h];omega
  unfold zq
  by_cases c1:w.what=2/\w.one=true
  ·rw[if_pos c1];exact on 0 rs ws (by decide) hv (n1 (by omega))
  rw[if_neg c1]
  by_cases c2:w.what=7\/w.what=6
  ·rw[if_pos c2];exact stop (jF S1)
  rw[if_neg c2]
  by_cases c3:wU S1.sc=true
  ·rw[if_pos c3];exact stop (Wv S1)
  rw[if_neg c3]
  by_cases c4:w.what=5
  ·rw[if_pos c4];exact stop (jF S1)
  rw[if_neg c4]
  by_cases c5:w.what=1
  ·rw[if_pos c5]
   cases rs with
   | nil=>exact stop (jF S1)
   | cons v rs'=>exact on v rs' ws (hv v (by simp)) (fun x hx=>hv x (by simp[hx])) (by rw[if_pos c5,List.length_cons];omega)
  rw[if_neg c5]
  by_cases c6:w.what=2/\w.ex=true
  ·rw[if_pos c6]
   cases ws with
   | nil=>exact stop (jF S1)
   | cons b ws'=>exact on _ rs ws' (by cases b<;>decide) hv (n1 c5)
  ·rw[if_neg c6];exact on 0 rs ws (by decide) hv (n1 c5)
end Go.Sx
namespace Go.Sx
open Go.Dx Go.Proofs
set_option maxRecDepth 10000
def kj (S:PM) (L:Int):PM:={ S with sc:={ S.sc with limit:=L } }
theorem xx (S:PM) (L:Int) (k x:Nat) (l:List Nat):setRP (kj S L) k x l=kj (setRP S k x l) L:=by
 unfold setRP
 split<;>rfl
theorem qab (S:PM) (L:Int) (i:Ins):doF (kj S L) i=(kj (doF S i).1 L,(doF S i).2):=by
 have h:∀k x l,setRP (kj S L) k x l=kj (setRP S k x l) L:=xx S L
 have ho:∀k x l,setRP { kj S L with sc:={ (kj S L).sc with opn:=false } } k x l=kj (setRP { S with sc:={ S.sc with opn:=false } } k x l) L:=fun k x l=>xx { S with sc:={ S.sc with opn:=false } } L k x l
 unfold doF
 by_cases c1:i.op=18
 ·simp only[if_pos c1];rfl
 by_cases c2:i.op=19
 ·simp only[if_neg c1,if_pos c2];rfl
 by_cases c3:i.op=20\/i.op=21
 ·simp only[if_neg c1,if_neg c2,if_pos c3];rfl
 by_cases c4:i.op=16
 ·simp only[if_neg c1,if_neg c2,if_neg c3,if_pos c4];rfl
 by_cases c5:i.op=17
 ·simp only[if_neg c1,if_neg c2,if_neg c3,if_neg c4,if_pos c5,h];rfl
 by_cases c6:i.op=1
 ·simp only[if_neg c1,if_neg c2,if_neg c3,if_neg c4,if_neg c5,if_pos c6,h];rfl
 by_cases c7:i.op=2
 ·simp only[if_neg c1,if_neg c2,if_neg c3,if_neg c4,if_neg c5,if_neg c6,if_pos c7,h];rfl
 by_cases c8:i.op=28\/i.op=29
 ·simp only[if_neg c1,if_neg c2,if_neg c3,if_neg c4,if_neg c5,if_neg c6,if_neg c7,if_pos c8]
  rw[ho];rfl
 by_cases c9:i.op=32
 ·simp only[if_neg c1,if_neg c2,if_neg c3,if_neg c4,if_neg c5,if_neg c6,if_neg c7,if_neg c8,if_pos c9];rfl
 ·simp only[if_neg c1,if_neg c2,if_neg c3,if_neg c4,if_neg c5,if_neg c6,if_neg c7,if_neg c8,if_neg c9,h];rfl
theorem Fo (S:PM) (L:Int) (i:Ins):xW (kj S L) i=kj (xW S i) L:=by
 have e:vY (kj S L)=kj (vY S) L:=rfl
 unfold xW
 rw[e,qab];rfl
theorem bm (S:PM) (L:Int):fetch (kj S L)=fetch S:=rfl
theorem Fp (S:PM) (L:Int):zV (kj S L)=kj (zV S) L:=by
 unfold zV
 rw[bm]
 cases fetch S with
 | none=>rfl
 | some i=>exact Fo S L i
theorem BC {S:PM} {L:Int} (hL:0<=S.sc.limit/\S.sc.limit<=L):look (kj S L)=look S\/(look S=some (jc 6)/\wU S.sc=true):=by
 unfold look
 rw[bm]
 show (match S.half with
  | some h=>some h.w
  | none=>match fetch S with
   | none=>some (jc 7)
   | some i=>if (qx S.sc S.ev.length i).2=false then some (qx S.sc S.ev.length i).1 else if 100000<=S.sc.own\/wU (kj S L).sc=true then some (jc 6) else none)=_\/_
 cases S.half with
 | some h=>exact .inl rfl
 | none =>
  cases fetch S with
  | none=>exact .inl rfl
  | some i =>
   simp only
   by_cases c:(qx S.sc S.ev.length i).2=false
   ·simp only[if_pos c];exact .inl trivial
   simp only[if_neg c]
   by_cases c2:100000<=S.sc.own
   ·rw[if_pos (.inl c2),if_pos (.inl c2)];exact .inl rfl
   cases hs:wU S.sc with
   | true=>exact .inr ⟨if_pos (.inr rfl),rfl⟩
   | false =>
    have:wU (kj S L).sc=false:=by
     unfold wU at hs ⊢
     simp only[Bool.and_eq_false_iff,decide_eq_false_iff_not]at hs ⊢
     show (¬0<=L)\/¬L<=S.sc.dn
     omega
    rw[this];exact .inl rfl
theorem WX {S:PM} {L:Int} (hL:0<=S.sc.limit/\S.sc.limit<=L) (h:wU S.sc=false):wU (kj S L).sc=false:=by
 unfold wU at h ⊢
 simp only[Bool.and_eq_false_iff,decide_eq_false_iff_not]at h ⊢
 show (¬0<=L)\/¬L<=S.sc.dn
 omega
theorem WJ (L:Int):∀(k:Nat) (S:PM),(0<=S.sc.limit/\S.sc.limit<=L)->jx k (kj S L)=(kj (jx k S).1 L,(jx k S).2)\/(jx k S).2=jc 6
 | 0,S,_=>.inr rfl
 | k+1,S,hL=>by
  rcases BC hL with e | ⟨e,-⟩
  ·cases hl:look S with
   | some w =>
    rw[xI hl,xI (by rw[e,hl])]
    exact .inl rfl
   | none =>
    rw[fF hl,fF (by rw[e,hl]),Fp]
    exact WJ L k (zV S) (by rw[(VM S).limit];exact hL)
  ·rw[xI e];exact .inr rfl
theorem qag (w:Wnt) (b:Nat) (S:PM) (L:Int):exP w b (kj S L)=kj (exP w b S) L:=by
 unfold exP
 split<;>rfl
theorem dX (S:PM) (L:Int) (i:Ins) (w:Wnt) (v b:Nat):wJ (kj S L) i w v b=kj (wJ S i w v b) L/\jf (kj S L) i v=jf S i v:=by
 have hb:jf (kj S L) i v=jf S i v:=rfl
 have hh:Kr (kj S L) i w v b=Kr S i w v b:=rfl
 refine⟨?_,hb⟩
 unfold wJ
 simp only[hb,hh,xx]
 split<;>rfl
theorem XF (S:PM) (L:Int) (i:Ins) (w:Wnt) (v b:Nat):storeP (kj S L) i w v b=kj (storeP S i w v b) L:=by
 unfold storeP
 cases w.ex with
 | false=>rfl
 | true =>
  simp only[if_true]
  by_cases c:True/\v=0
  ·rw[if_pos c,if_pos c]
   exact xx { S with sc:={ S.sc with opn:=false } } L _ _ _
  ·rw[if_neg c,if_neg c]
   exact xx (rmwP (dataP (zw { S with sc:={ S.sc with opn:=false } } (S.t i.rn.toNat) ⟨0,2,w.loc,w.val,w.mode⟩) (S.t i.rd.toNat) b) _ b) L _ _ _
theorem Bc (S:PM) (L:Int) (b:Nat):vJ (kj S L) b=kj (vJ S b) L:=by
 unfold vJ
 show (match S.half with
  | none=>kj S L
  | some h=>_)=_
 cases S.half with
 | none=>rfl
 | some h=>rfl
theorem Ym (S:PM) (L:Int) (i:Ins) (w:Wnt) (v:Nat):zd (kj S L) i w v=kj (zd S i w v) L:=by
 have hl:loadP (kj S L) i w v=kj (loadP S i w v) L:=rfl
 have hg:∀T:PM,jN (kj T L)=kj (jN T) L:=fun _=>rfl
 have he:(kj S L).ev=S.ev:=rfl
 unfold zd
 simp only[hl,(dX _ _ _ _ _ _).1,(dX _ _ _ w _ 0).2,xx,qag,hg,XF,Bc,he]
 by_cases h1:w.what=1
 ·simp only[if_pos h1]
  split
  ·split<;>rfl
  ·rfl
 by_cases h2:w.what=2
 ·simp only[if_neg h1,if_pos h2]
  split<;>rfl
 by_cases h3:w.what=3
 ·simp only[if_neg h1,if_neg h2,if_pos h3];rfl
 by_cases h4:w.what=4
 ·simp only[if_neg h1,if_neg h2,if_neg h3,if_pos h4];rfl
 ·simp only[if_neg h1,if_neg h2,if_neg h3,if_neg h4]
theorem Yo {S:PM} {L:Int} {w:Wnt} (h1:look S=some w) (h2:look (kj S L)=some w) (v:Nat):wB (kj S L) v=(kj (wB S v).1 L,(wB S v).2):=by
 unfold wB
 rw[jS h1,jS h2]
 unfold vZ
 simp only
 split
 ·rfl
 ·rw[bm]
  cases fetch S with
  | none=>rfl
  | some i=>simp only[Ym]
theorem de {S:PM} {w:Wnt} (h:look S=some w) (hw:w.what=2->w.one=true->S.half≠none) (v:Nat):(wB S v).1.sc.limit=S.sc.limit:=by
 unfold wB
 rw[jS h]
 unfold vZ
 simp only
 split
 ·rfl
 ·cases fetch S with
  | none=>rfl
  | some i=>exact (Qp S i w v hw).1
theorem QN (L:Int):∀(k:Nat) (S:PM) (rs:List Nat) (ws:List Bool) (a b:Nat),WF S->(0<=S.sc.limit/\S.sc.limit<=L)->(∀v∈rs,v<W64)->Pre (wE k S (rs.take a) (ws.take b)) (wE k (kj S L) rs ws)
 | 0,S,rs,ws,a,b,h,hL,hv=>Eqv.pre ⟨rfl,rfl,rfl⟩
 | k+1,S,rs,ws,a,b,h,hL,hv=>by
  obtain⟨hl,hw,hs⟩:=zn h
  have hT:WF (kj S L):=⟨h.code,h.len,h.v,h.t,h.ft,h.way,fun x hx=>(h.half x hx).of rfl rfl rfl,h.ev,h.rmw,h.addr,h.data,h.ctrl,h.own,h.rd,h.us⟩
  have hpre:=(fJ (k+1) (kj S L) rs ws hT hv).1
  have stop:∀{R:PM},Eqv (qX S).1 R->Pre R (wE (k+1) (kj S L) rs ws):=fun e=>(e.pre'.trans hs.eqv.pre').trans ((Eqv.pre ⟨rfl,rfl,rfl⟩:Pre S (kj S L)).trans hpre)
  show Pre (zq (wE k) (qX S).1 (qX S).2 (rs.take a) (ws.take b)) _
  rcases WJ L 100001 S hL with e | e
  rotate_left
  ·have e:(qX S).2=jc 6:=e
   unfold zq
   rw[e,if_neg (by decide),if_pos (by decide)]
   exact stop (jF _)
  have e:qX (kj S L)=(kj (qX S).1 L,(qX S).2):=e
  have eT:wE (k+1) (kj S L) rs ws=zq (wE k) (kj (qX S).1 L) (qX S).2 rs ws:=by
   show zq (wE k) (qX (kj S L)).1 (qX (kj S L)).2 rs ws=_
   rw[e]
  have hlT:look (kj (qX S).1 L)=some (qX S).2:=by
   have:=(zn hT).1
   rw[e]at this;exact this
  obtain⟨S1,hS1⟩:=qdi ((qX S).1)
  obtain⟨w,hwd⟩:=qdi ((qX S).2)
  have hWO:=vV hw hl
  rw[eT]at stop ⊢
  rw[<-hS1,<-hwd]at hl hlT hWO stop ⊢
  rw[<-hS1]at hw hs
  have hL1:0<=S1.sc.limit/\S1.sc.limit<=L:=by rw[hs.limit];exact hL
  have on:∀(v:Nat) (rs2:List Nat) (ws2:List Bool) (a' b':Nat),v<W64->(∀x∈rs2,x<W64)->Pre (wE k (wB S1 v).1 (rs2.take a') (ws2.take b')) (wE k (wB (kj S1 L) v).1 rs2 ws2):=fun v rs2 ws2 a' b' hv1 hv2=>by
   rw[Yo hl hlT]
   refine QN L k (wB S1 v).1 rs2 ws2 a' b' (gh hw hv1) ?_ hv2
   rw[de hl (fun h1 h2 e=>by obtain⟨x,hx⟩:=hWO.one2 h1 h2;rw[hx]at e;cases e)]
   exact hL1
  unfold zq
  unfold zq at stop
  by_cases c1:w.what=2/\w.one=true
  ·rw[if_pos c1,if_pos c1];exact on 0 rs ws a b (by decide) hv
  rw[if_neg c1]
  rw[if_neg c1]at stop ⊢
  by_cases c2:w.what=7\/w.what=6
  ·rw[if_pos c2,if_pos c2];rw[if_pos c2]at stop;exact stop (jF S1)
  rw[if_neg c2]
  rw[if_neg c2]at stop ⊢
  cases c3:wU S1.sc with
  | true =>
   rw[if_pos rfl]
   exact stop (Wv S1)
  | false =>
   rw[if_neg Bool.false_ne_true,WX hL1 c3,if_neg Bool.false_ne_true]
   rw[WX hL1 c3,if_neg Bool.false_ne_true]at stop
   by_cases c4:w.what=5
   ·rw[if_pos c4,if_pos c4];rw[if_pos c4]at stop;exact stop (jF S1)
   rw[if_neg c4]
   rw[if_neg c4]at stop ⊢
   by_cases c5:w.what=1
   ·rw[if_pos c5,if_pos c5]
    rw[if_pos c5]at stop
    cases rs with
    | nil=>rw[List.take_nil];exact stop (jF S1)
    | cons v rs' =>
     cases a with
     | zero=>exact stop (jF S1)
     | succ a=>exact on v rs' ws a b (hv v (by simp)) fun x hx=>hv x (by simp[hx])
   rw[if_neg c5]
   rw[if_neg c5]at stop ⊢
   by_cases c6:w.what=2/\w.ex=true
   ·rw[if_pos c6,if_pos c6]
    rw[if_pos c6]at stop
    cases ws with
    | nil=>rw[List.take_nil];exact stop (jF S1)
    | cons x ws' =>
     cases b with
     | zero=>exact stop (jF S1)
     | succ b=>exact on _ rs ws' a b (by cases x<;>decide) hv
   ·rw[if_neg c6,if_neg c6];exact on 0 rs ws a b (by decide) hv
end Go.Sx
namespace Go.Sx
open Go.Dx Go.Proofs
set_option maxRecDepth 10000
theorem QM (I:PM->Prop) (hstep:∀S,WF S->I S->I (qX S).1)
  (hfeed:∀S w v,WF S->I S->look S=some w->w.what<5->v<W64->(w.what=2->w.ex=true->v<=1)->(¬(w.what=2/\w.one=true)->wU S.sc=false)->I (wB S v).1) :
  ∀(k:Nat) (S:PM) (rs:List Nat) (ws:List Bool),WF S->I S->(∀v∈rs,v<W64)->∃T,WF T/\I T/\(wE k S rs ws=T\/wE k S rs ws=xR T\/wE k S rs ws=vT T)
 | 0,S,rs,ws,h,hi,hv=>⟨S,h,hi,.inl rfl⟩
 | k+1,S,rs,ws,h,hi,hv=>by
  obtain⟨hl,hw,hs⟩:=zn h
  have hi1:=hstep S h hi
  show ∃T,WF T/\I T/\(zq (wE k) (qX S).1 (qX S).2 rs ws=T\/zq (wE k) (qX S).1 (qX S).2 rs ws=xR T\/zq (wE k) (qX S).1 (qX S).2 rs ws=vT T)
  obtain⟨S1,hS1⟩:=qdi ((qX S).1)
  obtain⟨w,hwd⟩:=qdi ((qX S).2)
  have hWO:=vV hw hl
  rw[<-hS1,<-hwd]at hl hWO ⊢
  rw[<-hS1]at hw hs hi1
  have wh:=hWO.what
  have on:∀(v:Nat) (rs':List Nat) (ws':List Bool),v<W64->(∀x∈rs',x<W64)->w.what<5->(w.what=2->w.ex=true->v<=1)->(¬(w.what=2/\w.one=true)->wU S1.sc=false) ->
    ∃T,WF T/\I T/\(wE k (wB S1 v).1 rs' ws'=T\/wE k (wB S1 v).1 rs' ws'=xR T\/wE k (wB S1 v).1 rs' ws'=vT T):=fun v rs' ws' h1 h2 h3 h4 h5 =>
   QM I hstep hfeed k (wB S1 v).1 rs' ws' (gh hw h1) (hfeed S1 w v hw hi1 hl h3 h1 h4 h5) h2
  unfold zq
  by_cases c1:w.what=2/\w.one=true
  ·rw[if_pos c1];exact on 0 rs ws (by decide) hv (by omega) (fun _ _=>by omega) (fun h=>absurd c1 h)
  rw[if_neg c1]
  by_cases c2:w.what=7\/w.what=6
  ·rw[if_pos c2];exact⟨S1,hw,hi1,.inr (.inl rfl)⟩
  rw[if_neg c2]
  by_cases c3:wU S1.sc=true
  ·rw[if_pos c3];exact⟨S1,hw,hi1,.inr (.inr rfl)⟩
  have c3':wU S1.sc=false:=by simpa using c3
  rw[if_neg c3]
  by_cases c4:w.what=5
  ·rw[if_pos c4];exact⟨S1,hw,hi1,.inr (.inl rfl)⟩
  rw[if_neg c4]
  by_cases c5:w.what=1
  ·rw[if_pos c5]
   cases rs with
   | nil=>exact⟨S1,hw,hi1,.inr (.inl rfl)⟩
   | cons v rs'=>exact on v rs' ws (hv v (by simp)) (fun x hx=>hv x (by simp[hx])) (by omega) (fun h=>by omega) (fun _=>c3')
  rw[if_neg c5]
  by_cases c6:w.what=2/\w.ex=true
  ·rw[if_pos c6]
   cases ws with
   | nil=>exact⟨S1,hw,hi1,.inr (.inl rfl)⟩
   | cons b ws'=>exact on _ rs ws' (by cases b<;>decide) hv (by omega) (fun _ _=>by cases b<;>simp) (fun _=>c3')
  ·rw[if_neg c6];exact on 0 rs ws (by decide) hv (by omega) (fun _ _=>by omega) (fun _=>c3')
def DnI (L:Int) (S:PM):Prop:=DnB S/\S.sc.limit=L/\mu S+S.outs.length<=2*L
theorem DnI.step {L:Int} {S:PM} (h:WF S) (k:DnI L S):DnI L (qX S).1:=by
 obtain⟨a,b⟩:=QE 100001 S k.1
 have hs:=(zn h).2.2
 have b:mu (qX S).1<=mu S:=b
 have c:=k.2.2
 exact⟨a,by rw[hs.limit];exact k.2.1,by rw[hs.outs];omega⟩
theorem DnI.feed {L:Int} (hL:0<=L) {S:PM} {w:Wnt} {v:Nat} (h:WF S) (k:DnI L S) (hl:look S=some w) (h5:w.what<5) (hv:w.what=2->w.ex=true->v<=1) (hs:¬(w.what=2/\w.one=true)->wU S.sc=false):DnI L (wB S v).1:=by
 obtain⟨a,b⟩:=Vd h hl k.1 h5 hv hs (by rw[k.2.1];exact hL)
 have hWO:=vV h hl
 have c:=Qq h v
 have d:=k.2.2
 refine⟨a,?_,by omega⟩
 rw[de hl (fun h1 h2 e=>by obtain⟨x,hx⟩:=hWO.one2 h1 h2;rw[hx]at e;cases e)]
 exact k.2.1
theorem DK (l:List (Nat × Nat)):(gP l).length=l.length:=(xO toP l).1.length_eq
theorem DR {S:PM} (h1:S.ev.length<=256) (h2:S.rmw.length<=100000) (h3:S.addr.length<=100000) (h4:S.data.length<=100000) (h5:S.ctrl.length<=100000) (h6:S.outs.length*8<=wy):Szp S :=
 ⟨fun F hF=>by
  rcases six hF with rfl | rfl | rfl | rfl | rfl | rfl
  ·show (rowsOf S 0).length*40<=_;rw[zX];unfold wy;omega
  ·show (rowsOf S 1).length*16<=_;rw[yM];unfold wy;omega
  ·show (rowsOf S 2).length*16<=_;rw[bK];unfold wy;omega
  ·show (rowsOf S 3).length*16<=_;rw[bL];unfold wy;omega
  ·show (rowsOf S 4).length*16<=_;rw[bM];unfold wy;omega
  ·show (rowsOf S 5).length*8<=_;rw[xw];exact h6,by omega,by omega,by omega,by omega⟩
theorem szp_wf {S:PM} (h:WF S) (ho:S.outs.length*8<=wy):Szp S:=DR h.ev h.rm.rmw h.rm.addr h.rm.data h.rm.ctrl ho
theorem Fm (i:Nat) (S:PM):(xm i S).rmw.length=S.rmw.length/\(xm i S).addr.length=S.addr.length/\(xm i S).data.length=S.data.length/\(xm i S).ctrl.length=S.ctrl.length:=by
 unfold xm
 simp only
 refine⟨?_,?_,?_,?_⟩<;>(split<;>simp[DK])
theorem QU {S:PM} (h:WF S) (ho:S.outs.length*8<=wy):Szp (xV S):=by
 obtain⟨a,b,c,d⟩:=Fm 4 S
 exact DR h.ev (by show (xm 4 S).rmw.length<=_;rw[a];exact h.rm.rmw) (by show (xm 4 S).addr.length<=_;rw[b];exact h.rm.addr) (by show (xm 4 S).data.length<=_;rw[c];exact h.rm.data) (by show (xm 4 S).ctrl.length<=_;rw[d];exact h.rm.ctrl) ho
theorem Szp.of {A B:PM} (h:Szp A) (k:∀F,F<6->rowsOf B F=rowsOf A F) (h1:B.rmw=A.rmw) (h2:B.addr=A.addr) (h3:B.data=A.data) (h4:B.ctrl=A.ctrl):Szp B :=
 ⟨fun F hF=>by rw[k F hF];exact h.sz F hF,by rw[h1];exact h.rmw,by rw[h2];exact h.addr,by rw[h3];exact h.data,by rw[h4];exact h.ctrl⟩
theorem qc5 {S:PM} (h:WF S) (ho:S.outs.length*8<=wy):Szp (xR S):=(QU h ho).of (fun F hF=>gN rfl rfl rfl rfl rfl rfl F hF) rfl rfl rfl rfl
theorem Fs {S:PM} (h:WF S) (ho:S.outs.length*8<=wy):Szp (vT S):=(QU h ho).of (fun F hF=>gN rfl rfl rfl rfl rfl rfl F hF) rfl rfl rfl rfl
theorem qaa {ws:List Nat} {fuel:Int} (hf:0<=fuel/\fuel<=100000):DnI fuel (KE ws fuel):=by
 refine⟨⟨by show (0:Int)<=0/\(0:Int)<=fuel;omega,hf.2⟩,rfl,?_⟩
 show 2*(fuel - 0)+(if (none:Option Hf)=none then 0 else 1)+(([]:List Nat).length:Int)<=_
 simp
theorem Xx {ws:List Nat} (he:xQ ws=0) (rs:List Nat) (wins:List Bool) {fuel:Int} (hf:0<=fuel/\fuel<=100000) (hv:∀v∈rs,v<W64) :
  ∃T,WF T/\T.outs.length<=200000/\(wZ ws rs wins fuel=T\/wZ ws rs wins fuel=xR T\/wZ ws rs wins fuel=vT T):=by
 obtain⟨T,h1,h2,h3⟩:=QM (DnI fuel) (fun S h k=>k.step h) (fun S w v h k hl h5 _ hv1 hs=>k.feed hf.1 h hl h5 hv1 hs) 200001 (KE ws fuel) rs wins (dK he fuel) (qaa hf) hv
 refine⟨T,h1,?_,h3⟩
 obtain⟨a,b,c⟩:=h2
 have:=a.dn
 unfold mu at c
 split at c<;>omega
theorem QO {ws:List Nat} (he:xQ ws=0) (rs:List Nat) (wins:List Bool) {fuel:Int} (hf:0<=fuel/\fuel<=100000) (hv:∀v∈rs,v<W64):Szp (wZ ws rs wins fuel):=by
 obtain⟨T,h1,h2,h3⟩:=Xx he rs wins hf hv
 have ho:T.outs.length*8<=wy:=by unfold wy;omega
 rcases h3 with e | e | e
 ·rw[e];exact szp_wf h1 ho
 ·rw[e];exact qc5 h1 ho
 ·rw[e];exact Fs h1 ho
end Go.Sx
namespace Go.Dx
open Go.RowKit
noncomputable section
def gz (ins:List (List Value)):M:=M.rec (fun h nx _ _=>⟨h,nx,ins.length,[]⟩) (jq ins M.empty)
def XI (σ:List Nat) (n:Nat) (i:Nat):Nat:=bif Nat.blt i σ.length then σ.getD i 0 else n+(i - σ.length)
def XC (k:Nat) (rows:List (Nat × List Value)) (i:Nat):Nat:=bif Nat.blt i k then i else sig rows (i - k)
def vg (σ:List Nat) (rows:List (Nat × List Value)) (m:M):M:=jq (rows.map fun p=>p.2.map (ren (XI σ m.n))) m
def XO (k:Nat):List Nat->Bool
 | []=>true
 | a :: l=>Nat.ble k a && XO k l
def chkM (ins:List (List Value)) (rows:List (Nat × List Value)) (v0:Value) (o:Option (Value × M)):Bool:=match o with
 | some (v,m1)=>m1.log.isEmpty && XO ins.length (rows.map (·.1)) && eq2 (XC ins.length rows) (ins.length+rows.length) v0 v && bN (XC ins.length rows) (ins.length+rows.length) m1 rows && bB (rows.map (·.1))
 | none=>false
def okM (pargs:List Value) (ins:List (List Value)) (σ:List Nat) (args:List Value) (m:M):Bool :=
 Nat.beq σ.length ins.length && eqL1 (fun i=>σ.getD i 0) ins.length pargs args && bN (fun i=>σ.getD i 0) ins.length m (σ.zip ins) && bB σ
theorem fE (ins:List (List Value)):(gz ins).n=ins.length:=by
 have h:(gz ins).n=(jq ins M.empty).n:=by unfold gz;cases jq ins M.empty;rfl
 rw[h,gm];show 0+ins.length=_;omega
theorem QC (ins:List (List Value)) (X:Nat):(gz ins).obj X=(ins[X]?).map (fun r=>.cells (mkn .lf 0 r)):=by
 have h:(gz ins).obj X=(jq ins M.empty).obj X:=by unfold gz;cases jq ins M.empty;rfl
 rw[h,jP]
 show (if 0<=X/\X<0+ins.length then (ins[X - 0]?).map (fun r=>DObj.cells (mkn .lf 0 r)) else _)=_
 by_cases hX:X<ins.length
 ·rw[if_pos (by omega)];rfl
 ·rw[if_neg (by omega),qdg (by omega)];exact A3.get_lf none X
theorem YC (ins:List (List Value)):(gz ins).base=ins.length:=by unfold gz;cases jq ins M.empty;rfl
theorem We {k:Nat}:∀{l:List Nat},XO k l=true->∀(i a:Nat),l[i]?=some a->k<=a
 | [],_,i,a,h=>by simp at h
 | b :: l,h,i,a,hi=>by
  change (Nat.ble k b && XO k l)=true at h
  rw[qd1]at h
  cases i with
  | zero=>simp at hi;subst hi;exact qd4 h.1
  | succ i=>exact We h.2 i a (by simpa using hi)
theorem Xw (x:Value):ren (fun i=>i) x=x:=by
 unfold ren
 split<;>rfl
theorem qbk (x:Value):KT (fun i=>i) x=x:=by
 unfold KT
 split
 ·rename_i cs
  have:cs.toList.map (ren fun i=>i)=cs.toList:=by
   rw[List.map_congr_left (g:=fun x=>x) fun x _=>Xw x];simp
  rw[this]
 ·exact Xw _
theorem blt_t {i k:Nat} (h:i<k):Nat.blt i k=true:=qd3 h
theorem blt_f {i k:Nat} (h:¬i<k):Nat.blt i k=false:=by
 cases q:Nat.blt i k with
 | false=>rfl
 | true=>exact absurd (qd4 q) h
theorem Jn {φ φ':Phi} {σ τ:Nat->Nat} {r:Nat} (hφ:∀i l,i<r->φ (σ i)=some l->φ' (τ i)=some l) {w:World} {c:C} {row:List Value} (hok:gM σ r c 0 row=true) {l:Loc} (h:ObjRel φ w (.cells c) l) :
  ObjRel φ' w (.cells (mkn .lf 0 (row.map (ren τ)))) l:=by
 obtain⟨cs,e,fz,k1,k2,k3,k4⟩:=h
 have hsub:∀j x,A.get none j (mkn .lf 0 (row.map (ren τ)))=some x->∃y,A.get none j c=some y:=fun j x hx=>by
  rw[jl,A.get_lf]at hx
  split at hx
  ·simp only[Nat.sub_zero,qdb]at hx
   cases hg:row[j]? with
   | none=>rw[hg]at hx;cases hx
   | some y =>
    obtain⟨z,e1,_⟩:=zW hok j y hg
    rw[Nat.zero_add]at e1
    exact⟨z,e1⟩
  ·cases hx
 have hfc:FzC l.d cs.size fz (mkn .lf 0 (row.map (ren τ))):=⟨fun ha hd=>k3.1 (by
   cases hrw:row with
   | nil=>rw[hrw]at ha;cases ha
   | cons y ys =>
    obtain⟨z,e1,_⟩:=zW hok 0 y (by rw[hrw];rfl)
    exact gW e1) hd,fun j x hx=>let ⟨y,hy⟩:=hsub j x hx;k3.2 j y hy⟩
 refine⟨cs,e,fz,k1,k2,hfc,fun j x hx=>?_⟩
 rw[jl,A.get_lf]at hx
 split at hx
 ·rename_i hj
  simp only[Nat.sub_zero,qdb]at hx
  cases hg:row[j]? with
  | none=>rw[hg]at hx;cases hx
  | some y =>
   rw[hg]at hx
   cases hx
   obtain⟨z,e1,e2,e3⟩:=zW hok j y hg
   rw[Nat.zero_add]at e1
   obtain⟨q1,v'',q2,q3⟩:=k4 j z e1
   refine⟨q1,v'',q2,?_⟩
   rw[<-e3]at q3
   exact gJ hφ e2 q3
 ·cases hx
theorem Jm {σ:Nat->Nat} {r:Nat} {row:List Value} (hok:gM σ r .lf 0 row=true):row=[]:=by
 cases row with
 | nil=>rfl
 | cons x l =>
  obtain⟨y,hy,_⟩:=zW hok 0 x rfl
  rw[A.get_lf]at hy;cases hy
theorem Yr {P:Program} {x:Ex} (hx:jL P x) {g:Nat} {pargs args:List Value} {v0:Value} {ins:List (List Value)} {rows:List (Nat × List Value)} (h:chkM ins rows v0 (x.f g pargs (gz ins))=true) {σ:List Nat} {m:M} (hm:okM pargs ins σ args m=true) :
  DStep m (vg σ rows m)/\Enters P g/\XM P g args m (Xv (XI σ m.n) v0) (vg σ rows m):=by
 unfold chkM at h
 split at h
 ·rename_i v m1 hrun
  simp only[qd1]at h
  obtain⟨⟨⟨⟨hlog,hge⟩,hv⟩,hrows⟩,hnd⟩:=h
  unfold okM at hm
  simp only[qd1]at hm
  obtain⟨⟨⟨hkl,hma⟩,hmr⟩,hms⟩:=hm
  have hk:σ.length=ins.length:=qd8 hkl
  have hlog:m1.log=[]:=by simpa using hlog
  obtain⟨hd1,hent,hJ⟩:=hx.f _ _ _ _ _ hrun
  have hlen:(rows.map fun p=>p.2.map (ren (XI σ m.n))).length=rows.length:=by simp
  obtain⟨s,hs⟩:∃s:Nat->Nat,s=fun i=>σ.getD i 0:=⟨_,rfl⟩
  obtain⟨τ,hτ⟩:=qdi (XI σ m.n)
  rw[<-hs]at hma hmr
  have hτ1:∀i,i<ins.length->τ i=s i:=fun i hi=>by rw[hτ,hs];unfold XI;rw[blt_t (by omega)];rfl
  have hτ2:∀i,τ (ins.length+i)=m.n+i:=fun i=>by rw[hτ];unfold XI;rw[blt_f (by omega),hk];show m.n+(ins.length+i - ins.length)=_;omega
  have hs1:∀i,i<ins.length->XC ins.length rows i=i:=fun i hi=>by unfold XC;rw[blt_t hi];rfl
  have hs2:∀i,XC ins.length rows (ins.length+i)=sig rows i:=fun i=>by unfold XC;rw[blt_f (by omega)];show sig rows (ins.length+i - ins.length)=_;congr 1;omega
  have hin:∀i (hi:i<ins.length),∃c,m.obj (s i)=some (.cells c)/\gM s ins.length c 0 ins[i]=true:=fun i hi=>by
   have hz:(σ.zip ins)[i]?=some (s i,ins[i]):=by
    rw[List.getElem?_zip_eq_some]
    refine⟨?_,qcv hi⟩
    rw[hs];simp[show i<σ.length by omega]
   exact zT hmr i _ hz
  have hinj:∀i j,i<ins.length->j<ins.length->s i=s j->i=j:=fun i j hi hj e =>
   vO hms i j (s i) (by rw[hs];simp[show i<σ.length by omega]) (by rw[e,hs];simp[show j<σ.length by omega])
  show DStep m (jq _ m)/\_
  rw[<-hτ]
  refine⟨(zh _ m).1,hent,fun φ w args' hR hargs' hF=>?_⟩
  have hgn:(vg σ rows m).n=m.n+rows.length:=by unfold vg;rw[gm,hlen]
  rw[hgn]at hF
  have hlt:∀i,i<ins.length->s i<m.n:=fun i hi=>by
   obtain⟨c,hc,_⟩:=hin i hi
   exact Classical.byContradiction fun h=>by rw[hR.wf (s i) (by omega)]at hc;cases hc
  obtain⟨φL,hφL⟩:∃φL:Phi,φL=fun B=>if B<ins.length then φ (s B) else none:=⟨_,rfl⟩
  have hL1:∀i,i<ins.length->φL i=φ (s i):=fun i hi=>by rw[hφL];simp only[if_pos hi]
  have hL2:∀i,¬i<ins.length->φL i=none:=fun i hi=>by rw[hφL];simp only[if_neg hi]
  have hturnL:∀i l,i<ins.length->φ (s i)=some l->φL i=some l:=fun i l hi h=>by rw[hL1 i hi];exact h
  have hRL:R φL (gz ins) w:=by
   refine⟨fun B hB=>?_,fun B l hB hl=>?_,fun B₁ B₂ l₁ l₂ h1 h2 hl1 hl2 hb hne=>?_⟩
   ·rw[fE]at hB
    rw[QC,qdg (by omega)];rfl
   ·rw[fE]at hB
    rw[hL1 B hB]at hl
    obtain⟨c,hc,hok⟩:=hin B hB
    obtain⟨o,ho1,ho2⟩:=hR.obj _ l (hlt B hB) hl
    rw[hc]at ho1;cases ho1
    refine⟨_,by rw[QC,qcv hB];rfl,?_⟩
    have:=Jn (φ':=φL) (τ:=fun i=>i) hturnL hok ho2
    rwa [List.map_congr_left (g:=fun x=>x) fun x _=>Xw x,List.map_id']at this
   ·rw[fE]at h1 h2
    rw[hL1 _ h1]at hl1
    rw[hL1 _ h2]at hl2
    have key:∀B,B<ins.length->dead m (s B)->dead (gz ins) B:=fun B hB hd=>by
     obtain⟨c,hc,hok⟩:=hin B hB
     unfold dead at hd ⊢
     rw[hc]at hd
     cases hd
     rw[QC,qcv hB,Jm hok];rfl
    exact (hR.inj _ _ _ _ (hlt _ h1) (hlt _ h2) hl1 hl2 hb fun e=>hne (hinj _ _ h1 h2 e)).imp (key _ h1) (key _ h2)
  have hargsL:VRels φL pargs args'.toList:=by
   have:=bk (φ':=φL) (τ:=fun i=>i) hturnL hma hargs'
   rwa [List.map_congr_left (g:=fun x=>x) fun x _=>qbk x,List.map_id']at this
  refine (hJ φL w args' hRL hargsL (fun B hB _=>hL2 B (by rw[fE]at hB;omega))).mono ?_
  rintro e w' ⟨φ1,v',rfl,hR1,hst,hr1⟩
  have hnoT:∀B,¬Tou (gz ins) m1 B:=fun B ht=>by
   obtain⟨t1,t2,_⟩:=ht
   rw[fE]at t1
   rcases t2 with t2 | t2
   ·rw[hd1.base,YC]at t2;omega
   ·rw[hlog]at t2;cases t2
  have hheap:∀b,b<w.heap.size->w'.heap[b]?=w.heap[b]?:=fun b hb=>hst.frame b hb fun B _ _ _=>hnoT B
  obtain⟨φ',hφ'⟩:∃φ':Phi,φ'=fun B=>if m.n<=B/\B<m.n+rows.length then φ1 (sig rows (B - m.n)) else φ B:=⟨_,rfl⟩
  have hold:∀B,¬(m.n<=B/\B<m.n+rows.length)->φ' B=φ B:=fun B hB=>by rw[hφ'];simp only[if_neg hB]
  have hnew:∀i,i<rows.length->φ' (m.n+i)=φ1 (sig rows i):=fun i hi=>by rw[hφ'];simp only[if_pos (show m.n<=m.n+i/\m.n+i<m.n+rows.length by omega)];rw[show m.n+i - m.n=i by omega]
  have hle:PLe φ φ':=fun B l hl=>by
   by_cases hB:m.n<=B/\B<m.n+rows.length
   ·rw[hF B hB.1 hB.2]at hl;cases hl
   ·rw[hold B hB];exact hl
  have hturn:∀i l,i<ins.length+rows.length->φ1 (XC ins.length rows i)=some l->φ' (τ i)=some l:=fun i l hi hl=>by
   by_cases hik:i<ins.length
   ·rw[hs1 i hik,hst.ext i (.inl (by rw[fE];exact hik)),hL1 i hik]at hl
    rw[hτ1 i hik,hold _ (by have:=hlt i hik;omega)];exact hl
   ·obtain⟨j,rfl⟩:∃j,i=ins.length+j:=⟨i - ins.length,by omega⟩
    rw[hs2]at hl
    rw[hτ2,hnew j (by omega)];exact hl
  have hsig:∀i (hi:i<rows.length),sig rows i=rows[i].1:=fun i hi=>by unfold sig;simp[hi]
  have hge':∀i,i<rows.length->ins.length<=sig rows i:=fun i hi=>by
   rw[hsig i hi];exact We hge i _ (by simp[hi])
  have hlt1:∀i,i<rows.length->sig rows i<m1.n:=fun i hi=>by
   obtain⟨c,hc,_⟩:=zT hrows i rows[i] (by simp[hi])
   rw[hsig i hi];exact hR1.lt hc
  have hfresh:∀i l,i<rows.length->φ1 (sig rows i)=some l->w.heap.size<=l.b:=fun i l hi hl=>by
   rcases hst.fresh (sig rows i) l (by rw[fE];exact hge' i hi) (hlt1 i hi) hl with h | ⟨B0,l0,ht,h,_⟩
   ·exact h
   ·exact absurd ht (hnoT B0)
  have hobj:∀B,B<m.n->(vg σ rows m).obj B=m.obj B:=fun B hB=>by unfold vg;rw[jP,if_neg (by omega)]
  have hobjN:∀i (hi:i<rows.length),(vg σ rows m).obj (m.n+i)=some (.cells (mkn .lf 0 (rows[i].2.map (ren τ)))):=fun i hi=>by
   unfold vg
   rw[jP,if_pos (by simp;omega),show m.n+i - m.n=i by omega,hτ]
   simp[hi]
  have hrow:∀i (hi:i<rows.length) l,φ1 (sig rows i)=some l->ObjRel φ' w' (.cells (mkn .lf 0 (rows[i].2.map (ren τ)))) l:=fun i hi l hl=>by
   obtain⟨c,hc,hok⟩:=zT hrows i rows[i] (by simp[hi])
   obtain⟨ob,ho1,ho2⟩:=hR1.obj (sig rows i) l (hlt1 i hi) hl
   rw[hsig i hi,hc]at ho1
   cases ho1
   exact Jn hturn hok ho2
  refine⟨φ',v',rfl,⟨fun B hB=>?_,fun B l hB hl=>?_,fun B₁ B₂ l₁ l₂ h1 h2 hl1 hl2 hb hne=>?_⟩,⟨(zh _ m).1,hle,fun B hB=>?_,fun B l h1 h2 hl=>?_,fun B _ h1 h2=>absurd ((zh _ m).2 B h1) h2,hst.os,hst.tape,hst.output,hst.size,fun b hb _=>hheap b hb⟩,Zz hturn hv hr1⟩
  ·exact (zh _ m).1.wf hR.wf B hB
  ·rw[hgn]at hB
   by_cases hlt:B<m.n
   ·rw[hold B (by omega)]at hl
    obtain⟨o,h1,h2⟩:=hR.obj B l hlt hl
    exact⟨o,by rw[hobj B hlt];exact h1,(h2.mono hle).world (hheap l.b h2.lt)⟩
   ·obtain⟨i,rfl⟩:∃i,B=m.n+i:=⟨B - m.n,by omega⟩
    have hi:i<rows.length:=by omega
    rw[hnew i hi]at hl
    exact⟨_,hobjN i hi,hrow i hi l hl⟩
  ·rw[hgn]at h1 h2
   have lt:∀B l,B<m.n->φ B=some l->l.b<w.heap.size:=fun B l hB hl=>by
    obtain⟨o,_,ho⟩:=hR.obj B l hB hl
    exact ho.lt
   by_cases e1:B₁<m.n
   ·rw[hold B₁ (by omega)]at hl1
    have:=lt B₁ l₁ e1 hl1
    by_cases e2:B₂<m.n
    ·rw[hold B₂ (by omega)]at hl2
     exact (hR.inj B₁ B₂ l₁ l₂ e1 e2 hl1 hl2 hb hne).imp (fun e=>by unfold dead;rw[hobj B₁ e1];exact e) (fun e=>by unfold dead;rw[hobj B₂ e2];exact e)
    ·obtain⟨i,rfl⟩:∃i,B₂=m.n+i:=⟨B₂ - m.n,by omega⟩
     rw[hnew i (by omega)]at hl2
     have:=hfresh i l₂ (by omega) hl2
     omega
   ·obtain⟨i,rfl⟩:∃i,B₁=m.n+i:=⟨B₁ - m.n,by omega⟩
    have hi:i<rows.length:=by omega
    rw[hnew i hi]at hl1
    by_cases e2:B₂<m.n
    ·rw[hold B₂ (by omega)]at hl2
     have:=lt B₂ l₂ e2 hl2
     have:=hfresh i l₁ hi hl1
     omega
    ·obtain⟨j,rfl⟩:∃j,B₂=m.n+j:=⟨B₂ - m.n,by omega⟩
     have hj:j<rows.length:=by omega
     rw[hnew j hj]at hl2
     have hij:sig rows i≠sig rows j:=fun e=>by
      rw[hsig i hi,hsig j hj]at e
      have:=vO hnd i j rows[i].1 (by simp[hi]) (by simp[hj,e])
      omega
     have emp:∀k (hk:k<rows.length),dead m1 (sig rows k)->dead (vg σ rows m) (m.n+k):=fun k hk hdk=>by
      obtain⟨c,hc,hok⟩:=zT hrows k rows[k] (by simp[hk])
      unfold dead at hdk
      rw[hsig k hk,hc]at hdk
      cases hdk
      unfold dead
      rw[hobjN k hk,Jm hok];rfl
     exact (hR1.inj _ _ l₁ l₂ (hlt1 i hi) (hlt1 j hj) hl1 hl2 hb hij).imp (emp i hi) (emp j hj)
  ·rw[hgn]at hB
   exact hold B (by omega)
  ·rw[hgn]at h2
   obtain⟨i,rfl⟩:∃i,B=m.n+i:=⟨B - m.n,by omega⟩
   rw[hnew i (by omega)]at hl
   exact .inl (hfresh i l (by omega) hl)
 ·cases h
structure PreM where
 g:Nat
 args:List Value
 ins:List (List Value)
 v:Value
 rows:List (Nat × List Value)
def uV (σ:List Nat) (x y:Value):List Nat:=match x,y with
 | .pointer (some a),.pointer (some b)=>bif Nat.beq a.block σ.length then σ ++ [b.block] else σ
 | .slice (some a) _ _,.slice (some b) _ _=>bif Nat.beq a.block σ.length then σ ++ [b.block] else σ
 | _,_=>σ
def uL:List Nat->List Value->List Value->List Nat
 | σ,x :: l,y :: k=>uL (uV σ x y) l k
 | σ,_,_=>σ
def u1 (σ:List Nat) (x y:Value):List Nat:=match x,y with
 | .agg a,.agg b=>uL σ a.toList b.toList
 | _,_=>uV σ x y
def uA:List Nat->List Value->List Value->List Nat
 | σ,x :: l,y :: k=>uA (u1 σ x y) l k
 | σ,_,_=>σ
def uRow (c:C):Nat->List Nat->List Value->List Nat
 | j,σ,x :: l=>uRow c (j+1) (match A.get none j c with
  | some y=>uV σ x y
  | none=>σ) l
 | _,σ,[]=>σ
def uRows (m:M):Nat->List Nat->List (List Value)->List Nat
 | i,σ,r :: l=>uRows m (i+1) (match m.obj (σ.getD i 0) with
  | some (.cells c)=>uRow c 0 σ r
  | _=>σ) l
 | _,σ,[]=>σ
def sigM (p:PreM) (args:List Value) (m:M):List Nat:=uRows m 0 (uA [] p.args args) p.ins
def Kq (p:PreM) (σ:List Nat) (args:List Value) (m:M) (r:Option (PreM × List Nat)):Option (PreM × List Nat):=bif okM p.args p.ins σ args m then some (p,σ) else r
def Qt (g:Nat) (args:List Value) (m:M) (l:List PreM):Option (PreM × List Nat):=List.rec none (fun p _ ih=>bif Nat.beq p.g g then Kq p (sigM p args m) args m ih else ih) l
def Du (P:Program) (l:List Pre) (k:List PreM) (x:Ex) (g:Nat) (args:List Value) (m:M):Option (Value × M) :=
 Option.rec (YT P l x g args m) (fun p=>some (Xv (XI p.2 m.n) p.1.v,vg p.2 p.1.rows m)) (Qt g args m k)
def exgm (P:Program) (l:List Pre) (k:List PreM) (n:Nat):Ex:=Nat.rec .bot (fun _ x=>⟨Du P l k x,Fx P x⟩) n
def PreMOK (P:Program) (p:PreM):Prop:=∃x,jL P x/\chkM p.ins p.rows p.v (x.f p.g p.args (gz p.ins))=true
theorem Qu {g:Nat} {args:List Value} {m:M}:∀{l:List PreM} {p:PreM} {σ:List Nat},Qt g args m l=some (p,σ)->p∈l/\p.g=g/\okM p.args p.ins σ args m=true
 | [],p,σ,h=>by cases h
 | q :: l,p,σ,h=>by
  change (bif Nat.beq q.g g then Kq q (sigM q args m) args m (Qt g args m l) else Qt g args m l)=some (p,σ) at h
  have rest:Qt g args m l=some (p,σ)->p∈q :: l/\p.g=g/\okM p.args p.ins σ args m=true:=fun h=>by
   obtain⟨h1,h2⟩:=Qu h
   exact⟨by simp[h1],h2⟩
  cases hb:Nat.beq q.g g with
  | false=>rw[hb]at h;exact rest h
  | true =>
   rw[hb]at h
   change Kq q (sigM q args m) args m (Qt g args m l)=some (p,σ) at h
   unfold Kq at h
   cases ho:okM q.args q.ins (sigM q args m) args m with
   | true=>rw[ho]at h;cases h;exact⟨by simp,qd8 hb,ho⟩
   | false=>rw[ho]at h;exact rest h
theorem Ko {P:Program} (hP:P.follows .mixedOrders=true) {l:List Pre} {k:List PreM} (hl:∀p∈l,PreOK2 P p) (hk:∀p∈k,PreMOK P p):∀n,jL P (exgm P l k n)
 | 0=>⟨fun _ _ _ _ _ h=>(by cases h),fun _ _ _ _ _ h=>(by cases h)⟩
 | n+1=>by
  have ih:=Ko hP hl hk n
  have hs:=Ex.step_ok ih hP
  refine⟨fun g args m v m' h=>?_,hs.y⟩
  change Du P l k (exgm P l k n) g args m=some (v,m') at h
  unfold Du at h
  cases hm:Qt g args m k with
  | some q =>
   obtain⟨p,σ⟩:=q
   rw[hm]at h
   cases h
   obtain⟨h1,rfl,h2⟩:=Qu hm
   obtain⟨x,hx,h3⟩:=hk p h1
   exact Yr hx h3 h2
  | none =>
   rw[hm]at h
   change YT P l (exgm P l k n) g args m=some (v,m') at h
   unfold YT at h
   cases hf:ZE g args l with
   | none=>rw[hf]at h;exact hs.f g args m v m' h
   | some p =>
    rw[hf]at h
    cases h
    obtain⟨h1,rfl,rfl⟩:=fw hf
    obtain⟨h2,x,hx,h3⟩:=hl p h1
    exact ZH hx h2 h3 m
theorem PreMOK.of {P:Program} (hP:P.follows .mixedOrders=true) {l:List Pre} {k:List PreM} (hl:∀p∈l,PreOK2 P p) (hk:∀p∈k,PreMOK P p) {n:Nat} {p:PreM} (h:chkM p.ins p.rows p.v ((exgm P l k n).f p.g p.args (gz p.ins))=true):PreMOK P p:=⟨_,Ko hP hl hk n,h⟩
theorem PreOK2.of {P:Program} (hP:P.follows .mixedOrders=true) {l:List Pre} {k:List PreM} (hl:∀p∈l,PreOK2 P p) (hk:∀p∈k,PreMOK P p) {n:Nat} {p:Pre} (ha:p.args.all scalar=true) (h:chk p.rows p.v ((exgm P l k n).f p.g p.args M.empty)=true):PreOK2 P p:=⟨ha,_,Ko hP hl hk n,h⟩
end
end Go.Dx
namespace Go.Sx
open Go.Dx Go.Proofs
set_option maxRecDepth 10000
def aw:Dx.Pre:=⟨8,[],.bool true,[]⟩
noncomputable def xA (N:Nat):Ex:=⟨fun g args m=>bif Nat.beq g 8 then (exg Tryz.prog [aw] 1).f g args m else (ex Tryz.prog N).f g args m,(ex Tryz.prog N).y⟩
theorem xA_f (N g:Nat) (args:List Value) (m:M) (h:g≠8):(xA N).f g args m=(ex Tryz.prog N).f g args m:=by
 show (bif Nat.beq g 8 then _ else _)=_
 rw[gX h];rfl
theorem xA_aw (N:Nat) (m:M):(xA N).f 8 [] m=some (.bool true,m):=rfl
theorem xA_ok (hP:Tryz.prog.follows .mixedOrders=true) (haw:PreOK2 Tryz.prog aw) (N:Nat):jL Tryz.prog (xA N):=by
 refine⟨fun g args m v m' h=>?_,(ZD hP N).y⟩
 change (bif Nat.beq g 8 then (exg Tryz.prog [aw] 1).f g args m else (ex Tryz.prog N).f g args m)=some (v,m') at h
 cases hb:Nat.beq g 8 with
 | true=>rw[hb]at h;exact (Vc hP (l:=[aw]) (fun p hp=>by rw[qd2.1 hp];exact haw) 1).f g args m v m' h
 | false=>rw[hb]at h;exact (ZD hP N).f g args m v m' h
theorem step_ret {P:Program} {x:Ex} {g:Nat} {c:SC} {nt:Nat} {res:List RV} {args:List Value} {m:M} {Q:Value->M->Prop} (hd:qQ P g=some ⟨c,nt,res⟩) (ha:args.length<=nt)
  (h:Ret m Q (c x (kx res) noK (kx res) (xH .blank 0 args) m)):Dx.Call (Ex.step P x) g args m Q:=by
 obtain⟨v,m',e,h1,h2⟩:=h
 refine⟨v,m',?_,h1,h2⟩
 show ob (qQ P g) (callF x args m)=_
 rw[hd,qT,Qe _ _ _ _ _ _ ha];exact e
theorem _root_.Go.Dx.Call.xA {N g:Nat} {args:List Value} {m:M} {Q:Value->M->Prop} (h:Dx.Call (ex Tryz.prog N) g args m Q) (hg:g≠8):Dx.Call (xA N) g args m Q:=by
 obtain⟨v,m',a,b,c⟩:=h
 exact⟨v,m',(xA_f N g args m hg).trans a,b,c⟩
theorem Xe (a b:Int):mmL true [.int .i64 a,.int .i64 b]=some (.int .i64 (max a b)):=by
 have h:mmL true [.int .i64 a,.int .i64 b]=some (.int .i64 (bif ltI a b then b else a)):=rfl
 rw[h,xj]
 by_cases hab:a<b
 ·rw[decide_eq_true hab,cond_true,Int.max_eq_right (by omega)]
 ·rw[decide_eq_false hab,cond_false,Int.max_eq_left (by omega)]
theorem Xf (a b:Int):mmL false [.int .i64 a,.int .i64 b]=some (.int .i64 (min a b)):=by
 have h:mmL false [.int .i64 a,.int .i64 b]=some (.int .i64 (bif ltI b a then b else a)):=rfl
 rw[h,xj]
 by_cases hab:b<a
 ·rw[decide_eq_true hab,cond_true,Int.min_eq_right (by omega)]
 ·rw[decide_eq_false hab,cond_false,Int.min_eq_left (by omega)]
theorem pMm_ap (mx:Bool) (xs:List V) (t:Tm):pMm mx xs t=mmL mx (evs t xs):=rfl
theorem JP (n:Int) (L:Nat):∃k:Nat,min (max n 0) (L:Int)=(k:Int)/\k<=L:=⟨(min (max n 0) (L:Int)).toNat,by omega,by omega⟩
set_option maxHeartbeats 8000000 in
theorem CpuPrefix_c (n:Nat) {m:M} (hm:m.base<=m.n) {wl rl bl:Value} {ws rs:List Nat} {wins:List Bool} (hws:Rd m wl 1 yA ws) (hrs:Rd m rl 1 xZ rs) (hbs:Rd m bl 1 VS wins) (srl:Sp 1 rl) (sbl:Sp 1 bl) (hv:∀v∈rs,v<W64) (a b f:Int) :
  CallV (Ex.step Tryz.prog (xA (n+40))) 4 [wl,rl,bl,iv a,iv b,iv f] m (.bool true):=by
 refine step_ret da0_ok (by simp) ?_
 have aw0:=xA_aw (n+40) m
 obtain⟨v1,m1,a1,a2,a3⟩:=(dR (n+5) hm hws hrs hbs srl sbl hv (fuel:=20000) (by omega)).xA (by decide)
 have a1:(xA (n+40)).f 16 [wl,rl,bl,.int .i64 20000] m=some (v1,m1):=a1
 have hm1:m1.base<=m1.n:=((Sees.refl hm).ext a2).base
 have st1:=((St.nil hm (Ext.refl m)).step a2).row z9
 rcases a3 with ⟨he,rfl⟩ | ⟨he,q1,rfl,r1,n1,-,-,u1⟩
 ·obtain⟨m2,b1,st2,-,-⟩:=st1.fill 0 rfl (n:=9) (l':=z9) rfl rfl (by simp[okC])
  have b1':qz 9 (.pointer (some ⟨m1.n,0,none⟩)) (.agg ⟨[zS,zS,zS,zS,zS,zS,zI,zI,zI]⟩) (Dx.newRow m1 [zS,zS,zS,zS,zS,zS,zI,zI,zI])=some (undef,m2):=b1
  have b2:loads m2 ⟨m1.n,0,none⟩ 9=some z9:=(st2.get 0 rfl).2.2.loads (o:=0) (n:=9) (by simp)
  have hne:(xQ ws=0)=False:=eq_false he
  obtain⟨v3,m3,c1,c2,rfl⟩:=(qac (n+36) st2.sees.base).xA (by decide)
  have c1':(xA (n+40)).f 17 [.agg ⟨[zS,zS,zS,zS,zS,zS,zI,zI,zI]⟩] m2=some (.bool true,m3):=c1
  simp[aw0,a1,b1',hne,qc,b2,c1']
  exact qJ (st2.ext.trans c2) (by simp)
 obtain⟨m2,b1,st2,b2,b3⟩:=st1.fill 0 rfl (n:=9) (l':=qU q1) rfl rfl r1.ok
 have b1':qz 9 (.pointer (some ⟨m1.n,0,none⟩)) (.agg ⟨qU q1⟩) (Dx.newRow m1 [zS,zS,zS,zS,zS,zS,zI,zI,zI])=some (undef,m2):=b1
 have lr:=hrs.len
 have lb:=hbs.len
 obtain⟨A,hA,hAl⟩:=JP a rs.length
 obtain⟨B,hB,hBl⟩:=JP b wins.length
 obtain⟨F,hF,hFl⟩:=JP f 20000
 have x1:=Xe a 0
 have x2:=Xf (max a 0) rs.length
 rw[hA]at x2
 have y1:=Xe b 0
 have y2:=Xf (max b 0) wins.length
 rw[hB]at y2
 have z1:=Xe f 0
 have z2:=Xf (max f 0) 20000
 have hF':min (max f 0) 20000=(F:Int):=hF
 rw[hF']at z2
 have E2:Ext m m2:=st2.ext
 have S2:Sees m m2:=(Sees.refl hm).ext E2
 obtain⟨ra,rn,rc,w1,w2,w3,-⟩:=hrs.take srl (fun _=>rfl) hAl
 obtain⟨ba,bn,bc,w4,w5,w6,-⟩:=hbs.take sbl (fun _=>rfl) hBl
 have kA:∀{α:Type} {u:Value} {e:Nat} {g:α->List Value} {es:List α} {mq:M},Rd m u e g es->Ext m mq->Rd (qe mq) u e g es:=fun h e=>h.congr (by rw[qn];exact e.n) fun B hB=>by rw[qq];exact e.obj B (h.lt B hB)
 have hvA:∀v∈rs.take A,v<W64:=fun v hv'=>hv v (List.mem_of_mem_take hv')
 obtain⟨v3,x3,c1,c0,c2,c3⟩:=ql ((dR (n+5) (qC m2) (kA hws E2) (kA w2 E2) (kA w5 E2) w3 w6 hvA (fuel:=(F:Int)) (by omega)).xA (by decide))
 obtain⟨m3,hm3⟩:=qdi (Dx.behind m2 x3)
 rw[<-hm3]at c2
 rcases c3 with ⟨he',-⟩ | ⟨-,q2,rfl,r2,n2,st2',lc2,u2⟩
 ·exact absurd he he'
 rw[qn]at n2
 have r2:RL m3 q2 (wZ ws (rs.take A) (wins.take B) F):=by rw[hm3];exact r2.kp (D:=[]) ⟨by rw[qL];exact qcy _,fun B _ _=>qu _ _ _⟩ (by simp)
 have c1:(xA (n+40)).f 16 [wl,.slice ra rn rc,.slice ba bn bc,iv F] (qe m2)=some (.tuple #[.agg ⟨qU q2⟩,iv 0],x3):=c1
 have st3:=(st2.step c2).row z9
 obtain⟨x4,d1,d0,st4,d2,d3⟩:=st3.fillAny 0 rfl (n:=9) (l':=qU q2) (by omega) rfl rfl r2.ok
 have d1':qz 9 (.pointer (some ⟨m3.n,0,none⟩)) (.agg ⟨qU q2⟩) (qe (Dx.newRow m3 [zS,zS,zS,zS,zS,zS,zI,zI,zI]))=some (undef,x4):=d1
 obtain⟨m4,hm4⟩:=qdi (Dx.behind (Dx.newRow m3 z9) x4)
 have hm4':Dx.behind (Dx.newRow m3 [zS,zS,zS,zS,zS,zS,zI,zI,zI]) x4=m4:=hm4.symm
 rw[<-hm4]at st4 d2 d3
 have E4:Ext m m4:=st4.ext
 obtain⟨v5,x5,e1,e0,e2,e3⟩:=ql ((dR (n+5) (qC m4) (kA hws E4) (kA w2 E4) (kA w5 E4) w3 w6 hvA (fuel:=(F:Int)) (by omega)).xA (by decide))
 obtain⟨m5,hm5⟩:=qdi (Dx.behind m4 x5)
 rw[<-hm5]at e2
 rcases e3 with ⟨he',-⟩ | ⟨-,q3,rfl,r3,n3,st3',lc3,u3⟩
 ·exact absurd he he'
 rw[qn]at n3
 have r3:RL m5 q3 (wZ ws (rs.take A) (wins.take B) F):=by rw[hm5];exact r3.kp (D:=[]) ⟨by rw[qL];exact qcy _,fun B _ _=>qu _ _ _⟩ (by simp)
 have e1:(xA (n+40)).f 16 [wl,.slice ra rn rc,.slice ba bn bc,iv F] (qe m4)=some (.tuple #[.agg ⟨qU q3⟩,iv 0],x5):=e1
 have st5:=(st4.step e2).row z9
 obtain⟨x6,f1,f0,st6,f2,f3⟩:=st5.fillAny 0 rfl (n:=9) (l':=qU q3) (by omega) rfl rfl r3.ok
 have f1':qz 9 (.pointer (some ⟨m5.n,0,none⟩)) (.agg ⟨qU q3⟩) (qe (Dx.newRow m5 [zS,zS,zS,zS,zS,zS,zI,zI,zI]))=some (undef,x6):=f1
 obtain⟨m6,hm6⟩:=qdi (Dx.behind (Dx.newRow m5 z9) x6)
 have hm6':Dx.behind (Dx.newRow m5 [zS,zS,zS,zS,zS,zS,zI,zI,zI]) x6=m6:=hm6.symm
 rw[<-hm6]at st6 f2 f3
 obtain⟨D,hD⟩:=qdi ([m1.n,m3.n,m5.n])
 have i1:m1.n∈D:=by rw[hD];simp
 have i3:m3.n∈D:=by rw[hD];simp
 have i5:m5.n∈D:=by rw[hD];simp
 have g2:m2.n=m1.n+1:=by rw[b2,qv]
 have g4:m4.n=m3.n+1:=by rw[d2,qv]
 have g6:m6.n=m5.n+1:=by rw[f2,qv]
 have g3:=c2.n
 have g5:=e2.n
 have K12:Kp D m1 m2:=(Ext.row m1 z9).kp.trans (Kp.put b2 b3 i1)
 have K34:Kp D m3 m4:=(Ext.row m3 z9).kp.trans (Kp.put d2 d3 i3)
 have K56:Kp D m5 m6:=(Ext.row m5 z9).kp.trans (Kp.put f2 f3 i5)
 have K36:Kp D m3 m6:=K34.trans (e2.kp.trans K56)
 have K16:Kp D m1 m6:=K12.trans (c2.kp.trans K36)
 have R1:RL m6 q1 (wZ ws rs wins 20000):=r1.kp K16 fun F hF B hB hc=>by
  have:=(r1.ls F hF).lt B hB
  rw[hD]at hc;simp at hc;omega
 have R2:RL m6 q2 (wZ ws (rs.take A) (wins.take B) F):=r2.kp K36 fun F hF B hB hc=>by
  have:=(r2.ls F hF).lt B hB
  have:=n2 F hF B hB
  rw[hD]at hc;simp at hc;omega
 have R3:RL m6 q3 (wZ ws (rs.take A) (wins.take B) F):=r3.kp K56 fun F hF B hB hc=>by
  have:=(r3.ls F hF).lt B hB
  have:=n3 F hF B hB
  rw[hD]at hc;simp at hc;omega
 have s1:=QO he rs wins (fuel:=20000) (by omega) hv
 have s2:=QO he (rs.take A) (wins.take B) (fuel:=(F:Int)) (by omega) hvA
 have pre:Pre (wZ ws (rs.take A) (wins.take B) F) (wZ ws rs wins 20000):=by
  have:=QN 20000 200001 (KE ws F) rs wins A B (dK he F) (by show (0:Int)<=F/\(F:Int)<=20000;omega) hv
  exact this
 have usd:(wZ ws (rs.take A) (wins.take B) F).sc.us<=A:=by
  have:=(fJ 200001 (KE ws F) (rs.take A) (wins.take B) (dK he F) hvA).2
  have h0:(KE ws F).sc.us=0:=rfl
  rw[h0,List.length_take,Nat.min_eq_left hAl,Int.zero_add]at this
  exact this
 have pev:=pre.ev
 have pou:=pre.outs
 have pus:=pre.us
 rw[<-u2,<-u1]at pus
 rw[<-u2]at usd
 have lev:=pev.length_le
 have lou:=pou.length_le
 have hev:=s2.sz 0 (by omega)
 have hou:=s2.sz 5 (by omega)
 rw[zX]at hev
 rw[xw]at hou
 obtain⟨X,hX⟩:=qdi (wZ ws (rs.take A) (wins.take B) F)
 obtain⟨Y,hY⟩:=qdi (wZ ws rs wins 20000)
 rw[<-hX]at R2 R3 pev pou lev lou hev hou s2 st2' lc2 u2 st3' lc3 u3
 rw[<-hY]at R1 pev pou lev lou s1 u1
 have hev:X.ev.length<=9000000000000000000:=by have:X.ev.length*40<=wy:=hev;unfold wy at this;omega
 have hou:X.outs.length<=9000000000000000000:=by have:X.outs.length*8<=wy:=hou;unfold wy at this;omega
 obtain⟨v7,m7,g1,gE,rfl⟩:=(same_c (n+38) st6.sees.base R2 R3 (SameRun.refl X) (st2'.trans st3'.symm) (lc2.trans lc3.symm) (u2.trans u3.symm) s2).xA (by decide)
 have st7:=st6.step gE
 have E6:Ext m m6:=st6.ext
 have R1':=R1.ext gE
 have R2':=R2.ext gE
 have l3:loads m6 ⟨m3.n,0,none⟩ 9=some (qU q2):=(st6.get 1 rfl).2.2.loads (o:=0) (n:=9) (by simp[qU])
 have l5:loads m6 ⟨m5.n,0,none⟩ 9=some (qU q3):=(st6.get 0 rfl).2.2.loads (o:=0) (n:=9) (by simp[qU])
 have s0:load1 m7 ⟨m3.n,0,none⟩=some q2.ev:=(st7.get 1 rfl).2.2.load1 0 none
 have s5:load1 m7 ⟨m3.n,5,none⟩=some q2.outs:=(st7.get 1 rfl).2.2.load1 5 none
 have s8:load1 m7 ⟨m3.n,8,none⟩=some (iv q2.us):=(st7.get 1 rfl).2.2.load1 8 none
 have p0:load1 m7 ⟨m1.n,0,none⟩=some q1.ev:=(st7.get 2 rfl).2.2.load1 0 none
 have p5:load1 m7 ⟨m1.n,5,none⟩=some q1.outs:=(st7.get 2 rfl).2.2.load1 5 none
 have p8:load1 m7 ⟨m1.n,8,none⟩=some (iv q1.us):=(st7.get 2 rfl).2.2.load1 8 none
 have re1:=R1'.rdEv
 have re2:=R2'.rdEv
 have ro1:=R1'.rdOuts
 have ro2:=R2'.rdOuts
 have le1:=re1.len
 have le2:=re2.len
 have lo1:=ro1.len
 have lo2:=ro2.len
 have t1:((Y.ev.length:Int)<(X.ev.length:Int))=False:=eq_false (by omega)
 have t2:((Y.outs.length:Int)<(X.outs.length:Int))=False:=eq_false (by omega)
 have t1':(Y.ev.length<X.ev.length)=False:=eq_false (by omega)
 have t2':(Y.outs.length<X.outs.length)=False:=eq_false (by omega)
 have t3:(q1.us<q2.us)=False:=eq_false (by omega)
 have t4:((A:Int)<q2.us)=False:=eq_false (by omega)
 have hm7:=st7.sees.base
 simp[aw0,a1,b1',he,pMm_ap,x1,lr,x2,y1,lb,y2,Jd,w1,w4,z1,z2,c1,c0,<-hm3,d1',d0,hm4',e1,e0,<-hm5,f1',f0,hm6',qc,l3,l5,g1,s0,p0,le1,le2,t1,t1',s5,p5,lo1,lo2,t2,t2',s8,p8,t3,t4]
 have pget:∀{α:Type} {l l':List α} {i:Nat} {x:α},l <+: l'->l[i]?=some x->l'[i]?=some x:=fun h hx=>by
  obtain⟨t,rfl⟩:=h
  rw[qd9 (qcx.1 hx).1];exact hx
 refine qE (c:=FJ) rfl (Ret m _) (fun i t m'=>Tm.get 13 t=.pointer (some ⟨m1.n,0,none⟩)/\Tm.get 15 t=.pointer (some ⟨m3.n,0,none⟩)/\Tm.get 19 t=iv i/\m'=m7) X.ev.length (by omega)
  ⟨by simp,by simp,by simp,rfl⟩ (fun i t m' k hi hI hk=>?_)
 obtain⟨t13,t15,t19,rfl⟩:=hI
 by_cases hil:i<X.ev.length
 ·have d1:((i:Int)<(X.ev.length:Int))=True:=eq_true (by omega)
  have w1:=qW (i:=i) (by omega)
  obtain⟨x,hx⟩:∃x,X.ev[i]?=some x:=⟨_,qcv hil⟩
  obtain⟨x1,x2,-⟩:=re2.at hx
  obtain⟨y1,y2,-⟩:=re1.at (pget pev hx)
  have x2':=x2 m' (Sees.refl hm7)
  have y2':=y2 m' (Sees.refl hm7)
  have q:=Bf x
  simp[t13,t15,t19,s0,p0,le2,d1,hil,x1,y1,x2',y2',qc,q,w1]
  exact hk hil _ _ ⟨by simp[t13],by simp[t15],by simp,rfl⟩
 obtain rfl:i=X.ev.length:=by omega
 simp[t13,t15,t19,s0,le2]
 refine qE (c:=FK) rfl (Ret m _) (fun i t mm=>Tm.get 13 t=.pointer (some ⟨m1.n,0,none⟩)/\Tm.get 15 t=.pointer (some ⟨m3.n,0,none⟩)/\Tm.get 20 t=iv i/\mm=m') X.outs.length (by omega)
  ⟨by simp[t13],by simp[t15],by simp,rfl⟩ (fun i t mm k hi hI hk=>?_)
 obtain⟨t13,t15,t20,rfl⟩:=hI
 by_cases hil:i<X.outs.length
 ·have d1:((i:Int)<(X.outs.length:Int))=True:=eq_true (by omega)
  have w1:=qW (i:=i) (by omega)
  obtain⟨x,hx⟩:∃x,X.outs[i]?=some x:=⟨_,qcv hil⟩
  obtain⟨x1,x2⟩:=Rd.at1 (g:=fun (x:Nat)=>uv x) ro2 hx
  obtain⟨y1,y2⟩:=Rd.at1 (g:=fun (x:Nat)=>uv x) ro1 (pget pou hx)
  have x2':load1 mm (adr 1 q2.outs i)=some (uv x):=x2 mm (Sees.refl hm7)
  have y2':load1 mm (adr 1 q1.outs i)=some (uv x):=y2 mm (Sees.refl hm7)
  simp[t13,t15,t20,s5,p5,lo2,d1,hil,x1,y1,x2',y2',w1]
  exact hk hil _ _ ⟨by simp[t13],by simp[t15],by simp,rfl⟩
 obtain rfl:i=X.outs.length:=by omega
 simp[t13,t15,t20,s5,lo2]
 exact qJ st7.ext (by simp)
end Go.Sx
namespace Go.Dx
open Go.RowKit Go.WideShapes Go.ChangeShapes
section
variable {H:Type} {enc:TypeId × Value->H} {P:Program}
theorem args_stay (hl:laidOutB P=true) {W W':World}:∀(ts:List TypeId) (vs:List Value) (ds:List (DataW H)) (ps:List MemPlace),(ts.all fun t=>P.readableRec t && decide (t<P.types.size))=true ->
  DataW.TrodAll enc P W 0 (fun _=>true) true ts vs ds ps->(∀p∈ps,W.sameAt W' p)->∀sp:Nat->Bool,(∀p∈ps,sp p.block=true)->DataW.TrodAll enc P W' 0 sp true ts vs ds ps
 | [],vs,ds,ps,_,h,_,_,_=>by
  obtain⟨rfl,rfl,rfl⟩:=trodAll_nil h
  exact rfl
 | t :: ts,vs,ds,ps,ha,h,hs,sp,hsp=>by
  obtain⟨v,vs',d,ds',p,q,rfl,rfl,rfl,h1,h2⟩:=trodAll_cons h
  simp only[List.all_cons,qd1,decide_eq_true_eq]at ha
  exact⟨p,q,WideElems.Trod_stays hl ha.1.1 ha.1.2 h1 (fun x hx=>hs x (List.mem_append_left _ hx)) (fun x hx=>hsp x (List.mem_append_left _ hx)),
   args_stay hl ts vs' ds' q ha.2 h2 (fun x hx=>hs x (List.mem_append_right _ hx)) sp (fun x hx=>hsp x (List.mem_append_right _ hx)),rfl⟩
end
end Go.Dx
namespace Go.Sx
open Go.RowKit Go.WideShapes Go.ChangeShapes Go.Dx
theorem Jf {α β:Type} {m:M} {v:Value} {e:Nat} {f:β->List Value} {g:α->β} {l:List α} (h:Rd m v e (fun x=>f (g x)) l):Rd m v e f (l.map g) :=
 ⟨by rw[List.length_map];exact h.len,fun i r hr=>by
  rw[qdb,Option.map_eq_some_iff]at hr
  obtain⟨x,hx,rfl⟩:=hr
  exact h.row i x hx,by rw[List.length_map,List.flatMap_map];exact h.all,h.lt⟩
section
variable {H:Type} {enc:TypeId × Value->H} {P:Program} {w:World}
abbrev N64:Type:={ x:Nat // x<18446744073709551616 }
instance:Inhabited N64:=⟨⟨0,by decide⟩⟩
abbrev N32:Type:={ x:Nat // x<4294967296 }
instance:Inhabited N32:=⟨⟨0,by decide⟩⟩
def XN (d:DataW H) (n:Nat):Prop:=n=0\/∃elems spare,d=.slice elems spare/\elems.length=n
theorem KK {α:Type} [Inhabited α] {tu tus:TypeId} {f:α->List Value} (hs:P.underlying tus=some (.slice tu)) (huc:P.cellsOf tu=1) (hrow:∀n cs y,DataW.trod enc P w 0 (fun _=>true) true n tu cs=some y->∃x:α,cs=f x) (hint:∀x,(f x).length=1/\∀v∈f x,fh v=some v)
  {b0:Nat} {v:Value} {d:DataW H} {pl:List MemPlace} (hv:Value.okWide P w .any b0 tus v) (h:DataW.Trod enc P w 0 (fun _=>true) true tus v d pl) (hz:w.noneFrozen pl) :
  ∃(av:Value) (es:List α),VRel (vy w) av v/\Rd (snapM w) av 1 f es/\Sp 1 av/\XN d es.length:=by
 obtain⟨a0,len,cap,rfl⟩:=okWide_slice hs hv
 have k1:Cell.okWide P w .any b0 tus (.slice a0 len cap):=by have:=hv;simp only[Value.okWide,hs]at this;exact this
 obtain⟨fuel,hf⟩:=h
 obtain⟨av,es,r1,r2,r3,r4⟩:=VR (α:=α) (e:=tu) (sz:=1) (f:=f) hs huc (by omega) hrow hint hf (fun a l c e=>by rw[e]at k1;exact XD hs k1) (fun b off hb=>hz b off hb)
 refine⟨av,es,r1,r2,r4,?_⟩
 rcases r3 with rfl | ⟨el,sp,e1,e2⟩
 ·exact .inl rfl
 ·exact .inr ⟨el,sp,e1,e2⟩
theorem u64_arg {tu tus:TypeId} (hs:P.underlying tus=some (.slice tu)) (hu:P.underlying tu=some (.int .u64)) (huc:P.cellsOf tu=1) {b0:Nat} {v:Value} {d:DataW H} {pl:List MemPlace} (hv:Value.okWide P w .any b0 tus v) (h:DataW.Trod enc P w 0 (fun _=>true) true tus v d pl) (hz:w.noneFrozen pl) :
  ∃(av:Value) (es:List Nat),VRel (vy w) av v/\Rd (snapM w) av 1 xZ es/\Sp 1 av/\XN d es.length/\∀x∈es,x<W64:=by
 obtain⟨av,es,r1,r2,r3,r4⟩:=KK (α:=N64) (f:=fun x=>xZ x.1) hs huc (fun n cs y hh=>by
  obtain⟨x,e1,_,wb⟩:=DataW.trod_int hu hh
  simp only[Lit.wf,qd1,decide_eq_true_eq]at wb
  have h1:(0:Int)<=x:=wb.1
  have h2:x<=18446744073709551615:=wb.2
  exact⟨⟨x.toNat,by omega⟩,by rw[e1];show [Value.int .u64 x]=[Value.int .u64 (x.toNat:Int)];rw[Int.toNat_of_nonneg h1]⟩) (fun x=>⟨rfl,fun v hv=>by simp[xZ]at hv;subst hv;rfl⟩) hv h hz
 refine⟨av,es.map (·.1),r1,Jf (g:=fun x:N64=>x.1) r2,r3,by rw[List.length_map];exact r4,fun x hx=>?_⟩
 obtain⟨y,_,rfl⟩:=List.mem_map.1 hx
 exact y.2
theorem u32_arg {tu tus:TypeId} (hs:P.underlying tus=some (.slice tu)) (hu:P.underlying tu=some (.int .u32)) (huc:P.cellsOf tu=1) {b0:Nat} {v:Value} {d:DataW H} {pl:List MemPlace} (hv:Value.okWide P w .any b0 tus v) (h:DataW.Trod enc P w 0 (fun _=>true) true tus v d pl) (hz:w.noneFrozen pl) :
  ∃(av:Value) (es:List Nat),VRel (vy w) av v/\Rd (snapM w) av 1 yA es/\Sp 1 av/\XN d es.length/\∀x∈es,x<4294967296:=by
 obtain⟨av,es,r1,r2,r3,r4⟩:=KK (α:=N32) (f:=fun x=>yA x.1) hs huc (fun n cs y hh=>by
  obtain⟨x,e1,_,wb⟩:=DataW.trod_int hu hh
  simp only[Lit.wf,qd1,decide_eq_true_eq]at wb
  have h1:(0:Int)<=x:=wb.1
  have h2:x<=4294967295:=wb.2
  exact⟨⟨x.toNat,by omega⟩,by rw[e1];show [Value.int .u32 x]=[Value.int .u32 (x.toNat:Int)];rw[Int.toNat_of_nonneg h1]⟩) (fun x=>⟨rfl,fun v hv=>by simp[yA]at hv;subst hv;rfl⟩) hv h hz
 refine⟨av,es.map (·.1),r1,Jf (g:=fun x:N32=>x.1) r2,r3,by rw[List.length_map];exact r4,fun x hx=>?_⟩
 obtain⟨y,_,rfl⟩:=List.mem_map.1 hx
 exact y.2
theorem bool_arg {tu tus:TypeId} (hs:P.underlying tus=some (.slice tu)) (hu:P.underlying tu=some .bool) (huc:P.cellsOf tu=1) {b0:Nat} {v:Value} {d:DataW H} {pl:List MemPlace} (hv:Value.okWide P w .any b0 tus v) (h:DataW.Trod enc P w 0 (fun _=>true) true tus v d pl) (hz:w.noneFrozen pl) :
  ∃(av:Value) (es:List Bool),VRel (vy w) av v/\Rd (snapM w) av 1 VS es/\Sp 1 av/\XN d es.length:=by
 exact KK (α:=Bool) (f:=VS) hs huc (fun n cs y hh=>by
  obtain⟨x,e1,_⟩:=DataW.trod_bool hu hh
  exact⟨x,e1⟩) (fun x=>⟨rfl,fun v hv=>by simp[VS]at hv;subst hv;rfl⟩) hv h hz
end
end Go.Sx
