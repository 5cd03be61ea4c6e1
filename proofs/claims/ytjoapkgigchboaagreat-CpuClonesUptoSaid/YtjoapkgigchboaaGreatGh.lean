/- Contracts. -/
import Derived.Test.YtjoapkgigchboaaGreatGg
import Derived.Test.YtjoapkgigchboaaGreatGb3
import Derived.Test.YtjoapkgigchboaaGreatEd
import Derived.Test.YtjoapkgigchboaaGreatGa
import Derived.Test.YtjoapkgigchboaaGreatPost
import Derived.WideKeyArgs
set_option linter.unusedVariables false
set_option linter.unusedSimpArgs false
set_option linter.defProp false
namespace Go.Dx
theorem QV {c:C}:∀{a b o:Nat} {l:List Value},ldn c o (a+b)=some l->ldn c o a=some (l.take a)/\ldn c (o+a) b=some (l.drop a)
 | 0,b,o,l,h=>by rw[Nat.zero_add]at h;exact⟨rfl,h⟩
 | a+1,b,o,l,h=>by
  rw[show a+1+b=a+b+1 by omega,ye]at h
  obtain⟨v,hv,h⟩:=qb h
  obtain⟨t,ht,h⟩:=qb h
  have hl:l=v :: t:=by unfold Xv at h;cases h;rfl
  subst hl
  obtain⟨h1,h2⟩:=QV ht
  refine⟨?_,?_⟩
  ·rw[ye,hv];show ob (ldn c (o+1) a) _=_;rw[h1];rfl
  ·rw[show o+(a+1)=o+1+a by omega,h2];rfl
theorem bS {m:M} {B o a b:Nat} {s:Option Nat} {l:List Value} (h:loads m ⟨B,o,s⟩ (a+b)=some l):loads m ⟨B,o,s⟩ a=some (l.take a)/\loads m ⟨B,o+a,s⟩ b=some (l.drop a):=by
 unfold loads at h ⊢
 obtain⟨c,hc,h⟩:=qb h
 simp only at hc
 rw[hc]
 exact QV h
section
variable {α:Type} {m:M} {v:Value} {e:Nat} {f:α->List Value} {l:List α}
theorem Rd.drop (h:Rd m v e f l) (hs:Sp e v) (hf:∀x,(f x).length=e) {k:Nat} (hk:k<=l.length):∃a n c,slV e (some (.int .i64 (k:Int))) none none v=some (.slice a n c)/\Rd m (.slice a n c) e f (l.drop k)/\Sp e (.slice a n c)/\(∀B,blk (.slice a n c)=some B->blk v=some B):=by
 rcases hs with rfl | ⟨B,o,n,c,x,rfl,hnc⟩
 ·have hl:l.length=0:=by have:=h.len;simp[zk]at this;omega
  have hk0:k=0:=by omega
  have hl':l=[]:=qbz hl
  subst hk0;subst hl'
  exact⟨none,0,0,rfl,h,.inl rfl,fun B hB=>hB⟩
 ·have hn:n=l.length:=by have:=h.len;simp[zk]at this;omega
  have hdl:(l.drop k).length=n - k:=by rw[List.length_drop,hn]
  have hfl:=wg hf l
  have hall:loads m ⟨B,o,some (code e x)⟩ (l.length*e)=some (l.flatMap f):=h.all
  have hsplit:l.length*e=k*e+(l.drop k).length*e:=by rw[hdl,hn,<-Nat.add_mul];congr 1;omega
  have hdrop:(l.flatMap f).drop (k*e)=(l.drop k).flatMap f:=by
   have hl2:l=l.take k ++ l.drop k:=(List.take_append_drop k l).symm
   have hlt:=wg hf (l.take k)
   rw[List.length_take,Nat.min_eq_left hk]at hlt
   conv=>lhs;rw[hl2,List.flatMap_append]
   rw[List.drop_append_of_le_length (by omega),<-hlt,List.drop_length,List.nil_append]
  rw[hsplit]at hall
  obtain⟨h1,h2⟩:=bS hall
  rw[hdrop]at h2
  have hb:yv n c (some (.int .i64 (k:Int))) none none=some (k,n,c):=by
   show ob (dG (some (.int .i64 (k:Int))) 0 n) _=_
   show ob (bif Nat.ble k n then some k else none) _=_
   rw[qbq (by omega)];rfl
  have hcd:Nat.beq (code e x / 2) e=true:=by
   have:code e x / 2=e:=by
    cases x
    ·show (2*e) / 2=e;omega
    ·show (2*e+1) / 2=e;omega
   rw[this,Nat.beq_refl]
  have hex:xU (code e x)=x:=by
   cases x
   ·show Nat.beq ((2*e) % 2) 1=false
    rw[show (2*e) % 2=0 by omega];rfl
   ·show Nat.beq ((2*e+1) % 2) 1=true
    rw[show (2*e+1) % 2=1 by omega];rfl
  have hsl:slV e (some (.int .i64 (k:Int))) none none (.slice (some ⟨B,o,some (code e x)⟩) n c)=some (.slice (some ⟨B,bif x && Nat.beq c k then o else o+k*e,some (code e x)⟩) (n - k) (c - k)):=by
   unfold slV
   simp only[qS,hb,hcd,hex,Option.isSome_none,Bool.or_false]
   rfl
  refine⟨_,_,_,hsl,⟨by rw[hdl];rfl,fun i r hr=>?_,?_,fun C hC=>by cases hC;exact h.lt _ rfl⟩,.inr ⟨_,_,_,_,_,rfl,by omega⟩,fun C hC=>hC⟩
  ·have hi:i<(l.drop k).length:=(qbk.1 hr).1
   rw[List.getElem?_drop]at hr
   have hck:(x && Nat.beq c k)=false:=by
    cases q:Nat.beq c k with
    | false=>simp
    | true=>have:=qbv q;omega
   rw[hck]
   obtain⟨g1,g2,g3⟩:=h.row (k+i) r hr
   refine⟨?_,g2,?_⟩
   ·show (bif Nat.blt i (n - k) then fG (i*e) _ else none)=_
    rw[show Nat.blt i (n - k)=true from qbq (by omega)];rfl
   ·have e1:adr e (.slice (some ⟨B,o,some (code e x)⟩) n c) (k+i)=⟨B,o+(k+i)*e,none⟩:=rfl
    have e2:adr e (.slice (some ⟨B,bif false then o else o+k*e,some (code e x)⟩) (n - k) (c - k)) i=⟨B,o+k*e+i*e,none⟩:=rfl
    rw[e1]at g3
    rw[e2,<-g3,Nat.add_mul,Nat.add_assoc]
  ·show loads m ⟨B,bif x && Nat.beq c k then o else o+k*e,some (code e x)⟩ ((l.drop k).length*e)=_
   cases q:(x && Nat.beq c k) with
   | false=>exact h2
   | true =>
    rw[qbo]at q
    have:=qbv q.2
    have h0:l.drop k=[]:=List.drop_eq_nil_of_le (by omega)
    rw[h0]at h2 ⊢
    unfold loads at h1 ⊢
    obtain⟨cc,hcc,_⟩:=qb h1
    simp only at hcc
    show ob (cellsOf m B) _=_
    rw[hcc]
    show ldn cc _ (0*e)=_
    rw[Nat.zero_mul];rfl
theorem Rd.take (h:Rd m v e f l) (hs:Sp e v) (hf:∀x,(f x).length=e) {k:Nat} (hk:k<=l.length):∃a n c,slV e none (some (.int .i64 (k:Int))) none v=some (.slice a n c)/\Rd m (.slice a n c) e f (l.take k)/\Sp e (.slice a n c)/\(∀B,blk (.slice a n c)=some B->blk v=some B):=by
 rcases hs with rfl | ⟨B,o,n,c,x,rfl,hnc⟩
 ·have hl:l.length=0:=by have:=h.len;simp[zk]at this;omega
  have hk0:k=0:=by omega
  have hl':l=[]:=qbz hl
  subst hk0;subst hl'
  exact⟨none,0,0,rfl,h,.inl rfl,fun B hB=>hB⟩
 ·have hn:n=l.length:=by have:=h.len;simp[zk]at this;omega
  have htl:(l.take k).length=k:=by rw[List.length_take,Nat.min_eq_left hk]
  have hall:loads m ⟨B,o,some (code e x)⟩ (l.length*e)=some (l.flatMap f):=h.all
  have hsplit:l.length*e=k*e+(l.length - k)*e:=by rw[<-Nat.add_mul];congr 1;omega
  have htake:(l.flatMap f).take (k*e)=(l.take k).flatMap f:=by
   have hl2:l=l.take k ++ l.drop k:=(List.take_append_drop k l).symm
   have hlt:=wg hf (l.take k)
   rw[htl]at hlt
   conv=>lhs;rw[hl2,List.flatMap_append]
   rw[List.take_append_of_le_length (by omega),<-hlt,List.take_length]
  rw[hsplit]at hall
  obtain⟨h1,h2⟩:=bS hall
  rw[htake]at h1
  have hcd:Nat.beq (code e x / 2) e=true:=by
   have:code e x / 2=e:=by
    cases x
    ·show (2*e) / 2=e;omega
    ·show (2*e+1) / 2=e;omega
   rw[this,Nat.beq_refl]
  have hex:xU (code e x)=x:=by
   cases x
   ·show Nat.beq ((2*e) % 2) 1=false
    rw[show (2*e) % 2=0 by omega];rfl
   ·show Nat.beq ((2*e+1) % 2) 1=true
    rw[show (2*e+1) % 2=1 by omega];rfl
  have hb:yv n c none (some (.int .i64 (k:Int))) none=some (0,k,c):=by
   show ob (dG (some (.int .i64 (k:Int))) n c) _=_
   show ob (bif Nat.ble k c then some k else none) _=_
   rw[qbq (by omega)];rfl
  have hoff:(bif x && Nat.beq c 0 then o else o+0*e)=o:=by cases (x && Nat.beq c 0)<;>simp
  have hsl:slV e none (some (.int .i64 (k:Int))) none (.slice (some ⟨B,o,some (code e x)⟩) n c)=some (.slice (some ⟨B,o,some (code e x)⟩) k c):=by
   unfold slV
   simp only[qS,hb,hcd,hex,Option.isSome_none,Bool.or_false]
   show some (Value.slice (some ⟨B,bif x && Nat.beq c 0 then o else o+0*e,some (code e x)⟩) (k - 0) (c - 0))=_
   rw[hoff];rfl
  refine⟨_,_,_,hsl,⟨by rw[htl];rfl,fun i r hr=>?_,?_,fun C hC=>by cases hC;exact h.lt _ rfl⟩,.inr ⟨_,_,_,_,_,rfl,by omega⟩,fun C hC=>hC⟩
  ·have hi:i<(l.take k).length:=(qbk.1 hr).1
   rw[htl]at hi
   rw[List.getElem?_take,if_pos hi]at hr
   obtain⟨g1,g2,g3⟩:=h.row i r hr
   refine⟨?_,g2,g3⟩
   show (bif Nat.blt i k then fG (i*e) _ else none)=_
   rw[show Nat.blt i k=true from qbq hi];rfl
  ·show loads m ⟨B,o,some (code e x)⟩ ((l.take k).length*e)=_
   rw[htl];exact h1
end
end Go.Dx
namespace Go.Sx
open Go.Dx Go.Proofs
set_option maxRecDepth 10000
theorem VU {S:PM} {w:Wnt} (h:look S=some w):wY S=(S,w):=Qm h _
theorem Yb {S:PM} (h:WF S):wY (wY S).1=wY S:=by
 rw[VU (jh h).1]
theorem VH {S:PM} (h:WF S) (v:Nat):jT (wY S).1 v=jT S v:=by
 unfold jT;rw[Yb h]
def bL (w:Wnt) (v:Nat):Nat:=if w.what=2/\w.ex=true then v % 2 else v
def vC (S:PM) (v:Nat):PM:=(jT S (bL (wY S).2 v)).1
def xc (S:PM) (l:List Nat):PM:=l.foldl vC S
theorem KZ {w:Wnt} {v:Nat} (h:v<W64):bL w v<W64:=by
 unfold bL
 split
 ·omega
 ·exact h
theorem dT {S:PM} (h:WF S) {v:Nat} (hv:v<W64):WF (vC S v):=Gt h (KZ hv)
theorem ya:∀{l:List Nat} {S:PM},WF S->(∀v∈l,v<W64)->WF (xc S l)
 | [],S,h,_=>h
 | v :: l,S,h,hv=>ya (l:=l) (dT h (hv v (by simp))) fun x hx=>hv x (by simp[hx])
theorem ZQ (S:PM) (i:Ins) (w:Wnt) (v b:Nat):(storeP S i w v b).outs=S.outs:=by
 unfold storeP
 cases w.ex with
 | false=>rfl
 | true =>
  simp only[if_true]
  split
  ·exact (kx _ _ _ _).outs
  ·exact (kx _ _ _ _).outs
theorem bH (S:PM) (i:Ins) (w:Wnt) (v b:Nat):(kG S i w v b).outs=S.outs:=by
 unfold kG
 simp only
 split
 ·exact (kx _ _ _ _).outs
 ·exact (kx _ _ _ _).outs
theorem KX (w:Wnt) (b:Nat) (S:PM):(exP w b S).outs=S.outs:=by unfold exP;split<;>rfl
theorem VF (S:PM) (b:Nat):(db S b).outs=S.outs:=by unfold db;split<;>rfl
theorem Ju (S:PM) (i:Ins) (w:Wnt) (v:Nat):(xb S i w v).outs=if w.what=4 then S.outs ++ [w.val] else S.outs:=by
 unfold xb
 by_cases h1:w.what=1
 ·simp only[if_pos h1,if_neg (show ¬w.what=4 by omega)]
  split
  ·split
   ·exact bH _ _ _ _ _
   ·exact (KX _ _ _).trans (bH _ _ _ _ _)
  ·exact (KX _ _ _).trans (kx _ _ _ _).outs
 by_cases h2:w.what=2
 ·simp only[if_neg h1,if_pos h2,if_neg (show ¬w.what=4 by omega)]
  split
  ·exact VF _ _
  ·exact ZQ _ _ _ _ _
 by_cases h3:w.what=3
 ·simp only[if_neg h1,if_neg h2,if_pos h3,if_neg (show ¬w.what=4 by omega)];rfl
 by_cases h4:w.what=4
 ·simp only[if_neg h1,if_neg h2,if_neg h3,if_pos h4];rfl
 ·simp only[if_neg h1,if_neg h2,if_neg h3,if_neg h4];rfl
theorem Jw {S:PM} (h:WF S) (v:Nat):(jT S v).1.outs.length<=S.outs.length+1:=by
 obtain⟨h1,h2,h3⟩:=jh h
 unfold jT dU
 split
 ·rw[h3.outs];omega
 ·cases hf:fetch (wY S).1 with
  | none=>simp only;rw[h3.outs];omega
  | some i =>
   simp only
   rw[Ju]
   split
   ·rw[qbs,h3.outs];simp
   ·rw[h3.outs];omega
theorem xw:∀{l:List Nat} {S:PM},WF S->(∀v∈l,v<W64)->(xc S l).outs.length<=S.outs.length+l.length
 | [],S,h,_=>qbl _
 | v :: l,S,h,hv=>by
  have h1:=xw (l:=l) (dT h (hv v (by simp))) fun x hx=>hv x (by simp[hx])
  have h2:=Jw h (bL (wY S).2 v)
  show (xc (vC S v) l).outs.length<=_
  rw[List.length_cons]
  have:(vC S v).outs.length<=S.outs.length+1:=h2
  omega
theorem Jv {S:PM} {l:List Nat} {i v:Nat} (h:l[i]?=some v):xc S (l.take (i+1))=vC (xc S (l.take i)) v:=by
 unfold xc
 rw[List.take_add_one,h,Option.toList_some,List.foldl_append];rfl
set_option maxHeartbeats 2000000 in
theorem feed_m (n:Nat) {m:M} {P:Nat} {s:Mch} {g:Gh} {S:PM} (h:ML m P s g S) (hw:WF S) {lv:Value} {l:List Nat} (hl:Rd m lv 1 jC l) (hB:∀B,blk lv=some B->B ∉ own P s) (hv:∀v∈l,v<W64) (ho:(S.outs.length+l.length)*8<=most) :
  MuR (ex Tryz.prog (n+34)) 10 [mP P,lv] m P s g (xc S l) fun _=>True:=by
 suffices H:∃u m',(ex Tryz.prog (n+34)).f 10 [mP P,lv] m=some (u,m')/\∃s' g',Res m m' P s g s' g' (xc S l) by
  obtain⟨u,m',h1,s',g',h2⟩:=H
  exact⟨u,m',s',g',h1,h2,trivial⟩
 refine qw (Q:=fun u m'=>∃s' g',Res m m' P s g s' g' (xc S l)) da2_ok (by simp) ?_
 have hln:=hl.len
 have hlen:l.length<=9223372036854775807:=by unfold most at ho;omega
 simp
 refine qK (c:=ca2_9) rfl (zd _) (fun i t m'=>Tm.get 0 t=mP P/\Tm.get 1 t=lv/\Tm.get 4 t=iv i/\∃s' g',MX m m' (own P s) (Sh s g) P [] s' g' (xc S (l.take i))) l.length hlen
  ⟨by simp,by simp,by simp,s,g,h.mx⟩ (fun i t m' k hi hI hk=>?_)
 obtain⟨t0,t1,t4,s',g',hx⟩:=hI
 by_cases hil:i<l.length
 ·obtain⟨v,hvi⟩:∃v,l[i]?=some v:=⟨_,qbi hil⟩
  have hvl:=hv v (qbj hvi)
  have hd:((i:Int)<(l.length:Int))=True:=eq_true (by omega)
  have w1:IntKind.i64.wrap ((i:Int)+1)=((i+1:Nat):Int):=by rw[wrap64 _ (by omega) (by omega)];omega
  obtain⟨Si,hSi⟩:=qc5 (xc S (l.take i))
  have hwi:WF Si:=by rw[hSi];exact ya hw fun x hx=>hv x (List.mem_of_mem_take hx)
  have hoi:Si.outs.length<=S.outs.length+i:=by
   have:=xw (l:=l.take i) hw fun x hx=>hv x (List.mem_of_mem_take hx)
   rw[<-hSi,List.length_take]at this;omega
  rw[<-hSi]at hx
  obtain⟨v1,m1,s1,g1,a1,a2,rfl⟩:=Wy (n+1) hx.ml hwi
  have hx1:=(hx.call a2).row z6w
  obtain⟨w,hwd⟩:=qc5 ((wY Si).2)
  rw[<-hwd]at a1
  obtain⟨m2,x1,hx2,x2⟩:=hx1.fill 0 rfl (n:=6) (l':=qm w) (by omega) rfl rfl (zx _)
  have x1':qF 6 (.pointer (some ⟨m1.n,0,none⟩)) (.agg ⟨qm w⟩) (Dx.newRow m1 [zI,zI,zI,zU,.bool false,.bool false])=some (undef,m2):=x1
  have l0:load1 m2 ⟨m1.n,0,none⟩=some (iv w.what):=(hx2.box (k:=0) rfl).2.load1 0 none
  have l4:load1 m2 ⟨m1.n,4,none⟩=some (.bool w.ex):=(hx2.box (k:=0) rfl).2.load1 4 none
  have hx2:=hx2.clear
  have hrd:Rd m2 lv 1 jC l:=hx2.ow.rd hl hB
  obtain⟨r1,r2⟩:=Rd.at1 (g:=fun (x:Nat)=>uv x) hrd hvi
  have r2':load1 m2 (adr 1 lv i)=some (uv v):=r2 m2 (Sees.refl hx2.mb)
  have hwn:=(jh hwi).2.1
  have hon:(wY Si).1.outs=Si.outs:=(jh hwi).2.2.outs
  have fin:∀{x:Nat},x=bL w v->∃u m3 s3 g3,(ex Tryz.prog (n+33)).f 23 [mP P,uv x] m2=some (u,m3)/\MX m m3 (own P s) (Sh s g) P [] s3 g3 (xc S (l.take (i+1))):=fun {x} hx'=>by
   obtain⟨u,m3,s3,g3,b1,b2,-⟩:=Feed_m n hx2.ml hwn (v:=x) (by rw[hx'];exact KZ hvl) (by
    rw[hon]
    have:(Si.outs.length+1)<=S.outs.length+l.length:=by omega
    exact qbu (qc1 8 this) ho)
   refine⟨u,m3,s3,g3,b1,?_⟩
   rw[Jv hvi,<-hSi]
   have:vC Si v=(jT (wY Si).1 x).1:=by unfold vC;rw[<-hwd,<-hx',VH hwi]
   rw[this]
   exact hx2.call b2
  by_cases h2:w.what=2
  ·rw[h2]at l0
   cases hex:w.ex with
   | true =>
    rw[hex]at l4
    have an:wX .and (uv v) (.int .u64 1)=some (uv (v % 2)):=by
     have:=ZT (a:=v) (b:=1) hvl (by decide)
     rw[Nat.and_one_is_mod]at this;exact this
    obtain⟨u,m3,s3,g3,b1,hx3⟩:=fin (x:=v % 2) (by unfold bL;rw[if_pos ⟨h2,hex⟩])
    obtain⟨q,hq⟩:=qc5 (v % 2)
    rw[<-hq]at an b1
    simp[t0,t1,t4,hln,hd,hil,a1,x1',l0,l4,r1,r2',an,b1,w1]
    exact hk hil _ _ ⟨by simp[t0],by simp[t1],by simp,s3,g3,hx3⟩
   | false =>
    rw[hex]at l4
    obtain⟨u,m3,s3,g3,b1,hx3⟩:=fin (x:=v) (by unfold bL;rw[if_neg (by rw[hex];simp)])
    simp[t0,t1,t4,hln,hd,hil,a1,x1',l0,l4,r1,r2',b1,w1]
    exact hk hil _ _ ⟨by simp[t0],by simp[t1],by simp,s3,g3,hx3⟩
  ·have h2':(w.what=2)=False:=eq_false h2
   obtain⟨u,m3,s3,g3,b1,hx3⟩:=fin (x:=v) (by unfold bL;rw[if_neg (fun h=>h2 h.1)])
   simp[t0,t1,t4,hln,hd,hil,a1,x1',l0,h2',r1,r2',b1,w1]
   exact hk hil _ _ ⟨by simp[t0],by simp[t1],by simp,s3,g3,hx3⟩
 ·obtain rfl:i=l.length:=by omega
  rw[List.take_length]at hx
  simp[t1,t4,hln]
  exact kR ⟨s',g',hx.res⟩
end Go.Sx
namespace Go.Sx
open Go.Dx Go.Proofs
set_option maxRecDepth 10000
structure DnB (S:PM):Prop where
 dn:0<=S.sc.dn/\S.sc.dn<=S.sc.limit
 lim:S.sc.limit<=100000
def mu (S:PM):Int:=2*(S.sc.limit - S.sc.dn)+(if S.half=none then 0 else 1)
theorem Zt:∀(k:Nat) (S:PM),DnB S->DnB (xe k S).1/\mu (xe k S).1<=mu S
 | 0,S,h=>⟨h,Int.le_refl _⟩
 | k+1,S,h=>by
  unfold xe
  cases hl:look S with
  | some w=>exact⟨h,Int.le_refl _⟩
  | none =>
   obtain⟨h1,i,h2,h3,h4,h5⟩:=ba hl
   have e:jz S=yr S i:=by unfold jz;rw[h2]
   have hs:=Kt S i
   have hd:=BW S i
   have hlt:S.sc.dn<S.sc.limit:=by
    unfold xG at h5
    simp at h5
    have:=h.dn;omega
   have hb:=h.dn
   have hli:=h.lim
   rw[wrap64 _ (by omega) (by omega)]at hd
   have k1:DnB (jz S):=by rw[e];exact⟨by rw[hd,hs.limit];omega,by rw[hs.limit];exact hli⟩
   obtain⟨a,b⟩:=Zt k (jz S) k1
   refine⟨a,Int.le_trans b ?_⟩
   unfold mu
   rw[e,hd,hs.limit,hs.half,h1]
   simp only[if_true];omega
end Go.Sx
namespace Go.Sx
open Go.Dx Go.Proofs
set_option maxRecDepth 10000
section
variable {m0 m m':M} {W:List Nat} {Z:Nat->Prop} {P:Nat} {σ:List (Nat × List Value)} {s s':Mch} {g:Gh} {S S':PM}
end
theorem mc_ext {a b c:M} {W:List Nat} (h:Ext a b) (k:Mc b c W) (hW:∀B∈W,a.n<=B) (hb:a.base<=a.n):Ext a c:=h.mcx k hW hb
theorem ZV {S:PM} (h:WF S) (ho:S.outs.length*8<=most):Sz S:=fun F hF=>by
 have hr:=h.rm
 have h0:=h.ev
 rcases six hF with rfl | rfl | rfl | rfl | rfl | rfl
 ·show (rowsOf S 0).length*40<=_;rw[jm];unfold most;omega
 ·show (rowsOf S 1).length*16<=_;rw[yE];have:=hr.rmw;unfold most;omega
 ·show (rowsOf S 2).length*16<=_;rw[bp];have:=hr.addr;unfold most;omega
 ·show (rowsOf S 3).length*16<=_;rw[bq];have:=hr.data;unfold most;omega
 ·show (rowsOf S 4).length*16<=_;rw[br];have:=hr.ctrl;unfold most;omega
 ·show (rowsOf S 5).length*8<=_;rw[vp];exact ho
end Go.Sx
namespace Go.Sx
open Go.Dx Go.Proofs
set_option maxRecDepth 10000
theorem bk {α β:Type} {m:M} {v:Value} {e:Nat} {f:β->List Value} {g:α->β} {l:List α} (h:Rd m v e f (l.map g)):Rd m v e (fun x=>f (g x)) l :=
 ⟨by have:=h.len;rwa [List.length_map]at this,fun i r hr=>h.row i (g r) (by rw[qby,hr];rfl),by have:=h.all;rw[List.length_map,List.flatMap_map]at this;exact this,h.lt⟩
theorem RL.rdF {m:M} {s:Mch} {S:PM} (h:RL m s S) {F:Nat} (hF:F<6):Rd m (lst s F) (esz F) zm (rowsOf S F):=Grown.rd jx (h.ls F hF)
theorem RL.rdEv {m:M} {s:Mch} {S:PM} (h:RL m s S):Rd m s.ev 5 zJ S.ev:=bk (f:=zm) (g:=evR) (h.rdF (F:=0) (by omega))
theorem RL.rdOuts {m:M} {s:Mch} {S:PM} (h:RL m s S):Rd m s.outs 1 jC S.outs:=bk (f:=zm) (g:=wdR) (h.rdF (F:=5) (by omega))
theorem RL.rdRmw {m:M} {s:Mch} {S:PM} (h:RL m s S):Rd m s.rmw 2 qd S.rmw:=bk (f:=zm) (g:=prR) (h.rdF (F:=1) (by omega))
theorem RL.rdAddr {m:M} {s:Mch} {S:PM} (h:RL m s S):Rd m s.addr 2 qd S.addr:=bk (f:=zm) (g:=prR) (h.rdF (F:=2) (by omega))
theorem RL.rdData {m:M} {s:Mch} {S:PM} (h:RL m s S):Rd m s.data 2 qd S.data:=bk (f:=zm) (g:=prR) (h.rdF (F:=3) (by omega))
theorem RL.rdCtrl {m:M} {s:Mch} {S:PM} (h:RL m s S):Rd m s.ctrl 2 qd S.ctrl:=bk (f:=zm) (g:=prR) (h.rdF (F:=4) (by omega))
theorem Dr (x:Nat × Nat):kH [1,1] (qd x) (qd x)=some true:=by
 unfold qd;rw[kW,kW,dR]
theorem eq_evR (x:EvR):kH [1,1,1,1,1] (zJ x) (zJ x)=some true:=by
 unfold zJ;rw[kW,kW,kW,kW,kW,dR]
theorem WU (n:Nat) {m:M} (hm:m.base<=m.n) {a b:Value} {l:List (Nat × Nat)} (ha:Rd m a 2 qd l) (hb:Rd m b 2 qd l) (hl:l.length<=9000000000000000000):CallV (ex Tryz.prog (n+1)) 26 [a,b] m (.bool true):=by
 refine qk db2_ok (by simp) ?_
 have la:=ha.len
 have lb:=hb.len
 simp[la,lb]
 refine qK (c:=YW) rfl (Ret m _) (fun i t m'=>Tm.get 0 t=a/\Tm.get 1 t=b/\Tm.get 5 t=iv i/\m'=m) l.length (by omega)
  ⟨by simp,by simp,by simp,rfl⟩ (fun i t m' k hi hI hk=>?_)
 obtain⟨t0,t1,t5,rfl⟩:=hI
 by_cases hil:i<l.length
 ·have d1:((i:Int)<(l.length:Int))=True:=eq_true (by omega)
  have w1:=qX (i:=i) (by omega)
  obtain⟨x,hx⟩:∃x,l[i]?=some x:=⟨_,qbi hil⟩
  obtain⟨a1,a2,-⟩:=ha.at hx
  obtain⟨b1,b2,-⟩:=hb.at hx
  have a2':=a2 m' (Sees.refl hm)
  have b2':=b2 m' (Sees.refl hm)
  have q:=Dr x
  simp[t0,t1,t5,la,d1,hil,a1,b1,a2',b2',qc,q,w1]
  exact hk hil _ _ ⟨by simp[t0],by simp[t1],by simp,rfl⟩
 ·obtain rfl:i=l.length:=by omega
  simp[t0,t5,la]
  exact qN (Ext.refl _) (by simp)
structure SameRun (A B:PM):Prop where
 ev:A.ev=B.ev
 outs:A.outs=B.outs
 rmw:A.rmw=B.rmw
 addr:A.addr=B.addr
 data:A.data=B.data
 ctrl:A.ctrl=B.ctrl
theorem SameRun.refl (A:PM):SameRun A A:=⟨rfl,rfl,rfl,rfl,rfl,rfl⟩
set_option maxHeartbeats 2000000 in
theorem same_c (n:Nat) {m:M} (hm:m.base<=m.n) {a b:Mch} {A B:PM} (ha:RL m a A) (hb:RL m b B) (h:SameRun A B) (hst:a.st=b.st) (hlc:a.lc=b.lc) (hus:a.us=b.us) (hz:Szp A) :
  CallV (ex Tryz.prog (n+2)) 13 [.agg ⟨wC a⟩,.agg ⟨wC b⟩] m (.bool true):=by
 refine qk da5_ok (by simp) ?_
 have st:=((St.nil hm (Ext.refl m)).row (wC a)).row (wC b)
 obtain⟨m0,hm0⟩:=qc5 (Dx.newRow m (wC a))
 have hb1:ku (.agg ⟨wC a⟩) m=some (.pointer (some ⟨m.n,0,none⟩),m0):=by rw[hm0];rfl
 rw[<-hm0]at st
 obtain⟨m1,hm1⟩:=qc5 (Dx.newRow m0 (wC b))
 have hb2:ku (.agg ⟨wC b⟩) m0=some (.pointer (some ⟨m0.n,0,none⟩),m1):=by rw[hm1];rfl
 rw[<-hm1]at st
 have la:∀o,load1 m1 ⟨m.n,o,none⟩=(wC a)[o]?:=fun o=>(st.get 1 rfl).2.2.load1 o none
 have lb:∀o,load1 m1 ⟨m0.n,o,none⟩=(wC b)[o]?:=fun o=>(st.get 0 rfl).2.2.load1 o none
 have E:=st.ext
 have ra:=ha.ext E
 have rb:=hb.ext E
 have a0:load1 m1 ⟨m.n,0,none⟩=some a.ev:=la 0
 have a1:load1 m1 ⟨m.n,1,none⟩=some a.rmw:=la 1
 have a2:load1 m1 ⟨m.n,2,none⟩=some a.addr:=la 2
 have a3:load1 m1 ⟨m.n,3,none⟩=some a.data:=la 3
 have a4:load1 m1 ⟨m.n,4,none⟩=some a.ctrl:=la 4
 have a5:load1 m1 ⟨m.n,5,none⟩=some a.outs:=la 5
 have a6:load1 m1 ⟨m.n,6,none⟩=some (iv a.st):=la 6
 have a7:load1 m1 ⟨m.n,7,none⟩=some (iv a.lc):=la 7
 have a8:load1 m1 ⟨m.n,8,none⟩=some (iv a.us):=la 8
 have b0:load1 m1 ⟨m0.n,0,none⟩=some b.ev:=lb 0
 have b1:load1 m1 ⟨m0.n,1,none⟩=some b.rmw:=lb 1
 have b2:load1 m1 ⟨m0.n,2,none⟩=some b.addr:=lb 2
 have b3:load1 m1 ⟨m0.n,3,none⟩=some b.data:=lb 3
 have b4:load1 m1 ⟨m0.n,4,none⟩=some b.ctrl:=lb 4
 have b5:load1 m1 ⟨m0.n,5,none⟩=some b.outs:=lb 5
 have b6:load1 m1 ⟨m0.n,6,none⟩=some (iv a.st):=by rw[hst];exact lb 6
 have b7:load1 m1 ⟨m0.n,7,none⟩=some (iv a.lc):=by rw[hlc];exact lb 7
 have b8:load1 m1 ⟨m0.n,8,none⟩=some (iv a.us):=by rw[hus];exact lb 8
 have rea:=ra.rdEv
 have reb:=rb.rdEv
 rw[<-h.ev]at reb
 have roa:=ra.rdOuts
 have rob:=rb.rdOuts
 rw[<-h.outs]at rob
 have lea:=rea.len
 have leb:=reb.len
 have loa:=roa.len
 have lob:=rob.len
 have hle:A.ev.length*40<=most:=by have:=hz.sz 0 (by omega);rw[jm]at this;exact this
 have hlo:A.outs.length*8<=most:=by have:=hz.sz 5 (by omega);rw[vp]at this;exact this
 have hle:A.ev.length<=9000000000000000000:=by unfold most at hle;omega
 have hlo:A.outs.length<=9000000000000000000:=by unfold most at hlo;omega
 simp[hb1,hb2,a0,b0,a5,b5,a6,b6,a7,b7,a8,b8,lea,leb,loa,lob]
 refine qK (c:=YS) rfl (Ret m _) (fun i t m'=>Tm.get 2 t=.pointer (some ⟨m.n,0,none⟩)/\Tm.get 3 t=.pointer (some ⟨m0.n,0,none⟩)/\Tm.get 5 t=iv i/\m'=m1) A.ev.length (by omega)
  ⟨by simp,by simp,by simp,rfl⟩ (fun i t m' k hi hI hk=>?_)
 obtain⟨t2,t3,t5,rfl⟩:=hI
 have hs1:=st.sees.base
 by_cases hil:i<A.ev.length
 ·have d1:((i:Int)<(A.ev.length:Int))=True:=eq_true (by omega)
  have w1:=qX (i:=i) (by omega)
  obtain⟨x,hx⟩:∃x,A.ev[i]?=some x:=⟨_,qbi hil⟩
  obtain⟨x1,x2,-⟩:=rea.at hx
  obtain⟨y1,y2,-⟩:=reb.at hx
  have x2':=x2 m' (Sees.refl hs1)
  have y2':=y2 m' (Sees.refl hs1)
  have q:=eq_evR x
  simp[t2,t3,t5,a0,b0,lea,d1,hil,x1,y1,x2',y2',qc,q,w1]
  exact hk hil _ _ ⟨by simp[t2],by simp[t3],by simp,rfl⟩
 obtain rfl:i=A.ev.length:=by omega
 simp[t2,t3,t5,a0,lea]
 refine qK (c:=YT) rfl (Ret m _) (fun i t mm=>Tm.get 2 t=.pointer (some ⟨m.n,0,none⟩)/\Tm.get 3 t=.pointer (some ⟨m0.n,0,none⟩)/\Tm.get 6 t=iv i/\mm=m') A.outs.length (by omega)
  ⟨by simp[t2],by simp[t3],by simp,rfl⟩ (fun i t mm k hi hI hk=>?_)
 obtain⟨t2,t3,t6,rfl⟩:=hI
 by_cases hil:i<A.outs.length
 ·have d1:((i:Int)<(A.outs.length:Int))=True:=eq_true (by omega)
  have w1:=qX (i:=i) (by omega)
  obtain⟨x,hx⟩:∃x,A.outs[i]?=some x:=⟨_,qbi hil⟩
  obtain⟨x1,x2⟩:=Rd.at1 (g:=fun (x:Nat)=>uv x) roa hx
  obtain⟨y1,y2⟩:=Rd.at1 (g:=fun (x:Nat)=>uv x) rob hx
  have x2':load1 mm (adr 1 a.outs i)=some (uv x):=x2 mm (Sees.refl hs1)
  have y2':load1 mm (adr 1 b.outs i)=some (uv x):=y2 mm (Sees.refl hs1)
  simp[t2,t3,t6,a5,b5,loa,d1,hil,x1,y1,x2',y2',w1]
  exact hk hil _ _ ⟨by simp[t2],by simp[t3],by simp,rfl⟩
 obtain rfl:i=A.outs.length:=by omega
 have rma:=ra.rdRmw
 have rmb:=rb.rdRmw
 have rda:=ra.rdAddr
 have rdb:=rb.rdAddr
 have rta:=ra.rdData
 have rtb:=rb.rdData
 have rca:=ra.rdCtrl
 have rcb:=rb.rdCtrl
 rw[<-h.rmw]at rmb
 rw[<-h.addr]at rdb
 rw[<-h.data]at rtb
 rw[<-h.ctrl]at rcb
 obtain⟨u1,n1,f1,g1,rfl⟩:=WU n hs1 rma rmb (by have:=hz.rmw;omega)
 have S1:=st.step g1
 have k2:load1 n1 ⟨m.n,2,none⟩=some a.addr:=(S1.get 1 rfl).2.2.load1 2 none
 have k2':load1 n1 ⟨m0.n,2,none⟩=some b.addr:=(S1.get 0 rfl).2.2.load1 2 none
 obtain⟨u2,n2,f2,g2,rfl⟩:=WU n S1.sees.base (rda.sees ((Sees.refl hs1).ext g1)) (rdb.sees ((Sees.refl hs1).ext g1)) (by have:=hz.addr;omega)
 have S2:=S1.step g2
 have g12:=g1.trans g2
 have k3:load1 n2 ⟨m.n,3,none⟩=some a.data:=(S2.get 1 rfl).2.2.load1 3 none
 have k3':load1 n2 ⟨m0.n,3,none⟩=some b.data:=(S2.get 0 rfl).2.2.load1 3 none
 obtain⟨u3,n3,f3,g3,rfl⟩:=WU n S2.sees.base (rta.sees ((Sees.refl hs1).ext g12)) (rtb.sees ((Sees.refl hs1).ext g12)) (by have:=hz.data;omega)
 have S3:=S2.step g3
 have g123:=g12.trans g3
 have k4:load1 n3 ⟨m.n,4,none⟩=some a.ctrl:=(S3.get 1 rfl).2.2.load1 4 none
 have k4':load1 n3 ⟨m0.n,4,none⟩=some b.ctrl:=(S3.get 0 rfl).2.2.load1 4 none
 obtain⟨u4,n4,f4,g4,rfl⟩:=WU n S3.sees.base (rca.sees ((Sees.refl hs1).ext g123)) (rcb.sees ((Sees.refl hs1).ext g123)) (by have:=hz.ctrl;omega)
 have S4:=S3.step g4
 simp[t2,t3,t6,a5,loa,a1,b1,f1,k2,k2',f2,k3,k3',f3,k4,k4',f4]
 exact qN S4.ext (by simp)
end Go.Sx
namespace Go.Sx
open Go.Dx Go.Proofs
set_option maxRecDepth 10000
end Go.Sx
namespace Go.Sx
open Go.Dx Go.Proofs
set_option maxRecDepth 10000
structure Pre (A B:PM):Prop where
 ev:A.ev <+: B.ev
 outs:A.outs <+: B.outs
 us:A.sc.us<=B.sc.us
theorem Pre.refl (A:PM):Pre A A:=⟨List.prefix_rfl,List.prefix_rfl,Int.le_refl _⟩
theorem Pre.trans {A B C:PM} (h:Pre A B) (k:Pre B C):Pre A C:=⟨h.ev.trans k.ev,h.outs.trans k.outs,Int.le_trans h.us k.us⟩
theorem Pre.of {A B:PM} (h1:B.ev=A.ev) (h2:B.outs=A.outs) (h3:B.sc.us=A.sc.us):Pre A B:=⟨by rw[h1];exact List.prefix_rfl,by rw[h2];exact List.prefix_rfl,by rw[h3];exact Int.le_refl _⟩
structure Eqv (A B:PM):Prop where
 ev:B.ev=A.ev
 outs:B.outs=A.outs
 us:B.sc.us=A.sc.us
theorem Eqv.pre {A B:PM} (h:Eqv A B):Pre A B:=.of h.ev h.outs h.us
theorem Eqv.trans {A B C:PM} (h:Eqv A B) (k:Eqv B C):Eqv A C:=⟨k.ev.trans h.ev,k.outs.trans h.outs,k.us.trans h.us⟩
end Go.Sx
namespace Go.Sx
open Go.Dx Go.Proofs
set_option maxRecDepth 10000
end Go.Sx
namespace Go.Sx
open Go.Dx Go.Proofs
set_option maxRecDepth 10000
def DnI (L:Int) (S:PM):Prop:=DnB S/\S.sc.limit=L/\mu S+S.outs.length<=2*L
theorem DnI.step {L:Int} {S:PM} (h:WF S) (k:DnI L S):DnI L (wY S).1:=by
 obtain⟨a,b⟩:=Zt 100001 S k.1
 have hs:=(jh h).2.2
 have b:mu (wY S).1<=mu S:=b
 have c:=k.2.2
 exact⟨a,by rw[hs.limit];exact k.2.1,by rw[hs.outs];omega⟩
theorem BR (l:List (Nat × Nat)):(gF l).length=l.length:=(xH toP l).1.length_eq
theorem szp_of {S:PM} (h1:S.ev.length<=256) (h2:S.rmw.length<=100000) (h3:S.addr.length<=100000) (h4:S.data.length<=100000) (h5:S.ctrl.length<=100000) (h6:S.outs.length*8<=most):Szp S :=
 ⟨fun F hF=>by
  rcases six hF with rfl | rfl | rfl | rfl | rfl | rfl
  ·show (rowsOf S 0).length*40<=_;rw[jm];unfold most;omega
  ·show (rowsOf S 1).length*16<=_;rw[yE];unfold most;omega
  ·show (rowsOf S 2).length*16<=_;rw[bp];unfold most;omega
  ·show (rowsOf S 3).length*16<=_;rw[bq];unfold most;omega
  ·show (rowsOf S 4).length*16<=_;rw[br];unfold most;omega
  ·show (rowsOf S 5).length*8<=_;rw[vp];exact h6,by omega,by omega,by omega,by omega⟩
theorem YB (i:Nat) (S:PM):(xf i S).rmw.length=S.rmw.length/\(xf i S).addr.length=S.addr.length/\(xf i S).data.length=S.data.length/\(xf i S).ctrl.length=S.ctrl.length:=by
 unfold xf
 simp only
 refine⟨?_,?_,?_,?_⟩<;>(split<;>simp[BR])
theorem Xe {S:PM} (h:WF S) (ho:S.outs.length*8<=most):Szp (yH S):=by
 obtain⟨a,b,c,d⟩:=YB 4 S
 exact szp_of h.ev (by show (xf 4 S).rmw.length<=_;rw[a];exact h.rm.rmw) (by show (xf 4 S).addr.length<=_;rw[b];exact h.rm.addr) (by show (xf 4 S).data.length<=_;rw[c];exact h.rm.data) (by show (xf 4 S).ctrl.length<=_;rw[d];exact h.rm.ctrl) ho
theorem Szp.of {A B:PM} (h:Szp A) (k:∀F,F<6->rowsOf B F=rowsOf A F) (h1:B.rmw=A.rmw) (h2:B.addr=A.addr) (h3:B.data=A.data) (h4:B.ctrl=A.ctrl):Szp B :=
 ⟨fun F hF=>by rw[k F hF];exact h.sz F hF,by rw[h1];exact h.rmw,by rw[h2];exact h.addr,by rw[h3];exact h.data,by rw[h4];exact h.ctrl⟩
theorem qat {S:PM} (h:WF S) (ho:S.outs.length*8<=most):Szp (yo S):=(Xe h ho).of (fun F hF=>dq rfl rfl rfl rfl rfl rfl F hF) rfl rfl rfl rfl
end Go.Sx
namespace Go.Dx
open Go.RowKit
noncomputable section
def gl (ins:List (List Value)):M:=M.rec (fun h nx _ _=>⟨h,nx,ins.length,[]⟩) (jg ins M.empty)
def Xh (σ:List Nat) (n:Nat) (i:Nat):Nat:=bif Nat.blt i σ.length then σ.getD i 0 else n+(i - σ.length)
def Xb (k:Nat) (rows:List (Nat × List Value)) (i:Nat):Nat:=bif Nat.blt i k then i else sig rows (i - k)
def xT (σ:List Nat) (rows:List (Nat × List Value)) (m:M):M:=jg (rows.map fun p=>p.2.map (ren (Xh σ m.n))) m
def Xn (k:Nat):List Nat->Bool
 | []=>true
 | a :: l=>Nat.ble k a && Xn k l
def chkM (ins:List (List Value)) (rows:List (Nat × List Value)) (v0:Value) (o:Option (Value × M)):Bool:=match o with
 | some (v,m1)=>m1.log.isEmpty && Xn ins.length (rows.map (·.1)) && eq2 (Xb ins.length rows) (ins.length+rows.length) v0 v && bw (Xb ins.length rows) (ins.length+rows.length) m1 rows && be (rows.map (·.1))
 | none=>false
def okM (pargs:List Value) (ins:List (List Value)) (σ:List Nat) (args:List Value) (m:M):Bool :=
 Nat.beq σ.length ins.length && eqL1 (fun i=>σ.getD i 0) ins.length pargs args && bw (fun i=>σ.getD i 0) ins.length m (σ.zip ins) && be σ
theorem fw (ins:List (List Value)):(gl ins).n=ins.length:=by
 have h:(gl ins).n=(jg ins M.empty).n:=by unfold gl;cases jg ins M.empty;rfl
 rw[h,fY];show 0+ins.length=_;omega
theorem Qi (ins:List (List Value)) (X:Nat):(gl ins).obj X=(ins[X]?).map (fun r=>.cells (mkn .lf 0 r)):=by
 have h:(gl ins).obj X=(jg ins M.empty).obj X:=by unfold gl;cases jg ins M.empty;rfl
 rw[h,jG]
 show (if 0<=X/\X<0+ins.length then (ins[X - 0]?).map (fun r=>DObj.cells (mkn .lf 0 r)) else _)=_
 by_cases hX:X<ins.length
 ·rw[if_pos (by omega)];rfl
 ·rw[if_neg (by omega),qc3 (by omega)];exact A3.get_lf none X
theorem VW (ins:List (List Value)):(gl ins).base=ins.length:=by unfold gl;cases jg ins M.empty;rfl
theorem QH {k:Nat}:∀{l:List Nat},Xn k l=true->∀(i a:Nat),l[i]?=some a->k<=a
 | [],_,i,a,h=>by simp at h
 | b :: l,h,i,a,hi=>by
  change (Nat.ble k b && Xn k l)=true at h
  rw[qbo]at h
  cases i with
  | zero=>simp at hi;subst hi;exact qbr h.1
  | succ i=>exact QH h.2 i a (by simpa using hi)
theorem JW (x:Value):ren (fun i=>i) x=x:=by
 unfold ren
 split<;>rfl
theorem qa6 (x:Value):Kl (fun i=>i) x=x:=by
 unfold Kl
 split
 ·rename_i cs
  have:cs.toList.map (ren fun i=>i)=cs.toList:=by
   rw[List.map_congr_left (g:=fun x=>x) fun x _=>JW x];simp
  rw[this]
 ·exact JW _
theorem blt_t {i k:Nat} (h:i<k):Nat.blt i k=true:=qbq h
theorem blt_f {i k:Nat} (h:¬i<k):Nat.blt i k=false:=by
 cases q:Nat.blt i k with
 | false=>rfl
 | true=>exact absurd (qbr q) h
theorem ZL {φ φ':Phi} {σ τ:Nat->Nat} {r:Nat} (hφ:∀i l,i<r->φ (σ i)=some l->φ' (τ i)=some l) {w:World} {c:C} {row:List Value} (hok:gD σ r c 0 row=true) {l:Loc} (h:ObjRel φ w (.cells c) l) :
  ObjRel φ' w (.cells (mkn .lf 0 (row.map (ren τ)))) l:=by
 obtain⟨cs,e,fz,k1,k2,k3,k4⟩:=h
 have hsub:∀j x,A.get none j (mkn .lf 0 (row.map (ren τ)))=some x->∃y,A.get none j c=some y:=fun j x hx=>by
  rw[jd,A.get_lf]at hx
  split at hx
  ·simp only[Nat.sub_zero,qby]at hx
   cases hg:row[j]? with
   | none=>rw[hg]at hx;cases hx
   | some y =>
    obtain⟨z,e1,_⟩:=zP hok j y hg
    rw[Nat.zero_add]at e1
    exact⟨z,e1⟩
  ·cases hx
 have hfc:FzC l.d cs.size fz (mkn .lf 0 (row.map (ren τ))):=⟨fun ha hd=>k3.1 (by
   cases hrw:row with
   | nil=>rw[hrw]at ha;cases ha
   | cons y ys =>
    obtain⟨z,e1,_⟩:=zP hok 0 y (by rw[hrw];rfl)
    exact gM e1) hd,fun j x hx=>let ⟨y,hy⟩:=hsub j x hx;k3.2 j y hy⟩
 refine⟨cs,e,fz,k1,k2,hfc,fun j x hx=>?_⟩
 rw[jd,A.get_lf]at hx
 split at hx
 ·rename_i hj
  simp only[Nat.sub_zero,qby]at hx
  cases hg:row[j]? with
  | none=>rw[hg]at hx;cases hx
  | some y =>
   rw[hg]at hx
   cases hx
   obtain⟨z,e1,e2,e3⟩:=zP hok j y hg
   rw[Nat.zero_add]at e1
   obtain⟨q1,v'',q2,q3⟩:=k4 j z e1
   refine⟨q1,v'',q2,?_⟩
   rw[<-e3]at q3
   exact gz hφ e2 q3
 ·cases hx
theorem ZK {σ:Nat->Nat} {r:Nat} {row:List Value} (hok:gD σ r .lf 0 row=true):row=[]:=by
 cases row with
 | nil=>rfl
 | cons x l =>
  obtain⟨y,hy,_⟩:=zP hok 0 x rfl
  rw[A.get_lf]at hy;cases hy
theorem VK {P:Program} {x:Ex} (hx:jD P x) {g:Nat} {pargs args:List Value} {v0:Value} {ins:List (List Value)} {rows:List (Nat × List Value)} (h:chkM ins rows v0 (x.f g pargs (gl ins))=true) {σ:List Nat} {m:M} (hm:okM pargs ins σ args m=true) :
  DStep m (xT σ rows m)/\Enters P g/\Xl P g args m (JV (Xh σ m.n) v0) (xT σ rows m):=by
 unfold chkM at h
 split at h
 ·rename_i v m1 hrun
  simp only[qbo]at h
  obtain⟨⟨⟨⟨hlog,hge⟩,hv⟩,hrows⟩,hnd⟩:=h
  unfold okM at hm
  simp only[qbo]at hm
  obtain⟨⟨⟨hkl,hma⟩,hmr⟩,hms⟩:=hm
  have hk:σ.length=ins.length:=qbv hkl
  have hlog:m1.log=[]:=by simpa using hlog
  obtain⟨hd1,hent,hJ⟩:=hx.f _ _ _ _ _ hrun
  have hlen:(rows.map fun p=>p.2.map (ren (Xh σ m.n))).length=rows.length:=by simp
  obtain⟨s,hs⟩:∃s:Nat->Nat,s=fun i=>σ.getD i 0:=⟨_,rfl⟩
  obtain⟨τ,hτ⟩:=qc5 (Xh σ m.n)
  rw[<-hs]at hma hmr
  have hτ1:∀i,i<ins.length->τ i=s i:=fun i hi=>by rw[hτ,hs];unfold Xh;rw[blt_t (by omega)];rfl
  have hτ2:∀i,τ (ins.length+i)=m.n+i:=fun i=>by rw[hτ];unfold Xh;rw[blt_f (by omega),hk];show m.n+(ins.length+i - ins.length)=_;omega
  have hs1:∀i,i<ins.length->Xb ins.length rows i=i:=fun i hi=>by unfold Xb;rw[blt_t hi];rfl
  have hs2:∀i,Xb ins.length rows (ins.length+i)=sig rows i:=fun i=>by unfold Xb;rw[blt_f (by omega)];show sig rows (ins.length+i - ins.length)=_;congr 1;omega
  have hin:∀i (hi:i<ins.length),∃c,m.obj (s i)=some (.cells c)/\gD s ins.length c 0 ins[i]=true:=fun i hi=>by
   have hz:(σ.zip ins)[i]?=some (s i,ins[i]):=by
    rw[List.getElem?_zip_eq_some]
    refine⟨?_,qbi hi⟩
    rw[hs];simp[show i<σ.length by omega]
   exact zO hmr i _ hz
  have hinj:∀i j,i<ins.length->j<ins.length->s i=s j->i=j:=fun i j hi hj e =>
   vH hms i j (s i) (by rw[hs];simp[show i<σ.length by omega]) (by rw[e,hs];simp[show j<σ.length by omega])
  show DStep m (jg _ m)/\_
  rw[<-hτ]
  refine⟨(zf _ m).1,hent,fun φ w args' hR hargs' hF=>?_⟩
  have hgn:(xT σ rows m).n=m.n+rows.length:=by unfold xT;rw[fY,hlen]
  rw[hgn]at hF
  have hlt:∀i,i<ins.length->s i<m.n:=fun i hi=>by
   obtain⟨c,hc,_⟩:=hin i hi
   exact Classical.byContradiction fun h=>by rw[hR.wf (s i) (by omega)]at hc;cases hc
  obtain⟨φL,hφL⟩:∃φL:Phi,φL=fun B=>if B<ins.length then φ (s B) else none:=⟨_,rfl⟩
  have hL1:∀i,i<ins.length->φL i=φ (s i):=fun i hi=>by rw[hφL];simp only[if_pos hi]
  have hL2:∀i,¬i<ins.length->φL i=none:=fun i hi=>by rw[hφL];simp only[if_neg hi]
  have hturnL:∀i l,i<ins.length->φ (s i)=some l->φL i=some l:=fun i l hi h=>by rw[hL1 i hi];exact h
  have hRL:R φL (gl ins) w:=by
   refine⟨fun B hB=>?_,fun B l hB hl=>?_,fun B₁ B₂ l₁ l₂ h1 h2 hl1 hl2 hb hne=>?_⟩
   ·rw[fw]at hB
    rw[Qi,qc3 (by omega)];rfl
   ·rw[fw]at hB
    rw[hL1 B hB]at hl
    obtain⟨c,hc,hok⟩:=hin B hB
    obtain⟨o,ho1,ho2⟩:=hR.obj _ l (hlt B hB) hl
    rw[hc]at ho1;cases ho1
    refine⟨_,by rw[Qi,qbi hB];rfl,?_⟩
    have:=ZL (φ':=φL) (τ:=fun i=>i) hturnL hok ho2
    rwa [List.map_congr_left (g:=fun x=>x) fun x _=>JW x,List.map_id']at this
   ·rw[fw]at h1 h2
    rw[hL1 _ h1]at hl1
    rw[hL1 _ h2]at hl2
    have key:∀B,B<ins.length->dead m (s B)->dead (gl ins) B:=fun B hB hd=>by
     obtain⟨c,hc,hok⟩:=hin B hB
     unfold dead at hd ⊢
     rw[hc]at hd
     cases hd
     rw[Qi,qbi hB,ZK hok];rfl
    exact (hR.inj _ _ _ _ (hlt _ h1) (hlt _ h2) hl1 hl2 hb fun e=>hne (hinj _ _ h1 h2 e)).imp (key _ h1) (key _ h2)
  have hargsL:VRels φL pargs args'.toList:=by
   have:=gV (φ':=φL) (τ:=fun i=>i) hturnL hma hargs'
   rwa [List.map_congr_left (g:=fun x=>x) fun x _=>qa6 x,List.map_id']at this
  refine (hJ φL w args' hRL hargsL (fun B hB _=>hL2 B (by rw[fw]at hB;omega))).mono ?_
  rintro e w' ⟨φ1,v',rfl,hR1,hst,hr1⟩
  have hnoT:∀B,¬Tou (gl ins) m1 B:=fun B ht=>by
   obtain⟨t1,t2,_⟩:=ht
   rw[fw]at t1
   rcases t2 with t2 | t2
   ·rw[hd1.base,VW]at t2;omega
   ·rw[hlog]at t2;cases t2
  have hheap:∀b,b<w.heap.size->w'.heap[b]?=w.heap[b]?:=fun b hb=>hst.frame b hb fun B _ _ _=>hnoT B
  obtain⟨φ',hφ'⟩:∃φ':Phi,φ'=fun B=>if m.n<=B/\B<m.n+rows.length then φ1 (sig rows (B - m.n)) else φ B:=⟨_,rfl⟩
  have hold:∀B,¬(m.n<=B/\B<m.n+rows.length)->φ' B=φ B:=fun B hB=>by rw[hφ'];simp only[if_neg hB]
  have hnew:∀i,i<rows.length->φ' (m.n+i)=φ1 (sig rows i):=fun i hi=>by rw[hφ'];simp only[if_pos (show m.n<=m.n+i/\m.n+i<m.n+rows.length by omega)];rw[show m.n+i - m.n=i by omega]
  have hle:PLe φ φ':=fun B l hl=>by
   by_cases hB:m.n<=B/\B<m.n+rows.length
   ·rw[hF B hB.1 hB.2]at hl;cases hl
   ·rw[hold B hB];exact hl
  have hturn:∀i l,i<ins.length+rows.length->φ1 (Xb ins.length rows i)=some l->φ' (τ i)=some l:=fun i l hi hl=>by
   by_cases hik:i<ins.length
   ·rw[hs1 i hik,hst.ext i (.inl (by rw[fw];exact hik)),hL1 i hik]at hl
    rw[hτ1 i hik,hold _ (by have:=hlt i hik;omega)];exact hl
   ·obtain⟨j,rfl⟩:∃j,i=ins.length+j:=⟨i - ins.length,by omega⟩
    rw[hs2]at hl
    rw[hτ2,hnew j (by omega)];exact hl
  have hsig:∀i (hi:i<rows.length),sig rows i=rows[i].1:=fun i hi=>by unfold sig;simp[hi]
  have hge':∀i,i<rows.length->ins.length<=sig rows i:=fun i hi=>by
   rw[hsig i hi];exact QH hge i _ (by simp[hi])
  have hlt1:∀i,i<rows.length->sig rows i<m1.n:=fun i hi=>by
   obtain⟨c,hc,_⟩:=zO hrows i rows[i] (by simp[hi])
   rw[hsig i hi];exact hR1.lt hc
  have hfresh:∀i l,i<rows.length->φ1 (sig rows i)=some l->w.heap.size<=l.b:=fun i l hi hl=>by
   rcases hst.fresh (sig rows i) l (by rw[fw];exact hge' i hi) (hlt1 i hi) hl with h | ⟨B0,l0,ht,h,_⟩
   ·exact h
   ·exact absurd ht (hnoT B0)
  have hobj:∀B,B<m.n->(xT σ rows m).obj B=m.obj B:=fun B hB=>by unfold xT;rw[jG,if_neg (by omega)]
  have hobjN:∀i (hi:i<rows.length),(xT σ rows m).obj (m.n+i)=some (.cells (mkn .lf 0 (rows[i].2.map (ren τ)))):=fun i hi=>by
   unfold xT
   rw[jG,if_pos (by simp;omega),show m.n+i - m.n=i by omega,hτ]
   simp[hi]
  have hrow:∀i (hi:i<rows.length) l,φ1 (sig rows i)=some l->ObjRel φ' w' (.cells (mkn .lf 0 (rows[i].2.map (ren τ)))) l:=fun i hi l hl=>by
   obtain⟨c,hc,hok⟩:=zO hrows i rows[i] (by simp[hi])
   obtain⟨ob,ho1,ho2⟩:=hR1.obj (sig rows i) l (hlt1 i hi) hl
   rw[hsig i hi,hc]at ho1
   cases ho1
   exact ZL hturn hok ho2
  refine⟨φ',v',rfl,⟨fun B hB=>?_,fun B l hB hl=>?_,fun B₁ B₂ l₁ l₂ h1 h2 hl1 hl2 hb hne=>?_⟩,⟨(zf _ m).1,hle,fun B hB=>?_,fun B l h1 h2 hl=>?_,fun B _ h1 h2=>absurd ((zf _ m).2 B h1) h2,hst.os,hst.tape,hst.output,hst.size,fun b hb _=>hheap b hb⟩,KU hturn hv hr1⟩
  ·exact (zf _ m).1.wf hR.wf B hB
  ·rw[hgn]at hB
   by_cases hlt:B<m.n
   ·rw[hold B (by omega)]at hl
    obtain⟨o,h1,h2⟩:=hR.obj B l hlt hl
    exact⟨o,by rw[hobj B hlt];exact h1,(h2.mono hle).world (hheap l.b h2.lt)⟩
   ·obtain⟨i,rfl⟩:∃i,B=m.n+i:=⟨B - m.n,by omega⟩
    have hi:i<rows.length:=by omega
    rw[hnew i hi]at hl
    exact⟨_,hobjN i hi,hrow i hi l hl⟩
  ·rw[hgn]at h1 h2
   have lt:∀B l,B<m.n->φ B=some l->l.b<w.heap.size:=fun B l hB hl=>by
    obtain⟨o,_,ho⟩:=hR.obj B l hB hl
    exact ho.lt
   by_cases e1:B₁<m.n
   ·rw[hold B₁ (by omega)]at hl1
    have:=lt B₁ l₁ e1 hl1
    by_cases e2:B₂<m.n
    ·rw[hold B₂ (by omega)]at hl2
     exact (hR.inj B₁ B₂ l₁ l₂ e1 e2 hl1 hl2 hb hne).imp (fun e=>by unfold dead;rw[hobj B₁ e1];exact e) (fun e=>by unfold dead;rw[hobj B₂ e2];exact e)
    ·obtain⟨i,rfl⟩:∃i,B₂=m.n+i:=⟨B₂ - m.n,by omega⟩
     rw[hnew i (by omega)]at hl2
     have:=hfresh i l₂ (by omega) hl2
     omega
   ·obtain⟨i,rfl⟩:∃i,B₁=m.n+i:=⟨B₁ - m.n,by omega⟩
    have hi:i<rows.length:=by omega
    rw[hnew i hi]at hl1
    by_cases e2:B₂<m.n
    ·rw[hold B₂ (by omega)]at hl2
     have:=lt B₂ l₂ e2 hl2
     have:=hfresh i l₁ hi hl1
     omega
    ·obtain⟨j,rfl⟩:∃j,B₂=m.n+j:=⟨B₂ - m.n,by omega⟩
     have hj:j<rows.length:=by omega
     rw[hnew j hj]at hl2
     have hij:sig rows i≠sig rows j:=fun e=>by
      rw[hsig i hi,hsig j hj]at e
      have:=vH hnd i j rows[i].1 (by simp[hi]) (by simp[hj,e])
      omega
     have emp:∀k (hk:k<rows.length),dead m1 (sig rows k)->dead (xT σ rows m) (m.n+k):=fun k hk hdk=>by
      obtain⟨c,hc,hok⟩:=zO hrows k rows[k] (by simp[hk])
      unfold dead at hdk
      rw[hsig k hk,hc]at hdk
      cases hdk
      unfold dead
      rw[hobjN k hk,ZK hok];rfl
     exact (hR1.inj _ _ l₁ l₂ (hlt1 i hi) (hlt1 j hj) hl1 hl2 hb hij).imp (emp i hi) (emp j hj)
  ·rw[hgn]at hB
   exact hold B (by omega)
  ·rw[hgn]at h2
   obtain⟨i,rfl⟩:∃i,B=m.n+i:=⟨B - m.n,by omega⟩
   rw[hnew i (by omega)]at hl
   exact .inl (hfresh i l (by omega) hl)
 ·cases h
structure PreM where
 g:Nat
 args:List Value
 ins:List (List Value)
 v:Value
 rows:List (Nat × List Value)
def uV (σ:List Nat) (x y:Value):List Nat:=match x,y with
 | .pointer (some a),.pointer (some b)=>bif Nat.beq a.block σ.length then σ ++ [b.block] else σ
 | .slice (some a) _ _,.slice (some b) _ _=>bif Nat.beq a.block σ.length then σ ++ [b.block] else σ
 | _,_=>σ
def uL:List Nat->List Value->List Value->List Nat
 | σ,x :: l,y :: k=>uL (uV σ x y) l k
 | σ,_,_=>σ
def u1 (σ:List Nat) (x y:Value):List Nat:=match x,y with
 | .agg a,.agg b=>uL σ a.toList b.toList
 | _,_=>uV σ x y
def uA:List Nat->List Value->List Value->List Nat
 | σ,x :: l,y :: k=>uA (u1 σ x y) l k
 | σ,_,_=>σ
def uRow (c:C):Nat->List Nat->List Value->List Nat
 | j,σ,x :: l=>uRow c (j+1) (match A.get none j c with
  | some y=>uV σ x y
  | none=>σ) l
 | _,σ,[]=>σ
def uRows (m:M):Nat->List Nat->List (List Value)->List Nat
 | i,σ,r :: l=>uRows m (i+1) (match m.obj (σ.getD i 0) with
  | some (.cells c)=>uRow c 0 σ r
  | _=>σ) l
 | _,σ,[]=>σ
def sigM (p:PreM) (args:List Value) (m:M):List Nat:=uRows m 0 (uA [] p.args args) p.ins
def WQ (p:PreM) (σ:List Nat) (args:List Value) (m:M) (r:Option (PreM × List Nat)):Option (PreM × List Nat):=bif okM p.args p.ins σ args m then some (p,σ) else r
def dY (g:Nat) (args:List Value) (m:M) (l:List PreM):Option (PreM × List Nat):=List.rec none (fun p _ ih=>bif Nat.beq p.g g then WQ p (sigM p args m) args m ih else ih) l
def BC (P:Program) (l:List Pre) (k:List PreM) (x:Ex) (g:Nat) (args:List Value) (m:M):Option (Value × M) :=
 Option.rec (Yn P l x g args m) (fun p=>some (JV (Xh p.2 m.n) p.1.v,xT p.2 p.1.rows m)) (dY g args m k)
def exgm (P:Program) (l:List Pre) (k:List PreM) (n:Nat):Ex:=Nat.rec .bot (fun _ x=>⟨BC P l k x,YF P x⟩) n
def PreMOK (P:Program) (p:PreM):Prop:=∃x,jD P x/\chkM p.ins p.rows p.v (x.f p.g p.args (gl p.ins))=true
theorem dZ {g:Nat} {args:List Value} {m:M}:∀{l:List PreM} {p:PreM} {σ:List Nat},dY g args m l=some (p,σ)->p∈l/\p.g=g/\okM p.args p.ins σ args m=true
 | [],p,σ,h=>by cases h
 | q :: l,p,σ,h=>by
  change (bif Nat.beq q.g g then WQ q (sigM q args m) args m (dY g args m l) else dY g args m l)=some (p,σ) at h
  have rest:dY g args m l=some (p,σ)->p∈q :: l/\p.g=g/\okM p.args p.ins σ args m=true:=fun h=>by
   obtain⟨h1,h2⟩:=dZ h
   exact⟨by simp[h1],h2⟩
  cases hb:Nat.beq q.g g with
  | false=>rw[hb]at h;exact rest h
  | true =>
   rw[hb]at h
   change WQ q (sigM q args m) args m (dY g args m l)=some (p,σ) at h
   unfold WQ at h
   cases ho:okM q.args q.ins (sigM q args m) args m with
   | true=>rw[ho]at h;cases h;exact⟨by simp,qbv hb,ho⟩
   | false=>rw[ho]at h;exact rest h
theorem WP {P:Program} (hP:P.follows .mixedOrders=true) {l:List Pre} {k:List PreM} (hl:∀p∈l,PreOK2 P p) (hk:∀p∈k,PreMOK P p):∀n,jD P (exgm P l k n)
 | 0=>⟨fun _ _ _ _ _ h=>(by cases h),fun _ _ _ _ _ h=>(by cases h)⟩
 | n+1=>by
  have ih:=WP hP hl hk n
  have hs:=Ex.step_ok ih hP
  refine⟨fun g args m v m' h=>?_,hs.y⟩
  change BC P l k (exgm P l k n) g args m=some (v,m') at h
  unfold BC at h
  cases hm:dY g args m k with
  | some q =>
   obtain⟨p,σ⟩:=q
   rw[hm]at h
   cases h
   obtain⟨h1,rfl,h2⟩:=dZ hm
   obtain⟨x,hx,h3⟩:=hk p h1
   exact VK hx h3 h2
  | none =>
   rw[hm]at h
   change Yn P l (exgm P l k n) g args m=some (v,m') at h
   unfold Yn at h
   cases hf:Za g args l with
   | none=>rw[hf]at h;exact hs.f g args m v m' h
   | some p =>
    rw[hf]at h
    cases h
    obtain⟨h1,rfl,rfl⟩:=ff hf
    obtain⟨h2,x,hx,h3⟩:=hl p h1
    exact Zd hx h2 h3 m
theorem PreMOK.of {P:Program} (hP:P.follows .mixedOrders=true) {l:List Pre} {k:List PreM} (hl:∀p∈l,PreOK2 P p) (hk:∀p∈k,PreMOK P p) {n:Nat} {p:PreM} (h:chkM p.ins p.rows p.v ((exgm P l k n).f p.g p.args (gl p.ins))=true):PreMOK P p:=⟨_,WP hP hl hk n,h⟩
theorem PreOK2.of {P:Program} (hP:P.follows .mixedOrders=true) {l:List Pre} {k:List PreM} (hl:∀p∈l,PreOK2 P p) (hk:∀p∈k,PreMOK P p) {n:Nat} {p:Pre} (ha:p.args.all scalar=true) (h:chk p.rows p.v ((exgm P l k n).f p.g p.args M.empty)=true):PreOK2 P p:=⟨ha,_,WP hP hl hk n,h⟩
end
end Go.Dx
namespace Go.Sx
open Go.Dx Go.Proofs
set_option maxRecDepth 10000
def aw:Dx.Pre:=⟨8,[],.bool true,[]⟩
noncomputable def xA (N:Nat):Ex:=⟨fun g args m=>bif Nat.beq g 8 then (exg Tryz.prog [aw] 1).f g args m else (ex Tryz.prog N).f g args m,(ex Tryz.prog N).y⟩
theorem ZW (N g:Nat) (args:List Value) (m:M) (h:g≠8):(xA N).f g args m=(ex Tryz.prog N).f g args m:=by
 show (bif Nat.beq g 8 then _ else _)=_
 rw[gN h];rfl
theorem xA_aw (N:Nat) (m:M):(xA N).f 8 [] m=some (.bool true,m):=rfl
theorem xA_ok (hP:Tryz.prog.follows .mixedOrders=true) (haw:PreOK2 Tryz.prog aw) (N:Nat):jD Tryz.prog (xA N):=by
 refine⟨fun g args m v m' h=>?_,(KY hP N).y⟩
 change (bif Nat.beq g 8 then (exg Tryz.prog [aw] 1).f g args m else (ex Tryz.prog N).f g args m)=some (v,m') at h
 cases hb:Nat.beq g 8 with
 | true=>rw[hb]at h;exact (XA hP (l:=[aw]) (fun p hp=>by rw[qbp.1 hp];exact haw) 1).f g args m v m' h
 | false=>rw[hb]at h;exact (KY hP N).f g args m v m' h
theorem step_ret {P:Program} {x:Ex} {g:Nat} {c:SC} {nt:Nat} {res:List RV} {args:List Value} {m:M} {Q:Value->M->Prop} (hd:qT P g=some ⟨c,nt,res⟩) (ha:args.length<=nt)
  (h:Ret m Q (c x (kw res) noK (kw res) (xz .blank 0 args) m)):Dx.Call (Ex.step P x) g args m Q:=by
 obtain⟨v,m',e,h1,h2⟩:=h
 refine⟨v,m',?_,h1,h2⟩
 show ob (qT P g) (callF x args m)=_
 rw[hd,qS,dJ _ _ _ _ _ _ ha];exact e
theorem _root_.Go.Dx.Call.xA {N g:Nat} {args:List Value} {m:M} {Q:Value->M->Prop} (h:Dx.Call (ex Tryz.prog N) g args m Q) (hg:g≠8):Dx.Call (xA N) g args m Q:=by
 obtain⟨v,m',a,b,c⟩:=h
 exact⟨v,m',(ZW N g args m hg).trans a,b,c⟩
end Go.Sx
namespace Go.Sx
open Go.Dx Go.Proofs
set_option maxRecDepth 10000
structure Mq where
 P:Nat
 s:Mch
 g:Gh
 S:PM
structure Sep (a b:Mq):Prop where
 ww:∀B∈own a.P a.s,B ∉ own b.P b.s
 wz:∀B∈own a.P a.s,¬Sh b.s b.g B
 zw:∀B∈own b.P b.s,¬Sh a.s a.g B
theorem Sep.symm {a b:Mq} (h:Sep a b):Sep b a:=⟨fun B hB hA=>h.ww B hA hB,h.zw,h.wz⟩
theorem ML.own_lt {m:M} {P:Nat} {s:Mch} {g:Gh} {S:PM} (h:ML m P s g S) {B:Nat} (hB:B∈own P s):B<m.n:=by
 rcases wU.1 hB with rfl | hL
 ·exact h.mat.lt
 ·exact h.hp.ln hL
theorem ML.keepM {m m':M} {V:List Nat} {P:Nat} {s:Mch} {g:Gh} {S:PM} (h:ML m P s g S) (k:Mc m m' V) (h1:∀B∈V,B ∉ own P s) (h2:∀B∈V,¬Sh s g B):ML m' P s g S:=by
 have hn:=k.n
 have o:∀B∈own P s,m'.obj B=m.obj B:=fun B hB=>k.obj B (h.own_lt hB) fun hv=>h1 B hv hB
 exact⟨by rw[k.base];exact qbu h.base hn,⟨h.mat.arr.congr (o P (wU.2 (.inl rfl))),qbn h.mat.lt hn⟩,h.hp.congr hn (fun B hB=>k.obj B (h.hp.sn B hB) fun hv=>h2 B hv hB) (fun B hB=>o B (wU.2 (.inr hB))),h.sc⟩
theorem ML.extM {m m':M} {P:Nat} {s:Mch} {g:Gh} {S:PM} (h:ML m P s g S) (e:Ext m m'):ML m' P s g S :=
 h.keepM (V:=[]) ⟨e.n,fun B hB _=>e.obj B hB,e.base,fun B hB=>.inl (by rw[<-e.log];exact hB),fun _=>e.log⟩ (by simp) (by simp)
structure Ms (m0 m:M) (L:List Mq):Prop where
 b0:m0.base<=m0.n
 ext:Ext m0 m
 ml:∀q∈L,ML m q.P q.s q.g q.S/\∀B∈own q.P q.s,m0.n<=B
 sep:∀(i j:Nat) (a b:Mq),i≠j->L[i]?=some a->L[j]?=some b->Sep a b
section
variable {m0 m m':M} {L:List Mq} {i:Nat} {P:Nat} {s s':Mch} {g g':Gh} {S S':PM}
theorem Ms.nil {m:M} (h:m.base<=m.n):Ms m m []:=⟨h,Ext.refl m,(fun q hq=>by cases hq),(fun i j a b _ h _=>by simp at h)⟩
theorem Ms.base (h:Ms m0 m L):m.base<=m.n:=((Sees.refl h.b0).ext h.ext).base
theorem Ms.step (h:Ms m0 m L) (e:Ext m m'):Ms m0 m' L:=⟨h.b0,h.ext.trans e,fun q hq=>⟨(h.ml q hq).1.extM e,(h.ml q hq).2⟩,h.sep⟩
theorem Ms.get (h:Ms m0 m L) (hi:L[i]?=some ⟨P,s,g,S⟩):ML m P s g S:=(h.ml _ (qbj hi)).1
theorem Ms.upd (h:Ms m0 m L) (hi:L[i]?=some ⟨P,s,g,S⟩) (r:Res m m' P s g s' g' S'):Ms m0 m' (L.set i ⟨P,s',g',S'⟩):=by
 obtain⟨h1,h2⟩:=h.ml _ (qbj hi)
 have hlt:=h.ext.n
 have ow':∀B∈own P s',B∈own P s\/m.n<=B:=fun B hB=>by
  rcases wU.1 hB with rfl | hL
  ·exact .inl (wU.2 (.inl rfl))
  ·exact (r.lb B hL).imp (fun k=>wU.2 (.inr k)) _root_.id
 have il:i<L.length:=(qbk.1 hi).1
 have hset:∀j,(L.set i ⟨P,s',g',S'⟩)[j]?=if i=j then some ⟨P,s',g',S'⟩ else L[j]?:=fun j=>by
  rw[List.getElem?_set];split<;>simp_all
 have one:∀j b,i≠j->L[j]?=some b->Sep ⟨P,s',g',S'⟩ b:=fun j b hj hb=>by
  have k:=h.sep i j _ _ hj hi hb
  have hm:=(h.ml _ (qbj hb)).1
  refine⟨fun B hB hB2=>?_,fun B hB hB2=>?_,fun B hB hB2=>?_⟩
  ·rcases ow' B hB with q | q
   ·exact k.ww B q hB2
   ·exact absurd (hm.own_lt hB2) (by omega)
  ·rcases ow' B hB with q | q
   ·exact k.wz B q hB2
   ·exact absurd (hm.hp.sn B hB2) (by omega)
  ·rcases r.sh B hB2 with q | q
   ·exact k.zw B hB q
   ·exact absurd (hm.own_lt hB) (by omega)
 have hb:m'.base<=m'.n:=by rw[r.mc.base];exact qbu h1.base r.mc.n
 refine⟨h.b0,mc_ext h.ext r.mc h2 h.b0,fun q hq=>?_,fun a b x y hab hx hy=>?_⟩
 ·obtain⟨j,hj⟩:=List.mem_iff_getElem?.1 hq
  rw[hset]at hj
  split at hj
  ·cases hj
   refine⟨⟨hb,r.mat,r.hp,r.sc⟩,fun B hB=>?_⟩
   rcases ow' B hB with q | q
   ·exact h2 B q
   ·omega
  ·rename_i hne
   obtain⟨k1,k2⟩:=h.ml _ (qbj hj)
   have k:=h.sep i j _ _ hne hi hj
   exact⟨k1.keepM r.mc k.ww k.wz,k2⟩
 ·rw[hset]at hx hy
  split at hx
  ·rename_i e1
   split at hy
   ·rename_i e2;omega
   ·rename_i e2;cases hx;exact one b y e2 hy
  ·rename_i e1
   split at hy
   ·rename_i e2;cases hy;exact (one a x e1 hx).symm
   ·exact h.sep a b x y hab hx hy
theorem Ms.push (h:Ms m0 m L) (k:ML m P s g S) (h1:∀B∈own P s,m0.n<=B) (h2:∀q∈L,Sep q ⟨P,s,g,S⟩):Ms m0 m (L ++ [⟨P,s,g,S⟩]):=by
 have hget:∀j x,(L ++ [(⟨P,s,g,S⟩:Mq)])[j]?=some x->L[j]?=some x\/(j=L.length/\x=⟨P,s,g,S⟩):=fun j x hx=>by
  by_cases hj:j<L.length
  ·rw[qbw hj]at hx;exact .inl hx
  ·rw[qbx (by omega)]at hx
   obtain⟨q1,q2⟩:=qbk.1 hx
   simp at q1 q2
   exact .inr ⟨by omega,q2.symm⟩
 refine⟨h.b0,h.ext,fun q hq=>?_,fun a b x y hab hx hy=>?_⟩
 ·rcases qc4.1 hq with hq | hq
  ·exact h.ml q hq
  ·rw[qbp.1 hq];exact⟨k,h1⟩
 ·rcases hget a x hx with h3 | ⟨h3,rfl⟩
  ·rcases hget b y hy with h4 | ⟨h4,rfl⟩
   ·exact h.sep a b x y hab h3 h4
   ·exact h2 x (qbj h3)
  ·rcases hget b y hy with h4 | ⟨h4,rfl⟩
   ·exact (h2 y (qbj h4)).symm
   ·omega
theorem Ms.new_c (h:Ms m0 m L) (n:Nat) {wl:Value} {ws:List Nat} (hw:Rd m wl 1 xY ws):∃v m',(xA (n+40)).f 9 [wl] m=some (v,m')/\((vV ws≠0/\v=.tuple #[.pointer none,iv (vV ws)]/\Ms m0 m' L/\Ext m m')\/(vV ws=0/\∃P s g,v=.tuple #[mP P,iv 0]/\Ms m0 m' (L ++ [⟨P,s,g,Zs ws⟩])/\Ext m m')):=by
 obtain⟨v,m',a1,a2,a3⟩:=New_m (n+34) h.base hw
 refine⟨v,m',by rw[ZW _ _ _ _ (by decide)];exact a1,?_⟩
 have hs:=h.step a2
 rcases a3 with ⟨he,P,lv,rfl,h1,h2,h3⟩ | ⟨he,rfl⟩
 ·refine .inr ⟨he,P,_,_,rfl,hs.push h2 (fun B hB=>?_) (fun q hq=>?_),a2⟩
  ·have:=h.ext.n
   rcases wU.1 hB with rfl | hL
   ·omega
   ·exact absurd hL Ql
  ·have own':∀B∈own P (bU lv),m.n<=B:=fun B hB=>by
    rcases wU.1 hB with rfl | hL
    ·exact h1
    ·exact absurd hL Ql
   have hm:=(h.ml q hq).1
   exact⟨fun B hB hB2=>by have:=hm.own_lt hB;have:=own' B hB2;omega,fun B hB hB2=>by have:=hm.own_lt hB;have:=h3 B (JF hB2);omega,fun B hB hB2=>by have:=hm.hp.sn B hB2;have:=own' B hB;omega⟩
 ·exact .inl ⟨he,rfl,hs,a2⟩
theorem Ms.feed_c (h:Ms m0 m L) (n:Nat) (hi:L[i]?=some ⟨P,s,g,S⟩) (hw:WF S) {lv:Value} {l:List Nat} (hl:Rd m0 lv 1 jC l) (hv:∀v∈l,v<W64) (ho:(S.outs.length+l.length)*8<=most) :
  ∃u m' s' g',(xA (n+40)).f 10 [mP P,lv] m=some (u,m')/\Ms m0 m' (L.set i ⟨P,s',g',xc S l⟩):=by
 obtain⟨h1,h2⟩:=h.ml _ (qbj hi)
 obtain⟨u,m',s',g',a1,a2,-⟩:=feed_m (n+6) h1 hw (hl.congr h.ext.n fun B hB=>h.ext.obj B (hl.lt B hB)) (fun B hB hc=>by have:=hl.lt B hB;have:=h2 B hc;omega) hv ho
 exact⟨u,m',s',g',by rw[ZW _ _ _ _ (by decide)];exact a1,h.upd hi a2⟩
theorem Ms.next_c (h:Ms m0 m L) (n:Nat) (hi:L[i]?=some ⟨P,s,g,S⟩) (hw:WF S) :
  ∃m' s' g',(xA (n+40)).f 15 [mP P] m=some (.agg ⟨qm (wY S).2⟩,m')/\Ms m0 m' (L.set i ⟨P,s',g',(wY S).1⟩):=by
 obtain⟨u,m',s',g',a1,a2,rfl⟩:=Wy (n+8) (h.get hi) hw
 exact⟨m',s',g',by rw[ZW _ _ _ _ (by decide)];exact a1,h.upd hi a2⟩
theorem Ms.run_c (h:Ms m0 m L) (n:Nat) (hi:L[i]?=some ⟨P,s,g,S⟩) (hw:WF S) (hz:Sz S) :
  ∃q m',(xA (n+40)).f 14 [mP P] m=some (.agg ⟨wC q⟩,m')/\Ms m0 m' L/\Ext m m'/\RL m' q (yo S)/\KF m.n q/\q.st=(yo S).sc.st/\q.lc=(yo S).sc.lc/\q.us=S.sc.us:=by
 obtain⟨v,m',a1,a2,q,rfl,a3⟩:=Run_m (n+7) (h.get hi) hw hz
 exact⟨q,m',by rw[ZW _ _ _ _ (by decide)];exact a1,h.step a2,a2,a3⟩
theorem Ms.reg_c (h:Ms m0 m L) (n:Nat) (hi:L[i]?=some ⟨P,s,g,S⟩) {k:Nat} (hk:k<=30):∃m',(xA (n+40)).f 12 [mP P,iv k] m=some (uv (S.sc.v k),m')/\Ms m0 m' L/\Ext m m':=by
 obtain⟨v,m',a1,a2,rfl⟩:=Reg_m (n+39) (h.get hi) hk
 exact⟨m',by rw[ZW _ _ _ _ (by decide)];exact a1,h.step a2,a2⟩
theorem Ms.clone_c (h:Ms m0 m L) (n:Nat) (hi:L[i]?=some ⟨P,s,g,S⟩) (hz:Sz S):∃P' s' m',(xA (n+40)).f 11 [mP P] m=some (mP P',m')/\Ms m0 m' (L ++ [⟨P',s',g,S⟩])/\Ext m m':=by
 obtain⟨h1,h2⟩:=h.ml _ (qbj hi)
 obtain⟨v,m',a1,a2,rfl,q,a3,a4⟩:=Xm (n+37) h1 hz
 have hge:∀B∈own m.n (mcL s q),m.n<=B:=fun B hB=>by
  rcases wU.1 hB with rfl | ⟨F,hF,e⟩
  ·exact qbl _
  ·rw[gg]at e;have:=a4 F hF B e;omega
 have he:=h.ext.n
 refine⟨m.n,mcL s q,m',by rw[ZW _ _ _ _ (by decide)];exact a1,(h.step a2).push a3 (fun B hB=>by have:=hge B hB;omega) (fun r hr=>?_),a2⟩
 have hm:=(h.ml r hr).1
 refine⟨fun B hB hB2=>by have:=hm.own_lt hB;have:=hge B hB2;omega,fun B hB hB2=>?_,fun B hB hB2=>by have:=hm.hp.sn B hB2;have:=hge B hB;omega⟩
 have hB2:Sh s g B:=hB2
 obtain⟨j,hj⟩:=List.mem_iff_getElem?.1 hr
 by_cases e:j=i
 ·rw[e,hi]at hj;cases hj
  exact vM h1.hp hB2 hB
 ·exact (h.sep j i _ _ e hj hi).wz B hB hB2
end
end Go.Sx
namespace Go.Sx
open Go.Dx Go.Proofs
set_option maxRecDepth 10000
theorem Gm (w:Wnt):kH [1,1,1,1,0,0] (qm w) (qm w)=some true:=by
 unfold qm;rw[kW,kW,kW,kW];cases w.ex<;>cases w.one<;>rfl
theorem BM (n:Nat) {m:M} (hm:m.base<=m.n) {a b:Mch} {S:PM} (ha:RL m a (yo S)) (hb:RL m b (yo S)) (hw:WF S) (ho:S.outs.length*8<=most) (a1:a.st=(yo S).sc.st) (a2:a.lc=(yo S).sc.lc) (a3:a.us=S.sc.us) (b1:b.st=(yo S).sc.st) (b2:b.lc=(yo S).sc.lc) (b3:b.us=S.sc.us) :
  ∃m',(xA (n+40)).f 13 [.agg ⟨wC a⟩,.agg ⟨wC b⟩] m=some (.bool true,m')/\Ext m m':=by
 obtain⟨v,m',h1,h2,rfl⟩:=same_c (n+38) hm ha hb (SameRun.refl _) (a1.trans b1.symm) (a2.trans b2.symm) (a3.trans b3.symm) (qat hw ho)
 exact⟨m',by rw[ZW _ _ _ _ (by decide)];exact h1,h2⟩
set_option maxHeartbeats 8000000 in
theorem CpuClones_c (n:Nat) {m:M} (hm:m.base<=m.n) {wl fl al bl:Value} {ws fs av bs:List Nat} (hws:Rd m wl 1 xY ws) (hfs:Rd m fl 1 jC fs) (has:Rd m al 1 jC av) (hbs:Rd m bl 1 jC bs) (vf:∀v∈fs,v<W64) (va:∀v∈av,v<W64) (vb:∀v∈bs,v<W64)
  (za:(fs.length+av.length)*8<=most) (zb:(fs.length+bs.length)*8<=most) :
  CallV (Ex.step Tryz.prog (xA (n+40))) 3 [wl,fl,al,bl] m (.bool true):=by
 refine step_ret da0_ok (by simp) ?_
 have aw0:=xA_aw (n+40) m
 obtain⟨v1,m1,a1,hA⟩:=(Ms.nil hm).new_c n hws
 rcases hA with ⟨he,rfl,h1,E1⟩ | ⟨he,P1,s1,g1,rfl,h1,E1⟩
 ·have hne:(vV ws=0)=False:=eq_false he
  simp[aw0,a1,hne]
  exact qN E1 (by simp)
 have w0:=DJ he
 obtain⟨SF,hSF⟩:=qc5 (xc (Zs ws) fs)
 have wF:WF SF:=by rw[hSF];exact ya w0 vf
 have oF:SF.outs.length<=fs.length:=by
  have:=xw w0 vf
  rw[hSF];have h0:(Zs ws).outs.length=0:=rfl
  omega
 obtain⟨SA,hSA⟩:=qc5 (xc SF av)
 have wA:WF SA:=by rw[hSA];exact ya wF va
 have oA:SA.outs.length*8<=most:=by
  have:=xw wF va
  rw[<-hSA]at this;omega
 obtain⟨SB,hSB⟩:=qc5 (xc SF bs)
 have wB:WF SB:=by rw[hSB];exact ya wF vb
 have oB:SB.outs.length*8<=most:=by
  have:=xw wF vb
  rw[<-hSB]at this;omega
 have z0:((Zs ws).outs.length+fs.length)*8<=most:=by
  have h0:(Zs ws).outs.length=0:=rfl
  omega
 have zFa:(SF.outs.length+av.length)*8<=most:=by omega
 have zFb:(SF.outs.length+bs.length)*8<=most:=by omega
 obtain⟨u2,m2,s1,g1,a2,h2⟩:=h1.feed_c n (i:=0) rfl w0 hfs vf z0
 rw[<-hSF]at h2
 obtain⟨P2,s2,m3,a3,h3,E3⟩:=h2.clone_c n (i:=0) rfl (ZV wF (by omega))
 obtain⟨u4,m4,s1,g1,a4,h4⟩:=h3.feed_c n (i:=0) rfl wF has va zFa
 rw[<-hSA]at h4
 obtain⟨u5,m5,s2,g2,a5,h5⟩:=h4.feed_c n (i:=1) rfl wF hbs vb zFb
 rw[<-hSB]at h5
 have ws5:Rd m5 wl 1 xY ws:=hws.congr h5.ext.n fun B hB=>h5.ext.obj B (hws.lt B hB)
 obtain⟨v6,m6,a6,hA⟩:=h5.new_c n ws5
 rcases hA with ⟨he',-⟩ | ⟨-,P3,s3,g3,rfl,h6,E6⟩
 ·exact absurd he he'
 have ws6:Rd m6 wl 1 xY ws:=hws.congr h6.ext.n fun B hB=>h6.ext.obj B (hws.lt B hB)
 obtain⟨v7,m7,a7,hA⟩:=h6.new_c n ws6
 rcases hA with ⟨he',-⟩ | ⟨-,P4,s4,g4,rfl,h7,E7⟩
 ·exact absurd he he'
 obtain⟨u8,m8,s3,g3,a8,h8⟩:=h7.feed_c n (i:=2) rfl w0 hfs vf z0
 rw[<-hSF]at h8
 obtain⟨u9,m9,s4,g4,a9,h9⟩:=h8.feed_c n (i:=3) rfl w0 hfs vf z0
 rw[<-hSF]at h9
 obtain⟨u10,m10,s3,g3,a10,h10⟩:=h9.feed_c n (i:=2) rfl wF has va zFa
 rw[<-hSA]at h10
 obtain⟨u11,m11,s4,g4,a11,h11⟩:=h10.feed_c n (i:=3) rfl wF hbs vb zFb
 rw[<-hSB]at h11
 have h11:Ms m m11 [⟨P1,s1,g1,SA⟩,⟨P2,s2,g2,SB⟩,⟨P3,s3,g3,SA⟩,⟨P4,s4,g4,SB⟩]:=h11
 have hn2:eqN de true (mP P2) (.pointer none)=some false:=rfl
 simp[aw0,a1,a2,a3,hn2,a4,a5,a6,a7,a8,a9,a10,a11]
 refine qK (c:=YR) rfl (Ret m _) (fun i t m'=>Tm.get 9 t=mP P1/\Tm.get 11 t=mP P2/\Tm.get 12 t=mP P3/\Tm.get 13 t=mP P4/\Tm.get 15 t=iv i/\Ms m m' [⟨P1,s1,g1,SA⟩,⟨P2,s2,g2,SB⟩,⟨P3,s3,g3,SA⟩,⟨P4,s4,g4,SB⟩]) 31 (by omega)
  ⟨by simp,by simp,by simp,by simp,by simp,h11⟩ (fun i t m' k hi hI hk=>?_)
 obtain⟨t9,t11,t12,t13,t15,h⟩:=hI
 by_cases hil:i<31
 ·have d1:((i:Int)<=30)=True:=eq_true (by omega)
  have d1':(i<=30)=True:=eq_true (by omega)
  have w1:=qX (i:=i) (by omega)
  obtain⟨q1,b1,k1,-⟩:=h.reg_c n (i:=0) rfl (k:=i) (by omega)
  obtain⟨q2,b2,k2,-⟩:=k1.reg_c n (i:=2) rfl (k:=i) (by omega)
  obtain⟨q3,b3,k3,-⟩:=k2.reg_c n (i:=1) rfl (k:=i) (by omega)
  obtain⟨q4,b4,k4,-⟩:=k3.reg_c n (i:=3) rfl (k:=i) (by omega)
  simp[t9,t11,t12,t13,t15,d1,d1',b1,b2,b3,b4,w1]
  exact hk hil _ _ ⟨by simp[t9],by simp[t11],by simp[t12],by simp[t13],by simp,k4⟩
 obtain rfl:i=31:=by omega
 obtain⟨ra,n1,b1,k1,e1,ra1,-,ra2,ra3,ra4⟩:=h.run_c n (i:=0) rfl wA (ZV wA oA)
 obtain⟨rx,n2,b2,k2,e2,rx1,-,rx2,rx3,rx4⟩:=k1.run_c n (i:=2) rfl wA (ZV wA oA)
 obtain⟨n3,b3,e3⟩:=BM n k2.base (ra1.ext e2) rx1 wA oA ra2 ra3 ra4 rx2 rx3 rx4
 have k3:=k2.step e3
 obtain⟨rc,n4,b4,k4,e4,rc1,-,rc2,rc3,rc4⟩:=k3.run_c n (i:=1) rfl wB (ZV wB oB)
 obtain⟨ry,n5,b5,k5,e5,ry1,-,ry2,ry3,ry4⟩:=k4.run_c n (i:=3) rfl wB (ZV wB oB)
 obtain⟨n6,b6,e6⟩:=BM n k5.base (rc1.ext e5) ry1 wB oB rc2 rc3 rc4 ry2 ry3 ry4
 have k6:=k5.step e6
 obtain⟨n7,s1',g1',b7,k7⟩:=k6.next_c n (i:=0) rfl wA
 obtain⟨n8,s3',g3',b8,k8⟩:=k7.next_c n (i:=2) rfl wA
 obtain⟨n9,s2',g2',b9,k9⟩:=k8.next_c n (i:=1) rfl wB
 obtain⟨n10,s4',g4',b10,k10⟩:=k9.next_c n (i:=3) rfl wB
 have qA:=Gm (wY SA).2
 have qB:=Gm (wY SB).2
 simp[t9,t11,t12,t13,t15,b1,b2,b3,b4,b5,b6,b7,b8,b9,b10,qA,qB]
 exact qN k10.ext (by simp)
end Go.Sx
namespace Go.Dx
open Go.RowKit Go.WideShapes Go.ChangeShapes
section
variable {H:Type} {enc:TypeId × Value->H} {P:Program}
theorem args_stay (hl:laidOutB P=true) {W W':World}:∀(ts:List TypeId) (vs:List Value) (ds:List (DataW H)) (ps:List MemPlace),(ts.all fun t=>P.readableRec t && decide (t<P.types.size))=true ->
  DataW.TrodAll enc P W 0 (fun _=>true) true ts vs ds ps->(∀p∈ps,W.sameAt W' p)->∀sp:Nat->Bool,(∀p∈ps,sp p.block=true)->DataW.TrodAll enc P W' 0 sp true ts vs ds ps
 | [],vs,ds,ps,_,h,_,_,_=>by
  obtain⟨rfl,rfl,rfl⟩:=trodAll_nil h
  exact rfl
 | t :: ts,vs,ds,ps,ha,h,hs,sp,hsp=>by
  obtain⟨v,vs',d,ds',p,q,rfl,rfl,rfl,h1,h2⟩:=trodAll_cons h
  simp only[List.all_cons,qbo,decide_eq_true_eq]at ha
  exact⟨p,q,WideElems.Trod_stays hl ha.1.1 ha.1.2 h1 (fun x hx=>hs x (List.mem_append_left _ hx)) (fun x hx=>hsp x (List.mem_append_left _ hx)),
   args_stay hl ts vs' ds' q ha.2 h2 (fun x hx=>hs x (List.mem_append_right _ hx)) sp (fun x hx=>hsp x (List.mem_append_right _ hx)),rfl⟩
end
end Go.Dx
namespace Go.Sx
open Go.RowKit Go.WideShapes Go.ChangeShapes Go.Dx
theorem ZD {α β:Type} {m:M} {v:Value} {e:Nat} {f:β->List Value} {g:α->β} {l:List α} (h:Rd m v e (fun x=>f (g x)) l):Rd m v e f (l.map g) :=
 ⟨by rw[List.length_map];exact h.len,fun i r hr=>by
  rw[qby,Option.map_eq_some_iff]at hr
  obtain⟨x,hx,rfl⟩:=hr
  exact h.row i x hx,by rw[List.length_map,List.flatMap_map];exact h.all,h.lt⟩
section
variable {H:Type} {enc:TypeId × Value->H} {P:Program} {w:World}
abbrev N64:Type:={ x:Nat // x<18446744073709551616 }
instance:Inhabited N64:=⟨⟨0,by decide⟩⟩
abbrev N32:Type:={ x:Nat // x<4294967296 }
instance:Inhabited N32:=⟨⟨0,by decide⟩⟩
def LenOf (d:DataW H) (n:Nat):Prop:=n=0\/∃elems spare,d=.slice elems spare/\elems.length=n
theorem XU {α:Type} [Inhabited α] {tu tus:TypeId} {f:α->List Value} (hs:P.underlying tus=some (.slice tu)) (huc:P.cellsOf tu=1) (hrow:∀n cs y,DataW.trod enc P w 0 (fun _=>true) true n tu cs=some y->∃x:α,cs=f x) (hint:∀x,(f x).length=1/\∀v∈f x,yX v=some v)
  {b0:Nat} {v:Value} {d:DataW H} {pl:List MemPlace} (hv:Value.okWide P w .any b0 tus v) (h:DataW.Trod enc P w 0 (fun _=>true) true tus v d pl) (hz:w.noneFrozen pl) :
  ∃(av:Value) (es:List α),VRel (vR w) av v/\Rd (snapM w) av 1 f es/\Sp 1 av/\LenOf d es.length:=by
 obtain⟨a0,len,cap,rfl⟩:=okWide_slice hs hv
 have k1:Cell.okWide P w .any b0 tus (.slice a0 len cap):=by have:=hv;simp only[Value.okWide,hs]at this;exact this
 obtain⟨fuel,hf⟩:=h
 obtain⟨av,es,r1,r2,r3,r4⟩:=Vn (α:=α) (e:=tu) (sz:=1) (f:=f) hs huc (by omega) hrow hint hf (fun a l c e=>by rw[e]at k1;exact Xc hs k1) (fun b off hb=>hz b off hb)
 refine⟨av,es,r1,r2,r4,?_⟩
 rcases r3 with rfl | ⟨el,sp,e1,e2⟩
 ·exact .inl rfl
 ·exact .inr ⟨el,sp,e1,e2⟩
theorem u64_arg {tu tus:TypeId} (hs:P.underlying tus=some (.slice tu)) (hu:P.underlying tu=some (.int .u64)) (huc:P.cellsOf tu=1) {b0:Nat} {v:Value} {d:DataW H} {pl:List MemPlace} (hv:Value.okWide P w .any b0 tus v) (h:DataW.Trod enc P w 0 (fun _=>true) true tus v d pl) (hz:w.noneFrozen pl) :
  ∃(av:Value) (es:List Nat),VRel (vR w) av v/\Rd (snapM w) av 1 jC es/\Sp 1 av/\LenOf d es.length/\∀x∈es,x<W64:=by
 obtain⟨av,es,r1,r2,r3,r4⟩:=XU (α:=N64) (f:=fun x=>jC x.1) hs huc (fun n cs y hh=>by
  obtain⟨x,e1,_,wb⟩:=DataW.trod_int hu hh
  simp only[Lit.wf,qbo,decide_eq_true_eq]at wb
  have h1:(0:Int)<=x:=wb.1
  have h2:x<=18446744073709551615:=wb.2
  exact⟨⟨x.toNat,by omega⟩,by rw[e1];show [Value.int .u64 x]=[Value.int .u64 (x.toNat:Int)];rw[Int.toNat_of_nonneg h1]⟩) (fun x=>⟨rfl,fun v hv=>by simp[jC]at hv;subst hv;rfl⟩) hv h hz
 refine⟨av,es.map (·.1),r1,ZD (g:=fun x:N64=>x.1) r2,r3,by rw[List.length_map];exact r4,fun x hx=>?_⟩
 obtain⟨y,_,rfl⟩:=List.mem_map.1 hx
 exact y.2
theorem u32_arg {tu tus:TypeId} (hs:P.underlying tus=some (.slice tu)) (hu:P.underlying tu=some (.int .u32)) (huc:P.cellsOf tu=1) {b0:Nat} {v:Value} {d:DataW H} {pl:List MemPlace} (hv:Value.okWide P w .any b0 tus v) (h:DataW.Trod enc P w 0 (fun _=>true) true tus v d pl) (hz:w.noneFrozen pl) :
  ∃(av:Value) (es:List Nat),VRel (vR w) av v/\Rd (snapM w) av 1 xY es/\Sp 1 av/\LenOf d es.length/\∀x∈es,x<4294967296:=by
 obtain⟨av,es,r1,r2,r3,r4⟩:=XU (α:=N32) (f:=fun x=>xY x.1) hs huc (fun n cs y hh=>by
  obtain⟨x,e1,_,wb⟩:=DataW.trod_int hu hh
  simp only[Lit.wf,qbo,decide_eq_true_eq]at wb
  have h1:(0:Int)<=x:=wb.1
  have h2:x<=4294967295:=wb.2
  exact⟨⟨x.toNat,by omega⟩,by rw[e1];show [Value.int .u32 x]=[Value.int .u32 (x.toNat:Int)];rw[Int.toNat_of_nonneg h1]⟩) (fun x=>⟨rfl,fun v hv=>by simp[xY]at hv;subst hv;rfl⟩) hv h hz
 refine⟨av,es.map (·.1),r1,ZD (g:=fun x:N32=>x.1) r2,r3,by rw[List.length_map];exact r4,fun x hx=>?_⟩
 obtain⟨y,_,rfl⟩:=List.mem_map.1 hx
 exact y.2
end
end Go.Sx
