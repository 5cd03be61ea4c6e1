/- Contracts. -/
import Derived.Test.YtjoapkgigchboaaGreatGg
import Derived.Test.YtjoapkgigchboaaGreatGb3
import Derived.Test.YtjoapkgigchboaaGreatEd
import Derived.Test.YtjoapkgigchboaaGreatGa
import Derived.Test.YtjoapkgigchboaaGreatPost
import Derived.WideKeyArgs
set_option linter.unusedVariables false
set_option linter.unusedSimpArgs false
set_option linter.defProp false
namespace Go.Dx
theorem WD {c:C}:∀{a b o:Nat} {l:List Value},ldn c o (a+b)=some l->ldn c o a=some (l.take a)/\ldn c (o+a) b=some (l.drop a)
 | 0,b,o,l,h=>by rw[Nat.zero_add]at h;exact⟨rfl,h⟩
 | a+1,b,o,l,h=>by
  rw[show a+1+b=a+b+1 by omega,yx]at h
  obtain⟨v,hv,h⟩:=qd h
  obtain⟨t,ht,h⟩:=qd h
  have hl:l=v :: t:=by unfold Vh at h;cases h;rfl
  subst hl
  obtain⟨h1,h2⟩:=WD ht
  refine⟨?_,?_⟩
  ·rw[yx,hv];show ob (ldn c (o+1) a) _=_;rw[h1];rfl
  ·rw[show o+(a+1)=o+1+a by omega,h2];rfl
theorem dx {m:M} {B o a b:Nat} {s:Option Nat} {l:List Value} (h:loads m ⟨B,o,s⟩ (a+b)=some l):loads m ⟨B,o,s⟩ a=some (l.take a)/\loads m ⟨B,o+a,s⟩ b=some (l.drop a):=by
 unfold loads at h ⊢
 obtain⟨c,hc,h⟩:=qd h
 simp only at hc
 rw[hc]
 exact WD h
section
variable {α:Type} {m:M} {v:Value} {e:Nat} {f:α->List Value} {l:List α}
theorem Rd.drop (h:Rd m v e f l) (hs:Sp e v) (hf:∀x,(f x).length=e) {k:Nat} (hk:k<=l.length):∃a n c,slV e (some (.int .i64 (k:Int))) none none v=some (.slice a n c)/\Rd m (.slice a n c) e f (l.drop k)/\Sp e (.slice a n c)/\(∀B,blk (.slice a n c)=some B->blk v=some B):=by
 rcases hs with rfl | ⟨B,o,n,c,x,rfl,hnc⟩
 ·have hl:l.length=0:=by have:=h.len;simp[zm]at this;omega
  have hk0:k=0:=by omega
  have hl':l=[]:=qdb hl
  subst hk0;subst hl'
  exact⟨none,0,0,rfl,h,.inl rfl,fun B hB=>hB⟩
 ·have hn:n=l.length:=by have:=h.len;simp[zm]at this;omega
  have hdl:(l.drop k).length=n - k:=by rw[List.length_drop,hn]
  have hfl:=wg hf l
  have hall:loads m ⟨B,o,some (code e x)⟩ (l.length*e)=some (l.flatMap f):=h.all
  have hsplit:l.length*e=k*e+(l.drop k).length*e:=by rw[hdl,hn,<-Nat.add_mul];congr 1;omega
  have hdrop:(l.flatMap f).drop (k*e)=(l.drop k).flatMap f:=by
   have hl2:l=l.take k ++ l.drop k:=(List.take_append_drop k l).symm
   have hlt:=wg hf (l.take k)
   rw[List.length_take,Nat.min_eq_left hk]at hlt
   conv=>lhs;rw[hl2,List.flatMap_append]
   rw[List.drop_append_of_le_length (by omega),<-hlt,List.drop_length,List.nil_append]
  rw[hsplit]at hall
  obtain⟨h1,h2⟩:=dx hall
  rw[hdrop]at h2
  have hb:yP n c (some (.int .i64 (k:Int))) none none=some (k,n,c):=by
   show ob (Qg (some (.int .i64 (k:Int))) 0 n) _=_
   show ob (bif Nat.ble k n then some k else none) _=_
   rw[qd2 (by omega)];rfl
  have hcd:Nat.beq (code e x / 2) e=true:=by
   have:code e x / 2=e:=by
    cases x
    ·show (2*e) / 2=e;omega
    ·show (2*e+1) / 2=e;omega
   rw[this,Nat.beq_refl]
  have hex:vi (code e x)=x:=by
   cases x
   ·show Nat.beq ((2*e) % 2) 1=false
    rw[show (2*e) % 2=0 by omega];rfl
   ·show Nat.beq ((2*e+1) % 2) 1=true
    rw[show (2*e+1) % 2=1 by omega];rfl
  have hsl:slV e (some (.int .i64 (k:Int))) none none (.slice (some ⟨B,o,some (code e x)⟩) n c)=some (.slice (some ⟨B,bif x && Nat.beq c k then o else o+k*e,some (code e x)⟩) (n - k) (c - k)):=by
   unfold slV
   simp only[qV,hb,hcd,hex,Option.isSome_none,Bool.or_false]
   rfl
  refine⟨_,_,_,hsl,⟨by rw[hdl];rfl,fun i r hr=>?_,?_,fun C hC=>by cases hC;exact h.lt _ rfl⟩,.inr ⟨_,_,_,_,_,rfl,by omega⟩,fun C hC=>hC⟩
  ·have hi:i<(l.drop k).length:=(qcw.1 hr).1
   rw[List.getElem?_drop]at hr
   have hck:(x && Nat.beq c k)=false:=by
    cases q:Nat.beq c k with
    | false=>simp
    | true=>have:=qd7 q;omega
   rw[hck]
   obtain⟨g1,g2,g3⟩:=h.row (k+i) r hr
   refine⟨?_,g2,?_⟩
   ·show (bif Nat.blt i (n - k) then fF (i*e) _ else none)=_
    rw[show Nat.blt i (n - k)=true from qd2 (by omega)];rfl
   ·have e1:adr e (.slice (some ⟨B,o,some (code e x)⟩) n c) (k+i)=⟨B,o+(k+i)*e,none⟩:=rfl
    have e2:adr e (.slice (some ⟨B,bif false then o else o+k*e,some (code e x)⟩) (n - k) (c - k)) i=⟨B,o+k*e+i*e,none⟩:=rfl
    rw[e1]at g3
    rw[e2,<-g3,Nat.add_mul,Nat.add_assoc]
  ·show loads m ⟨B,bif x && Nat.beq c k then o else o+k*e,some (code e x)⟩ ((l.drop k).length*e)=_
   cases q:(x && Nat.beq c k) with
   | false=>exact h2
   | true =>
    rw[qd0]at q
    have:=qd7 q.2
    have h0:l.drop k=[]:=List.drop_eq_nil_of_le (by omega)
    rw[h0]at h2 ⊢
    unfold loads at h1 ⊢
    obtain⟨cc,hcc,_⟩:=qd h1
    simp only at hcc
    show ob (cellsOf m B) _=_
    rw[hcc]
    show ldn cc _ (0*e)=_
    rw[Nat.zero_mul];rfl
theorem Rd.take (h:Rd m v e f l) (hs:Sp e v) (hf:∀x,(f x).length=e) {k:Nat} (hk:k<=l.length):∃a n c,slV e none (some (.int .i64 (k:Int))) none v=some (.slice a n c)/\Rd m (.slice a n c) e f (l.take k)/\Sp e (.slice a n c)/\(∀B,blk (.slice a n c)=some B->blk v=some B):=by
 rcases hs with rfl | ⟨B,o,n,c,x,rfl,hnc⟩
 ·have hl:l.length=0:=by have:=h.len;simp[zm]at this;omega
  have hk0:k=0:=by omega
  have hl':l=[]:=qdb hl
  subst hk0;subst hl'
  exact⟨none,0,0,rfl,h,.inl rfl,fun B hB=>hB⟩
 ·have hn:n=l.length:=by have:=h.len;simp[zm]at this;omega
  have htl:(l.take k).length=k:=by rw[List.length_take,Nat.min_eq_left hk]
  have hall:loads m ⟨B,o,some (code e x)⟩ (l.length*e)=some (l.flatMap f):=h.all
  have hsplit:l.length*e=k*e+(l.length - k)*e:=by rw[<-Nat.add_mul];congr 1;omega
  have htake:(l.flatMap f).take (k*e)=(l.take k).flatMap f:=by
   have hl2:l=l.take k ++ l.drop k:=(List.take_append_drop k l).symm
   have hlt:=wg hf (l.take k)
   rw[htl]at hlt
   conv=>lhs;rw[hl2,List.flatMap_append]
   rw[List.take_append_of_le_length (by omega),<-hlt,List.take_length]
  rw[hsplit]at hall
  obtain⟨h1,h2⟩:=dx hall
  rw[htake]at h1
  have hcd:Nat.beq (code e x / 2) e=true:=by
   have:code e x / 2=e:=by
    cases x
    ·show (2*e) / 2=e;omega
    ·show (2*e+1) / 2=e;omega
   rw[this,Nat.beq_refl]
  have hex:vi (code e x)=x:=by
   cases x
   ·show Nat.beq ((2*e) % 2) 1=false
    rw[show (2*e) % 2=0 by omega];rfl
   ·show Nat.beq ((2*e+1) % 2) 1=true
    rw[show (2*e+1) % 2=1 by omega];rfl
  have hb:yP n c none (some (.int .i64 (k:Int))) none=some (0,k,c):=by
   show ob (Qg (some (.int .i64 (k:Int))) n c) _=_
   show ob (bif Nat.ble k c then some k else none) _=_
   rw[qd2 (by omega)];rfl
  have hoff:(bif x && Nat.beq c 0 then o else o+0*e)=o:=by cases (x && Nat.beq c 0)<;>simp
  have hsl:slV e none (some (.int .i64 (k:Int))) none (.slice (some ⟨B,o,some (code e x)⟩) n c)=some (.slice (some ⟨B,o,some (code e x)⟩) k c):=by
   unfold slV
   simp only[qV,hb,hcd,hex,Option.isSome_none,Bool.or_false]
   show some (Value.slice (some ⟨B,bif x && Nat.beq c 0 then o else o+0*e,some (code e x)⟩) (k - 0) (c - 0))=_
   rw[hoff];rfl
  refine⟨_,_,_,hsl,⟨by rw[htl];rfl,fun i r hr=>?_,?_,fun C hC=>by cases hC;exact h.lt _ rfl⟩,.inr ⟨_,_,_,_,_,rfl,by omega⟩,fun C hC=>hC⟩
  ·have hi:i<(l.take k).length:=(qcw.1 hr).1
   rw[htl]at hi
   rw[List.getElem?_take,if_pos hi]at hr
   obtain⟨g1,g2,g3⟩:=h.row i r hr
   refine⟨?_,g2,g3⟩
   show (bif Nat.blt i k then fF (i*e) _ else none)=_
   rw[show Nat.blt i k=true from qd2 hi];rfl
  ·show loads m ⟨B,o,some (code e x)⟩ ((l.take k).length*e)=_
   rw[htl];exact h1
end
end Go.Dx
namespace Go.Sx
open Go.Dx Go.Proofs
set_option maxRecDepth 10000
theorem bE {S:PM} {w:Wnt} (h:look S=some w):kw S=(S,w):=QL h _
theorem WM {S:PM} (h:WF S):kw (kw S).1=kw S:=by
 rw[bE (ja h).1]
theorem Yt {S:PM} (h:WF S) (v:Nat):kQ (kw S).1 v=kQ S v:=by
 unfold kQ;rw[WM h]
def dj (w:Wnt) (v:Nat):Nat:=if w.what=2/\w.ex=true then v % 2 else v
def vV (S:PM) (v:Nat):PM:=(kQ S (dj (kw S).2 v)).1
def vB (S:PM) (l:List Nat):PM:=l.foldl vV S
theorem ZJ {w:Wnt} {v:Nat} (h:v<W64):dj w v<W64:=by
 unfold dj
 split
 ·omega
 ·exact h
theorem Qv {S:PM} (h:WF S) {v:Nat} (hv:v<W64):WF (vV S v):=ZI h (ZJ hv)
theorem Qu:∀{l:List Nat} {S:PM},WF S->(∀v∈l,v<W64)->WF (vB S l)
 | [],S,h,_=>h
 | v :: l,S,h,hv=>Qu (l:=l) (Qv h (hv v (by simp))) fun x hx=>hv x (by simp[hx])
theorem JD (S:PM) (i:Ins) (w:Wnt) (v b:Nat):(storeP S i w v b).outs=S.outs:=by
 unfold storeP
 cases w.ex with
 | false=>rfl
 | true =>
  simp only[if_true]
  split
  ·exact (kz _ _ _ _).outs
  ·exact (kz _ _ _ _).outs
theorem dc (S:PM) (i:Ins) (w:Wnt) (v b:Nat):(kH S i w v b).outs=S.outs:=by
 unfold kH
 simp only
 split
 ·exact (kz _ _ _ _).outs
 ·exact (kz _ _ _ _).outs
theorem ZF (w:Wnt) (b:Nat) (S:PM):(exP w b S).outs=S.outs:=by unfold exP;split<;>rfl
theorem Yr (S:PM) (b:Nat):(bw S b).outs=S.outs:=by unfold bw;split<;>rfl
theorem Xf (S:PM) (i:Ins) (w:Wnt) (v:Nat):(zY S i w v).outs=if w.what=4 then S.outs ++ [w.val] else S.outs:=by
 unfold zY
 by_cases h1:w.what=1
 ·simp only[if_pos h1,if_neg (show ¬w.what=4 by omega)]
  split
  ·split
   ·exact dc _ _ _ _ _
   ·exact (ZF _ _ _).trans (dc _ _ _ _ _)
  ·exact (ZF _ _ _).trans (kz _ _ _ _).outs
 by_cases h2:w.what=2
 ·simp only[if_neg h1,if_pos h2,if_neg (show ¬w.what=4 by omega)]
  split
  ·exact Yr _ _
  ·exact JD _ _ _ _ _
 by_cases h3:w.what=3
 ·simp only[if_neg h1,if_neg h2,if_pos h3,if_neg (show ¬w.what=4 by omega)];rfl
 by_cases h4:w.what=4
 ·simp only[if_neg h1,if_neg h2,if_neg h3,if_pos h4];rfl
 ·simp only[if_neg h1,if_neg h2,if_neg h3,if_neg h4];rfl
theorem Qw {S:PM} (h:WF S) (v:Nat):(kQ S v).1.outs.length<=S.outs.length+1:=by
 obtain⟨h1,h2,h3⟩:=ja h
 unfold kQ gv
 split
 ·rw[h3.outs];omega
 ·cases hf:fetch (kw S).1 with
  | none=>simp only;rw[h3.outs];omega
  | some i =>
   simp only
   rw[Xf]
   split
   ·rw[qd4,h3.outs];simp
   ·rw[h3.outs];omega
theorem fH:∀{l:List Nat} {S:PM},WF S->(∀v∈l,v<W64)->(vB S l).outs.length<=S.outs.length+l.length
 | [],S,h,_=>qcx _
 | v :: l,S,h,hv=>by
  have h1:=fH (l:=l) (Qv h (hv v (by simp))) fun x hx=>hv x (by simp[hx])
  have h2:=Qw h (dj (kw S).2 v)
  show (vB (vV S v) l).outs.length<=_
  rw[List.length_cons]
  have:(vV S v).outs.length<=S.outs.length+1:=h2
  omega
theorem Xg {S:PM} {l:List Nat} {i v:Nat} (h:l[i]?=some v):vB S (l.take (i+1))=vV (vB S (l.take i)) v:=by
 unfold vB
 rw[List.take_add_one,h,Option.toList_some,List.foldl_append];rfl
set_option maxHeartbeats 2000000 in
theorem Bo (n:Nat) {m:M} {P:Nat} {s:Mch} {g:Gh} {S:PM} (h:ML m P s g S) (hw:WF S) {lv:Value} {l:List Nat} (hl:Rd m lv 1 zG l) (hB:∀B,blk lv=some B->B ∉ own P s) (hv:∀v∈l,v<W64) (ho:(S.outs.length+l.length)*8<=most) :
  MuR (ex Tryz.prog (n+34)) 10 [mP P,lv] m P s g (vB S l) fun _=>True:=by
 suffices H:∃u m',(ex Tryz.prog (n+34)).f 10 [mP P,lv] m=some (u,m')/\∃s' g',Res m m' P s g s' g' (vB S l) by
  obtain⟨u,m',h1,s',g',h2⟩:=H
  exact⟨u,m',s',g',h1,h2,trivial⟩
 refine qA (Q:=fun u m'=>∃s' g',Res m m' P s g s' g' (vB S l)) da2_ok (by simp) ?_
 have hln:=hl.len
 have hlen:l.length<=9223372036854775807:=by unfold most at ho;omega
 simp
 refine qE (c:=ca2_9) rfl (zj _) (fun i t m'=>Tm.get 0 t=mP P/\Tm.get 1 t=lv/\Tm.get 4 t=iv i/\∃s' g',MX m m' (own P s) (Sh s g) P [] s' g' (vB S (l.take i))) l.length hlen
  ⟨by simp,by simp,by simp,s,g,h.mx⟩ (fun i t m' k hi hI hk=>?_)
 obtain⟨t0,t1,t4,s',g',hx⟩:=hI
 by_cases hil:i<l.length
 ·obtain⟨v,hvi⟩:∃v,l[i]?=some v:=⟨_,qcu hil⟩
  have hvl:=hv v (qcv hvi)
  have hd:((i:Int)<(l.length:Int))=True:=eq_true (by omega)
  have w1:IntKind.i64.wrap ((i:Int)+1)=((i+1:Nat):Int):=by rw[wrap64 _ (by omega) (by omega)];omega
  obtain⟨Si,hSi⟩:=qdi (vB S (l.take i))
  have hwi:WF Si:=by rw[hSi];exact Qu hw fun x hx=>hv x (List.mem_of_mem_take hx)
  have hoi:Si.outs.length<=S.outs.length+i:=by
   have:=fH (l:=l.take i) hw fun x hx=>hv x (List.mem_of_mem_take hx)
   rw[<-hSi,List.length_take]at this;omega
  rw[<-hSi]at hx
  obtain⟨v1,m1,s1,g1,a1,a2,rfl⟩:=Kd (n+1) hx.ml hwi
  have hx1:=(hx.call a2).row z6w
  obtain⟨w,hwd⟩:=qdi ((kw Si).2)
  rw[<-hwd]at a1
  obtain⟨m2,x1,hx2,x2⟩:=hx1.fill 0 rfl (n:=6) (l':=qo w) (by omega) rfl rfl (zD _)
  have x1':qD 6 (.pointer (some ⟨m1.n,0,none⟩)) (.agg ⟨qo w⟩) (Dx.newRow m1 [zI,zI,zI,zU,.bool false,.bool false])=some (undef,m2):=x1
  have l0:load1 m2 ⟨m1.n,0,none⟩=some (iv w.what):=(hx2.box (k:=0) rfl).2.load1 0 none
  have l4:load1 m2 ⟨m1.n,4,none⟩=some (.bool w.ex):=(hx2.box (k:=0) rfl).2.load1 4 none
  have hx2:=hx2.clear
  have hrd:Rd m2 lv 1 zG l:=hx2.ow.rd hl hB
  obtain⟨r1,r2⟩:=Rd.at1 (g:=fun (x:Nat)=>uv x) hrd hvi
  have r2':load1 m2 (adr 1 lv i)=some (uv v):=r2 m2 (Sees.refl hx2.mb)
  have hwn:=(ja hwi).2.1
  have hon:(kw Si).1.outs=Si.outs:=(ja hwi).2.2.outs
  have fin:∀{x:Nat},x=dj w v->∃u m3 s3 g3,(ex Tryz.prog (n+33)).f 23 [mP P,uv x] m2=some (u,m3)/\MX m m3 (own P s) (Sh s g) P [] s3 g3 (vB S (l.take (i+1))):=fun {x} hx'=>by
   obtain⟨u,m3,s3,g3,b1,b2,-⟩:=Fx n hx2.ml hwn (v:=x) (by rw[hx'];exact ZJ hvl) (by
    rw[hon]
    have:(Si.outs.length+1)<=S.outs.length+l.length:=by omega
    exact qd6 (qdd 8 this) ho)
   refine⟨u,m3,s3,g3,b1,?_⟩
   rw[Xg hvi,<-hSi]
   have:vV Si v=(kQ (kw Si).1 x).1:=by unfold vV;rw[<-hwd,<-hx',Yt hwi]
   rw[this]
   exact hx2.call b2
  by_cases h2:w.what=2
  ·rw[h2]at l0
   cases hex:w.ex with
   | true =>
    rw[hex]at l4
    have an:ku .and (uv v) (.int .u64 1)=some (uv (v % 2)):=by
     have:=JG (a:=v) (b:=1) hvl (by decide)
     rw[Nat.and_one_is_mod]at this;exact this
    obtain⟨u,m3,s3,g3,b1,hx3⟩:=fin (x:=v % 2) (by unfold dj;rw[if_pos ⟨h2,hex⟩])
    obtain⟨q,hq⟩:=qdi (v % 2)
    rw[<-hq]at an b1
    simp[t0,t1,t4,hln,hd,hil,a1,x1',l0,l4,r1,r2',an,b1,w1]
    exact hk hil _ _ ⟨by simp[t0],by simp[t1],by simp,s3,g3,hx3⟩
   | false =>
    rw[hex]at l4
    obtain⟨u,m3,s3,g3,b1,hx3⟩:=fin (x:=v) (by unfold dj;rw[if_neg (by rw[hex];simp)])
    simp[t0,t1,t4,hln,hd,hil,a1,x1',l0,l4,r1,r2',b1,w1]
    exact hk hil _ _ ⟨by simp[t0],by simp[t1],by simp,s3,g3,hx3⟩
  ·have h2':(w.what=2)=False:=eq_false h2
   obtain⟨u,m3,s3,g3,b1,hx3⟩:=fin (x:=v) (by unfold dj;rw[if_neg (fun h=>h2 h.1)])
   simp[t0,t1,t4,hln,hd,hil,a1,x1',l0,h2',r1,r2',b1,w1]
   exact hk hil _ _ ⟨by simp[t0],by simp[t1],by simp,s3,g3,hx3⟩
 ·obtain rfl:i=l.length:=by omega
  rw[List.take_length]at hx
  simp[t1,t4,hln]
  exact kX ⟨s',g',hx.res⟩
end Go.Sx
namespace Go.Sx
open Go.Dx Go.Proofs
set_option maxRecDepth 10000
def XM (S:PM):PM:={ xX S with sc:={ S.sc with st:=4 } }
def KV (k:PM->List Nat->List Bool->PM) (S1:PM) (w:Wnt) (rs:List Nat) (ws:List Bool):PM :=
 if w.what=2/\w.one=true then k (kQ S1 0).1 rs ws
 else if w.what=7\/w.what=6 then vm S1
 else if jl S1.sc=true then XM S1
 else if w.what=5 then vm S1
 else if w.what=1 then (match rs with
  | []=>vm S1
  | v :: rs'=>k (kQ S1 v).1 rs' ws)
 else if w.what=2/\w.ex=true then (match ws with
  | []=>vm S1
  | b :: ws'=>k (kQ S1 (if b then 1 else 0)).1 rs ws')
 else k (kQ S1 0).1 rs ws
def dP:Nat->PM->List Nat->List Bool->PM
 | 0,S,_,_=>S
 | k+1,S,rs,ws=>KV (dP k) (kw S).1 (kw S).2 rs ws
def newL (ws:List Nat) (fuel:Int):PM:=xN (Jd ws) 87 fuel
def xw (ws:List Nat) (rs:List Nat) (wins:List Bool) (fuel:Int):PM:=dP 200001 (newL ws fuel) rs wins
theorem qaw {ws:List Nat} (h:vl ws=0) (fuel:Int):WF (newL ws fuel):=by
 have k:=VF h
 exact⟨k.code,k.len,k.v,k.t,k.ft,k.way,dq rfl,k.ev,k.rmw,k.addr,k.data,k.ctrl,k.own,k.rd,k.us⟩
structure DnB (S:PM):Prop where
 dn:0<=S.sc.dn/\S.sc.dn<=S.sc.limit
 lim:S.sc.limit<=100000
def mu (S:PM):Int:=2*(S.sc.limit - S.sc.dn)+(if S.half=none then 0 else 1)
theorem QK:∀(k:Nat) (S:PM),DnB S->DnB (xp k S).1/\mu (xp k S).1<=mu S
 | 0,S,h=>⟨h,Int.le_refl _⟩
 | k+1,S,h=>by
  unfold xp
  cases hl:look S with
  | some w=>exact⟨h,Int.le_refl _⟩
  | none =>
   obtain⟨h1,i,h2,h3,h4,h5⟩:=bF hl
   have e:jP S=yL S i:=by unfold jP;rw[h2]
   have hs:=Zc S i
   have hd:=DR S i
   have hlt:S.sc.dn<S.sc.limit:=by
    unfold jl at h5
    simp at h5
    have:=h.dn;omega
   have hb:=h.dn
   have hli:=h.lim
   rw[wrap64 _ (by omega) (by omega)]at hd
   have k1:DnB (jP S):=by rw[e];exact⟨by rw[hd,hs.limit];omega,by rw[hs.limit];exact hli⟩
   obtain⟨a,b⟩:=QK k (jP S) k1
   refine⟨a,Int.le_trans b ?_⟩
   unfold mu
   rw[e,hd,hs.limit,hs.half,h1]
   simp only[if_true];omega
theorem vI (S:PM) (k x:Nat) (l:List Nat):(setRP S k x l).sc.dn=S.sc.dn/\(setRP S k x l).sc.limit=S.sc.limit:=⟨(kz _ _ _ _).dn,(kz _ _ _ _).limit⟩
theorem ZH (S:PM) (i:Ins) (w:Wnt) (v:Nat) (hh:w.what=2->w.one=true->S.half≠none):(zY S i w v).sc.limit=S.sc.limit/\(if w.what=2/\w.one=true then (zY S i w v).sc.dn=S.sc.dn/\(zY S i w v).half=none else (zY S i w v).sc.dn=IntKind.i64.wrap (S.sc.dn+1)):=by
 have ex1:∀(b:Nat) (T:PM),(exP w b T).sc.dn=T.sc.dn/\(exP w b T).sc.limit=T.sc.limit:=fun b T=>by unfold exP;split<;>exact⟨rfl,rfl⟩
 have go:∀T:PM,T.sc.dn=S.sc.dn->T.sc.limit=S.sc.limit->(xL T).sc.limit=S.sc.limit/\(xL T).sc.dn=IntKind.i64.wrap (S.sc.dn+1):=fun T h1 h2=>⟨h2,by show IntKind.i64.wrap (T.sc.dn+1)=_;rw[h1]⟩
 have bg:∀(T:PM) (b:Nat),(kH T i w v b).sc.dn=T.sc.dn/\(kH T i w v b).sc.limit=T.sc.limit:=fun T b=>by
  unfold kH
  simp only
  split
  ·exact vI _ _ _ _
  ·exact vI _ _ _ _
 have stp:∀(b:Nat),(storeP S i w v b).sc.dn=S.sc.dn/\(storeP S i w v b).sc.limit=S.sc.limit:=fun b=>by
  unfold storeP
  cases w.ex with
  | false=>exact⟨rfl,rfl⟩
  | true =>
   simp only[if_true]
   split
   ·exact vI _ _ _ _
   ·exact vI _ _ _ _
 unfold zY
 by_cases h1:w.what=1
 ·simp only[if_pos h1]
  rw[if_neg (show ¬(w.what=2/\w.one=true) from fun h=>by have:=h.1;omega)]
  split
  ·split
   ·exact⟨(bg _ _).2,rfl⟩
   ·exact go _ ((ex1 _ _).1.trans (bg _ _).1) ((ex1 _ _).2.trans (bg _ _).2)
  ·exact go _ ((ex1 _ _).1.trans (vI _ _ _ _).1) ((ex1 _ _).2.trans (vI _ _ _ _).2)
 by_cases h2:w.what=2
 ·simp only[if_neg h1,if_pos h2]
  by_cases ho:w.one=true
  ·rw[if_pos ho,if_pos ⟨h2,ho⟩]
   have:=hh h2 ho
   unfold bw
   cases hS:S.half with
   | none=>exact absurd hS this
   | some x=>exact⟨rfl,rfl,rfl⟩
  ·rw[if_neg ho,if_neg (fun h=>ho h.2)]
   exact go _ (stp _).1 (stp _).2
 have n21:¬(w.what=2/\w.one=true):=fun h=>h2 h.1
 by_cases h3:w.what=3
 ·simp only[if_neg h1,if_neg h2,if_pos h3,if_neg n21]
  exact go _ rfl rfl
 by_cases h4:w.what=4
 ·simp only[if_neg h1,if_neg h2,if_neg h3,if_pos h4,if_neg n21]
  exact go _ rfl rfl
 ·simp only[if_neg h1,if_neg h2,if_neg h3,if_neg h4,if_neg n21]
  exact go _ rfl rfl
theorem qaf {S:PM} (h:WF S) {w:Wnt} (hl:look S=some w) (hd:DnB S) {v:Nat} (h5:w.what<5) (hv:w.what=2->w.ex=true->v<=1) (hs:¬(w.what=2/\w.one=true)->jl S.sc=false) (hlim:0<=S.sc.limit) :
  DnB (kQ S v).1/\mu (kQ S v).1+1<=mu S:=by
 have hWO:=dU h hl
 obtain⟨i,hf⟩:=hWO.fetch h5
 have hn:(kQ S v).1=zY S i w v:=by
  unfold kQ
  rw[bE hl]
  unfold gv
  rw[if_neg (fun hc=>by
   rcases hc with hc | ⟨a,b,c⟩
   ·simp only at hc;omega
   ·have:=hv a b;omega)]
  simp only[hf]
 rw[hn]
 obtain⟨k1,k2⟩:=ZH S i w v (fun a b e=>by obtain⟨x,hx⟩:=hWO.one2 a b;rw[hx]at e;cases e)
 have hb:=hd.dn
 have hli:=hd.lim
 by_cases c:w.what=2/\w.one=true
 ·rw[if_pos c]at k2
  obtain⟨x,hx⟩:=hWO.one2 c.1 c.2
  refine⟨⟨by rw[k2.1,k1];exact hb,by rw[k1];exact hli⟩,?_⟩
  unfold mu
  rw[k2.1,k1,k2.2,hx]
  simp
 ·rw[if_neg c]at k2
  have hsp:=hs c
  unfold jl at hsp
  simp at hsp
  have hlt:=hsp hlim
  rw[wrap64 _ (by omega) (by omega)]at k2
  refine⟨⟨by rw[k2,k1];omega,by rw[k1];exact hli⟩,?_⟩
  unfold mu
  rw[k2,k1]
  have:∀o:Option Hf,(0:Int)<=(if o=none then 0 else 1)/\(if o=none then (0:Int) else 1)<=1:=fun o=>by split<;>omega
  have a:=this (zY S i w v).half
  have b:=this S.half
  omega
end Go.Sx
namespace Go.Sx
open Go.Dx Go.Proofs
set_option maxRecDepth 10000
abbrev VZ (b:Bool):List Value:=[.bool b]
def fZ (ws rs:List Nat) (wins:List Bool) (fuel:Int) (m:M) (v:Value) (m':M):Prop :=
 (vl ws≠0/\v=.tuple #[.agg ⟨z9⟩,iv (vl ws)]) \/
 (vl ws=0/\∃q,v=.tuple #[.agg ⟨qP q⟩,iv 0]/\RL m' q (xw ws rs wins fuel)/\Wc m.n q/\q.st=(xw ws rs wins fuel).sc.st/\q.lc=(xw ws rs wins fuel).sc.lc/\q.us=(xw ws rs wins fuel).sc.us)
section
variable {m0 m m':M} {W:List Nat} {Z:Nat->Prop} {P:Nat} {σ:List (Nat × List Value)} {s s':Mch} {g:Gh} {S S':PM}
theorem ML.mxB (h:ML m P s g S) {σ:List (Nat × List Value)} (hσ:∀p∈σ,p.1<m.n/\Arr m p.1 p.2/\p.1 ∉ own P s/\¬Sh s g p.1) (hn:(σ.map (·.1)).Nodup):MX m m (σ.map (·.1) ++ own P s) (Sh s g) P σ s g S:=by
 refine⟨Ow.start h.base (fun p hp=>?_) ?_,h.hp,h.sc,fun B hB=>.inl (List.mem_append_right _ (wG.2 (.inr hB))),fun B hB=>.inl hB,fun p hp=>⟨fun hL=>(hσ p hp).2.2.1 (wG.2 (.inr hL)),(hσ p hp).2.2.2⟩,List.mem_append_right _ (wG.2 (.inl rfl)),fun B hB=>?_⟩
 ·rcases qdh.1 hp with hp | hp
  ·exact⟨List.mem_append_left _ (List.mem_map.2 ⟨p,hp,rfl⟩),(hσ p hp).1,(hσ p hp).2.1⟩
  ·rw[qd1.1 hp]
   exact⟨List.mem_append_right _ (wG.2 (.inl rfl)),h.mat.lt,h.mat.arr⟩
 ·rw[List.map_append,List.nodup_append]
  refine⟨hn,by simp,fun a ha b hb=>?_⟩
  obtain⟨p,hp,rfl⟩:=List.mem_map.1 ha
  simp at hb
  subst hb
  exact fun e=>(hσ p hp).2.2.1 (wG.2 (.inl e))
 ·rcases qdh.1 hB with hB | hB
  ·obtain⟨p,hp,rfl⟩:=List.mem_map.1 hB
   exact (hσ p hp).1
  ·rcases wG.1 hB with rfl | hL
   ·exact h.mat.lt
   ·exact h.hp.ln hL
theorem MX.runBox (h:MX m0 m W Z P σ s g S) (n:Nat) (hw:WF S) (hz:Sz S) (k:Nat) {R:Nat} {l:List Value} (hk:σ[k]?=some (R,l)) (hl:l.length=9) (hR:R<m.n) :
  ∃q m5 m6,(ex Tryz.prog (n+33)).f 14 [mP P] m=some (.agg ⟨qP q⟩,m5)/\qD 9 (.pointer (some ⟨R,0,none⟩)) (.agg ⟨qP q⟩) m5=some (undef,m6)/\Mc m0 m6 W/\loads m6 ⟨R,0,none⟩ 9=some (qP q)/\RL m6 q (vm S)/\Wc m.n q/\q.st=(vm S).sc.st/\q.lc=(vm S).sc.lc/\q.us=S.sc.us:=by
 obtain⟨v5,m5,a1,a2,q,rfl,a3,a4,e1,e2,e3⟩:=Zm n h.ml hw hz
 have h5:=h.ext a2
 obtain⟨m6,b1,b2,b3⟩:=h5.fill k hk (n:=9) (l':=qP q) (by omega) hl rfl a3.ok
 obtain⟨hkl,-⟩:=qcw.1 hk
 have ob:∀X,X≠R->m6.obj X=m5.obj X:=by
  obtain⟨m6',c1,-,-,c3⟩:=h5.ow.storeN k (yN hk) (o:=0) (n:=9) (l':=qP q) (by omega) rfl (by omega) a3.ok
  rw[b1]at c1;cases c1;exact c3
 refine⟨q,m5,m6,a1,b1,b2.ow.mc,(b2.box (k:=k) (by rw[List.getElem?_set_self hkl])).2.loads (o:=0) (n:=9) (by simp[qP]),a3.kp (D:=[R]) (Kp.put b3 ob (by simp)) fun F hF B hB hc=>?_,a4,e1,e2,e3⟩
 have:=a4 F hF B hB
 simp at hc;omega
end
theorem ya {a b c:M} {W:List Nat} (h:Ext a b) (k:Mc b c W) (hW:∀B∈W,a.n<=B) (hb:a.base<=a.n):Ext a c:=h.mcx k hW hb
theorem bu_z9:wJ [zS,zS,zS,zS,zS,zS,zI,zI,zI] []=some (.agg ⟨z9⟩):=rfl
theorem JI {S:PM} (h:WF S) (ho:S.outs.length*8<=most):Sz S:=fun F hF=>by
 have hr:=h.rm
 have h0:=h.ev
 rcases six hF with rfl | rfl | rfl | rfl | rfl | rfl
 ·show (rowsOf S 0).length*40<=_;rw[zC];unfold most;omega
 ·show (rowsOf S 1).length*16<=_;rw[vG];have:=hr.rmw;unfold most;omega
 ·show (rowsOf S 2).length*16<=_;rw[yW];have:=hr.addr;unfold most;omega
 ·show (rowsOf S 3).length*16<=_;rw[yX];have:=hr.data;unfold most;omega
 ·show (rowsOf S 4).length*16<=_;rw[yY];have:=hr.ctrl;unfold most;omega
 ·show (rowsOf S 5).length*8<=_;rw[jY];exact ho
set_option maxHeartbeats 8000000 in
theorem Fz (n:Nat) {m:M} (hm:m.base<=m.n) {wl rl bl:Value} {ws rs:List Nat} {wins:List Bool} (hws:Rd m wl 1 jm ws) (hrs:Rd m rl 1 zG rs) (hbs:Rd m bl 1 VZ wins) (srl:Sp 1 rl) (sbl:Sp 1 bl) (hv:∀v∈rs,v<W64) {fuel:Int} (hf:0<=fuel/\fuel<=100000) :
  Dx.Call (ex Tryz.prog (n+35)) 16 [wl,rl,bl,iv fuel] m (fZ ws rs wins fuel m):=by
 refine qm da8_ok (by simp) ?_
 obtain⟨m0,hm0⟩:=qdi (Dx.newRow m z9)
 have hm0':Dx.newRow m [zS,zS,zS,zS,zS,zS,zI,zI,zI]=m0:=hm0.symm
 have E0:Ext m m0:=by rw[hm0];exact Ext.row _ _
 have n0:m0.n=m.n+1:=by rw[hm0,qv]
 have hS0:Sees m m0:=(Sees.refl hm).ext E0
 obtain⟨v1,m1,a1,a2,a3⟩:=XX (n+28) hS0.base (hws.sees hS0)
 have E1:=E0.trans a2
 have st1:=(((St.nil hm (Ext.refl m)).row z9))
 rw[<-hm0]at st1
 have st1:=st1.step a2
 rcases a3 with ⟨he,P,lv,rfl,hP,hml,hlv⟩ | ⟨he,rfl⟩
 rotate_left
 ·obtain⟨m2,b1,st2,-,-⟩:=st1.fill 0 rfl (n:=9) (l':=z9) rfl rfl (by simp[okC])
  have b2:=(st2.get 0 rfl).2.2.loads (o:=0) (n:=9) (s:=none) (by simp)
  have hne:(vl ws=0)=False:=eq_false he
  simp[hm0',a1,hne,bu_z9,b1]
  exact qR (a:=⟨m.n,0,none⟩) (by simp) b2 st2.ext (.inl ⟨he,by simp⟩)
 have f0:(fuel<0)=False:=eq_false (by omega)
 have f1:(100000<fuel)=False:=eq_false (by omega)
 have ownge:∀B∈own P (jM lv),m.n<B:=fun B hB=>by
  rcases wG.1 hB with rfl | hL
  ·omega
  ·exact absurd hL fQ
 have shge:∀B,Sh (jM lv) gh0 B->m.n<B:=fun B hB=>by have:=hlv B (KF hB);omega
 have hx1:=hml.mxB (σ:=[(m.n,z9)]) (by
  intro p hp
  rw[qd1.1 hp]
  exact⟨(st1.get 0 rfl).2.1,(st1.get 0 rfl).2.2,fun hc=>Nat.lt_irrefl _ (ownge _ hc),fun hc=>Nat.lt_irrefl _ (shge _ hc)⟩) (by simp)
 obtain⟨Wq,hWq⟩:=qdi (List.map (·.1) [(m.n,z9)] ++ own P (jM lv))
 rw[<-hWq]at hx1
 have hWge:∀B∈Wq,m.n<=B:=fun B hB=>by
  rw[hWq]at hB
  rcases qdh.1 hB with hB | hB
  ·simp at hB;omega
  ·have:=ownge B hB;omega
 obtain⟨m2,c1,hx2,c2⟩:=hx1.num (o:=87) (by decide) fuel
 have hx2:MX m1 m2 Wq (Sh (jM lv) gh0) P [(m.n,z9)] _ gh0 (newL ws fuel):=hx2
 have hE:(0:Int)=0:=rfl
 simp[hm0',a1,he,f0,f1,c1]
 have lt1:∀{u:Value} {e:Nat} {β:Type} {f:β->List Value} {es:List β},Rd m u e f es->∀B,blk u=some B->B<m.n:=fun h=>h.lt
 refine qE (c:=FR) rfl (Ret m _) (fun j t m'=>Tm.get 8 t=.pointer (some ⟨m.n,0,none⟩)/\Tm.get 10 t=mP P/\∃s' g' S' rl' bl' rs' ws',Tm.get 1 t=rl'/\Tm.get 2 t=bl'/\MX m1 m' Wq (Sh (jM lv) gh0) P [(m.n,z9)] s' g' S'/\WF S'/\DnB S'/\S'.sc.limit=fuel/\mu S'+j<=2*fuel/\S'.outs.length<=j /\
   Rd m rl' 1 zG rs'/\Rd m bl' 1 VZ ws'/\Sp 1 rl'/\Sp 1 bl'/\(∀v∈rs',v<W64)/\dP (200001 - j) S' rs' ws'=xw ws rs wins fuel) 200000 (by omega)
  ⟨by simp,by simp,_,_,newL ws fuel,rl,bl,rs,wins,by simp,by simp,hx2,qaw he fuel,⟨by show (0:Int)<=0/\(0:Int)<=fuel;omega,hf.2⟩,rfl,by show 2*(fuel - 0)+(if (none:Option Hf)=none then 0 else 1)+((0:Nat):Int)<=_;simp,Nat.zero_le _,hrs,hbs,srl,sbl,hv,rfl⟩ (fun j t m' k hj hI hk=>?_)
 obtain⟨t8,t10,s',g',S',rl',bl',rs',ws',t1,t2,hx,hwf,hdn,hlim,hmu,hou,hr',hb',sr',sb',hv',hrep⟩:=hI
 rw[show 200001 - j=(200000 - j)+1 by omega]at hrep
 obtain⟨v3,m3,s3,g3,d1,d2,rfl⟩:=Kd (n+2) hx.ml hwf
 obtain⟨hlk,hwn,hst⟩:=ja hwf
 obtain⟨hdn1,hmu1⟩:=QK 100001 S' hdn
 have hWO:=dU hwn hlk
 have hnn:=WM hwf
 obtain⟨S1,hS1⟩:=qdi ((kw S').1)
 obtain⟨w,hwd⟩:=qdi ((kw S').2)
 have hdn1:DnB S1:=by rw[hS1];exact hdn1
 have hmu1:mu S1<=mu S':=by rw[hS1];exact hmu1
 have hlim1:S1.sc.limit=fuel:=by rw[hS1,hst.limit,hlim]
 have hou1:S1.outs.length<=j:=by rw[hS1,hst.outs];exact hou
 rw[<-hwd]at d1 hlk hWO
 rw[<-hS1]at d2 hlk hwn hWO
 have hx3:=(hx.call d2).row z6w
 obtain⟨m4,x1,hx4,x2⟩:=hx3.fill 0 rfl (n:=6) (l':=qo w) (by omega) rfl rfl (zD _)
 have x1':qD 6 (.pointer (some ⟨m3.n,0,none⟩)) (.agg ⟨qo w⟩) (Dx.newRow m3 [zI,zI,zI,zU,.bool false,.bool false])=some (undef,m4):=x1
 have hx4:MX m1 m4 Wq (Sh (jM lv) gh0) P [(m3.n,qo w),(m.n,z9)] s3 g3 S1:=hx4
 have l0:load1 m4 ⟨m3.n,0,none⟩=some (iv w.what):=(hx4.box (k:=0) rfl).2.load1 0 none
 have l4:load1 m4 ⟨m3.n,4,none⟩=some (.bool w.ex):=(hx4.box (k:=0) rfl).2.load1 4 none
 have l5:load1 m4 ⟨m3.n,5,none⟩=some (.bool w.one):=(hx4.box (k:=0) rfl).2.load1 5 none
 have Em4:Ext m m4:=ya E1 hx4.ow.mc hWge hm
 have m4n:m.n<m4.n:=(hx4.box (k:=1) rfl).1
 have hsz:Sz S1:=JI hwn (by unfold most;omega)
 have fed:∀{mq:M} {σ:List (Nat × List Value)} {v:Nat} (hxq:MX m1 mq Wq (Sh (jM lv) gh0) P σ s3 g3 S1) (hσ:(m.n,z9)∈σ) (hvl:v<W64) (hv1:w.what=2->w.ex=true->v<=1) (h5:w.what<5) (hs:¬(w.what=2/\w.one=true)->jl S1.sc=false),
   ∃u m5 s5 g5,(ex Tryz.prog (n+34)).f 23 [mP P,uv v] mq=some (u,m5)/\MX m1 m5 Wq (Sh (jM lv) gh0) P [(m.n,z9)] s5 g5 (kQ S1 v).1/\j<200000/\WF (kQ S1 v).1/\DnB (kQ S1 v).1/\(kQ S1 v).1.sc.limit=fuel/\mu (kQ S1 v).1+((j+1:Nat):Int)<=2*fuel/\(kQ S1 v).1.outs.length<=j+1:=by
  intro mq σ v hxq hσ hvl hv1 h5 hs
  obtain⟨u,m5,s5,g5,e1,e2,-⟩:=Fx (n+1) hxq.ml hwn hvl (by unfold most;omega)
  obtain⟨q1,q2⟩:=qaf hwn hlk hdn1 h5 hv1 hs (by rw[hlim1];exact hf.1)
  have q3:0<=mu (kQ S1 v).1:=by
   unfold mu
   have:=q1.dn
   split<;>omega
  have q4:(kQ S1 v).1.sc.limit=fuel:=by
   rw[<-hlim1]
   obtain⟨i,hfi⟩:=hWO.fetch h5
   unfold kQ
   rw[bE hlk]
   unfold gv
   simp only[hfi]
   split
   ·rfl
   ·exact (ZH S1 i w v (fun a b e=>by obtain⟨x,hx⟩:=hWO.one2 a b;rw[hx]at e;cases e)).1
  refine⟨u,m5,s5,g5,e1,(hxq.call e2).drop (by simpa using hσ) ?_,by omega,ZI hwn hvl,q1,q4,by omega,?_⟩
  ·have:=hx.ow.nd;exact this
  ·have:=Qw hwn v;omega
 have fin:∀{t':Tm} {m6:M} {q:Mch} {T:PM},Tm.get 8 t'=.pointer (some ⟨m.n,0,none⟩)->Tm.get 9 t'=iv 0->xw ws rs wins fuel=T->Mc m1 m6 Wq->loads m6 ⟨m.n,0,none⟩ 9=some (qP q)->RL m6 q T->Wc m4.n q->q.st=T.sc.st->q.lc=T.sc.lc->q.us=T.sc.us->Ret m (fZ ws rs wins fuel m) (kD [.cell 8 9,.t 9] t' m6):=by
  intro t' m6 q T h8 h9 hT hmc hl hrl hnew e1 e2 e3
  refine qR (a:=⟨m.n,0,none⟩) h8 hl (ya E1 hmc hWge hm) (.inr ⟨he,q,by rw[h9],by rw[hT];exact hrl,fun F hF B hB=>by have:=hnew F hF B hB;omega,by rw[hT];exact e1,by rw[hT];exact e2,by rw[hT];exact e3⟩)
 have hrep':xw ws rs wins fuel=KV (dP (200000 - j)) S1 w rs' ws':=by rw[<-hrep,hS1,hwd];rfl
 have hsub:200000 - j=200001 - (j+1):=by omega
 obtain⟨q,m5,m6,r1,r2,r3,r4,r5,r6,r7,r8,r9⟩:=hx4.runBox (n+1) hwn hsz 1 rfl rfl m4n
 unfold KV at hrep'
 have endRun:xw ws rs wins fuel=vm S1->∀{t':Tm},Tm.get 8 t'=.pointer (some ⟨m.n,0,none⟩)->Tm.get 9 t'=iv 0->Ret m (fZ ws rs wins fuel m) (kD [.cell 8 9,.t 9] t' m6):=fun hT t' h8 h9=>fin h8 h9 hT r3 r4 r5 r6 r7 r8 r9
 by_cases h21:w.what=2/\w.one=true
 ·rw[if_pos h21]at hrep'
  obtain⟨u,m7,s5,g5,e1,e2,e3,e4,e5,e6,e7,e8⟩:=fed (v:=0) hx4 (by simp) (by decide) (fun _ _=>by omega) (by omega) (fun h=>absurd h21 h)
  have e1:(ex Tryz.prog (n+34)).f 23 [mP P,zU] m4=some (u,m7):=e1
  rw[h21.1]at l0
  rw[h21.2]at l5
  simp[t8,t10,d1,x1',l0,l5,e1]
  exact hk e3 _ _ ⟨by simp[t8],by simp[t10],s5,g5,_,rl',bl',rs',ws',by simp[t1],by simp[t2],e2,e4,e5,e6,e7,e8,hr',hb',sr',sb',hv',by rw[<-hsub];exact hrep'.symm⟩
 rw[if_neg h21]at hrep'
 by_cases h67:w.what=7\/w.what=6
 ·rw[if_pos h67]at hrep'
  rcases h67 with h | h
  ·rw[h]at l0
   simp[t8,t10,d1,x1',l0,r1,r2]
   exact endRun hrep' (by simp[t8]) (by simp)
  ·rw[h]at l0
   simp[t8,t10,d1,x1',l0,r1,r2]
   exact endRun hrep' (by simp[t8]) (by simp)
 rw[if_neg h67]at hrep'
 have n7:(w.what=7)=False:=eq_false fun h=>h67 (.inl h)
 have n6:(w.what=6)=False:=eq_false fun h=>h67 (.inr h)
 obtain⟨v8,m8,y1,y2,rfl⟩:=VT (n+33) hx4.mat
 rw[JA hx4.sc]at y1
 have hx8:=hx4.ext y2
 have k0:load1 m8 ⟨m3.n,0,none⟩=some (iv w.what):=(hx8.box (k:=0) rfl).2.load1 0 none
 have k4:load1 m8 ⟨m3.n,4,none⟩=some (.bool w.ex):=(hx8.box (k:=0) rfl).2.load1 4 none
 have one:w.what=2->w.one=false:=fun h2=>by
  cases ho:w.one with
  | false=>rfl
  | true=>exact absurd ⟨h2,ho⟩ h21
 cases hsp:jl S1.sc with
 | true =>
  rw[if_pos hsp]at hrep'
  rw[hsp]at y1
  have lr:=bR hx8.mat
  have hzp:Szp S1:=⟨hsz,by have:=hwn.rm.rmw;omega,by have:=hwn.rm.addr;omega,by have:=hwn.rm.data;omega,by have:=hwn.rm.ctrl;omega⟩
  obtain⟨v9,m9,z1,z2,q9,rfl,z3,z4,z5,z6,z7⟩:=Jz (n+4) hx8.mb hx8.hp.rl hzp
  have hx9:=(hx8.ext z2).row z9
  obtain⟨mA,p1,hxA,p2⟩:=hx9.fill 0 rfl (n:=9) (l':=qP q9) (by omega) rfl rfl z3.ok
  have p1':qD 9 (.pointer (some ⟨m9.n,0,none⟩)) (.agg ⟨qP q9⟩) (Dx.newRow m9 [zS,zS,zS,zS,zS,zS,zI,zI,zI])=some (undef,mA):=p1
  obtain⟨mB,o1,hxB,o2⟩:=hxA.put 0 rfl (o:=6) (v:=iv 4) (by simp[qP]) rfl
  obtain⟨Q,hQ⟩:∃Q:Mch,Q={ q9 with st:=4 }:=⟨_,rfl⟩
  have hxB:MX m1 mB Wq (Sh (jM lv) gh0) P [(m9.n,qP Q),(m3.n,qo w),(m.n,z9)] s3 g3 S1:=by rw[hQ];exact hxB
  have lB:loads mB ⟨m9.n,0,none⟩ 9=some (qP Q):=(hxB.box (k:=0) rfl).2.loads (o:=0) (n:=9) (by simp[qP])
  have o1:qD 1 (.pointer (some ⟨m9.n,6,none⟩)) (.int .i64 4) mA=some (undef,mB):=o1
  have lQ:∀F,lst Q F=lst q9 F:=fun F=>by rw[hQ];unfold lst;split<;>rfl
  have lt9:∀F,F<6->∀B,blk (lst q9 F)=some B->B<m9.n:=fun F hF B hB=>(z3.ls F hF).lt B hB
  have mAo:∀X,X≠m9.n->mA.obj X=(Dx.newRow m9 z9).obj X:=by
   obtain⟨m',c1,-,-,c3⟩:=hx9.ow.storeN 0 rfl (o:=0) (n:=9) (l':=qP q9) (by omega) rfl (by simp) z3.ok
   rw[p1]at c1;cases c1;exact c3
  have mBo:∀X,X≠m9.n->mB.obj X=mA.obj X:=by
   obtain⟨m',c1,-,-,c3⟩:=hxA.ow.store 0 rfl (o:=6) (v:=iv 4) (by simp[qP]) rfl
   have c1:qD 1 (.pointer (some ⟨m9.n,6,none⟩)) (.int .i64 4) mA=some (undef,m'):=c1
   rw[o1]at c1;cases c1;exact c3
  have rlB:RL mB q9 (xX S1):=(z3.ext (Ext.row m9 z9)).kp (D:=[m9.n]) ((Kp.put p2 mAo (by simp)).trans (Kp.put o2 mBo (by simp))) fun F hF B hB hc=>by have:=lt9 F hF B hB;simp at hc;omega
  have rlQ:RL mB Q (XM S1):=⟨fun F hF=>by rw[lQ];exact rlB.ls F hF,fun F G hF hG hne B hB=>by rw[lQ]at hB ⊢;exact rlB.dis F G hF hG hne B hB⟩
  have n98:m4.n<=m8.n:=y2.n
  obtain⟨mC,i1,hxC,i2⟩:=hxB.fill 2 rfl (n:=9) (l':=qP Q) (by omega) rfl rfl rlQ.ok
  have mCo:∀X,X≠m.n->mC.obj X=mB.obj X:=by
   obtain⟨m',c1,-,-,c3⟩:=hxB.ow.storeN 2 rfl (o:=0) (n:=9) (l':=qP Q) (by omega) rfl (by simp) rlQ.ok
   rw[i1]at c1;cases c1;exact c3
  have lC:=(hxC.box (k:=2) rfl).2.loads (o:=0) (n:=9) (s:=none) (by simp[qP])
  have rlC:RL mC Q (XM S1):=rlQ.kp (D:=[m.n]) (Kp.put i2 mCo (by simp)) fun F hF B hB hc=>by
   rw[lQ]at hB
   have:=z4 F hF B hB
   simp at hc;omega
  have s3e:q9.lc=S1.sc.lc:=by rw[z6,<-hx8.sc];rfl
  have s3u:q9.us=S1.sc.us:=by rw[z7,<-hx8.sc];rfl
  have fine:∀{t':Tm},Tm.get 8 t'=.pointer (some ⟨m.n,0,none⟩)->Tm.get 9 t'=iv 0->Ret m (fZ ws rs wins fuel m) (kD [.cell 8 9,.t 9] t' mC):=fun {t'} h8 h9 =>
   fin h8 h9 hrep' hxC.ow.mc lC rlC (fun F hF B hB=>by rw[lQ]at hB;have:=z4 F hF B hB;omega) (by rw[hQ];rfl) (by rw[hQ];exact s3e) (by rw[hQ];exact s3u)
  by_cases h2:w.what=2
  ·rw[h2]at l0
   rw[one h2]at l5
   simp[t8,t10,d1,x1',l0,l5,y1,qe,lr,z1,p1',o1,lB,i1]
   exact fine (by simp[t8]) (by simp)
  ·have n2:(w.what=2)=False:=eq_false h2
   simp[t8,t10,d1,x1',l0,n2,n6,n7,y1,qe,lr,z1,p1',o1,lB,i1]
   exact fine (by simp[t8]) (by simp)
 | false =>
  rw[if_neg (by rw[hsp];simp)]at hrep'
  rw[hsp]at y1
  have m8n:m.n<m8.n:=(hx8.box (k:=1) rfl).1
  obtain⟨q,mR,r1,r2,r3,r4,r5,r6,r7,r8,r9,r10⟩:=hx8.runBox (n+1) hwn hsz 1 rfl rfl m8n
  have n84:=y2.n
  have endRun:xw ws rs wins fuel=vm S1->∀{t':Tm},Tm.get 8 t'=.pointer (some ⟨m.n,0,none⟩)->Tm.get 9 t'=iv 0->Ret m (fZ ws rs wins fuel m) (kD [.cell 8 9,.t 9] t' r1):=fun hT t' h8 h9=>fin h8 h9 hT r4 r5 r6 (fun F hF B hB=>by have:=r7 F hF B hB;omega) r8 r9 r10
  have hwh:=hWO.what
  have h6:w.what≠6:=fun h=>h67 (.inr h)
  have h7:w.what≠7:=fun h=>h67 (.inl h)
  rcases (by omega:w.what=5\/w.what=1\/w.what=2\/w.what=3\/w.what=4) with hq | hq | hq | hq | hq
  ·rw[if_pos hq]at hrep'
   rw[hq]at l0 k0
   simp[t8,t10,d1,x1',l0,y1,k0,r2,r3]
   exact endRun hrep' (by simp[t8]) (by simp)
  ·rw[if_neg (by omega),if_pos hq]at hrep'
   rw[hq]at l0 k0
   have hE8:Ext m m8:=ya E1 hx8.ow.mc hWge hm
   have hr8:=hr'.sees ((Sees.refl hm).ext hE8)
   have ln:=hr8.len
   cases hrs':rs' with
   | nil =>
    rw[hrs']at hrep' ln
    have ln:zm rl'=some zI:=ln
    simp[t8,t10,t1,d1,x1',l0,y1,k0,ln,r2,r3]
    exact endRun hrep' (by simp[t8]) (by simp)
   | cons v rs2 =>
    rw[hrs']at hrep' ln hr' hr8 hv'
    have hvl:v<W64:=hv' v (by simp)
    have lz:(((v :: rs2).length:Int)=0)=False:=eq_false (by rw[List.length_cons];omega)
    obtain⟨L,hL⟩:=qdi ((v :: rs2).length)
    rw[<-hL]at ln lz
    have lz2:(L=0)=False:=eq_false (by rw[hL];simp)
    obtain⟨b1,b2⟩:=Rd.at1 (i:=0) (g:=fun (x:Nat)=>uv x) hr8 (r:=v) rfl
    have b2':load1 m8 (adr 1 rl' 0)=some (uv v):=b2 m8 (Sees.refl hx8.mb)
    have b1:je 1 rl' zI=some (.pointer (some (adr 1 rl' 0))):=b1
    obtain⟨sa,sn,sc,w1,w2,w3,w4⟩:=hr'.drop sr' (fun _=>rfl) (k:=1) (by simp)
    have w1:slV 1 (some (.int .i64 1)) none none rl'=some (.slice sa sn sc):=w1
    obtain⟨u,m7,s5,g5,e1,e2,e3,e4,e5,e6,e7,e8⟩:=fed (v:=v) hx8 (by simp) hvl (fun h=>by omega) (by omega) (fun _=>hsp)
    simp[t8,t10,t1,d1,x1',l0,y1,k0,ln,lz,lz2,b1,b2',yG,w1,e1]
    exact hk e3 _ _ ⟨by simp[t8],by simp[t10],s5,g5,_,_,bl',rs2,ws',by simp,by simp[t2],e2,e4,e5,e6,e7,e8,w2,hb',w3,sb',fun x hx=>hv' x (by simp[hx]),by rw[<-hsub];exact hrep'.symm⟩
  ·rw[if_neg (by omega),if_neg (by omega)]at hrep'
   rw[hq]at l0 k0
   rw[one hq]at l5
   cases hex:w.ex with
   | false =>
    rw[if_neg (by rw[hex];simp)]at hrep'
    rw[hex]at k4
    obtain⟨u,m7,s5,g5,e1,e2,e3,e4,e5,e6,e7,e8⟩:=fed (v:=0) hx8 (by simp) (by decide) (fun _ _=>by omega) (by omega) (fun _=>hsp)
    have e1:(ex Tryz.prog (n+34)).f 23 [mP P,zU] m8=some (u,m7):=e1
    simp[t8,t10,d1,x1',l0,l5,y1,k0,k4,e1]
    exact hk e3 _ _ ⟨by simp[t8],by simp[t10],s5,g5,_,rl',bl',rs',ws',by simp[t1],by simp[t2],e2,e4,e5,e6,e7,e8,hr',hb',sr',sb',hv',by rw[<-hsub];exact hrep'.symm⟩
   | true =>
    rw[if_pos ⟨hq,hex⟩]at hrep'
    rw[hex]at k4
    have hE8:Ext m m8:=ya E1 hx8.ow.mc hWge hm
    have hb8:=hb'.sees ((Sees.refl hm).ext hE8)
    have ln:=hb8.len
    cases hws':ws' with
    | nil =>
     rw[hws']at hrep' ln
     have ln:zm bl'=some zI:=ln
     simp[t8,t10,t2,d1,x1',l0,l5,y1,k0,k4,ln,r2,r3]
     exact endRun hrep' (by simp[t8]) (by simp)
    | cons b ws2 =>
     rw[hws']at hrep' ln hb' hb8
     have lz:(((b :: ws2).length:Int)=0)=False:=eq_false (by rw[List.length_cons];omega)
     obtain⟨L,hL⟩:=qdi ((b :: ws2).length)
     rw[<-hL]at ln lz
     have lz2:(L=0)=False:=eq_false (by rw[hL];simp)
     obtain⟨b1,b2⟩:=Rd.at1 (i:=0) (g:=fun (x:Bool)=>.bool x) hb8 (r:=b) rfl
     have b2':load1 m8 (adr 1 bl' 0)=some (.bool b):=b2 m8 (Sees.refl hx8.mb)
     have b1:je 1 bl' zI=some (.pointer (some (adr 1 bl' 0))):=b1
     obtain⟨sa,sn,sc,w1,w2,w3,w4⟩:=hb'.drop sb' (fun _=>rfl) (k:=1) (by simp)
     have w1:slV 1 (some (.int .i64 1)) none none bl'=some (.slice sa sn sc):=w1
     cases b with
     | true =>
      obtain⟨u,m7,s5,g5,e1,e2,e3,e4,e5,e6,e7,e8⟩:=fed (v:=1) hx8 (by simp) (by decide) (fun _ _=>by omega) (by omega) (fun _=>hsp)
      have e1:(ex Tryz.prog (n+34)).f 23 [mP P,.int .u64 1] m8=some (u,m7):=e1
      simp[t8,t10,t2,d1,x1',l0,l5,y1,k0,k4,ln,lz,lz2,b1,b2',yG,w1,e1]
      exact hk e3 _ _ ⟨by simp[t8],by simp[t10],s5,g5,_,rl',_,rs',ws2,by simp[t1],by simp,e2,e4,e5,e6,e7,e8,hr',w2,sr',w3,hv',by rw[<-hsub];exact hrep'.symm⟩
     | false =>
      obtain⟨u,m7,s5,g5,e1,e2,e3,e4,e5,e6,e7,e8⟩:=fed (v:=0) hx8 (by simp) (by decide) (fun _ _=>by omega) (by omega) (fun _=>hsp)
      have e1:(ex Tryz.prog (n+34)).f 23 [mP P,zU] m8=some (u,m7):=e1
      simp[t8,t10,t2,d1,x1',l0,l5,y1,k0,k4,ln,lz,lz2,b1,b2',yG,w1,e1]
      exact hk e3 _ _ ⟨by simp[t8],by simp[t10],s5,g5,_,rl',_,rs',ws2,by simp[t1],by simp,e2,e4,e5,e6,e7,e8,hr',w2,sr',w3,hv',by rw[<-hsub];exact hrep'.symm⟩
  all_goals
   rw[if_neg (by omega),if_neg (by omega),if_neg (by omega)]at hrep'
   rw[hq]at l0 k0
   obtain⟨u,m7,s5,g5,e1,e2,e3,e4,e5,e6,e7,e8⟩:=fed (v:=0) hx8 (by simp) (by decide) (fun _ _=>by omega) (by omega) (fun _=>hsp)
   have e1:(ex Tryz.prog (n+34)).f 23 [mP P,zU] m8=some (u,m7):=e1
   simp[t8,t10,d1,x1',l0,y1,k0,e1]
   exact hk e3 _ _ ⟨by simp[t8],by simp[t10],s5,g5,_,rl',bl',rs',ws',by simp[t1],by simp[t2],e2,e4,e5,e6,e7,e8,hr',hb',sr',sb',hv',by rw[<-hsub];exact hrep'.symm⟩
end Go.Sx
namespace Go.Sx
open Go.Dx Go.Proofs
set_option maxRecDepth 10000
theorem bN {α β:Type} {m:M} {v:Value} {e:Nat} {f:β->List Value} {g:α->β} {l:List α} (h:Rd m v e f (l.map g)):Rd m v e (fun x=>f (g x)) l :=
 ⟨by have:=h.len;rwa [List.length_map]at this,fun i r hr=>h.row i (g r) (by rw[qda,hr];rfl),by have:=h.all;rw[List.length_map,List.flatMap_map]at this;exact this,h.lt⟩
theorem RL.rdF {m:M} {s:Mch} {S:PM} (h:RL m s S) {F:Nat} (hF:F<6):Rd m (lst s F) (esz F) wD (rowsOf S F):=Grown.rd wU (h.ls F hF)
theorem RL.rdEv {m:M} {s:Mch} {S:PM} (h:RL m s S):Rd m s.ev 5 zJ S.ev:=bN (f:=wD) (g:=evR) (h.rdF (F:=0) (by omega))
theorem RL.rdOuts {m:M} {s:Mch} {S:PM} (h:RL m s S):Rd m s.outs 1 zG S.outs:=bN (f:=wD) (g:=wdR) (h.rdF (F:=5) (by omega))
theorem RL.rdRmw {m:M} {s:Mch} {S:PM} (h:RL m s S):Rd m s.rmw 2 qf S.rmw:=bN (f:=wD) (g:=prR) (h.rdF (F:=1) (by omega))
theorem RL.rdAddr {m:M} {s:Mch} {S:PM} (h:RL m s S):Rd m s.addr 2 qf S.addr:=bN (f:=wD) (g:=prR) (h.rdF (F:=2) (by omega))
theorem RL.rdData {m:M} {s:Mch} {S:PM} (h:RL m s S):Rd m s.data 2 qf S.data:=bN (f:=wD) (g:=prR) (h.rdF (F:=3) (by omega))
theorem RL.rdCtrl {m:M} {s:Mch} {S:PM} (h:RL m s S):Rd m s.ctrl 2 qf S.ctrl:=bN (f:=wD) (g:=prR) (h.rdF (F:=4) (by omega))
theorem qae (x:Nat × Nat):zg [1,1] (qf x) (qf x)=some true:=by
 unfold qf;rw[jx,jx,Qs]
theorem eq_evR (x:EvR):zg [1,1,1,1,1] (zJ x) (zJ x)=some true:=by
 unfold zJ;rw[jx,jx,jx,jx,jx,Qs]
theorem Kx (n:Nat) {m:M} (hm:m.base<=m.n) {a b:Value} {l:List (Nat × Nat)} (ha:Rd m a 2 qf l) (hb:Rd m b 2 qf l) (hl:l.length<=9000000000000000000):CallV (ex Tryz.prog (n+1)) 26 [a,b] m (.bool true):=by
 refine qm db4_ok (by simp) ?_
 have la:=ha.len
 have lb:=hb.len
 simp[la,lb]
 refine qE (c:=FV) rfl (Ret m _) (fun i t m'=>Tm.get 0 t=a/\Tm.get 1 t=b/\Tm.get 5 t=iv i/\m'=m) l.length (by omega)
  ⟨by simp,by simp,by simp,rfl⟩ (fun i t m' k hi hI hk=>?_)
 obtain⟨t0,t1,t5,rfl⟩:=hI
 by_cases hil:i<l.length
 ·have d1:((i:Int)<(l.length:Int))=True:=eq_true (by omega)
  have w1:=qZ (i:=i) (by omega)
  obtain⟨x,hx⟩:∃x,l[i]?=some x:=⟨_,qcu hil⟩
  obtain⟨a1,a2,-⟩:=ha.at hx
  obtain⟨b1,b2,-⟩:=hb.at hx
  have a2':=a2 m' (Sees.refl hm)
  have b2':=b2 m' (Sees.refl hm)
  have q:=qae x
  simp[t0,t1,t5,la,d1,hil,a1,b1,a2',b2',qe,q,w1]
  exact hk hil _ _ ⟨by simp[t0],by simp[t1],by simp,rfl⟩
 ·obtain rfl:i=l.length:=by omega
  simp[t0,t5,la]
  exact qN (Ext.refl _) (by simp)
structure SameRun (A B:PM):Prop where
 ev:A.ev=B.ev
 outs:A.outs=B.outs
 rmw:A.rmw=B.rmw
 addr:A.addr=B.addr
 data:A.data=B.data
 ctrl:A.ctrl=B.ctrl
theorem SameRun.refl (A:PM):SameRun A A:=⟨rfl,rfl,rfl,rfl,rfl,rfl⟩
set_option maxHeartbeats 2000000 in
theorem DK (n:Nat) {m:M} (hm:m.base<=m.n) {a b:Mch} {A B:PM} (ha:RL m a A) (hb:RL m b B) (h:SameRun A B) (hst:a.st=b.st) (hlc:a.lc=b.lc) (hus:a.us=b.us) (hz:Szp A) :
  CallV (ex Tryz.prog (n+2)) 13 [.agg ⟨qP a⟩,.agg ⟨qP b⟩] m (.bool true):=by
 refine qm da5_ok (by simp) ?_
 have st:=((St.nil hm (Ext.refl m)).row (qP a)).row (qP b)
 obtain⟨m0,hm0⟩:=qdi (Dx.newRow m (qP a))
 have hb1:kC (.agg ⟨qP a⟩) m=some (.pointer (some ⟨m.n,0,none⟩),m0):=by rw[hm0];rfl
 rw[<-hm0]at st
 obtain⟨m1,hm1⟩:=qdi (Dx.newRow m0 (qP b))
 have hb2:kC (.agg ⟨qP b⟩) m0=some (.pointer (some ⟨m0.n,0,none⟩),m1):=by rw[hm1];rfl
 rw[<-hm1]at st
 have la:∀o,load1 m1 ⟨m.n,o,none⟩=(qP a)[o]?:=fun o=>(st.get 1 rfl).2.2.load1 o none
 have lb:∀o,load1 m1 ⟨m0.n,o,none⟩=(qP b)[o]?:=fun o=>(st.get 0 rfl).2.2.load1 o none
 have E:=st.ext
 have ra:=ha.ext E
 have rb:=hb.ext E
 have a0:load1 m1 ⟨m.n,0,none⟩=some a.ev:=la 0
 have a1:load1 m1 ⟨m.n,1,none⟩=some a.rmw:=la 1
 have a2:load1 m1 ⟨m.n,2,none⟩=some a.addr:=la 2
 have a3:load1 m1 ⟨m.n,3,none⟩=some a.data:=la 3
 have a4:load1 m1 ⟨m.n,4,none⟩=some a.ctrl:=la 4
 have a5:load1 m1 ⟨m.n,5,none⟩=some a.outs:=la 5
 have a6:load1 m1 ⟨m.n,6,none⟩=some (iv a.st):=la 6
 have a7:load1 m1 ⟨m.n,7,none⟩=some (iv a.lc):=la 7
 have a8:load1 m1 ⟨m.n,8,none⟩=some (iv a.us):=la 8
 have b0:load1 m1 ⟨m0.n,0,none⟩=some b.ev:=lb 0
 have b1:load1 m1 ⟨m0.n,1,none⟩=some b.rmw:=lb 1
 have b2:load1 m1 ⟨m0.n,2,none⟩=some b.addr:=lb 2
 have b3:load1 m1 ⟨m0.n,3,none⟩=some b.data:=lb 3
 have b4:load1 m1 ⟨m0.n,4,none⟩=some b.ctrl:=lb 4
 have b5:load1 m1 ⟨m0.n,5,none⟩=some b.outs:=lb 5
 have b6:load1 m1 ⟨m0.n,6,none⟩=some (iv a.st):=by rw[hst];exact lb 6
 have b7:load1 m1 ⟨m0.n,7,none⟩=some (iv a.lc):=by rw[hlc];exact lb 7
 have b8:load1 m1 ⟨m0.n,8,none⟩=some (iv a.us):=by rw[hus];exact lb 8
 have rea:=ra.rdEv
 have reb:=rb.rdEv
 rw[<-h.ev]at reb
 have roa:=ra.rdOuts
 have rob:=rb.rdOuts
 rw[<-h.outs]at rob
 have lea:=rea.len
 have leb:=reb.len
 have loa:=roa.len
 have lob:=rob.len
 have hle:A.ev.length*40<=most:=by have:=hz.sz 0 (by omega);rw[zC]at this;exact this
 have hlo:A.outs.length*8<=most:=by have:=hz.sz 5 (by omega);rw[jY]at this;exact this
 have hle:A.ev.length<=9000000000000000000:=by unfold most at hle;omega
 have hlo:A.outs.length<=9000000000000000000:=by unfold most at hlo;omega
 simp[hb1,hb2,a0,b0,a5,b5,a6,b6,a7,b7,a8,b8,lea,leb,loa,lob]
 refine qE (c:=FN) rfl (Ret m _) (fun i t m'=>Tm.get 2 t=.pointer (some ⟨m.n,0,none⟩)/\Tm.get 3 t=.pointer (some ⟨m0.n,0,none⟩)/\Tm.get 5 t=iv i/\m'=m1) A.ev.length (by omega)
  ⟨by simp,by simp,by simp,rfl⟩ (fun i t m' k hi hI hk=>?_)
 obtain⟨t2,t3,t5,rfl⟩:=hI
 have hs1:=st.sees.base
 by_cases hil:i<A.ev.length
 ·have d1:((i:Int)<(A.ev.length:Int))=True:=eq_true (by omega)
  have w1:=qZ (i:=i) (by omega)
  obtain⟨x,hx⟩:∃x,A.ev[i]?=some x:=⟨_,qcu hil⟩
  obtain⟨x1,x2,-⟩:=rea.at hx
  obtain⟨y1,y2,-⟩:=reb.at hx
  have x2':=x2 m' (Sees.refl hs1)
  have y2':=y2 m' (Sees.refl hs1)
  have q:=eq_evR x
  simp[t2,t3,t5,a0,b0,lea,d1,hil,x1,y1,x2',y2',qe,q,w1]
  exact hk hil _ _ ⟨by simp[t2],by simp[t3],by simp,rfl⟩
 obtain rfl:i=A.ev.length:=by omega
 simp[t2,t3,t5,a0,lea]
 refine qE (c:=FO) rfl (Ret m _) (fun i t mm=>Tm.get 2 t=.pointer (some ⟨m.n,0,none⟩)/\Tm.get 3 t=.pointer (some ⟨m0.n,0,none⟩)/\Tm.get 6 t=iv i/\mm=m') A.outs.length (by omega)
  ⟨by simp[t2],by simp[t3],by simp,rfl⟩ (fun i t mm k hi hI hk=>?_)
 obtain⟨t2,t3,t6,rfl⟩:=hI
 by_cases hil:i<A.outs.length
 ·have d1:((i:Int)<(A.outs.length:Int))=True:=eq_true (by omega)
  have w1:=qZ (i:=i) (by omega)
  obtain⟨x,hx⟩:∃x,A.outs[i]?=some x:=⟨_,qcu hil⟩
  obtain⟨x1,x2⟩:=Rd.at1 (g:=fun (x:Nat)=>uv x) roa hx
  obtain⟨y1,y2⟩:=Rd.at1 (g:=fun (x:Nat)=>uv x) rob hx
  have x2':load1 mm (adr 1 a.outs i)=some (uv x):=x2 mm (Sees.refl hs1)
  have y2':load1 mm (adr 1 b.outs i)=some (uv x):=y2 mm (Sees.refl hs1)
  simp[t2,t3,t6,a5,b5,loa,d1,hil,x1,y1,x2',y2',w1]
  exact hk hil _ _ ⟨by simp[t2],by simp[t3],by simp,rfl⟩
 obtain rfl:i=A.outs.length:=by omega
 have rma:=ra.rdRmw
 have rmb:=rb.rdRmw
 have rda:=ra.rdAddr
 have rdb:=rb.rdAddr
 have rta:=ra.rdData
 have rtb:=rb.rdData
 have rca:=ra.rdCtrl
 have rcb:=rb.rdCtrl
 rw[<-h.rmw]at rmb
 rw[<-h.addr]at rdb
 rw[<-h.data]at rtb
 rw[<-h.ctrl]at rcb
 obtain⟨u1,n1,f1,g1,rfl⟩:=Kx n hs1 rma rmb (by have:=hz.rmw;omega)
 have S1:=st.step g1
 have k2:load1 n1 ⟨m.n,2,none⟩=some a.addr:=(S1.get 1 rfl).2.2.load1 2 none
 have k2':load1 n1 ⟨m0.n,2,none⟩=some b.addr:=(S1.get 0 rfl).2.2.load1 2 none
 obtain⟨u2,n2,f2,g2,rfl⟩:=Kx n S1.sees.base (rda.sees ((Sees.refl hs1).ext g1)) (rdb.sees ((Sees.refl hs1).ext g1)) (by have:=hz.addr;omega)
 have S2:=S1.step g2
 have g12:=g1.trans g2
 have k3:load1 n2 ⟨m.n,3,none⟩=some a.data:=(S2.get 1 rfl).2.2.load1 3 none
 have k3':load1 n2 ⟨m0.n,3,none⟩=some b.data:=(S2.get 0 rfl).2.2.load1 3 none
 obtain⟨u3,n3,f3,g3,rfl⟩:=Kx n S2.sees.base (rta.sees ((Sees.refl hs1).ext g12)) (rtb.sees ((Sees.refl hs1).ext g12)) (by have:=hz.data;omega)
 have S3:=S2.step g3
 have g123:=g12.trans g3
 have k4:load1 n3 ⟨m.n,4,none⟩=some a.ctrl:=(S3.get 1 rfl).2.2.load1 4 none
 have k4':load1 n3 ⟨m0.n,4,none⟩=some b.ctrl:=(S3.get 0 rfl).2.2.load1 4 none
 obtain⟨u4,n4,f4,g4,rfl⟩:=Kx n S3.sees.base (rca.sees ((Sees.refl hs1).ext g123)) (rcb.sees ((Sees.refl hs1).ext g123)) (by have:=hz.ctrl;omega)
 have S4:=S3.step g4
 simp[t2,t3,t6,a5,loa,a1,b1,f1,k2,k2',f2,k3,k3',f3,k4,k4',f4]
 exact qN S4.ext (by simp)
end Go.Sx
namespace Go.Sx
open Go.Dx Go.Proofs
set_option maxRecDepth 10000
theorem ln0:zm zc=some zI:=rfl
theorem DD (n:Nat) (m:M):CallV (ex Tryz.prog (n+1)) 72 [zc] m zc:=by
 refine qm df5_ok (by simp) ?_
 simp
 refine qE (c:=Gj) rfl (Ret m _) (fun i t m'=>Tm.get 0 t=zc/\Tm.get 3 t=zc/\Tm.get 4 t=iv 0/\m'=m) 0 (by omega) ⟨by simp,by simp,by simp,rfl⟩ (fun i t m' k hi hI hk=>?_)
 obtain⟨t0,t3,t4,rfl⟩:=hI
 simp[t0,t3,t4,ln0]
 exact qN (Ext.refl _) (by simp[t3])
theorem dN (n:Nat) (m:M):CallV (ex Tryz.prog (n+2)) 56 [zc,zc] m (.bool true):=by
 refine qm de2_ok (by simp) ?_
 obtain⟨v1,m1,a1,a2,rfl⟩:=DD n m
 simp[a1,ln0]
 refine qE (c:=Gc) rfl (Ret m _) (fun i t m'=>Tm.get 0 t=zc/\Tm.get 6 t=iv 0/\m'=m1) 0 (by omega) ⟨by simp,by simp,rfl⟩ (fun i t m' k hi hI hk=>?_)
 obtain⟨t0,t6,rfl⟩:=hI
 simp[t0,t6,ln0]
 exact qN a2 (by simp)
def zM:List Value:=[zS,zI,zU,zS,zU,zS,zU,zS,zU,zS,zU,zS,zU,zS,zU,zS,zU,zS,zU,zS,zU,zS,zU,zS,zU,zS,zU,zS,zU,zS,zU,zS,zU,zS,zU,zS,zU,zS,zU,zS,zU,zS,zU,zS,zU,zS,zU,zS,zU,zS,zU,zS,zU,zS,zU,zS,zU,zS,zU,zS,zU,zS,zU,zS,zU,zS,.bool false,.bool false,.bool false,.bool false,zS,zS,.bool false,zI,zI,zI,zI,zI,zS,zS,zS,zS,zS,zS,zI,.bool false,zI,zI,zI,zU,.bool false,.bool false,zS,zS,zI]
set_option maxHeartbeats 1000000 in
theorem told_0 (n:Nat) {m:M} (hm:m.base<=m.n):CallV (ex Tryz.prog (n+3)) 32 [.agg ⟨z9⟩,.agg ⟨zM⟩,iv 0,iv 0] m (.bool true):=by
 refine qm dc0_ok (by simp) ?_
 have st:=((St.nil hm (Ext.refl m)).row z9).row zM
 obtain⟨m0,hm0⟩:=qdi (Dx.newRow m z9)
 have hb1:kC (.agg ⟨z9⟩) m=some (.pointer (some ⟨m.n,0,none⟩),m0):=by rw[hm0];rfl
 have hb1:kC (.agg ⟨[zS,zS,zS,zS,zS,zS,zI,zI,zI]⟩) m=some (.pointer (some ⟨m.n,0,none⟩),m0):=hb1
 rw[<-hm0]at st
 obtain⟨m1,hm1⟩:=qdi (Dx.newRow m0 zM)
 have hb2:kC (.agg ⟨zM⟩) m0=some (.pointer (some ⟨m0.n,0,none⟩),m1):=by rw[hm1];rfl
 rw[<-hm1]at st
 have la:∀{mq:M},St m mq [(m0.n,zM),(m.n,z9)]->∀o,load1 mq ⟨m.n,o,none⟩=z9[o]?:=fun st o=>(st.get 1 rfl).2.2.load1 o none
 have lb:∀{mq:M},St m mq [(m0.n,zM),(m.n,z9)]->∀o,load1 mq ⟨m0.n,o,none⟩=zM[o]?:=fun st o=>(st.get 0 rfl).2.2.load1 o none
 have a0:load1 m1 ⟨m.n,0,none⟩=some zS:=la st 0
 have a5:load1 m1 ⟨m.n,5,none⟩=some zS:=la st 5
 have a6:load1 m1 ⟨m.n,6,none⟩=some zI:=la st 6
 have a7:load1 m1 ⟨m.n,7,none⟩=some zI:=la st 7
 have a8:load1 m1 ⟨m.n,8,none⟩=some zI:=la st 8
 have b78:load1 m1 ⟨m0.n,78,none⟩=some zS:=lb st 78
 have b83:load1 m1 ⟨m0.n,83,none⟩=some zS:=lb st 83
 have b84:load1 m1 ⟨m0.n,84,none⟩=some zI:=lb st 84
 have a1:load1 m1 ⟨m.n,1,none⟩=some zS:=la st 1
 have b79:load1 m1 ⟨m0.n,79,none⟩=some zS:=lb st 79
 obtain⟨u1,n1,f1,g1,rfl⟩:=dN n m1
 have S1:=st.step g1
 obtain⟨u2,n2,f2,g2,rfl⟩:=dN n n1
 have S2:=S1.step g2
 obtain⟨u3,n3,f3,g3,rfl⟩:=dN n n2
 have S3:=S2.step g3
 obtain⟨u4,n4,f4,g4,rfl⟩:=dN n n3
 have S4:=S3.step g4
 have c2:load1 n1 ⟨m.n,2,none⟩=some zS:=la S1 2
 have d80:load1 n1 ⟨m0.n,80,none⟩=some zS:=lb S1 80
 have c3:load1 n2 ⟨m.n,3,none⟩=some zS:=la S2 3
 have d81:load1 n2 ⟨m0.n,81,none⟩=some zS:=lb S2 81
 have c4:load1 n3 ⟨m.n,4,none⟩=some zS:=la S3 4
 have d82:load1 n3 ⟨m0.n,82,none⟩=some zS:=lb S3 82
 have f1:(ex Tryz.prog (n+2)).f 56 [zS,zS] m1=some (.bool true,n1):=f1
 have f2:(ex Tryz.prog (n+2)).f 56 [zS,zS] n1=some (.bool true,n2):=f2
 have f3:(ex Tryz.prog (n+2)).f 56 [zS,zS] n2=some (.bool true,n3):=f3
 have f4:(ex Tryz.prog (n+2)).f 56 [zS,zS] n3=some (.bool true,n4):=f4
 simp[hb1,hb2,a0,a5,a6,a7,a8,b78,b83,b84,ln0]
 refine qE (c:=FW) rfl (Ret m _) (fun i t m'=>Tm.get 4 t=.pointer (some ⟨m.n,0,none⟩)/\Tm.get 5 t=.pointer (some ⟨m0.n,0,none⟩)/\Tm.get 9 t=iv 0/\m'=m1) 0 (by omega) ⟨by simp,by simp,by simp,rfl⟩ (fun i t m' k hi hI hk=>?_)
 obtain⟨t4,t5,t9,rfl⟩:=hI
 simp[t4,t5,t9,a0,ln0]
 refine qE (c:=FX) rfl (Ret m _) (fun i t mm=>Tm.get 4 t=.pointer (some ⟨m.n,0,none⟩)/\Tm.get 5 t=.pointer (some ⟨m0.n,0,none⟩)/\Tm.get 11 t=iv 0/\mm=m') 0 (by omega) ⟨by simp[t4],by simp[t5],by simp,rfl⟩ (fun i t mm k hi hI hk=>?_)
 obtain⟨t4,t5,t11,rfl⟩:=hI
 simp[t4,t5,t11,a5,ln0,a1,b79,f1,c2,d80,f2,c3,d81,f3,c4,d82,f4]
 exact qN S4.ext (by simp)
theorem qab (n:Nat) {m:M} (hm:m.base<=m.n):CallV (ex Tryz.prog (n+4)) 17 [.agg ⟨z9⟩] m (.bool true):=by
 refine qm da9_ok (by simp) ?_
 have st:=(St.nil hm (Ext.refl m)).row z9
 obtain⟨m0,hm0⟩:=qdi (Dx.newRow m z9)
 have hb1:kC (.agg ⟨z9⟩) m=some (.pointer (some ⟨m.n,0,none⟩),m0):=by rw[hm0];rfl
 have hb1:kC (.agg ⟨[zS,zS,zS,zS,zS,zS,zI,zI,zI]⟩) m=some (.pointer (some ⟨m.n,0,none⟩),m0):=hb1
 rw[<-hm0]at st
 have l9:loads m0 ⟨m.n,0,none⟩ 9=some z9:=(st.get 0 rfl).2.2.loads (o:=0) (n:=9) (by simp)
 have bu:wJ [zS,zI,zU,zS,zU,zS,zU,zS,zU,zS,zU,zS,zU,zS,zU,zS,zU,zS,zU,zS,zU,zS,zU,zS,zU,zS,zU,zS,zU,zS,zU,zS,zU,zS,zU,zS,zU,zS,zU,zS,zU,zS,zU,zS,zU,zS,zU,zS,zU,zS,zU,zS,zU,zS,zU,zS,zU,zS,zU,zS,zU,zS,zU,zS,zU,zS,.bool false,.bool false,.bool false,.bool false,zS,zS,.bool false,zI,zI,zI,zI,zI,zS,zS,zS,zS,zS,zS,zI,.bool false,zI,zI,zI,zU,.bool false,.bool false,zS,zS,zI] []=some (.agg ⟨zM⟩):=rfl
 obtain⟨u,m1,a1,a2,rfl⟩:=told_0 n st.sees.base
 have a1:(ex Tryz.prog (n+3)).f 32 [.agg ⟨z9⟩,.agg ⟨zM⟩,zI,zI] m0=some (.bool true,m1):=a1
 simp[hb1,qe,l9,bu,a1]
 exact qN (st.ext.trans a2) (by simp)
end Go.Sx
namespace Go.Sx
open Go.Dx Go.Proofs
set_option maxRecDepth 10000
structure Pre (A B:PM):Prop where
 ev:A.ev <+: B.ev
 outs:A.outs <+: B.outs
 us:A.sc.us<=B.sc.us
theorem Pre.refl (A:PM):Pre A A:=⟨List.prefix_rfl,List.prefix_rfl,Int.le_refl _⟩
theorem Pre.trans {A B C:PM} (h:Pre A B) (k:Pre B C):Pre A C:=⟨h.ev.trans k.ev,h.outs.trans k.outs,Int.le_trans h.us k.us⟩
theorem Pre.of {A B:PM} (h1:B.ev=A.ev) (h2:B.outs=A.outs) (h3:B.sc.us=A.sc.us):Pre A B:=⟨by rw[h1];exact List.prefix_rfl,by rw[h2];exact List.prefix_rfl,by rw[h3];exact Int.le_refl _⟩
structure Eqv (A B:PM):Prop where
 ev:B.ev=A.ev
 outs:B.outs=A.outs
 us:B.sc.us=A.sc.us
theorem Eqv.pre {A B:PM} (h:Eqv A B):Pre A B:=.of h.ev h.outs h.us
theorem Eqv.trans {A B C:PM} (h:Eqv A B) (k:Eqv B C):Eqv A C:=⟨k.ev.trans h.ev,k.outs.trans h.outs,k.us.trans h.us⟩
end Go.Sx
namespace Go.Sx
open Go.Dx Go.Proofs
set_option maxRecDepth 10000
end Go.Sx
namespace Go.Sx
open Go.Dx Go.Proofs
set_option maxRecDepth 10000
def DnI (L:Int) (S:PM):Prop:=DnB S/\S.sc.limit=L/\mu S+S.outs.length<=2*L
theorem DnI.step {L:Int} {S:PM} (h:WF S) (k:DnI L S):DnI L (kw S).1:=by
 obtain⟨a,b⟩:=QK 100001 S k.1
 have hs:=(ja h).2.2
 have b:mu (kw S).1<=mu S:=b
 have c:=k.2.2
 exact⟨a,by rw[hs.limit];exact k.2.1,by rw[hs.outs];omega⟩
theorem DN (l:List (Nat × Nat)):(gX l).length=l.length:=(xS toP l).1.length_eq
theorem szp_of {S:PM} (h1:S.ev.length<=256) (h2:S.rmw.length<=100000) (h3:S.addr.length<=100000) (h4:S.data.length<=100000) (h5:S.ctrl.length<=100000) (h6:S.outs.length*8<=most):Szp S :=
 ⟨fun F hF=>by
  rcases six hF with rfl | rfl | rfl | rfl | rfl | rfl
  ·show (rowsOf S 0).length*40<=_;rw[zC];unfold most;omega
  ·show (rowsOf S 1).length*16<=_;rw[vG];unfold most;omega
  ·show (rowsOf S 2).length*16<=_;rw[yW];unfold most;omega
  ·show (rowsOf S 3).length*16<=_;rw[yX];unfold most;omega
  ·show (rowsOf S 4).length*16<=_;rw[yY];unfold most;omega
  ·show (rowsOf S 5).length*8<=_;rw[jY];exact h6,by omega,by omega,by omega,by omega⟩
theorem Fp (i:Nat) (S:PM):(xq i S).rmw.length=S.rmw.length/\(xq i S).addr.length=S.addr.length/\(xq i S).data.length=S.data.length/\(xq i S).ctrl.length=S.ctrl.length:=by
 unfold xq
 simp only
 refine⟨?_,?_,?_,?_⟩<;>(split<;>simp[DN])
theorem XO {S:PM} (h:WF S) (ho:S.outs.length*8<=most):Szp (xX S):=by
 obtain⟨a,b,c,d⟩:=Fp 4 S
 exact szp_of h.ev (by show (xq 4 S).rmw.length<=_;rw[a];exact h.rm.rmw) (by show (xq 4 S).addr.length<=_;rw[b];exact h.rm.addr) (by show (xq 4 S).data.length<=_;rw[c];exact h.rm.data) (by show (xq 4 S).ctrl.length<=_;rw[d];exact h.rm.ctrl) ho
theorem Szp.of {A B:PM} (h:Szp A) (k:∀F,F<6->rowsOf B F=rowsOf A F) (h1:B.rmw=A.rmw) (h2:B.addr=A.addr) (h3:B.data=A.data) (h4:B.ctrl=A.ctrl):Szp B :=
 ⟨fun F hF=>by rw[k F hF];exact h.sz F hF,by rw[h1];exact h.rmw,by rw[h2];exact h.addr,by rw[h3];exact h.data,by rw[h4];exact h.ctrl⟩
theorem qc5 {S:PM} (h:WF S) (ho:S.outs.length*8<=most):Szp (vm S):=(XO h ho).of (fun F hF=>dQ rfl rfl rfl rfl rfl rfl F hF) rfl rfl rfl rfl
end Go.Sx
namespace Go.Dx
open Go.RowKit
noncomputable section
def gJ (ins:List (List Value)):M:=M.rec (fun h nx _ _=>⟨h,nx,ins.length,[]⟩) (jy ins M.empty)
def XR (σ:List Nat) (n:Nat) (i:Nat):Nat:=bif Nat.blt i σ.length then σ.getD i 0 else n+(i - σ.length)
def XK (k:Nat) (rows:List (Nat × List Value)) (i:Nat):Nat:=bif Nat.blt i k then i else sig rows (i - k)
def vh (σ:List Nat) (rows:List (Nat × List Value)) (m:M):M:=jy (rows.map fun p=>p.2.map (ren (XR σ m.n))) m
def XZ (k:Nat):List Nat->Bool
 | []=>true
 | a :: l=>Nat.ble k a && XZ k l
def chkM (ins:List (List Value)) (rows:List (Nat × List Value)) (v0:Value) (o:Option (Value × M)):Bool:=match o with
 | some (v,m1)=>m1.log.isEmpty && XZ ins.length (rows.map (·.1)) && eq2 (XK ins.length rows) (ins.length+rows.length) v0 v && bQ (XK ins.length rows) (ins.length+rows.length) m1 rows && bI (rows.map (·.1))
 | none=>false
def okM (pargs:List Value) (ins:List (List Value)) (σ:List Nat) (args:List Value) (m:M):Bool :=
 Nat.beq σ.length ins.length && eqL1 (fun i=>σ.getD i 0) ins.length pargs args && bQ (fun i=>σ.getD i 0) ins.length m (σ.zip ins) && bI σ
theorem fP (ins:List (List Value)):(gJ ins).n=ins.length:=by
 have h:(gJ ins).n=(jy ins M.empty).n:=by unfold gJ;cases jy ins M.empty;rfl
 rw[h,gC];show 0+ins.length=_;omega
theorem QI (ins:List (List Value)) (X:Nat):(gJ ins).obj X=(ins[X]?).map (fun r=>.cells (mkn .lf 0 r)):=by
 have h:(gJ ins).obj X=(jy ins M.empty).obj X:=by unfold gJ;cases jy ins M.empty;rfl
 rw[h,jV]
 show (if 0<=X/\X<0+ins.length then (ins[X - 0]?).map (fun r=>DObj.cells (mkn .lf 0 r)) else _)=_
 by_cases hX:X<ins.length
 ·rw[if_pos (by omega)];rfl
 ·rw[if_neg (by omega),qdf (by omega)];exact A3.get_lf none X
theorem YH (ins:List (List Value)):(gJ ins).base=ins.length:=by unfold gJ;cases jy ins M.empty;rfl
theorem Wk {k:Nat}:∀{l:List Nat},XZ k l=true->∀(i a:Nat),l[i]?=some a->k<=a
 | [],_,i,a,h=>by simp at h
 | b :: l,h,i,a,hi=>by
  change (Nat.ble k b && XZ k l)=true at h
  rw[qd0]at h
  cases i with
  | zero=>simp at hi;subst hi;exact qd3 h.1
  | succ i=>exact Wk h.2 i a (by simpa using hi)
theorem XF (x:Value):ren (fun i=>i) x=x:=by
 unfold ren
 split<;>rfl
theorem qbi (x:Value):KU (fun i=>i) x=x:=by
 unfold KU
 split
 ·rename_i cs
  have:cs.toList.map (ren fun i=>i)=cs.toList:=by
   rw[List.map_congr_left (g:=fun x=>x) fun x _=>XF x];simp
  rw[this]
 ·exact XF _
theorem blt_t {i k:Nat} (h:i<k):Nat.blt i k=true:=qd2 h
theorem blt_f {i k:Nat} (h:¬i<k):Nat.blt i k=false:=by
 cases q:Nat.blt i k with
 | false=>rfl
 | true=>exact absurd (qd3 q) h
theorem Jw {φ φ':Phi} {σ τ:Nat->Nat} {r:Nat} (hφ:∀i l,i<r->φ (σ i)=some l->φ' (τ i)=some l) {w:World} {c:C} {row:List Value} (hok:gU σ r c 0 row=true) {l:Loc} (h:ObjRel φ w (.cells c) l) :
  ObjRel φ' w (.cells (mkn .lf 0 (row.map (ren τ)))) l:=by
 obtain⟨cs,e,fz,k1,k2,k3,k4⟩:=h
 have hsub:∀j x,A.get none j (mkn .lf 0 (row.map (ren τ)))=some x->∃y,A.get none j c=some y:=fun j x hx=>by
  rw[ju,A.get_lf]at hx
  split at hx
  ·simp only[Nat.sub_zero,qda]at hx
   cases hg:row[j]? with
   | none=>rw[hg]at hx;cases hx
   | some y =>
    obtain⟨z,e1,_⟩:=jf hok j y hg
    rw[Nat.zero_add]at e1
    exact⟨z,e1⟩
  ·cases hx
 have hfc:FzC l.d cs.size fz (mkn .lf 0 (row.map (ren τ))):=⟨fun ha hd=>k3.1 (by
   cases hrw:row with
   | nil=>rw[hrw]at ha;cases ha
   | cons y ys =>
    obtain⟨z,e1,_⟩:=jf hok 0 y (by rw[hrw];rfl)
    exact bh e1) hd,fun j x hx=>let ⟨y,hy⟩:=hsub j x hx;k3.2 j y hy⟩
 refine⟨cs,e,fz,k1,k2,hfc,fun j x hx=>?_⟩
 rw[ju,A.get_lf]at hx
 split at hx
 ·rename_i hj
  simp only[Nat.sub_zero,qda]at hx
  cases hg:row[j]? with
  | none=>rw[hg]at hx;cases hx
  | some y =>
   rw[hg]at hx
   cases hx
   obtain⟨z,e1,e2,e3⟩:=jf hok j y hg
   rw[Nat.zero_add]at e1
   obtain⟨q1,v'',q2,q3⟩:=k4 j z e1
   refine⟨q1,v'',q2,?_⟩
   rw[<-e3]at q3
   exact gR hφ e2 q3
 ·cases hx
theorem Jv {σ:Nat->Nat} {r:Nat} {row:List Value} (hok:gU σ r .lf 0 row=true):row=[]:=by
 cases row with
 | nil=>rfl
 | cons x l =>
  obtain⟨y,hy,_⟩:=jf hok 0 x rfl
  rw[A.get_lf]at hy;cases hy
theorem Yw {P:Program} {x:Ex} (hx:jS P x) {g:Nat} {pargs args:List Value} {v0:Value} {ins:List (List Value)} {rows:List (Nat × List Value)} (h:chkM ins rows v0 (x.f g pargs (gJ ins))=true) {σ:List Nat} {m:M} (hm:okM pargs ins σ args m=true) :
  DStep m (vh σ rows m)/\Enters P g/\XW P g args m (XE (XR σ m.n) v0) (vh σ rows m):=by
 unfold chkM at h
 split at h
 ·rename_i v m1 hrun
  simp only[qd0]at h
  obtain⟨⟨⟨⟨hlog,hge⟩,hv⟩,hrows⟩,hnd⟩:=h
  unfold okM at hm
  simp only[qd0]at hm
  obtain⟨⟨⟨hkl,hma⟩,hmr⟩,hms⟩:=hm
  have hk:σ.length=ins.length:=qd7 hkl
  have hlog:m1.log=[]:=by simpa using hlog
  obtain⟨hd1,hent,hJ⟩:=hx.f _ _ _ _ _ hrun
  have hlen:(rows.map fun p=>p.2.map (ren (XR σ m.n))).length=rows.length:=by simp
  obtain⟨s,hs⟩:∃s:Nat->Nat,s=fun i=>σ.getD i 0:=⟨_,rfl⟩
  obtain⟨τ,hτ⟩:=qdi (XR σ m.n)
  rw[<-hs]at hma hmr
  have hτ1:∀i,i<ins.length->τ i=s i:=fun i hi=>by rw[hτ,hs];unfold XR;rw[blt_t (by omega)];rfl
  have hτ2:∀i,τ (ins.length+i)=m.n+i:=fun i=>by rw[hτ];unfold XR;rw[blt_f (by omega),hk];show m.n+(ins.length+i - ins.length)=_;omega
  have hs1:∀i,i<ins.length->XK ins.length rows i=i:=fun i hi=>by unfold XK;rw[blt_t hi];rfl
  have hs2:∀i,XK ins.length rows (ins.length+i)=sig rows i:=fun i=>by unfold XK;rw[blt_f (by omega)];show sig rows (ins.length+i - ins.length)=_;congr 1;omega
  have hin:∀i (hi:i<ins.length),∃c,m.obj (s i)=some (.cells c)/\gU s ins.length c 0 ins[i]=true:=fun i hi=>by
   have hz:(σ.zip ins)[i]?=some (s i,ins[i]):=by
    rw[List.getElem?_zip_eq_some]
    refine⟨?_,qcu hi⟩
    rw[hs];simp[show i<σ.length by omega]
   exact jd hmr i _ hz
  have hinj:∀i j,i<ins.length->j<ins.length->s i=s j->i=j:=fun i j hi hj e =>
   yb hms i j (s i) (by rw[hs];simp[show i<σ.length by omega]) (by rw[e,hs];simp[show j<σ.length by omega])
  show DStep m (jy _ m)/\_
  rw[<-hτ]
  refine⟨(zo _ m).1,hent,fun φ w args' hR hargs' hF=>?_⟩
  have hgn:(vh σ rows m).n=m.n+rows.length:=by unfold vh;rw[gC,hlen]
  rw[hgn]at hF
  have hlt:∀i,i<ins.length->s i<m.n:=fun i hi=>by
   obtain⟨c,hc,_⟩:=hin i hi
   exact Classical.byContradiction fun h=>by rw[hR.wf (s i) (by omega)]at hc;cases hc
  obtain⟨φL,hφL⟩:∃φL:Phi,φL=fun B=>if B<ins.length then φ (s B) else none:=⟨_,rfl⟩
  have hL1:∀i,i<ins.length->φL i=φ (s i):=fun i hi=>by rw[hφL];simp only[if_pos hi]
  have hL2:∀i,¬i<ins.length->φL i=none:=fun i hi=>by rw[hφL];simp only[if_neg hi]
  have hturnL:∀i l,i<ins.length->φ (s i)=some l->φL i=some l:=fun i l hi h=>by rw[hL1 i hi];exact h
  have hRL:R φL (gJ ins) w:=by
   refine⟨fun B hB=>?_,fun B l hB hl=>?_,fun B₁ B₂ l₁ l₂ h1 h2 hl1 hl2 hb hne=>?_⟩
   ·rw[fP]at hB
    rw[QI,qdf (by omega)];rfl
   ·rw[fP]at hB
    rw[hL1 B hB]at hl
    obtain⟨c,hc,hok⟩:=hin B hB
    obtain⟨o,ho1,ho2⟩:=hR.obj _ l (hlt B hB) hl
    rw[hc]at ho1;cases ho1
    refine⟨_,by rw[QI,qcu hB];rfl,?_⟩
    have:=Jw (φ':=φL) (τ:=fun i=>i) hturnL hok ho2
    rwa [List.map_congr_left (g:=fun x=>x) fun x _=>XF x,List.map_id']at this
   ·rw[fP]at h1 h2
    rw[hL1 _ h1]at hl1
    rw[hL1 _ h2]at hl2
    have key:∀B,B<ins.length->dead m (s B)->dead (gJ ins) B:=fun B hB hd=>by
     obtain⟨c,hc,hok⟩:=hin B hB
     unfold dead at hd ⊢
     rw[hc]at hd
     cases hd
     rw[QI,qcu hB,Jv hok];rfl
    exact (hR.inj _ _ _ _ (hlt _ h1) (hlt _ h2) hl1 hl2 hb fun e=>hne (hinj _ _ h1 h2 e)).imp (key _ h1) (key _ h2)
  have hargsL:VRels φL pargs args'.toList:=by
   have:=bz (φ':=φL) (τ:=fun i=>i) hturnL hma hargs'
   rwa [List.map_congr_left (g:=fun x=>x) fun x _=>qbi x,List.map_id']at this
  refine (hJ φL w args' hRL hargsL (fun B hB _=>hL2 B (by rw[fP]at hB;omega))).mono ?_
  rintro e w' ⟨φ1,v',rfl,hR1,hst,hr1⟩
  have hnoT:∀B,¬Tou (gJ ins) m1 B:=fun B ht=>by
   obtain⟨t1,t2,_⟩:=ht
   rw[fP]at t1
   rcases t2 with t2 | t2
   ·rw[hd1.base,YH]at t2;omega
   ·rw[hlog]at t2;cases t2
  have hheap:∀b,b<w.heap.size->w'.heap[b]?=w.heap[b]?:=fun b hb=>hst.frame b hb fun B _ _ _=>hnoT B
  obtain⟨φ',hφ'⟩:∃φ':Phi,φ'=fun B=>if m.n<=B/\B<m.n+rows.length then φ1 (sig rows (B - m.n)) else φ B:=⟨_,rfl⟩
  have hold:∀B,¬(m.n<=B/\B<m.n+rows.length)->φ' B=φ B:=fun B hB=>by rw[hφ'];simp only[if_neg hB]
  have hnew:∀i,i<rows.length->φ' (m.n+i)=φ1 (sig rows i):=fun i hi=>by rw[hφ'];simp only[if_pos (show m.n<=m.n+i/\m.n+i<m.n+rows.length by omega)];rw[show m.n+i - m.n=i by omega]
  have hle:PLe φ φ':=fun B l hl=>by
   by_cases hB:m.n<=B/\B<m.n+rows.length
   ·rw[hF B hB.1 hB.2]at hl;cases hl
   ·rw[hold B hB];exact hl
  have hturn:∀i l,i<ins.length+rows.length->φ1 (XK ins.length rows i)=some l->φ' (τ i)=some l:=fun i l hi hl=>by
   by_cases hik:i<ins.length
   ·rw[hs1 i hik,hst.ext i (.inl (by rw[fP];exact hik)),hL1 i hik]at hl
    rw[hτ1 i hik,hold _ (by have:=hlt i hik;omega)];exact hl
   ·obtain⟨j,rfl⟩:∃j,i=ins.length+j:=⟨i - ins.length,by omega⟩
    rw[hs2]at hl
    rw[hτ2,hnew j (by omega)];exact hl
  have hsig:∀i (hi:i<rows.length),sig rows i=rows[i].1:=fun i hi=>by unfold sig;simp[hi]
  have hge':∀i,i<rows.length->ins.length<=sig rows i:=fun i hi=>by
   rw[hsig i hi];exact Wk hge i _ (by simp[hi])
  have hlt1:∀i,i<rows.length->sig rows i<m1.n:=fun i hi=>by
   obtain⟨c,hc,_⟩:=jd hrows i rows[i] (by simp[hi])
   rw[hsig i hi];exact hR1.lt hc
  have hfresh:∀i l,i<rows.length->φ1 (sig rows i)=some l->w.heap.size<=l.b:=fun i l hi hl=>by
   rcases hst.fresh (sig rows i) l (by rw[fP];exact hge' i hi) (hlt1 i hi) hl with h | ⟨B0,l0,ht,h,_⟩
   ·exact h
   ·exact absurd ht (hnoT B0)
  have hobj:∀B,B<m.n->(vh σ rows m).obj B=m.obj B:=fun B hB=>by unfold vh;rw[jV,if_neg (by omega)]
  have hobjN:∀i (hi:i<rows.length),(vh σ rows m).obj (m.n+i)=some (.cells (mkn .lf 0 (rows[i].2.map (ren τ)))):=fun i hi=>by
   unfold vh
   rw[jV,if_pos (by simp;omega),show m.n+i - m.n=i by omega,hτ]
   simp[hi]
  have hrow:∀i (hi:i<rows.length) l,φ1 (sig rows i)=some l->ObjRel φ' w' (.cells (mkn .lf 0 (rows[i].2.map (ren τ)))) l:=fun i hi l hl=>by
   obtain⟨c,hc,hok⟩:=jd hrows i rows[i] (by simp[hi])
   obtain⟨ob,ho1,ho2⟩:=hR1.obj (sig rows i) l (hlt1 i hi) hl
   rw[hsig i hi,hc]at ho1
   cases ho1
   exact Jw hturn hok ho2
  refine⟨φ',v',rfl,⟨fun B hB=>?_,fun B l hB hl=>?_,fun B₁ B₂ l₁ l₂ h1 h2 hl1 hl2 hb hne=>?_⟩,⟨(zo _ m).1,hle,fun B hB=>?_,fun B l h1 h2 hl=>?_,fun B _ h1 h2=>absurd ((zo _ m).2 B h1) h2,hst.os,hst.tape,hst.output,hst.size,fun b hb _=>hheap b hb⟩,ZC hturn hv hr1⟩
  ·exact (zo _ m).1.wf hR.wf B hB
  ·rw[hgn]at hB
   by_cases hlt:B<m.n
   ·rw[hold B (by omega)]at hl
    obtain⟨o,h1,h2⟩:=hR.obj B l hlt hl
    exact⟨o,by rw[hobj B hlt];exact h1,(h2.mono hle).world (hheap l.b h2.lt)⟩
   ·obtain⟨i,rfl⟩:∃i,B=m.n+i:=⟨B - m.n,by omega⟩
    have hi:i<rows.length:=by omega
    rw[hnew i hi]at hl
    exact⟨_,hobjN i hi,hrow i hi l hl⟩
  ·rw[hgn]at h1 h2
   have lt:∀B l,B<m.n->φ B=some l->l.b<w.heap.size:=fun B l hB hl=>by
    obtain⟨o,_,ho⟩:=hR.obj B l hB hl
    exact ho.lt
   by_cases e1:B₁<m.n
   ·rw[hold B₁ (by omega)]at hl1
    have:=lt B₁ l₁ e1 hl1
    by_cases e2:B₂<m.n
    ·rw[hold B₂ (by omega)]at hl2
     exact (hR.inj B₁ B₂ l₁ l₂ e1 e2 hl1 hl2 hb hne).imp (fun e=>by unfold dead;rw[hobj B₁ e1];exact e) (fun e=>by unfold dead;rw[hobj B₂ e2];exact e)
    ·obtain⟨i,rfl⟩:∃i,B₂=m.n+i:=⟨B₂ - m.n,by omega⟩
     rw[hnew i (by omega)]at hl2
     have:=hfresh i l₂ (by omega) hl2
     omega
   ·obtain⟨i,rfl⟩:∃i,B₁=m.n+i:=⟨B₁ - m.n,by omega⟩
    have hi:i<rows.length:=by omega
    rw[hnew i hi]at hl1
    by_cases e2:B₂<m.n
    ·rw[hold B₂ (by omega)]at hl2
     have:=lt B₂ l₂ e2 hl2
     have:=hfresh i l₁ hi hl1
     omega
    ·obtain⟨j,rfl⟩:∃j,B₂=m.n+j:=⟨B₂ - m.n,by omega⟩
     have hj:j<rows.length:=by omega
     rw[hnew j hj]at hl2
     have hij:sig rows i≠sig rows j:=fun e=>by
      rw[hsig i hi,hsig j hj]at e
      have:=yb hnd i j rows[i].1 (by simp[hi]) (by simp[hj,e])
      omega
     have emp:∀k (hk:k<rows.length),dead m1 (sig rows k)->dead (vh σ rows m) (m.n+k):=fun k hk hdk=>by
      obtain⟨c,hc,hok⟩:=jd hrows k rows[k] (by simp[hk])
      unfold dead at hdk
      rw[hsig k hk,hc]at hdk
      cases hdk
      unfold dead
      rw[hobjN k hk,Jv hok];rfl
     exact (hR1.inj _ _ l₁ l₂ (hlt1 i hi) (hlt1 j hj) hl1 hl2 hb hij).imp (emp i hi) (emp j hj)
  ·rw[hgn]at hB
   exact hold B (by omega)
  ·rw[hgn]at h2
   obtain⟨i,rfl⟩:∃i,B=m.n+i:=⟨B - m.n,by omega⟩
   rw[hnew i (by omega)]at hl
   exact .inl (hfresh i l (by omega) hl)
 ·cases h
structure PreM where
 g:Nat
 args:List Value
 ins:List (List Value)
 v:Value
 rows:List (Nat × List Value)
def uV (σ:List Nat) (x y:Value):List Nat:=match x,y with
 | .pointer (some a),.pointer (some b)=>bif Nat.beq a.block σ.length then σ ++ [b.block] else σ
 | .slice (some a) _ _,.slice (some b) _ _=>bif Nat.beq a.block σ.length then σ ++ [b.block] else σ
 | _,_=>σ
def uL:List Nat->List Value->List Value->List Nat
 | σ,x :: l,y :: k=>uL (uV σ x y) l k
 | σ,_,_=>σ
def u1 (σ:List Nat) (x y:Value):List Nat:=match x,y with
 | .agg a,.agg b=>uL σ a.toList b.toList
 | _,_=>uV σ x y
def uA:List Nat->List Value->List Value->List Nat
 | σ,x :: l,y :: k=>uA (u1 σ x y) l k
 | σ,_,_=>σ
def uRow (c:C):Nat->List Nat->List Value->List Nat
 | j,σ,x :: l=>uRow c (j+1) (match A.get none j c with
  | some y=>uV σ x y
  | none=>σ) l
 | _,σ,[]=>σ
def uRows (m:M):Nat->List Nat->List (List Value)->List Nat
 | i,σ,r :: l=>uRows m (i+1) (match m.obj (σ.getD i 0) with
  | some (.cells c)=>uRow c 0 σ r
  | _=>σ) l
 | _,σ,[]=>σ
def sigM (p:PreM) (args:List Value) (m:M):List Nat:=uRows m 0 (uA [] p.args args) p.ins
def Kt (p:PreM) (σ:List Nat) (args:List Value) (m:M) (r:Option (PreM × List Nat)):Option (PreM × List Nat):=bif okM p.args p.ins σ args m then some (p,σ) else r
def Qz (g:Nat) (args:List Value) (m:M) (l:List PreM):Option (PreM × List Nat):=List.rec none (fun p _ ih=>bif Nat.beq p.g g then Kt p (sigM p args m) args m ih else ih) l
def Dv (P:Program) (l:List Pre) (k:List PreM) (x:Ex) (g:Nat) (args:List Value) (m:M):Option (Value × M) :=
 Option.rec (YW P l x g args m) (fun p=>some (XE (XR p.2 m.n) p.1.v,vh p.2 p.1.rows m)) (Qz g args m k)
def exgm (P:Program) (l:List Pre) (k:List PreM) (n:Nat):Ex:=Nat.rec .bot (fun _ x=>⟨Dv P l k x,Fv P x⟩) n
def PreMOK (P:Program) (p:PreM):Prop:=∃x,jS P x/\chkM p.ins p.rows p.v (x.f p.g p.args (gJ p.ins))=true
theorem QA {g:Nat} {args:List Value} {m:M}:∀{l:List PreM} {p:PreM} {σ:List Nat},Qz g args m l=some (p,σ)->p∈l/\p.g=g/\okM p.args p.ins σ args m=true
 | [],p,σ,h=>by cases h
 | q :: l,p,σ,h=>by
  change (bif Nat.beq q.g g then Kt q (sigM q args m) args m (Qz g args m l) else Qz g args m l)=some (p,σ) at h
  have rest:Qz g args m l=some (p,σ)->p∈q :: l/\p.g=g/\okM p.args p.ins σ args m=true:=fun h=>by
   obtain⟨h1,h2⟩:=QA h
   exact⟨by simp[h1],h2⟩
  cases hb:Nat.beq q.g g with
  | false=>rw[hb]at h;exact rest h
  | true =>
   rw[hb]at h
   change Kt q (sigM q args m) args m (Qz g args m l)=some (p,σ) at h
   unfold Kt at h
   cases ho:okM q.args q.ins (sigM q args m) args m with
   | true=>rw[ho]at h;cases h;exact⟨by simp,qd7 hb,ho⟩
   | false=>rw[ho]at h;exact rest h
theorem Ks {P:Program} (hP:P.follows .mixedOrders=true) {l:List Pre} {k:List PreM} (hl:∀p∈l,PreOK2 P p) (hk:∀p∈k,PreMOK P p):∀n,jS P (exgm P l k n)
 | 0=>⟨fun _ _ _ _ _ h=>(by cases h),fun _ _ _ _ _ h=>(by cases h)⟩
 | n+1=>by
  have ih:=Ks hP hl hk n
  have hs:=Ex.step_ok ih hP
  refine⟨fun g args m v m' h=>?_,hs.y⟩
  change Dv P l k (exgm P l k n) g args m=some (v,m') at h
  unfold Dv at h
  cases hm:Qz g args m k with
  | some q =>
   obtain⟨p,σ⟩:=q
   rw[hm]at h
   cases h
   obtain⟨h1,rfl,h2⟩:=QA hm
   obtain⟨x,hx,h3⟩:=hk p h1
   exact Yw hx h3 h2
  | none =>
   rw[hm]at h
   change YW P l (exgm P l k n) g args m=some (v,m') at h
   unfold YW at h
   cases hf:ZK g args l with
   | none=>rw[hf]at h;exact hs.f g args m v m' h
   | some p =>
    rw[hf]at h
    cases h
    obtain⟨h1,rfl,rfl⟩:=fJ hf
    obtain⟨h2,x,hx,h3⟩:=hl p h1
    exact ZN hx h2 h3 m
theorem PreMOK.of {P:Program} (hP:P.follows .mixedOrders=true) {l:List Pre} {k:List PreM} (hl:∀p∈l,PreOK2 P p) (hk:∀p∈k,PreMOK P p) {n:Nat} {p:PreM} (h:chkM p.ins p.rows p.v ((exgm P l k n).f p.g p.args (gJ p.ins))=true):PreMOK P p:=⟨_,Ks hP hl hk n,h⟩
theorem PreOK2.of {P:Program} (hP:P.follows .mixedOrders=true) {l:List Pre} {k:List PreM} (hl:∀p∈l,PreOK2 P p) (hk:∀p∈k,PreMOK P p) {n:Nat} {p:Pre} (ha:p.args.all scalar=true) (h:chk p.rows p.v ((exgm P l k n).f p.g p.args M.empty)=true):PreOK2 P p:=⟨ha,_,Ks hP hl hk n,h⟩
end
end Go.Dx
namespace Go.Sx
open Go.Dx Go.Proofs
set_option maxRecDepth 10000
def aw:Dx.Pre:=⟨8,[],.bool true,[]⟩
noncomputable def xA (N:Nat):Ex:=⟨fun g args m=>bif Nat.beq g 8 then (exg Tryz.prog [aw] 1).f g args m else (ex Tryz.prog N).f g args m,(ex Tryz.prog N).y⟩
theorem xA_f (N g:Nat) (args:List Value) (m:M) (h:g≠8):(xA N).f g args m=(ex Tryz.prog N).f g args m:=by
 show (bif Nat.beq g 8 then _ else _)=_
 rw[bj h];rfl
theorem xA_aw (N:Nat) (m:M):(xA N).f 8 [] m=some (.bool true,m):=rfl
theorem xA_ok (hP:Tryz.prog.follows .mixedOrders=true) (haw:PreOK2 Tryz.prog aw) (N:Nat):jS Tryz.prog (xA N):=by
 refine⟨fun g args m v m' h=>?_,(ZG hP N).y⟩
 change (bif Nat.beq g 8 then (exg Tryz.prog [aw] 1).f g args m else (ex Tryz.prog N).f g args m)=some (v,m') at h
 cases hb:Nat.beq g 8 with
 | true=>rw[hb]at h;exact (Vl hP (l:=[aw]) (fun p hp=>by rw[qd1.1 hp];exact haw) 1).f g args m v m' h
 | false=>rw[hb]at h;exact (ZG hP N).f g args m v m' h
theorem step_ret {P:Program} {x:Ex} {g:Nat} {c:SC} {nt:Nat} {res:List RV} {args:List Value} {m:M} {Q:Value->M->Prop} (hd:qX P g=some ⟨c,nt,res⟩) (ha:args.length<=nt)
  (h:Ret m Q (c x (kD res) noK (kD res) (xM .blank 0 args) m)):Dx.Call (Ex.step P x) g args m Q:=by
 obtain⟨v,m',e,h1,h2⟩:=h
 refine⟨v,m',?_,h1,h2⟩
 show ob (qX P g) (callF x args m)=_
 rw[hd,qV,Qj _ _ _ _ _ _ ha];exact e
theorem _root_.Go.Dx.Call.xA {N g:Nat} {args:List Value} {m:M} {Q:Value->M->Prop} (h:Dx.Call (ex Tryz.prog N) g args m Q) (hg:g≠8):Dx.Call (xA N) g args m Q:=by
 obtain⟨v,m',a,b,c⟩:=h
 exact⟨v,m',(xA_f N g args m hg).trans a,b,c⟩
end Go.Sx
namespace Go.Sx
open Go.Dx Go.Proofs
set_option maxRecDepth 10000
structure Mq where
 P:Nat
 s:Mch
 g:Gh
 S:PM
structure Sep (a b:Mq):Prop where
 ww:∀B∈own a.P a.s,B ∉ own b.P b.s
 wz:∀B∈own a.P a.s,¬Sh b.s b.g B
 zw:∀B∈own b.P b.s,¬Sh a.s a.g B
theorem Sep.symm {a b:Mq} (h:Sep a b):Sep b a:=⟨fun B hB hA=>h.ww B hA hB,h.zw,h.wz⟩
theorem ML.own_lt {m:M} {P:Nat} {s:Mch} {g:Gh} {S:PM} (h:ML m P s g S) {B:Nat} (hB:B∈own P s):B<m.n:=by
 rcases wG.1 hB with rfl | hL
 ·exact h.mat.lt
 ·exact h.hp.ln hL
theorem ML.keepM {m m':M} {V:List Nat} {P:Nat} {s:Mch} {g:Gh} {S:PM} (h:ML m P s g S) (k:Mc m m' V) (h1:∀B∈V,B ∉ own P s) (h2:∀B∈V,¬Sh s g B):ML m' P s g S:=by
 have hn:=k.n
 have o:∀B∈own P s,m'.obj B=m.obj B:=fun B hB=>k.obj B (h.own_lt hB) fun hv=>h1 B hv hB
 exact⟨by rw[k.base];exact qd6 h.base hn,⟨h.mat.arr.congr (o P (wG.2 (.inl rfl))),qcz h.mat.lt hn⟩,h.hp.congr hn (fun B hB=>k.obj B (h.hp.sn B hB) fun hv=>h2 B hv hB) (fun B hB=>o B (wG.2 (.inr hB))),h.sc⟩
theorem ML.extM {m m':M} {P:Nat} {s:Mch} {g:Gh} {S:PM} (h:ML m P s g S) (e:Ext m m'):ML m' P s g S :=
 h.keepM (V:=[]) ⟨e.n,fun B hB _=>e.obj B hB,e.base,fun B hB=>.inl (by rw[<-e.log];exact hB),fun _=>e.log⟩ (by simp) (by simp)
structure Ms (m0 m:M) (L:List Mq):Prop where
 b0:m0.base<=m0.n
 ext:Ext m0 m
 ml:∀q∈L,ML m q.P q.s q.g q.S/\∀B∈own q.P q.s,m0.n<=B
 sep:∀(i j:Nat) (a b:Mq),i≠j->L[i]?=some a->L[j]?=some b->Sep a b
section
variable {m0 m m':M} {L:List Mq} {i:Nat} {P:Nat} {s s':Mch} {g g':Gh} {S S':PM}
theorem Ms.nil {m:M} (h:m.base<=m.n):Ms m m []:=⟨h,Ext.refl m,(fun q hq=>by cases hq),(fun i j a b _ h _=>by simp at h)⟩
theorem Ms.base (h:Ms m0 m L):m.base<=m.n:=((Sees.refl h.b0).ext h.ext).base
theorem Ms.step (h:Ms m0 m L) (e:Ext m m'):Ms m0 m' L:=⟨h.b0,h.ext.trans e,fun q hq=>⟨(h.ml q hq).1.extM e,(h.ml q hq).2⟩,h.sep⟩
theorem Ms.get (h:Ms m0 m L) (hi:L[i]?=some ⟨P,s,g,S⟩):ML m P s g S:=(h.ml _ (qcv hi)).1
theorem Ms.upd (h:Ms m0 m L) (hi:L[i]?=some ⟨P,s,g,S⟩) (r:Res m m' P s g s' g' S'):Ms m0 m' (L.set i ⟨P,s',g',S'⟩):=by
 obtain⟨h1,h2⟩:=h.ml _ (qcv hi)
 have hlt:=h.ext.n
 have ow':∀B∈own P s',B∈own P s\/m.n<=B:=fun B hB=>by
  rcases wG.1 hB with rfl | hL
  ·exact .inl (wG.2 (.inl rfl))
  ·exact (r.lb B hL).imp (fun k=>wG.2 (.inr k)) _root_.id
 have il:i<L.length:=(qcw.1 hi).1
 have hset:∀j,(L.set i ⟨P,s',g',S'⟩)[j]?=if i=j then some ⟨P,s',g',S'⟩ else L[j]?:=fun j=>by
  rw[List.getElem?_set];split<;>simp_all
 have one:∀j b,i≠j->L[j]?=some b->Sep ⟨P,s',g',S'⟩ b:=fun j b hj hb=>by
  have k:=h.sep i j _ _ hj hi hb
  have hm:=(h.ml _ (qcv hb)).1
  refine⟨fun B hB hB2=>?_,fun B hB hB2=>?_,fun B hB hB2=>?_⟩
  ·rcases ow' B hB with q | q
   ·exact k.ww B q hB2
   ·exact absurd (hm.own_lt hB2) (by omega)
  ·rcases ow' B hB with q | q
   ·exact k.wz B q hB2
   ·exact absurd (hm.hp.sn B hB2) (by omega)
  ·rcases r.sh B hB2 with q | q
   ·exact k.zw B hB q
   ·exact absurd (hm.own_lt hB) (by omega)
 have hb:m'.base<=m'.n:=by rw[r.mc.base];exact qd6 h1.base r.mc.n
 refine⟨h.b0,ya h.ext r.mc h2 h.b0,fun q hq=>?_,fun a b x y hab hx hy=>?_⟩
 ·obtain⟨j,hj⟩:=List.mem_iff_getElem?.1 hq
  rw[hset]at hj
  split at hj
  ·cases hj
   refine⟨⟨hb,r.mat,r.hp,r.sc⟩,fun B hB=>?_⟩
   rcases ow' B hB with q | q
   ·exact h2 B q
   ·omega
  ·rename_i hne
   obtain⟨k1,k2⟩:=h.ml _ (qcv hj)
   have k:=h.sep i j _ _ hne hi hj
   exact⟨k1.keepM r.mc k.ww k.wz,k2⟩
 ·rw[hset]at hx hy
  split at hx
  ·rename_i e1
   split at hy
   ·rename_i e2;omega
   ·rename_i e2;cases hx;exact one b y e2 hy
  ·rename_i e1
   split at hy
   ·rename_i e2;cases hy;exact (one a x e1 hx).symm
   ·exact h.sep a b x y hab hx hy
theorem Ms.push (h:Ms m0 m L) (k:ML m P s g S) (h1:∀B∈own P s,m0.n<=B) (h2:∀q∈L,Sep q ⟨P,s,g,S⟩):Ms m0 m (L ++ [⟨P,s,g,S⟩]):=by
 have hget:∀j x,(L ++ [(⟨P,s,g,S⟩:Mq)])[j]?=some x->L[j]?=some x\/(j=L.length/\x=⟨P,s,g,S⟩):=fun j x hx=>by
  by_cases hj:j<L.length
  ·rw[qd8 hj]at hx;exact .inl hx
  ·rw[qd9 (by omega)]at hx
   obtain⟨q1,q2⟩:=qcw.1 hx
   simp at q1 q2
   exact .inr ⟨by omega,q2.symm⟩
 refine⟨h.b0,h.ext,fun q hq=>?_,fun a b x y hab hx hy=>?_⟩
 ·rcases qdh.1 hq with hq | hq
  ·exact h.ml q hq
  ·rw[qd1.1 hq];exact⟨k,h1⟩
 ·rcases hget a x hx with h3 | ⟨h3,rfl⟩
  ·rcases hget b y hy with h4 | ⟨h4,rfl⟩
   ·exact h.sep a b x y hab h3 h4
   ·exact h2 x (qcv h3)
  ·rcases hget b y hy with h4 | ⟨h4,rfl⟩
   ·exact (h2 y (qcv h4)).symm
   ·omega
theorem Ms.reg_c (h:Ms m0 m L) (n:Nat) (hi:L[i]?=some ⟨P,s,g,S⟩) {k:Nat} (hk:k<=30):∃m',(xA (n+40)).f 12 [mP P,iv k] m=some (uv (S.sc.v k),m')/\Ms m0 m' L/\Ext m m':=by
 obtain⟨v,m',a1,a2,rfl⟩:=Reg_m (n+39) (h.get hi) hk
 exact⟨m',by rw[xA_f _ _ _ _ (by decide)];exact a1,h.step a2,a2⟩
end
end Go.Sx
namespace Go.Sx
open Go.Dx Go.Proofs
set_option maxRecDepth 10000
section
variable {e:Nat} {m:M} {v:Value} {es:List (Row e)}
theorem rowEl (he:0<e):El e (wD (e:=e)):=⟨he,wU,gV⟩
theorem Wy {o:Nat} {x x':Row e} {u:Value} (ho:o<e) (hx:wD x'=(wD x).set o u):∀(es:List (Row e)) (i:Nat),es[i]?=some x->(es.flatMap wD).set (i*e+o) u=(es.set i x').flatMap wD
 | [],i,h=>by simp at h
 | y :: es,0,h=>by
  simp at h;subst h
  simp only[List.flatMap_cons,List.set_cons_zero,Nat.zero_mul,Nat.zero_add]
  rw[List.set_append_left _ _ (by rw[wU];exact ho),hx]
 | y :: es,i+1,h=>by
  have h':es[i]?=some x:=by simpa using h
  simp only[List.flatMap_cons,List.set_cons_succ]
  rw[List.set_append_right _ _ (by rw[wU,Nat.add_mul];omega),wU,show (i+1)*e+o - e=i*e+o by rw[Nat.add_mul];omega,Wy ho hx es i h']
theorem _root_.Go.Dx.Gro.isAt (h:Gro m v e wD es) {i:Nat} {x:Row e} (hi:es[i]?=some x):∃B,v=.slice (some ⟨B,0,some (code e false)⟩) es.length es.length/\B<m.n/\Arr m B (es.flatMap wD):=by
 rcases h with ⟨rfl,_⟩ | ⟨B,_,h2,_,h4,h5⟩
 ·simp at hi
 ·exact⟨B,h4,h2,h5⟩
theorem own1 {B:Nat} {l:List Value} (hm:m.base<=m.n) (h1:B<m.n) (h2:Arr m B l):Ow m m [B] [(B,l)]:=Ow.start hm (by simp;exact⟨h1,h2⟩) (by simp)
theorem _root_.Go.Dx.Gro.putRow (h:Gro m v e wD es) (hm:m.base<=m.n) (he:0<e) {i:Nat} {x:Row e} (hi:es[i]?=some x) (x':Row e) :
  ∃m',qD e (.pointer (some (adr e v i))) (.agg ⟨wD x'⟩) m=some (undef,m')/\Mc m m' (vO v)/\Gro m' v e wD (es.set i x')/\m'.n=m.n:=by
 obtain⟨B,rfl,h1,h2⟩:=h.isAt hi
 have il:=(qcw.1 hi).1
 have hfl:=wg (wU (e:=e)) es
 obtain⟨m',a1,a2,a3,a4⟩:=(own1 hm h1 h2).storeN 0 rfl (o:=0+i*e) he (wU x') (by rw[hfl,Nat.zero_add,<-Nat.succ_mul];exact qdd e il) (gV x')
 rw[Nat.zero_add,vC (rowEl he) x' il]at a2
 obtain⟨-,b1,b2⟩:=a2.get 0 rfl
 exact⟨m',a1,a2.mc,.inr ⟨B,Nat.zero_le _,b1,fun hc=>by rw[<-List.length_eq_zero_iff,List.length_set]at hc;omega,by rw[List.length_set],b2⟩,a3⟩
theorem _root_.Go.Dx.Gro.putCell (h:Gro m v e wD es) (hm:m.base<=m.n) (he:0<e) {i o:Nat} {x x':Row e} (hi:es[i]?=some x) (ho:o<e) {u:Value} (hu:okC u=true) (hx':wD x'=(wD x).set o u) :
  ∃m',qD 1 (.pointer (some ⟨(adr e v i).block,(adr e v i).off+o,none⟩)) u m=some (undef,m')/\Mc m m' (vO v)/\Gro m' v e wD (es.set i x')/\m'.n=m.n:=by
 obtain⟨B,rfl,h1,h2⟩:=h.isAt hi
 have il:=(qcw.1 hi).1
 have hfl:=wg (wU (e:=e)) es
 have hmul:(i+1)*e<=es.length*e:=qdd e il
 rw[Nat.add_mul,Nat.one_mul]at hmul
 obtain⟨m',a1,a2,a3,a4⟩:=(own1 hm h1 h2).store 0 rfl (o:=0+i*e+o) (v:=u) (by rw[hfl];omega) hu
 rw[Nat.zero_add,Wy ho hx' es i hi]at a2
 obtain⟨-,b1,b2⟩:=a2.get 0 rfl
 exact⟨m',a1,a2.mc,.inr ⟨B,Nat.zero_le _,b1,fun hc=>by rw[<-List.length_eq_zero_iff,List.length_set]at hc;omega,by rw[List.length_set],b2⟩,a3⟩
theorem _root_.Go.Dx.Gro.app1 (h:Gro m v e wD es) (hm:m.base<=m.n) (he:0<e) {x:Row e} {X:Nat} {sp:Option Nat} (hx:loads m ⟨X,0,sp⟩ e=some (wD x)) {bytes:Nat} (hs:(es.length+1)*bytes<=most) (hn:es.length+1<=4611686018427387904) :
  ∃v' m',wE m e bytes v (.slice (some ⟨X,0,sp⟩) 1 1)=some (v',m')/\Mc m m' (vO v)/\Gro m' v' e wD (es ++ [x])/\∀B,Dx.blk v'=some B->m.n<=B:=by
 obtain⟨v',m',h1,h2,h3,h4,h5,h6,h7⟩:=Grown.core h he wU gV hx (Nat.zero_le _) hs hn
 have lt:=h.lt
 have ow:Ow m m (vO v) []:=Ow.start hm (by simp) (by simp)
 refine⟨v',m',h1,(ow.kill (v:=v) (fun B hB=>.inl (ki.2 hB)) (by omega) h4 (h5.imp _root_.id fun ⟨B,b1,_,b3⟩=>⟨B,b1,b3⟩) h6 (by simp)).mc,h2,h7⟩
end
def n99:Row 2:=prR (9,9)
def n88:Row 2:=prR (8,8)
theorem bu_pr (a b:Int):wJ [zI,zI] [(0,1,.int .i64 a),(1,1,.int .i64 b)]=some (.agg ⟨[.int .i64 a,.int .i64 b]⟩):=rfl
set_option maxHeartbeats 1000000 in
theorem qbx (n:Nat) {m:M} (hm:m.base<=m.n) {v:Value} {es:List (Row 2)} (h:Gro m v 2 wD es) (hl:es.length<=1000000) :
  ∃u m',(ex Tryz.prog (n+1)).f 21 [v] m=some (u,m')/\Mc m m' (vO v):=by
 suffices H:∃u m',(ex Tryz.prog (n+1)).f 21 [v] m=some (u,m')/\Mc m m' (vO v) from H
 refine qA (Q:=fun u m'=>Mc m m' (vO v)) db0_ok (by simp) ?_
 have ln:=h.len
 simp[ln]
 refine qE (c:=cb0_6) rfl (zj _) (fun i t m'=>Tm.get 0 t=v/\Tm.get 2 t=iv i/\m'.base<=m'.n/\Mc m m' (vO v)/\∃es':List (Row 2),es'.length=es.length/\Gro m' v 2 wD es') es.length (by omega)
  ⟨by simp,by simp,hm,Mc.refl,es,rfl,h⟩ (fun i t m' k hi hI hk=>?_)
 obtain⟨t0,t2,hb,mc,es',l',g⟩:=hI
 by_cases hil:i<es.length
 ·have d1:((i:Int)<(es.length:Int))=True:=eq_true (by omega)
  have w1:=qZ (i:=i) (by omega)
  obtain⟨x,hx⟩:∃x,es'[i]?=some x:=⟨_,qcu (by omega)⟩
  obtain⟨x1,-,-⟩:=(Grown.rd wU g).at hx
  obtain⟨m2,a1,a2,a3,a4⟩:=g.putRow hb (by omega) hx n99
  have a1:qD 2 (.pointer (some (adr 2 v i))) (.agg ⟨[.int .i64 9,.int .i64 9]⟩) m'=some (undef,m2):=a1
  have bu:=bu_pr 9 9
  simp[t0,t2,ln,d1,hil,bu,x1,a1,w1]
  exact hk hil _ _ ⟨by simp[t0],by simp,by rw[a2.base,a4];exact hb,mc.trans a2,_,by rw[List.length_set];exact l',a3⟩
 obtain rfl:i=es.length:=by omega
 simp[t0,t2,ln]
 refine qE (c:=FU) rfl (zj _) (fun i t m'=>Tm.get 3 t=iv i/\m'.base<=m'.n/\Mc m m' (vO v)/\∃(v':Value) (es':List (Row 2)),Tm.get 0 t=v'/\es'.length<=es.length+i/\Gro m' v' 2 wD es'/\∀B,Dx.blk v'=some B->Dx.blk v=some B\/m.n<=B) 5 (by omega)
  ⟨by simp,hb,mc,v,es',by simp[t0],by omega,g,fun B hB=>.inl hB⟩ (fun i t m' k hi hI hk=>?_)
 obtain⟨t3,hb,mc,v',es',t0,l',g,hv⟩:=hI
 by_cases hil:i<5
 ·have d1:((i:Int)<5)=True:=eq_true (by omega)
  have w1:=qZ (i:=i) (by omega)
  have bs:=yR m' 8 8
  have bs':zP 2 1 (rep 1 [zI,zI]) [(0,2,.agg ⟨[.int .i64 8,.int .i64 8]⟩)] m'=some (.slice (some ⟨m'.n,0,some 5⟩) 1 1,Dx.newRow m' [.int .i64 8,.int .i64 8]):=bs
  have e0:Ext m' (Dx.newRow m' [.int .i64 8,.int .i64 8]):=Ext.row m' _
  have lx:loads (Dx.newRow m' [.int .i64 8,.int .i64 8]) ⟨m'.n,0,some 5⟩ 2=some (wD n88):=(Arr.row m' [.int .i64 8,.int .i64 8]).loads (o:=0) (n:=2) (by simp)
  have hb0:(Dx.newRow m' [.int .i64 8,.int .i64 8]).base<=(Dx.newRow m' [.int .i64 8,.int .i64 8]).n:=by rw[e0.base];exact qd6 hb e0.n
  obtain⟨v2,m2,a1,a2,a3,a4⟩:=Gro.app1 (Grown.ext g e0) hb0 (by omega) lx (bytes:=16) (by unfold most;omega) (by omega)
  have bu:=bu_pr 8 8
  have mc0:Mc m (Dx.newRow m' [.int .i64 8,.int .i64 8]) (vO v):=mc.tr2 (W':=[]) ⟨e0.n,fun B hB _=>e0.obj B hB,e0.base,fun B hB=>.inl (by rw[<-e0.log];exact hB),fun _=>e0.log⟩ (by simp) hm
  have mn:=mc.n
  have en:=e0.n
  simp[t0,t3,d1,hil,bu,bs',a1,w1]
  refine hk hil _ _ ⟨by simp,by rw[a2.base];exact qd6 hb0 a2.n,mc0.tr2 a2 (fun B hB=>?_) hm,v2,_,by simp,by simp;omega,a3,fun B hB=>.inr (by have:=a4 B hB;omega)⟩
  exact (hv B (ki.1 hB)).imp ki.2 _root_.id
 obtain rfl:i=5:=by omega
 simp[t3]
 exact kX mc
end Go.Sx
namespace Go.Sx
open Go.Dx Go.Proofs
set_option maxRecDepth 10000
def XT (x:Nat):Row 1:=⟨jm x,rfl,by simp[jm,okC]⟩
section
variable {α:Type} {m0 m m':M} {v:Value} {e:Nat} {f:α->List Value} {es:List α}
theorem _root_.Go.Dx.Rd.extE (h:Rd m v e f es) (k:Ext m m'):Rd m' v e f es:=h.congr k.n fun B hB=>k.obj B (h.lt B hB)
theorem Dy (m:M) (es:List α) (he:0<e) (hf:∀x,(f x).length=e):Rd (Dx.newRow m (es.flatMap f)) (.slice (some ⟨m.n,0,some (code e true)⟩) es.length es.length) e f es:=by
 have hfl:=wg hf es
 have ha:Arr (Dx.newRow m (es.flatMap f)) m.n (es.flatMap f):=Arr.row m _
 refine⟨rfl,fun i r hr=>?_,?_,fun B hB=>by cases hB;show m.n<_;rw[qv];omega⟩
 ·have hi:i<es.length:=(qcw.1 hr).1
  refine⟨?_,by show m.n<_;rw[qv];omega,?_⟩
  ·show (bif Nat.blt i es.length then fF (i*e) _ else none)=_
   rw[show Nat.blt i es.length=true from qd2 hi];rfl
  ·show loads _ ⟨m.n,0+i*e,none⟩ e=_
   have:i*e+e<=es.length*e:=by rw[<-Nat.succ_mul];exact qdd e hi
   rw[ha.loads (by omega),Nat.zero_add,jD hf es i r hr]
 ·show loads _ ⟨m.n,0,some (code e true)⟩ (es.length*e)=_
  rw[ha.loads (by omega),List.drop_zero,<-hfl,List.take_length]
theorem Grown.sp (h:Grown m0 m v e f es):Sp e v:=by
 rcases h with ⟨_,rfl⟩ | ⟨B,_,_,_,rfl,_⟩
 ·exact .inl rfl
 ·exact .inr ⟨B,0,_,_,false,rfl,qcx _⟩
theorem Grown.ltB (h:Grown m0 m v e f es) {B:Nat} (hB:blk v=some B):m0.n<=B/\B<m.n:=by
 rcases h with ⟨_,rfl⟩ | ⟨B',h1,h2,_,rfl,_⟩
 ·cases hB
 ·cases hB;exact⟨h1,h2⟩
theorem qaj {ws:List Nat} (h:Grown m0 m v 1 jm ws):Gro m v 1 wD (ws.map XT):=by
 rcases h with ⟨rfl,rfl⟩ | ⟨B,h1,h2,h3,rfl,h4⟩
 ·exact .inl ⟨rfl,rfl⟩
 ·refine .inr ⟨B,Nat.zero_le _,h2,by simpa using h3,by rw[List.length_map],?_⟩
  rw[List.flatMap_map];exact h4
end
section
variable {m0 m m':M} {P:Nat} {s s':Mch} {g g':Gh} {S S':PM}
theorem Mc.ofExt {W:List Nat} (e:Ext m m'):Mc m m' W:=⟨e.n,fun B hB _=>e.obj B hB,e.base,fun B hB=>.inl (by rw[<-e.log];exact hB),fun _=>e.log⟩
theorem RL.behindR (h:RL m' s S):RL (Dx.behind m m') s S:=h.kp (D:=[]) ⟨by rw[qU];exact qcx _,fun B _ _=>qy _ _ _⟩ (by simp)
theorem RL.anyR (h:RL m s S):RL (qg m) s S:=h.kp (D:=[]) ⟨by rw[qp];exact qcx _,fun B _ _=>qu _ _⟩ (by simp)
theorem ML.anyM (h:ML m P s g S):ML (qg m) P s g S:=h.mx.mlAny
theorem RL.keepM {V:List Nat} (h:RL m s S) (k:Mc m m' V) (hV:∀F,F<6->∀B,blk (lst s F)=some B->B ∉ V):RL m' s S:=h.kp (D:=V) ⟨k.n,k.obj⟩ hV
theorem RL.setF (h:RL m s S) {F:Nat} (hF:F<6) (k:Mc m m' (vO (lst s F))) {v:Value} (hn:Gro m' v (esz F) wD (rowsOf S' F)) (hv:∀B,blk v=some B->m.n<=B) (ho:∀G,G<6->G≠F->rowsOf S' G=rowsOf S G):RL m' (vn s F v) S':=by
 have old:∀G,G<6->G≠F->Gro m' (lst s G) (esz G) wD (rowsOf S' G):=fun G hG e=>by
  rw[ho G hG e]
  exact (h.ls G hG).keep k.n fun B hB hb=>k.obj B hB fun hc=>h.dis G F hG hF e B hb (ki.1 hc)
 refine⟨fun G hG=>?_,fun G H hG hH hne B hB hc=>?_⟩
 ·by_cases e:G=F
  ·subst e;rw[xv s hG];exact hn
  ·rw[zh s hF hG e];exact old G hG e
 ·by_cases e:G=F
  ·subst e
   rw[xv s hG]at hB
   rw[zh s hG hH (Ne.symm hne)]at hc
   have:=hv B hB
   have:=(h.ls H hH).lt B hc
   omega
  ·rw[zh s hF hG e]at hB
   by_cases e2:H=F
   ·subst e2
    rw[xv s hF]at hc
    have:=hv B hc
    have:=(h.ls G hG).lt B hB
    omega
   ·rw[zh s hF hH e2]at hc
    exact h.dis G H hG hH hne B hB hc
def runB (s:Mch):List Nat:=(List.range 6).flatMap fun F=>vO (lst s F)
theorem Ja {B:Nat}:B∈runB s ↔ ∃F,F<6/\blk (lst s F)=some B:=by
 unfold runB
 rw[List.mem_flatMap]
 constructor
 ·rintro ⟨F,hF,h⟩;exact⟨F,List.mem_range.1 hF,ki.1 h⟩
 ·rintro ⟨F,hF,h⟩;exact⟨F,List.mem_range.2 hF,ki.2 h⟩
end
structure KI (mB m:M) (A:Nat) (V:List Nat) (q:Mch) (S:PM):Prop where
 b0:mB.base<=mB.n
 mc:Mc mB m V
 lt:A<mB.n
 arr:Arr m A (qP q)
 rl:RL m q S
 AV:A∈V
 bl:∀F,F<6->∀B,blk (lst q F)=some B->(B∈V\/mB.n<=B)/\B≠A
theorem KI.base {mB m:M} {A:Nat} {V:List Nat} {q:Mch} {S:PM} (h:KI mB m A V q S):m.base<=m.n:=by rw[h.mc.base];exact qd6 h.b0 h.mc.n
theorem KI.ld {mB m:M} {A:Nat} {V:List Nat} {q:Mch} {S:PM} (h:KI mB m A V q S) (o:Nat):load1 m ⟨A,o,none⟩=(qP q)[o]?:=h.arr.load1 o none
theorem DI (q:Mch) {F:Nat} (hF:F<6) (v:Value):(qP q).set F v=qP (vn q F v):=by rcases six hF with rfl | rfl | rfl | rfl | rfl | rfl<;>rfl
theorem KI.push {mB m:M} {A:Nat} {V:List Nat} {q:Mch} {S S':PM} (h:KI mB m A V q S) {F:Nat} (hF:F<6) {r:Row (esz F)} (hr:rowsOf S' F=rowsOf S F ++ [r]) (ho:∀G,G<6->G≠F->rowsOf S' G=rowsOf S G) {bytes:Nat} (hz:((rowsOf S F).length+1)*bytes<=most) (hn:(rowsOf S F).length+1<=4611686018427387904) (sp:Option Nat) :
  ∃v' m2 m3,wE (Dx.newRow m (wD r)) (esz F) bytes (lst q F) (.slice (some ⟨m.n,0,sp⟩) 1 1)=some (v',m2)/\qD 1 (.pointer (some ⟨A,F,none⟩)) v' m2=some (undef,m3)/\load1 m2 ⟨A,F,none⟩=some (lst q F)/\KI mB m3 A V (vn q F v') S':=by
 have e0:Ext m (Dx.newRow m (wD r)):=Ext.row m _
 have hb0:(Dx.newRow m (wD r)).base<=(Dx.newRow m (wD r)).n:=by rw[e0.base];exact qd6 h.base e0.n
 have lx:loads (Dx.newRow m (wD r)) ⟨m.n,0,sp⟩ (esz F)=some (wD r):=by
  have:=(Arr.row m (wD r)).loads (o:=0) (n:=esz F) (s:=sp) (by rw[wU];omega)
  rw[List.drop_zero,List.take_of_length_le (by rw[wU];omega)]at this
  exact this
 have r0:=h.rl.ext e0
 obtain⟨v',m2,a1,a2,a3,a4⟩:=(r0.ls F hF).app1 hb0 (Kr F) lx hz hn
 have mn:=h.mc.n
 have en:=e0.n
 have An:A<m.n:=qcz h.lt mn
 have hA:∀B,blk (lst q F)=some B->B≠A:=fun B hB=>(h.bl F hF B hB).2
 have arr2:Arr m2 A (qP q):=(h.arr.congr (e0.obj A An)).congr (a2.obj A (by omega) fun hc=>hA A (ki.1 hc) rfl)
 have a2n:=a2.n
 have hb2:m2.base<=m2.n:=by rw[a2.base];exact qd6 hb0 a2n
 have r2:RL m2 (vn q F v') S':=r0.setF hF a2 (by rw[hr];exact a3) a4 ho
 have hlen:F<(qP q).length:=by simp[qP];omega
 have okv:okC v'=true:=Grown.okC a3
 obtain⟨m3,b1,b2,b3,b4⟩:=(own1 hb2 (by omega) arr2).store 0 rfl (o:=F) (v:=v') hlen okv
 rw[show ([(A,qP q)]:List (Nat × List Value)).set 0 (A,(qP q).set F v')=[(A,(qP q).set F v')] from rfl,DI q hF v']at b2
 have bl':∀G,G<6->∀B,blk (lst (vn q F v') G)=some B->(B∈V\/mB.n<=B)/\B≠A:=fun G hG B hB=>by
  by_cases e:G=F
  ·subst e
   rw[xv q hG]at hB
   have:=a4 B hB
   exact⟨.inr (by omega),by omega⟩
  ·rw[zh q hF hG e]at hB;exact h.bl G hG B hB
 refine⟨v',m2,m3,a1,b1,?_,h.b0,?_,h.lt,(b2.get 0 rfl).2.2,r2.keepM b2.mc (fun G hG B hB hc=>?_),h.AV,bl'⟩
 ·rw[arr2.load1]
  rcases six hF with rfl | rfl | rfl | rfl | rfl | rfl<;>rfl
 ·refine ((h.mc.tr2 (Mc.ofExt (W:=[]) e0) (by simp) h.b0).tr2 a2 (fun B hB=>?_) h.b0).tr2 b2.mc (fun B hB=>by simp at hB;rw[hB];exact .inl h.AV) h.b0
  exact (h.bl F hF B (ki.1 hB)).1
 ·simp at hc
  exact (bl' G hG B hB).2 hc
structure KL (mB m:M) (A:Nat) (V:List Nat) (q:Mch) (lo:Nat):Prop where
 b0:mB.base<=mB.n
 mc:Mc mB m V
 lt:A<mB.n
 arr:Arr m A (qP q)
 gs:∀F,lo<=F->1<=F->F<5->∃es:List (Row 2),Gro m (lst q F) 2 wD es/\es.length<=1000000
 dis:∀F G,F<6->G<6->F≠G->∀B,blk (lst q F)=some B->blk (lst q G)≠some B
 bl:∀F,F<6->∀B,blk (lst q F)=some B->(B∈V\/mB.n<=B)/\B≠A
theorem KI.kl {mB m:M} {A:Nat} {V:List Nat} {q:Mch} {S:PM} (h:KI mB m A V q S) (h1:S.rmw.length<=1000000) (h2:S.addr.length<=1000000) (h3:S.data.length<=1000000) (h4:S.ctrl.length<=1000000):KL mB m A V q 1 :=
 ⟨h.b0,h.mc,h.lt,h.arr,fun F _ hF1 hF=>by
  rcases (by omega:F=1\/F=2\/F=3\/F=4) with rfl | rfl | rfl | rfl
  ·exact⟨_,h.rl.ls 1 (by omega),by show (rowsOf S 1).length<=_;rw[vG];exact h1⟩
  ·exact⟨_,h.rl.ls 2 (by omega),by show (rowsOf S 2).length<=_;rw[yW];exact h2⟩
  ·exact⟨_,h.rl.ls 3 (by omega),by show (rowsOf S 3).length<=_;rw[yX];exact h3⟩
  ·exact⟨_,h.rl.ls 4 (by omega),by show (rowsOf S 4).length<=_;rw[yY];exact h4⟩,h.rl.dis,h.bl⟩
theorem KL.spoil (n:Nat) {mB m:M} {A:Nat} {V:List Nat} {q:Mch} {F:Nat} (h:KL mB m A V q F) (h1:1<=F) (h5:F<5) :
  load1 m ⟨A,F,none⟩=some (lst q F)/\∃u m',(xA (n+40)).f 21 [lst q F] m=some (u,m')/\KL mB m' A V q (F+1):=by
 obtain⟨es,g,gl⟩:=h.gs F (qcx _) h1 h5
 have hb:m.base<=m.n:=by rw[h.mc.base];exact qd6 h.b0 h.mc.n
 obtain⟨u,m',a1,a2⟩:=qbx (n+39) hb g gl
 have hF6:F<6:=by omega
 refine⟨?_,u,m',by rw[xA_f _ _ _ _ (by decide)];exact a1,h.b0,h.mc.tr2 a2 (fun B hB=>(h.bl F hF6 B (ki.1 hB)).1) h.b0,h.lt,h.arr.congr (a2.obj _ (qcz h.lt h.mc.n) fun hc=>(h.bl F hF6 _ (ki.1 hc)).2 rfl),fun G hG hG1 hG5=>?_,h.dis,h.bl⟩
 ·rw[h.arr.load1]
  rcases six hF6 with rfl | rfl | rfl | rfl | rfl | rfl<;>rfl
 ·obtain⟨es',g',gl'⟩:=h.gs G (by omega) hG1 hG5
  exact⟨es',g'.keep a2.n fun B hB hb=>a2.obj B hB fun hc=>h.dis G F (by omega) hF6 (by omega) B hb (ki.1 hc),gl'⟩
theorem XY (e:Nat) (v:Value) (i:Nat):(⟨(adr e v i).block,(adr e v i).off,none⟩:Addr)=adr e v i:=by unfold adr;split<;>rfl
theorem ev99 {x:EvR}:wD (evR { x with val:=99 })=(wD (evR x)).set 3 (.int .u64 99):=rfl
theorem bs_w2 (m:M) (a b:Int):zP 1 2 (rep 2 [.int .u32 0]) [(0,1,.int .u32 a),(1,1,.int .u32 b)] m=some (.slice (some ⟨m.n,0,some 3⟩) 2 2,Dx.newRow m [.int .u32 a,.int .u32 b]):=rfl
theorem bs_w1 (m:M) (a:Int):zP 1 1 (rep 1 [zU]) [(0,1,.int .u64 a)] m=some (.slice (some ⟨m.n,0,some 3⟩) 1 1,Dx.newRow m [.int .u64 a]):=rfl
theorem bu_e9:wJ [zI,zI,zI,zU,zI] [(1,1,.int .i64 9)]=some (.agg ⟨zJ ⟨0,9,0,0,0⟩⟩):=rfl
end Go.Sx
namespace Go.Sx
open Go.Dx Go.Proofs
set_option maxRecDepth 10000
set_option maxHeartbeats 8000000 in
theorem CpuKept_c (n:Nat) {m:M} (hm:m.base<=m.n) {wl rl bl:Value} {ws rs:List Nat} {wins:List Bool} (hws:Rd m wl 1 jm ws) (hrs:Rd m rl 1 zG rs) (hbs:Rd m bl 1 VZ wins) (sbl:Sp 1 bl) (hv:∀v∈rs,v<W64) (zw0:ws.length*4+4096<=most) (zr0:rs.length*8+4096<=most) :
  CallV (Ex.step Tryz.prog (xA (n+40))) 7 [wl,rl,bl] m (.bool true):=by
 refine step_ret da0_ok (by simp) ?_
 have aw0:=xA_aw (n+40) m
 have zw:ws.length*4+4096<=140737488355328:=zw0
 have zr:rs.length*8+4096<=140737488355328:=zr0
 obtain⟨w1,m1,a1,a2,a3⟩:=Qc hws 4 (by unfold most;omega) (by omega)
 have eW:Ext m1 (Dx.newRow m1 [.int .u32 201,.int .u32 202]):=Ext.row m1 _
 have rW:Rd (Dx.newRow m1 [.int .u32 201,.int .u32 202]) (.slice (some ⟨m1.n,0,some 3⟩) 2 2) 1 jm [201,202]:=Dy m1 (e:=1) (f:=jm) [201,202] (by omega) (fun _=>rfl)
 obtain⟨w2,m2,b1,b2,b3,-,-,b4⟩:=Grown.appendN (a3.ext eW) (a2.trans eW) hm (by omega) (fun _=>rfl) (fun x v hv=>by simp[jm]at hv;subst hv;rfl) rW (by simp) (bytes:=4) (by unfold most;simp;omega) (by simp;omega)
 have hm2:m2.base<=m2.n:=((Sees.refl hm).ext b2).base
 obtain⟨l1,m3,c1,c2,c3⟩:=Qc (hrs.extE b2) 8 (by unfold most;omega) (by omega)
 have eL:Ext m3 (Dx.newRow m3 [.int .u64 203]):=Ext.row m3 _
 have rL:Rd (Dx.newRow m3 [.int .u64 203]) (.slice (some ⟨m3.n,0,some 3⟩) 1 1) 1 zG [203]:=Dy m3 (e:=1) (f:=zG) [203] (by omega) (fun _=>rfl)
 obtain⟨l2,m4,d1,d2,d3,-,-,d4⟩:=Grown.appendN (c3.ext eL) (c2.trans eL) hm2 (by omega) (fun _=>rfl) (fun x v hv=>by simp[zG]at hv;subst hv;rfl) rL (by simp) (bytes:=8) (by unfold most;simp;omega) (by simp;omega)
 have E4:Ext m m4:=b2.trans d2
 have hm4:m4.base<=m4.n:=((Sees.refl hm).ext E4).base
 have gw:Grown m m4 w2 1 jm (ws ++ [201,202]):=b3.ext d2
 have b1':wE (Dx.newRow m1 [.int .u32 201,.int .u32 202]) 1 4 w1 (.slice (some ⟨m1.n,0,some 3⟩) 2 2)=some (w2,m2):=b1
 have d1':wE (Dx.newRow m3 [.int .u64 203]) 1 8 l1 (.slice (some ⟨m3.n,0,some 3⟩) 1 1)=some (l2,m4):=d1
 have bsW:=bs_w2 m1 201 202
 have bsL:=bs_w1 m3 203
 have rdw:Rd m4 w2 1 jm (ws ++ [201,202]):=Grown.rd (fun _=>rfl) gw
 have rdl:Rd m4 l2 1 zG (rs ++ [203]):=Grown.rd (fun _=>rfl) d3
 obtain⟨wa,wn,wc,e1,e2,e3,e4⟩:=rdw.take (Grown.sp gw) (fun _=>rfl) (k:=ws.length) (by simp)
 obtain⟨la,ln,lc,e5,e6,e7,-⟩:=rdl.take (Grown.sp d3) (fun _=>rfl) (k:=rs.length) (by simp)
 rw[List.take_left]at e2 e6
 have lw:=hws.len
 have lr:=hrs.len
 have kA:∀{α:Type} {u:Value} {e:Nat} {g:α->List Value} {es:List α} {mp mq:M},Rd mp u e g es->Ext mp mq->Rd (qg mq) u e g es:=fun h e=>h.congr (by rw[qp];exact e.n) fun B hB=>by rw[qu];exact e.obj B (h.lt B hB)
 obtain⟨v5,x5,f1,f0,f2,f3⟩:=qn ((Fz (n+5) (qF m4) (kA e2 (Ext.refl _)) (kA e6 (Ext.refl _)) (kA hbs E4) e7 sbl hv (fuel:=1000) (by omega)).xA (by decide))
 obtain⟨m5,hm5⟩:=qdi (Dx.behind m4 x5)
 rw[<-hm5]at f2
 have f1:(xA (n+40)).f 16 [.slice wa wn wc,.slice la ln lc,bl,.int .i64 1000] (qg m4)=some (v5,x5):=f1
 have st5:=((St.nil hm4 (Ext.refl m4)).step f2).row z9
 have Z9:z9=[zS,zS,zS,zS,zS,zS,zI,zI,zI]:=rfl
 rcases f3 with ⟨he,rfl⟩ | ⟨he,q1,rfl,r1,-,-,-,-⟩
 ·obtain⟨x6,g1,g0,st6,g2,g3⟩:=st5.fillAny 0 rfl (n:=9) (l':=z9) (by omega) rfl rfl (by simp[okC])
  obtain⟨m6,hm6⟩:=qdi (Dx.behind (Dx.newRow m5 z9) x6)
  rw[<-hm6]at st6
  have hm6':=hm6.symm
  rw[Z9]at g1 hm6'
  obtain⟨v7,m7,h1,h2,h3⟩:=(XX (n+34) st6.sees.base (e2.extE st6.ext)).xA (g:=9) (by decide)
  rcases h3 with ⟨he',-⟩ | ⟨-,rfl⟩
  ·exact absurd he' he
  have st7:=st6.step h2
  have b2:loads m7 ⟨m5.n,0,none⟩ 9=some z9:=(st7.get 0 rfl).2.2.loads (o:=0) (n:=9) (by simp)
  have hne:(vl ws=0)=False:=eq_false he
  obtain⟨v8,m8,i1,i2,rfl⟩:=(qab (n+36) st7.sees.base).xA (g:=17) (by decide)
  rw[Z9]at b2 i1
  simp[aw0,a1,bsW,b1',c1,bsL,d1',lw,lr,QS,e1,e5,f1,f0,<-hm5,g1,g0,hm6',h1,hne,qe,b2,i1]
  exact qN (E4.trans (st7.ext.trans i2)) (by simp)
 obtain⟨x6,g1,g0,st6,g2,g3⟩:=st5.fillAny 0 rfl (n:=9) (l':=qP q1) (by omega) rfl rfl r1.ok
 obtain⟨m6,hm6⟩:=qdi (Dx.behind (Dx.newRow m5 z9) x6)
 rw[<-hm6]at st6
 have hm6':=hm6.symm
 rw[Z9]at g1 hm6'
 obtain⟨v7,m7,h1,h2,h3⟩:=(XX (n+34) st6.sees.base (e2.extE st6.ext)).xA (g:=9) (by decide)
 obtain⟨-,P,lv,rfl,hP,ml7,hlv⟩:=h3.resolve_right (fun h=>h.1 he)
 have E47:Ext m4 m7:=st6.ext.trans h2
 simp[aw0,a1,bsW,b1',c1,bsL,d1',lw,lr,QS,e1,e5,f1,f0,<-hm5,g1,g0,hm6',h1]
 have E7:Ext m m7:=E4.trans E47
 have hm7:=st6.sees.base
 obtain⟨O,hO⟩:=qdi ((ws ++ [201,202]).map XT)
 have Ol:O.length=ws.length+2:=by rw[hO];simp
 have gw7:Gro m7 w2 1 wD O:=by rw[hO];exact qaj (gw.ext E47)
 have wB:∀B∈vO w2,m.n<=B/\B<m2.n:=fun B hB=>Grown.ltB b3 (ki.1 hB)
 have n24:m2.n<=m4.n:=d2.n
 have n47:m4.n<=m7.n:=E47.n
 have n46:m4.n<=m6.n:=st6.ext.n
 have hb7:m7.base<=m7.n:=((Sees.refl hm).ext E7).base
 have wRow:∀{mq:M} {es':List (Row 1)} {j x:Nat},mq.base<=mq.n->Gro mq w2 1 wD es'->es'[j]?=some (XT x)->je 1 w2 (iv j)=some (.pointer (some (adr 1 w2 j)))/\load1 mq (adr 1 w2 j)=some (wv x):=fun {mq es' j x} hq g hx=>by
  obtain⟨x1,-,x3⟩:=(Grown.rd wU g).at hx
  have y:=x3 mq 0 none (Sees.refl hq) (by rw[wU];omega)
  rw[Nat.add_zero,XY]at y
  exact⟨x1,y⟩
 refine qE (c:=FK) rfl (Ret m _) (fun i t m'=>Tm.get 0 t=wl/\Tm.get 1 t=rl/\Tm.get 7 t=w2/\Tm.get 8 t=l2/\Tm.get 11 t=mP P/\Tm.get 13 t=iv i/\Mc m7 m' (vO w2)/\∃es':List (Row 1),Gro m' w2 1 wD es'/\es'.length=O.length/\∀j,i<=j->es'[j]?=O[j]?) ws.length (by omega)
  ⟨by simp,by simp,by simp,by simp,by simp,by simp,Mc.refl,O,gw7,rfl,fun _ _=>rfl⟩ (fun i t m' k hi hI hk=>?_)
 obtain⟨t0,t1,t7,t8,t11,t13,mc,es',g,gl,ge⟩:=hI
 have E:Ext m m':=ya E7 mc (fun B hB=>(wB B hB).1) hm
 have hb:m'.base<=m'.n:=((Sees.refl hm).ext E).base
 by_cases hil:i<ws.length
 ·have dd:((i:Int)<(ws.length:Int))=True:=eq_true (by omega)
  have w1:=qZ (i:=i) (by omega)
  obtain⟨x,hx⟩:∃x,ws[i]?=some x:=⟨_,qcu hil⟩
  have hxe:es'[i]?=some (XT x):=by rw[ge i (qcx _),hO,qda,qd8 hil,hx];rfl
  obtain⟨x1,x2⟩:=wRow hb g hxe
  obtain⟨y1,y2⟩:=Rd.at1 (g:=fun (x:Nat)=>wv x) (hws.extE E) hx
  have y2':load1 m' (adr 1 wl i)=some (wv x):=y2 m' (Sees.refl hb)
  obtain⟨m8,s1,s2,s3,s4⟩:=g.putCell hb (by omega) (o:=0) (x':=XT 0) hxe (by omega) (u:=.int .u32 0) rfl rfl
  rw[Nat.add_zero,XY]at s1
  simp[t0,t7,t13,lw,dd,hil,x1,x2,y1,y2',s1,w1]
  exact hk hil _ _ ⟨by simp[t0],by simp[t1],by simp[t7],by simp[t8],by simp[t11],by simp,mc.trans s2,_,s3,by rw[List.length_set];exact gl,fun j hj=>by rw[List.getElem?_set_ne (by omega)];exact ge j (by omega)⟩
 obtain rfl:i=ws.length:=by omega
 have x201:es'[ws.length]?=some (XT 201):=by rw[ge _ (qcx _),hO,qda,qd9 (qcx _)];simp
 have x202:es'[ws.length+1]?=some (XT 202):=by rw[ge _ (by omega),hO,qda,qd9 (by omega)];simp
 obtain⟨p1,p2⟩:=wRow hb g x201
 obtain⟨p3,p4⟩:=wRow hb g x202
 have wn1:=qZ (i:=ws.length) (by omega)
 obtain⟨z1,hz1⟩:∃z:Int,z=((ws.length+1:Nat):Int):=⟨_,rfl⟩
 rw[<-hz1]at wn1
 have p3:je 1 w2 (.int .i64 z1)=some (.pointer (some (adr 1 w2 (ws.length+1)))):=by rw[hz1];exact p3
 have rdl':Rd m' l2 1 zG (rs ++ [203]):=(rdl.extE E47).congr mc.n fun B hB=>mc.obj B (by have:=(Grown.ltB d3 hB).2;omega) fun hc=>by have:=(wB B hc).2;have:=(Grown.ltB d3 hB).1;omega
 obtain⟨p5,p6⟩:=Rd.at1 (g:=fun (x:Nat)=>uv x) rdl' (i:=rs.length) (r:=203) (by rw[qd9 (qcx _)];simp)
 have p6':load1 m' (adr 1 l2 rs.length)=some (uv 203):=p6 m' (Sees.refl hb)
 have mlL:ML m' P (jM lv) gh0 (Jd ws):=ml7.keepM mc (fun B hB hc=>by
  have:=(wB B hB).2
  rcases wG.1 hc with rfl | hL
  ·omega
  ·exact absurd hL fQ) (fun B hB hc=>by
  have:=(wB B hB).2
  have:=hlv B (KF hc)
  omega)
 have ownP:∀B∈own P (jM lv),m6.n<=B:=fun B hB=>by
  rcases wG.1 hB with rfl | hL
  ·exact hP
  ·exact absurd hL fQ
 have w0:=VF he
 obtain⟨SR,hSR⟩:=qdi (vB (Jd ws) rs)
 have wR:WF SR:=by rw[hSR];exact Qu w0 hv
 have oR:SR.outs.length<=rs.length:=by
  have:=fH w0 hv
  have h0:(Jd ws).outs.length=0:=rfl
  rw[hSR];omega
 have oR8:SR.outs.length*8<=most:=by unfold most;omega
 have h0:(Jd ws).outs.length=0:=rfl
 have nm:m.n<=m6.n:=qd6 E4.n n46
 have rlB:∀B,blk rl=some B->B<m.n:=fun B hB=>hrs.lt B hB
 obtain⟨u8,m8,s8,g8,q1,q2,-⟩:=Bo (n+6) mlL w0 (hrs.extE E) (fun B hB hc=>by have:=ownP B hc;have:=rlB B hB;omega) hv (by rw[h0];unfold most;omega)
 rw[<-hSR]at q2
 have q1:(xA (n+40)).f 10 [mP P,rl] m'=some (u8,m8):=by rw[xA_f _ _ _ _ (by decide)];exact q1
 have E8:Ext m m8:=ya E q2.mc (fun B hB=>by have:=ownP B hB;omega) hm
 have hb8:m8.base<=m8.n:=((Sees.refl hm).ext E8).base
 have ml8:ML m8 P s8 g8 SR:=⟨hb8,q2.mat,q2.hp,q2.sc⟩
 obtain⟨va,m9,r1,r2,qa,rfl,ra,na,sa1,sa2,sa3⟩:=(Zm (n+7) ml8 wR (JI wR oR8)).xA (g:=14) (by decide)
 have st9:=((St.nil hb8 (Ext.refl m8)).step r2).row z9
 obtain⟨m10,k1,st10,k2,k3⟩:=st9.fill 0 rfl (n:=9) (l':=qP qa) rfl rfl ra.ok
 rw[Z9]at k1
 have ml10:=ml8.extM st10.ext
 obtain⟨vb,m11,r3,r4,qb,rfl,rb,nb,sb1,sb2,sb3⟩:=(Zm (n+7) ml10 wR (JI wR oR8)).xA (g:=14) (by decide)
 have st11:=(st10.step r4).row z9
 obtain⟨m12,k4,st12,k5,k6⟩:=st11.fill 0 rfl (n:=9) (l':=qP qb) rfl rfl rb.ok
 rw[Z9]at k4
 simp[t0,t1,t7,t8,t11,t13,lw,lr,p1,p2,wn1,p3,p4,p5,p6',q1,r1,k1,r3,k4]
 have n9:m10.n=m9.n+1:=by rw[k2,qv]
 have n11:m12.n=m11.n+1:=by rw[k5,qv]
 have n89:m8.n<=m9.n:=r2.n
 have n1011:m10.n<=m11.n:=r4.n
 have aLt:∀F,F<6->∀B,blk (lst qa F)=some B->m8.n<=B/\B<m9.n:=fun F hF B hB=>⟨na F hF B hB,(ra.ls F hF).lt B hB⟩
 have bLt:∀F,F<6->∀B,blk (lst qb F)=some B->m10.n<=B/\B<m11.n:=fun F hF B hB=>⟨nb F hF B hB,(rb.ls F hF).lt B hB⟩
 have ra12:RL m12 qa (vm SR):=ra.kp (D:=[m9.n,m11.n]) (((Ext.row m9 z9).kp.trans (Kp.put k2 k3 (by simp))).trans (r4.kp.trans ((Ext.row m11 z9).kp.trans (Kp.put k5 k6 (by simp))))) fun F hF B hB hc=>by
  have:=aLt F hF B hB
  simp at hc;omega
 have rb12:RL m12 qb (vm SR):=rb.kp (D:=[m11.n]) ((Ext.row m11 z9).kp.trans (Kp.put k5 k6 (by simp))) fun F hF B hB hc=>by
  have:=bLt F hF B hB
  simp at hc;omega
 have E812:=st12.ext
 have hb12:=st12.sees.base
 have ml12:ML m12 P s8 g8 SR:=ml8.extM E812
 obtain⟨V,hV⟩:=qdi (m9.n :: runB qa)
 have Vr:∀B∈V,m8.n<=B/\B<m10.n:=fun B hB=>by
  rw[hV]at hB
  rcases List.mem_cons.1 hB with rfl | hB
  ·omega
  ·obtain⟨F,hF,hB⟩:=Ja.1 hB
   have:=aLt F hF B hB;omega
 have arA:m9.n<m12.n/\Arr m12 m9.n (qP qa):=(st12.get 1 rfl).2
 have arB:Arr m12 m11.n (qP qb):=(st12.get 0 rfl).2.2
 have sz:=qc5 wR oR8
 have K0:KI m12 m12 m9.n V qa (vm SR):=⟨hb12,Mc.refl,arA.1,arA.2,ra12,by rw[hV];simp,fun F hF B hB=>⟨.inl (by rw[hV];exact qd5 _ (Ja.2 ⟨F,hF,hB⟩)),by have:=aLt F hF B hB;omega⟩⟩
 obtain⟨R,hR⟩:=qdi (vm SR)
 rw[<-hR]at K0 sz rb12
 have evl:R.ev.length<=1000000:=by have:=sz.sz 0 (by omega);rw[zC]at this;have hh:R.ev.length=SR.ev.length:=by rw[hR];rfl
                                   have:=wR.ev;omega
 have oul:R.outs.length*8+4096<=140737488355328:=by have hh:R.outs=SR.outs:=by rw[hR];rfl
                                                    rw[hh];omega
 refine qE (c:=FL) rfl (Ret m _) (fun i t m'=>Tm.get 0 t=wl/\Tm.get 1 t=rl/\Tm.get 11 t=mP P/\Tm.get 14 t=.pointer (some ⟨m9.n,0,none⟩)/\Tm.get 15 t=.pointer (some ⟨m11.n,0,none⟩)/\Tm.get 16 t=iv i/\∃S',KI m12 m' m9.n V qa S'/\S'.ev.length=R.ev.length/\S'.outs=R.outs/\S'.rmw=R.rmw/\S'.addr=R.addr/\S'.data=R.data/\S'.ctrl=R.ctrl) R.ev.length (by omega)
  ⟨by simp[t0],by simp[t1],by simp[t11],by simp,by simp,by simp,R,K0,rfl,rfl,rfl,rfl,rfl,rfl⟩ (fun i t m' k hi hI hk=>?_)
 obtain⟨t0,t1,t11,t14,t15,t16,S',K,hS1,hS2,hS3,hS4,hS5,hS6⟩:=hI
 have le:load1 m' ⟨m9.n,0,none⟩=some qa.ev:=K.ld 0
 have ll:=K.rl.rdEv.len
 rw[hS1]at ll
 by_cases hil:i<R.ev.length
 ·have dd:((i:Int)<(R.ev.length:Int))=True:=eq_true (by omega)
  have w1:=qZ (i:=i) (by omega)
  obtain⟨x,hx⟩:∃x,S'.ev[i]?=some x:=⟨_,qcu (by omega)⟩
  obtain⟨x1,-,-⟩:=K.rl.rdEv.at hx
  have g:Gro m' qa.ev 5 wD (S'.ev.map evR):=K.rl.ls 0 (by omega)
  obtain⟨m13,j1,j2,j3,j4⟩:=g.putCell K.base (by omega) (i:=i) (o:=3) (x:=evR x) (x':=evR { x with val:=99 }) (by rw[qda,hx];rfl) (by omega) (u:=.int .u64 99) rfl ev99
  have K':KI m12 m13 m9.n V qa { S' with ev:=S'.ev.set i { x with val:=99 } }:=⟨K.b0,K.mc.tr2 j2 (fun B hB=>(K.bl 0 (by omega) B (ki.1 hB)).1) K.b0,K.lt,K.arr.congr (j2.obj _ (qcz K.lt K.mc.n) fun hc=>(K.bl 0 (by omega) _ (ki.1 hc)).2 rfl),K.rl.one (F:=0) (by omega) j2 (by
   show Gro m13 qa.ev 5 wD ((S'.ev.set i { x with val:=99 }).map evR)
   rw[List.map_set];exact j3) (fun G hG hne=>by rcases six hG with rfl | rfl | rfl | rfl | rfl | rfl<;>first | rfl | exact absurd rfl hne),K.AV,K.bl⟩
  simp[t14,t16,le,ll,dd,hil,x1,j1,w1]
  exact hk hil _ _ ⟨by simp[t0],by simp[t1],by simp[t11],by simp[t14],by simp[t15],by simp,_,K',by simp[hS1],hS2,hS3,hS4,hS5,hS6⟩
 obtain rfl:i=R.ev.length:=by omega
 simp[t14,t16,le,ll]
 refine qE (c:=FM) rfl (Ret m _) (fun i t m'=>Tm.get 0 t=wl/\Tm.get 1 t=rl/\Tm.get 11 t=mP P/\Tm.get 14 t=.pointer (some ⟨m9.n,0,none⟩)/\Tm.get 15 t=.pointer (some ⟨m11.n,0,none⟩)/\Tm.get 17 t=iv i/\∃q' S',KI m12 m' m9.n V q' S'/\S'.ev.length<=R.ev.length+i/\S'.outs.length<=R.outs.length+i/\S'.rmw=R.rmw/\S'.addr=R.addr/\S'.data=R.data/\S'.ctrl=R.ctrl) 5 (by omega)
  ⟨by simp[t0],by simp[t1],by simp[t11],by simp[t14],by simp[t15],by simp,qa,S',K,by omega,by rw[hS2];omega,hS3,hS4,hS5,hS6⟩ (fun i t m' k hi hI hk=>?_)
 obtain⟨t0,t1,t11,t14,t15,t17,q',S',K,hS1,hS2,hS3,hS4,hS5,hS6⟩:=hI
 have le:load1 m' ⟨m9.n,0,none⟩=some q'.ev:=K.ld 0
 by_cases hil:i<5
 ·have dd:((i:Int)<5)=True:=eq_true (by omega)
  have w1:=qZ (i:=i) (by omega)
  obtain⟨v1,y1,y2,j1,j2,-,K1⟩:=K.push (S':={ S' with ev:=S'.ev ++ [⟨0,9,0,0,0⟩] }) (F:=0) (by omega) (r:=evR ⟨0,9,0,0,0⟩) (by show (S'.ev ++ [_]).map evR=_;rw[List.map_append];rfl) (fun G hG hne=>by rcases six hG with rfl | rfl | rfl | rfl | rfl | rfl<;>first | rfl | exact absurd rfl hne) (bytes:=40) (by rw[zC];unfold most;omega) (by rw[zC];omega) (some 11)
  have l5:load1 y2 ⟨m9.n,5,none⟩=some q'.outs:=K1.ld 5
  obtain⟨v2,y3,y4,j3,j4,-,K2⟩:=K1.push (S':={ S' with ev:=S'.ev ++ [⟨0,9,0,0,0⟩],outs:=S'.outs ++ [9] }) (F:=5) (by omega) (r:=wdR 9) (by show (S'.outs ++ [_]).map wdR=_;rw[List.map_append];rfl) (fun G hG hne=>by rcases six hG with rfl | rfl | rfl | rfl | rfl | rfl<;>first | rfl | exact absurd rfl hne) (bytes:=8) (by rw[jY];show (S'.outs.length+1)*8<=_;unfold most;omega) (by rw[jY];show S'.outs.length+1<=_;omega) (some 3)
  have j1':wE (Dx.newRow m' (zJ ⟨0,9,0,0,0⟩)) 5 40 q'.ev (.slice (some ⟨m'.n,0,some 11⟩) 1 1)=some (v1,y1):=j1
  have j3':wE (Dx.newRow y2 [.int .u64 9]) 1 8 q'.outs (.slice (some ⟨y2.n,0,some 3⟩) 1 1)=some (v2,y3):=j3
  have be:=bu_e9
  have bs:=bs_ev m' ⟨0,9,0,0,0⟩
  have bo:=bs_w1 y2 9
  simp[t14,t17,dd,hil,le,be,bs,j1',j2,l5,bo,j3',j4,w1]
  exact hk hil _ _ ⟨by simp[t0],by simp[t1],by simp[t11],by simp[t14],by simp[t15],by simp,_,_,K2,by simp;omega,by simp;omega,hS3,hS4,hS5,hS6⟩
 obtain rfl:i=5:=by omega
 have J1:=K.kl (by rw[hS3];exact sz.rmw) (by rw[hS4];exact sz.addr) (by rw[hS5];exact sz.data) (by rw[hS6];exact sz.ctrl)
 obtain⟨lq1,u1,y1,o1,J2⟩:=J1.spoil n (by omega) (by omega)
 obtain⟨lq2,u2,y2,o2,J3⟩:=J2.spoil n (by omega) (by omega)
 obtain⟨lq3,u3,y3,o3,J4⟩:=J3.spoil n (by omega) (by omega)
 obtain⟨lq4,u4,mS,o4,J5⟩:=J4.spoil n (by omega) (by omega)
 have mcS:=J5.mc
 have E12:Ext m m12:=E8.trans E812
 have n88:m.n<=m8.n:=E8.n
 have ES:Ext m mS:=ya E12 mcS (fun B hB=>by have:=(Vr B hB).1;omega) hm
 have hbS:mS.base<=mS.n:=((Sees.refl hm).ext ES).base
 have mlS:ML mS P s8 g8 SR:=ml12.keepM mcS (fun B hB hc=>by have:=(Vr B hB).1;have:=ml8.own_lt hc;omega) (fun B hB hc=>by have:=(Vr B hB).1;have:=ml8.hp.sn B hc;omega)
 have rbS:RL mS qb R:=rb12.keepM mcS (fun F hF B hB hc=>by have:=(Vr B hc).2;have:=(bLt F hF B hB).1;omega)
 have nS:=mcS.n
 have arS:Arr mS m11.n (qP qb):=arB.congr (mcS.obj _ (by omega) fun hc=>by have:=(Vr _ hc).2;omega)
 obtain⟨v20,m20,i1,i2,i3⟩:=(XX (n+34) hbS (hws.extE ES)).xA (g:=9) (by decide)
 obtain⟨-,P2,lv2,rfl,hP2,ml20,hlv2⟩:=i3.resolve_right (fun h=>h.1 he)
 have own2:∀B∈own P2 (jM lv2),mS.n<=B:=fun B hB=>by
  rcases wG.1 hB with rfl | hL
  ·exact hP2
  ·exact absurd hL fQ
 have E20:Ext m m20:=ES.trans i2
 have nS0:m.n<=mS.n:=ES.n
 obtain⟨u21,m21,s21,g21,i4,i5,-⟩:=Bo (n+6) ml20 w0 (hrs.extE E20) (fun B hB hc=>by have:=own2 B hc;have:=rlB B hB;omega) hv (by rw[h0];unfold most;omega)
 rw[<-hSR]at i5
 have i4:(xA (n+40)).f 10 [mP P2,rl] m20=some (u21,m21):=by rw[xA_f _ _ _ _ (by decide)];exact i4
 have E21:Ext m m21:=ya E20 i5.mc (fun B hB=>by have:=own2 B hB;omega) hm
 have hb21:m21.base<=m21.n:=((Sees.refl hm).ext E21).base
 have mlx:ML m21 P2 s21 g21 SR:=⟨hb21,i5.mat,i5.hp,i5.sc⟩
 have i2n:=i2.n
 have ml21:ML m21 P s8 g8 SR:=(mlS.extM i2).keepM i5.mc (fun B hB hc=>by have:=own2 B hB;have:=mlS.own_lt hc;omega) (fun B hB hc=>by have:=own2 B hB;have:=mlS.hp.sn B hc;omega)
 have rb21:RL m21 qb R:=(rbS.ext i2).keepM i5.mc (fun F hF B hB hc=>by have:=own2 B hc;have:=(rbS.ls F hF).lt B hB;omega)
 have ar21:Arr m21 m11.n (qP qb):=(arS.congr (i2.obj _ (by omega))).congr (i5.mc.obj _ (by omega) fun hc=>by have:=own2 _ hc;omega)
 have lb21:loads m21 ⟨m11.n,0,none⟩ 9=some (qP qb):=by
  have:=ar21.loads (o:=0) (n:=9) (s:=none) (by simp[qP])
  exact this
 have hne:(vl ws=0)=True:=eq_true he
 obtain⟨vx,x22,f1,f0,f2,qx,rfl,rx,-,sx1,sx2,sx3⟩:=qn ((Zm (n+7) mlx.anyM wR (JI wR oR8)).xA (g:=14) (by decide))
 obtain⟨m22,hm22⟩:=qdi (Dx.behind m21 x22)
 rw[<-hm22]at f2
 have rx:RL m22 qx R:=by rw[hm22,hR];exact rx.behindR
 have hb22:m22.base<=m22.n:=((Sees.refl hb21).ext f2).base
 obtain⟨vy,x23,f3,f4,f5,rfl⟩:=qn ((DK (n+38) (qF m22) ((rb21.ext f2).anyR) rx.anyR (SameRun.refl _) (by rw[sb1,sx1]) (by rw[sb2,sx2]) (by rw[sb3,sx3]) sz).xA (g:=13) (by decide))
 obtain⟨m23,hm23⟩:=qdi (Dx.behind m22 x23)
 rw[<-hm23]at f5
 have ml23:=(ml21.extM f2).extM f5
 obtain⟨vz,x24,f6,f7,f8,qz,rfl,rz,-,sz1,sz2,sz3⟩:=qn ((Zm (n+7) ml23.anyM wR (JI wR oR8)).xA (g:=14) (by decide))
 obtain⟨m24,hm24⟩:=qdi (Dx.behind m23 x24)
 rw[<-hm24]at f8
 have rz:RL m24 qz R:=by rw[hm24,hR];exact rz.behindR
 have hb24:m24.base<=m24.n:=(((Sees.refl hb21).ext f2).ext f5 |>.ext f8).base
 have E24:Ext m21 m24:=(f2.trans f5).trans f8
 obtain⟨vw,x25,f9,f10,f11,rfl⟩:=qn ((DK (n+38) (qF m24) rz.anyR ((rb21.ext E24).anyR) (SameRun.refl _) (by rw[sb1,sz1]) (by rw[sb2,sz2]) (by rw[sb3,sz3]) sz).xA (g:=13) (by decide))
 have lb24:loads m24 ⟨m11.n,0,none⟩ 9=some (qP qb):=by
  have:=(ar21.congr (E24.obj _ (by have:=i5.mc.n;omega))).loads (o:=0) (n:=9) (s:=none) (by simp[qP])
  exact this
 simp[t0,t1,t11,t14,t15,t17,lq1,o1,lq2,o2,lq3,o3,lq4,o4,i1,hne,i4,qe,lb21,f1,f0,<-hm22,f3,f4,<-hm23,f6,f7,<-hm24,lb24,f9,f10]
 exact qN (E21.trans (E24.trans f11)) (by simp)
end Go.Sx
namespace Go.Dx
open Go.RowKit Go.WideShapes Go.ChangeShapes
section
variable {H:Type} {enc:TypeId × Value->H} {P:Program}
theorem args_stay (hl:laidOutB P=true) {W W':World}:∀(ts:List TypeId) (vs:List Value) (ds:List (DataW H)) (ps:List MemPlace),(ts.all fun t=>P.readableRec t && decide (t<P.types.size))=true ->
  DataW.TrodAll enc P W 0 (fun _=>true) true ts vs ds ps->(∀p∈ps,W.sameAt W' p)->∀sp:Nat->Bool,(∀p∈ps,sp p.block=true)->DataW.TrodAll enc P W' 0 sp true ts vs ds ps
 | [],vs,ds,ps,_,h,_,_,_=>by
  obtain⟨rfl,rfl,rfl⟩:=trodAll_nil h
  exact rfl
 | t :: ts,vs,ds,ps,ha,h,hs,sp,hsp=>by
  obtain⟨v,vs',d,ds',p,q,rfl,rfl,rfl,h1,h2⟩:=trodAll_cons h
  simp only[List.all_cons,qd0,decide_eq_true_eq]at ha
  exact⟨p,q,WideElems.Trod_stays hl ha.1.1 ha.1.2 h1 (fun x hx=>hs x (List.mem_append_left _ hx)) (fun x hx=>hsp x (List.mem_append_left _ hx)),
   args_stay hl ts vs' ds' q ha.2 h2 (fun x hx=>hs x (List.mem_append_right _ hx)) sp (fun x hx=>hsp x (List.mem_append_right _ hx)),rfl⟩
end
end Go.Dx
namespace Go.Sx
open Go.RowKit Go.WideShapes Go.ChangeShapes Go.Dx
theorem Jo {α β:Type} {m:M} {v:Value} {e:Nat} {f:β->List Value} {g:α->β} {l:List α} (h:Rd m v e (fun x=>f (g x)) l):Rd m v e f (l.map g) :=
 ⟨by rw[List.length_map];exact h.len,fun i r hr=>by
  rw[qda,Option.map_eq_some_iff]at hr
  obtain⟨x,hx,rfl⟩:=hr
  exact h.row i x hx,by rw[List.length_map,List.flatMap_map];exact h.all,h.lt⟩
section
variable {H:Type} {enc:TypeId × Value->H} {P:Program} {w:World}
abbrev N64:Type:={ x:Nat // x<18446744073709551616 }
instance:Inhabited N64:=⟨⟨0,by decide⟩⟩
abbrev N32:Type:={ x:Nat // x<4294967296 }
instance:Inhabited N32:=⟨⟨0,by decide⟩⟩
def LenOf (d:DataW H) (n:Nat):Prop:=n=0\/∃elems spare,d=.slice elems spare/\elems.length=n
theorem KM {α:Type} [Inhabited α] {tu tus:TypeId} {f:α->List Value} (hs:P.underlying tus=some (.slice tu)) (huc:P.cellsOf tu=1) (hrow:∀n cs y,DataW.trod enc P w 0 (fun _=>true) true n tu cs=some y->∃x:α,cs=f x) (hint:∀x,(f x).length=1/\∀v∈f x,fC v=some v)
  {b0:Nat} {v:Value} {d:DataW H} {pl:List MemPlace} (hv:Value.okWide P w .any b0 tus v) (h:DataW.Trod enc P w 0 (fun _=>true) true tus v d pl) (hz:w.noneFrozen pl) :
  ∃(av:Value) (es:List α),VRel (vJ w) av v/\Rd (snapM w) av 1 f es/\Sp 1 av/\LenOf d es.length:=by
 obtain⟨a0,len,cap,rfl⟩:=okWide_slice hs hv
 have k1:Cell.okWide P w .any b0 tus (.slice a0 len cap):=by have:=hv;simp only[Value.okWide,hs]at this;exact this
 obtain⟨fuel,hf⟩:=h
 obtain⟨av,es,r1,r2,r3,r4⟩:=VY (α:=α) (e:=tu) (sz:=1) (f:=f) hs huc (by omega) hrow hint hf (fun a l c e=>by rw[e]at k1;exact XL hs k1) (fun b off hb=>hz b off hb)
 refine⟨av,es,r1,r2,r4,?_⟩
 rcases r3 with rfl | ⟨el,sp,e1,e2⟩
 ·exact .inl rfl
 ·exact .inr ⟨el,sp,e1,e2⟩
theorem u64_arg {tu tus:TypeId} (hs:P.underlying tus=some (.slice tu)) (hu:P.underlying tu=some (.int .u64)) (huc:P.cellsOf tu=1) {b0:Nat} {v:Value} {d:DataW H} {pl:List MemPlace} (hv:Value.okWide P w .any b0 tus v) (h:DataW.Trod enc P w 0 (fun _=>true) true tus v d pl) (hz:w.noneFrozen pl) :
  ∃(av:Value) (es:List Nat),VRel (vJ w) av v/\Rd (snapM w) av 1 zG es/\Sp 1 av/\LenOf d es.length/\∀x∈es,x<W64:=by
 obtain⟨av,es,r1,r2,r3,r4⟩:=KM (α:=N64) (f:=fun x=>zG x.1) hs huc (fun n cs y hh=>by
  obtain⟨x,e1,_,wb⟩:=DataW.trod_int hu hh
  simp only[Lit.wf,qd0,decide_eq_true_eq]at wb
  have h1:(0:Int)<=x:=wb.1
  have h2:x<=18446744073709551615:=wb.2
  exact⟨⟨x.toNat,by omega⟩,by rw[e1];show [Value.int .u64 x]=[Value.int .u64 (x.toNat:Int)];rw[Int.toNat_of_nonneg h1]⟩) (fun x=>⟨rfl,fun v hv=>by simp[zG]at hv;subst hv;rfl⟩) hv h hz
 refine⟨av,es.map (·.1),r1,Jo (g:=fun x:N64=>x.1) r2,r3,by rw[List.length_map];exact r4,fun x hx=>?_⟩
 obtain⟨y,_,rfl⟩:=List.mem_map.1 hx
 exact y.2
theorem u32_arg {tu tus:TypeId} (hs:P.underlying tus=some (.slice tu)) (hu:P.underlying tu=some (.int .u32)) (huc:P.cellsOf tu=1) {b0:Nat} {v:Value} {d:DataW H} {pl:List MemPlace} (hv:Value.okWide P w .any b0 tus v) (h:DataW.Trod enc P w 0 (fun _=>true) true tus v d pl) (hz:w.noneFrozen pl) :
  ∃(av:Value) (es:List Nat),VRel (vJ w) av v/\Rd (snapM w) av 1 jm es/\Sp 1 av/\LenOf d es.length/\∀x∈es,x<4294967296:=by
 obtain⟨av,es,r1,r2,r3,r4⟩:=KM (α:=N32) (f:=fun x=>jm x.1) hs huc (fun n cs y hh=>by
  obtain⟨x,e1,_,wb⟩:=DataW.trod_int hu hh
  simp only[Lit.wf,qd0,decide_eq_true_eq]at wb
  have h1:(0:Int)<=x:=wb.1
  have h2:x<=4294967295:=wb.2
  exact⟨⟨x.toNat,by omega⟩,by rw[e1];show [Value.int .u32 x]=[Value.int .u32 (x.toNat:Int)];rw[Int.toNat_of_nonneg h1]⟩) (fun x=>⟨rfl,fun v hv=>by simp[jm]at hv;subst hv;rfl⟩) hv h hz
 refine⟨av,es.map (·.1),r1,Jo (g:=fun x:N32=>x.1) r2,r3,by rw[List.length_map];exact r4,fun x hx=>?_⟩
 obtain⟨y,_,rfl⟩:=List.mem_map.1 hx
 exact y.2
theorem bool_arg {tu tus:TypeId} (hs:P.underlying tus=some (.slice tu)) (hu:P.underlying tu=some .bool) (huc:P.cellsOf tu=1) {b0:Nat} {v:Value} {d:DataW H} {pl:List MemPlace} (hv:Value.okWide P w .any b0 tus v) (h:DataW.Trod enc P w 0 (fun _=>true) true tus v d pl) (hz:w.noneFrozen pl) :
  ∃(av:Value) (es:List Bool),VRel (vJ w) av v/\Rd (snapM w) av 1 VZ es/\Sp 1 av/\LenOf d es.length:=by
 exact KM (α:=Bool) (f:=VZ) hs huc (fun n cs y hh=>by
  obtain⟨x,e1,_⟩:=DataW.trod_bool hu hh
  exact⟨x,e1⟩) (fun x=>⟨rfl,fun v hv=>by simp[VZ]at hv;subst hv;rfl⟩) hv h hz
end
end Go.Sx
