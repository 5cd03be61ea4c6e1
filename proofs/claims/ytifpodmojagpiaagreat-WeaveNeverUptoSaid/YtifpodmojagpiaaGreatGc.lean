/- Contracts. -/
import Derived.Test.YtifpodmojagpiaaGreatGb2
set_option linter.unusedVariables false
set_option linter.unusedSimpArgs false
set_option linter.defProp false
set_option maxHeartbeats 1000000
namespace Go.Sx
open Go.Dx Go.Proofs
abbrev iv (n:Int):Value:=.int .i64 n
def edgeRow (e:Int × Int):List Value:=[.int .i64 e.1,.int .i64 e.2]
def modeRow (x:Int):List Value:=[.int .i64 x]
def jK (e:Int × Int):Bool:=decide (e.1<=3)
def zv (k:Int):Bool:=decide (k=1\/k=3\/k=6\/k=7)
def toI (k:Int):Bool:=decide (k=2\/k=3\/k=5\/k=7)
def ahN (len i:Nat):Nat:=if i=0 then len-1 else i-1
end Go.Sx
namespace Go.Sx
open Go.Dx Go.Proofs
def eAt (es:List (Int × Int))(i:Nat):Int × Int:=es.getD i (0,0)
def mAt (ms:List Int)(i:Nat):Int:=ms.getD i 0
theorem zm {es:List (Int × Int)}{i:Nat}{e:Int × Int}(h:es[i]?=some e):eAt es i=e:=by unfold eAt;simp[h]
theorem qb2 {ms:List Int}{i:Nat}{e:Int}(h:ms[i]?=some e):mAt ms i=e:=by unfold mAt;simp[h]
def zx (e:Int × Int):Bool:=decide (e.1<1\/7<e.1\/(e.2≠0/\(e.2<2\/5<e.2\/e.1<=3)))
def WX (es:List (Int × Int))(i:Nat):Bool:=toI (eAt es (ahN es.length i)).1 != zv (eAt es i).1
def QS (k x:Int):Bool:=decide (x≠1/\x≠5/\¬(x=2/\zv k=false)/\¬(x=3/\zv k=true))
def first (n:Nat)(p:Nat->Bool):Option Nat:=(List.range n).find? p
def wn (es:List (Int × Int))(ms:List Int):Nat × Nat :=
 if 16<es.length then (16,2) else if ms.length≠es.length then (0,1) else
 match first es.length λi=>zx (eAt es i) with
 | some i=>(i,1)
 | none=>match first es.length (WX es) with
  | some i=>(i,3)
  | none=>match first es.length λi=>QS (eAt es i).1 (mAt ms i) with
   | some i=>(i,25)
   | none=>(0,0)
theorem fQ {n:Nat}{p:Nat->Bool}{i:Nat}(hi:i<n)(hp:p i=true)(hb:∀j,j<i->p j=false):first n p=some i:=by
 unfold first
 rw[List.find?_range_eq_some]
 exact⟨hp,by simpa using hi,λj hj=>by simp[hb j hj]⟩
theorem fP {n:Nat}{p:Nat->Bool}(hb:∀j,j<n->p j=false):first n p=none:=by
 unfold first
 rw[List.find?_eq_none]
 intro x hx
 simp[hb x (by simpa using hx)]
end Go.Sx
namespace Go.Sx
open Go.Dx Go.Proofs
theorem wL {i:Nat}(h:i<9223372036854775807):IntKind.i64.wrap ((i:Int)+1)=((i+1:Nat):Int):=by rw[wrap64 _ (by omega) (by omega)];omega
theorem dlt {i n:Nat}(h:i<n):((i:Int)<n)=True:=eq_true (by omega)
def qv (es:List (Int × Int))(i:Nat):Bool:=jK (eAt es i)
def cnt (es:List (Int × Int)):Nat:=es.countP jK
theorem cnt_le (es:List (Int × Int))(i:Nat):cnt (es.take i)<=i:=by
 unfold cnt;exact qgz List.countP_le_length (by rw[List.length_take];omega)
theorem qa8 {es:List (Int × Int)}{i:Nat}{e:Int × Int}(he:es[i]?=some e):cnt (es.take (i+1))=cnt (es.take i)+if jK e then 1 else 0:=by
 obtain⟨hi,rfl⟩:=qgp.1 he
 unfold cnt;rw[List.take_succ_eq_append_getElem hi,List.countP_append];simp[List.countP_cons]
theorem Bw {m:M}(hm:m.base<=m.n)(l:List Value):Sees (Dx.newRow m l) (Dx.newRow m l):=.refl (by simp;unfold Dx.newRow;rw[M.base_alloc];omega)
def Qj (es:List (Int × Int))(i:Nat):Bool:=qv es (ahN es.length i)
theorem fL {len i:Nat}(h:i<len):ahN len i<len:=by unfold ahN;split<;>omega
end Go.Sx
namespace Go.Sx
open Go.Dx Go.Proofs
def natRow (x:Nat):List Value:=[iv x]
def wi (es:List (Int × Int))(b:Nat):List Nat:=(List.range es.length).map λk=>(b+k)%es.length
end Go.Sx
namespace Go.Sx
open Go.Dx Go.Proofs
def FN (es:List (Int × Int))(o:Bool):Nat->Nat->Nat
 | 0,i=>i
 | k+1,i=>if qv es (ahN es.length i)=o then FN es o k (ahN es.length i) else i
def yd (es:List (Int × Int))(o:Bool)(i:Nat):Nat:=FN es o es.length i
def yc (R:Nat->Nat)(r:Nat):List Nat->List Nat->Option Nat
 | [],_=>none
 | x::l,seen=>if R x=r then some seen.length else yc R r l (if seen.contains (R x) then seen else seen++[R x])
end Go.Sx
namespace Go.Sx
open Go.Dx Go.Proofs
def kY (es:List (Int × Int))(b:Nat)(o:Bool)(x:Nat):Nat:=(yc (yd es o) (yd es o x) (wi es b) []).getD 0
theorem Xh {es:List (Int × Int)}{b x:Nat}(hx:x<es.length):x∈wi es b:=by
 unfold wi
 refine List.mem_map.2 ⟨(x+es.length-b%es.length)%es.length,by simp;exact Nat.mod_lt _ (by omega),?_⟩
 have h0:0<es.length:=by omega
 have hb:=Nat.mod_lt b h0
 have e:b=b%es.length+es.length*(b/es.length):=(Nat.mod_add_div b es.length).symm
 rw[Nat.add_mod,Nat.mod_mod,<-Nat.add_mod]
 have:b+(x+es.length-b%es.length)=x+es.length*(b/es.length+1):=by rw[Nat.mul_add,Nat.mul_one];omega
 rw[this,Nat.add_mul_mod_self_left,Nat.mod_eq_of_lt hx]
def wM (es:List (Int × Int)):Nat:=(first es.length (Qj es)).getD 0
def qu (es:List (Int × Int))(i:Nat):Bool:=zv (eAt es i).1
theorem jr {es:List (Int × Int)}{ms:List Int}(h:(wn es ms).2=0):es.length<=16/\ms.length=es.length:=by
 unfold wn at h
 by_cases h1:16<es.length
 .rw[if_pos h1]at h;simp at h
 .rw[if_neg h1]at h
  by_cases h2:ms.length≠es.length
  .rw[if_pos h2]at h;simp at h
  .exact⟨by omega,by omega⟩
theorem Zh {es:List (Int × Int)}(h:0<cnt es):first es.length (Qj es)=some (wM es):=by
 obtain⟨e,he,ho⟩:=List.countP_pos_iff.1 h
 obtain⟨j,hj,rfl⟩:=List.getElem_of_mem he
 have:∃i,i<es.length/\Qj es i=true:=by
  by_cases hl:j+1=es.length
  .refine⟨0,by omega,?_⟩
   unfold Qj qv ahN
   rw[if_pos rfl,show es.length-1=j by omega,zm (qgn hj)];exact ho
  .refine⟨j+1,by omega,?_⟩
   unfold Qj qv ahN
   rw[if_neg (by omega),Nat.add_sub_cancel,zm (qgn hj)];exact ho
 unfold wM
 cases hf:first es.length (Qj es) with
 | some b=>rfl
 | none =>
  obtain⟨i,hi,hp⟩:=this
  unfold first at hf
  rw[List.find?_eq_none]at hf
  exact absurd hp (hf i (by simpa using hi))
end Go.Sx
namespace Go.Sx
open Go.Dx Go.Proofs
theorem yX (n:Nat)(k f:Int)(m:M):CallV (ex Tryz.prog (n+1)) 19 [.agg #[.int .i64 k,.int .i64 f]] m (.bool (decide (k<=3))):=by
 refine qy db4_ok (by simp) ?_
 have hb:=vk m [.int .i64 k,.int .i64 f]
 simp[hb]
 exact qp (by simp) (by simp)
def jM (b:Bool):Value:=if b then iv 2 else iv 1
theorem VG (n:Nat)(k f:Int)(m:M)(h1:1<=k)(h7:k<=7):CallV (ex Tryz.prog (n+1)) 23 [.agg #[.int .i64 k,.int .i64 f]] m (.tuple #[jM (zv k),jM (toI k)]):=by
 refine qy db8_ok (by simp) ?_
 have hb:=vk m [.int .i64 k,.int .i64 f]
 have:k=1\/k=2\/k=3\/k=4\/k=5\/k=6\/k=7:=by omega
 rcases this with rfl | rfl | rfl | rfl | rfl | rfl | rfl<;>simp[hb]<;>exact yK (by simp) (by simp[jM,zv,toI])
theorem qfc (n:Nat)(k f:Int)(m:M):CallV (ex Tryz.prog (n+2)) 37 [.agg #[.int .i64 k,.int .i64 f]] m (.bool (!zx (k,f))):=by
 refine qy dd1_ok (by simp) ?_
 have hb:=vk m [.int .i64 k,.int .i64 f]
 have hl:loads (Dx.newRow m [.int .i64 k,.int .i64 f]) ⟨m.n,0,none⟩ 2=some [.int .i64 k,.int .i64 f]:=yU m _ 0 2 (by simp)
 obtain⟨v1,m1,g1,g2,rfl⟩:=yX n k f (Dx.newRow m [.int .i64 k,.int .i64 f])
 have E0:Ext m (Dx.newRow m [.int .i64 k,.int .i64 f]):=Ext.row _ _
 simp[hb]
 by_cases p1:1<=k
 rotate_left
 .simp[p1,hb];exact qp E0 (by simp[zx];omega)
 by_cases p2:k<=7
 rotate_left
 .simp[p1,p2,hb];exact qp E0 (by simp[zx];omega)
 by_cases p3:f=0
 .subst p3;simp[p1,p2,hb];exact qp (by simp) (by simp[zx];omega)
 by_cases p4:2<=f
 rotate_left
 .simp[p1,p2,p3,p4,hb];exact qp E0 (by simp[zx];omega)
 by_cases p5:f<=5
 rotate_left
 .simp[p1,p2,p3,p4,p5,hb];exact qp E0 (by simp[zx];omega)
 by_cases p6:k<=3
 .simp[p1,p2,p3,p4,p5,hb,hl,qe,g1,p6];exact qp (E0.trans g2) (by simp[zx];omega)
 .simp[p1,p2,p3,p4,p5,hb,hl,qe,g1,p6];exact qp (E0.trans g2) (by simp[zx];omega)
theorem wmay_c (n:Nat)(b:Bool)(x:Int)(m:M):CallV (ex Tryz.prog (n+1)) 38 [jM b,iv x] m (.bool (decide (x=1\/x=5\/(x=2/\b=false)\/(x=3/\b=true)))):=by
 refine qy dd2_ok (by simp) ?_
 by_cases p1:x=1
 .simp[p1];cases b<;>simp[jM]<;>exact qp (by simp) (by simp)
 by_cases p2:x=5
 .simp[p1,p2];cases b<;>simp[jM]<;>exact qp (by simp) (by simp)
 by_cases p3:x=2
 .subst p3;cases b<;>simp[jM]<;>exact qp (by simp) (by simp)
 by_cases p4:x=3
 .subst p4;cases b<;>simp[jM]<;>exact qp (by simp) (by simp)
 cases b<;>simp[jM,p1,p2,p3,p4]<;>exact qp (by simp) (by simp)
theorem qbz (n:Nat)(k f:Int)(m:M):CallV (ex Tryz.prog (n+3)) 36 [.agg #[.int .i64 k,.int .i64 f]] m (.bool (zx (k,f))):=by
 refine qy dd0_ok (by simp) ?_
 have hl:loads (Dx.newRow m [.int .i64 k,.int .i64 f]) ⟨m.n,0,none⟩ 2=some [.int .i64 k,.int .i64 f]:=yU m _ 0 2 (by simp)
 obtain⟨v1,m1,g1,g2,rfl⟩:=qfc n k f (Dx.newRow m [.int .i64 k,.int .i64 f])
 simp[hl,qe,g1]
 exact qp ((Ext.row _ _).trans g2) (by simp)
def idxI:Option Nat->Int
 | some i=>i
 | none=>-1
theorem Ju (n:Nat)(ed:Value)(es:List (Int × Int))(hl:es.length<=1000)(m:M)(hm:m.base<=m.n)(hed:Rd m ed 2 edgeRow es) :
  CallV (ex Tryz.prog (n+4)) 35 [ed,.func (.func 36) #[] #[]] m (iv (idxI (first es.length λi=>zx (eAt es i)))):=by
 refine qy dc9_ok (by simp) ?_
 have hel:=hed.len
 simp[hel]
 refine qR (c:=DM) rfl (Ret m _) (λi t m'=>Tm.get 0 t=ed/\Tm.get 1 t=.func (.func 36) #[] #[]/\Tm.get 7 t=iv es.length/\Tm.get 8 t=iv i/\Ext m m'/\∀j,j<i->zx (eAt es j)=false) es.length (by omega)
  ⟨by simp,by simp,by simp,by simp,by simp,by simp⟩ (λi t m' k hi hI hk=>?_)
 obtain⟨h0,h1,h7,h8,hE,hbad⟩:=hI
 have hS:=(Sees.refl hm).ext hE
 by_cases hil:i<es.length
 .obtain⟨e,he⟩:∃e,es[i]?=some e:=⟨_,qgn hil⟩
  have ⟨a1,a2,a3⟩:=(hed.sees hS).at he
  have a2':∀m'',Sees m' m''->loads m'' (adr 2 ed i) 2=some [iv e.1,iv e.2]:=a2
  have hd:=dlt hil
  have w1:=wL (i:=i) (by omega)
  obtain⟨v1,m1,g1,g2,rfl⟩:=qbz n e.1 e.2 m'
  have hge:=zm he
  simp[h0,h1,h7,h8,hd,a1,a2',hS.self,qe,g1]
  cases hb:zx e with
  | true =>
   simp
   refine qp (hE.trans g2) ?_
   rw[fQ hil (by rw[hge];exact hb) hbad];simp[idxI]
  | false =>
   simp[h8,w1]
   refine hk hil _ _ ?_
   refine⟨by simp[h0],by simp[h1],by simp[h7],by simp,hE.trans g2,λj hj=>?_⟩
   rcases Nat.lt_succ_iff_lt_or_eq.1 hj with h | rfl
   .exact hbad j h
   .rw[hge];exact hb
 obtain rfl:i=es.length:=by omega
 simp[h7,h8]
 refine qp hE ?_
 rw[fP hbad];simp[idxI]
theorem vn (n:Nat)(PB:Nat)(ed:Value)(len i:Nat)(hi:i<len)(hl:len<=1000)(m:M)(hp:load1 m ⟨PB,0,none⟩=some ed)(hed:za ed=some (iv len)) :
  CallV (ex Tryz.prog (n+1)) 20 [.pointer (some ⟨PB,0,none⟩),iv i] m (iv (ahN len i)):=by
 refine qy db5_ok (by simp) ?_
 have w1:IntKind.i64.wrap ((i:Int)+len)=((i+len:Nat):Int):=by rw[wrap64 _ (by omega) (by omega)];omega
 have w2:IntKind.i64.wrap ((i:Int)+len-1)=((i+len-1:Nat):Int):=by rw[wrap64 _ (by omega) (by omega)];omega
 obtain⟨q,hq⟩:=qhd (i+len-1)
 have hr:=gC (a:=q) (b:=len) (by omega)
 have he:q%len=ahN len i:=by
  unfold ahN;subst hq
  split
  .subst_vars;rw[Nat.zero_add,Nat.mod_eq_of_lt (by omega)]
  .rw[show i+len-1=(i-1)+len by omega,Nat.add_mod_right,Nat.mod_eq_of_lt (by omega)]
 rw[he]at hr
 rw[<-hq]at w2
 simp[hp,hed,w1,w2,hr]
 exact qp (by simp) (by simp)
theorem Zw (n:Nat)(PB:Nat)(ed:Value)(es:List (Int × Int))(e:Int × Int)(i:Nat)(he:es[i]?=some e)(h1:1<=e.1)(h7:e.1<=7)(m:M)(hm:m.base<=m.n)(hp:load1 m ⟨PB,0,none⟩=some ed)(hed:Rd m ed 2 edgeRow es) :
  CallV (ex Tryz.prog (n+2)) 13 [.pointer (some ⟨PB,0,none⟩),iv i] m (jM (zv e.1)):=by
 refine qy da8_ok (by simp) ?_
 have ⟨a1,a2,a3⟩:=hed.at he
 have a2':∀m'',Sees m m''->loads m'' (adr 2 ed i) 2=some [iv e.1,iv e.2]:=a2
 obtain⟨v1,m1,g1,g2,rfl⟩:=VG n e.1 e.2 m h1 h7
 simp[hp,a1,a2',Sees.refl hm,qe,g1]
 exact qp g2 (by simp)
end Go.Sx
namespace Go.Sx
open Go.Dx Go.Proofs
theorem zc {e:Int × Int}(h:zx e=false):1<=e.1/\e.1<=7:=by
 unfold zx at h
 simp at h
 omega
theorem WZ (a b:Bool):zh .neq (jM a) (jM b)=some (.bool (a != b)):=by cases a<;>cases b<;>simp[jM]
theorem xP (a:Bool):zh .eql (jM a) (.int .i64 2)=some (.bool a):=by cases a<;>simp[jM]
theorem qev (n:Nat)(ed md:Value)(es:List (Int × Int))(ms:List Int)(m:M)(hm:m.base<=m.n)(hl:es.length<9223372036854775807)
  (hed:Rd m ed 2 edgeRow es) (hmd:Rd m md 1 modeRow ms):CallV (ex Tryz.prog (n+5)) 16 [.agg #[ed,md]] m (.tuple #[iv (wn es ms).1,iv (wn es ms).2]):=by
 refine qy db1_ok (by simp) ?_
 have hel:=hed.len
 have hml:=hmd.len
 have hm0:Sees m (Dx.newRow m [ed,md]):=by simp[Sees.refl hm]
 have hS0:=Bw hm [ed,md]
 have bb:∀m'',Sees (Dx.newRow m [ed,md]) m''->(∀s,loads m'' ⟨m.n,0,s⟩ 2=some [ed,md])/\∀o s,load1 m'' ⟨m.n,o,s⟩=[ed,md][o]?:=λm'' h=>⟨λs=>(gD (m:=m) (l:=[ed,md]) h).1 0 2 s (by simp),(gD (m:=m) (l:=[ed,md]) h).2⟩
 by_cases h16:16<es.length
 .have d16:((16:Int)<es.length)=True:=eq_true (by omega)
  simp[bb,hS0,hel,d16]
  exact yK (by simp) (by simp[wn,h16])
 have d16:((16:Int)<es.length)=False:=eq_false (by omega)
 by_cases hne:ms.length=es.length
 rotate_left
 .have dn:((ms.length:Int)=es.length)=False:=eq_false (by omega)
  simp[bb,hS0,hel,hml,d16,dn]
  exact yK (by simp) (by simp[wn,h16,hne])
 have dn:((ms.length:Int)=es.length)=True:=eq_true (by omega)
 obtain⟨v1,m1,r1,r2,rfl⟩:=Ju n ed es (by omega) (Dx.newRow m [ed,md]) hS0.base (hed.sees hm0)
 have hS1:=hS0.ext r2
 have E1:Ext m m1:=(Ext.row _ _).trans r2
 cases hf:first es.length λi=>zx (eAt es i) with
 | some i =>
  rw[hf]at r1
  have di:((0:Int)<=(i:Int))=True:=eq_true (by omega)
  have r1':(ex Tryz.prog (n+4)).f 35 [ed,.func (.func 36) #[] #[]] (Dx.newRow m [ed,md])=some (iv i,m1):=r1
  simp[bb,hS0,hel,hml,d16,dn,r1',di]
  refine yK E1 ?_
  have:wn es ms=(i,1):=by unfold wn;rw[if_neg h16,if_neg (by simp[hne]),hf]
  simp[this]
 | none =>
 rw[hf]at r1
 have r1':(ex Tryz.prog (n+4)).f 35 [ed,.func (.func 36) #[] #[]] (Dx.newRow m [ed,md])=some (iv (-1),m1):=r1
 have hok:∀i e,es[i]?=some e->zx e=false:=λi e he=>by
  unfold first at hf
  rw[List.find?_eq_none]at hf
  have:=hf i (by simpa using (qgp.1 he).1)
  rw[zm he]at this
  simpa using this
 simp[bb,hS0,hS1,hel,hml,d16,dn,r1',qe]
 have hbuild:qW [zS,zS,zI,zI,zI,zS,zS,zS,zS] [(0,2,.agg ⟨[ed,md]⟩)] =
   some (.agg ⟨[ed,md,zI,zI,zI,zS,zS,zS,zS]⟩):=rfl
 obtain⟨pl,hpl⟩:∃pl:List Value,pl=[ed,md,zI,zI,zI,zS,zS,zS,zS]:=⟨_,rfl⟩
 rw[<-hpl]at hbuild
 have hS2:Sees (Dx.newRow m [ed,md]) (Dx.newRow m1 pl):=by simp[hS1]
 have E2:Ext m (Dx.newRow m1 pl):=by simp[E1]
 simp[hbuild,bb,hS2,hel]
 have hP:∀m'',Sees (Dx.newRow m1 pl) m''->load1 m'' ⟨m1.n,0,none⟩=some ed:=λm'' h=>by rw[(gD h).2 0 none,hpl];rfl
 have hSP:Sees (Dx.newRow m1 pl) (Dx.newRow m1 pl):=hS2.self
 refine qR (c:=DE) rfl (Ret m _) (λi t m'=>Tm.get 1 t=.pointer (some ⟨m.n,0,none⟩)/\Tm.get 5 t=.pointer (some ⟨m1.n,0,none⟩)/\Tm.get 34 t=ed/\Tm.get 35 t=iv es.length/\Tm.get 36 t=iv i/\Ext m m'/\Sees (Dx.newRow m1 pl) m'/\∀j,j<i->WX es j=false) es.length (by omega)
  ⟨by simp,by simp,by simp,by simp,by simp,E2,hSP,by simp⟩ (λi t m' k hi hI hk=>?_)
 obtain⟨h1,h5,h34,h35,h36,hE,hS,hbad⟩:=hI
 by_cases hil:i<es.length
 .obtain⟨e,he⟩:∃e,es[i]?=some e:=⟨_,qgn hil⟩
  obtain⟨e',he'⟩:∃e,es[ahN es.length i]?=some e:=⟨_,qgn (fL hil)⟩
  have hed':=hed.sees (hm0.trans (hS2.trans hS))
  have ⟨a1,a2,a3⟩:=hed'.at he
  have ⟨b1,b2,b3⟩:=hed'.at he'
  have a2':loads m' (adr 2 ed i) 2=some [iv e.1,iv e.2]:=a2 m' hS.self
  have b2':∀m'',Sees m' m''->loads m'' (adr 2 ed (ahN es.length i)) 2=some [iv e'.1,iv e'.2]:=b2
  have hd:=dlt hil
  have w1:=wL (i:=i) (by omega)
  obtain⟨m2,f1,f2,f3,f4,f5⟩:=jE (m:=m') hS.self.base (zs:=[zI,zI]) (l:=[iv e.1,iv e.2]) (v:=.agg ⟨[iv e.1,iv e.2]⟩) (n:=2) rfl rfl rfl (by simp[okC])
  obtain⟨v3,m3,g1,g2,rfl⟩:=VG (n+3) e.1 e.2 m2 (zc (hok i e he)).1 (zc (hok i e he)).2
  have S3:=(hS.ext f4).ext g2
  have S3':=hS.self.ext (f4.trans g2)
  have bx:∀m'',Sees m3 m''->∀o s,load1 m'' ⟨m.n,o,s⟩=[ed,md][o]?:=λm'' h=>(bb m'' (hS2.trans (S3.trans h))).2
  have c1:=Call.use (m0:=m3) λm'' h=>vn (n+3) m1.n ed es.length i hil (by omega) m'' (hP m'' (S3.trans h)) hel
  have c2:=Call.use (m0:=m3) λm'' h=>VG (n+3) e'.1 e'.2 m'' (zc (hok _ e' he')).1 (zc (hok _ e' he')).2
  have b3':∀m'',Sees m3 m''->loads m'' (adr 2 ed (ahN es.length i)) 2=some [iv e'.1,iv e'.2]:=λm'' h=>b2' m'' (S3'.trans h)
  have hbc:WX es i=(toI e'.1 != zv e.1):=by unfold WX;rw[zm he,zm he']
  simp (maxDischargeDepth:=30) [h1,h5,h34,h35,h36,hd,a1,a2',qe,f1,f3,g1,bx,S3.self,b1,b3',c1,c2,WZ]
  obtain⟨m4,hm4⟩:∃m4,m4=behind (behind m3 (aft (ex Tryz.prog (n+4)) 20 [Value.pointer (some ⟨m1.n,0,none⟩),Value.int IntKind.i64 i] (qc m3)))
   (aft (ex Tryz.prog (n+4)) 23 [Value.agg #[iv e'.1,iv e'.2]] (qc (behind m3 (aft (ex Tryz.prog (n+4)) 20 [Value.pointer (some ⟨m1.n,0,none⟩),Value.int IntKind.i64 i] (qc m3))))):=⟨_,rfl⟩
  have E4:Ext m3 m4:=by rw[hm4];simp (maxDischargeDepth:=30) [S3.self,c1,c2]
  rw[<-hm4]
  by_cases hb:toI e'.1=zv e.1
  .simp[hb,h36,w1]
   refine hk hil _ _ ?_
   refine⟨by simp[h1],by simp[h5],by simp[h34],by simp[h35],by simp,hE.trans (f4.trans (g2.trans E4)),hS.ext (f4.trans (g2.trans E4)),λj hj=>?_⟩
   rcases Nat.lt_succ_iff_lt_or_eq.1 hj with h | rfl
   .exact hbad j h
   .rw[hbc,hb];simp
  .have hb':(toI e'.1 != zv e.1)=true:=by simpa using hb
   simp[hb',h36]
   refine yK (hE.trans (f4.trans (g2.trans E4))) ?_
   have:=fQ (n:=es.length) (p:=WX es) hil (by rw[hbc,hb']) hbad
   have e2:wn es ms=(i,3):=by unfold wn;rw[if_neg h16,if_neg (by simp[hne]),hf,this]
   simp[e2]
 obtain rfl:i=es.length:=by omega
 have n2:=fP hbad
 have bx:∀m'',Sees m' m''->∀o s,load1 m'' ⟨m.n,o,s⟩=[ed,md][o]?:=λm'' h=>(bb m'' (hS2.trans (hS.trans h))).2
 simp[h1,h5,h34,h35,h36,bx,hS.self,hel]
 clear hi hk hil
 refine qR (c:=DF) rfl (Ret m _) (λi t m'=>Tm.get 1 t=.pointer (some ⟨m.n,0,none⟩)/\Tm.get 5 t=.pointer (some ⟨m1.n,0,none⟩)/\Tm.get 64 t=iv es.length/\Tm.get 65 t=iv i/\Ext m m'/\Sees (Dx.newRow m1 pl) m'/\∀j,j<i->QS (eAt es j).1 (mAt ms j)=false) es.length (by omega)
  ⟨by simp[h1],by simp[h5],by simp,by simp,hE,hS,by simp⟩ (λi t m' k hi hI hk=>?_)
 obtain⟨h1,h5,h64,h65,hE,hS,hbad⟩:=hI
 by_cases hil:i<es.length
 .obtain⟨e,he⟩:∃e,es[i]?=some e:=⟨_,qgn hil⟩
  obtain⟨q,hq⟩:∃q,ms[i]?=some q:=⟨_,qgn (by omega)⟩
  have hed':=hed.sees (hm0.trans (hS2.trans hS))
  have ⟨b1,b2⟩:=Rd.at1 (g:=λ(x:Int)=>iv x) (hmd.sees (m':=m') (hm0.trans (hS2.trans hS))) hq
  have hd:=dlt hil
  have w1:=wL (i:=i) (by omega)
  have bx:∀m'',Sees m' m''->∀o s,load1 m'' ⟨m.n,o,s⟩=[ed,md][o]?:=λm'' h=>(bb m'' (hS2.trans (hS.trans h))).2
  have c1:=Call.use (m0:=m') λm'' h=>Zw (n+2) m1.n ed es e i he (zc (hok i e he)).1 (zc (hok i e he)).2 m'' h.base (hP m'' (hS.trans h)) (hed'.sees h)
  obtain⟨r,hr⟩:=qhd (decide (q=1\/q=5\/(q=2/\zv e.1=false)\/(q=3/\zv e.1=true)))
  have c2:=Call.use (m0:=m') λm'' h=>by have:=wmay_c (n+3) (zv e.1) q m'';rwa [<-hr]at this
  have hge:=zm he
  have hgq:=qb2 hq
  have hrb:QS e.1 q=!r:=by
   rw[hr];unfold QS
   cases zv e.1<;>simp
  simp (maxDischargeDepth:=30) [h1,h5,h64,h65,hd,bx,hS.self,b1,b2,c1,c2]
  obtain⟨m4,hm4⟩:∃m4,m4=behind (behind m' (aft (ex Tryz.prog (n+4)) 13 [Value.pointer (some ⟨m1.n,0,none⟩),Value.int IntKind.i64 i] (qc m')))
   (aft (ex Tryz.prog (n+4)) 38 [jM (zv e.1),iv q] (qc (behind m' (aft (ex Tryz.prog (n+4)) 13 [Value.pointer (some ⟨m1.n,0,none⟩),Value.int IntKind.i64 i] (qc m'))))):=⟨_,rfl⟩
  have E4:Ext m' m4:=by rw[hm4];simp (maxDischargeDepth:=30) [hS.self,c1,c2]
  rw[<-hm4]
  cases r with
  | true =>
   simp[h65,w1]
   refine hk hil _ _ ?_
   refine⟨by simp[h1],by simp[h5],by simp[h64],by simp,hE.trans E4,hS.ext E4,λj hj=>?_⟩
   rcases Nat.lt_succ_iff_lt_or_eq.1 hj with h | rfl
   .exact hbad j h
   .rw[hge,hgq,hrb];rfl
  | false =>
   simp
   refine yK (hE.trans E4) ?_
   have:=fQ (n:=es.length) (p:=λi=>QS (eAt es i).1 (mAt ms i)) hil (by simp only[hge,hgq,hrb];rfl) hbad
   have e2:wn es ms=(i,25):=by unfold wn;rw[if_neg h16,if_neg (by simp[hne]),hf,n2,this]
   simp[e2]
 obtain rfl:i=es.length:=by omega
 have n3:=fP hbad
 simp[h64,h65]
 have e3:wn es ms=(0,0):=by unfold wn;rw[if_neg h16,if_neg (by simp[hne]),hf,n2,n3]
 exact yK hE (by simp[e3])
end Go.Sx
namespace Go.Sx
open Go.Dx Go.Proofs
theorem xB (x:Int × Int):(edgeRow x).length=2:=rfl
theorem Qe (x:Int):(modeRow x).length=1:=rfl
theorem BR (n:Nat)(ed:Value)(es:List (Int × Int))(hl:es.length*16<=most)(m:M)(hm:m.base<=m.n)(hed:Rd m ed 2 edgeRow es) :
  Dx.Call (ex Tryz.prog (n+1)) 17 [ed] m λv m'=>Rd m' v 2 edgeRow es/\(∀B,blk v=some B->m.n<=B/\Arr m' B (es.flatMap edgeRow))/\(es≠[]->∃B,v=.slice (some ⟨B,0,some (code 2 false)⟩) es.length es.length):=by
 refine qy db2_ok (by simp) ?_
 have hel:=hed.len
 have hn:=gO hel
 obtain⟨v',m',h1,h2,h3,h4,h5⟩:=jQ hm hed xB 16 hl (by unfold most at hl;omega)
 have hbs:ki 2 0 (rep 0 [zI,zI]) [] m=some (.slice (some ⟨m.n,0,some (code 2 true)⟩) 0 0,Dx.newRow m []):=rfl
 simp[hn]
 cases ed with
 | slice a k c =>
  cases a with
  | none =>
   simp
   have hz:es=[]:=by
    cases hc:es with
    | nil=>rfl
    | cons x xs=>have:=(hed.row 0 x (by rw[hc];rfl)).1;cases this
   subst hz
   exact qp (by simp) (by simp only[jT,reduceIte];exact⟨⟨rfl,λi r hr=>by simp at hr,rfl,λB hB=>by cases hB⟩,(λB hB=>by cases hB),λh=>absurd trivial h⟩)
  | some a =>
   simp[hbs,h1]
   exact qp h2 (by simp only[jT,reduceIte];exact⟨h3,h4,λh=>⟨_,h5 h⟩⟩)
 | _=>cases hel
theorem BS (n:Nat)(md:Value)(ms:List Int)(hl:ms.length*8<=most)(m:M)(hm:m.base<=m.n)(hmd:Rd m md 1 modeRow ms) :
  Dx.Call (ex Tryz.prog (n+1)) 18 [md] m λv m'=>Rd m' v 1 modeRow ms/\(∀B,blk v=some B->m.n<=B/\Arr m' B (ms.flatMap modeRow))/\(ms≠[]->∃B,v=.slice (some ⟨B,0,some (code 1 false)⟩) ms.length ms.length):=by
 refine qy db3_ok (by simp) ?_
 have hel:=hmd.len
 have hn:=gO hel
 obtain⟨v',m',h1,h2,h3,h4,h5⟩:=jQ hm hmd Qe 8 hl (by unfold most at hl;omega)
 have hbs:ki 1 0 (rep 0 [zI]) [] m=some (.slice (some ⟨m.n,0,some (code 1 true)⟩) 0 0,Dx.newRow m []):=rfl
 simp[hn]
 cases md with
 | slice a k c =>
  cases a with
  | none =>
   simp
   have hz:ms=[]:=by
    cases hc:ms with
    | nil=>rfl
    | cons x xs=>have:=(hmd.row 0 x (by rw[hc];rfl)).1;cases this
   subst hz
   exact qp (by simp) (by simp only[jT,reduceIte];exact⟨⟨rfl,λi r hr=>by simp at hr,rfl,λB hB=>by cases hB⟩,(λB hB=>by cases hB),λh=>absurd trivial h⟩)
  | some a =>
   simp[hbs,h1]
   exact qp h2 (by simp only[jT,reduceIte];exact⟨h3,h4,λh=>⟨_,h5 h⟩⟩)
 | _=>cases hel
theorem YB (n:Nat)(p:Addr)(m:M):(ex Tryz.prog (n+1)).f 11 [.pointer (some p)] m=some (.func (.func 22) #[] #[.pointer (some ⟨m.n,0,none⟩)],Dx.newRow m [.pointer (some p)]):=by
 have:Dx.Call (ex Tryz.prog (n+1)) 11 [.pointer (some p)] m λv m'=>v=.func (.func 22) #[] #[.pointer (some ⟨m.n,0,none⟩)]/\m'=Dx.newRow m [.pointer (some p)]:=by
  refine qy da6_ok (by simp) ?_
  have:yf (.pointer (some p)) m=some (.pointer (some ⟨m.n,0,none⟩),Dx.newRow m [.pointer (some p)]):=rfl
  simp[this]
  exact qp (by simp) (by simp)
 obtain⟨v,m',e,-,rfl,rfl⟩:=this
 exact e
def Ends (P:Value->M->Prop):Option Out->Prop:=λo=>∃v m',ob o WF=some (v,m')/\P v m'
theorem bU {P:Program}{g:Nat}{c:SC}{nt:Nat}{res:List RV}{n:Nat}{args:List Value}{m:M}{Q:Value->M->Prop}(hd:qZ P g=some ⟨c,nt,res⟩)(ha:args.length<=nt)
  (h:Ends Q (c (ex P n) (kO res) noK (kO res) (jl .blank 0 args) m)):∃v m',(ex P (n+1)).f g args m=some (v,m')/\Q v m':=by
 obtain⟨v,m',e,h2⟩:=h
 exact⟨v,m',by rw[ex_f hd,gI _ _ _ _ _ _ ha];exact e,h2⟩
theorem Zn {m:M}{Q:Value->M->Prop}{t:Tm}(hq:Q (yj []) m):Ends Q (kO [] t m):=by
 refine⟨_,m,?_,hq⟩
 rw[vS,qc5,qS,vG]
theorem Jq (n:Nat)(y:Value)(PB W b len:Nat)(hlen:0<len)(hl16:len<=1000)(hbl:b<len)(J:Nat->M->Prop)(F:M->Prop)
  (hJ:∀k m,k<=len->J k m->load1 m ⟨W,0,none⟩=some (.pointer (some ⟨PB,0,none⟩))/\(∃ed,load1 m ⟨PB,0,none⟩=some ed/\za ed=some (iv len))/\load1 m ⟨PB,2,none⟩=some (iv b))
  (hy:∀k m,k<len->J k m->(∃m',vA (ex Tryz.prog n) [iv ((b+k)%len:Nat)] m y=some (.bool true,m')/\J (k+1) m')\/∃m',vA (ex Tryz.prog n) [iv ((b+k)%len:Nat)] m y=some (.bool false,m')/\F m')
  (m:M) (h0:J 0 m):∃m',(ex Tryz.prog (n+1)).f 22 [y,.pointer (some ⟨W,0,none⟩)] m=some (.tuple #[],m')/\(J len m'\/F m'):=by
 have:∃v m',(ex Tryz.prog (n+1)).f 22 [y,.pointer (some ⟨W,0,none⟩)] m=some (v,m')/\(v=.tuple #[]/\(J len m'\/F m')):=by
  refine bU db7_ok (by simp) ?_
  obtain⟨q1,⟨ed,q2,q3⟩,q4⟩:=hJ 0 m (Nat.zero_le _) h0
  simp[q1,q2,q3]
  refine qR (c:=cb7_9) rfl (Ends _) (λi t m'=>Tm.get 0 t=y/\Tm.get 1 t=.pointer (some ⟨W,0,none⟩)/\Tm.get 3 t=iv len/\Tm.get 11 t=iv len/\Tm.get 12 t=iv i/\J i m') len (by omega)
   ⟨by simp,by simp,by simp,by simp,by simp,h0⟩ (λi t m' k hi hI hk=>?_)
  obtain⟨h0,h1,h3,h11,h12,hj⟩:=hI
  obtain⟨q1,⟨ed,q2,q3⟩,q4⟩:=hJ i m' hi hj
  by_cases hil:i<len
  .have hd:=dlt hil
   have w1:=wL (i:=i) (by omega)
   have w2:IntKind.i64.wrap ((b:Int)+i)=((b+i:Nat):Int):=by rw[wrap64 _ (by omega) (by omega)];omega
   obtain⟨q,hq⟩:=qhd ((b+i)%len)
   have hr:zh .rem (.int .i64 ((b:Int)+i)) (.int .i64 len)=some (.int .i64 q):=by have:=gC (a:=b+i) (b:=len) (by omega);rwa [<-hq,Int.natCast_add]at this
   have hyy:=hy i m' hil hj
   rw[<-hq]at hyy
   rcases hyy with ⟨m2,e,hj2⟩ | ⟨m2,e,hf⟩
   .simp[h0,h1,h3,h11,h12,hd,q1,q4,w2,hr,e,w1]
    refine hk hil _ _ ?_
    exact⟨by simp[h0],by simp[h1],by simp[h3],by simp[h11],by simp,hj2⟩
   .simp[h0,h1,h3,h11,h12,hd,q1,q4,w2,hr,e]
    exact Zn ⟨rfl,.inr hf⟩
  obtain rfl:i=len:=by omega
  simp[h11,h12]
  exact Zn ⟨rfl,.inl hj⟩
 obtain⟨v,m',e,rfl,h⟩:=this
 exact⟨m',e,h⟩
end Go.Sx
namespace Go.Dx
structure Upto (N:Nat)(m m':M):Prop where
 n:m.n<=m'.n
 obj:∀B,B<N->m'.obj B=m.obj B
 base:m'.base=m.base
 log:m'.log=m.log
theorem Upto.refl (N:Nat)(m:M):Upto N m m:=⟨qgq _,λ_ _=>rfl,rfl,rfl⟩
theorem Upto.trans {N:Nat}{a b c:M}(h:Upto N a b)(k:Upto N b c):Upto N a c:=⟨qgz h.n k.n,λB hB=>(k.obj B hB).trans (h.obj B hB),k.base.trans h.base,k.log.trans h.log⟩
theorem Ext.upto {m m':M}(h:Ext m m'){N:Nat}(hN:N<=m.n):Upto N m m':=⟨h.n,λB hB=>h.obj B (by omega),h.base,h.log⟩
structure From (N:Nat)(m m':M):Prop where
 n:m.n<=m'.n
 obj:∀B,N<=B->B<m.n->m'.obj B=m.obj B
 base:m'.base=m.base
 log:m'.log=m.log
theorem qd1 {N:Nat}{m:M}{L:Nat}(h:N<=L)(hb:m.base<=L)(o:zV):Upto N m (m.put L o) :=
 ⟨by rw[M.n_put];exact qgq _,λB hB=>by rw[M.obj_put,if_neg (by omega)],M.base_put _ _ _,xm hb o⟩
theorem From.trans {N:Nat}{a b c:M}(h:From N a b)(k:From N b c):From N a c:=⟨qgz h.n k.n,λB h1 h2=>(k.obj B h1 (qgs h2 h.n)).trans (h.obj B h1 h2),k.base.trans h.base,k.log.trans h.log⟩
theorem Ext.from {m m':M}(h:Ext m m')(N:Nat):From N m m':=⟨h.n,λB _ h2=>h.obj B h2,h.base,h.log⟩
theorem we {m m':M}{B:Nat}(h:m'.obj B=m.obj B)(o:Nat)(s:Option Nat):load1 m' ⟨B,o,s⟩=load1 m ⟨B,o,s⟩:=by unfold load1 cellsOf;rw[h]
end Go.Dx
namespace Go.Sx
open Go.Dx Go.Proofs
structure Pl (m:M)(PB:Nat)(ed av:Value)(es:List (Int × Int))(ce:List Nat)(b:Nat):Prop where
 lt:PB<m.n
 p0:∀s,load1 m ⟨PB,0,s⟩=some ed
 p2:∀s,load1 m ⟨PB,2,s⟩=some (iv b)
 p6:∀s,load1 m ⟨PB,6,s⟩=some av
 hed:Rd m ed 2 edgeRow es
 hav:Rd m av 1 natRow ce
theorem Pl.sees {m m':M}{PB:Nat}{ed av:Value}{es:List (Int × Int)}{ce:List Nat}{b:Nat}(h:Pl m PB ed av es ce b)(k:Sees m m'):Pl m' PB ed av es ce b :=
 ⟨qgs h.lt k.n,λs=>(qQ k h.lt).trans (h.p0 s),λs=>(qQ k h.lt).trans (h.p2 s),λs=>(qQ k h.lt).trans (h.p6 s),h.hed.sees k,h.hav.sees k⟩
structure BP (es:List (Int × Int))(l:List Nat):Prop where
 lt:∀x∈l,x<es.length
 next:∀j x y,l[j]?=some x->l[j+1]?=some y->y=(x+1)%es.length/\qv es x=true
 last:∀x,l[l.length-1]?=some x->qv es x=false
theorem vm {es:List (Int × Int)}{i:Nat}{e:Int × Int}(he:es[i]?=some e):decide (e.1<=3)=qv es i:=by unfold qv;rw[zm he];rfl
theorem Vv (n:Nat)(y:Value)(PB W1 B3 B4:Nat)(ed av:Value)(es:List (Int × Int))(ce:List Nat)(b:Nat)(hes:es.length<=16)(l:List Nat)(hl:BP es l)(hll:l.length<=1000)(J:Nat->M->Prop)
  (hJ:∀j m,J j m->m.base<=m.n/\Pl m PB ed av es ce b/\(∀s,load1 m ⟨W1,0,s⟩=some (.pointer (some ⟨PB,0,none⟩)))/\(∀s,load1 m ⟨B3,0,s⟩=some y)/\∀s,load1 m ⟨B4,0,s⟩=some (iv es.length))
  (hE:∀j m m',J j m->Ext m m'->J j m')
  (hy:∀(j:Nat) (x:Nat) m,l[j]?=some x->J j m->∃m',vA (ex Tryz.prog (n+1)) [iv x] m y=some (.bool true,m')/\J (j+1) m')
  (Q:Option Out->Prop) (kn kr:K) (ke:Nat->K) (hQ:∀t m,J l.length m->Q (kr t m)) (t:Tm) (m:M) (x0:Nat) (hx0:l[0]?=some x0)
  (h1:Tm.get 1 t=.pointer (some ⟨W1,0,none⟩)) (h3:Tm.get 3 t=.pointer (some ⟨B3,0,none⟩)) (h4:Tm.get 4 t=.pointer (some ⟨B4,0,none⟩)) (h5:Tm.get 5 t=iv x0) (h0:J 0 m) :
  Q (DT (ex Tryz.prog (n+1)) (qw (ex Tryz.prog (n+1)) kn ke kr) (jN 2 (qw (ex Tryz.prog (n+1)) kn ke kr) ke) kr t m):=by
 refine qR (c:=DT) rfl Q (λj t m'=>∃x:Nat,l[j]?=some x/\Tm.get 1 t=.pointer (some ⟨W1,0,none⟩)/\Tm.get 3 t=.pointer (some ⟨B3,0,none⟩)/\Tm.get 4 t=.pointer (some ⟨B4,0,none⟩)/\Tm.get 5 t=iv x/\J j m') l.length (by omega)
  ⟨x0,hx0,h1,h3,h4,h5,h0⟩ (λj t m' k hj hI hk=>?_)
 obtain⟨x,hx,h1,h3,h4,h5,hj0⟩:=hI
 obtain⟨q1,q2,q3,q4,q5⟩:=hJ j m' hj0
 obtain⟨m2,hc,hj1⟩:=hy j x m' hx hj0
 obtain⟨r1,r2,r3,r4,r5⟩:=hJ (j+1) m2 hj1
 have hxl:x<es.length:=hl.lt x (qgo hx)
 obtain⟨e,he⟩:∃e,es[x]?=some e:=⟨_,qgn hxl⟩
 have ⟨a1,a2,a3⟩:=r2.hed.at he
 have a2':=a2 m2 (Sees.refl r1)
 have a2'':loads m2 (adr 2 ed x) 2=some [iv e.1,iv e.2]:=a2'
 obtain⟨v3,m3,g1,g2,rfl⟩:=yX n e.1 e.2 m2
 rw[vm he]at g1
 simp[h1,h3,h4,h5,q4,hc,r3,r2.p0,a1,a2'',qe,g1]
 have hjl:j<l.length:=(qgp.1 hx).1
 by_cases hlast:j+1=l.length
 .have ho:=hl.last x (by rw[show l.length-1=j by omega];exact hx)
  simp[ho]
  rw[hlast]at hj1
  exact hQ _ _ (hE _ _ _ hj1 g2)
 .obtain⟨z,hz⟩:∃z,l[j+1]?=some z:=⟨_,qgn (by omega)⟩
  obtain⟨hze,ho⟩:=hl.next j x z hx hz
  have w1:=wL (i:=x) (by omega)
  have hr:zh .rem (.int .i64 ((x+1:Nat):Int)) (.int .i64 es.length)=some (.int .i64 z):=by rw[hze];exact gC (by omega)
  have hj2:=hE _ _ _ hj1 g2
  obtain⟨s1,s2,s3,s4,s5⟩:=hJ (j+1) m3 hj2
  rw[Int.natCast_add]at hr w1
  simp[ho,h4,h5,s5,w1]
  have hr':zh .rem (.int .i64 ((x:Int)+1)) (.int .i64 es.length)=some (.int .i64 z):=hr
  simp[hr']
  refine hk hjl _ _ ?_
  exact⟨z,hz,by simp[h1],by simp[h3],by simp[h4],by simp,hj2⟩
end Go.Sx
namespace Go.Sx
open Go.Dx Go.Proofs
@[simp] theorem qg3 (nt:Nat) (t:Tm):fe nt t [] []=some t:=rfl
theorem yw (i:Nat)(hi:i<512)(t:Tm)(ks:List Nat)(h:∀k∈ks,k<512)(hm:i∈ks):Tm.get i (xj ks t)=Tm.get i t:=by rw[dt i hi t ks h,if_pos hm]
theorem qa6 (n L1:Nat)(PB W1 W2:Nat)(ed av:Value)(es:List (Int × Int))(ce:List Nat)(b c:Nat)(hes:es.length<=16)(hb:b<es.length)(k0:Nat)(hk0:k0<es.length)
  (hm1:ce[(b+k0)%es.length]?=some c) (hm2:qv es (ahN es.length ((b+k0)%es.length))=false)
  (hpre:∀k,k<k0->∃c',ce[(b+k)%es.length]?=some c'/\(c'=c->qv es (ahN es.length ((b+k)%es.length))=true))
  (l:List Nat) (hl:BP es l) (hl0:l[0]?=some ((b+k0)%es.length)) (hll:l.length<=1000)
  (J:Nat->M->Prop) (m:M) (hm:m.base<=m.n)
  (hJ:∀j m',J j m'->m'.base=m.base/\m.n<=m'.n/\Pl m' PB ed av es ce b/\(∀s,load1 m' ⟨W1,0,s⟩=some (.pointer (some ⟨PB,0,none⟩)))/\(∀s,load1 m' ⟨W2,0,s⟩=some (iv c)))
  (hst:∀j m1 m2,J j m1->Upto m.n m1 m2->J j m2)
  (hy:∀(j:Nat) (x:Nat) m',l[j]?=some x->J j m'->∃m'',vA (ex Tryz.prog (n+1)) [iv x] m' (.func (.yield L1) #[] #[])=some (.bool true,m'')/\J (j+1) m''/\From m.n m' m'')
  (h0:J 0 m):∃m',(ex Tryz.prog (n+4)).f 51 [.func (.yield L1) #[] #[],.pointer (some ⟨W1,0,none⟩),.pointer (some ⟨W2,0,none⟩)] m=some (.tuple #[],m')/\J l.length m':=by
 have main:∃v m',(ex Tryz.prog (n+4)).f 51 [.func (.yield L1) #[] #[],.pointer (some ⟨W1,0,none⟩),.pointer (some ⟨W2,0,none⟩)] m=some (v,m')/\v=.tuple #[]/\J l.length m':=by
  refine bU de0_ok (by simp) ?_
  have hbox:yf (.func (.yield L1) #[] #[]) m=some (.pointer (some ⟨m.n,0,none⟩),Dx.newRow m [.func (.yield L1) #[] #[]]):=rfl
  obtain⟨q1,q2,q3,q4,q5⟩:=hJ 0 m h0
  have SA:Sees m (Dx.newRow m [.func (.yield L1) #[] #[]]):=(Sees.refl hm).ext (Ext.row _ _)
  obtain⟨mA,hA⟩:=qhd (Dx.newRow m [.func (.yield L1) #[] #[]])
  have EA:Ext m mA:=by rw[hA];exact Ext.row _ _
  have nA:mA.n=m.n+1:=by rw[hA,qz]
  have jA:=hst 0 m mA h0 (EA.upto (qgq _))
  obtain⟨-,-,pA,wA,-⟩:=hJ 0 mA jA
  rw[<-hA]at hbox SA
  obtain⟨mC,f1,f2,f3,f4,f5⟩:=jE (m:=mA) SA.base (zs:=[zI]) (l:=[iv es.length]) (v:=iv es.length) (n:=1) rfl rfl rfl (by simp[okC])
  have jC:=hst 0 m mC h0 ((EA.trans f4).upto (qgq _))
  obtain⟨-,-,pC,wC,-⟩:=hJ 0 mC jC
  have hwk:=YB (n+2) ⟨PB,0,none⟩ mC
  have hel:=pA.hed.len
  simp[hbox,wA,pA.p0,hel,f1,wC,hwk]
  obtain⟨mD,hD⟩:=qhd (Dx.newRow mC [.pointer (some ⟨PB,0,none⟩)])
  rw[<-hD]
  have ED:Ext mC mD:=by rw[hD];exact Ext.row _ _
  have nD:mD.n=mC.n+1:=by rw[hD,qz]
  have EmD:Ext m mD:=EA.trans (f4.trans ED)
  have lB3:∀s,load1 mD ⟨m.n,0,s⟩=some (.func (.yield L1) #[] #[]):=λs=>by
   have:Sees (Dx.newRow m [.func (.yield L1) #[] #[]]) mD:=by rw[<-hA];exact (SA.self.ext f4).ext ED
   exact (gD this).2 0 s
  have lB4:∀s,load1 mD ⟨mA.n,0,s⟩=some (iv es.length):=λs=>(we (ED.obj _ f5) 0 s).trans (f2 0 s)
  have lW:∀s,load1 mD ⟨mC.n,0,s⟩=some (.pointer (some ⟨PB,0,none⟩)):=λs=>by
   have:Sees (Dx.newRow mC [.pointer (some ⟨PB,0,none⟩)]) mD:=by rw[<-hD];exact ((SA.ext f4).ext ED).self
   exact (gD this).2 0 s
  have hnAC:mA.n<mC.n:=f5
  generalize hT0:Tm.set 13 _ _=T0
  have t1:Tm.get 1 T0=.pointer (some ⟨W1,0,none⟩):=by rw[<-hT0];simp
  have t2:Tm.get 2 T0=.pointer (some ⟨W2,0,none⟩):=by rw[<-hT0];simp
  have t3:Tm.get 3 T0=.pointer (some ⟨m.n,0,none⟩):=by rw[<-hT0];simp
  have t4:Tm.get 4 T0=.pointer (some ⟨mA.n,0,none⟩):=by rw[<-hT0];simp
  have t13:Tm.get 13 T0=.func (.func 22) #[] #[.pointer (some ⟨mC.n,0,none⟩)]:=by rw[<-hT0];simp
  clear hT0
  obtain⟨T,hT⟩:=qhd (xj [4,3,2,1] T0)
  have kp:∀i,i∈[4,3,2,1]->Tm.get i T=Tm.get i T0:=λi hi=>by
   rw[hT];exact yw i (by simp at hi;omega) T0 _ (by simp) hi
  have T1:=(kp 1 (by simp)).trans t1
  have T2:=(kp 2 (by simp)).trans t2
  have T3:=(kp 3 (by simp)).trans t3
  have T4:=(kp 4 (by simp)).trans t4
  obtain⟨ca,hca⟩:∃ca:Code,ca=(cL (cL (cR (cR (cR (wu Tryz.f51)))))):=⟨_,rfl⟩
  obtain⟨cb,hcb⟩:∃cb:Code,cb=(cR (cL (cR (cR (cR (wu Tryz.f51)))))):=⟨_,rfl⟩
  have ha:=BJ
  have hbb:=BN
  rw[<-hca]at ha;rw[<-hcb]at hbb
  let Loc:M->Prop:=λm'=>(∀X,m.n<=X->X<mD.n->m'.obj X=mD.obj X)/\mD.n<m'.n/\m'.base=m.base
  have hLoc:∀m',Loc m'->(∀s,load1 m' ⟨m.n,0,s⟩=some (.func (.yield L1) #[] #[]))/\(∀s,load1 m' ⟨mA.n,0,s⟩=some (iv es.length))/\(∀s,load1 m' ⟨mC.n,0,s⟩=some (.pointer (some ⟨PB,0,none⟩))):=λm' h =>
   ⟨λs=>(we (h.1 _ (by omega) (by omega)) 0 s).trans (lB3 s),λs=>(we (h.1 _ (by omega) (by omega)) 0 s).trans (lB4 s),λs=>(we (h.1 _ (by have:=EA.n;omega) (by omega)) 0 s).trans (lW s)⟩
  have hLocE:∀m1 m2,Loc m1->Ext m1 m2->Loc m2:=λm1 m2 h e=>⟨λX h1 h2=>(e.obj X (by have:=h.2.1;omega)).trans (h.1 X h1 h2),by have:=e.n;have:=h.2.1;omega,e.base.trans h.2.2⟩
  have hLocP:∀m1 o,Loc m1->Loc (m1.put mD.n o):=λm1 o h=>⟨λX h1 h2=>by rw[M.obj_put,if_neg (by omega)];exact h.1 X h1 h2,by rw[M.n_put];exact h.2.1,by rw[M.base_put];exact h.2.2⟩
  have hJP:∀j m1 o,Loc m1->J j m1->J j (m1.put mD.n o):=λj m1 o h hj=>hst j _ _ hj (qd1 (by have:=EmD.n;omega) (by rw[h.2.2];have:=EmD.n;omega) o)
  have hwalk:=Jq (n+2) (.func (.yield mD.n) #[] #[]) PB mC.n b es.length (by omega) (by omega) hb
   (λk m'=>k<=k0/\J 0 m'/\Loc m'/\m'.obj mD.n=some (.loop 0 T 55 #[14] ca cb none))
   (λm'=>J l.length m'/\Loc m'/\m'.obj mD.n=some (.loop 2 T 55 #[14] ca cb (some .ret)))
   (λk m' _ h=>by
    obtain⟨-,hj,hlo,-⟩:=h
    obtain⟨-,-,p,-⟩:=hJ 0 m' hj
    exact⟨(hLoc m' hlo).2.2 none,⟨ed,p.p0 none,p.hed.len⟩,p.p2 none⟩)
   (λk m' hk h=>by
    obtain⟨hkk,hj,hlo,hob⟩:=h
    obtain⟨i,hi⟩:=qhd ((b+k)%es.length)
    have hil:i<es.length:=by rw[hi];exact Nat.mod_lt _ (by omega)
    obtain⟨c',hc'⟩:∃c',ce[i]?=some c':=by
     rcases Nat.lt_or_ge k k0 with h | h
     .obtain⟨c',h1,-⟩:=hpre k h;exact⟨c',by rw[hi];exact h1⟩
     .obtain rfl:k=k0:=by omega
      exact⟨c,by rw[hi];exact hm1⟩
    rw[<-hi]
    have hrun:=fy (P:=Tryz.prog) (n:=n+1) (L:=mD.n) (args:=[iv i]) (t':=Tm.set 14 (iv i) T) (t'':=Tm.set 5 (iv i) (Tm.set 14 (iv i) T)) (m:=m')
     (R:=λe m2=>Loc m2/\((e=none/\J 0 m2/\k<k0)\/(e=some .ret/\J l.length m2))) hob ha hbb rfl (by omega) (λk=>by unfold qde;simp) (by
      unfold qdf
      obtain⟨mp,hmp⟩:=qhd (m'.put mD.n (.loop 1 T 55 #[14] ca cb none))
      have lp:Loc mp:=by rw[hmp];exact hLocP _ _ hlo
      have jp:J 0 mp:=by rw[hmp];exact hJP _ _ _ hlo hj
      have op:mp.obj mD.n=some (.loop 1 T 55 #[14] ca cb none):=by rw[hmp,M.obj_put,if_pos rfl]
      rw[<-hmp]
      obtain⟨b1,b2,p,w1,w2⟩:=hJ 0 mp jp
      have hSp:Sees mp mp:=Sees.refl (by rw[b1];omega)
      have ⟨a1,a2⟩:=Rd.at1 (g:=λ(x:Nat)=>iv x) p.hav hc'
      have a2':=a2 mp hSp
      by_cases hcc:c'=c
      .subst hcc
       obtain⟨e,he⟩:∃e,es[ahN es.length i]?=some e:=⟨_,qgn (fL hil)⟩
       have ⟨d1,d2,d3⟩:=p.hed.at he
       have d2':∀m'',Sees mp m''->loads m'' (adr 2 ed (ahN es.length i)) 2=some [iv e.1,iv e.2]:=d2
       have c1:=Call.use (m0:=mp) λm'' h=>vn (n) PB ed es.length i hil (by omega) m'' ((p.sees h).p0 none) p.hed.len
       have c2:=Call.use (m0:=mp) λm'' h=>by have:=yX (n) e.1 e.2 m'';rw[vm he]at this;exact this
       simp (maxDischargeDepth:=30) [T1,T2,T3,T4,w1,w2,p.p6,p.p0,a1,a2',hSp,c1,c2,d1,d2',qe]
       obtain⟨m4,hm4⟩:∃m4,m4=behind (behind mp (aft (ex Tryz.prog (n+1)) 20 [Value.pointer (some ⟨PB,0,none⟩),Value.int IntKind.i64 i] (qc mp)))
        (aft (ex Tryz.prog (n+1)) 19 [Value.agg #[iv e.1,iv e.2]] (qc (behind mp (aft (ex Tryz.prog (n+1)) 20 [Value.pointer (some ⟨PB,0,none⟩),Value.int IntKind.i64 i] (qc mp))))):=⟨_,rfl⟩
       have E4:Ext mp m4:=by rw[hm4];simp (maxDischargeDepth:=30) [hSp,c1,c2]
       rw[<-hm4]
       have lo4:=hLocE _ _ lp E4
       have jo4:=hst 0 _ _ jp (E4.upto b2)
       have op4:m4.obj mD.n=some (.loop 1 T 55 #[14] ca cb none):=by rw[E4.obj _ lp.2.1];exact op
       cases ho:qv es (ahN es.length i) with
       | true =>
        simp
        refine zJ ⟨op4,lo4,.inl ⟨rfl,jo4,?_⟩⟩
        rcases Nat.lt_or_ge k k0 with h | h
        .exact h
        .obtain rfl:k=k0:=by omega
         rw[<-hi]at hm2;rw[hm2]at ho;cases ho
       | false =>
        have hkk0:k=k0:=by
         rcases Nat.lt_or_ge k k0 with h | h
         .obtain⟨c',h1,h2⟩:=hpre k h
          rw[<-hi]at h1 h2
          rw[hc']at h1
          cases h1
          rw[h2 rfl]at ho;cases ho
         .omega
        subst hkk0
        rw[<-hi]at hl0
        simp
        refine Vv n (.func (.yield L1) #[] #[]) PB W1 m.n mA.n ed av es ce b hes l hl hll (λj m''=>J j m''/\Loc m''/\m''.obj mD.n=some (.loop 1 T 55 #[14] ca cb none)) (λj m'' h=>?_) (λj m1 m2 h e=>?_) (λj x m'' hx h=>?_)
         (Rnd _) _ _ _ (λt m'' h=>?_) _ _ i hl0 ?_ ?_ ?_ ?_ ⟨jo4,lo4,op4⟩
        .obtain⟨r1,r2,r3,r4,r5⟩:=hJ j m'' h.1
         obtain⟨s1,s2,s3⟩:=hLoc m'' h.2.1
         exact⟨by rw[r1];omega,r3,r4,s1,s2⟩
        .obtain⟨r1,r2,r3,r4,r5⟩:=hJ j m1 h.1
         exact⟨hst j _ _ h.1 (e.upto r2),hLocE _ _ h.2.1 e,by rw[e.obj _ h.2.1.2.1];exact h.2.2⟩
        .obtain⟨m3,e3,j3,f3⟩:=hy j x m'' hx h.1
         refine⟨m3,e3,j3,⟨λX h1 h2=>(f3.obj X h1 (by have:=h.2.1.2.1;omega)).trans (h.2.1.1 X h1 h2),by have:=f3.n;have:=h.2.1.2.1;omega,f3.base.trans h.2.1.2.2⟩,?_⟩
         rw[f3.obj _ (by have:=EmD.n;omega) h.2.1.2.1];exact h.2.2
        .exact zJ ⟨h.2.2,h.2.1,rfl,h.1⟩
        all_goals simp[T1,T2,T3,T4]
      .have hcc':((c':Int)=c)=False:=eq_false (by omega)
       simp (maxDischargeDepth:=30) [T1,T2,T3,T4,w1,w2,p.p6,p.p0,a1,a2',hSp,hcc',hcc]
       refine zJ ⟨op,lp,.inl ⟨rfl,jp,?_⟩⟩
       rcases Nat.lt_or_ge k k0 with h | h
       .exact h
       .obtain rfl:k=k0:=by omega
        rw[<-hi,hc']at hm1
        cases hm1;exact absurd rfl hcc)
    obtain⟨e,m2,ho2,⟨lo2,hcase⟩,hrun⟩:=hrun
    rcases hcase with ⟨rfl,j2,hlt⟩ | ⟨rfl,j2⟩
    .exact .inl ⟨_,hrun,by omega,hJP _ _ _ lo2 j2,hLocP _ _ lo2,by rw[M.obj_put,if_pos rfl]⟩
    .exact .inr ⟨_,hrun,hJP _ _ _ lo2 j2,hLocP _ _ lo2,by rw[M.obj_put,if_pos rfl]⟩)
   (mD.alloc (.loop 0 T 55 #[14] ca cb none)) ⟨Nat.zero_le _,hst 0 m _ h0 ⟨by rw[M.n_alloc];have:=EmD.n;omega,λB hB=>by rw[M.obj_alloc,if_neg (by have:=EmD.n;omega)];exact EmD.obj B hB,by rw[M.base_alloc];exact EmD.base,by rw[M.log_alloc];exact EmD.log⟩,
    ⟨λX h1 h2=>by rw[M.obj_alloc,if_neg (by omega)],by rw[M.n_alloc];omega,by rw[M.base_alloc];exact EmD.base⟩,by rw[M.obj_alloc,if_pos rfl]⟩
  obtain⟨m5,hw,hend⟩:=hwalk
  rcases hend with ⟨h,-⟩ | ⟨j5,lo5,ob5⟩
  .exact absurd h (by omega)
  .refine WO (c:=DS) rfl (g:=22) (u:=[]) (v:=[.pointer (some ⟨mC.n,0,none⟩)]) t13 (r:=.tuple #[]) (m1:=m5) (st:=2) (by rw[<-hT,<-hca,<-hcb];exact hw) (by rw[hca,hcb]at ob5;exact ob5) (by omega) ?_
   refine Zn (t:=T0) ⟨rfl,hJP _ _ _ lo5 j5⟩
 obtain⟨v,m',e,rfl,h⟩:=main
 exact⟨m',e,h⟩
end Go.Sx
namespace Go.Dx
structure Rest (N:Nat)(ex:List Nat)(m m':M):Prop where
 n:m.n<=m'.n
 obj:∀B,B<N->B ∉ ex->m'.obj B=m.obj B
 base:m'.base=m.base
 log:m'.log=m.log
section
variable {N:Nat}{ex:List Nat}{a b c m m':M}
theorem Rest.refl:Rest N ex m m:=⟨qgq _,λ_ _ _=>rfl,rfl,rfl⟩
theorem Rest.trans (h:Rest N ex a b)(k:Rest N ex b c):Rest N ex a c:=⟨qgz h.n k.n,λB hB he=>(k.obj B hB he).trans (h.obj B hB he),k.base.trans h.base,k.log.trans h.log⟩
theorem Upto.rest (h:Upto N m m')(ex:List Nat):Rest N ex m m':=⟨h.n,λB hB _=>h.obj B hB,h.base,h.log⟩
theorem Rest.less {N':Nat}(h:Rest N ex m m')(hN:N'<=N){ex':List Nat}(he:∀B,B∈ex->B<N'->B∈ex'):Rest N' ex' m m':=⟨h.n,λB hB h'=>h.obj B (by omega) λh''=>h' (he B h'' hB),h.base,h.log⟩
theorem qcr {B o:Nat}{l:List Value}{v:Value}(h:Arr m B l)(ho:o<l.length)(hv:okC v=true)(hb:m.base<=B) :
  ∃m2,wt 1 (.pointer (some ⟨B,o,none⟩)) v m=some (undef,m2)/\Arr m2 B (l.set o v)/\m2.n=m.n/\m2.base=m.base/\m2.log=m.log/\∀X,X≠B->m2.obj X=m.obj X:=by
 have hcv:zy v=some [v]:=by cases v<;>first | rfl | simp[okC]at hv
 obtain⟨s1,s2,s3,s4,s5,s6⟩:=wD (o:=o) (l:=[v]) h (by simp;omega) (by simpa using hv)
 exact⟨_,kf (n:=1) (o:=o) h hcv rfl (by omega) (by simpa using hv),s2,s3,s4,s6 hb,s5⟩
theorem KY {B o:Nat}{l:List Value}{v:Value}(h:Arr m B l)(hB:B<m.n)(ho:o<l.length)(hv:okC v=true)(hb:m.base<=B) :
  ∃m2,wt 1 (.pointer (some ⟨B,o,none⟩)) v (qc m)=some (undef,m2)/\m2.log=[B]/\Arr (behind m m2) B (l.set o v)/\(behind m m2).n=m.n/\(behind m m2).base=m.base/\(behind m m2).log=m.log/\∀X,X≠B->(behind m m2).obj X=m.obj X:=by
 have hcv:zy v=some [v]:=by cases v<;>first | rfl | simp[okC]at hv
 have h3':Arr (qc m) B l:=h.congr (qm m B)
 obtain⟨s1,s2,s3,s4,s5,s6⟩:=wD (o:=o) (l:=[v]) (l0:=l) h3' (by simp;omega) (by simpa using hv)
 have hlog:(ji (qc m) B o [v]).log=[B]:=by
  obtain⟨c,hc,hcl⟩:=h3'
  have:∃c',wx (qc m) ⟨B,o,none⟩ [v]=some ((qc m).put B (.cells c')):=by
   have hs:wx (qc m) ⟨B,o,none⟩ [v]=ob (vN ((qc m).obj B)) λc=>ob (stn c o [v]) λc'=>some ((qc m).put B (.cells c')):=rfl
   rw[hs,hc]
   obtain⟨c',e',_⟩:=dS (vs:=[v]) (o:=o) hcl (by simp;omega) (by simpa using hv)
   exact⟨c',by show ob (stn c o [v]) _=_;rw[e'];rfl⟩
  obtain⟨c',e'⟩:=this
  have hp:ji (qc m) B o [v]=(qc m).put B (.cells c'):=by unfold ji;rw[e'];rfl
  rw[hp]
  cases m with | mk a nx bs wl =>
  show note nx B []=[B]
  have h2':B<nx:=hB
  unfold note
  have:Nat.ble nx B=false:=by
   cases q:Nat.ble nx B with
   | false=>rfl
   | true=>exact absurd (qgw q) (by omega)
  rw[this];rfl
 refine⟨_,kf (n:=1) (o:=o) h3' hcv rfl (by omega) (by simpa using hv),hlog,s2.congr (qx _ _ _),by rw[wb,s3,qt],kj _ _,?_,λX hX=>by rw[qx,s5 X hX,qm]⟩
 rw[km,hlog]
 exact yE λC hC=>by rw[qgu.1 hC];exact hb
theorem Rd.congr {α:Type}{v:Value}{e:Nat}{f:α->List Value}{es:List α}(h:Rd m v e f es)(hn:m.n<=m'.n)(k:∀B,blk v=some B->m'.obj B=m.obj B):Rd m' v e f es:=by
 refine⟨h.len,λi r hr=>?_,by rw[gR k];exact h.all,λB hB=>qgs (h.lt B hB) hn⟩
 obtain⟨h1,h2,h3⟩:=h.row i r hr
 refine⟨h1,qgs h2 hn,?_⟩
 cases v with
 | slice a n c =>
  cases a with
  | none=>cases h1
  | some a =>
   rw[<-h3]
   unfold loads cellsOf
   rw[show (adr e (.slice (some a) n c) i).block=a.block from rfl,k _ rfl]
 | _=>cases h1
end
def nums (l:List Nat):List Value:=l.map λ(n:Nat)=>Value.int .i64 (n:Int)
theorem yF (l:List Nat)(i x:Nat):(nums l).set i (.int .i64 x)=nums (l.set i x):=by unfold nums;rw[List.map_set]
theorem jG (l:List Nat):(nums l).length=l.length:=by unfold nums;simp
theorem kW (l:List Nat)(i:Nat)(x:Nat)(h:l[i]?=some x):(nums l)[i]?=some (.int .i64 x):=by unfold nums;simp[h]
theorem qba (n:Nat):rep n [zI]=nums (List.replicate n 0):=by
 unfold nums
 induction n with
 | zero=>rfl
 | succ n ih=>unfold rep;rw[ih,List.replicate_succ];rfl
theorem yy (B n i:Nat)(h:i<n):wZ 1 (.slice (some ⟨B,0,some 3⟩) n n) (.int .i64 i)=some (.pointer (some ⟨B,i,none⟩)):=by
 show (bif Nat.blt i n then WW (i*1) ⟨B,0,some 3⟩ else none)=_
 rw[show Nat.blt i n=true from qgv h]
 show some (Value.pointer (some ⟨B,0+i*1,none⟩))=_
 rw[Nat.zero_add,Nat.mul_one]
theorem Fh {m:M}{B:Nat}{l:List Nat}(h:Arr m B (nums l))(hB:B<m.n):Rd m (.slice (some ⟨B,0,some 3⟩) l.length l.length) 1 (λ(n:Nat)=>[Value.int .i64 (n:Int)]) l:=by
 refine⟨rfl,λi r hr=>?_,?_,λC hC=>by cases hC;exact hB⟩
 .have hi:=(qgp.1 hr).1
  refine⟨?_,hB,?_⟩
  .rw[yy B _ i hi]
   show _=some (Value.pointer (some ⟨B,0+i*1,none⟩))
   rw[Nat.zero_add,Nat.mul_one]
  .show loads m ⟨B,0+i*1,none⟩ 1=_
   rw[Nat.zero_add,Nat.mul_one,h.loads (by rw[jG];omega),List.take_one,List.head?_drop,kW l i r hr];rfl
 .show loads m _ (l.length*1)=_
  rw[h.loads (by rw[jG];omega),List.drop_zero,Nat.mul_one,show l.length=(nums l).length from (jG l).symm,List.take_length]
  have key:∀l:List Nat,nums l=l.flatMap (λ(n:Nat)=>[Value.int .i64 (n:Int)]):=by
   intro l
   unfold nums
   induction l with
   | nil=>rfl
   | cons x l ih=>rw[List.map_cons,ih,List.flatMap_cons];rfl
  rw[key]
end Go.Dx
namespace Go.Dx
@[simp] theorem qfz (e b:Nat) (zs:List Value) (l c:V) (x:Ex) (t:Tm) (m:M):kH e b zs l c x t m=bi e b zs (l t) (c t) m:=_root_.id rfl
theorem Fm {n:Nat}(h:n<=1000)(m:M):bi 1 8 [zI] (.int .i64 (n:Int)) (.int .i64 (n:Int)) m=some (.slice (some ⟨m.n,0,some 3⟩) n n,newRow m (nums (List.replicate n 0))):=by
 show (bif Nat.ble n n&&Nat.ble (n*8) most&&Nat.ble n 4611686018427387904&&Nat.ble (n*1) 1048576 then some (Value.slice (some ⟨m.n,0,some (code 1 true)⟩) n n,newRow m (rep n [zI])) else none)=_
 rw[qgv (qgq n),qgv (by unfold most;omega),qgv (by omega),qgv (by omega),qba]
 rfl
@[simp] theorem qgk (l:List (Nat × FP)) (x:FP) (i:Nat) (inc:List Nat):meets l x (i::inc)=((match vg i l with | some y=>FP.meet y x | none=>true)&&meets l x inc):=rfl
@[simp] theorem fpAt_nil (i:Nat):vg i []=none:=rfl
@[simp] theorem fpAt_cons (i j:Nat) (x:FP) (l:List (Nat × FP)):vg i ((j,x)::l)=if i=j then some x else vg i l:=by
 show (bif Nat.beq i j then some x else vg i l)=_
 by_cases h:i=j
 .subst h;rw[Nat.beq_refl,if_pos rfl];rfl
 .rw[if_neg h,bQ h];rfl
@[simp] theorem meet_qq (a b:Option Nat):FP.meet ⟨a,[]⟩ ⟨b,[]⟩=true:=rfl
@[simp] theorem meet_rw (B C:Nat) (b:Option Nat):FP.meet ⟨some B,[]⟩ ⟨b,[C]⟩=!decide (B=C):=by
 show (!(Nat.beq B C||false))=_
 by_cases h:B=C
 .subst h;simp[Nat.beq_refl]
 .rw[bQ h];simp[h]
end Go.Dx
namespace Go.Sx
open Go.Dx Go.Proofs
structure kU (es:List (Int × Int))(ce:List Nat)(b c:Nat)(l:List Nat):Prop where
 ex:∃k0,k0<es.length/\ce[(b+k0)%es.length]?=some c/\qv es (ahN es.length ((b+k0)%es.length))=false /\
  (∀k,k<k0->∃c',ce[(b+k)%es.length]?=some c'/\(c'=c->qv es (ahN es.length ((b+k)%es.length))=true))/\l[0]?=some ((b+k0)%es.length)
 ch:BP es l
 len:l.length<=1000
def wy (es:List (Int × Int))(s:List Nat × Nat)(i:Nat):List Nat × Nat :=
 if qu es i then (s.1.set i (s.2+1),s.2+1) else if (eAt es (ahN es.length i)).1=1 then (s.1.set i (s.1.getD (ahN es.length i) 0),s.2) else s
theorem XQ (es:List (Int × Int))(s:List Nat × Nat)(i:Nat):(wy es s i).1.length=s.1.length:=by unfold wy;split<;>(try split)<;>simp
theorem yP (es:List (Int × Int)):∀(l:List Nat) (s:List Nat × Nat),(l.foldl (wy es) s).1.length=s.1.length
 | [],_=>rfl
 | i::l,s=>by rw[List.foldl_cons,yP es l,XQ]
theorem WU (es:List (Int × Int)):∀(l:List Nat) (s:List Nat × Nat),(l.foldl (wy es) s).2<=s.2+l.length
 | [],_=>qgq _
 | i::l,s=>by
  rw[List.foldl_cons]
  refine qgz (WU es l _) ?_
  have:(wy es s i).2<=s.2+1:=by unfold wy;split<;>(try split)<;>simp
  simp;omega
theorem qdo (n:Nat)(p:Addr)(c:Nat)(m:M):(ex Tryz.prog (n+1)).f 39 [.pointer (some p),iv c] m=some (.func (.func 51) #[] #[.pointer (some ⟨m.n,0,none⟩),.pointer (some ⟨m.n+1,0,none⟩)],Dx.newRow (Dx.newRow m [.pointer (some p)]) [iv c]):=by
 have:Dx.Call (ex Tryz.prog (n+1)) 39 [.pointer (some p),iv c] m λv m'=>v=.func (.func 51) #[] #[.pointer (some ⟨m.n,0,none⟩),.pointer (some ⟨m.n+1,0,none⟩)]/\m'=Dx.newRow (Dx.newRow m [.pointer (some p)]) [iv c]:=by
  refine qy dd3_ok (by simp) ?_
  have h1:yf (.pointer (some p)) m=some (.pointer (some ⟨m.n,0,none⟩),Dx.newRow m [.pointer (some p)]):=rfl
  have h2:∀m',yf (.int .i64 (c:Int)) m'=some (.pointer (some ⟨m'.n,0,none⟩),Dx.newRow m' [iv c]):=λ_=>rfl
  simp[h1,h2]
  exact qp (by simp) (by simp)
 obtain⟨v,m',e,-,rfl,rfl⟩:=this
 exact e
theorem BC (n:Nat)(PB B1 B3 A7 L1:Nat)(ed av:Value)(es:List (Int × Int))(ce:List Nat)(b:Nat)(hes:es.length<=16)(hok:∀(i:Nat) e,es[i]?=some e->zx e=false)(va:List Nat)(last:Nat)(hva:va.length=es.length)(hla:last<=2000)
  (i:Nat) (hi:i<es.length) (T:Tm) (ca cb:Code) (m:M) (hm:m.base<=m.n) (hP:Pl m PB ed av es ce b) (p7:∀s,load1 m ⟨PB,7,s⟩=some (.slice (some ⟨A7,0,some 3⟩) es.length es.length)) (w1:∀s,load1 m ⟨B1,0,s⟩=some (.pointer (some ⟨PB,0,none⟩)))
  (hA:Arr m A7 (nums va)) (hB:Arr m B3 [iv last]) (h1:B1<m.n) (h7:A7<m.n) (h3:B3<m.n) (hL:L1<m.n) (bA:m.base<=A7) (bB:m.base<=B3) (hAB:A7≠B3) (hPA:PB≠A7) (hPB:PB≠B3) (h1A:B1≠A7) (h1B:B1≠B3) (hLA:L1≠A7) (hLB:L1≠B3)
  (heA:∀C,blk ed=some C->C≠A7/\C≠B3) (hob:m.obj L1=some (.loop 1 T 59 #[15] ca cb none)) (T1:Tm.get 1 T=.pointer (some ⟨B1,0,none⟩)) (T3:Tm.get 3 T=.pointer (some ⟨B3,0,none⟩)) :
  Rnd (λe m2=>m2.obj L1=some (.loop 1 T 59 #[15] ca cb none)/\e=none/\Dx.Rest m.n [A7,B3] m m2/\Arr m2 A7 (nums (wy es (va,last) i).1)/\Arr m2 B3 [iv (wy es (va,last) i).2])
   (YE (ex Tryz.prog (n+2)) (zW none) vZ (zW (some .ret)) (Tm.set 4 (iv i) (Tm.set 15 (iv i) T)) m):=by
 unfold YE
 obtain⟨e,he⟩:∃e,es[i]?=some e:=⟨_,qgn hi⟩
 have hfe:qu es i=zv e.1:=by unfold qu;rw[zm he]
 obtain⟨v1,m1,g1,g2,rfl⟩:=Zw n PB ed es e i he (zc (hok i e he)).1 (zc (hok i e he)).2 m hm (hP.p0 none) hP.hed
 have hS:=Sees.refl hm
 have hS1:=hS.ext g2
 have P1:=hP.sees hS1
 have w1':∀s,load1 m1 ⟨B1,0,s⟩=some (.pointer (some ⟨PB,0,none⟩)):=λs=>(we (g2.obj _ h1) 0 s).trans (w1 s)
 have p7':∀s,load1 m1 ⟨PB,7,s⟩=some (.slice (some ⟨A7,0,some 3⟩) es.length es.length):=λs=>(we (g2.obj _ hP.lt) 7 s).trans (p7 s)
 have hA1:=hA.ext g2 h7
 have hB1:=hB.ext g2 h3
 have ob1:m1.obj L1=some (.loop 1 T 59 #[15] ca cb none):=(g2.obj _ hL).trans hob
 have R1:Dx.Rest m.n [A7,B3] m m1:=(g2.upto (qgq _)).rest _
 have hidx:∀j,j<es.length->wZ 1 (.slice (some ⟨A7,0,some 3⟩) es.length es.length) (.int .i64 j)=some (.pointer (some ⟨A7,j,none⟩)):=λj hj=>yy A7 _ j hj
 simp[T1,T3,w1,g1,xP]
 cases hf:zv e.1 with
 | true =>
  have hstep:wy es (va,last) i=(va.set i (last+1),last+1):=by unfold wy;rw[hfe,hf];rfl
  have wl:=wL (i:=last) (by omega)
  obtain⟨m2,s1,s2,s3,s4,s5,s6⟩:=qcr (o:=0) (v:=iv (last+1:Nat)) hB1 (by simp) rfl (by rw[g2.base];omega)
  have s2':Arr m2 B3 [iv (last+1:Nat)]:=s2
  have hA2:=hA1.congr (s6 A7 hAB)
  obtain⟨m3,r1,r2,r3,r4,r5,r6,r7⟩:=KY (o:=i) (v:=iv (last+1:Nat)) hA2 (by rw[s3];have:=g2.n;omega) (by rw[jG];omega) rfl (by rw[s4,g2.base];omega)
  have lB3:=hB1.load1 0
  have lB3':=s2'.load1 0
  have w2:∀s,load1 m2 ⟨B1,0,s⟩=some (.pointer (some ⟨PB,0,none⟩)):=λs=>(we (s6 _ h1B) 0 s).trans (w1' s)
  have p72:∀s,load1 m2 ⟨PB,7,s⟩=some (.slice (some ⟨A7,0,some 3⟩) es.length es.length):=λs=>(we (s6 _ hPB) 7 s).trans (p7' s)
  rw[Int.natCast_add]at wl s1 r1
  have wl':IntKind.i64.wrap ((last:Int)+1)=(last:Int)+1:=wl
  have s1':wt 1 (.pointer (some ⟨B3,0,none⟩)) (.int .i64 ((last:Int)+1)) m1=some (undef,m2):=s1
  have r1':wt 1 (.pointer (some ⟨A7,i,none⟩)) (.int .i64 ((last:Int)+1)) (qc m2)=some (undef,m3):=r1
  simp[T1,T3,lB3,wl',s1',w2,p72,lB3',hidx i hi,r1']
  refine zJ ⟨by rw[r7 _ hLA,s6 _ hLB];exact ob1,rfl,R1.trans ⟨by rw[r4,s3];exact qgq _,λX _ hX=>by simp at hX;rw[r7 _ hX.1,s6 _ hX.2],by rw[r5,s4],by rw[r6,s5]⟩,?_,?_⟩
  .rw[hstep];have:=r3;rw[show (iv ((last+1:Nat):Int))=Value.int .i64 ((last+1:Nat):Int) from rfl,yF]at this;exact this
  .rw[hstep];exact s2'.congr (r7 _ (Ne.symm hAB))
 | false =>
  have hai:=fL hi
  obtain⟨e',he'⟩:∃e,es[ahN es.length i]?=some e:=⟨_,qgn hai⟩
  have ⟨d1,d2,d3⟩:=P1.hed.at he'
  have d4:∀m'',Sees m1 m''->load1 m'' ⟨(adr 2 ed (ahN es.length i)).block,(adr 2 ed (ahN es.length i)).off,none⟩=some (iv e'.1):=λm'' h=>d3 m'' 0 none h (by simp[edgeRow])
  have c1:=Call.use (m0:=m1) λm'' h=>vn (n+1) PB ed es.length i hi (by omega) m'' ((P1.sees h).p0 none) P1.hed.len
  have wS:∀m'',Sees m1 m''->∀s,load1 m'' ⟨B1,0,s⟩=some (.pointer (some ⟨PB,0,none⟩)):=λm'' h s=>(qQ h (by have:=g2.n;omega)).trans (w1' s)
  have pS:∀m'',Sees m1 m''->∀s,load1 m'' ⟨PB,0,s⟩=some ed:=λm'' h=>(P1.sees h).p0
  have hS1':=hS1.self
  simp (maxDischargeDepth:=30) [T1,T3,wS,pS,hS1',c1,d1,d4]
  obtain⟨m2,hm2⟩:=qhd (behind m1 (aft (ex Tryz.prog (n+2)) 20 [Value.pointer (some ⟨PB,0,none⟩),Value.int IntKind.i64 i] (qc m1)))
  have E2:Ext m1 m2:=by rw[hm2];simp (maxDischargeDepth:=30) [hS1',c1]
  rw[<-hm2]
  have R2:Dx.Rest m.n [A7,B3] m m2:=R1.trans ((E2.upto (g2.n)).rest _)
  have ob2:m2.obj L1=some (.loop 1 T 59 #[15] ca cb none):=(E2.obj _ (by have:=g2.n;omega)).trans ob1
  have hA2:=hA1.ext E2 (by have:=g2.n;omega)
  have hB2:=hB1.ext E2 (by have:=g2.n;omega)
  by_cases hk:e'.1=1
  .have hstep:wy es (va,last) i=(va.set i (va.getD (ahN es.length i) 0),last):=by unfold wy;rw[hfe,hf,zm he',if_neg (by simp),if_pos hk]
   obtain⟨q,hq⟩:∃q,va[ahN es.length i]?=some q:=⟨_,qgn (by omega)⟩
   have hqd:va.getD (ahN es.length i) 0=q:=by simp[hq]
   have hS2:=hS1'.ext E2
   have hS2':=hS2.self
   have c2:=Call.use (m0:=m2) λm'' h=>vn (n+1) PB ed es.length i hi (by omega) m'' ((P1.sees (hS2.trans h)).p0 none) P1.hed.len
   have wS2:∀m'',Sees m2 m''->∀s,load1 m'' ⟨B1,0,s⟩=some (.pointer (some ⟨PB,0,none⟩)):=λm'' h s=>wS m'' (hS2.trans h) s
   have p7S:∀m'',Sees m2 m''->∀s,load1 m'' ⟨PB,7,s⟩=some (.slice (some ⟨A7,0,some 3⟩) es.length es.length):=λm'' h s=>(qQ (hS2.trans h) (by have:=g2.n;have:=hP.lt;omega)).trans (p7' s)
   have lA:∀m'',Sees m2 m''->load1 m'' ⟨A7,ahN es.length i,none⟩=some (iv q):=λm'' h=>by rw[qQ h (by have:=g2.n;have:=E2.n;omega),hA2.load1];exact kW _ _ _ hq
   simp (maxDischargeDepth:=30) [hk,T1,T3,wS2,p7S,hS2',c2,hidx i hi,hidx _ hai,lA]
   obtain⟨m3,hm3⟩:=qhd (behind m2 (aft (ex Tryz.prog (n+2)) 20 [Value.pointer (some ⟨PB,0,none⟩),Value.int IntKind.i64 i] (qc m2)))
   have E3:Ext m2 m3:=by rw[hm3];simp (maxDischargeDepth:=30) [hS2',c2]
   rw[<-hm3]
   have hA3:=hA2.ext E3 (by have:=g2.n;have:=E2.n;omega)
   obtain⟨m4,r1,r2,r3,r4,r5,r6,r7⟩:=KY (o:=i) (v:=iv q) hA3 (by have:=g2.n;have:=E2.n;have:=E3.n;omega) (by rw[jG];omega) rfl (by rw[E3.base,E2.base,g2.base];omega)
   simp[r1]
   refine zJ ⟨by rw[r7 _ hLA,E3.obj _ (by have:=g2.n;have:=E2.n;omega)];exact ob2,rfl,R2.trans ⟨by rw[r4];exact E3.n,λX hX1 hX=>by simp at hX;rw[r7 _ hX.1,E3.obj _ (by have:=R2.n;omega)],by rw[r5,E3.base],by rw[r6,E3.log]⟩,?_,?_⟩
   .rw[hstep,hqd];rw[yF]at r3;exact r3
   .rw[hstep];exact (hB2.ext E3 (by have:=g2.n;have:=E2.n;omega)).congr (r7 _ (Ne.symm hAB))
  .have hstep:wy es (va,last) i=(va,last):=by unfold wy;rw[hfe,hf,zm he',if_neg (by simp),if_neg hk]
   simp[hk]
   exact zJ ⟨ob2,rfl,R2,by rw[hstep];exact hA2,by rw[hstep];exact hB2⟩
end Go.Sx
namespace Go.Sx
open Go.Dx Go.Proofs
theorem Pl.rest {m m':M}{PB:Nat}{ed av:Value}{es:List (Int × Int)}{ce:List Nat}{b N:Nat}{ex:List Nat}(h:Pl m PB ed av es ce b)(k:Dx.Rest N ex m m')(h1:PB<N)(h2:PB ∉ ex)(h3:∀C,blk ed=some C->C<N/\C ∉ ex)(h4:∀C,blk av=some C->C<N/\C ∉ ex):Pl m' PB ed av es ce b :=
 ⟨qgs h.lt k.n,λs=>(we (k.obj _ h1 h2) 0 s).trans (h.p0 s),λs=>(we (k.obj _ h1 h2) 2 s).trans (h.p2 s),λs=>(we (k.obj _ h1 h2) 6 s).trans (h.p6 s),
  h.hed.congr k.n λB hB=>k.obj B (h3 B hB).1 (h3 B hB).2,h.hav.congr k.n λB hB=>k.obj B (h4 B hB).1 (h4 B hB).2⟩
def jm (es:List (Int × Int))(ch:Nat->List Nat)(va:List Nat)(c:Nat):List Nat:=((List.range c).foldl (λva c=>((ch c).foldl (wy es) (va,0)).1) va)
theorem gu (es:List (Int × Int))(ch:Nat->List Nat)(va:List Nat)(c:Nat):jm es ch va (c+1)=((ch c).foldl (wy es) (jm es ch va c,0)).1:=by
 unfold jm;rw[List.range_succ,List.foldl_append];rfl
theorem Zb (es:List (Int × Int))(ch:Nat->List Nat)(va:List Nat):∀c,(jm es ch va c).length=va.length
 | 0=>rfl
 | c+1=>by rw[gu,yP,Zb es ch va c]
theorem qd6 (n:Nat)(PB A7:Nat)(ed av:Value)(es:List (Int × Int))(ce:List Nat)(b cells:Nat)(ch:Nat->List Nat)(va:List Nat)(hes:es.length<=16)(hb:b<es.length)(hcells:cells<=1000)(hok:∀(i:Nat) e,es[i]?=some e->zx e=false)
  (hva:va.length=es.length) (m:M) (hm:m.base<=m.n) (hP:Pl m PB ed av es ce b) (p4:∀s,load1 m ⟨PB,4,s⟩=some (iv cells)) (p7:∀s,load1 m ⟨PB,7,s⟩=some (.slice (some ⟨A7,0,some 3⟩) es.length es.length)) (hA:Arr m A7 (nums va)) (h7:A7<m.n) (bA:m.base<=A7) (hPA:PB≠A7)
  (heA:∀C,blk ed=some C->C≠A7) (hvA:∀C,blk av=some C->C≠A7) (hch:∀c,c<cells->kU es ce b c (ch c)) :
  ∃m',(ex Tryz.prog (n+7)).f 21 [.pointer (some ⟨PB,0,none⟩)] m=some (.tuple #[],m')/\Dx.Rest m.n [A7] m m'/\Arr m' A7 (nums (jm es ch va cells)):=by
 have main:∃v m',(ex Tryz.prog (n+7)).f 21 [.pointer (some ⟨PB,0,none⟩)] m=some (v,m')/\v=.tuple #[]/\Dx.Rest m.n [A7] m m'/\Arr m' A7 (nums (jm es ch va cells)):=by
  refine bU db6_ok (by simp) ?_
  have hbox:yf (.pointer (some ⟨PB,0,none⟩)) m=some (.pointer (some ⟨m.n,0,none⟩),Dx.newRow m [.pointer (some ⟨PB,0,none⟩)]):=rfl
  obtain⟨m1,hm1⟩:=qhd (Dx.newRow m [.pointer (some ⟨PB,0,none⟩)])
  have E1:Ext m m1:=by rw[hm1];exact Ext.row _ _
  have n1:m1.n=m.n+1:=by rw[hm1,qz]
  have lB1:∀s,load1 m1 ⟨m.n,0,s⟩=some (.pointer (some ⟨PB,0,none⟩)):=λs=>by rw[hm1,(Arr.row m _).load1];rfl
  rw[<-hm1]at hbox
  have p41:∀s,load1 m1 ⟨PB,4,s⟩=some (iv cells):=λs=>(we (E1.obj _ hP.lt) 4 s).trans (p4 s)
  have P1:=hP.sees ((Sees.refl hm).ext E1)
  simp[hbox,lB1,p41]
  refine qR (c:=DG) rfl (Ends _) (λc t m'=>Tm.get 1 t=.pointer (some ⟨m.n,0,none⟩)/\Tm.get 8 t=iv cells/\Tm.get 9 t=iv c/\Dx.Rest m1.n [A7] m1 m'/\Arr m' A7 (nums (jm es ch va c))) cells (by omega)
   ⟨by simp,by simp,by simp,Rest.refl,hA.ext E1 h7⟩ (λc t m' k hc hI hk=>?_)
  obtain⟨h1,h8,h9,hR,hAr⟩:=hI
  by_cases hcl:c<cells
  .have hd:=dlt hcl
   have w1:=wL (i:=c) (by omega)
   have hbase:m'.base<=m'.n:=by rw[hR.base,E1.base];have:=hR.n;omega
   obtain⟨m2,s1,s2,s3,s4,s5,s6⟩:=qcr (o:=0) (v:=iv 0) (Arr.row m' [zI]) (by simp) rfl (by unfold Dx.newRow;rw[M.base_alloc];exact hbase)
   rw[qz]at s3
   have sobj:∀X,X<m'.n->m2.obj X=m'.obj X:=λX hX=>(s6 X (by omega)).trans ((Ext.row m' _).obj X hX)
   have sbase:m2.base=m'.base:=s4.trans (Ext.row m' [zI]).base
   have slog:m2.log=m'.log:=s5.trans (Ext.row m' [zI]).log
   have lB1':∀s,load1 m2 ⟨m.n,0,s⟩=some (.pointer (some ⟨PB,0,none⟩)):=λs=>by
    rw[we ((sobj _ (by have:=hR.n;omega)).trans (hR.obj _ (by omega) (by simp;omega)))];exact lB1 s
   have hcc:=qdo (n+5) ⟨PB,0,none⟩ c m2
   simp[h1,h8,h9,hd,s1,lB1',hcc]
   obtain⟨m3,hm3⟩:=qhd (Dx.newRow (Dx.newRow m2 [.pointer (some ⟨PB,0,none⟩)]) [iv c])
   rw[<-hm3]
   have E3:Ext m2 m3:=by rw[hm3];exact (Ext.row _ _).trans (Ext.row _ _)
   have n3:m3.n=m2.n+2:=by rw[hm3,qz,qz]
   generalize hT0:Tm.set 14 _ _=T0
   have t1:Tm.get 1 T0=.pointer (some ⟨m.n,0,none⟩):=by rw[<-hT0];simp[h1]
   have t3:Tm.get 3 T0=.pointer (some ⟨m'.n,0,none⟩):=by rw[<-hT0];simp
   have t8:Tm.get 8 T0=iv cells:=by rw[<-hT0];simp[h8]
   have t9:Tm.get 9 T0=iv c:=by rw[<-hT0];simp[h9]
   have t14:Tm.get 14 T0=.func (.func 51) #[] #[.pointer (some ⟨m2.n,0,none⟩),.pointer (some ⟨m2.n+1,0,none⟩)]:=by rw[<-hT0];simp
   clear hT0
   obtain⟨T,hT⟩:=qhd (xj [3,1] T0)
   have T1:Tm.get 1 T=.pointer (some ⟨m.n,0,none⟩):=by rw[hT];exact (yw 1 (by omega) T0 _ (by simp) (by simp)).trans t1
   have T3:Tm.get 3 T=.pointer (some ⟨m'.n,0,none⟩):=by rw[hT];exact (yw 3 (by omega) T0 _ (by simp) (by simp)).trans t3
   have ha:=BI
   have hbb:=BM
   obtain⟨ca,hca⟩:∃ca:Code,ca=(cL (cL (cR (cR (cR (cL (cL (cR (cR (cL (cL (cR (cR (wu Tryz.f21)))))))))))))):=⟨_,rfl⟩
   obtain⟨cb,hcb⟩:∃cb:Code,cb=(cR (cL (cR (cR (cR (cL (cL (cR (cR (cL (cL (cR (cR (wu Tryz.f21)))))))))))))):=⟨_,rfl⟩
   rw[<-hca]at ha;rw[<-hcb]at hbb
   obtain⟨mE,hmE⟩:=qhd (m3.alloc (.loop 0 T 59 #[15] ca cb none))
   have nE:mE.n=m3.n+1:=by rw[hmE,M.n_alloc]
   have eE:∀X,X<m3.n->mE.obj X=m3.obj X:=λX hX=>by rw[hmE,M.obj_alloc,if_neg (by omega)]
   have bE:mE.base=m.base:=by rw[hmE,M.base_alloc,E3.base,sbase,hR.base,E1.base]
   have lE:mE.log=m.log:=by rw[hmE,M.log_alloc,E3.log,slog,hR.log,E1.log]
   have RE:Dx.Rest m1.n [A7] m1 mE:=hR.trans ⟨by omega,λX hX _=>by rw[eE X (by have:=hR.n;omega),E3.obj X (by have:=hR.n;omega),sobj X (by have:=hR.n;omega)],by rw[bE,hR.base,E1.base],by rw[lE,hR.log,E1.log]⟩
   have obE:mE.obj m3.n=some (.loop 0 T 59 #[15] ca cb none):=by rw[hmE,M.obj_alloc,if_pos rfl]
   have PE:Pl mE PB ed av es ce b:=P1.rest RE (by have:=hP.lt;omega) (by simpa using hPA) (λC hC=>⟨by have:=hP.hed.lt C hC;omega,by simpa using heA C hC⟩) (λC hC=>⟨by have:=hP.hav.lt C hC;omega,by simpa using hvA C hC⟩)
   have p7E:∀s,load1 mE ⟨PB,7,s⟩=some (.slice (some ⟨A7,0,some 3⟩) es.length es.length):=λs=>by
    rw[we (RE.obj PB (by have:=hP.lt;omega) (by simpa using hPA)),we (E1.obj _ hP.lt)];exact p7 s
   have lB1E:∀s,load1 mE ⟨m.n,0,s⟩=some (.pointer (some ⟨PB,0,none⟩)):=λs=>(we (RE.obj _ (by omega) (by simp;omega)) 0 s).trans (lB1 s)
   have hAE:Arr mE A7 (nums (jm es ch va c)):=hAr.congr (by rw[eE _ (by have:=hR.n;omega),E3.obj _ (by have:=hR.n;omega),sobj _ (by have:=hR.n;omega)])
   have hBE:Arr mE m'.n [iv 0]:=by
    have:Arr m2 m'.n [iv 0]:=s2
    exact this.congr (by rw[eE _ (by omega),E3.obj _ (by omega)])
   have w1E:∀s,load1 mE ⟨m2.n,0,s⟩=some (.pointer (some ⟨PB,0,none⟩)):=λs=>by
    rw[we (eE _ (by omega)),hm3,we ((Ext.row (Dx.newRow m2 [.pointer (some ⟨PB,0,none⟩)]) [iv c]).obj _ (by rw[qz];omega)),(Arr.row m2 _).load1];rfl
   have w2E:∀s,load1 mE ⟨m2.n+1,0,s⟩=some (iv c):=λs=>by
    have:=(Arr.row (Dx.newRow m2 [.pointer (some ⟨PB,0,none⟩)]) [iv c]).load1 0 s
    rw[qz]at this
    rw[we (eE _ (by omega)),hm3,this];rfl
   obtain⟨⟨k0,hk0,hm1',hm2',hpre,hl0⟩,hcha,hlen⟩:=hch c hcl
   let S:Nat->List Nat × Nat:=λj=>((ch c).take j).foldl (wy es) (jm es ch va c,0)
   have hSl:∀j,(S j).1.length=es.length:=λj=>by simp only[S];rw[yP,Zb,hva]
   have hS2:∀j,(S j).2<=2000:=λj=>by
    have:=WU es ((ch c).take j) (jm es ch va c,0)
    have h2:((ch c).take j).length<=1000:=by rw[List.length_take];omega
    simp only[S];simp at this h2;omega
   obtain⟨m5,hrun,j5⟩:=qa6 (n+2) m3.n PB m2.n (m2.n+1) ed av es ce b c hes hb k0 hk0 hm1' hm2' hpre (ch c) hcha hl0 hlen
    (λj m''=>Dx.Rest mE.n [A7,m'.n,m3.n] mE m''/\Arr m'' A7 (nums (S j).1)/\Arr m'' m'.n [iv (S j).2]/\m''.obj m3.n=some (.loop 0 T 59 #[15] ca cb none)) mE (by rw[bE];have:=hR.n;omega)
    (λj m'' h=>⟨h.1.base,h.1.n,PE.rest h.1 (by have:=hP.lt;have:=hR.n;omega) (by simp;have:=hP.lt;have:=hR.n;exact⟨hPA,by omega,by omega⟩)
      (λC hC=>by have:=hP.hed.lt C hC;have:=hR.n;exact⟨by omega,by simp;exact⟨heA C hC,by omega,by omega⟩⟩) (λC hC=>by have:=hP.hav.lt C hC;have:=hR.n;exact⟨by omega,by simp;exact⟨hvA C hC,by omega,by omega⟩⟩),
     λs=>(we (h.1.obj _ (by omega) (by simp;have:=hR.n;omega)) 0 s).trans (w1E s),λs=>(we (h.1.obj _ (by omega) (by simp;have:=hR.n;omega)) 0 s).trans (w2E s)⟩)
    (λj ma mb h u=>⟨h.1.trans (u.rest _),h.2.1.congr (u.obj _ (by have:=hR.n;omega)),h.2.2.1.congr (u.obj _ (by omega)),(u.obj _ (by omega)).trans h.2.2.2⟩)
    (λj x m'' hx h=>by
     obtain⟨r1,r2,r3,r4⟩:=h
     have hxl:=hcha.lt x (qgo hx)
     obtain⟨mp,hmp⟩:=qhd (m''.put m3.n (.loop 1 T 59 #[15] ca cb none))
     have op:∀X,X≠m3.n->mp.obj X=m''.obj X:=λX hX=>by rw[hmp,M.obj_put,if_neg hX]
     have np:mp.n=m''.n:=by rw[hmp,M.n_put]
     have bp:mp.base=m''.base:=by rw[hmp,M.base_put]
     have lp:mp.log=m''.log:=by rw[hmp];exact xm (by rw[r1.base,bE];have:=hR.n;omega) _
     have Rp:Dx.Rest mE.n [A7,m'.n,m3.n] mE mp:=r1.trans ⟨by rw[np];exact qgq _,λX _ hX=>op X (by simp at hX;omega),bp,lp⟩
     have hmN:=hR.n
     have hPlt:=hP.lt
     have hrn:=r1.n
     have hrd:=fy (P:=Tryz.prog) (n:=n+2) (L:=m3.n) (args:=[iv x]) (t':=Tm.set 15 (iv x) T) (t'':=Tm.set 4 (iv x) (Tm.set 15 (iv x) T)) (m:=m'')
      (R:=λe m2=>e=none/\Dx.Rest mp.n [A7,m'.n] mp m2/\Arr m2 A7 (nums (wy es (S j) x).1)/\Arr m2 m'.n [iv (wy es (S j) x).2]) r4 ha hbb rfl (by omega) (λk=>by unfold qdd;simp) (by
       rw[<-hmp]
       exact BC n PB m.n m'.n A7 m3.n ed av es ce b hes hok (S j).1 (S j).2 (hSl j) (hS2 j) x hxl T ca cb mp (by rw[bp,r1.base,bE];omega)
        (PE.rest Rp (by omega) (by simp;exact⟨hPA,by omega,by omega⟩) (λC hC=>by have:=hP.hed.lt C hC;exact⟨by omega,by simp;exact⟨heA C hC,by omega,by omega⟩⟩) (λC hC=>by have:=hP.hav.lt C hC;exact⟨by omega,by simp;exact⟨hvA C hC,by omega,by omega⟩⟩))
        (λs=>(we (Rp.obj _ (by omega) (by simp;exact⟨hPA,by omega,by omega⟩)) 7 s).trans (p7E s))
        (λs=>(we (Rp.obj _ (by omega) (by simp;omega)) 0 s).trans (lB1E s))
        (r2.congr (op _ (by omega))) (r3.congr (op _ (by omega))) (by omega) (by omega) (by omega) (by omega) (by rw[bp,r1.base,bE];exact bA) (by rw[bp,r1.base,bE];omega) (by omega) hPA (by omega) (by omega) (by omega) (by omega) (by omega)
        (λC hC=>by have:=hP.hed.lt C hC;exact⟨heA C hC,by omega⟩) (by rw[hmp,M.obj_put,if_pos rfl]) T1 T3)
     obtain⟨e,mq,ho2,⟨rfl,rq,aq,bq⟩,hrd⟩:=hrd
     have hSj:S (j+1)=wy es (S j) x:=by
      simp only[S]
      obtain⟨hjl,rfl⟩:=qgp.1 hx
      rw[List.take_succ_eq_append_getElem hjl,List.foldl_append];rfl
     have hqb:mq.base=m''.base:=rq.base.trans bp
     have hlq:(mq.put m3.n (.loop 0 T 59 #[15] ca cb none)).log=mq.log:=xm (by rw[hqb,r1.base,bE];omega) _
     have hnq:=rq.n
     rw[hSj]
     refine⟨_,hrd,⟨Rp.trans ⟨by rw[M.n_put];exact hnq,λX hX1 hX=>?_,by rw[M.base_put];exact rq.base,by rw[hlq];exact rq.log⟩,aq.congr (by rw[M.obj_put,if_neg (by omega)]),bq.congr (by rw[M.obj_put,if_neg (by omega)]),by rw[M.obj_put,if_pos rfl]⟩,
      ⟨by rw[M.n_put];omega,λX hX1 hX2=>?_,by rw[M.base_put];exact hqb,by rw[hlq,rq.log,lp]⟩⟩
     .simp at hX
      rw[M.obj_put,if_neg hX.2.2];exact rq.obj X (by omega) (by simp;exact⟨hX.1,hX.2.1⟩)
     .rw[M.obj_put,if_neg (by omega),rq.obj X (by omega) (by simp;omega),op X (by omega)])
    ⟨Rest.refl,by simpa [S]using hAE,by simpa [S]using hBE,obE⟩
   obtain⟨r1,r2,r3,r4⟩:=j5
   have hSf:(S (ch c).length).1=jm es ch va (c+1):=by rw[gu];simp only[S];rw[List.take_length]
   rw[hSf]at r2
   refine WO (c:=cb6_9) rfl (g:=51) (u:=[]) (v:=[.pointer (some ⟨m2.n,0,none⟩),.pointer (some ⟨m2.n+1,0,none⟩)]) t14 (r:=.tuple #[]) (m1:=m5) (st:=0) (by rw[<-hT,<-hca,<-hcb,<-hmE];exact hrun) (by rw[hca,hcb]at r4;exact r4) (by omega) ?_
   unfold vI
   simp[t9,w1]
   have hmN:=hR.n
   refine hk hcl _ _ ?_
   refine⟨by simp[t1],by simp[t8],by simp,RE.trans ?_,r2.congr (by rw[M.obj_put,if_neg (by omega)])⟩
   exact⟨by rw[M.n_put];exact r1.n,λX hX1 hX=>by simp at hX;rw[M.obj_put,if_neg (by omega)];exact r1.obj X (by omega) (by simp;exact⟨hX,by omega,by omega⟩),by rw[M.base_put];exact r1.base,by rw[xm (by rw[r1.base,bE];omega)];exact r1.log⟩
  obtain rfl:c=cells:=by omega
  simp[h8,h9]
  exact Zn ⟨rfl,((E1.upto (qgq _)).rest _).trans (hR.less (by omega) (λB hB _=>hB)),hAr⟩
 obtain⟨v,m',e,rfl,h⟩:=main
 exact⟨m',e,h⟩
end Go.Sx
namespace Go.Sx
open Go.Dx Go.Proofs
theorem bD {m0 m:M}{Q:Value->M->Prop}{t:Tm}{p q r:Nat}{a b c:Addr}{u v w:Value}(h1:Tm.get p t=.pointer (some a))(h2:Tm.get q t=.pointer (some b))(h3:Tm.get r t=.pointer (some c))(l1:load1 m a=some u)(l2:load1 m b=some v)(l3:load1 m c=some w)
  (he:Ext m0 m) (hq:Q (.tuple #[u,v,w]) m):Ret m0 Q (kO [.one p,.one q,.one r] t m):=by
 refine dM (l:=[u,v,w]) ?_ he hq
 simp only[vT,gm,h1,h2,h3,yO,qS,l1,l2,l3]
structure LS where
 th:List Nat
 ce:List Nat
 wr:List Nat
 t:Nat
 c:Nat
def kg (es:List (Int × Int))(N:Nat)(s:LS)(i:Nat):LS :=
 ⟨s.th.set i s.t,s.ce.set i (s.c%N),if qu es i then s.wr.set (s.c%N) (s.wr.getD (s.c%N) 0+1) else s.wr,if qv es i then s.t+1 else s.t,if qv es i then s.c else s.c+1⟩
def dw (es:List (Int × Int))(N:Nat):List Nat->LS->Option Nat
 | [],_=>none
 | i::l,s=>if qu es i=true/\2<s.wr.getD (s.c%N) 0+1 then some i else dw es N l (kg es N s i)
def jh (n N:Nat):LS:=⟨List.replicate n 0,List.replicate n 0,List.replicate N 0,0,0⟩
def xk (es:List (Int × Int))(N:Nat)(l:List Nat):LS:=l.foldl (kg es N) (jh es.length N)
structure Laid (m:M)(PB:Nat)(es:List (Int × Int))(ms:List Int)(b N:Nat)(s:LS)(va:List Nat):Prop where
 ex:∃ed md A5 A6 A7 A8,Pl m PB ed (.slice (some ⟨A6,0,some 3⟩) es.length es.length) es s.ce b/\Rd m md 1 modeRow ms /\
  (∀s,load1 m ⟨PB,1,s⟩=some md)/\(∀s,load1 m ⟨PB,3,s⟩=some (iv (es.length-N:Nat)))/\(∀s,load1 m ⟨PB,4,s⟩=some (iv N)) /\
  (∀s,load1 m ⟨PB,5,s⟩=some (.slice (some ⟨A5,0,some 3⟩) es.length es.length))/\(∀s,load1 m ⟨PB,7,s⟩=some (.slice (some ⟨A7,0,some 3⟩) es.length es.length))/\(∀s,load1 m ⟨PB,8,s⟩=some (.slice (some ⟨A8,0,some 3⟩) N N)) /\
  Arr m A5 (nums s.th)/\Arr m A6 (nums s.ce)/\Arr m A7 (nums va)/\Arr m A8 (nums s.wr)/\A5<m.n/\A6<m.n/\A7<m.n/\A8<m.n
def zj (es:List (Int × Int))(ms:List Int):Nat × Nat :=
 if (wn es ms).2≠0 then wn es ms else if cnt es<2\/es.length-cnt es<1 then (0,4) else
 match dw es (es.length-cnt es) (wi es (wM es)) (jh es.length (es.length-cnt es)) with
 | some i=>(i,2)
 | none=>(0,0)
theorem fc {es:List (Int × Int)}{ms:List Int}(h:(wn es ms).2=0):∀(i:Nat) e,es[i]?=some e->zx e=false:=by
 intro i e he
 unfold wn at h
 by_cases h1:16<es.length
 .rw[if_pos h1]at h;simp at h
 .rw[if_neg h1]at h
  by_cases h2:ms.length≠es.length
  .rw[if_pos h2]at h;simp at h
  .rw[if_neg h2]at h
   cases hf:first es.length λi=>zx (eAt es i) with
   | some j=>rw[hf]at h;simp at h
   | none =>
    unfold first at hf
    rw[List.find?_eq_none]at hf
    have:=hf i (by simpa using (qgp.1 he).1)
    rw[zm he]at this
    simpa using this
def layQ (es:List (Int × Int))(ms:List Int)(va:List Nat)(v:Value)(m:M):Prop :=
 ((zj es ms).2≠0/\v=.tuple #[.pointer none,iv (zj es ms).1,iv (zj es ms).2]) \/
 ((zj es ms).2=0/\∃PB,v=.tuple #[.pointer (some ⟨PB,0,none⟩),iv 0,iv 0]/\Laid m PB es ms (wM es) (es.length-cnt es) (xk es (es.length-cnt es) (wi es (wM es))) va)
end Go.Sx
namespace Go.Sx
open Go.Dx Go.Proofs
structure LB where
 c0:Nat
 r2:Nat
 r3:Nat
 r4:Nat
 A5:Nat
 A6:Nat
 A7:Nat
 PB:Nat
 q8:Nat
 ed:Value
 md:Value
 v1:Value
 v2:Value
 n:Nat
 rest:List (Nat × List Value)
def LB.pl (u:LB)(b th ce:Nat)(s8:Value):List Value:=[u.v1,u.v2,iv b,iv th,iv ce,.slice (some ⟨u.A5,0,some 3⟩) u.n u.n,.slice (some ⟨u.A6,0,some 3⟩) u.n u.n,.slice (some ⟨u.A7,0,some 3⟩) u.n u.n,s8]
def LB.σ (u:LB)(b th ce:Nat):List (Nat × List Value):=[(u.q8,[.pointer (some ⟨u.PB,0,none⟩)]),(u.PB,u.pl b th ce zS),(u.A7,nums (List.replicate u.n 0)),(u.A6,nums (List.replicate u.n 0)),(u.A5,nums (List.replicate u.n 0)),
 (u.r4,[zI]),(u.r3,[zI]),(u.r2,[.pointer none]),(u.c0,[u.ed,u.md])]++u.rest
structure LT (u:LB)(t:Tm):Prop where
 t1:Tm.get 1 t=.pointer (some ⟨u.c0,0,none⟩)
 t2:Tm.get 2 t=.pointer (some ⟨u.r2,0,none⟩)
 t3:Tm.get 3 t=.pointer (some ⟨u.r3,0,none⟩)
 t4:Tm.get 4 t=.pointer (some ⟨u.r4,0,none⟩)
 t8:Tm.get 8 t=.pointer (some ⟨u.q8,0,none⟩)
theorem GN (n:Nat)(u:LB)(es:List (Int × Int))(hes:es.length<=16)(m0 m:M)(hed:Rd m0 u.ed 2 edgeRow es)(Q:Option Out->Prop)(kn kr:K)(ke:Nat->K)(t:Tm)(hT:LT u t)(t42:Tm.get 42 t=u.ed)(t43:Tm.get 43 t=iv es.length)(t44:Tm.get 44 t=iv 0)
  (hst:St m0 m (u.σ 0 0 0)) (hQ:∀t' m',LT u t'->St m0 m' (u.σ 0 (cnt es) (es.length-cnt es))->Q (kn t' m')):Q (Vf (ex Tryz.prog (n+1)) kn (jN 0 kn ke) kr t m):=by
 refine qR (c:=Vf) rfl Q (λi t m'=>LT u t/\Tm.get 42 t=u.ed/\Tm.get 43 t=iv es.length/\Tm.get 44 t=iv i/\St m0 m' (u.σ 0 (cnt (es.take i)) (i-cnt (es.take i)))) es.length (by omega)
  ⟨hT,t42,t43,t44,by simpa [cnt]using hst⟩ (λi t m' k hi hI hk=>?_)
 obtain⟨hT,h42,h43,h44,st⟩:=hI
 obtain⟨h1,h2,h3,h4,h8⟩:=hT
 by_cases hil:i<es.length
 .obtain⟨e,he⟩:∃e,es[i]?=some e:=⟨_,qgn hil⟩
  have hS:=st.sees
  have ⟨a1,a2,a3⟩:=(hed.sees hS).at he
  have a2':loads m' (adr 2 u.ed i) 2=some [iv e.1,iv e.2]:=a2 m' hS.self
  have hd:=dlt hil
  have w1:=wL (i:=i) (by omega)
  obtain⟨m2,f1,f2,f3,f4,f5⟩:=jE (m:=m') hS.base (zs:=[zI,zI]) (l:=[iv e.1,iv e.2]) (v:=.agg ⟨[iv e.1,iv e.2]⟩) (n:=2) rfl rfl rfl (by simp[okC])
  obtain⟨v3,m3,g1,g2,rfl⟩:=yX n e.1 e.2 m2
  have st3:=(st.step f4).step g2
  have hc:=qa8 he
  have hcl:=cnt_le es i
  have l8:=(st3.get 0 rfl).2.2.load1 0
  have lp3:=(st3.get 1 rfl).2.2.load1 3
  have lp4:=(st3.get 1 rfl).2.2.load1 4
  simp[LB.pl]at lp3 lp4 l8
  simp[h1,h8,h42,h43,h44,hd,a1,a2',qe,f1,f3,g1,l8,lp3,lp4]
  by_cases ho:e.1<=3
  .have hoe:jK e=true:=by simpa [jK]using ho
   rw[hoe,if_pos rfl]at hc
   obtain⟨m4,s1,s2,s3,s4⟩:=st3.store 1 rfl (o:=3) (v:=iv (cnt (es.take (i+1)))) (by simp[LB.pl]) rfl
   have wc:=wL (i:=cnt (es.take i)) (by omega)
   rw[<-hc]at wc
   simp[ho,h8,l8,wc,lp3,s1,h44,w1]
   refine hk hil _ _ ?_
   refine⟨⟨by simp[h1],by simp[h2],by simp[h3],by simp[h4],by simp[h8]⟩,by simp[h42],by simp[h43],by simp,?_⟩
   rw[show i+1-cnt (es.take (i+1))=i-cnt (es.take i) by omega]
   exact s2
  .have hoe:jK e=false:=by simpa [jK]using ho
   rw[hoe,if_neg (by simp)]at hc
   obtain⟨d,hdd⟩:=qhd (i-cnt (es.take i))
   obtain⟨d',hdd'⟩:=qhd (i+1-cnt (es.take (i+1)))
   obtain⟨m4,s1,s2,s3,s4⟩:=st3.store 1 rfl (o:=4) (v:=iv d') (by simp[LB.pl]) rfl
   have wc:=wL (i:=d) (by omega)
   rw[show d+1=d' by omega]at wc
   rw[<-hdd]at lp4
   simp[ho,h8,l8,wc,lp4,s1,h44,w1]
   refine hk hil _ _ ?_
   refine⟨⟨by simp[h1],by simp[h2],by simp[h3],by simp[h4],by simp[h8]⟩,by simp[h42],by simp[h43],by simp,?_⟩
   have:cnt (es.take (i+1))=cnt (es.take i):=by omega
   rw[hdd',this]at s2
   rw[this]
   exact s2
 obtain rfl:i=es.length:=by omega
 rw[List.take_length]at st
 simp[h43,h44]
 exact hQ _ _ ⟨by simp[h1],by simp[h2],by simp[h3],by simp[h4],by simp[h8]⟩ st
theorem GM (n:Nat)(u:LB)(es:List (Int × Int))(hes:es.length<=16)(m0 m:M)(hed:Rd m0 u.ed 2 edgeRow es)(h1d:∀m',Ext m0 m'->True)(hv1:∀m' th ce b,St m0 m' (u.σ b th ce)->za u.v1=some (iv es.length))(th ce b:Nat)(hb:first es.length (Qj es)=some b)
  (Q:Option Out->Prop) (kn kr:K) (ke:Nat->K) (t:Tm) (hT:LT u t)
  (hst:St m0 m (u.σ 0 th ce)) (hQ:∀t' m',LT u t'->St m0 m' (u.σ b th ce)->Q (kn t' m')):Q (Vg (ex Tryz.prog (n+1)) kn (jN 2 kn ke) kr t m):=by
 obtain⟨hbp,hbl,hbb⟩:Qj es b=true/\b<es.length/\∀j,j<b->Qj es j=false:=by
  unfold first at hb
  rw[List.find?_range_eq_some]at hb
  exact⟨hb.1,by simpa using hb.2.1,λj hj=>by simpa using hb.2.2 j hj⟩
 refine qR (c:=Vg) rfl Q (λi t m'=>i<=b/\LT u t/\St m0 m' (u.σ i th ce)) (b+1) (by omega)
  ⟨by omega,hT,hst⟩ (λi t m' k hi hI hk=>?_)
 obtain⟨hib,hT,st⟩:=hI
 obtain⟨h1,h2,h3,h4,h8⟩:=hT
 have hS:=st.sees
 have hil:i<es.length:=by omega
 obtain⟨e,he⟩:∃e,es[ahN es.length i]?=some e:=⟨_,qgn (fL hil)⟩
 have ⟨a1,a2,a3⟩:=(hed.sees hS).at he
 have a2':∀m'',Sees m' m''->loads m'' (adr 2 u.ed (ahN es.length i)) 2=some [iv e.1,iv e.2]:=a2
 have w1:=wL (i:=i) (by omega)
 have hS':=hS.self
 have lc:∀m'',Sees m' m''->∀s,load1 m'' ⟨u.c0,0,s⟩=some u.ed:=λm'' h s=>by rw[qQ h (st.get 8 rfl).2.1,(st.get 8 rfl).2.2.load1];rfl
 have l8:∀m'',Sees m' m''->∀s,load1 m'' ⟨u.q8,0,s⟩=some (.pointer (some ⟨u.PB,0,none⟩)):=λm'' h s=>by rw[qQ h (st.get 0 rfl).2.1,(st.get 0 rfl).2.2.load1];rfl
 have lp0:∀m'',Sees m' m''->∀s,load1 m'' ⟨u.PB,0,s⟩=some u.v1:=λm'' h s=>by rw[qQ h (st.get 1 rfl).2.1,(st.get 1 rfl).2.2.load1];rfl
 have lp2:∀m'',Sees m' m''->∀s,load1 m'' ⟨u.PB,2,s⟩=some (iv i):=λm'' h s=>by rw[qQ h (st.get 1 rfl).2.1,(st.get 1 rfl).2.2.load1];rfl
 have c1:=Call.use (m0:=m') λm'' h=>vn n u.PB u.v1 es.length i hil (by omega) m'' (lp0 m'' h none) (hv1 m' th ce i st)
 have c2:=Call.use (m0:=m') λm'' _=>yX n e.1 e.2 m''
 have hp:Qj es i=decide (e.1<=3):=by unfold Qj qv;rw[zm he];rfl
 simp (maxDischargeDepth:=30) [h1,h8,lc,l8,lp0,lp2,qe,hS',a1,a2',c1,c2]
 obtain⟨m2,hm2⟩:∃m2,m2=behind (behind m' (aft (ex Tryz.prog (n+1)) 20 [Value.pointer (some ⟨u.PB,0,none⟩),Value.int IntKind.i64 i] (qc m')))
  (aft (ex Tryz.prog (n+1)) 19 [Value.agg #[iv e.1,iv e.2]] (qc (behind m' (aft (ex Tryz.prog (n+1)) 20 [Value.pointer (some ⟨u.PB,0,none⟩),Value.int IntKind.i64 i] (qc m'))))):=⟨_,rfl⟩
 have E2:Ext m' m2:=by rw[hm2];simp (maxDischargeDepth:=30) [hS',c1,c2]
 rw[<-hm2]
 have st2:=st.step E2
 have hS2:=hS'.ext E2
 by_cases p6:e.1<=3
 .obtain rfl:i=b:=by
   rcases Nat.lt_or_ge i b with h | h
   .have:=hbb i h;rw[hp,decide_eq_true p6]at this;cases this
   .omega
  simp[p6]
  exact hQ _ _ ⟨by simp[h1],by simp[h2],by simp[h3],by simp[h4],by simp[h8]⟩ st2
 .have hne:i≠b:=by rintro rfl;rw[hp]at hbp;exact p6 (by simpa using hbp)
  obtain⟨j,hj⟩:=qhd (i+1)
  rw[<-hj]at w1 hk
  obtain⟨m4,s1,s2,s3,s4⟩:=st2.store 1 rfl (o:=2) (v:=iv j) (by simp[LB.pl]) rfl
  simp[p6,h8,l8,lp2,hS2,w1,s1]
  refine hk (by omega) _ _ ?_
  exact⟨by omega,⟨by simp[h1],by simp[h2],by simp[h3],by simp[h4],by simp[h8]⟩,s2⟩
end Go.Sx
namespace Go.Sx
open Go.Dx Go.Proofs
structure LC extends LB where
 A8:Nat
 k11:Nat
 k12:Nat
 W:Nat
 N:Nat
 b:Nat
def LC.σ2 (u:LC)(s:LS)(r2 r3 r4:Value):List (Nat × List Value):=[(u.W,[.pointer (some ⟨u.PB,0,none⟩)]),(u.k12,[iv s.c]),(u.k11,[iv s.t]),(u.A8,nums s.wr),(u.q8,[.pointer (some ⟨u.PB,0,none⟩)]),(u.PB,u.pl u.b (u.n-u.N) u.N (.slice (some ⟨u.A8,0,some 3⟩) u.N u.N)),
 (u.A7,nums (List.replicate u.n 0)),(u.A6,nums s.ce),(u.A5,nums s.th),(u.r4,[r4]),(u.r3,[r3]),(u.r2,[r2]),(u.c0,[u.ed,u.md])]++u.rest
theorem _root_.Go.Dx.St.putL {m0 m:M}{σ:List (Nat × List Value)}(h:St m0 m σ){L:Nat}(hL:∀p∈σ,p.1≠L)(h0:m0.n<=L)(o:zV):St m0 (m.put L o) σ :=
 ⟨⟨by rw[M.n_put];exact h.ext.n,λX hX=>by rw[M.obj_put,if_neg (by omega)];exact h.ext.obj X hX,by rw[M.base_put];exact h.ext.base,by rw[xm (by have:=h.ext.base;have:=h.base;omega)];exact h.ext.log⟩,h.base,
  λp hp=>let ⟨h1,h2,h3⟩:=h.arr p hp;⟨h1,by rw[M.n_put];exact h2,h3.congr (by rw[M.obj_put,if_neg (hL p hp)])⟩,h.nd⟩
theorem JY (n:Nat)(u:LC)(es:List (Int × Int))(m0 m:M)(hed:Rd m0 u.ed 2 edgeRow es)(s:LS)(hst16:s.t<=1000)(hsc16:s.c<=1000)(i:Nat)(hi:i<es.length)(L:Nat)(O:zV)(t:Tm)
  (h1:Tm.get 1 t=.pointer (some ⟨u.c0,0,none⟩)) (t11:Tm.get 11 t=.pointer (some ⟨u.k11,0,none⟩)) (t12:Tm.get 12 t=.pointer (some ⟨u.k12,0,none⟩)) (t13:Tm.get 13 t=iv i)
  (hst:St m0 m (u.σ2 s (.pointer none) (iv 0) (iv 0))) (hL:∀p∈u.σ2 s (.pointer none) (iv 0) (iv 0),p.1≠L) (hL0:L<m.n) (hob:m.obj L=some O) (P:Option E->M->Prop)
  (hP:∀m2,m2.obj L=some O->m.n<=m2.n->St m0 m2 (u.σ2 ⟨s.th,s.ce,s.wr,if qv es i then s.t+1 else s.t,if qv es i then s.c else s.c+1⟩ (.pointer none) (iv 0) (iv 0))->P none m2) :
  Rnd P (Vh (ex Tryz.prog (n+2)) (zW none) (jN 5 (zW none) vZ) (zW (some E.ret)) t m):=by
 obtain⟨e,he⟩:∃e,es[i]?=some e:=⟨_,qgn hi⟩
 have hoe:qv es i=decide (e.1<=3):=(vm he).symm
 have hS:=hst.sees
 have ⟨a1,a2,a3⟩:=(hed.sees hS).at he
 have a2':loads m (adr 2 u.ed i) 2=some [iv e.1,iv e.2]:=a2 m hS.self
 have lc:∀s,load1 m ⟨u.c0,0,s⟩=some u.ed:=λs=>by rw[(hst.get 12 rfl).2.2.load1];rfl
 obtain⟨v3,m3,g1,g2,rfl⟩:=yX (n+1) e.1 e.2 m
 rw[vm he]at g1
 have st3:=hst.step g2
 have lk11:∀q,load1 m3 ⟨u.k11,0,q⟩=some (iv s.t):=λq=>by rw[(st3.get 2 rfl).2.2.load1];rfl
 have lk12:∀q,load1 m3 ⟨u.k12,0,q⟩=some (iv s.c):=λq=>by rw[(st3.get 1 rfl).2.2.load1];rfl
 have hne:∀(k:Nat) b l,(u.σ2 s (.pointer none) (iv 0) (iv 0))[k]?=some (b,l)->L≠b:=λk b l hk=>(hL _ (qgo hk)).symm
 have ob3:m3.obj L=some O:=by rw[g2.obj _ hL0];exact hob
 simp[h1,t13,lc,a1,a2',qe,g1]
 cases ho:qv es i with
 | true =>
  have w:=wL (i:=s.t) (by omega)
  obtain⟨j,hj⟩:=qhd (s.t+1)
  rw[<-hj]at w
  obtain⟨m4,r1,r2,r3,r4⟩:=st3.store 2 rfl (o:=0) (v:=iv j) (by simp) rfl
  simp[t11,lk11,w,r1]
  refine zJ (hP _ (by rw[r4 _ (hne 2 _ _ rfl)];exact ob3) (by rw[r3];exact g2.n) ?_)
  rw[ho,<-hj]
  exact r2
 | false =>
  have w:=wL (i:=s.c) (by omega)
  obtain⟨j,hj⟩:=qhd (s.c+1)
  rw[<-hj]at w
  obtain⟨m4,r1,r2,r3,r4⟩:=st3.store 1 rfl (o:=0) (v:=iv j) (by simp) rfl
  simp[t12,lk12,w,r1]
  refine zJ (hP _ (by rw[r4 _ (hne 1 _ _ rfl)];exact ob3) (by rw[r3];exact g2.n) ?_)
  rw[ho,<-hj]
  exact r2
theorem GO (n:Nat)(u:LC)(es:List (Int × Int))(hes:es.length<=16)(hok:∀(i:Nat) e,es[i]?=some e->zx e=false)(m0 m:M)(hed:Rd m0 u.ed 2 edgeRow es)(B1:Nat)(rest':List (Nat × List Value))(hv1:u.v1=.slice (some ⟨B1,0,some (code 2 false)⟩) es.length es.length)(hfe:u.rest=(B1,es.flatMap edgeRow)::rest')(hne:es≠[])
  (hun:u.n=es.length) (hN:0<u.N) (hN16:u.N<=16) (s:LS) (hth:s.th.length=es.length) (hce:s.ce.length=es.length) (hwr:s.wr.length=u.N) (hst16:s.t<=1000) (hsc16:s.c<=1000) (hwb:∀x∈s.wr,x<=1000) (i:Nat) (hi:i<es.length) (L:Nat) (T:Tm) (ca cb:Code) (hT:LT u.toLB T)
  (t11:Tm.get 11 T=.pointer (some ⟨u.k11,0,none⟩)) (t12:Tm.get 12 T=.pointer (some ⟨u.k12,0,none⟩)) (hst:St m0 m (u.σ2 s (.pointer none) (iv 0) (iv 0))) (hL:∀p∈u.σ2 s (.pointer none) (iv 0) (iv 0),p.1≠L) (hL0:L<m.n)
  (hob:m.obj L=some (.loop 1 T 173 #[106] ca cb none)) :
  Rnd (λe m2=>m2.obj L=some (.loop 1 T 173 #[106] ca cb none)/\m.n<=m2.n/\((e=none/\¬(qu es i=true/\2<s.wr.getD (s.c%u.N) 0+1)/\St m0 m2 (u.σ2 (kg es u.N s i) (.pointer none) (iv 0) (iv 0))) \/
    (e=some .ret/\(qu es i=true/\2<s.wr.getD (s.c%u.N) 0+1)/\∃s',St m0 m2 (u.σ2 s' (.pointer none) (iv i) (iv 2)))))
   (Jt (ex Tryz.prog (n+2)) (zW none) vZ (zW (some .ret)) (Tm.set 13 (iv i) (Tm.set 106 (iv i) T)) m):=by
 suffices H:∀PP:Option E->M->Prop,(∀e m2,(m2.obj L=some (.loop 1 T 173 #[106] ca cb none)/\m.n<=m2.n/\((e=none/\¬(qu es i=true/\2<s.wr.getD (s.c%u.N) 0+1)/\St m0 m2 (u.σ2 (kg es u.N s i) (.pointer none) (iv 0) (iv 0))) \/
    (e=some .ret/\(qu es i=true/\2<s.wr.getD (s.c%u.N) 0+1)/\∃s',St m0 m2 (u.σ2 s' (.pointer none) (iv i) (iv 2)))))->PP e m2)->Rnd PP (Jt (ex Tryz.prog (n+2)) (zW none) vZ (zW (some .ret)) (Tm.set 13 (iv i) (Tm.set 106 (iv i) T)) m) from H _ λ_ _ h=>h
 intro PP hPP
 unfold Jt
 obtain⟨h1,h2,h3,h4,h8⟩:=hT
 obtain⟨e,he⟩:∃e,es[i]?=some e:=⟨_,qgn hi⟩
 have hfe':qu es i=zv e.1:=by unfold qu;rw[zm he]
 have hoe:qv es i=decide (e.1<=3):=(vm he).symm
 have hidx5:=yy u.A5 u.n i (by omega)
 have hidx6:=yy u.A6 u.n i (by omega)
 obtain⟨r,hr⟩:=qhd (s.c%u.N)
 have hrN:r<u.N:=by rw[hr];exact Nat.mod_lt _ hN
 have hrem:zh .rem (.int .i64 (s.c:Int)) (.int .i64 (u.N:Int))=some (.int .i64 (r:Int)):=by rw[hr];exact gC hN
 have hidx8:=yy u.A8 u.N r hrN
 have hLn:∀(k:Nat) b l s' v,(u.σ2 s' v (iv 0) (iv 0))[k]?=some (b,l)->L≠b:=λk b l s' v hk=>by
  have h2:(u.σ2 s' v (iv 0) (iv 0)).map (·.1)=(u.σ2 s (.pointer none) (iv 0) (iv 0)).map (·.1):=rfl
  have hb:b∈(u.σ2 s' v (iv 0) (iv 0)).map (·.1):=List.mem_map.2 ⟨_,qgo hk,rfl⟩
  rw[h2]at hb
  obtain⟨p,hp,rfl⟩:=List.mem_map.1 hb
  exact (hL p hp).symm
 have hkA:u.k12≠u.A5:=λh=>absurd (xp hst.nd (i:=1) (j:=8) rfl rfl h) (by omega)
 have ld:=hst.loads
 simp[yl,LC.σ2,LB.pl]at ld
 obtain⟨m1',s1,s2,s3,s4,s5⟩:=hst.storeAny 8 rfl (o:=i) (v:=iv s.t) (by rw[jG];omega) rfl
 obtain⟨M1,hM1⟩:=qhd (behind m m1')
 rw[<-hM1]at s3 s4 s5
 obtain⟨m2',r1,r2,r3,r4,r5⟩:=s3.storeAny 7 rfl (o:=i) (v:=iv r) (by rw[jG];omega) rfl
 obtain⟨M2,hM2⟩:=qhd (behind M1 m2')
 rw[<-hM2]at r3 r4 r5
 have st2:St m0 M2 (u.σ2 ⟨s.th.set i s.t,s.ce.set i r,s.wr,s.t,s.c⟩ (.pointer none) (iv 0) (iv 0)):=by
  have:=r3
  simp only[LC.σ2,List.cons_append,List.nil_append,List.set_cons_succ,List.set_cons_zero]at this
  rw[show (iv (r:Int))=Value.int .i64 (r:Int) from rfl,show (iv (s.t:Int))=Value.int .i64 (s.t:Int) from rfl,yF,yF]at this
  exact this
 have ob2:M2.obj L=some (.loop 1 T 173 #[106] ca cb none):=by rw[r5 _ (hLn 7 _ _ s (.pointer none) rfl),s5 _ (hLn 8 _ _ s (.pointer none) rfl)];exact hob
 have n2:M2.n=m.n:=by rw[r4,s4]
 have ld2:=st2.loads
 simp[yl,LC.σ2,LB.pl]at ld2
 have hrd1:∀m' s' v,St m0 m' (u.σ2 s' v (iv 0) (iv 0))->Rd m' u.v1 2 edgeRow es:=λm' s' v h=>by
  have:=h.get (b:=B1) (l:=es.flatMap edgeRow) 13 (by unfold LC.σ2;rw[hfe];rfl)
  have hG:Grown m0 m' u.v1 2 edgeRow es:=.inr ⟨B1,this.1,this.2.1,hne,hv1,this.2.2⟩
  exact hG.rd xB
 have hbk:=zc (hok i e he)
 obtain⟨v3,m3,g1,g2,rfl⟩:=Zw n u.PB u.v1 es e i he hbk.1 hbk.2 M2 st2.sees.base (by rw[(st2.get 5 rfl).2.2.load1];rfl) (hrd1 _ _ _ st2)
 have st3:=st2.step g2
 have ld3:=st3.loads
 simp[yl,LC.σ2,LB.pl]at ld3
 have ob3:m3.obj L=some (.loop 1 T 173 #[106] ca cb none):=by rw[g2.obj _ (by omega)];exact ob2
 rw[hun]at hidx5 hidx6
 simp[h1,h2,h3,h4,h8,t11,t12,ld,hun,hidx5,hidx6,hrem,s1,s2,hkA,<-hM1,r1,r2,<-hM2,ld2,g1,xP]
 have hL':∀s',∀p∈u.σ2 s' (.pointer none) (iv 0) (iv 0),p.1≠L:=λs' p hp=>by
  have h2:(u.σ2 s' (.pointer none) (iv 0) (iv 0)).map (·.1)=(u.σ2 s (.pointer none) (iv 0) (iv 0)).map (·.1):=rfl
  have hb:p.1∈(u.σ2 s' (.pointer none) (iv 0) (iv 0)).map (·.1):=List.mem_map.2 ⟨_,hp,rfl⟩
  rw[h2]at hb
  obtain⟨p',hp',e⟩:=List.mem_map.1 hb
  rw[<-e];exact hL p' hp'
 obtain⟨w,hw⟩:∃w,s.wr[r]?=some w:=⟨_,qgn (by omega)⟩
 have hwd:s.wr.getD (s.c%u.N) 0=w:=by rw[<-hr];simp[hw]
 have hww:w<=1000:=hwb w (qgo hw)
 cases hf:zv e.1 with
 | false =>
  simp
  refine JY n u es m0 m3 hed ⟨s.th.set i s.t,s.ce.set i r,s.wr,s.t,s.c⟩ hst16 hsc16 i hi L _ _ ?_ ?_ ?_ ?_ st3 (hL' _) (by have:=g2.n;omega) ob3 _ (λm5 o5 n5 st5=>hPP _ _ ⟨o5,by have:=g2.n;omega,.inl ⟨rfl,?_,?_⟩⟩)
  .simp[h1]
  .simp[t11]
  .simp[t12]
  .simp
  .rw[hfe',hf];simp
  .have:kg es u.N s i=⟨s.th.set i s.t,s.ce.set i r,s.wr,if qv es i then s.t+1 else s.t,if qv es i then s.c else s.c+1⟩:=by unfold kg;rw[hfe',hf,<-hr];simp
   rw[this];exact st5
 | true =>
  have l6:∀q,load1 m3 ⟨u.A6,i,q⟩=some (iv r):=λq=>by rw[(st3.get 7 rfl).2.2.load1];exact kW _ _ _ (by rw[qh7 (by omega)])
  have l8:∀q,load1 m3 ⟨u.A8,r,q⟩=some (iv w):=λq=>by rw[(st3.get 3 rfl).2.2.load1];exact kW _ _ _ hw
  have ww:=wL (i:=w) (by omega)
  obtain⟨w',hw'⟩:=qhd (w+1)
  rw[<-hw']at ww
  obtain⟨m4',p1,p2,p3,p4,p5⟩:=st3.storeAny 3 rfl (o:=r) (v:=iv w') (by rw[jG];show r<s.wr.length;omega) rfl
  obtain⟨M4,hM4⟩:=qhd (behind m3 m4')
  rw[<-hM4]at p3 p4 p5
  have st4:St m0 M4 (u.σ2 ⟨s.th.set i s.t,s.ce.set i r,s.wr.set r w',s.t,s.c⟩ (.pointer none) (iv 0) (iv 0)):=by
   have:=p3
   simp only[LC.σ2,List.cons_append,List.nil_append,List.set_cons_succ,List.set_cons_zero]at this
   rw[show (iv (w':Int))=Value.int .i64 (w':Int) from rfl,yF]at this
   exact this
  have ob4:M4.obj L=some (.loop 1 T 173 #[106] ca cb none):=by rw[p5 _ (hLn 3 _ _ s (.pointer none) rfl)];exact ob3
  have ld4:=st4.loads
  simp[yl,LC.σ2,LB.pl]at ld4
  have l64:∀q,load1 M4 ⟨u.A6,i,q⟩=some (iv r):=λq=>by rw[(st4.get 7 rfl).2.2.load1];exact kW _ _ _ (by rw[qh7 (by omega)])
  have l84:∀q,load1 M4 ⟨u.A8,r,q⟩=some (iv w'):=λq=>by rw[(st4.get 3 rfl).2.2.load1];exact kW _ _ _ (by rw[qh7 (by omega)])
  rw[hun]at ld3 ld4
  have g6:(nums (s.ce.set i r))[i]?=some (iv r):=kW _ _ _ (by rw[qh7 (by omega)])
  have g8:(nums s.wr)[r]?=some (iv w):=kW _ _ _ hw
  have g84:(nums (s.wr.set r w'))[r]?=some (iv w'):=kW _ _ _ (by rw[qh7 (by omega)])
  simp[h8,ld3,ld4,hidx6,hidx8,g6,g8,ww,p1,p2,<-hM4,g84]
  by_cases hbig:2<w'
  .have hb':((2:Int)<(w':Int))=True:=eq_true (by omega)
   obtain⟨m5,c1,c2,c3,c4⟩:=st4.store 11 rfl (o:=0) (v:=.pointer none) (by simp) rfl
   obtain⟨m6,d1,d2,d3,d4⟩:=c2.store 10 rfl (o:=0) (v:=iv i) (by simp) rfl
   obtain⟨m7,f1,f2,f3,f4⟩:=d2.store 9 rfl (o:=0) (v:=iv 2) (by simp) rfl
   simp[hb',h2,h3,h4,c1,d1,f1]
   refine zJ (hPP _ _ ⟨?_,?_,.inr ⟨rfl,⟨by rw[hfe',hf],by rw[hwd];omega⟩,_,f2⟩⟩)
   .rw[f4 _ (hLn 9 _ _ s (.pointer none) rfl),d4 _ (hLn 10 _ _ s (.pointer none) rfl),c4 _ (hLn 11 _ _ s (.pointer none) rfl)];exact ob4
   .have:=g2.n;omega
  .have hb':((2:Int)<(w':Int))=False:=eq_false (by omega)
   simp[hb']
   refine JY n u es m0 M4 hed ⟨s.th.set i s.t,s.ce.set i r,s.wr.set r w',s.t,s.c⟩ hst16 hsc16 i hi L _ _ ?_ ?_ ?_ ?_ st4 (hL' _) (by have:=g2.n;omega) ob4 _ (λm5 o5 n5 st5=>hPP _ _ ⟨o5,by have:=g2.n;omega,.inl ⟨rfl,?_,?_⟩⟩)
   .simp[h1]
   .simp[t11]
   .simp[t12]
   .simp
   .rw[hwd];omega
   .have:kg es u.N s i=⟨s.th.set i s.t,s.ce.set i r,s.wr.set r w',if qv es i then s.t+1 else s.t,if qv es i then s.c else s.c+1⟩:=by unfold kg;rw[hfe',hf,hwd,<-hr,hw'];simp
    rw[this];exact st5
end Go.Sx
namespace Go.Sx
open Go.Dx Go.Proofs
theorem _root_.Go.Dx.St.addLast {m0 m:M}{σ:List (Nat × List Value)}(h:St m0 m σ){B1 B2:Nat}{l1 l2:List Value}(h1:Arr m B1 l1)(h2:Arr m B2 l2)(k1:∀p∈σ,p.1<B1)(k2:∀p∈σ,p.1<B2)(a1:m0.n<=B1)(b1:B1<m.n)(a2:m0.n<=B2)(b2:B2<m.n)(hlt:B1<B2):St m0 m (σ++[(B1,l1),(B2,l2)]):=by
 refine⟨h.ext,h.base,λp hp=>?_,?_⟩
 .rcases qhc.1 hp with hp | hp
  .exact h.arr p hp
  .rcases List.mem_cons.1 hp with rfl | hp
   .exact⟨a1,b1,h1⟩
   .rw[qgu.1 hp];exact⟨a2,b2,h2⟩
 .rw[List.map_append,List.nodup_append]
  refine⟨h.nd,by simp;omega,λa ha b hb=>?_⟩
  obtain⟨p,hp,rfl⟩:=List.mem_map.1 ha
  have:=k1 p hp
  have:=k2 p hp
  simp at hb
  omega
theorem _root_.Go.Dx.St.restTo {m0 m m':M}{σ:List (Nat × List Value)}(h:St m0 m σ)(k:Nat){b:Nat}{l l':List Value}(hk:σ[k]?=some (b,l))(hr:Dx.Rest m.n [b] m m')(ha:Arr m' b l'):St m0 m' (σ.set k (b,l')):=by
 obtain⟨hk',hke⟩:=qgp.1 hk
 obtain⟨hb0,hb1,_⟩:=h.get k hk
 have hn:=h.ext.n
 refine⟨⟨qgz hn hr.n,λX hX=>by rw[hr.obj X (by omega) (by simp;omega)];exact h.ext.obj X hX,by rw[hr.base,h.ext.base],by rw[hr.log,h.ext.log]⟩,h.base,λp hp=>?_,?_⟩
 .obtain⟨j,hj,rfl⟩:=List.getElem_of_mem hp
  rw[List.getElem_set]
  rw[List.length_set]at hj
  split
  .exact⟨hb0,qgs hb1 hr.n,ha⟩
  .rename_i hne
   obtain⟨h1,h2,h3⟩:=h.arr _ (List.getElem_mem hj)
   exact⟨h1,qgs h2 hr.n,h3.congr (hr.obj _ h2 (by simp;exact λe=>hne (xp h.nd (qgn hj) hk e).symm))⟩
 .have:(σ.set k (b,l')).map (·.1)=σ.map (·.1):=by
   rw[List.map_set]
   show (σ.map (·.1)).set k b=_
   refine List.ext_getElem (by simp) λi h1 h2=>?_
   rw[List.getElem_set]
   split
   .subst_vars;simp[hke]
   .rfl
  rw[this];exact h.nd
theorem GR (es:List (Int × Int))(n N k:Nat)(s:LS)(i:Nat)(h:s.th.length=n/\s.ce.length=n/\s.wr.length=N/\s.t<=k/\s.c<=k/\∀x∈s.wr,x<=k) :
  (kg es N s i).th.length=n/\(kg es N s i).ce.length=n/\(kg es N s i).wr.length=N/\(kg es N s i).t<=k+1/\(kg es N s i).c<=k+1/\∀x∈(kg es N s i).wr,x<=k+1:=by
 obtain⟨h1,h2,h3,h4,h5,h6⟩:=h
 have hget:s.wr.getD (s.c%N) 0<=k:=by
  rw[List.getD_eq_getElem?_getD]
  cases hg:s.wr[s.c%N]? with
  | none=>simp
  | some x=>exact h6 x (qgo hg)
 refine⟨by simp[kg,h1],by simp[kg,h2],by unfold kg;split<;>simp[h3],by show (if qv es i then s.t+1 else s.t)<=k+1;split<;>omega,by show (if qv es i then s.c else s.c+1)<=k+1;split<;>omega,λx hx=>?_⟩
 unfold kg at hx
 simp only at hx
 split at hx
 .rcases List.mem_or_eq_of_mem_set hx with h | rfl
  .have:=h6 x h;omega
  .omega
 .have:=h6 x hx;omega
theorem KD (es:List (Int × Int))(n N:Nat):∀(l:List Nat) (k:Nat) (s:LS),(s.th.length=n/\s.ce.length=n/\s.wr.length=N/\s.t<=k/\s.c<=k/\∀x∈s.wr,x<=k) ->
  (l.foldl (kg es N) s).th.length=n/\(l.foldl (kg es N) s).ce.length=n/\(l.foldl (kg es N) s).wr.length=N/\(l.foldl (kg es N) s).t<=k+l.length/\(l.foldl (kg es N) s).c<=k+l.length/\∀x∈(l.foldl (kg es N) s).wr,x<=k+l.length
 | [],k,s,h=>h
 | i::l,k,s,h=>by
  have:=KD es n N l (k+1) _ (GR es n N k s i h)
  rw[List.foldl_cons,List.length_cons,show k+(l.length+1)=k+1+l.length by omega]
  exact this
theorem lay_c (n:Nat)(ed md:Value)(es:List (Int × Int))(ms:List Int)(m:M)(hm:m.base<=m.n)(hl:es.length<9223372036854775807)(hed:Rd m ed 2 edgeRow es)(hmd:Rd m md 1 modeRow ms)(ch:Nat->List Nat)
  (hch:(zj es ms).2=0->∀c,c<es.length-cnt es->kU es (xk es (es.length-cnt es) (wi es (wM es))).ce (wM es) c (ch c)) :
  Dx.Call (ex Tryz.prog (n+8)) 10 [.agg #[ed,md]] m (layQ es ms (jm es ch (List.replicate es.length 0) (es.length-cnt es))):=by
 refine qy da5_ok (by simp) ?_
 obtain⟨va,hva⟩:=qhd (jm es ch (List.replicate es.length 0) (es.length-cnt es))
 rw[<-hva]
 have st0:St m m []:=St.nil hm (Ext.refl m)
 have st1:=(((st0.row [ed,md]).row [.pointer none]).row [zI]).row [zI]
 simp only[qz]at st1
 obtain⟨m1,hm1⟩:=qhd (Dx.newRow (Dx.newRow (Dx.newRow (Dx.newRow m [ed,md]) [.pointer none]) [zI]) [zI])
 rw[<-hm1]at st1
 have lb:∀m',St m m' [(m.n+3,[zI]),(m.n+2,[zI]),(m.n+1,[.pointer none]),(m.n,[ed,md])]->loads m' ⟨m.n,0,none⟩ 2=some [ed,md]:=λm' h=>(h.get 3 rfl).2.2.loads (by simp)
 obtain⟨v2,m2,p1,p2,rfl⟩:=qev (n+2) ed md es ms m1 st1.sees.base hl (hed.sees st1.sees) (hmd.sees st1.sees)
 obtain⟨q1,hq1⟩:=qhd ((wn es ms).1)
 obtain⟨q2,hq2⟩:=qhd ((wn es ms).2)
 rw[<-hq1,<-hq2]at p1
 have st2:=st1.step p2
 have lb1:=lb m1 st1
 simp
 rw[<-hm1]
 by_cases z:q2=0
 rotate_left
 .obtain⟨m3,s1,s2,s3,s4⟩:=st2.store 2 rfl (o:=0) (v:=.pointer none) (by simp) rfl
  obtain⟨m4,r1,r2,r3,r4⟩:=s2.store 1 rfl (o:=0) (v:=iv q1) (by simp) rfl
  obtain⟨m5,u1,u2,u3,u4⟩:=r2.store 0 rfl (o:=0) (v:=iv q2) (by simp) rfl
  simp[lb1,qe,p1,z,s1,r1,u1]
  have ld:=u2.loads
  simp[yl]at ld
  refine bD (by simp) (by simp) (by simp) (ld.2.2.1 0 none) (ld.2.1 0 none) (ld.1 0 none) u2.ext (.inl ?_)
  have:zj es ms=(q1,q2):=by unfold zj;rw[if_pos (by rw[<-hq2];exact z),hq1,hq2]
  rw[this];exact⟨z,rfl⟩
 subst z
 obtain⟨hl16,hml⟩:=jr hq2.symm
 have hok:=fc hq2.symm
 have hel:=hed.len
 have ld2:=st2.loads
 simp[yl]at ld2
 obtain⟨v1,m3',c1,c2,c3,c4⟩:=BR (n+6) ed es (by unfold most;omega) (qc m2) (by simp[wW]) (hed.sees (qB st2.sees))
 have st3:=st2.behind c2
 obtain⟨M3,hM3⟩:=qhd (behind m2 m3')
 rw[<-hM3]at st3
 obtain⟨v2,m4',d1,d2,d3,d4⟩:=BS (n+6) md ms (by unfold most;omega) (qc M3) (by simp[wW]) (hmd.sees (qB st3.sees))
 have st4:=st3.behind d2
 obtain⟨M4,hM4⟩:=qhd (behind M3 m4')
 rw[<-hM4]at st4
 obtain⟨a1,k1,b1,hv1⟩:∃a k b,v1=.slice a k b:=by
  have:=c3.len
  cases v1 with
  | slice a k b=>exact⟨_,_,_,rfl⟩
  | _=>cases this
 obtain⟨a2,k2,b2,hv2⟩:∃a k b,v2=.slice a k b:=by
  have:=d3.len
  cases v2 with
  | slice a k b=>exact⟨_,_,_,rfl⟩
  | _=>cases this
 have hR1:Rd M4 v1 2 edgeRow es:=by
  have h3:Rd M3 v1 2 edgeRow es:=c3.congr (by rw[hM3,wb];exact qgq _) (λB _=>by rw[hM3,qx])
  have:Ext M3 M4:=by rw[hM4];exact d2.behind
  exact h3.congr this.n λB hB=>this.obj B (h3.lt B hB)
 have hR2:Rd M4 v2 1 modeRow ms:=d3.congr (by rw[hM4,wb];exact qgq _) (λB _=>by rw[hM4,qx])
 have ld3:=st3.loads
 simp[yl]at ld3
 have mk:=λm'=>Fm (n:=es.length) (by omega) m'
 have hb1:qW [zS,zS] [(0,1,v1),(1,1,v2)]=some (.agg ⟨[v1,v2]⟩):=by rw[hv1,hv2];rfl
 have hb2:∀A,qW [zS,zS,zI,zI,zI,zS,zS,zS,zS]
   [(0,2,.agg ⟨[v1,v2]⟩),(5,1,.slice (some ⟨A,0,some 3⟩) es.length es.length),(6,1,.slice (some ⟨A+1,0,some 3⟩) es.length es.length),(7,1,.slice (some ⟨A+1+1,0,some 3⟩) es.length es.length)] =
   some (.agg ⟨[v1,v2,zI,zI,zI,.slice (some ⟨A,0,some 3⟩) es.length es.length,.slice (some ⟨A+1,0,some 3⟩) es.length es.length,.slice (some ⟨A+1+1,0,some 3⟩) es.length es.length,zS]⟩):=λA=>rfl
 obtain⟨rest,hrest,str⟩:∃rest:List (Nat × List Value),(rest=[]/\es=[]\/∃B1 B2,rest=[(B1,es.flatMap edgeRow),(B2,ms.flatMap modeRow)]/\v1=.slice (some ⟨B1,0,some (code 2 false)⟩) es.length es.length/\v2=.slice (some ⟨B2,0,some (code 1 false)⟩) ms.length ms.length) /\
   St m M4 ([(m.n+1+1+1,[zI]),(m.n+1+1,[zI]),(m.n+1,[.pointer none]),(m.n,[ed,md])]++rest):=by
  by_cases hne:es=[]
  .exact⟨[],.inl ⟨rfl,hne⟩,by simpa using st4⟩
  .have hnm:ms≠[]:=by rintro rfl;exact hne (List.length_eq_zero_iff.1 (by simpa using hml.symm))
   obtain⟨B1,e1⟩:=c4.2 hne
   obtain⟨B2,e2⟩:=d4.2 hnm
   have hB1:=c4.1 B1 (by rw[e1];rfl)
   have hB2:=d4.1 B2 (by rw[e2];rfl)
   rw[qt]at hB1 hB2
   have lB1:=c3.lt B1 (by rw[e1];rfl)
   have lB2:=d3.lt B2 (by rw[e2];rfl)
   have nM3:M3.n=m3'.n:=by rw[hM3,wb]
   have nM4:M4.n=m4'.n:=by rw[hM4,wb]
   have EM:Ext M3 M4:=by rw[hM4];exact d2.behind
   have hA1:Arr M4 B1 (es.flatMap edgeRow):=by
    have:Arr M3 B1 (es.flatMap edgeRow):=hB1.2.congr (by rw[hM3,qx])
    exact this.ext EM (by omega)
   have hA2:Arr M4 B2 (ms.flatMap modeRow):=hB2.2.congr (by rw[hM4,qx])
   have hk2:=st2.arr
   refine⟨_,.inr ⟨B1,B2,rfl,e1,e2⟩,st4.addLast hA1 hA2 ?_ ?_ (by have:=st2.ext.n;omega) (by have:=EM.n;omega) (by have:=st3.ext.n;omega) (by omega) (by omega)⟩
   .intro p hp;have:=(hk2 p hp).2.1;omega
   .intro p hp;have:=(hk2 p hp).2.1;have:=c2.n;rw[qt]at this;omega
 have st5:=((((str.row (nums (List.replicate es.length 0))).row (nums (List.replicate es.length 0))).row (nums (List.replicate es.length 0))).row [v1,v2,zI,zI,zI,.slice (some ⟨M4.n,0,some 3⟩) es.length es.length,.slice (some ⟨M4.n+1,0,some 3⟩) es.length es.length,.slice (some ⟨M4.n+1+1,0,some 3⟩) es.length es.length,zS]).row [.pointer none]
 simp only[qz]at st5
 obtain⟨m6',s1,s2,s3,s4,s5⟩:=st5.storeAny 0 rfl (o:=0) (v:=.pointer (some ⟨M4.n+1+1+1,0,none⟩)) (by simp) rfl
 obtain⟨M6,hM6⟩:=qhd (behind (Dx.newRow (Dx.newRow (Dx.newRow (Dx.newRow (Dx.newRow M4 (nums (List.replicate es.length 0))) (nums (List.replicate es.length 0))) (nums (List.replicate es.length 0))) [v1,v2,zI,zI,zI,.slice (some ⟨M4.n,0,some 3⟩) es.length es.length,.slice (some ⟨M4.n+1,0,some 3⟩) es.length es.length,.slice (some ⟨M4.n+1+1,0,some 3⟩) es.length es.length,zS]) [.pointer none]) m6')
 rw[<-hM6]at s3 s4 s5
 obtain⟨u,hu⟩:∃u:LB,u=⟨m.n,m.n+1,m.n+1+1,m.n+1+1+1,M4.n,M4.n+1,M4.n+1+1,M4.n+1+1+1,M4.n+1+1+1+1,ed,md,v1,v2,es.length,rest⟩:=⟨_,rfl⟩
 have st6:St m M6 (u.σ 0 0 0):=by rw[hu];exact s3
 have ld6:=(st6.get 8 rfl).2.2.load1
 have e0:u.c0=m.n:=by rw[hu]
 have eed:u.ed=ed:=by rw[hu]
 rw[e0,eed]at ld6
 simp[lb1,qe,p1,ld2,hel,c1,<-hM3,ld3,d1,<-hM4,hb1,mk,hb2,s1,c2.quietLog,d2.quietLog,<-hM6,ld6]
 refine GN (n+6) u es hl16 m M6 (by rw[eed];exact hed) (Ret m _) _ _ _ _ ?_ ?_ ?_ ?_ st6 (λt7 M7 hT7 st7=>?_)
 .rw[hu];exact⟨by simp,by simp,by simp,by simp,by simp⟩
 .rw[eed];simp
 .simp
 .simp
 obtain⟨h1,h2,h3,h4,h8⟩:=hT7
 obtain⟨A,hA⟩:=qhd (cnt es)
 obtain⟨N,hN⟩:=qhd (es.length-cnt es)
 rw[<-hN,<-hA]at st7
 have ld7:=st7.loads
 simp[yl,LB.σ,LB.pl]at ld7
 have egr:(A<2\/N<1)->zj es ms=(0,4):=λh=>by unfold zj;rw[if_neg (by rw[<-hq2];simp),if_pos (by rw[<-hN,<-hA];exact h)]
 by_cases a1:A<2\/N<1
 .obtain⟨m8,w1,w2,w3,w4⟩:=st7.store 7 rfl (o:=0) (v:=.pointer none) (by simp) rfl
  obtain⟨m9,x1,x2,x3,x4⟩:=w2.store 6 rfl (o:=0) (v:=iv 0) (by simp) rfl
  obtain⟨m10,y1,y2,y3,y4⟩:=x2.store 5 rfl (o:=0) (v:=iv 4) (by simp) rfl
  have fin:∀t,Tm.get 2 t=.pointer (some ⟨u.r2,0,none⟩)->Tm.get 3 t=.pointer (some ⟨u.r3,0,none⟩)->Tm.get 4 t=.pointer (some ⟨u.r4,0,none⟩)->Ret m (layQ es ms va) (kO [.one 2,.one 3,.one 4] t m10):=λt g2 g3 g4=>by
   refine bD g2 g3 g4 (by rw[(y2.get 7 rfl).2.2.load1];rfl) (by rw[(y2.get 6 rfl).2.2.load1];rfl) (by rw[(y2.get 5 rfl).2.2.load1];rfl) y2.ext (.inl ?_)
   rw[egr a1];exact⟨by simp,rfl⟩
  by_cases a2:A<2
  .have d1:((A:Int)<2)=True:=eq_true (by omega)
   simp[h2,h3,h4,h8,ld7,d1,a2,w1,x1,y1]
   exact fin _ (by simp[h2]) (by simp[h3]) (by simp[h4])
  .have d1:((A:Int)<2)=False:=eq_false (by omega)
   have d2:((N:Int)<1)=True:=eq_true (by omega)
   simp[h2,h3,h4,h8,ld7,d1,d2,a2,w1,x1,y1]
   exact fin _ (by simp[h2]) (by simp[h3]) (by simp[h4])
 have d1:((A:Int)<2)=False:=eq_false (by omega)
 have d2':((N:Int)<1)=False:=eq_false (by omega)
 have hlA:zj es ms=match dw es N (wi es (wM es)) (jh es.length N) with
  | some i=>(i,2)
  | none=>(0,0):=by unfold zj;rw[if_neg (by rw[<-hq2];simp),if_neg (by rw[<-hN,<-hA];exact a1),<-hN]<;>rfl
 simp[h2,h3,h4,h8,ld7,d1,d2']
 have hcl:A<=es.length:=by rw[hA];unfold cnt;exact List.countP_le_length
 have hne:es≠[]:=by rintro rfl;simp[cnt]at hA;omega
 obtain⟨B1,B2,hr,hv1e,hv2e⟩:∃B1 B2,rest=[(B1,es.flatMap edgeRow),(B2,ms.flatMap modeRow)]/\v1=.slice (some ⟨B1,0,some (code 2 false)⟩) es.length es.length/\v2=.slice (some ⟨B2,0,some (code 1 false)⟩) ms.length ms.length:=by
  rcases hrest with ⟨_,h⟩ | h
  .exact absurd h hne
  .exact h
 have euv1:u.v1=.slice (some ⟨B1,0,some (code 2 false)⟩) es.length es.length:=by rw[hu];exact hv1e
 have euv2:u.v2=.slice (some ⟨B2,0,some (code 1 false)⟩) ms.length ms.length:=by rw[hu];exact hv2e
 have eun:u.n=es.length:=by rw[hu]
 have eur:u.rest=[(B1,es.flatMap edgeRow),(B2,ms.flatMap modeRow)]:=by rw[hu];exact hr
 have hb:=Zh (es:=es) (by omega)
 obtain⟨b,hbe⟩:=qhd (wM es)
 rw[<-hbe]at hb hlA
 have hbl:b<es.length:=by unfold first at hb;rw[List.find?_range_eq_some]at hb;simpa using hb.2.1
 refine GM (n+6) u es hl16 m M7 (by rw[eed];exact hed) (λ_ _=>trivial) (λ_ _ _ _ _=>by rw[euv1];rfl) A N b hb (Ret m _) _ _ _ _ ?_ st7 (λt9 M9 hT9 st9=>?_)
 .exact⟨by simp[h1],by simp[h2],by simp[h3],by simp[h4],by simp[h8]⟩
 obtain⟨h1,h2,h3,h4,h8⟩:=hT9
 have ld9:=st9.loads
 simp[yl,LB.σ,LB.pl]at ld9
 have mkN:=Fm (n:=N) (by omega) M9
 have st10:=st9.row (nums (List.replicate N 0))
 obtain⟨m11',w1,w2,w3,w4,w5⟩:=st10.storeAny 2 rfl (o:=8) (v:=.slice (some ⟨M9.n,0,some 3⟩) N N) (by simp[LB.pl]) rfl
 obtain⟨M11,hM11⟩:=qhd (behind (Dx.newRow M9 (nums (List.replicate N 0))) m11')
 rw[<-hM11]at w3 w4 w5
 have st12:=(w3.row [zI]).row [zI]
 rw[qz]at st12
 obtain⟨M13,x1,x2,x3,x4⟩:=st12.store 1 rfl (o:=0) (v:=iv 0) (by simp) rfl
 obtain⟨M14,y1,y2,y3,y4⟩:=x2.store 0 rfl (o:=0) (v:=iv 0) (by simp) rfl
 have lq:∀s,load1 M14 ⟨u.q8,0,s⟩=some (.pointer (some ⟨u.PB,0,none⟩)):=λs=>by rw[(y2.get 3 rfl).2.2.load1];rfl
 have hwk:=YB (n+6) ⟨u.PB,0,none⟩ M14
 simp[h1,h2,h3,h4,h8,ld9,mkN,w1,w2,<-hM11,x1,y1,lq,hwk]
 obtain⟨M15,hM15⟩:=qhd (Dx.newRow M14 [.pointer (some ⟨u.PB,0,none⟩)])
 have st15:=y2.row [.pointer (some ⟨u.PB,0,none⟩)]
 rw[<-hM15]at st15 ⊢
 have n15:M15.n=M14.n+1:=by rw[hM15,qz]
 obtain⟨v,hv⟩:∃v:LC,v={ u with A8:=M9.n,k11:=M11.n,k12:=M11.n+1,W:=M14.n,N:=N,b:=b }:=⟨_,rfl⟩
 have evu:v.toLB=u:=by rw[hv]
 have evN:v.N=N:=by rw[hv]
 have stv:St m M15 (v.σ2 (jh es.length N) (.pointer none) (iv 0) (iv 0)):=by
  have e:u.n-N=A:=by omega
  have:v.σ2 (jh es.length N) (.pointer none) (iv 0) (iv 0)=[(M14.n,[.pointer (some ⟨u.PB,0,none⟩)]),(M11.n+1,[iv 0]),(M11.n,[iv 0]),(M9.n,nums (List.replicate N 0)),(u.q8,[.pointer (some ⟨u.PB,0,none⟩)]),(u.PB,u.pl b A N (.slice (some ⟨M9.n,0,some 3⟩) N N)),
    (u.A7,nums (List.replicate u.n 0)),(u.A6,nums (List.replicate u.n 0)),(u.A5,nums (List.replicate u.n 0)),(u.r4,[iv 0]),(u.r3,[iv 0]),(u.r2,[.pointer none]),(u.c0,[u.ed,u.md])]++u.rest:=by
   rw[hv];unfold LC.σ2 jh;rw[<-eun];simp only[e];rfl
  rw[this];exact st15
 generalize hT0:Tm.set 105 _ _=T0
 have T0':LT v.toLB T0:=by rw[evu,<-hT0];exact⟨by simp[h1],by simp[h2],by simp[h3],by simp[h4],by simp[h8]⟩
 have t11:Tm.get 11 T0=.pointer (some ⟨v.k11,0,none⟩):=by rw[<-hT0,hv];simp
 have t12:Tm.get 12 T0=.pointer (some ⟨v.k12,0,none⟩):=by rw[<-hT0,hv];simp
 have t105:Tm.get 105 T0=.func (.func 22) #[] #[.pointer (some ⟨v.W,0,none⟩)]:=by rw[<-hT0,hv];simp
 clear hT0
 obtain⟨T,hT⟩:=qhd (xj [12,11,8,4,3,2,1] T0)
 have kp:∀i,i∈[12,11,8,4,3,2,1]->Tm.get i T=Tm.get i T0:=λi hi=>by
  rw[hT];exact yw i (by simp at hi;omega) T0 _ (by simp) hi
 have T':LT v.toLB T:=⟨(kp 1 (by simp)).trans T0'.t1,(kp 2 (by simp)).trans T0'.t2,(kp 3 (by simp)).trans T0'.t3,(kp 4 (by simp)).trans T0'.t4,(kp 8 (by simp)).trans T0'.t8⟩
 have T11:=(kp 11 (by simp)).trans t11
 have T12:=(kp 12 (by simp)).trans t12
 obtain⟨ca,hca⟩:∃ca:Code,ca=(cL (cL (cR (cL (cR (cR (cR (cR (cR (cR (cR (cR (cR (wu Tryz.f10)))))))))))))):=⟨_,rfl⟩
 obtain⟨cb,hcb⟩:∃cb:Code,cb=(cR (cL (cR (cL (cR (cR (cR (cR (cR (cR (cR (cR (cR (wu Tryz.f10)))))))))))))):=⟨_,rfl⟩
 have ha:=BH
 have hbb:=BL
 rw[<-hca]at ha;rw[<-hcb]at hbb
 obtain⟨mE,hmE⟩:=qhd (M15.alloc (.loop 0 T 173 #[106] ca cb none))
 have nE:mE.n=M15.n+1:=by rw[hmE,M.n_alloc]
 have EE:Ext M15 mE:=by rw[hmE];exact⟨by rw[M.n_alloc];omega,λX hX=>by rw[M.obj_alloc,if_neg (by omega)],M.base_alloc _ _,M.log_alloc _ _⟩
 have stE:=stv.step EE
 have obE:mE.obj M15.n=some (.loop 0 T 173 #[106] ca cb none):=by rw[hmE,M.obj_alloc,if_pos rfl]
 have hkeys:∀s' (x y z:Value),∀p∈v.σ2 s' x y z,p.1≠M15.n:=λs' x y z p hp=>by
  have h2:(v.σ2 s' x y z).map (·.1)=(v.σ2 (jh es.length N) (.pointer none) (iv 0) (iv 0)).map (·.1):=rfl
  have hb:p.1∈(v.σ2 s' x y z).map (·.1):=List.mem_map.2 ⟨_,hp,rfl⟩
  rw[h2]at hb
  obtain⟨p',hp',e⟩:=List.mem_map.1 hb
  have:=(stv.arr p' hp').2.1
  omega
 have hm15:m.n<=M15.n:=stv.ext.n
 let S:Nat->LS:=λk=>((wi es b).take k).foldl (kg es N) (jh es.length N)
 have hol:(wi es b).length=es.length:=by unfold wi;simp
 have hSi:∀k,k<=es.length->(S k).th.length=es.length/\(S k).ce.length=es.length/\(S k).wr.length=N/\(S k).t<=1000/\(S k).c<=1000/\∀x∈(S k).wr,x<=1000:=λk hk=>by
  have:=KD es es.length N ((wi es b).take k) 0 (jh es.length N) ⟨by simp[jh],by simp[jh],by simp[jh],by simp[jh],by simp[jh],λx hx=>by simp[jh]at hx;omega⟩
  rw[List.length_take,hol,Nat.min_eq_left hk]at this
  obtain⟨i1,i2,i3,i4,i5,i6⟩:=this
  exact⟨i1,i2,i3,by simp only[S];omega,by simp only[S];omega,λx hx=>by have:=i6 x hx;omega⟩
 have hedv:Rd m v.ed 2 edgeRow es:=by rw[evu,eed];exact hed
 have hwalk:=Jq (n+6) (.func (.yield M15.n) #[] #[]) v.PB v.W b es.length (by omega) (by omega) hbl
  (λk m'=>St m m' (v.σ2 (S k) (.pointer none) (iv 0) (iv 0))/\m'.obj M15.n=some (.loop 0 T 173 #[106] ca cb none)/\M15.n<m'.n/\dw es N (wi es b) (jh es.length N)=dw es N ((wi es b).drop k) (S k))
  (λm'=>∃(s':LS) (i:Nat),St m m' (v.σ2 s' (.pointer none) (iv i) (iv 2))/\m'.obj M15.n=some (.loop 2 T 173 #[106] ca cb (some .ret))/\dw es N (wi es b) (jh es.length N)=some i)
  (λk m' _ h=>⟨by rw[(h.1.get 0 rfl).2.2.load1];rfl,⟨v.v1,by rw[(h.1.get 5 rfl).2.2.load1];rfl,by rw[evu,euv1];rfl⟩,by rw[(h.1.get 5 rfl).2.2.load1,hv];rfl⟩)
  (λk m' hk h=>by
   obtain⟨st,hob,hLn,hE⟩:=h
   obtain⟨i,hi⟩:=qhd ((b+k)%es.length)
   have hil:i<es.length:=by rw[hi];exact Nat.mod_lt _ (by omega)
   rw[<-hi]
   have hki:(wi es b)[k]?=some i:=by
    rw[hi];unfold wi;rw[qh4,List.getElem?_range hk];rfl
   have hdrop:(wi es b).drop k=i::(wi es b).drop (k+1):=by
    obtain⟨h,e⟩:=qgp.1 hki
    rw[List.drop_eq_getElem_cons h,e]
   have hSk:S (k+1)=kg es N (S k) i:=by
    obtain⟨h,e⟩:=qgp.1 hki
    simp only[S]
    rw[List.take_succ_eq_append_getElem h,List.foldl_append,e];rfl
   rw[hdrop,dw]at hE
   obtain⟨i1,i2,i3,i4,i5,i6⟩:=hSi k (by omega)
   have hrd:=fy (P:=Tryz.prog) (n:=n+5) (L:=M15.n) (args:=[iv i]) (t':=Tm.set 106 (iv i) T) (t'':=Tm.set 13 (iv i) (Tm.set 106 (iv i) T)) (m:=m')
    (R:=λe m2=>m'.n<=m2.n/\((e=none/\¬(qu es i=true/\2<(S k).wr.getD ((S k).c%v.N) 0+1)/\St m m2 (v.σ2 (kg es v.N (S k) i) (.pointer none) (iv 0) (iv 0))) \/
     (e=some .ret/\(qu es i=true/\2<(S k).wr.getD ((S k).c%v.N) 0+1)/\∃s',St m m2 (v.σ2 s' (.pointer none) (iv i) (iv 2))))) hob ha hbb rfl (by omega) (λk=>by unfold qdc;simp) (by
     have hst1:=st.putL (hkeys _ _ _ _) hm15 (.loop 1 T 173 #[106] ca cb none)
     have:=GO (n+3) v es hl16 hok m (m'.put M15.n (.loop 1 T 173 #[106] ca cb none)) hedv B1 [(B2,ms.flatMap modeRow)] (by rw[evu];exact euv1) (by rw[evu];exact eur) hne (by rw[evu];exact eun) (by rw[evN];omega) (by rw[evN];omega) (S k) i1 i2 (by rw[evN];exact i3) i4 i5 i6 i hil M15.n T ca cb T' T11 T12
      hst1 (hkeys _ _ _ _) (by rw[M.n_put];exact hLn) (by rw[M.obj_put,if_pos rfl])
     rw[M.n_put]at this
     exact this)
   obtain⟨e,m2,ho2,⟨hn2,hcase⟩,hrun⟩:=hrd
   rcases hcase with ⟨rfl,hno,st2⟩ | ⟨rfl,hyes,s',st2⟩
   .rw[evN]at hno st2
    rw[if_neg hno,<-hSk]at hE
    rw[<-hSk]at st2
    exact .inl ⟨_,hrun,st2.putL (hkeys _ _ _ _) hm15 _,by rw[M.obj_put,if_pos rfl],by rw[M.n_put];omega,hE⟩
   .rw[evN]at hyes
    rw[if_pos hyes]at hE
    exact .inr ⟨_,hrun,s',i,st2.putL (hkeys _ _ _ _) hm15 _,by rw[M.obj_put,if_pos rfl],hE⟩)
  mE ⟨by simpa [S]using stE,obE,by omega,by simp[S]⟩
 obtain⟨m5,hw,hend⟩:=hwalk
 rcases hend with ⟨st5',ob5,hL5,hE5⟩ | ⟨s',i,st5',ob5,hE5⟩
 .-- laid out: the values
  rw[List.drop_eq_nil_of_le (by omega),dw]at hE5
  have hlz:zj es ms=(0,0):=by rw[hlA,hE5]
  refine WO (c:=Vi) rfl (g:=22) (u:=[]) (v:=[.pointer (some ⟨v.W,0,none⟩)]) t105 (r:=.tuple #[]) (m1:=m5) (st:=0) (by rw[<-hT,<-hca,<-hcb,<-hmE];exact hw) (by rw[hca,hcb]at ob5;exact ob5) (by omega) ?_
  unfold vI
  obtain⟨m16,hm16⟩:=qhd (m5.put M15.n (.loop 3 T 173 #[106] (cL (cL (cR (cL (cR (cR (cR (cR (cR (cR (cR (cR (cR (wu Tryz.f10)))))))))))))) (cR (cL (cR (cL (cR (cR (cR (cR (cR (cR (cR (cR (cR (wu Tryz.f10)))))))))))))) none))
  rw[<-hm16]
  have st16:=st5'.putL (hkeys _ _ _ _) hm15 (.loop 3 T 173 #[106] (cL (cL (cR (cL (cR (cR (cR (cR (cR (cR (cR (cR (cR (wu Tryz.f10)))))))))))))) (cR (cL (cR (cL (cR (cR (cR (cR (cR (cR (cR (cR (cR (wu Tryz.f10)))))))))))))) none)
  rw[<-hm16]at st16
  have l8v:v.q8=u.q8:=by rw[hv]
  have lPv:v.PB=u.PB:=by rw[hv]
  have hPl:Pl m16 v.PB v.v1 (.slice (some ⟨v.A6,0,some 3⟩) es.length es.length) es (S es.length).ce b:=by
   have g5:=st16.get 5 rfl
   have g7:=st16.get 7 rfl
   have g13:=st16.get (b:=B1) (l:=es.flatMap edgeRow) 13 (by unfold LC.σ2;rw[evu,eur];rfl)
   have e6:(S es.length).ce.length=es.length:=(hSi es.length (qgq _)).2.1
   refine⟨g5.2.1,λs=>by rw[g5.2.2.load1];rfl,λs=>by rw[g5.2.2.load1,hv];rfl,λs=>by rw[g5.2.2.load1,hv];show some (Value.slice (some ⟨u.A6,0,some 3⟩) u.n u.n)=_;rw[eun],?_,?_⟩
   .have hG:Grown m m16 v.v1 2 edgeRow es:=.inr ⟨B1,g13.1,g13.2.1,hne,by rw[evu];exact euv1,g13.2.2⟩
    exact hG.rd xB
   .have:=Fh g7.2.2 g7.2.1
    rw[e6]at this
    exact this
  obtain⟨m17,hvr,hvR,hvA⟩:=qd6 n v.PB v.A7 v.v1 (.slice (some ⟨v.A6,0,some 3⟩) es.length es.length) es (S es.length).ce b N ch (List.replicate es.length 0) hl16 hbl (by omega) hok (by simp) m16 st16.sees.base hPl
   (λs=>by rw[(st16.get 5 rfl).2.2.load1,hv];rfl) (λs=>by rw[(st16.get 5 rfl).2.2.load1,hv];show some (Value.slice (some ⟨u.A7,0,some 3⟩) u.n u.n)=_;rw[eun]) (by have:=(st16.get 6 rfl).2.2;rwa [show v.toLB.n=es.length by rw[evu,eun]]at this) (st16.get 6 rfl).2.1
   (by rw[st16.ext.base];have:=(st16.get 6 rfl).1;omega) (λh=>absurd (xp st16.nd (i:=5) (j:=6) rfl rfl h) (by omega))
   (λC hC=>by
    rw[evu,euv1]at hC;cases hC
    exact λh=>absurd (xp st16.nd (i:=13) (j:=6) (p:=(B1,es.flatMap edgeRow)) (by unfold LC.σ2;rw[evu,eur];rfl) rfl h) (by omega))
   (λC hC=>by cases hC;exact λh=>absurd (xp st16.nd (i:=7) (j:=6) rfl rfl h) (by omega))
   (λc hc=>by
    have:=hch (by rw[hlz]) c (by omega)
    rw[<-hN,<-hbe]at this
    simp only[S]
    rw[List.take_of_length_le (by omega)]
    exact this)
  have st17:=st16.restTo 6 rfl hvR hvA
  obtain⟨m18,c1',c2',c3',c4'⟩:=st17.store 11 rfl (o:=0) (v:=.pointer (some ⟨u.PB,0,none⟩)) (by simp) rfl
  obtain⟨m19,d1',d2',d3',d4'⟩:=c2'.store 10 rfl (o:=0) (v:=iv 0) (by simp) rfl
  obtain⟨m20,f1',f2',f3',f4'⟩:=d2'.store 9 rfl (o:=0) (v:=iv 0) (by simp) rfl
  have lq16:∀s,load1 m16 ⟨u.q8,0,s⟩=some (.pointer (some ⟨u.PB,0,none⟩)):=λs=>by rw[<-l8v,(st16.get 4 rfl).2.2.load1];show some (Value.pointer (some ⟨v.PB,0,none⟩))=_;rw[lPv]
  have lq17:∀s,load1 m17 ⟨u.q8,0,s⟩=some (.pointer (some ⟨u.PB,0,none⟩)):=λs=>by rw[<-l8v,(st17.get 4 rfl).2.2.load1];show some (Value.pointer (some ⟨v.PB,0,none⟩))=_;rw[lPv]
  obtain⟨g1,g2,g3,g4,g8⟩:=T0'
  rw[evu]at g1 g2 g3 g4 g8
  have er2:v.r2=u.r2:=by rw[evu]
  have er3:v.r3=u.r3:=by rw[evu]
  have er4:v.r4=u.r4:=by rw[evu]
  rw[er2]at c1'
  rw[er3]at d1'
  rw[er4]at f1'
  rw[lPv]at hvr
  simp[g1,g2,g3,g4,g8,lq16,hvr,lq17,c1',d1',f1']
  refine bD (a:=⟨u.r2,0,none⟩) (b:=⟨u.r3,0,none⟩) (c:=⟨u.r4,0,none⟩) (by simp[g2]) (by simp[g3]) (by simp[g4]) (by rw[<-er2,(f2'.get 11 rfl).2.2.load1];rfl) (by rw[<-er3,(f2'.get 10 rfl).2.2.load1];rfl) (by rw[<-er4,(f2'.get 9 rfl).2.2.load1];rfl) f2'.ext (.inr ⟨by rw[hlz],v.PB,by rw[lPv],?_⟩)
  have hSf:S es.length=xk es N (wi es b):=by simp only[S,xk];rw[List.take_of_length_le (by omega)]
  rw[<-hN,<-hbe,<-hSf]
  have g5:=f2'.get 5 rfl
  have q3:=f2'.get 3 rfl
  have q6:=f2'.get 6 rfl
  have q7:=f2'.get 7 rfl
  have q8':=f2'.get 8 rfl
  have g13:=f2'.get (b:=B1) (l:=es.flatMap edgeRow) 13 (by unfold LC.σ2;rw[evu,eur];rfl)
  have g14:=f2'.get (b:=B2) (l:=ms.flatMap modeRow) 14 (by unfold LC.σ2;rw[evu,eur];rfl)
  have e6:(S es.length).ce.length=es.length:=(hSi es.length (qgq _)).2.1
  have hnm:ms≠[]:=by rintro rfl;exact hne (List.length_eq_zero_iff.1 (by simpa using hml.symm))
  refine⟨v.v1,v.v2,v.A5,v.A6,v.A7,v.A8,⟨g5.2.1,λs=>by rw[g5.2.2.load1];rfl,λs=>by rw[g5.2.2.load1,hv];rfl,λs=>by rw[g5.2.2.load1,hv];show some (Value.slice (some ⟨u.A6,0,some 3⟩) u.n u.n)=_;rw[eun],?_,?_⟩,?_,λs=>by rw[g5.2.2.load1];rfl,
   λs=>by rw[g5.2.2.load1,hv];show some (iv (u.n-N:Nat))=_;rw[eun],λs=>by rw[g5.2.2.load1,hv];rfl,λs=>by rw[g5.2.2.load1,hv];show some (Value.slice (some ⟨u.A5,0,some 3⟩) u.n u.n)=_;rw[eun],λs=>by rw[g5.2.2.load1,hv];show some (Value.slice (some ⟨u.A7,0,some 3⟩) u.n u.n)=_;rw[eun],
   λs=>by rw[g5.2.2.load1,hv];rfl,q8'.2.2,q7.2.2,?_,q3.2.2,q8'.2.1,q7.2.1,q6.2.1,q3.2.1⟩
  .have hG:Grown m m20 v.v1 2 edgeRow es:=.inr ⟨B1,g13.1,g13.2.1,hne,by rw[evu];exact euv1,g13.2.2⟩
   exact hG.rd xB
  .have:=Fh q7.2.2 q7.2.1
   rw[e6]at this
   exact this
  .have hG:Grown m m20 v.v2 1 modeRow ms:=.inr ⟨B2,g14.1,g14.2.1,hnm,by rw[evu];exact euv2,g14.2.2⟩
   exact hG.rd Qe
  .have:=q6.2.2
   rw[hva,<-hN];exact this
 .have hli:zj es ms=(i,2):=by rw[hlA,hE5]
  refine WO (c:=Vi) rfl (g:=22) (u:=[]) (v:=[.pointer (some ⟨v.W,0,none⟩)]) t105 (r:=.tuple #[]) (m1:=m5) (st:=2) (by rw[<-hT,<-hca,<-hcb,<-hmE];exact hw) (by rw[hca,hcb]at ob5;exact ob5) (by omega) ?_
  unfold vI
  have st16:=st5'.putL (hkeys _ _ _ _) hm15 (.loop 3 T 173 #[106] (cL (cL (cR (cL (cR (cR (cR (cR (cR (cR (cR (cR (cR (wu Tryz.f10)))))))))))))) (cR (cL (cR (cL (cR (cR (cR (cR (cR (cR (cR (cR (cR (wu Tryz.f10)))))))))))))) (some .ret))
  obtain⟨g1,g2,g3,g4,g8⟩:=T0'
  refine bD g2 g3 g4 (by rw[(st16.get 11 rfl).2.2.load1];rfl) (by rw[(st16.get 10 rfl).2.2.load1];rfl) (by rw[(st16.get 9 rfl).2.2.load1];rfl) st16.ext (.inl ?_)
  rw[hli];exact⟨by simp,rfl⟩
end Go.Sx
namespace Go.Sx
open Go.Dx Go.Proofs
def pos (es:List (Int × Int))(b k:Nat):Nat:=(b+k)%es.length
def ic (es:List (Int × Int))(b:Nat):Nat->Nat
 | 0=>0
 | k+1=>ic es b k+if qv es (pos es b k) then 0 else 1
section
variable {es:List (Int × Int)}{b:Nat}
theorem Yp (h:0<es.length)(k:Nat):pos es b k<es.length:=Nat.mod_lt _ h
theorem bP (h:0<es.length)(k:Nat):ahN es.length (pos es b (k+1))=pos es b k:=by
 unfold pos ahN
 have hl:=Nat.mod_lt (b+k) h
 by_cases e:(b+k)%es.length+1=es.length
 .have:(b+(k+1))%es.length=0:=by rw[<-Nat.add_assoc,<-Nat.mod_add_mod,e,Nat.mod_self]
  rw[this,if_pos rfl];omega
 .have:(b+(k+1))%es.length=(b+k)%es.length+1:=by rw[<-Nat.add_assoc,<-Nat.mod_add_mod,Nat.mod_eq_of_lt (by omega)]
  rw[this,if_neg (by omega)];omega
theorem jc (k:Nat):pos es b (k+es.length)=pos es b k:=by unfold pos;rw[<-Nat.add_assoc,Nat.add_mod_right]
theorem QF (hb:b<es.length){i j:Nat}(hi:i<es.length)(hj:j<es.length)(h:pos es b i=pos es b j):i=j:=by
 unfold pos at h
 have key:∀k,k<es.length->(b+k)%es.length=if b+k<es.length then b+k else b+k-es.length:=λk hk=>by
  split
  .exact Nat.mod_eq_of_lt ‹_›
  .rw[Nat.mod_eq_sub_mod (by omega),Nat.mod_eq_of_lt (by omega)]
 rw[key i hi,key j hj]at h
 split at h<;>split at h<;>omega
theorem yG {k:Nat}(hk:k<es.length):(wi es b)[k]?=some (pos es b k):=by
 unfold wi pos;rw[qh4,List.getElem?_range hk];rfl
theorem yH:(wi es b).length=es.length:=by unfold wi;simp
theorem xb {k:Nat}(hk:k<es.length):(wi es b).drop k=pos es b k::(wi es b).drop (k+1):=by
 obtain⟨h,e⟩:=qgp.1 (yG (b:=b) hk)
 rw[List.drop_eq_getElem_cons h,e]
theorem Qw (k:Nat):ic es b k<=ic es b (k+1)/\ic es b (k+1)<=ic es b k+1:=by show _<=ic es b k+_/\ic es b k+_<=_;split<;>omega
theorem xD {i j:Nat}(h:i<=j):ic es b i<=ic es b j:=by
 induction j with
 | zero =>
  have:i=0:=by omega
  subst this;exact qgq _
 | succ j ih =>
  rcases Nat.lt_or_ge i (j+1) with h' | h'
  .exact qgz (ih (by omega)) (Qw j).1
  .have:i=j+1:=by omega
   subst this;exact qgq _
theorem gS:∀(m c:Nat),c<=ic es b m->∃s,s<=m/\ic es b s=c/\∀j,j<s->ic es b j<c
 | 0,c,h=>⟨0,qgq _,by have:ic es b 0=0:=rfl;omega,λj hj=>by omega⟩
 | m+1,c,h=>by
  by_cases h1:c<=ic es b m
  .obtain⟨s,a,b',c'⟩:=gS m c h1
   exact⟨s,by omega,b',c'⟩
  .have:=(Qw (es:=es) (b:=b) m).2
   exact⟨m+1,qgq _,by omega,λj hj=>by have:=xD (es:=es) (b:=b) (show j<=m by omega);omega⟩
theorem vJ {i j k:Nat}(h:ic es b i=ic es b k)(h1:i<=j)(h2:j<k):qv es (pos es b j)=true:=by
 have a:=xD (es:=es) (b:=b) h1
 have c:=xD (es:=es) (b:=b) (show j+1<=k by omega)
 have e:ic es b (j+1)=ic es b j+if qv es (pos es b j) then 0 else 1:=rfl
 cases ho:qv es (pos es b j) with
 | true=>rfl
 | false=>rw[ho]at e;simp at e;omega
theorem Zt {j:Nat}(h:ic es b j<ic es b (j+1)):qv es (pos es b j)=false:=by
 have e:ic es b (j+1)=ic es b j+if qv es (pos es b j) then 0 else 1:=rfl
 cases ho:qv es (pos es b j) with
 | true=>rw[ho]at e;simp at e;omega
 | false=>rfl
theorem qat (k:Nat)(hk:k<=es.length):ic es b k=((wi es b).take k).countP λi=>!qv es i:=by
 induction k with
 | zero=>rfl
 | succ k ih =>
  obtain⟨h,e⟩:=qgp.1 (yG (es:=es) (b:=b) (show k<es.length by omega))
  rw[List.take_succ_eq_append_getElem h,List.countP_append,<-ih (by omega),e]
  show ic es b k+_=_
  cases ho:qv es (pos es b k)<;>simp[ho]
theorem XB:(List.range es.length).countP (λi=>qv es i)=cnt es:=by
 unfold cnt
 have:es=(List.range es.length).map (eAt es):=by
  apply List.ext_getElem?
  intro i
  rw[qh4]
  by_cases h:i<es.length
  .rw[List.getElem?_range h,qgn h]
   show _=some (eAt es i)
   rw[zm (qgn h)]
  .rw[qha (l:=List.range es.length) (by rw[List.length_range];omega),qha (l:=es) (by omega)];rfl
 conv=>rhs;rw[this]
 rw[List.countP_map]
 rfl
theorem yW (hb:b<es.length):(wi es b).Perm (List.range es.length):=by
 have h1:wi es b=List.range' b (es.length-b)++List.range b:=by
  apply List.ext_getElem?
  intro k
  by_cases h:k<es.length
  .rw[yG h]
   unfold pos
   by_cases h2:k<es.length-b
   .rw[qh2 (by simpa using h2),List.getElem?_range' (by simpa using h2),Nat.mod_eq_of_lt (by omega)];simp
   .rw[qh3 (by simp;omega),List.length_range',List.getElem?_range (by omega),Nat.mod_eq_sub_mod (by omega),Nat.mod_eq_of_lt (by omega)]
    congr 1;omega
  .rw[qha (by rw[yH];omega),qha (by simp;omega)]
 rw[h1]
 refine List.perm_append_comm.trans ?_
 have h2:List.range es.length=List.range b++List.range' b (es.length-b):=by
  rw[List.range_eq_range',List.range_eq_range']
  have:=List.range'_append_1 (s:=0) (m:=b) (n:=es.length-b)
  rw[Nat.zero_add,show b+(es.length-b)=es.length by omega]at this
  exact this.symm
 rw[h2]
theorem dq (hb:b<es.length):ic es b es.length=es.length-cnt es:=by
 rw[qat _ (qgq _),List.take_of_length_le (by rw[yH];omega),(yW hb).countP_eq]
 have h1:=XB (es:=es)
 have h2:=List.length_eq_countP_add_countP (λi=>qv es i) (l:=List.range es.length)
 rw[List.length_range]at h2
 have h3:(List.range es.length).countP (λi=>!qv es i)=(List.range es.length).countP (λa=>decide (¬qv es a=true)):=by
  congr 1;funext a;cases qv es a<;>rfl
 omega
theorem bF (h:0<es.length)(o:Bool):∀(m j s:Nat),s<=j->j-s<=m->0<s->qv es (pos es b (s-1))≠o->(∀i,s<=i->i<j->qv es (pos es b i)=o)->FN es o m (pos es b j)=pos es b s
 | 0,j,s,h1,h2,h3,h4,h5=>by
  have:j=s:=by omega
  subst this;rfl
 | m+1,j,s,h1,h2,h3,h4,h5=>by
  unfold FN
  obtain⟨i,rfl⟩:∃i,j=i+1:=⟨j-1,by omega⟩
  rw[bP h]
  by_cases e:i+1=s
  .subst e
   rw[Nat.add_sub_cancel]at h4
   rw[if_neg h4]
  .rw[if_pos (h5 i (by omega) (by omega))]
   exact bF h o m i s (by omega) (by omega) h3 h4 λi' a1 a2=>h5 i' a1 (by omega)
end
end Go.Sx
namespace Go.Sx
open Go.Dx Go.Proofs
section
variable {es:List (Int × Int)}{b:Nat}
theorem Yr {N:Nat}(R ρ:Nat->Nat)(hR:∀k,k<es.length->R (pos es b k)=ρ (ic es b k%N))(hρ:∀c d,c<N->d<N->ρ c=ρ d->c=d){c s:Nat}(hc0:0<c)(hcN:c<N)(hsn:s<es.length)(hs:ic es b s=c)(hsf:∀j,j<s->ic es b j<c) :
  ∀(d j:Nat),j+d=s->yc R (ρ c) ((wi es b).drop j) ((List.range (if j=0 then 0 else ic es b (j-1)+1)).map ρ)=some c:=by
 intro d
 induction d with
 | zero =>
  intro j hj
  have:j=s:=by omega
  subst this
  have h0:j≠0:=by rintro rfl;have:ic es b 0=0:=rfl;omega
  rw[xb hsn,yc,if_pos (by rw[hR _ hsn,hs,Nat.mod_eq_of_lt hcN]),if_neg h0]
  have h1:=hsf (j-1) (by omega)
  have h2:=(Qw (es:=es) (b:=b) (j-1)).2
  rw[show j-1+1=j by omega]at h2
  simp;omega
 | succ d ih =>
  intro j hj
  have hjn:j<es.length:=by omega
  have hjc:=hsf j (by omega)
  have hRj:R (pos es b j)=ρ (ic es b j):=by rw[hR _ hjn,Nat.mod_eq_of_lt (by omega)]
  rw[xb hjn,yc,if_neg (by rw[hRj];intro h;have:=hρ _ _ (by omega) hcN h;omega),hRj]
  have hnext:=ih (j+1) (by omega)
  rw[if_neg (by omega),Nat.add_sub_cancel]at hnext
  have key:(if ((List.range (if j=0 then 0 else ic es b (j-1)+1)).map ρ).contains (ρ (ic es b j)) then (List.range (if j=0 then 0 else ic es b (j-1)+1)).map ρ else (List.range (if j=0 then 0 else ic es b (j-1)+1)).map ρ++[ρ (ic es b j)])=(List.range (ic es b j+1)).map ρ:=by
   by_cases h0:j=0
   .subst h0
    have:ic es b 0=0:=rfl
    simp[this]
   .rw[if_neg h0]
    have h2:=Qw (es:=es) (b:=b) (j-1)
    rw[show j-1+1=j by omega]at h2
    by_cases he:ic es b j=ic es b (j-1)
    .rw[if_pos (by simp;exact⟨ic es b j,by omega,rfl⟩),he]
    .have e:ic es b j=ic es b (j-1)+1:=by omega
     rw[if_neg,e,List.range_succ (n:=ic es b (j-1)+1),List.map_append]
     .rfl
     .simp
      intro x hx h
      have:=hρ _ _ (by omega) (by omega) h
      omega
  rw[key];exact hnext
theorem yR (hb:b<es.length)(hlast:qv es (pos es b (es.length-1))=true)(hN:0<es.length-cnt es){k:Nat}(hk:k<es.length):kY es b true (pos es b k)=ic es b k%(es.length-cnt es):=by
 obtain⟨N,hNe⟩:=qhd (es.length-cnt es)
 rw[<-hNe]at hN ⊢
 have hn:0<es.length:=by omega
 have hall:ic es b es.length=N:=by rw[dq hb,hNe]
 have hlastN:ic es b (es.length-1)=N:=by
  have e:ic es b (es.length-1+1)=ic es b (es.length-1)+if qv es (pos es b (es.length-1)) then 0 else 1:=rfl
  rw[hlast,show es.length-1+1=es.length by omega,hall]at e
  simpa using e.symm
 have hex:∀c,∃s,c<=N->s<=es.length-1/\ic es b s=c/\∀j,j<s->ic es b j<c:=λc=>by
  by_cases h:c<=N
  .obtain⟨s,h1⟩:=gS (es:=es) (b:=b) (es.length-1) c (by omega)
   exact⟨s,λ_=>h1⟩
  .exact⟨0,λh'=>absurd h' h⟩
 obtain⟨sC,hsC⟩:∃sC:Nat->Nat,∀c,c<=N->sC c<=es.length-1/\ic es b (sC c)=c/\∀j,j<sC c->ic es b j<c:=⟨λc=>(hex c).choose,λc=>(hex c).choose_spec⟩
 have hpos:∀c,1<=c->c<=N->0<sC c:=λc h1 h2=>by
  rcases Nat.eq_zero_or_pos (sC c) with h | h
  .have:=(hsC c h2).2.1;rw[h]at this;have e:ic es b 0=0:=rfl;omega
  .exact h
 have hback:∀c,1<=c->c<=N->qv es (pos es b (sC c-1))≠true:=λc h1 h2=>by
  have hp:=hpos c h1 h2
  have:=(hsC c h2).2.2 (sC c-1) (by omega)
  have h3:=Zt (es:=es) (b:=b) (j:=sC c-1) (by rw[show sC c-1+1=sC c by omega,(hsC c h2).2.1];exact this)
  rw[h3];simp
 let ρ:Nat->Nat:=λc=>if c=0 then pos es b (sC N) else pos es b (sC c)
 have hR:∀k,k<es.length->yd es true (pos es b k)=ρ (ic es b k%N):=λk hk=>by
  have hkN:ic es b k<=N:=by have:=xD (es:=es) (b:=b) (show k<=es.length by omega);omega
  unfold yd
  by_cases h0:ic es b k=0
  .have hsN:=hsC N (qgq _)
   have hp:=hpos N (by omega) (qgq _)
   have hks:k<sC N:=by
    rcases Nat.lt_or_ge k (sC N) with h | h
    .exact h
    .have:=xD (es:=es) (b:=b) h;omega
   have e:ρ (ic es b k%N)=pos es b (sC N):=by simp only[ρ];rw[h0,Nat.zero_mod,if_pos rfl]
   rw[e,<-jc (es:=es) (b:=b) k]
   refine bF hn true es.length (k+es.length) (sC N) (by omega) (by omega) hp (hback N (by omega) (qgq _)) λi h1 h2=>?_
   by_cases hi:i<es.length
   .exact vJ (es:=es) (b:=b) (i:=sC N) (j:=i) (k:=es.length) (by rw[hsN.2.1,hall]) h1 hi
   .have:i=(i-es.length)+es.length:=by omega
    rw[this,jc]
    exact vJ (es:=es) (b:=b) (i:=0) (j:=i-es.length) (k:=k) (by rw[h0];rfl) (by omega) (by omega)
  .have hs:=hsC (ic es b k) hkN
   have hp:=hpos _ (by omega) hkN
   have hsk:sC (ic es b k)<=k:=by
    rcases Nat.lt_or_ge k (sC (ic es b k)) with h | h
    .have:=hs.2.2 k h;omega
    .exact h
   have e:ρ (ic es b k%N)=pos es b (sC (ic es b k)):=by
    simp only[ρ]
    rcases Nat.lt_or_ge (ic es b k) N with h | h
    .rw[Nat.mod_eq_of_lt h,if_neg h0]
    .have:ic es b k=N:=by omega
     rw[this,Nat.mod_self,if_pos rfl]
   rw[e]
   exact bF hn true es.length k _ hsk (by omega) hp (hback _ (by omega) hkN) λi h1 h2=>vJ (by rw[hs.2.1]) h1 h2
 have hinj:∀c d,c<N->d<N->ρ c=ρ d->c=d:=λc d hc hd h=>by
  have key:∀c,c<N->∃c',c'<=N/\ρ c=pos es b (sC c')/\c'%N=c:=λc hc=>by
   simp only[ρ]
   by_cases h:c=0
   .exact⟨N,qgq _,by rw[if_pos h],by rw[Nat.mod_self,h]⟩
   .exact⟨c,by omega,by rw[if_neg h],Nat.mod_eq_of_lt hc⟩
  obtain⟨c',h1,h2,h3⟩:=key c hc
  obtain⟨d',g1,g2,g3⟩:=key d hd
  rw[h2,g2]at h
  have:=QF hb (by have:=(hsC c' h1).1;omega) (by have:=(hsC d' g1).1;omega) h
  have e:c'=d':=by rw[<-(hsC c' h1).2.1,<-(hsC d' g1).2.1,this]
  rw[<-h3,<-g3,e]
 have main:yc (yd es true) (yd es true (pos es b k)) (wi es b) []=some (ic es b k%N):=by
  rw[hR k hk]
  have hclt:ic es b k%N<N:=Nat.mod_lt _ hN
  by_cases hc0:ic es b k%N=0
  .rw[hc0]
   have hd:=xb (b:=b) hn
   rw[List.drop_zero]at hd
   rw[hd,yc,if_pos (by rw[hR 0 hn];show ρ (0%N)=_;rw[Nat.zero_mod])]
   rfl
  .have hs:=hsC (ic es b k%N) (by omega)
   have:=Yr (es:=es) (b:=b) (N:=N) (yd es true) ρ hR hinj (c:=ic es b k%N) (s:=sC (ic es b k%N)) (by omega) hclt (by omega) hs.2.1 hs.2.2 (sC (ic es b k%N)) 0 (by omega)
   simpa using this
 unfold kY
 rw[main];rfl
end
theorem gz {es:List (Int × Int)}(h:0<cnt es):wM es<es.length/\qv es (pos es (wM es) (es.length-1))=true:=by
 have hb:=Zh h
 unfold first at hb
 rw[List.find?_range_eq_some]at hb
 have hbl:wM es<es.length:=by simpa using hb.2.1
 refine⟨hbl,?_⟩
 have h1:=hb.1
 unfold Qj at h1
 have e:pos es (wM es) (es.length-1+1)=wM es:=by
  unfold pos;rw[show wM es+(es.length-1+1)=wM es+es.length by omega,Nat.add_mod_right,Nat.mod_eq_of_lt hbl]
 have:=bP (es:=es) (b:=wM es) (by omega) (es.length-1)
 rw[e]at this
 rw[this]at h1
 exact h1
end Go.Sx
namespace Go.Sx
open Go.Dx Go.Proofs
section
variable {es:List (Int × Int)}{b:Nat}
def stt (es:List (Int × Int))(b N k:Nat):LS:=((wi es b).take k).foldl (kg es N) (jh es.length N)
theorem yN {N k:Nat}(hk:k<es.length):stt es b N (k+1)=kg es N (stt es b N k) (pos es b k):=by
 obtain⟨h,e⟩:=qgp.1 (yG (es:=es) (b:=b) hk)
 unfold stt
 rw[List.take_succ_eq_append_getElem h,List.foldl_append,e];rfl
theorem qct {N:Nat}:∀{k:Nat},k<=es.length->(stt es b N k).c=ic es b k
 | 0,_=>rfl
 | k+1,h=>by
  rw[yN (by omega)]
  show (if qv es (pos es b k) then _ else _)=ic es b k+_
  rw[qct (by omega)];split<;>rfl
theorem Yv {N k:Nat}:(stt es b N k).ce.length=es.length:=by
 have key:∀(l:List Nat) (s:LS),(l.foldl (kg es N) s).ce.length=s.ce.length:=by
  intro l
  induction l with
  | nil=>intro s;rfl
  | cons i l ih=>intro s;rw[List.foldl_cons,ih];simp[kg]
 unfold stt;rw[key];simp[jh]
theorem qcu (hb:b<es.length){N:Nat}:∀{k:Nat},k<=es.length->∀j,j<k->(stt es b N k).ce[pos es b j]?=some (ic es b j%N)
 | 0,_,j,h=>by omega
 | k+1,hk,j,hj=>by
  rw[yN (by omega)]
  show ((stt es b N k).ce.set (pos es b k) ((stt es b N k).c%N))[pos es b j]?=_
  by_cases e:j=k
  .subst e
   rw[qh7 (by rw[Yv];exact Yp (by omega) _),qct (by omega)]
  .rw[qhb (λh=>e (QF hb (by omega) (by omega) h).symm)]
   exact qcu hb (by omega) j (by omega)
theorem gU (hb:b<es.length){N j:Nat}(hj:j<es.length):(xk es N (wi es b)).ce[pos es b j]?=some (ic es b j%N):=by
 have:=qcu hb (N:=N) (qgq es.length) j hj
 unfold stt at this
 rwa [List.take_of_length_le (by rw[yH];omega)]at this
theorem JV (hb:b<es.length)(hN:0<es.length-cnt es)(k:Nat)(hk:k<es.length):∃d,d<es.length/\qv es (pos es b (k+d))=false/\∀j,j<d->qv es (pos es b (k+j))=true:=by
 have hall:=dq (es:=es) hb
 obtain⟨s,hs1,hs2,hs3⟩:=gS (es:=es) (b:=b) es.length 1 (by omega)
 have hs0:0<s:=by
  rcases Nat.eq_zero_or_pos s with h | h
  .subst h;have:ic es b 0=0:=rfl;omega
  .exact h
 have hi:qv es (pos es b (s-1))=false:=Zt (by have:=hs3 (s-1) (by omega);rw[show s-1+1=s by omega,hs2];exact this)
 have hex:∃d,d<es.length/\qv es (pos es b (k+d))=false:=by
  by_cases h:k<=s-1
  .exact⟨s-1-k,by omega,by rw[show k+(s-1-k)=s-1 by omega];exact hi⟩
  .exact⟨s-1+es.length-k,by omega,by rw[show k+(s-1+es.length-k)=(s-1)+es.length by omega,jc];exact hi⟩
 have key:∀d,d<es.length->qv es (pos es b (k+d))=false->∃d',d'<=d/\qv es (pos es b (k+d'))=false/\∀j,j<d'->qv es (pos es b (k+j))=true:=by
  intro d
  induction d using Nat.strongRecOn with
  | _ d ih =>
   intro h1 h2
   by_cases h:∃j,j<d/\qv es (pos es b (k+j))=false
   .obtain⟨j,hj,h3⟩:=h
    obtain⟨d',g1,g2⟩:=ih j hj (by omega) h3
    exact⟨d',by omega,g2⟩
   .refine⟨d,qgq _,h2,λj hj=>?_⟩
    cases ho:qv es (pos es b (k+j)) with
    | true=>rfl
    | false=>exact absurd ⟨j,hj,ho⟩ h
 obtain⟨d,h1,h2⟩:=hex
 obtain⟨d',g1,g2⟩:=key d h1 h2
 exact⟨d',by omega,g2⟩
theorem qa7 (hes:es.length<=16)(hb:b<es.length)(hlast:qv es (pos es b (es.length-1))=true)(hN:0<es.length-cnt es)(c:Nat)(hc:c<es.length-cnt es) :
  ∃l,kU es (xk es (es.length-cnt es) (wi es b)).ce b c l:=by
 obtain⟨N,hNe⟩:=qhd (es.length-cnt es)
 rw[<-hNe]at hN hc ⊢
 have hn:0<es.length:=by omega
 have hall:ic es b es.length=N:=by rw[dq hb,hNe]
 have hlastN:ic es b (es.length-1)=N:=by
  have e:ic es b (es.length-1+1)=ic es b (es.length-1)+if qv es (pos es b (es.length-1)) then 0 else 1:=rfl
  rw[hlast,show es.length-1+1=es.length by omega,hall]at e
  simpa using e.symm
 obtain⟨C,hC1,hCN,hCc⟩:∃C,1<=C/\C<=N/\C%N=c:=by
  by_cases h:c=0
  .exact⟨N,hN,qgq _,by rw[Nat.mod_self,h]⟩
  .exact⟨c,by omega,by omega,Nat.mod_eq_of_lt hc⟩
 obtain⟨s,hs1,hs2,hs3⟩:=gS (es:=es) (b:=b) (es.length-1) C (by omega)
 have hs0:0<s:=by
  rcases Nat.eq_zero_or_pos s with h | h
  .subst h;have:ic es b 0=0:=rfl;omega
  .exact h
 have hah:∀k,0<k->ahN es.length (pos es b k)=pos es b (k-1):=λk h=>by
  have:=bP (es:=es) (b:=b) hn (k-1);rwa [show k-1+1=k by omega]at this
 have hjump:qv es (pos es b (s-1))=false:=Zt (by have:=hs3 (s-1) (by omega);rw[show s-1+1=s by omega,hs2];exact this)
 obtain⟨d,hd1,hd2,hd3⟩:=JV hb (by omega) s (by omega)
 refine⟨(List.range (d+1)).map λj=>pos es b (s+j),⟨s,by omega,?_,?_,λk hk=>⟨ic es b k%N,gU hb (by omega),λh=>?_⟩,?_⟩,⟨λx hx=>?_,λj x y hx hy=>?_,λx hx=>?_⟩,by simp;omega⟩
 .have:=gU (es:=es) hb (N:=N) (j:=s) (by omega)
  rw[hs2,hCc]at this;exact this
 .show qv es (ahN es.length (pos es b s))=false
  rw[hah s hs0];exact hjump
 .-- an event of the cell ahead of its beginning: cell 0,where the walk begins
  show qv es (ahN es.length (pos es b k))=true
  have hkc:=hs3 k hk
  have hk0:ic es b k=0:=by
   rw[Nat.mod_eq_of_lt (by omega)]at h
   by_cases hcz:c=0
   .omega
   .have:C=c:=by
     rcases Nat.lt_or_ge C N with h' | h'
     .rw[Nat.mod_eq_of_lt h']at hCc;exact hCc
     .have:C=N:=by omega
      rw[this,Nat.mod_self]at hCc;omega
    omega
  by_cases hkz:k=0
  .subst hkz
   have:=bP (es:=es) (b:=b) hn (es.length-1)
   rw[show es.length-1+1=0+es.length by omega,jc]at this
   rw[this];exact hlast
  .rw[hah k (by omega)]
   exact vJ (es:=es) (b:=b) (i:=0) (j:=k-1) (k:=k) (by rw[hk0];rfl) (by omega) (by omega)
 .rw[qh4,List.getElem?_range (by omega)];rfl
 .obtain⟨j,-,rfl⟩:=List.mem_map.1 hx
  exact Yp hn _
 .rw[qh4]at hx hy
  have hj:j+1<d+1:=by
   rcases Nat.lt_or_ge (j+1) (d+1) with h | h
   .exact h
   .rw[qha (l:=List.range (d+1)) (by simpa using h)]at hy;cases hy
  rw[List.getElem?_range (by omega)]at hx
  rw[List.getElem?_range hj]at hy
  cases hx;cases hy
  refine⟨?_,hd3 j (by omega)⟩
  show (b+(s+(j+1)))%es.length=((b+(s+j))%es.length+1)%es.length
  rw[show b+(s+(j+1))=(b+(s+j))+1 by omega,<-Nat.mod_add_mod]
 .rw[qh4]at hx
  simp only[List.length_map,List.length_range,Nat.add_sub_cancel]at hx
  rw[List.getElem?_range (by omega)]at hx
  cases hx
  exact hd2
end
theorem Gw (es:List (Int × Int))(ms:List Int):∃ch:Nat->List Nat,(zj es ms).2=0->∀c,c<es.length-cnt es->kU es (xk es (es.length-cnt es) (wi es (wM es))).ce (wM es) c (ch c):=by
 by_cases h:(zj es ms).2=0
 .have hp:(wn es ms).2=0/\¬(cnt es<2\/es.length-cnt es<1):=by
   unfold zj at h
   by_cases h1:(wn es ms).2≠0
   .rw[if_pos h1]at h;exact absurd h h1
   .rw[if_neg h1]at h
    refine⟨by omega,λh2=>?_⟩
    rw[if_pos h2]at h;simp at h
  obtain⟨hb,hlast⟩:=gz (es:=es) (by omega)
  have hex:∀c,∃l,c<es.length-cnt es->kU es (xk es (es.length-cnt es) (wi es (wM es))).ce (wM es) c l:=λc=>by
   by_cases hc:c<es.length-cnt es
   .obtain⟨l,hl⟩:=qa7 (jr hp.1).1 hb hlast (by omega) c hc
    exact⟨l,λ_=>hl⟩
   .exact⟨[],λh=>absurd h hc⟩
  exact⟨λc=>(hex c).choose,λ_ c hc=>(hex c).choose_spec hc⟩
 .exact⟨λ_=>[],λh'=>absurd h' h⟩
end Go.Sx
