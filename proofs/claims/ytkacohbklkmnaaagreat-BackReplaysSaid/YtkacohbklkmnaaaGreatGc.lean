/- Contracts. -/
import Derived.Test.YtkacohbklkmnaaaGreatGb5
import Derived.Test.YtkacohbklkmnaaaGreatGa
import Derived.Laws.Bits64b
set_option linter.unusedVariables false
set_option linter.unusedSimpArgs false
set_option linter.defProp false
namespace Go.Dx
open Go.RowKit Go.WideShapes Go.ChangeShapes
noncomputable section
attribute [local irreducible] A.get A.set HI
def abC (w:World)(b:Nat):Value->Option Value
 | .int k n=>some (.int k n)
 | zS=>some zS
 | .slice (some _) 0 0=>some (.slice (some ⟨b,0,some 1⟩) 0 0)
 | .slice (some ⟨B,o,none⟩) len cap=>match w.heap[B]? with
  | some (.cells cs _ _)=>if len<=cap/\o<=cs.size then some (.slice (some ⟨B,o+HI,some 1⟩) len cap) else none
  | _=>none
 | _=>none
theorem Kw {w:World}{b:Nat}{l:Loc}(hb:km w b=some l){v u:Value}(h:abC w b v=some u):VRel (km w) u v:=by
 unfold abC at h;split at h
 .cases h;exact .int _ _
 .cases h;exact .slN
 .cases h;exact .slE _ _ _ _ l hb
 .rename_i B o len cap _;split at h
  .rename_i cs e fz hx;split at h
   .rename_i hc;cases h;have hφ:km w B=some ⟨B,HI,cs.size⟩:=by unfold km;rw[hx]
    exact .sl B o 1 len cap cap ⟨B,HI,cs.size⟩ hφ hc.1 (qh8 _) (λ_=>rfl) (by show o+cap*0<=cs.size;rw[Nat.mul_zero];exact hc.2)
   .cases h
  .cases h
 .cases h
def yl (w:World)(b:Nat)(fz:Nat × Nat):Nat->List Value->C->C
 | _,[],c=>c
 | j,v::l,c=>yl w b fz (j+1) l (match abC w b v with
  | some u=>if fz.1<=j/\j<fz.2 then c else A.set none (some u) (j+HI) c
  | none=>c)
def Ym (w:World)(b:Nat):Obj->DObj
 | .cells cs _ fz=>.cells (yl w b fz 0 cs.toList .lf)
 | _=>.cells .lf
def qdb (w:World):M:=vq (w.heap.toList.mapIdx (Ym w)) M.empty
def snapM2 (w:World):M:=ql (qdb w)
theorem vI (w:World)(b:Nat)(fz:Nat × Nat):∀(l:List Value) (j:Nat) (c:C) (i:Nat),A.get none i (yl w b fz j l c)=if j+HI<=i/\i<j+HI+l.length then
  (match (l[i-HI-j]?).bind (abC w b) with
   | some u=>if fz.1<=i-HI/\i-HI<fz.2 then A.get none i c else some u
   | none=>A.get none i c) else A.get none i c
 | [],j,c,i=>by
  show A.get none i c=_;rw[qhy (by simp)]
 | v::l,j,c,i=>by
  unfold yl;rw[vI w b fz l (j+1)];by_cases h1:i=j+HI
  .subst h1;rw[qhy (by omega),qhz (by simp),show j+HI-HI-j=0 by omega,List.getElem?_cons_zero,show j+HI-HI=j by omega];show _=match abC w b v with
    | some u=>_
    | none=>_
   cases hv:abC w b v with
   | some u =>
    simp only;by_cases hz:fz.1<=j/\j<fz.2
    .rw[qhz hz,qhz hz]
    .rw[qhy hz,qhy hz,A.get_set_same]
   | none=>rfl
  .have hc:A.get none i (match abC w b v with
     | some u=>if fz.1<=j/\j<fz.2 then c else A.set none (some u) (j+HI) c
     | none=>c)=A.get none i c:=by
    cases hv:abC w b v with
    | some u =>
     simp only;split
     .rfl
     .rw[A.get_set_ne _ _ h1]
    | none=>rfl
   by_cases h2:j+1+HI<=i/\i<j+1+HI+l.length
   .rw[qhz h2,qhz (by simp;omega),show i-HI-j=(i-HI-(j+1))+1 by omega,List.getElem?_cons_succ,hc]
   .rw[qhy h2,qhy (by simp;omega),hc]
theorem snap_facts2 (w:World):(snapM2 w).n=w.heap.size/\(snapM2 w).base=w.heap.size/\(snapM2 w).log=[]/\∀X,(snapM2 w).obj X=(w.heap[X]?).map (Ym w X):=by
 obtain⟨h1,h2,h3,h4⟩:=fE (w.heap.toList.mapIdx (Ym w)) M.empty;have hn:M.empty.n=0:=rfl;have hn':(qdb w).n=w.heap.size:=by show (vq _ _).n=_;rw[h1,hn];simp
 refine⟨by unfold snapM2;rw[qt,hn'],by unfold snapM2;rw[qW,hn'],wu _,λX=>?_⟩;unfold snapM2;rw[qx];show (vq _ _).obj X=_;rw[h4 X,hn];by_cases h:X<w.heap.size
 .rw[qhz (by simp;omega)];simp[h]
 .rw[qhy (by simp;omega),Array.getElem?_eq_none (by omega)];exact A3.get_lf none X
theorem R.snap2 (w:World):R (km w) (snapM2 w) w:=by
 obtain⟨h1,h2,h3,h4⟩:=snap_facts2 w;refine⟨λB hB=>by rw[h4,Array.getElem?_eq_none (by omega)];rfl,λB l hB hl=>?_,λB₁ B₂ l₁ l₂ _ _ hl1 hl2 he hne=>?_⟩
 .have hl0:=hl;unfold km at hl;split at hl
  .rename_i cs e fz hx;cases hl;have hob:(snapM2 w).obj B=some (.cells (yl w B fz 0 cs.toList .lf)):=by rw[h4,hx];rfl
   refine⟨.cells (yl w B fz 0 cs.toList .lf),hob,cs,e,fz,hx,rfl,⟨λ_ h=>absurd h (Nat.lt_irrefl _),λi v hi=>?_⟩,λi v hi=>?_⟩
   .rw[vI]at hi;split at hi
    .split at hi
     .split at hi
      .rw[A.get_lf]at hi;cases hi
      .assumption
     .rw[A.get_lf]at hi;cases hi
    .rw[A.get_lf]at hi;cases hi
   .rw[vI]at hi;split at hi
    .rename_i hr;split at hi
     .rename_i u hg;split at hi
      .rw[A.get_lf]at hi;cases hi
      .cases hi;rw[Option.bind_eq_some_iff]at hg;obtain⟨x,hx1,hx2⟩:=hg;refine⟨by show HI<=i;omega,x,?_,Kw hl0 hx2⟩;rw[Nat.sub_zero]at hx1;simpa using hx1
     .rw[A.get_lf]at hi;cases hi
    .rw[A.get_lf]at hi;cases hi
  .cases hl
 .unfold km at hl1 hl2;split at hl1<;>cases hl1;split at hl2<;>cases hl2;exact absurd he hne
theorem Yn {w:World}{b i:Nat}{v u:Value}(h:w.cell? ⟨b,i,none⟩=some v)(hz:w.frozen? ⟨b,i,none⟩=false)(hu:abC w b v=some u)(s:Option Nat) :
  load1 (snapM2 w) ⟨b,i+HI,s⟩=some u:=by
 obtain⟨h1,h2,h3,h4⟩:=snap_facts2 w;unfold World.cell? at h;split at h
 .rename_i cs e fz hx;simp only[Option.isSome_none,Bool.false_eq_true,if_false]at h;have hi:i<cs.size:=(qh9.1 h).1;have hob:(snapM2 w).obj b=some (.cells (yl w b fz 0 cs.toList .lf)):=by rw[h4,hx];rfl
  have hld:∀o,load1 (snapM2 w) ⟨b,o,s⟩=A.get none o (yl w b fz 0 cs.toList .lf):=λo=>by unfold load1 cellsOf;rw[hob];rfl
  have hg:cs.toList[i]?=some v:=by simpa using h
  have hzz:¬(fz.1<=i/\i<fz.2):=by
   simp only[World.frozen?,hx]at hz;simpa using hz
  rw[hld,vI]
  generalize HI=H
  rw[qhz (by simp;omega),show i+H-H=i by omega,Nat.sub_zero,hg];show (match abC w b v with
   | some u=>_
   | none=>_)=_
  rw[hu];simp only;rw[qhy hzz]
 .cases h
theorem Gy {w:World}{a:Addr}{v:Value}(h:w.cell? a=some v):a.spot=none/\∃cs e fz,w.heap[a.block]?=some (.cells cs e fz)/\a.off<cs.size:=by
 unfold World.cell? at h;split at h
 .rename_i cs e fz hx;cases hs:a.spot with
  | none =>
   simp only[hs,Option.isSome_none,Bool.false_eq_true,if_false]at h;exact⟨rfl,cs,e,fz,hx,(qh9.1 h).1⟩
  | some s=>simp[hs]at h
 .cases h
theorem snap_call2 {P:Program}{x:Ex}(hx:jg P x){g:Nat}{args:List Value}{w:World}{b:Bool}(h:CallV x g args (snapM2 w) (.bool b))(args':Array Value)(ha:VRels (km w) args args'.toList) :
  Calls P g args' w λe w'=>e=.returned (.bool b)/\Below w.heap.size w w':=by
 obtain⟨h1,h2,h3,h4⟩:=snap_facts2 w;obtain⟨v,m',e,hE,rfl⟩:=h;obtain⟨_,_,hc⟩:=hx.f _ _ _ _ _ e;refine (hc (km w) w args' (R.snap2 w) ha (λB hB _=>?_)).mono ?_
 .unfold km;rw[h1]at hB;rw[Array.getElem?_eq_none (by omega)]
 .rintro e w' ⟨φ',v',rfl,_,hs,hr⟩;refine⟨by rw[hr.bool_inv],hs.os,hs.tape,hs.output,hs.size,λk hk=>hs.frame k hk λB l hl hb ht=>?_⟩;obtain⟨q1,q2,_⟩:=ht;have hB:B<w.heap.size:=by rw[<-h1];exact q1
  rcases q2 with q | q
  .rw[hE.base,h2]at q;omega
  .rw[hE.log,h3]at q;cases q
section
variable {H:Type}{enc:TypeId × Value->H}{P:Program}{w:World}
end
end
end Go.Dx
namespace Go.Dx
open Go.RowKit
abbrev uv (n:Nat):Value:=.int .u64 (n:Int)
theorem Qz (op:BinOp)(a b:Int)(r:Int)(h:bits op .u64 a b=r)(ho:op=.and\/op=.or\/op=.xor):Jr op .u64 a b=some (.int .u64 r):=by
 rcases ho with rfl | rfl | rfl<;>(subst h;rfl)
theorem FJ {a b:Nat}(ha:a<18446744073709551616)(hb:b<18446744073709551616):ze .and (uv a) (uv b)=some (uv (a &&& b)):=by
 rw[kH];exact Qz .and _ _ _ (bits_and_u64_nat a b ha hb) (.inl rfl)
theorem u_or {a b:Nat}(ha:a<18446744073709551616)(hb:b<18446744073709551616):ze .or (uv a) (uv b)=some (uv (a|||b)):=by
 rw[kH];exact Qz .or _ _ _ (bits_or_u64_nat a b ha hb) (.inr (.inl rfl))
theorem u_xor {a b:Nat}(ha:a<18446744073709551616)(hb:b<18446744073709551616):ze .xor (uv a) (uv b)=some (uv (a ^^^ b)):=by
 rw[kH];exact Qz .xor _ _ _ (bits_xor_u64_nat a b ha hb) (.inr (.inr rfl))
theorem u_low {b:Nat}(hb:b<18446744073709551616):ze .and (uv b) (.int .u64 63)=some (uv (b%64)):=by
 have:=FJ (a:=b) (b:=63) hb (by omega)
 rwa [show (63:Nat)=2^6-1 from rfl,Nat.and_two_pow_sub_one_eq_mod]at this
theorem QW (a b:Nat):ze .add (uv a) (uv b)=some (uv ((a+b)%18446744073709551616)):=by
 rw[qw,IntKind.wrap_u64];congr 2
theorem FK {a b:Nat}(ha:a<18446744073709551616)(hb:b<18446744073709551616):ze .sub (uv a) (uv b)=some (uv ((a+(18446744073709551616-b))%18446744073709551616)):=by
 rw[qz,IntKind.wrap_u64];congr 2;omega
theorem u_mul (a b:Nat):ze .mul (uv a) (uv b)=some (uv (a*b%18446744073709551616)):=by
 rw[kH];show some (Value.int .u64 (xI .u64 ((a:Int)*b)))=_;rw[zC,IntKind.wrap_u64];congr 2
theorem u_div {a b:Nat}(ha:a<18446744073709551616)(hb:0<b):ze .quo (uv a) (uv b)=some (uv (a/b)):=by
 rw[kH];show zZ (Op.intDiv .quo .u64 (a:Int) (b:Int))=_;unfold Op.intDiv;rw[qhy (by omega)];have e:(a:Int).tdiv (b:Int)=((a/b:Nat):Int):=by rw[Int.ofNat_tdiv]
 have h2:a/b<=a:=Nat.div_le_self a b;show some (Value.int _ (IntKind.u64.wrap ((a:Int).tdiv b)))=_;rw[e,IntKind.wrap_u64]
 generalize a/b=c at h2
 congr 2;omega
theorem qdq {a b:Nat}(hb:0<b):ze .rem (uv a) (uv b)=some (uv (a%b)):=by
 rw[kH];show zZ (Op.intDiv .rem .u64 (a:Int) (b:Int))=_;unfold Op.intDiv;rw[qhy (by omega)];have e:(a:Int).tmod (b:Int)=((a%b:Nat):Int):=by rw[Int.ofNat_tmod]
 show some (Value.int _ ((a:Int).tmod b))=_;rw[e]
theorem u_shl {a s:Nat}(hs:s<64):shV .shl (uv a) (uv s)=some (uv (a*2^s%18446744073709551616)):=by
 show zZ (Op.shift .shl .u64 (a:Int) .u64 (s:Int))=_;unfold Op.shift;rw[qhy (by omega)];show some (Value.int .u64 (IntKind.u64.wrap ((a:Int)*2^(min (Int.toNat (s:Int)) 64))))=_;rw[qhj,Nat.min_eq_left (by omega),IntKind.wrap_u64]
 congr 2
theorem u_shr {a s:Nat}(hs:s<64):shV .shr (uv a) (uv s)=some (uv (a/2^s)):=by
 show zZ (Op.shift .shr .u64 (a:Int) .u64 (s:Int))=_;unfold Op.shift;rw[qhy (by omega)];show some (Value.int .u64 ((a:Int).fdiv (2^(min (Int.toNat (s:Int)) 64))))=_;rw[qhj,Nat.min_eq_left (by omega)]
 congr 2
 rw[show ((2:Int)^s)=((2^s:Nat):Int) by push_cast;rfl,Int.ofNat_fdiv]
theorem u_neg {a:Nat}(ha:a<18446744073709551616):unV .neg (uv a)=some (uv ((18446744073709551616-a)%18446744073709551616)):=by
 show zZ (Op.intArith .sub .u64 0 (a:Int))=_;show some (Value.int .u64 (IntKind.u64.wrap (0-(a:Int))))=_;rw[IntKind.wrap_u64];congr 2;omega
theorem u_not {a:Nat}(ha:a<18446744073709551616):unV .xor (uv a)=some (uv (18446744073709551615-a)):=by
 show zZ (Op.intBits .xor .u64 18446744073709551615 (a:Int))=_;have h:=bits_xor_u64_nat 18446744073709551615 a (by omega) ha;have e:zZ (Op.intBits .xor .u64 18446744073709551615 (a:Int))=some (.int .u64 (bits .xor .u64 ((18446744073709551615:Nat):Int) (a:Int))):=rfl;rw[e,h]
 congr 3
 have h2:=congrArg BitVec.toNat (BitVec.allOnes_xor (x:=BitVec.ofNat 64 a));rw[BitVec.toNat_xor,BitVec.toNat_not,BitVec.toNat_allOnes,BitVec.toNat_ofNat,Nat.mod_eq_of_lt (by omega)]at h2;exact h2
end Go.Dx
namespace Go.Sx
open Go.Dx
abbrev U:={n:Nat // n<18446744073709551616}
structure Nd where
 op:Int
 val:U
 a:Int
 b:Int
def qv (n:Nd):List Value:=[.int .i64 n.op,uv n.val.1,.int .i64 n.a,.int .i64 n.b]
def qS (n:U):List Value:=[uv n.1]
def t01 (b:Bool):Nat:=if b then 1 else 0
theorem fy (b:Bool):t01 b<18446744073709551616:=by cases b<;>decide
def xD (op:Int)(a:Nat):Nat:=if op=3 then (18446744073709551616-a)%18446744073709551616 else if op=4 then 18446744073709551615-a else t01 (decide (a=0))
def kf (op:Int)(a b:Nat):Nat :=
 if op=6 then a*b%18446744073709551616 else if op=7 then (a+b)%18446744073709551616 else if op=8 then (a+(18446744073709551616-b))%18446744073709551616
 else if op=9 then a*2^(b%64)%18446744073709551616 else if op=10 then a/2^(b%64) else if op=11 then a &&& b else if op=12 then a ^^^ b else if op=13 then a|||b
 else if op=14 then t01 (decide (a=b)) else if op=15 then t01 (decide (a≠b)) else if op=16 then t01 (decide (a<b)) else if op=17 then t01 (decide (a<=b))
 else if op=18 then t01 (decide (b<a)) else t01 (decide (b<=a))
theorem zt {c:Prop}[Decidable c]{a b n:Nat}(ha:a<n)(hb:b<n):(if c then a else b)<n:=by
 by_cases h:c
 .rw[qhz h];exact ha
 .rw[qhy h];exact hb
theorem qc9 (op:Int){a:Nat}(ha:a<18446744073709551616):xD op a<18446744073709551616 :=
 zt (Nat.mod_lt _ (by omega)) (zt (by omega) (fy _))
theorem qca (op:Int){a b:Nat}(ha:a<18446744073709551616)(hb:b<18446744073709551616):kf op a b<18446744073709551616:=by
 have h1:a &&& b<2^64:=Nat.and_lt_two_pow (n:=64) a (y:=b) (by omega);have h2:a ^^^ b<2^64:=Nat.xor_lt_two_pow (n:=64) (x:=a) (y:=b) (by omega) (by omega);have h3:a|||b<2^64:=Nat.or_lt_two_pow (n:=64) (x:=a) (y:=b) (by omega) (by omega);exact zt (Nat.mod_lt _ (by omega)) (zt (Nat.mod_lt _ (by omega)) (zt (Nat.mod_lt _ (by omega)) (zt (Nat.mod_lt _ (by omega)) (zt (Nat.lt_of_le_of_lt (Nat.div_le_self _ _) ha)
  (zt (by omega) (zt (by omega) (zt (by omega) (zt (fy _) (zt (fy _) (zt (fy _) (zt (fy _) (zt (fy _) (fy _)))))))))))))
def wAt (l:List U)(i:Nat):Nat:=(l[i]?.map (·.1)).getD 0
theorem wAt_lt (l:List U)(i:Nat):wAt l i<18446744073709551616:=by
 unfold wAt;cases h:l[i]? with
 | none=>simp
 | some x=>simpa using x.2
def jM (l:List U)(v:List Nat)(n:Nd):Nat :=
 if n.op=1 then n.val.1 else if n.op=2 then wAt l n.val.1 else if n.op<=5 then xD n.op (v.getD n.a.toNat 0) else kf n.op (v.getD n.a.toNat 0) (v.getD n.b.toNat 0)
def evV (l:List U)(e:List Nd):Nat->List Nat
 | 0=>[]
 | i+1=>evV l e i++[match e[i]? with | some n=>jM l (evV l e i) n | none=>0]
theorem yz (l:List U)(e:List Nd):∀i,(evV l e i).length=i
 | 0=>rfl
 | i+1=>by unfold evV;rw[qhf,yz l e i];rfl
theorem Je (l:List U)(e:List Nd){j:Nat}:∀{i:Nat},j<i->(evV l e i)[j]?=(evV l e (j+1))[j]?
 | i+1,h=>by
  by_cases hj:j=i
  .subst hj;rfl
  .conv=>lhs;unfold evV
   rw[qhk (by rw[yz];omega)];exact Je l e (by omega)
def vK (l:List U)(e:List Nd)(i:Nat):Nat:=(evV l e (i+1)).getD i 0
theorem fS (l:List U)(e:List Nd){i j:Nat}(h:j<i):(evV l e i).getD j 0=vK l e j:=by
 unfold vK;rw[List.getD_eq_getElem?_getD,List.getD_eq_getElem?_getD,Je l e h]
theorem FM (l:List U)(e:List Nd){i:Nat}{n:Nd}(h:e[i]?=some n):vK l e i=jM l (evV l e i) n:=by
 unfold vK;rw[List.getD_eq_getElem?_getD]
 conv=>lhs;unfold evV
 rw[qhl (by rw[yz];exact qh8 _),yz,Nat.sub_self,h];rfl
def okN (k i:Nat)(n:Nd):Bool :=
 if n.op=1 then decide (n.a=0/\n.b=0) else if n.op=2 then decide (n.a=0/\n.val.1<k/\n.b=0)
 else if 3<=n.op/\n.op<=5 then decide (0<=n.a/\n.a<i/\n.b=0/\n.val.1=0) else decide (0<=n.a/\n.a<i/\0<=n.b/\n.b<i/\6<=n.op/\n.op<=19/\n.val.1=0)
def gL (n:Nd)(j:Nat):Nat:=(if 3<=n.op/\n.a=j then 1 else 0)+(if 6<=n.op/\n.b=j then 1 else 0)
def wG (e:List Nd)(i j:Nat):Nat:=((e.take i).map λn=>gL n j).sum
theorem jY {e:List Nd}{i:Nat}{n:Nd}(h:e[i]?=some n)(j:Nat):wG e (i+1) j=wG e i j+gL n j:=by
 unfold wG;obtain⟨hh,he⟩:=qh7.1 h;rw[List.take_succ_eq_append_getElem hh,he,List.map_append,List.sum_append];simp
theorem WJ (e:List Nd)(j:Nat){i:Nat}:∀d,wG e i j<=wG e (i+d) j
 | 0=>qh8 _
 | d+1=>by
  refine qhh (WJ e j d) ?_;cases h:e[i+d]? with
  | some n=>rw[<-Nat.add_assoc,jY h];omega
  | none =>
   have:=List.getElem?_eq_none_iff.1 h;unfold wG;rw[List.take_of_length_le (by omega),List.take_of_length_le (by omega)];exact qh8 _
def we (k:Nat)(e:List Nd):Bool :=
 decide (0<e.length)&&decide (e.length<=65536)&&((List.range e.length).all λi=>match e[i]? with | some n=>okN k i n | none=>true) &&
  ((List.range e.length).all λj=>decide (wG e e.length j=if j<e.length-1 then 1 else 0))
theorem FL {k i:Nat}{n:Nd}(h:okN k i n=true){j:Nat}(hj:i<=j):gL n j=0:=by
 unfold okN at h;unfold gL;split at h
 .rename_i h1;rw[qhy (by omega),qhy (by omega)]
 .split at h
  .rw[qhy (by omega),qhy (by omega)]
  .split at h
   .have:=qi2 h;rw[qhy (by omega),qhy (by omega)]
   .have:=qi2 h;rw[qhy (by omega),qhy (by omega)]
section
variable {k:Nat}{e:List Nd}
theorem Qm (h:e.length=0):we k e=false:=by unfold we;rw[h];rfl
theorem Qn (h:65536<e.length):we k e=false:=by
 unfold we;have:decide (e.length<=65536)=false:=qhw (by omega);rw[this];simp
theorem Jg {i:Nat}{n:Nd}(hi:e[i]?=some n)(h:okN k i n=false):we k e=false:=by
 have hl:=(qh7.1 hi).1;cases hc:we k e with
 | false=>rfl
 | true =>
  unfold we at hc;simp only[qhb,List.all_eq_true]at hc;have:=hc.1.2 i (List.mem_range.2 hl);rw[hi]at this;exact absurd (this.symm.trans h) (by simp)
theorem bd {j:Nat}(hj:j<e.length)(h:wG e e.length j≠if j<e.length-1 then 1 else 0):we k e=false:=by
 cases hc:we k e with
 | false=>rfl
 | true =>
  unfold we at hc;simp only[qhb,List.all_eq_true]at hc;exact absurd (qi2 (hc.2 j (List.mem_range.2 hj))) h
theorem bX {i j:Nat}(hi:i<=e.length)(hj:j<e.length)(h:2<=wG e i j):we k e=false:=by
 refine bd hj ?_;have:=WJ e j (i:=i) (e.length-i);rw[show i+(e.length-i)=e.length by omega]at this;split<;>omega
theorem WI (h:∀(i:Nat) n,e[i]?=some n->okN k i n=true):∀i,i<=e.length->wG e i (e.length-1)=0
 | 0,_=>rfl
 | i+1,hi=>by
  have hg:e[i]?=some e[i]:=qh5 (by omega);rw[jY hg,WI h i (by omega),FL (h i _ hg) (by omega)]
theorem Qo (h0:0<e.length)(h1:e.length<=65536)(hok:∀(i:Nat) n,e[i]?=some n->okN k i n=true)(hlo:∀j,j<e.length-1->0<wG e e.length j)(hhi:∀j,wG e e.length j<=1):we k e=true:=by
 unfold we;simp only[qhb,List.all_eq_true,qi3];refine⟨⟨⟨h0,h1⟩,λi hi=>?_⟩,λj hj=>?_⟩
 .cases hg:e[i]? with
  | none=>rfl
  | some n=>exact hok i n hg
 .have hj':=List.mem_range.1 hj;by_cases hl:j<e.length-1
  .rw[qhz hl];have:=hlo j hl;have:=hhi j;omega
  .rw[qhy hl,show j=e.length-1 by omega];exact WI hok _ (qh8 _)
theorem xZ (h:we k e=true):0<e.length/\e.length<=65536/\∀(i:Nat) n,e[i]?=some n->okN k i n=true:=by
 unfold we at h;simp only[qhb,List.all_eq_true,qi3]at h;refine⟨h.1.1.1,h.1.1.2,λi n hi=>?_⟩;have:=h.1.2 i (List.mem_range.2 (qh7.1 hi).1);rw[hi]at this;exact this
end
theorem Fb {k i:Nat}{n:Nd}(h:n.op=1):okN k i n=decide (n.a=0/\n.b=0):=by unfold okN;rw[qhz h]
theorem gx {k i:Nat}{n:Nd}(h:n.op=2):okN k i n=decide (n.a=0/\n.val.1<k/\n.b=0):=by unfold okN;rw[qhy (by omega),qhz h]
theorem xC {k i:Nat}{n:Nd}(h:3<=n.op)(h':n.op<=5):okN k i n=decide (0<=n.a/\n.a<i/\n.b=0/\n.val.1=0):=by unfold okN;rw[qhy (by omega),qhy (by omega),qhz ⟨h,h'⟩]
theorem zR {k i:Nat}{n:Nd}(h1:n.op≠1)(h2:n.op≠2)(h:¬(3<=n.op/\n.op<=5)):okN k i n=decide (0<=n.a/\n.a<i/\0<=n.b/\n.b<i/\6<=n.op/\n.op<=19/\n.val.1=0):=by unfold okN;rw[qhy h1,qhy h2,qhy h]
theorem qaz (a k:Nat):(a*2^k%18446744073709551616+a*2^k%18446744073709551616)%18446744073709551616=a*2^(k+1)%18446744073709551616:=by
 rw[Nat.pow_succ,<-Nat.mul_assoc]
 generalize a*2^k=x
 omega
theorem GI (a k:Nat):a/2^k/2=a/2^(k+1):=by rw[Nat.div_div_eq_div_mul,Nat.pow_succ]
end Go.Sx
namespace Go.Dx
structure Rest (N:Nat)(ex:List Nat)(m m':M):Prop where
 n:m.n<=m'.n
 obj:∀B,B<N->B ∉ ex->m'.obj B=m.obj B
 base:m'.base=m.base
 log:m'.log=m.log
section
variable {N:Nat}{ex:List Nat}{a b c m m':M}
theorem Rest.refl:Rest N ex m m:=⟨qh8 _,λ_ _ _=>rfl,rfl,rfl⟩
theorem Rest.trans (h:Rest N ex a b)(k:Rest N ex b c):Rest N ex a c:=⟨qhh h.n k.n,λB hB he=>(k.obj B hB he).trans (h.obj B hB he),k.base.trans h.base,k.log.trans h.log⟩
theorem Rd.congr {α:Type}{v:Value}{e:Nat}{f:α->List Value}{es:List α}(h:Rd m v e f es)(hn:m.n<=m'.n)(k:∀B,blk v=some B->m'.obj B=m.obj B):Rd m' v e f es:=by
 refine⟨h.len,λi r hr=>?_,by rw[fX k];exact h.all,λB hB=>qha (h.lt B hB) hn⟩;obtain⟨h1,h2,h3⟩:=h.row i r hr;refine⟨h1,qha h2 hn,?_⟩;cases v with
 | slice a n c =>
  cases a with
  | none=>cases h1
  | some a =>
   rw[<-h3];unfold loads cellsOf;rw[show (adr e (.slice (some a) n c) i).block=a.block from rfl,k _ rfl]
 | _=>cases h1
end
@[simp] theorem qgq (e b:Nat) (zs:List Value) (l c:V) (x:Ex) (t:Tm) (m:M):zg e b zs l c x t m=gu e b zs (l t) (c t) m:=_root_.id rfl
@[simp] theorem qh3 (l:List (Nat × FP)) (x:FP) (i:Nat) (inc:List Nat):meets l x (i::inc)=((match vV i l with | some y=>FP.meet y x | none=>true)&&meets l x inc):=rfl
@[simp] theorem fpAt_nil (i:Nat):vV i []=none:=rfl
@[simp] theorem fpAt_cons (i j:Nat) (x:FP) (l:List (Nat × FP)):vV i ((j,x)::l)=if i=j then some x else vV i l:=by
 show (bif Nat.beq i j then some x else vV i l)=_
 by_cases h:i=j
 .subst h;rw[Nat.beq_refl,qhz rfl];rfl
 .rw[qhy h,gT h];rfl
@[simp] theorem meet_qq (a b:Option Nat):FP.meet ⟨a,[]⟩ ⟨b,[]⟩=true:=rfl
@[simp] theorem meet_rw (B C:Nat) (b:Option Nat):FP.meet ⟨some B,[]⟩ ⟨b,[C]⟩=!decide (B=C):=by
 show (!(Nat.beq B C||false))=_;by_cases h:B=C
 .subst h;simp[Nat.beq_refl]
 .rw[gT h];simp[h]
end Go.Dx
namespace Go.Sx
open Go.Dx
theorem qK {i:Nat}(h:i<9223372036854775807):IntKind.i64.wrap ((i:Int)+1)=((i+1:Nat):Int):=by rw[wrap64 _ (by omega) (by omega)];omega
theorem dlt {i n:Nat}(h:i<n):((i:Int)<n)=True:=qi1 (by omega)
end Go.Sx
namespace Go.Dx
theorem qd0 (n:Nat)(l:List Value):rep n l=(List.range n).flatMap λ_=>l:=by
 induction n with
 | zero=>rfl
 | succ n ih =>
  rw[List.range_succ_eq_map,List.flatMap_cons,List.flatMap_map];show l++rep n l=_;rw[ih]
theorem KS {e c:Nat}(B n i:Nat)(h:i<n):wJ e (.slice (some ⟨B,0,some c⟩) n n) (.int .i64 i)=some (.pointer (some ⟨B,i*e,none⟩)):=by
 show (bif Nat.blt i n then yO (i*e) ⟨B,0,some c⟩ else none)=_
 rw[show Nat.blt i n=true from qhd h];show some (Value.pointer (some ⟨B,0+i*e,none⟩))=_;rw[Nat.zero_add]
theorem jx {α:Type}{m:M}{B c e:Nat}{f:α->List Value}(hf:∀x,(f x).length=e){l:List α}(h:Arr m B (l.flatMap f))(hB:B<m.n):Rd m (.slice (some ⟨B,0,some c⟩) l.length l.length) e f l:=by
 have hlen:=wU hf l;refine⟨rfl,λi r hr=>?_,?_,λC hC=>by cases hC;exact hB⟩
 .have hi:=(qh7.1 hr).1;refine⟨?_,hB,?_⟩
  .rw[KS B _ i hi];show _=some (Value.pointer (some ⟨B,0+i*e,none⟩));rw[Nat.zero_add]
  .show loads m ⟨B,0+i*e,none⟩ e=_;have:=qhq e (Nat.succ_le_of_lt hi);rw[Nat.succ_mul]at this;rw[Nat.zero_add,h.loads (by omega),xy hf l i r hr]
 .show loads m _ (l.length*e)=_;rw[h.loads (by omega),List.drop_zero,<-hlen,List.take_length]
@[simp] theorem pConvI_ap (k:IntKind) (a:V) (t:Tm):xP k a t=Qe k (a t):=_root_.id rfl
@[simp] theorem yy (x:Nat) (h:x<1000000):Qe .u64 (.int .i64 (x:Int))=some (.int .u64 (x:Int)):=by
 show some (Value.int .u64 (xI .u64 (x:Int)))=_;rw[zC];have:IntKind.u64.wrap (x:Int)=(x:Int):=by
  unfold IntKind.wrap;simp[IntKind.bits,IntKind.signed];omega
 rw[this]
section
variable {m0 m m':M}{σ σ':List (Nat × List Value)}{k b:Nat}{l:List Value}
theorem St.sub (h:St m0 m σ)(hs:∀p∈σ',p∈σ)(hn:(σ'.map (·.1)).Nodup):St m0 m σ':=⟨h.ext,h.base,λp hp=>h.arr p (hs p hp),hn⟩
theorem Grown.low {α:Type}{m0 m0' m:M}{v:Value}{e:Nat}{f:α->List Value}{es:List α}(h:Grown m0 m v e f es)(hn:m0'.n<=m0.n):Grown m0' m v e f es:=by
 rcases h with h | ⟨B,h1,h2⟩
 .exact .inl h
 .exact .inr ⟨B,by omega,h2⟩
theorem St.fillAny (h:St m0 m σ)(k:Nat)(hk:σ[k]?=some (b,l)){n:Nat}{l':List Value}(hn0:0<n)(hl:l.length=n)(hl':l'.length=n)(hv:∀v∈l',okC v=true) :
  ∃m',ww n (.pointer (some ⟨b,0,none⟩)) (.agg ⟨l'⟩) (ql m)=some (undef,m')/\m'.log=[b]/\St m0 (Dx.behind m m') (σ.set k (b,l'))/\(Dx.behind m m').n=m.n/\(∀X,X≠b->(Dx.behind m m').obj X=m.obj X):=by
 obtain⟨h1,h2,h3⟩:=h.get k hk;have h3':Arr (ql m) b l:=h3.congr (qx m b);have e:=kQ (n:=n) (o:=0) (v:=.agg ⟨l'⟩) (l:=l') h3' rfl hl' (by omega) hv;obtain⟨s1,s2,s3,s4,s5,s6⟩:=wY (o:=0) (l:=l') h3' (by omega) hv;rw[kX (by omega)]at s2;have hlog:(jK (ql m) b 0 l').log=[b]:=by
  obtain⟨c,hc,hcl⟩:=h3';obtain⟨v0,vs,rfl⟩:∃v0 vs,l'=v0::vs:=by
   cases l' with
   | nil=>simp at hl';omega
   | cons a b=>exact⟨a,b,rfl⟩
  have:∃c',wQ (ql m) ⟨b,0,none⟩ (v0::vs)=some ((ql m).put b (.cells c')):=by
   have hs:wQ (ql m) ⟨b,0,none⟩ (v0::vs)=ob (fu ((ql m).obj b)) λc=>ob (stn c 0 (v0::vs)) λc'=>some ((ql m).put b (.cells c')):=rfl;rw[hs,hc];obtain⟨c',e',_⟩:=QV (vs:=v0::vs) (o:=0) hcl (by omega) hv;exact⟨c',by show ob (stn c 0 (v0::vs)) _=_;rw[e'];rfl⟩
  obtain⟨c',e'⟩:=this;have hp:jK (ql m) b 0 (v0::vs)=(ql m).put b (.cells c'):=by unfold jK;rw[e'];rfl
  rw[hp];cases m with | mk a nx bs wl =>
  show note nx b []=[b];have h2':b<nx:=h2;unfold note;have:Nat.ble nx b=false:=by
   cases q:Nat.ble nx b with
   | false=>rfl
   | true=>exact absurd (qhe q) (by omega)
  rw[this];rfl
 refine⟨_,e,hlog,h.put' k hk (by rw[wj,s3,qt]) (kC _ _) ?_ (λX hX=>by rw[qB,s5 X hX,qx]) (s2.congr (qB _ _ _)),by rw[wj,s3,qt],λX hX=>by rw[qB,s5 X hX,qx]⟩;rw[ku,hlog];refine yb λB hB=>?_;rw[qhc.1 hB,h.ext.base];have:=h.base;omega
end
@[simp] theorem eqFV_ap (neg:Bool) (ks:List Nat) (a b:List Value):eqFV neg ks (.agg ⟨a⟩) (.agg ⟨b⟩)=ob (kj ks a b) λr=>some (.bool (bif neg then !r else r)):=_root_.id rfl
theorem xh (ks:List Nat)(k:IntKind)(x:Int)(l r:List Value):kj (1::ks) (.int k x::l) (.int k x::r)=kj ks l r:=by
 have h:eqK 1 (.int k x) (.int k x)=some true:=by
  show (bif Nat.beq (ik k) (ik k) then some (eqI x x) else none)=_
  rw[Nat.beq_refl,jI];simp
 show ob (eqK 1 (.int k x) (.int k x)) _=_;rw[h];rfl
theorem Qh (l r:List Value):kj [] l r=some true:=rfl
end Go.Dx
namespace Go.Sx
open Go.Dx
theorem grown_low {α:Type}{m0 m:M}{v:Value}{e:Nat}{f:α->List Value}{es:List α}(h:Grown m0 m v e f es):∀B,blk v=some B->m0.n<=B/\B<m.n:=by
 rcases h with ⟨_,rfl⟩ | ⟨B',h1,h2,_,rfl,_⟩
 .intro B hB;cases hB
 .intro B hB;cases hB;exact⟨h1,h2⟩
theorem _root_.Go.Dx.Rd.okV {α:Type}{m:M}{v:Value}{e:Nat}{f:α->List Value}{es:List α}(h:Rd m v e f es):Dx.okC v=true:=by
 have:=h.len;cases v with
 | slice a n c=>rfl
 | _=>cases this
end Go.Sx
namespace Go.Dx
section
variable {m0 m m':M}{σ:List (Nat × List Value)}{k b:Nat}{l:List Value}
theorem St.keepOn (h:St m0 m σ)(e:Ext m0 m')(hn:m.n<=m'.n)(ho:∀p∈σ,m'.obj p.1=m.obj p.1):St m0 m' σ :=
 ⟨e,h.base,λp hp=>let ⟨h1,h2,h3⟩:=h.arr p hp;⟨h1,by omega,h3.congr (ho p hp)⟩,h.nd⟩
theorem St.fill (h:St m0 m σ)(k:Nat)(hk:σ[k]?=some (b,l)){n:Nat}{l':List Value}(hl:l.length=n)(hl':l'.length=n)(hv:∀v∈l',okC v=true) :
  ∃m',ww n (.pointer (some ⟨b,0,none⟩)) (.agg ⟨l'⟩) m=some (undef,m')/\St m0 m' (σ.set k (b,l'))/\m'.n=m.n/\∀X,X≠b->m'.obj X=m.obj X:=by
 obtain⟨h1,h2,h3⟩:=h.get k hk;have e:=kQ (n:=n) (o:=0) (v:=.agg ⟨l'⟩) (l:=l') h3 rfl hl' (by omega) hv;obtain⟨_,s2,s3,s4,s5,s6⟩:=wY (o:=0) (l:=l') h3 (by omega) hv;rw[kX (by omega)]at s2;exact⟨_,e,h.put' k hk s3 s4 (s6 (by have:=h.ext.base;have:=h.base;omega)) s5 s2,s3,s5⟩
end
theorem Grown.okC {α:Type}{m0 m:M}{v:Value}{e:Nat}{f:α->List Value}{es:List α}(h:Grown m0 m v e f es):Dx.okC v=true:=by
 rcases h with ⟨_,rfl⟩ | ⟨B,_,_,_,rfl,_⟩<;>rfl
theorem qZ {x:Ex}{g:Nat}{args:List Value}{m:M}{P:Value->M->Prop}(h:Dx.Call x g args (ql m) P):∃v m',x.f g args (ql m)=some (v,m')/\m'.log=[]/\Ext m (behind m m')/\P v m':=by
 obtain⟨v,m',h1,h2,h3⟩:=h;exact⟨v,m',h1,by rw[h2.log,wu],h2.behind,h3⟩
theorem Rd.behind {α:Type}{m m':M}{v:Value}{e:Nat}{f:α->List Value}{l:List α}(h:Rd m' v e f l):Rd (Dx.behind m m') v e f l:=h.congr (by rw[wj];exact qh8 _) λB _=>qB _ _ _
noncomputable section
structure GS {α:Type}(m0 m1 m:M)(P2 P3:Nat)(σ:List (Nat × List Value))(g:Value)(e:Nat)(f:α->List Value)(rows:List α):Prop where
 st:St m0 m σ
 rest:Go.Dx.Rest m1.n [P2,P3] m1 m
 low:∀p∈σ,p.1=P2\/p.1=P3\/m1.n<=p.1
 m01:m0.n<=m1.n
 m1b:m1.base<=m1.n
 gr:Grown m1 m g e f rows
 sep:∀B,blk g=some B->m1.n<=B/\B<m.n/\∀p∈σ,p.1≠B
section
variable {α:Type}{m0 m1 m m':M}{P2 P3:Nat}{σ σ':List (Nat × List Value)}{g:Value}{e:Nat}{f:α->List Value}{rows:List α}
theorem GS.step (h:GS m0 m1 m P2 P3 σ g e f rows)(k:Ext m m'):GS m0 m1 m' P2 P3 σ g e f rows :=
 ⟨h.st.step k,⟨qhh h.rest.n k.n,λB hB hx=>(k.obj B (qha hB h.rest.n)).trans (h.rest.obj B hB hx),k.base.trans h.rest.base,k.log.trans h.rest.log⟩,h.low,h.m01,h.m1b,h.gr.ext k,λB hB=>let ⟨a,b,c⟩:=h.sep B hB;⟨a,qha b k.n,c⟩⟩
theorem GS.sub (h:GS m0 m1 m P2 P3 σ g e f rows)(hs:∀p∈σ',p∈σ)(hn:(σ'.map (·.1)).Nodup):GS m0 m1 m P2 P3 σ' g e f rows :=
 ⟨h.st.sub hs hn,h.rest,λp hp=>h.low p (hs p hp),h.m01,h.m1b,h.gr,λB hB=>let ⟨a,b,c⟩:=h.sep B hB;⟨a,b,λp hp=>c p (hs p hp)⟩⟩
theorem GS.row (h:GS m0 m1 m P2 P3 σ g e f rows)(l:List Value):GS m0 m1 (newRow m l) P2 P3 ((m.n,l)::σ) g e f rows:=by
 have h':=h.step (Ext.row m l);refine⟨h.st.row l,h'.rest,λp hp=>?_,h.m01,h.m1b,h'.gr,λB hB=>?_⟩
 .rcases List.mem_cons.1 hp with rfl | hp
  .exact .inr (.inr h.rest.n)
  .exact h.low p hp
 .obtain⟨a,b,c⟩:=h.sep B hB;refine⟨a,by rw[wL];omega,λp hp=>?_⟩;rcases List.mem_cons.1 hp with rfl | hp
  .simp;omega
  .exact c p hp
theorem Ju {k b:Nat}{l l':List Value}(hk:σ[k]?=some (b,l)):(σ.set k (b,l')).map (·.1)=σ.map (·.1):=by
 obtain⟨hk',hke⟩:=qh7.1 hk;rw[List.map_set];show (σ.map (·.1)).set k b=_;refine List.ext_getElem (by simp) λi h1 h2=>?_;rw[List.getElem_set];split
 .subst_vars;simp[hke]
 .rfl
theorem vB {k b:Nat}{l l':List Value}(hk:σ[k]?=some (b,l)){p:Nat × List Value}(hp:p∈σ.set k (b,l')):∃q∈σ,q.1=p.1:=by
 have:p.1∈(σ.set k (b,l')).map (·.1):=List.mem_map.2 ⟨p,hp,rfl⟩;rw[Ju hk]at this;obtain⟨q,hq,e⟩:=List.mem_map.1 this;exact⟨q,hq,e⟩
theorem GS.put (h:GS m0 m1 m P2 P3 σ g e f rows){k b:Nat}{l l':List Value}(hk:σ[k]?=some (b,l))(s2:St m0 m' (σ.set k (b,l')))(s3:m'.n=m.n)(s4:∀X,X≠b->m'.obj X=m.obj X):GS m0 m1 m' P2 P3 (σ.set k (b,l')) g e f rows:=by
 have hb:=qh6 hk;refine⟨s2,⟨by rw[s3];exact h.rest.n,λB hB hx=>?_,by rw[s2.ext.base,<-h.st.ext.base];exact h.rest.base,by rw[s2.ext.log,<-h.st.ext.log];exact h.rest.log⟩,λp hp=>?_,h.m01,h.m1b,?_,λB hB=>?_⟩
 .rw[s4 B ?_];exact h.rest.obj B hB hx;rintro rfl;rcases h.low _ hb with e | e | e
  .simp at hx e;omega
  .simp at hx e;omega
  .simp at e;omega
 .obtain⟨q,hq,e⟩:=vB hk hp;rw[<-e];exact h.low q hq
 .exact h.gr.keep (by rw[s3];exact qh8 _) λB hB hg=>s4 B λe=>(h.sep B hg).2.2 _ hb e.symm
 .obtain⟨a,b',c⟩:=h.sep B hB;refine⟨a,by rw[s3];exact b',λp hp=>?_⟩;obtain⟨q,hq,e⟩:=vB hk hp;rw[<-e];exact c q hq
theorem GS.store (h:GS m0 m1 m P2 P3 σ g e f rows)(k:Nat){b o:Nat}{l:List Value}{v:Value}(hk:σ[k]?=some (b,l))(ho:o<l.length)(hv:okC v=true) :
  ∃m',ww 1 (.pointer (some ⟨b,o,none⟩)) v m=some (undef,m')/\GS m0 m1 m' P2 P3 (σ.set k (b,l.set o v)) g e f rows/\m'.n=m.n/\∀X,X≠b->m'.obj X=m.obj X:=by
 obtain⟨m',s1,s2,s3,s4⟩:=h.st.store k hk ho hv;exact⟨m',s1,h.put hk s2 s3 s4,s3,s4⟩
theorem GS.storeAny (h:GS m0 m1 m P2 P3 σ g e f rows)(k:Nat){b o:Nat}{l:List Value}{v:Value}(hk:σ[k]?=some (b,l))(ho:o<l.length)(hv:okC v=true) :
  ∃m',ww 1 (.pointer (some ⟨b,o,none⟩)) v (ql m)=some (undef,m')/\m'.log=[b]/\GS m0 m1 (behind m m') P2 P3 (σ.set k (b,l.set o v)) g e f rows/\(behind m m').n=m.n/\∀X,X≠b->(behind m m').obj X=m.obj X:=by
 obtain⟨m',s1,s1',s2,s3,s4⟩:=h.st.storeAny k hk ho hv;exact⟨m',s1,s1',h.put hk s2 s3 s4,s3,s4⟩
theorem GS.grow (h:GS m0 m1 m P2 P3 σ g e f rows){M1:M}(hM:Ext m M1){g':Value}{rows':List α}(n2:M1.n<=m'.n)(g2:Grown m1 m' g' e f rows')(eb:m'.base=m.base)(el:m'.log=m.log)(k2:∀B,B<M1.n->blk g≠some B->m'.obj B=M1.obj B)(b2:∀B,blk g'=some B->M1.n<=B):GS m0 m1 m' P2 P3 σ g' e f rows':=by
 have hMn:=hM.n;have keep:∀B,B<m.n->blk g≠some B->m'.obj B=m.obj B:=λB hB hg=>(k2 B (by omega) hg).trans (hM.obj B hB);have h01:=h.m01;have low:∀B,B<m1.n->blk g≠some B:=λB hB hg=>by have:=(h.sep B hg).1;omega
 have hr:=h.rest.n;refine⟨⟨⟨by have:=h.st.ext.n;omega,λB hB=>?_,by rw[eb,h.st.ext.base],by rw[el,h.st.ext.log]⟩,h.st.base,λp hp=>?_,h.st.nd⟩,⟨by omega,λB hB hx=>?_,by rw[eb,h.rest.base],by rw[el,h.rest.log]⟩,h.low,h.m01,h.m1b,g2,λB hB=>?_⟩
 .rw[keep B (by omega) (low B (by omega))];exact h.st.ext.obj B hB
 .obtain⟨a,b,c⟩:=h.st.arr p hp;exact⟨a,by omega,c.congr (keep p.1 b λhg=>(h.sep _ hg).2.2 p hp rfl)⟩
 .rw[keep B (by omega) (low B hB)];exact h.rest.obj B hB hx
 .have h1:=b2 B hB;have h2:=(Go.Sx.grown_low g2 B hB).2;exact⟨by omega,h2,λp hp=>by have:=(h.st.arr p hp).2.1;omega⟩
theorem GS.app (h:GS m0 m1 m P2 P3 σ g e f rows)(he:0<e)(hf:∀x,(f x).length=e)(hok:∀x,∀v∈f x,okC v=true){x:α}{M1:M}(hM:Ext m M1){X:Nat}{sp:Option Nat}(hx:loads M1 ⟨X,0,sp⟩ e=some (f x)){bytes:Nat}(hm:(rows.length+1)*bytes<=wk)(hn:rows.length+1<=4611686018427387904) :
  ∃v' m2,wZ M1 e bytes g (.slice (some ⟨X,0,sp⟩) 1 1)=some (v',m2)/\GS m0 m1 m2 P2 P3 σ v' e f (rows++[x])/\M1.n<=m2.n/\(∀B,B<m.n->blk g≠some B->m2.obj B=m.obj B)/\(∀B,blk v'=some B->M1.n<=B):=by
 have hMn:=hM.n;have hr:=h.rest.n;obtain⟨v',m2,h1,h2,h3,h4,h5,h6,h7⟩:=(h.gr.ext hM).core he hf hok hx (by omega) hm hn;refine⟨v',m2,h1,h.grow hM (by omega) h2 (by rw[h4,hM.base]) ?_ h6 h7,by omega,λB hB hg=>(h6 B (by omega) hg).trans (hM.obj B hB),h7⟩;rcases h5 with h5 | ⟨B,_,hB,h5⟩
 .rw[h5,hM.log]
 .have hb:=h.st.ext.base;have hb2:=h.st.base;have hb3:=h.st.ext.n;have hb4:=h.rest.base;rw[h5,gv (by rw[hM.base];have:=h.m1b;omega),hM.log]
theorem GS.done (h:GS m0 m1 m P2 P3 σ g e f rows)(hne:rows≠[]){β:Type}(e':Nat)(f':β->List Value):∃B,g=.slice (some ⟨B,0,some (code e false)⟩) rows.length rows.length/\m1.n<=B/\GS m0 m1 m P2 P3 ((B,rows.flatMap f)::σ) zS e' f' []:=by
 rcases h.gr with ⟨h1,_⟩ | ⟨B,h1,h2,h3,h4,h5⟩
 .exact absurd h1 hne
 .have hs:=(h.sep B (by rw[h4];rfl)).2.2;refine⟨B,h4,h1,⟨h.st.ext,h.st.base,λp hp=>?_,?_⟩,h.rest,λp hp=>?_,h.m01,h.m1b,.nil,λC hC=>by cases hC⟩
  .rcases List.mem_cons.1 hp with rfl | hp
   .exact⟨by have:=h.m01;omega,h2,h5⟩
   .exact h.st.arr p hp
  .rw[List.map_cons,List.nodup_cons];refine⟨λhm=>?_,h.st.nd⟩;obtain⟨p,hp,e⟩:=List.mem_map.1 hm;exact hs p hp e
  .rcases List.mem_cons.1 hp with rfl | hp
   .exact .inr (.inr h1)
   .exact h.low p hp
end
end
section
variable {α β:Type}{m0 m1 m m':M}{P2 P3:Nat}{σ:List (Nat × List Value)}{g:Value}{e e':Nat}{f:α->List Value}{f':β->List Value}{rows:List α}
end
def yN (P:Value->M->Prop):Option Out->Prop:=λo=>∃v m',ob o JQ=some (v,m')/\P v m'
theorem zM {P:Program}{g:Nat}{c:SC}{nt:Nat}{res:List RV}{n:Nat}{args:List Value}{m:M}{Q:Value->M->Prop}(hd:qI P g=some ⟨c,nt,res⟩)(ha:args.length<=nt)
  (h:yN Q (c (ex P n) (wN res) noK (wN res) (jk .blank 0 args) m)):∃v m',(ex P (n+1)).f g args m=some (v,m')/\Q v m':=by
 obtain⟨v,m',e,h2⟩:=h;exact⟨v,m',by rw[ex_f hd,fN _ _ _ _ _ _ ha];exact e,h2⟩
section
variable {α:Type}{m0 m1 m m':M}{P2 P3:Nat}{σ σ':List (Nat × List Value)}{g:Value}{e:Nat}{f:α->List Value}{rows:List α}
theorem GS.storeN (h:GS m0 m1 m P2 P3 σ g e f rows)(k:Nat){b o n:Nat}{l l':List Value}(hk:σ[k]?=some (b,l))(hl':l'.length=n)(hn:o+n<=l.length)(hv:∀v∈l',okC v=true) :
  ∃m',ww n (.pointer (some ⟨b,o,none⟩)) (.agg ⟨l'⟩) m=some (undef,m')/\GS m0 m1 m' P2 P3 (σ.set k (b,over l o l')) g e f rows/\m'.n=m.n/\∀X,X≠b->m'.obj X=m.obj X:=by
 obtain⟨h1,h2,h3⟩:=h.st.get k hk;have e:=kQ (n:=n) (o:=o) (v:=.agg ⟨l'⟩) (l:=l') h3 rfl hl' hn hv;obtain⟨_,s2,s3,s4,s5,s6⟩:=wY (o:=o) (l:=l') h3 (by omega) hv;have hs:=h.st.put' k hk s3 s4 (s6 (by have:=h.st.ext.base;have:=h.st.base;omega)) s5 s2;exact⟨_,e,h.put hk hs s3 s5,s3,s5⟩
end
section
variable {m0 m m':M}{σ:List (Nat × List Value)}{k b o:Nat}{l:List Value}
end
end Go.Dx
namespace Go.Sx
open Go.Dx
theorem ya {n e bytes:Nat}{zs:List Value}(hz:zs.length=e)(h1:n*e<=1048576)(h2:n*bytes<=wk)(h3:n<=4611686018427387904)(m:M):gu e bytes zs (.int .i64 (n:Int)) (.int .i64 (n:Int)) m=some (.slice (some ⟨m.n,0,some (code e true)⟩) n n,Dx.newRow m ((List.range n).flatMap λ_=>zs)):=by
 show (bif Nat.ble n n&&Nat.ble (n*bytes) wk&&Nat.ble n 4611686018427387904&&Nat.ble (n*e) 1048576 then some (Value.slice (some ⟨m.n,0,some (code e true)⟩) n n,Dx.newRow m (rep n zs)) else none)=_
 rw[qhd (qh8 n),qhd h2,qhd h3,qhd h1,qd0];rfl
theorem JL (n:Nd):(qv n).length=4:=rfl
end Go.Sx
