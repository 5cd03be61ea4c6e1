/- Contracts. -/
import Derived.Test.YtjoapkgigchboaaGreatGb3
import Derived.Test.YtjoapkgigchboaaGreatGa
import Derived.Laws.Bits64b
set_option linter.unusedVariables false
set_option linter.unusedSimpArgs false
set_option linter.defProp false
set_option maxHeartbeats 2000000
namespace Go.Dx
structure Rest (N:Nat)(ex:List Nat)(m m':M):Prop where
 n:m.n<=m'.n
 obj:∀B,B<N->B ∉ ex->m'.obj B=m.obj B
 base:m'.base=m.base
 log:m'.log=m.log
section
variable {N:Nat}{ex:List Nat}{a b c m m':M}
theorem Rest.refl:Rest N ex m m:=⟨qgg _,λ_ _ _=>rfl,rfl,rfl⟩
theorem Rest.trans (h:Rest N ex a b)(k:Rest N ex b c):Rest N ex a c:=⟨qgp h.n k.n,λB hB he=>(k.obj B hB he).trans (h.obj B hB he),k.base.trans h.base,k.log.trans h.log⟩
theorem Rd.congr {α:Type}{v:Value}{e:Nat}{f:α->List Value}{es:List α}(h:Rd m v e f es)(hn:m.n<=m'.n)(k:∀B,blk v=some B->m'.obj B=m.obj B):Rd m' v e f es:=by
 refine⟨h.len,λi r hr=>?_,by rw[bq k];exact h.all,λB hB=>qgi (h.lt B hB) hn⟩
 obtain⟨h1,h2,h3⟩:=h.row i r hr
 refine⟨h1,qgi h2 hn,?_⟩
 cases v with
 | slice a n c =>
  cases a with
  | none=>cases h1
  | some a =>
   rw[<-h3]
   unfold loads cellsOf
   rw[show (adr e (.slice (some a) n c) i).block=a.block from rfl,k _ rfl]
 | _=>cases h1
end
end Go.Dx
namespace Go.Dx
@[simp] theorem jk (l:List (Nat × FP)) (x:FP) (i:Nat) (inc:List Nat):meets l x (i::inc)=((match yS i l with | some y=>FP.meet y x | none=>true)&&meets l x inc):=rfl
@[simp] theorem fpAt_nil (i:Nat):yS i []=none:=rfl
@[simp] theorem fpAt_cons (i j:Nat) (x:FP) (l:List (Nat × FP)):yS i ((j,x)::l)=if i=j then some x else yS i l:=by
 show (bif Nat.beq i j then some x else yS i l)=_
 by_cases h:i=j
 .subst h;rw[Nat.beq_refl,if_pos rfl];rfl
 .rw[if_neg h,dl h];rfl
@[simp] theorem meet_qq (a b:Option Nat):FP.meet ⟨a,[]⟩ ⟨b,[]⟩=true:=rfl
@[simp] theorem meet_rw (B C:Nat) (b:Option Nat):FP.meet ⟨some B,[]⟩ ⟨b,[C]⟩=!decide (B=C):=by
 show (!(Nat.beq B C||false))=_
 by_cases h:B=C
 .subst h;simp[Nat.beq_refl]
 .rw[dl h];simp[h]
end Go.Dx
namespace Go.Sx
open Go.Dx
theorem qY {i:Nat}(h:i<9223372036854775807):IntKind.i64.wrap ((i:Int)+1)=((i+1:Nat):Int):=by rw[wrap64 _ (by omega) (by omega)];omega
theorem dlt {i n:Nat}(h:i<n):((i:Int)<n)=True:=eq_true (by omega)
end Go.Sx
namespace Go.Dx
def upN {α:Type}(f:Nat->α)(j:Nat)(v:α):Nat->α:=λk=>if k=j then v else f k
theorem xa {α:Type}(f:Nat->α)(j:Nat)(v:α):upN f j v j=v:=by unfold upN;rw[if_pos rfl]
theorem yE {α:Type}(f:Nat->α){j k:Nat}(v:α)(h:k≠j):upN f j v k=f k:=by unfold upN;rw[if_neg h]
theorem wx {e c:Nat}(B n i:Nat)(h:i<n):jU e (.slice (some ⟨B,0,some c⟩) n n) (.int .i64 i)=some (.pointer (some ⟨B,i*e,none⟩)):=by
 show (bif Nat.blt i n then gS (i*e) ⟨B,0,some c⟩ else none)=_
 rw[show Nat.blt i n=true from qgl h]
 show some (Value.pointer (some ⟨B,0+i*e,none⟩))=_
 rw[Nat.zero_add]
@[simp] theorem pConvI_ap (k:IntKind) (a:V) (t:Tm):kT k a t=xH k (a t):=_root_.id rfl
end Go.Dx
namespace Go.Dx
section
variable {m0 m m':M}{σ σ':List (Nat × List Value)}{k b:Nat}{l:List Value}
theorem St.sub (h:St m0 m σ)(hs:∀p∈σ',p∈σ)(hn:(σ'.map (·.1)).Nodup):St m0 m σ':=⟨h.ext,h.base,λp hp=>h.arr p (hs p hp),hn⟩
theorem Grown.low {α:Type}{m0 m0' m:M}{v:Value}{e:Nat}{f:α->List Value}{es:List α}(h:Grown m0 m v e f es)(hn:m0'.n<=m0.n):Grown m0' m v e f es:=by
 rcases h with h | ⟨B,h1,h2⟩
 .exact .inl h
 .exact .inr ⟨B,by omega,h2⟩
theorem St.fillAny (h:St m0 m σ)(k:Nat)(hk:σ[k]?=some (b,l)){n:Nat}{l':List Value}(hn0:0<n)(hl:l.length=n)(hl':l'.length=n)(hv:∀v∈l',okC v=true) :
  ∃m',qB n (.pointer (some ⟨b,0,none⟩)) (.agg ⟨l'⟩) (qg m)=some (undef,m')/\m'.log=[b]/\St m0 (Dx.behind m m') (σ.set k (b,l'))/\(Dx.behind m m').n=m.n/\(∀X,X≠b->(Dx.behind m m').obj X=m.obj X):=by
 obtain⟨h1,h2,h3⟩:=h.get k hk
 have h3':Arr (qg m) b l:=h3.congr (qw m b)
 have e:=kX (n:=n) (o:=0) (v:=.agg ⟨l'⟩) (l:=l') h3' rfl hl' (by omega) hv
 obtain⟨s1,s2,s3,s4,s5,s6⟩:=kg (o:=0) (l:=l') h3' (by omega) hv
 rw[ya (by omega)]at s2
 have hlog:(xf (qg m) b 0 l').log=[b]:=by
  obtain⟨c,hc,hcl⟩:=h3'
  obtain⟨v0,vs,rfl⟩:∃v0 vs,l'=v0::vs:=by
   cases l' with
   | nil=>simp at hl';omega
   | cons a b=>exact⟨a,b,rfl⟩
  have:∃c',stores (qg m) ⟨b,0,none⟩ (v0::vs)=some ((qg m).put b (.cells c')):=by
   have hs:stores (qg m) ⟨b,0,none⟩ (v0::vs)=ob (yy ((qg m).obj b)) λc=>ob (stn c 0 (v0::vs)) λc'=>some ((qg m).put b (.cells c')):=rfl
   rw[hs,hc]
   obtain⟨c',e',_⟩:=Qa (vs:=v0::vs) (o:=0) hcl (by omega) hv
   exact⟨c',by show ob (stn c 0 (v0::vs)) _=_;rw[e'];rfl⟩
  obtain⟨c',e'⟩:=this
  have hp:xf (qg m) b 0 (v0::vs)=(qg m).put b (.cells c'):=by unfold xf;rw[e'];rfl
  rw[hp]
  cases m with | mk a nx bs wl =>
  show note nx b []=[b]
  have h2':b<nx:=h2
  unfold note
  have:Nat.ble nx b=false:=by
   cases q:Nat.ble nx b with
   | false=>rfl
   | true=>exact absurd (qgm q) (by omega)
  rw[this];rfl
 refine⟨_,e,hlog,h.put' k hk (by rw[wg,s3,qq]) (kZ _ _) ?_ (λX hX=>by rw[qz,s5 X hX,qw]) (s2.congr (qz _ _ _)),by rw[wg,s3,qq],λX hX=>by rw[qz,s5 X hX,qw]⟩
 rw[zd,hlog]
 refine fg λB hB=>?_
 rw[qgk.1 hB,h.ext.base]
 have:=h.base
 omega
end
end Go.Dx
namespace Go.Dx
end Go.Dx
namespace Go.Sx
open Go.Dx
theorem grown_low {α:Type}{m0 m:M}{v:Value}{e:Nat}{f:α->List Value}{es:List α}(h:Grown m0 m v e f es):∀B,blk v=some B->m0.n<=B/\B<m.n:=by
 rcases h with ⟨_,rfl⟩ | ⟨B',h1,h2,_,rfl,_⟩
 .intro B hB;cases hB
 .intro B hB;cases hB;exact⟨h1,h2⟩
theorem _root_.Go.Dx.Rd.okV {α:Type}{m:M}{v:Value}{e:Nat}{f:α->List Value}{es:List α}(h:Rd m v e f es):Dx.okC v=true:=by
 have:=h.len
 cases v with
 | slice a n c=>rfl
 | _=>cases this
end Go.Sx
namespace Go.Dx
section
variable {m0 m m':M}{σ:List (Nat × List Value)}{k b:Nat}{l:List Value}
theorem St.fill (h:St m0 m σ)(k:Nat)(hk:σ[k]?=some (b,l)){n:Nat}{l':List Value}(hl:l.length=n)(hl':l'.length=n)(hv:∀v∈l',okC v=true) :
  ∃m',qB n (.pointer (some ⟨b,0,none⟩)) (.agg ⟨l'⟩) m=some (undef,m')/\St m0 m' (σ.set k (b,l'))/\m'.n=m.n/\∀X,X≠b->m'.obj X=m.obj X:=by
 obtain⟨h1,h2,h3⟩:=h.get k hk
 have e:=kX (n:=n) (o:=0) (v:=.agg ⟨l'⟩) (l:=l') h3 rfl hl' (by omega) hv
 obtain⟨_,s2,s3,s4,s5,s6⟩:=kg (o:=0) (l:=l') h3 (by omega) hv
 rw[ya (by omega)]at s2
 exact⟨_,e,h.put' k hk s3 s4 (s6 (by have:=h.ext.base;have:=h.base;omega)) s5 s2,s3,s5⟩
end
theorem Grown.okC {α:Type}{m0 m:M}{v:Value}{e:Nat}{f:α->List Value}{es:List α}(h:Grown m0 m v e f es):Dx.okC v=true:=by
 rcases h with ⟨_,rfl⟩ | ⟨B,_,_,_,rfl,_⟩<;>rfl
theorem Vd {α:Type}{m:M}{v:Value}{e:Nat}{f:α->List Value}{es:List α}(h:Rd m v e f es)(bytes:Nat)(hb:es.length*bytes<=most)(hn:es.length<=4611686018427387904) :
  ∃v' m',wZ m e bytes zS v=some (v',m')/\Ext m m'/\Grown m m' v' e f es:=by
 have e0:wZ m e bytes zS v=QV m e bytes 0 0 es.length none (es.flatMap f):=by
  show ob (lenV v) _=_
  rw[h.lenV,qN]
  show ob (zh m e es.length v) _=_
  rw[h.all,qN]
 rw[e0]
 unfold QV
 by_cases hz:es=[]
 .subst hz
  exact⟨_,_,rfl,Ext.refl m,.nil⟩
 .have hpos:=qh0.2 hz
  have h1:Nat.ble (0+es.length) 0=false:=by
   cases q:Nat.ble (0+es.length) 0 with
   | false=>rfl
   | true=>have:=qgm q;omega
  rw[h1,cond_false,Nat.zero_add,qgl hb,qgl hn]
  refine⟨.slice (some ⟨m.n,0,some (code e false)⟩) es.length es.length,newRow m (es.flatMap f),rfl,Ext.row m _,.inr ⟨m.n,qgg _,by rw[qQ];omega,hz,rfl,Arr.row m _⟩⟩
@[simp] theorem qg2 (a b:Int):wN [zI,zI] [(0,1,.int .i64 a),(1,1,.int .i64 b)]=some (.agg ⟨[.int .i64 a,.int .i64 b]⟩):=_root_.id rfl
end Go.Dx
namespace Go.Dx
theorem qm {x:Ex}{g:Nat}{args:List Value}{m:M}{P:Value->M->Prop}(h:Dx.Call x g args (qg m) P):∃v m',x.f g args (qg m)=some (v,m')/\m'.log=[]/\Ext m (behind m m')/\P v m':=by
 obtain⟨v,m',h1,h2,h3⟩:=h
 exact⟨v,m',h1,by rw[h2.log,wU],h2.behind,h3⟩
theorem Rd.behind {α:Type}{m m':M}{v:Value}{e:Nat}{f:α->List Value}{l:List α}(h:Rd m' v e f l):Rd (Dx.behind m m') v e f l:=h.congr (by rw[wg];exact qgg _) λB _=>qz _ _ _
end Go.Dx
namespace Go.Dx
noncomputable section
structure GS {α:Type}(m0 m1 m:M)(P2 P3:Nat)(σ:List (Nat × List Value))(g:Value)(e:Nat)(f:α->List Value)(rows:List α):Prop where
 st:St m0 m σ
 rest:Go.Dx.Rest m1.n [P2,P3] m1 m
 low:∀p∈σ,p.1=P2\/p.1=P3\/m1.n<=p.1
 m01:m0.n<=m1.n
 m1b:m1.base<=m1.n
 gr:Grown m1 m g e f rows
 sep:∀B,blk g=some B->m1.n<=B/\B<m.n/\∀p∈σ,p.1≠B
section
variable {α:Type}{m0 m1 m m':M}{P2 P3:Nat}{σ σ':List (Nat × List Value)}{g:Value}{e:Nat}{f:α->List Value}{rows:List α}
theorem GS.step (h:GS m0 m1 m P2 P3 σ g e f rows)(k:Ext m m'):GS m0 m1 m' P2 P3 σ g e f rows :=
 ⟨h.st.step k,⟨qgp h.rest.n k.n,λB hB hx=>(k.obj B (qgi hB h.rest.n)).trans (h.rest.obj B hB hx),k.base.trans h.rest.base,k.log.trans h.rest.log⟩,h.low,h.m01,h.m1b,h.gr.ext k,λB hB=>let ⟨a,b,c⟩:=h.sep B hB;⟨a,qgi b k.n,c⟩⟩
theorem GS.sub (h:GS m0 m1 m P2 P3 σ g e f rows)(hs:∀p∈σ',p∈σ)(hn:(σ'.map (·.1)).Nodup):GS m0 m1 m P2 P3 σ' g e f rows :=
 ⟨h.st.sub hs hn,h.rest,λp hp=>h.low p (hs p hp),h.m01,h.m1b,h.gr,λB hB=>let ⟨a,b,c⟩:=h.sep B hB;⟨a,b,λp hp=>c p (hs p hp)⟩⟩
theorem GS.row (h:GS m0 m1 m P2 P3 σ g e f rows)(l:List Value):GS m0 m1 (newRow m l) P2 P3 ((m.n,l)::σ) g e f rows:=by
 have h':=h.step (Ext.row m l)
 refine⟨h.st.row l,h'.rest,λp hp=>?_,h.m01,h.m1b,h'.gr,λB hB=>?_⟩
 .rcases List.mem_cons.1 hp with rfl | hp
  .exact .inr (.inr h.rest.n)
  .exact h.low p hp
 .obtain⟨a,b,c⟩:=h.sep B hB
  refine⟨a,by rw[qQ];omega,λp hp=>?_⟩
  rcases List.mem_cons.1 hp with rfl | hp
  .simp;omega
  .exact c p hp
theorem qb3 {k b:Nat}{l l':List Value}(hk:σ[k]?=some (b,l)):(σ.set k (b,l')).map (·.1)=σ.map (·.1):=by
 obtain⟨hk',hke⟩:=qgf.1 hk
 rw[List.map_set]
 show (σ.map (·.1)).set k b=_
 refine List.ext_getElem (by simp) λi h1 h2=>?_
 rw[List.getElem_set]
 split
 .subst_vars;simp[hke]
 .rfl
theorem YY {k b:Nat}{l l':List Value}(hk:σ[k]?=some (b,l)){p:Nat × List Value}(hp:p∈σ.set k (b,l')):∃q∈σ,q.1=p.1:=by
 have:p.1∈(σ.set k (b,l')).map (·.1):=List.mem_map.2 ⟨p,hp,rfl⟩
 rw[qb3 hk]at this
 obtain⟨q,hq,e⟩:=List.mem_map.1 this
 exact⟨q,hq,e⟩
theorem GS.put (h:GS m0 m1 m P2 P3 σ g e f rows){k b:Nat}{l l':List Value}(hk:σ[k]?=some (b,l))(s2:St m0 m' (σ.set k (b,l')))(s3:m'.n=m.n)(s4:∀X,X≠b->m'.obj X=m.obj X):GS m0 m1 m' P2 P3 (σ.set k (b,l')) g e f rows:=by
 have hb:=qge hk
 refine⟨s2,⟨by rw[s3];exact h.rest.n,λB hB hx=>?_,by rw[s2.ext.base,<-h.st.ext.base];exact h.rest.base,by rw[s2.ext.log,<-h.st.ext.log];exact h.rest.log⟩,λp hp=>?_,h.m01,h.m1b,?_,λB hB=>?_⟩
 .rw[s4 B ?_];exact h.rest.obj B hB hx
  rintro rfl
  rcases h.low _ hb with e | e | e
  .simp at hx e;omega
  .simp at hx e;omega
  .simp at e;omega
 .obtain⟨q,hq,e⟩:=YY hk hp
  rw[<-e];exact h.low q hq
 .exact h.gr.keep (by rw[s3];exact qgg _) λB hB hg=>s4 B λe=>(h.sep B hg).2.2 _ hb e.symm
 .obtain⟨a,b',c⟩:=h.sep B hB
  refine⟨a,by rw[s3];exact b',λp hp=>?_⟩
  obtain⟨q,hq,e⟩:=YY hk hp
  rw[<-e];exact c q hq
theorem GS.store (h:GS m0 m1 m P2 P3 σ g e f rows)(k:Nat){b o:Nat}{l:List Value}{v:Value}(hk:σ[k]?=some (b,l))(ho:o<l.length)(hv:okC v=true) :
  ∃m',qB 1 (.pointer (some ⟨b,o,none⟩)) v m=some (undef,m')/\GS m0 m1 m' P2 P3 (σ.set k (b,l.set o v)) g e f rows/\m'.n=m.n/\∀X,X≠b->m'.obj X=m.obj X:=by
 obtain⟨m',s1,s2,s3,s4⟩:=h.st.store k hk ho hv
 exact⟨m',s1,h.put hk s2 s3 s4,s3,s4⟩
theorem GS.storeAny (h:GS m0 m1 m P2 P3 σ g e f rows)(k:Nat){b o:Nat}{l:List Value}{v:Value}(hk:σ[k]?=some (b,l))(ho:o<l.length)(hv:okC v=true) :
  ∃m',qB 1 (.pointer (some ⟨b,o,none⟩)) v (qg m)=some (undef,m')/\m'.log=[b]/\GS m0 m1 (behind m m') P2 P3 (σ.set k (b,l.set o v)) g e f rows/\(behind m m').n=m.n/\∀X,X≠b->(behind m m').obj X=m.obj X:=by
 obtain⟨m',s1,s1',s2,s3,s4⟩:=h.st.storeAny k hk ho hv
 exact⟨m',s1,s1',h.put hk s2 s3 s4,s3,s4⟩
theorem GS.grow (h:GS m0 m1 m P2 P3 σ g e f rows){M1:M}(hM:Ext m M1){g':Value}{rows':List α}(n2:M1.n<=m'.n)(g2:Grown m1 m' g' e f rows')(eb:m'.base=m.base)(el:m'.log=m.log)(k2:∀B,B<M1.n->blk g≠some B->m'.obj B=M1.obj B)(b2:∀B,blk g'=some B->M1.n<=B):GS m0 m1 m' P2 P3 σ g' e f rows':=by
 have hMn:=hM.n
 have keep:∀B,B<m.n->blk g≠some B->m'.obj B=m.obj B:=λB hB hg=>(k2 B (by omega) hg).trans (hM.obj B hB)
 have h01:=h.m01
 have low:∀B,B<m1.n->blk g≠some B:=λB hB hg=>by have:=(h.sep B hg).1;omega
 have hr:=h.rest.n
 refine⟨⟨⟨by have:=h.st.ext.n;omega,λB hB=>?_,by rw[eb,h.st.ext.base],by rw[el,h.st.ext.log]⟩,h.st.base,λp hp=>?_,h.st.nd⟩,⟨by omega,λB hB hx=>?_,by rw[eb,h.rest.base],by rw[el,h.rest.log]⟩,h.low,h.m01,h.m1b,g2,λB hB=>?_⟩
 .rw[keep B (by omega) (low B (by omega))];exact h.st.ext.obj B hB
 .obtain⟨a,b,c⟩:=h.st.arr p hp
  exact⟨a,by omega,c.congr (keep p.1 b λhg=>(h.sep _ hg).2.2 p hp rfl)⟩
 .rw[keep B (by omega) (low B hB)];exact h.rest.obj B hB hx
 .have h1:=b2 B hB
  have h2:=(Go.Sx.grown_low g2 B hB).2
  exact⟨by omega,h2,λp hp=>by have:=(h.st.arr p hp).2.1;omega⟩
theorem GS.app (h:GS m0 m1 m P2 P3 σ g e f rows)(he:0<e)(hf:∀x,(f x).length=e)(hok:∀x,∀v∈f x,okC v=true){x:α}{M1:M}(hM:Ext m M1){X:Nat}{sp:Option Nat}(hx:loads M1 ⟨X,0,sp⟩ e=some (f x)){bytes:Nat}(hm:(rows.length+1)*bytes<=most)(hn:rows.length+1<=4611686018427387904) :
  ∃v' m2,wZ M1 e bytes g (.slice (some ⟨X,0,sp⟩) 1 1)=some (v',m2)/\GS m0 m1 m2 P2 P3 σ v' e f (rows++[x])/\M1.n<=m2.n/\(∀B,B<m.n->blk g≠some B->m2.obj B=m.obj B)/\(∀B,blk v'=some B->M1.n<=B):=by
 have hMn:=hM.n
 have hr:=h.rest.n
 obtain⟨v',m2,h1,h2,h3,h4,h5,h6,h7⟩:=(h.gr.ext hM).core he hf hok hx (by omega) hm hn
 refine⟨v',m2,h1,h.grow hM (by omega) h2 (by rw[h4,hM.base]) ?_ h6 h7,by omega,λB hB hg=>(h6 B (by omega) hg).trans (hM.obj B hB),h7⟩
 rcases h5 with h5 | ⟨B,_,hB,h5⟩
 .rw[h5,hM.log]
 .have hb:=h.st.ext.base
  have hb2:=h.st.base
  have hb3:=h.st.ext.n
  have hb4:=h.rest.base
  rw[h5,fL (by rw[hM.base];have:=h.m1b;omega),hM.log]
theorem GS.appAny (h:GS m0 m1 m P2 P3 σ g e f rows)(he:0<e)(hf:∀x,(f x).length=e)(hok:∀x,∀v∈f x,okC v=true){x:α}{M1:M}(hM:Ext m M1){X:Nat}{sp:Option Nat}(hx:loads M1 ⟨X,0,sp⟩ e=some (f x)){bytes:Nat}(hm:(rows.length+1)*bytes<=most)(hn:rows.length+1<=4611686018427387904) :
  ∃v' m2,wZ (qg M1) e bytes g (.slice (some ⟨X,0,sp⟩) 1 1)=some (v',m2)/\(m2.log=[]\/∃B,blk g=some B/\m2.log=[B])/\GS m0 m1 (behind M1 m2) P2 P3 σ v' e f (rows++[x])/\M1.n<=(behind M1 m2).n/\(∀B,B<m.n->blk g≠some B->(behind M1 m2).obj B=m.obj B)/\(∀B,blk v'=some B->M1.n<=B):=by
 have hMn:=hM.n
 have hr:=h.rest.n
 have hA:Grown m1 (qg M1) g e f rows:=(h.gr.ext hM).keep (by rw[qq];exact qgg _) λB _ _=>qw _ _
 have hx':loads (qg M1) ⟨X,0,sp⟩ e=some (f x):=by rw[GD];exact hx
 obtain⟨v',m2,h1,h2,h3,h4,h5,h6,h7⟩:=hA.core he hf hok hx' (by rw[qq];omega) hm hn
 rw[qq]at h3 h6 h7
 have hlog:m2.log=[]\/∃B,blk g=some B/\m2.log=[B]:=by
  rcases h5 with h5 | ⟨B,hB,_,h5⟩
  .exact .inl (by rw[h5,wU])
  .refine .inr ⟨B,hB,?_⟩
   rw[h5,wS,wU]
   have:=(h.sep B hB).2.1
   unfold note
   have h':Nat.ble M1.n B=false:=by
    cases q:Nat.ble M1.n B with
    | false=>rfl
    | true=>exact absurd (qgm q) (by omega)
   rw[h'];rfl
 have k6:∀B,B<M1.n->blk g≠some B->(behind M1 m2).obj B=M1.obj B:=λB hB hg=>by rw[qz,h6 B hB hg,qw]
 refine⟨v',m2,h1,hlog,h.grow hM (by rw[wg];omega) (h2.keep (by rw[wg];exact qgg _) λB _ _=>qz _ _ _) (by rw[kZ,hM.base]) ?_ k6 h7,by rw[wg];omega,λB hB hg=>(k6 B (by omega) hg).trans (hM.obj B hB),h7⟩
 rw[zd,<-hM.log]
 rcases hlog with h' | ⟨B,hB,h'⟩
 .rw[h'];rfl
 .rw[h']
  have:=(h.sep B hB).1
  have hb4:=h.rest.base
  show notes M1.base (note M1.base B M1.log) []=M1.log
  rw[fL (by rw[hM.base,hb4];have:=h.m1b;omega)];rfl
theorem GS.done (h:GS m0 m1 m P2 P3 σ g e f rows)(hne:rows≠[]){β:Type}(e':Nat)(f':β->List Value):∃B,g=.slice (some ⟨B,0,some (code e false)⟩) rows.length rows.length/\m1.n<=B/\GS m0 m1 m P2 P3 ((B,rows.flatMap f)::σ) zS e' f' []:=by
 rcases h.gr with ⟨h1,_⟩ | ⟨B,h1,h2,h3,h4,h5⟩
 .exact absurd h1 hne
 .have hs:=(h.sep B (by rw[h4];rfl)).2.2
  refine⟨B,h4,h1,⟨h.st.ext,h.st.base,λp hp=>?_,?_⟩,h.rest,λp hp=>?_,h.m01,h.m1b,.nil,λC hC=>by cases hC⟩
  .rcases List.mem_cons.1 hp with rfl | hp
   .exact⟨by have:=h.m01;omega,h2,h5⟩
   .exact h.st.arr p hp
  .rw[List.map_cons,List.nodup_cons]
   refine⟨λhm=>?_,h.st.nd⟩
   obtain⟨p,hp,e⟩:=List.mem_map.1 hm
   exact hs p hp e
  .rcases List.mem_cons.1 hp with rfl | hp
   .exact .inr (.inr h1)
   .exact h.low p hp
end
end
end Go.Dx
namespace Go.Dx
section
variable {α β:Type}{m0 m1 m m':M}{P2 P3:Nat}{σ:List (Nat × List Value)}{g:Value}{e e':Nat}{f:α->List Value}{f':β->List Value}{rows:List α}
end
end Go.Dx
namespace Go.Dx
def zH (P:Value->M->Prop):Option Out->Prop:=λo=>∃v m',ob o VT=some (v,m')/\P v m'
theorem qA {P:Program}{g:Nat}{c:SC}{nt:Nat}{res:List RV}{n:Nat}{args:List Value}{m:M}{Q:Value->M->Prop}(hd:qS P g=some ⟨c,nt,res⟩)(ha:args.length<=nt)
  (h:zH Q (c (ex P n) (kQ res) noK (kQ res) (vg .blank 0 args) m)):∃v m',(ex P (n+1)).f g args m=some (v,m')/\Q v m':=by
 obtain⟨v,m',e,h2⟩:=h
 exact⟨v,m',by rw[ex_f hd,Wd _ _ _ _ _ _ ha];exact e,h2⟩
theorem zp {m:M}{Q:Value->M->Prop}{t:Tm}(hq:Q (gL []) m):zH Q (kQ [] t m):=by
 refine⟨gL [],m,?_,hq⟩
 rw[bV,show gK t m []=some [] from rfl,qN,bp]
section
variable {α:Type}{m0 m1 m m':M}{P2 P3:Nat}{σ σ':List (Nat × List Value)}{g:Value}{e:Nat}{f:α->List Value}{rows:List α}
theorem GS.storeN (h:GS m0 m1 m P2 P3 σ g e f rows)(k:Nat){b o n:Nat}{l l':List Value}(hk:σ[k]?=some (b,l))(hl':l'.length=n)(hn:o+n<=l.length)(hv:∀v∈l',okC v=true) :
  ∃m',qB n (.pointer (some ⟨b,o,none⟩)) (.agg ⟨l'⟩) m=some (undef,m')/\GS m0 m1 m' P2 P3 (σ.set k (b,over l o l')) g e f rows/\m'.n=m.n/\∀X,X≠b->m'.obj X=m.obj X:=by
 obtain⟨h1,h2,h3⟩:=h.st.get k hk
 have e:=kX (n:=n) (o:=o) (v:=.agg ⟨l'⟩) (l:=l') h3 rfl hl' hn hv
 obtain⟨_,s2,s3,s4,s5,s6⟩:=kg (o:=o) (l:=l') h3 (by omega) hv
 have hs:=h.st.put' k hk s3 s4 (s6 (by have:=h.st.ext.base;have:=h.st.base;omega)) s5 s2
 exact⟨_,e,h.put hk hs s3 s5,s3,s5⟩
end
end Go.Dx
namespace Go.Dx
section
variable {m0 m m':M}{σ:List (Nat × List Value)}{k b o:Nat}{l:List Value}
end
end Go.Dx
namespace Go.Sx
open Go.Dx
theorem xy {a b:Nat}(hb:0<b)(ha:a<9223372036854775808):ky .quo (.int .i64 a) (.int .i64 b)=some (.int .i64 ((a/b:Nat):Int)):=by
 rw[wW]
 show zV (Op.intDiv .quo .i64 (a:Int) (b:Int))=_
 unfold Op.intDiv
 rw[if_neg (by omega)]
 have e:(a:Int).tdiv (b:Int)=((a/b:Nat):Int):=by rw[Int.ofNat_tdiv]
 have h2:a/b<=a:=Nat.div_le_self a b
 show some (Value.int _ (IntKind.i64.wrap ((a:Int).tdiv b)))=_
 rw[e]
 generalize a/b=c at h2
 rw[wrap64 _ (by omega) (by omega)]
end Go.Sx
namespace Go.Dx
open Go.RowKit
abbrev uv (n:Nat):Value:=.int .u64 (n:Int)
theorem WC (op:BinOp)(a b:Int)(r:Int)(h:bits op .u64 a b=r)(ho:op=.and\/op=.or\/op=.xor):JY op .u64 a b=some (.int .u64 r):=by
 rcases ho with rfl | rfl | rfl<;>(subst h;rfl)
theorem XU {a b:Nat}(ha:a<18446744073709551616)(hb:b<18446744073709551616):ky .and (uv a) (uv b)=some (uv (a &&& b)):=by
 rw[wW];exact WC .and _ _ _ (bits_and_u64_nat a b ha hb) (.inl rfl)
theorem u_or {a b:Nat}(ha:a<18446744073709551616)(hb:b<18446744073709551616):ky .or (uv a) (uv b)=some (uv (a|||b)):=by
 rw[wW];exact WC .or _ _ _ (bits_or_u64_nat a b ha hb) (.inr (.inl rfl))
theorem Zm {a b:Nat}(ha:a<18446744073709551616)(hb:b<18446744073709551616):ky .xor (uv a) (uv b)=some (uv (a ^^^ b)):=by
 rw[wW];exact WC .xor _ _ _ (bits_xor_u64_nat a b ha hb) (.inr (.inr rfl))
theorem qd5 (a b:Nat):ky .add (uv a) (uv b)=some (uv ((a+b)%18446744073709551616)):=by
 rw[zN,IntKind.wrap_u64];congr 2
theorem qd8 {a b:Nat}(ha:a<18446744073709551616)(hb:b<18446744073709551616):ky .sub (uv a) (uv b)=some (uv ((a+(18446744073709551616-b))%18446744073709551616)):=by
 rw[zO,IntKind.wrap_u64];congr 2;omega
theorem u_mul (a b:Nat):ky .mul (uv a) (uv b)=some (uv (a*b%18446744073709551616)):=by
 rw[wW]
 show some (Value.int .u64 (yj .u64 ((a:Int)*b)))=_
 rw[jD,IntKind.wrap_u64];congr 2
theorem u_rem {a b:Nat}(hb:0<b):ky .rem (uv a) (uv b)=some (uv (a%b)):=by
 rw[wW]
 show zV (Op.intDiv .rem .u64 (a:Int) (b:Int))=_
 unfold Op.intDiv
 rw[if_neg (by omega)]
 have e:(a:Int).tmod (b:Int)=((a%b:Nat):Int):=by rw[Int.ofNat_tmod]
 show some (Value.int _ ((a:Int).tmod b))=_
 rw[e]
theorem qd7 {a s:Nat}(hs:s<64):shV .shl (uv a) (uv s)=some (uv (a*2^s%18446744073709551616)):=by
 show zV (Op.shift .shl .u64 (a:Int) .u64 (s:Int))=_
 unfold Op.shift
 rw[if_neg (by omega)]
 show some (Value.int .u64 (IntKind.u64.wrap ((a:Int)*2^(min (Int.toNat (s:Int)) 64))))=_
 rw[qgr,Nat.min_eq_left (by omega),IntKind.wrap_u64]
 congr 2
theorem Kd {a s:Nat}(hs:s<64):shV .shr (uv a) (uv s)=some (uv (a/2^s)):=by
 show zV (Op.shift .shr .u64 (a:Int) .u64 (s:Int))=_
 unfold Op.shift
 rw[if_neg (by omega)]
 show some (Value.int .u64 ((a:Int).fdiv (2^(min (Int.toNat (s:Int)) 64))))=_
 rw[qgr,Nat.min_eq_left (by omega)]
 congr 2
 rw[show ((2:Int)^s)=((2^s:Nat):Int) by push_cast;rfl,Int.ofNat_fdiv]
theorem u_not {a:Nat}(ha:a<18446744073709551616):unV .xor (uv a)=some (uv (18446744073709551615-a)):=by
 show zV (Op.intBits .xor .u64 18446744073709551615 (a:Int))=_
 have h:=bits_xor_u64_nat 18446744073709551615 a (by omega) ha
 have e:zV (Op.intBits .xor .u64 18446744073709551615 (a:Int))=some (.int .u64 (bits .xor .u64 ((18446744073709551615:Nat):Int) (a:Int))):=rfl
 rw[e,h]
 congr 3
 have h2:=congrArg BitVec.toNat (BitVec.allOnes_xor (x:=BitVec.ofNat 64 a))
 rw[BitVec.toNat_xor,BitVec.toNat_not,BitVec.toNat_allOnes,BitVec.toNat_ofNat,Nat.mod_eq_of_lt (by omega)]at h2
 exact h2
end Go.Dx
namespace Go.Dx
theorem ff {bs B:Nat}{wl:List Nat}{C:Nat}(h:C∈note bs B wl):C∈wl\/(C=B/\B<bs):=by
 unfold note at h
 cases hb:Nat.ble bs B with
 | true=>rw[hb]at h;exact .inl h
 | false =>
  rw[hb]at h
  have hlt:B<bs:=by
   rcases Nat.lt_or_ge B bs with h' | h'
   .exact h'
   .rw[qgl h']at hb;cases hb
  cases wl with
  | nil=>exact .inr ⟨qgk.1 h,hlt⟩
  | cons D l =>
   simp only[cond_false]at h
   cases hd:Nat.beq B D with
   | true=>rw[hd]at h;exact .inl h
   | false =>
    rw[hd]at h
    rcases List.mem_cons.1 h with rfl | h
    .exact .inr ⟨rfl,hlt⟩
    .exact .inl h
theorem WQ {bs:Nat}:∀{l wl:List Nat} {C:Nat},C∈notes bs wl l->C∈wl\/(C∈l/\C<bs)
 | [],_,_,h=>.inl h
 | B::l,wl,C,h=>by
  rcases WQ (l:=l) (wl:=note bs B wl) h with h | ⟨h,h2⟩
  .rcases ff h with h | ⟨rfl,h⟩
   .exact .inl h
   .exact .inr ⟨qgw ..,h⟩
  .exact .inr ⟨qgo _ h,h2⟩
structure Mc (m m':M)(W:List Nat):Prop where
 n:m.n<=m'.n
 obj:∀B,B<m.n->B ∉ W->m'.obj B=m.obj B
 base:m'.base=m.base
 log:∀B∈m'.log,B∈m.log\/(B∈W/\B<m.base)
 low:(∀B∈W,m.base<=B)->m'.log=m.log
section
variable {a b c m m' m0:M}{W W':List Nat}
theorem Mc.refl:Mc m m W:=⟨qgg _,λ_ _ _=>rfl,rfl,λ_ h=>.inl h,λ_=>rfl⟩
theorem Mc.trans (h:Mc a b W)(k:Mc b c W):Mc a c W :=
 ⟨qgp h.n k.n,λB hB hW=>(k.obj B (qgi hB h.n) hW).trans (h.obj B hB hW),k.base.trans h.base,λB hB=>by
  rcases k.log B hB with h' | ⟨h',h2⟩
  .exact h.log B h'
  .exact .inr ⟨h',by rw[<-h.base];exact h2⟩,λhW=>(k.low (by rw[h.base];exact hW)).trans (h.low hW)⟩
theorem Ext.mc (h:Ext m m'):Mc m m' W:=⟨h.n,λB hB _=>h.obj B hB,h.base,λB hB=>.inl (by rw[<-h.log];exact hB),λ_=>h.log⟩
theorem Mc.behind (h:Mc (qg m) m' W):Mc m (Dx.behind m m') W:=by
 have hl:∀B∈m'.log,B∈W:=λB hB=>by
  rcases h.log B hB with h' | h'
  .rw[wU]at h';cases h'
  .exact h'.1
 refine⟨by rw[wg];have:=h.n;rwa [qq]at this,λB hB hW=>by rw[qz,h.obj B (by rw[qq];exact hB) hW,qw],kZ _ _,λB hB=>?_,λhW=>?_⟩
 .rw[zd]at hB
  rcases WQ hB with h' | ⟨h',h2⟩
  .exact .inl h'
  .exact .inr ⟨hl B h',h2⟩
 .rw[zd]
  exact fg λB hB=>hW B (hl B hB)
theorem qew (m:M)(B:Nat)(o:DObj):(m.put B o).log=note m.base B m.log:=by cases m;rfl
theorem WU {B o:Nat}{l l0:List Value}(h:Arr m B l0)(hne:l≠[])(hn:o+l.length<=l0.length)(hl:∀v∈l,okC v=true):(xf m B o l).log=note m.base B m.log:=by
 obtain⟨c,hc,hcl⟩:=h
 obtain⟨v0,vs,rfl⟩:∃v0 vs,l=v0::vs:=by
  cases l with
  | nil=>exact absurd rfl hne
  | cons a b=>exact⟨a,b,rfl⟩
 obtain⟨c',e',_⟩:=Qa (vs:=v0::vs) (o:=o) hcl hn hl
 have hs:stores m ⟨B,o,none⟩ (v0::vs)=some (m.put B (.cells c')):=by
  show ob (yy (m.obj B)) _=_
  rw[hc]
  show ob (stn c o (v0::vs)) _=_
  rw[e'];rfl
 have hp:xf m B o (v0::vs)=m.put B (.cells c'):=by unfold xf;rw[hs];rfl
 rw[hp,qew]
structure Ow (m0 m:M)(W:List Nat)(σ:List (Nat × List Value)):Prop where
 mc:Mc m0 m W
 base:m0.base<=m0.n
 arr:∀p∈σ,(p.1∈W\/m0.n<=p.1)/\p.1<m.n/\Arr m p.1 p.2
 nd:(σ.map (·.1)).Nodup
variable {σ σ':List (Nat × List Value)}{k B o:Nat}{l l':List Value}
theorem Ow.mb (h:Ow m0 m W σ):m.base<=m.n:=by rw[h.mc.base];exact qgp h.base h.mc.n
theorem Ow.get (h:Ow m0 m W σ)(k:Nat)(hk:σ[k]?=some (B,l)):(B∈W\/m0.n<=B)/\B<m.n/\Arr m B l:=h.arr _ (qge hk)
theorem Ow.step (h:Ow m0 m W σ)(e:Ext m m'):Ow m0 m' W σ :=
 ⟨h.mc.trans e.mc,h.base,λp hp=>let ⟨h1,h2,h3⟩:=h.arr p hp;⟨h1,qgi h2 e.n,h3.congr (e.obj _ h2)⟩,h.nd⟩
theorem Ow.sub (h:Ow m0 m W σ)(hs:∀p∈σ',p∈σ)(hn:(σ'.map (·.1)).Nodup):Ow m0 m W σ':=⟨h.mc,h.base,λp hp=>h.arr p (hs p hp),hn⟩
theorem Ow.row (h:Ow m0 m W σ)(l:List Value):Ow m0 (newRow m l) W ((m.n,l)::σ):=by
 have h':=h.step (Ext.row m l)
 refine⟨h'.mc,h.base,λp hp=>?_,?_⟩
 .rcases List.mem_cons.1 hp with rfl | hp
  .exact⟨.inr h.mc.n,by rw[qQ];exact Nat.lt_succ_self _,Arr.row m l⟩
  .exact h'.arr p hp
 .rw[List.map_cons,List.nodup_cons]
  refine⟨λhm=>?_,h.nd⟩
  obtain⟨q,hq,e⟩:=List.mem_map.1 hm
  have:=(h.arr q hq).2.1
  omega
theorem Ow.put (h:Ow m0 m W σ)(k:Nat)(hk:σ[k]?=some (B,l))(hn:m'.n=m.n)(hb:m'.base=m.base)(hlog:∀C∈m'.log,C∈m.log\/(C=B/\B<m.base))(hlow:m.base<=B->m'.log=m.log)(ho:∀X,X≠B->m'.obj X=m.obj X)(ha:Arr m' B l'):Ow m0 m' W (σ.set k (B,l')):=by
 obtain⟨hk',hke⟩:=qgf.1 hk
 obtain⟨hb0,hb1,hb2⟩:=h.get k hk
 have hmb:=h.mc.base
 have hb3:=h.base
 have hmn:=h.mc.n
 have hne:∀C,C<m0.n->C ∉ W->C≠B:=λC hC hW e=>by
  subst e
  rcases hb0 with h0 | h0
  .exact hW h0
  .omega
 refine⟨⟨by rw[hn];exact hmn,λC hC hW=>(ho C (hne C hC hW)).trans (h.mc.obj C hC hW),hb.trans hmb,λC hC=>?_,λhW=>?_⟩,h.base,λp hp=>?_,?_⟩
 .rcases hlog C hC with h' | ⟨rfl,h'⟩
  .exact h.mc.log C h'
  .rcases hb0 with h0 | h0
   .exact .inr ⟨h0,by rw[<-hmb];exact h'⟩
   .omega
 .rw[hlow ?_,h.mc.low hW]
  rcases hb0 with h0 | h0
  .rw[hmb];exact hW _ h0
  .omega
 .obtain⟨j,hj,rfl⟩:=List.getElem_of_mem hp
  rw[List.getElem_set]
  rw[List.length_set]at hj
  split
  .exact⟨hb0,by rw[hn];exact hb1,ha⟩
  .rename_i hne
   obtain⟨h1,h2,h3⟩:=h.arr _ (List.getElem_mem hj)
   refine⟨h1,by rw[hn];exact h2,h3.congr (ho _ λe=>hne ?_)⟩
   exact (Xq h.nd (qgd hj) hk e).symm
 .have:(σ.set k (B,l')).map (·.1)=σ.map (·.1):=by
   rw[List.map_set]
   show (σ.map (·.1)).set k B=_
   refine List.ext_getElem (by simp) λi h1 h2=>?_
   rw[List.getElem_set]
   split
   .subst_vars;simp[hke]
   .rfl
  rw[this];exact h.nd
theorem Ow.storeN (h:Ow m0 m W σ)(k:Nat)(hk:σ[k]?=some (B,l)){n:Nat}(hn0:0<n)(hl':l'.length=n)(hn:o+n<=l.length)(hv:∀v∈l',okC v=true) :
  ∃m',qB n (.pointer (some ⟨B,o,none⟩)) (.agg ⟨l'⟩) m=some (undef,m')/\Ow m0 m' W (σ.set k (B,over l o l'))/\m'.n=m.n/\∀X,X≠B->m'.obj X=m.obj X:=by
 obtain⟨h1,h2,h3⟩:=h.get k hk
 have hne:l'≠[]:=λe=>by rw[e]at hl';simp at hl';omega
 have e:=kX (n:=n) (o:=o) (v:=.agg ⟨l'⟩) (l:=l') h3 rfl hl' hn hv
 obtain⟨_,s2,s3,s4,s5,s6⟩:=kg (o:=o) (l:=l') h3 (by omega) hv
 exact⟨_,e,h.put k hk s3 s4 (λC hC=>by rw[WU h3 hne (by omega) hv]at hC;exact ff hC) s6 s5 s2,s3,s5⟩
theorem Ow.store (h:Ow m0 m W σ)(k:Nat)(hk:σ[k]?=some (B,l)){v:Value}(ho:o<l.length)(hv:okC v=true) :
  ∃m',qB 1 (.pointer (some ⟨B,o,none⟩)) v m=some (undef,m')/\Ow m0 m' W (σ.set k (B,l.set o v))/\m'.n=m.n/\∀X,X≠B->m'.obj X=m.obj X:=by
 obtain⟨h1,h2,h3⟩:=h.get k hk
 have hcv:jH v=some [v]:=by cases v<;>first | rfl | simp[okC]at hv
 have e:=kX (n:=1) (o:=o) h3 hcv rfl (by omega) (by simpa using hv)
 obtain⟨_,s2,s3,s4,s5,s6⟩:=kg (o:=o) (l:=[v]) h3 (by simp;omega) (by simpa using hv)
 exact⟨_,e,h.put k hk s3 s4 (λC hC=>by rw[WU h3 (by simp) (by simp;omega) (by simpa using hv)]at hC;exact ff hC) s6 s5 s2,s3,s5⟩
theorem Ow.storeNAny (h:Ow m0 m W σ)(k:Nat)(hk:σ[k]?=some (B,l)){n:Nat}(hn0:0<n)(hl':l'.length=n)(hn:o+n<=l.length)(hv:∀v∈l',okC v=true) :
  ∃m',qB n (.pointer (some ⟨B,o,none⟩)) (.agg ⟨l'⟩) (qg m)=some (undef,m')/\m'.log=[B]/\Ow m0 (Dx.behind m m') W (σ.set k (B,over l o l'))/\(Dx.behind m m').n=m.n/\∀X,X≠B->(Dx.behind m m').obj X=m.obj X:=by
 obtain⟨h1,h2,h3⟩:=h.get k hk
 have h3':Arr (qg m) B l:=h3.congr (qw m B)
 have hne:l'≠[]:=λe=>by rw[e]at hl';simp at hl';omega
 have e:=kX (n:=n) (o:=o) (v:=.agg ⟨l'⟩) (l:=l') h3' rfl hl' hn hv
 obtain⟨_,s2,s3,s4,s5,s6⟩:=kg (o:=o) (l:=l') h3' (by omega) hv
 have hlog:(xf (qg m) B o l').log=[B]:=by
  rw[WU h3' hne (by omega) hv,wS,wU]
  unfold note
  have:Nat.ble m.n B=false:=by
   cases q:Nat.ble m.n B with
   | false=>rfl
   | true=>exact absurd (qgm q) (by omega)
  rw[this];rfl
 have hbl:(Dx.behind m (xf (qg m) B o l')).log=note m.base B m.log:=by rw[zd,hlog];rfl
 refine⟨_,e,hlog,h.put k hk (by rw[wg,s3,qq]) (kZ _ _) (λC hC=>by rw[hbl]at hC;exact ff hC) (λhb=>by rw[hbl,fL hb]) (λX hX=>by rw[qz,s5 X hX,qw]) (s2.congr (qz _ _ _)),by rw[wg,s3,qq],λX hX=>by rw[qz,s5 X hX,qw]⟩
theorem Ow.storeAny (h:Ow m0 m W σ)(k:Nat)(hk:σ[k]?=some (B,l)){v:Value}(ho:o<l.length)(hv:okC v=true) :
  ∃m',qB 1 (.pointer (some ⟨B,o,none⟩)) v (qg m)=some (undef,m')/\m'.log=[B]/\Ow m0 (Dx.behind m m') W (σ.set k (B,l.set o v))/\(Dx.behind m m').n=m.n/\∀X,X≠B->(Dx.behind m m').obj X=m.obj X:=by
 have hcv:jH v=some [v]:=by cases v<;>first | rfl | simp[okC]at hv
 obtain⟨m',e,r⟩:=h.storeNAny k hk (o:=o) (l':=[v]) (n:=1) (by omega) rfl (by omega) (by simpa using hv)
 refine⟨m',?_,r⟩
 have h3':Arr (qg m) B l:=(h.get k hk).2.2.congr (qw m B)
 have e1:=kX (n:=1) (o:=o) h3' hcv rfl (by omega) (by simpa using hv)
 have e2:=kX (n:=1) (o:=o) (v:=.agg ⟨[v]⟩) (l:=[v]) h3' rfl rfl (by omega) (by simpa using hv)
 exact e1.trans (e2.symm.trans e)
theorem Ow.call (h:Ow m0 m W σ)(k:Mc m m' W)(hσ:∀p∈σ',(∃q∈σ,q.1=p.1)/\Arr m' p.1 p.2)(hn:(σ'.map (·.1)).Nodup):Ow m0 m' W σ' :=
 ⟨h.mc.trans k,h.base,λp hp=>by
  obtain⟨⟨q,hq,e⟩,ha⟩:=hσ p hp
  obtain⟨h1,h2,_⟩:=h.arr q hq
  rw[e]at h1 h2
  exact⟨h1,qgi h2 k.n,ha⟩,hn⟩
theorem Ow.rd (h:Ow m0 m W σ){α:Type}{v:Value}{e:Nat}{f:α->List Value}{es:List α}(hr:Rd m0 v e f es)(hs:∀B,blk v=some B->B ∉ W):Rd m v e f es :=
 hr.congr h.mc.n λB hB=>h.mc.obj B (hr.lt B hB) (hs B hB)
theorem Ow.start (hb:m0.base<=m0.n)(hσ:∀p∈σ,p.1∈W/\p.1<m0.n/\Arr m0 p.1 p.2)(hn:(σ.map (·.1)).Nodup):Ow m0 m0 W σ :=
 ⟨Mc.refl,hb,λp hp=>let ⟨a,b,c⟩:=hσ p hp;⟨.inl a,b,c⟩,hn⟩
theorem qap {m:M}{Q:Value->M->Prop}{t:Tm}{p n:Nat}{a:Addr}{l:List Value}(h1:Tm.get p t=.pointer (some a))(h2:loads m a n=some l)(hq:Q (.agg ⟨l⟩) m):zH Q (kQ [.cell p n] t m):=by
 refine⟨gL [.agg ⟨l⟩],m,?_,hq⟩
 have hr:gK t m [.cell p n]=some [.agg ⟨l⟩]:=by simp only[gK,WX,h1,yg,qN,h2]
 rw[bV,hr,qN,bp]
theorem wO {m:M}{Q:Value->M->Prop}{t:Tm}{p:Nat}(hq:Q (Tm.get p t) m):zH Q (kQ [.t p] t m):=by
 refine⟨gL [Tm.get p t],m,?_,hq⟩
 rw[bV,show gK t m [.t p]=some [Tm.get p t] from rfl,qN,bp]
end
end Go.Dx
namespace Go.Dx
theorem kH {m0 m:M}{Q:Value->M->Prop}{t:Tm}{p n:Nat}{a:Addr}{l1:List Value}(h1:Tm.get p t=.pointer (some a))(h2:loads m a n=some l1)(he:Ext m0 m)(hq:Q (.agg ⟨l1⟩) m):Ret m0 Q (kQ [.cell p n] t m):=by
 refine dR (l:=[.agg ⟨l1⟩]) ?_ he hq
 simp only[gK,WX,h1,yg,qN,h2]
end Go.Dx
namespace Go.Sx
open Go.Dx Go.Proofs
set_option maxRecDepth 10000
abbrev iv (n:Int):Value:=.int .i64 n
abbrev wv (n:Int):Value:=.int .u32 n
structure Fld where
 at_:Int
 width:Int
 lo:Int
 hi:Int
 step:Int
 turned:Bool
 deriving DecidableEq
def kz (f:Fld):List Value:=[iv f.at_,iv f.width,iv f.lo,iv f.hi,iv f.step,.bool f.turned]
abbrev z6:List Value:=[zI,zI,zI,zI,zI,.bool false]
def qH:Fld:=⟨0,0,0,0,0,false⟩
def qG (a:Int):Fld:=⟨a,5,0,31,1,false⟩
def zo (a:Int):Fld:=⟨a,5,0,30,1,false⟩
def jf (a w h s:Int):Fld:=⟨a,w,0,h,s,false⟩
theorem zG (n:Nat)(a:Int)(m:M)(hm:m.base<=m.n):CallV (ex Tryz.prog (n+1)) 80 [iv a] m (.agg ⟨kz (qG a)⟩):=by
 refine qj dg7_ok (by simp) ?_
 have b:wN z6 [(0,1,iv a),(1,1,.int .i64 5),(3,1,.int .i64 31),(4,1,.int .i64 1)]=some (.agg ⟨kz (qG a)⟩):=rfl
 obtain⟨m2,s1,s2,s3,s4,s5⟩:=vu (m:=m) hm (zs:=z6) (l:=kz (qG a)) (v:=.agg ⟨kz (qG a)⟩) (n:=6) rfl rfl rfl (by simp[kz,okC])
 simp[b,s1]
 exact kH (a:=⟨m.n,0,none⟩) (by simp) (s3 none) s4 rfl
theorem reg_c (n:Nat)(a:Int)(m:M)(hm:m.base<=m.n):CallV (ex Tryz.prog (n+1)) 82 [iv a] m (.agg ⟨kz (zo a)⟩):=by
 refine qj dg9_ok (by simp) ?_
 have b:wN z6 [(0,1,iv a),(1,1,.int .i64 5),(3,1,.int .i64 30),(4,1,.int .i64 1)]=some (.agg ⟨kz (zo a)⟩):=rfl
 obtain⟨m2,s1,s2,s3,s4,s5⟩:=vu (m:=m) hm (zs:=z6) (l:=kz (zo a)) (v:=.agg ⟨kz (zo a)⟩) (n:=6) rfl rfl rfl (by simp[kz,okC])
 simp[b,s1]
 exact kH (a:=⟨m.n,0,none⟩) (by simp) (s3 none) s4 rfl
theorem xE (n:Nat)(a w h s:Int)(m:M)(hm:m.base<=m.n):CallV (ex Tryz.prog (n+1)) 81 [iv a,iv w,iv h,iv s] m (.agg ⟨kz (jf a w h s)⟩):=by
 refine qj dg8_ok (by simp) ?_
 have b:wN z6 [(0,1,iv a),(1,1,iv w),(3,1,iv h),(4,1,iv s)]=some (.agg ⟨kz (jf a w h s)⟩):=rfl
 obtain⟨m2,s1,s2,s3,s4,s5⟩:=vu (m:=m) hm (zs:=z6) (l:=kz (jf a w h s)) (v:=.agg ⟨kz (jf a w h s)⟩) (n:=6) rfl rfl rfl (by simp[kz,okC])
 simp[b,s1]
 exact kH (a:=⟨m.n,0,none⟩) (by simp) (s3 none) s4 rfl
end Go.Sx
namespace Go.Dx
noncomputable section
def qbo (m:M):Option (Value × M):=some (.map (some m.n),m.alloc (.map []))
def lkS (z:Value)(ok:Bool)(x k:Value)(m:M):Option (Value × M):=bif isInt k then ob (mapOf m x) λes=>ob (yw k es) λr=>some (found z ok r,m) else none
def mupS (x k v:Value)(m:M):Option (Value × M):=ob (vMap x) λB=>ob (WS (m.obj B)) λes=>ob (vJ k v es) λes'=>some (undef,m.put B (.map es'))
@[simp] theorem mMkmap_ap (X:Ex) (t:Tm) (m:M):dF X t m=qbo m:=_root_.id rfl
@[simp] theorem qga (z:Value) (ok:Bool) (x k:V) (X:Ex) (t:Tm) (m:M):yv z ok x k X t m=lkS z ok (x t) (k t) m:=_root_.id rfl
@[simp] theorem mMapup_ap (x k v:V) (X:Ex) (t:Tm) (m:M):yV x k v X t m=mupS (x t) (k t) (v t) m:=_root_.id rfl
theorem Ext.allocO (m:M)(o:DObj):Ext m (m.alloc o):=⟨by rw[M.n_alloc];omega,λB hB=>by rw[M.obj_alloc,if_neg (by omega)],M.base_alloc _ _,M.log_alloc _ _⟩
theorem Ext.putO {m0 m:M}(h:Ext m0 m)(hb:m0.base<=m0.n){B:Nat}(hB:m0.n<=B)(o:DObj):Ext m0 (m.put B o) :=
 ⟨by rw[M.n_put];exact h.n,λX hX=>by rw[M.obj_put,if_neg (by omega)];exact h.obj X hX,by rw[M.base_put,h.base],by rw[VH (by rw[h.base];omega),h.log]⟩
theorem ZN {m:M}{B:Nat}{es es':List (Value × Value)}{k v:Value}(h:m.obj B=some (.map es))(hp:vJ k v es=some es'):mupS (.map (some B)) k v m=some (undef,m.put B (.map es')):=by
 show ob (WS (m.obj B)) _=_
 rw[h]
 show ob (vJ k v es) _=_
 rw[hp,qN]
noncomputable def idxG (len:Nat) (agg:Bool) (esz:Nat) (x i:Value):Option Value:=ob (vo i) λn=>ob (Ys x) λcs=>bif Nat.blt n len then Ko agg ((cs.drop (n*esz)).take esz) else none
@[simp] theorem pShift_ap (op:BinOp) (x y:V) (t:Tm):wP op x y t=shV op (x t) (y t):=_root_.id rfl
theorem gi {k k':IntKind}{a b:Int}(hb:0<=b):shV .shl (.int k a) (.int k' b)=some (.int k (k.wrap (a*2^(min b.toNat k.bits)))):=by
 show zV (Op.shift .shl k a k' b)=_
 unfold Op.shift
 rw[if_neg (by omega)];rfl
theorem Bn {k k':IntKind}{a b:Int}(hb:0<=b):shV .shr (.int k a) (.int k' b)=some (.int k (a.fdiv (2^(min b.toNat k.bits)))):=by
 show zV (Op.shift .shr k a k' b)=_
 unfold Op.shift
 rw[if_neg (by omega)];rfl
theorem bO (len:Nat)(agg:Bool)(esz:Nat)(x i:V)(t:Tm):Xw len agg esz x i t=idxG len agg esz (x t) (i t):=rfl
section
variable {m0 m m':M}{σ:List (Nat × List Value)}{k b:Nat}{l:List Value}
theorem Bd {m:M}{b o:Nat}{l l':List Value}(h3:Arr (qg m) b l)(h2:b<m.n)(hn0:0<l'.length)(ho:o+l'.length<=l.length)(hv:∀v∈l',okC v=true):(xf (qg m) b o l').log=[b]:=by
 obtain⟨c,hc,hcl⟩:=h3
 obtain⟨v0,vs,rfl⟩:∃v0 vs,l'=v0::vs:=by
  cases l' with
  | nil=>simp at hn0
  | cons a b=>exact⟨a,b,rfl⟩
 have:∃c',stores (qg m) ⟨b,o,none⟩ (v0::vs)=some ((qg m).put b (.cells c')):=by
  have hs:stores (qg m) ⟨b,o,none⟩ (v0::vs)=ob (yy ((qg m).obj b)) λc=>ob (stn c o (v0::vs)) λc'=>some ((qg m).put b (.cells c')):=rfl
  rw[hs,hc]
  obtain⟨c',e',_⟩:=Qa (vs:=v0::vs) (o:=o) hcl ho hv
  exact⟨c',by show ob (stn c o (v0::vs)) _=_;rw[e'];rfl⟩
 obtain⟨c',e'⟩:=this
 have hp:xf (qg m) b o (v0::vs)=(qg m).put b (.cells c'):=by unfold xf;rw[e'];rfl
 rw[hp]
 cases m with | mk a nx bs wl =>
 show note nx b []=[b]
 have h2':b<nx:=h2
 unfold note
 have:Nat.ble nx b=false:=by
  cases q:Nat.ble nx b with
  | false=>rfl
  | true=>exact absurd (qgm q) (by omega)
 rw[this];rfl
theorem St.fillAt (h:St m0 m σ)(k:Nat)(hk:σ[k]?=some (b,l)){n o:Nat}{l':List Value}(hl':l'.length=n)(ho:o+n<=l.length)(hv:∀v∈l',okC v=true) :
  ∃m',qB n (.pointer (some ⟨b,o,none⟩)) (.agg ⟨l'⟩) m=some (undef,m')/\St m0 m' (σ.set k (b,over l o l'))/\m'.n=m.n/\∀X,X≠b->m'.obj X=m.obj X:=by
 obtain⟨h1,h2,h3⟩:=h.get k hk
 have e:=kX (n:=n) (o:=o) (v:=.agg ⟨l'⟩) (l:=l') h3 rfl hl' ho hv
 obtain⟨_,s2,s3,s4,s5,s6⟩:=kg (o:=o) (l:=l') h3 (by omega) hv
 exact⟨_,e,h.put' k hk s3 s4 (s6 (by have:=h.ext.base;have:=h.base;omega)) s5 s2,s3,s5⟩
theorem St.fillAtAny (h:St m0 m σ)(k:Nat)(hk:σ[k]?=some (b,l)){n o:Nat}{l':List Value}(hn0:0<n)(hl':l'.length=n)(ho:o+n<=l.length)(hv:∀v∈l',okC v=true) :
  ∃m',qB n (.pointer (some ⟨b,o,none⟩)) (.agg ⟨l'⟩) (qg m)=some (undef,m')/\m'.log=[b]/\St m0 (Dx.behind m m') (σ.set k (b,over l o l'))/\(Dx.behind m m').n=m.n/\(∀X,X≠b->(Dx.behind m m').obj X=m.obj X):=by
 obtain⟨h1,h2,h3⟩:=h.get k hk
 have h3':Arr (qg m) b l:=h3.congr (qw m b)
 have e:=kX (n:=n) (o:=o) (v:=.agg ⟨l'⟩) (l:=l') h3' rfl hl' ho hv
 obtain⟨s1,s2,s3,s4,s5,s6⟩:=kg (o:=o) (l:=l') h3' (by omega) hv
 have hlog:=Bd (m:=m) (o:=o) (l':=l') h3' h2 (by omega) (by omega) hv
 refine⟨_,e,hlog,h.put' k hk (by rw[wg,s3,qq]) (kZ _ _) ?_ (λX hX=>by rw[qz,s5 X hX,qw]) (s2.congr (qz _ _ _)),by rw[wg,s3,qq],λX hX=>by rw[qz,s5 X hX,qw]⟩
 rw[zd,hlog]
 refine fg λB hB=>?_
 rw[qgk.1 hB,h.ext.base]
 have:=h.base
 omega
end
end
end Go.Dx
namespace Go.Sx
open Go.Dx Go.Proofs
set_option maxRecDepth 10000
def WJ:Fld:=⟨0,26,-33554432,33554431,1,false⟩
def yY:Fld:=⟨5,19,-262144,262143,1,false⟩
theorem qe9 (n:Nat)(m:M)(hm:m.base<=m.n):CallV (ex Tryz.prog (n+1)) 83 [zI,.int .i64 26] m (.agg ⟨kz WJ⟩):=by
 refine qj qa8 (by simp) ?_
 have b:wN z6 [(0,1,zI),(1,1,.int .i64 26),(2,1,.int .i64 (-33554432)),(3,1,.int .i64 33554431),(4,1,.int .i64 1)]=some (.agg ⟨kz WJ⟩):=rfl
 have h1:shV .shl (.int .i64 (-1)) (.int .i64 25)=some (.int .i64 (-33554432)):=by rw[gi (by decide),wrap64 _ (by decide) (by decide)];rfl
 have h2:shV .shl (.int .i64 1) (.int .i64 25)=some (.int .i64 33554432):=by rw[gi (by decide),wrap64 _ (by decide) (by decide)];rfl
 have st:=(St.nil hm (Ext.refl m)).row z6
 obtain⟨m2,s1,s0,s2,s3,s4⟩:=st.fillAny 0 rfl (n:=6) (l':=kz WJ) (by omega) rfl rfl (by simp[kz,okC])
 simp[b,s1,h1,h2,wrap64,s0]
 exact kH (a:=⟨m.n,0,none⟩) (by simp) ((s2.get 0 rfl).2.2.loads (o:=0) (n:=6) (by simp[kz])) s2.ext rfl
theorem Fo (n:Nat)(m:M)(hm:m.base<=m.n):CallV (ex Tryz.prog (n+1)) 83 [.int .i64 5,.int .i64 19] m (.agg ⟨kz yY⟩):=by
 refine qj qa8 (by simp) ?_
 have b:wN z6 [(0,1,.int .i64 5),(1,1,.int .i64 19),(2,1,.int .i64 (-262144)),(3,1,.int .i64 262143),(4,1,.int .i64 1)]=some (.agg ⟨kz yY⟩):=rfl
 have h1:shV .shl (.int .i64 (-1)) (.int .i64 18)=some (.int .i64 (-262144)):=by rw[gi (by decide),wrap64 _ (by decide) (by decide)];rfl
 have h2:shV .shl (.int .i64 1) (.int .i64 18)=some (.int .i64 262144):=by rw[gi (by decide),wrap64 _ (by decide) (by decide)];rfl
 have st:=(St.nil hm (Ext.refl m)).row z6
 obtain⟨m2,s1,s0,s2,s3,s4⟩:=st.fillAny 0 rfl (n:=6) (l':=kz yY) (by omega) rfl rfl (by simp[kz,okC])
 simp[b,s1,h1,h2,wrap64,s0]
 exact kH (a:=⟨m.n,0,none⟩) (by simp) ((s2.get 0 rfl).2.2.loads (o:=0) (n:=6) (by simp[kz])) s2.ext rfl
def baseL:List Nat:=[0,0xd2800000,0xf2800000,0x8b000000,0xcb000000,0x8a000000,0xaa000000,0xca000000,0xaa200000,0x9b007c00,0x9ac02000,0x9ac02400,0x91000000,0xd1000000,0xd3400000,0xd340fc00,
 0xeb00001f,0x9a9f07e0,0x14000000,0x54000000,0xb4000000,0xb5000000,0xf9400000,0xf9000000,0xc8dffc00,0xc89ffc00,0xc85f7c00,0xc85ffc00,0xc8007c00,0xc800fc00,0,0,0,0xd4000001,0,
 0xf8bfc000,0xc8a07c00,0xc8e07c00,0xc8a0fc00,0xc8e0fc00,0xf8208000,0xf8a08000,0xf8608000,0xf8e08000,0xf8200000,0xf8a00000,0xf8600000,0xf8e00000]
def zW (op:Nat):Nat:=baseL.getD op 0
theorem BD (n:Nat)(op:Nat)(h:op<48)(m:M):CallV (ex Tryz.prog (n+1)) 79 [.int .i64 op] m (wv (zW op)):=by
 refine qj dg6_ok (by simp) ?_
 obtain⟨l,hl⟩:∃l:List Value,l=baseL.map λx:Nat=>wv x:=⟨_,rfl⟩
 have key:idxG 48 false 1 (.agg ⟨l⟩) (.int .i64 op)=some (wv (zW op)):=by
  have h1:vo (.int .i64 op)=some op:=rfl
  unfold idxG
  rw[h1,qN]
  show ob (some l) _=_
  rw[qN]
  have h2:Nat.blt op 48=true:=by rw[<-Nat.blt_eq]at h;exact h
  rw[h2,cond_true,Nat.mul_one]
  have hlen:op<baseL.length:=h
  have h3:(l.drop op).take 1=[wv (zW op)]:=by
   rw[hl,List.drop_eq_getElem_cons (by simpa using hlen),List.take_succ_cons,List.take_zero,List.getElem_map]
   unfold zW
   rw[List.getD_eq_getElem?_getD,qgd hlen];rfl
  rw[h3];rfl
 simp
 rw[show wN _ _=some (.agg ⟨l⟩) from by rw[hl];rfl]
 simp[bO,key]
 exact qx (Ext.refl m) (by simp)
def fixL:List (Value × Value):=[(.int .i64 30,wv 3573759423),(.int .i64 31,wv 3573759935),(.int .i64 32,wv 3573751839),(.int .i64 34,wv 3560964096)]
theorem YS (n:Nat)(m:M)(hm:m.base<=m.n):Dx.Call (ex Tryz.prog (n+1)) 61 [] m λv m'=>v=.map (some m.n)/\m.n<m'.n/\m'.obj m.n=some (.map fixL):=by
 refine qj de8_ok (by simp) ?_
 have E0:=Ext.allocO m (.map [])
 have o0:(m.alloc (.map [])).obj m.n=some (.map []):=by rw[M.obj_alloc,if_pos rfl]
 have u1:=ZN (k:=.int .i64 30) (v:=wv 3573759423) o0 (es':=fixL.take 1) rfl
 obtain⟨m1,hm1⟩:=qh2 ((m.alloc (.map [])).put m.n (.map (fixL.take 1)))
 have E1:Ext m m1:=by rw[hm1];exact E0.putO hm (qgg _) _
 have o1:m1.obj m.n=some (.map (fixL.take 1)):=by rw[hm1,M.obj_put,if_pos rfl]
 rw[<-hm1]at u1
 have u2:=ZN (k:=.int .i64 31) (v:=wv 3573759935) o1 (es':=fixL.take 2) rfl
 obtain⟨m2,hm2⟩:=qh2 (m1.put m.n (.map (fixL.take 2)))
 have E2:Ext m m2:=by rw[hm2];exact E1.putO hm (qgg _) _
 have o2:m2.obj m.n=some (.map (fixL.take 2)):=by rw[hm2,M.obj_put,if_pos rfl]
 rw[<-hm2]at u2
 have u3:=ZN (k:=.int .i64 32) (v:=wv 3573751839) o2 (es':=fixL.take 3) rfl
 obtain⟨m3,hm3⟩:=qh2 (m2.put m.n (.map (fixL.take 3)))
 have E3:Ext m m3:=by rw[hm3];exact E2.putO hm (qgg _) _
 have o3:m3.obj m.n=some (.map (fixL.take 3)):=by rw[hm3,M.obj_put,if_pos rfl]
 rw[<-hm3]at u3
 have u4:=ZN (k:=.int .i64 34) (v:=wv 3560964096) o3 (es':=fixL) rfl
 obtain⟨m4,hm4⟩:=qh2 (m3.put m.n (.map fixL))
 have E4:Ext m m4:=by rw[hm4];exact E3.putO hm (qgg _) _
 have o4:m4.obj m.n=some (.map fixL):=by rw[hm4,M.obj_put,if_pos rfl]
 rw[<-hm4]at u4
 have hn4:m.n<m4.n:=by rw[hm4,M.n_put,hm3,M.n_put,hm2,M.n_put,hm1,M.n_put,M.n_alloc];omega
 simp[qbo,u1,u2,u3,u4]
 exact qx E4 ⟨by simp,hn4,o4⟩
end Go.Sx
namespace Go.Sx
open Go.Dx Go.Proofs
set_option maxRecDepth 10000
def XT:Fld:=⟨12,4,0,13,1,true⟩
def wQ (w:Nat)(fs:List Fld):List Value:=wv w::fs.flatMap kz
def row0:List Value:=wQ 0 [qH,qH,qH,qH,qH]
theorem ja (w:Nat)(fs:List Fld):∀v∈wQ w fs,okC v=true:=by
 intro v hv
 unfold wQ at hv
 rcases List.mem_cons.1 hv with rfl | h
 .rfl
 .obtain⟨f,_,hf⟩:=List.mem_flatMap.1 h
  simp only[kz,List.mem_cons,List.not_mem_nil,or_false]at hf
  rcases hf with rfl | rfl | rfl | rfl | rfl | rfl<;>rfl
theorem BE:∀op,op<48->(1<=op/\op≠30/\op≠31/\op≠32/\op≠34)->0<zW op:=by decide +kernel
theorem iaF (B i:Nat)(h:i<5):zi 5 6 (.pointer (some ⟨B,1,none⟩)) (.int .i64 (i:Int))=some (.pointer (some ⟨B,1+i*6,none⟩)):=by
 rcases (by omega:i=0\/i=1\/i=2\/i=3\/i=4) with rfl | rfl | rfl | rfl | rfl<;>rfl
theorem fY (B:Nat):zi 5 6 (.pointer (some ⟨B,1,none⟩)) zI=some (.pointer (some ⟨B,1,none⟩)):=rfl
theorem fZ (B:Nat):zi 5 6 (.pointer (some ⟨B,1,none⟩)) (.int .i64 1)=some (.pointer (some ⟨B,7,none⟩)):=rfl
theorem ga (B:Nat):zi 5 6 (.pointer (some ⟨B,1,none⟩)) (.int .i64 2)=some (.pointer (some ⟨B,13,none⟩)):=rfl
theorem ge (B:Nat):zi 5 6 (.pointer (some ⟨B,1,none⟩)) (.int .i64 3)=some (.pointer (some ⟨B,19,none⟩)):=rfl
theorem gg (B:Nat):zi 5 6 (.pointer (some ⟨B,1,none⟩)) (.int .i64 4)=some (.pointer (some ⟨B,25,none⟩)):=rfl
theorem qas (f:Fld):∀v∈kz f,okC v=true:=by simp[kz,okC]
theorem qT {m0 m:M}{Q:Value->M->Prop}{t:Tm}{p n r:Nat}{a:Addr}{l1:List Value}(h1:Tm.get p t=.pointer (some a))(h2:loads m a n=some l1)(he:Ext m0 m)(hq:Q (.tuple #[.agg ⟨l1⟩,Tm.get r t]) m):Ret m0 Q (kQ [.cell p n,.t r] t m):=by
 refine dR (l:=[.agg ⟨l1⟩,Tm.get r t]) ?_ he hq
 simp only[gK,WX,h1,yg,qN,h2]
abbrev z31:List Value:=[.int .u32 0,zI,zI,zI,zI,zI,.bool false,zI,zI,zI,zI,zI,.bool false,zI,zI,zI,zI,zI,.bool false,zI,zI,zI,zI,zI,.bool false,zI,zI,zI,zI,zI,.bool false]
theorem qI (m:M):(qg m).base<=(qg m).n:=by rw[wS,qq];exact qgg _
theorem zL (n:Nat){op:Nat}{k:Int}(hk:k=op)(h:op<48/\1<=op/\op≠30/\op≠31/\op≠32/\op≠34){m:M}(hm:m.base<=m.n):∃m1 m2 B,B=zW op/\(ex Tryz.prog (n+1)).f 79 [.int .i64 k] (Dx.newRow m z31)=some (wv (B:Nat),m1) /\
  qB 1 (.pointer (some ⟨m.n,0,none⟩)) (wv (B:Nat)) m1=some (undef,m2)/\load1 m2 ⟨m.n,0,none⟩=some (wv (B:Nat))/\St m m2 [(m.n,row0.set 0 (wv (B:Nat)))]/\(((B:Nat):Int)=0)=False/\(B=0)=False:=by
 have st0:=(St.nil hm (Ext.refl m)).row row0
 obtain⟨v1,m1,a1,a2,rfl⟩:=BD n op (by omega) (Dx.newRow m row0)
 obtain⟨m2,b1,st2,b2,b3⟩:=(st0.step a2).store 0 rfl (o:=0) (v:=wv (zW op)) (by simp[row0,wQ]) rfl
 have hp:=BE op (by omega) (by omega)
 rw[<-hk]at a1
 exact⟨m1,m2,_,rfl,a1,b1,(st2.get 0 rfl).2.2.load1 0 none,st2,eq_false (by omega),eq_false (by omega)⟩
theorem St.fldAny {m0 m:M}{B:Nat}{l:List Value}(h:St m0 m [(B,l)])(hl:l.length=31){o:Nat}(ho:o<=25)(f:Fld) :
  ∃m',qB 6 (.pointer (some ⟨B,o,none⟩)) (.agg ⟨kz f⟩) (qg m)=some (undef,m')/\m'.log=[B]/\St m0 (behind m m') [(B,over l o (kz f))]/\(over l o (kz f)).length=31:=by
 obtain⟨m',a,b,c,-,-⟩:=h.fillAtAny 0 rfl (n:=6) (o:=o) (l':=kz f) (by omega) rfl (by rw[hl];omega) (qas _)
 exact⟨m',a,b,c,by rw[Qt,hl]⟩
theorem zK {m mZ:M}{l L:List Value}(h:St m mZ [(m.n,l)])(hl:l.length=31)(he:l=L)(hok:∀v∈L,okC v=true) :
  loads mZ ⟨m.n,0,none⟩ 31=some L/\∃mY,qB 31 (.pointer (some ⟨m.n,0,none⟩)) (.agg ⟨L⟩) mZ=some (undef,mY)/\loads mY ⟨m.n,0,none⟩ 31=some L/\Ext m mY:=by
 subst he
 obtain⟨mY,e1,stY,-,-⟩:=h.fill 0 rfl (n:=31) (l':=l) hl hl hok
 have g:∀{mq:M},Arr mq m.n l->loads mq ⟨m.n,0,none⟩ 31=some l:=λha=>by rw[ha.loads (by omega),List.drop_zero,List.take_of_length_le (by omega)]
 exact⟨g (h.get 0 rfl).2.2,mY,e1,g (stY.get 0 rfl).2.2,stY.ext⟩
theorem row_A (n:Nat)(op:Nat)(h:op=1\/op=2)(m:M)(hm:m.base<=m.n):CallV (ex Tryz.prog (n+2)) 62 [.int .i64 op] m (.tuple #[.agg ⟨wQ (zW op) [qG 0,qH,qH,jf 5 16 65535 1,jf 21 2 3 1]⟩,.bool true]):=by
 refine qj jj (by simp) ?_
 obtain⟨k,hk⟩:∃k:Int,k=(op:Int):=⟨_,rfl⟩
 obtain⟨m1,m2,B,hB,a1,b1,l0,st2,hb0,hb1⟩:=zL n hk (by omega) hm
 obtain⟨v3,m3,c3,e3,g3,rfl⟩:=qm (zG n 0 (qg m2) (qI _))
 obtain⟨v4,m4,c4,e4,g4,rfl⟩:=qm (xE n 5 16 65535 1 (qg (behind m2 m3)) (qI _))
 obtain⟨v5,m5,c5,e5,g5,rfl⟩:=qm (xE n 21 2 3 1 (qg (behind (behind m2 m3) m4)) (qI _))
 obtain⟨m6,c6,e6,t6,z6⟩:=St.fldAny (((st2.step g3).step g4).step g5) rfl (o:=1) (by omega) (qG 0)
 obtain⟨m7,c7,e7,t7,z7⟩:=St.fldAny t6 z6 (o:=19) (by omega) (jf 5 16 65535 1)
 obtain⟨m8,c8,e8,t8,z8⟩:=St.fldAny t7 z7 (o:=25) (by omega) (jf 21 2 3 1)
 obtain⟨mZ,hZ⟩:=qh2 ((behind (behind (behind (behind (behind (behind m2 m3) m4) m5) m6) m7) m8))
 rw[<-hZ]at t8
 obtain⟨L,hL⟩:=qh2 (wQ B [qG 0,qH,qH,jf 5 16 65535 1,jf 21 2 3 1])
 obtain⟨ll,mY,e1,l9,E⟩:=zK t8 z8 (L:=L) (by rw[hL];rfl) (by rw[hL];exact ja _ _)
 rw[<-hB,<-hL,<-hk]
 clear hB
 rcases h with rfl | rfl<;>(simp at hk;subst hk;simp[a1,b1,l0,hb0,hb1,fY,fZ,ga,ge,gg,c3,e3,c4,e4,c5,e5,c6,e6,c7,e7,c8,e8,qd,ll,e1,<-hZ];exact qT (a:=⟨m.n,0,none⟩) (by simp) l9 E (by simp))
theorem row_B (n:Nat)(op:Nat)(h:op=3\/op=4\/op=5\/op=6\/op=7\/op=8\/op=9\/op=10\/op=11)(m:M)(hm:m.base<=m.n):CallV (ex Tryz.prog (n+2)) 62 [.int .i64 op] m (.tuple #[.agg ⟨wQ (zW op) [qG 0,qG 5,qG 16,qH,qH]⟩,.bool true]):=by
 refine qj jj (by simp) ?_
 obtain⟨k,hk⟩:∃k:Int,k=(op:Int):=⟨_,rfl⟩
 obtain⟨m1,m2,B,hB,a1,b1,l0,st2,hb0,hb1⟩:=zL n hk (by omega) hm
 obtain⟨v3,m3,c3,e3,g3,rfl⟩:=qm (zG n 0 (qg m2) (qI _))
 obtain⟨v4,m4,c4,e4,g4,rfl⟩:=qm (zG n 5 (qg (behind m2 m3)) (qI _))
 obtain⟨v5,m5,c5,e5,g5,rfl⟩:=qm (zG n 16 (qg (behind (behind m2 m3) m4)) (qI _))
 obtain⟨m6,c6,e6,t6,z6⟩:=St.fldAny (((st2.step g3).step g4).step g5) rfl (o:=1) (by omega) (qG 0)
 obtain⟨m7,c7,e7,t7,z7⟩:=St.fldAny t6 z6 (o:=7) (by omega) (qG 5)
 obtain⟨m8,c8,e8,t8,z8⟩:=St.fldAny t7 z7 (o:=13) (by omega) (qG 16)
 obtain⟨mZ,hZ⟩:=qh2 ((behind (behind (behind (behind (behind (behind m2 m3) m4) m5) m6) m7) m8))
 rw[<-hZ]at t8
 obtain⟨L,hL⟩:=qh2 (wQ B [qG 0,qG 5,qG 16,qH,qH])
 obtain⟨ll,mY,e1,l9,E⟩:=zK t8 z8 (L:=L) (by rw[hL];rfl) (by rw[hL];exact ja _ _)
 rw[<-hB,<-hL,<-hk]
 clear hB
 rcases h with rfl | rfl | rfl | rfl | rfl | rfl | rfl | rfl | rfl<;>(simp at hk;subst hk;simp[a1,b1,l0,hb0,hb1,fY,fZ,ga,ge,gg,c3,e3,c4,e4,c5,e5,c6,e6,c7,e7,c8,e8,qd,ll,e1,<-hZ];exact qT (a:=⟨m.n,0,none⟩) (by simp) l9 E (by simp))
theorem row_C (n:Nat)(op:Nat)(h:op=12\/op=13)(m:M)(hm:m.base<=m.n):CallV (ex Tryz.prog (n+2)) 62 [.int .i64 op] m (.tuple #[.agg ⟨wQ (zW op) [zo 0,zo 5,qH,jf 10 12 4095 1,qH]⟩,.bool true]):=by
 refine qj jj (by simp) ?_
 obtain⟨k,hk⟩:∃k:Int,k=(op:Int):=⟨_,rfl⟩
 obtain⟨m1,m2,B,hB,a1,b1,l0,st2,hb0,hb1⟩:=zL n hk (by omega) hm
 obtain⟨v3,m3,c3,e3,g3,rfl⟩:=qm (reg_c n 0 (qg m2) (qI _))
 obtain⟨v4,m4,c4,e4,g4,rfl⟩:=qm (reg_c n 5 (qg (behind m2 m3)) (qI _))
 obtain⟨v5,m5,c5,e5,g5,rfl⟩:=qm (xE n 10 12 4095 1 (qg (behind (behind m2 m3) m4)) (qI _))
 obtain⟨m6,c6,e6,t6,z6⟩:=St.fldAny (((st2.step g3).step g4).step g5) rfl (o:=1) (by omega) (zo 0)
 obtain⟨m7,c7,e7,t7,z7⟩:=St.fldAny t6 z6 (o:=7) (by omega) (zo 5)
 obtain⟨m8,c8,e8,t8,z8⟩:=St.fldAny t7 z7 (o:=19) (by omega) (jf 10 12 4095 1)
 obtain⟨mZ,hZ⟩:=qh2 ((behind (behind (behind (behind (behind (behind m2 m3) m4) m5) m6) m7) m8))
 rw[<-hZ]at t8
 obtain⟨L,hL⟩:=qh2 (wQ B [zo 0,zo 5,qH,jf 10 12 4095 1,qH])
 obtain⟨ll,mY,e1,l9,E⟩:=zK t8 z8 (L:=L) (by rw[hL];rfl) (by rw[hL];exact ja _ _)
 rw[<-hB,<-hL,<-hk]
 clear hB
 rcases h with rfl | rfl<;>(simp at hk;subst hk;simp[a1,b1,l0,hb0,hb1,fY,fZ,ga,ge,gg,c3,e3,c4,e4,c5,e5,c6,e6,c7,e7,c8,e8,qd,ll,e1,<-hZ];exact qT (a:=⟨m.n,0,none⟩) (by simp) l9 E (by simp))
theorem row_D (n:Nat)(op:Nat)(h:op=14)(m:M)(hm:m.base<=m.n):CallV (ex Tryz.prog (n+2)) 62 [.int .i64 op] m (.tuple #[.agg ⟨wQ (zW op) [qG 0,qG 5,qH,jf 0 0 63 1,qH]⟩,.bool true]):=by
 refine qj jj (by simp) ?_
 obtain⟨k,hk⟩:∃k:Int,k=(op:Int):=⟨_,rfl⟩
 obtain⟨m1,m2,B,hB,a1,b1,l0,st2,hb0,hb1⟩:=zL n hk (by omega) hm
 obtain⟨v3,m3,c3,e3,g3,rfl⟩:=qm (zG n 0 (qg m2) (qI _))
 obtain⟨v4,m4,c4,e4,g4,rfl⟩:=qm (zG n 5 (qg (behind m2 m3)) (qI _))
 obtain⟨v5,m5,c5,e5,g5,rfl⟩:=qm (xE n 0 0 63 1 (qg (behind (behind m2 m3) m4)) (qI _))
 obtain⟨m6,c6,e6,t6,z6⟩:=St.fldAny (((st2.step g3).step g4).step g5) rfl (o:=1) (by omega) (qG 0)
 obtain⟨m7,c7,e7,t7,z7⟩:=St.fldAny t6 z6 (o:=7) (by omega) (qG 5)
 obtain⟨m8,c8,e8,t8,z8⟩:=St.fldAny t7 z7 (o:=19) (by omega) (jf 0 0 63 1)
 obtain⟨mZ,hZ⟩:=qh2 ((behind (behind (behind (behind (behind (behind m2 m3) m4) m5) m6) m7) m8))
 rw[<-hZ]at t8
 obtain⟨L,hL⟩:=qh2 (wQ B [qG 0,qG 5,qH,jf 0 0 63 1,qH])
 obtain⟨ll,mY,e1,l9,E⟩:=zK t8 z8 (L:=L) (by rw[hL];rfl) (by rw[hL];exact ja _ _)
 rw[<-hB,<-hL,<-hk]
 clear hB
 rcases h with rfl<;>(simp at hk;subst hk;simp[a1,b1,l0,hb0,hb1,fY,fZ,ga,ge,gg,c3,e3,c4,e4,c5,e5,c6,e6,c7,e7,c8,e8,qd,ll,e1,<-hZ];exact qT (a:=⟨m.n,0,none⟩) (by simp) l9 E (by simp))
theorem row_E (n:Nat)(op:Nat)(h:op=15)(m:M)(hm:m.base<=m.n):CallV (ex Tryz.prog (n+2)) 62 [.int .i64 op] m (.tuple #[.agg ⟨wQ (zW op) [qG 0,qG 5,qH,jf 16 6 63 1,qH]⟩,.bool true]):=by
 refine qj jj (by simp) ?_
 obtain⟨k,hk⟩:∃k:Int,k=(op:Int):=⟨_,rfl⟩
 obtain⟨m1,m2,B,hB,a1,b1,l0,st2,hb0,hb1⟩:=zL n hk (by omega) hm
 obtain⟨v3,m3,c3,e3,g3,rfl⟩:=qm (zG n 0 (qg m2) (qI _))
 obtain⟨v4,m4,c4,e4,g4,rfl⟩:=qm (zG n 5 (qg (behind m2 m3)) (qI _))
 obtain⟨v5,m5,c5,e5,g5,rfl⟩:=qm (xE n 16 6 63 1 (qg (behind (behind m2 m3) m4)) (qI _))
 obtain⟨m6,c6,e6,t6,z6⟩:=St.fldAny (((st2.step g3).step g4).step g5) rfl (o:=1) (by omega) (qG 0)
 obtain⟨m7,c7,e7,t7,z7⟩:=St.fldAny t6 z6 (o:=7) (by omega) (qG 5)
 obtain⟨m8,c8,e8,t8,z8⟩:=St.fldAny t7 z7 (o:=19) (by omega) (jf 16 6 63 1)
 obtain⟨mZ,hZ⟩:=qh2 ((behind (behind (behind (behind (behind (behind m2 m3) m4) m5) m6) m7) m8))
 rw[<-hZ]at t8
 obtain⟨L,hL⟩:=qh2 (wQ B [qG 0,qG 5,qH,jf 16 6 63 1,qH])
 obtain⟨ll,mY,e1,l9,E⟩:=zK t8 z8 (L:=L) (by rw[hL];rfl) (by rw[hL];exact ja _ _)
 rw[<-hB,<-hL,<-hk]
 clear hB
 rcases h with rfl<;>(simp at hk;subst hk;simp[a1,b1,l0,hb0,hb1,fY,fZ,ga,ge,gg,c3,e3,c4,e4,c5,e5,c6,e6,c7,e7,c8,e8,qd,ll,e1,<-hZ];exact qT (a:=⟨m.n,0,none⟩) (by simp) l9 E (by simp))
theorem row_F (n:Nat)(op:Nat)(h:op=16)(m:M)(hm:m.base<=m.n):CallV (ex Tryz.prog (n+2)) 62 [.int .i64 op] m (.tuple #[.agg ⟨wQ (zW op) [qH,qG 5,qG 16,qH,qH]⟩,.bool true]):=by
 refine qj jj (by simp) ?_
 obtain⟨k,hk⟩:∃k:Int,k=(op:Int):=⟨_,rfl⟩
 obtain⟨m1,m2,B,hB,a1,b1,l0,st2,hb0,hb1⟩:=zL n hk (by omega) hm
 obtain⟨v3,m3,c3,e3,g3,rfl⟩:=qm (zG n 5 (qg m2) (qI _))
 obtain⟨v4,m4,c4,e4,g4,rfl⟩:=qm (zG n 16 (qg (behind m2 m3)) (qI _))
 obtain⟨m5,c5,e5,t5,z5⟩:=St.fldAny ((st2.step g3).step g4) rfl (o:=7) (by omega) (qG 5)
 obtain⟨m6,c6,e6,t6,z6⟩:=St.fldAny t5 z5 (o:=13) (by omega) (qG 16)
 obtain⟨mZ,hZ⟩:=qh2 ((behind (behind (behind (behind m2 m3) m4) m5) m6))
 rw[<-hZ]at t6
 obtain⟨L,hL⟩:=qh2 (wQ B [qH,qG 5,qG 16,qH,qH])
 obtain⟨ll,mY,e1,l9,E⟩:=zK t6 z6 (L:=L) (by rw[hL];rfl) (by rw[hL];exact ja _ _)
 rw[<-hB,<-hL,<-hk]
 clear hB
 rcases h with rfl<;>(simp at hk;subst hk;simp[a1,b1,l0,hb0,hb1,fY,fZ,ga,ge,gg,c3,e3,c4,e4,c5,e5,c6,e6,qd,ll,e1,<-hZ];exact qT (a:=⟨m.n,0,none⟩) (by simp) l9 E (by simp))
theorem row_G (n:Nat)(op:Nat)(h:op=17)(m:M)(hm:m.base<=m.n):CallV (ex Tryz.prog (n+2)) 62 [.int .i64 op] m (.tuple #[.agg ⟨wQ (zW op) [qG 0,qH,qH,qH,XT]⟩,.bool true]):=by
 refine qj jj (by simp) ?_
 obtain⟨k,hk⟩:∃k:Int,k=(op:Int):=⟨_,rfl⟩
 obtain⟨m1,m2,B,hB,a1,b1,l0,st2,hb0,hb1⟩:=zL n hk (by omega) hm
 obtain⟨v3,m3,c3,e3,g3,rfl⟩:=qm (zG n 0 (qg m2) (qI _))
 obtain⟨m4,c4,e4,t4,z4⟩:=St.fldAny (st2.step g3) rfl (o:=1) (by omega) (qG 0)
 obtain⟨m5,c5,e5,t5,z5⟩:=St.fldAny t4 z4 (o:=25) (by omega) (XT)
 obtain⟨mZ,hZ⟩:=qh2 ((behind (behind (behind m2 m3) m4) m5))
 rw[<-hZ]at t5
 obtain⟨L,hL⟩:=qh2 (wQ B [qG 0,qH,qH,qH,XT])
 obtain⟨ll,mY,e1,l9,E⟩:=zK t5 z5 (L:=L) (by rw[hL];rfl) (by rw[hL];exact ja _ _)
 rw[<-hB,<-hL,<-hk]
 have bt:wN z6 [(0,1,.int .i64 12),(1,1,.int .i64 4),(3,1,.int .i64 13),(4,1,.int .i64 1),(5,1,.bool true)]=some (.agg ⟨kz XT⟩):=rfl
 clear hB
 rcases h with rfl<;>(simp at hk;subst hk;simp[a1,b1,l0,hb0,hb1,fY,fZ,ga,ge,gg,c3,e3,c4,e4,c5,e5,qd,ll,e1,<-hZ,bt];exact qT (a:=⟨m.n,0,none⟩) (by simp) l9 E (by simp))
theorem row_H (n:Nat)(op:Nat)(h:op=18)(m:M)(hm:m.base<=m.n):CallV (ex Tryz.prog (n+2)) 62 [.int .i64 op] m (.tuple #[.agg ⟨wQ (zW op) [qH,qH,qH,WJ,qH]⟩,.bool true]):=by
 refine qj jj (by simp) ?_
 obtain⟨k,hk⟩:∃k:Int,k=(op:Int):=⟨_,rfl⟩
 obtain⟨m1,m2,B,hB,a1,b1,l0,st2,hb0,hb1⟩:=zL n hk (by omega) hm
 obtain⟨v3,m3,c3,e3,g3,rfl⟩:=qm (qe9 n  (qg m2) (qI _))
 obtain⟨m4,c4,e4,t4,z4⟩:=St.fldAny (st2.step g3) rfl (o:=19) (by omega) (WJ)
 obtain⟨mZ,hZ⟩:=qh2 ((behind (behind m2 m3) m4))
 rw[<-hZ]at t4
 obtain⟨L,hL⟩:=qh2 (wQ B [qH,qH,qH,WJ,qH])
 obtain⟨ll,mY,e1,l9,E⟩:=zK t4 z4 (L:=L) (by rw[hL];rfl) (by rw[hL];exact ja _ _)
 rw[<-hB,<-hL,<-hk]
 clear hB
 rcases h with rfl<;>(simp at hk;subst hk;simp[a1,b1,l0,hb0,hb1,fY,fZ,ga,ge,gg,c3,e3,c4,e4,qd,ll,e1,<-hZ];exact qT (a:=⟨m.n,0,none⟩) (by simp) l9 E (by simp))
theorem row_I (n:Nat)(op:Nat)(h:op=19)(m:M)(hm:m.base<=m.n):CallV (ex Tryz.prog (n+2)) 62 [.int .i64 op] m (.tuple #[.agg ⟨wQ (zW op) [qH,qH,qH,yY,jf 0 4 13 1]⟩,.bool true]):=by
 refine qj jj (by simp) ?_
 obtain⟨k,hk⟩:∃k:Int,k=(op:Int):=⟨_,rfl⟩
 obtain⟨m1,m2,B,hB,a1,b1,l0,st2,hb0,hb1⟩:=zL n hk (by omega) hm
 obtain⟨v3,m3,c3,e3,g3,rfl⟩:=qm (Fo n  (qg m2) (qI _))
 obtain⟨v4,m4,c4,e4,g4,rfl⟩:=qm (xE n 0 4 13 1 (qg (behind m2 m3)) (qI _))
 obtain⟨m5,c5,e5,t5,z5⟩:=St.fldAny ((st2.step g3).step g4) rfl (o:=19) (by omega) (yY)
 obtain⟨m6,c6,e6,t6,z6⟩:=St.fldAny t5 z5 (o:=25) (by omega) (jf 0 4 13 1)
 obtain⟨mZ,hZ⟩:=qh2 ((behind (behind (behind (behind m2 m3) m4) m5) m6))
 rw[<-hZ]at t6
 obtain⟨L,hL⟩:=qh2 (wQ B [qH,qH,qH,yY,jf 0 4 13 1])
 obtain⟨ll,mY,e1,l9,E⟩:=zK t6 z6 (L:=L) (by rw[hL];rfl) (by rw[hL];exact ja _ _)
 rw[<-hB,<-hL,<-hk]
 clear hB
 rcases h with rfl<;>(simp at hk;subst hk;simp[a1,b1,l0,hb0,hb1,fY,fZ,ga,ge,gg,c3,e3,c4,e4,c5,e5,c6,e6,qd,ll,e1,<-hZ];exact qT (a:=⟨m.n,0,none⟩) (by simp) l9 E (by simp))
theorem row_J (n:Nat)(op:Nat)(h:op=20\/op=21)(m:M)(hm:m.base<=m.n):CallV (ex Tryz.prog (n+2)) 62 [.int .i64 op] m (.tuple #[.agg ⟨wQ (zW op) [qG 0,qH,qH,yY,qH]⟩,.bool true]):=by
 refine qj jj (by simp) ?_
 obtain⟨k,hk⟩:∃k:Int,k=(op:Int):=⟨_,rfl⟩
 obtain⟨m1,m2,B,hB,a1,b1,l0,st2,hb0,hb1⟩:=zL n hk (by omega) hm
 obtain⟨v3,m3,c3,e3,g3,rfl⟩:=qm (zG n 0 (qg m2) (qI _))
 obtain⟨v4,m4,c4,e4,g4,rfl⟩:=qm (Fo n  (qg (behind m2 m3)) (qI _))
 obtain⟨m5,c5,e5,t5,z5⟩:=St.fldAny ((st2.step g3).step g4) rfl (o:=1) (by omega) (qG 0)
 obtain⟨m6,c6,e6,t6,z6⟩:=St.fldAny t5 z5 (o:=19) (by omega) (yY)
 obtain⟨mZ,hZ⟩:=qh2 ((behind (behind (behind (behind m2 m3) m4) m5) m6))
 rw[<-hZ]at t6
 obtain⟨L,hL⟩:=qh2 (wQ B [qG 0,qH,qH,yY,qH])
 obtain⟨ll,mY,e1,l9,E⟩:=zK t6 z6 (L:=L) (by rw[hL];rfl) (by rw[hL];exact ja _ _)
 rw[<-hB,<-hL,<-hk]
 clear hB
 rcases h with rfl | rfl<;>(simp at hk;subst hk;simp[a1,b1,l0,hb0,hb1,fY,fZ,ga,ge,gg,c3,e3,c4,e4,c5,e5,c6,e6,qd,ll,e1,<-hZ];exact qT (a:=⟨m.n,0,none⟩) (by simp) l9 E (by simp))
theorem row_K (n:Nat)(op:Nat)(h:op=22\/op=23)(m:M)(hm:m.base<=m.n):CallV (ex Tryz.prog (n+2)) 62 [.int .i64 op] m (.tuple #[.agg ⟨wQ (zW op) [qG 0,zo 5,qH,jf 10 12 32760 8,qH]⟩,.bool true]):=by
 refine qj jj (by simp) ?_
 obtain⟨k,hk⟩:∃k:Int,k=(op:Int):=⟨_,rfl⟩
 obtain⟨m1,m2,B,hB,a1,b1,l0,st2,hb0,hb1⟩:=zL n hk (by omega) hm
 obtain⟨v3,m3,c3,e3,g3,rfl⟩:=qm (zG n 0 (qg m2) (qI _))
 obtain⟨v4,m4,c4,e4,g4,rfl⟩:=qm (reg_c n 5 (qg (behind m2 m3)) (qI _))
 obtain⟨v5,m5,c5,e5,g5,rfl⟩:=qm (xE n 10 12 32760 8 (qg (behind (behind m2 m3) m4)) (qI _))
 obtain⟨m6,c6,e6,t6,z6⟩:=St.fldAny (((st2.step g3).step g4).step g5) rfl (o:=1) (by omega) (qG 0)
 obtain⟨m7,c7,e7,t7,z7⟩:=St.fldAny t6 z6 (o:=7) (by omega) (zo 5)
 obtain⟨m8,c8,e8,t8,z8⟩:=St.fldAny t7 z7 (o:=19) (by omega) (jf 10 12 32760 8)
 obtain⟨mZ,hZ⟩:=qh2 ((behind (behind (behind (behind (behind (behind m2 m3) m4) m5) m6) m7) m8))
 rw[<-hZ]at t8
 obtain⟨L,hL⟩:=qh2 (wQ B [qG 0,zo 5,qH,jf 10 12 32760 8,qH])
 obtain⟨ll,mY,e1,l9,E⟩:=zK t8 z8 (L:=L) (by rw[hL];rfl) (by rw[hL];exact ja _ _)
 rw[<-hB,<-hL,<-hk]
 clear hB
 rcases h with rfl | rfl<;>(simp at hk;subst hk;simp[a1,b1,l0,hb0,hb1,fY,fZ,ga,ge,gg,c3,e3,c4,e4,c5,e5,c6,e6,c7,e7,c8,e8,qd,ll,e1,<-hZ];exact qT (a:=⟨m.n,0,none⟩) (by simp) l9 E (by simp))
theorem row_L (n:Nat)(op:Nat)(h:op=24\/op=25\/op=26\/op=27\/op=35)(m:M)(hm:m.base<=m.n):CallV (ex Tryz.prog (n+2)) 62 [.int .i64 op] m (.tuple #[.agg ⟨wQ (zW op) [qG 0,zo 5,qH,qH,qH]⟩,.bool true]):=by
 refine qj jj (by simp) ?_
 obtain⟨k,hk⟩:∃k:Int,k=(op:Int):=⟨_,rfl⟩
 obtain⟨m1,m2,B,hB,a1,b1,l0,st2,hb0,hb1⟩:=zL n hk (by omega) hm
 obtain⟨v3,m3,c3,e3,g3,rfl⟩:=qm (zG n 0 (qg m2) (qI _))
 obtain⟨v4,m4,c4,e4,g4,rfl⟩:=qm (reg_c n 5 (qg (behind m2 m3)) (qI _))
 obtain⟨m5,c5,e5,t5,z5⟩:=St.fldAny ((st2.step g3).step g4) rfl (o:=1) (by omega) (qG 0)
 obtain⟨m6,c6,e6,t6,z6⟩:=St.fldAny t5 z5 (o:=7) (by omega) (zo 5)
 obtain⟨mZ,hZ⟩:=qh2 ((behind (behind (behind (behind m2 m3) m4) m5) m6))
 rw[<-hZ]at t6
 obtain⟨L,hL⟩:=qh2 (wQ B [qG 0,zo 5,qH,qH,qH])
 obtain⟨ll,mY,e1,l9,E⟩:=zK t6 z6 (L:=L) (by rw[hL];rfl) (by rw[hL];exact ja _ _)
 rw[<-hB,<-hL,<-hk]
 clear hB
 rcases h with rfl | rfl | rfl | rfl | rfl<;>(simp at hk;subst hk;simp[a1,b1,l0,hb0,hb1,fY,fZ,ga,ge,gg,c3,e3,c4,e4,c5,e5,c6,e6,qd,ll,e1,<-hZ];exact qT (a:=⟨m.n,0,none⟩) (by simp) l9 E (by simp))
theorem row_M (n:Nat)(op:Nat)(h:op=28\/op=29)(m:M)(hm:m.base<=m.n):CallV (ex Tryz.prog (n+2)) 62 [.int .i64 op] m (.tuple #[.agg ⟨wQ (zW op) [qG 0,zo 5,zo 16,qH,qH]⟩,.bool true]):=by
 refine qj jj (by simp) ?_
 obtain⟨k,hk⟩:∃k:Int,k=(op:Int):=⟨_,rfl⟩
 obtain⟨m1,m2,B,hB,a1,b1,l0,st2,hb0,hb1⟩:=zL n hk (by omega) hm
 obtain⟨v3,m3,c3,e3,g3,rfl⟩:=qm (zG n 0 (qg m2) (qI _))
 obtain⟨v4,m4,c4,e4,g4,rfl⟩:=qm (reg_c n 5 (qg (behind m2 m3)) (qI _))
 obtain⟨v5,m5,c5,e5,g5,rfl⟩:=qm (reg_c n 16 (qg (behind (behind m2 m3) m4)) (qI _))
 obtain⟨m6,c6,e6,t6,z6⟩:=St.fldAny (((st2.step g3).step g4).step g5) rfl (o:=1) (by omega) (qG 0)
 obtain⟨m7,c7,e7,t7,z7⟩:=St.fldAny t6 z6 (o:=7) (by omega) (zo 5)
 obtain⟨m8,c8,e8,t8,z8⟩:=St.fldAny t7 z7 (o:=13) (by omega) (zo 16)
 obtain⟨mZ,hZ⟩:=qh2 ((behind (behind (behind (behind (behind (behind m2 m3) m4) m5) m6) m7) m8))
 rw[<-hZ]at t8
 obtain⟨L,hL⟩:=qh2 (wQ B [qG 0,zo 5,zo 16,qH,qH])
 obtain⟨ll,mY,e1,l9,E⟩:=zK t8 z8 (L:=L) (by rw[hL];rfl) (by rw[hL];exact ja _ _)
 rw[<-hB,<-hL,<-hk]
 clear hB
 rcases h with rfl | rfl<;>(simp at hk;subst hk;simp[a1,b1,l0,hb0,hb1,fY,fZ,ga,ge,gg,c3,e3,c4,e4,c5,e5,c6,e6,c7,e7,c8,e8,qd,ll,e1,<-hZ];exact qT (a:=⟨m.n,0,none⟩) (by simp) l9 E (by simp))
theorem row_N (n:Nat)(op:Nat)(h:op=33)(m:M)(hm:m.base<=m.n):CallV (ex Tryz.prog (n+2)) 62 [.int .i64 op] m (.tuple #[.agg ⟨wQ (zW op) [qH,qH,qH,jf 5 16 30 1,qH]⟩,.bool true]):=by
 refine qj jj (by simp) ?_
 obtain⟨k,hk⟩:∃k:Int,k=(op:Int):=⟨_,rfl⟩
 obtain⟨m1,m2,B,hB,a1,b1,l0,st2,hb0,hb1⟩:=zL n hk (by omega) hm
 obtain⟨v3,m3,c3,e3,g3,rfl⟩:=qm (xE n 5 16 30 1 (qg m2) (qI _))
 obtain⟨m4,c4,e4,t4,z4⟩:=St.fldAny (st2.step g3) rfl (o:=19) (by omega) (jf 5 16 30 1)
 obtain⟨mZ,hZ⟩:=qh2 ((behind (behind m2 m3) m4))
 rw[<-hZ]at t4
 obtain⟨L,hL⟩:=qh2 (wQ B [qH,qH,qH,jf 5 16 30 1,qH])
 obtain⟨ll,mY,e1,l9,E⟩:=zK t4 z4 (L:=L) (by rw[hL];rfl) (by rw[hL];exact ja _ _)
 rw[<-hB,<-hL,<-hk]
 clear hB
 rcases h with rfl<;>(simp at hk;subst hk;simp[a1,b1,l0,hb0,hb1,fY,fZ,ga,ge,gg,c3,e3,c4,e4,qd,ll,e1,<-hZ];exact qT (a:=⟨m.n,0,none⟩) (by simp) l9 E (by simp))
theorem row_O (n:Nat)(op:Nat)(h:op=36\/op=37\/op=38\/op=39)(m:M)(hm:m.base<=m.n):CallV (ex Tryz.prog (n+2)) 62 [.int .i64 op] m (.tuple #[.agg ⟨wQ (zW op) [qG 0,zo 5,zo 16,qH,qH]⟩,.bool true]):=by
 refine qj jj (by simp) ?_
 obtain⟨k,hk⟩:∃k:Int,k=(op:Int):=⟨_,rfl⟩
 obtain⟨m1,m2,B,hB,a1,b1,l0,st2,hb0,hb1⟩:=zL n hk (by omega) hm
 obtain⟨v3,m3,c3,e3,g3,rfl⟩:=qm (zG n 0 (qg m2) (qI _))
 obtain⟨v4,m4,c4,e4,g4,rfl⟩:=qm (reg_c n 5 (qg (behind m2 m3)) (qI _))
 obtain⟨v5,m5,c5,e5,g5,rfl⟩:=qm (reg_c n 16 (qg (behind (behind m2 m3) m4)) (qI _))
 obtain⟨m6,c6,e6,t6,z6⟩:=St.fldAny (((st2.step g3).step g4).step g5) rfl (o:=1) (by omega) (qG 0)
 obtain⟨m7,c7,e7,t7,z7⟩:=St.fldAny t6 z6 (o:=7) (by omega) (zo 5)
 obtain⟨m8,c8,e8,t8,z8⟩:=St.fldAny t7 z7 (o:=13) (by omega) (zo 16)
 obtain⟨mZ,hZ⟩:=qh2 ((behind (behind (behind (behind (behind (behind m2 m3) m4) m5) m6) m7) m8))
 rw[<-hZ]at t8
 obtain⟨L,hL⟩:=qh2 (wQ B [qG 0,zo 5,zo 16,qH,qH])
 obtain⟨ll,mY,e1,l9,E⟩:=zK t8 z8 (L:=L) (by rw[hL];rfl) (by rw[hL];exact ja _ _)
 rw[<-hB,<-hL,<-hk]
 clear hB
 rcases h with rfl | rfl | rfl | rfl<;>(simp at hk;subst hk;simp[a1,b1,l0,hb0,hb1,fY,fZ,ga,ge,gg,c3,e3,c4,e4,c5,e5,c6,e6,c7,e7,c8,e8,qd,ll,e1,<-hZ];exact qT (a:=⟨m.n,0,none⟩) (by simp) l9 E (by simp))
theorem row_P (n:Nat)(op:Nat)(h:op=40\/op=41\/op=42\/op=43\/op=44\/op=45\/op=46\/op=47)(m:M)(hm:m.base<=m.n):CallV (ex Tryz.prog (n+2)) 62 [.int .i64 op] m (.tuple #[.agg ⟨wQ (zW op) [zo 0,zo 5,qG 16,qH,qH]⟩,.bool true]):=by
 refine qj jj (by simp) ?_
 obtain⟨k,hk⟩:∃k:Int,k=(op:Int):=⟨_,rfl⟩
 obtain⟨m1,m2,B,hB,a1,b1,l0,st2,hb0,hb1⟩:=zL n hk (by omega) hm
 obtain⟨v3,m3,c3,e3,g3,rfl⟩:=qm (reg_c n 0 (qg m2) (qI _))
 obtain⟨v4,m4,c4,e4,g4,rfl⟩:=qm (reg_c n 5 (qg (behind m2 m3)) (qI _))
 obtain⟨v5,m5,c5,e5,g5,rfl⟩:=qm (zG n 16 (qg (behind (behind m2 m3) m4)) (qI _))
 obtain⟨m6,c6,e6,t6,z6⟩:=St.fldAny (((st2.step g3).step g4).step g5) rfl (o:=1) (by omega) (zo 0)
 obtain⟨m7,c7,e7,t7,z7⟩:=St.fldAny t6 z6 (o:=7) (by omega) (zo 5)
 obtain⟨m8,c8,e8,t8,z8⟩:=St.fldAny t7 z7 (o:=13) (by omega) (qG 16)
 obtain⟨mZ,hZ⟩:=qh2 ((behind (behind (behind (behind (behind (behind m2 m3) m4) m5) m6) m7) m8))
 rw[<-hZ]at t8
 obtain⟨L,hL⟩:=qh2 (wQ B [zo 0,zo 5,qG 16,qH,qH])
 obtain⟨ll,mY,e1,l9,E⟩:=zK t8 z8 (L:=L) (by rw[hL];rfl) (by rw[hL];exact ja _ _)
 rw[<-hB,<-hL,<-hk]
 clear hB
 rcases h with rfl | rfl | rfl | rfl | rfl | rfl | rfl | rfl<;>(simp at hk;subst hk;simp[a1,b1,l0,hb0,hb1,fY,fZ,ga,ge,gg,c3,e3,c4,e4,c5,e5,c6,e6,c7,e7,c8,e8,qd,ll,e1,<-hZ];exact qT (a:=⟨m.n,0,none⟩) (by simp) l9 E (by simp))
end Go.Sx
namespace Go.Dx
theorem xU (k:IntKind)(a b:Int):ky .and (.int k a) (.int k b)=some (.int k (bits .and k a b)):=by rw[wW];rfl
theorem QY (k:IntKind)(a b:Int):ky .or (.int k a) (.int k b)=some (.int k (bits .or k a b)):=by rw[wW];rfl
theorem Ku (k:IntKind)(a b:Int):ky .xor (.int k a) (.int k b)=some (.int k (bits .xor k a b)):=by rw[wW];rfl
theorem xh (k:IntKind)(a b:Int):ky .mul (.int k a) (.int k b)=some (.int k (k.wrap (a*b))):=by
 rw[wW]
 show some (Value.int k (yj k (a*b)))=_
 rw[jD]
theorem gu (k:IntKind)(a b:Int)(h:b≠0):ky .quo (.int k a) (.int k b)=some (.int k (k.wrap (a.tdiv b))):=by
 rw[wW]
 show zV (Op.intDiv .quo k a b)=_
 unfold Op.intDiv
 rw[if_neg h];rfl
theorem jK (k:IntKind)(a b:Int)(h:b≠0):ky .rem (.int k a) (.int k b)=some (.int k (a.tmod b)):=by
 rw[wW]
 show zV (Op.intDiv .rem k a b)=_
 unfold Op.intDiv
 rw[if_neg h];rfl
theorem wV (k k':IntKind)(a:Int):xH k (.int k' a)=some (.int k (k.wrap a)):=by
 show some (Value.int k (yj k a))=_
 rw[jD]
end Go.Dx
namespace Go.Sx
open Go.Dx Go.Proofs
set_option maxRecDepth 10000
structure Ins where
 op:Int
 rd:Int
 rn:Int
 rm:Int
 imm:Int
 cond:Int
 deriving DecidableEq
def qv (i:Ins):List Value:=[iv i.op,iv i.rd,iv i.rn,iv i.rm,iv i.imm,iv i.cond]
theorem jV (i:Ins):∀v∈qv i,okC v=true:=by simp[qv,okC]
def VB:Ins:=⟨0,0,0,0,0,0⟩
def Qx (i:Ins):List Value:=[iv i.rd,iv i.rn,iv i.rm,iv i.imm,iv i.cond]
def Bx (f:Fld):Prop:=0<=f.at_/\0<=f.width/\(f.width≠0->f.step≠0)
def Kk (f:Fld):Int:=IntKind.u32.wrap (IntKind.u32.wrap (1*2^(min f.width.toNat 32))-1)
def VY (f:Fld)(w:Int):Int:=IntKind.i64.wrap (bits .and .u32 (w.fdiv (2^(min f.at_.toNat 32))) (Kk f))
def Xz (f:Fld)(w:Int):Int:=if f.turned then bits .xor .i64 (VY f w) 1 else VY f w
def Be (f:Fld)(w:Int):Int :=
 if f.lo<0/\Xz f w>=IntKind.i64.wrap (1*2^(min (IntKind.i64.wrap (f.width-1)).toNat 64)) then IntKind.i64.wrap (Xz f w-IntKind.i64.wrap (1*2^(min f.width.toNat 64))) else Xz f w
def rdF (f:Fld)(w:Int):Int:=if f.width=0 then 0 else IntKind.i64.wrap (Be f w*f.step)
def inF (f:Fld)(v:Int):Bool:=if f.step=0 then decide (v=0) else decide (f.lo<=v)&&decide (v<=f.hi)&&decide (v.tmod f.step=0)
def Xb (f:Fld)(v:Int):Int:=bits .and .u32 (IntKind.u32.wrap (IntKind.i64.wrap (v.tdiv f.step))) (Kk f)
def Qq (f:Fld)(v:Int):Int:=if f.turned then bits .xor .u32 (Xb f v) 1 else Xb f v
def dD (f:Fld)(v:Int):Int:=if f.width=0 then 0 else IntKind.u32.wrap (Qq f v*2^(min f.at_.toNat 32))
theorem in_c (n:Nat)(f:Fld)(v:Int)(m:M)(hm:m.base<=m.n):CallV (ex Tryz.prog (n+1)) 86 [.agg ⟨kz f⟩,iv v] m (.bool (inF f v)):=by
 refine qj dh3_ok (by simp) ?_
 have l:∀o,load1 (Dx.newRow m (kz f)) ⟨m.n,o,none⟩=(kz f)[o]?:=λo=>KQ m (kz f) o
 have l2:=l 2;have l3:=l 3;have l4:=l 4
 simp only[kz,List.getElem?_cons_succ,List.getElem?_cons_zero]at l2 l3 l4
 have E:Ext m (Dx.newRow m (kz f)):=Ext.row _ _
 obtain⟨m1,hm1⟩:=qh2 (Dx.newRow m (kz f))
 have hb:jv (.agg ⟨kz f⟩) m=some (.pointer (some ⟨m.n,0,none⟩),m1):=by rw[hm1];rfl
 rw[show Dx.newRow m [iv f.at_,iv f.width,iv f.lo,iv f.hi,iv f.step,.bool f.turned]=m1 from hm1.symm]at l2 l3 l4
 rw[<-hm1]at E
 by_cases h0:f.step=0
 .simp[hb,l2,l3,l4,h0]
  exact qx E (by simp[inF,h0])
 .by_cases h1:f.lo<=v
  .by_cases h2:v<=f.hi
   .have hr:=jK .i64 v f.step h0
    simp[hb,l2,l3,l4,h0,h1,h2,hr]
    exact qx E (by simp[inF,h0,h1,h2])
   .simp[hb,l2,l3,l4,h0,h1,h2]
    exact qx E (by simp[inF,h0,h1,h2])
  .simp[hb,l2,l3,l4,h0,h1]
   exact qx E (by simp[inF,h0,h1])
theorem fG {m:M}{l:List Value}(hl:l≠[]):∃m1,jv (.agg ⟨l⟩) m=some (.pointer (some ⟨m.n,0,none⟩),m1)/\Ext m m1/\m1.n=m.n+1/\(∀o,load1 m1 ⟨m.n,o,none⟩=l[o]?)/\Arr m1 m.n l :=
 ⟨Dx.newRow m l,rfl,Ext.row _ _,qQ _ _,λo=>KQ m l o,Arr.row m l⟩
theorem lay_c (n:Nat)(f:Fld)(hf:Bx f)(v:Int)(m:M)(hm:m.base<=m.n):CallV (ex Tryz.prog (n+1)) 87 [.agg ⟨kz f⟩,iv v] m (wv (dD f v)):=by
 refine qj dh4_ok (by simp) ?_
 obtain⟨m1,hb,E,hn1,l,-⟩:=fG (m:=m) (l:=kz f) (by simp[kz])
 have l0:load1 m1 ⟨m.n,0,none⟩=some (iv f.at_):=l 0
 have l1:load1 m1 ⟨m.n,1,none⟩=some (iv f.width):=l 1
 have l4:load1 m1 ⟨m.n,4,none⟩=some (iv f.step):=l 4
 have l5:load1 m1 ⟨m.n,5,none⟩=some (.bool f.turned):=l 5
 obtain⟨f1,f2,f3⟩:=hf
 by_cases h0:f.width=0
 .rw[h0]at l1
  simp[hb,l1]
  exact qx E (by simp[dD,h0])
 .have hq:=gu .i64 v f.step (f3 h0)
  have hs:=gi (k:=.u32) (k':=.i64) (a:=1) f2
  have hm':IntKind.u32.wrap (IntKind.u32.wrap (1*2^(min f.width.toNat IntKind.u32.bits))-1)=Kk f:=rfl
  have hs2:=gi (k:=.u32) (k':=.i64) (a:=Qq f v) f1
  obtain⟨a,ha⟩:=qh2 (dD f v)
  have ha':IntKind.u32.wrap (Qq f v*2^(min f.at_.toNat IntKind.u32.bits))=a:=by rw[ha];unfold dD;rw[if_neg h0];rfl
  rw[ha']at hs2
  obtain⟨b,hbb⟩:=qh2 (Xb f v)
  have hb':bits .and .u32 (IntKind.u32.wrap (IntKind.i64.wrap (v.tdiv f.step))) (Kk f)=b:=by rw[hbb];rfl
  obtain⟨c,hc⟩:=qh2 (IntKind.u32.wrap (1*2^(min f.width.toNat IntKind.u32.bits)))
  rw[<-hc]at hs hm'
  rw[<-ha]
  cases ht:f.turned with
  | false =>
   have hl1:Qq f v=b:=by unfold Qq;rw[ht,hbb];rfl
   rw[hl1]at hs2
   rw[ht]at l5
   simp[hb,l0,l1,l4,l5,h0,hq,wV,hs,hm',xU,hb',hs2]
   exact qx E (by simp)
  | true =>
   have hl1:bits .xor .u32 b 1=Qq f v:=by unfold Qq;rw[ht,hbb];rfl
   rw[ht]at l5
   simp[hb,l0,l1,l4,l5,h0,hq,wV,hs,hm',xU,hb',Ku,hl1,hs2]
   exact qx E (by simp)
theorem read_c (n:Nat)(f:Fld)(hf:Bx f)(hw1:f.width≠0->1<=f.width/\f.width<=64)(w:Int)(m:M)(hm:m.base<=m.n):CallV (ex Tryz.prog (n+1)) 84 [.agg ⟨kz f⟩,wv w] m (iv (rdF f w)):=by
 refine qj dh1_ok (by simp) ?_
 obtain⟨m1,hb,E,hn1,l,-⟩:=fG (m:=m) (l:=kz f) (by simp[kz])
 have l0:load1 m1 ⟨m.n,0,none⟩=some (iv f.at_):=l 0
 have l1:load1 m1 ⟨m.n,1,none⟩=some (iv f.width):=l 1
 have l2:load1 m1 ⟨m.n,2,none⟩=some (iv f.lo):=l 2
 have l4:load1 m1 ⟨m.n,4,none⟩=some (iv f.step):=l 4
 have l5:load1 m1 ⟨m.n,5,none⟩=some (.bool f.turned):=l 5
 obtain⟨f1,f2,f3⟩:=hf
 by_cases h0:f.width=0
 .rw[h0]at l1
  simp[hb,l1]
  exact qx E (by simp[rdF,h0])
 .obtain⟨w1,w2⟩:=hw1 h0
  have hs0:=Bn (k:=.u32) (k':=.i64) (a:=w) f1
  have hs:=gi (k:=.u32) (k':=.i64) (a:=1) f2
  have hm':IntKind.u32.wrap (IntKind.u32.wrap (1*2^(min f.width.toNat IntKind.u32.bits))-1)=Kk f:=rfl
  obtain⟨c,hc⟩:=qh2 (IntKind.u32.wrap (1*2^(min f.width.toNat IntKind.u32.bits)))
  rw[<-hc]at hs hm'
  obtain⟨d,hd⟩:=qh2 (w.fdiv (2^(min f.at_.toNat IntKind.u32.bits)))
  rw[<-hd]at hs0
  obtain⟨b,hbb⟩:=qh2 (VY f w)
  have hb':IntKind.i64.wrap (bits .and .u32 d (Kk f))=b:=by rw[hbb,hd];rfl
  have hwd:IntKind.i64.wrap (f.width-1)=f.width-1:=wrap64 _ (by omega) (by omega)
  have hs1:=gi (k:=.i64) (k':=.i64) (a:=1) (b:=f.width-1) (by omega)
  have hs2:=gi (k:=.i64) (k':=.i64) (a:=1) (b:=f.width) f2
  obtain⟨p,hp⟩:=qh2 (IntKind.i64.wrap (1*2^(min (f.width-1).toNat IntKind.i64.bits)))
  obtain⟨q,hq⟩:=qh2 (IntKind.i64.wrap (1*2^(min f.width.toNat IntKind.i64.bits)))
  rw[<-hp]at hs1
  rw[<-hq]at hs2
  obtain⟨g,hg⟩:=qh2 (Xz f w)
  have fin:∀t,Tm.get 2 t=.pointer (some ⟨m.n,0,none⟩)->Tm.get 5 t=iv g->Ret m (λv _=>v=iv (rdF f w)) (Dq (ex Tryz.prog n) (kQ [.t 4]) noK (kQ [.t 4]) t m1):=by
   intro t t2 t5
   have e2:Be f w=if f.lo<0/\g>=p then IntKind.i64.wrap (g-q) else g:=by
    unfold Be;rw[hwd,<-hg,hp,hq];rfl
   have er:rdF f w=IntKind.i64.wrap (Be f w*f.step):=by unfold rdF;rw[if_neg h0]
   by_cases h1:f.lo<0
   .by_cases h2:p<=g
    .rw[if_pos ⟨h1,h2⟩]at e2
     simp[t2,t5,l1,l2,l4,h1,h2,hwd,hs1,hs2,xh]
     exact qx E (by simp[er,e2])
    .rw[if_neg (λh=>h2 h.2)]at e2
     simp[t2,t5,l1,l2,l4,h1,h2,hwd,hs1,hs2,xh]
     exact qx E (by simp[er,e2])
   .rw[if_neg (λh=>h1 h.1)]at e2
    simp[t2,t5,l1,l2,l4,h1,hwd,hs1,hs2,xh]
    exact qx E (by simp[er,e2])
  cases ht:f.turned with
  | false =>
   have hl1:g=b:=by rw[hg];unfold Xz;rw[ht,hbb];rfl
   rw[ht]at l5
   simp[-JD,hb,l0,l1,l5,h0,wV,hs0,hs,hm',xU,hb']
   exact fin _ (by simp) (by simp[hl1])
  | true =>
   have hl1:bits .xor .i64 b 1=g:=by rw[hg];unfold Xz;rw[ht,hbb];rfl
   rw[ht]at l5
   simp[-JD,hb,l0,l1,l5,h0,wV,hs0,hs,hm',xU,hb',Ku,hl1]
   exact fin _ (by simp) (by simp)
theorem XV (n:Nat)(i:Ins)(m:M)(hm:m.base<=m.n):CallV (ex Tryz.prog (n+1)) 85 [.agg ⟨qv i⟩] m (.agg ⟨Qx i⟩):=by
 refine qj dh2_ok (by simp) ?_
 obtain⟨m1,hb,E,hn1,l,ar⟩:=fG (m:=m) (l:=qv i) (by simp[qv])
 have st1:St m m1 [(m.n,qv i)]:=by have:=(St.nil hm (Ext.refl m)).row (qv i);cases hb;exact this
 have st2:=st1.row [zI,zI,zI,zI,zI]
 obtain⟨m2,s1,st3,s2,s3⟩:=st2.fill 0 rfl (n:=5) (l':=Qx i) rfl rfl (by simp[Qx,okC])
 have S:Sees m1 (Dx.newRow m1 [zI,zI,zI,zI,zI]):=st1.sees.self.ext (Ext.row _ _)
 have lt:m.n<m1.n:=by omega
 have k:∀o,load1 (Dx.newRow m1 [zI,zI,zI,zI,zI]) ⟨m.n,o,none⟩=(qv i)[o]?:=λo=>by rw[VF S lt];exact l o
 have k1:=k 1;have k2:=k 2;have k3:=k 3;have k4:=k 4;have k5:=k 5
 simp only[qv,List.getElem?_cons_succ,List.getElem?_cons_zero]at k1 k2 k3 k4 k5
 have bu:wN [zI,zI,zI,zI,zI] [(0,1,iv i.rd),(1,1,iv i.rn),(2,1,iv i.rm),(3,1,iv i.imm),(4,1,iv i.cond)]=some (.agg ⟨Qx i⟩):=rfl
 simp[hb,k1,k2,k3,k4,k5,bu,s1]
 exact kH (a:=⟨m1.n,0,none⟩) (by simp) ((st3.get 0 rfl).2.2.loads (o:=0) (n:=5) (by simp[Qx])) st3.ext rfl
end Go.Sx
namespace Go.Sx
open Go.Dx Go.Proofs
set_option maxRecDepth 10000
def fl5 (F:Nat->Fld):List Fld:=[F 0,F 1,F 2,F 3,F 4]
def gM (i:Ins)(k:Nat):Int:=match k with | 0=>i.rd | 1=>i.rn | 2=>i.rm | 3=>i.imm | _=>i.cond
theorem lt5 {i:Nat}(h:i<5):i=0\/i=1\/i=2\/i=3\/i=4:=by omega
theorem qdz (F:Nat->Fld){i:Nat}(h:i<5):idxG 5 true 6 (.agg ⟨(fl5 F).flatMap kz⟩) (iv i)=some (.agg ⟨kz (F i)⟩):=by
 rcases lt5 h with rfl | rfl | rfl | rfl | rfl<;>rfl
theorem YW (x:Ins){i:Nat}(h:i<5):idxG 5 false 1 (.agg ⟨Qx x⟩) (iv i)=some (iv (gM x i)):=by
 rcases lt5 h with rfl | rfl | rfl | rfl | rfl<;>rfl
theorem iaV (B:Nat){i:Nat}(h:i<5):zi 5 1 (.pointer (some ⟨B,0,none⟩)) (iv i)=some (.pointer (some ⟨B,i,none⟩)):=by
 rcases lt5 h with rfl | rfl | rfl | rfl | rfl<;>rfl
theorem FB {m:M}{B w:Nat}{F:Nat->Fld}(h:Arr m B (wQ w (fl5 F))){i:Nat}(hi:i<5):loads m ⟨B,1+i*6,none⟩ 6=some (kz (F i)):=by
 rw[h.loads (by simp[wQ,fl5,kz];omega)]
 rcases lt5 hi with rfl | rfl | rfl | rfl | rfl<;>rfl
theorem XG (w:Nat)(F:Nat->Fld):(wQ w (fl5 F)).length=31:=rfl
structure yF (F:Nat->Fld):Prop where
 ok:∀i,i<5->Bx (F i)
 wd:∀i,i<5->(F i).width≠0->1<=(F i).width/\(F i).width<=64
def Qv (F:Nat->Fld)(w:Int)(i:Nat):List Value:=(List.range 5).map λk=>if k<i then iv (rdF (F k) w) else iv 0
theorem Bf (F:Nat->Fld)(w:Int){i:Nat}(h:i<5):(Qv F w i).set i (iv (rdF (F i) w))=Qv F w (i+1):=by
 rcases lt5 h with rfl | rfl | rfl | rfl | rfl<;>rfl
def fq (F:Nat->Fld)(op:Nat)(w:Int):Ins :=
 ⟨op,rdF (F 0) w,rdF (F 1) w,rdF (F 2) w,if op=14 then IntKind.i64.wrap (63-IntKind.i64.wrap (bits .and .u32 (w.fdiv (2^(min 10 32))) 63)) else rdF (F 3) w,rdF (F 4) w⟩
abbrev z6i:List Value:=[zI,zI,zI,zI,zI,zI]
abbrev z5i:List Value:=[zI,zI,zI,zI,zI]
theorem qf8 (n:Nat)(W:Nat)(F:Nat->Fld)(hF:yF F)(op:Nat)(hop:op<48)(w:Int)(m:M)(hm:m.base<=m.n):CallV (ex Tryz.prog (n+2)) 63 [.agg ⟨wQ W (fl5 F)⟩,iv op,wv w] m (.agg ⟨qv (fq F op w)⟩):=by
 refine qj df0_ok (by simp) ?_
 obtain⟨m1,hb,E,hn1,l,ar⟩:=fG (m:=m) (l:=wQ W (fl5 F)) (by simp[wQ])
 have st1:St m m1 [(m.n,wQ W (fl5 F))]:=by have:=(St.nil hm (Ext.refl m)).row (wQ W (fl5 F));cases hb;exact this
 have st2:=(st1.row z6i).row z5i
 obtain⟨mA,hA⟩:=qh2 (Dx.newRow (Dx.newRow m1 z6i) z5i)
 rw[qQ,<-hA]at st2
 have hA':Dx.newRow (Dx.newRow m1 [zI,zI,zI,zI,zI,zI]) [zI,zI,zI,zI,zI]=mA:=hA.symm
 have ll:loads mA ⟨m.n,1,none⟩ 30=some ((fl5 F).flatMap kz):=by rw[(st2.get 2 rfl).2.2.loads (o:=1) (n:=30) (by rw[XG];omega)];rfl
 simp[hb,hA',qd,ll]
 refine qF (c:=cf0_7) rfl (Ret m _) (λi t m'=>Tm.get 1 t=iv op/\Tm.get 2 t=wv w/\Tm.get 6 t=.pointer (some ⟨m1.n,0,none⟩)/\Tm.get 7 t=.pointer (some ⟨m1.n+1,0,none⟩)/\Tm.get 11 t=.agg ⟨(fl5 F).flatMap kz⟩/\Tm.get 12 t=iv i/\St m m' [(m1.n+1,Qv F w i),(m1.n,z6i)]) 5 (by omega)
  ⟨by simp,by simp,by simp,by simp,by simp,by simp,st2.sub (by have h0:Qv F w 0=z5i:=rfl;rw[h0];intro p hp;simp at hp ⊢;rcases hp with rfl | rfl<;>simp) (by simp)⟩ (λi t m' k hi hI hk=>?_)
 obtain⟨t1,t2,t6,t7,t11,t12,st⟩:=hI
 by_cases hil:i<5
 .have hd:((i:Int)<5)=True:=eq_true (by omega)
  have w1:=qY (i:=i) (by omega)
  have hx:=qdz F hil
  have hia:=iaV (m1.n+1) hil
  have stB:=st.row z6
  obtain⟨m3,s1,st3,s2,s3⟩:=stB.fill 0 rfl (n:=6) (l':=kz (F i)) rfl rfl (qas _)
  have s1':qB 6 (.pointer (some ⟨m'.n,0,none⟩)) (.agg ⟨kz (F i)⟩) (Dx.newRow m' [zI,zI,zI,zI,zI,.bool false])=some (undef,m3):=s1
  have l6:loads m3 ⟨m'.n,0,none⟩ 6=some (kz (F i)):=(st3.get 0 rfl).2.2.loads (o:=0) (n:=6) (by simp[kz])
  obtain⟨v4,m4,a1,a2,rfl⟩:=read_c n (F i) (hF.ok i hil) (hF.wd i hil) w m3 st3.sees.base
  have st4:=st3.step a2
  obtain⟨m5,b1,st5,b2,b3⟩:=st4.store 1 (b:=m1.n+1) (l:=Qv F w i) rfl (o:=i) (v:=iv (rdF (F i) w)) (by simp[Qv];exact hil) rfl
  simp[t1,t2,t6,t7,t11,t12,hd,bO,hx,s1',qd,l6,a1,hia,b1,w1]
  refine hk hil _ _ ⟨by simp[t1],by simp[t2],by simp[t6],by simp[t7],by simp[t11],by simp,?_⟩
  refine st5.sub (λp hp=>?_) (by simp)
  rw[<-Bf F w hil]at hp
  simp at hp
  rcases hp with rfl | rfl
  .simp
  .simp
 obtain rfl:i=5:=by omega
 have t12':Tm.get 12 t=iv 5:=t12
 have i0:zi 5 1 (.pointer (some ⟨m1.n+1,0,none⟩)) zI=some (.pointer (some ⟨m1.n+1,0,none⟩)):=rfl
 have i1:zi 5 1 (.pointer (some ⟨m1.n+1,0,none⟩)) (.int .i64 1)=some (.pointer (some ⟨m1.n+1,1,none⟩)):=rfl
 have i2:zi 5 1 (.pointer (some ⟨m1.n+1,0,none⟩)) (.int .i64 2)=some (.pointer (some ⟨m1.n+1,2,none⟩)):=rfl
 have i3:zi 5 1 (.pointer (some ⟨m1.n+1,0,none⟩)) (.int .i64 3)=some (.pointer (some ⟨m1.n+1,3,none⟩)):=rfl
 have i4:zi 5 1 (.pointer (some ⟨m1.n+1,0,none⟩)) (.int .i64 4)=some (.pointer (some ⟨m1.n+1,4,none⟩)):=rfl
 have bu:∀a b c d e:Int,wN z6i [(0,1,iv op),(1,1,iv a),(2,1,iv b),(3,1,iv c),(4,1,iv d),(5,1,iv e)]=some (.agg ⟨[iv op,iv a,iv b,iv c,iv d,iv e]⟩):=λ_ _ _ _ _=>rfl
 have fin:∀(d:Int) (m6:M),St m m6 [(m1.n+1,[iv (rdF (F 0) w),iv (rdF (F 1) w),iv (rdF (F 2) w),iv d,iv (rdF (F 4) w)]),(m1.n,z6i)]->fq F op w=⟨op,rdF (F 0) w,rdF (F 1) w,rdF (F 2) w,d,rdF (F 4) w⟩ ->
   (∀o,load1 m6 ⟨m1.n+1,o,none⟩=[iv (rdF (F 0) w),iv (rdF (F 1) w),iv (rdF (F 2) w),iv d,iv (rdF (F 4) w)][o]?)/\∃m7,qB 6 (.pointer (some ⟨m1.n,0,none⟩)) (.agg ⟨[iv op,iv (rdF (F 0) w),iv (rdF (F 1) w),iv (rdF (F 2) w),iv d,iv (rdF (F 4) w)]⟩) m6=some (undef,m7)/\Ext m m7/\loads m7 ⟨m1.n,0,none⟩ 6=some (qv (fq F op w)):=by
  intro d m6 st6 hr
  refine⟨λo=>(st6.get 0 rfl).2.2.load1 o none,?_⟩
  obtain⟨m7,s1,st7,_,_⟩:=st6.fill 1 (b:=m1.n) (l:=z6i) rfl (n:=6) (l':=qv (fq F op w)) rfl rfl (jV _)
  refine⟨m7,?_,st7.ext,(st7.get 1 rfl).2.2.loads (o:=0) (n:=6) (by simp[qv])⟩
  rw[hr]at s1;exact s1
 by_cases h14:op=14
 .have hq:((op:Int)=14)=True:=eq_true (by omega)
  have hs:=Bn (k:=.u32) (k':=.u64) (a:=w) (b:=10) (by decide)
  obtain⟨d,hd⟩:=qh2 (IntKind.i64.wrap (63-IntKind.i64.wrap (bits .and .u32 (w.fdiv (2^(min 10 32))) 63)))
  have hd':IntKind.i64.wrap (63-IntKind.i64.wrap (bits .and .u32 (w.fdiv (2^(min (10:Int).toNat IntKind.u32.bits))) 63))=d:=by rw[hd];rfl
  obtain⟨u,hu⟩:=qh2 (w.fdiv (2^(min (10:Int).toNat IntKind.u32.bits)))
  rw[<-hu]at hs hd'
  obtain⟨m6,b1,st6,b2,b3⟩:=st.store 0 (b:=m1.n+1) (l:=Qv F w 5) rfl (o:=3) (v:=iv d) (by simp[Qv]) rfl
  obtain⟨la,m7,c1,c2,c3⟩:=fin d m6 st6 (by unfold fq;rw[if_pos h14,hd])
  have l0:=la 0;have l1:=la 1;have l2:=la 2;have l3:=la 3;have l4:=la 4
  simp only[List.getElem?_cons_succ,List.getElem?_cons_zero]at l0 l1 l2 l3 l4
  simp[t1,t2,t6,t7,t12',hq,hs,xU,wV,hd',i3,b1,i0,i1,i2,i4,l0,l1,l2,l3,l4,bu,c1]
  exact kH (a:=⟨m1.n,0,none⟩) (by simp[t6]) c3 c2 rfl
 .have hq:((op:Int)=14)=False:=eq_false (by omega)
  obtain⟨la,m7,c1,c2,c3⟩:=fin (rdF (F 3) w) m' st (by unfold fq;rw[if_neg h14])
  have l0:=la 0;have l1:=la 1;have l2:=la 2;have l3:=la 3;have l4:=la 4
  simp only[List.getElem?_cons_succ,List.getElem?_cons_zero]at l0 l1 l2 l3 l4
  simp[t1,t2,t6,t7,t12',hq,i3,i0,i1,i2,i4,l0,l1,l2,l3,l4,bu,c1]
  exact kH (a:=⟨m1.n,0,none⟩) (by simp[t6]) c3 c2 rfl
end Go.Sx
namespace Go.Sx
open Go.Dx Go.Proofs
set_option maxRecDepth 10000
def vE (F:Nat->Fld)(x:Ins)(k:Nat):Bool:=(List.range k).all λj=>inF (F j) (gM x j)
def br (x:Ins):Bool:=if x.op=14 then decide (1<=x.imm) else if x.op=28\/x.op=29 then decide (x.rm≠x.rd)&&decide (x.rm≠x.rn) else true
def yH (F:Nat->Fld)(x:Ins):Bool:=vE F x 5&&br x
theorem JU (F:Nat->Fld)(x:Ins)(k:Nat):vE F x (k+1)=(vE F x k&&inF (F k) (gM x k)):=by
 unfold vE;rw[List.range_succ,List.all_append];simp
theorem Gu {F:Nat->Fld}{x:Ins}{k:Nat}(h:vE F x k=false):∀{j},k<=j->vE F x j=false:=by
 intro j hj
 unfold vE at *
 rw[List.all_eq_false]at *
 obtain⟨i,h1,h2⟩:=h
 exact⟨i,by simp at h1 ⊢;omega,h2⟩
theorem qf2 (n:Nat)(W:Nat)(F:Nat->Fld)(x:Ins)(m:M)(hm:m.base<=m.n):CallV (ex Tryz.prog (n+2)) 64 [.agg ⟨wQ W (fl5 F)⟩,.agg ⟨qv x⟩] m (.bool (yH F x)):=by
 refine qj df1_ok (by simp) ?_
 have st2:=((St.nil hm (Ext.refl m)).row (wQ W (fl5 F))).row (qv x)
 obtain⟨mA,hA⟩:=qh2 (Dx.newRow (Dx.newRow m (wQ W (fl5 F))) (qv x))
 rw[qQ,<-hA]at st2
 have b1:jv (.agg ⟨wQ W (fl5 F)⟩) m=some (.pointer (some ⟨m.n,0,none⟩),Dx.newRow m (wQ W (fl5 F))):=rfl
 have b2:jv (.agg ⟨qv x⟩) (Dx.newRow m (wQ W (fl5 F)))=some (.pointer (some ⟨m.n+1,0,none⟩),mA):=by rw[hA];show some (Value.pointer (some ⟨(Dx.newRow m (wQ W (fl5 F))).n,0,none⟩),_)=_;rw[qQ]
 obtain⟨m0,hm0⟩:=qh2 (Dx.newRow m (wQ W (fl5 F)))
 rw[<-hm0]at b1 b2
 have ll:loads mA ⟨m.n+1,0,none⟩ 6=some (qv x):=(st2.get 0 rfl).2.2.loads (o:=0) (n:=6) (by simp[qv])
 obtain⟨v1,m1,a1,a2,rfl⟩:=XV n x mA st2.sees.base
 have st3:=st2.step a2
 simp[b1,b2,qd,ll,a1]
 refine qF (c:=Dk) rfl (Ret m _) (λi t m'=>Tm.get 2 t=.pointer (some ⟨m.n,0,none⟩)/\Tm.get 3 t=.pointer (some ⟨m.n+1,0,none⟩)/\Tm.get 8 t=.agg ⟨Qx x⟩/\Tm.get 9 t=iv i/\vE F x i=true/\St m m' [(m.n+1,qv x),(m.n,wQ W (fl5 F))]) 5 (by omega)
  ⟨by simp,by simp,by simp,by simp,rfl,st3⟩ (λi t m' k hi hI hk=>?_)
 obtain⟨t2,t3,t8,t9,hft,st⟩:=hI
 by_cases hil:i<5
 .have hd:((i:Int)<5)=True:=eq_true (by omega)
  have w1:=qY (i:=i) (by omega)
  have hx:=YW x hil
  have hia:=iaF m.n i hil
  have l6:loads m' ⟨m.n,1+i*6,none⟩ 6=some (kz (F i)):=FB (st.get 1 rfl).2.2 hil
  obtain⟨v4,m4,c1,c2,rfl⟩:=in_c n (F i) (gM x i) m' st.sees.base
  have st4:=st.step c2
  have hs:=JU F x i
  rw[hft,Bool.true_and]at hs
  cases hb:inF (F i) (gM x i) with
  | false =>
   rw[hb]at c1 hs
   simp[t2,t3,t8,t9,hd,bO,hx,hia,qd,l6,c1]
   refine qx st4.ext ?_
   have:yH F x=false:=by unfold yH;rw[Gu hs (by omega)];rfl
   simp[this]
  | true =>
   rw[hb]at c1 hs
   simp[t2,t3,t8,t9,hd,bO,hx,hia,qd,l6,c1,w1]
   exact hk hil _ _ ⟨by simp[t2],by simp[t3],by simp[t8],by simp,hs,st4⟩
 obtain rfl:i=5:=by omega
 have t9':Tm.get 9 t=iv 5:=t9
 have l:∀o,load1 m' ⟨m.n+1,o,none⟩=(qv x)[o]?:=λo=>(st.get 0 rfl).2.2.load1 o none
 have l0:=l 0;have l1:=l 1;have l2:=l 2;have l3:=l 3;have l4:=l 4
 simp only[qv,List.getElem?_cons_succ,List.getElem?_cons_zero]at l0 l1 l2 l3 l4
 have hB:yH F x=br x:=by unfold yH;rw[hft,Bool.true_and]
 rw[hB]
 by_cases h14:x.op=14
 .simp[t2,t3,t8,t9',l0,l4,h14]
  exact qx st.ext (by simp[br,h14])
 .by_cases h28:x.op=28
  .by_cases e1:x.rm=x.rd
   .simp[t2,t3,t8,t9',l0,l1,l2,l3,h14,h28,e1]
    exact qx st.ext (by simp[br,h14,h28,e1])
   .simp[t2,t3,t8,t9',l0,l1,l2,l3,h14,h28,e1]
    exact qx st.ext (by simp[br,h14,h28,e1])
  .by_cases h29:x.op=29
   .by_cases e1:x.rm=x.rd
    .simp[t2,t3,t8,t9',l0,l1,l2,l3,h14,h28,h29,e1]
     exact qx st.ext (by simp[br,h14,h28,h29,e1])
    .simp[t2,t3,t8,t9',l0,l1,l2,l3,h14,h28,h29,e1]
     exact qx st.ext (by simp[br,h14,h28,h29,e1])
   .simp[t2,t3,t8,t9',l0,l1,l2,l3,h14,h28,h29]
    exact qx st.ext (by simp[br,h14,h28,h29])
def yu (W:Nat)(F:Nat->Fld)(x:Ins)(k:Nat):Int:=(List.range k).foldl (λw j=>bits .or .u32 w (dD (F j) (gM x j))) W
def bC (W:Nat)(F:Nat->Fld)(x:Ins):Int :=
 if x.op=14 then bits .or .u32 (yu W F x 5) (bits .or .u32 (IntKind.u32.wrap (IntKind.u32.wrap (IntKind.i64.wrap (64-x.imm))*2^(min 16 32))) (IntKind.u32.wrap (IntKind.u32.wrap (IntKind.i64.wrap (63-x.imm))*2^(min 10 32)))) else yu W F x 5
theorem jM (W:Nat)(F:Nat->Fld)(x:Ins)(k:Nat):yu W F x (k+1)=bits .or .u32 (yu W F x k) (dD (F k) (gM x k)):=by
 unfold yu;rw[List.range_succ,List.foldl_append];rfl
theorem qf3 (n:Nat)(W:Nat)(F:Nat->Fld)(hF:yF F)(x:Ins)(m:M)(hm:m.base<=m.n):CallV (ex Tryz.prog (n+2)) 65 [.agg ⟨wQ W (fl5 F)⟩,.agg ⟨qv x⟩] m (wv (bC W F x)):=by
 refine qj df2_ok (by simp) ?_
 have st2:=((St.nil hm (Ext.refl m)).row (wQ W (fl5 F))).row (qv x)
 obtain⟨mA,hA⟩:=qh2 (Dx.newRow (Dx.newRow m (wQ W (fl5 F))) (qv x))
 rw[qQ,<-hA]at st2
 have b1:jv (.agg ⟨wQ W (fl5 F)⟩) m=some (.pointer (some ⟨m.n,0,none⟩),Dx.newRow m (wQ W (fl5 F))):=rfl
 have b2:jv (.agg ⟨qv x⟩) (Dx.newRow m (wQ W (fl5 F)))=some (.pointer (some ⟨m.n+1,0,none⟩),mA):=by rw[hA];show some (Value.pointer (some ⟨(Dx.newRow m (wQ W (fl5 F))).n,0,none⟩),_)=_;rw[qQ]
 obtain⟨m0,hm0⟩:=qh2 (Dx.newRow m (wQ W (fl5 F)))
 rw[<-hm0]at b1 b2
 have ll:loads mA ⟨m.n+1,0,none⟩ 6=some (qv x):=(st2.get 0 rfl).2.2.loads (o:=0) (n:=6) (by simp[qv])
 have lw:load1 mA ⟨m.n,0,none⟩=some (wv W):=(st2.get 1 rfl).2.2.load1 0 none
 obtain⟨v1,m1,a1,a2,rfl⟩:=XV n x mA st2.sees.base
 have st3:=st2.step a2
 simp[b1,b2,qd,lw,ll,a1]
 refine qF (c:=cf2_7) rfl (Ret m _) (λi t m'=>Tm.get 2 t=.pointer (some ⟨m.n,0,none⟩)/\Tm.get 3 t=.pointer (some ⟨m.n+1,0,none⟩)/\Tm.get 11 t=.agg ⟨Qx x⟩/\Tm.get 12 t=iv i/\Tm.get 5 t=wv (yu W F x i)/\St m m' [(m.n+1,qv x),(m.n,wQ W (fl5 F))]) 5 (by omega)
  ⟨by simp,by simp,by simp,by simp,by simp[yu],st3⟩ (λi t m' k hi hI hk=>?_)
 obtain⟨t2,t3,t11,t12,t5,st⟩:=hI
 by_cases hil:i<5
 .have hd:((i:Int)<5)=True:=eq_true (by omega)
  have w1:=qY (i:=i) (by omega)
  have hx:=YW x hil
  have hia:=iaF m.n i hil
  have l6:loads m' ⟨m.n,1+i*6,none⟩ 6=some (kz (F i)):=FB (st.get 1 rfl).2.2 hil
  obtain⟨v4,m4,c1,c2,rfl⟩:=lay_c n (F i) (hF.ok i hil) (gM x i) m' st.sees.base
  have st4:=st.step c2
  have hs:=jM W F x i
  simp[t2,t3,t11,t12,t5,hd,bO,hx,hia,qd,l6,c1,QY,w1]
  exact hk hil _ _ ⟨by simp[t2],by simp[t3],by simp[t11],by simp,by simp[hs],st4⟩
 obtain rfl:i=5:=by omega
 have t12':Tm.get 12 t=iv 5:=t12
 have l:∀o,load1 m' ⟨m.n+1,o,none⟩=(qv x)[o]?:=λo=>(st.get 0 rfl).2.2.load1 o none
 have l0:=l 0;have l4:=l 4
 simp only[qv,List.getElem?_cons_succ,List.getElem?_cons_zero]at l0 l4
 obtain⟨q,hq⟩:=qh2 (yu W F x 5)
 rw[<-hq]at t5
 by_cases h14:x.op=14
 .have s1:=gi (k:=.u32) (k':=.u64) (a:=IntKind.u32.wrap (IntKind.i64.wrap (64-x.imm))) (b:=16) (by decide)
  have s2:=gi (k:=.u32) (k':=.u64) (a:=IntKind.u32.wrap (IntKind.i64.wrap (63-x.imm))) (b:=10) (by decide)
  obtain⟨u1,hu1⟩:=qh2 (IntKind.u32.wrap (IntKind.u32.wrap (IntKind.i64.wrap (64-x.imm))*2^(min (16:Int).toNat IntKind.u32.bits)))
  obtain⟨u2,hu2⟩:=qh2 (IntKind.u32.wrap (IntKind.u32.wrap (IntKind.i64.wrap (63-x.imm))*2^(min (10:Int).toNat IntKind.u32.bits)))
  rw[<-hu1]at s1
  rw[<-hu2]at s2
  have e:bC W F x=bits .or .u32 q (bits .or .u32 u1 u2):=by unfold bC;rw[if_pos h14,hq,hu1,hu2];rfl
  rw[e]
  rw[h14]at l0
  simp[t2,t3,t12',t5,l0,l4,wV,s1,s2,QY]
  exact qx st.ext (by simp)
 .have e:bC W F x=q:=by unfold bC;rw[if_neg h14,hq]
  rw[e]
  simp[t2,t3,t12',t5,l0,h14]
  exact qx st.ext (by simp)
end Go.Sx
namespace Go.Dx
theorem Fb {m:M}{B:Nat}{es:List (Value × Value)}{z k:Value}{ok:Bool}{r:Option Value}(h:m.obj B=some (.map es))(hk:isInt k=true)(hp:yw k es=some r):lkS z ok (.map (some B)) k m=some (found z ok r,m):=by
 unfold lkS
 rw[hk,cond_true]
 show ob (WS (m.obj B)) _=_
 rw[h]
 show ob (yw k es) _=_
 rw[hp,qN]
end Go.Dx
namespace Go.Sx
open Go.Dx Go.Proofs
set_option maxRecDepth 10000
def fixW (op:Nat):Nat:=if op=30 then 3573759423 else if op=31 then 3573759935 else if op=32 then 3573751839 else 3560964096
theorem row_Z (n:Nat)(op:Nat)(h:op=30\/op=31\/op=32\/op=34)(m:M)(hm:m.base<=m.n):CallV (ex Tryz.prog (n+2)) 62 [.int .i64 op] m (.tuple #[.agg ⟨wQ (fixW op) [qH,qH,qH,qH,qH]⟩,.bool true]):=by
 refine qj jj (by simp) ?_
 have st0:=(St.nil hm (Ext.refl m)).row row0
 obtain⟨v1,m1,a1,a2,rfl⟩:=BD n op (by omega) (Dx.newRow m row0)
 have hb:zW op=0:=by rcases h with rfl | rfl | rfl | rfl<;>rfl
 rw[hb]at a1
 have a1':(ex Tryz.prog (n+1)).f 79 [.int .i64 op] (Dx.newRow m [.int .u32 0,zI,zI,zI,zI,zI,.bool false,zI,zI,zI,zI,zI,.bool false,zI,zI,zI,zI,zI,.bool false,zI,zI,zI,zI,zI,.bool false,zI,zI,zI,zI,zI,.bool false])=some (.int .u32 0,m1):=a1
 obtain⟨m2,b1,st2,b2,b3⟩:=(st0.step a2).store 0 rfl (o:=0) (v:=.int .u32 0) (by simp[row0,wQ]) rfl
 have b1':qB 1 (.pointer (some ⟨m.n,0,none⟩)) (.int .u32 0) m1=some (undef,m2):=b1
 have l0':load1 m2 ⟨m.n,0,none⟩=some (.int .u32 0):=(st2.get 0 rfl).2.2.load1 0 none
 obtain⟨v3,m3,c1,c2,rfl,c3,c4⟩:=YS n m2 st2.sees.base
 have st3:=st2.step c2
 have hlk:lkS (.int .u32 0) false (.map (some m2.n)) (.int .i64 op) m3=some (wv (fixW op),m3):=by
  rcases h with rfl | rfl | rfl | rfl
  .exact Fb c4 rfl (r:=some (wv 3573759423)) rfl
  .exact Fb c4 rfl (r:=some (wv 3573759935)) rfl
  .exact Fb c4 rfl (r:=some (wv 3573751839)) rfl
  .exact Fb c4 rfl (r:=some (wv 3560964096)) rfl
 obtain⟨m4,d1,st4,d2,d3⟩:=st3.store 0 rfl (o:=0) (v:=wv (fixW op)) (by simp[row0,wQ]) rfl
 have ll:=(st4.get 0 rfl).2.2.loads (o:=0) (n:=31) (s:=none) (by simp[wQ,row0,fl5,kz])
 obtain⟨L,hL⟩:=qh2 (wQ (fixW op) [qH,qH,qH,qH,qH])
 replace ll:loads m4 ⟨m.n,0,none⟩ 31=some L:=by rw[ll,hL];rfl
 rw[<-hL]
 obtain⟨mY,e1,stY,-,-⟩:=st4.fill 0 rfl (n:=31) (l':=L) (by simp[wQ,row0,kz]) (by rw[hL];rfl) (by rw[hL];exact ja _ _)
 have l9:=(stY.get 0 rfl).2.2.loads (o:=0) (n:=31) (s:=none) (by rw[hL];exact qgg _)
 replace l9:loads mY ⟨m.n,0,none⟩ 31=some L:=by rw[l9,List.drop_zero,List.take_of_length_le (by rw[hL];exact qgg _)]
 have q0:((op:Int)<1)=False:=eq_false (by omega)
 have q1:((47:Int)<op)=False:=eq_false (by omega)
 simp[a1',b1',l0',q0,q1,c1,hlk,d1,qd,ll,e1]
 exact qT (a:=⟨m.n,0,none⟩) (by simp) l9 stY.ext (by simp)
def xc (op:Nat):Nat:=match op with
 | 30=>3573759423
 | 31=>3573759935
 | 32=>3573751839
 | 34=>3560964096
 | _=>zW op
def qE (op:Nat):Nat->Fld:=λk=>(match op with
 | 30 | 31 | 32 | 34=>[qH,qH,qH,qH,qH]
 | 1 | 2=>[qG 0,qH,qH,jf 5 16 65535 1,jf 21 2 3 1]
 | 3 | 4 | 5 | 6 | 7 | 8 | 9 | 10 | 11=>[qG 0,qG 5,qG 16,qH,qH]
 | 12 | 13=>[zo 0,zo 5,qH,jf 10 12 4095 1,qH]
 | 14=>[qG 0,qG 5,qH,jf 0 0 63 1,qH]
 | 15=>[qG 0,qG 5,qH,jf 16 6 63 1,qH]
 | 16=>[qH,qG 5,qG 16,qH,qH]
 | 17=>[qG 0,qH,qH,qH,XT]
 | 18=>[qH,qH,qH,WJ,qH]
 | 19=>[qH,qH,qH,yY,jf 0 4 13 1]
 | 20 | 21=>[qG 0,qH,qH,yY,qH]
 | 22 | 23=>[qG 0,zo 5,qH,jf 10 12 32760 8,qH]
 | 24 | 25 | 26 | 27 | 35=>[qG 0,zo 5,qH,qH,qH]
 | 28 | 29 | 36 | 37 | 38 | 39=>[qG 0,zo 5,zo 16,qH,qH]
 | 33=>[qH,qH,qH,jf 5 16 30 1,qH]
 | _=>[zo 0,zo 5,qG 16,qH,qH]).getD k qH
theorem qf6 (n:Nat)(op:Nat)(h1:1<=op)(h2:op<=47)(m:M)(hm:m.base<=m.n):CallV (ex Tryz.prog (n+2)) 62 [.int .i64 op] m (.tuple #[.agg ⟨wQ (xc op) (fl5 (qE op))⟩,.bool true]):=by
 by_cases c:op<=2
 .rcases (by omega:op=1\/op=2) with rfl | rfl<;>exact row_A n _ (by omega) m hm
 by_cases c:op<=11
 .rcases (by omega:op=3\/op=4\/op=5\/op=6\/op=7\/op=8\/op=9\/op=10\/op=11) with rfl | rfl | rfl | rfl | rfl | rfl | rfl | rfl | rfl<;>exact row_B n _ (by omega) m hm
 by_cases c:op<=13
 .rcases (by omega:op=12\/op=13) with rfl | rfl<;>exact row_C n _ (by omega) m hm
 by_cases c:op<=19
 .rcases (by omega:op=14\/op=15\/op=16\/op=17\/op=18\/op=19) with rfl | rfl | rfl | rfl | rfl | rfl
  .exact row_D n _ rfl m hm
  .exact row_E n _ rfl m hm
  .exact row_F n _ rfl m hm
  .exact row_G n _ rfl m hm
  .exact row_H n _ rfl m hm
  .exact row_I n _ rfl m hm
 by_cases c:op<=21
 .rcases (by omega:op=20\/op=21) with rfl | rfl<;>exact row_J n _ (by omega) m hm
 by_cases c:op<=23
 .rcases (by omega:op=22\/op=23) with rfl | rfl<;>exact row_K n _ (by omega) m hm
 by_cases c:op<=27\/op=35
 .rcases (by omega:op=24\/op=25\/op=26\/op=27\/op=35) with rfl | rfl | rfl | rfl | rfl<;>exact row_L n _ (by omega) m hm
 by_cases c:op<=29
 .rcases (by omega:op=28\/op=29) with rfl | rfl<;>exact row_M n _ (by omega) m hm
 by_cases c:op=33
 .subst c;exact row_N n _ rfl m hm
 by_cases c:op<=34
 .rcases (by omega:op=30\/op=31\/op=32\/op=34) with rfl | rfl | rfl | rfl<;>exact row_Z n _ (by omega) m hm
 by_cases c:op<=39
 .rcases (by omega:op=36\/op=37\/op=38\/op=39) with rfl | rfl | rfl | rfl<;>exact row_O n _ (by omega) m hm
 .rcases (by omega:op=40\/op=41\/op=42\/op=43\/op=44\/op=45\/op=46\/op=47) with rfl | rfl | rfl | rfl | rfl | rfl | rfl | rfl<;>exact row_P n _ (by omega) m hm
def qcn (op:Nat):Bool:=(List.range 5).all λi=>decide (0<=(qE op i).at_)&&decide (0<=(qE op i).width)&&(decide ((qE op i).width=0)||(decide ((qE op i).step≠0)&&decide (1<=(qE op i).width)&&decide ((qE op i).width<=64)))
theorem Yh:(List.range 48).all qcn=true:=by decide +kernel
theorem rowOK (op:Nat)(h:op<48):yF (qE op):=by
 have h1:=List.all_eq_true.1 Yh op (by simpa using h)
 unfold qcn at h1
 rw[List.all_eq_true]at h1
 refine⟨λi hi=>?_,λi hi hw=>?_⟩
 .have:=h1 i (by simpa using hi)
  simp only[qgj,Bool.or_eq_true,decide_eq_true_eq]at this
  obtain⟨⟨a,b⟩,c⟩:=this
  exact⟨a,b,λhw=>by rcases c with c | c;exact absurd c hw;exact c.1.1⟩
 .have:=h1 i (by simpa using hi)
  simp only[qgj,Bool.or_eq_true,decide_eq_true_eq]at this
  obtain⟨⟨a,b⟩,c⟩:=this
  rcases c with c | c
  .exact absurd c hw
  .exact⟨c.1.2,c.2⟩
end Go.Sx
namespace Go.Sx
open Go.Dx Go.Proofs
set_option maxRecDepth 10000
def yO (op:Nat)(w:Nat):Option Ins :=
 if yH (qE op) (fq (qE op) op w)&&decide (bC (xc op) (qE op) (fq (qE op) op w)=w) then some (fq (qE op) op w) else none
def decFrom (w:Nat):Nat->Nat->Ins × Int
 | 0,_=>(VB,7)
 | f+1,op=>match yO op w with
  | some i=>(i,0)
  | none=>decFrom w f (op+1)
def xg (w:Nat):Option Nat:=if w=3573759423 then some 30 else if w=3573759935 then some 31 else if w=3573751839 then some 32 else if w=3560964096 then some 34 else none
def Kn (w:Nat):Bool:=decide ((w:Int).fdiv (2^(min 24 32))=213)||decide ((w:Int).fdiv (2^(min 24 32))=212)
def Gy (op:Nat):Ins:=⟨op,0,0,0,0,0⟩
def je (w:Nat):Ins × Int:=match (if Kn w then xg w else none) with
 | some op=>(Gy op,0)
 | none=>decFrom w 47 1
theorem qa5 (n:Nat)(w:Nat){m m':M}{R:Nat}(hR:St m m' [(R,z6i)]){t:Tm}(t0:Tm.get 0 t=wv w)(t2:Tm.get 2 t=.pointer (some ⟨R,0,none⟩))(t7:Tm.get 7 t=iv 1){kn kr:K}{ke:Nat->K}{Q:Option Out->Prop}
  (H1:∀t' m2 (i:Ins),decFrom w 47 1=(i,0)->St m m2 [(R,qv i)]->Tm.get 2 t'=.pointer (some ⟨R,0,none⟩)->Tm.get 3 t'=iv 0->Q (kr t' m2))
  (H2:∀t' m2,decFrom w 47 1=(VB,7)->St m m2 [(R,z6i)]->Tm.get 2 t'=.pointer (some ⟨R,0,none⟩)->Q (ke 2 t' m2)):Q (Vj (ex Tryz.prog (n+2)) kn ke kr t m'):=by
 refine qF (c:=Vj) rfl Q (λi t m'=>Tm.get 0 t=wv w/\Tm.get 2 t=.pointer (some ⟨R,0,none⟩)/\Tm.get 7 t=iv (i+1:Nat)/\St m m' [(R,z6i)]/\decFrom w 47 1=decFrom w (47-i) (i+1)) 47 (by omega)
  ⟨t0,t2,by rw[t7];rfl,hR,rfl⟩ (λi t m' k hi hI hk=>?_)
 obtain⟨t0,t2,t7,st,hdec⟩:=hI
 obtain⟨op,hop⟩:∃op:Nat,op=i+1:=⟨_,rfl⟩
 rw[<-hop]at t7 hdec
 by_cases hil:i<47
 .have hd:((op:Int)<=47)=True:=eq_true (by omega)
  have w1:=qY (i:=op) (by omega)
  obtain⟨v1,m1,a1,a2,rfl⟩:=qf6 n op (by omega) (by omega) m' st.sees.base
  have st1:=st.step a2
  obtain⟨m2,s1,st2,s2,s3⟩:=(st1.row row0).fill 0 rfl (n:=31) (l':=wQ (xc op) (fl5 (qE op))) rfl rfl (ja _ _)
  have s1':qB 31 (.pointer (some ⟨m1.n,0,none⟩)) (.agg ⟨wQ (xc op) (fl5 (qE op))⟩) (Dx.newRow m1 [.int .u32 0,zI,zI,zI,zI,zI,.bool false,zI,zI,zI,zI,zI,.bool false,zI,zI,zI,zI,zI,.bool false,zI,zI,zI,zI,zI,.bool false,zI,zI,zI,zI,zI,.bool false])=some (undef,m2):=s1
  have l8:loads m2 ⟨m1.n,0,none⟩ 31=some (wQ (xc op) (fl5 (qE op))):=by
   have:=(st2.get 0 rfl).2.2.loads (o:=0) (n:=31) (s:=none) (by rw[XG];omega)
   rw[this];rfl
  obtain⟨x,hx⟩:=qh2 (fq (qE op) op w)
  obtain⟨v3,m3,b1,b2,rfl⟩:=qf8 n (xc op) (qE op) (rowOK op (by omega)) op (by omega) w m2 st2.sees.base
  rw[<-hx]at b1
  have st3:=st2.step b2
  obtain⟨m4,c1,st4,c2,c3⟩:=(st3.row z6i).fill 0 rfl (n:=6) (l':=qv x) rfl rfl (jV _)
  have c1':qB 6 (.pointer (some ⟨m3.n,0,none⟩)) (.agg ⟨qv x⟩) (Dx.newRow m3 [zI,zI,zI,zI,zI,zI])=some (undef,m4):=c1
  have S34:Sees m2 m4:=(st2.sees.self.ext b2).ext ⟨by rw[c2,qQ];omega,λB hB=>by rw[c3 B (by omega)];exact (Ext.row m3 _).obj B hB,by rw[st4.ext.base,st3.ext.base],by rw[st4.ext.log,st3.ext.log]⟩
  have l8':loads m4 ⟨m1.n,0,none⟩ 31=some (wQ (xc op) (fl5 (qE op))):=by rw[xk S34 (st2.get 0 rfl).2.1];exact l8
  have l10:loads m4 ⟨m3.n,0,none⟩ 6=some (qv x):=(st4.get 0 rfl).2.2.loads (o:=0) (n:=6) (by simp[qv])
  obtain⟨v5,m5,d1,d2,rfl⟩:=qf2 n (xc op) (qE op) x m4 st4.sees.base
  have st5:=st4.step d2
  have S45:Sees m4 m5:=st4.sees.self.ext d2
  have l8'':loads m5 ⟨m1.n,0,none⟩ 31=some (wQ (xc op) (fl5 (qE op))):=by rw[xk (S34.trans S45) (st2.get 0 rfl).2.1];exact l8
  have l10':loads m5 ⟨m3.n,0,none⟩ 6=some (qv x):=by rw[xk S45 (st4.get 0 rfl).2.1];exact l10
  have hda:yO op w=if yH (qE op) x&&decide (bC (xc op) (qE op) x=w) then some x else none:=by unfold yO;rw[hx]
  have hdf:decFrom w (47-i) op=match yO op w with
   | some i=>(i,0)
   | none=>decFrom w (47-(i+1)) (op+1):=by rw[show 47-i=(47-(i+1))+1 by omega];rfl
  cases hf:yH (qE op) x with
  | false =>
   rw[hf]at d1 hda
   simp at hda
   rw[hda]at hdf
   simp[t0,t2,t7,hd,a1,s1',qd,l8,b1,c1',l8',l10,d1,w1]
   refine hk hil _ _ ⟨by simp[t0],by simp[t2],by simp[hop],st5.sub (by simp) (by simp),by rw[hdec,hdf,hop]⟩
  | true =>
   rw[hf]at d1 hda
   obtain⟨v6,m6,e1,e2,rfl⟩:=qf3 n (xc op) (qE op) (rowOK op (by omega)) x m5 st5.sees.base
   have st6:=st5.step e2
   have S56:Sees m5 m6:=st5.sees.self.ext e2
   have l10'':loads m6 ⟨m3.n,0,none⟩ 6=some (qv x):=by rw[xk (S45.trans S56) (st4.get 0 rfl).2.1];exact l10
   by_cases hq:bC (xc op) (qE op) x=w
   .rw[hq]at e1
    simp[hq]at hda
    rw[hda]at hdf
    obtain⟨m7,f1,st7,f2,f3⟩:=st6.fill 2 (b:=R) (l:=z6i) rfl (n:=6) (l':=qv x) rfl rfl (jV _)
    simp[t0,t2,t7,hd,a1,s1',qd,l8,b1,c1',l8',l10,d1,l8'',l10',e1,l10'',f1,w1]
    exact H1 _ _ x (by rw[hdec,hdf]) (st7.sub (by simp) (by simp)) (by simp[t2]) (by simp)
   .simp[hq]at hda
    rw[hda]at hdf
    simp[t0,t2,t7,hd,a1,s1',qd,l8,b1,c1',l8',l10,d1,l8'',l10',e1,hq,w1]
    refine hk hil _ _ ⟨by simp[t0],by simp[t2],by simp[hop],st6.sub (by simp) (by simp),by rw[hdec,hdf,hop]⟩
 obtain rfl:i=47:=by omega
 have t7':Tm.get 7 t=iv 48:=by rw[t7,hop];rfl
 simp[t7']
 exact H2 _ _ (by rw[hdec];rfl) st (by simp[t2])
end Go.Sx
namespace Go.Dx
theorem Gv (kn:K)(ke:Nat->K)(kr:K)(t:Tm)(m:M):goOn kn ke kr none t m=kn t m:=_root_.id rfl
theorem qau (kn:K)(ke:Nat->K)(kr:K)(t:Tm)(m:M):goOn kn ke kr (some .ret) t m=kr t m:=_root_.id rfl
end Go.Dx
namespace Go.Sx
open Go.Dx Go.Proofs
set_option maxRecDepth 10000
theorem Vz {j:Nat}{k v:Value}(h:fixL[j]?=some (k,v)):∃op x:Nat,k=iv op/\v=wv x/\xg x=some op/\∀y,xg y=some op->y=x:=by
 unfold fixL at h
 match j,h with
 | 0,h=>cases h;exact⟨30,3573759423,rfl,rfl,rfl,λy hy=>by unfold xg at hy;(repeat' split at hy)<;>simp_all⟩
 | 1,h=>cases h;exact⟨31,3573759935,rfl,rfl,rfl,λy hy=>by unfold xg at hy;(repeat' split at hy)<;>simp_all⟩
 | 2,h=>cases h;exact⟨32,3573751839,rfl,rfl,rfl,λy hy=>by unfold xg at hy;(repeat' split at hy)<;>simp_all⟩
 | 3,h=>cases h;exact⟨34,3560964096,rfl,rfl,rfl,λy hy=>by unfold xg at hy;(repeat' split at hy)<;>simp_all⟩
 | j+4,h=>simp at h
theorem qdu {w op:Nat}(h:xg w=some op):∃j,j<4/\fixL[j]?=some (iv op,wv w):=by
 unfold xg at h
 split at h
 .rename_i e;cases h;exact⟨0,by omega,by rw[e];rfl⟩
 .split at h
  .rename_i e;cases h;exact⟨1,by omega,by rw[e];rfl⟩
  .split at h
   .rename_i e;cases h;exact⟨2,by omega,by rw[e];rfl⟩
   .split at h
    .rename_i e;cases h;exact⟨3,by omega,by rw[e];rfl⟩
    .cases h
theorem qdv:∀p∈fixL,isInt p.1=true:=by
 intro p hp
 obtain⟨j,hj,e⟩:=List.getElem_of_mem hp
 obtain⟨op,x,h1,_⟩:=Vz (j:=j) (k:=p.1) (v:=p.2) (by rw[qgd hj,e])
 rw[h1];rfl
theorem Jt (n:Nat)(w:Nat)(m:M)(hm:m.base<=m.n):CallV (ex Tryz.prog (n+3)) 41 [wv w] m (.tuple #[.agg ⟨qv (je w).1⟩,iv (je w).2]):=by
 refine qj dc8_ok (by simp) ?_
 have st0:St m (Dx.newRow m z6i) [(m.n,z6i)]:=(St.nil hm (Ext.refl m)).row z6i
 obtain⟨m0,hm0⟩:=qh2 (Dx.newRow m z6i)
 have hm0':Dx.newRow m [zI,zI,zI,zI,zI,zI]=m0:=hm0.symm
 rw[<-hm0]at st0
 have hs:=Bn (k:=.u32) (k':=.u64) (a:=w) (b:=24) (by decide)
 obtain⟨tp,htp⟩:=qh2 ((w:Int).fdiv (2^(min (24:Int).toNat IntKind.u32.bits)))
 rw[<-htp]at hs
 have htop:Kn w=(decide (tp=213)||decide (tp=212)):=by unfold Kn;rw[htp,show min (24:Int).toNat IntKind.u32.bits=min 24 32 from rfl]
 have tail:∀t m',Tm.get 0 t=wv w->Tm.get 2 t=.pointer (some ⟨m.n,0,none⟩)->St m m' [(m.n,z6i)]->(if Kn w then xg w else none)=none->Ret m (λv _=>v=.tuple #[.agg ⟨qv (je w).1⟩,iv (je w).2]) (Zv (ex Tryz.prog (n+2)) (kQ [.cell 2 6,.t 3]) noK (kQ [.cell 2 6,.t 3]) t m'):=by
  intro t m' t0 t2 st hno
  have hdr:je w=decFrom w 47 1:=by unfold je;rw[hno]
  rw[hdr]
  simp
  refine qa5 n w st (by simp[t0]) (by simp[t2]) (by simp) (λt' m2 i h1 h2 h3 h4=>?_) (λt' m2 h1 h2 h3=>?_)
  .rw[h1]
   exact qT (a:=⟨m.n,0,none⟩) h3 ((h2.get 0 rfl).2.2.loads (o:=0) (n:=6) (by simp[qv])) h2.ext (by rw[h4];simp[qv])
  .rw[h1]
   obtain⟨m3,s1,st3,s2,s3⟩:=h2.fill 0 rfl (n:=6) (l':=z6i) rfl rfl (by simp[okC])
   have bu:wN [zI,zI,zI,zI,zI,zI] []=some (.agg ⟨z6i⟩):=rfl
   have s1':qB 6 (.pointer (some ⟨m.n,0,none⟩)) (.agg ⟨z6i⟩) m2=some (undef,m3):=s1
   simp[h3,bu,s1']
   exact qT (a:=⟨m.n,0,none⟩) (by simp[h3]) ((st3.get 0 rfl).2.2.loads (o:=0) (n:=6) (by simp)) st3.ext (by simp[qv,VB])
 by_cases ht:Kn w=true
 .obtain⟨v1,m1,a1,a2,rfl,a3,a4⟩:=YS (n+1) m0 st0.sees.base
  have st1:=st0.step a2
  have hes:Yf (.map (some m0.n)) m1=some fixL:=qf4 a4 qdv
  have go:∀t,Tm.get 0 t=wv w->Tm.get 2 t=.pointer (some ⟨m.n,0,none⟩)->Ret m (λv _=>v=.tuple #[.agg ⟨qv (je w).1⟩,iv (je w).2]) (BV (ex Tryz.prog (n+2)) (Zv (ex Tryz.prog (n+2)) (kQ [.cell 2 6,.t 3]) noK (kQ [.cell 2 6,.t 3])) noK (kQ [.cell 2 6,.t 3]) t m0):=by
   intro t t0 t2
   simp[a1]
   have hp:Yf (q_code_Decode_1.o (Tm.set 19 (.map (some m0.n)) t)) m1=some fixL:=by simp[q_code_Decode_1];exact hes
   cases hfo:xg w with
   | none =>
    refine qcm (by omega) (p:=q_code_Decode_1) (es:=fixL) hp none m1 [(0,wv w),(2,.pointer (some ⟨m.n,0,none⟩))] (λ_ t=>Tm.get 0 t=wv w/\Tm.get 2 t=.pointer (some ⟨m.n,0,none⟩)) ?_ ?_ ?_ ?_ (by decide) (by decide) ?_
    .simp[q_code_Decode_1,t0,t2]
    .intro seen t j k v hj _ hI
     obtain⟨h0,h2⟩:=hI
     obtain⟨op,x,rfl,rfl,hx,_⟩:=Vz hj
     have hne:x≠w:=λe=>by rw[e,hfo]at hx;cases hx
     have hne':((x:Int)=(w:Int))=False:=eq_false (by omega)
     simp[h0,h2,hne']
     refine qcl ?_
     exact .inl ⟨rfl,rfl,by simp[h0],by simp[h2]⟩
    .intro seen t _ hI
     refine⟨rfl,rfl,λq hq=>?_⟩
     simp at hq
     rcases hq with rfl | rfl
     .exact hI.1
     .exact hI.2
    .intro q hq
     simp at hq
     rcases hq with rfl | rfl<;>simp[q_code_Decode_1]
    .intro t2' ht2
     rw[Gv]
     exact tail _ _ (ht2 (0,_) (by simp)) (ht2 (2,_) (by simp)) st1 (by rw[if_pos ht,hfo])
   | some op =>
    obtain⟨j0,hj0,hat⟩:=qdu hfo
    obtain⟨m2,s1,st2,s2,s3⟩:=st1.fill 0 rfl (n:=6) (l':=qv (Gy op)) rfl rfl (jV _)
    have bu:wN [zI,zI,zI,zI,zI,zI] [(0,1,iv op)]=some (.agg ⟨qv (Gy op)⟩):=rfl
    refine qcm (by omega) (p:=q_code_Decode_1) (es:=fixL) hp (some .ret) m2 [(2,.pointer (some ⟨m.n,0,none⟩)),(3,iv 0)] (λseen t=>Tm.get 0 t=wv w/\Tm.get 2 t=.pointer (some ⟨m.n,0,none⟩)/\j0 ∉ seen) ?_ ?_ ?_ ?_ (by decide) (by decide) ?_
    .simp[q_code_Decode_1,t0,t2]
    .intro seen t j k v hj hns hI
     obtain⟨h0,h2,h3⟩:=hI
     obtain⟨op',x,rfl,rfl,hx,hu⟩:=Vz hj
     by_cases hxw:x=w
     .subst hxw
      rw[hfo]at hx
      cases hx
      simp[h0,h2,bu,s1]
      refine rm_ret ?_
      exact .inr ⟨rfl,by simp,rfl,by simp[h2]⟩
     .have hne':((x:Int)=(w:Int))=False:=eq_false (by omega)
      simp[h0,h2,hne']
      refine qcl ?_
      refine .inl ⟨rfl,rfl,by simp[h0],by simp[h2],?_⟩
      refine⟨λe=>?_,h3⟩
      subst e
      rw[hat]at hj
      have hj2:=Option.some.inj hj
      simp only[Prod.mk.injEq,Value.int.injEq,true_and]at hj2
      omega
    .intro seen t hall hI
     exact absurd (hall j0 hj0) hI.2.2
    .intro q hq
     simp at hq
     rcases hq with rfl | rfl<;>simp[q_code_Decode_1]
    .intro t2' ht2
     rw[qau]
     have hdr:je w=(Gy op,0):=by unfold je;rw[if_pos ht,hfo]
     rw[hdr]
     exact qT (a:=⟨m.n,0,none⟩) (ht2 (2,_) (by simp)) ((st2.get 0 rfl).2.2.loads (o:=0) (n:=6) (by simp[qv])) st2.ext (by rw[ht2 (3,iv 0) (by simp)];simp[qv,Gy])
  rw[htop]at ht
  by_cases h1:tp=213
  .simp[-JC,-dt,hm0',hs,h1]
   exact go _ (by simp) (by simp)
  .have h2:tp=212:=by simpa [h1]using ht
   simp[-JC,-dt,hm0',hs,h2]
   exact go _ (by simp) (by simp)
 .have hf:Kn w=false:=by simpa using ht
  have hno:(if Kn w then xg w else none)=none:=by rw[hf];rfl
  rw[htop]at hf
  simp only[Bool.or_eq_false_iff,decide_eq_false_iff_not]at hf
  simp[-dt,hm0',hs,hf.1,hf.2]
  exact tail _ _ (by simp) (by simp) st0 hno
end Go.Sx
