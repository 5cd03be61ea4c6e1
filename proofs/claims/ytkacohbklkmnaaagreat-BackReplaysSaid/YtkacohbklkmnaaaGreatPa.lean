/- Contracts. -/
import Derived.Test.YtkacohbklkmnaaaGreatGa
import Derived.Test.YtkacohbklkmnaaaGreatEd
import Derived.Test.YtkacohbklkmnaaaGreatProg
import Derived.KernelRfl
set_option linter.unusedVariables false
set_option linter.unusedSimpArgs false
set_option linter.defProp false
namespace Go.Dx
open Go.RowKit
noncomputable section
def gp (ins:List (List Value)):M:=M.rec (λh nx _ _=>⟨h,nx,ins.length,[]⟩) (zX ins M.empty)
def Yq (σ:List Nat)(n:Nat)(i:Nat):Nat:=bif Nat.blt i σ.length then σ.getD i 0 else n+(i-σ.length)
def Yl (k:Nat)(rows:List (Nat × List Value))(i:Nat):Nat:=bif Nat.blt i k then i else sig rows (i-k)
def xO (σ:List Nat)(rows:List (Nat × List Value))(m:M):M:=zX (rows.map λp=>p.2.map (ren (Yq σ m.n))) m
def YB (k:Nat):List Nat->Bool
 | []=>true
 | a::l=>Nat.ble k a&&YB k l
def chkM (ins:List (List Value))(rows:List (Nat × List Value))(v0:Value)(o:Option (Value × M)):Bool:=match o with
 | some (v,m1)=>m1.log.isEmpty&&YB ins.length (rows.map (·.1))&&eq2 (Yl ins.length rows) (ins.length+rows.length) v0 v&&bK (Yl ins.length rows) (ins.length+rows.length) m1 rows&&bw (rows.map (·.1))
 | none=>false
def okM (pargs:List Value)(ins:List (List Value))(σ:List Nat)(args:List Value)(m:M):Bool :=
 Nat.beq σ.length ins.length&&eqL1 (λi=>σ.getD i 0) ins.length pargs args&&bK (λi=>σ.getD i 0) ins.length m (σ.zip ins)&&bw σ
theorem fq (ins:List (List Value)):(gp ins).n=ins.length:=by
 have h:(gp ins).n=(zX ins M.empty).n:=by unfold gp;cases zX ins M.empty;rfl
 rw[h,fY];show 0+ins.length=_;omega
theorem QI (ins:List (List Value))(X:Nat):(gp ins).obj X=(ins[X]?).map (λr=>.cells (mkn .lf 0 r)):=by
 have h:(gp ins).obj X=(zX ins M.empty).obj X:=by unfold gp;cases zX ins M.empty;rfl
 rw[h,jo];show (if 0<=X/\X<0+ins.length then (ins[X-0]?).map (λr=>DObj.cells (mkn .lf 0 r)) else _)=_
 by_cases hX:X<ins.length
 .rw[qhz (by omega)];rfl
 .rw[qhy (by omega),qhs (by omega)];exact A3.get_lf none X
theorem GP (ins:List (List Value)):(gp ins).base=ins.length:=by unfold gp;cases zX ins M.empty;rfl
theorem Wl {k:Nat}:∀{l:List Nat},YB k l=true->∀(i a:Nat),l[i]?=some a->k<=a
 | [],_,i,a,h=>by simp at h
 | b::l,h,i,a,hi=>by
  change (Nat.ble k b&&YB k l)=true at h;rw[qhb]at h;cases i with
  | zero=>simp at hi;subst hi;exact qhe h.1
  | succ i=>exact Wl h.2 i a (by simpa using hi)
theorem Yh (x:Value):ren (λi=>i) x=x:=by
 unfold ren;split<;>rfl
theorem qfx (x:Value):Zt (λi=>i) x=x:=by
 unfold Zt;split
 .rename_i cs;have:cs.toList.map (ren λi=>i)=cs.toList:=by
   rw[List.map_congr_left (g:=λx=>x) λx _=>Yh x];simp
  rw[this]
 .exact Yh _
theorem blt_t {i k:Nat}(h:i<k):Nat.blt i k=true:=qhd h
theorem blt_f {i k:Nat}(h:¬i<k):Nat.blt i k=false:=by
 cases q:Nat.blt i k with
 | false=>rfl
 | true=>exact absurd (qhe q) h
theorem Xk {φ φ':Phi}{σ τ:Nat->Nat}{r:Nat}(hφ:∀i l,i<r->φ (σ i)=some l->φ' (τ i)=some l){w:World}{c:C}{row:List Value}(hok:gH σ r c 0 row=true){l:Loc}(h:ObjRel φ w (.cells c) l) :
  ObjRel φ' w (.cells (mkn .lf 0 (row.map (ren τ)))) l:=by
 obtain⟨cs,e,fz,k1,k2,k3,k4⟩:=h;have hsub:∀j x,A.get none j (mkn .lf 0 (row.map (ren τ)))=some x->∃y,A.get none j c=some y:=λj x hx=>by
  rw[zQ,A.get_lf]at hx;split at hx
  .simp only[Nat.sub_zero,qhm]at hx;cases hg:row[j]? with
   | none=>rw[hg]at hx;cases hx
   | some y =>
    obtain⟨z,e1,_⟩:=zG hok j y hg;rw[Nat.zero_add]at e1;exact⟨z,e1⟩
  .cases hx
 have hfc:FzC l.d cs.size fz (mkn .lf 0 (row.map (ren τ))):=⟨λha hd=>k3.1 (by
   cases hrw:row with
   | nil=>rw[hrw]at ha;cases ha
   | cons y ys =>
    obtain⟨z,e1,_⟩:=zG hok 0 y (by rw[hrw];rfl);exact gS e1) hd,λj x hx=>let ⟨y,hy⟩:=hsub j x hx;k3.2 j y hy⟩
 refine⟨cs,e,fz,k1,k2,hfc,λj x hx=>?_⟩;rw[zQ,A.get_lf]at hx;split at hx
 .rename_i hj;simp only[Nat.sub_zero,qhm]at hx;cases hg:row[j]? with
  | none=>rw[hg]at hx;cases hx
  | some y =>
   rw[hg]at hx;cases hx;obtain⟨z,e1,e2,e3⟩:=zG hok j y hg;rw[Nat.zero_add]at e1;obtain⟨q1,v'',q2,q3⟩:=k4 j z e1;refine⟨q1,v'',q2,?_⟩;rw[<-e3]at q3;exact gF hφ e2 q3
 .cases hx
theorem Xj {σ:Nat->Nat}{r:Nat}{row:List Value}(hok:gH σ r .lf 0 row=true):row=[]:=by
 cases row with
 | nil=>rfl
 | cons x l =>
  obtain⟨y,hy,_⟩:=zG hok 0 x rfl;rw[A.get_lf]at hy;cases hy
theorem GG {P:Program}{x:Ex}(hx:jg P x){g:Nat}{pargs args:List Value}{v0:Value}{ins:List (List Value)}{rows:List (Nat × List Value)}(h:chkM ins rows v0 (x.f g pargs (gp ins))=true){σ:List Nat}{m:M}(hm:okM pargs ins σ args m=true) :
  DStep m (xO σ rows m)/\Enters P g/\Yz P g args m (Yg (Yq σ m.n) v0) (xO σ rows m):=by
 unfold chkM at h;split at h
 .rename_i v m1 hrun;simp only[qhb]at h;obtain⟨⟨⟨⟨hlog,hge⟩,hv⟩,hrows⟩,hnd⟩:=h;unfold okM at hm;simp only[qhb]at hm;obtain⟨⟨⟨hkl,hma⟩,hmr⟩,hms⟩:=hm;have hk:σ.length=ins.length:=qhi hkl;have hlog:m1.log=[]:=by simpa using hlog
  obtain⟨hd1,hent,hJ⟩:=hx.f _ _ _ _ _ hrun;have hlen:(rows.map λp=>p.2.map (ren (Yq σ m.n))).length=rows.length:=by simp
  obtain⟨s,hs⟩:∃s:Nat->Nat,s=λi=>σ.getD i 0:=⟨_,rfl⟩;obtain⟨τ,hτ⟩:=qi4 (Yq σ m.n);rw[<-hs]at hma hmr;have hτ1:∀i,i<ins.length->τ i=s i:=λi hi=>by rw[hτ,hs];unfold Yq;rw[blt_t (by omega)];rfl
  have hτ2:∀i,τ (ins.length+i)=m.n+i:=λi=>by rw[hτ];unfold Yq;rw[blt_f (by omega),hk];show m.n+(ins.length+i-ins.length)=_;omega
  have hs1:∀i,i<ins.length->Yl ins.length rows i=i:=λi hi=>by unfold Yl;rw[blt_t hi];rfl
  have hs2:∀i,Yl ins.length rows (ins.length+i)=sig rows i:=λi=>by unfold Yl;rw[blt_f (by omega)];show sig rows (ins.length+i-ins.length)=_;congr 1;omega
  have hin:∀i (hi:i<ins.length),∃c,m.obj (s i)=some (.cells c)/\gH s ins.length c 0 ins[i]=true:=λi hi=>by
   have hz:(σ.zip ins)[i]?=some (s i,ins[i]):=by
    rw[List.getElem?_zip_eq_some];refine⟨?_,qh5 hi⟩;rw[hs];simp[show i<σ.length by omega]
   exact zB hmr i _ hz
  have hinj:∀i j,i<ins.length->j<ins.length->s i=s j->i=j:=λi j hi hj e =>
   vD hms i j (s i) (by rw[hs];simp[show i<σ.length by omega]) (by rw[e,hs];simp[show j<σ.length by omega])
  show DStep m (zX _ m)/\_;rw[<-hτ];refine⟨(kY _ m).1,hent,λφ w args' hR hargs' hF=>?_⟩;have hgn:(xO σ rows m).n=m.n+rows.length:=by unfold xO;rw[fY,hlen]
  rw[hgn]at hF;have hlt:∀i,i<ins.length->s i<m.n:=λi hi=>by
   obtain⟨c,hc,_⟩:=hin i hi;exact Classical.byContradiction λh=>by rw[hR.wf (s i) (by omega)]at hc;cases hc
  obtain⟨φL,hφL⟩:∃φL:Phi,φL=λB=>if B<ins.length then φ (s B) else none:=⟨_,rfl⟩
  have hL1:∀i,i<ins.length->φL i=φ (s i):=λi hi=>by rw[hφL];simp only[qhz hi]
  have hL2:∀i,¬i<ins.length->φL i=none:=λi hi=>by rw[hφL];simp only[qhy hi]
  have hturnL:∀i l,i<ins.length->φ (s i)=some l->φL i=some l:=λi l hi h=>by rw[hL1 i hi];exact h
  have hRL:R φL (gp ins) w:=by
   refine⟨λB hB=>?_,λB l hB hl=>?_,λB₁ B₂ l₁ l₂ h1 h2 hl1 hl2 hb hne=>?_⟩
   .rw[fq]at hB;rw[QI,qhs (by omega)];rfl
   .rw[fq]at hB;rw[hL1 B hB]at hl;obtain⟨c,hc,hok⟩:=hin B hB;obtain⟨o,ho1,ho2⟩:=hR.obj _ l (hlt B hB) hl;rw[hc]at ho1;cases ho1;refine⟨_,by rw[QI,qh5 hB];rfl,?_⟩;have:=Xk (φ':=φL) (τ:=λi=>i) hturnL hok ho2
    rwa [List.map_congr_left (g:=λx=>x) λx _=>Yh x,List.map_id']at this
   .rw[fq]at h1 h2;rw[hL1 _ h1]at hl1;rw[hL1 _ h2]at hl2;have key:∀B,B<ins.length->dead m (s B)->dead (gp ins) B:=λB hB hd=>by
     obtain⟨c,hc,hok⟩:=hin B hB;unfold dead at hd ⊢;rw[hc]at hd;cases hd;rw[QI,qh5 hB,Xj hok];rfl
    exact (hR.inj _ _ _ _ (hlt _ h1) (hlt _ h2) hl1 hl2 hb λe=>hne (hinj _ _ h1 h2 e)).imp (key _ h1) (key _ h2)
  have hargsL:VRels φL pargs args'.toList:=by
   have:=bc (φ':=φL) (τ:=λi=>i) hturnL hma hargs'
   rwa [List.map_congr_left (g:=λx=>x) λx _=>qfx x,List.map_id']at this
  refine (hJ φL w args' hRL hargsL (λB hB _=>hL2 B (by rw[fq]at hB;omega))).mono ?_;rintro e w' ⟨φ1,v',rfl,hR1,hst,hr1⟩;have hnoT:∀B,¬Tou (gp ins) m1 B:=λB ht=>by
   obtain⟨t1,t2,_⟩:=ht;rw[fq]at t1;rcases t2 with t2 | t2
   .rw[hd1.base,GP]at t2;omega
   .rw[hlog]at t2;cases t2
  have hheap:∀b,b<w.heap.size->w'.heap[b]?=w.heap[b]?:=λb hb=>hst.frame b hb λB _ _ _=>hnoT B;obtain⟨φ',hφ'⟩:∃φ':Phi,φ'=λB=>if m.n<=B/\B<m.n+rows.length then φ1 (sig rows (B-m.n)) else φ B:=⟨_,rfl⟩
  have hold:∀B,¬(m.n<=B/\B<m.n+rows.length)->φ' B=φ B:=λB hB=>by rw[hφ'];simp only[qhy hB]
  have hnew:∀i,i<rows.length->φ' (m.n+i)=φ1 (sig rows i):=λi hi=>by rw[hφ'];simp only[qhz (show m.n<=m.n+i/\m.n+i<m.n+rows.length by omega)];rw[show m.n+i-m.n=i by omega]
  have hle:PLe φ φ':=λB l hl=>by
   by_cases hB:m.n<=B/\B<m.n+rows.length
   .rw[hF B hB.1 hB.2]at hl;cases hl
   .rw[hold B hB];exact hl
  have hturn:∀i l,i<ins.length+rows.length->φ1 (Yl ins.length rows i)=some l->φ' (τ i)=some l:=λi l hi hl=>by
   by_cases hik:i<ins.length
   .rw[hs1 i hik,hst.ext i (.inl (by rw[fq];exact hik)),hL1 i hik]at hl;rw[hτ1 i hik,hold _ (by have:=hlt i hik;omega)];exact hl
   .obtain⟨j,rfl⟩:∃j,i=ins.length+j:=⟨i-ins.length,by omega⟩;rw[hs2]at hl;rw[hτ2,hnew j (by omega)];exact hl
  have hsig:∀i (hi:i<rows.length),sig rows i=rows[i].1:=λi hi=>by unfold sig;simp[hi]
  have hge':∀i,i<rows.length->ins.length<=sig rows i:=λi hi=>by
   rw[hsig i hi];exact Wl hge i _ (by simp[hi])
  have hlt1:∀i,i<rows.length->sig rows i<m1.n:=λi hi=>by
   obtain⟨c,hc,_⟩:=zB hrows i rows[i] (by simp[hi]);rw[hsig i hi];exact hR1.lt hc
  have hfresh:∀i l,i<rows.length->φ1 (sig rows i)=some l->w.heap.size<=l.b:=λi l hi hl=>by
   rcases hst.fresh (sig rows i) l (by rw[fq];exact hge' i hi) (hlt1 i hi) hl with h | ⟨B0,l0,ht,h,_⟩
   .exact h
   .exact absurd ht (hnoT B0)
  have hobj:∀B,B<m.n->(xO σ rows m).obj B=m.obj B:=λB hB=>by unfold xO;rw[jo,qhy (by omega)]
  have hobjN:∀i (hi:i<rows.length),(xO σ rows m).obj (m.n+i)=some (.cells (mkn .lf 0 (rows[i].2.map (ren τ)))):=λi hi=>by
   unfold xO;rw[jo,qhz (by simp;omega),show m.n+i-m.n=i by omega,hτ];simp[hi]
  have hrow:∀i (hi:i<rows.length) l,φ1 (sig rows i)=some l->ObjRel φ' w' (.cells (mkn .lf 0 (rows[i].2.map (ren τ)))) l:=λi hi l hl=>by
   obtain⟨c,hc,hok⟩:=zB hrows i rows[i] (by simp[hi]);obtain⟨ob,ho1,ho2⟩:=hR1.obj (sig rows i) l (hlt1 i hi) hl;rw[hsig i hi,hc]at ho1;cases ho1;exact Xk hturn hok ho2
  refine⟨φ',v',rfl,⟨λB hB=>?_,λB l hB hl=>?_,λB₁ B₂ l₁ l₂ h1 h2 hl1 hl2 hb hne=>?_⟩,⟨(kY _ m).1,hle,λB hB=>?_,λB l h1 h2 hl=>?_,λB _ h1 h2=>absurd ((kY _ m).2 B h1) h2,hst.os,hst.tape,hst.output,hst.size,λb hb _=>hheap b hb⟩,Ja hturn hv hr1⟩
  .exact (kY _ m).1.wf hR.wf B hB
  .rw[hgn]at hB;by_cases hlt:B<m.n
   .rw[hold B (by omega)]at hl;obtain⟨o,h1,h2⟩:=hR.obj B l hlt hl;exact⟨o,by rw[hobj B hlt];exact h1,(h2.mono hle).world (hheap l.b h2.lt)⟩
   .obtain⟨i,rfl⟩:∃i,B=m.n+i:=⟨B-m.n,by omega⟩;have hi:i<rows.length:=by omega
    rw[hnew i hi]at hl;exact⟨_,hobjN i hi,hrow i hi l hl⟩
  .rw[hgn]at h1 h2;have lt:∀B l,B<m.n->φ B=some l->l.b<w.heap.size:=λB l hB hl=>by
    obtain⟨o,_,ho⟩:=hR.obj B l hB hl;exact ho.lt
   by_cases e1:B₁<m.n
   .rw[hold B₁ (by omega)]at hl1;have:=lt B₁ l₁ e1 hl1;by_cases e2:B₂<m.n
    .rw[hold B₂ (by omega)]at hl2;exact (hR.inj B₁ B₂ l₁ l₂ e1 e2 hl1 hl2 hb hne).imp (λe=>by unfold dead;rw[hobj B₁ e1];exact e) (λe=>by unfold dead;rw[hobj B₂ e2];exact e)
    .obtain⟨i,rfl⟩:∃i,B₂=m.n+i:=⟨B₂-m.n,by omega⟩;rw[hnew i (by omega)]at hl2;have:=hfresh i l₂ (by omega) hl2;omega
   .obtain⟨i,rfl⟩:∃i,B₁=m.n+i:=⟨B₁-m.n,by omega⟩;have hi:i<rows.length:=by omega
    rw[hnew i hi]at hl1;by_cases e2:B₂<m.n
    .rw[hold B₂ (by omega)]at hl2;have:=lt B₂ l₂ e2 hl2;have:=hfresh i l₁ hi hl1;omega
    .obtain⟨j,rfl⟩:∃j,B₂=m.n+j:=⟨B₂-m.n,by omega⟩;have hj:j<rows.length:=by omega
     rw[hnew j hj]at hl2;have hij:sig rows i≠sig rows j:=λe=>by
      rw[hsig i hi,hsig j hj]at e;have:=vD hnd i j rows[i].1 (by simp[hi]) (by simp[hj,e]);omega
     have emp:∀k (hk:k<rows.length),dead m1 (sig rows k)->dead (xO σ rows m) (m.n+k):=λk hk hdk=>by
      obtain⟨c,hc,hok⟩:=zB hrows k rows[k] (by simp[hk]);unfold dead at hdk;rw[hsig k hk,hc]at hdk;cases hdk;unfold dead;rw[hobjN k hk,Xj hok];rfl
     exact (hR1.inj _ _ l₁ l₂ (hlt1 i hi) (hlt1 j hj) hl1 hl2 hb hij).imp (emp i hi) (emp j hj)
  .rw[hgn]at hB;exact hold B (by omega)
  .rw[hgn]at h2;obtain⟨i,rfl⟩:∃i,B=m.n+i:=⟨B-m.n,by omega⟩;rw[hnew i (by omega)]at hl;exact .inl (hfresh i l (by omega) hl)
 .cases h
structure PreM where
 g:Nat
 args:List Value
 ins:List (List Value)
 v:Value
 rows:List (Nat × List Value)
def uV (σ:List Nat)(x y:Value):List Nat:=match x,y with
 | .pointer (some a),.pointer (some b)=>bif Nat.beq a.block σ.length then σ++[b.block] else σ
 | .slice (some a) _ _,.slice (some b) _ _=>bif Nat.beq a.block σ.length then σ++[b.block] else σ
 | _,_=>σ
def uL:List Nat->List Value->List Value->List Nat
 | σ,x::l,y::k=>uL (uV σ x y) l k
 | σ,_,_=>σ
def u1 (σ:List Nat)(x y:Value):List Nat:=match x,y with
 | .agg a,.agg b=>uL σ a.toList b.toList
 | _,_=>uV σ x y
def uA:List Nat->List Value->List Value->List Nat
 | σ,x::l,y::k=>uA (u1 σ x y) l k
 | σ,_,_=>σ
def uRow (c:C):Nat->List Nat->List Value->List Nat
 | j,σ,x::l=>uRow c (j+1) (match A.get none j c with
  | some y=>uV σ x y
  | none=>σ) l
 | _,σ,[]=>σ
def uRows (m:M):Nat->List Nat->List (List Value)->List Nat
 | i,σ,r::l=>uRows m (i+1) (match m.obj (σ.getD i 0) with
  | some (.cells c)=>uRow c 0 σ r
  | _=>σ) l
 | _,σ,[]=>σ
def sigM (p:PreM)(args:List Value)(m:M):List Nat:=uRows m 0 (uA [] p.args args) p.ins
def KQ (p:PreM)(σ:List Nat)(args:List Value)(m:M)(r:Option (PreM × List Nat)):Option (PreM × List Nat):=bif okM p.args p.ins σ args m then some (p,σ) else r
def Qt (g:Nat)(args:List Value)(m:M)(l:List PreM):Option (PreM × List Nat):=List.rec none (λp _ ih=>bif Nat.beq p.g g then KQ p (sigM p args m) args m ih else ih) l
def qcs (P:Program)(l:List Pre)(k:List PreM)(x:Ex)(g:Nat)(args:List Value)(m:M):Option (Value × M) :=
 Option.rec (Bm P l x g args m) (λp=>some (Yg (Yq p.2 m.n) p.1.v,xO p.2 p.1.rows m)) (Qt g args m k)
def exgm (P:Program)(l:List Pre)(k:List PreM)(n:Nat):Ex:=Nat.rec .bot (λ_ x=>⟨qcs P l k x,Xt P x⟩) n
def PreMOK (P:Program)(p:PreM):Prop:=∃x,jg P x/\chkM p.ins p.rows p.v (x.f p.g p.args (gp p.ins))=true
theorem Qu {g:Nat}{args:List Value}{m:M}:∀{l:List PreM} {p:PreM} {σ:List Nat},Qt g args m l=some (p,σ)->p∈l/\p.g=g/\okM p.args p.ins σ args m=true
 | [],p,σ,h=>by cases h
 | q::l,p,σ,h=>by
  change (bif Nat.beq q.g g then KQ q (sigM q args m) args m (Qt g args m l) else Qt g args m l)=some (p,σ) at h
  have rest:Qt g args m l=some (p,σ)->p∈q::l/\p.g=g/\okM p.args p.ins σ args m=true:=λh=>by
   obtain⟨h1,h2⟩:=Qu h;exact⟨by simp[h1],h2⟩
  cases hb:Nat.beq q.g g with
  | false=>rw[hb]at h;exact rest h
  | true =>
   rw[hb]at h;change KQ q (sigM q args m) args m (Qt g args m l)=some (p,σ) at h;unfold KQ at h;cases ho:okM q.args q.ins (sigM q args m) args m with
   | true=>rw[ho]at h;cases h;exact⟨by simp,qhi hb,ho⟩
   | false=>rw[ho]at h;exact rest h
theorem KO {P:Program}(hP:P.follows .mixedOrders=true){l:List Pre}{k:List PreM}(hl:∀p∈l,PreOK2 P p)(hk:∀p∈k,PreMOK P p):∀n,jg P (exgm P l k n)
 | 0=>⟨λ_ _ _ _ _ h=>(by cases h),λ_ _ _ _ _ h=>(by cases h)⟩
 | n+1=>by
  have ih:=KO hP hl hk n;have hs:=Ex.step_ok ih hP;refine⟨λg args m v m' h=>?_,hs.y⟩;change qcs P l k (exgm P l k n) g args m=some (v,m') at h;unfold qcs at h;cases hm:Qt g args m k with
  | some q =>
   obtain⟨p,σ⟩:=q;rw[hm]at h;cases h;obtain⟨h1,rfl,h2⟩:=Qu hm;obtain⟨x,hx,h3⟩:=hk p h1;exact GG hx h3 h2
  | none =>
   rw[hm]at h;change Bm P l (exgm P l k n) g args m=some (v,m') at h;unfold Bm at h;cases hf:Jl g args l with
   | none=>rw[hf]at h;exact hs.f g args m v m' h
   | some p =>
    rw[hf]at h;cases h;obtain⟨h1,rfl,rfl⟩:=fc hf;obtain⟨h2,x,hx,h3⟩:=hl p h1;exact Jo hx h2 h3 m
theorem PreMOK.of {P:Program}(hP:P.follows .mixedOrders=true){l:List Pre}{k:List PreM}(hl:∀p∈l,PreOK2 P p)(hk:∀p∈k,PreMOK P p){n:Nat}{p:PreM}(h:chkM p.ins p.rows p.v ((exgm P l k n).f p.g p.args (gp p.ins))=true):PreMOK P p:=⟨_,KO hP hl hk n,h⟩
theorem PreOK2.of {P:Program}(hP:P.follows .mixedOrders=true){l:List Pre}{k:List PreM}(hl:∀p∈l,PreOK2 P p)(hk:∀p∈k,PreMOK P p){n:Nat}{p:Pre}(ha:p.args.all scalar=true)(h:chk p.rows p.v ((exgm P l k n).f p.g p.args M.empty)=true):PreOK2 P p:=⟨ha,_,KO hP hl hk n,h⟩
end
end Go.Dx
set_option maxRecDepth 100000
namespace Go.Sx
open Go.Dx Go.Proofs
theorem mixed:Tryz.prog.follows .mixedOrders=true:=by kernel_rfl
end Go.Sx
set_option maxRecDepth 100000
namespace Go.Sx
open Go.Dx Go.Proofs
def prOf:Dx.PreM:=⟨22,[.slice (some ⟨0,0,some 3⟩) 55 55],[[.int .u8 115,.int .u8 104,.int .u8 97,.int .u8 114,.int .u8 101,.int .u8 100,.int .u8 32,.int .u8 120,.int .u8 59,.int .u8 32,.int .u8 116,.int .u8 104,.int .u8 114,.int .u8 101,.int .u8 97,.int .u8 100,.int .u8 32,.int .u8 123,.int .u8 32,.int .u8 108,.int .u8 101,.int .u8 116,.int .u8 32,.int .u8 114,.int .u8 32,.int .u8 61,.int .u8 32,.int .u8 102,.int .u8 97,.int .u8 100,.int .u8 100,.int .u8 40,.int .u8 120,.int .u8 44,.int .u8 32,.int .u8 49,.int .u8 44,.int .u8 32,.int .u8 114,.int .u8 108,.int .u8 120,.int .u8 41,.int .u8 59,.int .u8 32,.int .u8 112,.int .u8 114,.int .u8 105,.int .u8 110,.int .u8 116,.int .u8 40,.int .u8 114,.int .u8 41,.int .u8 59,.int .u8 32,.int .u8 125]],
 .tuple ⟨[.agg ⟨[.int .i64 1,.slice (some ⟨1,0,some 4⟩) 1 1]⟩,zT]⟩,[
 (690,[.int .i64 1,.slice (some ⟨2,0,some 22⟩) 2 2]),
 (688,[.int .i64 5,zI,zI,zI,zS,.slice (some ⟨3,0,some 8⟩) 1 1,zS,.int .i64 1,zI,.int .i64 1,.int .i64 20,.int .i64 8,zI,zI,zI,zS,.slice (some ⟨4,0,some 8⟩) 1 1,zS,zI,zI,.int .i64 1,.int .i64 45]),
 (674,[.int .i64 1,.int .u64 1,zI,zI]),
 (685,[.int .i64 2,zU,zI,zI])]⟩
theorem qfo:Dx.PreMOK Tryz.prog prOf:=by
 exact Dx.PreMOK.of mixed (l:=[]) (k:=[]) (n:=3000) (λp hp=>by cases hp) (λp hp=>by simp only[List.mem_cons,List.not_mem_nil,or_false]at hp) (by kernel_rfl)
end Go.Sx
set_option maxRecDepth 100000
namespace Go.Sx
open Go.Dx Go.Proofs
def Fg:Dx.PreM:=⟨19,[.agg ⟨[.int .i64 1,.slice (some ⟨0,0,some 4⟩) 1 1]⟩],[[.int .i64 1,.slice (some ⟨1,0,some 22⟩) 2 2],
 [.int .i64 5,zI,zI,zI,zS,.slice (some ⟨2,0,some 8⟩) 1 1,zS,.int .i64 1,zI,.int .i64 1,.int .i64 20,.int .i64 8,zI,zI,zI,zS,.slice (some ⟨3,0,some 8⟩) 1 1,zS,zI,zI,.int .i64 1,.int .i64 45],
 [.int .i64 1,.int .u64 1,zI,zI],
 [.int .i64 2,zU,zI,zI]],
 .tuple ⟨[.slice (some ⟨4,0,some 2⟩) 1 1,zT]⟩,[
 (439,[.slice (some ⟨5,0,some 2⟩) 12 12]),
 (437,[.int .u32 3531604024,.int .u32 3531603997,.int .u32 4070572093,.int .u32 3361701817,.int .u32 3036676153,.int .u32 2333606714,.int .u32 3357441978,.int .u32 3053453214,.int .u32 2853766112,.int .u32 2852127736,.int .u32 3556770561,.int .u32 3560964096])]⟩
theorem Yc:Dx.PreMOK Tryz.prog Fg:=by
 exact Dx.PreMOK.of mixed (l:=[]) (k:=[]) (n:=3000) (λp hp=>by cases hp) (λp hp=>by simp only[List.mem_cons,List.not_mem_nil,or_false]at hp) (by kernel_rfl)
end Go.Sx
set_option maxRecDepth 100000
namespace Go.Sx
open Go.Dx Go.Proofs
def JY:Dx.PreM:=⟨7,[],[],
 .tuple ⟨[.agg ⟨[.int .i64 1,.slice (some ⟨0,0,some 4⟩) 1 1]⟩,.slice (some ⟨1,0,some 2⟩) 1 1,.agg ⟨[.int .i64 1,.slice (some ⟨2,0,some 11⟩) 4 4,.slice (some ⟨3,0,some 5⟩) 2 2,.slice (some ⟨4,0,some 3⟩) 1 1,.slice (some ⟨5,0,some 5⟩) 1 1,zS,.slice (some ⟨6,0,some 5⟩) 1 1,.slice (some ⟨7,0,some 5⟩) 3 3]⟩]⟩,[
 (3,[.int .i64 1,.slice (some ⟨8,0,some 22⟩) 2 2]),
 (16,[.slice (some ⟨9,0,some 2⟩) 12 12]),
 (8,[.int .i64 (-1),.int .i64 2,zI,zU,.int .i64 11,zI,.int .i64 1,zI,zU,.int .i64 11,zI,.int .i64 1,zI,zU,.int .i64 11,zI,.int .i64 2,zI,.int .u64 1,.int .i64 11]),
 (9,[zI,.int .i64 1,zI,.int .i64 2]),
 (11,[.slice (some ⟨10,0,some 3⟩) 2 2]),
 (12,[.int .i64 2,.int .i64 3]),
 (13,[.int .i64 2,.int .i64 3]),
 (14,[.int .i64 1,.int .i64 2,.int .i64 1,.int .i64 3,.int .i64 2,.int .i64 3]),
 (4,[.int .i64 5,zI,zI,zI,zS,.slice (some ⟨11,0,some 8⟩) 1 1,zS,.int .i64 1,zI,.int .i64 1,.int .i64 20,.int .i64 8,zI,zI,zI,zS,.slice (some ⟨12,0,some 8⟩) 1 1,zS,zI,zI,.int .i64 1,.int .i64 45]),
 (17,[.int .u32 3531604024,.int .u32 3531603997,.int .u32 4070572093,.int .u32 3361701817,.int .u32 3036676153,.int .u32 2333606714,.int .u32 3357441978,.int .u32 3053453214,.int .u32 2853766112,.int .u32 2852127736,.int .u32 3556770561,.int .u32 3560964096]),
 (10,[zI,.int .i64 3]),
 (5,[.int .i64 1,.int .u64 1,zI,zI]),
 (6,[.int .i64 2,zU,zI,zI])]⟩
theorem JZ:Dx.PreMOK Tryz.prog JY:=by
 have:=qfo;have:=Yc;exact Dx.PreMOK.of mixed (l:=[]) (k:=[prOf,Fg]) (n:=3000) (λp hp=>by cases hp) (λp hp=>by simp only[List.mem_cons,List.not_mem_nil,or_false]at hp;rcases hp with rfl | rfl<;>assumption) (by kernel_rfl)
end Go.Sx
