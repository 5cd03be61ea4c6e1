/- The evaluator over an abstract heap: calls run beforehand. -/
import Derived.Test.YtifpodmojagpiaaGreatEc
set_option linter.unusedVariables false
set_option linter.unusedSimpArgs false
set_option linter.defProp false
namespace Go.Dx
open Go.RowKit
noncomputable section
def scalar:Value->Bool
 | .bool _ | .int _ _ | .string _ | .pointer none | .slice none 0 0 | .nilFunc | .nilIface=>true
 | .func (.func _) a b=>a.isEmpty&&b.isEmpty
 | _=>false
def eqS:Value->Value->Bool
 | .bool a,.bool b=>eqB a b
 | .int k a,.int k' b=>Nat.beq (ik k) (ik k')&&eqI a b
 | .string a,.string b=>zp a.data.toList b.data.toList
 | .pointer none,.pointer none=>true
 | .slice none 0 0,.slice none 0 0=>true
 | .nilFunc,.nilFunc=>true
 | .nilIface,.nilIface=>true
 | .func (.func f) a b,.func (.func g) c d=>Nat.beq f g&&a.isEmpty&&b.isEmpty&&c.isEmpty&&d.isEmpty
 | _,_=>false
def eqSp:Option Nat->Option Nat->Bool
 | none,none=>true
 | some a,some b=>Nat.beq a b
 | _,_=>false
def eqA (a b:Addr):Bool:=Nat.beq a.block b.block&&Nat.beq a.off b.off&&eqSp a.spot b.spot
def eqC:Value->Value->Bool
 | .pointer (some a),.pointer (some b)=>eqA a b
 | .slice (some a) n c,.slice (some b) n' c'=>eqA a b&&Nat.beq n n'&&Nat.beq c c'
 | .iface t u,.iface t' u'=>Nat.beq t t'&&scalar u&&eqS u u'
 | a,b=>scalar a&&eqS a b
def ren (f:Nat->Nat):Value->Value
 | .pointer (some a)=>.pointer (some ⟨f a.block,a.off,a.spot⟩)
 | .slice (some a) n c=>.slice (some ⟨f a.block,a.off,a.spot⟩) n c
 | v=>v
def okR (r:Nat):Value->Bool
 | .pointer (some a)=>Nat.blt a.block r
 | .slice (some a) _ _=>Nat.blt a.block r
 | .iface _ u=>scalar u
 | v=>scalar v
def eqL (σ:Nat->Nat)(r:Nat):List Value->List Value->Bool
 | [],[]=>true
 | x::l,y::k=>okR r x&&eqC (ren σ x) y&&eqL σ r l k
 | _,_=>false
def Ys (f:Nat->Nat):Value->Value
 | .agg cs=>.agg ⟨cs.toList.map (ren f)⟩
 | v=>ren f v
def eq1 (σ:Nat->Nat)(r:Nat):Value->Value->Bool
 | .agg a,.agg b=>eqL σ r a.toList b.toList
 | x,y=>okR r x&&eqC (ren σ x) y
def eqL1 (σ:Nat->Nat)(r:Nat):List Value->List Value->Bool
 | [],[]=>true
 | x::l,y::k=>eq1 σ r x y&&eqL1 σ r l k
 | _,_=>false
def ren2 (f:Nat->Nat):Value->Value
 | .tuple cs=>.tuple ⟨cs.toList.map (Ys f)⟩
 | v=>Ys f v
def eq2 (σ:Nat->Nat)(r:Nat):Value->Value->Bool
 | .tuple a,.tuple b=>eqL1 σ r a.toList b.toList
 | x,y=>eq1 σ r x y
def KU (σ:Nat->Nat)(r:Nat)(c:C):Nat->List Value->Bool
 | _,[]=>true
 | j,x::l=>(match A.get none j c with
  | some y=>okR r x&&eqC (ren σ x) y
  | none=>false)&&KU σ r c (j+1) l
def Jd (σ:Nat->Nat)(r:Nat)(m1:M):List (Nat × List Value)->Bool
 | []=>true
 | (B,row)::l=>(match m1.obj B with
  | some (.cells c)=>KU σ r c 0 row
  | _=>false)&&Jd σ r m1 l
def ZI:List Nat->Bool
 | []=>true
 | a::l=>!ZC a l&&ZI l
def sig (rows:List (Nat × List Value))(i:Nat):Nat:=(rows.map (·.1)).getD i 0
def chk (rows:List (Nat × List Value))(v0:Value)(o:Option (Value × M)):Bool:=match o with
 | some (v,m1)=>eq2 (sig rows) rows.length v0 v&&Jd (sig rows) rows.length m1 rows&&ZI (rows.map (·.1))
 | none=>false
def fR (l:List (List Value))(m:M):M:=List.rec (λm=>m) (λr _ ih m=>ih (newRow m r)) l m
def fH (rows:List (Nat × List Value))(m:M):M:=fR (rows.map λp=>p.2.map (ren (m.n + ·))) m
theorem qdy {a b:Bool}(h:eqB a b=true):a=b:=by cases a<;>cases b<;>first | rfl | cases h
theorem eqI_of {a b:Int}(h:eqI a b=true):a=b:=by rw[vD]at h;simpa using h
theorem XY {a b:List UInt8}(h:zp a b=true):a=b:=by rw[xe]at h;simpa using h
theorem VI {a b:Value}(h:eqS a b=true):a=b:=by
 unfold eqS at h
 split at h
 .rw[qdy h]
 .rw[qgt]at h;rw[Wv h.1,eqI_of h.2]
 .rename_i x y
  have:=XY h
  cases x with | mk x=>cases y with | mk y=>cases x with | mk x=>cases y with | mk y=>simp at this;rw[this]
 .rfl
 .rfl
 .rfl
 .rfl
 .simp only[qgt,Array.isEmpty_iff]at h
  obtain⟨⟨⟨⟨h1,h2⟩,h3⟩,h4⟩,h5⟩:=h
  subst h2 h3 h4 h5
  rw[qh0 h1]
 .cases h
theorem qak {a b:Addr}(h:eqA a b=true):a=b:=by
 unfold eqA at h
 simp only[qgt]at h
 obtain⟨⟨h1,h2⟩,h3⟩:=h
 cases a with
 | mk b1 o1 s1 =>
  cases b with
  | mk b2 o2 s2 =>
   have e1:=qh0 h1
   have e2:=qh0 h2
   simp only at e1 e2 h3
   subst e1 e2
   unfold eqSp at h3
   split at h3
   .rfl
   .rw[qh0 h3]
   .cases h3
theorem VH {a b:Value}(h:eqC a b=true):a=b:=by
 unfold eqC at h
 split at h
 .rw[qak h]
 .simp only[qgt]at h
  rw[qak h.1.1,qh0 h.1.2,qh0 h.2]
 .simp only[qgt]at h
  rw[qh0 h.1.1,VI h.2]
 .simp only[qgt]at h
  exact VI h.2
section
variable {φ φ':Phi}
theorem yM {x v':Value}(hs:scalar x=true)(h:VRel φ x v'):VRel φ' x v':=by
 unfold scalar at hs
 split at hs
 .cases h;exact .bool _
 .cases h;exact .int _ _
 .cases h;exact .string _
 .cases h;exact .ptrN
 .cases h;exact .slN
 .cases h;exact .nilFunc
 .cases h;exact .nilIface
 .simp only[qgt,Array.isEmpty_iff]at hs
  obtain⟨h1,h2⟩:=hs
  subst h1 h2
  cases h with
  | fn f a a' b b' ha hb =>
   have ea:a'=#[]:=by
    cases a' with | mk l=>cases l with
     | nil=>rfl
     | cons=>cases ha
   have eb:b'=#[]:=by
    cases b' with | mk l=>cases l with
     | nil=>rfl
     | cons=>cases hb
   subst ea eb
   exact .fn _ _ _ _ _ .nil .nil
 .cases hs
theorem WN {σ τ:Nat->Nat}{r:Nat}(hφ:∀i l,i<r->φ (σ i)=some l->φ' (τ i)=some l){x v':Value}(hk:okR r x=true)(h:VRel φ (ren σ x) v'):VRel φ' (ren τ x) v':=by
 unfold okR at hk
 split at hk
 .rename_i a
  have hlt:a.block<r:=qgw hk
  unfold ren at h ⊢
  simp only at h ⊢
  obtain⟨o,l,h1,h2,h3⟩:=h.ptr_inv
  simp only[Addr.mk.injEq,true_and]at h2
  subst h3
  rw[h2.1,h2.2]
  exact .ptr _ o l (hφ _ l hlt h1)
 .rename_i a n c
  obtain⟨ab,ao,as⟩:=a
  have hlt:ab<r:=qgw hk
  unfold ren at h ⊢
  simp only at h ⊢
  cases h with
  | slE B o cd a' l h=>exact .slE _ _ cd _ l (hφ _ l hlt h)
  | sl B o cd len cap cap' l h h1 h2 h3 h4=>exact .sl _ o cd _ _ _ l (hφ _ l hlt h) h1 h2 h3 h4
 .unfold ren at h ⊢
  simp only at h ⊢
  cases h with
  | iface t v w hv=>exact .iface _ _ _ (yM hk hv)
 .rename_i v h1 h2 h3
  have e:∀f,ren f x=x:=by
   intro f
   unfold ren
   split
   .exact absurd rfl (h1 _)
   .exact absurd rfl (h2 _ _ _)
   .rfl
  rw[e]at h ⊢
  exact yM hk h
theorem JN {σ τ:Nat->Nat}{r:Nat}(hφ:∀i l,i<r->φ (σ i)=some l->φ' (τ i)=some l):∀{l k k':List Value},eqL σ r l k=true->VRels φ k k'->VRels φ' (l.map (ren τ)) k'
 | [],k,k',h,hr=>by
  cases k with
  | nil=>cases hr;exact .nil
  | cons=>cases h
 | x::l,k,k',h,hr=>by
  cases k with
  | nil=>cases h
  | cons y k =>
   change (okR r x&&eqC (ren σ x) y&&eqL σ r l k)=true at h
   simp only[qgt]at h
   cases hr with
   | cons _ v' _ l' e1 e2 =>
    rw[<-VH h.1.2]at e1
    exact .cons _ _ _ _ (WN hφ h.1.1 e1) (JN hφ h.2 e2)
theorem JM {σ τ:Nat->Nat}{r:Nat}(hφ:∀i l,i<r->φ (σ i)=some l->φ' (τ i)=some l){x y v':Value}(h:eq1 σ r x y=true)(hr:VRel φ y v'):VRel φ' (Ys τ x) v':=by
 unfold eq1 at h
 split at h
 .cases hr with
  | agg a a' hh=>exact .agg _ _ (JN hφ h hh)
 .rename_i h1
  simp only[qgt]at h
  have e:Ys τ x=ren τ x:=by
   unfold Ys
   split
   .rename_i cs
    have:=h.1
    simp[okR,scalar]at this
   .rfl
  rw[e]
  rw[<-VH h.2]at hr
  exact WN hφ h.1 hr
theorem Kw {σ τ:Nat->Nat}{r:Nat}(hφ:∀i l,i<r->φ (σ i)=some l->φ' (τ i)=some l):∀{l k k':List Value},eqL1 σ r l k=true->VRels φ k k'->VRels φ' (l.map (Ys τ)) k'
 | [],k,k',h,hr=>by
  cases k with
  | nil=>cases hr;exact .nil
  | cons=>cases h
 | x::l,k,k',h,hr=>by
  cases k with
  | nil=>cases h
  | cons y k =>
   change (eq1 σ r x y&&eqL1 σ r l k)=true at h
   simp only[qgt]at h
   cases hr with
   | cons _ v' _ l' e1 e2=>exact .cons _ _ _ _ (JM hφ h.1 e1) (Kw hφ h.2 e2)
theorem qaj {σ τ:Nat->Nat}{r:Nat}(hφ:∀i l,i<r->φ (σ i)=some l->φ' (τ i)=some l){x y v':Value}(h:eq2 σ r x y=true)(hr:VRel φ y v'):VRel φ' (ren2 τ x) v':=by
 unfold eq2 at h
 split at h
 .cases hr with
  | tuple a a' hh=>exact .tuple _ _ (Kw hφ h hh)
 .rename_i h1
  have e:ren2 τ x=Ys τ x:=by
   unfold ren2
   split
   .rename_i cs
    unfold eq1 at h
    split at h
    .contradiction
    .simp only[qgt]at h
     have:=h.1
     simp[okR,scalar]at this
   .rfl
  rw[e]
  exact JM hφ h hr
theorem vp {σ:Nat->Nat}{r:Nat}{c:C}:∀{l:List Value} {j:Nat},KU σ r c j l=true->∀(i:Nat) (x:Value),l[i]?=some x->∃y,A.get none (j+i) c=some y/\okR r x=true/\ren σ x=y
 | [],_,_,i,x,hx=>by simp at hx
 | x::l,j,h,i,z,hz=>by
  change ((match A.get none j c with
   | some y=>okR r x&&eqC (ren σ x) y
   | none=>false)&&KU σ r c (j+1) l)=true at h
  rw[qgt]at h
  cases i with
  | zero =>
   simp at hz;subst hz
   have h1:=h.1
   split at h1
   .rename_i y hy
    simp only[qgt]at h1
    exact⟨y,hy,h1.1,VH h1.2⟩
   .cases h1
  | succ i =>
   obtain⟨y,h1,h2,h3⟩:=vp h.2 i z (by simpa using hz)
   exact⟨y,by rw[show j+(i+1)=j+1+i by omega];exact h1,h2,h3⟩
theorem vU {σ:Nat->Nat}{r:Nat}{m1:M}:∀{rows:List (Nat × List Value)},Jd σ r m1 rows=true->∀(i:Nat) (p:Nat × List Value),rows[i]?=some p->∃c,m1.obj p.1=some (.cells c)/\KU σ r c 0 p.2=true
 | [],_,i,p,hp=>by simp at hp
 | (B,row)::l,h,i,p,hp=>by
  change ((match m1.obj B with
   | some (.cells c)=>KU σ r c 0 row
   | _=>false)&&Jd σ r m1 l)=true at h
  rw[qgt]at h
  cases i with
  | zero =>
   simp at hp;subst hp
   have h1:=h.1
   split at h1
   .rename_i c hc;exact⟨c,hc,h1⟩
   .cases h1
  | succ i=>exact vU h.2 i p (by simpa using hp)
theorem WC:∀{l:List Nat},ZI l=true->∀(i j a:Nat),l[i]?=some a->l[j]?=some a->i=j
 | [],_,i,j,a,h,_=>by simp at h
 | b::l,hn,i,j,a,hi,hj=>by
  change (!ZC b l&&ZI l)=true at hn
  simp only[qgt,Bool.not_eq_true']at hn
  have no:∀i,l[i]?=some b->False:=λi h=>by
   have:=ZD (qgo h)
   rw[hn.1]at this;cases this
  cases i with
  | zero =>
   simp at hi;subst hi
   cases j with
   | zero=>rfl
   | succ j=>exact (no j (by simpa using hj)).elim
  | succ i =>
   cases j with
   | zero=>simp at hj;subst hj;exact (no i (by simpa using hi)).elim
   | succ j=>rw[WC hn.2 i j a (by simpa using hi) (by simpa using hj)]
theorem Qb (r:List Value)(l:List (List Value))(m:M):fR (r::l) m=fR l (newRow m r):=rfl
theorem JS:∀(l:List (List Value)) (m:M),(fR l m).n=m.n+l.length
 | [],m=>rfl
 | r::l,m=>by rw[Qb,JS l];unfold newRow;rw[M.n_alloc];simp;omega
theorem fS:∀(l:List (List Value)) (m:M) (X:Nat),(fR l m).obj X=if m.n<=X/\X<m.n+l.length then (l[X-m.n]?).map (λr=>.cells (mkn .lf 0 r)) else m.obj X
 | [],m,X=>by rw[if_neg (by simp)];rfl
 | r::l,m,X=>by
  rw[Qb,fS l]
  unfold newRow
  rw[M.n_alloc,M.obj_alloc]
  simp only[List.length_cons]
  by_cases e:X=m.n
  .subst e
   rw[if_neg (by omega),if_pos rfl,if_pos (by omega)]
   simp
  .by_cases e2:m.n+1<=X/\X<m.n+1+l.length
   .rw[if_pos e2,if_pos (by omega),show X-m.n=(X-(m.n+1))+1 by omega,List.getElem?_cons_succ]
   .rw[if_neg e2,if_neg e,if_neg (by omega)]
theorem jB:∀(l:List (List Value)) (m:M),DStep m (fR l m)/\∀B,Wr (fR l m) B->Wr m B
 | [],m=>⟨DStep.refl m,λ_ h=>h⟩
 | r::l,m=>by
  obtain⟨h1,h2⟩:=jB l (newRow m r)
  exact⟨(DStep.alloc _ _).trans h1,λB h=>QK _ _ _ (h2 B h)⟩
theorem Wo:∀{l k:List Value},l.all scalar=true->VRels φ l k->VRels φ' l k
 | [],k,_,h=>by cases h;exact .nil
 | x::l,k,hs,h=>by
  simp only[List.all_cons,qgt]at hs
  cases h with
  | cons _ v' _ l' e1 e2=>exact .cons _ _ _ _ (yM hs.1 e1) (Wo hs.2 e2)
end
theorem qas {P:Program}{x:Ex}(hx:jn P x){g:Nat}{args:List Value}{v0:Value}{rows:List (Nat × List Value)}(hargs:args.all scalar=true)(h:chk rows v0 (x.f g args M.empty)=true)(m:M) :
  DStep m (fH rows m)/\Enters P g/\BO P g args m (ren2 (m.n + ·) v0) (fH rows m):=by
 unfold chk at h
 split at h
 .rename_i v m1 hrun
  simp only[qgt]at h
  obtain⟨⟨hv,hrows⟩,hnd⟩:=h
  obtain⟨hd1,hent,hJ⟩:=hx.f _ _ _ _ _ hrun
  have hlen:(rows.map λp=>p.2.map (ren (m.n + ·))).length=rows.length:=by simp
  refine⟨(jB _ m).1,hent,λφ w args' hR hargs' hF=>?_⟩
  have hgn:(fH rows m).n=m.n+rows.length:=by unfold fH;rw[JS,hlen]
  rw[hgn]at hF
  refine (hJ (λ_=>none) w args' (R.empty w) (Wo hargs hargs') (λ_ _ _=>rfl)).mono ?_
  rintro e w' ⟨φ1,v',rfl,hR1,hs1,hr1⟩
  obtain⟨φ',hφ'⟩:∃φ':Phi,φ'=λB=>if m.n<=B/\B<m.n+rows.length then φ1 (sig rows (B-m.n)) else φ B:=⟨_,rfl⟩
  have hold:∀B,¬(m.n<=B/\B<m.n+rows.length)->φ' B=φ B:=λB hB=>by rw[hφ'];simp only[if_neg hB]
  have hnew:∀i,i<rows.length->φ' (m.n+i)=φ1 (sig rows i):=λi hi=>by rw[hφ'];simp only[if_pos (show m.n<=m.n+i/\m.n+i<m.n+rows.length by omega)];rw[show m.n+i-m.n=i by omega]
  have hle:PLe φ φ':=λB l hl=>by
   by_cases hB:m.n<=B/\B<m.n+rows.length
   .rw[hF B hB.1 hB.2]at hl;cases hl
   .rw[hold B hB];exact hl
  have hturn:∀i l,i<rows.length->φ1 (sig rows i)=some l->φ' (m.n+i)=some l:=λi l hi hl=>by rw[hnew i hi];exact hl
  have hheap:∀b,b<w.heap.size->w'.heap[b]?=w.heap[b]?:=λb hb=>hs1.frame b hb λ_ _ hh=>by cases hh
  have hsig:∀i (hi:i<rows.length),sig rows i=rows[i].1:=λi hi=>by unfold sig;simp[hi]
  have hlt1:∀i,i<rows.length->sig rows i<m1.n:=λi hi=>by
   obtain⟨c,hc,_⟩:=vU hrows i rows[i] (by simp[hi])
   rw[hsig i hi];exact hR1.lt hc
  have hfresh:∀i l,i<rows.length->φ1 (sig rows i)=some l->w.heap.size<=l.b:=λi l hi hl=>by
   rcases hs1.fresh (sig rows i) l (Nat.zero_le _) (hlt1 i hi) hl with h | ⟨B0,l0,_,h,_⟩
   .exact h
   .cases h
  have hobj:∀B,B<m.n->(fH rows m).obj B=m.obj B:=λB hB=>by unfold fH;rw[fS,if_neg (by omega)]
  have hobjN:∀i (hi:i<rows.length),(fH rows m).obj (m.n+i)=some (.cells (mkn .lf 0 (rows[i].2.map (ren (m.n + ·))))):=λi hi=>by
   unfold fH
   rw[fS,if_pos (by simp;omega),show m.n+i-m.n=i by omega]
   simp[hi]
  have hrow:∀i (hi:i<rows.length) l,φ1 (sig rows i)=some l->ObjRel φ' w' (.cells (mkn .lf 0 (rows[i].2.map (ren (m.n + ·))))) l:=λi hi l hl=>by
   obtain⟨c,hc,hok⟩:=vU hrows i rows[i] (by simp[hi])
   obtain⟨ob,ho1,ho2⟩:=hR1.obj (sig rows i) l (hlt1 i hi) hl
   rw[hsig i hi,hc]at ho1
   cases ho1
   obtain⟨cs,e,fz,k1,k2,k3,k4⟩:=ho2
   have hsub:∀j x,A.get none j (mkn .lf 0 (rows[i].2.map (ren (m.n + ·))))=some x->∃y,A.get none j c=some y:=λj x hx=>by
    rw[zZ,A.get_lf]at hx
    split at hx
    .simp only[Nat.sub_zero,qh4]at hx
     cases hg:rows[i].2[j]? with
     | none=>rw[hg]at hx;cases hx
     | some y =>
      obtain⟨z,e1,_⟩:=vp hok j y hg
      rw[Nat.zero_add]at e1
      exact⟨z,e1⟩
    .cases hx
   have hfc:FzC l.d cs.size fz (mkn .lf 0 (rows[i].2.map (ren (m.n + ·)))):=⟨λha hd=>k3.1 (by
     cases hrw:rows[i].2 with
     | nil=>rw[hrw]at ha;cases ha
     | cons y ys =>
      obtain⟨z,e1,_⟩:=vp hok 0 y (by rw[hrw];rfl)
      exact Kg e1) hd,λj x hx=>let ⟨y,hy⟩:=hsub j x hx;k3.2 j y hy⟩
   refine⟨cs,e,fz,k1,k2,hfc,λj x hx=>?_⟩
   rw[zZ,A.get_lf]at hx
   split at hx
   .rename_i hj
    simp only[Nat.sub_zero,qh4]at hx
    cases hg:rows[i].2[j]? with
    | none=>rw[hg]at hx;cases hx
    | some y =>
     rw[hg]at hx
     cases hx
     obtain⟨z,e1,e2,e3⟩:=vp hok j y hg
     rw[Nat.zero_add]at e1
     obtain⟨q1,v'',q2,q3⟩:=k4 j z e1
     refine⟨q1,v'',q2,?_⟩
     rw[<-e3]at q3
     exact WN hturn e2 q3
   .cases hx
  refine⟨φ',v',rfl,⟨λB hB=>?_,λB l hB hl=>?_,λB₁ B₂ l₁ l₂ h1 h2 hl1 hl2 hb hne=>?_⟩,⟨(jB _ m).1,hle,λB hB=>?_,λB l h1 h2 hl=>?_,λB _ h1 h2=>absurd ((jB _ m).2 B h1) h2,hs1.os,hs1.tape,hs1.output,hs1.size,λb hb _=>hheap b hb⟩,qaj hturn hv hr1⟩
  .exact (jB _ m).1.wf hR.wf B hB
  .rw[hgn]at hB
   by_cases hlt:B<m.n
   .rw[hold B (by omega)]at hl
    obtain⟨o,h1,h2⟩:=hR.obj B l hlt hl
    exact⟨o,by rw[hobj B hlt];exact h1,(h2.mono hle).world (hheap l.b h2.lt)⟩
   .obtain⟨i,rfl⟩:∃i,B=m.n+i:=⟨B-m.n,by omega⟩
    have hi:i<rows.length:=by omega
    rw[hnew i hi]at hl
    exact⟨_,hobjN i hi,hrow i hi l hl⟩
  .rw[hgn]at h1 h2
   have lt:∀B l,B<m.n->φ B=some l->l.b<w.heap.size:=λB l hB hl=>by
    obtain⟨o,_,ho⟩:=hR.obj B l hB hl
    exact ho.lt
   by_cases e1:B₁<m.n
   .rw[hold B₁ (by omega)]at hl1
    have:=lt B₁ l₁ e1 hl1
    by_cases e2:B₂<m.n
    .rw[hold B₂ (by omega)]at hl2
     exact (hR.inj B₁ B₂ l₁ l₂ e1 e2 hl1 hl2 hb hne).imp (λe=>by unfold dead;rw[hobj B₁ e1];exact e) (λe=>by unfold dead;rw[hobj B₂ e2];exact e)
    .obtain⟨i,rfl⟩:∃i,B₂=m.n+i:=⟨B₂-m.n,by omega⟩
     rw[hnew i (by omega)]at hl2
     have:=hfresh i l₂ (by omega) hl2
     omega
   .obtain⟨i,rfl⟩:∃i,B₁=m.n+i:=⟨B₁-m.n,by omega⟩
    have hi:i<rows.length:=by omega
    rw[hnew i hi]at hl1
    by_cases e2:B₂<m.n
    .rw[hold B₂ (by omega)]at hl2
     have:=lt B₂ l₂ e2 hl2
     have:=hfresh i l₁ hi hl1
     omega
    .obtain⟨j,rfl⟩:∃j,B₂=m.n+j:=⟨B₂-m.n,by omega⟩
     have hj:j<rows.length:=by omega
     rw[hnew j hj]at hl2
     have hij:sig rows i≠sig rows j:=λe=>by
      rw[hsig i hi,hsig j hj]at e
      have:=WC hnd i j rows[i].1 (by simp[hi]) (by simp[hj,e])
      omega
     have emp:∀k (hk:k<rows.length),dead m1 (sig rows k)->dead (fH rows m) (m.n+k):=λk hk hdk=>by
      obtain⟨c,hc,hok⟩:=vU hrows k rows[k] (by simp[hk])
      unfold dead at hdk
      rw[hsig k hk,hc]at hdk
      cases hdk
      unfold dead
      rw[hobjN k hk]
      cases hrk:rows[k].2 with
      | nil=>rfl
      | cons x l =>
       obtain⟨y,hy,_⟩:=vp hok 0 x (by rw[hrk];rfl)
       rw[A.get_lf]at hy;cases hy
     exact (hR1.inj _ _ l₁ l₂ (hlt1 i hi) (hlt1 j hj) hl1 hl2 hb hij).imp (emp i hi) (emp j hj)
  .rw[hgn]at hB
   exact hold B (by omega)
  .rw[hgn]at h2
   obtain⟨i,rfl⟩:∃i,B=m.n+i:=⟨B-m.n,by omega⟩
   rw[hnew i (by omega)]at hl
   exact .inl (hfresh i l (by omega) hl)
 .cases h
structure Pre where
 g:Nat
 args:List Value
 v:Value
 rows:List (Nat × List Value)
def db:List Value->List Value->Bool
 | [],[]=>true
 | a::l,b::k=>eqS a b&&db l k
 | _,_=>false
theorem Kv:∀{l k:List Value},db l k=true->l=k
 | [],[],_=>rfl
 | [],_::_,h=>by cases h
 | _::_,[],h=>by cases h
 | a::l,b::k,h=>by
  change (eqS a b&&db l k)=true at h
  rw[qgt]at h
  rw[VI h.1,Kv h.2]
def YT (g:Nat)(args:List Value)(l:List Pre):Option Pre:=List.rec none (λp _ ih=>bif Nat.beq p.g g&&db p.args args then some p else ih) l
def preF (P:Program)(l:List Pre)(x:Ex)(g:Nat)(args:List Value)(m:M):Option (Value × M) :=
 Option.rec (ob (qZ P g) (gH x args m)) (λp=>some (ren2 (m.n + ·) p.v,fH p.rows m)) (YT g args l)
def exg (P:Program)(l:List Pre)(n:Nat):Ex:=Nat.rec .bot (λ_ x=>⟨preF P l x,YF P x⟩) n
def PreOK (P:Program)(p:Pre):Prop:=p.args.all scalar=true/\∃N,chk p.rows p.v ((ex P N).f p.g p.args M.empty)=true
theorem We {g:Nat}{args:List Value}:∀{l:List Pre} {p:Pre},YT g args l=some p->p∈l/\p.g=g/\p.args=args
 | [],p,h=>by cases h
 | q::l,p,h=>by
  change (bif Nat.beq q.g g&&db q.args args then some q else YT g args l)=some p at h
  cases hb:(Nat.beq q.g g&&db q.args args) with
  | true =>
   rw[hb]at h;cases h
   rw[qgt]at hb
   exact⟨by simp,qh0 hb.1,Kv hb.2⟩
  | false =>
   rw[hb]at h
   obtain⟨h1,h2⟩:=We h
   exact⟨by simp[h1],h2⟩
def BW (P:Program)(p:Pre):Prop:=p.args.all scalar=true/\∃x,jn P x/\chk p.rows p.v (x.f p.g p.args M.empty)=true
theorem PreOK.two {P:Program}(hP:P.follows .mixedOrders=true){p:Pre}(h:PreOK P p):BW P p:=let ⟨a,N,c⟩:=h;⟨a,_,YP hP N,c⟩
theorem YQ {P:Program}(hP:P.follows .mixedOrders=true){l:List Pre}(hl:∀p∈l,BW P p):∀n,jn P (exg P l n)
 | 0=>⟨λ_ _ _ _ _ h=>(by cases h),λ_ _ _ _ _ h=>(by cases h)⟩
 | n+1=>by
  have hs:=Ex.step_ok (YQ hP hl n) hP
  refine⟨λg args m v m' h=>?_,hs.y⟩
  change preF P l (exg P l n) g args m=some (v,m') at h
  unfold preF at h
  cases hf:YT g args l with
  | none=>rw[hf]at h;exact hs.f g args m v m' h
  | some p =>
   rw[hf]at h
   cases h
   obtain⟨h1,rfl,rfl⟩:=We hf
   obtain⟨h2,x,hx,h3⟩:=hl p h1
   exact qas hx h2 h3 m
theorem exg_ok {P:Program}(hP:P.follows .mixedOrders=true){l:List Pre}(hl:∀p∈l,PreOK P p)(n:Nat):jn P (exg P l n):=YQ hP (λp hp=>(hl p hp).two hP) n
end
end Go.Dx
