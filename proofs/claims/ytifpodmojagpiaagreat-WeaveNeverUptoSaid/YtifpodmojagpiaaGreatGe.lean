/- Contracts. -/
import Derived.Test.YtifpodmojagpiaaGreatGd
import Derived.Test.YtifpodmojagpiaaGreatGa
import Derived.Laws.Bits64b
import Derived.Test.YtifpodmojagpiaaGreatGb2
set_option linter.unusedVariables false
set_option linter.unusedSimpArgs false
set_option linter.defProp false
namespace Go.Dx
section
variable {N:Nat}{ex:List Nat}{a b c m m':M}
end
end Go.Dx
namespace Go.Dx
end Go.Dx
namespace Go.Sx
open Go.Dx
end Go.Sx
namespace Go.Dx
end Go.Dx
namespace Go.Dx
section
variable {m0 m m':M}{σ σ':List (Nat × List Value)}{k b:Nat}{l:List Value}
end
end Go.Dx
namespace Go.Dx
end Go.Dx
namespace Go.Sx
open Go.Dx
end Go.Sx
namespace Go.Dx
section
variable {m0 m m':M}{σ:List (Nat × List Value)}{k b:Nat}{l:List Value}
end
end Go.Dx
namespace Go.Dx
theorem wq {x:Ex}{g:Nat}{args:List Value}{m:M}{P:Value->M->Prop}(h:Dx.Call x g args (qc m) P):∃v m',x.f g args (qc m)=some (v,m')/\m'.log=[]/\Ext m (behind m m')/\P v m':=by
 obtain⟨v,m',h1,h2,h3⟩:=h
 exact⟨v,m',h1,by rw[h2.log,wh],h2.behind,h3⟩
theorem Rd.behind {α:Type}{m m':M}{v:Value}{e:Nat}{f:α->List Value}{l:List α}(h:Rd m' v e f l):Rd (Dx.behind m m') v e f l:=h.congr (by rw[wb];exact qgq _) λB _=>qx _ _ _
end Go.Dx
namespace Go.Dx
noncomputable section
structure GS {α:Type}(m0 m1 m:M)(P2 P3:Nat)(σ:List (Nat × List Value))(g:Value)(e:Nat)(f:α->List Value)(rows:List α):Prop where
 st:St m0 m σ
 rest:Go.Dx.Rest m1.n [P2,P3] m1 m
 low:∀p∈σ,p.1=P2\/p.1=P3\/m1.n<=p.1
 m01:m0.n<=m1.n
 m1b:m1.base<=m1.n
 gr:Grown m1 m g e f rows
 sep:∀B,blk g=some B->m1.n<=B/\B<m.n/\∀p∈σ,p.1≠B
section
variable {α:Type}{m0 m1 m m':M}{P2 P3:Nat}{σ σ':List (Nat × List Value)}{g:Value}{e:Nat}{f:α->List Value}{rows:List α}
theorem GS.step (h:GS m0 m1 m P2 P3 σ g e f rows)(k:Ext m m'):GS m0 m1 m' P2 P3 σ g e f rows :=
 ⟨h.st.step k,⟨qgz h.rest.n k.n,λB hB hx=>(k.obj B (qgs hB h.rest.n)).trans (h.rest.obj B hB hx),k.base.trans h.rest.base,k.log.trans h.rest.log⟩,h.low,h.m01,h.m1b,h.gr.ext k,λB hB=>let ⟨a,b,c⟩:=h.sep B hB;⟨a,qgs b k.n,c⟩⟩
theorem GS.sub (h:GS m0 m1 m P2 P3 σ g e f rows)(hs:∀p∈σ',p∈σ)(hn:(σ'.map (·.1)).Nodup):GS m0 m1 m P2 P3 σ' g e f rows :=
 ⟨h.st.sub hs hn,h.rest,λp hp=>h.low p (hs p hp),h.m01,h.m1b,h.gr,λB hB=>let ⟨a,b,c⟩:=h.sep B hB;⟨a,b,λp hp=>c p (hs p hp)⟩⟩
theorem GS.row (h:GS m0 m1 m P2 P3 σ g e f rows)(l:List Value):GS m0 m1 (newRow m l) P2 P3 ((m.n,l)::σ) g e f rows:=by
 have h':=h.step (Ext.row m l)
 refine⟨h.st.row l,h'.rest,λp hp=>?_,h.m01,h.m1b,h'.gr,λB hB=>?_⟩
 .rcases List.mem_cons.1 hp with rfl | hp
  .exact .inr (.inr h.rest.n)
  .exact h.low p hp
 .obtain⟨a,b,c⟩:=h.sep B hB
  refine⟨a,by rw[qz];omega,λp hp=>?_⟩
  rcases List.mem_cons.1 hp with rfl | hp
  .simp;omega
  .exact c p hp
theorem qav {k b:Nat}{l l':List Value}(hk:σ[k]?=some (b,l)):(σ.set k (b,l')).map (·.1)=σ.map (·.1):=by
 obtain⟨hk',hke⟩:=qgp.1 hk
 rw[List.map_set]
 show (σ.map (·.1)).set k b=_
 refine List.ext_getElem (by simp) λi h1 h2=>?_
 rw[List.getElem_set]
 split
 .subst_vars;simp[hke]
 .rfl
theorem Fa {k b:Nat}{l l':List Value}(hk:σ[k]?=some (b,l)){p:Nat × List Value}(hp:p∈σ.set k (b,l')):∃q∈σ,q.1=p.1:=by
 have:p.1∈(σ.set k (b,l')).map (·.1):=List.mem_map.2 ⟨p,hp,rfl⟩
 rw[qav hk]at this
 obtain⟨q,hq,e⟩:=List.mem_map.1 this
 exact⟨q,hq,e⟩
theorem GS.put (h:GS m0 m1 m P2 P3 σ g e f rows){k b:Nat}{l l':List Value}(hk:σ[k]?=some (b,l))(s2:St m0 m' (σ.set k (b,l')))(s3:m'.n=m.n)(s4:∀X,X≠b->m'.obj X=m.obj X):GS m0 m1 m' P2 P3 (σ.set k (b,l')) g e f rows:=by
 have hb:=qgo hk
 refine⟨s2,⟨by rw[s3];exact h.rest.n,λB hB hx=>?_,by rw[s2.ext.base,<-h.st.ext.base];exact h.rest.base,by rw[s2.ext.log,<-h.st.ext.log];exact h.rest.log⟩,λp hp=>?_,h.m01,h.m1b,?_,λB hB=>?_⟩
 .rw[s4 B ?_];exact h.rest.obj B hB hx
  rintro rfl
  rcases h.low _ hb with e | e | e
  .simp at hx e;omega
  .simp at hx e;omega
  .simp at e;omega
 .obtain⟨q,hq,e⟩:=Fa hk hp
  rw[<-e];exact h.low q hq
 .exact h.gr.keep (by rw[s3];exact qgq _) λB hB hg=>s4 B λe=>(h.sep B hg).2.2 _ hb e.symm
 .obtain⟨a,b',c⟩:=h.sep B hB
  refine⟨a,by rw[s3];exact b',λp hp=>?_⟩
  obtain⟨q,hq,e⟩:=Fa hk hp
  rw[<-e];exact c q hq
theorem GS.store (h:GS m0 m1 m P2 P3 σ g e f rows)(k:Nat){b o:Nat}{l:List Value}{v:Value}(hk:σ[k]?=some (b,l))(ho:o<l.length)(hv:okC v=true) :
  ∃m',wt 1 (.pointer (some ⟨b,o,none⟩)) v m=some (undef,m')/\GS m0 m1 m' P2 P3 (σ.set k (b,l.set o v)) g e f rows/\m'.n=m.n/\∀X,X≠b->m'.obj X=m.obj X:=by
 obtain⟨m',s1,s2,s3,s4⟩:=h.st.store k hk ho hv
 exact⟨m',s1,h.put hk s2 s3 s4,s3,s4⟩
theorem GS.storeAny (h:GS m0 m1 m P2 P3 σ g e f rows)(k:Nat){b o:Nat}{l:List Value}{v:Value}(hk:σ[k]?=some (b,l))(ho:o<l.length)(hv:okC v=true) :
  ∃m',wt 1 (.pointer (some ⟨b,o,none⟩)) v (qc m)=some (undef,m')/\m'.log=[b]/\GS m0 m1 (behind m m') P2 P3 (σ.set k (b,l.set o v)) g e f rows/\(behind m m').n=m.n/\∀X,X≠b->(behind m m').obj X=m.obj X:=by
 obtain⟨m',s1,s1',s2,s3,s4⟩:=h.st.storeAny k hk ho hv
 exact⟨m',s1,s1',h.put hk s2 s3 s4,s3,s4⟩
theorem GS.grow (h:GS m0 m1 m P2 P3 σ g e f rows){M1:M}(hM:Ext m M1){g':Value}{rows':List α}(n2:M1.n<=m'.n)(g2:Grown m1 m' g' e f rows')(eb:m'.base=m.base)(el:m'.log=m.log)(k2:∀B,B<M1.n->blk g≠some B->m'.obj B=M1.obj B)(b2:∀B,blk g'=some B->M1.n<=B):GS m0 m1 m' P2 P3 σ g' e f rows':=by
 have hMn:=hM.n
 have keep:∀B,B<m.n->blk g≠some B->m'.obj B=m.obj B:=λB hB hg=>(k2 B (by omega) hg).trans (hM.obj B hB)
 have h01:=h.m01
 have low:∀B,B<m1.n->blk g≠some B:=λB hB hg=>by have:=(h.sep B hg).1;omega
 have hr:=h.rest.n
 refine⟨⟨⟨by have:=h.st.ext.n;omega,λB hB=>?_,by rw[eb,h.st.ext.base],by rw[el,h.st.ext.log]⟩,h.st.base,λp hp=>?_,h.st.nd⟩,⟨by omega,λB hB hx=>?_,by rw[eb,h.rest.base],by rw[el,h.rest.log]⟩,h.low,h.m01,h.m1b,g2,λB hB=>?_⟩
 .rw[keep B (by omega) (low B (by omega))];exact h.st.ext.obj B hB
 .obtain⟨a,b,c⟩:=h.st.arr p hp
  exact⟨a,by omega,c.congr (keep p.1 b λhg=>(h.sep _ hg).2.2 p hp rfl)⟩
 .rw[keep B (by omega) (low B hB)];exact h.rest.obj B hB hx
 .have h1:=b2 B hB
  have h2:=(Go.Sx.grown_low g2 B hB).2
  exact⟨by omega,h2,λp hp=>by have:=(h.st.arr p hp).2.1;omega⟩
theorem GS.done (h:GS m0 m1 m P2 P3 σ g e f rows)(hne:rows≠[]){β:Type}(e':Nat)(f':β->List Value):∃B,g=.slice (some ⟨B,0,some (code e false)⟩) rows.length rows.length/\m1.n<=B/\GS m0 m1 m P2 P3 ((B,rows.flatMap f)::σ) zS e' f' []:=by
 rcases h.gr with ⟨h1,_⟩ | ⟨B,h1,h2,h3,h4,h5⟩
 .exact absurd h1 hne
 .have hs:=(h.sep B (by rw[h4];rfl)).2.2
  refine⟨B,h4,h1,⟨h.st.ext,h.st.base,λp hp=>?_,?_⟩,h.rest,λp hp=>?_,h.m01,h.m1b,.nil,λC hC=>by cases hC⟩
  .rcases List.mem_cons.1 hp with rfl | hp
   .exact⟨by have:=h.m01;omega,h2,h5⟩
   .exact h.st.arr p hp
  .rw[List.map_cons,List.nodup_cons]
   refine⟨λhm=>?_,h.st.nd⟩
   obtain⟨p,hp,e⟩:=List.mem_map.1 hm
   exact hs p hp e
  .rcases List.mem_cons.1 hp with rfl | hp
   .exact .inr (.inr h1)
   .exact h.low p hp
end
end
end Go.Dx
namespace Go.Dx
section
variable {α β:Type}{m0 m1 m m':M}{P2 P3:Nat}{σ:List (Nat × List Value)}{g:Value}{e e':Nat}{f:α->List Value}{f':β->List Value}{rows:List α}
end
end Go.Dx
namespace Go.Dx
def xY (P:Value->M->Prop):Option Out->Prop:=λo=>∃v m',ob o WF=some (v,m')/\P v m'
theorem wO {P:Program}{g:Nat}{c:SC}{nt:Nat}{res:List RV}{n:Nat}{args:List Value}{m:M}{Q:Value->M->Prop}(hd:qZ P g=some ⟨c,nt,res⟩)(ha:args.length<=nt)
  (h:xY Q (c (ex P n) (kO res) noK (kO res) (jl .blank 0 args) m)):∃v m',(ex P (n+1)).f g args m=some (v,m')/\Q v m':=by
 obtain⟨v,m',e,h2⟩:=h
 exact⟨v,m',by rw[ex_f hd,gI _ _ _ _ _ _ ha];exact e,h2⟩
theorem Ky {m:M}{Q:Value->M->Prop}{t:Tm}(hq:Q (yj []) m):xY Q (kO [] t m):=by
 refine⟨yj [],m,?_,hq⟩
 rw[vS,show vT t m []=some [] from rfl,qS,vG]
section
variable {α:Type}{m0 m1 m m':M}{P2 P3:Nat}{σ σ':List (Nat × List Value)}{g:Value}{e:Nat}{f:α->List Value}{rows:List α}
theorem GS.storeN (h:GS m0 m1 m P2 P3 σ g e f rows)(k:Nat){b o n:Nat}{l l':List Value}(hk:σ[k]?=some (b,l))(hl':l'.length=n)(hn:o+n<=l.length)(hv:∀v∈l',okC v=true) :
  ∃m',wt n (.pointer (some ⟨b,o,none⟩)) (.agg ⟨l'⟩) m=some (undef,m')/\GS m0 m1 m' P2 P3 (σ.set k (b,over l o l')) g e f rows/\m'.n=m.n/\∀X,X≠b->m'.obj X=m.obj X:=by
 obtain⟨h1,h2,h3⟩:=h.st.get k hk
 have e:=kf (n:=n) (o:=o) (v:=.agg ⟨l'⟩) (l:=l') h3 rfl hl' hn hv
 obtain⟨_,s2,s3,s4,s5,s6⟩:=wD (o:=o) (l:=l') h3 (by omega) hv
 have hs:=h.st.put' k hk s3 s4 (s6 (by have:=h.st.ext.base;have:=h.st.base;omega)) s5 s2
 exact⟨_,e,h.put hk hs s3 s5,s3,s5⟩
end
end Go.Dx
namespace Go.Dx
section
variable {m0 m m':M}{σ:List (Nat × List Value)}{k b o:Nat}{l:List Value}
end
end Go.Dx
namespace Go.Sx
open Go.Dx
end Go.Sx
namespace Go.Dx
theorem yD {bs B:Nat}{wl:List Nat}{C:Nat}(h:C∈note bs B wl):C∈wl\/(C=B/\B<bs):=by
 unfold note at h
 cases hb:Nat.ble bs B with
 | true=>rw[hb]at h;exact .inl h
 | false =>
  rw[hb]at h
  have hlt:B<bs:=by
   rcases Nat.lt_or_ge B bs with h' | h'
   .exact h'
   .rw[qgv h']at hb;cases hb
  cases wl with
  | nil=>exact .inr ⟨qgu.1 h,hlt⟩
  | cons D l =>
   simp only[cond_false]at h
   cases hd:Nat.beq B D with
   | true=>rw[hd]at h;exact .inl h
   | false =>
    rw[hd]at h
    rcases List.mem_cons.1 h with rfl | h
    .exact .inr ⟨rfl,hlt⟩
    .exact .inl h
theorem WD {bs:Nat}:∀{l wl:List Nat} {C:Nat},C∈notes bs wl l->C∈wl\/(C∈l/\C<bs)
 | [],_,_,h=>.inl h
 | B::l,wl,C,h=>by
  rcases WD (l:=l) (wl:=note bs B wl) h with h | ⟨h,h2⟩
  .rcases yD h with h | ⟨rfl,h⟩
   .exact .inl h
   .exact .inr ⟨qh6 ..,h⟩
  .exact .inr ⟨qgy _ h,h2⟩
structure Mc (m m':M)(W:List Nat):Prop where
 n:m.n<=m'.n
 obj:∀B,B<m.n->B ∉ W->m'.obj B=m.obj B
 base:m'.base=m.base
 log:∀B∈m'.log,B∈m.log\/(B∈W/\B<m.base)
 low:(∀B∈W,m.base<=B)->m'.log=m.log
section
variable {a b c m m' m0:M}{W W':List Nat}
theorem Mc.refl:Mc m m W:=⟨qgq _,λ_ _ _=>rfl,rfl,λ_ h=>.inl h,λ_=>rfl⟩
theorem Mc.trans (h:Mc a b W)(k:Mc b c W):Mc a c W :=
 ⟨qgz h.n k.n,λB hB hW=>(k.obj B (qgs hB h.n) hW).trans (h.obj B hB hW),k.base.trans h.base,λB hB=>by
  rcases k.log B hB with h' | ⟨h',h2⟩
  .exact h.log B h'
  .exact .inr ⟨h',by rw[<-h.base];exact h2⟩,λhW=>(k.low (by rw[h.base];exact hW)).trans (h.low hW)⟩
theorem Ext.mc (h:Ext m m'):Mc m m' W:=⟨h.n,λB hB _=>h.obj B hB,h.base,λB hB=>.inl (by rw[<-h.log];exact hB),λ_=>h.log⟩
theorem Mc.behind (h:Mc (qc m) m' W):Mc m (Dx.behind m m') W:=by
 have hl:∀B∈m'.log,B∈W:=λB hB=>by
  rcases h.log B hB with h' | h'
  .rw[wh]at h';cases h'
  .exact h'.1
 refine⟨by rw[wb];have:=h.n;rwa [qt]at this,λB hB hW=>by rw[qx,h.obj B (by rw[qt];exact hB) hW,qm],kj _ _,λB hB=>?_,λhW=>?_⟩
 .rw[km]at hB
  rcases WD hB with h' | ⟨h',h2⟩
  .exact .inl h'
  .exact .inr ⟨hl B h',h2⟩
 .rw[km]
  exact yE λB hB=>hW B (hl B hB)
theorem Fz (m:M)(B:Nat)(o:zV):(m.put B o).log=note m.base B m.log:=by cases m;rfl
theorem WM {B o:Nat}{l l0:List Value}(h:Arr m B l0)(hne:l≠[])(hn:o+l.length<=l0.length)(hl:∀v∈l,okC v=true):(ji m B o l).log=note m.base B m.log:=by
 obtain⟨c,hc,hcl⟩:=h
 obtain⟨v0,vs,rfl⟩:∃v0 vs,l=v0::vs:=by
  cases l with
  | nil=>exact absurd rfl hne
  | cons a b=>exact⟨a,b,rfl⟩
 obtain⟨c',e',_⟩:=dS (vs:=v0::vs) (o:=o) hcl hn hl
 have hs:wx m ⟨B,o,none⟩ (v0::vs)=some (m.put B (.cells c')):=by
  show ob (vN (m.obj B)) _=_
  rw[hc]
  show ob (stn c o (v0::vs)) _=_
  rw[e'];rfl
 have hp:ji m B o (v0::vs)=m.put B (.cells c'):=by unfold ji;rw[hs];rfl
 rw[hp,Fz]
structure Ow (m0 m:M)(W:List Nat)(σ:List (Nat × List Value)):Prop where
 mc:Mc m0 m W
 base:m0.base<=m0.n
 arr:∀p∈σ,(p.1∈W\/m0.n<=p.1)/\p.1<m.n/\Arr m p.1 p.2
 nd:(σ.map (·.1)).Nodup
variable {σ σ':List (Nat × List Value)}{k B o:Nat}{l l':List Value}
theorem Ow.mb (h:Ow m0 m W σ):m.base<=m.n:=by rw[h.mc.base];exact qgz h.base h.mc.n
theorem Ow.get (h:Ow m0 m W σ)(k:Nat)(hk:σ[k]?=some (B,l)):(B∈W\/m0.n<=B)/\B<m.n/\Arr m B l:=h.arr _ (qgo hk)
theorem Ow.step (h:Ow m0 m W σ)(e:Ext m m'):Ow m0 m' W σ :=
 ⟨h.mc.trans e.mc,h.base,λp hp=>let ⟨h1,h2,h3⟩:=h.arr p hp;⟨h1,qgs h2 e.n,h3.congr (e.obj _ h2)⟩,h.nd⟩
theorem Ow.sub (h:Ow m0 m W σ)(hs:∀p∈σ',p∈σ)(hn:(σ'.map (·.1)).Nodup):Ow m0 m W σ':=⟨h.mc,h.base,λp hp=>h.arr p (hs p hp),hn⟩
theorem Ow.row (h:Ow m0 m W σ)(l:List Value):Ow m0 (newRow m l) W ((m.n,l)::σ):=by
 have h':=h.step (Ext.row m l)
 refine⟨h'.mc,h.base,λp hp=>?_,?_⟩
 .rcases List.mem_cons.1 hp with rfl | hp
  .exact⟨.inr h.mc.n,by rw[qz];exact Nat.lt_succ_self _,Arr.row m l⟩
  .exact h'.arr p hp
 .rw[List.map_cons,List.nodup_cons]
  refine⟨λhm=>?_,h.nd⟩
  obtain⟨q,hq,e⟩:=List.mem_map.1 hm
  have:=(h.arr q hq).2.1
  omega
theorem Ow.put (h:Ow m0 m W σ)(k:Nat)(hk:σ[k]?=some (B,l))(hn:m'.n=m.n)(hb:m'.base=m.base)(hlog:∀C∈m'.log,C∈m.log\/(C=B/\B<m.base))(hlow:m.base<=B->m'.log=m.log)(ho:∀X,X≠B->m'.obj X=m.obj X)(ha:Arr m' B l'):Ow m0 m' W (σ.set k (B,l')):=by
 obtain⟨hk',hke⟩:=qgp.1 hk
 obtain⟨hb0,hb1,hb2⟩:=h.get k hk
 have hmb:=h.mc.base
 have hb3:=h.base
 have hmn:=h.mc.n
 have hne:∀C,C<m0.n->C ∉ W->C≠B:=λC hC hW e=>by
  subst e
  rcases hb0 with h0 | h0
  .exact hW h0
  .omega
 refine⟨⟨by rw[hn];exact hmn,λC hC hW=>(ho C (hne C hC hW)).trans (h.mc.obj C hC hW),hb.trans hmb,λC hC=>?_,λhW=>?_⟩,h.base,λp hp=>?_,?_⟩
 .rcases hlog C hC with h' | ⟨rfl,h'⟩
  .exact h.mc.log C h'
  .rcases hb0 with h0 | h0
   .exact .inr ⟨h0,by rw[<-hmb];exact h'⟩
   .omega
 .rw[hlow ?_,h.mc.low hW]
  rcases hb0 with h0 | h0
  .rw[hmb];exact hW _ h0
  .omega
 .obtain⟨j,hj,rfl⟩:=List.getElem_of_mem hp
  rw[List.getElem_set]
  rw[List.length_set]at hj
  split
  .exact⟨hb0,by rw[hn];exact hb1,ha⟩
  .rename_i hne
   obtain⟨h1,h2,h3⟩:=h.arr _ (List.getElem_mem hj)
   refine⟨h1,by rw[hn];exact h2,h3.congr (ho _ λe=>hne ?_)⟩
   exact (xp h.nd (qgn hj) hk e).symm
 .have:(σ.set k (B,l')).map (·.1)=σ.map (·.1):=by
   rw[List.map_set]
   show (σ.map (·.1)).set k B=_
   refine List.ext_getElem (by simp) λi h1 h2=>?_
   rw[List.getElem_set]
   split
   .subst_vars;simp[hke]
   .rfl
  rw[this];exact h.nd
theorem Ow.storeN (h:Ow m0 m W σ)(k:Nat)(hk:σ[k]?=some (B,l)){n:Nat}(hn0:0<n)(hl':l'.length=n)(hn:o+n<=l.length)(hv:∀v∈l',okC v=true) :
  ∃m',wt n (.pointer (some ⟨B,o,none⟩)) (.agg ⟨l'⟩) m=some (undef,m')/\Ow m0 m' W (σ.set k (B,over l o l'))/\m'.n=m.n/\∀X,X≠B->m'.obj X=m.obj X:=by
 obtain⟨h1,h2,h3⟩:=h.get k hk
 have hne:l'≠[]:=λe=>by rw[e]at hl';simp at hl';omega
 have e:=kf (n:=n) (o:=o) (v:=.agg ⟨l'⟩) (l:=l') h3 rfl hl' hn hv
 obtain⟨_,s2,s3,s4,s5,s6⟩:=wD (o:=o) (l:=l') h3 (by omega) hv
 exact⟨_,e,h.put k hk s3 s4 (λC hC=>by rw[WM h3 hne (by omega) hv]at hC;exact yD hC) s6 s5 s2,s3,s5⟩
theorem Ow.store (h:Ow m0 m W σ)(k:Nat)(hk:σ[k]?=some (B,l)){v:Value}(ho:o<l.length)(hv:okC v=true) :
  ∃m',wt 1 (.pointer (some ⟨B,o,none⟩)) v m=some (undef,m')/\Ow m0 m' W (σ.set k (B,l.set o v))/\m'.n=m.n/\∀X,X≠B->m'.obj X=m.obj X:=by
 obtain⟨h1,h2,h3⟩:=h.get k hk
 have hcv:zy v=some [v]:=by cases v<;>first | rfl | simp[okC]at hv
 have e:=kf (n:=1) (o:=o) h3 hcv rfl (by omega) (by simpa using hv)
 obtain⟨_,s2,s3,s4,s5,s6⟩:=wD (o:=o) (l:=[v]) h3 (by simp;omega) (by simpa using hv)
 exact⟨_,e,h.put k hk s3 s4 (λC hC=>by rw[WM h3 (by simp) (by simp;omega) (by simpa using hv)]at hC;exact yD hC) s6 s5 s2,s3,s5⟩
theorem Ow.storeNAny (h:Ow m0 m W σ)(k:Nat)(hk:σ[k]?=some (B,l)){n:Nat}(hn0:0<n)(hl':l'.length=n)(hn:o+n<=l.length)(hv:∀v∈l',okC v=true) :
  ∃m',wt n (.pointer (some ⟨B,o,none⟩)) (.agg ⟨l'⟩) (qc m)=some (undef,m')/\m'.log=[B]/\Ow m0 (Dx.behind m m') W (σ.set k (B,over l o l'))/\(Dx.behind m m').n=m.n/\∀X,X≠B->(Dx.behind m m').obj X=m.obj X:=by
 obtain⟨h1,h2,h3⟩:=h.get k hk
 have h3':Arr (qc m) B l:=h3.congr (qm m B)
 have hne:l'≠[]:=λe=>by rw[e]at hl';simp at hl';omega
 have e:=kf (n:=n) (o:=o) (v:=.agg ⟨l'⟩) (l:=l') h3' rfl hl' hn hv
 obtain⟨_,s2,s3,s4,s5,s6⟩:=wD (o:=o) (l:=l') h3' (by omega) hv
 have hlog:(ji (qc m) B o l').log=[B]:=by
  rw[WM h3' hne (by omega) hv,wW,wh]
  unfold note
  have:Nat.ble m.n B=false:=by
   cases q:Nat.ble m.n B with
   | false=>rfl
   | true=>exact absurd (qgw q) (by omega)
  rw[this];rfl
 have hbl:(Dx.behind m (ji (qc m) B o l')).log=note m.base B m.log:=by rw[km,hlog];rfl
 refine⟨_,e,hlog,h.put k hk (by rw[wb,s3,qt]) (kj _ _) (λC hC=>by rw[hbl]at hC;exact yD hC) (λhb=>by rw[hbl,QC hb]) (λX hX=>by rw[qx,s5 X hX,qm]) (s2.congr (qx _ _ _)),by rw[wb,s3,qt],λX hX=>by rw[qx,s5 X hX,qm]⟩
theorem Ow.storeAny (h:Ow m0 m W σ)(k:Nat)(hk:σ[k]?=some (B,l)){v:Value}(ho:o<l.length)(hv:okC v=true) :
  ∃m',wt 1 (.pointer (some ⟨B,o,none⟩)) v (qc m)=some (undef,m')/\m'.log=[B]/\Ow m0 (Dx.behind m m') W (σ.set k (B,l.set o v))/\(Dx.behind m m').n=m.n/\∀X,X≠B->(Dx.behind m m').obj X=m.obj X:=by
 have hcv:zy v=some [v]:=by cases v<;>first | rfl | simp[okC]at hv
 obtain⟨m',e,r⟩:=h.storeNAny k hk (o:=o) (l':=[v]) (n:=1) (by omega) rfl (by omega) (by simpa using hv)
 refine⟨m',?_,r⟩
 have h3':Arr (qc m) B l:=(h.get k hk).2.2.congr (qm m B)
 have e1:=kf (n:=1) (o:=o) h3' hcv rfl (by omega) (by simpa using hv)
 have e2:=kf (n:=1) (o:=o) (v:=.agg ⟨[v]⟩) (l:=[v]) h3' rfl rfl (by omega) (by simpa using hv)
 exact e1.trans (e2.symm.trans e)
theorem Ow.call (h:Ow m0 m W σ)(k:Mc m m' W)(hσ:∀p∈σ',(∃q∈σ,q.1=p.1)/\Arr m' p.1 p.2)(hn:(σ'.map (·.1)).Nodup):Ow m0 m' W σ' :=
 ⟨h.mc.trans k,h.base,λp hp=>by
  obtain⟨⟨q,hq,e⟩,ha⟩:=hσ p hp
  obtain⟨h1,h2,_⟩:=h.arr q hq
  rw[e]at h1 h2
  exact⟨h1,qgs h2 k.n,ha⟩,hn⟩
theorem Ow.rd (h:Ow m0 m W σ){α:Type}{v:Value}{e:Nat}{f:α->List Value}{es:List α}(hr:Rd m0 v e f es)(hs:∀B,blk v=some B->B ∉ W):Rd m v e f es :=
 hr.congr h.mc.n λB hB=>h.mc.obj B (hr.lt B hB) (hs B hB)
theorem Ow.start (hb:m0.base<=m0.n)(hσ:∀p∈σ,p.1∈W/\p.1<m0.n/\Arr m0 p.1 p.2)(hn:(σ.map (·.1)).Nodup):Ow m0 m0 W σ :=
 ⟨Mc.refl,hb,λp hp=>let ⟨a,b,c⟩:=hσ p hp;⟨.inl a,b,c⟩,hn⟩
theorem zY {m:M}{Q:Value->M->Prop}{t:Tm}{p n:Nat}{a:Addr}{l:List Value}(h1:Tm.get p t=.pointer (some a))(h2:loads m a n=some l)(hq:Q (.agg ⟨l⟩) m):xY Q (kO [.cell p n] t m):=by
 refine⟨yj [.agg ⟨l⟩],m,?_,hq⟩
 have hr:vT t m [.cell p n]=some [.agg ⟨l⟩]:=by simp only[vT,gm,h1,yO,qS,h2]
 rw[vS,hr,qS,vG]
theorem zu {m:M}{Q:Value->M->Prop}{t:Tm}{p:Nat}(hq:Q (Tm.get p t) m):xY Q (kO [.t p] t m):=by
 refine⟨yj [Tm.get p t],m,?_,hq⟩
 rw[vS,show vT t m [.t p]=some [Tm.get p t] from rfl,qS,vG]
end
end Go.Dx
namespace Go.Dx
section
variable {m0 m m':M}{W:List Nat}{σ:List (Nat × List Value)}{B:Nat}
theorem Ow.kill {v:Value}(h:Ow m0 m W σ)(hB:∀B,blk v=some B->B∈W\/m0.n<=B)(hn:m.n<=m'.n)(hb:m'.base=m.base)(hl:m'.log=m.log\/∃B,blk v=some B/\m'.log=note m.base B m.log)(ho:∀X,X<m.n->blk v≠some X->m'.obj X=m.obj X)(hσ:∀p∈σ,blk v≠some p.1):Ow m0 m' W σ:=by
 have hmb:=h.mc.base
 have hb3:=h.base
 have hmn:=h.mc.n
 refine⟨⟨qgz hmn hn,λC hC hW=>?_,hb.trans hmb,λC hC=>?_,λhW=>?_⟩,h.base,λp hp=>?_,h.nd⟩
 .have:blk v≠some C:=λe=>by
   rcases hB C e with h0 | h0
   .exact hW h0
   .omega
  rw[ho C (by omega) this];exact h.mc.obj C hC hW
 .rcases hl with e | ⟨B,eb,e⟩
  .rw[e]at hC;exact h.mc.log C hC
  .rw[e]at hC
   rcases yD hC with h' | ⟨rfl,h'⟩
   .exact h.mc.log C h'
   .rcases hB _ eb with h0 | h0
    .exact .inr ⟨h0,by rw[<-hmb];exact h'⟩
    .omega
 .rcases hl with e | ⟨B,eb,e⟩
  .rw[e];exact h.mc.low hW
  .have hBb:m.base<=B:=by
    rcases hB B eb with h0 | h0
    .rw[hmb];exact hW _ h0
    .omega
   rw[e,QC hBb];exact h.mc.low hW
 .obtain⟨h1,h2,h3⟩:=h.arr p hp
  exact⟨h1,by omega,h3.congr (ho _ h2 (hσ p hp))⟩
theorem Mc.tr2 {a b c:M}{W W':List Nat}(h:Mc a b W)(k:Mc b c W')(hW':∀B∈W',B∈W\/a.n<=B)(hab:a.base<=a.n):Mc a c W:=by
 have hb:=h.base
 refine⟨qgz h.n k.n,λB hB hBW=>?_,k.base.trans h.base,λB hB=>?_,λhW=>?_⟩
 .rw[k.obj B (qgs hB h.n) (λhc=>by rcases hW' B hc with h1 | h1;exact hBW h1;omega)]
  exact h.obj B hB hBW
 .rcases k.log B hB with h1 | ⟨h1,h2⟩
  .exact h.log B h1
  .rcases hW' B h1 with h3 | h3
   .exact .inr ⟨h3,by omega⟩
   .omega
 .rw[k.low (λB hB=>?_),h.low hW]
  rcases hW' B hB with h1 | h1
  .rw[hb];exact hW B h1
  .omega
theorem Mc.mono {a b:M}{W W':List Nat}(h:Mc a b W)(hW:∀B∈W,B∈W'):Mc a b W' :=
 ⟨h.n,λB hB hBW=>h.obj B hB (λhc=>hBW (hW B hc)),h.base,λB hB=>(h.log B hB).imp id λ⟨h1,h2⟩=>⟨hW B h1,h2⟩,λhb=>h.low λB hB=>hb B (hW B hB)⟩
theorem JA {v:Value}{n e bytes X:Nat}{sp:Option Nat}{l x:List Value}(hv:(l=[]/\n=0/\v=zS)\/∃B c,v=.slice (some ⟨B,0,some c⟩) n n/\(c=code e false\/c=code e true)/\Arr m B l/\B<m.n/\0<n)
  (he:0<e) (hl:l.length=n*e) (hx:loads m ⟨X,0,sp⟩ e=some x) (hok:∀u∈l++x,okC u=true) (hm:(n+1)*bytes<=most) (hn:n+1<=4611686018427387904) :
  ∃mq,wY m e bytes v (.slice (some ⟨X,0,sp⟩) 1 1)=some (.slice (some ⟨m.n,0,some (code e false)⟩) (n+1) (n+1),mq)/\mq.n=m.n+1/\mq.base=m.base/\(mq.log=m.log\/∃B,blk v=some B/\mq.log=note m.base B m.log) /\
   (∀X,X<m.n->blk v≠some X->mq.obj X=m.obj X)/\Arr mq m.n (l++x):=by
 have hk:(Nat.ble ((n+1)*bytes) most&&Nat.ble (n+1) 4611686018427387904)=true:=by rw[qgv hm,qgv hn];rfl
 have hfi:kl m e 1 (.slice (some ⟨X,0,sp⟩) 1 1)=some x:=by unfold kl;rw[Nat.one_mul];exact hx
 have e0:∀(b:Option Addr),wY m e bytes (.slice b n n) (.slice (some ⟨X,0,sp⟩) 1 1)=QP m e bytes n n 1 b x:=λb=>by
  show ob (kl m e 1 _) _=_
  rw[hfi,qS]
 have hlt:Nat.ble (n+1) n=false:=by
  cases q:Nat.ble (n+1) n with
  | false=>rfl
  | true=>exact absurd (qgw q) (by omega)
 have row:(∃mq,some (Value.slice (some ⟨m.n,0,some (code e false)⟩) (n+1) (n+1),newRow m (l++x))=some (.slice (some ⟨m.n,0,some (code e false)⟩) (n+1) (n+1),mq)/\mq.n=m.n+1/\mq.base=m.base/\(mq.log=m.log\/∃B,blk v=some B/\mq.log=note m.base B m.log) /\
   (∀X,X<m.n->blk v≠some X->mq.obj X=m.obj X)/\Arr mq m.n (l++x)) :=
  ⟨_,rfl,qz _ _,(Ext.row m (l++x)).base,.inl (Ext.row m (l++x)).log,λX hX _=>(Ext.row m (l++x)).obj X hX,Arr.row m _⟩
 rcases hv with ⟨rfl,rfl,rfl⟩ | ⟨B,c,rfl,hc,hA,hB,h0⟩
 .rw[e0]
  unfold QP
  rw[hlt,cond_false,hk,cond_true]
  exact row
 .have hold:kl m e n (.slice (some ⟨B,0,some c⟩) n n)=some l:=by
   show loads m ⟨B,0,some c⟩ (n*e)=_
   rw[hA.loads (by omega),List.drop_zero,<-hl,List.take_length]
  rw[e0]
  unfold QP
  rw[hlt,cond_false,hk,cond_true,hold,qS]
  unfold Ws
  show ∃mq,ob (some c) _=_/\_
  rw[qS]
  rcases hc with rfl | rfl
  .obtain⟨cc,hcc,hcl⟩:=id hA
   have hne:0<l.length:=by rw[hl];exact Nat.mul_pos h0 he
   have ha:alive cc=true:=Jx (i:=0) (by rw[hcl,qgn hne])
   have hx':fC (code e false)=false:=by
    show Nat.beq (2*e%2) 1=false
    rw[show 2*e%2=0 by omega];rfl
   have hcd:Nat.beq (code e false/2) e=true:=by
    show Nat.beq (2*e/2) e=true
    rw[show 2*e/2=e by omega];exact Nat.beq_refl e
   have hco:cellsOf m B=some cc:=by show vN (m.obj B)=_;rw[hcc];rfl
   rw[hx',cond_false]
   show ∃mq,ob (cellsOf m B) _=_/\_
   rw[hco,qS,ha,hcd,QO hok]
   refine⟨(m.put B (.cells .lf)).alloc (.cells (mkn .lf 0 (l++x))),rfl,by rw[M.n_alloc,M.n_put],by rw[M.base_alloc,M.base_put],.inr ⟨B,rfl,by rw[M.log_alloc,Fz]⟩,λY hY hne'=>?_,?_⟩
   .rw[M.obj_alloc,M.n_put,if_neg (by omega),M.obj_put,if_neg (by rintro rfl;exact hne' rfl)]
   .refine⟨_,by rw[M.obj_alloc,M.n_put,if_pos rfl],λi=>?_⟩
    rw[zZ,A.get_lf]
    split
    .simp
    .rename_i h;rw[qha (by omega)]
  .have hx':fC (code e true)=true:=by
    show Nat.beq ((2*e+1)%2) 1=true
    rw[show (2*e+1)%2=1 by omega];rfl
   rw[hx',cond_true]
   exact row
end
def qf {ν β:Type}[DecidableEq ν](C:ν->β)(a:ν)(x:β):ν->β:=λb=>if b=a then x else C b
section
variable {ν β:Type}[DecidableEq ν]
@[simp] theorem qG (C:ν->β) (a:ν) (x:β):qf C a x a=x:=if_pos rfl
theorem qh {C:ν->β}{a b:ν}{x:β}(h:b≠a):qf C a x b=C b:=if_neg h
end
structure NH {ν:Type}(m0 m:M)(W:List Nat)(A:ν->Nat)(C:ν->Option (List Value))(σ:List (Nat × List Value)):Prop where
 ow:Ow m0 m W σ
 hx:∀a l,C a=some l->(A a∈W\/m0.n<=A a)/\A a<m.n/\Arr m (A a) l
 inj:∀a b l l',C a=some l->C b=some l'->A a=A b->a=b
 sep:∀p∈σ,∀a l,C a=some l->A a≠p.1
 fin:∃L:List ν,∀a l,C a=some l->a∈L
section
variable {ν:Type}[DecidableEq ν]{m0 m m':M}{W:List Nat}{A A':ν->Nat}{C C':ν->Option (List Value)}{σ σ':List (Nat × List Value)}{a:ν}{l l':List Value}{v:Value}{o:Nat}
omit [DecidableEq ν] in
theorem NH.mb (h:NH m0 m W A C σ):m.base<=m.n:=h.ow.mb
omit [DecidableEq ν] in
theorem NH.ld (h:NH m0 m W A C σ)(ha:C a=some l)(o:Nat)(s:Option Nat):load1 m ⟨A a,o,s⟩=l[o]?:=(h.hx a l ha).2.2.load1 o s
omit [DecidableEq ν] in
theorem NH.lds (h:NH m0 m W A C σ)(ha:C a=some l){o n:Nat}(s:Option Nat)(hn:o+n<=l.length):loads m ⟨A a,o,s⟩ n=some ((l.drop o).take n):=(h.hx a l ha).2.2.loads hn
omit [DecidableEq ν] in
theorem NH.bld (h:NH m0 m W A C σ)(k:Nat){B:Nat}(hk:σ[k]?=some (B,l))(o:Nat)(s:Option Nat):load1 m ⟨B,o,s⟩=l[o]?:=(h.ow.get k hk).2.2.load1 o s
omit [DecidableEq ν] in
theorem NH.blds (h:NH m0 m W A C σ)(k:Nat){B:Nat}(hk:σ[k]?=some (B,l)){o n:Nat}(s:Option Nat)(hn:o+n<=l.length):loads m ⟨B,o,s⟩ n=some ((l.drop o).take n):=(h.ow.get k hk).2.2.loads hn
omit [DecidableEq ν] in
theorem NH.open (h:NH m0 m W A C σ)(ha:C a=some l):Ow m0 m W ((A a,l)::σ):=by
 refine⟨h.ow.mc,h.ow.base,λp hp=>?_,?_⟩
 .rcases List.mem_cons.1 hp with rfl | hp
  .exact h.hx a l ha
  .exact h.ow.arr p hp
 .rw[List.map_cons,List.nodup_cons]
  refine⟨λhm=>?_,h.ow.nd⟩
  obtain⟨q,hq,e⟩:=List.mem_map.1 hm
  exact h.sep q hq a l ha e.symm
theorem vr (ha:C a=some l){x:List Value}{b:ν}{l2:List Value}(hb:qf C a (some x) b=some l2):∃l3,C b=some l3:=by
 by_cases e:b=a
 .subst e;exact⟨_,ha⟩
 .rw[qh e]at hb;exact⟨_,hb⟩
theorem NH.close (h:NH m0 m W A C σ)(ha:C a=some l)(ow:Ow m0 m' W ((A a,l')::σ))(hn:m.n<=m'.n)(ho:∀X,X<m.n->X≠A a->m'.obj X=m.obj X):NH m0 m' W A (qf C a (some l')) σ:=by
 refine⟨ow.sub (λp hp=>qgy _ hp) h.ow.nd,λb l2 hb=>?_,λb c l2 l3 hb hc e=>?_,λp hp b l2 hb=>?_,?_⟩
 .by_cases e:b=a
  .subst e
   rw[qG]at hb
   cases hb
   exact ow.arr _ (qh6 ..)
  .rw[qh e]at hb
   obtain⟨h1,h2,h3⟩:=h.hx b l2 hb
   exact⟨h1,by omega,h3.congr (ho _ h2 λhc=>e (h.inj b a _ _ hb ha hc))⟩
 .obtain⟨_,hb'⟩:=vr ha hb
  obtain⟨_,hc'⟩:=vr ha hc
  exact h.inj b c _ _ hb' hc' e
 .obtain⟨_,hb'⟩:=vr ha hb
  exact h.sep p hp b _ hb'
 .obtain⟨L,hL⟩:=h.fin
  exact⟨L,λb l2 hb=>let ⟨_,hb'⟩:=vr ha hb;hL b _ hb'⟩
theorem NH.set (h:NH m0 m W A C σ)(ha:C a=some l)(ho:o<l.length)(hv:okC v=true) :
  ∃m',wt 1 (.pointer (some ⟨A a,o,none⟩)) v m=some (undef,m')/\NH m0 m' W A (qf C a (some (l.set o v))) σ/\m'.n=m.n:=by
 obtain⟨m',s1,s2,s3,s4⟩:=(h.open ha).store 0 rfl ho hv
 exact⟨m',s1,h.close ha s2 (by omega) (λX _ hne=>s4 X hne),s3⟩
theorem NH.setAny (h:NH m0 m W A C σ)(ha:C a=some l)(ho:o<l.length)(hv:okC v=true) :
  ∃m',wt 1 (.pointer (some ⟨A a,o,none⟩)) v (qc m)=some (undef,m')/\m'.log=[A a]/\NH m0 (Dx.behind m m') W A (qf C a (some (l.set o v))) σ/\(Dx.behind m m').n=m.n:=by
 obtain⟨m',s1,s0,s2,s3,s4⟩:=(h.open ha).storeAny 0 rfl ho hv
 exact⟨m',s1,s0,h.close ha s2 (by omega) (λX _ hne=>s4 X hne),s3⟩
omit [DecidableEq ν] in
theorem qf8 {k:Nat}{B:Nat}(hk:σ[k]?=some (B,l)){p:Nat × List Value}(hp:p∈σ.set k (B,l')):∃q∈σ,q.1=p.1:=by
 obtain⟨j,hj,rfl⟩:=List.getElem_of_mem hp
 rw[List.length_set]at hj
 rw[List.getElem_set]
 split
 .exact⟨(B,l),qgo hk,rfl⟩
 .exact⟨_,List.getElem_mem hj,rfl⟩
omit [DecidableEq ν] in
theorem NH.boxed (h:NH m0 m W A C σ)(k:Nat){B:Nat}(hk:σ[k]?=some (B,l))(ow:Ow m0 m' W (σ.set k (B,l')))(hn:m'.n=m.n)(ho:∀X,X≠B->m'.obj X=m.obj X):NH m0 m' W A C (σ.set k (B,l')):=by
 refine⟨ow,λb l2 hb=>?_,h.inj,λp hp b l2 hb=>?_,h.fin⟩
 .obtain⟨h1,h2,h3⟩:=h.hx b l2 hb
  exact⟨h1,by omega,h3.congr (ho _ (h.sep _ (qgo hk) b l2 hb))⟩
 .obtain⟨q,hq,e⟩:=qf8 hk hp
  rw[<-e];exact h.sep q hq b l2 hb
omit [DecidableEq ν] in
theorem NH.bset (h:NH m0 m W A C σ)(k:Nat){B:Nat}(hk:σ[k]?=some (B,l))(ho:o<l.length)(hv:okC v=true) :
  ∃m',wt 1 (.pointer (some ⟨B,o,none⟩)) v m=some (undef,m')/\NH m0 m' W A C (σ.set k (B,l.set o v))/\m'.n=m.n:=by
 obtain⟨m',s1,s2,s3,s4⟩:=h.ow.store k hk ho hv
 exact⟨m',s1,h.boxed k hk s2 s3 s4,s3⟩
omit [DecidableEq ν] in
theorem NH.bsetAny (h:NH m0 m W A C σ)(k:Nat){B:Nat}(hk:σ[k]?=some (B,l))(ho:o<l.length)(hv:okC v=true) :
  ∃m',wt 1 (.pointer (some ⟨B,o,none⟩)) v (qc m)=some (undef,m')/\m'.log=[B]/\NH m0 (Dx.behind m m') W A C (σ.set k (B,l.set o v))/\(Dx.behind m m').n=m.n:=by
 obtain⟨m',s1,s0,s2,s3,s4⟩:=h.ow.storeAny k hk ho hv
 exact⟨m',s1,s0,h.boxed k hk s2 s3 s4,s3⟩
omit [DecidableEq ν] in
theorem NH.bsetN (h:NH m0 m W A C σ)(k:Nat){B n:Nat}(hk:σ[k]?=some (B,l))(hn0:0<n)(hl':l'.length=n)(hn:o+n<=l.length)(hv:∀v∈l',okC v=true) :
  ∃m',wt n (.pointer (some ⟨B,o,none⟩)) (.agg ⟨l'⟩) m=some (undef,m')/\NH m0 m' W A C (σ.set k (B,over l o l'))/\m'.n=m.n:=by
 obtain⟨m',s1,s2,s3,s4⟩:=h.ow.storeN k hk hn0 hl' hn hv
 exact⟨m',s1,h.boxed k hk s2 s3 s4,s3⟩
omit [DecidableEq ν] in
theorem NH.bsetNAny (h:NH m0 m W A C σ)(k:Nat){B n:Nat}(hk:σ[k]?=some (B,l))(hn0:0<n)(hl':l'.length=n)(hn:o+n<=l.length)(hv:∀v∈l',okC v=true) :
  ∃m',wt n (.pointer (some ⟨B,o,none⟩)) (.agg ⟨l'⟩) (qc m)=some (undef,m')/\m'.log=[B]/\NH m0 (Dx.behind m m') W A C (σ.set k (B,over l o l'))/\(Dx.behind m m').n=m.n:=by
 obtain⟨m',s1,s0,s2,s3,s4⟩:=h.ow.storeNAny k hk hn0 hl' hn hv
 exact⟨m',s1,s0,h.boxed k hk s2 s3 s4,s3⟩
omit [DecidableEq ν] in
theorem NH.ext (h:NH m0 m W A C σ)(e:Ext m m'):NH m0 m' W A C σ :=
 ⟨h.ow.step e,λb l2 hb=>let ⟨h1,h2,h3⟩:=h.hx b l2 hb;⟨h1,qgs h2 e.n,h3.congr (e.obj _ h2)⟩,h.inj,h.sep,h.fin⟩
omit [DecidableEq ν] in
theorem NH.row (h:NH m0 m W A C σ)(l:List Value):NH m0 (newRow m l) W A C ((m.n,l)::σ):=by
 have h':=h.ext (Ext.row m l)
 refine⟨h.ow.row l,h'.hx,h.inj,λp hp b l2 hb=>?_,h.fin⟩
 rcases List.mem_cons.1 hp with rfl | hp
 .have:=(h.hx b l2 hb).2.1;simp;omega
 .exact h.sep p hp b l2 hb
omit [DecidableEq ν] in
theorem NH.sub (h:NH m0 m W A C σ)(hs:∀p∈σ',p∈σ)(hn:(σ'.map (·.1)).Nodup):NH m0 m W A C σ' :=
 ⟨h.ow.sub hs hn,h.hx,h.inj,λp hp=>h.sep p (hs p hp),h.fin⟩
omit [DecidableEq ν] in
theorem NH.clear (h:NH m0 m W A C σ):NH m0 m W A C []:=h.sub (by simp) (by simp)
omit [DecidableEq ν] in
theorem NH.tail {x:Nat × List Value}(h:NH m0 m W A C (x::σ)):NH m0 m W A C σ:=h.sub (λp hp=>qgy _ hp) (by have:=h.ow.nd;rw[List.map_cons,List.nodup_cons]at this;exact this.2)
theorem NH.name {B:Nat}(h:NH m0 m W A C ((B,l)::σ))(ha:C a=none):NH m0 m W (qf A a B) (qf C a (some l)) σ:=by
 have hB:=h.ow.arr (B,l) (qh6 ..)
 have key:∀b l2,qf C a (some l) b=some l2->(b=a/\l2=l/\qf A a B b=B)\/(b≠a/\C b=some l2/\qf A a B b=A b):=λb l2 hb=>by
  by_cases e:b=a
  .subst e;rw[qG]at hb;cases hb;exact .inl ⟨rfl,rfl,qG _ _ _⟩
  .rw[qh e]at hb;exact .inr ⟨e,hb,qh e⟩
 have hne:∀b l2,C b=some l2->A b≠B:=λb l2 hb=>h.sep (B,l) (qh6 ..) b l2 hb
 refine⟨h.tail.ow,λb l2 hb=>?_,λb c l2 l3 hb hc e=>?_,λp hp b l2 hb=>?_,?_⟩
 .rcases key b l2 hb with ⟨rfl,rfl,e⟩ | ⟨_,h2,e⟩
  .rw[e];exact hB
  .rw[e];exact h.hx b l2 h2
 .rcases key b l2 hb with ⟨rfl,rfl,e1⟩ | ⟨_,h2,e1⟩<;>rcases key c l3 hc with ⟨rfl,rfl,e2⟩ | ⟨_,h3,e2⟩
  .rfl
  .rw[e1,e2]at e;exact absurd e.symm (hne _ _ h3)
  .rw[e1,e2]at e;exact absurd e (hne _ _ h2)
  .rw[e1,e2]at e;exact h.inj b c _ _ h2 h3 e
 .rcases key b l2 hb with ⟨rfl,rfl,e⟩ | ⟨_,h2,e⟩
  .rw[e]
   have:=h.ow.nd
   rw[List.map_cons,List.nodup_cons]at this
   exact λhc=>this.1 (List.mem_map.2 ⟨p,hp,hc.symm⟩)
  .rw[e];exact h.sep p (qgy _ hp) b l2 h2
 .obtain⟨L,hL⟩:=h.fin
  refine⟨a::L,λb l2 hb=>?_⟩
  rcases key b l2 hb with ⟨rfl,_⟩ | ⟨_,h2,_⟩
  .exact qh6 ..
  .exact qgy _ (hL b l2 h2)
omit [DecidableEq ν] in
theorem NH.conv (h:NH m0 m W A C σ)(hC:∀a,C' a=C a)(hA:∀a l,C a=some l->A' a=A a):NH m0 m W A' C' σ:=by
 refine⟨h.ow,λb l2 hb=>?_,λb c l2 l3 hb hc e=>?_,λp hp b l2 hb=>?_,?_⟩
 .rw[hC]at hb;rw[hA b l2 hb];exact h.hx b l2 hb
 .rw[hC]at hb hc;rw[hA b _ hb,hA c _ hc]at e;exact h.inj b c _ _ hb hc e
 .rw[hC]at hb;rw[hA b _ hb];exact h.sep p hp b l2 hb
 .obtain⟨L,hL⟩:=h.fin
  exact⟨L,λb l2 hb=>by rw[hC]at hb;exact hL b l2 hb⟩
def GV (A:ν->Nat)(C:ν->Option (List Value))(a:ν)(e n:Nat)(v:Value):Prop :=
 (C a=none/\n=0/\v=zS)\/∃c l,C a=some l/\v=.slice (some ⟨A a,0,some c⟩) n n/\(c=code e false\/c=code e true)/\l.length=n*e/\0<n/\∀u∈l,okC u=true
theorem NH.grown (h:NH m0 m W A C σ){v:Value}{x:List Value}(hv:blk v=none/\C a=none\/∃l,C a=some l/\blk v=some (A a))(hn:m'.n=m.n+1)(hb:m'.base=m.base)(hl:m'.log=m.log\/∃B,blk v=some B/\m'.log=note m.base B m.log)(ho:∀X,X<m.n->blk v≠some X->m'.obj X=m.obj X)(hA:Arr m' m.n x) :
  NH m0 m' W (qf A a m.n) (qf C a (some x)) σ:=by
 have hB:∀B,blk v=some B->B∈W\/m0.n<=B:=λB hB=>by
  rcases hv with ⟨e,_⟩ | ⟨l,h1,e⟩
  .rw[e]at hB;cases hB
  .rw[e]at hB;cases hB;exact (h.hx a l h1).1
 have hσ:∀p∈σ,blk v≠some p.1:=λp hp e2=>by
  rcases hv with ⟨e,_⟩ | ⟨l,h1,e⟩
  .rw[e]at e2;cases e2
  .rw[e]at e2;injection e2 with e2;exact h.sep p hp a l h1 e2
 have ow:=h.ow.kill hB (by omega) hb hl ho hσ
 have key:∀b l2,qf C a (some x) b=some l2->(b=a/\l2=x/\qf A a m.n b=m.n)\/(b≠a/\C b=some l2/\qf A a m.n b=A b/\A b<m.n/\blk v≠some (A b)):=λb l2 hb=>by
  by_cases e:b=a
  .subst e;rw[qG]at hb;cases hb;exact .inl ⟨rfl,rfl,qG _ _ _⟩
  .rw[qh e]at hb
   refine .inr ⟨e,hb,qh e,(h.hx b l2 hb).2.1,λe2=>?_⟩
   rcases hv with ⟨e3,_⟩ | ⟨l,h1,e3⟩
   .rw[e3]at e2;cases e2
   .rw[e3]at e2
    exact e (h.inj b a _ _ hb h1 (by injection e2 with e2;exact e2.symm))
 have hmn:=h.ow.mc.n
 refine⟨ow,λb l2 hb=>?_,λb c l2 l3 hb hc e=>?_,λp hp b l2 hb=>?_,?_⟩
 .rcases key b l2 hb with ⟨rfl,rfl,e⟩ | ⟨_,h2,e,h4,h5⟩
  .rw[e];exact⟨.inr hmn,by omega,hA⟩
  .rw[e]
   obtain⟨k1,k2,k3⟩:=h.hx b l2 h2
   exact⟨k1,by omega,k3.congr (ho _ k2 h5)⟩
 .rcases key b l2 hb with ⟨rfl,rfl,e1⟩ | ⟨_,h2,e1,h4,_⟩<;>rcases key c l3 hc with ⟨rfl,rfl,e2⟩ | ⟨_,h3,e2,h5,_⟩
  .rfl
  .rw[e1,e2]at e;omega
  .rw[e1,e2]at e;omega
  .rw[e1,e2]at e;exact h.inj b c _ _ h2 h3 e
 .have hp2:=(h.ow.arr p hp).2.1
  rcases key b l2 hb with ⟨rfl,rfl,e⟩ | ⟨_,h2,e,h4,_⟩
  .rw[e];omega
  .rw[e];exact h.sep p hp b l2 h2
 .obtain⟨L,hL⟩:=h.fin
  refine⟨a::L,λb l2 hb=>?_⟩
  rcases key b l2 hb with ⟨rfl,_⟩ | ⟨_,h2,_⟩
  .exact qh6 ..
  .exact qgy _ (hL b l2 h2)
omit [DecidableEq ν] in
theorem GV.pre {e n:Nat}(h:NH m0 m W A C σ)(hv:GV A C a e n v):((((C a).getD [])=[]/\n=0/\v=zS)\/∃B c,v=.slice (some ⟨B,0,some c⟩) n n/\(c=code e false\/c=code e true)/\Arr m B ((C a).getD [])/\B<m.n/\0<n) /\
  ((C a).getD []).length=n*e/\(∀u∈(C a).getD [],okC u=true)/\(blk v=none/\C a=none\/∃l,C a=some l/\blk v=some (A a)):=by
 rcases hv with ⟨h1,rfl,rfl⟩ | ⟨c,l,h1,rfl,h3,h4,h5,h6⟩
 .rw[h1];exact⟨.inl ⟨rfl,rfl,rfl⟩,by simp,by simp,.inl ⟨rfl,rfl⟩⟩
 .rw[h1]
  obtain⟨_,k2,k3⟩:=h.hx a l h1
  exact⟨.inr ⟨A a,c,rfl,h3,k3,k2,h5⟩,h4,h6,.inr ⟨l,rfl,rfl⟩⟩
theorem NH.push (h:NH m0 m W A C σ){e n bytes X:Nat}{sp:Option Nat}{x:List Value}(hv:GV A C a e n v)(he:0<e)(hx:loads m ⟨X,0,sp⟩ e=some x)(hok:∀u∈x,okC u=true)(hm:(n+1)*bytes<=most)(hn:n+1<=4611686018427387904) :
  ∃mq,wY m e bytes v (.slice (some ⟨X,0,sp⟩) 1 1)=some (.slice (some ⟨m.n,0,some (code e false)⟩) (n+1) (n+1),mq)/\NH m0 mq W (qf A a m.n) (qf C a (some ((C a).getD []++x))) σ/\mq.n=m.n+1:=by
 obtain⟨p1,p2,p3,p4⟩:=hv.pre h
 obtain⟨mq,a1,a2,a3,a4,a5,a6⟩:=JA p1 he p2 hx (λu hu=>(qhc.1 hu).elim (p3 u) (hok u)) hm hn
 exact⟨mq,a1,h.grown p4 a2 a3 a4 a5 a6,a2⟩
theorem NH.pushAny (h:NH m0 m W A C σ){e n bytes X:Nat}{sp:Option Nat}{x:List Value}(hv:GV A C a e n v)(he:0<e)(hx:loads m ⟨X,0,sp⟩ e=some x)(hok:∀u∈x,okC u=true)(hm:(n+1)*bytes<=most)(hn:n+1<=4611686018427387904) :
  ∃mq,wY (qc m) e bytes v (.slice (some ⟨X,0,sp⟩) 1 1)=some (.slice (some ⟨m.n,0,some (code e false)⟩) (n+1) (n+1),mq)/\NH m0 (Dx.behind m mq) W (qf A a m.n) (qf C a (some ((C a).getD []++x))) σ/\(Dx.behind m mq).n=m.n+1/\(mq.log=[]\/∃B,blk v=some B/\mq.log=[B]):=by
 obtain⟨p1,p2,p3,p4⟩:=hv.pre h
 have p1':(((C a).getD [])=[]/\n=0/\v=zS)\/∃B c,v=.slice (some ⟨B,0,some c⟩) n n/\(c=code e false\/c=code e true)/\Arr (qc m) B ((C a).getD [])/\B<(qc m).n/\0<n:=by
  rcases p1 with p | ⟨B,c,q1,q2,q3,q4,q5⟩
  .exact .inl p
  .exact .inr ⟨B,c,q1,q2,q3.congr (qm _ _),by rw[qt];exact q4,q5⟩
 have hx':loads (qc m) ⟨X,0,sp⟩ e=some x:=by rw[GP];exact hx
 obtain⟨mq,a1,a2,a3,a4,a5,a6⟩:=JA p1' he p2 hx' (λu hu=>(qhc.1 hu).elim (p3 u) (hok u)) hm hn
 rw[qt]at a1 a2 a5 a6
 rw[wW,wh]at a4
 have hlt:∀B,blk v=some B->B<m.n:=λB hB=>by
  rcases p4 with ⟨e1,_⟩ | ⟨l,h1,e1⟩
  .rw[e1]at hB;cases hB
  .rw[e1]at hB;cases hB;exact (h.hx a l h1).2.1
 have hno:∀B,blk v=some B->note m.n B []=[B]:=λB hB=>by
  unfold note
  have:Nat.ble m.n B=false:=by
   cases q:Nat.ble m.n B with
   | false=>rfl
   | true=>exact absurd (qgw q) (by have:=hlt B hB;omega)
  rw[this];rfl
 have hlog:mq.log=[]\/∃B,blk v=some B/\mq.log=[B]:=by
  rcases a4 with e1 | ⟨B,eb,e1⟩
  .exact .inl e1
  .exact .inr ⟨B,eb,by rw[e1,hno B eb]⟩
 refine⟨mq,a1,h.grown p4 (by rw[wb];exact a2) (kj _ _) ?_ (λX hX hne=>by rw[qx,a5 X hX hne,qm]) (a6.congr (qx _ _ _)),by rw[wb];exact a2,hlog⟩
 rw[km]
 rcases hlog with e1 | ⟨B,eb,e1⟩
 .rw[e1];exact .inl rfl
 .rw[e1];exact .inr ⟨B,eb,rfl⟩
end
structure HpN {ν:Type}(m:M)(A:ν->Nat)(C:ν->Option (List Value)):Prop where
 hx:∀a l,C a=some l->A a<m.n/\Arr m (A a) l
 inj:∀a b l l',C a=some l->C b=some l'->A a=A b->a=b
 fin:∃L:List ν,∀a l,C a=some l->a∈L
def yk {ν:Type}(A:ν->Nat)(C:ν->Option (List Value))(B:Nat):Prop:=∃a l,C a=some l/\A a=B
structure NR {ν:Type}(m m':M)(A:ν->Nat)(C:ν->Option (List Value))(A':ν->Nat)(C':ν->Option (List Value)):Prop where
 hp:HpN m' A' C'
 mc:∃Wl,(∀B∈Wl,yk A C B)/\Mc m m' Wl
 liv:∀a l,C' a=some l->yk A C (A' a)\/m.n<=A' a
section
variable {ν:Type}{m0 m m':M}{W:List Nat}{A A':ν->Nat}{C C':ν->Option (List Value)}{σ σ':List (Nat × List Value)}{a:ν}{l l':List Value}{v:Value}{o:Nat}
theorem HpN.start (h:HpN m A C)(hm:m.base<=m.n):∃Wl,(∀B,B∈Wl ↔ yk A C B)/\NH m m Wl A C []:=by
 obtain⟨L,hL⟩:=h.fin
 have hW:∀B,B∈(L.filterMap λa=>(C a).map λ_=>A a) ↔ yk A C B:=λB=>by
  rw[List.mem_filterMap]
  constructor
  .rintro ⟨a,_,e⟩
   cases hc:C a with
   | none=>rw[hc]at e;cases e
   | some l=>rw[hc]at e;cases e;exact⟨a,l,hc,rfl⟩
  .rintro ⟨a,l,hc,rfl⟩
   exact⟨a,hL a l hc,by rw[hc];rfl⟩
 exact⟨_,hW,Ow.start hm (by simp) (by simp),λb l2 hb=>let ⟨h2,h3⟩:=h.hx b l2 hb;⟨.inl ((hW _).2 ⟨b,l2,hb,rfl⟩),h2,h3⟩,h.inj,by simp,h.fin⟩
theorem NH.hp (h:NH m0 m W A C σ):HpN m A C:=⟨λb l2 hb=>(h.hx b l2 hb).2,h.inj,h.fin⟩
theorem HpN.any (h:HpN m A C):HpN (qc m) A C:=⟨λb l2 hb=>let ⟨h2,h3⟩:=h.hx b l2 hb;⟨by rw[qt];exact h2,h3.congr (qm _ _)⟩,h.inj,h.fin⟩
theorem NH.res {A0:ν->Nat}{C0:ν->Option (List Value)}(h:NH m0 m W A C σ)(hW:∀B,B∈W ↔ yk A0 C0 B):NR m0 m A0 C0 A C :=
 ⟨h.hp,⟨W,λB hB=>(hW B).1 hB,h.ow.mc⟩,λb l2 hb=>(h.hx b l2 hb).1.imp (λh=>(hW _).1 h) id⟩
theorem NH.call (h:NH m0 m W A C σ)(k:NR m m' A C A' C'):NH m0 m' W A' C' σ:=by
 obtain⟨Wl,hl,hmc⟩:=k.mc
 have hmn:=h.ow.mc.n
 have hin:∀B,yk A C B->(B∈W\/m0.n<=B)/\B<m.n:=λB ⟨b,l2,hb,e⟩=>by rw[<-e];exact⟨(h.hx b l2 hb).1,(h.hx b l2 hb).2.1⟩
 refine⟨⟨h.ow.mc.tr2 hmc (λB hB=>(hin B (hl B hB)).1) h.ow.base,h.ow.base,λp hp=>?_,h.ow.nd⟩,λb l2 hb=>?_,k.hp.inj,λp hp b l2 hb=>?_,k.hp.fin⟩
 .obtain⟨h1,h2,h3⟩:=h.ow.arr p hp
  refine⟨h1,qgs h2 hmc.n,h3.congr (hmc.obj _ h2 λhc=>?_)⟩
  obtain⟨b,l2,hb,e⟩:=hl _ hc
  exact h.sep p hp b l2 hb e
 .obtain⟨h2,h3⟩:=k.hp.hx b l2 hb
  refine⟨?_,h2,h3⟩
  rcases k.liv b l2 hb with h4 | h4
  .exact (hin _ h4).1
  .exact .inr (by omega)
 .have hp2:=(h.ow.arr p hp).2.1
  rcases k.liv b l2 hb with ⟨c,l3,hc,e⟩ | h4
  .rw[<-e];exact h.sep p hp c l3 hc
  .omega
theorem NR.behind (k:NR (qc m) m' A C A' C'):NR m (Dx.behind m m') A C A' C':=by
 obtain⟨Wl,hl,hmc⟩:=k.mc
 exact⟨⟨λb l2 hb=>let ⟨h2,h3⟩:=k.hp.hx b l2 hb;⟨by rw[wb];exact h2,h3.congr (qx _ _ _)⟩,k.hp.inj,k.hp.fin⟩,⟨Wl,hl,hmc.behind⟩,λb l2 hb=>by have:=k.liv b l2 hb;rwa [qt]at this⟩
theorem NH.call2 [DecidableEq ν]{b:ν}{la lb la' lb':List Value}(h:NH m0 m W A C σ)(ha:C a=some la)(hb:C b=some lb)(hab:a≠b)(k:Mc m m' [A a,A b])(h1:Arr m' (A a) la')(h2:Arr m' (A b) lb'):NH m0 m' W A (qf (qf C a (some la')) b (some lb')) σ:=by
 have live:∀{c l2},qf (qf C a (some la')) b (some lb') c=some l2->∃l3,C c=some l3:=λ{c l2} hc=>by
  by_cases e:c=b
  .subst e;exact⟨_,hb⟩
  .rw[qh e]at hc
   exact vr ha hc
 refine h.call ⟨⟨λc l2 hc=>?_,λc d l2 l3 hc hd e=>?_,?_⟩,⟨_,λB hB=>?_,k⟩,λc l2 hc=>?_⟩
 .obtain⟨l3,h3⟩:=live hc
  have hlt:=(h.hx c l3 h3).2.1
  refine⟨qgs hlt k.n,?_⟩
  by_cases e:c=b
  .subst e;rw[qG]at hc;cases hc;exact h2
  .rw[qh e]at hc
   by_cases e2:c=a
   .subst e2;rw[qG]at hc;cases hc;exact h1
   .rw[qh e2]at hc
    refine (h.hx c l2 hc).2.2.congr (k.obj _ (h.hx c l2 hc).2.1 ?_)
    simp only[List.mem_cons,List.not_mem_nil,or_false]
    rintro (e3 | e3)
    .exact e2 (h.inj c a _ _ hc ha e3)
    .exact e (h.inj c b _ _ hc hb e3)
 .obtain⟨_,hc'⟩:=live hc
  obtain⟨_,hd'⟩:=live hd
  exact h.inj c d _ _ hc' hd' e
 .obtain⟨L,hL⟩:=h.fin
  exact⟨L,λc l2 hc=>let ⟨_,hc'⟩:=live hc;hL c _ hc'⟩
 .simp only[List.mem_cons,List.not_mem_nil,or_false]at hB
  rcases hB with rfl | rfl
  .exact⟨a,la,ha,rfl⟩
  .exact⟨b,lb,hb,rfl⟩
 .obtain⟨l3,hc'⟩:=live hc
  exact .inl ⟨c,l3,hc',rfl⟩
end
end Go.Dx
namespace Go.Dx
open Go.RowKit
abbrev uv (n:Nat):Value:=.int .u64 (n:Int)
theorem Wu (op:BinOp)(a b:Int)(r:Int)(h:bits op .u64 a b=r)(ho:op=.and\/op=.or\/op=.xor):JU op .u64 a b=some (.int .u64 r):=by
 rcases ho with rfl | rfl | rfl<;>(subst h;rfl)
theorem qcz {a b:Nat}(ha:a<18446744073709551616)(hb:b<18446744073709551616):zh .and (uv a) (uv b)=some (uv (a &&& b)):=by
 rw[kQ];exact Wu .and _ _ _ (bits_and_u64_nat a b ha hb) (.inl rfl)
theorem u_or {a b:Nat}(ha:a<18446744073709551616)(hb:b<18446744073709551616):zh .or (uv a) (uv b)=some (uv (a|||b)):=by
 rw[kQ];exact Wu .or _ _ _ (bits_or_u64_nat a b ha hb) (.inr (.inl rfl))
theorem u_xor {a b:Nat}(ha:a<18446744073709551616)(hb:b<18446744073709551616):zh .xor (uv a) (uv b)=some (uv (a ^^^ b)):=by
 rw[kQ];exact Wu .xor _ _ _ (bits_xor_u64_nat a b ha hb) (.inr (.inr rfl))
theorem u_low {b:Nat}(hb:b<18446744073709551616):zh .and (uv b) (.int .u64 63)=some (uv (b%64)):=by
 have:=qcz (a:=b) (b:=63) hb (by omega)
 rwa [show (63:Nat)=2^6-1 from rfl,Nat.and_two_pow_sub_one_eq_mod]at this
theorem u_add (a b:Nat):zh .add (uv a) (uv b)=some (uv ((a+b)%18446744073709551616)):=by
 rw[qC,IntKind.wrap_u64];congr 2
theorem u_sub {a b:Nat}(ha:a<18446744073709551616)(hb:b<18446744073709551616):zh .sub (uv a) (uv b)=some (uv ((a+(18446744073709551616-b))%18446744073709551616)):=by
 rw[qY,IntKind.wrap_u64];congr 2;omega
theorem u_mul (a b:Nat):zh .mul (uv a) (uv b)=some (uv (a*b%18446744073709551616)):=by
 rw[kQ]
 show some (Value.int .u64 (vv .u64 ((a:Int)*b)))=_
 rw[zD,IntKind.wrap_u64];congr 2
theorem u_shl {a s:Nat}(hs:s<64):shV .shl (uv a) (uv s)=some (uv (a*2^s%18446744073709551616)):=by
 show jd (Op.shift .shl .u64 (a:Int) .u64 (s:Int))=_
 unfold Op.shift
 rw[if_neg (by omega)]
 show some (Value.int .u64 (IntKind.u64.wrap ((a:Int)*2^(min (Int.toNat (s:Int)) 64))))=_
 rw[qh1,Nat.min_eq_left (by omega),IntKind.wrap_u64]
 congr 2
theorem u_shr {a s:Nat}(hs:s<64):shV .shr (uv a) (uv s)=some (uv (a/2^s)):=by
 show jd (Op.shift .shr .u64 (a:Int) .u64 (s:Int))=_
 unfold Op.shift
 rw[if_neg (by omega)]
 show some (Value.int .u64 ((a:Int).fdiv (2^(min (Int.toNat (s:Int)) 64))))=_
 rw[qh1,Nat.min_eq_left (by omega)]
 congr 2
 rw[show ((2:Int)^s)=((2^s:Nat):Int) by push_cast;rfl,Int.ofNat_fdiv]
theorem u_neg {a:Nat}(ha:a<18446744073709551616):unV .neg (uv a)=some (uv ((18446744073709551616-a)%18446744073709551616)):=by
 show jd (Op.intArith .sub .u64 0 (a:Int))=_
 show some (Value.int .u64 (IntKind.u64.wrap (0-(a:Int))))=_
 rw[IntKind.wrap_u64];congr 2;omega
theorem u_not {a:Nat}(ha:a<18446744073709551616):unV .xor (uv a)=some (uv (18446744073709551615-a)):=by
 show jd (Op.intBits .xor .u64 18446744073709551615 (a:Int))=_
 have h:=bits_xor_u64_nat 18446744073709551615 a (by omega) ha
 have e:jd (Op.intBits .xor .u64 18446744073709551615 (a:Int))=some (.int .u64 (bits .xor .u64 ((18446744073709551615:Nat):Int) (a:Int))):=rfl
 rw[e,h]
 congr 3
 have h2:=congrArg BitVec.toNat (BitVec.allOnes_xor (x:=BitVec.ofNat 64 a))
 rw[BitVec.toNat_xor,BitVec.toNat_not,BitVec.toNat_allOnes,BitVec.toNat_ofNat,Nat.mod_eq_of_lt (by omega)]at h2
 exact h2
end Go.Dx
namespace Go.Sx
open Go.Dx
abbrev U:={n:Nat // n<18446744073709551616}
structure Nd where
 op:Int
 val:U
 a:Int
 b:Int
def qP (n:Nd):List Value:=[.int .i64 n.op,uv n.val.1,.int .i64 n.a,.int .i64 n.b]
def vX (n:U):List Value:=[uv n.1]
def t01 (b:Bool):Nat:=if b then 1 else 0
theorem gp (b:Bool):t01 b<18446744073709551616:=by cases b<;>decide
def bl (op:Int)(a:Nat):Nat:=if op=3 then (18446744073709551616-a)%18446744073709551616 else if op=4 then 18446744073709551615-a else t01 (decide (a=0))
def zC (op:Int)(a b:Nat):Nat :=
 if op=6 then a*b%18446744073709551616 else if op=7 then (a+b)%18446744073709551616 else if op=8 then (a+(18446744073709551616-b))%18446744073709551616
 else if op=9 then a*2^(b%64)%18446744073709551616 else if op=10 then a/2^(b%64) else if op=11 then a &&& b else if op=12 then a ^^^ b else if op=13 then a|||b
 else if op=14 then t01 (decide (a=b)) else if op=15 then t01 (decide (a≠b)) else if op=16 then t01 (decide (a<b)) else if op=17 then t01 (decide (a<=b))
 else if op=18 then t01 (decide (b<a)) else t01 (decide (b<=a))
theorem ze {c:Prop}[Decidable c]{a b n:Nat}(ha:a<n)(hb:b<n):(if c then a else b)<n:=by
 by_cases h:c
 .rw[if_pos h];exact ha
 .rw[if_neg h];exact hb
theorem qbq (op:Int){a:Nat}(ha:a<18446744073709551616):bl op a<18446744073709551616 :=
 ze (Nat.mod_lt _ (by omega)) (ze (by omega) (gp _))
theorem qbr (op:Int){a b:Nat}(ha:a<18446744073709551616)(hb:b<18446744073709551616):zC op a b<18446744073709551616:=by
 have h1:a &&& b<2^64:=Nat.and_lt_two_pow (n:=64) a (y:=b) (by omega)
 have h2:a ^^^ b<2^64:=Nat.xor_lt_two_pow (n:=64) (x:=a) (y:=b) (by omega) (by omega)
 have h3:a|||b<2^64:=Nat.or_lt_two_pow (n:=64) (x:=a) (y:=b) (by omega) (by omega)
 exact ze (Nat.mod_lt _ (by omega)) (ze (Nat.mod_lt _ (by omega)) (ze (Nat.mod_lt _ (by omega)) (ze (Nat.mod_lt _ (by omega)) (ze (Nat.lt_of_le_of_lt (Nat.div_le_self _ _) ha)
  (ze (by omega) (ze (by omega) (ze (by omega) (ze (gp _) (ze (gp _) (ze (gp _) (ze (gp _) (ze (gp _) (gp _)))))))))))))
def wAt (l:List U)(i:Nat):Nat:=(l[i]?.map (·.1)).getD 0
theorem wAt_lt (l:List U)(i:Nat):wAt l i<18446744073709551616:=by
 unfold wAt
 cases h:l[i]? with
 | none=>simp
 | some x=>simpa using x.2
def xH (l:List U)(v:List Nat)(n:Nd):Nat :=
 if n.op=1 then n.val.1 else if n.op=2 then wAt l n.val.1 else if n.op<=5 then bl n.op (v.getD n.a.toNat 0) else zC n.op (v.getD n.a.toNat 0) (v.getD n.b.toNat 0)
def evV (l:List U)(e:List Nd):Nat->List Nat
 | 0=>[]
 | i+1=>evV l e i++[match e[i]? with | some n=>xH l (evV l e i) n | none=>0]
theorem yT (l:List U)(e:List Nd):∀i,(evV l e i).length=i
 | 0=>rfl
 | i+1=>by unfold evV;rw[qgx,yT l e i];rfl
theorem JO (l:List U)(e:List Nd){j:Nat}:∀{i:Nat},j<i->(evV l e i)[j]?=(evV l e (j+1))[j]?
 | i+1,h=>by
  by_cases hj:j=i
  .subst hj;rfl
  .conv=>lhs;unfold evV
   rw[qh2 (by rw[yT];omega)]
   exact JO l e (by omega)
def dV (l:List U)(e:List Nd)(i:Nat):Nat:=(evV l e (i+1)).getD i 0
theorem Zp (l:List U)(e:List Nd){i j:Nat}(h:j<i):(evV l e i).getD j 0=dV l e j:=by
 unfold dV
 rw[List.getD_eq_getElem?_getD,List.getD_eq_getElem?_getD,JO l e h]
theorem Jn (l:List U)(e:List Nd){i:Nat}{n:Nd}(h:e[i]?=some n):dV l e i=xH l (evV l e i) n:=by
 unfold dV
 rw[List.getD_eq_getElem?_getD]
 conv=>lhs;unfold evV
 rw[qh3 (by rw[yT];exact qgq _),yT,Nat.sub_self,h]
 rfl
def okN (k i:Nat)(n:Nd):Bool :=
 if n.op=1 then decide (n.a=0/\n.b=0) else if n.op=2 then decide (n.a=0/\n.val.1<k/\n.b=0)
 else if 3<=n.op/\n.op<=5 then decide (0<=n.a/\n.a<i/\n.b=0/\n.val.1=0) else decide (0<=n.a/\n.a<i/\0<=n.b/\n.b<i/\6<=n.op/\n.op<=19/\n.val.1=0)
def bI (n:Nd)(j:Nat):Nat:=(if 3<=n.op/\n.a=j then 1 else 0)+(if 6<=n.op/\n.b=j then 1 else 0)
def zi (e:List Nd)(i j:Nat):Nat:=((e.take i).map λn=>bI n j).sum
theorem yS {e:List Nd}{i:Nat}{n:Nd}(h:e[i]?=some n)(j:Nat):zi e (i+1) j=zi e i j+bI n j:=by
 unfold zi
 obtain⟨hh,he⟩:=qgp.1 h
 rw[List.take_succ_eq_append_getElem hh,he,List.map_append,List.sum_append]
 simp
def wU (k:Nat)(e:List Nd):Bool :=
 decide (0<e.length)&&decide (e.length<=65536)&&((List.range e.length).all λi=>match e[i]? with | some n=>okN k i n | none=>true) &&
  ((List.range e.length).all λj=>decide (zi e e.length j=if j<e.length-1 then 1 else 0))
theorem FZ {k i:Nat}{n:Nd}(h:okN k i n=true){j:Nat}(hj:i<=j):bI n j=0:=by
 unfold okN at h;unfold bI
 split at h
 .rename_i h1
  rw[if_neg (by omega),if_neg (by omega)]
 .split at h
  .rw[if_neg (by omega),if_neg (by omega)]
  .split at h
   .have:=of_decide_eq_true h
    rw[if_neg (by omega),if_neg (by omega)]
   .have:=of_decide_eq_true h
    rw[if_neg (by omega),if_neg (by omega)]
end Go.Sx
namespace Go.Sx
open Go.Dx
section
variable {k:Nat}{e:List Nd}
theorem VN (h:e.length=0):wU k e=false:=by unfold wU;rw[h];rfl
theorem VO (h:65536<e.length):wU k e=false:=by
 unfold wU
 have:decide (e.length<=65536)=false:=decide_eq_false (by omega)
 rw[this];simp
theorem qan {i:Nat}{n:Nd}(hi:e[i]?=some n)(h:okN k i n=false):wU k e=false:=by
 have hl:=(qgp.1 hi).1
 cases hc:wU k e with
 | false=>rfl
 | true =>
  unfold wU at hc
  simp only[qgt,List.all_eq_true]at hc
  have:=hc.1.2 i (List.mem_range.2 hl)
  rw[hi]at this
  exact absurd (this.symm.trans h) (by simp)
theorem GE {j:Nat}(hj:j<e.length)(h:zi e e.length j≠if j<e.length-1 then 1 else 0):wU k e=false:=by
 cases hc:wU k e with
 | false=>rfl
 | true =>
  unfold wU at hc
  simp only[qgt,List.all_eq_true]at hc
  exact absurd (of_decide_eq_true (hc.2 j (List.mem_range.2 hj))) h
theorem Ks (h:∀(i:Nat) n,e[i]?=some n->okN k i n=true):∀i,i<=e.length->zi e i (e.length-1)=0
 | 0,_=>rfl
 | i+1,hi=>by
  have hg:e[i]?=some e[i]:=qgn (by omega)
  rw[yS hg,Ks h i (by omega),FZ (h i _ hg) (by omega)]
theorem VP (h0:0<e.length)(h1:e.length<=65536)(hok:∀(i:Nat) n,e[i]?=some n->okN k i n=true)(hlo:∀j,j<e.length-1->0<zi e e.length j)(hhi:∀j,zi e e.length j<=1):wU k e=true:=by
 unfold wU
 simp only[qgt,List.all_eq_true,decide_eq_true_eq]
 refine⟨⟨⟨h0,h1⟩,λi hi=>?_⟩,λj hj=>?_⟩
 .cases hg:e[i]? with
  | none=>rfl
  | some n=>exact hok i n hg
 .have hj':=List.mem_range.1 hj
  by_cases hl:j<e.length-1
  .rw[if_pos hl];have:=hlo j hl;have:=hhi j;omega
  .rw[if_neg hl,show j=e.length-1 by omega]
   exact Ks hok _ (qgq _)
theorem dc (h:wU k e=true):0<e.length/\e.length<=65536/\∀(i:Nat) n,e[i]?=some n->okN k i n=true:=by
 unfold wU at h
 simp only[qgt,List.all_eq_true,decide_eq_true_eq]at h
 refine⟨h.1.1.1,h.1.1.2,λi n hi=>?_⟩
 have:=h.1.2 i (List.mem_range.2 (qgp.1 hi).1)
 rw[hi]at this
 exact this
end
theorem qej {k i:Nat}{n:Nd}(h:n.op=1):okN k i n=decide (n.a=0/\n.b=0):=by unfold okN;rw[if_pos h]
theorem ZM {k i:Nat}{n:Nd}(h:n.op=2):okN k i n=decide (n.a=0/\n.val.1<k/\n.b=0):=by unfold okN;rw[if_neg (by omega),if_pos h]
theorem QE {k i:Nat}{n:Nd}(h:3<=n.op)(h':n.op<=5):okN k i n=decide (0<=n.a/\n.a<i/\n.b=0/\n.val.1=0):=by unfold okN;rw[if_neg (by omega),if_neg (by omega),if_pos ⟨h,h'⟩]
theorem yV {k i:Nat}{n:Nd}(h1:n.op≠1)(h2:n.op≠2)(h:¬(3<=n.op/\n.op<=5)):okN k i n=decide (0<=n.a/\n.a<i/\0<=n.b/\n.b<i/\6<=n.op/\n.op<=19/\n.val.1=0):=by unfold okN;rw[if_neg h1,if_neg h2,if_neg h]
end Go.Sx
namespace Go.Sx
open Go.Dx
theorem bg {n e bytes:Nat}{zs:List Value}(hz:zs.length=e)(h1:n*e<=1048576)(h2:n*bytes<=most)(h3:n<=4611686018427387904)(m:M):bi e bytes zs (.int .i64 (n:Int)) (.int .i64 (n:Int)) m=some (.slice (some ⟨m.n,0,some (code e true)⟩) n n,Dx.newRow m ((List.range n).flatMap λ_=>zs)):=by
 show (bif Nat.ble n n&&Nat.ble (n*bytes) most&&Nat.ble n 4611686018427387904&&Nat.ble (n*e) 1048576 then some (Value.slice (some ⟨m.n,0,some (code e true)⟩) n n,Dx.newRow m (rep n zs)) else none)=_
 rw[qgv (qgq n),qgv h2,qgv h3,qgv h1,XD]
 rfl
theorem Xl (n:Nd):(qP n).length=4:=rfl
end Go.Sx
namespace Go.Sx
open Go.Dx Go.Proofs
theorem qff (n:Nat)(b:Bool)(m:M):CallV (ex Tryz.prog (n+1)) 148 [.bool b] m (uv (t01 b)):=by
 refine qy dh3_ok (by simp) ?_
 cases b
 .simp;exact qp (Ext.refl _) (by simp[t01])
 .simp;exact qp (Ext.refl _) (by simp[t01])
theorem idx_u (e:Nat)(v:Value)(i:Nat):wZ e v (uv i)=wZ e v (.int .i64 (i:Int)):=by
 have:xW (uv i)=xW (.int .i64 (i:Int)):=rfl
 show ob (xW (uv i)) _=ob (xW (.int .i64 (i:Int))) _
 rw[this]
theorem Jm (l:List U)(e:List Nd):∀i,dV l e i<18446744073709551616:=by
 intro i
 have key:∀i,∀x∈evV l e i,x<18446744073709551616:=by
  intro i
  induction i with
  | zero=>intro x hx;cases hx
  | succ i ih =>
   intro x hx
   unfold evV at hx
   rcases qhc.1 hx with hx | hx
   .exact ih x hx
   .rw[qgu.1 hx]
    have gd:∀j,(evV l e i).getD j 0<18446744073709551616:=λj=>by
     rw[List.getD_eq_getElem?_getD]
     cases h:(evV l e i)[j]? with
     | none=>simp
     | some y=>simpa using ih y (qgo h)
    cases h:e[i]? with
    | none=>simp
    | some n =>
     show xH l (evV l e i) n<_
     unfold xH
     exact ze n.val.2 (ze (wAt_lt _ _) (ze (qbq _ (gd _)) (qbr _ (gd _) (gd _))))
 unfold dV
 rw[List.getD_eq_getElem?_getD]
 cases h:(evV l e (i+1))[i]? with
 | none=>simp
 | some y=>simpa using key _ y (qgo h)
end Go.Sx
namespace Go.Sx
open Go.Dx Go.Proofs
end Go.Sx
namespace Go.Sx
open Go.Dx Go.Proofs
set_option maxRecDepth 10000
theorem FY (n:Nat)(b:Bool)(m:M):∃m5,(ex Tryz.prog (n+1)).f 148 [.bool b] m=some (uv (t01 b),m5)/\Ext m m5:=by
 obtain⟨v5,m5,y1,y2,rfl⟩:=qff n b m
 exact⟨m5,y1,y2⟩
theorem one_c (n:Nat)(op:Int){a:Nat}(ha:a<18446744073709551616)(m:M):CallV (ex Tryz.prog (n+2)) 138 [iv op,uv a] m (uv (bl op a)):=by
 refine qy dg3_ok (by simp) ?_
 have qneg:=u_neg ha
 have qnot:=u_not ha
 by_cases h3:op=3
 .subst h3
  simp[-qY,-qC,qneg]
  exact qp (Ext.refl _) (by simp[bl])
 by_cases h4:op=4
 .subst h4
  simp[-qY,-qC,qnot]
  exact qp (Ext.refl _) (by simp[bl])
 obtain⟨m5,y1,y2⟩:=FY n (decide (a=0)) m
 simp[-qY,-qC,h3,h4,y1]
 exact qp y2 (by simp[bl,h3,h4])
theorem Yk {op:Int}(g:∀k:Int,6<=k->k<=18->¬op=k)(a b:Nat):zC op a b=t01 (decide (b<=a)):=by
 unfold zC
 rw[if_neg (g 6 (by omega) (by omega)),if_neg (g 7 (by omega) (by omega)),if_neg (g 8 (by omega) (by omega)),if_neg (g 9 (by omega) (by omega)),if_neg (g 10 (by omega) (by omega)),if_neg (g 11 (by omega) (by omega)),if_neg (g 12 (by omega) (by omega)),if_neg (g 13 (by omega) (by omega)),if_neg (g 14 (by omega) (by omega)),if_neg (g 15 (by omega) (by omega)),if_neg (g 16 (by omega) (by omega)),if_neg (g 17 (by omega) (by omega)),if_neg (g 18 (by omega) (by omega))]
theorem two_c (n:Nat)(op:Int){x y:Nat}(hxl:x<18446744073709551616)(hyl:y<18446744073709551616)(m:M):CallV (ex Tryz.prog (n+2)) 139 [iv op,uv x,uv y] m (uv (zC op x y)):=by
 refine qy dg4_ok (by simp) ?_
 have qadd:=u_add x y
 have qsub:=u_sub hxl hyl
 have qmul:=u_mul x y
 have qand:=qcz hxl hyl
 have qor:=u_or hxl hyl
 have qxor:=u_xor hxl hyl
 have qlow:=u_low hyl
 have E:=Ext.refl m
 have yes:=λb=>FY n b m
 obtain⟨sh,hsh⟩:=qhd (y%64)
 have hshl:sh<64:=by rw[hsh];exact Nat.mod_lt _ (by omega)
 rw[<-hsh]at qlow
 have qshl:=u_shl (a:=x) hshl
 have qshr:=u_shr (a:=x) hshl
 obtain⟨r9,hr9⟩:=qhd (x*2^sh%18446744073709551616)
 obtain⟨r10,hr10⟩:=qhd (x/2^sh)
 rw[<-hr9]at qshl
 rw[<-hr10]at qshr
 have w9:IntKind.u64.wrap ((x:Int)*2^min sh IntKind.u64.bits)=(r9:Int):=by
  rw[show min sh IntKind.u64.bits=sh from Nat.min_eq_left (by show sh<=64;omega),IntKind.wrap_u64,hr9];exact (by rw[Int.natCast_emod,Int.natCast_mul,Int.natCast_pow];rfl)
 have w10:Int.fdiv (x:Int) (2^min sh IntKind.u64.bits)=(r10:Int):=by
  rw[show min sh IntKind.u64.bits=sh from Nat.min_eq_left (by show sh<=64;omega),hr10,show ((2:Int)^sh)=((2^sh:Nat):Int) by push_cast;rfl,Int.ofNat_fdiv]
 have e9:zC 9 x y=r9:=by rw[hr9,hsh];rfl
 have e10:zC 10 x y=r10:=by rw[hr10,hsh];rfl
 by_cases h6:op=6
 .subst h6
  simp[-qY,-qC,qmul]
  exact qp E (by simp[zC])
 by_cases h7:op=7
 .subst h7
  simp[-qY,-qC,qadd]
  exact qp E (by simp[zC])
 by_cases h8:op=8
 .subst h8
  simp[-qY,-qC,qsub]
  exact qp E (by simp[zC])
 by_cases h9:op=9
 .subst h9
  rw[e9]
  simp[-qY,-qC,qlow]
  exact qp E (by simp[w9])
 by_cases h10:op=10
 .subst h10
  rw[e10]
  simp[-qY,-qC,qlow]
  exact qp E (by simp[w10])
 by_cases h11:op=11
 .subst h11
  simp[-qY,-qC,qand]
  exact qp E (by simp[zC])
 by_cases h12:op=12
 .subst h12
  simp[-qY,-qC,qxor]
  exact qp E (by simp[zC])
 by_cases h13:op=13
 .subst h13
  simp[-qY,-qC,qor]
  exact qp E (by simp[zC])
 by_cases h14:op=14
 .subst h14
  have hdec:decide ((x:Int)=(y:Int))=decide (x=y):=decide_eq_decide.2 Int.ofNat_inj
  obtain⟨m5,y1,y2⟩:=yes (decide ((x:Int)=(y:Int)))
  simp[-qY,-qC,y1]
  exact qp y2 (by simp[zC,hdec])
 by_cases h15:op=15
 .subst h15
  have hdec:decide ((x:Int)=(y:Int))=decide (x=y):=decide_eq_decide.2 Int.ofNat_inj
  obtain⟨m5,y1,y2⟩:=yes (!decide ((x:Int)=(y:Int)))
  simp[-qY,-qC,y1]
  exact qp y2 (by simp[zC,hdec])
 by_cases h16:op=16
 .subst h16
  obtain⟨m5,y1,y2⟩:=yes (decide (x<y))
  simp[-qY,-qC,y1]
  exact qp y2 (by simp[zC])
 by_cases h17:op=17
 .subst h17
  obtain⟨m5,y1,y2⟩:=yes (decide (x<=y))
  simp[-qY,-qC,y1]
  exact qp y2 (by simp[zC])
 by_cases h18:op=18
 .subst h18
  obtain⟨m5,y1,y2⟩:=yes (decide (y<x))
  simp[-qY,-qC,y1]
  exact qp y2 (by simp[zC])
 obtain⟨m5,y1,y2⟩:=yes (decide (y<=x))
 simp[-qY,-qC,h6,h7,h8,h9,h10,h11,h12,h13,h14,h15,h16,h17,h18,y1]
 have hel:=Yk (op:=op) (λk k1 k2=>?_) x y
 .exact qp y2 (by simp[hel])
 rcases (by omega:k=6\/k=7\/k=8\/k=9\/k=10\/k=11\/k=12\/k=13\/k=14\/k=15\/k=16\/k=17\/k=18) with rfl | rfl | rfl | rfl | rfl | rfl | rfl | rfl | rfl | rfl | rfl | rfl | rfl<;>assumption
end Go.Sx
namespace Go.Sx
open Go.Dx Go.Proofs
def grR (v:List Nat)(n:Nat):List Value:=v.map (λx=>uv x)++List.replicate (n-v.length) (uv 0)
theorem qe5 {v:List Nat}{n:Nat}(h:v.length<=n):(grR v n).length=n:=by unfold grR;simp;omega
theorem Zr {v:List Nat}{n i:Nat}(h:i<v.length):(grR v n)[i]?=some (uv (v.getD i 0)):=by
 unfold grR
 rw[qh2 (by simpa using h),qh4,qgn h,List.getD_eq_getElem?_getD,qgn h]
 rfl
theorem qe6 {v:List Nat}{n:Nat}(x:Nat)(h:v.length<n):(grR v n).set v.length (uv x)=grR (v++[x]) n:=by
 unfold grR
 rw[List.set_append_right _ _ (by simp),List.length_map,Nat.sub_self,show n-v.length=(n-(v++[x]).length)+1 by simp;omega,List.replicate_succ,List.set_cons_zero,List.map_append,List.append_assoc]
 rfl
theorem YY (n:Nat):((List.range n).flatMap λ_=>[zU])=grR [] n:=by
 unfold grR
 rw[List.map_nil,List.nil_append,List.length_nil,Nat.sub_zero]
 induction n with
 | zero=>rfl
 | succ n ih=>rw[List.range_succ,List.flatMap_append,ih,List.replicate_succ'];rfl
set_option maxRecDepth 10000 in
theorem qfj (l:List U)(e:List Nd)(ed ld:Value)(hlen:e.length<=65536)(h0:0<e.length)(hok:∀(i:Nat) n,e[i]?=some n->okN l.length i n=true)(N:Nat)(m:M)(hm:m.base<=m.n)(hed:Rd m ed 4 qP e)(hld:Rd m ld 1 vX l) :
  CallV (ex Tryz.prog (N+3)) 135 [ed,ld] m (uv (dV l e (e.length-1))):=by
 refine qy dg0_ok (by simp) ?_
 obtain⟨n,hn⟩:=qhd (e.length)
 rw[<-hn]at hlen h0
 have mk:=bg (n:=n) (e:=1) (bytes:=8) (zs:=[zU]) rfl (by omega) (by unfold most;omega) (by omega) m
 rw[YY]at mk
 have st1:=(St.nil hm (Ext.refl m)).row (grR [] n)
 obtain⟨m1,hm1⟩:=qhd (Dx.newRow m (grR [] n))
 rw[<-hm1]at st1 mk
 have hll:za ed=some (.int .i64 (n:Int)):=by rw[hn];exact hed.len
 rw[<-hn]
 simp[hll,mk]
 refine qR (c:=qa5) rfl (Ret m _) (λi t m'=>St m m' [(m.n,grR (evV l e i) n)]/\Tm.get 5 t=.slice (some ⟨m.n,0,some 3⟩) n n/\Tm.get 1 t=ld/\Tm.get 11 t=ed/\Tm.get 12 t=iv n/\Tm.get 13 t=iv i) n (by omega)
  ⟨st1,by simp;rfl,by simp,by simp,by simp,by simp⟩ (λi t m' k hi hI hk=>?_)
 obtain⟨st,t5,t1,t11,t12,t13⟩:=hI
 by_cases hil:i<n
 .have hd:=dlt hil
  obtain⟨nd,hnd⟩:∃r,e[i]?=some r:=⟨_,qgn (by omega)⟩
  have hokn:=hok i nd hnd
  have hval:=Jn l e hnd
  have hevl:=yT l e i
  have hnext:evV l e (i+1)=evV l e i++[xH l (evV l e i) nd]:=by
   conv=>lhs;unfold evV
   rw[hnd]
  have ⟨a1,a2,_⟩:=hed.at hnd
  have a2':=a2 m' st.sees
  have st1:=st.row [zI,zU,zI,zI]
  obtain⟨m1,hm1⟩:=qhd (Dx.newRow m' [zI,zU,zI,zI])
  rw[<-hm1]at st1
  obtain⟨m2,s1,s2,s3,s4⟩:=st1.fill 0 rfl (n:=4) (l':=qP nd) rfl rfl (by simp[qP,okC])
  have s2':St m m2 [(m'.n,qP nd),(m.n,grR (evV l e i) n)]:=s2
  have l2:∀o s,load1 m2 ⟨m'.n,o,s⟩=(qP nd)[o]?:=λo s=>(s2'.get 0 rfl).2.2.load1 o s
  have g2:∀o s,load1 m2 ⟨m.n,o,s⟩=(grR (evV l e i) n)[o]?:=λo s=>(s2'.get 1 rfl).2.2.load1 o s
  have ni:=wL (i:=i) (by omega)
  have ix:∀j,j<n->wZ 1 (.slice (some ⟨m.n,0,some 3⟩) n n) (.int .i64 (j:Int))=some (.pointer (some ⟨m.n,j,none⟩)):=λj hj=>by have:=yg (e:=1) (c:=3) m.n n j hj;rwa [Nat.mul_one]at this
  have ixi:=ix i hil
  have hset:∀x,x=xH l (evV l e i) nd->(grR (evV l e i) n).set i (uv x)=grR (evV l e (i+1)) n:=λx hx=>by
   have:=qe6 (v:=evV l e i) (n:=n) x (by omega)
   rw[hevl]at this
   rw[this,hnext,hx]
  have hgl:i<(grR (evV l e i) n).length:=by rw[qe5 (by omega)];exact hil
  obtain⟨op,val,na,nb⟩:=nd
  simp only[qP]at a2' s1 l2
  have S2:=s2'.sees
  by_cases h1:op=1
  .subst h1
   obtain⟨m3,w1,w2,w3,w4⟩:=s2'.store 1 rfl (o:=i) (v:=uv val.1) hgl rfl
   have w2':St m m3 [(m.n,grR (evV l e (i+1)) n)]:=by
    have:=w2.sub (σ':=[(m.n,(grR (evV l e i) n).set i (uv val.1))]) (by simp) (by simp)
    rwa [hset val.1 (by unfold xH;rw[if_pos rfl])]at this
   simp[t5,t1,t11,t12,t13,hd,a1,a2',qe,<-hm1,s1,l2,ixi,w1,ni]
   exact hk hil _ _ ⟨w2',by simp[t5],by simp[t1],by simp[t11],by simp[t12],by simp⟩
  by_cases h2:op=2
  .subst h2
   have hkk:=of_decide_eq_true ((ZM (k:=l.length) (i:=i) (n:=⟨2,val,na,nb⟩) rfl) ▸ hokn)
   obtain⟨w,hw⟩:∃r,l[val.1]?=some r:=⟨_,qgn hkk.2.1⟩
   have hww:wAt l val.1=w.1:=by unfold wAt;rw[hw];rfl
   have ⟨b1,_,b3⟩:=(hld.sees S2).at hw
   have b1':=(idx_u 1 ld val.1).trans b1
   have hx:∀s,load1 m2 ⟨(adr 1 ld val.1).block,(adr 1 ld val.1).off,s⟩=some (uv w.1):=λs=>b3 m2 0 s S2.self (by simp[vX])
   have hx':load1 m2 (adr 1 ld val.1)=some (uv w.1):=hx _
   obtain⟨m3,w1,w2,w3,w4⟩:=s2'.store 1 rfl (o:=i) (v:=uv w.1) hgl rfl
   have w2':St m m3 [(m.n,grR (evV l e (i+1)) n)]:=by
    have:=w2.sub (σ':=[(m.n,(grR (evV l e i) n).set i (uv w.1))]) (by simp) (by simp)
    rwa [hset w.1 (by unfold xH;rw[if_neg (by simp),if_pos rfl];exact hww.symm)]at this
   simp[t5,t1,t11,t12,t13,hd,a1,a2',qe,<-hm1,s1,l2,b1',hx',ixi,w1,ni]
   exact hk hil _ _ ⟨w2',by simp[t5],by simp[t1],by simp[t11],by simp[t12],by simp⟩
  have hA':0<=na/\na<i:=by
   by_cases h3:3<=op/\op<=5
   .have:=of_decide_eq_true ((QE (k:=l.length) (i:=i) (n:=⟨op,val,na,nb⟩) h3.1 h3.2) ▸ hokn)
    exact⟨this.1,this.2.1⟩
   .have:=of_decide_eq_true ((yV (k:=l.length) (i:=i) (n:=⟨op,val,na,nb⟩) h1 h2 h3) ▸ hokn)
    exact⟨this.1,this.2.1⟩
  obtain⟨A,rfl⟩:∃A:Nat,na=A:=⟨na.toNat,by omega⟩
  have hA:A<i:=by omega
  obtain⟨x,hx⟩:=qhd (dV l e A)
  have hxl:x<18446744073709551616:=by rw[hx];exact Jm l e A
  have hgA:(evV l e i).getD A 0=x:=by rw[hx];exact Zp l e hA
  have ixA:=ix A (by omega)
  have gA:∀s,load1 m2 ⟨m.n,A,s⟩=some (uv x):=λs=>by rw[g2,Zr (by omega),hgA]
  by_cases h3:3<=op/\op<=5
  .have hv:xH l (evV l e i) ⟨op,val,(A:Int),nb⟩=bl op x:=by
    unfold xH
    rw[if_neg h1,if_neg h2,if_pos h3.2]
    show bl op ((evV l e i).getD (Int.toNat (A:Int)) 0)=_
    rw[qh1,hgA]
   obtain⟨v3,m3',c1,c2,c3,rfl⟩:=wq (one_c N op hxl (qc m2))
   obtain⟨m3,hm3⟩:=qhd (behind m2 m3')
   rw[<-hm3]at c3
   have st3:=s2'.step c3
   obtain⟨y,hy⟩:=qhd (bl op x)
   rw[<-hy]at c1 hv
   obtain⟨m4',w1,w1',w2,w3,w4⟩:=st3.storeAny 1 rfl (o:=i) (v:=uv y) hgl rfl
   obtain⟨m4,hm4⟩:=qhd (behind m3 m4')
   rw[<-hm4]at w2
   have w2':St m m4 [(m.n,grR (evV l e (i+1)) n)]:=by
    have:=w2.sub (σ':=[(m.n,(grR (evV l e i) n).set i (uv y))]) (by simp) (by simp)
    rwa [hset y hv.symm]at this
   have h5:(op<=5)=True:=eq_true h3.2
   simp[t5,t1,t11,t12,t13,hd,a1,a2',qe,<-hm1,s1,l2,h1,h2,h5,ixi,ixA,gA,c1,<-hm3,w1,<-hm4,ni]
   exact hk hil _ _ ⟨w2',by simp[t5],by simp[t1],by simp[t11],by simp[t12],by simp⟩
  have hkk:=of_decide_eq_true ((yV (k:=l.length) (i:=i) (n:=⟨op,val,(A:Int),nb⟩) h1 h2 h3) ▸ hokn)
  obtain⟨-,-,hb0,hbi,h6,h19,-⟩:=hkk
  simp only at hb0 hbi h6 h19
  obtain⟨B,rfl⟩:∃B:Nat,nb=B:=⟨nb.toNat,by omega⟩
  have hB:B<i:=by omega
  obtain⟨y,hy⟩:=qhd (dV l e B)
  have hyl:y<18446744073709551616:=by rw[hy];exact Jm l e B
  have hgB:(evV l e i).getD B 0=y:=by rw[hy];exact Zp l e hB
  have ixB:=ix B (by omega)
  have gB:∀s,load1 m2 ⟨m.n,B,s⟩=some (uv y):=λs=>by rw[g2,Zr (by omega),hgB]
  have hv:xH l (evV l e i) ⟨op,val,(A:Int),(B:Int)⟩=zC op x y:=by
   unfold xH
   rw[if_neg h1,if_neg h2,if_neg (by show ¬op<=5;omega)]
   show zC op ((evV l e i).getD (Int.toNat (A:Int)) 0) ((evV l e i).getD (Int.toNat (B:Int)) 0)=_
   rw[qh1,qh1,hgA,hgB]
  obtain⟨v3,m3',c1,c2,c3,rfl⟩:=wq (two_c N op hxl hyl (qc m2))
  obtain⟨m3,hm3⟩:=qhd (behind m2 m3')
  rw[<-hm3]at c3
  have st3:=s2'.step c3
  obtain⟨z,hz⟩:=qhd (zC op x y)
  rw[<-hz]at c1 hv
  obtain⟨m4',w1,w1',w2,w3,w4⟩:=st3.storeAny 1 rfl (o:=i) (v:=uv z) hgl rfl
  obtain⟨m4,hm4⟩:=qhd (behind m3 m4')
  rw[<-hm4]at w2
  have w2':St m m4 [(m.n,grR (evV l e (i+1)) n)]:=by
   have:=w2.sub (σ':=[(m.n,(grR (evV l e i) n).set i (uv z))]) (by simp) (by simp)
   rwa [hset z hv.symm]at this
  have h5:(op<=5)=False:=eq_false (by omega)
  simp[t5,t1,t11,t12,t13,hd,a1,a2',qe,<-hm1,s1,l2,h1,h2,h5,ixi,ixA,gA,ixB,gB,c1,<-hm3,w1,<-hm4,ni]
  exact hk hil _ _ ⟨w2',by simp[t5],by simp[t1],by simp[t11],by simp[t12],by simp⟩
 .obtain rfl:i=n:=by omega
  have hd:((i:Int)<(i:Int))=False:=eq_false (by omega)
  have hs:IntKind.i64.wrap ((i:Int)-1)=((i-1:Nat):Int):=by rw[wrap64 _ (by omega) (by omega)];omega
  have hevl:=yT l e i
  have ixi:=yg (e:=1) (c:=3) m.n i (i-1) (by omega)
  rw[Nat.mul_one]at ixi
  have gg:∀s,load1 m' ⟨m.n,i-1,s⟩=some (uv (dV l e (i-1))):=λs=>by rw[(st.get 0 rfl).2.2.load1,Zr (by omega),Zp l e (by omega)]
  simp[t5,t1,t11,t12,t13,hd,za,hs,ixi,gg]
  exact qp st.ext (by simp)
end Go.Sx
namespace Go.Sx
open Go.Dx Go.Proofs
def rgR (n:Nat)(f:Nat->Value):List Value:=(List.range n).map f
theorem FJ (n:Nat)(f:Nat->Value):(rgR n f).length=n:=by unfold rgR;simp
theorem Jb {n j:Nat}(f:Nat->Value)(h:j<n):(rgR n f)[j]?=some (f j):=by unfold rgR;rw[qh4,List.getElem?_range h];rfl
theorem FK {n j:Nat}{f g:Nat->Value}{v:Value}(hne:∀k,k≠j->g k=f k)(hj:g j=v):(rgR n f).set j v=rgR n g:=by
 refine List.ext_getElem (by simp[rgR]) λi h1 h2=>?_
 rw[List.getElem_set]
 by_cases h:j=i
 .subst h;rw[if_pos rfl];simp[rgR,hj]
 .rw[if_neg h];simp[rgR,hne i (Ne.symm h)]
theorem qf1 (n:Nat)(v:Value):((List.range n).flatMap λ_=>[v])=rgR n λ_=>v:=by
 unfold rgR
 induction n with
 | zero=>rfl
 | succ n ih=>rw[List.range_succ,List.flatMap_append,ih,List.map_append];rfl
theorem qfh (n:Nd)(j:Nat):bI n j<=2:=by unfold bI;split<;>split<;>omega
theorem Qu (e:List Nd)(j:Nat):∀i,zi e i j<=2*i
 | 0=>by unfold zi;simp
 | i+1=>by
  cases h:e[i]? with
  | some n=>rw[yS h];have:=Qu e j i;have:=qfh n j;omega
  | none =>
   have hl:=List.getElem?_eq_none_iff.1 h
   have:=Qu e j i
   unfold zi at this ⊢
   rw[List.take_of_length_le (by omega)]at this ⊢
   omega
theorem XO {op:Int}{val:U}{A B:Nat}(h:6<=op)(j:Nat):bI ⟨op,val,(A:Int),(B:Int)⟩ j=(if A=j then 1 else 0)+(if B=j then 1 else 0):=by
 unfold bI
 have e1:(3<=op/\(A:Int)=(j:Int))=(A=j):=by apply propext;omega
 have e2:(6<=op/\(B:Int)=(j:Int))=(B=j):=by apply propext;omega
 simp only[e1,e2]
theorem qd2 {op nb:Int}{val:U}{A:Nat}(h:3<=op)(h':¬6<=op)(j:Nat):bI ⟨op,val,(A:Int),nb⟩ j=if A=j then 1 else 0:=by
 unfold bI
 have e1:(3<=op/\(A:Int)=(j:Int))=(A=j):=by apply propext;omega
 simp only[e1]
 have e2:(6<=op/\nb=(j:Int))=False:=eq_false λhc=>h' hc.1
 simp only[e2,if_false,Nat.add_zero]
theorem BB {op na nb:Int}{val:U}(h:¬3<=op)(j:Nat):bI ⟨op,val,na,nb⟩ j=0:=by
 unfold bI
 have e1:(3<=op/\na=(j:Int))=False:=eq_false λhc=>h hc.1
 have e2:(6<=op/\nb=(j:Int))=False:=eq_false λhc=>h (by have:=hc.1;omega)
 simp only[e1,e2,if_false,Nat.add_zero]
set_option maxRecDepth 10000 in
theorem once_c (k:Nat)(e:List Nd)(ed:Value)(hlen:e.length<=65536)(h0:0<e.length)(hok:∀(i:Nat) n,e[i]?=some n->okN k i n=true)(N:Nat)(m:M)(hm:m.base<=m.n)(hed:Rd m ed 4 qP e) :
  CallV (ex Tryz.prog (N+1)) 80 [ed] m (.bool (wU k e)):=by
 refine qy df6_ok (by simp) ?_
 obtain⟨n,hn⟩:=qhd (e.length)
 rw[<-hn]at hlen h0
 obtain⟨n1,hn1⟩:∃n1,n=n1+1:=⟨n-1,by omega⟩
 have mk:=bg (n:=n) (e:=1) (bytes:=8) (zs:=[zI]) rfl (by omega) (by unfold most;omega) (by omega) m
 rw[qf1]at mk
 have hz:rgR n (λ_=>zI)=rgR n λj=>iv (zi e 0 j):=rfl
 rw[hz]at mk
 have st1:=(St.nil hm (Ext.refl m)).row (rgR n λj=>iv (zi e 0 j))
 obtain⟨m1,hm1⟩:=qhd (Dx.newRow m (rgR n λj=>iv (zi e 0 j)))
 rw[<-hm1]at st1 mk
 have hll:za ed=some (.int .i64 (n:Int)):=by rw[hn];exact hed.len
 have ix:∀j,j<n->wZ 1 (.slice (some ⟨m.n,0,some 3⟩) n n) (.int .i64 (j:Int))=some (.pointer (some ⟨m.n,j,none⟩)):=λj hj=>by have:=yg (e:=1) (c:=3) m.n n j hj;rwa [Nat.mul_one]at this
 simp[hll,mk]
 refine qR (c:=qa2) rfl (Ret m _) (λi t m'=>St m m' [(m.n,rgR n λj=>iv (zi e i j))]/\Tm.get 3 t=.slice (some ⟨m.n,0,some 3⟩) n n/\Tm.get 0 t=ed/\Tm.get 11 t=ed/\Tm.get 12 t=iv n/\Tm.get 13 t=iv i) n (by omega)
  ⟨st1,by simp;rfl,by simp,by simp,by simp,by simp⟩ (λi t m' k' hi hI hk=>?_)
 obtain⟨st,t3,t0,t11,t12,t13⟩:=hI
 by_cases hil:i<n
 .have hd:=dlt hil
  obtain⟨nd,hnd⟩:∃r,e[i]?=some r:=⟨_,qgn (by omega)⟩
  have hokn:=hok i nd hnd
  have hsucc:=yS hnd
  have ⟨a1,a2,_⟩:=hed.at hnd
  have a2':=a2 m' st.sees
  have st1:=st.row [zI,zU,zI,zI]
  obtain⟨m1,hm1⟩:=qhd (Dx.newRow m' [zI,zU,zI,zI])
  rw[<-hm1]at st1
  obtain⟨m2,s1,s2,s3,s4⟩:=st1.fill 0 rfl (n:=4) (l':=qP nd) rfl rfl (by simp[qP,okC])
  have s2':St m m2 [(m'.n,qP nd),(m.n,rgR n λj=>iv (zi e i j))]:=s2
  have l2:∀o s,load1 m2 ⟨m'.n,o,s⟩=(qP nd)[o]?:=λo s=>(s2'.get 0 rfl).2.2.load1 o s
  have g2:∀o s,load1 m2 ⟨m.n,o,s⟩=(rgR n λj=>iv (zi e i j))[o]?:=λo s=>(s2'.get 1 rfl).2.2.load1 o s
  have ni:=wL (i:=i) (by omega)
  obtain⟨op,val,na,nb⟩:=nd
  simp only[qP]at a2' s1 l2
  have S2:=s2'.sees
  by_cases h3:3<=op
  .have hA':0<=na/\na<i:=by
    by_cases h3:3<=op/\op<=5
    .have:=of_decide_eq_true ((QE (k:=k) (i:=i) (n:=⟨op,val,na,nb⟩) h3.1 h3.2) ▸ hokn)
     exact⟨this.1,this.2.1⟩
    .have:=of_decide_eq_true ((yV (k:=k) (i:=i) (n:=⟨op,val,na,nb⟩) (show ¬op=1 by omega) (show ¬op=2 by omega) h3) ▸ hokn)
     exact⟨this.1,this.2.1⟩
   obtain⟨A,rfl⟩:∃A:Nat,na=A:=⟨na.toNat,by omega⟩
   have hA:A<i:=by omega
   have ixA:=ix A (by omega)
   have gA:∀s,load1 m2 ⟨m.n,A,s⟩=some (iv (zi e i A)):=λs=>by rw[g2,Jb _ (by omega)]
   have nA:=wL (i:=zi e i A) (by have:=Qu e A i;omega)
   obtain⟨cA,hcA⟩:=qhd (zi e i A)
   rw[<-hcA]at gA nA
   obtain⟨cA1,hcA1⟩:=qhd (cA+1)
   rw[<-hcA1]at nA
   obtain⟨m3,w1,w2,w3,w4⟩:=s2'.store 1 rfl (o:=A) (v:=iv (cA1:Int)) (by rw[FJ];omega) rfl
   rw[FK (g:=λj=>iv (zi e i j+(if A=j then 1 else 0):Nat)) (λq hq=>by simp[Ne.symm hq]) (by simp[hcA1,hcA])]at w2
   have w2':St m m3 [(m'.n,qP ⟨op,val,(A:Int),nb⟩),(m.n,rgR n λj=>iv (zi e i j+(if A=j then 1 else 0):Nat))]:=w2
   have l3:∀o s,load1 m3 ⟨m'.n,o,s⟩=(qP ⟨op,val,(A:Int),nb⟩)[o]?:=λo s=>(w2'.get 0 rfl).2.2.load1 o s
   simp only[qP]at l3
   by_cases h6:6<=op
   .have hkk:=of_decide_eq_true ((yV (k:=k) (i:=i) (n:=⟨op,val,(A:Int),nb⟩) (show ¬op=1 by omega) (show ¬op=2 by omega) (show ¬(3<=op/\op<=5) by omega)) ▸ hokn)
    obtain⟨-,-,hb0,hbi,-,h19,-⟩:=hkk
    simp only at hb0 hbi h19
    obtain⟨B,rfl⟩:∃B:Nat,nb=B:=⟨nb.toNat,by omega⟩
    have hB:B<i:=by omega
    have ixB:=ix B (by omega)
    obtain⟨cB,hcB⟩:=qhd (zi e i B+(if A=B then 1 else 0))
    have gB:∀s,load1 m3 ⟨m.n,B,s⟩=some (iv cB):=λs=>by rw[hcB,(w2'.get 1 rfl).2.2.load1,Jb _ (by omega)]
    have nB:=wL (i:=cB) (by rw[hcB];have:=Qu e B i;split<;>omega)
    obtain⟨cB1,hcB1⟩:=qhd (cB+1)
    rw[<-hcB1]at nB
    obtain⟨m4,x1,x2,x3,x4⟩:=w2'.store 1 rfl (o:=B) (v:=iv (cB1:Int)) (by rw[FJ];omega) rfl
    rw[FK (g:=λj=>iv (zi e (i+1) j)) (λq hq=>by rw[hsucc,XO h6,if_neg (Ne.symm hq),Nat.add_zero]) (by rw[hsucc,XO h6,if_pos rfl,hcB1,hcB,Nat.add_assoc])]at x2
    have x2':St m m4 [(m.n,rgR n λj=>iv (zi e (i+1) j))]:=x2.sub (by simp) (by simp)
    have e3:(3<=op)=True:=eq_true h3
    have e6:(6<=op)=True:=eq_true h6
    simp[t3,t0,t11,t12,t13,hd,a1,a2',qe,<-hm1,s1,l2,e3,ixA,gA,nA,w1,l3,e6,ixB,gB,nB,x1,ni]
    exact hk hil _ _ ⟨x2',by simp[t3],by simp[t0],by simp[t11],by simp[t12],by simp⟩
   .have e3:(3<=op)=True:=eq_true h3
    have e6:(6<=op)=False:=eq_false h6
    have hfe:(λj=>iv (zi e i j+(if A=j then 1 else 0):Nat))=λj=>iv (zi e (i+1) j):=funext λj=>by rw[hsucc,qd2 h3 h6]
    rw[hfe]at w2'
    have x2':St m m3 [(m.n,rgR n λj=>iv (zi e (i+1) j))]:=w2'.sub (by simp) (by simp)
    simp[t3,t0,t11,t12,t13,hd,a1,a2',qe,<-hm1,s1,l2,e3,ixA,gA,nA,w1,l3,e6,ni]
    exact hk hil _ _ ⟨x2',by simp[t3],by simp[t0],by simp[t11],by simp[t12],by simp⟩
  .have e3:(3<=op)=False:=eq_false h3
   have e6:(6<=op)=False:=eq_false (by omega)
   have hfe:(λj=>iv (zi e i j))=λj=>iv (zi e (i+1) j):=funext λj=>by rw[hsucc,BB h3,Nat.add_zero]
   rw[hfe]at s2'
   have x2':St m m2 [(m.n,rgR n λj=>iv (zi e (i+1) j))]:=s2'.sub (by simp) (by simp)
   simp[t3,t0,t11,t12,t13,hd,a1,a2',qe,<-hm1,s1,l2,e3,e6,ni]
   exact hk hil _ _ ⟨x2',by simp[t3],by simp[t0],by simp[t11],by simp[t12],by simp⟩
 .obtain rfl:i=n:=by omega
  have hd:((i:Int)<(i:Int))=False:=eq_false (by omega)
  simp[t3,t0,t11,t12,t13,hd,za]
  obtain⟨c,hc⟩:=qhd (λj=>zi e i j)
  have hcj:∀j,zi e i j=c j:=λj=>by rw[hc]
  have gg:∀j s,j<i->load1 m' ⟨m.n,j,s⟩=some (iv (c j)):=λj s hj=>by rw[(st.get 0 rfl).2.2.load1,Jb _ hj,hcj]
  refine qR (c:=qa3) rfl (Ret m _) (λj t m2=>m2=m'/\(∀q,q<j->c q=if q<i-1 then 1 else 0)/\Tm.get 0 t=ed/\Tm.get 38 t=.slice (some ⟨m.n,0,some 3⟩) i i/\Tm.get 39 t=iv i/\Tm.get 40 t=iv j) i (by omega)
   ⟨rfl,λq hq=>absurd hq (Nat.not_lt_zero _),by simp[t0],by simp[t3],by simp,by simp⟩ (λj t m2 k2 hj hJ hk2=>?_)
  obtain⟨rfl,hq,t0,t38,t39,t40⟩:=hJ
  by_cases hji:j<i
  .have hd:=dlt hji
   have ixj:=ix j hji
   have gj:=λs=>gg j s hji
   have nj:=wL (i:=j) (by omega)
   have hs:IntKind.i64.wrap ((i:Int)-1)=(n1:Int):=by rw[wrap64 _ (by omega) (by omega)];omega
   have hfin:c j≠(if j<i-1 then 1 else 0)->wU k e=false:=λh=>GE (j:=j) (by omega) (by rw[<-hn,hcj];exact h)
   obtain⟨cj,hcjj⟩:=qhd (c j)
   rw[<-hcjj]at gj hfin
   by_cases hj1:j<n1
   .have hd1:=dlt hj1
    rw[if_pos (by omega)]at hfin
    by_cases h1:cj=1
    .subst h1
     simp[t0,t38,t39,t40,hd,ixj,gj,hll,hs,hd1,hj1,nj]
     exact hk2 hji _ _ ⟨rfl,λq hq'=>by
      by_cases hqj:q=j
      .subst hqj;rw[if_pos (by omega),<-hcjj]
      .exact hq q (by omega),by simp[t0],by simp[t38],by simp[t39],by simp⟩
    .have h1':((cj:Int)=1)=False:=eq_false (by omega)
     rw[hfin h1]
     simp[t0,t38,t39,t40,hd,ixj,gj,hll,hs,hd1,hj1,h1,h1',nj]
     exact qp st.ext (by simp)
   .have hd1:((j:Int)<(n1:Int))=False:=eq_false (by omega)
    rw[if_neg (by omega)]at hfin
    by_cases h1:cj=0
    .subst h1
     simp[t0,t38,t39,t40,hd,ixj,gj,hll,hs,hd1,hj1,nj]
     exact hk2 hji _ _ ⟨rfl,λq hq'=>by
      by_cases hqj:q=j
      .subst hqj;rw[if_neg (by omega),<-hcjj]
      .exact hq q (by omega),by simp[t0],by simp[t38],by simp[t39],by simp⟩
    .rw[hfin h1]
     by_cases h2:cj=1
     .subst h2
      simp[t0,t38,t39,t40,hd,ixj,gj,hll,hs,hd1,hj1,nj]
      exact qp st.ext (by simp)
     .have h2':((cj:Int)=1)=False:=eq_false (by omega)
      have h2'':((1:Int)<(cj:Int))=True:=eq_true (by omega)
      have h2''':(1<cj)=True:=eq_true (by omega)
      simp[t0,t38,t39,t40,hd,ixj,gj,hll,hs,hd1,hj1,h2,h2',h2'',h2''',nj]
      exact qp st.ext (by simp)
  .obtain rfl:j=i:=by omega
   have hd:((j:Int)<(j:Int))=False:=eq_false (by omega)
   have hT:wU k e=true:=by
    refine VP (by omega) (by omega) hok (λq hq'=>?_) (λq=>?_)
    .rw[<-hn,hcj,hq q (by omega),if_pos (by omega)];omega
    .rw[<-hn,hcj]
     by_cases hqj:q<j
     .rw[hq q hqj];split<;>omega
     .have:∀i',i'<=e.length->zi e i' q=0:=by
       intro i'
       induction i' with
       | zero=>intro _;rfl
       | succ i' ih =>
        intro hi'
        have hg:e[i']?=some e[i']:=qgn (by omega)
        rw[yS hg,ih (by omega),FZ (hok i' _ hg) (by omega)]
      rw[<-hcj,hn,this _ (qgq _)];omega
   rw[hT]
   simp[t0,t38,t39,t40,hd]
   exact qp st.ext (by simp)
end Go.Sx
namespace Go.Sx
open Go.Dx Go.Proofs
set_option maxRecDepth 10000
theorem qam {x:Ex}{kn kr:K}{ke:Nat->K}{t:Tm}{m:M}{nd:Nd}{i X:Nat}(l2:∀o s,load1 m ⟨X,o,s⟩=(qP nd)[o]?)(t6:Tm.get 6 t=.pointer (some ⟨X,0,none⟩))(t5:Tm.get 5 t=iv i){Q:Option Out->Prop}
  (H:∀t',Tm.get 7 t'=.bool (decide (0<=nd.a)&&decide (nd.a<i))->Tm.get 8 t'=.bool (decide (0<=nd.b)&&decide (nd.b<i))->Tm.get 6 t'=Tm.get 6 t->Tm.get 0 t'=Tm.get 0 t->Tm.get 1 t'=Tm.get 1 t->Tm.get 9 t'=Tm.get 9 t->Tm.get 10 t'=Tm.get 10 t->Tm.get 11 t'=Tm.get 11 t->Q (kn t' m)) :
  Q (wo qbb x kn ke kr t m):=by
 obtain⟨op,val,na,nb⟩:=nd
 simp only[qP]at l2
 simp only at H
 by_cases h1:0<=na
 .have e1:(0<=na)=True:=eq_true h1
  by_cases h2:0<=nb
  .have e2:(0<=nb)=True:=eq_true h2
   simp[l2,t6,t5,e1,e2]
   exact H _ (by simp[e1]) (by simp[e2]) (by simp) (by simp) (by simp) (by simp) (by simp) (by simp)
  .have e2:(0<=nb)=False:=eq_false h2
   simp[l2,t6,t5,e1,e2]
   exact H _ (by simp[e1]) (by simp[e2]) (by simp) (by simp) (by simp) (by simp) (by simp) (by simp)
 .have e1:(0<=na)=False:=eq_false h1
  by_cases h2:0<=nb
  .have e2:(0<=nb)=True:=eq_true h2
   simp[l2,t6,t5,e1,e2]
   exact H _ (by simp[e1]) (by simp[e2]) (by simp) (by simp) (by simp) (by simp) (by simp) (by simp)
  .have e2:(0<=nb)=False:=eq_false h2
   simp[l2,t6,t5,e1,e2]
   exact H _ (by simp[e1]) (by simp[e2]) (by simp) (by simp) (by simp) (by simp) (by simp) (by simp)
theorem GD {x:Ex}{kn kr:K}{ke:Nat->K}{t:Tm}{m:M}{nd:Nd}{k i X:Nat}(hk:k<1000000)(l2:∀o s,load1 m ⟨X,o,s⟩=(qP nd)[o]?)(t6:Tm.get 6 t=.pointer (some ⟨X,0,none⟩))(t1:Tm.get 1 t=iv k)
  (t7:Tm.get 7 t=.bool (decide (0<=nd.a)&&decide (nd.a<i))) (t8:Tm.get 8 t=.bool (decide (0<=nd.b)&&decide (nd.b<i))) {Q:Option Out->Prop}
  (H:∀t' a b,Tm.get 7 t'=.bool a->Tm.get 8 t'=.bool b->(a&&b)=okN k i nd->Tm.get 0 t'=Tm.get 0 t->Tm.get 1 t'=Tm.get 1 t->Tm.get 9 t'=Tm.get 9 t->Tm.get 10 t'=Tm.get 10 t->Tm.get 11 t'=Tm.get 11 t->Q (kn t' m)) :
  Q (DX x kn ke kr t m):=by
 obtain⟨op,val,na,nb⟩:=nd
 simp only[qP]at l2
 simp only at t7 t8
 obtain⟨a,ha⟩:=qhd ((decide (0<=na)&&decide (na<i)))
 obtain⟨b,hb⟩:=qhd ((decide (0<=nb)&&decide (nb<i)))
 rw[<-ha]at t7
 rw[<-hb]at t8
 have cv:=vd k hk
 by_cases h1:op=1
 .subst h1
  simp[l2,t6]
  exact H _ _ _ (by simp;rfl) (by simp;rfl) (by rw[qej rfl];simp) (by simp) (by simp) (by simp) (by simp) (by simp)
 by_cases h2:op=2
 .subst h2
  by_cases h3:na=0
  .subst h3
   simp[l2,t6,t1,cv]
   exact H _ _ _ (by simp;rfl) (by simp;rfl) (by rw[ZM rfl];simp) (by simp) (by simp) (by simp) (by simp) (by simp)
  .simp[l2,t6,t1,h3,cv]
   exact H _ _ _ (by simp;rfl) (by simp;rfl) (by rw[ZM rfl];simp[h3]) (by simp) (by simp) (by simp) (by simp) (by simp)
 by_cases h3:3<=op
 .have e3:(3<=op)=True:=eq_true h3
  by_cases h5:op<=5
  .have e5:(op<=5)=True:=eq_true h5
   by_cases h4:nb=0
   .subst h4
    simp[l2,t6,h1,h2,e3,e5]
    exact H _ a (decide (val.1=0)) (by simp[t7]) (by simp) (by
     rw[QE h3 h5,ha,<-Bool.decide_and,<-Bool.decide_and];exact decide_eq_decide.2 (by simp[and_assoc])) (by simp) (by simp) (by simp) (by simp) (by simp)
   .simp[l2,t6,h1,h2,e3,e5,h4]
    exact H _ a false (by simp[t7]) (by simp) (by rw[QE h3 h5];simp[h4]) (by simp) (by simp) (by simp) (by simp) (by simp)
  .have e5:(op<=5)=False:=eq_false h5
   have hno:=yV (k:=k) (i:=i) (n:=⟨op,val,na,nb⟩) h1 h2 (show ¬(3<=op/\op<=5) by omega)
   simp only at hno
   have e6:(6<=op)=True:=eq_true (by omega)
   cases b with
   | false =>
    simp[l2,t6,t8,h1,h2,e3,e5]
    exact H _ a false (by simp[t7]) (by simp) (by
     rw[hno,Bool.and_false]
     refine (decide_eq_false λhc=>?_).symm
     rw[decide_eq_true hc.2.2.1,decide_eq_true hc.2.2.2.1]at hb
     cases hb) (by simp) (by simp) (by simp) (by simp) (by simp)
   | true =>
    have hb':0<=nb/\nb<i:=by
     have:=hb.symm
     rw[qgt]at this
     exact⟨of_decide_eq_true this.1,of_decide_eq_true this.2⟩
    by_cases h19:op<=19
    .have e19:(op<=19)=True:=eq_true h19
     simp[l2,t6,t8,h1,h2,e3,e5,e6,e19]
     exact H _ a (decide (val.1=0)) (by simp[t7]) (by simp) (by
      rw[hno,ha,<-Bool.decide_and,<-Bool.decide_and];exact decide_eq_decide.2 ⟨λh=>⟨h.1.1,h.1.2,hb'.1,hb'.2,by omega,h19,h.2⟩,λh=>⟨⟨h.1,h.2.1⟩,h.2.2.2.2.2.2⟩⟩) (by simp) (by simp) (by simp) (by simp) (by simp)
    .have e19:(op<=19)=False:=eq_false h19
     simp[l2,t6,t8,h1,h2,e3,e5,e6,e19]
     exact H _ a false (by simp[t7]) (by simp) (by rw[hno,Bool.and_false];exact (decide_eq_false λhc=>h19 hc.2.2.2.2.2.1).symm) (by simp) (by simp) (by simp) (by simp) (by simp)
 .have e3:(3<=op)=False:=eq_false h3
  have e6:(6<=op)=False:=eq_false (by omega)
  have hno:=yV (k:=k) (i:=i) (n:=⟨op,val,na,nb⟩) h1 h2 (show ¬(3<=op/\op<=5) by omega)
  simp only at hno
  have hF:okN k i ⟨op,val,na,nb⟩=false:=by rw[hno];exact decide_eq_false λhc=>by have:=hc.2.2.2.2.1;omega
  cases b with
  | false =>
   simp[l2,t6,t8,h1,h2,e3]
   exact H _ a false (by simp[t7]) (by simp) (by rw[hF,Bool.and_false]) (by simp) (by simp) (by simp) (by simp) (by simp)
  | true =>
   simp[l2,t6,t8,h1,h2,e3,e6]
   exact H _ a false (by simp[t7]) (by simp) (by rw[hF,Bool.and_false]) (by simp) (by simp) (by simp) (by simp) (by simp)
theorem vE (k:Nat)(hk:k<1000000)(e:List Nd)(ed:Value)(hle:e.length<=9223372036854775807)(N:Nat)(m:M)(hm:m.base<=m.n)(hed:Rd m ed 4 qP e) :
  CallV (ex Tryz.prog (N+2)) 55 [ed,iv k] m (.bool (wU k e)):=by
 refine qy de4_ok (by simp) ?_
 obtain⟨n,hn⟩:=qhd (e.length)
 have hll:za ed=some (.int .i64 (n:Int)):=by rw[hn];exact hed.len
 simp[hll]
 refine qR (c:=DW) rfl (Ret m _) (λi t m'=>St m m' []/\(∀(j:Nat) nd,j<i->e[j]?=some nd->okN k j nd=true)/\Tm.get 0 t=ed/\Tm.get 1 t=iv k/\Tm.get 9 t=ed/\Tm.get 10 t=iv n/\Tm.get 11 t=iv i) n (by omega)
  ⟨St.nil hm (Ext.refl m),λj nd hj=>absurd hj (Nat.not_lt_zero _),by simp,by simp,by simp,by simp,by simp⟩ (λi t m' k' hi hI hk'=>?_)
 obtain⟨st,hok,t0,t1,t9,t10,t11⟩:=hI
 by_cases hil:i<n
 .have hd:=dlt hil
  obtain⟨nd,hnd⟩:∃r,e[i]?=some r:=⟨_,qgn (by omega)⟩
  have ⟨a1,a2,_⟩:=hed.at hnd
  have a2':=a2 m' st.sees
  have st1:=st.row [zI,zU,zI,zI]
  obtain⟨m1,hm1⟩:=qhd (Dx.newRow m' [zI,zU,zI,zI])
  rw[<-hm1]at st1
  obtain⟨m2,s1,s2,s3,s4⟩:=st1.fill 0 rfl (n:=4) (l':=qP nd) rfl rfl (by simp[qP,okC])
  have s2':St m m2 [(m'.n,qP nd)]:=s2
  have l2:∀o s,load1 m2 ⟨m'.n,o,s⟩=(qP nd)[o]?:=λo s=>(s2'.get 0 rfl).2.2.load1 o s
  have s2'':St m m2 []:=s2'.sub (by simp) (by simp)
  have ni:=wL (i:=i) (by omega)
  simp[t0,t1,t9,t10,t11,hd,a1,a2',qe,<-hm1,s1,-qf7,-Gu]
  refine qam (i:=i) l2 (by simp) (by simp[t11]) (λt' u7 u8 u6 u0 u1 u9 u10 u11=>?_)
  simp[-DY]
  refine GD (i:=i) (k:=k) (X:=m'.n) hk l2 (by simp[u6]) (by simp[u1,t1]) u7 u8 (λt'' a b w7 w8 hab w0 w1 w9 w10 w11=>?_)
  simp[t0,t1,t9,t10,t11]at u0 u1 u9 u10 u11
  rw[u0]at w0;rw[u1]at w1;rw[u9]at w9;rw[u10]at w10;rw[u11]at w11
  cases hokn:okN k i nd with
  | true =>
   rw[hokn]at hab
   rw[qgt]at hab
   obtain⟨rfl,rfl⟩:=hab
   simp[w7,w8,w0,w1,w9,w10,w11,ni]
   exact hk' hil _ _ ⟨s2'',λj nd' hj hnd'=>by
    by_cases hji:j=i
    .subst hji;rw[hnd]at hnd';cases hnd';exact hokn
    .exact hok j nd' (by omega) hnd',by simp[w0],by simp[w1],by simp[w9],by simp[w10],by simp⟩
  | false =>
   rw[hokn]at hab
   rw[qan hnd hokn]
   cases a with
   | false =>
    simp[w7,w8,w0,w1,w9,w10,w11,ni]
    exact qp s2''.ext (by simp)
   | true =>
    rw[Bool.true_and]at hab
    subst hab
    simp[w7,w8,w0,w1,w9,w10,w11,ni]
    exact qp s2''.ext (by simp)
 .obtain rfl:i=n:=by omega
  have hd:((i:Int)<(i:Int))=False:=eq_false (by omega)
  by_cases hi0:i=0
  .subst hi0
   rw[VN hn.symm]
   simp[t0,t1,t9,t10,t11,hd,hll]
   exact qp st.ext (by simp)
  .have hd0:((0:Int)<(i:Int))=True:=eq_true (by omega)
   have hd0':(0<i)=True:=eq_true (by omega)
   by_cases hil':i<=65536
   .have e1:((i:Int)<=65536)=True:=eq_true (by omega)
    obtain⟨v3,m3,c1,c2,rfl⟩:=once_c k e ed (by omega) (by omega) (λj nd hnd=>hok j nd (by have:=(qgp.1 hnd).1;omega) hnd) N m' st.sees.base (hed.sees st.sees)
    simp[t0,t1,t9,t10,t11,hd,hll,hd0,hd0',e1,c1]
    exact qp (st.ext.trans c2) (by simp)
   .have e1:((i:Int)<=65536)=False:=eq_false (by omega)
    rw[VO (by omega)]
    simp[t0,t1,t9,t10,t11,hd,hll,hd0,hd0',e1]
    exact qp st.ext (by simp)
end Go.Sx
namespace Go.Sx
open Go.Dx Go.Proofs
set_option maxRecDepth 10000
end Go.Sx
namespace Go.Dx
theorem zn {m0 m:M}{Q:Value->M->Prop}{t:Tm}{p n:Nat}{a:Addr}{l:List Value}(h1:Tm.get p t=.pointer (some a))(h2:loads m a n=some l)(he:Ext m0 m)(hq:Q (.agg ⟨l⟩) m):Ret m0 Q (kO [.cell p n] t m):=by
 refine dM (l:=[.agg ⟨l⟩]) ?_ he hq
 simp only[vT,gm,h1,yO,qS,h2]
end Go.Dx
namespace Go.Sx
open Go.Dx Go.Proofs
set_option maxRecDepth 10000
structure Ac where
 op:Int
 dst:Int
 base:Int
 size:Int
 ix:Value
 ev:Value
 fv:Value
 mode:Int
 to:Int
 line:Int
 col:Int
 ixs:List Nd
 es:List Nd
 fs:List Nd
def qd (a:Ac):List Value:=[iv a.op,iv a.dst,iv a.base,iv a.size,a.ix,a.ev,a.fv,iv a.mode,iv a.to,iv a.line,iv a.col]
structure AcOK (m:M)(a:Ac):Prop where
 ix:Rd m a.ix 4 qP a.ixs
 ev:Rd m a.ev 4 qP a.es
 fv:Rd m a.fv 4 qP a.fs
 ixl:a.ixs.length<=9223372036854775807
 evl:a.es.length<=9223372036854775807
 fvl:a.fs.length<=9223372036854775807
theorem AcOK.sees {m m':M}{a:Ac}(h:AcOK m a)(k:Sees m m'):AcOK m' a:=⟨h.ix.sees k,h.ev.sees k,h.fv.sees k,h.ixl,h.evl,h.fvl⟩
def pD (op:Int):Bool:=decide (op=1\/op=2\/op=4\/op=5\/op=6)
def pP (op:Int):Bool:=decide (op=2\/op=3\/op=4\/op=5\/op=6)
def pE (op:Int):Bool:=decide (op=1\/op=3\/op=4\/op=5\/op=6\/op=8\/op=10)
def pF (op:Int):Bool:=decide (op=6)
def pT (op:Int):Bool:=decide (op=9\/op=10)
def jF (op mode:Int):Bool:=if op=2 then decide (mode=1\/mode=2\/mode=5) else if op=3 then decide (mode=1\/mode=3\/mode=5)
 else if op=4\/op=5\/op=6 then decide (1<=mode/\mode<=5) else if op=7 then decide (2<=mode/\mode<=5) else decide (mode=0)
theorem may_c (n:Nat)(op mode:Int)(m:M):CallV (ex Tryz.prog (n+1)) 52 [iv op,iv mode] m (.bool (jF op mode)):=by
 refine qy de1_ok (by simp) ?_
 have E:=Ext.refl m
 by_cases h2:op=2
 .subst h2
  by_cases q1:mode=1
  .subst q1;simp;exact qp E (by simp[jF])
  by_cases q2:mode=2
  .subst q2;simp;exact qp E (by simp[jF])
  simp[q1,q2];exact qp E (by simp[jF,q1,q2])
 by_cases h3:op=3
 .subst h3
  by_cases q1:mode=1
  .subst q1;simp;exact qp E (by simp[jF])
  by_cases q2:mode=3
  .subst q2;simp;exact qp E (by simp[jF])
  simp[q1,q2];exact qp E (by simp[jF,q1,q2])
 by_cases h4:op=4
 .subst h4
  by_cases q1:1<=mode
  .have q1':(1<=mode)=True:=eq_true q1
   simp[q1'];exact qp E (by simp[jF,q1'])
  .have q1':(1<=mode)=False:=eq_false q1
   simp[q1'];exact qp E (by simp[jF,q1'])
 by_cases h5:op=5
 .subst h5
  by_cases q1:1<=mode
  .have q1':(1<=mode)=True:=eq_true q1
   simp[q1'];exact qp E (by simp[jF,q1'])
  .have q1':(1<=mode)=False:=eq_false q1
   simp[q1'];exact qp E (by simp[jF,q1'])
 by_cases h6:op=6
 .subst h6
  by_cases q1:1<=mode
  .have q1':(1<=mode)=True:=eq_true q1
   simp[q1'];exact qp E (by simp[jF,q1'])
  .have q1':(1<=mode)=False:=eq_false q1
   simp[q1'];exact qp E (by simp[jF,q1'])
 by_cases h7:op=7
 .subst h7
  by_cases q1:2<=mode
  .have q1':(2<=mode)=True:=eq_true q1
   simp[q1'];exact qp E (by simp[jF,q1'])
  .have q1':(2<=mode)=False:=eq_false q1
   simp[q1'];exact qp E (by simp[jF,q1'])
 simp[h2,h3,h4,h5,h6,h7];exact qp E (by simp[jF,h2,h3,h4,h5,h6,h7])
def wG (op:Int):List Value:=[.bool (pD op),.bool (pP op),.bool (pE op),.bool (pF op),.bool (pT op)]
theorem pb3:qW [.bool false,.bool false,.bool false,.bool false,.bool false] [(0,1,.bool true),(2,1,.bool true)]=some (.agg ⟨[.bool true,.bool false,.bool true,.bool false,.bool false]⟩):=rfl
theorem pb4:qW [.bool false,.bool false,.bool false,.bool false,.bool false] [(0,1,.bool true),(1,1,.bool true)]=some (.agg ⟨[.bool true,.bool true,.bool false,.bool false,.bool false]⟩):=rfl
theorem pb5:qW [.bool false,.bool false,.bool false,.bool false,.bool false] [(1,1,.bool true),(2,1,.bool true)]=some (.agg ⟨[.bool false,.bool true,.bool true,.bool false,.bool false]⟩):=rfl
theorem pb6:qW [.bool false,.bool false,.bool false,.bool false,.bool false] [(0,1,.bool true),(1,1,.bool true),(2,1,.bool true)]=some (.agg ⟨[.bool true,.bool true,.bool true,.bool false,.bool false]⟩):=rfl
theorem pb8:qW [.bool false,.bool false,.bool false,.bool false,.bool false] [(0,1,.bool true),(1,1,.bool true),(2,1,.bool true),(3,1,.bool true)]=some (.agg ⟨[.bool true,.bool true,.bool true,.bool true,.bool false]⟩):=rfl
theorem pb9:qW [.bool false,.bool false,.bool false,.bool false,.bool false] []=some (.agg ⟨[.bool false,.bool false,.bool false,.bool false,.bool false]⟩):=rfl
theorem pb10:qW [.bool false,.bool false,.bool false,.bool false,.bool false] [(2,1,.bool true)]=some (.agg ⟨[.bool false,.bool false,.bool true,.bool false,.bool false]⟩):=rfl
theorem pb11:qW [.bool false,.bool false,.bool false,.bool false,.bool false] [(4,1,.bool true)]=some (.agg ⟨[.bool false,.bool false,.bool false,.bool false,.bool true]⟩):=rfl
theorem pb12:qW [.bool false,.bool false,.bool false,.bool false,.bool false] [(2,1,.bool true),(4,1,.bool true)]=some (.agg ⟨[.bool false,.bool false,.bool true,.bool false,.bool true]⟩):=rfl
def zb:List Value:=[.bool false,.bool false,.bool false,.bool false,.bool false,.bool true,.bool false,.bool true,.bool false,.bool false,.bool true,.bool true,.bool false,.bool false,.bool false,.bool false,.bool true,.bool true,.bool false,.bool false,.bool true,.bool true,.bool true,.bool false,.bool false,.bool true,.bool true,.bool true,.bool false,.bool false,.bool true,.bool true,.bool true,.bool true,.bool false,.bool false,.bool false,.bool false,.bool false,.bool false,.bool false,.bool false,.bool true,.bool false,.bool false,.bool false,.bool false,.bool false,.bool false,.bool true,.bool false,.bool false,.bool true,.bool false,.bool true]
theorem pb13:qW [.bool false,.bool false,.bool false,.bool false,.bool false,.bool false,.bool false,.bool false,.bool false,.bool false,.bool false,.bool false,.bool false,.bool false,.bool false,.bool false,.bool false,.bool false,.bool false,.bool false,.bool false,.bool false,.bool false,.bool false,.bool false,.bool false,.bool false,.bool false,.bool false,.bool false,.bool false,.bool false,.bool false,.bool false,.bool false,.bool false,.bool false,.bool false,.bool false,.bool false,.bool false,.bool false,.bool false,.bool false,.bool false,.bool false,.bool false,.bool false,.bool false,.bool false,.bool false,.bool false,.bool false,.bool false,.bool false] [(5,5,.agg ⟨[.bool true,.bool false,.bool true,.bool false,.bool false]⟩),(10,5,.agg ⟨[.bool true,.bool true,.bool false,.bool false,.bool false]⟩),(15,5,.agg ⟨[.bool false,.bool true,.bool true,.bool false,.bool false]⟩),(20,5,.agg ⟨[.bool true,.bool true,.bool true,.bool false,.bool false]⟩),(25,5,.agg ⟨[.bool true,.bool true,.bool true,.bool false,.bool false]⟩),(30,5,.agg ⟨[.bool true,.bool true,.bool true,.bool true,.bool false]⟩),(35,5,.agg ⟨[.bool false,.bool false,.bool false,.bool false,.bool false]⟩),(40,5,.agg ⟨[.bool false,.bool false,.bool true,.bool false,.bool false]⟩),(45,5,.agg ⟨[.bool false,.bool false,.bool false,.bool false,.bool true]⟩),(50,5,.agg ⟨[.bool false,.bool false,.bool true,.bool false,.bool true]⟩)]=some (.agg ⟨zb⟩):=rfl
noncomputable def fT (len:Nat) (agg:Bool) (esz:Nat) (x i:Value):Option Value:=ob (xW i) λn=>ob (XP x) λcs=>bif Nat.blt n len then QN agg ((cs.drop (n*esz)).take esz) else none
theorem yZ (len:Nat)(agg:Bool)(esz:Nat)(x i:V)(t:Tm):ZU len agg esz x i t=fT len agg esz (x t) (i t):=rfl
theorem pi1:fT 11 true 5 (.agg ⟨zb⟩) (.int .i64 1)=some (.agg ⟨wG 1⟩):=rfl
theorem pi2:fT 11 true 5 (.agg ⟨zb⟩) (.int .i64 2)=some (.agg ⟨wG 2⟩):=rfl
theorem pi3:fT 11 true 5 (.agg ⟨zb⟩) (.int .i64 3)=some (.agg ⟨wG 3⟩):=rfl
theorem pi4:fT 11 true 5 (.agg ⟨zb⟩) (.int .i64 4)=some (.agg ⟨wG 4⟩):=rfl
theorem pi5:fT 11 true 5 (.agg ⟨zb⟩) (.int .i64 5)=some (.agg ⟨wG 5⟩):=rfl
theorem pi6:fT 11 true 5 (.agg ⟨zb⟩) (.int .i64 6)=some (.agg ⟨wG 6⟩):=rfl
theorem pi7:fT 11 true 5 (.agg ⟨zb⟩) (.int .i64 7)=some (.agg ⟨wG 7⟩):=rfl
theorem pi8:fT 11 true 5 (.agg ⟨zb⟩) (.int .i64 8)=some (.agg ⟨wG 8⟩):=rfl
theorem pi9:fT 11 true 5 (.agg ⟨zb⟩) (.int .i64 9)=some (.agg ⟨wG 9⟩):=rfl
theorem pi10:fT 11 true 5 (.agg ⟨zb⟩) (.int .i64 10)=some (.agg ⟨wG 10⟩):=rfl
theorem qeu (n:Nat){op:Int}(h1:1<=op)(h2:op<=10)(m:M)(hm:m.base<=m.n):CallV (ex Tryz.prog (n+1)) 53 [iv op] m (.agg ⟨wG op⟩):=by
 refine qy de2_ok (by simp) ?_
 obtain⟨a,c1,c2,c3,c4,c5⟩:=jE (m:=m) hm (zs:=[.bool false,.bool false,.bool false,.bool false,.bool false]) (l:=wG op) (v:=.agg ⟨wG op⟩) (n:=5) rfl rfl rfl (by simp[wG,okC])
 have fin:∀t,Tm.get 2 t=.pointer (some ⟨m.n,0,none⟩)->Ret m (λu _=>u=.agg ⟨wG op⟩) (kO [.cell 2 5] t a):=λt ht=>zn ht (c3 none) c4 rfl
 have key:∀k,fT 11 true 5 (.agg ⟨zb⟩) (.int .i64 k)=some (.agg ⟨wG k⟩)->op=k->Ret m (λu _=>u=.agg ⟨wG op⟩) (DU (ex Tryz.prog n) (kO [.cell 2 5]) noK (kO [.cell 2 5]) (jl .blank 0 [iv op]) m):=λk hk e=>by
  subst e
  simp[pb3,pb4,pb5,pb6,pb8,pb9,pb10,pb11,pb12,pb13,yZ,hk,c1]
  exact fin _ (by simp)
 rcases (by omega:op=1\/op=2\/op=3\/op=4\/op=5\/op=6\/op=7\/op=8\/op=9\/op=10) with h | h | h | h | h | h | h | h | h | h
 .exact key 1 pi1 h
 .exact key 2 pi2 h
 .exact key 3 pi3 h
 .exact key 4 pi4 h
 .exact key 5 pi5 h
 .exact key 6 pi6 h
 .exact key 7 pi7 h
 .exact key 8 pi8 h
 .exact key 9 pi9 h
 .exact key 10 pi10 h
end Go.Sx
namespace Go.Dx
open Go.RowKit
theorem i_and {a b:Nat}(ha:a<9223372036854775808)(hb:b<9223372036854775808):zh .and (.int .i64 a) (.int .i64 b)=some (.int .i64 ((a &&& b:Nat):Int)):=by
 rw[kQ]
 have hx:a &&& b<2^63:=Nat.and_lt_two_pow _ (by omega)
 have h1:(BitVec.ofInt 64 (a:Int)).toNat=a:=by
  rw[BitVec.ofInt_natCast,BitVec.toNat_ofNat];exact Nat.mod_eq_of_lt (by omega)
 have h2:(BitVec.ofInt 64 (b:Int)).toNat=b:=by
  rw[BitVec.ofInt_natCast,BitVec.toNat_ofNat];exact Nat.mod_eq_of_lt (by omega)
 have h:bits .and .i64 (a:Int) (b:Int)=((a &&& b:Nat):Int):=by
  show IntKind.i64.wrap ((BitVec.ofInt 64 (a:Int) &&& BitVec.ofInt 64 (b:Int)).toNat:Int)=_
  rw[BitVec.toNat_and,h1,h2]
  exact wrap64 _ (by omega) (by omega)
 rw[<-h];rfl
theorem ZV (mx:Bool)(xs:List V)(t:Tm):pMm mx xs t=mmL mx (evs t xs):=rfl
theorem mm_max (a b:Int):mmL true [.int .i64 a,.int .i64 b]=some (.int .i64 (max a b)):=by
 have h:mmL true [.int .i64 a,.int .i64 b]=some (.int .i64 (bif ltI a b then b else a)):=rfl
 rw[h,xn]
 by_cases hab:a<b
 .rw[decide_eq_true hab,cond_true,Int.max_eq_right (by omega)]
 .rw[decide_eq_false hab,cond_false,Int.max_eq_left (by omega)]
end Go.Dx
namespace Go.Sx
open Go.Dx Go.Proofs
set_option maxRecDepth 10000
def jL (cells:Int)(k:Nat)(a:Ac):Bool :=
 decide (0<=a.size/\a.size<=1024)&&decide (a.size.toNat &&& (a.size.toNat-1)=0)&&decide (0<=a.base/\a.base<=cells-max 1 a.size)&&(if a.size=0 then decide (a.ixs.length=0) else wU k a.ixs)
theorem Jr (k:Nat)(hk:k<1000000)(cells:Int)(tv:Value)(hc0:0<=cells)(hc1:cells<=4096)(a:Ac)(N:Nat)(m:M)(hm:m.base<=m.n)(ha:AcOK m a) :
  CallV (ex Tryz.prog (N+3)) 54 [.agg ⟨qd a⟩,.agg ⟨[iv cells,tv]⟩,iv k] m (.bool (jL cells k a)):=by
 refine qy de3_ok (by simp) ?_
 have st0:St m m []:=St.nil hm (Ext.refl m)
 have st1:=st0.row (qd a)
 obtain⟨m1,hm1⟩:=qhd (Dx.newRow m (qd a))
 rw[<-hm1]at st1
 have st2:=st1.row [iv cells,tv]
 obtain⟨m2,hm2⟩:=qhd (Dx.newRow m1 [iv cells,tv])
 rw[<-hm2]at st2
 have la:∀o s,load1 m2 ⟨m.n,o,s⟩=(qd a)[o]?:=λo s=>(st2.get 1 rfl).2.2.load1 o s
 have lp:∀o s,load1 m2 ⟨m1.n,o,s⟩=[iv cells,tv][o]?:=λo s=>(st2.get 0 rfl).2.2.load1 o s
 have ha2:=ha.sees st2.sees
 obtain⟨op,dst,base,size,ix,ev,fv,mode,to,line,col,ixs,es,fs⟩:=a
 simp only[qd]at la hm1
 have E2:=st2.ext
 have pB:jL cells k ⟨op,dst,base,size,ix,ev,fv,mode,to,line,col,ixs,es,fs⟩=(decide (0<=size/\size<=1024)&&decide (size.toNat &&& (size.toNat-1)=0)&&decide (0<=base/\base<=cells-max 1 size)&&(if size=0 then decide (ixs.length=0) else wU k ixs)):=rfl
 rw[pB]
 by_cases h1:size<0
 .have e1:(size<0)=True:=eq_true h1
  rw[decide_eq_false (show ¬(0<=size/\size<=1024) by omega)]
  simp[qd,<-hm1,<-hm2,la,lp,e1]
  exact qp E2 (by simp)
 have e1:(size<0)=False:=eq_false h1
 by_cases h2:1024<size
 .have e2:(1024<size)=True:=eq_true h2
  rw[decide_eq_false (show ¬(0<=size/\size<=1024) by omega)]
  simp[qd,<-hm1,<-hm2,la,lp,e1,e2]
  exact qp E2 (by simp)
 have e2:(1024<size)=False:=eq_false h2
 rw[decide_eq_true (show (0<=size/\size<=1024) by omega),Bool.true_and]
 obtain⟨s,rfl⟩:∃s:Nat,size=s:=⟨size.toNat,by omega⟩
 rw[qh1]
 obtain⟨r,hr⟩:=qhd (s &&& (s-1))
 have q1:zh .sub (.int .i64 (s:Int)) (.int .i64 1)=some (.int .i64 ((s:Int)-1)):=by rw[qY,wrap64 _ (by omega) (by omega)]
 have q2:zh .and (.int .i64 (s:Int)) (.int .i64 ((s:Int)-1))=some (.int .i64 (r:Int)):=by
  by_cases hs0:s=0
  .subst hs0;rw[hr];rfl
  .rw[show (s:Int)-1=((s-1:Nat):Int) by omega,i_and (by omega) (by omega),hr]
 rw[<-hr]
 obtain⟨z,hz⟩:∃z:Int,z=(s:Int):=⟨_,rfl⟩
 rw[<-hz]at q1 q2 e1 e2 la hm1 ⊢
 by_cases h3:¬r=0
 .have e3:((r:Int)=0)=False:=eq_false (by omega)
  have e3':(r=0)=False:=eq_false h3
  rw[decide_eq_false h3]
  simp[-qY,qd,<-hm1,<-hm2,la,lp,e1,e2,q1,q2,e3,e3']
  exact qp E2 (by simp)
 have h3:r=0:=Classical.byContradiction h3
 subst h3
 rw[decide_eq_true rfl,Bool.true_and]
 by_cases h4:base<0
 .have e4:(base<0)=True:=eq_true h4
  rw[decide_eq_false (show ¬(0<=base/\base<=cells-max 1 z) by omega)]
  simp[-qY,qd,<-hm1,<-hm2,la,lp,e1,e2,q1,q2,e4]
  exact qp E2 (by simp)
 have e4:(base<0)=False:=eq_false h4
 obtain⟨y,hy⟩:=qhd (cells-max 1 z)
 have q3:=mm_max 1 z
 obtain⟨mx,hmx⟩:=qhd (max 1 z)
 rw[<-hmx]at q3 hy
 have q4:zh .sub (.int .i64 cells) (.int .i64 mx)=some (.int .i64 y):=by
  rw[qY,wrap64 _ (by rw[hmx];omega) (by rw[hmx];omega),hy]
 rw[<-hmx,<-hy]
 by_cases h5:y<base
 .have e5:(y<base)=True:=eq_true h5
  rw[decide_eq_false (show ¬(0<=base/\base<=y) by omega)]
  simp[-qY,qd,<-hm1,<-hm2,la,lp,e1,e2,q1,q2,e4,ZV,q3,q4,e5]
  exact qp E2 (by simp)
 have e5:(y<base)=False:=eq_false h5
 rw[decide_eq_true (show (0<=base/\base<=y) by omega),Bool.true_and]
 have hil:za ix=some (.int .i64 (ixs.length:Int)):=ha.ix.len
 obtain⟨n,hn⟩:=qhd (ixs.length)
 rw[<-hn]at hil ⊢
 obtain⟨v3,m3,c1,c2,rfl⟩:=vE k hk ixs ix ha2.ixl N m2 st2.sees.base ha2.ix
 by_cases h6:z=0
 .rw[if_pos h6]
  have h06:s=0:=by omega
  by_cases h7:n=0
  .have e7:((n:Int)=0)=True:=eq_true (by omega)
   have hd7:decide (n=0)=true:=decide_eq_true h7
   have d6:decide (z=0)=true:=decide_eq_true h6
   simp[-qY,qd,<-hm1,<-hm2,la,lp,e1,e2,q1,q2,e4,ZV,q3,q4,e5,hil,d6,h7]
   exact qp E2 (by simp)
  .have e7:((n:Int)=0)=False:=eq_false (by omega)
   have d6:decide (z=0)=true:=decide_eq_true h6
   have e8:((0:Int)<z)=False:=eq_false (by omega)
   simp[-qY,qd,<-hm1,<-hm2,la,lp,e1,e2,q1,q2,e4,ZV,q3,q4,e5,hil,d6,h7,e7,e8]
   exact qp E2 (by simp)
 .rw[if_neg h6]
  have e6:((0:Int)<z)=True:=eq_true (by omega)
  simp[-qY,qd,<-hm1,<-hm2,la,lp,e1,e2,q1,q2,e4,ZV,q3,q4,e5,hil,h6,e6,c1]
  exact qp (E2.trans c2) (by simp)
end Go.Sx
namespace Go.Sx
open Go.Dx Go.Proofs
set_option maxRecDepth 10000
abbrev waS (A3 A4 A5 A7:Nat)(a:Ac)(cells:Int)(tv:Value)(k:Nat)(av:Value):List (Nat × List Value):=[(A7,wG a.op),(A5,[iv k,av]),(A4,[iv cells,tv]),(A3,qd a)]
structure WT (t:Tm)(A3 A4 A5 A7:Nat):Prop where
 t3:Tm.get 3 t=.pointer (some ⟨A3,0,none⟩)
 t4:Tm.get 4 t=.pointer (some ⟨A4,0,none⟩)
 t5:Tm.get 5 t=.pointer (some ⟨A5,0,none⟩)
 t7:Tm.get 7 t=.pointer (some ⟨A7,0,none⟩)
def gL (d:Bool)(k:Nat)(dst:Int):Bool:=if d then decide (0<=dst/\dst<k) else decide (dst=0)
def plB (p:Bool)(cells:Int)(k:Nat)(a:Ac):Bool:=if p then jL cells k a else decide (a.base=0/\a.size=0/\a.ixs.length=0)
def esB (e f:Bool)(k:Nat)(a:Ac):Bool:=decide (e=decide (0<a.es.length))&&decide (f=decide (0<a.fs.length))&&(!e||wU k a.es)&&(!f||wU k a.fs)
def toB (b:Bool)(n:Nat)(to:Int):Bool:=if b then decide (0<=to/\to<=n) else decide (to=0)
section
variable {m0 m:M}{A3 A4 A5 A7:Nat}{a:Ac}{cells:Int}{tv av:Value}{k na:Nat}{t:Tm}
theorem wa1 (hst:St m0 m (waS A3 A4 A5 A7 a cells tv k av))(hT:WT t A3 A4 A5 A7){x:Ex}{kn kr:K}{ke:Nat->K}{Q:Option Out->Prop}
  (H:∀t',Tm.get 27 t'=.bool (!gL (pD a.op) k a.dst)->WT t' A3 A4 A5 A7->Q (kn t' m)):Q (DN x kn ke kr t m):=by
 have la:∀o s,load1 m ⟨A3,o,s⟩=(qd a)[o]?:=λo s=>(hst.get 3 rfl).2.2.load1 o s
 have lt:∀o s,load1 m ⟨A5,o,s⟩=[iv k,av][o]?:=λo s=>(hst.get 1 rfl).2.2.load1 o s
 have lh:∀o s,load1 m ⟨A7,o,s⟩=(wG a.op)[o]?:=λo s=>(hst.get 0 rfl).2.2.load1 o s
 obtain⟨t3,t4,t5,t7⟩:=hT
 simp only[qd,wG]at la lh
 cases hd:pD a.op with
 | true =>
  rw[hd]at lh H
  by_cases h1:a.dst<0
  .have e1:(a.dst<0)=True:=eq_true h1
   have hb:gL true k a.dst=false:=decide_eq_false (by omega)
   rw[hb]at H
   simp[la,lt,lh,t3,t5,t7,e1]
   exact H _ (by simp) ⟨by simp[t3],by simp[t4],by simp[t5],by simp[t7]⟩
  .have e1:(a.dst<0)=False:=eq_false h1
   by_cases h2:(k:Int)<=a.dst
   .have e2:((k:Int)<=a.dst)=True:=eq_true h2
    have hb:gL true k a.dst=false:=decide_eq_false (by omega)
    rw[hb]at H
    simp[la,lt,lh,t3,t5,t7,e1,e2]
    exact H _ (by simp) ⟨by simp[t3],by simp[t4],by simp[t5],by simp[t7]⟩
   .have e2:((k:Int)<=a.dst)=False:=eq_false h2
    have hb:gL true k a.dst=true:=decide_eq_true (by omega)
    rw[hb]at H
    simp[la,lt,lh,t3,t5,t7,e1,e2]
    exact H _ (by simp) ⟨by simp[t3],by simp[t4],by simp[t5],by simp[t7]⟩
 | false =>
  rw[hd]at lh H
  have hb:gL false k a.dst=decide (a.dst=0):=rfl
  rw[hb]at H
  simp[la,lt,lh,t3,t5,t7]
  exact H _ (by simp) ⟨by simp[t3],by simp[t4],by simp[t5],by simp[t7]⟩
theorem wa2 (hst:St m0 m (waS A3 A4 A5 A7 a cells tv k av))(hT:WT t A3 A4 A5 A7)(hk:k<1000000)(hc0:0<=cells)(hc1:cells<=4096)(ha:AcOK m a){N:Nat}{kn kr:K}{ke:Nat->K}{Q:Option Out->Prop}
  (H:∀t' m',Tm.get 50 t'=.bool (!plB (pP a.op) cells k a)->WT t' A3 A4 A5 A7->Ext m m'->Q (kn t' m')):Q (DP (ex Tryz.prog (N+3)) kn ke kr t m):=by
 have la:∀o s,load1 m ⟨A3,o,s⟩=(qd a)[o]?:=λo s=>(hst.get 3 rfl).2.2.load1 o s
 have lt:∀o s,load1 m ⟨A5,o,s⟩=[iv k,av][o]?:=λo s=>(hst.get 1 rfl).2.2.load1 o s
 have lh:∀o s,load1 m ⟨A7,o,s⟩=(wG a.op)[o]?:=λo s=>(hst.get 0 rfl).2.2.load1 o s
 have l11:loads m ⟨A3,0,none⟩ 11=some (qd a):=(hst.get 3 rfl).2.2.loads (n:=11) (by simp[qd])
 have l2:loads m ⟨A4,0,none⟩ 2=some [iv cells,tv]:=(hst.get 2 rfl).2.2.loads (n:=2) (by simp)
 obtain⟨t3,t4,t5,t7⟩:=hT
 simp only[wG]at lh
 obtain⟨v3,m3,c1,c2,rfl⟩:=Jr k hk cells tv hc0 hc1 a N m hst.sees.self.base ha
 have hil:za a.ix=some (.int .i64 (a.ixs.length:Int)):=ha.ix.len
 cases hd:pP a.op with
 | true =>
  rw[hd]at lh H
  have hb:plB true cells k a=jL cells k a:=rfl
  rw[hb]at H
  cases hp:jL cells k a with
  | false =>
   rw[hp]at H c1
   simp[l11,l2,qe,lt,lh,t3,t4,t5,t7,c1]
   exact H _ _ (by simp) ⟨by simp[t3],by simp[t4],by simp[t5],by simp[t7]⟩ c2
  | true =>
   rw[hp]at H c1
   have st3:=hst.step c2
   have lh3:∀o s,load1 m3 ⟨A7,o,s⟩=(wG a.op)[o]?:=λo s=>(st3.get 0 rfl).2.2.load1 o s
   simp only[wG]at lh3
   rw[hd]at lh3
   simp[l11,l2,qe,lt,lh,lh3,t3,t4,t5,t7,c1]
   exact H _ _ (by simp) ⟨by simp[t3],by simp[t4],by simp[t5],by simp[t7]⟩ c2
 | false =>
  rw[hd]at lh H
  simp only[qd]at la
  have hb:plB false cells k a=decide (a.base=0/\a.size=0/\a.ixs.length=0):=rfl
  rw[hb]at H
  by_cases h1:a.base=0
  .have d1:decide (a.base=0)=true:=decide_eq_true h1
   by_cases h2:a.size=0
   .have d2:decide (a.size=0)=true:=decide_eq_true h2
    obtain⟨n,hn⟩:=qhd (a.ixs.length)
    rw[<-hn]at hil H
    by_cases h3:n=0
    .have e3:((0:Int)<(n:Int))=False:=eq_false (by omega)
     have e3':(0<n)=False:=eq_false (by omega)
     rw[decide_eq_true ⟨h1,h2,h3⟩]at H
     simp[la,lh,t3,t7,d1,d2,hil,e3,e3']
     exact H _ _ (by simp) ⟨by simp[t3],by simp[t4],by simp[t5],by simp[t7]⟩ (Ext.refl m)
    .have e3:((0:Int)<(n:Int))=True:=eq_true (by omega)
     have e3':(0<n)=True:=eq_true (by omega)
     rw[decide_eq_false (λh=>h3 h.2.2)]at H
     simp[la,lh,t3,t7,d1,d2,hil,e3,e3']
     exact H _ _ (by simp) ⟨by simp[t3],by simp[t4],by simp[t5],by simp[t7]⟩ (Ext.refl m)
   .have d2:decide (a.size=0)=false:=decide_eq_false h2
    rw[decide_eq_false (λh=>h2 h.2.1)]at H
    simp[la,lh,t3,t7,d1,d2]
    exact H _ _ (by simp) ⟨by simp[t3],by simp[t4],by simp[t5],by simp[t7]⟩ (Ext.refl m)
  .have d1:decide (a.base=0)=false:=decide_eq_false h1
   rw[decide_eq_false (λh=>h1 h.1)]at H
   simp[la,lh,t3,t7,d1]
   exact H _ _ (by simp) ⟨by simp[t3],by simp[t4],by simp[t5],by simp[t7]⟩ (Ext.refl m)
theorem wa3 (hst:St m0 m (waS A3 A4 A5 A7 a cells tv k av))(hT:WT t A3 A4 A5 A7)(hk:k<1000000)(ha:AcOK m a){N:Nat}{kn kr:K}{ke:Nat->K}{Q:Option Out->Prop}
  (H:∀t' m',Tm.get 80 t'=.bool (!esB (pE a.op) (pF a.op) k a)->WT t' A3 A4 A5 A7->Ext m m'->Q (kn t' m')):Q (Vn (ex Tryz.prog (N+2)) kn ke kr t m):=by
 have la:∀o s,load1 m ⟨A3,o,s⟩=(qd a)[o]?:=λo s=>(hst.get 3 rfl).2.2.load1 o s
 have lt:∀o s,load1 m ⟨A5,o,s⟩=[iv k,av][o]?:=λo s=>(hst.get 1 rfl).2.2.load1 o s
 have lh:∀o s,load1 m ⟨A7,o,s⟩=(wG a.op)[o]?:=λo s=>(hst.get 0 rfl).2.2.load1 o s
 obtain⟨t3,t4,t5,t7⟩:=hT
 simp only[wG]at lh
 simp only[qd]at la
 have hel:za a.ev=some (.int .i64 (a.es.length:Int)):=ha.ev.len
 have hfl:za a.fv=some (.int .i64 (a.fs.length:Int)):=ha.fv.len
 have dd:∀n:Nat,decide ((0:Int)<(n:Int))=decide (0<n):=λn=>decide_eq_decide.2 (by omega)
 have hE:esB (pE a.op) (pF a.op) k a=(decide (pE a.op=decide (0<a.es.length))&&decide (pF a.op=decide (0<a.fs.length))&&(!(pE a.op)||wU k a.es)&&(!(pF a.op)||wU k a.fs)):=rfl
 rw[hE]at H
 obtain⟨e,he⟩:=qhd (pE a.op)
 obtain⟨f,hf⟩:=qhd (pF a.op)
 obtain⟨ne,hne⟩:=qhd (a.es.length)
 obtain⟨nf,hnf⟩:=qhd (a.fs.length)
 rw[<-he,<-hf]at lh H
 rw[<-hne,<-hnf]at H
 rw[<-hne]at hel
 rw[<-hnf]at hfl
 obtain⟨be,hbe⟩:=qhd (decide (0<ne))
 obtain⟨bf,hbf⟩:=qhd (decide (0<nf))
 have de:decide ((0:Int)<(ne:Int))=be:=by rw[dd,hbe]
 have df:decide ((0:Int)<(nf:Int))=bf:=by rw[dd,hbf]
 rw[<-hbe,<-hbf]at H
 have de':=hbe.symm
 have df':=hbf.symm
 by_cases h1:¬e=be
 .have hx:(e != be)=true:=by cases e<;>cases be<;>simp_all
  have hy:(decide (e=be))=false:=decide_eq_false h1
  rw[hy]at H
  simp[la,lh,t3,t5,t7,hel,de,de',hx]
  exact H _ _ (by simp) ⟨by simp[t3],by simp[t4],by simp[t5],by simp[t7]⟩ (Ext.refl m)
 have h1:e=be:=Classical.byContradiction h1
 have hx:(e != be)=false:=by rw[h1];cases be<;>rfl
 rw[decide_eq_true h1,Bool.true_and]at H
 by_cases h2:¬f=bf
 .have hx2:(f != bf)=true:=by cases f<;>cases bf<;>simp_all
  rw[decide_eq_false h2]at H
  simp[la,lh,t3,t5,t7,hel,hfl,de,df,de',df',hx,hx2]
  exact H _ _ (by simp) ⟨by simp[t3],by simp[t4],by simp[t5],by simp[t7]⟩ (Ext.refl m)
 have h2:f=bf:=Classical.byContradiction h2
 have hx2:(f != bf)=false:=by rw[h2];cases bf<;>rfl
 rw[decide_eq_true h2,Bool.true_and]at H
 have part2:∀(M1:M) (E1:Ext m M1),(e=true->wU k a.es=true)->∃m',((f=false/\m'=M1)\/(f=true/\(ex Tryz.prog (N+2)).f 55 [a.fv,iv k] M1=some (.bool (wU k a.fs),m')))/\Ext m m':=λM1 E1 _=>by
  cases hf':f with
  | false=>exact⟨M1,.inl ⟨rfl,rfl⟩,E1⟩
  | true =>
   obtain⟨v4,m4,d1,d2,rfl⟩:=vE k hk a.fs a.fv ha.fvl N M1 ((hst.step E1).sees.self.base) (ha.fv.sees (hst.sees.self.ext E1))
   exact⟨m4,.inr ⟨rfl,d1⟩,E1.trans d2⟩
 cases he':e with
 | true =>
  obtain⟨v3,m3,c1,c2,rfl⟩:=vE k hk a.es a.ev ha.evl N m hst.sees.self.base ha.ev
  have st3:=hst.step c2
  have la3:∀o s,load1 m3 ⟨A3,o,s⟩=(qd a)[o]?:=λo s=>(st3.get 3 rfl).2.2.load1 o s
  have lt3:∀o s,load1 m3 ⟨A5,o,s⟩=[iv k,av][o]?:=λo s=>(st3.get 1 rfl).2.2.load1 o s
  have lh3:∀o s,load1 m3 ⟨A7,o,s⟩=(wG a.op)[o]?:=λo s=>(st3.get 0 rfl).2.2.load1 o s
  simp only[wG]at lh3
  simp only[qd]at la3
  rw[<-he,<-hf]at lh3
  rw[he']at lh lh3 hx H
  cases hp:wU k a.es with
  | false =>
   rw[hp]at c1 H
   simp[la,lh,lt,la3,lh3,lt3,t3,t5,t7,hel,hfl,de,df,de',df',hx,hx2,c1]
   exact H _ _ (by simp) ⟨by simp[t3],by simp[t4],by simp[t5],by simp[t7]⟩ c2
  | true =>
   rw[hp]at c1 H
   obtain⟨m4,hm4,E4⟩:=part2 m3 c2 (λ_=>hp)
   rcases hm4 with ⟨hf',rfl⟩ | ⟨hf',d1⟩
   .rw[hf']at lh lh3 hx2 H
    simp[la,lh,lt,la3,lh3,lt3,t3,t5,t7,hel,hfl,de,df,de',df',hx,hx2,c1]
    exact H _ _ (by simp) ⟨by simp[t3],by simp[t4],by simp[t5],by simp[t7]⟩ E4
   .rw[hf']at lh lh3 hx2 H
    cases hp2:wU k a.fs with
    | false =>
     rw[hp2]at d1 H
     simp[la,lh,lt,la3,lh3,lt3,t3,t5,t7,hel,hfl,de,df,de',df',hx,hx2,c1,d1]
     exact H _ _ (by simp) ⟨by simp[t3],by simp[t4],by simp[t5],by simp[t7]⟩ E4
    | true =>
     rw[hp2]at d1 H
     simp[la,lh,lt,la3,lh3,lt3,t3,t5,t7,hel,hfl,de,df,de',df',hx,hx2,c1,d1]
     exact H _ _ (by simp) ⟨by simp[t3],by simp[t4],by simp[t5],by simp[t7]⟩ E4
 | false =>
  rw[he']at lh hx H
  obtain⟨m4,hm4,E4⟩:=part2 m (Ext.refl m) (λh=>by rw[he']at h;cases h)
  rcases hm4 with ⟨hf',rfl⟩ | ⟨hf',d1⟩
  .rw[hf']at lh hx2 H
   simp[la,lh,lt,t3,t5,t7,hel,hfl,de,df,de',df',hx,hx2]
   exact H _ _ (by simp) ⟨by simp[t3],by simp[t4],by simp[t5],by simp[t7]⟩ E4
  .rw[hf']at lh hx2 H
   cases hp2:wU k a.fs with
   | false =>
    rw[hp2]at d1 H
    simp[la,lh,lt,t3,t5,t7,hel,hfl,de,df,de',df',hx,hx2,d1]
    exact H _ _ (by simp) ⟨by simp[t3],by simp[t4],by simp[t5],by simp[t7]⟩ E4
   | true =>
    rw[hp2]at d1 H
    simp[la,lh,lt,t3,t5,t7,hel,hfl,de,df,de',df',hx,hx2,d1]
    exact H _ _ (by simp) ⟨by simp[t3],by simp[t4],by simp[t5],by simp[t7]⟩ E4
theorem wa4 (hst:St m0 m (waS A3 A4 A5 A7 a cells tv k av))(hT:WT t A3 A4 A5 A7)(hav:za av=some (.int .i64 (na:Int))){x:Ex}{kn kr:K}{ke:Nat->K}{Q:Option Out->Prop}
  (H:∀t',Tm.get 115 t'=.bool (!toB (pT a.op) na a.to)->Q (kn t' m)):Q (Vo x kn ke kr t m):=by
 have la:∀o s,load1 m ⟨A3,o,s⟩=(qd a)[o]?:=λo s=>(hst.get 3 rfl).2.2.load1 o s
 have lt:∀o s,load1 m ⟨A5,o,s⟩=[iv k,av][o]?:=λo s=>(hst.get 1 rfl).2.2.load1 o s
 have lh:∀o s,load1 m ⟨A7,o,s⟩=(wG a.op)[o]?:=λo s=>(hst.get 0 rfl).2.2.load1 o s
 obtain⟨t3,t4,t5,t7⟩:=hT
 simp only[qd,wG]at la lh
 cases hd:pT a.op with
 | true =>
  rw[hd]at lh H
  by_cases h1:a.to<0
  .have e1:(a.to<0)=True:=eq_true h1
   have hb:toB true na a.to=false:=decide_eq_false (by omega)
   rw[hb]at H
   simp[la,lt,lh,t3,t5,t7,e1]
   exact H _ (by simp)
  .have e1:(a.to<0)=False:=eq_false h1
   by_cases h2:(na:Int)<a.to
   .have e2:((na:Int)<a.to)=True:=eq_true h2
    have hb:toB true na a.to=false:=decide_eq_false (by omega)
    rw[hb]at H
    simp[la,lt,lh,t3,t5,t7,e1,hav,e2]
    exact H _ (by simp)
   .have e2:((na:Int)<a.to)=False:=eq_false h2
    have hb:toB true na a.to=true:=decide_eq_true (by omega)
    rw[hb]at H
    simp[la,lt,lh,t3,t5,t7,e1,hav,e2]
    exact H _ (by simp)
 | false =>
  rw[hd]at lh H
  have hb:toB false na a.to=decide (a.to=0):=rfl
  rw[hb]at H
  simp[la,lt,lh,t3,t5,t7]
  exact H _ (by simp)
end
end Go.Sx
namespace Go.Sx
open Go.Dx Go.Proofs
set_option maxRecDepth 10000
def bN (cells:Int)(k na:Nat)(a:Ac):Bool :=
 decide (1<=a.op/\a.op<=10)&&(jF a.op a.mode&&(gL (pD a.op) k a.dst&&(plB (pP a.op) cells k a&&(esB (pE a.op) (pF a.op) k a&&toB (pT a.op) na a.to))))
theorem YC (k:Nat)(hk:k<1000000)(cells:Int)(tv:Value)(hc0:0<=cells)(hc1:cells<=4096)(av:Value)(na:Nat)(hav:za av=some (.int .i64 (na:Int)))(a:Ac)(N:Nat)(m:M)(hm:m.base<=m.n)(ha:AcOK m a) :
  CallV (ex Tryz.prog (N+4)) 40 [.agg ⟨qd a⟩,.agg ⟨[iv cells,tv]⟩,.agg ⟨[iv k,av]⟩] m (.bool (bN cells k na a)):=by
 refine qy dd4_ok (by simp) ?_
 have st0:St m m []:=St.nil hm (Ext.refl m)
 have st1:=st0.row (qd a)
 obtain⟨m1,hm1⟩:=qhd (Dx.newRow m (qd a))
 rw[<-hm1]at st1
 have st2:=st1.row [iv cells,tv]
 obtain⟨m2,hm2⟩:=qhd (Dx.newRow m1 [iv cells,tv])
 rw[<-hm2]at st2
 have st3:=st2.row [iv k,av]
 obtain⟨m3,hm3⟩:=qhd (Dx.newRow m2 [iv k,av])
 rw[<-hm3]at st3
 have la:∀o s,load1 m3 ⟨m.n,o,s⟩=(qd a)[o]?:=λo s=>(st3.get 2 rfl).2.2.load1 o s
 simp only[qd]at la
 have hA:bN cells k na a=(decide (1<=a.op/\a.op<=10)&&(jF a.op a.mode&&(gL (pD a.op) k a.dst&&(plB (pP a.op) cells k a&&(esB (pE a.op) (pF a.op) k a&&toB (pT a.op) na a.to))))):=rfl
 rw[hA]
 by_cases h1:a.op<1
 .have e1:(a.op<1)=True:=eq_true h1
  rw[decide_eq_false (show ¬(1<=a.op/\a.op<=10) by omega)]
  simp[<-hm1,<-hm2,<-hm3,la,e1]
  exact qp st3.ext (by simp)
 have e1:(a.op<1)=False:=eq_false h1
 by_cases h2:10<a.op
 .have e2:(10<a.op)=True:=eq_true h2
  rw[decide_eq_false (show ¬(1<=a.op/\a.op<=10) by omega)]
  simp[<-hm1,<-hm2,<-hm3,la,e1,e2]
  exact qp st3.ext (by simp)
 have e2:(10<a.op)=False:=eq_false h2
 rw[decide_eq_true (show (1<=a.op/\a.op<=10) by omega),Bool.true_and]
 obtain⟨v4,m4,c1,c2,rfl⟩:=may_c (N+2) a.op a.mode m3
 have st4:=st3.step c2
 cases hmay:jF a.op a.mode with
 | false =>
  rw[hmay]at c1
  simp[<-hm1,<-hm2,<-hm3,la,e1,e2,c1]
  exact qp st4.ext (by simp)
 | true =>
 rw[hmay]at c1
 rw[Bool.true_and]
 have la4:∀o s,load1 m4 ⟨m.n,o,s⟩=(qd a)[o]?:=λo s=>(st4.get 2 rfl).2.2.load1 o s
 simp only[qd]at la4
 obtain⟨v5,m5,d1,d2,rfl⟩:=qeu (N+2) (op:=a.op) (by omega) (by omega) m4 st4.sees.self.base
 have st5:=st4.step d2
 have st6:=st5.row [.bool false,.bool false,.bool false,.bool false,.bool false]
 obtain⟨m6,hm6⟩:=qhd (Dx.newRow m5 [.bool false,.bool false,.bool false,.bool false,.bool false])
 rw[<-hm6]at st6
 obtain⟨m7,s1,s2,s3,s4⟩:=st6.fill 0 rfl (n:=5) (l':=wG a.op) rfl rfl (by simp[wG,okC])
 have st7:St m m7 (waS m.n m1.n m2.n m5.n a cells tv k av):=s2
 have E7:=st7.ext
 simp[<-hm1,<-hm2,<-hm3,la,e1,e2,c1,la4,d1,<-hm6,s1,-DO]
 refine wa1 (A3:=m.n) (A4:=m1.n) (A5:=m2.n) (A7:=m5.n) st7 ⟨by simp,by simp,by simp,by simp⟩ (λt1 h27 T1=>?_)
 cases hd:gL (pD a.op) k a.dst with
 | false =>
  rw[hd]at h27
  simp[h27]
  exact qp E7 (by simp)
 | true =>
 rw[hd]at h27
 rw[Bool.true_and]
 simp[h27,-DQ]
 refine wa2 st7 T1 hk hc0 hc1 (ha.sees st7.sees) (λt2 m8 h50 T2 E8=>?_)
 have st8:=st7.step E8
 cases hp:plB (pP a.op) cells k a with
 | false =>
  rw[hp]at h50
  simp[h50]
  exact qp st8.ext (by simp)
 | true =>
 rw[hp]at h50
 rw[Bool.true_and]
 simp[h50,-Gs]
 refine wa3 st8 T2 hk (ha.sees st8.sees) (λt3 m9 h80 T3 E9=>?_)
 have st9:=st8.step E9
 cases he:esB (pE a.op) (pF a.op) k a with
 | false =>
  rw[he]at h80
  simp[h80]
  exact qp st9.ext (by simp)
 | true =>
 rw[he]at h80
 rw[Bool.true_and]
 simp[h80,-Gt]
 refine wa4 st9 T3 hav (λt4 h115=>?_)
 cases ht:toB (pT a.op) na a.to with
 | false =>
  rw[ht]at h115
  simp[h115]
  exact qp st9.ext (by simp)
 | true =>
 rw[ht]at h115
 simp[h115]
 exact qp st9.ext (by simp)
structure Th where
 loc:Int
 av:Value
 acts:List Ac
def FW (t:Th):List Value:=[iv t.loc,t.av]
structure ThOK (m:M)(t:Th):Prop where
 av:Rd m t.av 11 qd t.acts
 acts:∀a∈t.acts,AcOK m a
 len:t.acts.length<=9223372036854775807
theorem ThOK.sees {m m':M}{t:Th}(h:ThOK m t)(k:Sees m m'):ThOK m' t:=⟨h.av.sees k,λa ha=>(h.acts a ha).sees k,h.len⟩
def thB (cells:Int)(t:Th):Bool:=decide (0<=t.loc/\t.loc<=24)&&(decide (t.acts.length<=65536)&&t.acts.all (bN cells t.loc.toNat t.acts.length))
structure Pg where
 cells:Int
 tv:Value
 ths:List Th
structure PgOK (m:M)(p:Pg):Prop where
 tv:Rd m p.tv 2 FW p.ths
 ths:∀t∈p.ths,ThOK m t
 len:p.ths.length<=9223372036854775807
theorem PgOK.sees {m m':M}{p:Pg}(h:PgOK m p)(k:Sees m m'):PgOK m' p:=⟨h.tv.sees k,λa ha=>(h.ths a ha).sees k,h.len⟩
def pgB (p:Pg):Bool:=decide (0<=p.cells/\p.cells<=4096)&&(decide (p.ths.length<=64)&&p.ths.all (thB p.cells))
def pgV (p:Pg):Value:=.agg ⟨[iv p.cells,p.tv]⟩
theorem Ki {α:Type}{l:List α}{f:α->Bool}{i:Nat}{x:α}(h:l[i]?=some x)(hf:f x=false):l.all f=false:=by
 cases hc:l.all f with
 | false=>rfl
 | true=>exact absurd (List.all_eq_true.1 hc x (qgo h)) (by rw[hf];simp)
theorem Jy {α:Type}{l:List α}{f:α->Bool}(h:∀(i:Nat) x,i<l.length->l[i]?=some x->f x=true):l.all f=true :=
 List.all_eq_true.2 λx hx=>let ⟨i,hi⟩:=qh9 hx;h i x (qgp.1 hi).1 hi
theorem YG (p:Pg)(N:Nat)(m:M)(hm:m.base<=m.n)(hp:PgOK m p):CallV (ex Tryz.prog (N+5)) 24 [pgV p] m (.bool (pgB p)):=by
 refine qy db9_ok (by simp) ?_
 obtain⟨cells,tv,ths⟩:=p
 have st1:=(St.nil hm (Ext.refl m)).row [iv cells,tv]
 obtain⟨m1,hm1⟩:=qhd (Dx.newRow m [iv cells,tv])
 rw[<-hm1]at st1
 have lp:∀o s,load1 m1 ⟨m.n,o,s⟩=[iv cells,tv][o]?:=λo s=>(st1.get 0 rfl).2.2.load1 o s
 obtain⟨n,hn⟩:=qhd (ths.length)
 have hll:za tv=some (.int .i64 (n:Int)):=by rw[hn];exact hp.tv.len
 have hB:pgB ⟨cells,tv,ths⟩=(decide (0<=cells/\cells<=4096)&&(decide (n<=64)&&ths.all (thB cells))):=by rw[hn];rfl
 rw[hB]
 unfold pgV
 by_cases h1:cells<0
 .have e1:(cells<0)=True:=eq_true h1
  rw[decide_eq_false (show ¬(0<=cells/\cells<=4096) by omega)]
  simp[<-hm1,lp,e1]
  exact qp st1.ext (by simp)
 have e1:(cells<0)=False:=eq_false h1
 by_cases h2:4096<cells
 .have e2:(4096<cells)=True:=eq_true h2
  rw[decide_eq_false (show ¬(0<=cells/\cells<=4096) by omega)]
  simp[<-hm1,lp,e1,e2]
  exact qp st1.ext (by simp)
 have e2:(4096<cells)=False:=eq_false h2
 rw[decide_eq_true (show (0<=cells/\cells<=4096) by omega),Bool.true_and]
 by_cases h3:64<n
 .have e3:((64:Int)<(n:Int))=True:=eq_true (by omega)
  have e3':(64<n)=True:=eq_true (by omega)
  rw[decide_eq_false (show ¬(n<=64) by omega)]
  simp[<-hm1,lp,e1,e2,hll,e3,e3']
  exact qp st1.ext (by simp)
 have e3:((64:Int)<(n:Int))=False:=eq_false (by omega)
 have e3':(64<n)=False:=eq_false (by omega)
 rw[decide_eq_true (show (n<=64) by omega),Bool.true_and]
 simp[<-hm1,lp,e1,e2,hll,e3,e3']
 refine qR (c:=DI) rfl (Ret m _) (λi t m'=>St m m' [(m.n,[iv cells,tv])]/\(∀(j:Nat) x,j<i->ths[j]?=some x->thB cells x=true)/\Tm.get 1 t=.pointer (some ⟨m.n,0,none⟩)/\Tm.get 22 t=tv/\Tm.get 23 t=iv n/\Tm.get 24 t=iv i) n (by omega)
  ⟨st1,λj nd hj=>absurd hj (Nat.not_lt_zero _),by simp,by simp,by simp,by simp⟩ (λi t m' k' hi hI hk'=>?_)
 obtain⟨st,hok,t1,t22,t23,t24⟩:=hI
 by_cases hil:i<n
 .have hd:=dlt hil
  obtain⟨th,hth⟩:∃r,ths[i]?=some r:=⟨_,qgn (by omega)⟩
  have ⟨a1,a2,_⟩:=hp.tv.at hth
  have a2':=a2 m' st.sees
  have hthok:=hp.ths th (qgo hth)
  have ni:=wL (i:=i) (by omega)
  obtain⟨loc,av,acts⟩:=th
  simp only[FW]at a2'
  have st1:=st.row [zI,zS]
  obtain⟨m1,hm1⟩:=qhd (Dx.newRow m' [zI,zS])
  rw[<-hm1]at st1
  have okav:okC av=true:=hthok.av.okV
  obtain⟨m2,s1,s2,s3,s4⟩:=st1.fill 0 rfl (n:=2) (l':=[iv loc,av]) rfl rfl (by simp[okC];exact okav)
  have s2':St m m2 [(m'.n,[iv loc,av]),(m.n,[iv cells,tv])]:=s2
  have l2:∀o s,load1 m2 ⟨m'.n,o,s⟩=[iv loc,av][o]?:=λo s=>(s2'.get 0 rfl).2.2.load1 o s
  obtain⟨na,hna⟩:=qhd (acts.length)
  have hal:za av=some (.int .i64 (na:Int)):=by rw[hna];exact hthok.av.len
  have hnal:na<=9223372036854775807:=by rw[hna];exact hthok.len
  have hT:thB cells ⟨loc,av,acts⟩=(decide (0<=loc/\loc<=24)&&(decide (na<=65536)&&acts.all (bN cells loc.toNat na))):=by rw[hna];rfl
  have bad:thB cells ⟨loc,av,acts⟩=false->ths.all (thB cells)=false:=λh=>Ki hth h
  by_cases h4:loc<0
  .have e4:(loc<0)=True:=eq_true h4
   rw[bad (by rw[hT,decide_eq_false (show ¬(0<=loc/\loc<=24) by omega)];rfl)]
   simp[t1,t22,t23,t24,hd,a1,a2',qe,<-hm1,s1,l2,e4]
   exact qp s2'.ext (by simp)
  have e4:(loc<0)=False:=eq_false h4
  by_cases h5:24<loc
  .have e5:(24<loc)=True:=eq_true h5
   rw[bad (by rw[hT,decide_eq_false (show ¬(0<=loc/\loc<=24) by omega)];rfl)]
   simp[t1,t22,t23,t24,hd,a1,a2',qe,<-hm1,s1,l2,e4,e5]
   exact qp s2'.ext (by simp)
  have e5:(24<loc)=False:=eq_false h5
  rw[decide_eq_true (show (0<=loc/\loc<=24) by omega),Bool.true_and]at hT
  by_cases h6:65536<na
  .have e6:((65536:Int)<(na:Int))=True:=eq_true (by omega)
   have e6':(65536<na)=True:=eq_true (by omega)
   rw[bad (by rw[hT,decide_eq_false (show ¬(na<=65536) by omega)];rfl)]
   simp[t1,t22,t23,t24,hd,a1,a2',qe,<-hm1,s1,l2,e4,e5,hal,e6,e6']
   exact qp s2'.ext (by simp)
  have e6:((65536:Int)<(na:Int))=False:=eq_false (by omega)
  have e6':(65536<na)=False:=eq_false (by omega)
  rw[decide_eq_true (show (na<=65536) by omega),Bool.true_and]at hT
  obtain⟨q,rfl⟩:∃q:Nat,loc=q:=⟨loc.toNat,by omega⟩
  rw[qh1]at hT
  obtain⟨z,hz⟩:∃z:Int,z=(q:Int):=⟨_,rfl⟩
  rw[<-hz]at a2' s1 s2' l2 e4 e5
  simp[t1,t22,t23,t24,hd,a1,a2',qe,<-hm1,s1,l2,e4,e5,hal,e6,e6']
  refine qR (c:=DH) rfl (Ret m _) (λj t m3=>St m m3 [(m'.n,[iv q,av]),(m.n,[iv cells,tv])]/\(∀(j':Nat) x,j'<j->acts[j']?=some x->bN cells q na x=true)/\Tm.get 1 t=.pointer (some ⟨m.n,0,none⟩)/\Tm.get 4 t=.pointer (some ⟨m'.n,0,none⟩)/\Tm.get 22 t=tv/\Tm.get 23 t=iv n/\Tm.get 24 t=iv i/\Tm.get 43 t=av/\Tm.get 44 t=iv na/\Tm.get 45 t=iv j) na (by omega)
   ⟨by rw[hz]at s2';exact s2',λj nd hj=>absurd hj (Nat.not_lt_zero _),by simp[t1],by simp,by simp[t22],by simp[t23],by simp[t24],by simp,by simp,by simp⟩ (λj t m3 k3 hj hJ hk3=>?_)
  obtain⟨st3,hok3,t1,t4,t22,t23,t24,t43,t44,t45⟩:=hJ
  by_cases hjl:j<na
  .have hd:=dlt hjl
   obtain⟨a,hac⟩:∃r,acts[j]?=some r:=⟨_,qgn (by omega)⟩
   have ⟨b1,b2,_⟩:=hthok.av.at hac
   have b2':=b2 m3 st3.sees
   have haok:=hthok.acts a (qgo hac)
   have nj:=wL (i:=j) (by omega)
   obtain⟨Z,hZ⟩:∃Z:List Value,Z=[zI,zI,zI,zI,zS,zS,zS,zI,zI,zI,zI]:=⟨_,rfl⟩
   have st4:=st3.row Z
   obtain⟨m4,hm4⟩:=qhd (Dx.newRow m3 Z)
   rw[<-hm4]at st4
   have okr:∀v∈qd a,okC v=true:=by
    have o1:=haok.ix.okV
    have o2:=haok.ev.okV
    have o3:=haok.fv.okV
    intro v hv
    simp only[qd,List.mem_cons,List.not_mem_nil,or_false]at hv
    rcases hv with rfl | rfl | rfl | rfl | rfl | rfl | rfl | rfl | rfl | rfl | rfl<;>first | rfl | assumption
   obtain⟨m5,w1,w2,w3,w4⟩:=st4.fill 0 rfl (n:=11) (l':=qd a) (by rw[hZ];rfl) rfl okr
   have st5:St m m5 [(m3.n,qd a),(m'.n,[iv q,av]),(m.n,[iv cells,tv])]:=w2
   have l5a:loads m5 ⟨m3.n,0,none⟩ 11=some (qd a):=(st5.get 0 rfl).2.2.loads (n:=11) (by simp[qd])
   have l5t:loads m5 ⟨m'.n,0,none⟩ 2=some [iv q,av]:=(st5.get 1 rfl).2.2.loads (n:=2) (by simp)
   have l5p:loads m5 ⟨m.n,0,none⟩ 2=some [iv cells,tv]:=(st5.get 2 rfl).2.2.loads (n:=2) (by simp)
   obtain⟨v6,m6,c1,c2,rfl⟩:=YC q (by omega) cells tv (by omega) (by omega) av na hal a N m5 st5.sees.self.base (haok.sees st5.sees)
   have st6:=st5.step c2
   rw[hZ]at hm4
   cases hab:bN cells q na a with
   | true =>
    rw[hab]at c1
    simp[t1,t4,t43,t44,t45,hd,b1,b2',qe,<-hm4,w1,l5a,l5t,l5p,c1,nj]
    exact hk3 hjl _ _ ⟨st6.sub (by simp) (by have:=st6.nd;simp at this ⊢;exact this.2),λj' x hj' hx=>by
     by_cases hjj:j'=j
     .subst hjj;rw[hac]at hx;cases hx;exact hab
     .exact hok3 j' x (by omega) hx,by simp[t1],by simp[t4],by simp[t22],by simp[t23],by simp[t24],by simp[t43],by simp[t44],by simp⟩
   | false =>
    rw[hab]at c1
    rw[bad (by rw[hT];exact Ki hac hab)]
    simp[t1,t4,t43,t44,t45,hd,b1,b2',qe,<-hm4,w1,l5a,l5t,l5p,c1]
    exact qp st6.ext (by simp)
  .obtain rfl:j=na:=by omega
   have hd:((j:Int)<(j:Int))=False:=eq_false (by omega)
   have hth1:thB cells ⟨(q:Int),av,acts⟩=true:=by rw[hT];exact Jy λi' x hi' hx=>hok3 i' x (by omega) hx
   simp[t1,t4,t22,t23,t24,t43,t44,t45,hd,ni]
   exact hk' hil _ _ ⟨st3.sub (by simp) (by have:=st3.nd;simp at this ⊢),λj' x hj' hx=>by
    by_cases hjj:j'=i
    .subst hjj;rw[hth]at hx;cases hx;exact hth1
    .exact hok j' x (by omega) hx,by simp[t1],by simp[t22],by simp[t23],by simp⟩
 .obtain rfl:i=n:=by omega
  have hd:((i:Int)<(i:Int))=False:=eq_false (by omega)
  rw[Jy (f:=thB cells) (l:=ths) λi' x hi' hx=>hok i' x (by omega) hx]
  simp[t1,t22,t23,t24,hd]
  exact qp st.ext (by simp)
end Go.Sx
