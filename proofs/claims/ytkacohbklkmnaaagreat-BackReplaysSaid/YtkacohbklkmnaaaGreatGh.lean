/- Contracts. -/
import Derived.Test.YtkacohbklkmnaaaGreatGg
import Derived.Test.YtkacohbklkmnaaaGreatGb5
set_option linter.unusedVariables false
set_option linter.unusedSimpArgs false
set_option linter.defProp false
namespace Go.Dx
noncomputable section
def VI (m:M):Option (Value × M):=some (.map (some m.n),m.alloc (.map []))
def lkS (z:Value)(ok:Bool)(x k:Value)(m:M):Option (Value × M):=bif isInt k then ob (mapOf m x) λes=>ob (jS k es) λr=>some (found z ok r,m) else none
def mupS (x k v:Value)(m:M):Option (Value × M):=ob (vMap x) λB=>ob (dm (m.obj B)) λes=>ob (xm k v es) λes'=>some (undef,m.put B (.map es'))
@[simp] theorem mMkmap_ap (X:Ex) (t:Tm) (m:M):fm X t m=VI m:=_root_.id rfl
@[simp] theorem qh2 (z:Value) (ok:Bool) (x k:V) (X:Ex) (t:Tm) (m:M):jR z ok x k X t m=lkS z ok (x t) (k t) m:=_root_.id rfl
@[simp] theorem mMapup_ap (x k v:V) (X:Ex) (t:Tm) (m:M):fj x k v X t m=mupS (x t) (k t) (v t) m:=_root_.id rfl
theorem Ext.allocO (m:M)(o:DObj):Ext m (m.alloc o):=⟨by rw[M.n_alloc];omega,λB hB=>by rw[M.obj_alloc,qhy (by omega)],M.base_alloc _ _,M.log_alloc _ _⟩
theorem Ext.putO {m0 m:M}(h:Ext m0 m)(hb:m0.base<=m0.n){B:Nat}(hB:m0.n<=B)(o:DObj):Ext m0 (m.put B o) :=
 ⟨by rw[M.n_put];exact h.n,λX hX=>by rw[M.obj_put,qhy (by omega)];exact h.obj X hX,by rw[M.base_put,h.base],by rw[VG (by rw[h.base];omega),h.log]⟩
theorem Jt (a b:Int):QC (.int .i64 a) (.int .i64 b)=some (decide (a=b)):=by
 show (bif Nat.beq (ik .i64) (ik .i64) then some (eqI a b) else none)=_
 rw[Nat.beq_refl,cond_true,jI];by_cases h:a=b<;>simp[h]
def mz (l:List (Int × Int)):List (Value × Value):=l.map λp=>(.int .i64 p.1,.int .i64 p.2)
def fdL (k:Int):List (Int × Int)->Option Int
 | []=>none
 | p::l=>if k=p.1 then some p.2 else fdL k l
def ptL (k v:Int):List (Int × Int)->List (Int × Int)
 | []=>[(k,v)]
 | p::l=>if k=p.1 then (p.1,v)::l else p::ptL k v l
theorem KZ (k:Int):∀l,jS (.int .i64 k) (mz l)=some ((fdL k l).map λv=>Value.int .i64 v)
 | []=>rfl
 | p::l=>by
  show ob (QC (.int .i64 k) (.int .i64 p.1)) _=_;rw[Jt,qQ];by_cases h:k=p.1
  .simp[fdL,h]
  .simp only[qhw h,cond_false];show jS _ (mz l)=_;rw[KZ k l];simp[fdL,h]
theorem qbq (k v:Int):∀l,xm (.int .i64 k) (.int .i64 v) (mz l)=some (mz (ptL k v l))
 | []=>rfl
 | p::l=>by
  show ob (QC (.int .i64 k) (.int .i64 p.1)) _=_;rw[Jt,qQ];by_cases h:k=p.1
  .simp[ptL,h,mz]
  .simp only[qhw h,cond_false];show ob (xm _ _ (mz l)) _=_;rw[qbq k v l,qQ];simp[ptL,h,mz]
theorem lk_mz {m:M}{B:Nat}{l:List (Int × Int)}(h:m.obj B=some (.map (mz l)))(k:Int):lkS zI false (.map (some B)) (.int .i64 k) m=some (.int .i64 ((fdL k l).getD 0),m):=by
 show ob (dm (m.obj B)) _=_;rw[h];show ob (jS (.int .i64 k) (mz l)) _=_;rw[KZ,qQ];cases fdL k l<;>rfl
theorem lk_mz2 {m:M}{B:Nat}{l:List (Int × Int)}(h:m.obj B=some (.map (mz l)))(k:Int):lkS zI true (.map (some B)) (.int .i64 k) m=some (.tuple #[.int .i64 ((fdL k l).getD 0),.bool (fdL k l).isSome],m):=by
 show ob (dm (m.obj B)) _=_;rw[h];show ob (jS (.int .i64 k) (mz l)) _=_;rw[KZ,qQ];cases fdL k l<;>rfl
theorem KY {m:M}{B:Nat}{l:List (Int × Int)}(h:m.obj B=some (.map (mz l)))(k v:Int):mupS (.map (some B)) (.int .i64 k) (.int .i64 v) m=some (undef,m.put B (.map (mz (ptL k v l)))):=by
 show ob (dm (m.obj B)) _=_;rw[h];show ob (xm (.int .i64 k) (.int .i64 v) (mz l)) _=_;rw[qbq,qQ]
def rgL (k:Nat)(L:Nat->Int):List (Int × Int):=(List.range k).map λc:Nat=>((c:Int),L c)
theorem YM (L:Nat->Int)(c:Nat):∀(n a:Nat),fdL (c:Int) ((List.range' a n).map λc:Nat=>((c:Int),L c))=if a<=c/\c<a+n then some (L c) else none
 | 0,a=>by rw[qhy (by omega)];rfl
 | n+1,a=>by
  rw[List.range'_succ,List.map_cons,fdL,YM L c n (a+1)];by_cases h:c=a
  .subst h;simp
  .rw[qhy (by simp;omega)];by_cases h2:a+1<=c/\c<a+1+n
   .rw[qhz h2,qhz (by omega)]
   .rw[qhy h2,qhy (by omega)]
theorem fd_rg (L:Nat->Int)(c k:Nat):fdL (c:Int) (rgL k L)=if c<k then some (L c) else none:=by
 unfold rgL;rw[List.range_eq_range',YM];simp
theorem Fh (L:Nat->Int)(c:Nat)(v:Int):∀(n a:Nat),a<=c->c<a+n->ptL (c:Int) v ((List.range' a n).map λc:Nat=>((c:Int),L c))=(List.range' a n).map λx:Nat=>((x:Int),if x=c then v else L x)
 | 0,a,h1,h2=>by omega
 | n+1,a,h1,h2=>by
  rw[List.range'_succ,List.map_cons,ptL,List.map_cons];by_cases h:c=a
  .subst h;rw[qhz (by simp)];simp only[if_true]
   congr 1
   refine List.map_congr_left λx hx=>?_;rw[List.mem_range']at hx;obtain⟨i,hi,rfl⟩:=hx;rw[qhy (by omega)]
  .rw[qhy (by simp;omega),Fh L c v n (a+1) (by omega) (by omega),qhy (by omega)]
theorem qcu (L:Nat->Int)(v:Int):∀(n a:Nat),ptL ((a+n:Nat):Int) v ((List.range' a n).map λc:Nat=>((c:Int),L c))=((List.range' a n).map λc:Nat=>((c:Int),L c))++[(((a+n:Nat):Int),v)]
 | 0,a=>rfl
 | n+1,a=>by
  rw[List.range'_succ,List.map_cons,ptL,qhy (by simp;omega),show a+(n+1)=a+1+n by omega,qcu L v n (a+1)];rfl
theorem pt_rg (L:Nat->Int){c k:Nat}(v:Int)(h:c<k):ptL (c:Int) v (rgL k L)=rgL k λx=>if x=c then v else L x:=by
 unfold rgL;rw[List.range_eq_range',Fh L c v k 0 (Nat.zero_le _) (by omega)]
theorem Bn (L:Nat->Int)(k:Nat)(v:Int):ptL (k:Int) v (rgL k L)=rgL (k+1) λx=>if x=k then v else L x:=by
 unfold rgL;rw[List.range_succ,List.map_append,List.map_singleton,List.range_eq_range'];simp only[if_true];have:=qcu L v k 0;rw[Nat.zero_add]at this;rw[this]
 congr 1
 refine List.map_congr_left λx hx=>?_;rw[List.mem_range']at hx;obtain⟨i,hi,rfl⟩:=hx;rw[qhy (by omega)]
theorem QR {k:Nat}{L L':Nat->Int}(h:∀c,c<k->L c=L' c):rgL k L=rgL k L':=by
 unfold rgL;refine List.map_congr_left λx hx=>?_;rw[h x (by simpa using hx)]
end
end Go.Dx
namespace Go.Sx
open Go.Dx Go.Proofs
set_option maxRecDepth 10000
def wz (x:Int):List Value:=[.int .i64 x]
theorem iver_i (n:Nat)(l:Value)(es:List Int)(hl:es.length<=1000)(x:Int)(m:M)(hm:m.base<=m.n)(hed:Rd m l 1 wz es) :
  Dx.Call (ex Tryz.prog (n+1)) 148 [l,iv x] m λv m'=>m'=m/\∃r:Int,v=iv r/\decide (r>=0)=decide (x∈es):=by
 refine qm di0_ok (by simp) ?_;have hel:=hed.len;simp[hel];refine qq (c:=qas) rfl (Ret m _) (λi t m'=>Tm.get 0 t=l/\Tm.get 1 t=iv x/\Tm.get 7 t=iv es.length/\Tm.get 8 t=iv i/\m'=m/\∀j,j<i->es[j]?≠some x) es.length (by omega)
  ⟨by simp,by simp,by simp,by simp,by simp,by simp⟩ (λi t m' k hi hI hk=>?_)
 obtain⟨h0,h1,h7,h8,rfl,hne⟩:=hI;by_cases hil:i<es.length
 .obtain⟨e,he⟩:∃e,es[i]?=some e:=⟨_,qh5 hil⟩;have ⟨a1,a2⟩:=Rd.at1 (g:=λ(x:Int)=>iv x) hed he;have hd:=dlt hil;have w1:=qK (i:=i) (by omega);by_cases hx:x=e
  .subst hx;simp[h0,h1,h7,h8,hd,a1,a2,Sees.refl hm];refine qf (Ext.refl _) ⟨rfl,i,by simp,?_⟩;simp[qh6 he]
  .simp[h0,h1,h7,h8,hd,a1,a2,Sees.refl hm,hx,w1];refine hk hil _ _ ⟨by simp[h0],by simp[h1],by simp[h7],by simp,rfl,λj hj=>?_⟩;rcases Nat.lt_succ_iff_lt_or_eq.1 hj with h | rfl
   .exact hne j h
   .rw[he];intro e2;cases e2;exact hx rfl
 obtain rfl:i=es.length:=by omega
 simp[h7,h8];refine qf (Ext.refl _) ⟨rfl,-1,by simp,?_⟩;have:x ∉ es:=λhc=>by
  obtain⟨j,hj,e⟩:=List.getElem_of_mem hc;exact hne j hj (by rw[qh5 hj,e])
 simp[this]
theorem Xv (n:Nat)(l:Value)(es:List Int)(hl:es.length<=1000)(x:Int)(m:M)(hm:m.base<=m.n)(hed:Rd m l 1 wz es) :
  CallV (ex Tryz.prog (n+2)) 92 [l,iv x] m (.bool (decide (x∈es))):=by
 refine qm df2_ok (by simp) ?_;obtain⟨v,m1,h1,h2,rfl,r,rfl,hr⟩:=iver_i n l es hl x m hm hed;simp[h1];refine qf (Ext.refl _) ?_;simp[<-hr]
def kJ (kind:Int):List Int:=if kind=1 then [1,2,5] else if kind=2 then [1,3,5] else if kind=3 then [2,3,4,5] else []
theorem rdB3 (m:M)(l:List Int)(n:Nat)(hn:l.length=n):Rd (Dx.newRow m (l.map iv)) (.slice (some ⟨m.n,0,some 3⟩) n n) 1 wz l:=by
 have:=jx (m:=Dx.newRow m (l.flatMap wz)) (B:=m.n) (c:=3) (f:=wz) (λ_=>rfl) (l:=l) (Arr.row m _) (by rw[wL];omega);have e:l.flatMap wz=l.map iv:=by
  clear this hn
  induction l with
  | nil=>rfl
  | cons x l ih=>rw[List.flatMap_cons,ih];rfl
 rw[e,hn]at this;exact this
@[simp] theorem bslice3 (m:M) (a b c:Int):wH 1 3 (rep 3 [zI]) [(0,1,.int .i64 a),(1,1,.int .i64 b),(2,1,.int .i64 c)] m=some (.slice (some ⟨m.n,0,some 3⟩) 3 3,Dx.newRow m [iv a,iv b,iv c]):=_root_.id rfl
@[simp] theorem bslice4 (m:M) (a b c d:Int):wH 1 4 (rep 4 [zI]) [(0,1,.int .i64 a),(1,1,.int .i64 b),(2,1,.int .i64 c),(3,1,.int .i64 d)] m=some (.slice (some ⟨m.n,0,some 3⟩) 4 4,Dx.newRow m [iv a,iv b,iv c,iv d]):=_root_.id rfl
theorem qet (n:Nat)(kind:Int)(m:M)(hm:m.base<=m.n) :
  Dx.Call (ex Tryz.prog (n+1)) 93 [iv kind,zF] m λv m'=>Rd m' v 1 wz (kJ kind):=by
 refine qm df3_ok (by simp) ?_;by_cases k1:kind=1
 .subst k1;simp;exact qf (Ext.row m _) (by simp;exact rdB3 m [1,2,5] 3 rfl)
 by_cases k2:kind=2
 .subst k2;simp;exact qf (Ext.row m _) (by simp;exact rdB3 m [1,3,5] 3 rfl)
 by_cases k3:kind=3
 .subst k3;simp;exact qf (Ext.row m _) (by simp;exact rdB3 m [2,3,4,5] 4 rfl)
 .simp[k1,k2,k3];refine qf (Ext.refl _) (by simp[kJ,k1,k2,k3];exact Zr)
structure Gh where
 n:Int
 ev:Value
 rf:Value
 co:Value
 rm:Value
 ad:Value
 dt:Value
 ct:Value
def ghL (h:Gh):List Value:=[iv h.n,h.ev,h.rf,h.co,h.rm,h.ad,h.dt,h.ct]
structure Gp where
 ev:List Ev5
 rf:List (Int × Int)
 co:List (List Int)
 rm:List (Int × Int)
 ad:List (Int × Int)
 dt:List (Int × Int)
 ct:List (Int × Int)
structure GOK (m:M)(h:Gh)(g:Gp):Prop where
 ev:Rd m h.ev 5 qh g.ev
 rf:Rd m h.rf 2 qn g.rf
 co:∃sv:Nat->Value,Rd m h.co 1 (λv=>[v]) ((List.range g.co.length).map sv)/\∀c l,g.co[c]?=some l->Rd m (sv c) 1 wz l
 rm:Rd m h.rm 2 qn g.rm
 ad:Rd m h.ad 2 qn g.ad
 dt:Rd m h.dt 2 qn g.dt
 ct:Rd m h.ct 2 qn g.ct
theorem GOK.sees {m m':M}{h:Gh}{g:Gp}(H:GOK m h g)(k:Sees m m'):GOK m' h g:=by
 obtain⟨sv,h1,h3⟩:=H.co;exact⟨H.ev.sees k,H.rf.sees k,⟨sv,h1.sees k,λc l hc=>(h3 c l hc).sees k⟩,H.rm.sees k,H.ad.sees k,H.dt.sees k,H.ct.sees k⟩
structure LK (m:M)(L:Nat)(h:Gh)(nx:Value):Prop where
 lt:L<m.n
 ld:∀o s,load1 m ⟨L,o,s⟩=(ghL h++[zF,nx])[o]?
theorem LK.sees {m m':M}{L:Nat}{h:Gh}{nx:Value}(H:LK m L h nx)(k:Sees m m'):LK m' L h nx :=
 ⟨qha H.lt k.n,λo s=>by rw[wi k H.lt];exact H.ld o s⟩
def isB (EV:List Ev5)(w kd:Int):Bool:=decide (0<=w)&&(match EV[w.toNat]? with
 | some e=>decide (e.kind=kd)
 | none=>false)
theorem is_c (n:Nat){m:M}(hm:m.base<=m.n){L:Nat}{h:Gh}{nx:Value}{EV:List Ev5}(H:LK m L h nx)(hev:Rd m h.ev 5 qh EV)(hl:EV.length<=1000)(w kd:Int) :
  CallV (ex Tryz.prog (n+1)) 94 [.pointer (some ⟨L,0,none⟩),iv w,iv kd] m (.bool (isB EV w kd)):=by
 refine qm df4_ok (by simp) ?_;have hel:=hev.len;have l1:load1 m ⟨L,1,none⟩=some h.ev:=H.ld 1 none;by_cases hw:0<=w
 .obtain⟨i,rfl⟩:∃i:Nat,w=(i:Int):=⟨w.toNat,by omega⟩;by_cases hil:i<EV.length
  .obtain⟨e,he⟩:∃e,EV[i]?=some e:=⟨_,qh5 hil⟩;have ⟨a1,a2,a3⟩:=hev.at he;have a3':load1 m ⟨(adr 5 h.ev i).block,(adr 5 h.ev i).off+1,none⟩=some (iv e.kind):=by rw[a3 m 1 none (Sees.refl hm) (by simp[qh])];rfl
   have hd:=dlt hil;simp[l1,hel,hd,a1,a3'];exact qf (Ext.refl _) (by simp[isB,he])
  .have hd:((i:Int)<EV.length)=False:=qi0 (by omega);have:EV[i]?=none:=qhs (by omega);simp[l1,hel,hd];exact qf (Ext.refl _) (by simp[isB,this])
 .have hw':(w>=0)=False:=qi0 hw;simp[hw'];exact qf (Ext.refl _) (by simp[isB,hw])
def bU (P:Prop):Value->M->Prop:=λv _=>∃r:Int,v=iv r/\(r<0 ↔ P)
def KK (e:Ev5):Bool:=decide (0<=e.th)&&decide (e.th<64)&&decide (e.mode∈kJ e.kind)
def lcB (N:Int)(e:Ev5):Bool:=if e.kind=3 then decide (e.loc=-1)&&decide (e.val.1=0) else decide (0<=e.loc)&&decide (e.loc<N)
def evB (N:Int)(e:Ev5):Bool:=KK e&&lcB N e
abbrev Wf:List Value:=[zI,zI,zI,zU,zI]
section
variable {m:M}{L:Nat}{h:Gh}{nx:Value}{EV:List Ev5}
theorem KN (hm:m.base<=m.n)(H:LK m L h nx){e:Ev5}{A:Nat}(hA:A<m.n)(hr:∀o,o<5->load1 m ⟨A,o,none⟩=(qh e)[o]?){x:Ex}{kn kr:K}{ke:Nat->K}{Q:Option Out->Prop}{t:Tm}{b:Bool}{z:Int}
  (h0:Tm.get 0 t=.pointer (some ⟨L,0,none⟩)) (h3:Tm.get 3 t=iv z) (h4:Tm.get 4 t=.pointer (some ⟨A,0,none⟩)) (h5:Tm.get 5 t=.bool b)
  (HT:(b&&lcB h.n e)=true->∀t' m',Ext m m'->Tm.get 0 t'=.pointer (some ⟨L,0,none⟩)->Tm.get 3 t'=iv z->Q (kn t' m'))
  (HF:(b&&lcB h.n e)=false->∀t' m',Ext m m'->Tm.get 2 t'=iv z->Q (kr t' m')) :
  Q (DW x kn ke kr t m):=by
 have y0:load1 m ⟨L,0,none⟩=some (iv h.n):=H.ld 0 none;have y1:load1 m ⟨A,1,none⟩=some (iv e.kind):=hr 1 (by omega);have y2:load1 m ⟨A,2,none⟩=some (iv e.loc):=hr 2 (by omega);have y3:load1 m ⟨A,3,none⟩=some (uv e.val.1):=hr 3 (by omega);by_cases hk:e.kind=3
 .cases b with
  | false =>
   simp[y1,hk,h3,h4,h5];exact HF rfl _ _ (Ext.refl _) (by simp)
  | true =>
   by_cases hl:e.loc=-1
   .by_cases hv:e.val.1=0
    .have hv':((e.val.1:Nat):Int)=0:=by omega
     simp[y1,hk,h4,h5,y2,y3,hl,hv];exact HT (by simp[lcB,hk,hl,hv]) _ _ (Ext.refl _) (by simp[h0]) (by simp[h3])
    .have hv':(((e.val.1:Nat):Int)=0)=False:=qi0 (by omega);simp[y1,hk,h3,h4,h5,y2,y3,hl,hv];exact HF (by simp[lcB,hk,hl,hv]) _ _ (Ext.refl _) (by simp)
   .simp[y1,hk,h3,h4,h5,y2,hl];exact HF (by simp[lcB,hk,hl]) _ _ (Ext.refl _) (by simp)
 .cases b with
  | false =>
   simp[y1,hk,h3,h4,h5];exact HF rfl _ _ (by simp) (by simp)
  | true =>
   by_cases hl:0<=e.loc
   .have hl':(e.loc>=0)=True:=qi1 hl;by_cases hv:e.loc<h.n
    .simp[y1,hk,h0,h4,h5,y0,y2,hl,hv,meets];exact HT (by simp[lcB,hk,hl,hv]) _ _ (by simp) (by simp[h0]) (by simp[h3])
    .simp[y1,hk,h0,h3,h4,h5,y0,y2,hl,hv,meets];exact HF (by simp[lcB,hk,hl,hv]) _ _ (by simp) (by simp)
   .have hl':(e.loc>=0)=False:=qi0 hl;simp[y1,hk,h3,h4,h5,y2,hl,meets];exact HF (by simp[lcB,hk,hl]) _ _ (by simp) (by simp)
theorem jP (e:Ev5):∀v∈qh e,okC v=true:=by simp[qh,okC]
theorem VK (k:Int):(kJ k).length<=1000:=by unfold kJ;split<;>(try split)<;>(try split)<;>simp
theorem qb5 (n:Nat)(hm:m.base<=m.n)(H:LK m L h nx)(hev:Rd m h.ev 5 qh EV){N:Nat}(hN:h.n=N)(hn1:N<=EV.length)(hn2:EV.length<=256) :
  Dx.Call (ex Tryz.prog (n+3)) 48 [.pointer (some ⟨L,0,none⟩)] m (bU (∀i e,N<=i->EV[i]?=some e->evB N e=true)):=by
 refine qm dc5_ok (by simp) ?_;have l0:load1 m ⟨L,0,none⟩=some (iv N):=by rw[<-hN];exact H.ld 0 none
 have hel:=hev.len;simp[l0];refine qq (c:=DV) rfl (Ret m _) (λi t m'=>Tm.get 0 t=.pointer (some ⟨L,0,none⟩)/\Tm.get 3 t=iv (N+i:Nat)/\Ext m m'/\∀j e,N<=j->j<N+i->EV[j]?=some e->evB N e=true) (EV.length-N) (by omega)
  ⟨by simp,by simp,Ext.refl _,λj e h1 h2=>by omega⟩ (λi t m' k hi hI hk=>?_)
 obtain⟨h0,h3,hE,hB⟩:=hI;obtain⟨z,hz⟩:=qi4 (N+i);rw[<-hz]at h3 hB;have hS:=(Sees.refl hm).ext hE;have L':=H.sees hS;have k1:load1 m' ⟨L,1,none⟩=some h.ev:=L'.ld 1 none;by_cases hil:z<EV.length
 .obtain⟨e,he⟩:∃e,EV[z]?=some e:=⟨_,qh5 hil⟩;have ⟨a1,a2,a3⟩:=(hev.sees hS).at he;have a2':loads m' (adr 5 h.ev z) 5=some (qh e):=a2 m' hS.self;have hd:=dlt hil;have w1:=qK (i:=z) (by omega);obtain⟨m2,s1,s2,s3,s4,s5⟩:=wK (m:=m') hS.base (zs:=Wf) (l:=qh e) (v:=.agg ⟨qh e⟩) (n:=5) rfl rfl rfl (jP e);have hE2:Ext m m2:=hE.trans s4;have hS2:=(Sees.refl hm).ext hE2;have L2:=H.sees hS2;have b0:load1 m2 ⟨m'.n,0,none⟩=some (iv e.th):=by rw[s2];rfl
  have b1:load1 m2 ⟨m'.n,1,none⟩=some (iv e.kind):=by rw[s2];rfl
  have b8:load1 m2 ⟨L,8,none⟩=some zF:=L2.ld 8 none;have hlt:i<EV.length-N:=by rw[hz]at hil;omega
  have w3:((z:Int)+1)=((N+(i+1):Nat):Int):=by rw[hz];omega
  have hgo:∀(m6:M),Ext m2 m6->m6.base<=m6.n/\LK m6 L h nx/\m'.n<m6.n/\(∀o,o<5->load1 m6 ⟨m'.n,o,none⟩=(qh e)[o]?)/\Ext m m6:=by
   intro m6 E6;have S6:Sees m2 m6:=(Sees.refl hS2.base).ext E6;exact⟨S6.base,L2.sees S6,qha s5 E6.n,λo ho=>by rw[wi S6 s5,s2],hE2.trans E6⟩
  have hyes:evB N e=true->∀j e,N<=j->j<N+(i+1)->EV[j]?=some e->evB N e=true:=by
   intro hb j e2 u1 u2 u3;by_cases hj:j<z
   .exact hB j e2 u1 hj u3
   .have hjz:j=z:=by omega
    rw[hjz,he]at u3;cases u3;exact hb
  have hno:evB N e=false->(((z:Int)<0) ↔ ∀i e,N<=i->EV[i]?=some e->evB N e=true):=by
   intro hb;constructor
   .intro hc;omega
   .intro hc;rw[hc z e (by omega) he]at hb;cases hb
  by_cases o1:0<=e.th
  .have o1':(e.th>=0)=True:=qi1 o1;by_cases o2:e.th<64
   .obtain⟨v3,m3,c1,c2,c3⟩:=qet (n+1) e.kind (ql m2) (by simp;rw[qW];exact qh8 _);have c4:Ext m2 (behind m2 m3):=c2.behind;obtain⟨M3,hM3⟩:=qi4 (behind m2 m3);have hS3:Sees m2 M3:=(Sees.refl hS2.base).ext (by rw[hM3];exact c4);have d4:load1 M3 ⟨m'.n,4,none⟩=some (iv e.mode):=by rw[wi hS3 s5,s2];rfl
    have d4':load1 m3 ⟨m'.n,4,none⟩=some (iv e.mode):=by rw[hM3]at d4;simpa using d4
    simp[h0,h3,k1,hel,hd,a1,qb,a2',s1,b0,b1,b8,o1,o2,c1,d4',c2.log,meets,FP.meet,-fO];have hb4:(ql (behind m2 m3)).base<=(ql (behind m2 m3)).n:=by rw[qW,qt];exact qh8 _
    have r4:Rd (ql (behind m2 m3)) v3 1 wz (kJ e.kind):=c3.congr (by rw[qt,wj];exact qh8 _) λX _=>by rw[qx,qB]
    obtain⟨v4,m4,f1,f2,rfl⟩:=Xv n v3 (kJ e.kind) (VK _) e.mode _ hb4 r4;obtain⟨m6,hm6⟩:=qi4 (behind (behind m2 m3) m4);have E6:Ext m2 m6:=by rw[hm6];exact c4.trans f2.behind
    obtain⟨q1,q2,q3,q4,q5⟩:=hgo m6 E6;simp[f1,f2.log,meets,-fO];rw[<-hm6];have hb:KK e=decide (e.mode∈kJ e.kind):=by unfold KK;rw[qhx o1,qhx o2];rfl
    refine KN q1 q2 q3 q4 (b:=decide (e.mode∈kJ e.kind)) (z:=(z:Int)) (by simp[h0]) (by simp[h3]) (by simp) (by simp) (λhc t' m7 E7 g0 g3=>?_) (λhc t' m7 E7 g2=>?_)
    .rw[<-hb,hN]at hc;simp[g3,w1];exact hk hlt _ _ ⟨by simp[g0],by simp;exact w3,q5.trans E7,hyes hc⟩
    .rw[<-hb,hN]at hc;exact qf (q5.trans E7) ⟨z,g2,hno hc⟩
   .simp[h0,h3,k1,hel,hd,a1,qb,a2',s1,b0,o1,o2,meets,-fO];refine KN (b:=false) (z:=(z:Int)) (hgo _ ?_).1 (hgo _ ?_).2.1 (hgo _ ?_).2.2.1 (hgo _ ?_).2.2.2.1 (by simp[h0]) (by simp[h3]) (by simp) (by simp) (λhc=>by cases hc) (λhc t' m7 E7 g2=>qf ((hgo _ ?_).2.2.2.2.trans E7) ⟨z,g2,hno (by simp[evB,KK,o1,o2])⟩)<;>simp
  .have o1':(e.th>=0)=False:=qi0 o1;simp[h0,h3,k1,hel,hd,a1,qb,a2',s1,b0,o1,meets,-fO];refine KN (b:=false) (z:=(z:Int)) (hgo _ ?_).1 (hgo _ ?_).2.1 (hgo _ ?_).2.2.1 (hgo _ ?_).2.2.2.1 (by simp[h0]) (by simp[h3]) (by simp) (by simp) (λhc=>by cases hc) (λhc t' m7 E7 g2=>qf ((hgo _ ?_).2.2.2.2.trans E7) ⟨z,g2,hno (by simp[evB,KK,o1])⟩)<;>simp
 have:z=EV.length:=by omega
 simp[h0,h3,k1,hel,this];exact qf hE ⟨-1,by simp,⟨λ_ i e h1 h2=>hB i e h1 (by rw[this];exact (qh7.1 h2).1) h2,λ_=>by decide⟩⟩
end
def nR (EV:List Ev5)(i:Nat):Nat:=(EV.take i).countP λe=>decide (e.kind=1)
theorem take_at {α:Type}{l:List α}{i:Nat}{e:α}(h:l[i]?=some e):l.take (i+1)=l.take i++[e]:=by
 rw[List.take_add_one,h];rfl
theorem YU {EV:List Ev5}{i:Nat}{e:Ev5}(h:EV[i]?=some e):nR EV (i+1)=nR EV i+(if e.kind=1 then 1 else 0):=by
 unfold nR;rw[take_at h,List.countP_append,List.countP_singleton];simp
theorem nR_le (EV:List Ev5)(i:Nat):nR EV i<=i:=by
 unfold nR;exact qhh List.countP_le_length (by simp;omega)
def qd8 (EV:List Ev5)(p:Int × Int)(e:Ev5):Bool:=match EV[p.1.toNat]? with
 | some w=>decide (w.loc=e.loc)&&decide (w.val.1=e.val.1)
 | none=>false
def rdB (EV:List Ev5)(RF:List (Int × Int))(i:Nat)(e:Ev5):Bool:=match RF[nR EV i]? with
 | none=>false
 | some p=>decide (p.2=i)&&isB EV p.1 2&&qd8 EV p e
def rfP (EV:List Ev5)(RF:List (Int × Int)):Prop:=(∀i e,EV[i]?=some e->e.kind=1->rdB EV RF i e=true)/\RF.length=nR EV EV.length
section
variable {m:M}{L:Nat}{h:Gh}{nx:Value}{EV:List Ev5}{RF:List (Int × Int)}
theorem rf_c (n:Nat)(hm:m.base<=m.n)(H:LK m L h nx)(hev:Rd m h.ev 5 qh EV)(hrf:Rd m h.rf 2 qn RF)(hn2:EV.length<=256) :
  Dx.Call (ex Tryz.prog (n+2)) 49 [.pointer (some ⟨L,0,none⟩)] m (bU (rfP EV RF)):=by
 refine qm dc6_ok (by simp) ?_;have l1:load1 m ⟨L,1,none⟩=some h.ev:=H.ld 1 none;have hel:=hev.len;have hrl:=hrf.len;simp[l1,hel];refine qq (c:=DX) rfl (Ret m _) (λi t m'=>Tm.get 0 t=.pointer (some ⟨L,0,none⟩)/\Tm.get 3 t=iv (nR EV i)/\Tm.get 11 t=h.ev/\Tm.get 12 t=iv EV.length/\Tm.get 13 t=iv i/\Ext m m'/\nR EV i<=RF.length/\∀j e,j<i->EV[j]?=some e->e.kind=1->rdB EV RF j e=true) EV.length (by omega)
  ⟨by simp,by simp[nR],by simp,by simp,by simp,Ext.refl _,by simp[nR],λj e hj=>by omega⟩ (λi t m' k hi hI hk=>?_)
 obtain⟨h0,h3,h11,h12,h13,hE,hle,hB⟩:=hI;have hS:=(Sees.refl hm).ext hE;have L':=H.sees hS;have k2:load1 m' ⟨L,2,none⟩=some h.rf:=L'.ld 2 none;have hnr:=nR_le EV i;by_cases hil:i<EV.length
 .obtain⟨e,he⟩:∃e,EV[i]?=some e:=⟨_,qh5 hil⟩;have ⟨a1,a2,a3⟩:=(hev.sees hS).at he;have a2':loads m' (adr 5 h.ev i) 5=some (qh e):=a2 m' hS.self;have hd:=dlt hil;have w1:=qK (i:=i) (by omega);obtain⟨m2,s1,s2,s3,s4,s5⟩:=wK (m:=m') hS.base (zs:=Wf) (l:=qh e) (v:=.agg ⟨qh e⟩) (n:=5) rfl rfl rfl (jP e);have s1':ww 5 (.pointer (some ⟨m'.n,0,none⟩)) (.agg ⟨qh e⟩) (Dx.newRow m' [zI,zI,zI,zU,zI])=some (undef,m2):=s1;have b1:load1 m2 ⟨m'.n,1,none⟩=some (iv e.kind):=by rw[s2];rfl
  have hns:=YU he;have hyes:(e.kind=1->rdB EV RF i e=true)->∀j e,j<i+1->EV[j]?=some e->e.kind=1->rdB EV RF j e=true:=by
   intro hb j e2 u1 u2 u3;by_cases hj:j<i
   .exact hB j e2 hj u2 u3
   .have hji:j=i:=by omega
    subst hji;rw[he]at u2;cases u2;exact hb u3
  have hno:e.kind=1->rdB EV RF i e=false->(((nR EV i:Nat):Int)<0 ↔ rfP EV RF):=by
   intro hk1 hb;constructor
   .intro hc;omega
   .intro hc;rw[hc.1 i e he hk1]at hb;cases hb
  by_cases hk1:e.kind=1
  .rw[qhz hk1]at hns;have hE2:Ext m m2:=hE.trans s4;have hS2:=(Sees.refl hm).ext hE2;have L2:=H.sees hS2;have r2:load1 m2 ⟨L,2,none⟩=some h.rf:=L2.ld 2 none;by_cases hlt:nR EV i<RF.length
   .obtain⟨⟨w,q⟩,q1⟩:∃p,RF[nR EV i]?=some p:=⟨_,qh5 hlt⟩;have ⟨p1,p2,p3⟩:=(hrf.sees hS2).at q1;have p30:load1 m2 ⟨(adr 2 h.rf (nR EV i)).block,(adr 2 h.rf (nR EV i)).off,none⟩=some (iv w):=by have:=p3 m2 0 none hS2.self (by simp[qn]);exact this
    have p31:load1 m2 ⟨(adr 2 h.rf (nR EV i)).block,(adr 2 h.rf (nR EV i)).off+1,none⟩=some (iv q):=by rw[p3 m2 1 none hS2.self (by simp[qn])];rfl
    have hd2:((nR EV i:Int)=RF.length)=False:=qi0 (by omega);by_cases hq:q=i
    .obtain⟨v3,m3,c2,c3,rfl⟩:=is_c n hS2.base L2 (hev.sees hS2) (by omega) w 2;have hE3:Ext m m3:=hE2.trans c3;have hS3:=(Sees.refl hm).ext hE3;have L3:=H.sees hS3;by_cases hw:isB EV w 2=true
     .rw[hw]at c2;have hw0:0<=w:=by unfold isB at hw;rw[qhb,qi3]at hw;exact hw.1
      obtain⟨x,rfl⟩:∃x:Nat,w=(x:Int):=⟨w.toNat,by omega⟩;obtain⟨ew,q2⟩:∃ew,EV[x]?=some ew:=by
       unfold isB at hw;rw[qhb]at hw;have hw:=hw.2;rw[qhj]at hw;cases hx:EV[x]? with
       | none=>rw[hx]at hw;cases hw
       | some ew=>exact⟨ew,rfl⟩
      have u2:load1 m3 ⟨L,2,none⟩=some h.rf:=L3.ld 2 none;have u1:load1 m3 ⟨L,1,none⟩=some h.ev:=L3.ld 1 none;have p30':load1 m3 ⟨(adr 2 h.rf (nR EV i)).block,(adr 2 h.rf (nR EV i)).off,none⟩=some (iv x):=by have:=((hrf.sees hS3).at q1).2.2 m3 0 none hS3.self (by simp[qn]);exact this
      have ⟨g1,g2,g3⟩:=(hev.sees hS3).at q2;have g2':loads m3 (adr 5 h.ev x) 5=some (qh ew):=g2 m3 hS3.self;have st3:=(St.nil hS3.base (Ext.refl m3)).row Wf;obtain⟨m4,t1,t2,t3,t4,t5⟩:=st3.fillAny 0 rfl (n:=5) (l':=qh ew) (by omega) rfl rfl (jP ew);have t1':ww 5 (.pointer (some ⟨m3.n,0,none⟩)) (.agg ⟨qh ew⟩) (ql (Dx.newRow m3 [zI,zI,zI,zU,zI]))=some (undef,m4):=t1;simp[h0,h3,h11,h12,h13,hd,a1,qb,a2',s1',b1,hk1,r2,hrl,hd2,p1,p31,hq,p30,c2,u1,u2,p30',g1,g2',t1',t2,-wD];obtain⟨m5,hm5⟩:=qi4 (behind (Dx.newRow m3 Wf) m4);have t3':St m3 m5 [(m3.n,qh ew)]:=by rw[hm5];exact t3
      have E5:Ext m m5:=hE3.trans t3'.ext;have S25:Sees m2 m5:=(Sees.refl hS2.base).ext (c3.trans t3'.ext);have v2:load1 m5 ⟨m3.n,2,none⟩=some (iv ew.loc):=(t3'.get 0 rfl).2.2.load1 2 none;have v3:load1 m5 ⟨m3.n,3,none⟩=some (uv ew.val.1):=(t3'.get 0 rfl).2.2.load1 3 none;have v4:load1 m5 ⟨m'.n,2,none⟩=some (iv e.loc):=by rw[wi S25 s5,s2];rfl
      have v5:load1 m5 ⟨m'.n,3,none⟩=some (uv e.val.1):=by rw[wi S25 s5,s2];rfl
      rw[<-hm5];have w2:=qK (i:=nR EV i) (by omega);have hrd:rdB EV RF i e=(decide (ew.loc=e.loc)&&decide (ew.val.1=e.val.1)):=by
       unfold rdB qd8;rw[q1];simp only[qhj,q2,hq,hw,decide_true,Bool.true_and]
      by_cases hl:ew.loc=e.loc
      .by_cases hv:ew.val.1=e.val.1
       .have hv':(((ew.val.1:Nat):Int)=(e.val.1:Nat))=True:=qi1 (by omega);simp[v2,v3,v4,v5,hl,hv,h3,w2,h13,w1];exact hk hil _ _ ⟨by simp[h0],by simp[hns],by simp[h11],by simp[h12],by simp,E5,by omega,hyes λ_=>by rw[hrd];simp[hl,hv]⟩
       .have hv':(((ew.val.1:Nat):Int)=(e.val.1:Nat))=False:=qi0 (by omega);simp[v2,v3,v4,v5,hl,hv',h3];exact qf E5 ⟨_,by simp,hno hk1 (by rw[hrd];simp[hl,hv])⟩
      .simp[v2,v4,hl,h3];exact qf E5 ⟨_,by simp,hno hk1 (by rw[hrd];simp[hl])⟩
     .have hwf:isB EV w 2=false:=by simpa using hw
      rw[hwf]at c2;simp[h0,h3,h11,h12,h13,hd,a1,qb,a2',s1',b1,hk1,r2,hrl,hd2,p1,p31,hq,p30,c2];exact qf hE3 ⟨_,by simp,hno hk1 (by unfold rdB;rw[q1];simp only[hwf,Bool.and_false,Bool.false_and])⟩
    .simp[h0,h3,h11,h12,h13,hd,a1,qb,a2',s1',b1,hk1,r2,hrl,hd2,p1,p31,hq];exact qf hE2 ⟨_,by simp,hno hk1 (by unfold rdB;rw[q1];simp[hq])⟩
   .have hd2:((nR EV i:Int)=RF.length)=True:=qi1 (by omega);simp[h0,h3,h11,h12,h13,hd,a1,qb,a2',s1',b1,hk1,r2,hrl,hd2];refine qf hE2 ⟨((nR EV i:Nat):Int),by simp,hno hk1 (by unfold rdB;rw[qhs (by omega)])⟩
  .rw[qhy hk1,Nat.add_zero]at hns;simp[h11,h12,h13,hd,a1,qb,a2',s1',b1,hk1,w1];exact hk hil _ _ ⟨by simp[h0],by simp[hns,h3],by simp[h11],by simp[h12],by simp,hE.trans s4,by omega,hyes λhc=>absurd hc hk1⟩
 obtain rfl:i=EV.length:=by omega
 by_cases hl:nR EV EV.length<RF.length
 .have hd2:=dlt hl;simp[h0,h3,h12,h13,k2,hrl,hd2];exact qf hE ⟨((nR EV EV.length:Nat):Int),by simp[h3],⟨λhc=>by omega,λhc=>by have:=hc.2;omega⟩⟩
 .have hd2:((nR EV EV.length:Int)<RF.length)=False:=qi0 (by omega);simp[h0,h3,h12,h13,k2,hrl,hd2];exact qf hE ⟨-1,by simp,⟨λ_=>⟨λi e he=>hB i e (qh7.1 he).1 he,by omega⟩,λ_=>by decide⟩⟩
end
theorem zl {EV:List Ev5}{w kd:Int}(h:isB EV w kd=true):∃(x:Nat) (e:Ev5),w=x/\EV[x]?=some e/\e.kind=kd:=by
 unfold isB at h;rw[qhb,qi3]at h;obtain⟨h1,h2⟩:=h;cases hx:EV[w.toNat]? with
 | none=>rw[hx]at h2;cases h2
 | some e=>rw[hx]at h2;exact⟨w.toNat,e,by omega,hx,qi2 h2⟩
def fw (l:List (Int × Int))(i:Nat)(p:Int × Int):Bool:=match i with
 | 0=>true
 | i+1=>match l[i]? with
  | some q=>decide (q.1<p.1)
  | none=>false
def dj (EV:List Ev5)(p:Int × Int):Bool:=match EV[p.1.toNat]?,EV[p.2.toNat]? with
 | some a,some b=>decide (a.loc=b.loc)
 | _,_=>false
def nxB (NX:List Int)(p:Int × Int):Bool:=match NX[p.1.toNat]? with
 | some x=>decide (x=p.2)
 | none=>false
def rmB (EV:List Ev5)(NX:List Int)(RM:List (Int × Int))(i:Nat)(p:Int × Int):Bool:=fw RM i p&&(isB EV p.1 1&&(isB EV p.2 2&&(nxB NX p&&dj EV p)))
def rmP (EV:List Ev5)(NX:List Int)(RM:List (Int × Int)):Prop:=∀i p,RM[i]?=some p->rmB EV NX RM i p=true
section
variable {m:M}{L:Nat}{h:Gh}{nx:Value}{EV:List Ev5}{RM:List (Int × Int)}{NX:List Int}
theorem rmw_c (n:Nat)(hm:m.base<=m.n)(H:LK m L h nx)(hev:Rd m h.ev 5 qh EV)(hrm:Rd m h.rm 2 qn RM)(hrl:RM.length<=4611686018427387904)(hnx:Rd m nx 1 wz NX)(hnl:NX.length=EV.length)(hn2:EV.length<=256) :
  Dx.Call (ex Tryz.prog (n+2)) 51 [.pointer (some ⟨L,0,none⟩)] m (bU (rmP EV NX RM)):=by
 refine qm dc8_ok (by simp) ?_;have l4:load1 m ⟨L,4,none⟩=some h.rm:=H.ld 4 none;have hln:=hrm.len;simp[l4,hln];refine qq (c:=qa0) rfl (Ret m _) (λi t m'=>Tm.get 0 t=.pointer (some ⟨L,0,none⟩)/\Tm.get 9 t=h.rm/\Tm.get 10 t=iv RM.length/\Tm.get 11 t=iv i/\Ext m m'/\∀j p,j<i->RM[j]?=some p->rmB EV NX RM j p=true) RM.length (by omega)
  ⟨by simp,by simp,by simp,by simp,Ext.refl _,λj p hj=>by omega⟩ (λi t m' k hi hI hk=>?_)
 obtain⟨h0,h9,h10,h11,hE,hB⟩:=hI;have hS:=(Sees.refl hm).ext hE;by_cases hil:i<RM.length
 .obtain⟨⟨a,b⟩,he⟩:∃p,RM[i]?=some p:=⟨_,qh5 hil⟩;have ⟨a1,a2,a3⟩:=(hrm.sees hS).at he;have a2':loads m' (adr 2 h.rm i) 2=some (qn (a,b)):=a2 m' hS.self;have hd:=dlt hil;have w1:=qK (i:=i) (by omega);obtain⟨m2,s1,s2,s3,s4,s5⟩:=wK (m:=m') hS.base (zs:=[zI,zI]) (l:=qn (a,b)) (v:=.agg ⟨qn (a,b)⟩) (n:=2) rfl rfl rfl (zm _);have hE2:Ext m m2:=hE.trans s4;have hS2:=(Sees.refl hm).ext hE2;have L2:=H.sees hS2;have b0:∀M3,Ext m2 M3->load1 M3 ⟨m'.n,0,none⟩=some (iv a)/\load1 M3 ⟨m'.n,1,none⟩=some (iv b):=λM3 E3=>by
   have S3:=(Sees.refl hS2.base).ext E3;rw[wi S3 s5,wi S3 s5,s2,s2];exact⟨rfl,rfl⟩
  have b00:=(b0 m2 (Ext.refl _)).1;have b01:=(b0 m2 (Ext.refl _)).2;have hyes:rmB EV NX RM i (a,b)=true->∀j p,j<i+1->RM[j]?=some p->rmB EV NX RM j p=true:=by
   intro hb j e2 u1 u2;by_cases hj:j<i
   .exact hB j e2 hj u2
   .have hji:j=i:=by omega
    rw[hji,he]at u2;cases u2;rw[hji];exact hb
  have hno:rmB EV NX RM i (a,b)=false->(((i:Nat):Int)<0 ↔ rmP EV NX RM):=by
   intro hb;constructor
   .intro hc;omega
   .intro hc;rw[hc i _ he]at hb;cases hb
  obtain⟨v3,m3,c1,c1e,rfl⟩:=is_c n (m:=ql m2) (by rw[qt,qW];exact qh8 _) (L2.sees (qp hS2.self)) ((hev.sees hS2).sees (qp hS2.self)) (by omega) a 1;have E3:Ext m2 (behind m2 m3):=c1e.behind;have S3:Sees m (behind m2 m3):=(Sees.refl hm).ext (hE2.trans E3);obtain⟨v4,m4,c2,c2e,rfl⟩:=is_c n (m:=ql (behind m2 m3)) (by rw[qt,qW];exact qh8 _) ((H.sees S3).sees (qp S3.self)) ((hev.sees S3).sees (qp S3.self)) (by omega) b 2;have E4:Ext m2 (behind (behind m2 m3) m4):=E3.trans c2e.behind;have S4:Sees m (behind (behind m2 m3) m4):=(Sees.refl hm).ext (hE2.trans E4);have b1:load1 m3 ⟨m'.n,1,none⟩=some (iv b):=by have:=(b0 _ E3).2;simpa using this
  have x9:load1 m4 ⟨L,9,none⟩=some nx:=by have:load1 (behind (behind m2 m3) m4) ⟨L,9,none⟩=some nx:=(H.sees S4).ld 9 none;simpa using this
  have x1:load1 m4 ⟨L,1,none⟩=some h.ev:=by have:load1 (behind (behind m2 m3) m4) ⟨L,1,none⟩=some h.ev:=(H.sees S4).ld 1 none;simpa using this
  have y0:load1 m4 ⟨m'.n,0,none⟩=some (iv a):=by have:=(b0 _ E4).1;simpa using this
  have y1:load1 m4 ⟨m'.n,1,none⟩=some (iv b):=by have:=(b0 _ E4).2;simpa using this
  have hlog3:=c1e.log;have hlog4:=c2e.log;by_cases hi0:i=0
  .have hgt:(0<i)=False:=qi0 (by omega);have hord:fw RM i (a,b)=true:=by rw[hi0];rfl
   by_cases k1:isB EV a 1=true
   .rw[k1]at c1;by_cases k2:isB EV b 2=true
    .rw[k2]at c2;obtain⟨x,ea,rfl,ha1,ha2⟩:=zl k1;obtain⟨y,eb,rfl,hb1,hb2⟩:=zl k2;obtain⟨q,hq⟩:∃q,NX[x]?=some q:=⟨_,qh5 (by rw[hnl];exact (qh7.1 ha1).1)⟩;have ⟨d1,d2⟩:=Rd.at1 (g:=λ(x:Int)=>iv x) (hnx.sees S4) hq;have d2':load1 m4 (adr 1 nx x)=some (iv q):=by have:=d2 _ S4.self;simpa using this
     have ⟨e1,_,e3⟩:=(hev.sees S4).at ha1;have ⟨f1,_,f3⟩:=(hev.sees S4).at hb1;have e3':load1 m4 ⟨(adr 5 h.ev x).block,(adr 5 h.ev x).off+2,none⟩=some (iv ea.loc):=by have:=e3 _ 2 none S4.self (by simp[qh]);rw[show (qh ea)[2]?=some (iv ea.loc) from rfl]at this;simpa using this
     have f3':load1 m4 ⟨(adr 5 h.ev y).block,(adr 5 h.ev y).off+2,none⟩=some (iv eb.loc):=by have:=f3 _ 2 none S4.self (by simp[qh]);rw[show (qh eb)[2]?=some (iv eb.loc) from rfl]at this;simpa using this
     have hrb:rmB EV NX RM i ((x:Int),(y:Int))=(decide (q=(y:Int))&&decide (ea.loc=eb.loc)):=by unfold rmB nxB dj;simp only[qhj,hq,ha1,hb1,k1,k2,hord,Bool.true_and]
     by_cases k3:q=(y:Int)
     .by_cases k4:ea.loc=eb.loc
      .simp[h0,h9,h10,h11,hd,a1,qb,a2',s1,b00,hgt,hlog3,c1,b1,c2,hlog4,x9,x1,y0,y1,d1,d2',k3,e1,f1,e3',f3',k4,meets];simp[w1];exact hk hil _ _ ⟨by simp[h0],by simp[h9],by simp[h10],by simp,hE2.trans E4,hyes (by rw[hrb];simp[k3,k4])⟩
      .simp[h0,h9,h10,h11,hd,a1,qb,a2',s1,b00,hgt,hlog3,c1,b1,c2,hlog4,x9,x1,y0,y1,d1,d2',k3,e1,f1,e3',f3',k4,meets];exact qf (hE2.trans E4) ⟨((i:Nat):Int),by simp[h11],hno (by rw[hrb];simp[k3,k4])⟩
     .simp[h0,h9,h10,h11,hd,a1,qb,a2',s1,b00,hgt,hlog3,c1,b1,c2,hlog4,x9,y0,y1,d1,d2',k3,meets];exact qf (hE2.trans E4) ⟨((i:Nat):Int),by simp[h11],hno (by rw[hrb];simp[k3])⟩
    .have k2:isB EV b 2=false:=by simpa using k2
     rw[k2]at c2;simp[h0,h9,h10,h11,hd,a1,qb,a2',s1,b00,hgt,hlog3,c1,b1,c2,hlog4,meets];exact qf (hE2.trans E4) ⟨((i:Nat):Int),by simp[h11],hno (by unfold rmB;simp[k2])⟩
   .have k1:isB EV a 1=false:=by simpa using k1
    rw[k1]at c1;simp[h0,h9,h10,h11,hd,a1,qb,a2',s1,b00,hgt,hlog3,c1,meets];exact qf (hE2.trans E3) ⟨((i:Nat):Int),by simp[h11],hno (by unfold rmB;simp[k1])⟩
  obtain⟨j,hj⟩:∃j,i=j+1:=⟨i-1,by omega⟩;obtain⟨⟨pa,pb⟩,hp⟩:∃p,RM[j]?=some p:=⟨_,qh5 (by omega)⟩;have hgt:(0<i)=True:=qi1 (by omega);have hw:IntKind.i64.wrap ((i:Int)-1)=(j:Int):=by rw[wrap64 _ (by omega) (by omega)];omega
  have ⟨g1,_,g3⟩:=(hrm.sees hS2).at hp;have g3':load1 m2 ⟨(adr 2 h.rm j).block,(adr 2 h.rm j).off,none⟩=some (iv pa):=by have:=g3 m2 0 none hS2.self (by simp[qn]);exact this
  have r4:load1 m2 ⟨L,4,none⟩=some h.rm:=L2.ld 4 none;have hordE:fw RM i (a,b)=decide (pa<a):=by rw[hj];show (match RM[j]? with | some q=>decide (q.1<a) | none=>false)=_;rw[hp]
  by_cases hle:a<=pa
  .simp[h0,h9,h10,h11,hd,a1,qb,a2',s1,b00,hgt,hw,g1,g3',r4,hle,meets];refine qf (hE2.trans ?_) ⟨((i:Nat):Int),by simp[h11],hno (by unfold rmB;rw[hordE];simp;intro hc;omega)⟩;simp
  have hord:fw RM i (a,b)=true:=by rw[hordE];exact qhx (by omega)
  by_cases k1:isB EV a 1=true
  .rw[k1]at c1;by_cases k2:isB EV b 2=true
   .rw[k2]at c2;obtain⟨x,ea,rfl,ha1,ha2⟩:=zl k1;obtain⟨y,eb,rfl,hb1,hb2⟩:=zl k2;obtain⟨q,hq⟩:∃q,NX[x]?=some q:=⟨_,qh5 (by rw[hnl];exact (qh7.1 ha1).1)⟩;have ⟨d1,d2⟩:=Rd.at1 (g:=λ(x:Int)=>iv x) (hnx.sees S4) hq;have d2':load1 m4 (adr 1 nx x)=some (iv q):=by have:=d2 _ S4.self;simpa using this
    have ⟨e1,_,e3⟩:=(hev.sees S4).at ha1;have ⟨f1,_,f3⟩:=(hev.sees S4).at hb1;have e3':load1 m4 ⟨(adr 5 h.ev x).block,(adr 5 h.ev x).off+2,none⟩=some (iv ea.loc):=by have:=e3 _ 2 none S4.self (by simp[qh]);rw[show (qh ea)[2]?=some (iv ea.loc) from rfl]at this;simpa using this
    have f3':load1 m4 ⟨(adr 5 h.ev y).block,(adr 5 h.ev y).off+2,none⟩=some (iv eb.loc):=by have:=f3 _ 2 none S4.self (by simp[qh]);rw[show (qh eb)[2]?=some (iv eb.loc) from rfl]at this;simpa using this
    have hrb:rmB EV NX RM i ((x:Int),(y:Int))=(decide (q=(y:Int))&&decide (ea.loc=eb.loc)):=by unfold rmB nxB dj;simp only[qhj,hq,ha1,hb1,k1,k2,hord,Bool.true_and]
    by_cases k3:q=(y:Int)
    .by_cases k4:ea.loc=eb.loc
     .simp[h0,h9,h10,h11,hd,a1,qb,a2',s1,b00,hgt,hw,g1,g3',r4,hle,hlog3,c1,b1,c2,hlog4,x9,x1,y0,y1,d1,d2',k3,e1,f1,e3',f3',k4,meets];simp[w1];exact hk hil _ _ ⟨by simp[h0],by simp[h9],by simp[h10],by simp,hE2.trans E4,hyes (by rw[hrb];simp[k3,k4])⟩
     .simp[h0,h9,h10,h11,hd,a1,qb,a2',s1,b00,hgt,hw,g1,g3',r4,hle,hlog3,c1,b1,c2,hlog4,x9,x1,y0,y1,d1,d2',k3,e1,f1,e3',f3',k4,meets];exact qf (hE2.trans E4) ⟨((i:Nat):Int),by simp[h11],hno (by rw[hrb];simp[k3,k4])⟩
    .simp[h0,h9,h10,h11,hd,a1,qb,a2',s1,b00,hgt,hw,g1,g3',r4,hle,hlog3,c1,b1,c2,hlog4,x9,y0,y1,d1,d2',k3,meets];exact qf (hE2.trans E4) ⟨((i:Nat):Int),by simp[h11],hno (by rw[hrb];simp[k3])⟩
   .have k2:isB EV b 2=false:=by simpa using k2
    rw[k2]at c2;simp[h0,h9,h10,h11,hd,a1,qb,a2',s1,b00,hgt,hw,g1,g3',r4,hle,hlog3,c1,b1,c2,hlog4,meets];exact qf (hE2.trans E4) ⟨((i:Nat):Int),by simp[h11],hno (by unfold rmB;simp[k2])⟩
  .have k1:isB EV a 1=false:=by simpa using k1
   rw[k1]at c1;simp[h0,h9,h10,h11,hd,a1,qb,a2',s1,b00,hgt,hw,g1,g3',r4,hle,hlog3,c1,meets];exact qf (hE2.trans E3) ⟨((i:Nat):Int),by simp[h11],hno (by unfold rmB;simp[k1])⟩
 obtain rfl:i=RM.length:=by omega
 simp[h10,h11];exact qf hE ⟨-1,by simp,⟨λ_ i p hp=>hB i p (qh7.1 hp).1 hp,λ_=>by decide⟩⟩
end
section
variable {m:M}{L:Nat}{h:Gh}{nx:Value}
theorem Vt (n:Nat)(kv lv:Value)(l:List (Int × Int))(hm:m.base<=m.n)(H:LK m L h nx)(hl:Rd m lv 2 qn l) :
  Dx.Call (ex Tryz.prog (n+1)) 52 [.pointer (some ⟨L,0,none⟩),lv,kv] m (bU (l=[])):=by
 refine qm dc9_ok (by simp) ?_;have hln:=hl.len;simp[hln];refine qq (c:=qa1) rfl (Ret m _) (λi t m'=>Tm.get 0 t=.pointer (some ⟨L,0,none⟩)/\Tm.get 9 t=lv/\Tm.get 10 t=iv l.length/\Tm.get 11 t=iv i/\i=0/\m'=m) 0 (by omega) ⟨by simp,by simp,by simp,by simp,rfl,rfl⟩ (λi t m' k hi hI hk=>?_);obtain⟨h0,h9,h10,h11,rfl,rfl⟩:=hI;cases l with
 | nil =>
  have h10':Tm.get 10 t=iv 0:=h10;have h11':Tm.get 11 t=iv 0:=h11;simp[h10',h11'];exact qf (Ext.refl _) ⟨-1,by simp,by simp⟩
 | cons p l =>
  have ⟨a1,a2,a3⟩:=hl.at (i:=0) rfl;have a1':wJ 2 lv zI=some (.pointer (some (adr 2 lv 0))):=a1;have a2':loads m' (adr 2 lv 0) 2=some (qn p):=a2 m' (Sees.refl hm);obtain⟨m2,s1,s2,s3,s4,s5⟩:=wK (m:=m') hm (zs:=[zI,zI]) (l:=qn p) (v:=.agg ⟨qn p⟩) (n:=2) rfl rfl rfl (zm _);have hS2:=(Sees.refl hm).ext s4;have b8:load1 m2 ⟨L,8,none⟩=some zF:=(H.sees hS2).ld 8 none;have h11':Tm.get 11 t=iv 0:=h11;obtain⟨q,hq⟩:∃q:Nat,q=(p::l).length:=⟨_,rfl⟩;rw[<-hq]at h10;have hd:(0<q)=True:=qi1 (by rw[hq];simp);simp[h0,h9,h10,h11',hd,a1',qb,a2',s1,b8,meets];refine qf (s4.trans ?_) ⟨0,by simp[h11'],by simp⟩;simp
end
end Go.Sx
namespace Go.Dx
theorem WQ {c:C}:∀{a b o:Nat} {l:List Value},ldn c o (a+b)=some l->ldn c o a=some (l.take a)/\ldn c (o+a) b=some (l.drop a)
 | 0,b,o,l,h=>by rw[Nat.zero_add]at h;exact⟨rfl,h⟩
 | a+1,b,o,l,h=>by
  rw[show a+1+b=a+b+1 by omega,vg]at h;obtain⟨v,hv,h⟩:=qc h;obtain⟨t,ht,h⟩:=qc h;have hl:l=v::t:=by unfold YH at h;cases h;rfl
  subst hl;obtain⟨h1,h2⟩:=WQ ht;refine⟨?_,?_⟩
  .rw[vg,hv];show ob (ldn c (o+1) a) _=_;rw[h1];rfl
  .rw[show o+(a+1)=o+1+a by omega,h2];rfl
theorem bZ {m:M}{B o a b:Nat}{s:Option Nat}{l:List Value}(h:loads m ⟨B,o,s⟩ (a+b)=some l):loads m ⟨B,o,s⟩ a=some (l.take a)/\loads m ⟨B,o+a,s⟩ b=some (l.drop a):=by
 unfold loads at h ⊢;obtain⟨c,hc,h⟩:=qc h;simp only at hc;rw[hc];exact WQ h
section
variable {α:Type}{m:M}{v:Value}{e:Nat}{f:α->List Value}{l:List α}
theorem Rd.drop (h:Rd m v e f l)(hs:Sp e v)(hf:∀x,(f x).length=e){k:Nat}(hk:k<=l.length):∃a n c,slV e (some (.int .i64 (k:Int))) none none v=some (.slice a n c)/\Rd m (.slice a n c) e f (l.drop k):=by
 rcases hs with rfl | ⟨B,o,n,c,x,rfl,hnc⟩
 .have hl:l.length=0:=by have:=h.len;simp[wB]at this;omega
  have hk0:k=0:=by omega
  have hl':l=[]:=qhn hl;subst hk0;subst hl';exact⟨none,0,0,rfl,h⟩
 .have hn:n=l.length:=by have:=h.len;simp[wB]at this;omega
  have hdl:(l.drop k).length=n-k:=by rw[List.length_drop,hn]
  have hfl:=wU hf l;have hall:loads m ⟨B,o,some (code e x)⟩ (l.length*e)=some (l.flatMap f):=h.all;have hsplit:l.length*e=k*e+(l.drop k).length*e:=by rw[hdl,hn,<-Nat.add_mul];congr 1;omega
  have hdrop:(l.flatMap f).drop (k*e)=(l.drop k).flatMap f:=by
   have hl2:l=l.take k++l.drop k:=(List.take_append_drop k l).symm;have hlt:=wU hf (l.take k);rw[List.length_take,Nat.min_eq_left hk]at hlt
   conv=>lhs;rw[hl2,List.flatMap_append]
   rw[List.drop_append_of_le_length (by omega),<-hlt,List.drop_length,List.nil_append]
  rw[hsplit]at hall;obtain⟨h1,h2⟩:=bZ hall;rw[hdrop]at h2;have hb:fI n c (some (.int .i64 (k:Int))) none none=some (k,n,c):=by
   show ob (gV (some (.int .i64 (k:Int))) 0 n) _=_;show ob (bif Nat.ble k n then some k else none) _=_
   rw[qhd (by omega)];rfl
  have hcd:Nat.beq (code e x/2) e=true:=by
   have:code e x/2=e:=by
    cases x
    .show (2*e)/2=e;omega
    .show (2*e+1)/2=e;omega
   rw[this,Nat.beq_refl]
  have hex:vA (code e x)=x:=by
   cases x
   .show Nat.beq ((2*e)%2) 1=false;rw[show (2*e)%2=0 by omega];rfl
   .show Nat.beq ((2*e+1)%2) 1=true;rw[show (2*e+1)%2=1 by omega];rfl
  have hsl:slV e (some (.int .i64 (k:Int))) none none (.slice (some ⟨B,o,some (code e x)⟩) n c)=some (.slice (some ⟨B,bif x&&Nat.beq c k then o else o+k*e,some (code e x)⟩) (n-k) (c-k)):=by
   unfold slV;simp only[qQ,hb,hcd,hex,Option.isSome_none,Bool.or_false];rfl
  refine⟨_,_,_,hsl,⟨by rw[hdl];rfl,λi r hr=>?_,?_,λC hC=>by cases hC;exact h.lt _ rfl⟩⟩
  .have hi:i<(l.drop k).length:=(qh7.1 hr).1;rw[List.getElem?_drop]at hr;have hck:(x&&Nat.beq c k)=false:=by
    cases q:Nat.beq c k with
    | false=>simp
    | true=>have:=qhi q;omega
   rw[hck];obtain⟨g1,g2,g3⟩:=h.row (k+i) r hr;refine⟨?_,g2,?_⟩
   .show (bif Nat.blt i (n-k) then yO (i*e) _ else none)=_
    rw[show Nat.blt i (n-k)=true from qhd (by omega)];rfl
   .have e1:adr e (.slice (some ⟨B,o,some (code e x)⟩) n c) (k+i)=⟨B,o+(k+i)*e,none⟩:=rfl;have e2:adr e (.slice (some ⟨B,bif false then o else o+k*e,some (code e x)⟩) (n-k) (c-k)) i=⟨B,o+k*e+i*e,none⟩:=rfl
    rw[e1]at g3;rw[e2,<-g3,Nat.add_mul,Nat.add_assoc]
  .show loads m ⟨B,bif x&&Nat.beq c k then o else o+k*e,some (code e x)⟩ ((l.drop k).length*e)=_
   cases q:(x&&Nat.beq c k) with
   | false=>exact h2
   | true =>
    rw[qhb]at q;have:=qhi q.2;have h0:l.drop k=[]:=List.drop_eq_nil_of_le (by omega);rw[h0]at h2 ⊢;unfold loads at h1 ⊢;obtain⟨cc,hcc,_⟩:=qc h1;simp only at hcc;show ob (cellsOf m B) _=_;rw[hcc];show ldn cc _ (0*e)=_;rw[Nat.zero_mul];rfl
theorem Rd.take (h:Rd m v e f l)(hs:Sp e v)(hf:∀x,(f x).length=e){k:Nat}(hk:k<=l.length):∃a n c,slV e none (some (.int .i64 (k:Int))) none v=some (.slice a n c)/\Rd m (.slice a n c) e f (l.take k):=by
 rcases hs with rfl | ⟨B,o,n,c,x,rfl,hnc⟩
 .have hl:l.length=0:=by have:=h.len;simp[wB]at this;omega
  have hk0:k=0:=by omega
  have hl':l=[]:=qhn hl;subst hk0;subst hl';exact⟨none,0,0,rfl,h⟩
 .have hn:n=l.length:=by have:=h.len;simp[wB]at this;omega
  have htl:(l.take k).length=k:=by rw[List.length_take,Nat.min_eq_left hk]
  have hall:loads m ⟨B,o,some (code e x)⟩ (l.length*e)=some (l.flatMap f):=h.all;have hsplit:l.length*e=k*e+(l.length-k)*e:=by rw[<-Nat.add_mul];congr 1;omega
  have htake:(l.flatMap f).take (k*e)=(l.take k).flatMap f:=by
   have hl2:l=l.take k++l.drop k:=(List.take_append_drop k l).symm;have hlt:=wU hf (l.take k);rw[htl]at hlt
   conv=>lhs;rw[hl2,List.flatMap_append]
   rw[List.take_append_of_le_length (by omega),<-hlt,List.take_length]
  rw[hsplit]at hall;obtain⟨h1,h2⟩:=bZ hall;rw[htake]at h1;have hcd:Nat.beq (code e x/2) e=true:=by
   have:code e x/2=e:=by
    cases x
    .show (2*e)/2=e;omega
    .show (2*e+1)/2=e;omega
   rw[this,Nat.beq_refl]
  have hex:vA (code e x)=x:=by
   cases x
   .show Nat.beq ((2*e)%2) 1=false;rw[show (2*e)%2=0 by omega];rfl
   .show Nat.beq ((2*e+1)%2) 1=true;rw[show (2*e+1)%2=1 by omega];rfl
  have hb:fI n c none (some (.int .i64 (k:Int))) none=some (0,k,c):=by
   show ob (gV (some (.int .i64 (k:Int))) n c) _=_;show ob (bif Nat.ble k c then some k else none) _=_
   rw[qhd (by omega)];rfl
  have hoff:(bif x&&Nat.beq c 0 then o else o+0*e)=o:=by cases (x&&Nat.beq c 0)<;>simp
  have hsl:slV e none (some (.int .i64 (k:Int))) none (.slice (some ⟨B,o,some (code e x)⟩) n c)=some (.slice (some ⟨B,o,some (code e x)⟩) k c):=by
   unfold slV;simp only[qQ,hb,hcd,hex,Option.isSome_none,Bool.or_false];show some (Value.slice (some ⟨B,bif x&&Nat.beq c 0 then o else o+0*e,some (code e x)⟩) (k-0) (c-0))=_
   rw[hoff];rfl
  refine⟨_,_,_,hsl,⟨by rw[htl];rfl,λi r hr=>?_,?_,λC hC=>by cases hC;exact h.lt _ rfl⟩⟩
  .have hi:i<(l.take k).length:=(qh7.1 hr).1;rw[htl]at hi;rw[List.getElem?_take,qhz hi]at hr;obtain⟨g1,g2,g3⟩:=h.row i r hr;refine⟨?_,g2,g3⟩;show (bif Nat.blt i k then yO (i*e) _ else none)=_
   rw[show Nat.blt i k=true from qhd hi];rfl
  .show loads m ⟨B,o,some (code e x)⟩ ((l.take k).length*e)=_;rw[htl];exact h1
end
theorem ret_c {m0 m:M}{Q:Value->M->Prop}{t:Tm}{p n:Nat}{a:Addr}{l1:List Value}(h1:Tm.get p t=.pointer (some a))(h2:loads m a n=some l1)(he:Ext m0 m)(hq:Q (.agg ⟨l1⟩) m) :
  Ret m0 Q (wN [.cell p n] t m):=by
 refine yh (l:=[.agg ⟨l1⟩]) ?_ he hq;simp only[yg,yf,h1,yo,qQ,h2]
@[simp] theorem pSlice_h (e:Nat) (x b:V) (t:Tm):vF e x none (some b) none t=slV e none (some (b t)) none (x t):=by
 unfold vF Zz slV;cases x t with
 | slice a l c=>cases a<;>rfl
 | _=>rfl
end Go.Dx
namespace Go.Sx
open Go.Dx Go.Proofs
abbrev u7:U:=⟨7,by omega⟩
abbrev u8:U:=⟨8,by omega⟩
end Go.Sx
namespace Go.Sx
open Go.Dx Go.Proofs
set_option maxRecDepth 10000
def xS (l:List Bool):List Value:=l.map Value.bool
theorem JD {n:Nat}(h:n<=1000)(m:M):gu 1 1 [zF] (.int .i64 (n:Int)) (.int .i64 (n:Int)) m=some (.slice (some ⟨m.n,0,some 3⟩) n n,Dx.newRow m (xS (List.replicate n false))):=by
 have hr:∀n,rep n [zF]=xS (List.replicate n false):=by
  intro n;unfold xS
  induction n with
  | zero=>rfl
  | succ n ih=>unfold rep;rw[ih,List.replicate_succ];rfl
 show (bif Nat.ble n n&&Nat.ble (n*1) wk&&Nat.ble n 4611686018427387904&&Nat.ble (n*1) 1048576 then some (Value.slice (some ⟨m.n,0,some (code 1 true)⟩) n n,Dx.newRow m (rep n [zF])) else none)=_
 rw[qhd (qh8 n),qhd (by unfold wk;omega),qhd (by omega),qhd (by omega),hr];rfl
structure CoI (m m':M)(MB SB N:Nat)(Lm:Nat->Int)(bl:List Bool):Prop where
 st:St m m' [(SB,xS bl)]
 mb:m.n<=MB
 lt:MB<m'.n
 ne:MB≠SB
 mp:m'.obj MB=some (.map (mz (rgL N Lm)))
section
variable {m m':M}{MB SB N:Nat}{Lm:Nat->Int}{bl:List Bool}
theorem CoI.step (h:CoI m m' MB SB N Lm bl){m2:M}(e:Ext m' m2):CoI m m2 MB SB N Lm bl :=
 ⟨h.st.step e,h.mb,qha h.lt e.n,h.ne,by rw[e.obj MB h.lt];exact h.mp⟩
theorem CoI.mset (h:CoI m m' MB SB N Lm bl){c:Nat}(hc:c<N)(v:Int):CoI m (m'.put MB (.map (mz (ptL (c:Int) v (rgL N Lm))))) MB SB N (λx=>if x=c then v else Lm x) bl:=by
 refine⟨⟨h.st.ext.putO h.st.base h.mb _,h.st.base,λp hp=>?_,h.st.nd⟩,h.mb,by rw[M.n_put];exact h.lt,h.ne,by rw[M.obj_put,qhz rfl,pt_rg Lm v hc]⟩;obtain⟨h1,h2,h3⟩:=h.st.arr p hp;refine⟨h1,by rw[M.n_put];exact h2,h3.congr ?_⟩;rw[M.obj_put,qhy];simp at hp;rw[hp];exact λe=>h.ne e.symm
theorem CoI.sset (h:CoI m m' MB SB N Lm bl){i:Nat}(hi:i<bl.length):∃m2,ww 1 (.pointer (some ⟨SB,i,none⟩)) zT m'=some (undef,m2)/\CoI m m2 MB SB N Lm (bl.set i true):=by
 obtain⟨m2,h1,h2,h3,h4⟩:=h.st.store 0 rfl (o:=i) (v:=zT) (by simp[xS];exact hi) rfl;have e:(xS bl).set i zT=xS (bl.set i true):=by unfold xS;rw[List.map_set]
 rw[e]at h2;exact⟨m2,h1,h2,h.mb,by rw[h3];exact h.lt,h.ne,by rw[h4 MB h.ne];exact h.mp⟩
theorem CoI.sget (h:CoI m m' MB SB N Lm bl){i:Nat}{b:Bool}(hi:bl[i]?=some b)(s:Option Nat):load1 m' ⟨SB,i,s⟩=some (.bool b):=by
 rw[(h.st.get 0 rfl).2.2.load1 i s];unfold xS;rw[qhm,hi];rfl
end
theorem QG (B n i:Nat)(h:i<n):wJ 1 (.slice (some ⟨B,0,some 3⟩) n n) (.int .i64 i)=some (.pointer (some ⟨B,i,none⟩)):=by
 show (bif Nat.blt i n then yO (i*1) ⟨B,0,some 3⟩ else none)=_
 rw[show Nat.blt i n=true from qhd h];show some (Value.pointer (some ⟨B,0+i*1,none⟩))=_;rw[Nat.zero_add,Nat.mul_one]
def nW (EV:List Ev5)(c:Nat)(i:Nat):Nat:=(EV.take i).countP λe=>decide (e.kind=2/\e.loc=(c:Int))
theorem yA {EV:List Ev5}{c i:Nat}{e:Ev5}(h:EV[i]?=some e):nW EV c (i+1)=nW EV c i+(if e.kind=2/\e.loc=(c:Int) then 1 else 0):=by
 unfold nW;rw[take_at h,List.countP_append,List.countP_singleton];simp
theorem qbr (EV:List Ev5)(c i:Nat):nW EV c i<=i:=by
 unfold nW;exact qhh List.countP_le_length (by simp;omega)
def gW (EV:List Ev5)(c:Nat)(w:Int):Bool:=isB EV w 2&&(match EV[w.toNat]? with
 | some e=>decide (e.loc=(c:Int))
 | none=>false)
def gTo (EV:List Ev5)(c:Nat)(l:List Int)(i:Nat):Prop:=l[0]?=some (c:Int)/\(l.take i).Nodup/\∀w∈l.take i,gW EV c w=true
theorem Jn {EV:List Ev5}{c:Nat}{l:List Int}{i:Nat}{w:Int}(hw:l[i]?=some w):gTo EV c l (i+1) ↔ gTo EV c l i/\gW EV c w=true/\w ∉ l.take i:=by
 unfold gTo;rw[take_at hw,List.nodup_append];constructor
 .rintro ⟨h1,⟨h2,-,h3⟩,h4⟩;refine⟨⟨h1,h2,λx hx=>h4 x (by simp[hx])⟩,h4 w (by simp),λhc=>h3 w hc w (by simp) rfl⟩
 .rintro ⟨⟨h1,h2,h3⟩,h4,h5⟩;refine⟨h1,⟨h2,by simp,λx hx y hy=>?_⟩,λx hx=>?_⟩
  .rw[qhc]at hy;subst hy;intro e;subst e;exact h5 hx
  .rcases qhu.1 hx with hx | hx
   .exact h3 x hx
   .rw[qhc]at hx;subst hx;exact h4
section
variable {m:M}{L N:Nat}{h:Gh}{nx:Value}{EV:List Ev5}{CO:List (List Int)}
structure CoT (t:Tm)(L MB SB n c k K:Nat)(wr:Int)(cv:Value):Prop where
 h0:Tm.get 0 t=.pointer (some ⟨L,0,none⟩)
 h3:Tm.get 3 t=.map (some MB)
 h6:Tm.get 6 t=.slice (some ⟨SB,0,some 3⟩) n n
 h7:Tm.get 7 t=iv K
 h8:Tm.get 8 t=iv wr
 h9:Tm.get 9 t=iv c
 h62:Tm.get 62 t=cv
 h63:Tm.get 63 t=iv K
 h64:Tm.get 64 t=iv k
structure InI (EV:List Ev5)(c:Nat)(l:List Int)(i:Nat)(bl0 bl:List Bool)(ok:Bool)(kk:Nat):Prop where
 len:bl.length=EV.length
 okI:ok=true ↔ gTo EV c l i
 kkI:kk<=i
 full:ok=true->kk=i
 mark:ok=true->∀w:Nat,(w:Int)∈l.take i->bl[w]?=some true
 keep:∀w:Nat,((w:Int) ∉ l.take i\/gW EV c w=false)->bl[w]?=bl0[w]?
theorem co_in (n:Nat)(hm:m.base<=m.n)(H:LK m L h nx)(hev:Rd m h.ev 5 qh EV)(hn2:EV.length<=256){c:Nat}{l:List Int}(hll:l.length<=4611686018427387904)(hcN:c<N){sc:Value}(hsc:Rd m sc 1 wz l){MB SB:Nat}{m':M}{Lm:Nat->Int}{bl:List Bool}
  (hI:CoI m m' MB SB N Lm bl) (hbl:bl.length=EV.length) (hnl:0<=Lm c/\Lm c<=256) (hfr:∀w:Nat,gW EV c w=true->bl[w]?=some false) {t:Tm} {k0 K0:Nat} {wr:Int} {cv:Value} (hT:CoT t L MB SB EV.length c k0 K0 wr cv) (h10:Tm.get 10 t=sc) {ok:Bool} (hok:ok=true ↔ l[0]?=some (c:Int)) (h11:Tm.get 11 t=.bool ok) {kn kr:K} {ke:Nat->K} {Q:Option Out->Prop}
  (HQ:∀t' m2 bl' ok' kk,InI EV c l l.length bl bl' ok' kk->CoI m m2 MB SB N (λx=>if x=c then Lm c-kk else Lm x) bl'->CoT t' L MB SB EV.length c k0 K0 wr cv->Tm.get 11 t'=.bool ok'->Q (kn t' m2)):Q (XU (ex Tryz.prog (n+1)) kn ke kr t m'):=by
 have hlen:=hsc.len;simp[h10,hlen];refine qq (c:=DY) rfl Q (λi t m2=>∃bl' ok' kk,InI EV c l i bl bl' ok' kk/\CoI m m2 MB SB N (λx=>if x=c then Lm c-kk else Lm x) bl'/\CoT t L MB SB EV.length c k0 K0 wr cv/\Tm.get 11 t=.bool ok'/\Tm.get 79 t=sc/\Tm.get 80 t=iv l.length/\Tm.get 81 t=iv i) l.length (by omega) ?_ (λi t m2 k hi hJ hk=>?_)
 .refine⟨bl,ok,0,⟨hbl,?_,qh8 _,λ_=>rfl,λ_ w hw=>by simp at hw,λ_ _=>rfl⟩,?_,⟨by simp[hT.h0],by simp[hT.h3],by simp[hT.h6],by simp[hT.h7],by simp[hT.h8],by simp[hT.h9],by simp[hT.h62],by simp[hT.h63],by simp[hT.h64]⟩,by simp[h11],by simp,by simp,by simp⟩
  .rw[hok];unfold gTo;simp
  .have:(λx=>if x=c then Lm c-((0:Nat):Int) else Lm x)=Lm:=by
    funext x
    by_cases e:x=c
    .subst e;simp
    .simp[e]
   rw[this];exact hI
 obtain⟨bl',ok',kk,g1,g2,g4,g5,g6,g7,g8⟩:=hJ;have hE:=g2.st.ext;have hS:=(Sees.refl hm).ext hE;have g0:=g4.h0;have g6':=g4.h6;have g9:=g4.h9;have g30:=g4.h3;by_cases hil:i<l.length
 .obtain⟨w,hw⟩:∃w,l[i]?=some w:=⟨_,qh5 hil⟩;have ⟨a1,a2⟩:=Rd.at1 (g:=λ(x:Int)=>iv x) (hsc.sees hS) hw;have hd:=dlt hil;have v1:=qK (i:=i) (by omega);have hsucc:=Jn (EV:=EV) (c:=c) hw;have hstay:∀(t2:Tm) (m3:M),Ext m2 m3->ok'=false\/(gW EV c w=true->w∈l.take i)->CoT t2 L MB SB EV.length c k0 K0 wr cv->Tm.get 11 t2=zF->Tm.get 79 t2=sc->Tm.get 80 t2=iv l.length->Tm.get 81 t2=iv ((i+1:Nat):Int)->Q (k t2 m3):=by
   intro t2 m3 E3 hno T2 q11 q79 q80 q81;refine hk hil _ _ ⟨bl',false,kk,⟨g1.len,?_,by have:=g1.kkI;omega,λhc=>by (cases hc),λhc=>by (cases hc),λx hx=>g1.keep x ?_⟩,g2.step E3,T2,q11,q79,q80,q81⟩
   .rw[hsucc];constructor
    .intro hc;cases hc
    .rintro ⟨u1,u2,u3⟩;rcases hno with hno | hno
     .rw[g1.okI.2 u1]at hno;cases hno
     .exact absurd (hno u2) u3
   .rcases hx with hx | hx
    .rw[take_at hw,qhu,not_or]at hx;exact .inl hx.1
    .exact .inr hx
  have T':∀{t2:Tm},(∀q,q∈[0,3,6,7,8,9,62,63,64]->Tm.get q t2=Tm.get q t)->CoT t2 L MB SB EV.length c k0 K0 wr cv:=λhq =>
   ⟨by rw[hq 0 (by simp),g0],by rw[hq 3 (by simp),g30],by rw[hq 6 (by simp),g6'],by rw[hq 7 (by simp),g4.h7],by rw[hq 8 (by simp),g4.h8],by rw[hq 9 (by simp),g9],by rw[hq 62 (by simp),g4.h62],by rw[hq 63 (by simp),g4.h63],by rw[hq 64 (by simp),g4.h64]⟩
  cases ok' with
  | false =>
   simp[g5,g6,g7,g8,hd,a1,a2,hS.self,v1];exact hstay _ _ (Ext.refl _) (.inl rfl) (T' (by simp)) (by simp) (by simp[g6]) (by simp[g7]) (by simp)
  | true =>
   obtain⟨u3,m3,c1,c2,rfl⟩:=is_c n hS.base (H.sees hS) (hev.sees hS) (by omega) w 2;by_cases hik:isB EV w 2=true
   .rw[hik]at c1;obtain⟨x,e,rfl,he,hk2⟩:=zl hik;have G3:=g2.step c2;have hS3:=(Sees.refl hm).ext G3.st.ext;have L3:=H.sees hS3;have k1:load1 m3 ⟨L,1,none⟩=some h.ev:=L3.ld 1 none;have ⟨p1,p2,p3⟩:=(hev.sees hS3).at he;have p32:load1 m3 ⟨(adr 5 h.ev x).block,(adr 5 h.ev x).off+2,none⟩=some (iv e.loc):=by rw[p3 m3 2 none hS3.self (by simp[qh])];rfl
    have hgw:gW EV c (x:Int)=decide (e.loc=(c:Int)):=by unfold gW;rw[hik,qhj,he];rfl
    by_cases hloc:e.loc=(c:Int)
    .have hwl:=(qh7.1 he).1;obtain⟨bv,hbv⟩:∃bv,bl'[x]?=some bv:=⟨_,qh5 (by rw[g1.len];exact hwl)⟩;have sw:=G3.sget hbv none;have hix:=QG SB EV.length x hwl;cases bv with
     | true =>
      simp[g0,g5,g6,g7,g8,hd,a1,a2,hS.self,c1,k1,p1,p32,hloc,g9,g6',hix,sw,v1];refine hstay _ _ c2 (.inr λ_=>?_) (T' (by simp)) (by simp) (by simp[g6]) (by simp[g7]) (by simp);refine Classical.byContradiction λhc=>?_;rw[g1.keep x (.inl hc),hfr x (by rw[hgw];exact qhx hloc)]at hbv;cases hbv
     | false =>
      obtain⟨m4,s1,G4⟩:=G3.sset (i:=x) (by rw[g1.len];exact hwl);have lk:=lk_mz G4.mp (c:Int);rw[fd_rg,qhz hcN]at lk;simp only[if_true,Option.getD_some]at lk;have hkk:=g1.kkI;obtain⟨q,hq⟩:∃q:Int,q=Lm c-((kk+1:Nat):Int):=⟨_,rfl⟩;have v2:IntKind.i64.wrap (Lm c-kk-1)=q:=by rw[wrap64 _ (by omega) (by omega)];omega
      have mu:=KY G4.mp (c:Int) q;have G5:=G4.mset hcN q;simp[g0,g5,g6,g7,g8,hd,a1,a2,hS.self,c1,k1,p1,p32,hloc,g9,g6',hix,sw,s1,g30,lk,v2,mu,v1];have hnot:(x:Int) ∉ l.take i:=λhc=>by rw[g1.mark rfl x hc]at hbv;cases hbv
      have hgt:gTo EV c l (i+1):=hsucc.2 ⟨g1.okI.1 rfl,by rw[hgw];exact qhx hloc,hnot⟩;refine hk hil _ _ ⟨bl'.set x true,true,kk+1,⟨by rw[List.length_set];exact g1.len,⟨λ_=>hgt,λ_=>rfl⟩,by omega,λ_=>by rw[g1.full rfl],λ_ y hy=>?_,λy hy=>?_⟩,?_,T' (by simp),by simp,by simp[g6],by simp[g7],by simp⟩
      .by_cases hxy:x=y
       .subst hxy;rw[qhp (by rw[g1.len];exact hwl)]
       .rw[qht hxy];rw[take_at hw,qhu]at hy;rcases hy with hy | hy
        .exact g1.mark rfl y hy
        .rw[qhc]at hy;omega
      .have hne:x≠y:=by
        intro e2;subst e2;rcases hy with hy | hy
        .rw[take_at hw,qhu,not_or]at hy;exact hy.2 (by simp)
        .rw[hgw,qhx hloc]at hy;cases hy
       rw[qht hne];refine g1.keep y ?_;rcases hy with hy | hy
       .rw[take_at hw,qhu,not_or]at hy;exact .inl hy.1
       .exact .inr hy
      .have:(λx=>if x=c then Lm c-((kk+1:Nat):Int) else Lm x)=λx=>if x=c then q else (if x=c then Lm c-kk else Lm x):=by
        funext x
        by_cases e:x=c
        .simp only[qhz e,hq]
        .simp only[qhy e]
       rw[this];exact G5
    .simp[g0,g5,g6,g7,g8,hd,a1,a2,hS.self,c1,k1,p1,p32,hloc,g9,v1];exact hstay _ _ c2 (.inr λhc=>by rw[hgw]at hc;exact absurd (qi2 hc) hloc) (T' (by simp)) (by simp) (by simp[g6]) (by simp[g7]) (by simp)
   .have hik':isB EV w 2=false:=by simpa using hik
    rw[hik']at c1;simp[g0,g5,g6,g7,g8,hd,a1,a2,hS.self,c1,v1];exact hstay _ _ c2 (.inr λhc=>by unfold gW at hc;rw[hik']at hc;cases hc) (T' (by simp)) (by simp) (by simp[g6]) (by simp[g7]) (by simp)
 obtain rfl:i=l.length:=by omega
 simp[g7,g8];exact HQ _ m2 bl' ok' kk g1 g2 ⟨by simp[g0],by simp[g30],by simp[g6'],by simp[g4.h7],by simp[g4.h8],by simp[g9],by simp[g4.h62],by simp[g4.h63],by simp[g4.h64]⟩ (by simp[g5])
end
@[simp] theorem QL (mx:Bool) (xs:List V) (t:Tm):pMm mx xs t=mmL mx (evs t xs):=_root_.id rfl
theorem VJ (a b:Int):mmL false [iv a,iv b]=some (iv (if b<a then b else a)):=by
 show (match (bif Nat.beq (ik .i64) (ik .i64) then some (Value.int .i64 (bif ltI b a then b else a)) else none) with | some u=>some u | none=>none)=_
 rw[Nat.beq_refl,cond_true,jJ];by_cases h:b<a<;>simp[h]
section
variable {m:M}{L N:Nat}{h:Gh}{nx:Value}{EV:List Ev5}{CO:List (List Int)}
structure OuI (EV:List Ev5)(CO:List (List Int))(N K c:Nat)(bl:List Bool)(Lm:Nat->Int)(wr:Int):Prop where
 len:bl.length=EV.length
 free:∀x,c<=x->∀w:Nat,gW EV x w=true->bl[w]?=some false
 lo:0<=wr
 hi:wr<=K
 all:wr=K ↔ ∀c' l,c'<c->CO[c']?=some l->gTo EV c' l l.length
 rest:∀x,c<=x->Lm x=nW EV x EV.length
 done:∀x l,x<c->CO[x]?=some l->gTo EV x l l.length->Lm x=(nW EV x EV.length:Int)-l.length
theorem gW_loc {EV:List Ev5}{c x:Nat}{w:Nat}(h:gW EV c w=true)(h2:gW EV x w=true):c=x:=by
 unfold gW at h h2;rw[qhb]at h h2;have h:=h.2;have h2:=h2.2;rw[qhj]at h h2;cases he:EV[w]? with
 | none=>rw[he]at h;cases h
 | some e =>
  rw[he]at h h2;have e1:=qi2 h;have e2:=qi2 h2;omega
theorem co_out (n:Nat)(hm:m.base<=m.n)(H:LK m L h nx)(hev:Rd m h.ev 5 qh EV)(hn1:N<=EV.length)(hn2:EV.length<=256){K:Nat}(hK1:K<=N)(hK2:K<=CO.length)(hcl:∀l∈CO,l.length<=4611686018427387904){cv:Value}{sv:Nat->Value}(hcv:Rd m cv 1 (λv:Value=>[v]) ((List.range K).map sv))(hsv:∀c l,CO[c]?=some l->Rd m (sv c) 1 wz l){MB SB:Nat}{m':M}
  (hI:CoI m m' MB SB N (λx=>nW EV x EV.length) (List.replicate EV.length false)) {t:Tm} {kn kr:Dx.K} {ke:Nat->Dx.K} {Q:Option Out->Prop}
  (h0:Tm.get 0 t=.pointer (some ⟨L,0,none⟩)) (h3:Tm.get 3 t=.map (some MB)) (h6:Tm.get 6 t=.slice (some ⟨SB,0,some 3⟩) EV.length EV.length) (h7:Tm.get 7 t=iv K) (h8:Tm.get 8 t=iv K) (h62:Tm.get 62 t=cv) (h63:Tm.get 63 t=iv K) (h64:Tm.get 64 t=iv 0)
  (HQ:∀t' m2 bl' Lm' wr',OuI EV CO N K K bl' Lm' wr'->CoI m m2 MB SB N Lm' bl'->Tm.get 0 t'=.pointer (some ⟨L,0,none⟩)->Tm.get 3 t'=.map (some MB)->Tm.get 7 t'=iv K->Tm.get 8 t'=iv wr'->Q (ke 2 t' m2)):Q (XW (ex Tryz.prog (n+1)) kn ke kr t m'):=by
 refine qq (c:=XW) rfl Q (λc t m2=>∃bl Lm wr,OuI EV CO N K c bl Lm wr/\CoI m m2 MB SB N Lm bl /\
   Tm.get 0 t=.pointer (some ⟨L,0,none⟩)/\Tm.get 3 t=.map (some MB)/\Tm.get 6 t=.slice (some ⟨SB,0,some 3⟩) EV.length EV.length/\Tm.get 7 t=iv K/\Tm.get 8 t=iv wr/\Tm.get 62 t=cv/\Tm.get 63 t=iv K/\Tm.get 64 t=iv c) K (by omega)
  ⟨_,_,(K:Int),⟨by simp,λx _ w hw=>?_,by omega,by omega,?_,λ_ _=>rfl,λx l hx=>by omega⟩,hI,h0,h3,h6,h7,h8,h62,h63,h64⟩ (λc t m2 k hi hJ hk=>?_)
 .obtain⟨y,e,e1,e2,e3⟩:=zl (show isB EV (w:Int) 2=true from by unfold gW at hw;rw[qhb]at hw;exact hw.1);have:w=y:=by omega
  subst this;rw[List.getElem?_replicate,qhz (qh7.1 e2).1]
 .constructor
  .intro _ c' l hc;omega
  .intro _;rfl
 obtain⟨bl,Lm,wr,g1,g2,a0,a3,a6,a7,a8,a62,a63,a64⟩:=hJ;have hS:=(Sees.refl hm).ext g2.st.ext;by_cases hil:c<K
 .obtain⟨l,hl⟩:∃l,CO[c]?=some l:=⟨_,qh5 (by omega)⟩;have hll:=hcl l (qh6 hl);have hsc:=hsv c l hl;have hcc:((List.range K).map sv)[c]?=some (sv c):=by simp[hil]
  have ⟨p1,p2⟩:=Rd.at1 (g:=λ(x:Value)=>x) (hcv.sees hS) hcc;have hlen:=hsc.len;have hd:=dlt hil;have v1:=qK (i:=c) (by omega);have hnw:=qbr EV c EV.length;have hLc:=g1.rest c (qh8 _);have tail:∀(ok:Bool) (t1:Tm),(ok=true ↔ l[0]?=some (c:Int))->CoT t1 L MB SB EV.length c c K wr cv->Tm.get 10 t1=sv c->Tm.get 11 t1=.bool ok->∀{kn' kr':Dx.K} {ke':Nat->Dx.K},
    (∀t2 m3 wr2,(∀q,q∈[0,3,6,7,62,63,64]->Tm.get q t2=Tm.get q t1)->Tm.get 8 t2=iv wr2->(∃bl' Lm',OuI EV CO N K (c+1) bl' Lm' wr2/\CoI m m3 MB SB N Lm' bl')->Q (kn' t2 m3))->Q (XV (ex Tryz.prog (n+1)) kn' ke' kr' t1 m2):=by
   intro ok t1 hok T h10 h11 kn' kr' ke' HK;simp[-Gn];refine co_in n hm H hev hn2 hll (by omega) hsc g2 g1.len (by rw[hLc];omega) (g1.free c (qh8 _)) T h10 hok h11 λt' m3 bl' ok' kk I G T' h11'=>?_;have hfree:∀x,c+1<=x->∀w:Nat,gW EV x w=true->bl'[w]?=some false:=λx hx w hw=>by
    rw[I.keep w (.inr ?_),g1.free x (by omega) w hw];cases hc:gW EV c w with
    | false=>rfl
    | true=>have:=gW_loc hc hw;omega
   have hrest:∀x,c+1<=x->(if x=c then Lm c-kk else Lm x)=nW EV x EV.length:=λx hx=>by rw[qhy (by omega)];exact g1.rest x (by omega)
   have hdone:∀x l',x<c+1->CO[x]?=some l'->gTo EV x l' l'.length->(if x=c then Lm c-kk else Lm x)=(nW EV x EV.length:Int)-l'.length:=λx l' hx hl' hg=>by
    by_cases e:x=c
    .subst e;rw[hl]at hl';cases hl';rw[qhz rfl,hLc,I.full (I.okI.2 hg)]
    .rw[qhy e];exact g1.done x l' (by omega) hl' hg
   have hhi:=g1.hi;have hlo:=g1.lo;have b8:=T'.h8;have b9:=T'.h9;cases ok' with
   | true =>
    simp[h11'];refine HK _ m3 wr (λq hq=>?_) (by simp[b8]) ⟨bl',_,⟨I.len,hfree,hlo,hhi,?_,hrest,hdone⟩,G⟩
    .simp at hq;rcases hq with rfl | rfl | rfl | rfl | rfl | rfl | rfl
     .simp[T'.h0,T.h0]
     .simp[T'.h3,T.h3]
     .simp[T'.h6,T.h6]
     .simp[T'.h7,T.h7]
     .simp[T'.h62,T.h62]
     .simp[T'.h63,T.h63]
     .simp[T'.h64,T.h64]
    .rw[g1.all];constructor
     .intro hc c' l' h1 h2;by_cases e:c'=c
      .subst e;rw[hl]at h2;cases h2;exact I.okI.1 rfl
      .exact hc c' l' (by omega) h2
     .intro hc c' l' h1 h2;exact hc c' l' (by omega) h2
   | false =>
    have mm:=VJ wr (c:Int);simp[h11',b8,b9,mm];refine HK _ m3 (if (c:Int)<wr then (c:Int) else wr) (λq hq=>?_) (by simp) ⟨bl',_,⟨I.len,hfree,by split<;>omega,by split<;>omega,?_,hrest,hdone⟩,G⟩
    .simp at hq;rcases hq with rfl | rfl | rfl | rfl | rfl | rfl | rfl
     .simp[T'.h0,T.h0]
     .simp[T'.h3,T.h3]
     .simp[T'.h6,T.h6]
     .simp[T'.h7,T.h7]
     .simp[T'.h62,T.h62]
     .simp[T'.h63,T.h63]
     .simp[T'.h64,T.h64]
    .constructor
     .intro hc;exfalso;split at hc<;>omega
     .intro hc;have:=I.okI.2 (hc c l (by omega) hl);cases this
  have fin:∀{t1:Tm},(∀q,q∈[0,3,6,7,62,63,64]->Tm.get q t1=Tm.get q t)->∀(t2:Tm) m3 wr2,(∀q,q∈[0,3,6,7,62,63,64]->Tm.get q t2=Tm.get q t1)->Tm.get 8 t2=iv wr2->(∃bl' Lm',OuI EV CO N K (c+1) bl' Lm' wr2/\CoI m m3 MB SB N Lm' bl')->∀{u v:Value},u=iv ((c+1:Nat):Int)->Q (k (Tm.set 64 u (Tm.set 125 v t2)) m3):=by
   intro t1 q1 t2 m3 wr2 q2 q8 ⟨bl',Lm',o1,o2⟩ u v hu;have q:∀q,q∈[0,3,6,7,62,63,64]->Tm.get q t2=Tm.get q t:=λx hx=>(q2 x hx).trans (q1 x hx);subst hu;exact hk hil _ _ ⟨bl',Lm',wr2,o1,o2,by simp[q 0,a0],by simp[q 3,a3],by simp[q 6,a6],by simp[q 7,a7],by simp[q8],by simp[q 62,a62],by simp[q 63,a63],by simp⟩
  cases l with
  | nil =>
   have hlen':wB (sv c)=some (iv 0):=hlen;simp[a62,a63,a64,hd,p1,p2,hS.self,hlen',-WE];refine tail false _ (by simp) ⟨by simp[a0],by simp[a3],by simp[a6],by simp[a7],by simp[a8],by simp,by simp[a62],by simp[a63],by simp[a64]⟩ (by simp) (by simp) (λt2 m3 wr2 q1 q8 o=>?_);have q64:Tm.get 64 t2=iv c:=by rw[q1 64 (by simp)];simp[a64]
   simp[q64,v1];exact fin (by simp) t2 m3 wr2 q1 q8 o (by simp)
  | cons w l' =>
   have ⟨r1,r2⟩:=Rd.at1 (g:=λ(x:Int)=>iv x) (hsc.sees hS) (i:=0) (r:=w) rfl;have r1':wJ 1 (sv c) zI=some (.pointer (some (adr 1 (sv c) 0))):=r1;obtain⟨ln,hln⟩:∃ln:Nat,ln=(w::l').length:=⟨_,rfl⟩;rw[<-hln]at hlen;have hlp:(0<ln)=True:=qi1 (by rw[hln];simp);simp[a62,a63,a64,hd,p1,p2,hS.self,hlen,hlp,r1',r2,-WE];refine tail (decide (w=(c:Int))) _ (by simp) ⟨by simp[a0],by simp[a3],by simp[a6],by simp[a7],by simp[a8],by simp,by simp[a62],by simp[a63],by simp[a64]⟩ (by simp) (by simp) (λt2 m3 wr2 q1 q8 o=>?_);have q64:Tm.get 64 t2=iv c:=by rw[q1 64 (by simp)];simp[a64]
   simp[q64,v1];exact fin (by simp) t2 m3 wr2 q1 q8 o (by simp)
 obtain rfl:c=K:=by omega
 simp[a63,a64];exact HQ _ m2 bl Lm wr g1 g2 (by simp[a0]) (by simp[a3]) (by simp[a7]) (by simp[a8])
end
end Go.Sx
