/- Contracts. -/
import Derived.Test.YtjoapkgigchboaaGreatGf
set_option linter.unusedVariables false
set_option linter.unusedSimpArgs false
set_option linter.defProp false
set_option maxHeartbeats 8000000
namespace Go.Sx
open Go.Dx Go.Proofs
set_option maxRecDepth 10000
structure SetOK (n:Nat)(l:List Nat):Prop where
 up:l.Pairwise (· < ·)
 lt:∀x∈l,x<n
theorem WY:∀(l:List Nat) (a n:Nat),l.Pairwise (· < ·)->(∀x∈l,a<=x/\x<n)->l.length<=n-a
 | [],_,_,_,_=>Nat.zero_le _
 | x::l,a,n,h,hx=>by
  obtain⟨h1,h2⟩:=List.pairwise_cons.1 h
  have hx0:=hx x (by simp)
  have:=WY l (x+1) n h2 λy hy=>⟨h1 y hy,(hx y (by simp[hy])).2⟩
  rw[List.length_cons];omega
theorem SetOK.len {n:Nat}{l:List Nat}(h:SetOK n l):l.length<=n:=WY l 0 n h.up λx hx=>⟨Nat.zero_le _,h.lt x hx⟩
theorem SetOK.nil (n:Nat):SetOK n []:=⟨.nil,λx hx=>by cases hx⟩
theorem SetOK.mono {n k:Nat}{l:List Nat}(h:SetOK n l)(hk:n<=k):SetOK k l:=⟨h.up,λx hx=>qgi (h.lt x hx) hk⟩
theorem SetOK.one (n:Nat):SetOK (n+1) [n]:=⟨by simp,by simp⟩
theorem KB {l:List Nat}(hs:l.Pairwise λx y=>x<=y):∀j,j<=l.length->(yL l j).Pairwise (· < ·)/\∀x,x∈yL l j ↔ ∃i,i<j/\l[i]?=some x
 | 0,_=>⟨by simp[yL],λx=>by simp[yL]⟩
 | j+1,hj=>by
  obtain⟨h1,h2⟩:=KB hs j (by omega)
  obtain⟨x,hx⟩:∃x,l[j]?=some x:=⟨_,qgd (by omega)⟩
  have le:∀i y,i<j->l[i]?=some y->y<=x:=λi y hi hy=>by
   obtain⟨a,b⟩:=qgf.1 hy
   obtain⟨c,d⟩:=qgf.1 hx
   rw[<-b,<-d];exact List.pairwise_iff_getElem.1 hs i j a c hi
  rw[xW hx]
  cases hk:kp l j with
  | true =>
   simp only[if_true]
   have hlt:∀i y,i<j->l[i]?=some y->y<x:=λi y hi hy=>by
    obtain⟨z,hz⟩:∃z,l[j-1]?=some z:=⟨_,qgd (by omega)⟩
    have hzx:z≠x:=λe=>by
     unfold kp at hk
     rw[hx,hz,e]at hk
     simp at hk;omega
    have h3:=le (j-1) z (by omega) hz
    have h4:y<=z:=by
     by_cases e:i=j-1
     .rw[e]at hy;rw[hz]at hy;cases hy;exact qgg _
     .obtain⟨a,b⟩:=qgf.1 hy
      obtain⟨c,d⟩:=qgf.1 hz
      rw[<-b,<-d];exact List.pairwise_iff_getElem.1 hs i (j-1) a c (by omega)
    omega
   refine⟨List.pairwise_append.2 ⟨h1,by simp,λa ha b hb=>?_⟩,λy=>?_⟩
   .rw[qgk.1 hb]
    obtain⟨i,hi,hy⟩:=(h2 a).1 ha
    exact hlt i a hi hy
   .rw[qh1,h2 y,qgk]
    constructor
    .rintro (⟨i,hi,hy⟩ | rfl)
     .exact⟨i,by omega,hy⟩
     .exact⟨j,by omega,hx⟩
    .rintro ⟨i,hi,hy⟩
     by_cases e:i=j
     .rw[e,hx]at hy;cases hy;exact .inr rfl
     .exact .inl ⟨i,by omega,hy⟩
  | false =>
   simp only[Bool.false_eq_true,if_false,List.append_nil]
   refine⟨h1,λy=>?_⟩
   rw[h2 y]
   constructor
   .rintro ⟨i,hi,hy⟩
    exact⟨i,by omega,hy⟩
   .rintro ⟨i,hi,hy⟩
    by_cases e:i=j
    .rw[e]at hy
     unfold kp at hk
     simp at hk
     exact⟨j-1,by omega,by rw[<-hk.2];exact hy⟩
    .exact⟨i,by omega,hy⟩
theorem qfe (l:List Nat):(yC l).Pairwise λx y=>x<=y:=(jZ toN l).2.imp λh=>by simpa [ltN]using h
theorem YL (l:List Nat):(ddp (yC l)).Pairwise (· < ·)/\∀x,x∈ddp (yC l) ↔ x∈l:=by
 obtain⟨h1,h2⟩:=KB (qfe l) (yC l).length (qgg _)
 refine⟨h1,λx=>(h2 x).trans ?_⟩
 rw[<-(jZ toN l).1.mem_iff,List.mem_iff_getElem?]
 constructor
 .rintro ⟨i,_,hi⟩;exact⟨i,hi⟩
 .rintro ⟨i,hi⟩;exact⟨i,(qgf.1 hi).1,hi⟩
theorem bK {s o:List Nat}{x:Nat}:x∈uni s o ↔ x∈s\/x∈o:=by
 unfold uni
 split
 .rename_i h;rw[h];simp
 .rw[(YL _).2,qh1]
theorem Jp {n:Nat}{s o:List Nat}(hs:SetOK n s)(ho:SetOK n o):SetOK n (uni s o) :=
 ⟨by
  unfold uni
  split
  .exact hs.up
  .exact (YL _).1,λx hx=>by
  rcases bK.1 hx with h | h
  .exact hs.lt x h
  .exact ho.lt x h⟩
end Go.Sx
namespace Go.Sx
open Go.Dx Go.Proofs
set_option maxRecDepth 10000
section
variable {m0 m m':M}{W:List Nat}{Z:Nat->Prop}{P:Nat}{σ:List (Nat × List Value)}{s s':Mch}{g:Gh}{S S':PM}
theorem fE {σ:List (Nat × List Value)}{x p:Nat × List Value}{k:Nat}(h:σ[k]?=some p):(σ++[x])[k]?=some p:=by
 rw[qgs (qgf.1 h).1];exact h
theorem MX.box (h:MX m0 m W Z P σ s g S){k B:Nat}{l:List Value}(hk:σ[k]?=some (B,l)):B<m.n/\Arr m B l:=(h.ow.get k (fE hk)).2
theorem MX.boxT (h:MX m0 m W Z P σ s g S){k B:Nat}{l l':List Value}(hk:σ[k]?=some (B,l))(ow:Ow m0 m' W ((σ++[(P,qX s)]).set k (B,l')))(hn:m'.n=m.n)(ho:∀X,X≠B->m'.obj X=m.obj X):MX m0 m' W Z P (σ.set k (B,l')) s g S:=by
 have hkl:=(qgf.1 hk).1
 have hm:=h.sig _ (qge hk)
 rw[List.set_append_left _ _ hkl]at ow
 refine⟨ow,h.hp.congr (by omega) (λC hC=>ho C λe=>hm.2 (e ▸ hC)) (λC hC=>ho C λe=>hm.1 (e ▸ hC)),h.sc,h.lW,h.shZ,λp hp=>?_,h.PW,h.Wn⟩
 rcases List.mem_or_eq_of_mem_set hp with hp | rfl
 .exact h.sig p hp
 .exact hm
theorem MX.fill (h:MX m0 m W Z P σ s g S)(k:Nat){B:Nat}{l l':List Value}(hk:σ[k]?=some (B,l)){n:Nat}(hn0:0<n)(hl:l.length=n)(hl':l'.length=n)(hv:∀v∈l',okC v=true) :
  ∃m',qB n (.pointer (some ⟨B,0,none⟩)) (.agg ⟨l'⟩) m=some (undef,m')/\MX m0 m' W Z P (σ.set k (B,l')) s g S/\m'.n=m.n:=by
 obtain⟨m',a,b,c,d⟩:=h.ow.storeN k (fE hk) (o:=0) hn0 hl' (by omega) hv
 rw[ya (by omega)]at b
 exact⟨m',a,h.boxT hk b c d,c⟩
theorem MX.fillAny (h:MX m0 m W Z P σ s g S)(k:Nat){B:Nat}{l l':List Value}(hk:σ[k]?=some (B,l)){n:Nat}(hn0:0<n)(hl:l.length=n)(hl':l'.length=n)(hv:∀v∈l',okC v=true) :
  ∃m',qB n (.pointer (some ⟨B,0,none⟩)) (.agg ⟨l'⟩) (qg m)=some (undef,m')/\m'.log=[B]/\MX m0 (Dx.behind m m') W Z P (σ.set k (B,l')) s g S/\(Dx.behind m m').n=m.n:=by
 obtain⟨m',a,a0,b,c,d⟩:=h.ow.storeNAny k (fE hk) (o:=0) hn0 hl' (by omega) hv
 rw[ya (by omega)]at b
 exact⟨m',a,a0,h.boxT hk b c d,c⟩
theorem MX.put (h:MX m0 m W Z P σ s g S)(k:Nat){B:Nat}{l:List Value}(hk:σ[k]?=some (B,l)){o:Nat}{v:Value}(ho:o<l.length)(hv:okC v=true) :
  ∃m',qB 1 (.pointer (some ⟨B,o,none⟩)) v m=some (undef,m')/\MX m0 m' W Z P (σ.set k (B,l.set o v)) s g S/\m'.n=m.n:=by
 obtain⟨m',a,b,c,d⟩:=h.ow.store k (fE hk) ho hv
 exact⟨m',a,h.boxT hk b c d,c⟩
theorem MX.putAny (h:MX m0 m W Z P σ s g S)(k:Nat){B:Nat}{l:List Value}(hk:σ[k]?=some (B,l)){o:Nat}{v:Value}(ho:o<l.length)(hv:okC v=true) :
  ∃m',qB 1 (.pointer (some ⟨B,o,none⟩)) v (qg m)=some (undef,m')/\m'.log=[B]/\MX m0 (Dx.behind m m') W Z P (σ.set k (B,l.set o v)) s g S/\(Dx.behind m m').n=m.n:=by
 obtain⟨m',a,a0,b,c,d⟩:=h.ow.storeAny k (fE hk) ho hv
 exact⟨m',a,a0,h.boxT hk b c d,c⟩
structure NumS (s s':Mch)(S S':PM)(o:Nat)(v:Value):Prop where
 row:(qX s).set o v=qX s'
 same:QS s s' S S'
theorem qe3 (s:Mch)(a:Int):(qX s).set 1 (iv a)=qX { s with at_:=a }:=rfl
theorem qbf (s:Mch)(a:Int):(qX s).set 73 (iv a)=qX { s with loc:=a }:=by kernel_rfl
theorem qbg (s:Mch)(a:Int):(qX s).set 74 (iv a)=qX { s with rd:=a }:=by kernel_rfl
theorem qbh (s:Mch)(a:Int):(qX s).set 76 (iv a)=qX { s with own:=a }:=by kernel_rfl
theorem qbi (s:Mch)(a:Int):(qX s).set 77 (iv a)=qX { s with dn:=a }:=by kernel_rfl
theorem qbj (s:Mch)(a:Int):(qX s).set 86 (iv a)=qX { s with us:=a }:=by kernel_rfl
theorem qbk (s:Mch)(a:Int):(qX s).set 87 (iv a)=qX { s with limit:=a }:=by kernel_rfl
def XK (s:Mch)(o:Nat)(a:Int):Mch :=
 if o=1 then { s with at_:=a } else if o=73 then { s with loc:=a } else if o=74 then { s with rd:=a } else if o=76 then { s with own:=a } else if o=77 then { s with dn:=a } else if o=86 then { s with us:=a } else { s with limit:=a }
abbrev NumO (o:Nat):Prop:=o=1\/o=73\/o=74\/o=76\/o=77\/o=86\/o=87
theorem Fg (s:Mch){o:Nat}(h:NumO o)(a:Int):(qX s).set o (iv a)=qX (XK s o a):=by
 rcases h with rfl | rfl | rfl | rfl | rfl | rfl | rfl
 .exact qe3 s a
 .exact qbf s a
 .exact qbg s a
 .exact qbh s a
 .exact qbi s a
 .exact qbj s a
 .exact qbk s a
def vh (S:PM)(o:Nat)(a:Int):PM:={ S with sc:=XK S.sc o a }
theorem KZ (s:Mch)(S:PM){o:Nat}(h:NumO o)(a:Int):QS s (XK s o a) S (vh S o a):=by
 rcases h with rfl | rfl | rfl | rfl | rfl | rfl | rfl<;>exact⟨rfl,rfl,rfl,rfl,rfl,λF hF=>by rcases six hF with rfl | rfl | rfl | rfl | rfl | rfl<;>rfl,rfl,rfl,rfl,rfl,rfl,λF hF=>by rcases six hF with rfl | rfl | rfl | rfl | rfl | rfl<;>rfl⟩
theorem Fs {s:Mch}{S:PM}(hs:Sc s S){o:Nat}(h:NumO o)(a:Int):Sc (XK s o a) (vh S o a):=by
 show dX (XK s o a)=XK S.sc o a
 rw[<-hs]
 rcases h with rfl | rfl | rfl | rfl | rfl | rfl | rfl<;>rfl
theorem NumO.lt {o:Nat}(h:NumO o):o<88:=by unfold NumO at h;omega
theorem MX.num (h:MX m0 m W Z P σ s g S){o:Nat}(ho:NumO o)(a:Int) :
  ∃m',qB 1 (.pointer (some ⟨P,o,none⟩)) (iv a) m=some (undef,m')/\MX m0 m' W Z P σ (XK s o a) g (vh S o a)/\m'.n=m.n:=by
 obtain⟨m',a1,a2,a3,-⟩:=h.set ho.lt rfl (Fg s ho a) (KZ s S ho a) (Fs h.sc ho a)
 exact⟨m',a1,a2,a3⟩
theorem MX.numAny (h:MX m0 m W Z P σ s g S){o:Nat}(ho:NumO o)(a:Int) :
  ∃m',qB 1 (.pointer (some ⟨P,o,none⟩)) (iv a) (qg m)=some (undef,m')/\m'.log=[P]/\MX m0 (Dx.behind m m') W Z P σ (XK s o a) g (vh S o a)/\(Dx.behind m m').n=m.n:=by
 obtain⟨m',a1,a0,a2,a3,-⟩:=h.setAny ho.lt rfl (Fg s ho a) (KZ s S ho a) (Fs h.sc ho a)
 exact⟨m',a1,a0,a2,a3⟩
end
structure HfOK (S:PM)(h:Hf):Prop where
 what:h.w.what=2
 one:h.w.one=true
 ex:h.w.ex=false
 val:h.w.val<W64
 ad:SetOK S.ev.length h.ad
 da:SetOK S.ev.length h.da
 rd:h.rd<S.ev.length
 ev:S.ev.length<256
 at_:∃a:Nat,S.sc.at_=(a:Int)/\a<S.code.length
structure WF (S:PM):Prop where
 code:∀i∈S.code,InsX i
 len:S.code.length<=16384
 v:∀k,S.sc.v k<W64
 t:∀k,SetOK S.ev.length (S.t k)
 ft:SetOK S.ev.length S.ft
 way:SetOK S.ev.length S.way
 half:∀h,S.half=some h->HfOK S h
 ev:S.ev.length<=256
 rmw:S.rmw.length<=S.ev.length
 addr:S.addr.length<=256*S.ev.length
 data:S.data.length<=256*S.ev.length
 ctrl:S.ctrl.length<=256*S.ev.length
 own:0<=S.sc.own/\S.sc.own<=100000
 rd:∃a:Nat,S.sc.rd=(a:Int)/\a<=256
 us:∃a:Nat,S.sc.us=(a:Int)/\a<=S.ev.length
theorem WF.inB {S:PM}(h:WF S):InB S:=⟨h.v,λk=>by have:=(h.t k).len;have:=h.ev;omega,by have:=h.ft.len;have:=h.ev;omega,by have:=h.way.len;have:=h.ev;omega⟩
structure OwnS (S S':PM):Prop where
 code:S'.code=S.code
 half:S'.half=S.half
 ev:S'.ev=S.ev
 rmw:S'.rmw=S.rmw
 addr:S'.addr=S.addr
 data:S'.data=S.data
 ctrl:S'.ctrl=S.ctrl
 outs:S'.outs=S.outs
 own:S'.sc.own=S.sc.own
 dn:S'.sc.dn=S.sc.dn
 rd:S'.sc.rd=S.sc.rd
 us:S'.sc.us=S.sc.us
 limit:S'.sc.limit=S.sc.limit
 st:S'.sc.st=S.sc.st/\S'.sc.lc=S.sc.lc
theorem OwnS.refl (S:PM):OwnS S S:=⟨rfl,rfl,rfl,rfl,rfl,rfl,rfl,rfl,rfl,rfl,rfl,rfl,rfl,rfl,rfl⟩
theorem OwnS.trans {A B C:PM}(h:OwnS A B)(k:OwnS B C):OwnS A C :=
 ⟨k.code.trans h.code,k.half.trans h.half,k.ev.trans h.ev,k.rmw.trans h.rmw,k.addr.trans h.addr,k.data.trans h.data,k.ctrl.trans h.ctrl,k.outs.trans h.outs,k.own.trans h.own,k.dn.trans h.dn,k.rd.trans h.rd,k.us.trans h.us,k.limit.trans h.limit,k.st.1.trans h.st.1,k.st.2.trans h.st.2⟩
theorem qR (S:PM)(k x:Nat)(l:List Nat):OwnS S (setRP S k x l):=by
 unfold setRP
 split<;>exact⟨rfl,rfl,rfl,rfl,rfl,rfl,rfl,rfl,rfl,rfl,rfl,rfl,rfl,rfl,rfl⟩
theorem ZA (S:PM)(i:Ins):OwnS S (doF S i).1:=by
 unfold doF
 simp only
 repeat' split
 all_goals first
  | exact qR _ _ _ _
  | exact OwnS.refl S
  | exact⟨rfl,rfl,rfl,rfl,rfl,rfl,rfl,rfl,rfl,rfl,rfl,rfl,rfl,rfl,rfl⟩
  | exact (show OwnS S { S with sc:={ S.sc with opn:=false } } from ⟨rfl,rfl,rfl,rfl,rfl,rfl,rfl,rfl,rfl,rfl,rfl,rfl,rfl,rfl,rfl⟩).trans (qR _ _ _ _)
structure RegOK (n:Nat)(S:PM):Prop where
 v:∀k,S.sc.v k<W64
 t:∀k,SetOK n (S.t k)
 ft:SetOK n S.ft
 way:SetOK n S.way
theorem WF.regs {S:PM}(h:WF S):RegOK S.ev.length S:=⟨h.v,h.t,h.ft,h.way⟩
theorem RegOK.setRP {n:Nat}{S:PM}(h:RegOK n S)(k:Nat){x:Nat}{l:List Nat}(hx:x<W64)(hl:SetOK n l):RegOK n (setRP S k x l):=by
 unfold Sx.setRP
 split
 .exact h
 .refine⟨λq=>?_,λq=>?_,h.ft,h.way⟩
  .show upN S.sc.v k x q<W64
   by_cases e:q=k
   .rw[e,xa];exact hx
   .rw[yE _ _ e];exact h.v q
  .show SetOK n (upN S.t k l q)
   by_cases e:q=k
   .rw[e,xa];exact hl
   .rw[yE _ _ e];exact h.t q
theorem qe8 (i:Ins):GI i<W64:=Nat.mod_lt _ (by decide)
theorem qbq {a:Nat}(h:a<W64)(i:Ins):KW a i<W64:=qc9 (Vb h) (Nat.mod_lt _ (by decide))
theorem qad {n:Nat}{S:PM}(h:RegOK n S)(i:Ins):RegOK n (doF S i).1:=by
 unfold doF
 simp only
 repeat' split
 all_goals first
  | exact h
  | exact⟨h.v,h.t,h.ft,Jp h.way h.ft⟩
  | exact⟨h.v,h.t,h.ft,Jp h.way (h.t _)⟩
  | exact⟨h.v,h.t,Jp (h.t _) (h.t _),h.way⟩
  | exact h.setRP _ (by decide) h.ft
  | exact h.setRP _ (qe8 i) (SetOK.nil n)
  | exact h.setRP _ (qbq (h.v _) i) (h.t _)
  | exact RegOK.setRP (S:={ S with sc:={ S.sc with opn:=false } }) ⟨h.v,h.t,h.ft,h.way⟩ _ (by decide) (SetOK.nil n)
  | exact h.setRP _ (Zf (h.v _) (h.v _)) (Jp (h.t _) (h.t _))
  | exact h.setRP _ (Zf (h.v _) (h.v _)) (h.t _)
def fetch (S:PM):Option Ins:=if 0<=S.sc.at_ then S.code[S.sc.at_.toNat]? else none
def ki (s:Mch):Bool:=decide (0<=s.limit)&&decide (s.limit<=s.dn)
def look (S:PM):Option Wnt :=
 match S.half with
 | some h=>some h.w
 | none=>match fetch S with
  | none=>some (zl 7)
  | some i=>if (wD S.sc S.ev.length i).2=false then some (wD S.sc S.ev.length i).1 else if 100000<=S.sc.own\/ki S.sc=true then some (zl 6) else none
def vb (S:PM):PM:={ S with sc:={ S.sc with own:=S.sc.own+1,dn:=IntKind.i64.wrap (S.sc.dn+1) } }
def vn (S:PM)(i:Ins):PM:={ (doF (vb S) i).1 with sc:={ (doF (vb S) i).1.sc with at_:=(doF (vb S) i).2 } }
def za (S:PM):PM:=match fetch S with
 | some i=>vn S i
 | none=>S
def zx:Nat->PM->PM × Wnt
 | 0,S=>(S,zl 6)
 | k+1,S=>match look S with
  | some w=>(S,w)
  | none=>zx k (za S)
def wu (S:PM):PM × Wnt:=zx 100001 S
theorem yr {S:PM}{i:Ins}(h:fetch S=some i):∃a:Nat,S.sc.at_=(a:Int)/\S.code[a]?=some i:=by
 unfold fetch at h
 split at h
 .rename_i h0
  exact⟨S.sc.at_.toNat,by omega,h⟩
 .cases h
theorem vX {S:PM}(h:look S=none):S.half=none/\∃i,fetch S=some i/\(wD S.sc S.ev.length i).2=true/\S.sc.own<100000/\ki S.sc=false:=by
 unfold look at h
 cases hh:S.half with
 | some x=>rw[hh]at h;cases h
 | none =>
  rw[hh]at h
  refine⟨rfl,?_⟩
  cases hf:fetch S with
  | none=>rw[hf]at h;cases h
  | some i =>
   rw[hf]at h
   simp only at h
   split at h
   .cases h
   .rename_i h1
    split at h
    .cases h
    .rename_i h2
     exact⟨i,rfl,by simpa using h1,by omega,by
      cases hs:ki S.sc with
      | false=>rfl
      | true=>exact absurd (.inr hs) h2⟩
structure StepS (S S':PM):Prop where
 code:S'.code=S.code
 half:S'.half=S.half
 ev:S'.ev=S.ev
 rmw:S'.rmw=S.rmw
 addr:S'.addr=S.addr
 data:S'.data=S.data
 ctrl:S'.ctrl=S.ctrl
 outs:S'.outs=S.outs
 rd:S'.sc.rd=S.sc.rd
 us:S'.sc.us=S.sc.us
 limit:S'.sc.limit=S.sc.limit
 st:S'.sc.st=S.sc.st/\S'.sc.lc=S.sc.lc
theorem StepS.refl (S:PM):StepS S S:=⟨rfl,rfl,rfl,rfl,rfl,rfl,rfl,rfl,rfl,rfl,rfl,rfl,rfl⟩
theorem StepS.trans {A B C:PM}(h:StepS A B)(k:StepS B C):StepS A C :=
 ⟨k.code.trans h.code,k.half.trans h.half,k.ev.trans h.ev,k.rmw.trans h.rmw,k.addr.trans h.addr,k.data.trans h.data,k.ctrl.trans h.ctrl,k.outs.trans h.outs,k.rd.trans h.rd,k.us.trans h.us,k.limit.trans h.limit,k.st.1.trans h.st.1,k.st.2.trans h.st.2⟩
theorem QO (S:PM)(i:Ins):StepS S (vn S i):=by
 obtain⟨a,b,c,d,e,f,g,h,i1,j,k,l,m,n,o⟩:=ZA (vb S) i
 exact⟨a,b,c,d,e,f,g,h,k,l,m,n,o⟩
theorem dZ (S:PM)(i:Ins):(vn S i).sc.own=S.sc.own+1:=(ZA (vb S) i).own
theorem qcy (S:PM)(i:Ins):(vn S i).sc.dn=IntKind.i64.wrap (S.sc.dn+1):=(ZA (vb S) i).dn
theorem FJ (S:PM):StepS S (za S):=by
 unfold za
 split
 .exact QO S _
 .exact StepS.refl S
theorem Ym {n:Nat}{S:PM}(h:RegOK n S)(i:Ins):RegOK n (vn S i):=by
 have:=qad (n:=n) (S:=vb S) ⟨h.v,h.t,h.ft,h.way⟩ i
 exact⟨this.v,this.t,this.ft,this.way⟩
theorem HfOK.of {S S':PM}{h:Hf}(k:HfOK S h)(he:S'.ev=S.ev)(ha:S'.sc.at_=S.sc.at_)(hc:S'.code=S.code):HfOK S' h :=
 ⟨k.what,k.one,k.ex,k.val,by rw[he];exact k.ad,by rw[he];exact k.da,by rw[he];exact k.rd,by rw[he];exact k.ev,by rw[ha,hc];exact k.at_⟩
theorem WF.step {S:PM}(h:WF S)(hl:look S=none):WF (za S):=by
 obtain⟨h1,i,h2,h3,h4,h5⟩:=vX hl
 have e:za S=vn S i:=by unfold za;rw[h2]
 have k:=QO S i
 have r:=Ym h.regs i
 rw[e]
 refine⟨by rw[k.code];exact h.code,by rw[k.code];exact h.len,r.v,by rw[k.ev];exact r.t,by rw[k.ev];exact r.ft,by rw[k.ev];exact r.way,λx hx=>?_,by rw[k.ev];exact h.ev,by rw[k.ev,k.rmw];exact h.rmw,by rw[k.ev,k.addr];exact h.addr,by rw[k.ev,k.data];exact h.data,by rw[k.ev,k.ctrl];exact h.ctrl,?_,by rw[k.rd];exact h.rd,by rw[k.us,k.ev];exact h.us⟩
 .rw[k.half,h1]at hx;cases hx
 .rw[dZ];have:=h.own;omega
theorem WL:∀(k:Nat) (S:PM),WF S->(100000-S.sc.own).toNat<k->look (zx k S).1=some (zx k S).2/\WF (zx k S).1/\StepS S (zx k S).1
 | 0,S,_,hk=>by omega
 | k+1,S,h,hk=>by
  unfold zx
  cases hl:look S with
  | some w=>exact⟨hl,h,StepS.refl S⟩
  | none =>
   obtain⟨h1,i,h2,h3,h4,h5⟩:=vX hl
   have e:za S=vn S i:=by unfold za;rw[h2]
   have ho:(za S).sc.own=S.sc.own+1:=by rw[e,dZ]
   obtain⟨a,b,c⟩:=WL k (za S) (h.step hl) (by rw[ho];have:=h.own;omega)
   exact⟨a,b,(FJ S).trans c⟩
theorem kx {S:PM}(h:WF S):look (wu S).1=some (wu S).2/\WF (wu S).1/\StepS S (wu S).1:=WL _ S h (by have:=h.own;omega)
end Go.Sx
namespace Go.Sx
open Go.Dx Go.Proofs
set_option maxRecDepth 10000
theorem FH (n:Nat){m:M}{P:Nat}{s:Mch}(h:MAt m P s):CallV (ex Tryz.prog (n+1)) 30 [mP P] m (.bool (ki s)):=by
 refine qj db8_ok (by simp) ?_
 have l87:load1 m ⟨P,87,none⟩=some (iv s.limit):=h.l1 87
 have l77:load1 m ⟨P,77,none⟩=some (iv s.dn):=h.l1 77
 by_cases hd:(0:Int)<=s.limit
 .have hd':((0:Int)<=s.limit)=True:=eq_true hd
  simp[l87,hd',l77]
  exact qx (by simp) (by simp[ki,hd])
 .have hd':((0:Int)<=s.limit)=False:=eq_false hd
  simp[l87,hd']
  exact qx (by simp) (by simp[ki,hd])
theorem qde {s:Mch}{S:PM}(h:Sc s S)(evn:Nat)(i:Ins):wD s evn i=wD S.sc evn i:=by
 have h1:s.v=S.sc.v:=by rw[<-h];rfl
 have h2:s.opn=S.sc.opn:=by rw[<-h];rfl
 have h3:s.loc=S.sc.loc:=by rw[<-h];rfl
 have h4:cellL s i=cellL S.sc i:=by unfold cellL bc;rw[h1]
 have h5:zP s i=zP S.sc i:=by unfold zP bc;rw[h1]
 unfold wD jm
 rw[h1,h2,h3,h4,h5]
theorem XN {s:Mch}{S:PM}(h:Sc s S):ki s=ki S.sc:=by rw[<-h];rfl
theorem InsX.i33 {i:Ins}(h:InsX i):i.op=33->∃k:Nat,i.imm=(k:Int)/\k<32:=h.svc
theorem Bs {s:Mch}{evn:Nat}{i:Ins}(h:(wD s evn i).2=true):i.op<=21\/i.op=28\/i.op=29\/i.op=32:=by
 unfold wD at h
 split at h
 .cases h
 split at h
 .cases h
 split at h
 .cases h
 split at h
 .cases h
 split at h
 .rename_i h1;omega
 split at h
 .cases h
 split at h
 .cases h
 split at h
 .rename_i h1;omega
 .cases h
theorem bu_w7:wN [zI,zI,zI,zU,.bool false,.bool false] [(0,1,.int .i64 7)]=some (.agg ⟨qy (zl 7)⟩):=dp 7
abbrev NextR (n:Nat)(m:M)(P:Nat)(s:Mch)(g:Gh)(S:PM):Prop:=MuR (ex Tryz.prog (n+32)) 15 [mP P] m P s g (wu S).1 λv=>v=.agg ⟨qy (wu S).2⟩
theorem WK {S:PM}{w:Wnt}(h:look S=some w)(k:Nat):zx (k+1) S=(S,w):=by
 show (match look S with | some w=>(S,w) | none=>zx k (za S))=_
 rw[h]
theorem VJ {S:PM}(h:look S=none)(k:Nat):zx (k+1) S=zx k (za S):=by
 show (match look S with | some w=>(S,w) | none=>zx k (za S))=_
 rw[h]
theorem XZ (n:Nat){m:M}{P:Nat}{s:Mch}{g:Gh}{S:PM}(h:ML m P s g S)(hw:WF S):NextR n m P s g S:=by
 suffices H:∃v m',(ex Tryz.prog (n+32)).f 15 [mP P] m=some (v,m')/\(v=.agg ⟨qy (wu S).2⟩/\∃s' g',Res m m' P s g s' g' (wu S).1) by
  obtain⟨v,m',h1,hv,s',g',h2⟩:=H
  exact⟨v,m',s',g',h1,h2,hv⟩
 refine qA (Q:=λv m'=>v=.agg ⟨qy (wu S).2⟩/\∃s' g',Res m m' P s g s' g' (wu S).1) da6_ok (by simp) ?_
 have hx0:=h.mx.row z6w
 obtain⟨mA,hA⟩:=qh2 (Dx.newRow m z6w)
 have hA':Dx.newRow m [zI,zI,zI,zU,.bool false,.bool false]=mA:=hA.symm
 rw[<-hA]at hx0
 simp[hA']
 refine qF (c:=BJ) rfl (zH _) (λj t m'=>Tm.get 0 t=mP P/\Tm.get 2 t=.pointer (some ⟨m.n,0,none⟩)/\∃s' g' S',MX m m' (own P s) (Sh s g) P [(m.n,z6w)] s' g' S'/\WF S'/\zx (100001-j) S'=wu S/\(j:Int)<=S'.sc.own) 100000 (by omega)
  ⟨by simp,by simp,s,g,S,hx0,hw,rfl,by have:=hw.own;omega⟩ (λj t m' k hj hI hk=>?_)
 obtain⟨t0,t2,s',g',S',hx,hwf,hnx,hown⟩:=hI
 have hje:100001-j=(100000-j)+1:=by omega
 rw[hje]at hnx
 have fin:∀{mq:M} {sq:Mch} {gq:Gh} {σ:List (Nat × List Value)} (x:Wnt) (kq:Nat),MX m mq (own P s) (Sh s g) P σ sq gq S'->σ[kq]?=some (m.n,z6w)->∃m4,qB 6 (.pointer (some ⟨m.n,0,none⟩)) (.agg ⟨qy x⟩) mq=some (undef,m4)/\Res m m4 P s g sq gq S'/\loads m4 ⟨m.n,0,none⟩ 6=some (qy x):=λ{mq sq gq σ} x kq hq hk=>by
  obtain⟨m4,y1,y2,-⟩:=hq.fill kq hk (n:=6) (l':=qy x) (by omega) rfl rfl (vp _)
  have hkl:=(qgf.1 hk).1
  exact⟨m4,y1,y2.res,(y2.box (k:=kq) (by rw[List.getElem?_set_self hkl])).2.loads (o:=0) (n:=6) (by simp[qy])⟩
 have done:∀{t':Tm} {m4:M} {sq:Mch} {gq:Gh} {x:Wnt},Tm.get 2 t'=.pointer (some ⟨m.n,0,none⟩)->look S'=some x->loads m4 ⟨m.n,0,none⟩ 6=some (qy x)->Res m m4 P s g sq gq S'->zH (λv m'=>v=.agg ⟨qy (wu S).2⟩/\∃s' g',Res m m' P s g s' g' (wu S).1) (kQ [.cell 2 6] t' m4):=λ{t' m4 sq gq x} ht hl h4 hr=>by
  rw[WK hl]at hnx
  exact qap ht h4 ⟨by rw[<-hnx],sq,gq,by rw[<-hnx];exact hr⟩
 have l75:load1 m' ⟨P,75,none⟩=some s'.half:=hx.ld 75
 have l1:load1 m' ⟨P,1,none⟩=some (iv S'.sc.at_):=by rw[<-hx.sc];exact hx.ld 1
 have l0:load1 m' ⟨P,0,none⟩=some s'.l:=hx.ld 0
 cases hhf:S'.half with
 | some hf =>
  have hr:=hx.hp.half
  rw[hhf]at hr
  obtain⟨H,h1,h2,h3,h4,-,-⟩:=hr
  rw[h2]at l75
  have hl:look S'=some hf.w:=by unfold look;rw[hhf]
  have lw:loads m' ⟨H,0,none⟩ 6=some (qy hf.w):=by
   rw[h4.loads (o:=0) (n:=6) (by simp[qy])];rfl
  obtain⟨m4,y1,y2,y3⟩:=fin hf.w 0 hx rfl
  have eqn:eqN ZQ true (.pointer (some ⟨H,0,none⟩)) (.pointer none)=some false:=rfl
  simp[t0,t2,l75,eqn,qd,lw,y1]
  exact done (by simp[t2]) hl y3 y2
 | none =>
  have hr:=hx.hp.half
  rw[hhf]at hr
  have hr:s'.half=.pointer none:=hr
  rw[hr]at l75
  have eqn:eqN ZQ true (.pointer none) (.pointer none)=some true:=rfl
  have hrd:=hx.hp.code
  have hlen:=hrd.len
  have hcl:=hwf.len
  cases hft:fetch S' with
  | none =>
   have hl:look S'=some (zl 7):=by unfold look;rw[hhf,hft]
   obtain⟨m4,y1,y2,y3⟩:=fin (zl 7) 0 hx rfl
   have q:S'.sc.at_<0\/(¬S'.sc.at_<0/\(S'.code.length:Int)<=S'.sc.at_):=by
    by_cases h0:0<=S'.sc.at_
    .unfold fetch at hft
     rw[if_pos h0,List.getElem?_eq_none_iff]at hft
     exact .inr ⟨by omega,by omega⟩
    .exact .inl (by omega)
   rcases q with q | ⟨q1,q2⟩
   .have g1:(S'.sc.at_<0)=True:=eq_true q
    simp[t0,t2,l75,eqn,l1,l0,hlen,g1,bu_w7,y1]
    exact done (by simp[t2]) hl y3 y2
   .have g1:(S'.sc.at_<0)=False:=eq_false q1
    have g2:((S'.code.length:Int)<=S'.sc.at_)=True:=eq_true q2
    simp[t0,t2,l75,eqn,l1,l0,hlen,g1,g2,bu_w7,y1]
    exact done (by simp[t2]) hl y3 y2
  | some i =>
   obtain⟨a,ha,hai⟩:=yr hft
   rw[ha]at l1
   have hal:=(qgf.1 hai).1
   have g1:((a:Int)<0)=False:=eq_false (by omega)
   have g2:((S'.code.length:Int)<=(a:Int))=False:=eq_false (by omega)
   have hiX:=hwf.code i (qge hai)
   obtain⟨c1,c2,-⟩:=hrd.at hai
   have c2':loads m' (adr 6 s'.l a) 6=some (qv i):=c2 m' (Sees.refl hx.mb)
   have hx1:=hx.row z6i
   obtain⟨mr,hmr⟩:=qh2 (Dx.newRow m' z6i)
   have hmr':Dx.newRow m' [zI,zI,zI,zI,zI,zI]=mr:=hmr.symm
   rw[<-hmr]at hx1
   obtain⟨mq,e1',e0,hx2,e2⟩:=hx1.fillAny 0 rfl (n:=6) (l':=qv i) (by omega) rfl rfl (jV i)
   obtain⟨m1,hm1⟩:=qh2 (Dx.behind mr mq)
   rw[<-hm1]at hx2
   have l3:loads m1 ⟨m'.n,0,none⟩ 6=some (qv i):=(hx2.box (k:=0) rfl).2.loads (o:=0) (n:=6) (by simp[qv])
   have hev:jW s'.ev=some (iv S'.ev.length):=by
    have:=(hx.hp.ls 0 (by omega)).len
    rw[xn]at this;exact this
   obtain⟨v2,m2,w1,w2,rfl⟩:=want_c (n+29) hx2.mb hx2.mat hiX.ok hiX.i33 hev (by have:=hwf.ev;omega)
   rw[qde hx.sc]at w1
   have hx3:=(hx2.ext w2).row z6w
   obtain⟨W,hW⟩:=qh2 (wD S'.sc S'.ev.length i)
   rw[<-hW]at w1
   obtain⟨m3,x1,hx4,x2⟩:=hx3.fill 0 rfl (n:=6) (l':=qy W.1) (by omega) rfl rfl (vp _)
   have x1':qB 6 (.pointer (some ⟨m2.n,0,none⟩)) (.agg ⟨qy W.1⟩) (Dx.newRow m2 [zI,zI,zI,zU,.bool false,.bool false])=some (undef,m3):=x1
   have l4:loads m3 ⟨m2.n,0,none⟩ 6=some (qy W.1):=(hx4.box (k:=0) rfl).2.loads (o:=0) (n:=6) (by simp[qy])
   have l76:load1 m3 ⟨P,76,none⟩=some (iv S'.sc.own):=by rw[<-hx.sc];exact hx4.ld 76
   cases hw2:W.2 with
   | false =>
    have hl:look S'=some W.1:=by unfold look;rw[hhf,hft];simp only;rw[<-hW,if_pos hw2]
    rw[hw2]at w1
    obtain⟨m4,y1,y2,y3⟩:=fin W.1 2 hx4 rfl
    simp[t0,t2,l75,eqn,l1,l0,hlen,g1,g2,qd,c1,c2',hmr',e1',e0,<-hm1,l3,w1,x1',l4,y1]
    exact done (by simp[t2]) hl y3 y2
   | true =>
    rw[hw2]at w1
    have hlk:look S'=if 100000<=S'.sc.own\/ki S'.sc=true then some (zl 6) else none:=by unfold look;rw[hhf,hft];simp only;rw[<-hW,if_neg (by rw[hw2];simp)]
    by_cases ho:100000<=S'.sc.own
    .have hl:look S'=some (zl 6):=by rw[hlk,if_pos (.inl ho)]
     have g3:((100000:Int)<=S'.sc.own)=True:=eq_true ho
     obtain⟨m4,y1,y2,y3⟩:=fin (zl 6) 2 hx4 rfl
     simp[t0,t2,l75,eqn,l1,l0,hlen,g1,g2,qd,c1,c2',hmr',e1',e0,<-hm1,l3,w1,x1',l76,g3,dp,y1]
     exact done (by simp[t2]) hl y3 y2
    .have g3:((100000:Int)<=S'.sc.own)=False:=eq_false ho
     obtain⟨v4,m4,s1,s2,rfl⟩:=FH (n+30) hx4.mat
     rw[XN hx.sc]at s1
     have hx5:=hx4.ext s2
     cases hsp:ki S'.sc with
     | true =>
      rw[hsp]at s1
      have hl:look S'=some (zl 6):=by rw[hlk,if_pos (.inr hsp)]
      obtain⟨m5,y1,y2,y3⟩:=fin (zl 6) 2 hx5 rfl
      simp[t0,t2,l75,eqn,l1,l0,hlen,g1,g2,qd,c1,c2',hmr',e1',e0,<-hm1,l3,w1,x1',l76,g3,s1,dp,y1]
      exact done (by simp[t2]) hl y3 y2
     | false =>
      rw[hsp]at s1
      have hl:look S'=none:=by rw[hlk,if_neg (λh=>h.elim ho (by rw[hsp];simp))]
      have hown2:=hwf.own
      have l76':load1 m4 ⟨P,76,none⟩=some (iv S'.sc.own):=by rw[<-hx.sc];exact hx5.ld 76
      have w76:IntKind.i64.wrap (S'.sc.own+1)=S'.sc.own+1:=wrap64 _ (by omega) (by omega)
      obtain⟨m5,y1,hx6,y2⟩:=hx5.num (o:=76) (by decide) (S'.sc.own+1)
      have l77:load1 m5 ⟨P,77,none⟩=some (iv S'.sc.dn):=by rw[<-hx.sc];exact hx6.ld 77
      obtain⟨m6,z1,hx7,z2⟩:=hx6.num (o:=77) (by decide) (IntKind.i64.wrap (S'.sc.dn+1))
      have l3':loads m6 ⟨m'.n,0,none⟩ 6=some (qv i):=(hx7.box (k:=1) rfl).2.loads (o:=0) (n:=6) (by simp[qv])
      have hx7:MX m m6 (own P s) (Sh s g) P [(m2.n,qy W.1),(m'.n,qv i),(m.n,z6w)] _ g' (vb S'):=hx7
      obtain⟨v7,m7,s7,g7,d1,d2,rfl⟩:=do_c n hx7.ml (S:=vb S') ⟨hwf.inB.v,hwf.inB.t,hwf.inB.ft,hwf.inB.way⟩ hiX (Bs (s:=S'.sc) (evn:=S'.ev.length) (by rw[<-hW];exact hw2))
      have hx8:=hx7.call d2
      obtain⟨m8,u1,hx9,u2⟩:=hx8.num (o:=1) (by decide) (doF (vb S') i).2
      have hst:za S'=vn S' i:=by unfold za;rw[hft]
      have hx9:MX m m8 (own P s) (Sh s g) P [(m2.n,qy W.1),(m'.n,qv i),(m.n,z6w)] _ g7 (vn S' i):=hx9
      rw[VJ hl,hst]at hnx
      have hwf':=hwf.step hl
      rw[hst]at hwf'
      simp[t0,t2,l75,eqn,l1,l0,hlen,g1,g2,qd,c1,c2',hmr',e1',e0,<-hm1,l3,w1,x1',l76,g3,s1,l76',w76,y1,l77,z1,l3',d1,u1]
      refine hk (by omega) _ _ ⟨by simp[t0],by simp[t2],_,_,vn S' i,hx9.drop (by simp) ?_,hwf',?_,?_⟩
      .have:=hx.ow.nd;exact this
      .rw[show 100001-(j+1)=100000-j by omega];exact hnx
      .rw[dZ];omega
end Go.Sx
namespace Go.Sx
open Go.Dx Go.Proofs
set_option maxRecDepth 10000
structure Rm (S:PM):Prop where
 ev:S.ev.length<=1000
 rmw:S.rmw.length<=100000
 addr:S.addr.length<=100000
 data:S.data.length<=100000
 ctrl:S.ctrl.length<=100000
 t:∀k,(S.t k).length<=1000
 way:S.way.length<=1000
theorem WF.rm {S:PM}(h:WF S):Rm S:=⟨by have:=h.ev;omega,by have:=h.rmw;have:=h.ev;omega,by have:=h.addr;have:=h.ev;omega,by have:=h.data;have:=h.ev;omega,by have:=h.ctrl;have:=h.ev;omega,h.inB.t,h.inB.way⟩
def rmwP (S:PM)(a b:Nat):PM:={ S with rmw:=S.rmw++[(a,b)] }
def storeP (S:PM)(i:Ins)(w:Wnt)(v b:Nat):PM :=
 let S1:=if w.ex then { S with sc:={ S.sc with opn:=false } } else S
 if w.ex=true/\v=0 then setRP S1 i.rm.toNat 1 []
 else
  let S2:=dataP (kG S1 (S1.t i.rn.toNat) ⟨0,2,w.loc,w.val,w.mode⟩) (S1.t i.rd.toNat) b
  if w.ex then setRP (rmwP S2 S2.sc.rd.toNat b) i.rm.toNat 0 [] else S2
theorem YD (kind loc:Int)(val:Nat)(mode:Int):wN [zI,zI,zI,zU,zI] [(1,1,.int .i64 kind),(2,1,.int .i64 loc),(3,1,.int .u64 val),(4,1,.int .i64 mode)]=some (.agg ⟨zJ ⟨0,kind,loc,val,mode⟩⟩):=rfl
section
variable {m0 m m':M}{W:List Nat}{Z:Nat->Prop}{P:Nat}{σ:List (Nat × List Value)}{s s':Mch}{g:Gh}{S S':PM}
theorem RS.any {m:M}{v:Value}{l:List Nat}(h:RS m v l):RS (qg m) v l:=h.congr (by rw[qq];exact qgg _) λB _=>qw _ _
theorem MX.tOwn (h:MX m0 m W Z P σ s g S){k:Nat}(hk:k<32):∀B,blk (s.t k)=some B->B ∉ own P s:=λB hB=>fD h.hp (.inr (.inl ⟨k,hk,hB⟩))
theorem MX.eventAny (h:MX m0 m W Z P σ s g S)(n:Nat)(hr:Rm S){av:Value}{ad:List Nat}(ha:RS m av ad)(hav:∀B,blk av=some B->B ∉ own P s)(hl:ad.length<=1000)(e:EvR) :
  ∃v m' s' g',(ex Tryz.prog (n+1)).f 35 [mP P,av,.agg ⟨zJ e⟩] (qg m)=some (v,m')/\MX m0 (Dx.behind m m') W Z P σ s' g' (kG S ad e):=by
 obtain⟨v,m',s',g',a1,a2,-⟩:=YP n h.mlAny ha.any hav e (by have:=hr.ev;omega) (by have:=hr.addr;omega) (by have:=hr.ctrl;have:=hr.way;omega)
 exact⟨v,m',s',g',a1,h.callAny a2⟩
theorem MX.dataAny (h:MX m0 m W Z P σ s g S)(n:Nat){av:Value}{ad:List Nat}(ha:RS m av ad)(hav:∀B,blk av=some B->B ∉ own P s)(b:Nat)(hl:S.data.length+ad.length<=1000000) :
  ∃v m' s' g',(ex Tryz.prog (n+1)).f 60 [mP P,av,iv b] (qg m)=some (v,m')/\MX m0 (Dx.behind m m') W Z P σ s' g' (dataP S ad b):=by
 obtain⟨v,m',s',g',a1,a2,-⟩:=qa2 n h.mlAny ha.any hav b hl
 exact⟨v,m',s',g',a1,h.callAny a2⟩
theorem MX.opn (h:MX m0 m W Z P σ s g S)(b:Bool):∃m',qB 1 (.pointer (some ⟨P,72,none⟩)) (.bool b) m=some (undef,m')/\MX m0 m' W Z P σ { s with opn:=b } g { S with sc:={ S.sc with opn:=b } }/\m'.n=m.n:=by
 obtain⟨m',a1,a2,a3,-⟩:=h.set (o:=72) (v:=.bool b) (by omega) rfl (bH s b) (S':={ S with sc:={ S.sc with opn:=b } }) ⟨rfl,rfl,rfl,rfl,rfl,λF hF=>by rcases six hF with rfl | rfl | rfl | rfl | rfl | rfl<;>rfl,rfl,rfl,rfl,rfl,rfl,λF hF=>by rcases six hF with rfl | rfl | rfl | rfl | rfl | rfl<;>rfl⟩ (by
  show dX { s with opn:=b }={ S.sc with opn:=b }
  rw[<-h.sc];rfl)
 exact⟨m',a1,a2,a3⟩
theorem MX.opnAny (h:MX m0 m W Z P σ s g S)(b:Bool):∃m',qB 1 (.pointer (some ⟨P,72,none⟩)) (.bool b) (qg m)=some (undef,m')/\m'.log=[P]/\MX m0 (Dx.behind m m') W Z P σ { s with opn:=b } g { S with sc:={ S.sc with opn:=b } }/\(Dx.behind m m').n=m.n:=by
 obtain⟨m',a1,a0,a2,a3,-⟩:=h.setAny (o:=72) (v:=.bool b) (by omega) rfl (bH s b) (S':={ S with sc:={ S.sc with opn:=b } }) ⟨rfl,rfl,rfl,rfl,rfl,λF hF=>by rcases six hF with rfl | rfl | rfl | rfl | rfl | rfl<;>rfl,rfl,rfl,rfl,rfl,rfl,λF hF=>by rcases six hF with rfl | rfl | rfl | rfl | rfl | rfl<;>rfl⟩ (by
  show dX { s with opn:=b }={ S.sc with opn:=b }
  rw[<-h.sc];rfl)
 exact⟨m',a1,a0,a2,a3⟩
theorem MX.rmwAny (h:MX m0 m W Z P σ s g S)(a b:Nat)(hl:S.rmw.length<=1000000) :
  ∃v' mq m5 s',wZ (qg (Dx.newRow m [iv a,iv b])) 2 16 s.rmw (.slice (some ⟨m.n,0,some 5⟩) 1 1)=some (v',mq)/\qB 1 (.pointer (some ⟨P,79,none⟩)) v' (qg (Dx.behind (Dx.newRow m [iv a,iv b]) mq))=some (undef,m5)/\m5.log=[P] /\
   MX m0 (Dx.behind (Dx.behind (Dx.newRow m [iv a,iv b]) mq) m5) W Z P ((m.n,[iv a,iv b])::σ) s' g (rmwP S a b):=by
 obtain⟨v',mq,m5,a1,a2,a3,a4⟩:=(h.row [iv a,iv b]).pushAny (F:=1) (by omega) (qcf S (a,b)) (QH m a b (some 5)) (bytes:=16) (by rw[yc];unfold most;omega) (by rw[yc];omega)
 exact⟨v',mq,m5,_,a1,a2,a3,a4⟩
end
theorem qfk (n:Nat){m:M}{P:Nat}{s:Mch}{g:Gh}{S:PM}(h:ML m P s g S)(hr:Rm S){i:Ins}(hi:InsX i)(w:Wnt)(v b:Nat)(hrd:∃a:Nat,S.sc.rd=(a:Int)) :
  MuR (ex Tryz.prog (n+3)) 39 [mP P,.agg ⟨qv i⟩,.agg ⟨qy w⟩,uv v,iv b] m P s g (storeP S i w v b) λ_=>True:=by
 suffices H:∃u m',(ex Tryz.prog (n+3)).f 39 [mP P,.agg ⟨qv i⟩,.agg ⟨qy w⟩,uv v,iv b] m=some (u,m')/\∃s' g',Res m m' P s g s' g' (storeP S i w v b) by
  obtain⟨u,m',h1,s',g',h2⟩:=H
  exact⟨u,m',s',g',h1,h2,trivial⟩
 refine qA (Q:=λu m'=>∃s' g',Res m m' P s g s' g' (storeP S i w v b)) dc6_ok (by simp) ?_
 obtain⟨⟨rd,hrdi,erd,hrd2⟩,⟨rn,hrn,ern,hrn2⟩,⟨rm,hrm,erm,hrm2⟩⟩:=regs hi
 obtain⟨ra,hra⟩:=hrd
 have hx0:=(h.mx.row (qv i)).row (qy w)
 obtain⟨m0,hm0⟩:=qh2 (Dx.newRow m (qv i))
 have hb1:jv (.agg ⟨qv i⟩) m=some (.pointer (some ⟨m.n,0,none⟩),m0):=by rw[hm0];rfl
 rw[<-hm0]at hx0
 obtain⟨m1,hm1⟩:=qh2 (Dx.newRow m0 (qy w))
 have hb2:jv (.agg ⟨qy w⟩) m0=some (.pointer (some ⟨m0.n,0,none⟩),m1):=by rw[hm1];rfl
 rw[<-hm1]at hx0
 have WI:∀{mq:M} {sq:Mch} {gq:Gh} {Sq:PM} {Wq:List Nat} {Zq:Nat->Prop} (hq:MX m mq Wq Zq P [(m0.n,qy w),(m.n,qv i)] sq gq Sq) (o:Nat),load1 mq ⟨m0.n,o,none⟩=(qy w)[o]?:=λhq o=>(hq.box (k:=0) rfl).2.load1 o none
 have II:∀{mq:M} {sq:Mch} {gq:Gh} {Sq:PM} {Wq:List Nat} {Zq:Nat->Prop} (hq:MX m mq Wq Zq P [(m0.n,qy w),(m.n,qv i)] sq gq Sq) (o:Nat),load1 mq ⟨m.n,o,none⟩=(qv i)[o]?:=λhq o=>(hq.box (k:=1) rfl).2.load1 o none
 have w4:load1 m1 ⟨m0.n,4,none⟩=some (.bool w.ex):=WI hx0 4
 have itn:=jB P 34 hrn2
 rw[<-hrn]at itn
 have itd:=jB P 34 hrd2
 rw[<-hrdi]at itd
 cases hwe:w.ex with
 | false =>
  rw[hwe]at w4
  have hF:storeP S i w v b=dataP (kG S (S.t rn) ⟨0,2,w.loc,w.val,w.mode⟩) (S.t rd) b:=by unfold storeP;simp only[hwe,erd,ern,Bool.false_eq_true,if_false,false_and]
  rw[hF]
  have i2:load1 m1 ⟨m.n,2,none⟩=some (iv i.rn):=II hx0 2
  have ltn:load1 m1 ⟨P,34+rn,none⟩=some (s.t rn):=by rw[hx0.ld,gh s hrn2]
  have w1:load1 m1 ⟨m0.n,1,none⟩=some (iv w.loc):=WI hx0 1
  have w3:load1 m1 ⟨m0.n,3,none⟩=some (uv w.val):=WI hx0 3
  have w2:load1 m1 ⟨m0.n,2,none⟩=some (iv w.mode):=WI hx0 2
  obtain⟨v2,m2,s2,g2,a1,hx2⟩:=hx0.eventAny (n+1) hr (hx0.hp.t rn hrn2) (hx0.tOwn hrn2) (hr.t rn) ⟨0,2,w.loc,w.val,w.mode⟩
  obtain⟨M2,hM2⟩:=qh2 (Dx.behind m1 m2)
  rw[<-hM2]at hx2
  have i1:load1 M2 ⟨m.n,1,none⟩=some (iv i.rd):=II hx2 1
  have ltd:load1 M2 ⟨P,34+rd,none⟩=some (s2.t rd):=by rw[hx2.ld,gh s2 hrd2]
  obtain⟨v3,m3,s3,g3,b1,hx3⟩:=hx2.dataAny (n+1) (ad:=S.t rd) (hx2.hp.t rd hrd2) (hx2.tOwn hrd2) b (by show S.data.length+_<=_;have:=hr.data;have:=hr.t rd;omega)
  obtain⟨M3,hM3⟩:=qh2 (Dx.behind M2 m3)
  rw[<-hM3]at hx3
  have x4:load1 M3 ⟨m0.n,4,none⟩=some (.bool false):=by rw[<-hwe];exact WI hx3 4
  simp[hb1,hb2,w4,i2,itn,ltn,w1,w2,w3,YD,a1,<-hM2,i1,itd,ltd,b1,<-hM3,x4]
  exact zp ⟨_,_,hx3.res⟩
 | true =>
  rw[hwe]at w4
  obtain⟨mo,o1,hxo,o2⟩:=hx0.opn false
  have y4:load1 mo ⟨m0.n,4,none⟩=some (.bool true):=by rw[<-hwe];exact WI hxo 4
  obtain⟨So,hSo⟩:=qh2 ({ S with sc:={ S.sc with opn:=false } })
  rw[<-hSo]at hxo
  obtain⟨so,hso⟩:=qh2 ({ s with opn:=false })
  rw[<-hso]at hxo
  by_cases hv:v=0
  .have hF:storeP S i w v b=setRP So rm 1 []:=by unfold storeP;simp only[hwe,erm,if_true,true_and,hv,<-hSo]
   rw[hF]
   have i3:load1 mo ⟨m.n,3,none⟩=some (iv rm):=by rw[<-hrm];exact II hxo 3
   obtain⟨v5,m5,d1,hx5⟩:=hxo.regAny (n+1) hrm2 1 Tv.nil
   have d1:(ex Tryz.prog (n+2)).f 37 [.pointer (some ⟨P,2,none⟩),iv rm,.int .u64 1,zS] (qg mo)=some (v5,m5):=d1
   rw[hv]
   simp[hb1,hb2,w4,o1,y4,i3,d1]
   exact zp ⟨_,_,hx5.res⟩
  .obtain⟨S2,hS2⟩:=qh2 (dataP (kG So (So.t rn) ⟨0,2,w.loc,w.val,w.mode⟩) (So.t rd) b)
   have hF:storeP S i w v b=setRP (rmwP S2 ra b) rm 0 []:=by
    unfold storeP
    simp only[hwe,erm,ern,erd,if_true,true_and,if_neg hv,<-hSo,<-hS2]
    rw[show S2.sc.rd.toNat=ra by rw[hS2];show So.sc.rd.toNat=ra;rw[hSo];show S.sc.rd.toNat=ra;rw[hra];rfl]
   rw[hF]
   have hvi:(((v:Nat):Int)=0)=False:=eq_false (by omega)
   have hro:Rm So:=by rw[hSo];exact⟨hr.ev,hr.rmw,hr.addr,hr.data,hr.ctrl,hr.t,hr.way⟩
   have i2:load1 mo ⟨m.n,2,none⟩=some (iv i.rn):=II hxo 2
   have ltn:load1 mo ⟨P,34+rn,none⟩=some (so.t rn):=by rw[hxo.ld,gh so hrn2]
   have w1:load1 mo ⟨m0.n,1,none⟩=some (iv w.loc):=WI hxo 1
   have w3:load1 mo ⟨m0.n,3,none⟩=some (uv w.val):=WI hxo 3
   have w2:load1 mo ⟨m0.n,2,none⟩=some (iv w.mode):=WI hxo 2
   obtain⟨v2,m2,s2,g2,a1,hx2⟩:=hxo.eventAny (n+1) hro (hxo.hp.t rn hrn2) (hxo.tOwn hrn2) (hro.t rn) ⟨0,2,w.loc,w.val,w.mode⟩
   obtain⟨M2,hM2⟩:=qh2 (Dx.behind mo m2)
   rw[<-hM2]at hx2
   have i1:load1 M2 ⟨m.n,1,none⟩=some (iv i.rd):=II hx2 1
   have ltd:load1 M2 ⟨P,34+rd,none⟩=some (s2.t rd):=by rw[hx2.ld,gh s2 hrd2]
   obtain⟨v3,m3,s3,g3,b1,hx3⟩:=hx2.dataAny (n+1) (ad:=So.t rd) (hx2.hp.t rd hrd2) (hx2.tOwn hrd2) b (by show So.data.length+_<=_;have:=hro.data;have:=hro.t rd;omega)
   obtain⟨M3,hM3⟩:=qh2 (Dx.behind M2 m3)
   rw[<-hM3,<-hS2]at hx3
   have x4:load1 M3 ⟨m0.n,4,none⟩=some (.bool true):=by rw[<-hwe];exact WI hx3 4
   have l79:load1 M3 ⟨P,79,none⟩=some s3.rmw:=hx3.lsn (F:=1) (by omega)
   have l74:load1 M3 ⟨P,74,none⟩=some (iv ra):=by
    rw[hx3.ld]
    show some (iv s3.rd)=_
    have:s3.rd=S2.sc.rd:=by rw[<-hx3.sc];rfl
    rw[this,hS2];show some (iv So.sc.rd)=_;rw[hSo];show some (iv S.sc.rd)=_;rw[hra]
   have bs:=gW M3 ra b
   obtain⟨v',mq,m5,s4,c1,c2,c3,hx4⟩:=hx3.rmwAny ra b (by rw[hS2];show So.rmw.length<=_;have:=hro.rmw;omega)
   obtain⟨MR,hMR⟩:=qh2 (Dx.newRow M3 [iv ra,iv b])
   rw[<-hMR]at c1 c2 hx4 bs
   obtain⟨M4,hM4⟩:=qh2 (Dx.behind MR mq)
   rw[<-hM4]at c2 hx4
   obtain⟨M5,hM5⟩:=qh2 (Dx.behind M4 m5)
   rw[<-hM5]at hx4
   have i3:load1 M5 ⟨m.n,3,none⟩=some (iv rm):=by
    rw[<-hrm];exact (hx4.box (k:=2) rfl).2.load1 3 none
   obtain⟨v6,m6,d1,hx6⟩:=hx4.regAny (n+1) hrm2 0 Tv.nil
   have d1:(ex Tryz.prog (n+2)).f 37 [.pointer (some ⟨P,2,none⟩),iv rm,zU,zS] (qg M5)=some (v6,m6):=d1
   simp[hb1,hb2,w4,o1,y4,hvi,hv,i2,itn,ltn,w1,w2,w3,YD,a1,<-hM2,i1,itd,ltd,b1,<-hM3,x4,l79,l74,gX,bs,c1,c2,c3,<-hM4,<-hM5,i3,d1]
   exact zp ⟨_,_,hx6.res⟩
end Go.Sx
namespace Go.Sx
open Go.Dx Go.Proofs
set_option maxRecDepth 10000
theorem Xk (s:Mch)(v:Value):(qX s).set 75 v=qX { s with half:=v }:=by kernel_rfl
section
variable {m0 m m':M}{W:List Nat}{Z:Nat->Prop}{P:Nat}{σ σ':List (Nat × List Value)}{s s':Mch}{g g':Gh}{S S':PM}
theorem MX.oldSh {s0:Mch}{g0:Gh}{S0:PM}(h0:Hp m P s0 g0 S0)(h:MX m m' (own P s0) (Sh s0 g0) P σ s g S){B:Nat}(hB:Sh s0 g0 B):(Sh s0 g0 B\/m.n<=B)/\¬Lb s B/\B≠P/\(∀p∈σ,p.1≠B)/\B<m'.n:=by
 have h1:=fD h0 hB
 have h2:=h0.sn B hB
 refine⟨.inl hB,λhL=>?_,λe=>h1 (wR.2 (.inl e)),λp hp e=>?_,qgi h2 h.ow.mc.n⟩
 .rcases h.lW B hL with h3 | h3
  .exact h1 h3
  .omega
 .rcases (h.ow.arr p (List.mem_append_left _ hp)).1 with h3 | h3
  .exact h1 (e ▸ h3)
  .omega
theorem MX.newHalf (h:MX m0 m W Z P σ s g S){hv:Value}{hf:Option Hf}(ow:Ow m0 m' W (σ'++[(P,qX { s with half:=hv })]))(hn:m'.n=m.n)(ho:∀X,X≠P->m'.obj X=m.obj X)(hσ:∀p∈σ',p∈σ)(hH:HalfR m' hv g' hf)
  (hg:∀B,(g'.H=some B\/blk g'.av=some B\/blk g'.dv=some B)->(Z B\/m0.n<=B)/\¬Lb s B/\B≠P/\(∀p∈σ',p.1≠B)/\B<m.n):MX m0 m' W Z P σ' { s with half:=hv } g' { S with half:=hf }:=by
 have lse:∀F,lst { s with half:=hv } F=lst s F:=λF=>by unfold lst;split<;>rfl
 have rse:∀F,F<6->rowsOf { S with half:=hf } F=rowsOf S F:=bX rfl rfl rfl rfl rfl rfl
 have lbe:∀B,Lb { s with half:=hv } B ↔ Lb s B:=λB=>by unfold Lb;simp only[lse]
 have she:∀B,Sh { s with half:=hv } g' B->Sh s g B\/(g'.H=some B\/blk g'.av=some B\/blk g'.dv=some B):=λB hB=>by
  unfold Sh at *
  rcases hB with h1 | h1 | h1 | h1 | h1
  .exact .inl (.inl h1)
  .exact .inl (.inr (.inl h1))
  .exact .inl (.inr (.inr (.inl h1)))
  .exact .inl (.inr (.inr (.inr (.inl h1))))
  .exact .inr h1
 have base:=h.hp.congr (m':=m') (by omega) (λB hB=>ho B (λe=>h.hp.sP (e ▸ hB))) (λB hB=>ho B (λe=>by
  obtain⟨F,hF,e2⟩:=hB
  exact h.hp.lP F hF (by rw[e2,e])))
 refine⟨ow,⟨base.code,base.t,base.ft,base.way,hH,λF hF=>by rw[lse,rse F hF];exact base.ls F hF,λF G hF hG hne B hB=>by rw[lse]at hB ⊢;exact base.dis F G hF hG hne B hB,λF hF=>by rw[lse];exact base.lP F hF,λhP=>?_,λB hB hL=>?_,λB hB=>?_⟩,?_,λB hB=>h.lW B ((lbe B).1 hB),λB hB=>?_,λp hp=>⟨λhL=>(h.sig p (hσ p hp)).1 ((lbe _).1 hL),λhS=>?_⟩,h.PW,h.Wn⟩
 .rcases she P hP with h1 | h1
  .exact h.hp.sP h1
  .exact (hg P h1).2.2.1 rfl
 .rcases she B hB with h1 | h1
  .exact h.hp.sL B h1 ((lbe B).1 hL)
  .exact (hg B h1).2.1 ((lbe B).1 hL)
 .rw[hn]
  rcases she B hB with h1 | h1
  .exact h.hp.sn B h1
  .exact (hg B h1).2.2.2.2
 .show dX { s with half:=hv }=S.sc
  rw[<-h.sc];rfl
 .rcases she B hB with h1 | h1
  .exact h.shZ B h1
  .exact (hg B h1).1
 .rcases she _ hS with h1 | h1
  .exact (h.sig p (hσ p hp)).2 h1
  .exact (hg _ h1).2.2.2.1 p hp rfl
theorem MX.dataC (h:MX m0 m W Z P σ s g S)(n:Nat){av:Value}{ad:List Nat}(ha:RS m av ad)(hav:∀B,blk av=some B->B ∉ own P s)(b:Nat)(hl:S.data.length+ad.length<=1000000) :
  ∃v m' s' g',(ex Tryz.prog (n+1)).f 60 [mP P,av,iv b] m=some (v,m')/\MX m0 m' W Z P σ s' g' (dataP S ad b):=by
 obtain⟨v,m',s',g',a1,a2,-⟩:=qa2 n h.ml ha hav b hl
 exact⟨v,m',s',g',a1,h.call a2⟩
theorem MX.halfNil (h:MX m0 m W Z P σ s g S):∃m',qB 1 (.pointer (some ⟨P,75,none⟩)) (.pointer none) m=some (undef,m')/\MX m0 m' W Z P σ { s with half:=.pointer none } g { S with half:=none }/\m'.n=m.n:=by
 obtain⟨m',a,b,c,d⟩:=h.ow.store σ.length h.atP (o:=75) (v:=.pointer none) (by rw[kA];omega) rfl
 rw[Xk,vm]at b
 refine⟨m',a,h.newHalf b c d (λp hp=>hp) rfl λB hB=>?_,c⟩
 have hS:Sh s g B:=.inr (.inr (.inr (.inr hB)))
 exact⟨h.shZ B hS,h.hp.sL B hS,λe=>h.hp.sP (e ▸ hS),λp hp e=>(h.sig p hp).2 (e ▸ hS),h.hp.sn B hS⟩
end
theorem qco (m:M)(b:Nat):RS (Dx.newRow m [iv b]) (.slice (some ⟨m.n,0,some 3⟩) 1 1) [b] :=
 ⟨qch (f:=qP) (λ_=>rfl) (l':=[b]) (k:=1) (Arr.row m [iv b]) (by simp) rfl rfl,λh=>by cases h⟩
def gy (i:Ins):Int:=if 2<=(IntKind.i64.wrap (i.op-36)).tmod 4 then 13 else 11
def Qz (S:PM)(i:Ins)(w:Wnt)(v b:Nat):Hf :=
 if i.op<=39 then ⟨⟨2,w.loc,gy i,S.sc.v i.rd.toNat,false,true⟩,S.t i.rn.toNat,S.t i.rd.toNat,b⟩
 else ⟨⟨2,w.loc,gy i,if 44<=i.op then (S.sc.v i.rm.toNat+v)%W64 else S.sc.v i.rm.toNat,false,true⟩,S.t i.rn.toNat,S.t i.rm.toNat,b⟩
def zZ (S:PM)(i:Ins)(v:Nat):Bool:=if i.op<=39 then decide (S.sc.v i.rm.toNat=v) else true
def beginP (S:PM)(i:Ins)(w:Wnt)(v b:Nat):PM :=
 let S1:=setRP S (if i.op<=39 then i.rm.toNat else i.rd.toNat) v [b]
 if zZ S i v then { S1 with half:=some (Qz S i w v b) } else S1
def endP (S:PM)(b:Nat):PM:=match S.half with
 | none=>S
 | some h =>
  let S1:=rmwP (dataP (kG { S with half:=none } h.ad ⟨0,2,h.w.loc,h.w.val,h.w.mode⟩) h.da b) h.rd b
  vh (vh S1 1 (IntKind.i64.wrap (S1.sc.at_+1))) 76 0
theorem end_c (n:Nat){m:M}{P:Nat}{s:Mch}{g:Gh}{S:PM}(h:ML m P s g S)(hr:Rm S){hf:Hf}(hh:S.half=some hf)(h1:hf.ad.length<=1000)(h2:hf.da.length<=1000)(b:Nat) :
  MuR (ex Tryz.prog (n+3)) 38 [mP P,iv b] m P s g (endP S b) λ_=>True:=by
 suffices H:∃u m',(ex Tryz.prog (n+3)).f 38 [mP P,iv b] m=some (u,m')/\∃s' g',Res m m' P s g s' g' (endP S b) by
  obtain⟨u,m',h1,s',g',h2⟩:=H
  exact⟨u,m',s',g',h1,h2,trivial⟩
 refine qA (Q:=λu m'=>∃s' g',Res m m' P s g s' g' (endP S b)) dc5_ok (by simp) ?_
 have hhr:=h.hp.half
 rw[hh]at hhr
 obtain⟨H,q1,q2,q3,q4,q5,q6⟩:=hhr
 have hx0:=h.mx
 have l75:load1 m ⟨P,75,none⟩=some (mP H):=by rw[hx0.ld 75];show some s.half=_;rw[q2]
 have HS:Sh s g H:=.inr (.inr (.inr (.inr (.inl q1))))
 have AS:∀B,blk g.av=some B->Sh s g B:=λB hB=>.inr (.inr (.inr (.inr (.inr (.inl hB)))))
 have DS:∀B,blk g.dv=some B->Sh s g B:=λB hB=>.inr (.inr (.inr (.inr (.inr (.inr hB)))))
 have keep:∀{mq:M} {sq:Mch} {gq:Gh} {Sq:PM} {σ:List (Nat × List Value)} (hq:MX m mq (own P s) (Sh s g) P σ sq gq Sq),Arr mq H (qy hf.w++[g.av,g.dv,iv hf.rd])/\RS mq g.av hf.ad/\RS mq g.dv hf.da/\(∀B,blk g.av=some B->B ∉ own P sq)/\(∀B,blk g.dv=some B->B ∉ own P sq):=λhq =>
  ⟨q4.congr (hq.ow.mc.obj H q3 (fD h.hp HS)),hq.keepRS q5 λB hB=>fD h.hp (AS B hB),hq.keepRS q6 λB hB=>fD h.hp (DS B hB),
   λB hB hc=>by
    obtain⟨-,k1,k2,-⟩:=hq.oldSh h.hp (AS B hB)
    rcases wR.1 hc with e | e
    .exact k2 e
    .exact k1 e,λB hB hc=>by
    obtain⟨-,k1,k2,-⟩:=hq.oldSh h.hp (DS B hB)
    rcases wR.1 hc with e | e
    .exact k2 e
    .exact k1 e⟩
 have HL:∀{mq:M} {sq:Mch} {gq:Gh} {Sq:PM} {σ:List (Nat × List Value)} (hq:MX m mq (own P s) (Sh s g) P σ sq gq Sq) (o:Nat),load1 mq ⟨H,o,none⟩=(qy hf.w++[g.av,g.dv,iv hf.rd])[o]?:=λhq o=>(keep hq).1.load1 o none
 obtain⟨ma,a1,hxa,a2⟩:=hx0.halfNil
 obtain⟨Sa,hSa⟩:=qh2 ({ S with half:=none })
 rw[<-hSa]at hxa
 have hra:Rm Sa:=by rw[hSa];exact⟨hr.ev,hr.rmw,hr.addr,hr.data,hr.ctrl,hr.t,hr.way⟩
 have k6:load1 ma ⟨H,6,none⟩=some g.av:=HL hxa 6
 have k1:load1 ma ⟨H,1,none⟩=some (iv hf.w.loc):=HL hxa 1
 have k3:load1 ma ⟨H,3,none⟩=some (uv hf.w.val):=HL hxa 3
 have k2:load1 ma ⟨H,2,none⟩=some (iv hf.w.mode):=HL hxa 2
 obtain⟨v2,m2,s2,g2,b1,hx2⟩:=hxa.eventAny (n+1) hra (keep hxa).2.1 (keep hxa).2.2.2.1 h1 ⟨0,2,hf.w.loc,hf.w.val,hf.w.mode⟩
 obtain⟨M2,hM2⟩:=qh2 (Dx.behind ma m2)
 rw[<-hM2]at hx2
 have k7:load1 M2 ⟨H,7,none⟩=some g.dv:=HL hx2 7
 obtain⟨v3,M3,s3,g3,c1,hx3⟩:=hx2.dataC (n+1) (keep hx2).2.2.1 (keep hx2).2.2.2.2 b (by show Sa.data.length+_<=_;have:=hra.data;omega)
 have l79:load1 M3 ⟨P,79,none⟩=some s3.rmw:=hx3.lsn (F:=1) (by omega)
 have k8:load1 M3 ⟨H,8,none⟩=some (iv hf.rd):=HL hx3 8
 have bs:=gW M3 hf.rd b
 obtain⟨S3,hS3⟩:=qh2 (dataP (kG Sa hf.ad ⟨0,2,hf.w.loc,hf.w.val,hf.w.mode⟩) hf.da b)
 rw[<-hS3]at hx3
 obtain⟨v',mq,m5,s4,d1,d2,d3,hx4⟩:=hx3.rmwAny hf.rd b (by rw[hS3];show Sa.rmw.length<=_;have:=hra.rmw;omega)
 obtain⟨MR,hMR⟩:=qh2 (Dx.newRow M3 [iv hf.rd,iv b])
 rw[<-hMR]at d1 d2 hx4 bs
 obtain⟨M4,hM4⟩:=qh2 (Dx.behind MR mq)
 rw[<-hM4]at d2 hx4
 obtain⟨M5,hM5⟩:=qh2 (Dx.behind M4 m5)
 rw[<-hM5]at hx4
 obtain⟨at0,hat⟩:=qh2 ((rmwP S3 hf.rd b).sc.at_)
 have l1:load1 M5 ⟨P,1,none⟩=some (iv at0):=by rw[hat,<-hx4.sc];exact hx4.ld 1
 obtain⟨m6,e1,hx6,e2⟩:=hx4.num (o:=1) (by decide) (IntKind.i64.wrap (at0+1))
 obtain⟨m7,f1,hx7,f2⟩:=hx6.num (o:=76) (by decide) 0
 have hF:endP S b=vh (vh (rmwP S3 hf.rd b) 1 (IntKind.i64.wrap (at0+1))) 76 0:=by unfold endP;rw[hh];simp only[<-hSa,<-hS3,<-hat]
 rw[hF]
 have f1:qB 1 (.pointer (some ⟨P,76,none⟩)) zI m6=some (undef,m7):=f1
 simp[l75,a1,k6,k1,k3,k2,YD,b1,<-hM2,k7,c1,l79,k8,gX,bs,d1,d2,d3,<-hM4,<-hM5,l1,e1,f1]
 exact zp ⟨_,_,hx7.res⟩
end Go.Sx
namespace Go.Sx
open Go.Dx Go.Proofs
set_option maxRecDepth 10000
theorem bu_hf (w:Wnt)(l0 l1:Value)(b:Nat)(h0:∃a k q,l0=.slice a k q)(h1:∃a k q,l1=.slice a k q):wN [zI,zI,zI,zU,.bool false,.bool false,zS,zS,zI] [(0,6,.agg ⟨qy w⟩),(6,1,l0),(7,1,l1),(8,1,iv b)]=some (.agg ⟨qy w++[l0,l1,iv b]⟩):=by
 obtain⟨a,k,q,rfl⟩:=h0
 obtain⟨a',k',q',rfl⟩:=h1
 rfl
theorem Qi (loc:Int)(x:Nat):wN [zI,zI,zI,zU,.bool false,.bool false] [(0,1,.int .i64 2),(1,1,.int .i64 loc),(3,1,.int .u64 x),(2,1,.int .i64 11),(5,1,.bool true)]=some (.agg ⟨qy ⟨2,loc,11,x,false,true⟩⟩):=rfl
theorem RS.isSlice {m:M}{v:Value}{l:List Nat}(h:RS m v l):∃a k q,v=.slice a k q:=by
 have:=h.rd.len
 cases v with
 | slice a b c=>exact⟨_,_,_,rfl⟩
 | _=>cases this
section
variable {m0 m m':M}{W:List Nat}{Z:Nat->Prop}{P:Nat}{σ σ':List (Nat × List Value)}{s s':Mch}{g g':Gh}{S S':PM}
theorem MX.halfSome {B:Nat}{hw:Hf}{av dv:Value}(h:MX m0 m W Z P ((B,qy hw.w++[av,dv,iv hw.rd])::σ) s g S)(hB:m0.n<=B)(ha:RS m av hw.ad)(hd:RS m dv hw.da)
  (hg:∀B,(blk av=some B\/blk dv=some B)->(Z B\/m0.n<=B)/\¬Lb s B/\B≠P/\(∀p∈σ,p.1≠B)/\B<m.n) :
  ∃m',qB 1 (.pointer (some ⟨P,75,none⟩)) (mP B) m=some (undef,m')/\MX m0 m' W Z P σ { s with half:=mP B } ⟨some B,av,dv⟩ { S with half:=some hw }/\m'.n=m.n:=by
 obtain⟨m',a,b,c,d⟩:=h.ow.store _ h.atP (o:=75) (v:=mP B) (by rw[kA];omega) rfl
 rw[Xk,vm]at b
 have hnd:=h.ow.nd
 simp only[List.cons_append,List.map_cons,List.nodup_cons,List.map_append,List.map_nil,qh1,qgk,not_or,List.mem_map]at hnd
 have hBP:B≠P:=hnd.1.2
 have hbx:=h.box (k:=0) rfl
 have hsg:=h.sig _ (qgw)
 have hav:∀C,blk av=some C->m'.obj C=m.obj C:=λC hC=>d C (hg C (.inl hC)).2.2.1
 have hdv:∀C,blk dv=some C->m'.obj C=m.obj C:=λC hC=>d C (hg C (.inr hC)).2.2.1
 refine⟨m',a,h.newHalf (b.sub (λp hp=>by simp only[List.cons_append,List.mem_cons];exact .inr hp) ?_) c d (λp hp=>qgo _ hp) ⟨B,rfl,rfl,by rw[c];exact hbx.1,hbx.2.congr (d B hBP),ha.congr (by omega) hav,hd.congr (by omega) hdv⟩ λC hC=>?_,c⟩
 .have:=b.nd
  simp only[List.cons_append,List.map_cons,List.nodup_cons]at this
  exact this.2
 .rcases hC with hC | hC
  .cases hC
   exact⟨.inr hB,hsg.1,hBP,λp hp e=>hnd.1.1 ⟨p,hp,e⟩,hbx.1⟩
  .exact hg C hC
end
theorem qdk (n:Nat){m:M}{P:Nat}{s:Mch}{g:Gh}{S:PM}(h:ML m P s g S){i:Ins}(hi:InsX i)(w:Wnt){v:Nat}(hv:v<W64)(hS:∀k,S.sc.v k<W64)(b:Nat) :
  MuR (ex Tryz.prog (n+3)) 36 [mP P,.agg ⟨qv i⟩,.agg ⟨qy w⟩,uv v,iv b] m P s g (beginP S i w v b) λu=>u=.bool (zZ S i v):=by
 suffices H:∃u m',(ex Tryz.prog (n+3)).f 36 [mP P,.agg ⟨qv i⟩,.agg ⟨qy w⟩,uv v,iv b] m=some (u,m')/\(u=.bool (zZ S i v)/\∃s' g',Res m m' P s g s' g' (beginP S i w v b)) by
  obtain⟨u,m',h1,hu,s',g',h2⟩:=H
  exact⟨u,m',s',g',h1,h2,hu⟩
 refine qA (Q:=λu m'=>u=.bool (zZ S i v)/\∃s' g',Res m m' P s g s' g' (beginP S i w v b)) dc3_ok (by simp) ?_
 obtain⟨⟨rd,hrdi,erd,hrd2⟩,⟨rn,hrn,ern,hrn2⟩,⟨rm,hrm,erm,hrm2⟩⟩:=regs hi
 have hx0:=(h.mx.row (qv i)).row (qy w)
 obtain⟨m0,hm0⟩:=qh2 (Dx.newRow m (qv i))
 have hb1:jv (.agg ⟨qv i⟩) m=some (.pointer (some ⟨m.n,0,none⟩),m0):=by rw[hm0];rfl
 have hm0n:m0.n=m.n+1:=by rw[hm0,qQ]
 rw[<-hm0]at hx0
 obtain⟨m1,hm1⟩:=qh2 (Dx.newRow m0 (qy w))
 have hb2:jv (.agg ⟨qy w⟩) m0=some (.pointer (some ⟨m0.n,0,none⟩),m1):=by rw[hm1];rfl
 have hm1n:m1.n=m0.n+1:=by rw[hm1,qQ]
 rw[<-hm1]at hx0
 have hsv:s.v=S.sc.v:=by rw[<-h.sc];rfl
 have w1:load1 m1 ⟨m0.n,1,none⟩=some (iv w.loc):=(hx0.box (k:=0) rfl).2.load1 1 none
 have i3:load1 m1 ⟨m.n,3,none⟩=some (iv rm):=by rw[<-hrm];exact (hx0.box (k:=1) rfl).2.load1 3 none
 have i2:load1 m1 ⟨m.n,2,none⟩=some (iv rn):=by rw[<-hrn];exact (hx0.box (k:=1) rfl).2.load1 2 none
 have iam:=jB P 2 hrm2
 have itn:=jB P 34 hrn2
 have itm:=jB P 34 hrm2
 have iad:=jB P 2 hrd2
 have itd:=jB P 34 hrd2
 have lvm:load1 m1 ⟨P,2+rm,none⟩=some (uv (S.sc.v rm)):=by rw[hx0.ld,yX s hrm2,hsv]
 have ltn:load1 m1 ⟨P,34+rn,none⟩=some (s.t rn):=by rw[hx0.ld,gh s hrn2]
 have ltm:load1 m1 ⟨P,34+rm,none⟩=some (s.t rm):=by rw[hx0.ld,gh s hrm2]
 obtain⟨x0,hx0v⟩:=qh2 (S.sc.v rm)
 rw[<-hx0v]at lvm
 obtain⟨tn,htn⟩:=qh2 (s.t rn)
 obtain⟨tm,htm⟩:=qh2 (s.t rm)
 obtain⟨td,htd⟩:=qh2 (s.t rd)
 have rsn:RS m tn (S.t rn):=by rw[htn];exact h.hp.t rn hrn2
 have rsm:RS m tm (S.t rm):=by rw[htm];exact h.hp.t rm hrm2
 have rsd:RS m td (S.t rd):=by rw[htd];exact h.hp.t rd hrd2
 have shn:∀B,blk tn=some B->Sh s g B:=λB hB=>.inr (.inl ⟨rn,hrn2,by rw[<-htn];exact hB⟩)
 have shm:∀B,blk tm=some B->Sh s g B:=λB hB=>.inr (.inl ⟨rm,hrm2,by rw[<-htm];exact hB⟩)
 have shd:∀B,blk td=some B->Sh s g B:=λB hB=>.inr (.inl ⟨rd,hrd2,by rw[<-htd];exact hB⟩)
 have bu:=bu_hf ⟨2,w.loc,11,x0,false,true⟩ tn tm b rsn.isSlice rsm.isSlice
 rw[<-htn]at ltn
 rw[<-htm]at ltm
 have hx2:=hx0.row (qy ⟨2,w.loc,11,x0,false,true⟩++[tn,tm,iv b])
 obtain⟨m2,hm2⟩:=qh2 (Dx.newRow m1 (qy ⟨2,w.loc,11,x0,false,true⟩++[tn,tm,iv b]))
 have hb3:jv (.agg ⟨qy ⟨2,w.loc,11,x0,false,true⟩++[tn,tm,iv b]⟩) m1=some (.pointer (some ⟨m1.n,0,none⟩),m2):=by rw[hm2];rfl
 rw[<-hm2]at hx2
 have k0:load1 m2 ⟨m.n,0,none⟩=some (iv i.op):=(hx2.box (k:=2) rfl).2.load1 0 none
 have hr:=jK .i64 (IntKind.i64.wrap (i.op-36)) 4 (by decide)
 obtain⟨q4,hq4⟩:=qh2 ((IntKind.i64.wrap (i.op-36)).tmod 4)
 have hmo:gy i=if 2<=q4 then 13 else 11:=by unfold gy;rw[<-hq4]
 rw[<-hq4]at hr
 have mode:∃m3,(∀(t:Tm) (K:Tm->M->Option Out),True)/\(if 2<=q4 then qB 1 (.pointer (some ⟨m1.n,2,none⟩)) (.int .i64 13) m2=some (undef,m3) else m3=m2)/\MX m m3 (own P s) (Sh s g) P [(m1.n,qy ⟨2,w.loc,gy i,x0,false,true⟩++[tn,tm,iv b]),(m0.n,qy w),(m.n,qv i)] s g S/\m3.n=m2.n:=by
  by_cases h2:2<=q4
  .obtain⟨m3,a1,a2,a3⟩:=hx2.put 0 rfl (o:=2) (v:=.int .i64 13) (by simp[qy]) rfl
   refine⟨m3,λ_ _=>trivial,by rw[if_pos h2];exact a1,?_,a3⟩
   rw[hmo,if_pos h2];exact a2
  .refine⟨m2,λ_ _=>trivial,by rw[if_neg h2],?_,rfl⟩
   rw[hmo,if_neg h2];exact hx2
 obtain⟨m3,-,md,hx3,m3n⟩:=mode
 obtain⟨fm,hfm⟩:=qh2 (gy i)
 rw[<-hfm]at hx3
 have j1:load1 m3 ⟨m.n,1,none⟩=some (iv rd):=by rw[<-hrdi];exact (hx3.box (k:=2) rfl).2.load1 1 none
 have j0:load1 m3 ⟨m.n,0,none⟩=some (iv i.op):=(hx3.box (k:=2) rfl).2.load1 0 none
 have reg:∀{M4:M} {old:Nat} {hf:Hf} {dv:Value} (hold:old<32) (hrs:RS m dv hf.da) (hsh:∀B,blk dv=some B->Sh s g B) (had:hf.ad=S.t rn) (hrd:hf.rd=b) (hx4:MX m M4 (own P s) (Sh s g) P [(m1.n,qy hf.w++[tn,dv,iv hf.rd]),(m0.n,qy w),(m.n,qv i)] s g S),
   ∃v5 m5 s5,(ex Tryz.prog (n+2)).f 37 [.pointer (some ⟨P,2,none⟩),iv old,uv v,.slice (some ⟨M4.n,0,some 3⟩) 1 1] (Dx.newRow M4 [.int .i64 b])=some (v5,m5)/\MX m m5 (own P s) (Sh s g) P [(m1.n,qy hf.w++[tn,dv,iv hf.rd]),(m0.n,qy w),(m.n,qv i)] s5 g (setRP S old v [b]) /\
    ∃m6,qB 1 (.pointer (some ⟨P,75,none⟩)) (mP m1.n) m5=some (undef,m6)/\∃s6 g6,Res m m6 P s g s6 g6 { setRP S old v [b] with half:=some hf }:=by
  intro M4 old hf dv hold hrs hsh had hrd hx4
  have hx5:=hx4.ext (Ext.row M4 [iv b])
  have tv:=hx4.tvN (Ext.row M4 [iv b]) (qco M4 b) (λB hB=>by cases hB;exact qgg _)
  obtain⟨v5,m5,a1,hx6⟩:=hx5.reg (n+1) hold v tv
  refine⟨v5,m5,_,a1,hx6,?_⟩
  obtain⟨m6,c1,c2,-⟩:=hx6.halfSome (hw:=hf) (by omega) (hx6.keepRS (by rw[had];exact rsn) λB hB=>fD h.hp (shn B hB)) (hx6.keepRS hrs λB hB=>fD h.hp (hsh B hB)) (λB hB=>by
   have hSB:Sh s g B:=hB.elim (shn B) (hsh B)
   obtain⟨e1,e2,e3,e4,e5⟩:=hx6.oldSh h.hp hSB
   exact⟨e1,e2,e3,λp hp=>e4 p (qgo _ hp),e5⟩)
  exact⟨m6,c1,_,_,c2.res⟩
 by_cases h39:i.op<=39
 .have d39:(i.op<=39)=True:=eq_true h39
  have j3:load1 m3 ⟨m.n,3,none⟩=some (iv rm):=by rw[<-hrm];exact (hx3.box (k:=2) rfl).2.load1 3 none
  have lvm3:load1 m3 ⟨P,2+rm,none⟩=some (uv x0):=by rw[hx3.ld,yX s hrm2,hsv,hx0v]
  have lvd3:load1 m3 ⟨P,2+rd,none⟩=some (uv (S.sc.v rd)):=by rw[hx3.ld,yX s hrd2,hsv]
  have ltd3:load1 m3 ⟨P,34+rd,none⟩=some td:=by rw[hx3.ld,gh s hrd2,htd]
  obtain⟨xd,hxd⟩:=qh2 (S.sc.v rd)
  rw[<-hxd]at lvd3
  obtain⟨mf,e1,e0,hx4,e3⟩:=hx3.putAny 0 rfl (o:=3) (v:=uv xd) (by simp[qy]) rfl
  obtain⟨M4,hM4⟩:=qh2 (Dx.behind m3 mf)
  rw[<-hM4]at hx4
  obtain⟨mg,f1,f0,hx5,f3⟩:=hx4.putAny 0 rfl (o:=7) (v:=td) (by simp[qy]) rsd.ok
  obtain⟨M5,hM5⟩:=qh2 (Dx.behind M4 mg)
  rw[<-hM5]at hx5
  have hx5:MX m M5 (own P s) (Sh s g) P [(m1.n,qy ⟨2,w.loc,fm,xd,false,true⟩++[tn,td,iv b]),(m0.n,qy w),(m.n,qv i)] s g S:=hx5
  have hho:Qz S i w v b=⟨⟨2,w.loc,fm,xd,false,true⟩,S.t rn,S.t rd,b⟩:=by unfold Qz;rw[if_pos h39,erd,ern,<-hfm,hxd]
  obtain⟨v6,m6,s6,g1,hx6,m7,g2,s7,g7,g3⟩:=reg (old:=rm) (hf:=⟨⟨2,w.loc,fm,xd,false,true⟩,S.t rn,S.t rd,b⟩) (dv:=td) hrm2 rsd shd rfl rfl hx5
  have hbB:zZ S i v=decide (x0=v):=by unfold zZ;rw[if_pos h39,erm,hx0v]
  have hbP:beginP S i w v b=if x0=v then { setRP S rm v [b] with half:=some ⟨⟨2,w.loc,fm,xd,false,true⟩,S.t rn,S.t rd,b⟩ } else setRP S rm v [b]:=by
   unfold beginP
   simp only[hbB,if_pos h39,erm,hho,decide_eq_true_eq]
  rw[hbB,hbP]
  by_cases hxv:x0=v
  .have hxi:((x0:Int)=(v:Int))=True:=eq_true (by omega)
   have hxn:(x0=v)=True:=eq_true hxv
   rw[if_pos hxv]
   by_cases h2:2<=q4
   .rw[if_pos h2]at md
    have hq:(2<=q4)=True:=eq_true h2
    simp[hb1,hb2,w1,i3,i2,iam,lvm,itn,ltn,itm,ltm,Qi,bu,hb3,k0,hr,hq,md,j1,j0,d39,j3,iad,lvm3,lvd3,itd,ltd3,e1,e0,<-hM4,f1,f0,<-hM5,hxi,hxn,g1,g2]
    exact wO ⟨by simp,_,_,g3⟩
   .rw[if_neg h2]at md
    subst md
    have hq:(2<=q4)=False:=eq_false h2
    simp[hb1,hb2,w1,i3,i2,iam,lvm,itn,ltn,itm,ltm,Qi,bu,hb3,k0,hr,hq,j1,j0,d39,j3,iad,lvm3,lvd3,itd,ltd3,e1,e0,<-hM4,f1,f0,<-hM5,hxi,hxn,g1,g2]
    exact wO ⟨by simp,_,_,g3⟩
  .have hxi:((x0:Int)=(v:Int))=False:=eq_false (by omega)
   have hxn:(x0=v)=False:=eq_false hxv
   rw[if_neg hxv]
   by_cases h2:2<=q4
   .rw[if_pos h2]at md
    have hq:(2<=q4)=True:=eq_true h2
    simp[hb1,hb2,w1,i3,i2,iam,lvm,itn,ltn,itm,ltm,Qi,bu,hb3,k0,hr,hq,md,j1,j0,d39,j3,iad,lvm3,lvd3,itd,ltd3,e1,e0,<-hM4,f1,f0,<-hM5,hxi,hxn,g1]
    exact wO ⟨by simp,_,_,hx6.res⟩
   .rw[if_neg h2]at md
    subst md
    have hq:(2<=q4)=False:=eq_false h2
    simp[hb1,hb2,w1,i3,i2,iam,lvm,itn,ltn,itm,ltm,Qi,bu,hb3,k0,hr,hq,j1,j0,d39,j3,iad,lvm3,lvd3,itd,ltd3,e1,e0,<-hM4,f1,f0,<-hM5,hxi,hxn,g1]
    exact wO ⟨by simp,_,_,hx6.res⟩
 .have d39:(i.op<=39)=False:=eq_false h39
  have hbB:zZ S i v=true:=by unfold zZ;rw[if_neg h39]
  rw[hbB]
  by_cases h44:44<=i.op
  .have d44:(44<=i.op)=True:=eq_true h44
   have hx0l:x0<W64:=by rw[hx0v];exact hS rm
   have k3:load1 m3 ⟨m1.n,3,none⟩=some (uv x0):=(hx3.box (k:=0) rfl).2.load1 3 none
   have ad1:=qd5 x0 v
   obtain⟨y,hy⟩:=qh2 ((x0+v)%W64)
   have ad1:ky .add (uv x0) (uv v)=some (uv y):=by rw[hy];exact ad1
   obtain⟨m4,e1,hx4,e3⟩:=hx3.put 0 rfl (o:=3) (v:=uv y) (by simp[qy]) rfl
   have hx4:MX m m4 (own P s) (Sh s g) P [(m1.n,qy ⟨2,w.loc,fm,y,false,true⟩++[tn,tm,iv b]),(m0.n,qy w),(m.n,qv i)] s g S:=hx4
   obtain⟨v6,m6,s6,g1,hx6,m7,g2,s7,g7,g3⟩:=reg (old:=rd) (hf:=⟨⟨2,w.loc,fm,y,false,true⟩,S.t rn,S.t rm,b⟩) (dv:=tm) hrd2 rsm shm rfl rfl hx4
   have hbP:beginP S i w v b={ setRP S rd v [b] with half:=some ⟨⟨2,w.loc,fm,y,false,true⟩,S.t rn,S.t rm,b⟩ }:=by
    unfold beginP Qz
    simp only[hbB,if_neg h39,if_pos h44,if_true,erd,erm,ern,<-hfm,<-hx0v,<-hy]
   rw[hbP]
   by_cases h2:2<=q4
   .rw[if_pos h2]at md
    have hq:(2<=q4)=True:=eq_true h2
    simp[hb1,hb2,w1,i3,i2,iam,lvm,itn,ltn,itm,ltm,Qi,bu,hb3,k0,hr,hq,md,j1,j0,d39,d44,k3,-zN,ad1,e1,g1,g2]
    exact wO ⟨by simp,_,_,g3⟩
   .rw[if_neg h2]at md
    subst md
    have hq:(2<=q4)=False:=eq_false h2
    simp[hb1,hb2,w1,i3,i2,iam,lvm,itn,ltn,itm,ltm,Qi,bu,hb3,k0,hr,hq,j1,j0,d39,d44,k3,-zN,ad1,e1,g1,g2]
    exact wO ⟨by simp,_,_,g3⟩
  .have d44:(44<=i.op)=False:=eq_false h44
   obtain⟨v6,m6,s6,g1,hx6,m7,g2,s7,g7,g3⟩:=reg (old:=rd) (hf:=⟨⟨2,w.loc,fm,x0,false,true⟩,S.t rn,S.t rm,b⟩) (dv:=tm) hrd2 rsm shm rfl rfl hx3
   have hbP:beginP S i w v b={ setRP S rd v [b] with half:=some ⟨⟨2,w.loc,fm,x0,false,true⟩,S.t rn,S.t rm,b⟩ }:=by
    unfold beginP Qz
    simp only[hbB,if_neg h39,if_neg h44,if_true,erd,erm,ern,<-hfm,<-hx0v]
   rw[hbP]
   by_cases h2:2<=q4
   .rw[if_pos h2]at md
    have hq:(2<=q4)=True:=eq_true h2
    simp[hb1,hb2,w1,i3,i2,iam,lvm,itn,ltn,itm,ltm,Qi,bu,hb3,k0,hr,hq,md,j1,j0,d39,d44,g1,g2]
    exact wO ⟨by simp,_,_,g3⟩
   .rw[if_neg h2]at md
    subst md
    have hq:(2<=q4)=False:=eq_false h2
    simp[hb1,hb2,w1,i3,i2,iam,lvm,itn,ltn,itm,ltm,Qi,bu,hb3,k0,hr,hq,j1,j0,d39,d44,g1,g2]
    exact wO ⟨by simp,_,_,g3⟩
end Go.Sx
namespace Go.Sx
open Go.Dx Go.Proofs
set_option maxRecDepth 10000
def jL (S:PM):PM:=vh (vh (vh S 1 (IntKind.i64.wrap (S.sc.at_+1))) 76 0) 77 (IntKind.i64.wrap (S.sc.dn+1))
def exP (w:Wnt)(b:Nat)(S:PM):PM:=if w.ex then { S with sc:={ S.sc with opn:=true,loc:=w.loc,rd:=b } } else S
def loadP (S:PM)(i:Ins)(w:Wnt)(v:Nat):PM:=vh (kG S (S.t i.rn.toNat) ⟨0,1,w.loc,v,w.mode⟩) 86 (IntKind.i64.wrap (S.sc.us+1))
def outP (S:PM)(x:Nat):PM:={ S with outs:=S.outs++[x] }
def kR (S:PM)(i:Ins)(w:Wnt)(v:Nat):PM :=
 let b:=S.ev.length
 if w.what=1 then
  let S2:=loadP S i w v
  if w.one then
   if zZ S2 i v then vh (vh (beginP S2 i w v b) 76 0) 77 (IntKind.i64.wrap (S.sc.dn+1)) else jL (exP w b (beginP S2 i w v b))
  else jL (exP w b (setRP S2 i.rd.toNat v [b]))
 else if w.what=2 then (if w.one then endP S b else jL (storeP S i w v b))
 else if w.what=3 then jL (kG S [] ⟨0,3,-1,0,w.mode⟩)
 else if w.what=4 then jL (outP S w.val)
 else jL S
def vV (S:PM)(w:Wnt)(v:Nat):PM × Int :=
 if 5<=w.what\/(w.what=2/\w.ex=true/\1<v) then (S,1)
 else match fetch S with
  | some i=>(kR S i w v,0)
  | none=>(S,0)
def wE (S:PM)(v:Nat):PM × Int:=vV (wu S).1 (wu S).2 v
structure Jv (S:PM)(w:Wnt):Prop where
 what:1<=w.what/\w.what<=7
 fetch:w.what<5->∃i,fetch S=some i
 one2:w.what=2->w.one=true->∃h,S.half=some h
 ev:w.what=1\/w.what=2\/w.what=3->S.ev.length<256
 oneW:w.one=true->w.what=1->S.ev.length<255
 exOne:w.one=true->w.ex=false
 noHalf:(w.what≠2\/w.one=false)->S.half=none
theorem fw (evn:Nat)(w:Wnt):(ku evn w=zl 6)\/(ku evn w=w/\evn+(if w.one then 1 else 0)<256):=by
 by_cases h:256<=evn+(if w.one then 1 else 0)
 .exact .inl (if_pos h)
 .exact .inr ⟨if_neg h,by omega⟩
theorem qdc (s:Mch)(evn:Nat)(i:Ins)(h:(wD s evn i).2=false):(1<=(wD s evn i).1.what/\(wD s evn i).1.what<=7)/\((wD s evn i).1.what=1\/(wD s evn i).1.what=2\/(wD s evn i).1.what=3->evn+(if (wD s evn i).1.one then 1 else 0)<256)/\((wD s evn i).1.one=true->(wD s evn i).1.what=1/\(wD s evn i).1.ex=false):=by
 have room:∀w:Wnt,(1<=w.what/\w.what<=7)->(w.one=true->w.what=1/\w.ex=false)->(1<=(ku evn w).what/\(ku evn w).what<=7)/\((ku evn w).what=1\/(ku evn w).what=2\/(ku evn w).what=3->evn+(if (ku evn w).one then 1 else 0)<256)/\((ku evn w).one=true->(ku evn w).what=1/\(ku evn w).ex=false):=λw hw h1=>by
  rcases fw evn w with e | ⟨e,k⟩
  .rw[e];exact⟨by decide,λh=>absurd h (by decide),λh=>by cases h⟩
  .rw[e];exact⟨hw,λ_=>k,h1⟩
 have acc:1<=(jm s i).what/\(jm s i).what<=7:=by unfold jm;simp only;split<;>decide
 unfold wD at h ⊢
 split
 .exact room _ (by simp only;omega) (λh=>by cases h)
 split
 .exact room _ (by simp only;omega) (λh=>by cases h)
 split
 .exact⟨by simp only;omega,by simp only;intro h;omega,λh=>by cases h⟩
 split
 .exact⟨by decide,λh=>absurd h (by decide),λh=>by cases h⟩
 rename_i c1 c2 c3 c4
 rw[if_neg c1,if_neg c2,if_neg c3,if_neg c4]at h
 split
 .rename_i c5;rw[if_pos c5]at h;cases h
 rename_i c5
 rw[if_neg c5]at h
 split
 .exact⟨by decide,λh=>absurd h (by decide),λh=>by cases h⟩
 rename_i c6
 rw[if_neg c6]at h
 split
 .exact room _ (by show 1<=(1:Int)/\(1:Int)<=7;decide) (λ_=>⟨rfl,rfl⟩)
 rename_i c7
 rw[if_neg c7]at h
 split
 .rename_i c8;rw[if_pos c8]at h;cases h
 .exact room _ acc (λh=>by cases h)
theorem jd {S:PM}(h:WF S){w:Wnt}(hl:look S=some w):Jv S w:=by
 have end':∀a:Int,5<=a/\a<=7->S.half=none->Jv S (zl a):=λa ha hn =>
  ⟨by simp only[zl];omega,λh=>by simp only[zl]at h;omega,λh=>by simp only[zl]at h;omega,λh=>by simp only[zl]at h;omega,(λh=>by cases h),(λh=>by cases h),λ_=>hn⟩
 unfold look at hl
 cases hh:S.half with
 | some x =>
  rw[hh]at hl
  cases hl
  have k:=h.half x hh
  obtain⟨a,ha,hal⟩:=k.at_
  refine⟨by rw[k.what];decide,λ_=>⟨S.code[a],?_⟩,λ_ _=>⟨x,hh⟩,λ_=>k.ev,λ_ e=>?_,λ_=>k.ex,λe=>?_⟩
  .unfold fetch
   rw[ha,if_pos (by omega),qgr,qgd hal]
  .rw[k.what]at e;cases e
  .rcases e with e | e
   .exact absurd k.what e
   .rw[k.one]at e;cases e
 | none =>
  rw[hh]at hl
  cases hf:fetch S with
  | none =>
   rw[hf]at hl
   cases hl
   exact end' 7 (by decide) hh
  | some i =>
   rw[hf]at hl
   simp only at hl
   split at hl
   .rename_i c
    cases hl
    obtain⟨k1,k2,k3⟩:=qdc S.sc S.ev.length i c
    refine⟨k1,λ_=>⟨i,hf⟩,λe1 e2=>?_,λe=>?_,λe1 e2=>?_,λe=>(k3 e).2,λ_=>hh⟩
    .have:=(k3 e2).1;omega
    .have:=k2 e;split at this<;>omega
    .have:=k2 (.inl e2);rw[if_pos e1]at this;omega
   .split at hl
    .cases hl
     exact end' 6 (by decide) hh
    .cases hl
section
variable {m0 m m':M}{W:List Nat}{Z:Nat->Prop}{P:Nat}{σ:List (Nat × List Value)}{s s':Mch}{g:Gh}{S S':PM}
theorem MX.ld1 (h:MX m0 m W Z P σ s g S):load1 m ⟨P,1,none⟩=some (iv S.sc.at_):=by rw[<-h.sc];exact h.ld 1
theorem MX.ld77 (h:MX m0 m W Z P σ s g S):load1 m ⟨P,77,none⟩=some (iv S.sc.dn):=by rw[<-h.sc];exact h.ld 77
theorem MX.ld86 (h:MX m0 m W Z P σ s g S):load1 m ⟨P,86,none⟩=some (iv S.sc.us):=by rw[<-h.sc];exact h.ld 86
theorem MX.goOn (h:MX m0 m W Z P σ s g S):∃ma mb mc s',load1 m ⟨P,1,none⟩=some (iv S.sc.at_)/\qB 1 (.pointer (some ⟨P,1,none⟩)) (iv (IntKind.i64.wrap (S.sc.at_+1))) m=some (undef,ma)/\qB 1 (.pointer (some ⟨P,76,none⟩)) zI ma=some (undef,mb) /\
  load1 mb ⟨P,77,none⟩=some (iv S.sc.dn)/\qB 1 (.pointer (some ⟨P,77,none⟩)) (iv (IntKind.i64.wrap (S.sc.dn+1))) mb=some (undef,mc)/\MX m0 mc W Z P σ s' g (jL S):=by
 obtain⟨ma,a1,a2,-⟩:=h.num (o:=1) (by decide) (IntKind.i64.wrap (S.sc.at_+1))
 obtain⟨mb,b1,b2,-⟩:=a2.num (o:=76) (by decide) 0
 obtain⟨mc,c1,c2,-⟩:=b2.num (o:=77) (by decide) (IntKind.i64.wrap (S.sc.dn+1))
 exact⟨ma,mb,mc,_,h.ld1,a1,b1,b2.ld77,c1,c2⟩
theorem MX.outsAny (h:MX m0 m W Z P σ s g S)(x:Nat)(hl:(S.outs.length+1)*8<=most) :
  ∃v' mq m5 s',wZ (qg (Dx.newRow m [uv x])) 1 8 s.outs (.slice (some ⟨m.n,0,some 3⟩) 1 1)=some (v',mq)/\qB 1 (.pointer (some ⟨P,83,none⟩)) v' (qg (Dx.behind (Dx.newRow m [uv x]) mq))=some (undef,m5)/\m5.log=[P] /\
   MX m0 (Dx.behind (Dx.behind (Dx.newRow m [uv x]) mq) m5) W Z P ((m.n,[uv x])::σ) s' g (outP S x):=by
 obtain⟨v',mq,m5,a1,a2,a3,a4⟩:=(h.row [uv x]).pushAny (F:=5) (by omega) (Bc S x) (X:=m.n) (sp:=some 3) (by
  have:=(Arr.row m [uv x]).loads (o:=0) (n:=1) (s:=some 3) (by simp)
  exact this) (bytes:=8) (by rw[fS];exact hl) (by rw[fS];unfold most at hl;omega)
 exact⟨v',mq,m5,_,a1,a2,a3,a4⟩
end
end Go.Sx
namespace Go.Sx
open Go.Dx Go.Proofs
set_option maxRecDepth 10000
theorem bu_evF (mode:Int):wN [zI,zI,zI,zU,zI] [(1,1,.int .i64 3),(2,1,.int .i64 (-1)),(4,1,.int .i64 mode)]=some (.agg ⟨zJ ⟨0,3,-1,0,mode⟩⟩):=rfl
abbrev FeedR (n:Nat)(m:M)(P:Nat)(s:Mch)(g:Gh)(S:PM)(v:Nat):Prop:=MuR (ex Tryz.prog (n+33)) 23 [mP P,uv v] m P s g (wE S v).1 λu=>u=iv (wE S v).2
theorem Feed_m (n:Nat){m:M}{P:Nat}{s:Mch}{g:Gh}{S:PM}(h:ML m P s g S)(hw:WF S){v:Nat}(hv:v<W64)(ho:(S.outs.length+1)*8<=most):FeedR n m P s g S v:=by
 suffices H:∃u m',(ex Tryz.prog (n+33)).f 23 [mP P,uv v] m=some (u,m')/\(u=iv (wE S v).2/\∃s' g',Res m m' P s g s' g' (wE S v).1) by
  obtain⟨u,m',h1,hu,s',g',h2⟩:=H
  exact⟨u,m',s',g',h1,h2,hu⟩
 refine qA (Q:=λu m'=>u=iv (wE S v).2/\∃s' g',Res m m' P s g s' g' (wE S v).1) db1_ok (by simp) ?_
 obtain⟨v1,m1,s1,g1,a1,a2,rfl⟩:=XZ n h hw
 obtain⟨hlk,hwf,hst⟩:=kx hw
 have hWO:=jd hwf hlk
 obtain⟨S1,hS1⟩:=qh2 ((wu S).1)
 obtain⟨w,hwd⟩:=qh2 ((wu S).2)
 have hF:wE S v=vV S1 w v:=by unfold wE;rw[<-hS1,<-hwd]
 rw[<-hwd]at a1 hlk hWO
 rw[<-hS1]at a2 hlk hwf hst hWO
 have ho1:(S1.outs.length+1)*8<=most:=by rw[hst.outs];exact ho
 have hx1:=(h.mx.call a2).row z6w
 obtain⟨m2,x1,hx2,x2⟩:=hx1.fill 0 rfl (n:=6) (l':=qy w) (by omega) rfl rfl (vp _)
 have x1':qB 6 (.pointer (some ⟨m1.n,0,none⟩)) (.agg ⟨qy w⟩) (Dx.newRow m1 [zI,zI,zI,zU,.bool false,.bool false])=some (undef,m2):=x1
 have l0:load1 m2 ⟨m1.n,0,none⟩=some (iv w.what):=(hx2.box (k:=0) rfl).2.load1 0 none
 have l4:load1 m2 ⟨m1.n,4,none⟩=some (.bool w.ex):=(hx2.box (k:=0) rfl).2.load1 4 none
 have hx2:MX m m2 (own P s) (Sh s g) P [(m1.n,qy w)] s1 g1 S1:=hx2
 by_cases hc:5<=w.what\/(w.what=2/\w.ex=true/\1<v)
 .rw[hF,show vV S1 w v=(S1,1) from if_pos hc]
  by_cases h5:5<=w.what
  .have d5:(5<=w.what)=True:=eq_true h5
   simp[a1,x1',l0,d5]
   exact wO ⟨by simp,_,_,hx2.res⟩
  .obtain⟨c1,c2,c3⟩:=hc.resolve_left h5
   rw[c1]at l0
   rw[c2]at l4
   have d1:((1:Int)<(v:Int))=True:=eq_true (by omega)
   have d2:(1<v)=True:=eq_true c3
   simp[a1,x1',l0,l4,d1,d2]
   exact wO ⟨by simp,_,_,hx2.res⟩
 .obtain⟨i,hft⟩:=hWO.fetch (by omega)
  obtain⟨a,ha,hai⟩:=yr hft
  rw[hF,show vV S1 w v=(kR S1 i w v,0) by unfold vV;rw[if_neg hc,hft]]
  have d5:(5<=w.what)=False:=eq_false (by omega)
  have hiX:=hwf.code i (qge hai)
  obtain⟨⟨rd,hrdi,erd,hrd2⟩,⟨rn,hrn,ern,hrn2⟩,⟨rm,hrm,erm,hrm2⟩⟩:=regs hiX
  have hrdc:=hx2.hp.code
  have p1:load1 m2 ⟨P,1,none⟩=some (iv a):=by rw[hx2.ld1,ha]
  have p0:load1 m2 ⟨P,0,none⟩=some s1.l:=hx2.ld 0
  obtain⟨c1,c2,-⟩:=hrdc.at hai
  have c2':loads m2 (adr 6 s1.l a) 6=some (qv i):=c2 m2 (Sees.refl hx2.mb)
  have hx3:=hx2.row z6i
  obtain⟨mr,hmr⟩:=qh2 (Dx.newRow m2 z6i)
  have hmr':Dx.newRow m2 [zI,zI,zI,zI,zI,zI]=mr:=hmr.symm
  rw[<-hmr]at hx3
  obtain⟨mq,e1',e0,hx4,e2⟩:=hx3.fillAny 0 rfl (n:=6) (l':=qv i) (by omega) rfl rfl (jV i)
  obtain⟨m3,hm3⟩:=qh2 (Dx.behind mr mq)
  rw[<-hm3]at hx4
  have hx4:MX m m3 (own P s) (Sh s g) P [(m2.n,qv i),(m1.n,qy w)] s1 g1 S1:=hx4
  have p78:load1 m3 ⟨P,78,none⟩=some s1.ev:=hx4.lsn (F:=0) (by omega)
  have hev:jW s1.ev=some (iv S1.ev.length):=by
   have:=(hx4.hp.ls 0 (by omega)).len
   rw[xn]at this;exact this
  obtain⟨b,hb⟩:=qh2 (S1.ev.length)
  rw[<-hb]at hev
  have WI:∀{mq:M} {sq:Mch} {gq:Gh} {Sq:PM} (hq:MX m mq (own P s) (Sh s g) P [(m2.n,qv i),(m1.n,qy w)] sq gq Sq) (o:Nat),load1 mq ⟨m1.n,o,none⟩=(qy w)[o]?:=λhq o=>(hq.box (k:=1) rfl).2.load1 o none
  have II:∀{mq:M} {sq:Mch} {gq:Gh} {Sq:PM} (hq:MX m mq (own P s) (Sh s g) P [(m2.n,qv i),(m1.n,qy w)] sq gq Sq) (o:Nat),load1 mq ⟨m2.n,o,none⟩=(qv i)[o]?:=λhq o=>(hq.box (k:=0) rfl).2.load1 o none
  have WN:∀{mq:M} {sq:Mch} {gq:Gh} {Sq:PM} (hq:MX m mq (own P s) (Sh s g) P [(m2.n,qv i),(m1.n,qy w)] sq gq Sq),loads mq ⟨m1.n,0,none⟩ 6=some (qy w):=λhq=>(hq.box (k:=1) rfl).2.loads (o:=0) (n:=6) (by simp[qy])
  have IN:∀{mq:M} {sq:Mch} {gq:Gh} {Sq:PM} (hq:MX m mq (own P s) (Sh s g) P [(m2.n,qv i),(m1.n,qy w)] sq gq Sq),loads mq ⟨m2.n,0,none⟩ 6=some (qv i):=λhq=>(hq.box (k:=0) rfl).2.loads (o:=0) (n:=6) (by simp[qv])
  have k0:load1 m3 ⟨m1.n,0,none⟩=some (iv w.what):=WI hx4 0
  have hwhat:=hWO.what
  have itn:=jB P 34 hrn2
  rcases (by omega:w.what=1\/w.what=2\/w.what=3\/w.what=4) with hq | hq | hq | hq
  .-- a load
   rw[hq]at l0 k0
   have hfI:kR S1 i w v=if w.one then (if zZ (loadP S1 i w v) i v then vh (vh (beginP (loadP S1 i w v) i w v b) 76 0) 77 (IntKind.i64.wrap (S1.sc.dn+1)) else jL (exP w b (beginP (loadP S1 i w v) i w v b))) else jL (exP w b (setRP (loadP S1 i w v) rd v [b])):=by
    unfold kR;simp only[hq,if_true,erd,<-hb]
   rw[hfI]
   have i2:load1 m3 ⟨m2.n,2,none⟩=some (iv rn):=by rw[<-hrn];exact II hx4 2
   have ltn:load1 m3 ⟨P,34+rn,none⟩=some (s1.t rn):=by rw[hx4.ld,gh s1 hrn2]
   have w1:load1 m3 ⟨m1.n,1,none⟩=some (iv w.loc):=WI hx4 1
   have w2:load1 m3 ⟨m1.n,2,none⟩=some (iv w.mode):=WI hx4 2
   obtain⟨v2,mf,s2,g2,b1,hx5⟩:=hx4.eventAny (n+31) hwf.rm (hx4.hp.t rn hrn2) (hx4.tOwn hrn2) (hwf.rm.t rn) ⟨0,1,w.loc,v,w.mode⟩
   obtain⟨M4,hM4⟩:=qh2 (Dx.behind m3 mf)
   rw[<-hM4]at hx5
   have bu:=YD 1 w.loc v w.mode
   have p86:load1 M4 ⟨P,86,none⟩=some (iv S1.sc.us):=hx5.ld86
   obtain⟨M5,d1,hx6,d2⟩:=hx5.num (o:=86) (by decide) (IntKind.i64.wrap (S1.sc.us+1))
   obtain⟨S2,hS2⟩:=qh2 (loadP S1 i w v)
   have hS2':vh (kG S1 (S1.t rn) ⟨0,1,w.loc,v,w.mode⟩) 86 (IntKind.i64.wrap (S1.sc.us+1))=S2:=by rw[hS2];unfold loadP;rw[ern]
   rw[hS2']at hx6
   rw[<-hS2]
   have hdn:S2.sc.dn=S1.sc.dn:=by rw[<-hS2'];rfl
   have hv2:∀k,S2.sc.v k<W64:=λk=>by rw[<-hS2'];exact hwf.v k
   have k5:load1 M5 ⟨m1.n,5,none⟩=some (.bool w.one):=WI hx6 5
   cases hone:w.one with
   | true =>
    rw[hone]at k5
    have n6:=IN hx6
    have nw:=WN hx6
    obtain⟨v6,m6,s6,g6,e1,e2,rfl⟩:=qdk (n+29) hx6.ml hiX w hv hv2 b
    have hx7:=hx6.call e2
    cases hbB:zZ S2 i v with
    | true =>
     rw[hbB]at e1
     obtain⟨m7,f1,hx8,f2⟩:=hx7.num (o:=76) (by decide) 0
     have f1:qB 1 (.pointer (some ⟨P,76,none⟩)) zI m6=some (undef,m7):=f1
     have p77:=hx8.ld77
     have hdn2:(vh (beginP S2 i w v b) 76 0).sc.dn=S1.sc.dn:=by
      rw[<-hdn]
      unfold beginP
      simp only[hbB,if_true]
      show (setRP S2 _ v [b]).sc.dn=S2.sc.dn
      exact (qR _ _ _ _).dn
     rw[hdn2]at p77
     obtain⟨m8,j1,hx9,j2⟩:=hx8.num (o:=77) (by decide) (IntKind.i64.wrap (S1.sc.dn+1))
     simp[a1,x1',l0,d5,p0,p1,c1,qd,c2',hmr',e1',e0,<-hm3,p78,hev,k0,i2,itn,ltn,w1,w2,bu,b1,<-hM4,p86,d1,k5,n6,nw,e1,f1,p77,j1]
     exact wO ⟨by simp,_,_,hx9.res⟩
    | false =>
     rw[hbB]at e1
     have hex:=hWO.exOne hone
     have q5:load1 m6 ⟨m1.n,5,none⟩=some (.bool true):=by rw[<-hone];exact WI hx7 5
     have q4:load1 m6 ⟨m1.n,4,none⟩=some (.bool false):=by rw[<-hex];exact WI hx7 4
     have hE:exP w b (beginP S2 i w v b)=beginP S2 i w v b:=by unfold exP;rw[hex];rfl
     obtain⟨ma,mb,mc,s8,t1,t2,t3,t4,t5,hx8⟩:=hx7.goOn
     simp[a1,x1',l0,d5,p0,p1,c1,qd,c2',hmr',e1',e0,<-hm3,p78,hev,k0,i2,itn,ltn,w1,w2,bu,b1,<-hM4,p86,d1,k5,n6,nw,e1,q5,q4,t1,t2,t3,t4,t5]
     exact wO ⟨by simp,_,_,by rw[hE];exact hx8.res⟩
   | false =>
    rw[hone]at k5
    have q1:load1 M5 ⟨m2.n,1,none⟩=some (iv rd):=by rw[<-hrdi];exact II hx6 1
    have hx6':=hx6.ext (Ext.row M5 [iv b])
    have tv:=hx6.tvN (Ext.row M5 [iv b]) (qco M5 b) (λB hB=>by cases hB;exact qgg _)
    obtain⟨v6,m6,e1,hx7⟩:=hx6'.regAny (n+31) hrd2 v tv
    have e1:(ex Tryz.prog (n+32)).f 37 [.pointer (some ⟨P,2,none⟩),iv rd,uv v,.slice (some ⟨M5.n,0,some 3⟩) 1 1] (qg (Dx.newRow M5 [.int .i64 b]))=some (v6,m6):=e1
    obtain⟨M6,hM6⟩:=qh2 (Dx.behind (Dx.newRow M5 [.int .i64 b]) m6)
    have hx7:MX m (Dx.behind (Dx.newRow M5 [.int .i64 b]) m6) (own P s) (Sh s g) P [(m2.n,qv i),(m1.n,qy w)] _ _ (setRP S2 rd v [b]):=hx7
    rw[<-hM6]at hx7
    cases hex:w.ex with
    | false =>
     have q4:load1 M6 ⟨m1.n,4,none⟩=some (.bool false):=by rw[<-hex];exact WI hx7 4
     have hE:exP w b (setRP S2 rd v [b])=setRP S2 rd v [b]:=by unfold exP;rw[hex];rfl
     obtain⟨ma,mb,mc,s8,t1,t2,t3,t4,t5,hx8⟩:=hx7.goOn
     simp[a1,x1',l0,d5,p0,p1,c1,qd,c2',hmr',e1',e0,<-hm3,p78,hev,k0,i2,itn,ltn,w1,w2,bu,b1,<-hM4,p86,d1,k5,q1,e1,<-hM6,q4,t1,t2,t3,t4,t5]
     exact wO ⟨by simp,_,_,by rw[hE];exact hx8.res⟩
    | true =>
     have q4:load1 M6 ⟨m1.n,4,none⟩=some (.bool true):=by rw[<-hex];exact WI hx7 4
     have q11:load1 M6 ⟨m1.n,1,none⟩=some (iv w.loc):=WI hx7 1
     obtain⟨mA,r1,r0,hx8,r2⟩:=hx7.opnAny true
     obtain⟨MA,hMA⟩:=qh2 (Dx.behind M6 mA)
     rw[<-hMA]at hx8
     obtain⟨mB,u1,u0,hx9,u2⟩:=hx8.numAny (o:=73) (by decide) w.loc
     obtain⟨MB,hMB⟩:=qh2 (Dx.behind MA mB)
     rw[<-hMB]at hx9
     obtain⟨mC,y1,y0,hx10,y2⟩:=hx9.numAny (o:=74) (by decide) b
     obtain⟨MC,hMC⟩:=qh2 (Dx.behind MB mC)
     rw[<-hMC]at hx10
     have hE:exP w b (setRP S2 rd v [b])=vh (vh { setRP S2 rd v [b] with sc:={ (setRP S2 rd v [b]).sc with opn:=true } } 73 w.loc) 74 b:=by unfold exP;rw[hex];rfl
     obtain⟨ma,mb,mc,s8,t1,t2,t3,t4,t5,hx11⟩:=hx10.goOn
     rw[<-hE]at t1 t2 t4 t5
     have hne:(m1.n=P)=False:=eq_false (by have:=h.mat.lt;have:=a2.mc.n;omega)
     simp[hne,a1,x1',l0,d5,p0,p1,c1,qd,c2',hmr',e1',e0,<-hm3,p78,hev,k0,i2,itn,ltn,w1,w2,bu,b1,<-hM4,p86,d1,k5,q1,e1,<-hM6,q4,q11,r1,r0,<-hMA,u1,u0,<-hMB,y1,y0,<-hMC,t1,t2,t3,t4,t5]
     exact wO ⟨by simp,_,_,by rw[hE];exact hx11.res⟩
  .-- a store
   rw[hq]at l0 k0
   have k5:load1 m3 ⟨m1.n,5,none⟩=some (.bool w.one):=WI hx4 5
   have hex:¬(w.ex=true/\1<v):=λhh=>hc (.inr ⟨hq,hh⟩)
   have hvI:∀{e:Bool},w.ex=e->e=true->((1:Int)<(v:Int))=False/\(1<v)=False:=λh1 h2=>by
    have:¬1<v:=λh3=>hex ⟨by rw[h1,h2],h3⟩
    exact⟨eq_false (by omega),eq_false this⟩
   cases hone:w.one with
   | true =>
    rw[hone]at k5
    have hx':=hWO.exOne hone
    rw[hx']at l4
    obtain⟨hf,hhf⟩:=hWO.one2 hq hone
    have hk:=hwf.half hf hhf
    have hfI:kR S1 i w v=endP S1 b:=by unfold kR;rw[if_neg (by omega),if_pos hq,if_pos hone,hb]
    rw[hfI]
    obtain⟨v6,m6,s6,g6,e1,e2,-⟩:=end_c (n+29) hx4.ml hwf.rm hhf (by have:=hk.ad.len;have:=hwf.ev;omega) (by have:=hk.da.len;have:=hwf.ev;omega) b
    have hx5:=hx4.call e2
    simp[a1,x1',l0,d5,p0,p1,c1,qd,c2',hmr',e1',e0,<-hm3,p78,hev,k0,l4,k5,e1]
    exact wO ⟨by simp,_,_,hx5.res⟩
   | false =>
    rw[hone]at k5
    have hfI:kR S1 i w v=jL (storeP S1 i w v b):=by unfold kR;rw[if_neg (by omega),if_pos hq,if_neg (by rw[hone];simp),hb]
    rw[hfI]
    have n6:=IN hx4
    have nw:=WN hx4
    obtain⟨v6,m6,s6,g6,e1,e2,-⟩:=qfk (n+29) hx4.ml hwf.rm hiX w v b (by obtain⟨r,hr,-⟩:=hwf.rd;exact⟨r,hr⟩)
    have hx5:=hx4.call e2
    obtain⟨ma,mb,mc,s8,t1,t2,t3,t4,t5,hx8⟩:=hx5.goOn
    cases hex':w.ex with
    | true =>
     rw[hex']at l4
     obtain⟨z1,z2⟩:=hvI hex' rfl
     simp[a1,x1',l0,d5,p0,p1,c1,qd,c2',hmr',e1',e0,<-hm3,p78,hev,k0,l4,z1,z2,k5,n6,nw,e1,t1,t2,t3,t4,t5]
     exact wO ⟨by simp,_,_,hx8.res⟩
    | false =>
     rw[hex']at l4
     simp[a1,x1',l0,d5,p0,p1,c1,qd,c2',hmr',e1',e0,<-hm3,p78,hev,k0,l4,k5,n6,nw,e1,t1,t2,t3,t4,t5]
     exact wO ⟨by simp,_,_,hx8.res⟩
  .-- a fence
   rw[hq]at l0 k0
   have hfI:kR S1 i w v=jL (kG S1 [] ⟨0,3,-1,0,w.mode⟩):=by unfold kR;rw[if_neg (by omega),if_neg (by omega),if_pos hq]
   rw[hfI]
   have w2:load1 m3 ⟨m1.n,2,none⟩=some (iv w.mode):=WI hx4 2
   obtain⟨v6,m6,s6,g6,e1,e2,-⟩:=YP (n+31) hx4.ml (RS.none m3) (λB hB=>by cases hB) ⟨0,3,-1,0,w.mode⟩ (by have:=hwf.ev;omega) (by have:=hwf.rm.addr;simp;omega) (by have:=hwf.rm.ctrl;have:=hwf.rm.way;omega)
   have e1:(ex Tryz.prog (n+32)).f 35 [mP P,zS,.agg ⟨zJ ⟨0,3,-1,0,w.mode⟩⟩] m3=some (v6,m6):=e1
   have hx5:=hx4.call e2
   obtain⟨ma,mb,mc,s8,t1,t2,t3,t4,t5,hx8⟩:=hx5.goOn
   simp[a1,x1',l0,d5,p0,p1,c1,qd,c2',hmr',e1',e0,<-hm3,p78,hev,k0,w2,bu_evF,e1,t1,t2,t3,t4,t5]
   exact wO ⟨by simp,_,_,hx8.res⟩
  .-- a print
   rw[hq]at l0 k0
   have hfI:kR S1 i w v=jL (outP S1 w.val):=by unfold kR;rw[if_neg (by omega),if_neg (by omega),if_neg (by omega),if_pos hq]
   rw[hfI]
   have w3:load1 m3 ⟨m1.n,3,none⟩=some (uv w.val):=WI hx4 3
   have p83:load1 m3 ⟨P,83,none⟩=some s1.outs:=hx4.lsn (F:=5) (by omega)
   obtain⟨v',mq',m5,s5,e1,e2,e3,hx5⟩:=hx4.outsAny w.val ho1
   have bs:=Vg m3 zU .u64 (w.val:Int)
   obtain⟨MR,hMR⟩:=qh2 (Dx.newRow m3 [uv w.val])
   have hMR':Dx.newRow m3 [.int .u64 (w.val:Int)]=MR:=hMR.symm
   rw[<-hMR]at e1 e2 hx5
   obtain⟨M4,hM4⟩:=qh2 (Dx.behind MR mq')
   rw[<-hM4]at e2 hx5
   obtain⟨M5,hM5⟩:=qh2 (Dx.behind M4 m5)
   rw[<-hM5]at hx5
   obtain⟨ma,mb,mc,s8,t1,t2,t3,t4,t5,hx8⟩:=hx5.goOn
   simp[a1,x1',l0,d5,p0,p1,c1,qd,c2',hmr',e1',e0,<-hm3,p78,hev,k0,w3,p83,hMR',e1,<-hM4,e2,e3,<-hM5,t1,t2,t3,t4,t5]
   exact wO ⟨by simp,_,_,hx8.res⟩
end Go.Sx
namespace Go.Sx
open Go.Dx Go.Proofs
set_option maxRecDepth 10000
theorem gm {o:Option Hf}{Q:Hf->Prop}(hn:o=none):∀x,o=some x->Q x:=λx hx=>by rw[hn]at hx;cases hx
theorem qcr (S:PM)(k x:Nat)(l:List Nat):(setRP S k x l).sc.at_=S.sc.at_:=by unfold Sx.setRP;split<;>rfl
theorem WF.half0 {S:PM}(h:WF S):WF { S with half:=none } :=
 ⟨h.code,h.len,h.v,h.t,h.ft,h.way,gm rfl,h.ev,h.rmw,h.addr,h.data,h.ctrl,h.own,h.rd,h.us⟩
theorem WF.event {S:PM}(h:WF S)(hn:S.half=none)(hev:S.ev.length<256){ad:List Nat}(ha:SetOK S.ev.length ad)(e:EvR):WF (kG S ad e):=by
 have hl:(kG S ad e).ev.length=S.ev.length+1:=by show (S.ev++[e]).length=_;simp
 have m1:∀{l:List Nat},SetOK S.ev.length l->SetOK (kG S ad e).ev.length l:=λk=>k.mono (by omega)
 have w1:=h.way.len
 have a1:=ha.len
 have e1:=h.ev
 refine⟨h.code,h.len,h.v,λk=>m1 (h.t k),m1 h.ft,m1 h.way,λx hx=>?_,by omega,?_,?_,?_,?_,h.own,h.rd,?_⟩
 .have:S.half=some x:=hx
  rw[hn]at this;cases this
 .rw[hl];show S.rmw.length<=_;have:=h.rmw;omega
 .rw[hl];show (S.addr++zc ad _).length<=_;rw[qgn,xY];have:=h.addr;omega
 .rw[hl];show S.data.length<=_;have:=h.data;omega
 .rw[hl];show (S.ctrl++zc S.way _).length<=_;rw[qgn,xY];have:=h.ctrl;omega
 .obtain⟨a,h1,h2⟩:=h.us
  exact⟨a,h1,by omega⟩
theorem WF.setRP {S:PM}(h:WF S)(hn:S.half=none)(k:Nat){x:Nat}{l:List Nat}(hx:x<W64)(hl:SetOK S.ev.length l):WF (setRP S k x l):=by
 have o:=qR S k x l
 have r:=h.regs.setRP k hx hl
 exact⟨by rw[o.code];exact h.code,by rw[o.code];exact h.len,r.v,by rw[o.ev];exact r.t,by rw[o.ev];exact r.ft,by rw[o.ev];exact r.way,gm (o.half.trans hn),by rw[o.ev];exact h.ev,by rw[o.ev,o.rmw];exact h.rmw,by rw[o.ev,o.addr];exact h.addr,by rw[o.ev,o.data];exact h.data,by rw[o.ev,o.ctrl];exact h.ctrl,by rw[o.own];exact h.own,by rw[o.rd];exact h.rd,by rw[o.us,o.ev];exact h.us⟩
theorem WF.goOn {S:PM}(h:WF S)(hn:S.half=none):WF (jL S) :=
 ⟨h.code,h.len,h.v,h.t,h.ft,h.way,gm (show S.half=none from hn),h.ev,h.rmw,h.addr,h.data,h.ctrl,by show (0:Int)<=0/\(0:Int)<=100000;decide,h.rd,h.us⟩
theorem WF.loadP {S:PM}(h:WF S)(hn:S.half=none)(hev:S.ev.length<256)(i:Ins)(w:Wnt)(v:Nat):WF (loadP S i w v):=by
 have k:=h.event hn hev (h.t i.rn.toNat) ⟨0,1,w.loc,v,w.mode⟩
 obtain⟨a,h1,h2⟩:=h.us
 have hl:(Sx.loadP S i w v).ev.length=S.ev.length+1:=by show (S.ev++[_]).length=_;simp
 refine⟨k.code,k.len,k.v,k.t,k.ft,k.way,gm (show S.half=none from hn),k.ev,k.rmw,k.addr,k.data,k.ctrl,k.own,k.rd,a+1,?_,by omega⟩
 show IntKind.i64.wrap (S.sc.us+1)=_
 rw[h1,wrap64 _ (by omega) (by have:=h.ev;omega)];omega
theorem WF.exP {S:PM}(h:WF S)(hn:S.half=none)(w:Wnt){b:Nat}(hb:b<=256):WF (exP w b S):=by
 unfold Sx.exP
 split
 .exact⟨h.code,h.len,h.v,h.t,h.ft,h.way,gm (show S.half=none from hn),h.ev,h.rmw,h.addr,h.data,h.ctrl,h.own,⟨b,rfl,hb⟩,h.us⟩
 .exact h
theorem JM (w:Wnt)(b:Nat)(S:PM):(exP w b S).half=S.half:=by unfold exP;split<;>rfl
theorem WF.dataP {S:PM}(h:WF S){l:List Nat}(b:Nat)(hl:S.data.length+l.length<=256*S.ev.length):WF (dataP S l b) :=
 ⟨h.code,h.len,h.v,h.t,h.ft,h.way,λx hx=>(h.half x hx).of rfl rfl rfl,h.ev,h.rmw,h.addr,by show (S.data++zc l b).length<=_;rw[qgn,xY];exact hl,h.ctrl,h.own,h.rd,h.us⟩
theorem WF.rmwP {S:PM}(h:WF S)(a b:Nat)(hl:S.rmw.length<S.ev.length):WF (rmwP S a b) :=
 ⟨h.code,h.len,h.v,h.t,h.ft,h.way,λx hx=>(h.half x hx).of rfl rfl rfl,h.ev,by show (S.rmw++[_]).length<=S.ev.length;rw[qgn];exact Nat.succ_le_of_lt hl,h.addr,h.data,h.ctrl,h.own,h.rd,h.us⟩
theorem XQ (S:PM)(i:Ins)(w:Wnt)(v b:Nat):(storeP S i w v b).half=S.half:=by
 unfold storeP
 cases w.ex with
 | false=>rfl
 | true =>
  simp only[if_true]
  split
  .exact (qR _ _ _ _).half
  .exact (qR _ _ _ _).half
theorem WF.storeP {S:PM}(h:WF S)(hn:S.half=none)(hev:S.ev.length<256)(i:Ins)(w:Wnt)(v b:Nat):WF (storeP S i w v b):=by
 have ho:WF { S with sc:={ S.sc with opn:=false } }:=⟨h.code,h.len,h.v,h.t,h.ft,h.way,λx hx=>(h.half x hx).of rfl rfl rfl,h.ev,h.rmw,h.addr,h.data,h.ctrl,h.own,h.rd,h.us⟩
 have w1:=(h.t i.rd.toNat).len
 have two:∀{S1:PM},WF S1->S1.half=none->S1.ev=S.ev->S1.data=S.data->S1.t=S.t->WF (Sx.dataP (kG S1 (S1.t i.rn.toNat) ⟨0,2,w.loc,w.val,w.mode⟩) (S1.t i.rd.toNat) b):=λ{S1} k kn ke kd kt=>by
  refine (k.event kn (by rw[ke];exact hev) (k.t _) _).dataP b ?_
  show S1.data.length+_<=256*(S1.ev++[_]).length
  rw[kd,ke,kt,qgn]
  have:=h.data
  simp;omega
 unfold Sx.storeP
 cases hwe:w.ex with
 | false =>
  simp only[Bool.false_eq_true,if_false,false_and]
  exact two h hn rfl rfl rfl
 | true =>
  simp only[if_true,true_and]
  have hn':({ S with sc:={ S.sc with opn:=false } }:PM).half=none:=hn
  split
  .exact ho.setRP hn' _ (by decide) (SetOK.nil _)
  .have k:=two ho hn' rfl rfl rfl
   refine (k.rmwP _ _ ?_).setRP hn' _ (by decide) (SetOK.nil _)
   show S.rmw.length<(S.ev++[_]).length
   have:=h.rmw
   simp;omega
theorem qdp {S:PM}(h:WF S){hf:Hf}(hh:S.half=some hf)(b:Nat):WF (endP S b)/\(endP S b).half=none:=by
 have hk:=h.half hf hh
 have k0:=h.half0
 have k1:=k0.event rfl hk.ev hk.ad ⟨0,2,hf.w.loc,hf.w.val,hf.w.mode⟩
 have k2:=k1.dataP (l:=hf.da) b (by
  show S.data.length+_<=256*(S.ev++[_]).length
  have:=h.data;have:=hk.da.len
  simp;have:=h.ev;omega)
 have k3:=k2.rmwP hf.rd b (by
  show S.rmw.length<(S.ev++[_]).length
  have:=h.rmw
  simp;omega)
 unfold endP
 rw[hh]
 refine⟨⟨k3.code,k3.len,k3.v,k3.t,k3.ft,k3.way,gm rfl,k3.ev,k3.rmw,k3.addr,k3.data,k3.ctrl,by show (0:Int)<=0/\(0:Int)<=100000;decide,k3.rd,k3.us⟩,rfl⟩
theorem BF {S:PM}(h:WF S){i:Ins}{w:Wnt}{v:Nat}(kl:WF (loadP S i w v))(hn:S.half=none)(hf:fetch S=some i)(hv:v<W64)(hev2:S.ev.length<255)(hb:zZ (loadP S i w v) i v=true) :
  WF (vh (vh (beginP (loadP S i w v) i w v S.ev.length) 76 0) 77 (IntKind.i64.wrap (S.sc.dn+1))):=by
 obtain⟨B,hB⟩:=qh2 (beginP (loadP S i w v) i w v S.ev.length)
 obtain⟨R,hR⟩:=qh2 (setRP (loadP S i w v) (if i.op<=39 then i.rm.toNat else i.rd.toNat) v [S.ev.length])
 obtain⟨H,hH⟩:=qh2 (Qz (loadP S i w v) i w v S.ev.length)
 have hbp:B={ R with half:=some H }:=by rw[hB];unfold beginP;simp only[hb,if_true];rw[<-hR,<-hH]
 have hl:(loadP S i w v).ev.length=S.ev.length+1:=by show (S.ev++[_]).length=_;simp
 have ks:WF R:=by rw[hR];exact kl.setRP hn _ hv (by rw[hl];exact SetOK.one _)
 have hso:=qR (loadP S i w v) (if i.op<=39 then i.rm.toNat else i.rd.toNat) v [S.ev.length]
 rw[<-hR]at hso
 have he:R.ev.length=S.ev.length+1:=by rw[hso.ev,hl]
 have hat:∃a:Nat,R.sc.at_=(a:Int)/\a<R.code.length:=by
  obtain⟨a,ha,hai⟩:=yr hf
  refine⟨a,?_,by rw[hso.code];exact (qgf.1 hai).1⟩
  have:R.sc.at_=(loadP S i w v).sc.at_:=by rw[hR];exact qcr _ _ _ _
  rw[this];exact ha
 have q:∃x da,H=⟨⟨2,w.loc,gy i,x,false,true⟩,S.t i.rn.toNat,da,S.ev.length⟩/\x<W64/\SetOK S.ev.length da:=by
  rw[hH]
  unfold Qz
  split
  .exact⟨_,_,rfl,h.v _,h.t _⟩
  .refine⟨_,_,rfl,?_,h.t _⟩
   show (if 44<=i.op then (S.sc.v i.rm.toNat+v)%W64 else S.sc.v i.rm.toNat)<W64
   split
   .exact Nat.mod_lt _ (by decide)
   .exact h.v _
 obtain⟨x,da,q1,q2,q3⟩:=q
 rw[<-hB,hbp]
 refine⟨ks.code,ks.len,ks.v,ks.t,ks.ft,ks.way,λy hy=>?_,ks.ev,ks.rmw,ks.addr,ks.data,ks.ctrl,by show (0:Int)<=0/\(0:Int)<=100000;decide,ks.rd,ks.us⟩
 have hy:H=y:=by
  have:some H=some y:=hy
  cases this;rfl
 rw[<-hy,q1]
 refine⟨rfl,rfl,rfl,q2,?_,?_,?_,?_,hat⟩
 .show SetOK R.ev.length _;rw[he];exact (h.t _).mono (by omega)
 .show SetOK R.ev.length _;rw[he];exact q3.mono (by omega)
 .show S.ev.length<R.ev.length;rw[he];exact Nat.lt_succ_self _
 .show R.ev.length<256;rw[he];omega
theorem qan {S:PM}(h:WF S){i:Ins}(hf:fetch S=some i){w:Wnt}(hw:Jv S w){v:Nat}(hv:v<W64):WF (kR S i w v):=by
 have e0:=h.ev
 unfold kR
 simp only
 split
 .rename_i h1
  have hn:=hw.noHalf (.inl (by omega))
  have hev:=hw.ev (.inl h1)
  have kl:=h.loadP hn hev i w v
  have hl:(loadP S i w v).ev.length=S.ev.length+1:=by show (S.ev++[_]).length=_;simp
  have one:SetOK (loadP S i w v).ev.length [S.ev.length]:=by rw[hl];exact SetOK.one _
  split
  .rename_i ho
   have hev2:=hw.oneW ho h1
   have ks:=kl.setRP hn (if i.op<=39 then i.rm.toNat else i.rd.toNat) hv one
   have hso:=qR (loadP S i w v) (if i.op<=39 then i.rm.toNat else i.rd.toNat) v [S.ev.length]
   split
   .rename_i hb
    exact BF h kl hn hf hv hev2 hb
   .rename_i hb
    have hbp:beginP (loadP S i w v) i w v S.ev.length=setRP (loadP S i w v) (if i.op<=39 then i.rm.toNat else i.rd.toNat) v [S.ev.length]:=by unfold beginP;rw[if_neg hb]
    rw[hbp]
    have hn':=hso.half.trans hn
    exact (ks.exP hn' w (by omega)).goOn (by rw[JM];exact hn')
  .have ks:=kl.setRP hn i.rd.toNat hv one
   have hn':=(qR (loadP S i w v) i.rd.toNat v [S.ev.length]).half.trans hn
   exact (ks.exP hn' w (by omega)).goOn (by rw[JM];exact hn')
 split
 .rename_i h1 h2
  split
  .rename_i ho
   obtain⟨hf,hh⟩:=hw.one2 h2 ho
   exact (qdp h hh _).1
  .rename_i ho
   have hn:=hw.noHalf (.inr (by simpa using ho))
   exact (h.storeP hn (hw.ev (.inr (.inl h2))) i w v _).goOn (by rw[XQ];exact hn)
 split
 .rename_i h1 h2 h3
  have hn:=hw.noHalf (.inl (by omega))
  exact (h.event hn (hw.ev (.inr (.inr h3))) (SetOK.nil _) _).goOn hn
 split
 .rename_i h1 h2 h3 h4
  have hn:=hw.noHalf (.inl (by omega))
  exact WF.goOn (S:=outP S w.val) ⟨h.code,h.len,h.v,h.t,h.ft,h.way,λx hx=>(h.half x hx).of rfl rfl rfl,h.ev,h.rmw,h.addr,h.data,h.ctrl,h.own,h.rd,h.us⟩ hn
 .rename_i h1 h2 h3 h4
  exact h.goOn (hw.noHalf (.inl (by omega)))
theorem vU {S:PM}(h:WF S){v:Nat}(hv:v<W64):WF (wE S v).1:=by
 obtain⟨h1,h2,h3⟩:=kx h
 unfold wE vV
 split
 .exact h2
 .cases hf:fetch (wu S).1 with
  | none=>exact h2
  | some i=>exact qan h2 hf (jd h2 h1) hv
end Go.Sx
namespace Go.Sx
open Go.Dx Go.Proofs
set_option maxRecDepth 10000
def cfn:Nat->Nat
 | 0=>42
 | 5=>43
 | _=>44
def byt:Nat->Nat
 | 0=>40
 | 5=>8
 | _=>16
theorem DV (n:Nat){m:M}(hm:m.base<=m.n){v:Value}{es:List (Row 5)}(h:Gro m v 5 wY es)(hl:es.length*40<=most) :
  Dx.Call (ex Tryz.prog (n+1)) 42 [v] m λv' m'=>Gro m' v' 5 wY es/\∀B,blk v'=some B->m.n<=B:=by
 refine qj dc9_ok (by simp) ?_
 have hln:=h.len
 have hrd:Rd m v 5 wY es:=Grown.rd kJ h
 have heq:=bh hln
 rcases h with ⟨rfl,rfl⟩ | ⟨B,h1,h2,h3,rfl,h5⟩
 .simp[heq]
  exact qx (Ext.refl m) ⟨.inl ⟨rfl,by simp⟩,by simp[blk]⟩
 .obtain⟨v',m',a1,a2,a3,a4,a5⟩:=xO hm hrd kJ 40 hl (by unfold most at hl;omega)
  have hv':=a5 h3
  have ha4:=a4 (m.n+1) (by rw[hv'];rfl)
  have hlt:=a3.lt (m.n+1) (by rw[hv'];rfl)
  have bs:jR 5 0 (rep 0 [zI,zI,zI,zU,zI]) [] m=some (.slice (some ⟨m.n,0,some (code 5 true)⟩) 0 0,Dx.newRow m []):=rfl
  rw[hv']at a1
  simp[heq,bs,a1]
  exact qx a2 ⟨.inr ⟨m.n+1,Nat.zero_le _,hlt,h3,by simp,ha4.2⟩,by simp[blk]⟩
theorem DX (n:Nat){m:M}(hm:m.base<=m.n){v:Value}{es:List (Row 1)}(h:Gro m v 1 wY es)(hl:es.length*8<=most) :
  Dx.Call (ex Tryz.prog (n+1)) 43 [v] m λv' m'=>Gro m' v' 1 wY es/\∀B,blk v'=some B->m.n<=B:=by
 refine qj dd0_ok (by simp) ?_
 have hln:=h.len
 have hrd:Rd m v 1 wY es:=Grown.rd kJ h
 have heq:=bh hln
 rcases h with ⟨rfl,rfl⟩ | ⟨B,h1,h2,h3,rfl,h5⟩
 .simp[heq]
  exact qx (Ext.refl m) ⟨.inl ⟨rfl,by simp⟩,by simp[blk]⟩
 .obtain⟨v',m',a1,a2,a3,a4,a5⟩:=xO hm hrd kJ 8 hl (by unfold most at hl;omega)
  have hv':=a5 h3
  have ha4:=a4 (m.n+1) (by rw[hv'];rfl)
  have hlt:=a3.lt (m.n+1) (by rw[hv'];rfl)
  have bs:jR 1 0 (rep 0 [zU]) [] m=some (.slice (some ⟨m.n,0,some (code 1 true)⟩) 0 0,Dx.newRow m []):=rfl
  rw[hv']at a1
  simp[heq,bs,a1]
  exact qx a2 ⟨.inr ⟨m.n+1,Nat.zero_le _,hlt,h3,by simp,ha4.2⟩,by simp[blk]⟩
theorem bd (n:Nat){m:M}(hm:m.base<=m.n){v:Value}{es:List (Row 2)}(h:Gro m v 2 wY es)(hl:es.length*16<=most) :
  Dx.Call (ex Tryz.prog (n+1)) 44 [v] m λv' m'=>Gro m' v' 2 wY es/\∀B,blk v'=some B->m.n<=B:=by
 refine qj dd1_ok (by simp) ?_
 have hln:=h.len
 have hrd:Rd m v 2 wY es:=Grown.rd kJ h
 have heq:=bh hln
 rcases h with ⟨rfl,rfl⟩ | ⟨B,h1,h2,h3,rfl,h5⟩
 .simp[heq]
  exact qx (Ext.refl m) ⟨.inl ⟨rfl,by simp⟩,by simp[blk]⟩
 .obtain⟨v',m',a1,a2,a3,a4,a5⟩:=xO hm hrd kJ 16 hl (by unfold most at hl;omega)
  have hv':=a5 h3
  have ha4:=a4 (m.n+1) (by rw[hv'];rfl)
  have hlt:=a3.lt (m.n+1) (by rw[hv'];rfl)
  have bs:jR 2 0 (rep 0 [zI,zI]) [] m=some (.slice (some ⟨m.n,0,some (code 2 true)⟩) 0 0,Dx.newRow m []):=rfl
  rw[hv']at a1
  simp[heq,bs,a1]
  exact qx a2 ⟨.inr ⟨m.n+1,Nat.zero_le _,hlt,h3,by simp,ha4.2⟩,by simp[blk]⟩
theorem vQ (n:Nat){m:M}(hm:m.base<=m.n){F:Nat}(hF:F<6){v:Value}{es:List (Row (esz F))}(h:Gro m v (esz F) wY es)(hl:es.length*byt F<=most) :
  Dx.Call (ex Tryz.prog (n+1)) (cfn F) [v] m λv' m'=>Gro m' v' (esz F) wY es/\∀B,blk v'=some B->m.n<=B:=by
 rcases six hF with rfl | rfl | rfl | rfl | rfl | rfl
 .exact DV n hm h hl
 .exact bd n hm h hl
 .exact bd n hm h hl
 .exact bd n hm h hl
 .exact bd n hm h hl
 .exact DX n hm h hl
structure Kp (D:List Nat)(a b:M):Prop where
 n:a.n<=b.n
 obj:∀B,B<a.n->B ∉ D->b.obj B=a.obj B
theorem Kp.refl {D:List Nat}{a:M}:Kp D a a:=⟨qgg _,λ_ _ _=>rfl⟩
theorem Kp.trans {D:List Nat}{a b c:M}(h:Kp D a b)(k:Kp D b c):Kp D a c:=⟨qgp h.n k.n,λB hB hD=>(k.obj B (qgi hB h.n) hD).trans (h.obj B hB hD)⟩
theorem _root_.Go.Dx.Ext.kp {D:List Nat}{a b:M}(h:Ext a b):Kp D a b:=⟨h.n,λB hB _=>h.obj B hB⟩
theorem Kp.put {D:List Nat}{a b:M}{Z:Nat}(hn:b.n=a.n)(ho:∀X,X≠Z->b.obj X=a.obj X)(hZ:Z∈D):Kp D a b:=⟨Nat.le_of_eq hn.symm,λB _ hD=>ho B λe=>hD (e ▸ hZ)⟩
theorem _root_.Go.Dx.Gro.kp {α:Type}{D:List Nat}{a b:M}{v:Value}{e:Nat}{f:α->List Value}{es:List α}(h:Gro a v e f es)(k:Kp D a b)(hv:∀B,blk v=some B->B ∉ D):Gro b v e f es:=h.keep k.n λB hB hb=>k.obj B hB (hv B hb)
def qZ (s:Mch):List Value:=[s.ev,s.rmw,s.addr,s.data,s.ctrl,s.outs,iv s.st,iv s.lc,iv s.us]
abbrev z9:List Value:=[kW,kW,kW,kW,kW,kW,zI,zI,zI]
structure RL (m:M)(s:Mch)(S:PM):Prop where
 ls:∀F,F<6->Gro m (lst s F) (esz F) wY (rowsOf S F)
 dis:∀F G,F<6->G<6->F≠G->∀B,blk (lst s F)=some B->blk (lst s G)≠some B
theorem Hp.rl {m:M}{P:Nat}{s:Mch}{g:Gh}{S:PM}(h:Hp m P s g S):RL m s S:=⟨h.ls,h.dis⟩
def Sz (S:PM):Prop:=∀F,F<6->(rowsOf S F).length*byt F<=most
theorem RL.ok {m:M}{s:Mch}{S:PM}(h:RL m s S):∀v∈qZ s,okC v=true:=by
 have k:∀F,F<6->okC (lst s F)=true:=λF hF=>Grown.okC (h.ls F hF)
 intro v hv
 simp only[qZ,List.mem_cons,List.not_mem_nil,or_false]at hv
 rcases hv with rfl | rfl | rfl | rfl | rfl | rfl | rfl | rfl | rfl
 .exact k 0 (by omega)
 .exact k 1 (by omega)
 .exact k 2 (by omega)
 .exact k 3 (by omega)
 .exact k 4 (by omega)
 .exact k 5 (by omega)
 .rfl
 .rfl
 .rfl
theorem RL.kp {D:List Nat}{a b:M}{s:Mch}{S:PM}(h:RL a s S)(k:Kp D a b)(hv:∀F,F<6->∀B,blk (lst s F)=some B->B ∉ D):RL b s S:=⟨λF hF=>(h.ls F hF).kp k (hv F hF),h.dis⟩
theorem RL.ext {a b:M}{s:Mch}{S:PM}(h:RL a s S)(k:Ext a b):RL b s S:=h.kp (D:=[]) k.kp λ_ _ _ _=>by simp
def Kh (k:Nat)(s:Mch):Prop:=∀F,F<6->∀B,blk (lst s F)=some B->k<=B
theorem qd3 (n:Nat){m:M}(hm:m.base<=m.n){s:Mch}{S:PM}(h:RL m s S)(hz:Sz S) :
  Dx.Call (ex Tryz.prog (n+2)) 25 [.agg ⟨qZ s⟩] m λv' m'=>∃s',v'=.agg ⟨qZ s'⟩/\RL m' s' S/\Kh m.n s'/\s'.st=s.st/\s'.lc=s.lc/\s'.us=s.us:=by
 refine qj db3_ok (by simp) ?_
 have st1:=((St.nil hm (Ext.refl m)).row (qZ s)).row z9
 obtain⟨m0,hm0⟩:=qh2 (Dx.newRow m (qZ s))
 have hb:jv (.agg ⟨qZ s⟩) m=some (.pointer (some ⟨m.n,0,none⟩),m0):=by rw[hm0];rfl
 have hn0:m0.n=m.n+1:=by rw[hm0,qQ]
 obtain⟨m1,hm1⟩:=qh2 (Dx.newRow m0 z9)
 have hm1':Dx.newRow m0 [zS,zS,zS,zS,zS,zS,zI,zI,zI]=m1:=hm1.symm
 have hm1n:m1.n=m.n+2:=by rw[hm1,qQ,hn0]
 rw[<-hm0,<-hm1]at st1
 obtain⟨D,hD⟩:=qh2 ([m.n,m0.n])
 have inM:m.n∈D:=by rw[hD];simp
 have inM0:m0.n∈D:=by rw[hD];simp
 have E1:Ext m m1:=st1.ext
 have old:∀F,F<6->∀B,blk (lst s F)=some B->B ∉ D:=λF hF B hB hc=>by
  have:=(h.ls F hF).lt B hB
  rw[hD]at hc;simp at hc;omega
 have new:∀{k:Nat} {v:Value},m1.n<=k->(∀B,blk v=some B->k<=B)->∀B,blk v=some B->B ∉ D:=λhk hv B hB hc=>by
  have:=hv B hB
  rw[hD]at hc;simp at hc;omega
 have gA:∀{F:Nat} {a:M},F<6->Kp D m a->Gro (qg a) (lst s F) (esz F) wY (rowsOf S F):=λ{F a} hF k=>((h.ls F hF).kp k (old F hF)).keep (by rw[qq];exact qgg _) λB _ _=>qw _ _
 have K0:Kp D m m1:=E1.kp
 have Km1:Kp D m1 m1:=Kp.refl
 have l0:load1 m1 ⟨m.n,0,none⟩=some s.ev:=(st1.get 1 rfl).2.2.load1 0 none
 obtain⟨v0,x0,a0,b0,e0,g0,w0⟩:=qm (vQ n (m:=qg m1) (by rw[wS,qq];exact qgg _) (F:=0) (by omega) (gA (by omega) (K0.trans Km1)) (hz 0 (by omega)))
 have a0:(ex Tryz.prog (n+1)).f 42 [s.ev] (qg m1)=some (v0,x0):=a0
 rw[qq]at w0
 obtain⟨A1,hA1⟩:=qh2 (Dx.behind m1 x0)
 rw[<-hA1]at e0
 have stA1:=st1.step e0
 have nA1:=e0.n
 have KA1:Kp D m1 A1:=Km1.trans e0.kp
 have g0:Gro A1 v0 (esz 0) wY (rowsOf S 0):=g0.keep (by rw[hA1,wg];exact qgg _) λB _ _=>by rw[hA1,qz]
 have d0:∀B,blk v0=some B->B ∉ D:=new Km1.n w0
 have i0:∀B,blk v0=some B->m1.n<=B/\B<A1.n:=λB hB=>⟨w0 B hB,g0.lt B hB⟩
 have p0:Kp D A1 A1:=Kp.refl
 have o0:okC v0=true:=Grown.okC g0
 have l5:load1 A1 ⟨m.n,5,none⟩=some s.outs:=(stA1.get 1 rfl).2.2.load1 5 none
 obtain⟨v5,x5,a5,b5,e5,g5,w5⟩:=qm (vQ n (m:=qg A1) (by rw[wS,qq];exact qgg _) (F:=5) (by omega) (gA (by omega) (K0.trans KA1)) (hz 5 (by omega)))
 have a5:(ex Tryz.prog (n+1)).f 43 [s.outs] (qg A1)=some (v5,x5):=a5
 rw[qq]at w5
 obtain⟨A2,hA2⟩:=qh2 (Dx.behind A1 x5)
 rw[<-hA2]at e5
 have stA2:=stA1.step e5
 have nA2:=e5.n
 have KA2:Kp D m1 A2:=KA1.trans e5.kp
 have g5:Gro A2 v5 (esz 5) wY (rowsOf S 5):=g5.keep (by rw[hA2,wg];exact qgg _) λB _ _=>by rw[hA2,qz]
 have d5:∀B,blk v5=some B->B ∉ D:=new KA1.n w5
 have i5:∀B,blk v5=some B->A1.n<=B/\B<A2.n:=λB hB=>⟨w5 B hB,g5.lt B hB⟩
 have p5:Kp D A2 A2:=Kp.refl
 have o5:okC v5=true:=Grown.okC g5
 have p0:=p0.trans (e5.kp (D:=D))
 obtain⟨y0,ya0,yb0,stA3,yc0,yd0⟩:=stA2.storeAny 1 (b:=m.n) rfl (o:=0) (v:=v0) (by simp[qZ]) o0
 obtain⟨A3,hA3⟩:=qh2 (Dx.behind A2 y0)
 rw[<-hA3]at stA3 yc0 yd0
 have z0:Kp D A2 A3:=Kp.put yc0 yd0 inM
 have nA3:=z0.n
 have KA3:Kp D m1 A3:=KA2.trans z0
 have p0:=p0.trans z0
 have p5:=p5.trans z0
 obtain⟨y5,ya5,yb5,stA4,yc5,yd5⟩:=stA3.storeAny 1 (b:=m.n) rfl (o:=5) (v:=v5) (by simp[qZ]) o5
 obtain⟨A4,hA4⟩:=qh2 (Dx.behind A3 y5)
 rw[<-hA4]at stA4 yc5 yd5
 have z5:Kp D A3 A4:=Kp.put yc5 yd5 inM
 have nA4:=z5.n
 have KA4:Kp D m1 A4:=KA3.trans z5
 have p0:=p0.trans z5
 have p5:=p5.trans z5
 have l1:load1 A4 ⟨m.n,1,none⟩=some s.rmw:=(stA4.get 1 rfl).2.2.load1 1 none
 obtain⟨v1,x1,a1,b1,e1,g1,w1⟩:=qm (vQ n (m:=qg A4) (by rw[wS,qq];exact qgg _) (F:=1) (by omega) (gA (by omega) (K0.trans KA4)) (hz 1 (by omega)))
 have a1:(ex Tryz.prog (n+1)).f 44 [s.rmw] (qg A4)=some (v1,x1):=a1
 rw[qq]at w1
 obtain⟨A5,hA5⟩:=qh2 (Dx.behind A4 x1)
 rw[<-hA5]at e1
 have stA5:=stA4.step e1
 have nA5:=e1.n
 have KA5:Kp D m1 A5:=KA4.trans e1.kp
 have g1:Gro A5 v1 (esz 1) wY (rowsOf S 1):=g1.keep (by rw[hA5,wg];exact qgg _) λB _ _=>by rw[hA5,qz]
 have d1:∀B,blk v1=some B->B ∉ D:=new KA4.n w1
 have i1:∀B,blk v1=some B->A4.n<=B/\B<A5.n:=λB hB=>⟨w1 B hB,g1.lt B hB⟩
 have p1:Kp D A5 A5:=Kp.refl
 have o1:okC v1=true:=Grown.okC g1
 have p0:=p0.trans (e1.kp (D:=D))
 have p5:=p5.trans (e1.kp (D:=D))
 have l2:load1 A5 ⟨m.n,2,none⟩=some s.addr:=(stA5.get 1 rfl).2.2.load1 2 none
 obtain⟨v2,x2,a2,b2,e2,g2,w2⟩:=qm (vQ n (m:=qg A5) (by rw[wS,qq];exact qgg _) (F:=2) (by omega) (gA (by omega) (K0.trans KA5)) (hz 2 (by omega)))
 have a2:(ex Tryz.prog (n+1)).f 44 [s.addr] (qg A5)=some (v2,x2):=a2
 rw[qq]at w2
 obtain⟨A6,hA6⟩:=qh2 (Dx.behind A5 x2)
 rw[<-hA6]at e2
 have stA6:=stA5.step e2
 have nA6:=e2.n
 have KA6:Kp D m1 A6:=KA5.trans e2.kp
 have g2:Gro A6 v2 (esz 2) wY (rowsOf S 2):=g2.keep (by rw[hA6,wg];exact qgg _) λB _ _=>by rw[hA6,qz]
 have d2:∀B,blk v2=some B->B ∉ D:=new KA5.n w2
 have i2:∀B,blk v2=some B->A5.n<=B/\B<A6.n:=λB hB=>⟨w2 B hB,g2.lt B hB⟩
 have p2:Kp D A6 A6:=Kp.refl
 have o2:okC v2=true:=Grown.okC g2
 have p0:=p0.trans (e2.kp (D:=D))
 have p5:=p5.trans (e2.kp (D:=D))
 have p1:=p1.trans (e2.kp (D:=D))
 have l3:load1 A6 ⟨m.n,3,none⟩=some s.data:=(stA6.get 1 rfl).2.2.load1 3 none
 obtain⟨v3,x3,a3,b3,e3,g3,w3⟩:=qm (vQ n (m:=qg A6) (by rw[wS,qq];exact qgg _) (F:=3) (by omega) (gA (by omega) (K0.trans KA6)) (hz 3 (by omega)))
 have a3:(ex Tryz.prog (n+1)).f 44 [s.data] (qg A6)=some (v3,x3):=a3
 rw[qq]at w3
 obtain⟨A7,hA7⟩:=qh2 (Dx.behind A6 x3)
 rw[<-hA7]at e3
 have stA7:=stA6.step e3
 have nA7:=e3.n
 have KA7:Kp D m1 A7:=KA6.trans e3.kp
 have g3:Gro A7 v3 (esz 3) wY (rowsOf S 3):=g3.keep (by rw[hA7,wg];exact qgg _) λB _ _=>by rw[hA7,qz]
 have d3:∀B,blk v3=some B->B ∉ D:=new KA6.n w3
 have i3:∀B,blk v3=some B->A6.n<=B/\B<A7.n:=λB hB=>⟨w3 B hB,g3.lt B hB⟩
 have p3:Kp D A7 A7:=Kp.refl
 have o3:okC v3=true:=Grown.okC g3
 have p0:=p0.trans (e3.kp (D:=D))
 have p5:=p5.trans (e3.kp (D:=D))
 have p1:=p1.trans (e3.kp (D:=D))
 have p2:=p2.trans (e3.kp (D:=D))
 have l4:load1 A7 ⟨m.n,4,none⟩=some s.ctrl:=(stA7.get 1 rfl).2.2.load1 4 none
 obtain⟨v4,x4,a4,b4,e4,g4,w4⟩:=qm (vQ n (m:=qg A7) (by rw[wS,qq];exact qgg _) (F:=4) (by omega) (gA (by omega) (K0.trans KA7)) (hz 4 (by omega)))
 have a4:(ex Tryz.prog (n+1)).f 44 [s.ctrl] (qg A7)=some (v4,x4):=a4
 rw[qq]at w4
 obtain⟨A8,hA8⟩:=qh2 (Dx.behind A7 x4)
 rw[<-hA8]at e4
 have stA8:=stA7.step e4
 have nA8:=e4.n
 have KA8:Kp D m1 A8:=KA7.trans e4.kp
 have g4:Gro A8 v4 (esz 4) wY (rowsOf S 4):=g4.keep (by rw[hA8,wg];exact qgg _) λB _ _=>by rw[hA8,qz]
 have d4:∀B,blk v4=some B->B ∉ D:=new KA7.n w4
 have i4:∀B,blk v4=some B->A7.n<=B/\B<A8.n:=λB hB=>⟨w4 B hB,g4.lt B hB⟩
 have p4:Kp D A8 A8:=Kp.refl
 have o4:okC v4=true:=Grown.okC g4
 have p0:=p0.trans (e4.kp (D:=D))
 have p5:=p5.trans (e4.kp (D:=D))
 have p1:=p1.trans (e4.kp (D:=D))
 have p2:=p2.trans (e4.kp (D:=D))
 have p3:=p3.trans (e4.kp (D:=D))
 obtain⟨y1,ya1,yb1,stA9,yc1,yd1⟩:=stA8.storeAny 1 (b:=m.n) rfl (o:=1) (v:=v1) (by simp[qZ]) o1
 obtain⟨A9,hA9⟩:=qh2 (Dx.behind A8 y1)
 rw[<-hA9]at stA9 yc1 yd1
 have z1:Kp D A8 A9:=Kp.put yc1 yd1 inM
 have nA9:=z1.n
 have KA9:Kp D m1 A9:=KA8.trans z1
 have p0:=p0.trans z1
 have p5:=p5.trans z1
 have p1:=p1.trans z1
 have p2:=p2.trans z1
 have p3:=p3.trans z1
 have p4:=p4.trans z1
 obtain⟨y2,ya2,yb2,stA10,yc2,yd2⟩:=stA9.storeAny 1 (b:=m.n) rfl (o:=2) (v:=v2) (by simp[qZ]) o2
 obtain⟨A10,hA10⟩:=qh2 (Dx.behind A9 y2)
 rw[<-hA10]at stA10 yc2 yd2
 have z2:Kp D A9 A10:=Kp.put yc2 yd2 inM
 have nA10:=z2.n
 have KA10:Kp D m1 A10:=KA9.trans z2
 have p0:=p0.trans z2
 have p5:=p5.trans z2
 have p1:=p1.trans z2
 have p2:=p2.trans z2
 have p3:=p3.trans z2
 have p4:=p4.trans z2
 obtain⟨y3,ya3,yb3,stA11,yc3,yd3⟩:=stA10.storeAny 1 (b:=m.n) rfl (o:=3) (v:=v3) (by simp[qZ]) o3
 obtain⟨A11,hA11⟩:=qh2 (Dx.behind A10 y3)
 rw[<-hA11]at stA11 yc3 yd3
 have z3:Kp D A10 A11:=Kp.put yc3 yd3 inM
 have nA11:=z3.n
 have KA11:Kp D m1 A11:=KA10.trans z3
 have p0:=p0.trans z3
 have p5:=p5.trans z3
 have p1:=p1.trans z3
 have p2:=p2.trans z3
 have p3:=p3.trans z3
 have p4:=p4.trans z3
 obtain⟨y4,ya4,yb4,stA12,yc4,yd4⟩:=stA11.storeAny 1 (b:=m.n) rfl (o:=4) (v:=v4) (by simp[qZ]) o4
 obtain⟨A12,hA12⟩:=qh2 (Dx.behind A11 y4)
 rw[<-hA12]at stA12 yc4 yd4
 have z4:Kp D A11 A12:=Kp.put yc4 yd4 inM
 have nA12:=z4.n
 have KA12:Kp D m1 A12:=KA11.trans z4
 have p0:=p0.trans z4
 have p5:=p5.trans z4
 have p1:=p1.trans z4
 have p2:=p2.trans z4
 have p3:=p3.trans z4
 have p4:=p4.trans z4
 obtain⟨sN,hsN⟩:∃z:Mch,z={ s with ev:=v0,rmw:=v1,addr:=v2,data:=v3,ctrl:=v4,outs:=v5 }:=⟨_,rfl⟩
 have hrl:qZ sN=[v0,v1,v2,v3,v4,v5,iv s.st,iv s.lc,iv s.us]:=by rw[hsN];rfl
 have lr:loads A12 ⟨m.n,0,none⟩ 9=some (qZ sN):=by rw[hrl];exact (stA12.get 1 rfl).2.2.loads (o:=0) (n:=9) (by simp[qZ])
 have hok:∀v∈qZ sN,okC v=true:=by rw[hrl];simp[okC];exact⟨o0,o1,o2,o3,o4,o5⟩
 obtain⟨mZ,f1,stZ,f2,f3⟩:=stA12.fill 0 (b:=m0.n) (l:=z9) rfl (n:=9) (l':=qZ sN) rfl rfl hok
 have f4:=(stZ.get 0 rfl).2.2.loads (o:=0) (n:=9) (s:=none) (by simp[qZ])
 have zz:Kp D A12 mZ:=Kp.put f2 f3 inM0
 simp[hb,hm1',qd,l0,a0,b0,<-hA1,l5,a5,b5,<-hA2,ya0,yb0,<-hA3,ya5,yb5,<-hA4,l1,a1,b1,<-hA5,l2,a2,b2,<-hA6,l3,a3,b3,<-hA7,l4,a4,b4,<-hA8,ya1,yb1,<-hA9,ya2,yb2,<-hA10,ya3,yb3,<-hA11,ya4,yb4,<-hA12,lr,f1]
 refine kH (a:=⟨m0.n,0,none⟩) (by simp) f4 stZ.ext ⟨sN,rfl,⟨λF hF=>?_,λF G hF hG hne B hB hc=>?_⟩,λF hF B hB=>?_,by rw[hsN],by rw[hsN],by rw[hsN]⟩
 .rw[hsN]
  rcases six hF with rfl | rfl | rfl | rfl | rfl | rfl
  .exact g0.kp (p0.trans zz) d0
  .exact g1.kp (p1.trans zz) d1
  .exact g2.kp (p2.trans zz) d2
  .exact g3.kp (p3.trans zz) d3
  .exact g4.kp (p4.trans zz) d4
  .exact g5.kp (p5.trans zz) d5
 .rw[hsN]at hB hc
  have i0:=i0 B;have i1:=i1 B;have i2:=i2 B;have i3:=i3 B;have i4:=i4 B;have i5:=i5 B
  rcases six hF with rfl | rfl | rfl | rfl | rfl | rfl<;>rcases six hG with rfl | rfl | rfl | rfl | rfl | rfl<;>first | exact hne rfl | skip
  .have:=i0 hB;have:=i1 hc;omega
  .have:=i0 hB;have:=i2 hc;omega
  .have:=i0 hB;have:=i3 hc;omega
  .have:=i0 hB;have:=i4 hc;omega
  .have:=i0 hB;have:=i5 hc;omega
  .have:=i1 hB;have:=i0 hc;omega
  .have:=i1 hB;have:=i2 hc;omega
  .have:=i1 hB;have:=i3 hc;omega
  .have:=i1 hB;have:=i4 hc;omega
  .have:=i1 hB;have:=i5 hc;omega
  .have:=i2 hB;have:=i0 hc;omega
  .have:=i2 hB;have:=i1 hc;omega
  .have:=i2 hB;have:=i3 hc;omega
  .have:=i2 hB;have:=i4 hc;omega
  .have:=i2 hB;have:=i5 hc;omega
  .have:=i3 hB;have:=i0 hc;omega
  .have:=i3 hB;have:=i1 hc;omega
  .have:=i3 hB;have:=i2 hc;omega
  .have:=i3 hB;have:=i4 hc;omega
  .have:=i3 hB;have:=i5 hc;omega
  .have:=i4 hB;have:=i0 hc;omega
  .have:=i4 hB;have:=i1 hc;omega
  .have:=i4 hB;have:=i2 hc;omega
  .have:=i4 hB;have:=i3 hc;omega
  .have:=i4 hB;have:=i5 hc;omega
  .have:=i5 hB;have:=i0 hc;omega
  .have:=i5 hB;have:=i1 hc;omega
  .have:=i5 hB;have:=i2 hc;omega
  .have:=i5 hB;have:=i3 hc;omega
  .have:=i5 hB;have:=i4 hc;omega
 .rw[hsN]at hB
  have n1:=E1.n
  rcases six hF with rfl | rfl | rfl | rfl | rfl | rfl
  .have:=i0 B hB;omega
  .have:=i1 B hB;omega
  .have:=i2 B hB;omega
  .have:=i3 B hB;omega
  .have:=i4 B hB;omega
  .have:=i5 B hB;omega
end Go.Sx
namespace Go.Sx
open Go.Dx Go.Proofs
set_option maxRecDepth 10000
theorem len0_c (n:Nat)(m:M):CallV (ex Tryz.prog (n+1)) 97 [zU] m (iv 0):=by
 refine qj qaa (by simp) ?_
 have h1:xH .u8 zU=some (.int .u8 0):=by rw[wV];rfl
 have h2:∀(x y:V) (t:Tm),yb x y t=Zk (x t) (y t):=λ_ _ _=>rfl
 simp[h1,h2]
 rw[show Zk (.string _) (.int .u8 0)=some (.int .u8 0) from rfl]
 simp[wV,wrap64]
 exact qx (Ext.refl m) (by simp)
theorem lenI_c (n:Nat)(m:M):CallV (ex Tryz.prog (n+2)) 67 [zU] m (iv 0):=by
 refine qj qa7 (by simp) ?_
 obtain⟨v,m1,a1,a2,rfl⟩:=len0_c n m
 simp[a1]
 exact qx a2 (by simp)
theorem ins0_c (n:Nat)(m:M):Dx.Call (ex Tryz.prog (n+1)) 88 [kW,iv 0,iv 0,fnC] m λ_ m'=>m'=m:=by
 refine qj qa9 (by simp) ?_
 have w:IntKind.i64.wrap 1=1:=wrap64 _ (by omega) (by omega)
 simp[w]
 refine qF (c:=Vm) rfl (Ret m _) (λi t m'=>Tm.get 8 t=iv 1/\Tm.get 2 t=iv 0/\m'=m) 0 (by omega) ⟨by simp,by simp,rfl⟩ (λi t m' k hi hI hk=>?_)
 obtain⟨t8,t2,he⟩:=hI
 rw[he]
 simp[t8,t2]
 exact qcj (Ext.refl m) rfl
theorem pdq0_c (n:Nat)(m:M):Dx.Call (ex Tryz.prog (n+2)) 66 [kW,iv 0,iv 0,iv 0,fnC] m λ_ m'=>m'=m:=by
 refine qj Vt (by simp) ?_
 simp
 refine qF (c:=Zw) rfl (Ret m _) (λi t m'=>Tm.get 0 t=kW/\Tm.get 1 t=iv 0/\Tm.get 2 t=iv 0/\Tm.get 4 t=fnC/\m'=m) 0 (by omega) ⟨by simp,by simp,by simp,by simp,rfl⟩ (λi t m' k hi hI hk=>?_)
 obtain⟨t0,t1,t2,t4,he⟩:=hI
 rw[he]
 obtain⟨v1,m1,a1,a2,a3⟩:=ins0_c n m
 have w:IntKind.i64.wrap 0=0:=wrap64 _ (by omega) (by omega)
 simp[t0,t1,t2,t4,w,a1]
 exact qcj a2 a3
theorem qfb (n:Nat)(m:M):Dx.Call (ex Tryz.prog (n+3)) 45 [kW,fnC] m λ_ m'=>True:=by
 refine qj qa3 (by simp) ?_
 have ln:jW kW=some zI:=rfl
 have h1:xH .u64 zI=some zU:=by rw[wV];rfl
 obtain⟨v1,m1,a1,a2,rfl⟩:=lenI_c n m
 obtain⟨v2,m2,b1,b2,b3⟩:=pdq0_c n m1
 simp[ln,h1,a1,b1]
 exact qcj (a2.trans b2) trivial
def stF (w:Wnt):Int × Int:=if w.what=1 then (2,w.loc) else if w.what=2/\w.ex=true then (3,w.loc) else if w.what=5 then (1,0) else if w.what=6 then (4,0) else if w.what=7 then (5,0) else (0,0)
theorem qfh (n:Nat){m:M}(hm:m.base<=m.n)(w:Wnt):CallV (ex Tryz.prog (n+1)) 28 [.agg ⟨qy w⟩] m (.tuple #[iv (stF w).1,iv (stF w).2]):=by
 refine qj db6_ok (by simp) ?_
 obtain⟨m1,hb,E,hn1,l,-⟩:=fG (m:=m) (l:=qy w) (by simp[qy])
 have l0:load1 m1 ⟨m.n,0,none⟩=some (iv w.what):=l 0
 have l1:load1 m1 ⟨m.n,1,none⟩=some (iv w.loc):=l 1
 have l4:load1 m1 ⟨m.n,4,none⟩=some (.bool w.ex):=l 4
 by_cases h1:w.what=1
 .simp[hb,l0,l1,l4,h1]
  exact jc E (by simp[stF,h1])
 .by_cases h2:w.what=2
  .cases hx:w.ex with
   | true =>
    rw[hx]at l4
    simp[hb,l0,l1,l4,h1,h2]
    exact jc E (by simp[stF,h1,h2,hx])
   | false =>
    rw[hx]at l4
    simp[hb,l0,l1,l4,h1,h2]
    exact jc E (by simp[stF,h1,h2,hx])
  .by_cases h5:w.what=5
   .simp[hb,l0,l1,l4,h1,h2,h5]
    exact jc E (by simp[stF,h1,h2,h5])
   .by_cases h6:w.what=6
    .simp[hb,l0,l1,l4,h1,h2,h5,h6]
     exact jc E (by simp[stF,h1,h2,h5,h6])
    .by_cases h7:w.what=7
     .simp[hb,l0,l1,l4,h1,h2,h5,h6,h7]
      exact jc E (by simp[stF,h1,h2,h5,h6,h7])
     .simp[hb,l0,l1,l4,h1,h2,h5,h6,h7]
      exact jc E (by simp[stF,h1,h2,h5,h6,h7])
theorem _root_.Go.Dx.Mc.ext {a b:M}(h:Mc a b []):Ext a b:=⟨h.n,λB hB=>h.obj B hB (by simp),h.base,h.low (by simp)⟩
theorem _root_.Go.Dx.Ow.wr {m0 m m':M}{W V:List Nat}{σ:List (Nat × List Value)}(h:Ow m0 m W σ)(k:Mc m m' V)(hV:∀B∈V,B∈W\/m0.n<=B)(hσ:∀p∈σ,p.1 ∉ V):Ow m0 m' W σ :=
 ⟨h.mc.tr2 k hV h.base,h.base,λp hp=>let ⟨h1,h2,h3⟩:=h.arr p hp;⟨h1,qgi h2 k.n,h3.congr (k.obj _ h2 (hσ p hp))⟩,h.nd⟩
theorem _root_.Go.Dx.Ow.nil {m:M}(hm:m.base<=m.n):Ow m m [] []:=Ow.start hm (by simp) (by simp)
theorem Fx (l:List (Nat × Nat)):(l.map prR).flatMap (wY (e:=2))=l.flatMap qf:=by
 rw[List.flatMap_map];rfl
theorem sortG (n:Nat){m:M}(hm:m.base<=m.n){v:Value}{l:List (Nat × Nat)}(h:Gro m v 2 wY (l.map prR))(hl:l.length<=1000000) :
  ∃u m',(ex Tryz.prog (n+29)).f 45 [v,fnC] m=some (u,m')/\Mc m m' (Qy v)/\Gro m' v 2 wY ((yD l).map prR):=by
 rcases h with ⟨h1,rfl⟩ | ⟨B,h1,h2,h3,rfl,h5⟩
 .have hl0:l=[]:=by simpa using h1
  subst hl0
  obtain⟨u,m',a1,a2,-⟩:=qfb (n+26) m
  have e:yD []=[]:=by simp[yD]
  exact⟨u,m',a1,a2.mc,.inl ⟨by rw[e];rfl,rfl⟩⟩
 .rw[Fx]at h5
  obtain⟨u,m',a1,a2,a3⟩:=qfd n hm (c:=code 2 false) h5 h2 rfl hl
  have hlen:(yD l).length=l.length:=(jZ toP l).1.length_eq
  have hmm:(l.map prR).length=l.length:=List.length_map _
  have hm2:((yD l).map prR).length=l.length:=(List.length_map _).trans hlen
  refine⟨u,m',by rw[hmm];exact a1,a2,.inr ⟨B,Nat.zero_le _,qgi h2 a2.n,λe=>?_,by rw[hmm,hm2],by rw[Fx];exact a3⟩⟩
  have:=congrArg List.length e
  rw[hm2]at this
  simp at this
  rw[this]at h3
  exact h3 rfl
def xN (i:Nat)(S:PM):PM:={ S with rmw:=if 1<=i then yD S.rmw else S.rmw,addr:=if 2<=i then yD S.addr else S.addr,data:=if 3<=i then yD S.data else S.data,ctrl:=if 4<=i then yD S.ctrl else S.ctrl }
def vw (S:PM):PM:=xN 4 S
structure Szp (S:PM):Prop where
 sz:Sz S
 rmw:S.rmw.length<=1000000
 addr:S.addr.length<=1000000
 data:S.data.length<=1000000
 ctrl:S.ctrl.length<=1000000
theorem RL.one {a b:M}{s:Mch}{S S':PM}(h:RL a s S){F:Nat}(hF:F<6)(k:Mc a b (Qy (lst s F)))(hn:Gro b (lst s F) (esz F) wY (rowsOf S' F))(ho:∀G,G<6->G≠F->rowsOf S' G=rowsOf S G):RL b s S' :=
 ⟨λG hG=>by
  by_cases e:G=F
  .subst e;exact hn
  .rw[ho G hG e]
   exact (h.ls G hG).keep k.n λB hB hb=>k.obj B hB λhc=>h.dis G F hG hF e B hb (zX.1 hc),h.dis⟩
theorem XL (n:Nat){m:M}(hm:m.base<=m.n){s:Mch}{S:PM}(h:RL m s S)(hz:Szp S) :
  Dx.Call (ex Tryz.prog (n+30)) 27 [.agg ⟨qZ s⟩] m λv' m'=>∃s',v'=.agg ⟨qZ s'⟩/\RL m' s' (vw S)/\Kh m.n s'/\s'.st=s.st/\s'.lc=s.lc/\s'.us=s.us:=by
 refine qj db5_ok (by simp) ?_
 have st1:=((Ow.nil hm).row (qZ s)).row z9
 obtain⟨m0,hm0⟩:=qh2 (Dx.newRow m (qZ s))
 have hb:jv (.agg ⟨qZ s⟩) m=some (.pointer (some ⟨m.n,0,none⟩),m0):=by rw[hm0];rfl
 have hn0:m0.n=m.n+1:=by rw[hm0,qQ]
 obtain⟨m1,hm1⟩:=qh2 (Dx.newRow m0 z9)
 have hm1':Dx.newRow m0 [zS,zS,zS,zS,zS,zS,zI,zI,zI]=m1:=hm1.symm
 have hm1n:m1.n=m.n+2:=by rw[hm1,qQ,hn0]
 rw[<-hm0,<-hm1]at st1
 have lr:loads m1 ⟨m.n,0,none⟩ 9=some (qZ s):=(st1.get 1 rfl).2.2.loads (o:=0) (n:=9) (by simp[qZ])
 obtain⟨v2,m2,a1,a2,sN,rfl,a3,a4,e1,e2,e3⟩:=qd3 (n+27) st1.mb (h.ext st1.mc.ext) hz.sz
 have st2:=st1.step a2
 obtain⟨m3,b1,st3,b2,b3⟩:=st2.storeN 1 (B:=m.n) rfl (o:=0) (n:=9) (l':=qZ sN) (by omega) rfl (by simp[qZ]) a3.ok
 have hov:over (qZ s) 0 (qZ sN)=qZ sN:=rfl
 rw[hov]at st3
 have l:∀o,load1 m3 ⟨m.n,o,none⟩=(qZ sN)[o]?:=λo=>(st3.get 1 rfl).2.2.load1 o none
 have l1:load1 m3 ⟨m.n,1,none⟩=some sN.rmw:=l 1
 have l2:load1 m3 ⟨m.n,2,none⟩=some sN.addr:=l 2
 have l3:load1 m3 ⟨m.n,3,none⟩=some sN.data:=l 3
 have l4:load1 m3 ⟨m.n,4,none⟩=some sN.ctrl:=l 4
 obtain⟨L4,hL4⟩:=qh2 ([sN.rmw,sN.addr,sN.data,sN.ctrl])
 have st4:=st3.row L4
 obtain⟨m4,hm4⟩:=qh2 (Dx.newRow m3 L4)
 have sl:∀F,F<6->∃a k q,lst sN F=.slice a k q:=λF hF=>by
  rcases a3.ls F hF with ⟨_,h⟩ | ⟨_,_,_,_,h,_⟩
  .exact⟨_,_,_,h⟩
  .exact⟨_,_,_,h⟩
 have bs:jR 1 4 (rep 4 [zS]) [(0,1,sN.rmw),(1,1,sN.addr),(2,1,sN.data),(3,1,sN.ctrl)] m3=some (.slice (some ⟨m3.n,0,some 3⟩) 4 4,m4):=by
  rw[hm4,hL4]
  obtain⟨_,_,_,h1⟩:=sl 1 (by omega)
  obtain⟨_,_,_,h2⟩:=sl 2 (by omega)
  obtain⟨_,_,_,h3⟩:=sl 3 (by omega)
  obtain⟨_,_,_,h4⟩:=sl 4 (by omega)
  have h1:sN.rmw=_:=h1
  have h2:sN.addr=_:=h2
  have h3:sN.data=_:=h3
  have h4:sN.ctrl=_:=h4
  rw[h1,h2,h3,h4];rfl
 rw[<-hm4]at st4
 have ln:jW (.slice (some ⟨m3.n,0,some 3⟩) 4 4)=some (.int .i64 4):=rfl
 have g2:Kh m1.n sN:=a4
 have g4:RL m4 sN S:=(a3.kp (D:=[m.n]) (Kp.put b2 b3 (by simp)) λF hF B hB hc=>by
  have:=g2 F hF B hB
  simp at hc;omega).ext (by rw[hm4];exact Ext.row _ _)
 have ltm:∀F,F<6->∀B,blk (lst sN F)=some B->B<m3.n:=λF hF B hB=>by have:=(a3.ls F hF).lt B hB;omega
 simp[hb,hm1',qd,lr,a1,b1,l1,l2,l3,l4,bs,ln]
 refine qF (c:=cb5_7) rfl (Ret m _) (λi t m'=>Tm.get 1 t=.pointer (some ⟨m.n,0,none⟩)/\Tm.get 2 t=.pointer (some ⟨m0.n,0,none⟩)/\Tm.get 15 t=.slice (some ⟨m3.n,0,some 3⟩) 4 4/\Tm.get 16 t=iv 4/\Tm.get 17 t=iv i/\Ow m m' [] [(m3.n,L4),(m0.n,z9),(m.n,qZ sN)]/\RL m' sN (xN i S)) 4 (by omega)
  ⟨by simp,by simp,by simp,by simp,by simp,st4,g4⟩ (λi t m' k hi hI hk=>?_)
 obtain⟨t1,t2,t15,t16,t17,st,g⟩:=hI
 by_cases hil:i<4
 .have hd:((i:Int)<4)=True:=eq_true (by omega)
  have w1:=qY (i:=i) (by omega)
  have ia:=wx (e:=1) (c:=3) m3.n 4 i hil
  rw[Nat.mul_one]at ia
  have lx:load1 m' ⟨m3.n,i,none⟩=L4[i]?:=(st.get 0 rfl).2.2.load1 i none
  have round:∀(F:Nat) (lq:List (Nat × Nat)) (hF:F<6) (he:esz F=2) (hL:L4[i]?=some (lst sN F)) (hG:Gro m' (lst sN F) 2 wY (lq.map prR)) (hlq:lq.length<=1000000) (hne:∀b,Gro b (lst sN F) 2 wY ((yD lq).map prR)->Gro b (lst sN F) (esz F) wY (rowsOf (xN (i+1) S) F)) (ho:∀G,G<6->G≠F->rowsOf (xN (i+1) S) G=rowsOf (xN i S) G),
    ∃u m'',(ex Tryz.prog (n+29)).f 45 [lst sN F,fnC] m'=some (u,m'')/\Ow m m'' [] [(m3.n,L4),(m0.n,z9),(m.n,qZ sN)]/\RL m'' sN (xN (i+1) S):=by
   intro F lq hF he hL hG hlq hne ho
   obtain⟨u,m'',c1,c2,c3⟩:=sortG n st.mb hG hlq
   refine⟨u,m'',c1,st.wr c2 (λB hB=>.inr ?_) (λp hp hc=>?_),g.one hF c2 (hne _ c3) ho⟩
   .have:=g2 F hF B (zX.1 hB);omega
   .have h1:=g2 F hF _ (zX.1 hc)
    have h2:=ltm F hF _ (zX.1 hc)
    simp only[List.mem_cons,List.not_mem_nil,or_false]at hp
    rcases hp with rfl | rfl | rfl
    .simp only at h2;omega
    .simp only at h1;omega
    .simp only at h1;omega
  have all:∃x u m'',L4[i]?=some x/\(ex Tryz.prog (n+29)).f 45 [x,fnC] m'=some (u,m'')/\Ow m m'' [] [(m3.n,L4),(m0.n,z9),(m.n,qZ sN)]/\RL m'' sN (xN (i+1) S):=by
   rcases (by omega:i=0\/i=1\/i=2\/i=3) with rfl | rfl | rfl | rfl
   .obtain⟨u,m'',c⟩:=round 1 S.rmw (by omega) rfl (by rw[hL4];rfl) (g.ls 1 (by omega)) hz.rmw (λb h=>h) (λG hG hne=>by rcases six hG with rfl | rfl | rfl | rfl | rfl | rfl<;>first | exact absurd rfl hne | rfl)
    exact⟨_,u,m'',by rw[hL4];rfl,c⟩
   .obtain⟨u,m'',c⟩:=round 2 S.addr (by omega) rfl (by rw[hL4];rfl) (g.ls 2 (by omega)) hz.addr (λb h=>h) (λG hG hne=>by rcases six hG with rfl | rfl | rfl | rfl | rfl | rfl<;>first | exact absurd rfl hne | rfl)
    exact⟨_,u,m'',by rw[hL4];rfl,c⟩
   .obtain⟨u,m'',c⟩:=round 3 S.data (by omega) rfl (by rw[hL4];rfl) (g.ls 3 (by omega)) hz.data (λb h=>h) (λG hG hne=>by rcases six hG with rfl | rfl | rfl | rfl | rfl | rfl<;>first | exact absurd rfl hne | rfl)
    exact⟨_,u,m'',by rw[hL4];rfl,c⟩
   .obtain⟨u,m'',c⟩:=round 4 S.ctrl (by omega) rfl (by rw[hL4];rfl) (g.ls 4 (by omega)) hz.ctrl (λb h=>h) (λG hG hne=>by rcases six hG with rfl | rfl | rfl | rfl | rfl | rfl<;>first | exact absurd rfl hne | rfl)
    exact⟨_,u,m'',by rw[hL4];rfl,c⟩
  obtain⟨x,u,m'',hx,c1,c2,c3⟩:=all
  rw[hx]at lx
  simp[t1,t2,t15,t16,t17,hd,ia,lx,c1,w1]
  exact hk hil _ _ ⟨by simp[t1],by simp[t2],by simp[t15],by simp[t16],by simp,c2,c3⟩
 obtain rfl:i=4:=by omega
 have t17':Tm.get 17 t=iv 4:=t17
 have lz:loads m' ⟨m.n,0,none⟩ 9=some (qZ sN):=(st.get 2 rfl).2.2.loads (o:=0) (n:=9) (by simp[qZ])
 obtain⟨m9,d1,st9,d2,d3⟩:=st.storeN 1 (B:=m0.n) rfl (o:=0) (n:=9) (l':=qZ sN) (by omega) rfl (by simp) g.ok
 have d4:=(st9.get 1 rfl).2.2.loads (o:=0) (n:=9) (s:=none) (by simp[qZ,over])
 simp[t1,t2,t16,t17',qd,lz,d1]
 refine kH (a:=⟨m0.n,0,none⟩) (by simp[t2]) d4 st9.mc.ext ⟨sN,rfl,g.kp (D:=[m0.n]) (Kp.put d2 d3 (by simp)) (λF hF B hB hc=>?_),λF hF B hB=>?_,e1,e2,e3⟩
 .have:=g2 F hF B hB;simp at hc;omega
 .have:=g2 F hF B hB;omega
end Go.Sx
namespace Go.Sx
open Go.Dx Go.Proofs
set_option maxRecDepth 10000
theorem dT {m:M}{P:Nat}{s:Mch}(h:MAt m P s):loads m ⟨P,78,none⟩ 9=some (qZ s):=by
 rw[h.arr.loads (by rw[kA];omega)]
 have:((qX s).drop 78).take 9=qZ s:=by kernel_rfl
 rw[this]
theorem mc_ok {m:M}{P:Nat}{s:Mch}{g:Gh}{S:PM}(h:Hp m P s g S):∀v∈qX s,okC v=true:=by
 intro v hv
 have hl:∀F,F<6->okC (lst s F)=true:=λF hF=>Grown.okC (h.ls F hF)
 have hh:okC s.half=true:=by
  have:=h.half
  cases hS:S.half with
  | none=>rw[hS]at this;have e:s.half=.pointer none:=this;rw[e];rfl
  | some x=>rw[hS]at this;obtain⟨H,_,e,_⟩:=this;rw[e];rfl
 unfold qX at hv
 simp only[qh1,List.mem_map,List.mem_range]at hv
 rcases hv with ((hv | ⟨k,_,rfl⟩) | ⟨k,hk,rfl⟩) | hv
 .simp only[List.mem_cons,List.not_mem_nil,or_false]at hv
  rcases hv with rfl | rfl
  .exact h.code.okV
  .rfl
 .rfl
 .exact (h.t k hk).ok
 .unfold qbc at hv
  simp only[List.mem_cons,List.not_mem_nil,or_false]at hv
  rcases hv with rfl | rfl | rfl | rfl | rfl | rfl | rfl | rfl | rfl | rfl | rfl | rfl | rfl | rfl | rfl | rfl | rfl | rfl | rfl | rfl | rfl | rfl<;>first | rfl | exact h.ft.ok | exact h.way.ok | exact hh | exact hl 0 (by omega) | exact hl 1 (by omega) | exact hl 2 (by omega) | exact hl 3 (by omega) | exact hl 4 (by omega) | exact hl 5 (by omega)
def mcL (s q:Mch):Mch:={ s with ev:=q.ev,rmw:=q.rmw,addr:=q.addr,data:=q.data,ctrl:=q.ctrl,outs:=q.outs }
theorem QI (s q:Mch)(F:Nat):lst (mcL s q) F=lst q F:=by unfold lst mcL;split<;>rfl
def z88:List Value:=[zS,zI,zU,zU,zU,zU,zU,zU,zU,zU,zU,zU,zU,zU,zU,zU,zU,zU,zU,zU,zU,zU,zU,zU,zU,zU,zU,zU,zU,zU,zU,zU,zU,zU,zS,zS,zS,zS,zS,zS,zS,zS,zS,zS,zS,zS,zS,zS,zS,zS,zS,zS,zS,zS,zS,zS,zS,zS,zS,zS,zS,zS,zS,zS,zS,zS,.bool false,.bool false,.bool false,.bool false,zS,zS,.bool false,zI,zI,.pointer none,zI,zI,zS,zS,zS,zS,zS,zS,zI,zI,zI,zI]
theorem ML.same {m:M}{P:Nat}{s:Mch}{g:Gh}{S:PM}(h:ML m P s g S):ML m P s g S:=h
theorem qdj (n:Nat){m:M}{P:Nat}{s:Mch}{g:Gh}{S:PM}(h:ML m P s g S)(hz:Sz S) :
  Dx.Call (ex Tryz.prog (n+3)) 11 [mP P] m λv' m'=>v'=mP m.n/\∃q,ML m' m.n (mcL s q) g S/\Kh (m.n+1) q:=by
 refine qj da2_ok (by simp) ?_
 have lP:loads m ⟨P,0,none⟩ 88=some (qX s):=by
  rw[h.mat.arr.loads (by rw[kA];omega),List.drop_zero,List.take_of_length_le (by rw[kA];omega)]
 have st1:=(St.nil h.base (Ext.refl m)).row z88
 obtain⟨m1,s1,st2,s2,s3⟩:=st1.fill 0 rfl (n:=88) (l':=qX s) rfl (kA s) (mc_ok h.hp)
 have s1':qB 88 (.pointer (some ⟨m.n,0,none⟩)) (.agg ⟨qX s⟩) (Dx.newRow m [zS,zI,zU,zU,zU,zU,zU,zU,zU,zU,zU,zU,zU,zU,zU,zU,zU,zU,zU,zU,zU,zU,zU,zU,zU,zU,zU,zU,zU,zU,zU,zU,zU,zU,zS,zS,zS,zS,zS,zS,zS,zS,zS,zS,zS,zS,zS,zS,zS,zS,zS,zS,zS,zS,zS,zS,zS,zS,zS,zS,zS,zS,zS,zS,zS,zS,.bool false,.bool false,.bool false,.bool false,zS,zS,.bool false,zI,zI,.pointer none,zI,zI,zS,zS,zS,zS,zS,zS,zI,zI,zI,zI])=some (undef,m1):=s1
 have E1:Ext m m1:=st2.ext
 have h1:MAt m1 P s:=h.mat.ext E1
 have lr:=dT h1
 obtain⟨v2,m2,a1,a2,q,rfl,a3,a4,e1,e2,e3⟩:=qd3 n st2.sees.base (h.hp.rl.ext E1) hz
 have st3:=st2.step a2
 obtain⟨m3,b1,st4,b2,b3⟩:=st3.fillAt 0 (b:=m.n) rfl (n:=9) (o:=78) (l':=qZ q) rfl (by rw[kA];omega) a3.ok
 have hov:over (qX s) 78 (qZ q)=qX (mcL s q):=by
  have k:over (qX s) 78 (qZ q)=qX { mcL s q with st:=q.st,lc:=q.lc,us:=q.us }:=by kernel_rfl
  rw[k,e1,e2,e3];rfl
 rw[hov]at st4
 have hlt:m.n<m1.n:=(st2.get 0 rfl).2.1
 have E4:Ext m m3:=st4.ext
 have nw:Kh (m.n+1) q:=λF hF B hB=>by have:=a4 F hF B hB;omega
 have rl:RL m3 q S:=a3.kp (D:=[m.n]) (Kp.put b2 b3 (by simp)) λF hF B hB hc=>by
  have:=nw F hF B hB;simp at hc;omega
 have hpe:=h.hp.ext E4
 have she:∀B,Sh (mcL s q) g B ↔ Sh s g B:=λB=>Iff.rfl
 have lge:∀B,Lb (mcL s q) B->m.n<B:=λB ⟨F,hF,hB⟩=>by rw[QI]at hB;exact nw F hF B hB
 have hml:ML m3 m.n (mcL s q) g S :=
  ⟨st4.sees.base,⟨(st4.get 0 rfl).2.2,(st4.get 0 rfl).2.1⟩,⟨hpe.code,hpe.t,hpe.ft,hpe.way,hpe.half,λF hF=>by rw[QI];exact rl.ls F hF,λF G hF hG hne B hB=>by rw[QI]at hB ⊢;exact rl.dis F G hF hG hne B hB,
   λF hF hc=>Nat.lt_irrefl _ (lge _ ⟨F,hF,hc⟩),λhc=>Nat.lt_irrefl _ (h.hp.sn _ ((she _).1 hc)),λB hB hL=>by have:=lge B hL;have:=h.hp.sn B ((she _).1 hB);omega,λB hB=>hpe.sn B hB⟩,h.sc⟩
 simp[lP,qd,s1',lr,a1,b1]
 exact qx E4 ⟨by simp,q,hml,nw⟩
def jC (S:PM):PM:={ vw S with sc:={ S.sc with st:=(stF (wu S).2).1,lc:=(stF (wu S).2).2 } }
theorem Run_m (n:Nat){m:M}{P:Nat}{s:Mch}{g:Gh}{S:PM}(h:ML m P s g S)(hw:WF S)(hz:Sz S) :
  Dx.Call (ex Tryz.prog (n+33)) 14 [mP P] m λv' m'=>∃q,v'=.agg ⟨qZ q⟩/\RL m' q (jC S)/\Kh m.n q/\q.st=(jC S).sc.st/\q.lc=(jC S).sc.lc/\q.us=S.sc.us:=by
 refine qj da5_ok (by simp) ?_
 have st1:=(Ow.nil h.base).row z9
 obtain⟨m0,hm0⟩:=qh2 (Dx.newRow m z9)
 have hm0':Dx.newRow m [zS,zS,zS,zS,zS,zS,zI,zI,zI]=m0:=hm0.symm
 rw[<-hm0]at st1
 have E0:Ext m m0:=st1.mc.ext
 have lr:=dT (h.mat.ext E0)
 have hzp:Szp S:=⟨hz,by have:=hw.rm.rmw;omega,by have:=hw.rm.addr;omega,by have:=hw.rm.data;omega,by have:=hw.rm.ctrl;omega⟩
 obtain⟨v2,m2,a1,a2,q,rfl,a3,a4,e1,e2,e3⟩:=XL (n+2) st1.mb (h.hp.rl.ext E0) hzp
 have st2:=(st1.step a2).row z9
 obtain⟨m3,b1,st3,b2,b3⟩:=st2.storeN 0 rfl (o:=0) (n:=9) (l':=qZ q) (by omega) rfl (by simp) a3.ok
 have hov:over z9 0 (qZ q)=qZ q:=rfl
 rw[hov]at st3
 have st3:Ow m m3 [] [(m2.n,qZ q),(m.n,z9)]:=st3
 have b1':qB 9 (.pointer (some ⟨m2.n,0,none⟩)) (.agg ⟨qZ q⟩) (Dx.newRow m2 [zS,zS,zS,zS,zS,zS,zI,zI,zI])=some (undef,m3):=b1
 have nq:Kh m0.n q:=a4
 have ltq:∀F,F<6->∀B,blk (lst q F)=some B->B<m2.n:=λF hF B hB=>(a3.ls F hF).lt B hB
 have r3:RL m3 q (vw S):=(a3.ext (Ext.row m2 z9)).kp (D:=[m2.n]) (Kp.put b2 b3 (by simp)) λF hF B hB hc=>by have:=ltq F hF B hB;simp at hc;omega
 have h3:ML m3 P s g S:=⟨st3.mb,h.mat.ext st3.mc.ext,h.hp.ext st3.mc.ext,h.sc⟩
 obtain⟨v4,m4,c1,c2,rfl,q4,c3,c4⟩:=qdj (n+29) h3 hz
 have st4:=st3.step c2
 obtain⟨v5,m5,s5,g5,d1,d2,rfl⟩:=XZ n c3 hw
 have hge:∀B∈own m3.n (mcL s q4),m3.n<=B:=λB hB=>by
  rcases wR.1 hB with rfl | ⟨F,hF,e⟩
  .exact qgg _
  .rw[QI]at e;have:=c4 F hF B e;omega
 have hm3:m.n<=m3.n:=st3.mc.n
 have b2n:m3.n=m2.n+1:=by rw[b2,qQ]
 have st5:Ow m m5 [] [(m2.n,qZ q),(m.n,z9)]:=st4.wr d2.mc (λB hB=>.inr (by have:=hge B hB;omega)) (λp hp hc=>by
  have:=hge _ hc
  have h0:=E0.n
  have h1:=a2.n
  simp only[List.mem_cons,List.not_mem_nil,or_false]at hp
  rcases hp with rfl | rfl
  .simp only at this;omega
  .simp only at this;omega)
 have r5:RL m5 q (vw S):=(r3.ext c2).kp (D:=own m3.n (mcL s q4)) ⟨d2.mc.n,d2.mc.obj⟩ λF hF B hB hc=>by
  have:=hge B hc;have:=ltq F hF B hB;omega
 obtain⟨v6,m6,f1,f2,rfl⟩:=qfh (n+31) st5.mb (wu S).2
 have st6:=st5.step f2
 obtain⟨x,hx⟩:=qh2 (stF (wu S).2)
 rw[<-hx]at f1
 obtain⟨m7,k1,st7,k2,k3⟩:=st6.store 0 rfl (o:=6) (v:=iv x.1) (by simp[qZ]) rfl
 obtain⟨m8,j1,st8,j2,j3⟩:=st7.store 0 rfl (o:=7) (v:=iv x.2) (by simp[qZ]) rfl
 obtain⟨Q,hQ⟩:∃Q:Mch,Q={ q with st:=x.1,lc:=x.2 }:=⟨_,rfl⟩
 have st8:Ow m m8 [] [(m2.n,qZ Q),(m.n,z9)]:=by rw[hQ];exact st8
 have r8:RL m8 q (vw S):=(r5.ext f2).kp (D:=[m2.n]) ((Kp.put k2 k3 (by simp)).trans (Kp.put j2 j3 (by simp))) λF hF B hB hc=>by have:=ltq F hF B hB;simp at hc;omega
 have lQ:∀F,lst Q F=lst q F:=λF=>by rw[hQ];unfold lst;split<;>rfl
 have rQ:RL m8 Q (jC S):=⟨λF hF=>by rw[lQ];exact r8.ls F hF,λF G hF hG hne B hB=>by rw[lQ]at hB ⊢;exact r8.dis F G hF hG hne B hB⟩
 have l9:loads m8 ⟨m2.n,0,none⟩ 9=some (qZ Q):=(st8.get 0 rfl).2.2.loads (o:=0) (n:=9) (by simp[qZ])
 obtain⟨m9,y1,st9,y2,y3⟩:=st8.storeN 1 (B:=m.n) rfl (o:=0) (n:=9) (l':=qZ Q) (by omega) rfl (by simp) rQ.ok
 have hov2:over z9 0 (qZ Q)=qZ Q:=rfl
 rw[hov2]at st9
 have l9':=(st9.get 1 rfl).2.2.loads (o:=0) (n:=9) (s:=none) (by simp[qZ])
 have r9:RL m9 Q (jC S):=rQ.kp (D:=[m.n]) (Kp.put y2 y3 (by simp)) λF hF B hB hc=>by
  rw[lQ]at hB
  have:=nq F hF B hB
  have h0:m0.n=m.n+1:=by rw[hm0,qQ]
  simp at hc;omega
 simp[hm0',qd,lr,a1,b1',c1,d1,f1,k1,j1,l9,y1]
 refine kH (a:=⟨m.n,0,none⟩) (by simp) l9' st9.mc.ext ⟨Q,rfl,r9,λF hF B hB=>?_,by rw[hQ,hx];rfl,by rw[hQ,hx];rfl,?_⟩
 .rw[lQ]at hB
  have:=nq F hF B hB
  have:=E0.n
  omega
 .rw[hQ]
  show q.us=_
  rw[e3,<-h.sc];rfl
theorem Reg_m (n:Nat){m:M}{P:Nat}{s:Mch}{g:Gh}{S:PM}(h:ML m P s g S){k:Nat}(hk:k<=30):CallV (ex Tryz.prog (n+1)) 12 [mP P,iv k] m (uv (S.sc.v k)):=by
 refine qj da3_ok (by simp) ?_
 have ia:=jB P 2 (k:=k) (by omega)
 have lv:load1 m ⟨P,2+k,none⟩=some (uv (S.sc.v k)):=by rw[h.mat.l1,yX s (by omega),<-h.sc];rfl
 have d1:((k:Int)<0)=False:=eq_false (by omega)
 have d2:((30:Int)<(k:Int))=False:=eq_false (by omega)
 have d3:(30<k)=False:=eq_false (by omega)
 simp[d1,d2,d3,ia,lv]
 exact qx (Ext.refl m) (by simp)
end Go.Sx
namespace Go.Sx
open Go.Dx Go.Proofs
set_option maxRecDepth 10000
def fin (f:Fld)(lo hi:Int):Bool:=decide (f.step=0)||(decide (lo<=f.lo)&&decide (f.hi<=hi))
def insXb (op:Nat):Bool :=
 fin (qE op 0) 0 31&&fin (qE op 1) 0 31&&fin (qE op 2) 0 31&&fin (qE op 3) (-33554432) 33554431&&fin (qE op 4) 0 13 &&
 (!(decide (op=33))||fin (qE op 3) 0 31)&&(!(decide (op=1)||decide (op=2))||(fin (qE op 3) 0 65535&&fin (qE op 4) 0 3)) &&
 (!(decide (12<=op)&&decide (op<=15))||fin (qE op 3) 0 4095)&&(!(decide (op=14)||decide (op=15))||fin (qE op 3) 0 63)
theorem GA:(List.range 48).all insXb=true:=by decide +kernel
theorem vC {f:Fld}{lo hi v:Int}(h:fin f lo hi=true)(hi':inF f v=true)(h0:lo<=0/\0<=hi):lo<=v/\v<=hi:=by
 unfold inF at hi'
 unfold fin at h
 by_cases e:f.step=0
 .rw[if_pos e]at hi'
  have:=of_decide_eq_true hi'
  omega
 .rw[if_neg e]at hi'
  simp[e]at h hi'
  omega
theorem Gz {op:Nat}(h1:1<=op)(h2:op<=47){x:Ins}(hx:x.op=(op:Int))(hf:yH (qE op) x=true):InsX x:=by
 have hb:=List.all_eq_true.1 GA op (by simp;omega)
 have hfi:∀j,j<5->inF (qE op j) (gM x j)=true:=λj hj=>by
  unfold yH vE at hf
  rw[qgj]at hf
  exact List.all_eq_true.1 hf.1 j (by simpa using hj)
 unfold insXb at hb
 simp only[qgj]at hb
 obtain⟨⟨⟨⟨⟨⟨⟨⟨b0,b1⟩,b2⟩,b3⟩,b4⟩,b5⟩,b6⟩,b7⟩,b8⟩:=hb
 have f0:=vC b0 (hfi 0 (by omega)) (by omega)
 have f1:=vC b1 (hfi 1 (by omega)) (by omega)
 have f2:=vC b2 (hfi 2 (by omega)) (by omega)
 have f3:=vC b3 (hfi 3 (by omega)) (by omega)
 have f4:=vC b4 (hfi 4 (by omega)) (by omega)
 change 0<=x.rd/\x.rd<=31 at f0
 change 0<=x.rn/\x.rn<=31 at f1
 change 0<=x.rm/\x.rm<=31 at f2
 change -33554432<=x.imm/\x.imm<=33554431 at f3
 change 0<=x.cond/\x.cond<=13 at f4
 refine⟨⟨by omega,⟨x.rd.toNat,by omega,by omega⟩,⟨x.rn.toNat,by omega,by omega⟩,⟨x.rm.toNat,by omega,by omega⟩⟩,λh=>?_,⟨x.cond.toNat,by omega,by omega⟩,λh=>?_,λh=>?_,by omega⟩
 .have e:op=33:=by omega
  simp[e]at b5
  rw[e]at hfi
  have:=vC b5 (hfi 3 (by omega)) (by omega)
  change 0<=x.imm/\x.imm<=31 at this
  exact⟨x.imm.toNat,by omega,by omega⟩
 .have e:op=1\/op=2:=by omega
  have b6:(fin (qE op 3) 0 65535&&fin (qE op 4) 0 3)=true:=by
   rcases e with e | e<;>(subst e;simpa using b6)
  rw[qgj]at b6
  have k1:=vC b6.1 (hfi 3 (by omega)) (by omega)
  have k2:=vC b6.2 (hfi 4 (by omega)) (by omega)
  change 0<=x.imm/\x.imm<=65535 at k1
  change 0<=x.cond/\x.cond<=3 at k2
  exact⟨⟨x.imm.toNat,by omega,by omega⟩,k2.2⟩
 .have e:12<=op/\op<=15:=by omega
  have b7:fin (qE op 3) 0 4095=true:=by simpa [e.1,e.2]using b7
  have k1:=vC b7 (hfi 3 (by omega)) (by omega)
  change 0<=x.imm/\x.imm<=4095 at k1
  refine⟨x.imm.toNat,by omega,by omega,λh14=>?_⟩
  have e2:op=14\/op=15:=by omega
  have b8:fin (qE op 3) 0 63=true:=by
   rcases e2 with e | e<;>(subst e;simpa using b8)
  have k2:=vC b8 (hfi 3 (by omega)) (by omega)
  change 0<=x.imm/\x.imm<=63 at k2
  omega
theorem KN (w:Nat):∀(f op:Nat),1<=op->op+f=48->(decFrom w f op).2=0->InsX (decFrom w f op).1
 | 0,op,_,_,h=>by cases h
 | f+1,op,h1,h2,h=>by
  unfold decFrom at h ⊢
  cases hd:yO op w with
  | none=>rw[hd]at h;simp only at h ⊢;exact KN w f (op+1) (by omega) (by omega) h
  | some i =>
   simp only
   unfold yO at hd
   split at hd
   .rename_i hc
    rw[qgj]at hc
    cases hd
    exact Gz h1 (by omega) rfl hc.1
   .cases hd
theorem JZ {w:Nat}(h:(je w).2=0):InsX (je w).1:=by
 have ho:∀op:Nat,1<=op->op<=47->op≠1/\op≠2/\¬(12<=op/\op<=15)->InsX (Gy op):=λop h1 h2 h3 =>
  ⟨⟨by show 1<=(op:Int)/\(op:Int)<=47;omega,⟨0,rfl,by omega⟩,⟨0,rfl,by omega⟩,⟨0,rfl,by omega⟩⟩,λ_=>⟨0,rfl,by omega⟩,⟨0,rfl,by omega⟩,λh=>by change (op:Int)=1\/(op:Int)=2 at h;omega,λh=>by change 12<=(op:Int)/\(op:Int)<=15 at h;omega,by show (-67108864:Int)<=0/\(0:Int)<=67108864;decide⟩
 unfold je at h ⊢
 cases hc:(if Kn w then xg w else none) with
 | none=>rw[hc]at h;exact KN w 47 1 (by omega) (by omega) h
 | some op =>
  simp only
  split at hc
  .unfold xg at hc
   split at hc
   .cases hc;exact ho 30 (by omega) (by omega) (by omega)
   split at hc
   .cases hc;exact ho 31 (by omega) (by omega) (by omega)
   split at hc
   .cases hc;exact ho 32 (by omega) (by omega) (by omega)
   split at hc
   .cases hc;exact ho 34 (by omega) (by omega) (by omega)
   .cases hc
  .cases hc
theorem qa4 (w:Nat):(je w).2=0\/(je w).2=7:=by
 have h:∀f op,(decFrom w f op).2=0\/(decFrom w f op).2=7:=λf=>by
  induction f with
  | zero=>intro op;exact .inr rfl
  | succ f ih =>
   intro op
   unfold decFrom
   cases yO op w with
   | none=>exact ih _
   | some i=>exact .inl rfl
 unfold je
 cases (if Kn w then xg w else none) with
 | none=>exact h _ _
 | some op=>exact .inl rfl
end Go.Sx
namespace Go.Sx
open Go.Dx Go.Proofs
set_option maxRecDepth 10000
def vM (x:Nat):List Value:=[wv x]
abbrev fn41:Value:=.func (.func 41) #[] #[]
def okW (ws:List Nat):Bool:=ws.all λw=>decide ((je w).2=0)
def xD (ws:List Nat):Int:=if 16384<ws.length then 2 else if okW ws then 0 else 7
def vd (ws:List Nat):List Ins:=ws.map λw=>(je w).1
def EachQ (ws:List Nat)(m:M)(v:Value)(m':M):Prop:=(xD ws=0/\∃lv,v=.tuple #[lv,iv 0,iv 0]/\Grown m m' lv 6 qv (vd ws))\/(xD ws≠0/\∃k,v=.tuple #[kW,iv k,iv (xD ws)])
theorem each_m (n:Nat){m:M}(hm:m.base<=m.n){wl:Value}{ws:List Nat}(h:Rd m wl 1 vM ws) :
  Dx.Call (ex Tryz.prog (n+4)) 40 [wl,fn41] m (EachQ ws m):=by
 refine qj dc7_ok (by simp) ?_
 have hlen:=h.len
 by_cases hl:16384<ws.length
 .have hd0:((16384:Int)<ws.length)=True:=eq_true (by omega)
  have hd1:(16384<ws.length)=True:=eq_true hl
  have he:xD ws=2:=if_pos hl
  simp[hlen,hd0,hd1]
  exact XE (Ext.refl m) (.inr ⟨by rw[he];decide,16384,by rw[he];simp⟩)
 have hd0:((16384:Int)<ws.length)=False:=eq_false (by omega)
 simp[hlen,hd0]
 refine qF (c:=BU) rfl (Ret m _) (λi t m'=>Tm.get 1 t=fn41/\Tm.get 14 t=wl/\Tm.get 15 t=iv ws.length/\Tm.get 16 t=iv i/\Ext m m'/\okW (ws.take i)=true/\Grown m m' (Tm.get 4 t) 6 qv (vd (ws.take i))) ws.length (by omega)
  ⟨by simp,by simp,by simp,by simp,Ext.refl m,by simp[okW],by simp[vd];exact .inl ⟨rfl,rfl⟩⟩ (λi t m' k hi hI hk=>?_)
 obtain⟨t1,t14,t15,t16,hE,hok,hg⟩:=hI
 have hS:Sees m m':=(Sees.refl hm).ext hE
 by_cases hil:i<ws.length
 .obtain⟨w,hw⟩:∃w,ws[i]?=some w:=⟨_,qgd hil⟩
  have hd:=dlt hil
  have w1:=qY (i:=i) (by omega)
  have ⟨a1,a2⟩:=Rd.at1 (g:=λ(x:Nat)=>wv x) (h.sees hS) hw
  have a2':=a2 m' hS.self
  obtain⟨v2,m2,b1,b2,rfl⟩:=Jt n w m' hS.base
  have S2:=hS.ext b2
  obtain⟨m3,c1,c2,c3,c4,c5⟩:=vu (m:=m2) S2.base (zs:=z6i) (l:=qv (je w).1) (v:=.agg ⟨qv (je w).1⟩) (n:=6) rfl rfl rfl (jV _)
  have c1':qB 6 (.pointer (some ⟨m2.n,0,none⟩)) (.agg ⟨qv (je w).1⟩) (Dx.newRow m2 [zI,zI,zI,zI,zI,zI])=some (undef,m3):=c1
  have E3:Ext m m3:=(hE.trans b2).trans c4
  rcases qa4 w with hok' | hok'
  .rw[hok']at b1
   have bs:jR 6 1 (rep 1 [zI,zI,zI,zI,zI,zI]) [(0,6,.agg ⟨qv (je w).1⟩)] m3=some (.slice (some ⟨m3.n,0,some 13⟩) 1 1,Dx.newRow m3 (qv (je w).1)):=rfl
   have l6:=c3 none
   have hX:loads (Dx.newRow m3 (qv (je w).1)) ⟨m3.n,0,some 13⟩ 6=some (qv (je w).1):=by
    have:=(Arr.row m3 (qv (je w).1)).loads (o:=0) (n:=6) (s:=some 13) (by simp[qv])
    rw[this];simp[qv]
   have hg3:Grown m (Dx.newRow m3 (qv (je w).1)) (Tm.get 4 t) 6 qv (vd (ws.take i)):=Grown.ext hg ((b2.trans c4).trans (Ext.row _ _))
   have hti:(ws.take i).length<=16384:=by rw[List.length_take];omega
   obtain⟨v',m4,d1,d2,d3,d4,d5⟩:=hg3.append (E3.trans (Ext.row _ _)) hm (by omega) (λ_=>rfl) jV (x:=(je w).1) hX (bytes:=48) (by unfold vd;rw[List.length_map];unfold most;omega) (by unfold vd;rw[List.length_map];omega)
   simp[t1,t14,t15,t16,hd,a1,a2',b1,c1',qd,l6,bs,d1,w1]
   have e:vd (ws.take (i+1))=vd (ws.take i)++[(je w).1]:=by
    unfold vd;rw[List.take_add_one,hw];simp
   have e2:okW (ws.take (i+1))=true:=by
    unfold okW at hok ⊢;rw[List.take_add_one,hw];simp[hok'];simpa using hok
   refine hk hil _ _ ⟨by simp[t1],by simp[t14],by simp[t15],by simp,d2,e2,?_⟩
   rw[e]
   simpa using d3
  .rw[hok']at b1
   have he:xD ws=7:=by
    unfold xD
    rw[if_neg hl,if_neg]
    unfold okW
    intro hc
    have:=List.all_eq_true.1 hc w (qge hw)
    rw[hok']at this
    simp at this
   simp[t1,t14,t15,t16,hd,a1,a2',b1,c1']
   exact XE E3 (.inr ⟨by rw[he];decide,i,by rw[he];simp⟩)
 obtain rfl:i=ws.length:=by omega
 rw[List.take_length]at hg hok
 have he:xD ws=0:=by unfold xD;rw[if_neg hl,if_pos hok]
 simp[t15,t16]
 exact XE hE (.inl ⟨he,Tm.get 4 t,by simp,hg⟩)
theorem List_m (n:Nat){m:M}(hm:m.base<=m.n){wl:Value}{ws:List Nat}(h:Rd m wl 1 vM ws):Dx.Call (ex Tryz.prog (n+5)) 24 [wl] m (EachQ ws m):=by
 refine qj db2_ok (by simp) ?_
 obtain⟨v,m1,a1,a2,a3⟩:=each_m n hm h
 rcases a3 with ⟨he,lv,rfl,a3⟩ | ⟨he,k,rfl⟩
 .simp[a1]
  exact XE a2 (.inl ⟨he,lv,by simp,a3⟩)
 .simp[a1]
  exact XE a2 (.inr ⟨he,k,by simp⟩)
def xM (lv:Value):Mch:=⟨lv,0,λ_=>0,λ_=>kW,false,false,false,false,kW,kW,false,0,0,.pointer none,0,0,kW,kW,kW,kW,kW,kW,0,0,0,-1⟩
def newS (ws:List Nat):PM:=⟨xM kW,vd ws,λ_=>[],[],[],none,[],[],[],[],[],[]⟩
def gh0:Gh:=⟨none,kW,kW⟩
theorem qeb {ws:List Nat}(h:xD ws=0):WF (newS ws):=by
 have hl:ws.length<=16384/\okW ws=true:=by
  unfold xD at h
  split at h
  .cases h
  .split at h
   .rename_i h1 h2;exact⟨by omega,h2⟩
   .cases h
 refine⟨λi hi=>?_,by show (vd ws).length<=_;unfold vd;rw[List.length_map];exact hl.1,λ_=>by show 0<W64;decide,λ_=>SetOK.nil _,SetOK.nil _,SetOK.nil _,gm rfl,Nat.zero_le _,qgg _,qgg _,qgg _,qgg _,by show (0:Int)<=0/\(0:Int)<=100000;decide,⟨0,rfl,by omega⟩,⟨0,rfl,qgg _⟩⟩
 have hi:i∈ws.map λw=>(je w).1:=hi
 obtain⟨w,hw,rfl⟩:=List.mem_map.1 hi
 exact JZ (by simpa using List.all_eq_true.1 hl.2 w hw)
theorem ZP {lv:Value}{B:Nat}:¬Lb (xM lv) B:=λ⟨F,hF,h⟩=>by
 rcases six hF with rfl | rfl | rfl | rfl | rfl | rfl<;>cases h
theorem VI {lv:Value}{B:Nat}(h:Sh (xM lv) gh0 B):blk lv=some B:=by
 rcases h with h | ⟨k,_,h⟩ | h | h | h | h | h
 .exact h
 .cases h
 .cases h
 .cases h
 .cases h
 .cases h
 .cases h
def NewQ (ws:List Nat)(m:M)(v:Value)(m':M):Prop:=(xD ws=0/\∃P lv,v=.tuple #[mP P,iv 0]/\m.n<=P/\ML m' P (xM lv) gh0 (newS ws)/\∀B,blk lv=some B->m.n<=B)\/(xD ws≠0/\v=.tuple #[.pointer none,iv (xD ws)])
theorem New_m (n:Nat){m:M}(hm:m.base<=m.n){wl:Value}{ws:List Nat}(h:Rd m wl 1 vM ws):Dx.Call (ex Tryz.prog (n+6)) 9 [wl] m (NewQ ws m):=by
 refine qj da1_ok (by simp) ?_
 obtain⟨v,m1,a1,a2,a3⟩:=List_m n hm h
 rcases a3 with ⟨he,lv,rfl,a3⟩ | ⟨he,k,rfl⟩
 .have hlv0:∃a k,lv=.slice a k k:=by
   rcases a3 with ⟨_,h⟩ | ⟨B',_,_,_,h,_⟩
   .exact⟨_,_,h⟩
   .exact⟨_,_,h⟩
  have bu:wN [zS,zI,zU,zU,zU,zU,zU,zU,zU,zU,zU,zU,zU,zU,zU,zU,zU,zU,zU,zU,zU,zU,zU,zU,zU,zU,zU,zU,zU,zU,zU,zU,zU,zU,zS,zS,zS,zS,zS,zS,zS,zS,zS,zS,zS,zS,zS,zS,zS,zS,zS,zS,zS,zS,zS,zS,zS,zS,zS,zS,zS,zS,zS,zS,zS,zS,.bool false,.bool false,.bool false,.bool false,zS,zS,.bool false,zI,zI,.pointer none,zI,zI,zS,zS,zS,zS,zS,zS,zI,zI,zI,zI] [(0,1,lv),(87,1,.int .i64 (-1))]=some (.agg ⟨qX (xM lv)⟩):=by
   obtain⟨a,k,hlv⟩:=hlv0
   rw[hlv]
   kernel_rfl
  obtain⟨m2,b1,b2,b3,b4,b5⟩:=fG (m:=m1) (l:=qX (xM lv)) (by intro hc;have:=congrArg List.length hc;rw[kA]at this;simp at this)
  have hlt:∀B,blk lv=some B->m.n<=B/\B<m1.n:=λB hB=>by
   rcases a3 with ⟨_,h⟩ | ⟨B',h1,h2,_,h,_⟩
   .rw[h]at hB;cases hB
   .rw[h]at hB;cases hB;exact⟨h1,h2⟩
  have hm1:m1.base<=m1.n:=((Sees.refl hm).ext a2).base
  have hm2:m2.base<=m2.n:=by rw[b2.base];exact qgp hm1 b2.n
  have hrd:Rd m2 lv 6 qv (vd ws):=Grown.rd (m0:=m) (λ_=>rfl) (Grown.ext a3 b2)
  have hml:ML m2 m1.n (xM lv) gh0 (newS ws) :=
   ⟨hm2,⟨b5,by omega⟩,⟨hrd,λ_ _=>RS.none _,RS.none _,RS.none _,rfl,λF hF=>by rcases six hF with rfl | rfl | rfl | rfl | rfl | rfl<;>exact .inl ⟨rfl,rfl⟩,λF G hF hG hne B hB=>absurd ⟨F,hF,hB⟩ ZP,λF hF hc=>ZP ⟨F,hF,hc⟩,λhc=>by have:=(hlt _ (VI hc)).2;omega,λB _=>ZP,λB hB=>by have:=(hlt _ (VI hB)).2;omega⟩,rfl⟩
  simp[a1,bu,b1]
  exact jc (a2.trans b2) (.inl ⟨he,m1.n,lv,by simp,a2.n,hml,λB hB=>(hlt B hB).1⟩)
 .have hne:(xD ws=0)=False:=eq_false he
  simp[a1,hne]
  exact jc a2 (.inr ⟨he,by simp⟩)
end Go.Sx
