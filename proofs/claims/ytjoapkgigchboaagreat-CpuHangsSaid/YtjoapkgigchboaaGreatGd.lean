/- Contracts. -/
import Derived.Test.YtjoapkgigchboaaGreatGc
import Derived.Test.YtjoapkgigchboaaGreatGb3
set_option linter.unusedVariables false
set_option linter.unusedSimpArgs false
set_option linter.defProp false
set_option maxHeartbeats 1000000
namespace Go.Sx
section
variable {α:Type}
theorem zA {l:List α}{i j:Nat}{x y:α}(hx:l[i]?=some x)(hy:l[j]?=some y)(k:Nat):((l.set i y).set j x)[k]?=if k=j then some x else if k=i then some y else l[k]?:=by
 have hi:=(qgf.1 hx).1
 have hj:=(qgf.1 hy).1
 rw[List.getElem?_set,List.getElem?_set]
 by_cases h1:k=j
 .subst h1;simp[hj]
 .rw[if_neg (Ne.symm h1),if_neg h1]
  by_cases h2:k=i
  .subst h2;simp[hi]
  .rw[if_neg (Ne.symm h2),if_neg h2]
structure PI (a b:Nat)(l l':List α):Prop where
 perm:l'.Perm l
 out:∀i,i<a\/b<=i->l'[i]?=l[i]?
theorem PI.refl {a b:Nat}{l:List α}:PI a b l l:=⟨.refl _,λ_ _=>rfl⟩
theorem PI.trans {a b:Nat}{l l' l'':List α}(h:PI a b l l')(k:PI a b l' l''):PI a b l l'':=⟨k.perm.trans h.perm,λi hi=>(k.out i hi).trans (h.out i hi)⟩
theorem PI.mono {a b a' b':Nat}{l l':List α}(h:PI a b l l')(ha:a'<=a)(hb:b<=b'):PI a' b' l l':=⟨h.perm,λi hi=>h.out i (by omega)⟩
theorem PI.len {a b:Nat}{l l':List α}(h:PI a b l l'):l'.length=l.length:=h.perm.length_eq
theorem PI.swp {a b i j:Nat}{l:List α}{x y:α}(hi:a<=i/\i<b)(hj:a<=j/\j<b)(hx:l[i]?=some x)(hy:l[j]?=some y):PI a b l ((l.set i y).set j x):=by
 obtain⟨hi',rfl⟩:=qgf.1 hx
 obtain⟨hj',rfl⟩:=qgf.1 hy
 refine⟨List.set_set_perm hi' hj',λk hk=>?_⟩
 rw[List.getElem?_set_ne (by omega),List.getElem?_set_ne (by omega)]
theorem Gs {l l':List α}{a:Nat}(h:∀i,i<a->l'[i]?=l[i]?):l'.take a=l.take a:=by
 refine List.ext_getElem? λi=>?_
 rw[List.getElem?_take,List.getElem?_take]
 split
 .exact h i (by assumption)
 .rfl
theorem qah {l l':List α}{b:Nat}(h:∀i,b<=i->l'[i]?=l[i]?):l'.drop b=l.drop b:=by
 refine List.ext_getElem? λi=>?_
 rw[List.getElem?_drop,List.getElem?_drop]
 exact h _ (by omega)
theorem PI.mem {a b:Nat}{l l':List α}(h:PI a b l l'){i:Nat}{x:α}(hi:a<=i/\i<b)(hx:l'[i]?=some x):∃j,a<=j/\j<b/\l[j]?=some x:=by
 have hab:a<=b:=by omega
 have e1:=Gs (l:=l) (l':=l') (a:=a) λk hk=>h.out k (.inl hk)
 have e2:=qah (l:=l) (l':=l') (b:=b) λk hk=>h.out k (.inr hk)
 have split3:∀q:List α,q=q.take a++((q.drop a).take (b-a)++q.drop b):=λq=>by
  have h1:(q.drop a).drop (b-a)=q.drop b:=by rw[List.drop_drop];congr 1;omega
  rw[<-h1,List.take_append_drop,List.take_append_drop]
 have hp:=h.perm
 rw[split3 l',split3 l,e1,e2]at hp
 have hm:=(List.perm_append_right_iff _).1 ((List.perm_append_left_iff _).1 hp)
 have hin:x∈(l'.drop a).take (b-a):=qge (i:=i-a) (by
  rw[List.getElem?_take,if_pos (by omega),List.getElem?_drop,show a+(i-a)=i by omega];exact hx)
 rw[hm.mem_iff]at hin
 obtain⟨j,hj⟩:=List.getElem?_of_mem hin
 rw[List.getElem?_take]at hj
 split at hj
 .rw[List.getElem?_drop]at hj
  exact⟨a+j,by omega,by omega,hj⟩
 .cases hj
structure TO (lt:α->α->Bool):Prop where
 irr:∀x,lt x x=false
 tr:∀x y z,lt y x=false->lt z y=false->lt z x=false
 asy:∀x y,lt x y=true->lt y x=false
variable {lt:α->α->Bool}
def Srt (lt:α->α->Bool)(a b:Nat)(l:List α):Prop:=∀p q x y,a<=p->p<q->q<b->l[p]?=some x->l[q]?=some y->lt y x=false
theorem Srt.of_len {a b:Nat}{l:List α}(h:b<=a+1):Srt lt a b l:=λp q x y h1 h2 h3=>by omega
def Lo (lt:α->α->Bool)(a b:Nat)(l:List α):Prop:=∀p q x y,p<a->a<=q->q<b->l[p]?=some x->l[q]?=some y->lt y x=false
theorem Lo.pi {a b:Nat}{l l':List α}(h:Lo lt a b l)(k:PI a b l l'):Lo lt a b l':=λp q x y h1 h2 h3 hx hy=>by
 obtain⟨j,j1,j2,hj⟩:=k.mem ⟨h2,h3⟩ hy
 exact h p j x y h1 j1 j2 (by rw[<-k.out p (.inl h1)];exact hx) hj
def InsO (lt:α->α->Bool)(a i j:Nat)(l:List α):Prop:=∀p q x y,a<=p->p<q->q<=i->q≠j->l[p]?=some x->l[q]?=some y->lt y x=false
theorem InsO.start {a i:Nat}{l:List α}(h:Srt lt a i l):InsO lt a i i l:=λp q x y h1 h2 h3 h4=>h p q x y h1 h2 (by omega)
theorem InsO.stop (T:TO lt){a i j:Nat}{l:List α}(h:InsO lt a i j l)(hj:a<=j)(hs:j=a\/∃u v,l[j-1]?=some u/\l[j]?=some v/\lt v u=false):Srt lt a (i+1) l:=by
 intro p q x y h1 h2 h3 hx hy
 by_cases e:q=j
 .subst e
  rcases hs with rfl | ⟨u,v,hu,hv,huv⟩
  .omega
  .rw[hy]at hv;cases hv
   by_cases e2:p=q-1
   .subst e2;rw[hx]at hu;cases hu;exact huv
   .exact T.tr x u y (h p (q-1) x u h1 (by omega) (by omega) (by omega) hx hu) huv
 .exact h p q x y h1 h2 (by omega) e hx hy
theorem InsO.step (T:TO lt){a i j:Nat}{l:List α}(h:InsO lt a i j l)(hj:a<j)(hi:j<=i){u v:α}(hu:l[j-1]?=some u)(hv:l[j]?=some v)(huv:lt v u=true):InsO lt a i (j-1) ((l.set j u).set (j-1) v):=by
 intro p q x y h1 h2 h3 h4 hx hy
 rw[zA hv hu]at hx hy
 rw[if_neg h4]at hy
 by_cases e:q=j
 .rw[if_pos e]at hy;cases hy
  rw[if_neg (by omega:p≠j)]at hx
  by_cases e2:p=j-1
  .rw[if_pos e2]at hx;cases hx;exact T.asy _ _ huv
  .rw[if_neg e2]at hx
   exact h p (j-1) x _ h1 (by omega) (by omega) (by omega) hx hu
 .rw[if_neg e]at hy
  by_cases e2:p=j-1
  .rw[if_pos e2]at hx;cases hx
   exact h j q _ y (by omega) (by omega) h3 e hv hy
  .rw[if_neg e2]at hx
   by_cases e3:p=j
   .rw[if_pos e3]at hx;cases hx
    exact h (j-1) q _ y (by omega) (by omega) h3 e hu hy
   .rw[if_neg e3]at hx
    exact h p q x y h1 h2 h3 e hx hy
def Heap (lt:α->α->Bool)(lo hi s:Nat)(l:List α):Prop:=∀k c x y,lo<=k->(c=2*k+1\/c=2*k+2)->c<hi->l[s+k]?=some x->l[s+c]?=some y->lt x y=false
structure Sift (lt:α->α->Bool)(lo hi s r:Nat)(l:List α):Prop where
 oth:∀k c x y,lo<=k->k≠r->(c=2*k+1\/c=2*k+2)->c<hi->l[s+k]?=some x->l[s+c]?=some y->lt x y=false
 up:∀g c x y,lo<=g->(r=2*g+1\/r=2*g+2)->(c=2*r+1\/c=2*r+2)->c<hi->l[s+g]?=some x->l[s+c]?=some y->lt x y=false
theorem Sift.start {lo hi s:Nat}{l:List α}(h:Heap lt (lo+1) hi s l):Sift lt lo hi s lo l :=
 ⟨λk c x y h1 h2 h3=>h k c x y (by omega) h3,λg c x y h1 h2=>by omega⟩
theorem Sift.leaf {lo hi s r:Nat}{l:List α}(h:Sift lt lo hi s r l)(hr:hi<=2*r+1):Heap lt lo hi s l:=λk c x y h1 h2 h3=>h.oth k c x y h1 (by omega) h2 h3
structure Big (lt:α->α->Bool)(hi s r c:Nat)(l:List α):Prop where
 chd:c=2*r+1\/c=2*r+2
 inb:c<hi
 big:∀d x y,(d=2*r+1\/d=2*r+2)->d<hi->l[s+c]?=some x->l[s+d]?=some y->lt x y=false
theorem Sift.stop (T:TO lt){lo hi s r c:Nat}{l:List α}(h:Sift lt lo hi s r l)(hb:Big lt hi s r c l){u v:α}(hu:l[s+r]?=some u)(hv:l[s+c]?=some v)(huv:lt u v=false):Heap lt lo hi s l:=by
 intro k d x y h1 h2 h3 hx hy
 by_cases e:k=r
 .subst e
  rw[hu]at hx;cases hx
  exact T.tr y v u (hb.big d v y h2 h3 hv hy) huv
 .exact h.oth k d x y h1 e h2 h3 hx hy
theorem Sift.step (T:TO lt){lo hi s r c:Nat}{l:List α}(h:Sift lt lo hi s r l)(hr:lo<=r)(hb:Big lt hi s r c l){u v:α}(hu:l[s+r]?=some u)(hv:l[s+c]?=some v)(huv:lt u v=true):Sift lt lo hi s c ((l.set (s+r) v).set (s+c) u):=by
 have hc:=hb.chd
 constructor
 .intro k d x y h1 h2 h3 h4 hx hy
  rw[zA hu hv]at hx hy
  rw[if_neg (by omega)]at hx
  by_cases e:k=r
  .subst e
   rw[if_pos rfl]at hx;cases hx
   by_cases e2:d=c
   .subst e2;rw[if_pos rfl]at hy;cases hy;exact T.asy _ _ huv
   .rw[if_neg (by omega),if_neg (by omega)]at hy
    exact hb.big d _ y h3 h4 hv hy
  .rw[if_neg (by omega)]at hx
   by_cases e2:d=r
   .rw[if_neg (by omega),if_pos (by omega)]at hy;cases hy
    exact h.up k c x _ h1 (by omega) hc hb.inb hx hv
   .rw[if_neg (by omega),if_neg (by omega)]at hy
    exact h.oth k d x y h1 e h3 h4 hx hy
 .intro g d x y h1 h2 h3 h4 hx hy
  obtain rfl:g=r:=by omega
  rw[zA hu hv]at hx hy
  rw[if_neg (by omega),if_pos rfl]at hx;cases hx
  rw[if_neg (by omega),if_neg (by omega)]at hy
  exact h.oth c d _ y (by omega) (by omega) h3 h4 hv hy
theorem Heap.max (T:TO lt){hi s:Nat}{l:List α}(h:Heap lt 0 hi s l)(hl:s+hi<=l.length):∀k,k<hi->∀x y,l[s]?=some x->l[s+k]?=some y->lt x y=false:=by
 intro k
 induction k using Nat.strongRecOn with
 | _ k ih =>
  intro hk x y hx hy
  by_cases e:k=0
  .subst e;rw[Nat.add_zero,hx]at hy;cases hy;exact T.irr _
  .obtain⟨z,hz⟩:∃z,l[s+(k-1)/2]?=some z:=⟨_,qgd (by omega)⟩
   exact T.tr y z x (h ((k-1)/2) k z y (by omega) (by omega) hk hz hy) (ih ((k-1)/2) (by omega) (by omega) x z hx hz)
structure Pop (lt:α->α->Bool)(a b i:Nat)(l:List α):Prop where
 heap:Heap lt 0 i a l
 top:∀p q x y,a<=p->p<q->q<b->a+i<=q->l[p]?=some x->l[q]?=some y->lt y x=false
theorem Pop.step (T:TO lt){a b i:Nat}{l l':List α}(h:Pop lt a b (i+1) l)(hb:a+i<b)(hl:b<=l.length){x y:α}(hx:l[a]?=some x)(hy:l[a+i]?=some y):Heap lt 1 i a ((l.set a y).set (a+i) x) /\
  (PI a (a+i) ((l.set a y).set (a+i) x) l'->Heap lt 0 i a l'->Pop lt a b i l'):=by
 have g:=zA hx hy
 refine⟨λk c u v h1 h2 h3 hu hv=>?_,λhp hh=>⟨hh,λp q u v h1 h2 h3 h4 hu hv=>?_⟩⟩
 .rw[g,if_neg (by omega),if_neg (by omega)]at hu hv
  exact h.heap k c u v (by omega) h2 (by omega) hu hv
 .have hv':((l.set a y).set (a+i) x)[q]?=some v:=by rw[<-hp.out q (.inr h4)];exact hv
  obtain⟨p',p1,p2,hu'⟩:∃p',a<=p'/\p'<q/\((l.set a y).set (a+i) x)[p']?=some u:=by
   by_cases e:p<a+i
   .obtain⟨j,j1,j2,j3⟩:=hp.mem ⟨h1,e⟩ hu
    exact⟨j,j1,by omega,j3⟩
   .exact⟨p,h1,h2,by rw[<-hp.out p (.inr (by omega))];exact hu⟩
  rw[g]at hu' hv'
  by_cases e:q=a+i
  .rw[if_pos e]at hv';cases hv'
   rw[if_neg (by omega)]at hu'
   by_cases e2:p'=a
   .rw[if_pos e2]at hu';cases hu'
    exact Heap.max T h.heap (by omega) i (by omega) _ _ hx hy
   .rw[if_neg e2]at hu'
    exact Heap.max T h.heap (by omega) (p'-a) (by omega) _ _ hx (by rw[show a+(p'-a)=p' by omega];exact hu')
  .rw[if_neg e,if_neg (by omega)]at hv'
   by_cases e1:p'=a+i
   .rw[if_pos e1]at hu';cases hu'
    exact h.top a q _ v (by omega) (by omega) h3 (by omega) hx hv'
   .rw[if_neg e1]at hu'
    by_cases e2:p'=a
    .rw[if_pos e2]at hu';cases hu'
     exact h.top (a+i) q _ v (by omega) (by omega) h3 (by omega) hy hv'
    .rw[if_neg e2]at hu'
     exact h.top p' q u v p1 p2 h3 (by omega) hu' hv'
theorem Pop.start {a b:Nat}{l:List α}(h:Heap lt 0 (b-a) a l)(hab:a<=b):Pop lt a b (b-a) l:=⟨h,λp q x y h1 h2 h3 h4=>by omega⟩
theorem Pop.done {a b:Nat}{l:List α}(h:Pop lt a b 0 l):Srt lt a b l:=λp q x y h1 h2 h3=>h.top p q x y h1 h2 h3 (by omega)
structure Part (lt:α->α->Bool)(a b:Nat)(p:α)(i j:Nat)(l:List α):Prop where
 piv:l[a]?=some p
 ai:a<i
 ij:i<=j+1
 jb:j<b
 below:∀k x,a<k->k<i->l[k]?=some x->lt x p=true
 above:∀k x,j<k->k<b->l[k]?=some x->lt x p=false
theorem Part.start {a b:Nat}{p:α}{l:List α}(h:l[a]?=some p)(hab:a<b):Part lt a b p (a+1) (b-1) l :=
 ⟨h,by omega,by omega,by omega,λk x h1 h2=>by omega,λk x h1 h2=>by omega⟩
theorem Part.incI {a b i j:Nat}{p x:α}{l:List α}(h:Part lt a b p i j l)(hij:i<=j)(hx:l[i]?=some x)(hlt:lt x p=true):Part lt a b p (i+1) j l :=
 ⟨h.piv,by have:=h.ai;omega,by omega,h.jb,λk y h1 h2 hy=>by
  by_cases e:k=i
  .subst e;rw[hx]at hy;cases hy;exact hlt
  .exact h.below k y h1 (by omega) hy,h.above⟩
theorem Part.decJ {a b i j:Nat}{p x:α}{l:List α}(h:Part lt a b p i j l)(hij:i<=j)(hx:l[j]?=some x)(hlt:lt x p=false):Part lt a b p i (j-1) l :=
 ⟨h.piv,h.ai,by have:=h.ai;omega,by have:=h.jb;omega,h.below,λk y h1 h2 hy=>by
  by_cases e:k=j
  .subst e;rw[hx]at hy;cases hy;exact hlt
  .exact h.above k y (by omega) h2 hy⟩
theorem Part.swap {a b i j:Nat}{p x y:α}{l:List α}(h:Part lt a b p i j l)(hij:i<=j)(hx:l[i]?=some x)(hy:l[j]?=some y)(h1:lt x p=false)(h2:lt y p=true):i<j/\Part lt a b p (i+1) (j-1) ((l.set i y).set j x):=by
 have hne:i≠j:=by rintro rfl;rw[hx]at hy;cases hy;rw[h1]at h2;cases h2
 have hai:=h.ai
 refine⟨by omega,?_,by omega,by omega,by have:=h.jb;omega,λk z k1 k2 hz=>?_,λk z k1 k2 hz=>?_⟩
 .rw[zA hx hy,if_neg (by omega),if_neg (by omega)];exact h.piv
 .rw[zA hx hy,if_neg (by omega)]at hz
  by_cases e:k=i
  .rw[if_pos e]at hz;cases hz;exact h2
  .rw[if_neg e]at hz;exact h.below k z k1 (by omega) hz
 .rw[zA hx hy]at hz
  by_cases e:k=j
  .rw[if_pos e]at hz;cases hz;exact h1
  .rw[if_neg e,if_neg (by omega)]at hz;exact h.above k z (by omega) k2 hz
structure Cut (lt:α->α->Bool)(a b mid:Nat)(p:α)(l:List α):Prop where
 am:a<=mid
 mb:mid<b
 piv:l[mid]?=some p
 below:∀k x,a<=k->k<mid->l[k]?=some x->lt x p=true
 above:∀k x,mid<k->k<b->l[k]?=some x->lt x p=false
theorem Part.done {a b i j:Nat}{p x:α}{l:List α}(h:Part lt a b p i j l)(hij:j<i)(hx:l[j]?=some x):Cut lt a b j p ((l.set j p).set a x):=by
 have hai:=h.ai
 have:=h.ij
 refine⟨by omega,h.jb,?_,λk z k1 k2 hz=>?_,λk z k1 k2 hz=>?_⟩
 .rw[zA hx h.piv]
  by_cases e:j=a
  .rw[if_pos e];subst e;rw[h.piv]at hx;cases hx;rfl
  .rw[if_neg e,if_pos rfl]
 .rw[zA hx h.piv]at hz
  by_cases e:k=a
  .rw[if_pos e]at hz;cases hz
   exact h.below j _ (by omega) (by omega) hx
  .rw[if_neg e,if_neg (by omega)]at hz;exact h.below k z (by omega) (by omega) hz
 .rw[zA hx h.piv,if_neg (by omega),if_neg (by omega)]at hz
  exact h.above k z k1 k2 hz
structure PartE (lt:α->α->Bool)(a b:Nat)(p:α)(i j:Nat)(l:List α):Prop where
 piv:l[a]?=some p
 ai:a<i
 ij:i<=j+1
 jb:j<b
 below:∀k x,a<=k->k<i->l[k]?=some x->lt p x=false
 above:∀k x,j<k->k<b->l[k]?=some x->lt p x=true
theorem PartE.start (T:TO lt){a b:Nat}{p:α}{l:List α}(h:l[a]?=some p)(hab:a<b):PartE lt a b p (a+1) (b-1) l :=
 ⟨h,by omega,by omega,by omega,λk x h1 h2 hx=>by
  have e:k=a:=by omega
  rw[e,h]at hx;cases hx;exact T.irr _,λk x h1 h2=>by omega⟩
theorem PartE.incI {a b i j:Nat}{p x:α}{l:List α}(h:PartE lt a b p i j l)(hij:i<=j)(hx:l[i]?=some x)(hlt:lt p x=false):PartE lt a b p (i+1) j l :=
 ⟨h.piv,by have:=h.ai;omega,by omega,h.jb,λk y h1 h2 hy=>by
  by_cases e:k=i
  .subst e;rw[hx]at hy;cases hy;exact hlt
  .exact h.below k y h1 (by omega) hy,h.above⟩
theorem PartE.decJ {a b i j:Nat}{p x:α}{l:List α}(h:PartE lt a b p i j l)(hij:i<=j)(hx:l[j]?=some x)(hlt:lt p x=true):PartE lt a b p i (j-1) l :=
 ⟨h.piv,h.ai,by have:=h.ai;omega,by have:=h.jb;omega,h.below,λk y h1 h2 hy=>by
  by_cases e:k=j
  .subst e;rw[hx]at hy;cases hy;exact hlt
  .exact h.above k y (by omega) h2 hy⟩
theorem PartE.swap {a b i j:Nat}{p x y:α}{l:List α}(h:PartE lt a b p i j l)(hij:i<=j)(hx:l[i]?=some x)(hy:l[j]?=some y)(h1:lt p x=true)(h2:lt p y=false):i<j/\PartE lt a b p (i+1) (j-1) ((l.set i y).set j x):=by
 have hne:i≠j:=by rintro rfl;rw[hx]at hy;cases hy;rw[h1]at h2;cases h2
 have hai:=h.ai
 refine⟨by omega,?_,by omega,by omega,by have:=h.jb;omega,λk z k1 k2 hz=>?_,λk z k1 k2 hz=>?_⟩
 .rw[zA hx hy,if_neg (by omega),if_neg (by omega)];exact h.piv
 .rw[zA hx hy,if_neg (by omega)]at hz
  by_cases e:k=i
  .rw[if_pos e]at hz;cases hz;exact h2
  .rw[if_neg e]at hz;exact h.below k z k1 (by omega) hz
 .rw[zA hx hy]at hz
  by_cases e:k=j
  .rw[if_pos e]at hz;cases hz;exact h1
  .rw[if_neg e,if_neg (by omega)]at hz;exact h.above k z (by omega) k2 hz
structure Qk (lt:α->α->Bool)(a0 b0 a b:Nat)(l:List α):Prop where
 aa:a0<=a
 ab:a<=b
 bb:b<=b0
 lo:Lo lt a0 b0 l
 ord:∀p q x y,a0<=p->p<q->q<b0->(p<a\/b<=q)->l[p]?=some x->l[q]?=some y->lt y x=false
theorem Qk.start {a b:Nat}{l:List α}(h:Lo lt a b l)(hab:a<=b):Qk lt a b a b l:=⟨qgg _,hab,qgg _,h,λp q x y h1 h2 h3 h4=>by omega⟩
theorem Qk.low {a0 b0 a b:Nat}{l:List α}(h:Qk lt a0 b0 a b l):Lo lt a b l:=λp q x y h1 h2 h3 hx hy=>by
 have:=h.bb
 have:=h.aa
 by_cases e:p<a0
 .exact h.lo p q x y e (by omega) (by omega) hx hy
 .exact h.ord p q x y (by omega) (by omega) (by omega) (.inl h1) hx hy
theorem Qk.pi {a0 b0 a b:Nat}{l l':List α}(h:Qk lt a0 b0 a b l)(k:PI a b l l'):Qk lt a0 b0 a b l':=by
 have h1:=h.aa
 have h2:=h.bb
 refine⟨h.aa,h.ab,h.bb,h.lo.pi (k.mono h1 h2),λp q x y p1 p2 p3 p4 hx hy=>?_⟩
 obtain⟨p',hp',e1⟩:∃p',l[p']?=some x/\((p'=p/\(p<a\/b<=p))\/(a<=p'/\p'<b/\a<=p/\p<b)):=by
  by_cases e:a<=p/\p<b
  .obtain⟨j,j1,j2,j3⟩:=k.mem e hx
   exact⟨j,j3,.inr ⟨j1,j2,e.1,e.2⟩⟩
  .exact⟨p,by rw[<-k.out p (by omega)];exact hx,.inl ⟨rfl,by omega⟩⟩
 obtain⟨q',hq',e2⟩:∃q',l[q']?=some y/\((q'=q/\(q<a\/b<=q))\/(a<=q'/\q'<b/\a<=q/\q<b)):=by
  by_cases e:a<=q/\q<b
  .obtain⟨j,j1,j2,j3⟩:=k.mem e hy
   exact⟨j,j3,.inr ⟨j1,j2,e.1,e.2⟩⟩
  .exact⟨q,by rw[<-k.out q (by omega)];exact hy,.inl ⟨rfl,by omega⟩⟩
 exact h.ord p' q' x y (by omega) (by omega) (by omega) (by omega) hp' hq'
theorem Qk.done {a0 b0 a b:Nat}{l:List α}(h:Qk lt a0 b0 a b l)(k:Srt lt a b l):Srt lt a0 b0 l:=λp q x y h1 h2 h3 hx hy=>by
 by_cases e:a<=p/\q<b
 .exact k p q x y e.1 h2 e.2 hx hy
 .exact h.ord p q x y h1 h2 h3 (by omega) hx hy
theorem Qk.right (T:TO lt){a0 b0 a b mid:Nat}{l:List α}{p:α}(h:Qk lt a0 b0 a b l)(hc:Cut lt a b mid p l)(hs:Srt lt a mid l):Qk lt a0 b0 (mid+1) b l:=by
 have h1:=hc.am
 have h2:=hc.mb
 refine⟨by have:=h.aa;omega,by omega,h.bb,h.lo,λu v x y u1 u2 u3 u4 hx hy=>?_⟩
 by_cases e:a<=u/\v<b
 .by_cases e2:v<mid
  .exact hs u v x y e.1 u2 e2 hx hy
  .-- u at most p at most v
   have hxp:lt p x=false:=by
    by_cases e3:u=mid
    .subst e3;rw[hc.piv]at hx;cases hx;exact T.irr _
    .exact T.asy _ _ (hc.below u x e.1 (by omega) hx)
   have hpy:lt y p=false:=by
    by_cases e3:v=mid
    .subst e3;rw[hc.piv]at hy;cases hy;exact T.irr _
    .exact hc.above v y (by omega) e.2 hy
   exact T.tr x p y hxp hpy
 .exact h.ord u v x y u1 u2 u3 (by omega) hx hy
theorem Qk.left (T:TO lt){a0 b0 a b mid:Nat}{l:List α}{p:α}(h:Qk lt a0 b0 a b l)(hc:Cut lt a b mid p l)(hs:Srt lt (mid+1) b l):Qk lt a0 b0 a mid l:=by
 have h1:=hc.am
 have h2:=hc.mb
 refine⟨h.aa,by omega,by have:=h.bb;omega,h.lo,λu v x y u1 u2 u3 u4 hx hy=>?_⟩
 by_cases e:a<=u/\v<b
 .by_cases e2:mid<u
  .exact hs u v x y e2 u2 e.2 hx hy
  .have hxp:lt p x=false:=by
    by_cases e3:u=mid
    .subst e3;rw[hc.piv]at hx;cases hx;exact T.irr _
    .exact T.asy _ _ (hc.below u x e.1 (by omega) hx)
   have hpy:lt y p=false:=by
    by_cases e3:v=mid
    .subst e3;rw[hc.piv]at hy;cases hy;exact T.irr _
    .exact hc.above v y (by omega) e.2 hy
   exact T.tr x p y hxp hpy
 .exact h.ord u v x y u1 u2 u3 (by omega) hx hy
theorem Qk.equal (T:TO lt){a0 b0 a b i j:Nat}{l:List α}{p:α}(h:Qk lt a0 b0 a b l)(hc:PartE lt a b p i j l)(hij:j<i)(hp:∀k x,a<=k->k<b->l[k]?=some x->lt x p=false):Qk lt a0 b0 i b l:=by
 have h1:=hc.ai
 have h2:=hc.ij
 have h3:=hc.jb
 refine⟨by have:=h.aa;omega,by omega,h.bb,h.lo,λu v x y u1 u2 u3 u4 hx hy=>?_⟩
 by_cases e:a<=u/\v<b
 .have hui:u<i:=by omega
  exact T.tr x p y (hc.below u x e.1 hui hx) (hp v y (by omega) e.2 hy)
 .exact h.ord u v x y u1 u2 u3 (by omega) hx hy
theorem Cut.pi_left {a b mid:Nat}{p:α}{l l':List α}(h:Cut lt a b mid p l)(k:PI a mid l l'):Cut lt a b mid p l':=by
 refine⟨h.am,h.mb,by rw[k.out mid (.inr (qgg _))];exact h.piv,λu x u1 u2 hx=>?_,λu x u1 u2 hx=>?_⟩
 .obtain⟨j,j1,j2,j3⟩:=k.mem ⟨u1,u2⟩ hx
  exact h.below j x j1 j2 j3
 .exact h.above u x u1 u2 (by rw[<-k.out u (.inr (by omega))];exact hx)
theorem Cut.pi_right {a b mid:Nat}{p:α}{l l':List α}(h:Cut lt a b mid p l)(k:PI (mid+1) b l l'):Cut lt a b mid p l':=by
 refine⟨h.am,h.mb,by rw[k.out mid (.inl (by omega))];exact h.piv,λu x u1 u2 hx=>?_,λu x u1 u2 hx=>?_⟩
 .exact h.below u x u1 u2 (by rw[<-k.out u (.inl (by omega))];exact hx)
 .obtain⟨j,j1,j2,j3⟩:=k.mem ⟨by omega,u2⟩ hx
  exact h.above j x (by omega) j2 j3
theorem db {l:List α}(h:Srt lt 0 l.length l):l.Pairwise λx y=>lt y x=false:=by
 rw[List.pairwise_iff_getElem]
 intro i j hi hj hij
 exact h i j _ _ (Nat.zero_le _) hij hj (qgd hi) (qgd hj)
theorem WZ {l l':List α}(hq:∀x y,lt x y=false->lt y x=false->x=y)(hp:l'.Perm l)(h:l.Pairwise λx y=>lt y x=false)(h':l'.Pairwise λx y=>lt y x=false):l'=l :=
 List.Perm.eq_of_pairwise (λa b _ _ h1 h2=>(hq a b h2 h1)) h' h hp
end
end Go.Sx
namespace Go.Dx
structure El {α:Type}(e:Nat)(f:α->List Value):Prop where
 pos:0<e
 len:∀x,(f x).length=e
 ok:∀x,∀v∈f x,okC v=true
theorem yz:∀(vs u w:List Value) (o:Nat),over (u++w) (u.length+o) vs=u++over w o vs
 | [],u,w,o=>rfl
 | v::vs,u,w,o=>by
  show over ((u++w).set (u.length+o) v) (u.length+o+1) vs=u++over (w.set o v) (o+1) vs
  rw[List.set_append_right _ _ (by omega),show u.length+o-u.length=o by omega,Nat.add_assoc]
  exact yz vs u (w.set o v) (o+1)
theorem gH:∀(vs u w:List Value),vs.length=u.length->over (u++w) 0 vs=vs++w
 | [],[],w,_=>rfl
 | v::vs,a::u,w,h=>by
  show over (v::(u++w)) 1 vs=v::(vs++w)
  have:=yz vs [v] (u++w) 0
  rw[show ([v]:List Value).length+0=1 from rfl]at this
  rw[show v::(u++w)=[v]++(u++w) from rfl,this,gH vs u w (by simpa using h)]
  rfl
 | [],_::_,_,h=>by simp at h
 | _::_,[],_,h=>by simp at h
theorem fI {α:Type}{e:Nat}{f:α->List Value}(E:El e f):∀{l:List α} {i:Nat} (x:α),i<l.length->over (l.flatMap f) (i*e) (f x)=(l.set i x).flatMap f
 | a::l,0,x,h=>by
  rw[Nat.zero_mul,List.flatMap_cons,gH _ _ _ (by rw[E.len,E.len])];rfl
 | a::l,i+1,x,h=>by
  rw[List.flatMap_cons,show (i+1)*e=(f a).length+i*e by rw[E.len,Nat.succ_mul,Nat.add_comm],yz,fI E x (by simpa using h)];rfl
abbrev SD {α:Type}(m0 m:M)(B:Nat)(f:α->List Value)(l:List α):Prop:=Ow m0 m [B] [(B,l.flatMap f)]
abbrev dV (B c n:Nat):Value:=.slice (some ⟨B,0,some c⟩) n n
section
variable {α:Type}{e:Nat}{f:α->List Value}{m0 m m':M}{B:Nat}{l:List α}{i:Nat}{x:α}
theorem wJ (E:El e f)(h:SD m0 m B f l)(hx:l[i]?=some x)(s:Option Nat):loads m ⟨B,i*e,s⟩ e=some (f x):=by
 have hi:=(qgf.1 hx).1
 have hl:=wG E.len l
 have:=qgx e (Nat.succ_le_of_lt hi)
 rw[Nat.succ_mul]at this
 rw[(h.get 0 rfl).2.2.loads (by omega),xC E.len l i x hx]
theorem zy (E:El e f)(h:SD m0 m B f l)(hi:i<l.length)(x:α):∃m',qB e (.pointer (some ⟨B,i*e,none⟩)) (.agg ⟨f x⟩) (qg m)=some (undef,m')/\m'.log=[B]/\SD m0 (behind m m') B f (l.set i x)/\(behind m m').n=m.n/\∀X,X≠B->(behind m m').obj X=m.obj X:=by
 have hl:=wG E.len l
 have:=qgx e (Nat.succ_le_of_lt hi)
 rw[Nat.succ_mul]at this
 obtain⟨m',a,b,c,d⟩:=h.storeNAny 0 rfl (o:=i*e) (l':=f x) E.pos (E.len x) (by omega) (E.ok x)
 rw[fI E x hi]at c
 exact⟨m',a,b,c,d⟩
theorem qO {g:α->Value}(E:El 1 (λx=>[g x]))(h:SD m0 m B (λx=>[g x]) l)(hx:l[i]?=some x)(s:Option Nat):load1 m ⟨B,i,s⟩=some (g x):=by
 have:=wJ E h hx s
 rw[Nat.mul_one]at this
 unfold loads at this;unfold load1
 cases hc:cellsOf m B with
 | none=>rw[hc]at this;cases this
 | some c =>
  rw[hc,qN]at this
  exact (bD this).2 0 (g x) rfl
theorem kC {g:α->Value}(E:El 1 (λx=>[g x]))(h:SD m0 m B (λx=>[g x]) l)(hi:i<l.length)(x:α):∃m',qB 1 (.pointer (some ⟨B,i,none⟩)) (g x) (qg m)=some (undef,m')/\m'.log=[B]/\SD m0 (behind m m') B (λx=>[g x]) (l.set i x)/\(behind m m').n=m.n/\∀X,X≠B->(behind m m').obj X=m.obj X:=by
 have hl:=wG E.len l
 obtain⟨m',a,b,c,d⟩:=h.storeAny 0 rfl (o:=i) (v:=g x) (by omega) (E.ok x (g x) (by simp))
 have h1:=fI E x hi
 rw[Nat.mul_one]at h1
 have h2:(l.flatMap λx=>[g x]).set i (g x)=(l.set i x).flatMap λx=>[g x]:=h1
 simp only[List.set_cons_zero]at c
 rw[h2]at c
 exact⟨m',a,b,c,d⟩
theorem SD.callE (h:SD m0 m B f l)(e:Ext m m'):SD m0 m' B f l:=h.step e
theorem SD.callM {l':List α}(h:SD m0 m B f l)(k:Mc m m' [B])(ha:Arr m' B (l'.flatMap f)):SD m0 m' B f l' :=
 Ow.call (σ':=[(B,l'.flatMap f)]) h k (by simpa using ha) (by simp)
theorem SD.other {R:Nat}(h:SD m0 m B f l)(k:Mc m m' [R])(hR:m0.n<=R)(hne:R≠B):SD m0 m' B f l:=by
 have hb:=h.base
 have hl:m'.log=m.log:=k.low λC hC=>by rw[qgk.1 hC,h.mc.base];omega
 have hB:=h.get 0 rfl
 refine⟨⟨qgp h.mc.n k.n,λX hX hXB=>?_,k.base.trans h.mc.base,λC hC=>by rw[hl]at hC;exact h.mc.log C hC,λhW=>by rw[hl];exact h.mc.low hW⟩,h.base,λp hp=>?_,h.nd⟩
 .rw[k.obj X (qgi hX h.mc.n) (by simp;omega)];exact h.mc.obj X hX hXB
 .rw[qgk.1 hp]
  exact⟨hB.1,qgi hB.2.1 k.n,hB.2.2.congr (k.obj B hB.2.1 (by simp;omega))⟩
theorem Ext.mcx {mb m m':M}{W:List Nat}(h:Ext mb m)(k:Mc m m' W)(hW:∀B∈W,mb.n<=B)(hb:mb.base<=mb.n):Ext mb m':=by
 have hl:m'.log=m.log:=k.low λB hB=>by rw[h.base];have:=hW B hB;omega
 exact⟨qgp h.n k.n,λB hB=>by rw[k.obj B (qgi hB h.n) (λhc=>by have:=hW B hc;omega)];exact h.obj B hB,k.base.trans h.base,hl.trans h.log⟩
theorem SD.arr (h:SD m0 m B f l):Arr m B (l.flatMap f):=(h.get 0 rfl).2.2
theorem SD.lt (h:SD m0 m B f l):B<m.n:=(h.get 0 rfl).2.1
theorem SD.start (hm:m.base<=m.n)(ha:Arr m B (l.flatMap f))(hB:B<m.n):SD m m B f l:=Ow.start hm (by simpa using ⟨hB,ha⟩) (by simp)
end
end Go.Dx
namespace Go.Sx
open Go.Dx Go.Proofs
set_option maxRecDepth 10000
abbrev qP (x:Nat):List Value:=[iv x]
theorem elI:El 1 qP:=⟨by omega,λ_=>rfl,by simp[okC]⟩
def ltN (a b:Nat):Bool:=decide (a<b)
theorem toN:TO ltN:=⟨λx=>by simp[ltN],λx y z h1 h2=>by simp[ltN]at *;omega,λx y h=>by simp[ltN]at *;omega⟩
def MuC (x:Ex)(g:Nat)(args:List Value)(m:M)(P:Nat)(Q:Value->M->Prop):Prop:=∃v m',x.f g args m=some (v,m')/\Mc m m' [P]/\Q v m'
theorem qbr (n:Nat)(m:M)(a:Int):CallV (ex Tryz.prog (n+1)) 68 [iv a] m (.bool false):=by
 refine qj df5_ok (by simp) ?_
 simp
 exact qx (Ext.refl m) (by simp)
theorem jX (n:Nat)(m:M)(a b:Nat):CallV (ex Tryz.prog (n+2)) 113 [iv a,iv b] m (.bool (ltN a b)):=by
 refine qj dk0_ok (by simp) ?_
 obtain⟨v1,m1,a1,a2,rfl⟩:=qbr n m a
 simp[a1]
 exact qx a2 (by simp[ltN])
theorem qL {j:Nat}(h:0<j)(h2:j<9223372036854775807):IntKind.i64.wrap ((j:Int)-1)=((j-1:Nat):Int):=by rw[wrap64 _ (by omega) (by omega)];omega
end Go.Sx
namespace Go.Sx
open Go.Dx Go.Proofs
set_option maxRecDepth 10000
theorem wC {α:Type}{l:List α}{i:Nat}{x:α}(h:l[i]?=some x):i<l.length:=(qgf.1 h).1
def qf (x:Nat × Nat):List Value:=[iv x.1,iv x.2]
theorem elP:El 2 qf:=⟨by omega,λ_=>rfl,by simp[qf,okC]⟩
def ltP (a b:Nat × Nat):Bool:=decide (a.1<b.1)||(decide (a.1=b.1)&&decide (a.2<b.2))
theorem ZJ {a b:Nat × Nat}:ltP a b=true ↔ a.1<b.1\/(a.1=b.1/\a.2<b.2):=by simp[ltP]
theorem Fe {a b:Nat × Nat}:ltP a b=false ↔ ¬(a.1<b.1\/(a.1=b.1/\a.2<b.2)):=by rw[<-ZJ];simp
theorem toP:TO ltP:=⟨λx=>by rw[Fe];omega,λx y z h1 h2=>by rw[Fe]at *;omega,λx y h=>by rw[Fe];rw[ZJ]at h;omega⟩
abbrev fnC:Value:=.func (.func 46) #[] #[]
def dw (a b:Nat):Int:=if a<b then -1 else if b<a then 1 else 0
theorem Kz (n:Nat)(m:M)(a b:Nat):CallV (ex Tryz.prog (n+2)) 48 [iv a,iv b] m (iv (dw a b)):=by
 refine qj dd5_ok (by simp) ?_
 obtain⟨v1,m1,a1,a2,rfl⟩:=qbr n m a
 obtain⟨v2,m2,b1,b2,rfl⟩:=qbr n m1 b
 by_cases h:a<b
 .have d1:((a:Int)<(b:Int))=True:=eq_true (by omega)
  simp[a1,b1,d1,h]
  exact qx (a2.trans b2) (by simp[dw,h])
 .have d1:((a:Int)<(b:Int))=False:=eq_false (by omega)
  by_cases h2:b<a
  .have d2:((b:Int)<(a:Int))=True:=eq_true (by omega)
   simp[a1,b1,d1,d2,h,h2]
   exact qx (a2.trans b2) (by simp[dw,h,h2])
  .have d2:((b:Int)<(a:Int))=False:=eq_false (by omega)
   simp[a1,b1,d1,d2,h,h2]
   exact qx (a2.trans b2) (by simp[dw,h,h2])
def orI (x y:Int):Int:=if x=0 then y else x
theorem or_c (n:Nat){m:M}(hm:m.base<=m.n){B c:Nat}{x y:Int}(hA:Arr m B [iv x,iv y]):CallV (ex Tryz.prog (n+1)) 47 [dV B c 2] m (iv (orI x y)):=by
 refine qj dd4_ok (by simp) ?_
 have ln:jW (dV B c 2)=some (.int .i64 2):=rfl
 simp[ln]
 refine qF (c:=BW) rfl (Ret m _) (λk t m'=>Tm.get 3 t=iv 0/\Tm.get 6 t=dV B c 2/\Tm.get 7 t=iv 2/\Tm.get 8 t=iv k/\m'=m/\(k=0\/x=0)/\(k<2\/y=0)) 2 (by omega) ⟨by simp,by simp,by simp,by simp,rfl,.inl rfl,.inl (by omega)⟩ (λk t m' K hk hI hK=>?_)
 obtain⟨t3,t6,t7,t8,he,hx,hy⟩:=hI
 rw[he]
 rcases (by omega:k=0\/k=1\/k=2) with rfl | rfl | rfl
 .have i1:=wx (e:=1) (c:=c) B 2 0 (by omega)
  have e1:load1 m ⟨B,0,none⟩=some (iv x):=hA.load1 0 none
  have t8':Tm.get 8 t=iv 0:=t8
  have i1':jU 1 (dV B c 2) zI=some (.pointer (some ⟨B,0,none⟩)):=i1
  by_cases h:x=0
  .have w1:IntKind.i64.wrap 1=1:=wrap64 _ (by omega) (by omega)
   rw[h]at e1
   simp[t3,t6,t7,t8',i1',e1,w1]
   exact hK (by omega) _ _ ⟨by simp[t3],by simp[t6],by simp[t7],by simp,rfl,.inr h,.inl (by omega)⟩
  .simp[t3,t6,t7,t8',i1',e1,h]
   exact qx (Ext.refl m) (by simp[orI,h])
 .have i1:=wx (e:=1) (c:=c) B 2 1 (by omega)
  have e1:load1 m ⟨B,1,none⟩=some (iv y):=hA.load1 1 none
  have t8':Tm.get 8 t=iv 1:=t8
  have i1':jU 1 (dV B c 2) (.int .i64 1)=some (.pointer (some ⟨B,1,none⟩)):=i1
  have hx0:x=0:=by omega
  by_cases h:y=0
  .have w1:IntKind.i64.wrap 2=2:=wrap64 _ (by omega) (by omega)
   rw[h]at e1
   simp[t3,t6,t7,t8',i1',e1,w1]
   exact hK (by omega) _ _ ⟨by simp[t3],by simp[t6],by simp[t7],by simp,rfl,.inr hx0,.inr h⟩
  .simp[t3,t6,t7,t8',i1',e1,h]
   exact qx (Ext.refl m) (by simp[orI,hx0])
 .have t8':Tm.get 8 t=iv 2:=t8
  have hx0:x=0:=by omega
  have hy0:y=0:=by omega
  simp[t3,t6,t7,t8']
  exact qx (Ext.refl m) (by simp[orI,hx0,hy0])
theorem jT (n:Nat)(m:M)(x y:Nat × Nat)(hm:m.base<=m.n:=by rw[wS,qq];exact qgg _) :
  Dx.Call (ex Tryz.prog (n+3)) 46 [.agg ⟨qf x⟩,.agg ⟨qf y⟩] m (λv _=>∃c:Int,v=iv c/\(c<0 ↔ ltP x y=true)):=by
 refine qj dd3_ok (by simp) ?_
 have st:=((St.nil hm (Ext.refl m)).row (qf x)).row (qf y)
 obtain⟨m0,hm0⟩:=qh2 (Dx.newRow m (qf x))
 have hb:jv (.agg ⟨qf x⟩) m=some (.pointer (some ⟨m.n,0,none⟩),m0):=by rw[hm0];rfl
 have hn0:m0.n=m.n+1:=by rw[hm0,qQ]
 obtain⟨m1,hm1⟩:=qh2 (Dx.newRow m0 (qf y))
 have hb1:jv (.agg ⟨qf y⟩) m0=some (.pointer (some ⟨m0.n,0,none⟩),m1):=by rw[hm1];rfl
 rw[<-hm0,<-hm1]at st
 have a1:load1 m1 ⟨m.n,0,none⟩=some (iv x.1):=(st.get 1 rfl).2.2.load1 0 none
 have a2:load1 m1 ⟨m0.n,0,none⟩=some (iv y.1):=(st.get 0 rfl).2.2.load1 0 none
 obtain⟨v2,m2,b1,b0,b2,rfl⟩:=qm (Kz n (qg m1) x.1 y.1)
 obtain⟨M2,hM2⟩:=qh2 (Dx.behind m1 m2)
 rw[<-hM2]at b2
 have st2:=st.step b2
 have a3:load1 M2 ⟨m.n,1,none⟩=some (iv x.2):=(st2.get 1 rfl).2.2.load1 1 none
 have a4:load1 M2 ⟨m0.n,1,none⟩=some (iv y.2):=(st2.get 0 rfl).2.2.load1 1 none
 obtain⟨v3,m3,c1,c0,c2,rfl⟩:=qm (Kz n (qg M2) x.2 y.2)
 obtain⟨M3,hM3⟩:=qh2 (Dx.behind M2 m3)
 rw[<-hM3]at c2
 have st3:=st2.step c2
 have st4:=st3.row [iv (dw x.1 y.1),iv (dw x.2 y.2)]
 obtain⟨M4,hM4⟩:=qh2 (Dx.newRow M3 [iv (dw x.1 y.1),iv (dw x.2 y.2)])
 have bs:jR 1 2 (rep 2 [zI]) [(0,1,iv (dw x.1 y.1)),(1,1,iv (dw x.2 y.2))] M3=some (dV M3.n 3 2,M4):=by rw[hM4];rfl
 rw[<-hM4]at st4
 obtain⟨v5,m5,d1,d0,d2,rfl⟩:=qm (or_c (n+1) (m:=qg M4) (c:=3) (by rw[wS,qq];exact qgg _) ((st4.get 0 rfl).2.2.congr (qw _ _)))
 obtain⟨M5,hM5⟩:=qh2 (Dx.behind M4 m5)
 rw[<-hM5]at d2
 simp[hb,hb1,a1,a2,b1,b0,<-hM2,a3,a4,c1,c0,<-hM3,bs,d1,d0,<-hM5]
 refine qx (st4.ext.trans d2) ⟨orI (dw x.1 y.1) (dw x.2 y.2),by simp,?_⟩
 rw[ZJ]
 unfold orI dw
 split<;>(try split)<;>(try split)<;>(try split)<;>omega
end Go.Sx
namespace Go.Sx
open Go.Dx Go.Proofs
set_option maxRecDepth 10000
theorem jQ (k:IntKind)(a b:Int):ky .mul (.int k a) (.int k b)=some (.int k (k.wrap (a*b))):=by
 rw[wW]
 show some (Value.int k (yj k (a*b)))=_
 rw[jD]
theorem GJ:Nat.beq 0 1=false:=rfl
theorem nb45:Nat.beq 4 5=false:=rfl
theorem nb67:Nat.beq 6 7=false:=rfl
theorem Qm {m:M}{Q:Value->M->Prop}{t:Tm}{p q:Nat}(hq:Q (.tuple #[Tm.get p t,Tm.get q t]) m):zH Q (kQ [.t p,.t q] t m):=by
 refine⟨gL [Tm.get p t,Tm.get q t],m,?_,hq⟩
 rw[bV,show gK t m [.t p,.t q]=some [Tm.get p t,Tm.get q t] from rfl,qN,bp]
def gP (a b:Nat)(v:Value):Prop:=∃(p:Nat) (h:Int),v=.tuple #[iv p,iv h]/\a<=p/\p<b
theorem wK {c a:SC}(hc:c=qW a)(Q:Option Out->Prop)(I:Nat->Tm->M->Prop)(len:Nat)(Post:Tm->M->Prop)(hlen:len<=9223372036854775807){x:Ex}{kn kr:K}{ke:Nat->K}{id:Nat}{t:Tm}{m:M}(h0:I 0 t m)
  (round:∀(kn:K) (ke:Nat->K) (i:Nat) (t:Tm) (m:M) (k:K),(∀t m,Post t m->Q (kn t m))->i<=len->I i t m->(i<len->∀t' m',I (i+1) t' m'->Q (k t' m'))->Q (a x k (ju id kn ke) kr t m))
  (post:∀t m,Post t m->Q (kn t m)):Q (c x kn (ju id kn ke) kr t m) :=
 qF (c:=c) hc Q I len hlen h0 λi t m k hi hI hk=>round kn ke i t m k post hi hI hk
theorem xw {c a b:SC}(hc:c=qa a b)(Q:Option Out->Prop)(Post:Tm->M->Prop){x:Ex}{kn kr:K}{ke:Nat->K}{t:Tm}{m:M}
  (h1:∀kn':K,(∀t m,Post t m->Q (kn' t m))->Q (a x kn' ke kr t m)) (h2:∀t m,Post t m->Q (b x kn ke kr t m)):Q (c x kn ke kr t m):=by subst hc;exact h1 _ h2
theorem Srt.succ {α:Type}{lt:α->α->Bool}(T:TO lt){a i:Nat}{l:List α}(h:Srt lt a i l)(hi:a<i){u v:α}(hu:l[i-1]?=some u)(hv:l[i]?=some v)(huv:lt v u=false):Srt lt a (i+1) l :=
 (InsO.start h).stop T (by omega) (.inr ⟨u,v,hu,hv,huv⟩)
def Js {α:Type}(lt:α->α->Bool)(a b:Nat)(v:Value)(l:List α):Prop:=∃(mid:Nat) (bb:Bool) (p:α),v=.tuple #[iv mid,.bool bb]/\Cut lt a b mid p l
def EqQ {α:Type}(lt:α->α->Bool)(a b:Nat)(p:α)(v:Value)(l:List α):Prop:=∃i j:Nat,v=iv i/\j<i/\PartE lt a b p i j l
def BoQ {α:Type}(lt:α->α->Bool)(a b:Nat)(v:Value)(l:List α):Prop:=∃bb:Bool,v=.bool bb/\(bb=true->Srt lt a b l)
abbrev SoQ {α:Type}(f:α->List Value)(B a b:Nat)(l:List α)(Q:Value->List α->Prop):Value->M->Prop:=λv m'=>∃l',Arr m' B (l'.flatMap f)/\PI a b l l'/\Q v l'
theorem kD {α:Type}{f:α->List Value}{m m':M}{B a b:Nat}{l l':List α}{Q:Value->List α->Prop}{v:Value}(h:SD m m' B f l')(hp:PI a b l l')(hq:Q v l'):Mc m m' [B]/\SoQ f B a b l Q v m':=⟨h.mc,l',h.arr,hp,hq⟩
abbrev FSo {α:Type}(f:α->List Value)(m:M)(B a b:Nat)(l:List α)(Q:Value->List α->Prop):Option Out->Prop:=zH λv m'=>Mc m m' [B]/\SoQ f B a b l Q v m'
theorem qD {z:Int}{k:Nat}(h:z=(k:Int))(h2:k<=9223372036854775807):IntKind.i64.wrap z=(k:Int):=by rw[h,wrap64 _ (by omega) (by omega)]
theorem SD.callAny {α:Type}{f:α->List Value}{m0 m m':M}{B:Nat}{l l':List α}(h:SD m0 m B f l)(k:Mc (qg m) m' [B])(ha:Arr m' B (l'.flatMap f)):SD m0 (Dx.behind m m') B f l' :=
 h.callM k.behind (ha.congr (qz _ _ _))
end Go.Sx
namespace Go.Sx
open Go.Dx Go.Proofs
set_option maxRecDepth 10000
def tab8:List UInt8:=[0,1,2,2,3,3,3,3,4,4,4,4,4,4,4,4,5,5,5,5,5,5,5,5,5,5,5,5,5,5,5,5,6,6,6,6,6,6,6,6,6,6,6,6,6,6,6,6,6,6,6,6,6,6,6,6,6,6,6,6,6,6,6,6,7,7,7,7,7,7,7,7,7,7,7,7,7,7,7,7,7,7,7,7,7,7,7,7,7,7,7,7,7,7,7,7,7,7,7,7,7,7,7,7,7,7,7,7,7,7,7,7,7,7,7,7,7,7,7,7,7,7,7,7,7,7,7,7,8,8,8,8,8,8,8,8,8,8,8,8,8,8,8,8,8,8,8,8,8,8,8,8,8,8,8,8,8,8,8,8,8,8,8,8,8,8,8,8,8,8,8,8,8,8,8,8,8,8,8,8,8,8,8,8,8,8,8,8,8,8,8,8,8,8,8,8,8,8,8,8,8,8,8,8,8,8,8,8,8,8,8,8,8,8,8,8,8,8,8,8,8,8,8,8,8,8,8,8,8,8,8,8,8,8,8,8,8,8,8,8,8,8,8,8,8,8,8,8,8,8,8,8,8,8,8,8]
def len8 (x:Nat):Nat:=(tab8.getD x 0).toNat
theorem bE:∀x,x<256->x<2^len8 x/\(0<x->2^len8 x<=2*x)/\len8 x<=8:=by decide +kernel
theorem FD {x:Nat}(h:x<256):Zk (.string ⟨#[0,1,2,2,3,3,3,3,4,4,4,4,4,4,4,4,5,5,5,5,5,5,5,5,5,5,5,5,5,5,5,5,6,6,6,6,6,6,6,6,6,6,6,6,6,6,6,6,6,6,6,6,6,6,6,6,6,6,6,6,6,6,6,6,7,7,7,7,7,7,7,7,7,7,7,7,7,7,7,7,7,7,7,7,7,7,7,7,7,7,7,7,7,7,7,7,7,7,7,7,7,7,7,7,7,7,7,7,7,7,7,7,7,7,7,7,7,7,7,7,7,7,7,7,7,7,7,7,8,8,8,8,8,8,8,8,8,8,8,8,8,8,8,8,8,8,8,8,8,8,8,8,8,8,8,8,8,8,8,8,8,8,8,8,8,8,8,8,8,8,8,8,8,8,8,8,8,8,8,8,8,8,8,8,8,8,8,8,8,8,8,8,8,8,8,8,8,8,8,8,8,8,8,8,8,8,8,8,8,8,8,8,8,8,8,8,8,8,8,8,8,8,8,8,8,8,8,8,8,8,8,8,8,8,8,8,8,8,8,8,8,8,8,8,8,8,8,8,8,8,8,8,8,8,8,8]⟩) (.int .u8 (x:Int))=some (.int .u8 (len8 x:Int)):=by
 have hs:tab8[x]?=some (tab8.getD x 0):=by
  have:tab8.length=256:=by decide +kernel
  rw[List.getD_eq_getElem?_getD,qgd (by omega)];rfl
 show ob (vo (.int .u8 (x:Int))) (λn=>ob (some tab8) λs=>ob (s[n]?) λb=>some (xL b))=_
 show ob (tab8[x]?) (λb=>some (xL b))=_
 rw[hs];rfl
@[simp] theorem pSidx_ap (x y:V) (t:Tm):yb x y t=Zk (x t) (y t):=_root_.id rfl
theorem Zz {x:Nat}(h:x<256):xH .u8 (uv x)=some (.int .u8 (x:Int)):=by
 rw[wV]
 have:IntKind.u8.wrap (x:Int)=(x:Int):=by unfold IntKind.wrap;simp[IntKind.bits,IntKind.signed];omega
 rw[this]
theorem Zy {x:Nat}(h:x<256):xH .i64 (.int .u8 (x:Int))=some (iv x):=by rw[wV,wrap64 _ (by omega) (by omega)]
theorem YZ {x:Nat}(h:x<256):len8 x<256:=by have:=(bE x h).2.2;omega
structure Bl (x k:Nat):Prop where
 up:x<2^k
 lo:0<x->2^k<=2*x
 le:k<=32
theorem Bl.shift {x j k:Nat}(h:Bl (x/2^j) k)(hx:2^j<=x)(hk:k+j<=32):Bl x (k+j):=by
 have h1:=h.up
 have h2:=h.lo (Nat.div_pos hx (Nat.two_pow_pos j))
 have h3:=Nat.div_add_mod x (2^j)
 have h4:=Nat.mod_lt x (Nat.two_pow_pos j)
 refine⟨?_,λ_=>?_,hk⟩
 .rw[Nat.pow_add]
  exact (Nat.div_lt_iff_lt_mul (Nat.two_pow_pos j)).1 h1
 .rw[Nat.pow_add]
  calc 2^k*2^j<=2*(x/2^j)*2^j:=qgx _ h2
   _=2*(2^j*(x/2^j)):=by rw[Nat.mul_assoc,Nat.mul_comm (x/2^j)]
   _<=2*x:=Nat.mul_le_mul_left _ (Nat.mul_div_le x (2^j))
theorem qe1 (n:Nat)(m:M){x:Nat}(hx:x<4294967296):Dx.Call (ex Tryz.prog (n+1)) 97 [uv x] m λv _=>∃k:Nat,v=iv k/\Bl x k:=by
 refine qj qaa (by simp) ?_
 have d0:((4294967296:Int)<=(x:Int))=False:=eq_false (by omega)
 have d0':((4294967296:Nat)<=x)=False:=eq_false (by omega)
 have s16:shV .shr (uv x) (.int .u64 16)=some (uv (x/65536)):=Kd (s:=16) (by omega)
 by_cases h1:65536<=x
 .have d1:((65536:Int)<=(x:Int))=True:=eq_true (by omega)
  have d1':((65536:Nat)<=x)=True:=eq_true h1
  obtain⟨y,hy⟩:=qh2 (x/65536)
  have hy2:y<65536:=by omega
  rw[<-hy]at s16
  have s8:shV .shr (uv y) (.int .u64 8)=some (uv (y/256)):=Kd (s:=8) (by omega)
  by_cases h2:256<=y
  .have d2:((256:Int)<=(y:Int))=True:=eq_true (by omega)
   have d2':((256:Nat)<=y)=True:=eq_true h2
   obtain⟨z,hz⟩:=qh2 (y/256)
   rw[<-hz]at s8
   have hz2:z<256:=by omega
   obtain⟨k1,k2,k3⟩:=bE z hz2
   have c8:=Zz hz2
   have i8:=FD hz2
   have v8:=Zy (YZ hz2)
   have w1:IntKind.i64.wrap (16+8)=24:=wrap64 _ (by omega) (by omega)
   have w2:IntKind.i64.wrap (24+(len8 z:Int))=((len8 z+24:Nat):Int):=qD (by omega) (by omega)
   have w3:IntKind.i64.wrap 16=16:=wrap64 _ (by omega) (by omega)
   have w4:IntKind.i64.wrap 24=24:=wrap64 _ (by omega) (by omega)
   simp[w3,w4,d0,d0',d1,d1',s16,d2,d2',s8,c8,i8,v8,w1,w2]
   refine qx (Ext.refl m) ⟨len8 z+24,by simp,?_⟩
   have hb:Bl z (len8 z):=⟨k1,k2,by omega⟩
   rw[hz,hy,Nat.div_div_eq_div_mul]at hb
   have:=Bl.shift (x:=x) (j:=24) (k:=len8 z) (by rw[show (2:Nat)^24=65536*256 by decide,<-Nat.div_div_eq_div_mul,<-hy,<-hz];exact⟨k1,k2,by omega⟩) (by omega) (by omega)
   exact this
  .have d2:((256:Int)<=(y:Int))=False:=eq_false (by omega)
   have d2':((256:Nat)<=y)=False:=eq_false h2
   have hy3:y<256:=by omega
   obtain⟨k1,k2,k3⟩:=bE y hy3
   have c8:=Zz hy3
   have i8:=FD hy3
   have v8:=Zy (YZ hy3)
   have w2:IntKind.i64.wrap (16+(len8 y:Int))=((len8 y+16:Nat):Int):=qD (by omega) (by omega)
   have w3:IntKind.i64.wrap 16=16:=wrap64 _ (by omega) (by omega)
   simp[w3,d0,d0',d1,d1',s16,d2,d2',c8,i8,v8,w2]
   refine qx (Ext.refl m) ⟨len8 y+16,by simp,?_⟩
   exact Bl.shift (x:=x) (j:=16) (k:=len8 y) (by rw[show (2:Nat)^16=65536 by decide,<-hy];exact⟨k1,k2,by omega⟩) (by omega) (by omega)
 .have d1:((65536:Int)<=(x:Int))=False:=eq_false (by omega)
  have d1':((65536:Nat)<=x)=False:=eq_false h1
  have s8:shV .shr (uv x) (.int .u64 8)=some (uv (x/256)):=Kd (s:=8) (by omega)
  by_cases h2:256<=x
  .have d2:((256:Int)<=(x:Int))=True:=eq_true (by omega)
   have d2':((256:Nat)<=x)=True:=eq_true h2
   obtain⟨z,hz⟩:=qh2 (x/256)
   rw[<-hz]at s8
   have hz2:z<256:=by omega
   obtain⟨k1,k2,k3⟩:=bE z hz2
   have c8:=Zz hz2
   have i8:=FD hz2
   have v8:=Zy (YZ hz2)
   have w1:IntKind.i64.wrap (0+8)=8:=wrap64 _ (by omega) (by omega)
   have w1':IntKind.i64.wrap 8=8:=wrap64 _ (by omega) (by omega)
   have w2:IntKind.i64.wrap (8+(len8 z:Int))=((len8 z+8:Nat):Int):=qD (by omega) (by omega)
   simp[d0,d0',d1,d1',d2,d2',s8,c8,i8,v8,w1,w1',w2]
   refine qx (Ext.refl m) ⟨len8 z+8,by simp,?_⟩
   exact Bl.shift (x:=x) (j:=8) (k:=len8 z) (by rw[show (2:Nat)^8=256 by decide,<-hz];exact⟨k1,k2,by omega⟩) (by omega) (by omega)
  .have d2:((256:Int)<=(x:Int))=False:=eq_false (by omega)
   have d2':((256:Nat)<=x)=False:=eq_false h2
   have hx3:x<256:=by omega
   obtain⟨k1,k2,k3⟩:=bE x hx3
   have c8:=Zz hx3
   have i8:=FD hx3
   have v8:=Zy (YZ hx3)
   have w2:IntKind.i64.wrap (0+(len8 x:Int))=(len8 x:Int):=qD (by omega) (by omega)
   have w2':IntKind.i64.wrap (len8 x:Int)=(len8 x:Int):=qD (by omega) (by omega)
   simp[d0,d0',d1,d1',d2,d2',c8,i8,v8,w2,w2']
   exact qx (Ext.refl m) ⟨len8 x,by simp,k1,k2,by omega⟩
theorem qb4 (n:Nat)(m:M){x:Nat}(hx:x<4294967296):Dx.Call (ex Tryz.prog (n+2)) 67 [uv x] m λv _=>∃k:Nat,v=iv k/\Bl x k:=by
 refine qj qa7 (by simp) ?_
 obtain⟨v,m1,a1,a2,k,rfl,hk⟩:=qe1 n m hx
 simp[a1]
 exact qx a2 ⟨k,by simp,hk⟩
theorem vt {x:Nat}(h:x<=1000000):xH .u64 (iv x)=some (uv x):=by
 rw[wV]
 have:IntKind.u64.wrap (x:Int)=(x:Int):=by rw[IntKind.wrap_u64];omega
 rw[this]
theorem qbs (n:Nat)(m:M){x:Nat}(h0:0<x)(hx:x<=1000000):Dx.Call (ex Tryz.prog (n+3)) 103 [iv x] m λv _=>∃k:Nat,v=uv (2^k)/\Bl x k/\k<=21:=by
 refine qj dj0_ok (by simp) ?_
 obtain⟨v,m1,a1,a2,k,rfl,hk⟩:=qb4 n m (x:=x) (by omega)
 have hk2:k<=21:=by
  have h1:=hk.lo h0
  refine Classical.byContradiction λhc=>?_
  have h2:2^22<=2^k:=Nat.pow_le_pow_right (by omega) (by omega)
  omega
 have c1:=vt hx
 have sh:shV .shl (.int .u64 1) (iv k)=some (uv (2^k)):=by
  rw[gi (by omega),qgr,Nat.min_eq_left (by show k<=64;omega),IntKind.wrap_u64]
  have h2:2^k<=2^21:=Nat.pow_le_pow_right (by omega) hk2
  obtain⟨q,hq⟩:=qh2 (2^k)
  have e:(1:Int)*2^k=(q:Int):=by rw[hq];push_cast;omega
  rw[e,<-hq];congr 2;omega
 simp[c1,a1,sh]
 exact qx a2 ⟨k,by simp,hk,hk2⟩
end Go.Sx
namespace Go.Sx
open Go.Dx Go.Proofs
set_option maxRecDepth 10000
theorem pow64:(2:Nat)^64=18446744073709551616:=by decide
theorem Qe {a b:Nat}(ha:a<18446744073709551616)(hb:b<18446744073709551616):a ^^^ b<18446744073709551616:=by
 rw[<-pow64]at *;exact Nat.xor_lt_two_pow ha hb
theorem rnd_c (n:Nat){m:M}(hm:m.base<=m.n){R r:Nat}(hA:Arr m R [uv r])(hR:R<m.n)(hr:r<18446744073709551616) :
  MuC (ex Tryz.prog (n+1)) 104 [.pointer (some ⟨R,0,none⟩)] m R (λv m'=>∃q:Nat,q<18446744073709551616/\v=uv q/\Arr m' R [uv q]):=by
 refine qA (Q:=λv m'=>Mc m m' [R]/\∃q:Nat,q<18446744073709551616/\v=uv q/\Arr m' R [uv q]) dj1_ok (by simp) ?_
 have ow:Ow m m [R] [(R,[uv r])]:=Ow.start hm (by simpa using ⟨hR,hA⟩) (by simp)
 have l0:load1 m ⟨R,0,none⟩=some (uv r):=hA.load1 0 none
 obtain⟨x1,hx1⟩:=qh2 (r*2^13%18446744073709551616)
 have s1:shV .shl (uv r) (.int .u64 13)=some (uv x1):=by rw[hx1];exact qd7 (s:=13) (by omega)
 have y1:=Zm (a:=r) (b:=x1) hr (by omega)
 have z1:=Qe (a:=r) (b:=x1) hr (by omega)
 obtain⟨r1,hr1⟩:=qh2 (r ^^^ x1)
 rw[<-hr1]at y1 z1
 obtain⟨m1,a1,a0,ow1,-⟩:=ow.storeAny 0 rfl (o:=0) (v:=uv r1) (by simp) rfl
 obtain⟨M1,hM1⟩:=qh2 (Dx.behind m m1)
 rw[<-hM1]at ow1
 have l1:load1 M1 ⟨R,0,none⟩=some (uv r1):=(ow1.get 0 rfl).2.2.load1 0 none
 obtain⟨x2,hx2⟩:=qh2 (r1/2^7)
 have hx2':x2<18446744073709551616:=by rw[hx2];exact Nat.lt_of_le_of_lt (Nat.div_le_self _ _) z1
 have s2:shV .shr (uv r1) (.int .u64 7)=some (uv x2):=by rw[hx2];exact Kd (s:=7) (by omega)
 have y2:=Zm (a:=r1) (b:=x2) z1 hx2'
 have z2:=Qe (a:=r1) (b:=x2) z1 hx2'
 obtain⟨r2,hr2⟩:=qh2 (r1 ^^^ x2)
 rw[<-hr2]at y2 z2
 obtain⟨m2,b1,b0,ow2,-⟩:=ow1.storeAny 0 rfl (o:=0) (v:=uv r2) (by simp) rfl
 obtain⟨M2,hM2⟩:=qh2 (Dx.behind M1 m2)
 rw[<-hM2]at ow2
 have l2:load1 M2 ⟨R,0,none⟩=some (uv r2):=(ow2.get 0 rfl).2.2.load1 0 none
 obtain⟨x3,hx3⟩:=qh2 (r2*2^17%18446744073709551616)
 have s3:shV .shl (uv r2) (.int .u64 17)=some (uv x3):=by rw[hx3];exact qd7 (s:=17) (by omega)
 have y3:=Zm (a:=r2) (b:=x3) z2 (by omega)
 have z3:=Qe (a:=r2) (b:=x3) z2 (by omega)
 obtain⟨r3,hr3⟩:=qh2 (r2 ^^^ x3)
 rw[<-hr3]at y3 z3
 obtain⟨m3,c1,c0,ow3,-⟩:=ow2.storeAny 0 rfl (o:=0) (v:=uv r3) (by simp) rfl
 obtain⟨M3,hM3⟩:=qh2 (Dx.behind M2 m3)
 rw[<-hM3]at ow3
 have l3:load1 M3 ⟨R,0,none⟩=some (uv r3):=(ow3.get 0 rfl).2.2.load1 0 none
 simp[l0,s1,y1,a1,a0,<-hM1,l1,s2,y2,b1,b0,<-hM2,l2,s3,y3,c1,c0,<-hM3,l3]
 exact wO ⟨ow3.mc,r3,z3,by simp,(ow3.get 0 rfl).2.2⟩
end Go.Sx
namespace Go.Sx
open Go.Dx Go.Proofs
set_option maxRecDepth 10000
theorem qaz (n:Nat){m:M}(hm:m.base<=m.n){B c N a b:Nat}{l:List Nat}(hA:Arr m B (l.flatMap qP))(hB:B<m.n)(hN:l.length=N)(hab:a<=b)(hbN:b<=N)(hNN:N<=1000000) :
  MuC (ex Tryz.prog (n+3)) 107 [dV B c N,iv a,iv b] m B (SoQ qP B a b l λ_ l'=>Srt ltN a b l'):=by
 refine qA (Q:=λv m'=>Mc m m' [B]/\SoQ qP B a b l (λ_ l'=>Srt ltN a b l') v m') dj4_ok (by simp) ?_
 have w0:IntKind.i64.wrap ((a:Int)+1)=((a+1:Nat):Int):=qY (by omega)
 obtain⟨a1,ha1⟩:=qh2 (a+1)
 rw[<-ha1]at w0
 simp[w0]
 refine qF (c:=DH) rfl (zH _) (λk t m'=>Tm.get 0 t=dV B c N/\Tm.get 1 t=iv a/\Tm.get 2 t=iv b/\Tm.get 6 t=iv ((a1+k:Nat):Int)/\∃l',SD m m' B qP l'/\PI a b l l'/\Srt ltN a (a1+k) l') (b-a1) (by omega)
  ⟨by simp,by simp,by simp,by simp,l,SD.start hm hA hB,PI.refl,Srt.of_len (by omega)⟩ (λk t m' K hk hI hK=>?_)
 obtain⟨t0,t1,t2,t6,l1,h1,p1,s1⟩:=hI
 by_cases hkb:k<b-a1
 .obtain⟨i,hi⟩:=qh2 (a1+k)
  rw[<-hi]at t6 s1
  have d1:((i:Int)<(b:Int))=True:=eq_true (by omega)
  have w1:=qY (i:=i) (by omega)
  simp[t0,t1,t2,t6,d1]
  refine qF (c:=cj4_8) rfl (zH _) (λr t m'=>Tm.get 0 t=dV B c N/\Tm.get 1 t=iv a/\Tm.get 2 t=iv b/\Tm.get 6 t=iv i/\Tm.get 7 t=iv ((i-r:Nat):Int)/\∃l',SD m m' B qP l'/\PI a b l l'/\InsO ltN a i (i-r) l') (i-a) (by omega)
   ⟨by simp[t0],by simp[t1],by simp[t2],by simp[t6],by simp,l1,h1,p1,InsO.start s1⟩ (λr t m' K2 hr hI hK2=>?_)
  obtain⟨t0,t1,t2,t6,t7,l2,h2,p2,s2⟩:=hI
  obtain⟨j,hj⟩:=qh2 (i-r)
  rw[<-hj]at t7 s2
  have hlen:=p2.len
  have step:∀(t':Tm) (m2:M),Tm.get 0 t'=dV B c N/\Tm.get 1 t'=iv a/\Tm.get 2 t'=iv b/\Tm.get 6 t'=iv ((i+1:Nat):Int)->SD m m2 B qP l2->Srt ltN a (i+1) l2->FSo qP m B a b l (λ_ l'=>Srt ltN a b l') (K t' m2):=λt' m2 ⟨q0,q1,q2,q6⟩ h2 hs =>
   hK hkb t' m2 ⟨q0,q1,q2,by rw[q6];congr 2;omega,l2,h2,p2,by rw[show a1+(k+1)=i+1 by omega];exact hs⟩
  by_cases hja:a<j
  .have d2:((a:Int)<(j:Int))=True:=eq_true (by omega)
   have d2':(a<j)=True:=eq_true hja
   have w2:=qL (j:=j) (by omega) (by omega)
   obtain⟨j',hj'⟩:=qh2 (j-1)
   rw[<-hj']at w2
   obtain⟨u,hu⟩:∃u,l2[j']?=some u:=⟨_,qgd (by omega)⟩
   obtain⟨v,hv⟩:∃v,l2[j]?=some v:=⟨_,qgd (by omega)⟩
   have i1:=wx (e:=1) (c:=c) B N (j) (by omega)
   rw[Nat.mul_one]at i1
   have i2:=wx (e:=1) (c:=c) B N (j') (by omega)
   rw[Nat.mul_one]at i2
   have e1:load1 m' ⟨B,j,none⟩=some (iv v):=qO elI h2 hv none
   have e2:load1 m' ⟨B,j',none⟩=some (iv u):=qO elI h2 hu none
   obtain⟨v5,m5,b51,b50,b52,rfl⟩:=qm (jX n (qg m') v u)
   have h5:=h2.callE b52
   obtain⟨M5,hM5⟩:=qh2 (Dx.behind m' m5)
   rw[<-hM5]at b52 h5
   cases hc:ltN v u with
   | true =>
    rw[hc]at b51
    have Ls1:load1 M5 ⟨B,j',none⟩=some (iv u):=qO elI h5 hu none
    have Ls2:load1 M5 ⟨B,j,none⟩=some (iv v):=qO elI h5 hv none
    obtain⟨ms6,cs1,cs0,hs6,ns6,os6⟩:=kC elI h5 (i:=j) (wC hv) u
    obtain⟨Ms6,hMs6⟩:=qh2 (Dx.behind M5 ms6)
    rw[<-hMs6]at hs6 ns6 os6
    obtain⟨ms7,ds1,ds0,hs7,ns7,os7⟩:=kC elI hs6 (i:=j') (by rw[List.length_set];exact wC hu) v
    obtain⟨Ms7,hMs7⟩:=qh2 (Dx.behind Ms6 ms7)
    rw[<-hMs7]at hs7 ns7 os7
    simp[t0,t1,t2,t6,t7,d2,d2',w2,i1,i2,e1,e2,b51,b50,<-hM5,Ls1,Ls2,cs1,cs0,<-hMs6,ds1,ds0,<-hMs7]
    refine hK2 (by omega) _ _ ⟨by simp[t0],by simp[t1],by simp[t2],by simp[t6],by simp;omega,_,hs7,p2.trans (PI.swp (by omega) (by omega) hv hu),?_⟩
    rw[show i-(r+1)=j-1 by omega,hj']
    exact s2.step toN hja (by omega) (by rw[<-hj'];exact hu) hv hc
   | false =>
    rw[hc]at b51
    simp[t0,t1,t2,t6,t7,d2,d2',w2,i1,i2,e1,e2,b51,b50,<-hM5,w1]
    exact step _ _ ⟨by simp[t0],by simp[t1],by simp[t2],by simp⟩ h5 (s2.stop toN (by omega) (.inr ⟨u,v,by rw[<-hj'];exact hu,hv,hc⟩))
  .have d2:((a:Int)<(j:Int))=False:=eq_false (by omega)
   have d2':(a<j)=False:=eq_false hja
   simp[t0,t1,t2,t6,t7,d2,d2',w1]
   exact step _ _ ⟨by simp[t0],by simp[t1],by simp[t2],by simp⟩ h2 (s2.stop toN (by omega) (.inl (by omega)))
 .obtain⟨i,hi⟩:=qh2 (a1+k)
  rw[<-hi]at t6 s1
  have d1:((i:Int)<(b:Int))=False:=eq_false (by omega)
  have d1':(i<b)=False:=eq_false (by omega)
  simp[t0,t1,t2,t6,d1,d1']
  exact zp (kD h1 p1 λp q x y q1 q2 q3=>s1 p q x y q1 q2 (by omega))
theorem sift8O (n:Nat){m0 m:M}{B c N hi s r ch:Nat}{l:List Nat}(h:SD m0 m B qP l)(hN:l.length=N)(hNN:N<=1000000){u v:Nat}(hu:l[s+r]?=some u)(hv:l[s+ch]?=some v){t:Tm}(t0:Tm.get 0 t=dV B c N)(t2:Tm.get 2 t=iv hi)(t3:Tm.get 3 t=iv s)(t8:Tm.get 8 t=iv r)(t9:Tm.get 9 t=iv ch){kn kr:K}{ke:Nat->K}{R:Option Out->Prop}
  (hs:∀t' m',SD m0 m' B qP l->ltN u v=false->R (kr t' m')) (hk:∀t' m',Tm.get 0 t'=dV B c N/\Tm.get 2 t'=iv hi/\Tm.get 3 t'=iv s/\Tm.get 8 t'=iv ch->SD m0 m' B qP ((l.set (s+r) v).set (s+ch) u)->ltN u v=true->R (kn t' m')) :
  R (YI (ex Tryz.prog (n+2)) kn ke kr t m):=by
 have l1:=wC hu
 have l2:=wC hv
 have w1:IntKind.i64.wrap ((s:Int)+(r:Int))=((s+r:Nat):Int):=qD (by omega) (by omega)
 have w2:IntKind.i64.wrap ((s:Int)+(ch:Int))=((s+ch:Nat):Int):=qD (by omega) (by omega)
 obtain⟨i,hi'⟩:=qh2 (s+r)
 obtain⟨j,hj'⟩:=qh2 (s+ch)
 rw[<-hi']at w1 hu l1 hk
 rw[<-hj']at w2 hv l2 hk
 have i1:=wx (e:=1) (c:=c) B N (i) (by omega)
 rw[Nat.mul_one]at i1
 have i2:=wx (e:=1) (c:=c) B N (j) (by omega)
 rw[Nat.mul_one]at i2
 have e1:load1 m ⟨B,i,none⟩=some (iv u):=qO elI h hu none
 have e2:load1 m ⟨B,j,none⟩=some (iv v):=qO elI h hv none
 obtain⟨v5,m5,b51,b50,b52,rfl⟩:=qm (jX n (qg m) u v)
 have h5:=h.callE b52
 obtain⟨M5,hM5⟩:=qh2 (Dx.behind m m5)
 rw[<-hM5]at b52 h5
 cases hc:ltN u v with
 | true =>
  rw[hc]at b51
  have Ls1:load1 M5 ⟨B,j,none⟩=some (iv v):=qO elI h5 hv none
  have Ls2:load1 M5 ⟨B,i,none⟩=some (iv u):=qO elI h5 hu none
  obtain⟨ms6,cs1,cs0,hs6,ns6,os6⟩:=kC elI h5 (i:=i) (wC hu) v
  obtain⟨Ms6,hMs6⟩:=qh2 (Dx.behind M5 ms6)
  rw[<-hMs6]at hs6 ns6 os6
  obtain⟨ms7,ds1,ds0,hs7,ns7,os7⟩:=kC elI hs6 (i:=j) (by rw[List.length_set];exact wC hv) u
  obtain⟨Ms7,hMs7⟩:=qh2 (Dx.behind Ms6 ms7)
  rw[<-hMs7]at hs7 ns7 os7
  simp[t0,t2,t3,t8,t9,w1,w2,i1,i2,e1,e2,b51,b50,<-hM5,Ls1,Ls2,cs1,cs0,<-hMs6,ds1,ds0,<-hMs7]
  exact hk _ _ ⟨by simp[t0],by simp[t2],by simp[t3],by simp⟩ hs7 hc
 | false =>
  rw[hc]at b51
  simp[t0,t2,t3,t8,t9,w1,w2,i1,i2,e1,e2,b51,b50,<-hM5]
  exact hs _ _ h5 hc
theorem FE (n:Nat){m:M}(hm:m.base<=m.n){B c N lo hi s:Nat}{l:List Nat}(hA:Arr m B (l.flatMap qP))(hB:B<m.n)(hN:l.length=N)(hsh:s+hi<=N)(hlo:lo<=N)(hNN:N<=1000000)(hH:Heap ltN (lo+1) hi s l) :
  MuC (ex Tryz.prog (n+3)) 117 [dV B c N,iv lo,iv hi,iv s] m B (SoQ qP B s (s+hi) l λ_ l'=>Heap ltN lo hi s l'):=by
 refine qA (Q:=λv m'=>Mc m m' [B]/\SoQ qP B s (s+hi) l (λ_ l'=>Heap ltN lo hi s l') v m') dk4_ok (by simp) ?_
 simp
 refine qF (c:=DU) rfl (zH _) (λk t m'=>Tm.get 0 t=dV B c N/\Tm.get 2 t=iv hi/\Tm.get 3 t=iv s/\∃r,Tm.get 8 t=iv (r:Nat)/\lo<=r/\k<=r/\r<=N/\∃l',SD m m' B qP l'/\PI s (s+hi) l l'/\Sift ltN lo hi s r l') hi (by omega)
  ⟨by simp,by simp,by simp,lo,by simp,qgg _,by omega,hlo,l,SD.start hm hA hB,PI.refl,Sift.start hH⟩ (λk t m' K hk hI hK=>?_)
 obtain⟨t0,t2,t3,r,t8,r1,r2,r3,l1,h1,p1,s1⟩:=hI
 have hlen:=p1.len
 have w1:IntKind.i64.wrap (2*(r:Int))=((2*r:Nat):Int):=qD (by omega) (by omega)
 obtain⟨r2',hr2'⟩:=qh2 (2*r)
 have w2:IntKind.i64.wrap ((r2':Int)+1)=((r2'+1:Nat):Int):=qY (by omega)
 obtain⟨d,hd⟩:=qh2 (r2'+1)
 rw[<-hr2']at w1
 rw[<-hd]at w2
 by_cases hdh:hi<=d
 .have d1:((hi:Int)<=(d:Int))=True:=eq_true (by omega)
  have d1':(hi<=d)=True:=eq_true hdh
  simp[jQ,GJ,t0,t2,t3,t8,w1,w2,d1,d1']
  exact zp (kD h1 p1 (s1.leaf (by omega)))
 have d1:((hi:Int)<=(d:Int))=False:=eq_false (by omega)
 have d1':(hi<=d)=False:=eq_false hdh
 have w3:IntKind.i64.wrap ((d:Int)+1)=((d+1:Nat):Int):=qY (by omega)
 obtain⟨u,hu⟩:∃u,l1[s+r]?=some u:=⟨_,qgd (by omega)⟩
 have fin:∀(ch:Nat) (t:Tm) (m2:M),Big ltN hi s r ch l1->(Tm.get 0 t=dV B c N/\Tm.get 2 t=iv hi/\Tm.get 3 t=iv s/\Tm.get 8 t=iv r/\Tm.get 9 t=iv ch)->SD m m2 B qP l1->FSo qP m B s (s+hi) l (λ_ l'=>Heap ltN lo hi s l') (YI (ex Tryz.prog (n+2)) K (ju 1 K (ju 0 (kQ []) noK)) (kQ []) t m2):=λch t m2 hb ⟨t0,t2,t3,t8,t9⟩ h2=>by
  have hb1:=hb.inb
  have hb2:=hb.chd
  obtain⟨v,hv⟩:∃v,l1[s+ch]?=some v:=⟨_,qgd (by omega)⟩
  refine sift8O n (R:=FSo qP m B s (s+hi) l λ_ l'=>Heap ltN lo hi s l') h2 (by omega) hNN hu hv t0 t2 t3 t8 t9 (λt' m' h3 hf=>zp (kD h3 p1 (s1.stop toN hb hu hv hf))) (λt' m' ⟨q0,q2,q3,q8⟩ h3 ht=>?_)
  exact hK (by omega) _ _ ⟨q0,q2,q3,ch,q8,by omega,by omega,by omega,_,h3,p1.trans (PI.swp (by omega) (by omega) hu hv),s1.step toN r1 hb hu hv ht⟩
 by_cases hd2:d+1<hi
 .obtain⟨d',hd'⟩:=qh2 (d+1)
  have d2:((d':Int)<(hi:Int))=True:=eq_true (by omega)
  have d2':(d'<hi)=True:=eq_true (by omega)
  rw[<-hd']at w3
  have w4:IntKind.i64.wrap ((s:Int)+(d:Int))=((s+d:Nat):Int):=qD (by omega) (by omega)
  obtain⟨i,hi'⟩:=qh2 (s+d)
  rw[<-hi']at w4
  have w5:IntKind.i64.wrap ((i:Int)+1)=((i+1:Nat):Int):=qY (by omega)
  obtain⟨j,hj'⟩:=qh2 (i+1)
  rw[<-hj']at w5
  obtain⟨x,hx⟩:∃x,l1[i]?=some x:=⟨_,qgd (by omega)⟩
  obtain⟨y,hy⟩:∃y,l1[j]?=some y:=⟨_,qgd (by omega)⟩
  have i1:=wx (e:=1) (c:=c) B N (i) (by omega)
  rw[Nat.mul_one]at i1
  have i2:=wx (e:=1) (c:=c) B N (j) (by omega)
  rw[Nat.mul_one]at i2
  have e1:load1 m' ⟨B,i,none⟩=some (iv x):=qO elI h1 hx none
  have e2:load1 m' ⟨B,j,none⟩=some (iv y):=qO elI h1 hy none
  obtain⟨v5,m5,b51,b50,b52,rfl⟩:=qm (jX n (qg m') x y)
  have h5:=h1.callE b52
  obtain⟨M5,hM5⟩:=qh2 (Dx.behind m' m5)
  rw[<-hM5]at b52 h5
  have other:∀(e:Nat),(e=2*r+1\/e=2*r+2)->s+e=i\/s+e=j:=λe he=>by omega
  cases hc:ltN x y with
  | true =>
   rw[hc]at b51
   simp[-Wf,jQ,t0,t2,t3,t8,w1,w2,d1,d1',w3,d2,d2',w4,w5,i1,i2,e1,e2,b51,b50,<-hM5]
   refine fin d' _ _ ⟨by omega,by omega,λe a b he hlt ha hb=>?_⟩ ⟨by simp[t0],by simp[t2],by simp[t3],by simp[t8],by simp⟩ h5
   rw[show s+d'=j by omega,hy]at ha;cases ha
   rcases other e he with q | q
   .rw[q,hx]at hb;cases hb;exact (toN).asy _ _ hc
   .rw[q,hy]at hb;cases hb;exact (toN).irr _
  | false =>
   rw[hc]at b51
   simp[-Wf,jQ,t0,t2,t3,t8,w1,w2,d1,d1',w3,d2,d2',w4,w5,i1,i2,e1,e2,b51,b50,<-hM5]
   refine fin d _ _ ⟨by omega,by omega,λe a b he hlt ha hb=>?_⟩ ⟨by simp[t0],by simp[t2],by simp[t3],by simp[t8],by simp⟩ h5
   rw[<-hi',hx]at ha;cases ha
   rcases other e he with q | q
   .rw[q,hx]at hb;cases hb;exact (toN).irr _
   .rw[q,hy]at hb;cases hb;exact hc
 .obtain⟨d',hd'⟩:=qh2 (d+1)
  have d2:((d':Int)<(hi:Int))=False:=eq_false (by omega)
  have d2':(d'<hi)=False:=eq_false (by omega)
  rw[<-hd']at w3
  simp[-Wf,jQ,t0,t2,t3,t8,w1,w2,d1,d1',w3,d2,d2']
  refine fin d _ _ ⟨by omega,by omega,λe a b he hlt ha hb=>?_⟩ ⟨by simp[t0],by simp[t2],by simp[t3],by simp[t8],by simp⟩ h1
  obtain rfl:e=d:=by omega
  rw[ha]at hb;cases hb;exact (toN).irr _
theorem qdx (n:Nat){m:M}(hm:m.base<=m.n){B c N a b:Nat}{l:List Nat}(hA:Arr m B (l.flatMap qP))(hB:B<m.n)(hN:l.length=N)(hab:a<b)(hbN:b<=N)(hNN:N<=1000000) :
  MuC (ex Tryz.prog (n+4)) 108 [dV B c N,iv a,iv b] m B (SoQ qP B a b l λ_ l'=>Srt ltN a b l'):=by
 refine qA (Q:=λv m'=>Mc m m' [B]/\SoQ qP B a b l (λ_ l'=>Srt ltN a b l') v m') dj5_ok (by simp) ?_
 have w0:IntKind.i64.wrap ((b:Int)-(a:Int))=((b-a:Nat):Int):=qD (by omega) (by omega)
 obtain⟨hi,hhi⟩:=qh2 (b-a)
 rw[<-hhi]at w0
 have w1:=qL (j:=hi) (by omega) (by omega)
 obtain⟨h1',hh1⟩:=qh2 (hi-1)
 rw[<-hh1]at w1
 have q1:=xy (a:=h1') (b:=2) (by omega) (by omega)
 obtain⟨i0,hi0⟩:=qh2 (h1'/2)
 rw[<-hi0]at q1
 have q1:ky .quo (.int .i64 h1') (.int .i64 2)=some (iv i0):=q1
 simp[w0,w1,q1]
 refine qF (c:=cj5_6) rfl (zH _) (λk t m'=>Tm.get 0 t=dV B c N/\Tm.get 6 t=iv a/\Tm.get 7 t=iv 0/\Tm.get 8 t=iv hi/\Tm.get 9 t=iv ((i0:Int)-(k:Int))/\∃l',SD m m' B qP l'/\PI a b l l'/\Heap ltN (i0+1-k) hi a l') (i0+1) (by omega)
  ⟨by simp,by simp,by simp,by simp,by simp,l,SD.start hm hA hB,PI.refl,λk c x y h1 h2 h3=>by omega⟩ (λk t m' K hk hI hK=>?_)
 obtain⟨t0,t6,t7,t8,t9,l1,h1,p1,s1⟩:=hI
 have hlen:=p1.len
 by_cases hki:k<i0+1
 .have ei:((i0:Int)-(k:Int))=((i0-k:Nat):Int):=by omega
  rw[ei]at t9
  obtain⟨i,hi'⟩:=qh2 (i0-k)
  rw[<-hi']at t9
  have w2:IntKind.i64.wrap ((i:Int)-1)=(i:Int)-1:=wrap64 _ (by omega) (by omega)
  rw[show i0+1-k=i+1 by omega]at s1
  obtain⟨v2,m2,b1,b2,l2,b3,b4,b5⟩:=FE n h1.mb h1.arr h1.lt (by omega) (c:=c) (N:=N) (lo:=i) (hi:=hi) (s:=a) (by omega) (by omega) hNN s1
  have h2:=h1.callM b2 b3
  simp[t0,t6,t7,t8,t9,b1,w2]
  exact hK hki _ _ ⟨by simp[t0],by simp[t6],by simp[t7],by simp[t8],by simp;omega,l2,h2,p1.trans (b4.mono (qgg _) (by omega)),by rw[show i0+1-(k+1)=i by omega];exact b5⟩
 obtain rfl:k=i0+1:=by omega
 rw[show ((i0:Int)-((i0+1:Nat):Int))=-1 by omega]at t9
 rw[Nat.sub_self]at s1
 simp[t0,t6,t7,t8,t9,w1]
 have s1':Pop ltN a b (b-a) l1:=Pop.start (by rw[<-hhi];exact s1) (by omega)
 refine qF (c:=DI) rfl (zH _) (λk t m'=>Tm.get 0 t=dV B c N/\Tm.get 6 t=iv a/\Tm.get 7 t=iv 0/\Tm.get 10 t=iv ((h1':Int)-(k:Int))/\∃l',SD m m' B qP l'/\PI a b l l'/\Pop ltN a b (hi-k) l') hi (by omega)
  ⟨by simp[t0],by simp[t6],by simp[t7],by simp,l1,h1,p1,by rw[hhi];exact s1'⟩ (λk t m' K2 hk hI hK2=>?_)
 obtain⟨t0,t6,t7,t10,l1,h1,p1,s1⟩:=hI
 have hlen:=p1.len
 by_cases hki:k<hi
 .have ei:((h1':Int)-(k:Int))=((h1'-k:Nat):Int):=by omega
  rw[ei]at t10
  obtain⟨i,hi'⟩:=qh2 (h1'-k)
  rw[<-hi']at t10
  rw[show hi-k=i+1 by omega]at s1
  have w2:IntKind.i64.wrap ((i:Int)-1)=(i:Int)-1:=wrap64 _ (by omega) (by omega)
  have w4:IntKind.i64.wrap ((a:Int)+(i:Int))=((a+i:Nat):Int):=qD (by omega) (by omega)
  obtain⟨j,hj⟩:=qh2 (a+i)
  rw[<-hj]at w4
  obtain⟨x,hx⟩:∃x,l1[a]?=some x:=⟨_,qgd (by omega)⟩
  obtain⟨y,hy⟩:∃y,l1[j]?=some y:=⟨_,qgd (by omega)⟩
  obtain⟨s2,s3⟩:=s1.step toN (l':=l1) (by omega) (by omega) hx (by rw[<-hj];exact hy)
  clear s3
  rw[<-hj]at s2
  have i1:=wx (e:=1) (c:=c) B N (a) (by omega)
  rw[Nat.mul_one]at i1
  have i2:=wx (e:=1) (c:=c) B N (j) (by omega)
  rw[Nat.mul_one]at i2
  have Ls1:load1 m' ⟨B,j,none⟩=some (iv y):=qO elI h1 hy none
  have Ls2:load1 m' ⟨B,a,none⟩=some (iv x):=qO elI h1 hx none
  obtain⟨ms6,cs1,cs0,hs6,ns6,os6⟩:=kC elI h1 (i:=a) (wC hx) y
  obtain⟨Ms6,hMs6⟩:=qh2 (Dx.behind m' ms6)
  rw[<-hMs6]at hs6 ns6 os6
  obtain⟨ms7,ds1,ds0,hs7,ns7,os7⟩:=kC elI hs6 (i:=j) (by rw[List.length_set];exact wC hy) x
  obtain⟨Ms7,hMs7⟩:=qh2 (Dx.behind Ms6 ms7)
  rw[<-hMs7]at hs7 ns7 os7
  obtain⟨v2,m2,b1,b2,l2,b3,b4,b5⟩:=FE n hs7.mb (SD.arr hs7) (SD.lt hs7) (by rw[List.length_set,List.length_set];omega) (c:=c) (N:=N) (lo:=0) (hi:=i) (s:=a) (by omega) (by omega) hNN s2
  have b1:(ex Tryz.prog (n+3)).f 117 [dV B c N,iv 0,iv i,iv a] Ms7=some (v2,m2):=b1
  have h2:=SD.callM hs7 b2 b3
  have s4:=(s1.step toN (l':=l2) (by omega) (by omega) hx (by rw[<-hj];exact hy)).2 (by rw[<-hj]at b4 ⊢;exact b4) b5
  simp[t0,t6,t7,t10,w4,i1,i2,Ls1,Ls2,cs1,cs0,<-hMs6,ds1,ds0,<-hMs7,b1,w2]
  exact hK2 hki _ _ ⟨by simp[t0],by simp[t6],by simp[t7],by simp;omega,l2,h2,(p1.trans (PI.swp (by omega) (by omega) hx hy)).trans (b4.mono (qgg _) (by omega)),by rw[show hi-(k+1)=i by omega];exact s4⟩
 obtain rfl:k=hi:=by omega
 rw[show ((h1':Int)-(k:Int))=-1 by omega]at t10
 rw[Nat.sub_self]at s1
 simp[t0,t6,t7,t10]
 exact zp (kD h1 p1 s1.done)
theorem revO_c (n:Nat){m:M}(hm:m.base<=m.n){B c N a b:Nat}{l:List Nat}(hA:Arr m B (l.flatMap qP))(hB:B<m.n)(hN:l.length=N)(hab:a<b)(hbN:b<=N)(hNN:N<=1000000) :
  MuC (ex Tryz.prog (n+1)) 111 [dV B c N,iv a,iv b] m B (SoQ qP B a b l λ_ l'=>True):=by
 refine qA (Q:=λv m'=>Mc m m' [B]/\SoQ qP B a b l (λ_ l'=>True) v m') dj8_ok (by simp) ?_
 have w0:=qL (j:=b) (by omega) (by omega)
 obtain⟨b1,hb1⟩:=qh2 (b-1)
 rw[<-hb1]at w0
 simp[w0]
 refine qF (c:=cj8_7) rfl (zH _) (λk t m'=>Tm.get 0 t=dV B c N/\Tm.get 6 t=iv ((a+k:Nat):Int)/\Tm.get 7 t=iv ((b1-k:Nat):Int)/\2*k<=b-a/\∃l',SD m m' B qP l'/\PI a b l l') b (by omega)
  ⟨by simp,by simp,by simp,by omega,l,SD.start hm hA hB,PI.refl⟩ (λk t m' K hk hI hK=>?_)
 obtain⟨t0,t6,t7,hk2,l1,h1,p1⟩:=hI
 have hlen:=p1.len
 obtain⟨i,hi⟩:=qh2 (a+k)
 obtain⟨j,hj⟩:=qh2 (b1-k)
 rw[<-hi]at t6
 rw[<-hj]at t7
 by_cases hij:i<j
 .have d1:((i:Int)<(j:Int))=True:=eq_true (by omega)
  have d1':(i<j)=True:=eq_true hij
  have w1:=qY (i:=i) (by omega)
  have w2:=qL (j:=j) (by omega) (by omega)
  obtain⟨x,hx⟩:∃x,l1[i]?=some x:=⟨_,qgd (by omega)⟩
  obtain⟨y,hy⟩:∃y,l1[j]?=some y:=⟨_,qgd (by omega)⟩
  have i1:=wx (e:=1) (c:=c) B N (i) (by omega)
  rw[Nat.mul_one]at i1
  have i2:=wx (e:=1) (c:=c) B N (j) (by omega)
  rw[Nat.mul_one]at i2
  have Ls1:load1 m' ⟨B,j,none⟩=some (iv y):=qO elI h1 hy none
  have Ls2:load1 m' ⟨B,i,none⟩=some (iv x):=qO elI h1 hx none
  obtain⟨ms6,cs1,cs0,hs6,ns6,os6⟩:=kC elI h1 (i:=i) (wC hx) y
  obtain⟨Ms6,hMs6⟩:=qh2 (Dx.behind m' ms6)
  rw[<-hMs6]at hs6 ns6 os6
  obtain⟨ms7,ds1,ds0,hs7,ns7,os7⟩:=kC elI hs6 (i:=j) (by rw[List.length_set];exact wC hy) x
  obtain⟨Ms7,hMs7⟩:=qh2 (Dx.behind Ms6 ms7)
  rw[<-hMs7]at hs7 ns7 os7
  simp[t0,t6,t7,d1,d1',i1,i2,Ls1,Ls2,cs1,cs0,<-hMs6,ds1,ds0,<-hMs7,w1,w2]
  exact hK (by omega) _ _ ⟨by simp[t0],by simp;omega,by simp;omega,by omega,_,hs7,p1.trans (PI.swp (by omega) (by omega) hx hy)⟩
 .have d1:((i:Int)<(j:Int))=False:=eq_false (by omega)
  have d1':(i<j)=False:=eq_false hij
  simp[t0,t6,t7,d1,d1']
  exact zp (kD h1 p1 trivial)
end Go.Sx
namespace Go.Sx
open Go.Dx Go.Proofs
set_option maxRecDepth 10000
theorem qb0 (n:Nat){m:M}(hm:m.base<=m.n){B c N a b:Nat}{l:List (Nat × Nat)}(hA:Arr m B (l.flatMap qf))(hB:B<m.n)(hN:l.length=N)(hab:a<=b)(hbN:b<=N)(hNN:N<=1000000) :
  MuC (ex Tryz.prog (n+4)) 88 [dV B c N,iv a,iv b,fnC] m B (SoQ qf B a b l λ_ l'=>Srt ltP a b l'):=by
 refine qA (Q:=λv m'=>Mc m m' [B]/\SoQ qf B a b l (λ_ l'=>Srt ltP a b l') v m') qa9 (by simp) ?_
 have w0:IntKind.i64.wrap ((a:Int)+1)=((a+1:Nat):Int):=qY (by omega)
 obtain⟨a1,ha1⟩:=qh2 (a+1)
 rw[<-ha1]at w0
 simp[w0]
 refine qF (c:=Vm) rfl (zH _) (λk t m'=>Tm.get 3 t=fnC/\Tm.get 0 t=dV B c N/\Tm.get 1 t=iv a/\Tm.get 2 t=iv b/\Tm.get 8 t=iv ((a1+k:Nat):Int)/\∃l',SD m m' B qf l'/\PI a b l l'/\Srt ltP a (a1+k) l') (b-a1) (by omega)
  ⟨by simp,by simp,by simp,by simp,by simp,l,SD.start hm hA hB,PI.refl,Srt.of_len (by omega)⟩ (λk t m' K hk hI hK=>?_)
 obtain⟨tc,t0,t1,t2,t6,l1,h1,p1,s1⟩:=hI
 by_cases hkb:k<b-a1
 .obtain⟨i,hi⟩:=qh2 (a1+k)
  rw[<-hi]at t6 s1
  have d1:((i:Int)<(b:Int))=True:=eq_true (by omega)
  have w1:=qY (i:=i) (by omega)
  simp[tc,t0,t1,t2,t6,d1]
  refine qF (c:=ch5_8) rfl (zH _) (λr t m'=>Tm.get 3 t=fnC/\Tm.get 0 t=dV B c N/\Tm.get 1 t=iv a/\Tm.get 2 t=iv b/\Tm.get 8 t=iv i/\Tm.get 9 t=iv ((i-r:Nat):Int)/\∃l',SD m m' B qf l'/\PI a b l l'/\InsO ltP a i (i-r) l') (i-a) (by omega)
   ⟨by simp[tc],by simp[t0],by simp[t1],by simp[t2],by simp[t6],by simp,l1,h1,p1,InsO.start s1⟩ (λr t m' K2 hr hI hK2=>?_)
  obtain⟨tc,t0,t1,t2,t6,t7,l2,h2,p2,s2⟩:=hI
  obtain⟨j,hj⟩:=qh2 (i-r)
  rw[<-hj]at t7 s2
  have hlen:=p2.len
  have step:∀(t':Tm) (m2:M),Tm.get 3 t'=fnC/\Tm.get 0 t'=dV B c N/\Tm.get 1 t'=iv a/\Tm.get 2 t'=iv b/\Tm.get 8 t'=iv ((i+1:Nat):Int)->SD m m2 B qf l2->Srt ltP a (i+1) l2->FSo qf m B a b l (λ_ l'=>Srt ltP a b l') (K t' m2):=λt' m2 ⟨tc,q0,q1,q2,q6⟩ h2 hs =>
   hK hkb t' m2 ⟨tc,q0,q1,q2,by rw[q6];congr 2;omega,l2,h2,p2,by rw[show a1+(k+1)=i+1 by omega];exact hs⟩
  by_cases hja:a<j
  .have d2:((a:Int)<(j:Int))=True:=eq_true (by omega)
   have d2':(a<j)=True:=eq_true hja
   have w2:=qL (j:=j) (by omega) (by omega)
   obtain⟨j',hj'⟩:=qh2 (j-1)
   rw[<-hj']at w2
   obtain⟨u,hu⟩:∃u,l2[j']?=some u:=⟨_,qgd (by omega)⟩
   obtain⟨v,hv⟩:∃v,l2[j]?=some v:=⟨_,qgd (by omega)⟩
   have i1:=wx (e:=2) (c:=c) B N (j) (by omega)
   have i2:=wx (e:=2) (c:=c) B N (j') (by omega)
   have e1:loads m' ⟨B,j*2,none⟩ 2=some (qf v):=wJ elP h2 hv none
   have e2:loads m' ⟨B,j'*2,none⟩ 2=some (qf u):=wJ elP h2 hu none
   obtain⟨v5,m5,b51,b50,b52,c5,rfl,q5⟩:=qm (jT n (qg m') v u)
   have h5:=h2.callE b52
   obtain⟨M5,hM5⟩:=qh2 (Dx.behind m' m5)
   rw[<-hM5]at b52 h5
   cases hc:ltP v u with
   | true =>
    have e5:(c5<0)=True:=eq_true (q5.2 hc)
    have Ls1:loads M5 ⟨B,j'*2,none⟩ 2=some (qf u):=wJ elP h5 hu none
    have Ls2:loads M5 ⟨B,j*2,none⟩ 2=some (qf v):=wJ elP h5 hv none
    obtain⟨ms6,cs1,cs0,hs6,ns6,os6⟩:=zy elP h5 (i:=j) (wC hv) u
    obtain⟨Ms6,hMs6⟩:=qh2 (Dx.behind M5 ms6)
    rw[<-hMs6]at hs6 ns6 os6
    obtain⟨ms7,ds1,ds0,hs7,ns7,os7⟩:=zy elP hs6 (i:=j') (by rw[List.length_set];exact wC hu) v
    obtain⟨Ms7,hMs7⟩:=qh2 (Dx.behind Ms6 ms7)
    rw[<-hMs7]at hs7 ns7 os7
    simp[tc,t0,t1,t2,t6,t7,d2,d2',w2,i1,i2,e1,e2,b51,b50,e5,qd,<-hM5,Ls1,Ls2,cs1,cs0,<-hMs6,ds1,ds0,<-hMs7,qd]
    refine hK2 (by omega) _ _ ⟨by simp[tc],by simp[t0],by simp[t1],by simp[t2],by simp[t6],by simp;omega,_,hs7,p2.trans (PI.swp (by omega) (by omega) hv hu),?_⟩
    rw[show i-(r+1)=j-1 by omega,hj']
    exact s2.step toP hja (by omega) (by rw[<-hj'];exact hu) hv hc
   | false =>
    have e5:(c5<0)=False:=eq_false λh=>by rw[q5.1 h]at hc;cases hc
    simp[tc,t0,t1,t2,t6,t7,d2,d2',w2,i1,i2,e1,e2,b51,b50,e5,qd,<-hM5,w1]
    exact step _ _ ⟨by simp[tc],by simp[t0],by simp[t1],by simp[t2],by simp⟩ h5 (s2.stop toP (by omega) (.inr ⟨u,v,by rw[<-hj'];exact hu,hv,hc⟩))
  .have d2:((a:Int)<(j:Int))=False:=eq_false (by omega)
   have d2':(a<j)=False:=eq_false hja
   simp[tc,t0,t1,t2,t6,t7,d2,d2',w1]
   exact step _ _ ⟨by simp[tc],by simp[t0],by simp[t1],by simp[t2],by simp⟩ h2 (s2.stop toP (by omega) (.inl (by omega)))
 .obtain⟨i,hi⟩:=qh2 (a1+k)
  rw[<-hi]at t6 s1
  have d1:((i:Int)<(b:Int))=False:=eq_false (by omega)
  have d1':(i<b)=False:=eq_false (by omega)
  simp[tc,t0,t1,t2,t6,d1,d1']
  exact zp (kD h1 p1 λp q x y q1 q2 q3=>s1 p q x y q1 q2 (by omega))
theorem sift8P (n:Nat){m0 m:M}{B c N hi s r ch:Nat}{l:List (Nat × Nat)}(h:SD m0 m B qf l)(hN:l.length=N)(hNN:N<=1000000){u v:(Nat × Nat)}(hu:l[s+r]?=some u)(hv:l[s+ch]?=some v){t:Tm}(tc:Tm.get 4 t=fnC)(t0:Tm.get 0 t=dV B c N)(t2:Tm.get 2 t=iv hi)(t3:Tm.get 3 t=iv s)(t8:Tm.get 10 t=iv r)(t9:Tm.get 11 t=iv ch){kn kr:K}{ke:Nat->K}{R:Option Out->Prop}
  (hs:∀t' m',SD m0 m' B qf l->ltP u v=false->R (kr t' m')) (hk:∀t' m',Tm.get 4 t'=fnC/\Tm.get 0 t'=dV B c N/\Tm.get 2 t'=iv hi/\Tm.get 3 t'=iv s/\Tm.get 10 t'=iv ch->SD m0 m' B qf ((l.set (s+r) v).set (s+ch) u)->ltP u v=true->R (kn t' m')) :
  R (YH (ex Tryz.prog (n+3)) kn ke kr t m):=by
 have l1:=wC hu
 have l2:=wC hv
 have w1:IntKind.i64.wrap ((s:Int)+(r:Int))=((s+r:Nat):Int):=qD (by omega) (by omega)
 have w2:IntKind.i64.wrap ((s:Int)+(ch:Int))=((s+ch:Nat):Int):=qD (by omega) (by omega)
 obtain⟨i,hi'⟩:=qh2 (s+r)
 obtain⟨j,hj'⟩:=qh2 (s+ch)
 rw[<-hi']at w1 hu l1 hk
 rw[<-hj']at w2 hv l2 hk
 have i1:=wx (e:=2) (c:=c) B N (i) (by omega)
 have i2:=wx (e:=2) (c:=c) B N (j) (by omega)
 have e1:loads m ⟨B,i*2,none⟩ 2=some (qf u):=wJ elP h hu none
 have e2:loads m ⟨B,j*2,none⟩ 2=some (qf v):=wJ elP h hv none
 obtain⟨v5,m5,b51,b50,b52,c5,rfl,q5⟩:=qm (jT n (qg m) u v)
 have h5:=h.callE b52
 obtain⟨M5,hM5⟩:=qh2 (Dx.behind m m5)
 rw[<-hM5]at b52 h5
 cases hc:ltP u v with
 | true =>
  have e5:(c5<0)=True:=eq_true (q5.2 hc)
  have Ls1:loads M5 ⟨B,j*2,none⟩ 2=some (qf v):=wJ elP h5 hv none
  have Ls2:loads M5 ⟨B,i*2,none⟩ 2=some (qf u):=wJ elP h5 hu none
  obtain⟨ms6,cs1,cs0,hs6,ns6,os6⟩:=zy elP h5 (i:=i) (wC hu) v
  obtain⟨Ms6,hMs6⟩:=qh2 (Dx.behind M5 ms6)
  rw[<-hMs6]at hs6 ns6 os6
  obtain⟨ms7,ds1,ds0,hs7,ns7,os7⟩:=zy elP hs6 (i:=j) (by rw[List.length_set];exact wC hv) u
  obtain⟨Ms7,hMs7⟩:=qh2 (Dx.behind Ms6 ms7)
  rw[<-hMs7]at hs7 ns7 os7
  simp[tc,t0,t2,t3,t8,t9,w1,w2,i1,i2,e1,e2,b51,b50,e5,qd,<-hM5,Ls1,Ls2,cs1,cs0,<-hMs6,ds1,ds0,<-hMs7,qd]
  exact hk _ _ ⟨by simp[tc],by simp[t0],by simp[t2],by simp[t3],by simp⟩ hs7 hc
 | false =>
  have e5:(c5<0)=False:=eq_false λh=>by rw[q5.1 h]at hc;cases hc
  simp[tc,t0,t2,t3,t8,t9,w1,w2,i1,i2,e1,e2,b51,b50,e5,qd,<-hM5]
  exact hs _ _ h5 hc
theorem FF (n:Nat){m:M}(hm:m.base<=m.n){B c N lo hi s:Nat}{l:List (Nat × Nat)}(hA:Arr m B (l.flatMap qf))(hB:B<m.n)(hN:l.length=N)(hsh:s+hi<=N)(hlo:lo<=N)(hNN:N<=1000000)(hH:Heap ltP (lo+1) hi s l) :
  MuC (ex Tryz.prog (n+4)) 102 [dV B c N,iv lo,iv hi,iv s,fnC] m B (SoQ qf B s (s+hi) l λ_ l'=>Heap ltP lo hi s l'):=by
 refine qA (Q:=λv m'=>Mc m m' [B]/\SoQ qf B s (s+hi) l (λ_ l'=>Heap ltP lo hi s l') v m') di9_ok (by simp) ?_
 simp
 refine qF (c:=DG) rfl (zH _) (λk t m'=>Tm.get 4 t=fnC/\Tm.get 0 t=dV B c N/\Tm.get 2 t=iv hi/\Tm.get 3 t=iv s/\∃r,Tm.get 10 t=iv (r:Nat)/\lo<=r/\k<=r/\r<=N/\∃l',SD m m' B qf l'/\PI s (s+hi) l l'/\Sift ltP lo hi s r l') hi (by omega)
  ⟨by simp,by simp,by simp,by simp,lo,by simp,qgg _,by omega,hlo,l,SD.start hm hA hB,PI.refl,Sift.start hH⟩ (λk t m' K hk hI hK=>?_)
 obtain⟨tc,t0,t2,t3,r,t8,r1,r2,r3,l1,h1,p1,s1⟩:=hI
 have hlen:=p1.len
 have w1:IntKind.i64.wrap (2*(r:Int))=((2*r:Nat):Int):=qD (by omega) (by omega)
 obtain⟨r2',hr2'⟩:=qh2 (2*r)
 have w2:IntKind.i64.wrap ((r2':Int)+1)=((r2'+1:Nat):Int):=qY (by omega)
 obtain⟨d,hd⟩:=qh2 (r2'+1)
 rw[<-hr2']at w1
 rw[<-hd]at w2
 by_cases hdh:hi<=d
 .have d1:((hi:Int)<=(d:Int))=True:=eq_true (by omega)
  have d1':(hi<=d)=True:=eq_true hdh
  simp[jQ,GJ,tc,t0,t2,t3,t8,w1,w2,d1,d1']
  exact zp (kD h1 p1 (s1.leaf (by omega)))
 have d1:((hi:Int)<=(d:Int))=False:=eq_false (by omega)
 have d1':(hi<=d)=False:=eq_false hdh
 have w3:IntKind.i64.wrap ((d:Int)+1)=((d+1:Nat):Int):=qY (by omega)
 obtain⟨u,hu⟩:∃u,l1[s+r]?=some u:=⟨_,qgd (by omega)⟩
 have fin:∀(ch:Nat) (t:Tm) (m2:M),Big ltP hi s r ch l1->(Tm.get 4 t=fnC/\Tm.get 0 t=dV B c N/\Tm.get 2 t=iv hi/\Tm.get 3 t=iv s/\Tm.get 10 t=iv r/\Tm.get 11 t=iv ch)->SD m m2 B qf l1->FSo qf m B s (s+hi) l (λ_ l'=>Heap ltP lo hi s l') (YH (ex Tryz.prog (n+3)) K (ju 1 K (ju 0 (kQ []) noK)) (kQ []) t m2):=λch t m2 hb ⟨tc,t0,t2,t3,t8,t9⟩ h2=>by
  have hb1:=hb.inb
  have hb2:=hb.chd
  obtain⟨v,hv⟩:∃v,l1[s+ch]?=some v:=⟨_,qgd (by omega)⟩
  refine sift8P n (R:=FSo qf m B s (s+hi) l λ_ l'=>Heap ltP lo hi s l') h2 (by omega) hNN hu hv tc t0 t2 t3 t8 t9 (λt' m' h3 hf=>zp (kD h3 p1 (s1.stop toP hb hu hv hf))) (λt' m' ⟨tc,q0,q2,q3,q8⟩ h3 ht=>?_)
  exact hK (by omega) _ _ ⟨tc,q0,q2,q3,ch,q8,by omega,by omega,by omega,_,h3,p1.trans (PI.swp (by omega) (by omega) hu hv),s1.step toP r1 hb hu hv ht⟩
 by_cases hd2:d+1<hi
 .obtain⟨d',hd'⟩:=qh2 (d+1)
  have d2:((d':Int)<(hi:Int))=True:=eq_true (by omega)
  have d2':(d'<hi)=True:=eq_true (by omega)
  rw[<-hd']at w3
  have w4:IntKind.i64.wrap ((s:Int)+(d:Int))=((s+d:Nat):Int):=qD (by omega) (by omega)
  obtain⟨i,hi'⟩:=qh2 (s+d)
  rw[<-hi']at w4
  have w5:IntKind.i64.wrap ((i:Int)+1)=((i+1:Nat):Int):=qY (by omega)
  obtain⟨j,hj'⟩:=qh2 (i+1)
  rw[<-hj']at w5
  obtain⟨x,hx⟩:∃x,l1[i]?=some x:=⟨_,qgd (by omega)⟩
  obtain⟨y,hy⟩:∃y,l1[j]?=some y:=⟨_,qgd (by omega)⟩
  have i1:=wx (e:=2) (c:=c) B N (i) (by omega)
  have i2:=wx (e:=2) (c:=c) B N (j) (by omega)
  have e1:loads m' ⟨B,i*2,none⟩ 2=some (qf x):=wJ elP h1 hx none
  have e2:loads m' ⟨B,j*2,none⟩ 2=some (qf y):=wJ elP h1 hy none
  obtain⟨v5,m5,b51,b50,b52,c5,rfl,q5⟩:=qm (jT n (qg m') x y)
  have h5:=h1.callE b52
  obtain⟨M5,hM5⟩:=qh2 (Dx.behind m' m5)
  rw[<-hM5]at b52 h5
  have other:∀(e:Nat),(e=2*r+1\/e=2*r+2)->s+e=i\/s+e=j:=λe he=>by omega
  cases hc:ltP x y with
  | true =>
   have e5:(c5<0)=True:=eq_true (q5.2 hc)
   simp[-We,jQ,tc,t0,t2,t3,t8,w1,w2,d1,d1',w3,d2,d2',w4,w5,i1,i2,e1,e2,b51,b50,e5,qd,<-hM5]
   refine fin d' _ _ ⟨by omega,by omega,λe a b he hlt ha hb=>?_⟩ ⟨by simp[tc],by simp[t0],by simp[t2],by simp[t3],by simp[t8],by simp⟩ h5
   rw[show s+d'=j by omega,hy]at ha;cases ha
   rcases other e he with q | q
   .rw[q,hx]at hb;cases hb;exact (toP).asy _ _ hc
   .rw[q,hy]at hb;cases hb;exact (toP).irr _
  | false =>
   have e5:(c5<0)=False:=eq_false λh=>by rw[q5.1 h]at hc;cases hc
   simp[-We,jQ,tc,t0,t2,t3,t8,w1,w2,d1,d1',w3,d2,d2',w4,w5,i1,i2,e1,e2,b51,b50,e5,qd,<-hM5]
   refine fin d _ _ ⟨by omega,by omega,λe a b he hlt ha hb=>?_⟩ ⟨by simp[tc],by simp[t0],by simp[t2],by simp[t3],by simp[t8],by simp⟩ h5
   rw[<-hi',hx]at ha;cases ha
   rcases other e he with q | q
   .rw[q,hx]at hb;cases hb;exact (toP).irr _
   .rw[q,hy]at hb;cases hb;exact hc
 .obtain⟨d',hd'⟩:=qh2 (d+1)
  have d2:((d':Int)<(hi:Int))=False:=eq_false (by omega)
  have d2':(d'<hi)=False:=eq_false (by omega)
  rw[<-hd']at w3
  simp[-We,jQ,tc,t0,t2,t3,t8,w1,w2,d1,d1',w3,d2,d2']
  refine fin d _ _ ⟨by omega,by omega,λe a b he hlt ha hb=>?_⟩ ⟨by simp[tc],by simp[t0],by simp[t2],by simp[t3],by simp[t8],by simp⟩ h1
  obtain rfl:e=d:=by omega
  rw[ha]at hb;cases hb;exact (toP).irr _
theorem qdy (n:Nat){m:M}(hm:m.base<=m.n){B c N a b:Nat}{l:List (Nat × Nat)}(hA:Arr m B (l.flatMap qf))(hB:B<m.n)(hN:l.length=N)(hab:a<b)(hbN:b<=N)(hNN:N<=1000000) :
  MuC (ex Tryz.prog (n+5)) 89 [dV B c N,iv a,iv b,fnC] m B (SoQ qf B a b l λ_ l'=>Srt ltP a b l'):=by
 refine qA (Q:=λv m'=>Mc m m' [B]/\SoQ qf B a b l (λ_ l'=>Srt ltP a b l') v m') dh6_ok (by simp) ?_
 have w0:IntKind.i64.wrap ((b:Int)-(a:Int))=((b-a:Nat):Int):=qD (by omega) (by omega)
 obtain⟨hi,hhi⟩:=qh2 (b-a)
 rw[<-hhi]at w0
 have w1:=qL (j:=hi) (by omega) (by omega)
 obtain⟨h1',hh1⟩:=qh2 (hi-1)
 rw[<-hh1]at w1
 have q1:=xy (a:=h1') (b:=2) (by omega) (by omega)
 obtain⟨i0,hi0⟩:=qh2 (h1'/2)
 rw[<-hi0]at q1
 have q1:ky .quo (.int .i64 h1') (.int .i64 2)=some (iv i0):=q1
 simp[w0,w1,q1]
 refine qF (c:=ch6_6) rfl (zH _) (λk t m'=>Tm.get 3 t=fnC/\Tm.get 0 t=dV B c N/\Tm.get 8 t=iv a/\Tm.get 9 t=iv 0/\Tm.get 10 t=iv hi/\Tm.get 11 t=iv ((i0:Int)-(k:Int))/\∃l',SD m m' B qf l'/\PI a b l l'/\Heap ltP (i0+1-k) hi a l') (i0+1) (by omega)
  ⟨by simp,by simp,by simp,by simp,by simp,by simp,l,SD.start hm hA hB,PI.refl,λk c x y h1 h2 h3=>by omega⟩ (λk t m' K hk hI hK=>?_)
 obtain⟨tc,t0,t6,t7,t8,t9,l1,h1,p1,s1⟩:=hI
 have hlen:=p1.len
 by_cases hki:k<i0+1
 .have ei:((i0:Int)-(k:Int))=((i0-k:Nat):Int):=by omega
  rw[ei]at t9
  obtain⟨i,hi'⟩:=qh2 (i0-k)
  rw[<-hi']at t9
  have w2:IntKind.i64.wrap ((i:Int)-1)=(i:Int)-1:=wrap64 _ (by omega) (by omega)
  rw[show i0+1-k=i+1 by omega]at s1
  obtain⟨v2,m2,b1,b2,l2,b3,b4,b5⟩:=FF n h1.mb h1.arr h1.lt (by omega) (c:=c) (N:=N) (lo:=i) (hi:=hi) (s:=a) (by omega) (by omega) hNN s1
  have h2:=h1.callM b2 b3
  simp[tc,t0,t6,t7,t8,t9,b1,w2]
  exact hK hki _ _ ⟨by simp[tc],by simp[t0],by simp[t6],by simp[t7],by simp[t8],by simp;omega,l2,h2,p1.trans (b4.mono (qgg _) (by omega)),by rw[show i0+1-(k+1)=i by omega];exact b5⟩
 obtain rfl:k=i0+1:=by omega
 rw[show ((i0:Int)-((i0+1:Nat):Int))=-1 by omega]at t9
 rw[Nat.sub_self]at s1
 simp[tc,t0,t6,t7,t8,t9,w1]
 have s1':Pop ltP a b (b-a) l1:=Pop.start (by rw[<-hhi];exact s1) (by omega)
 refine qF (c:=Dr) rfl (zH _) (λk t m'=>Tm.get 3 t=fnC/\Tm.get 0 t=dV B c N/\Tm.get 8 t=iv a/\Tm.get 9 t=iv 0/\Tm.get 12 t=iv ((h1':Int)-(k:Int))/\∃l',SD m m' B qf l'/\PI a b l l'/\Pop ltP a b (hi-k) l') hi (by omega)
  ⟨by simp[tc],by simp[t0],by simp[t6],by simp[t7],by simp,l1,h1,p1,by rw[hhi];exact s1'⟩ (λk t m' K2 hk hI hK2=>?_)
 obtain⟨tc,t0,t6,t7,t10,l1,h1,p1,s1⟩:=hI
 have hlen:=p1.len
 by_cases hki:k<hi
 .have ei:((h1':Int)-(k:Int))=((h1'-k:Nat):Int):=by omega
  rw[ei]at t10
  obtain⟨i,hi'⟩:=qh2 (h1'-k)
  rw[<-hi']at t10
  rw[show hi-k=i+1 by omega]at s1
  have w2:IntKind.i64.wrap ((i:Int)-1)=(i:Int)-1:=wrap64 _ (by omega) (by omega)
  have w4:IntKind.i64.wrap ((a:Int)+(i:Int))=((a+i:Nat):Int):=qD (by omega) (by omega)
  obtain⟨j,hj⟩:=qh2 (a+i)
  rw[<-hj]at w4
  obtain⟨x,hx⟩:∃x,l1[a]?=some x:=⟨_,qgd (by omega)⟩
  obtain⟨y,hy⟩:∃y,l1[j]?=some y:=⟨_,qgd (by omega)⟩
  obtain⟨s2,s3⟩:=s1.step toP (l':=l1) (by omega) (by omega) hx (by rw[<-hj];exact hy)
  clear s3
  rw[<-hj]at s2
  have i1:=wx (e:=2) (c:=c) B N (a) (by omega)
  have i2:=wx (e:=2) (c:=c) B N (j) (by omega)
  have Ls1:loads m' ⟨B,j*2,none⟩ 2=some (qf y):=wJ elP h1 hy none
  have Ls2:loads m' ⟨B,a*2,none⟩ 2=some (qf x):=wJ elP h1 hx none
  obtain⟨ms6,cs1,cs0,hs6,ns6,os6⟩:=zy elP h1 (i:=a) (wC hx) y
  obtain⟨Ms6,hMs6⟩:=qh2 (Dx.behind m' ms6)
  rw[<-hMs6]at hs6 ns6 os6
  obtain⟨ms7,ds1,ds0,hs7,ns7,os7⟩:=zy elP hs6 (i:=j) (by rw[List.length_set];exact wC hy) x
  obtain⟨Ms7,hMs7⟩:=qh2 (Dx.behind Ms6 ms7)
  rw[<-hMs7]at hs7 ns7 os7
  obtain⟨v2,m2,b1,b2,l2,b3,b4,b5⟩:=FF n hs7.mb (SD.arr hs7) (SD.lt hs7) (by rw[List.length_set,List.length_set];omega) (c:=c) (N:=N) (lo:=0) (hi:=i) (s:=a) (by omega) (by omega) hNN s2
  have b1:(ex Tryz.prog (n+4)).f 102 [dV B c N,iv 0,iv i,iv a,fnC] Ms7=some (v2,m2):=b1
  have h2:=SD.callM hs7 b2 b3
  have s4:=(s1.step toP (l':=l2) (by omega) (by omega) hx (by rw[<-hj];exact hy)).2 (by rw[<-hj]at b4 ⊢;exact b4) b5
  simp[tc,t0,t6,t7,t10,w4,i1,i2,Ls1,Ls2,cs1,cs0,<-hMs6,ds1,ds0,<-hMs7,qd,b1,w2]
  exact hK2 hki _ _ ⟨by simp[tc],by simp[t0],by simp[t6],by simp[t7],by simp;omega,l2,h2,(p1.trans (PI.swp (by omega) (by omega) hx hy)).trans (b4.mono (qgg _) (by omega)),by rw[show hi-(k+1)=i by omega];exact s4⟩
 obtain rfl:k=hi:=by omega
 rw[show ((h1':Int)-(k:Int))=-1 by omega]at t10
 rw[Nat.sub_self]at s1
 simp[tc,t0,t6,t7,t10]
 exact zp (kD h1 p1 s1.done)
theorem revP_c (n:Nat){m:M}(hm:m.base<=m.n){B c N a b:Nat}{l:List (Nat × Nat)}(hA:Arr m B (l.flatMap qf))(hB:B<m.n)(hN:l.length=N)(hab:a<b)(hbN:b<=N)(hNN:N<=1000000) :
  MuC (ex Tryz.prog (n+1)) 92 [dV B c N,iv a,iv b,fnC] m B (SoQ qf B a b l λ_ l'=>True):=by
 refine qA (Q:=λv m'=>Mc m m' [B]/\SoQ qf B a b l (λ_ l'=>True) v m') dh9_ok (by simp) ?_
 have w0:=qL (j:=b) (by omega) (by omega)
 obtain⟨b1,hb1⟩:=qh2 (b-1)
 rw[<-hb1]at w0
 simp[w0]
 refine qF (c:=ch9_7) rfl (zH _) (λk t m'=>Tm.get 3 t=fnC/\Tm.get 0 t=dV B c N/\Tm.get 8 t=iv ((a+k:Nat):Int)/\Tm.get 9 t=iv ((b1-k:Nat):Int)/\2*k<=b-a/\∃l',SD m m' B qf l'/\PI a b l l') b (by omega)
  ⟨by simp,by simp,by simp,by simp,by omega,l,SD.start hm hA hB,PI.refl⟩ (λk t m' K hk hI hK=>?_)
 obtain⟨tc,t0,t6,t7,hk2,l1,h1,p1⟩:=hI
 have hlen:=p1.len
 obtain⟨i,hi⟩:=qh2 (a+k)
 obtain⟨j,hj⟩:=qh2 (b1-k)
 rw[<-hi]at t6
 rw[<-hj]at t7
 by_cases hij:i<j
 .have d1:((i:Int)<(j:Int))=True:=eq_true (by omega)
  have d1':(i<j)=True:=eq_true hij
  have w1:=qY (i:=i) (by omega)
  have w2:=qL (j:=j) (by omega) (by omega)
  obtain⟨x,hx⟩:∃x,l1[i]?=some x:=⟨_,qgd (by omega)⟩
  obtain⟨y,hy⟩:∃y,l1[j]?=some y:=⟨_,qgd (by omega)⟩
  have i1:=wx (e:=2) (c:=c) B N (i) (by omega)
  have i2:=wx (e:=2) (c:=c) B N (j) (by omega)
  have Ls1:loads m' ⟨B,j*2,none⟩ 2=some (qf y):=wJ elP h1 hy none
  have Ls2:loads m' ⟨B,i*2,none⟩ 2=some (qf x):=wJ elP h1 hx none
  obtain⟨ms6,cs1,cs0,hs6,ns6,os6⟩:=zy elP h1 (i:=i) (wC hx) y
  obtain⟨Ms6,hMs6⟩:=qh2 (Dx.behind m' ms6)
  rw[<-hMs6]at hs6 ns6 os6
  obtain⟨ms7,ds1,ds0,hs7,ns7,os7⟩:=zy elP hs6 (i:=j) (by rw[List.length_set];exact wC hy) x
  obtain⟨Ms7,hMs7⟩:=qh2 (Dx.behind Ms6 ms7)
  rw[<-hMs7]at hs7 ns7 os7
  simp[tc,t0,t6,t7,d1,d1',i1,i2,Ls1,Ls2,cs1,cs0,<-hMs6,ds1,ds0,<-hMs7,qd,w1,w2]
  exact hK (by omega) _ _ ⟨by simp[tc],by simp[t0],by simp;omega,by simp;omega,by omega,_,hs7,p1.trans (PI.swp (by omega) (by omega) hx hy)⟩
 .have d1:((i:Int)<(j:Int))=False:=eq_false (by omega)
  have d1':(i<j)=False:=eq_false hij
  simp[tc,t0,t6,t7,d1,d1']
  exact zp (kD h1 p1 trivial)
end Go.Sx
namespace Go.Sx
open Go.Dx Go.Proofs
set_option maxRecDepth 10000
theorem ZY (n:Nat){m:M}(hm:m.base<=m.n){B c N a b S:Nat}{s:Int}{l:List Nat}(hA:Arr m B (l.flatMap qP))(hB:B<m.n)(hN:l.length=N)(ha:a<N)(hb:b<N)(hS:Arr m S [iv s])(hSm:S<m.n) :
  MuC (ex Tryz.prog (n+3)) 120 [dV B c N,iv a,iv b,.pointer (some ⟨S,0,none⟩)] m S (λv m'=>∃x y:Nat,v=.tuple #[iv x,iv y]/\((x=a/\y=b)\/(x=b/\y=a))/\∃s':Int,Arr m' S [iv s']):=by
 refine qA (Q:=λv m'=>Mc m m' [S]/\∃x y:Nat,v=.tuple #[iv x,iv y]/\((x=a/\y=b)\/(x=b/\y=a))/\∃s':Int,Arr m' S [iv s']) dk7_ok (by simp) ?_
 have h1:SD m m B qP l:=SD.start hm hA hB
 have ow:Ow m m [S] [(S,[iv s])]:=Ow.start hm (by simpa using ⟨hSm,hS⟩) (by simp)
 obtain⟨x,hx⟩:∃x,l[a]?=some x:=⟨_,qgd (by omega)⟩
 obtain⟨y,hy⟩:∃y,l[b]?=some y:=⟨_,qgd (by omega)⟩
 have i1:=wx (e:=1) (c:=c) B N (a) ha
 rw[Nat.mul_one]at i1
 have i2:=wx (e:=1) (c:=c) B N (b) hb
 rw[Nat.mul_one]at i2
 have e1:load1 m ⟨B,a,none⟩=some (iv x):=qO elI h1 hx none
 have e2:load1 m ⟨B,b,none⟩=some (iv y):=qO elI h1 hy none
 obtain⟨v5,m5,b51,b50,b52,rfl⟩:=qm (jX n (qg m) y x)
 obtain⟨M5,hM5⟩:=qh2 (Dx.behind m m5)
 rw[<-hM5]at b52
 have ow5:=ow.step b52
 cases hc:ltN y x with
 | true =>
  rw[hc]at b51
  have l0:load1 M5 ⟨S,0,none⟩=some (iv s):=(ow5.get 0 rfl).2.2.load1 0 none
  obtain⟨m6,c1,ow6,-⟩:=ow5.store 0 rfl (o:=0) (v:=iv (IntKind.i64.wrap (s+1))) (by simp) rfl
  simp[i1,i2,e1,e2,b51,b50,<-hM5,l0,c1]
  exact Qm ⟨ow6.mc,b,a,by simp,.inr ⟨rfl,rfl⟩,_,(ow6.get 0 rfl).2.2⟩
 | false =>
  rw[hc]at b51
  simp[i1,i2,e1,e2,b51,b50,<-hM5]
  exact Qm ⟨ow5.mc,a,b,by simp,.inl ⟨rfl,rfl⟩,_,(ow5.get 0 rfl).2.2⟩
theorem qbl (n:Nat){m:M}(hm:m.base<=m.n){B c N a b d S:Nat}{s:Int}{l:List Nat}(hA:Arr m B (l.flatMap qP))(hB:B<m.n)(hN:l.length=N)(ha:a<N)(hb:b<N)(hd:d<N)(hS:Arr m S [iv s])(hSm:S<m.n)(hBS:B≠S) :
  MuC (ex Tryz.prog (n+4)) 119 [dV B c N,iv a,iv b,iv d,.pointer (some ⟨S,0,none⟩)] m S (λv m'=>∃x:Nat,v=iv x/\(x=a\/x=b\/x=d)/\∃s':Int,Arr m' S [iv s']):=by
 refine qA (Q:=λv m'=>Mc m m' [S]/\∃x:Nat,v=iv x/\(x=a\/x=b\/x=d)/\∃s':Int,Arr m' S [iv s']) dk6_ok (by simp) ?_
 obtain⟨v1,m1,a1,a2,x1,y1,rfl,e1,s1,hS1⟩:=ZY n hm (c:=c) hA hB hN ha hb hS hSm
 have hm1:m1.base<=m1.n:=by rw[a2.base];exact qgp hm a2.n
 have hx1:x1<N/\y1<N:=by omega
 obtain⟨v2,m2,b1,b2,x2,y2,rfl,e2,s2,hS2⟩:=ZY n hm1 (c:=c) (hA.congr (a2.obj B hB (by simp;exact hBS))) (qgi hB a2.n) hN hx1.2 hd hS1 (qgi hSm a2.n)
 have k2:=a2.trans b2
 have hm2:m2.base<=m2.n:=by rw[k2.base];exact qgp hm k2.n
 obtain⟨v3,m3,c1,c2,x3,y3,rfl,e3,s3,hS3⟩:=ZY n hm2 (c:=c) (hA.congr (k2.obj B hB (by simp;exact hBS))) (qgi hB k2.n) hN hx1.1 (b:=x2) (by omega) hS2 (qgi hSm k2.n)
 simp[a1,b1,c1]
 exact wO ⟨k2.trans c2,y3,by simp,by omega,s3,hS3⟩
theorem ZK (n:Nat){m:M}(hm:m.base<=m.n){B c N a S:Nat}{s:Int}{l:List Nat}(hA:Arr m B (l.flatMap qP))(hB:B<m.n)(hN:l.length=N)(ha:1<=a)(hb:a+1<N)(hNN:N<=1000000)(hS:Arr m S [iv s])(hSm:S<m.n)(hBS:B≠S) :
  MuC (ex Tryz.prog (n+5)) 118 [dV B c N,iv a,.pointer (some ⟨S,0,none⟩)] m S (λv m'=>∃x:Nat,v=iv x/\(a<=x+1/\x<=a+1)/\∃s':Int,Arr m' S [iv s']):=by
 refine qA (Q:=λv m'=>Mc m m' [S]/\∃x:Nat,v=iv x/\(a<=x+1/\x<=a+1)/\∃s':Int,Arr m' S [iv s']) dk5_ok (by simp) ?_
 have w1:=qL (j:=a) (by omega) (by omega)
 have w2:=qY (i:=a) (by omega)
 obtain⟨p,hp⟩:=qh2 (a-1)
 obtain⟨q,hq⟩:=qh2 (a+1)
 rw[<-hp]at w1
 rw[<-hq]at w2
 obtain⟨v1,m1,a1,a2,x1,rfl,e1,s1,hS1⟩:=qbl n hm (c:=c) (a:=p) (b:=a) (d:=q) hA hB hN (by omega) (by omega) (by omega) hS hSm hBS
 simp[w1,w2,a1]
 exact wO ⟨a2,x1,by simp,by omega,s1,hS1⟩
theorem pivO_c (n:Nat){m:M}(hm:m.base<=m.n){B c N a b:Nat}{l:List Nat}(hA:Arr m B (l.flatMap qP))(hB:B<m.n)(hN:l.length=N)(hab:a+8<=b)(hb:b<=N)(hNN:N<=1000000) :
  Dx.Call (ex Tryz.prog (n+6)) 110 [dV B c N,iv a,iv b] m λv _=>gP a b v:=by
 refine qj dj7_ok (by simp) ?_
 have w0:IntKind.i64.wrap ((b:Int)-(a:Int))=((b-a:Nat):Int):=qD (by omega) (by omega)
 obtain⟨L,hL⟩:=qh2 (b-a)
 rw[<-hL]at w0
 have q1:ky .quo (.int .i64 (L:Int)) (.int .i64 4)=some (iv ((L/4:Nat):Int)):=xy (a:=L) (b:=4) (by omega) (by omega)
 obtain⟨q,hq⟩:=qh2 (L/4)
 rw[<-hq]at q1
 have wq:IntKind.i64.wrap (q:Int)=(q:Int):=qD rfl (by omega)
 have wq2:IntKind.i64.wrap ((q:Int)*2)=((q*2:Nat):Int):=qD (by omega) (by omega)
 have wq3:IntKind.i64.wrap ((q:Int)*3)=((q*3:Nat):Int):=qD (by omega) (by omega)
 obtain⟨q2,hq2⟩:=qh2 (q*2)
 obtain⟨q3,hq3⟩:=qh2 (q*3)
 rw[<-hq2]at wq2
 rw[<-hq3]at wq3
 have wi:IntKind.i64.wrap ((a:Int)+(q:Int))=((a+q:Nat):Int):=qD (by omega) (by omega)
 have wj:IntKind.i64.wrap ((a:Int)+(q2:Int))=((a+q2:Nat):Int):=qD (by omega) (by omega)
 have wk:IntKind.i64.wrap ((a:Int)+(q3:Int))=((a+q3:Nat):Int):=qD (by omega) (by omega)
 obtain⟨i,hi⟩:=qh2 (a+q)
 obtain⟨j,hj⟩:=qh2 (a+q2)
 obtain⟨k,hk⟩:=qh2 (a+q3)
 rw[<-hi]at wi
 rw[<-hj]at wj
 rw[<-hk]at wk
 have d8:((8:Int)<=(L:Int))=True:=eq_true (by omega)
 have d8':(8<=L)=True:=eq_true (by omega)
 obtain⟨M0,hM0⟩:=qh2 (Dx.newRow m [iv 0])
 have hM0':Dx.newRow m [zI]=M0:=hM0.symm
 have E0:Ext m M0:=by rw[hM0];exact Ext.row _ _
 have hn0:M0.n=m.n+1:=by rw[hM0,qQ]
 have S0:Arr M0 m.n [iv 0]:=by rw[hM0];exact Arr.row _ _
 have hb0:M0.base<=M0.n:=((Sees.refl hm).ext E0).base
 have A0:Arr M0 B (l.flatMap qP):=hA.congr (E0.obj B hB)
 have fin:∀(m2:M) (i j k:Nat) (s:Int),Mc M0 m2 [m.n]->Arr m2 m.n [iv s]->(a<=i/\i<b)->(a<=j/\j<b)->(a<=k/\k<b) ->
   ∃(v:Nat) (m3:M) (s3:Int),(ex Tryz.prog (n+5)).f 119 [dV B c N,iv i,iv j,iv k,.pointer (some ⟨m.n,0,none⟩)] m2=some (iv v,m3)/\Ext m m3/\(a<=v/\v<b)/\load1 m3 ⟨m.n,0,none⟩=some (iv s3):=λm2 i j k s hM hS h1 h2 h3=>by
  obtain⟨v,m3,e1,e2,x,rfl,e3,s3,e4⟩:=qbl (n+1) (c:=c) (m:=m2) (by rw[hM.base];exact qgp hb0 hM.n) (A0.congr (hM.obj B (by omega) (by simp;omega))) (qgi (by omega) hM.n) hN (a:=i) (b:=j) (d:=k) (by omega) (by omega) (by omega) hS (qgi (by omega) hM.n) (by omega)
  exact⟨x,m3,s3,e1,(E0.mcx hM (by simp) hm).mcx e2 (by simp) hm,by omega,e4.load1 0 none⟩
 by_cases h50:50<=L
 .have d5:((50:Int)<=(L:Int))=True:=eq_true (by omega)
  have d5':(50<=L)=True:=eq_true h50
  obtain⟨v1,m1,a1,a2,x1,rfl,e1,s1,hS1⟩:=ZK n hb0 (c:=c) (a:=i) A0 (by omega) hN (by omega) (by omega) hNN S0 (by omega) (by omega)
  have hm1:m1.base<=m1.n:=by rw[a2.base];exact qgp hb0 a2.n
  obtain⟨v2,m2,b1,b2,x2,rfl,e2,s2,hS2⟩:=ZK n hm1 (c:=c) (a:=j) (A0.congr (a2.obj B (by omega) (by simp;omega))) (qgi (by omega) a2.n) hN (by omega) (by omega) hNN hS1 (qgi (by omega) a2.n) (by omega)
  have k2:=a2.trans b2
  have hm2:m2.base<=m2.n:=by rw[k2.base];exact qgp hb0 k2.n
  obtain⟨v3,m3,c1,c2,x3,rfl,e3,s3,hS3⟩:=ZK n hm2 (c:=c) (a:=k) (A0.congr (k2.obj B (by omega) (by simp;omega))) (qgi (by omega) k2.n) hN (by omega) (by omega) hNN hS2 (qgi (by omega) k2.n) (by omega)
  obtain⟨v,m4,s4,f1,f2,f3,f4⟩:=fin m3 x1 x2 x3 s3 (k2.trans c2) hS3 (by omega) (by omega) (by omega)
  by_cases z0:s4=0
  .rw[z0]at f4
   simp[jQ,w0,q1,wq,wq2,wq3,wi,wj,wk,hM0',d8,d8',d5,d5',a1,b1,c1,f1,f4]
   exact jc f2 (show gP a b _ from ⟨v,1,by simp,f3⟩)
  .by_cases z1:s4=12
   .rw[z1]at f4
    simp[jQ,w0,q1,wq,wq2,wq3,wi,wj,wk,hM0',d8,d8',d5,d5',a1,b1,c1,f1,f4]
    exact jc f2 (show gP a b _ from ⟨v,2,by simp,f3⟩)
   .simp[jQ,w0,q1,wq,wq2,wq3,wi,wj,wk,hM0',d8,d8',d5,d5',a1,b1,c1,f1,f4,z0,z1]
    exact jc f2 (show gP a b _ from ⟨v,0,by simp,f3⟩)
 .have d5:((50:Int)<=(L:Int))=False:=eq_false (by omega)
  have d5':(50<=L)=False:=eq_false h50
  obtain⟨v,m4,s4,f1,f2,f3,f4⟩:=fin M0 i j k 0 Mc.refl S0 (by omega) (by omega) (by omega)
  by_cases z0:s4=0
  .rw[z0]at f4
   simp[jQ,w0,q1,wq,wq2,wq3,wi,wj,wk,hM0',d8,d8',d5,d5',f1,f4]
   exact jc f2 (show gP a b _ from ⟨v,1,by simp,f3⟩)
  .by_cases z1:s4=12
   .rw[z1]at f4
    simp[jQ,w0,q1,wq,wq2,wq3,wi,wj,wk,hM0',d8,d8',d5,d5',f1,f4]
    exact jc f2 (show gP a b _ from ⟨v,2,by simp,f3⟩)
   .simp[jQ,w0,q1,wq,wq2,wq3,wi,wj,wk,hM0',d8,d8',d5,d5',f1,f4,z0,z1]
    exact jc f2 (show gP a b _ from ⟨v,0,by simp,f3⟩)
theorem brkO_c (n:Nat){m:M}(hm:m.base<=m.n){B c N a b:Nat}{l:List Nat}(hA:Arr m B (l.flatMap qP))(hB:B<m.n)(hN:l.length=N)(hab:a+8<=b)(hb:b<=N)(hNN:N<=1000000) :
  MuC (ex Tryz.prog (n+5)) 109 [dV B c N,iv a,iv b] m B (SoQ qP B a b l λ_ l'=>True):=by
 refine qA (Q:=λv m'=>Mc m m' [B]/\SoQ qP B a b l (λ_ l'=>True) v m') dj6_ok (by simp) ?_
 have w0:IntKind.i64.wrap ((b:Int)-(a:Int))=((b-a:Nat):Int):=qD (by omega) (by omega)
 obtain⟨L,hL⟩:=qh2 (b-a)
 rw[<-hL]at w0
 have d8:((8:Int)<=(L:Int))=True:=eq_true (by omega)
 have d8':(8<=L)=True:=eq_true (by omega)
 have cL:=vt (x:=L) (by omega)
 obtain⟨M0,hM0⟩:=qh2 (Dx.newRow m [uv 0])
 have hM0':Dx.newRow m [zU]=M0:=hM0.symm
 have h1:SD m m B qP l:=SD.start hm hA hB
 have E0:Ext m M0:=by rw[hM0];exact Ext.row _ _
 have hn0:M0.n=m.n+1:=by rw[hM0,qQ]
 have hb0:M0.base<=M0.n:=((Sees.refl hm).ext E0).base
 have ow:Ow M0 M0 [m.n] [(m.n,[uv 0])]:=Ow.start hb0 (by simp;exact⟨by omega,by rw[hM0];exact Arr.row _ _⟩) (by simp)
 obtain⟨M1,a1,ow1,-⟩:=ow.store 0 rfl (o:=0) (v:=uv L) (by simp) rfl
 have R1:Arr M1 m.n [uv L]:=(ow1.get 0 rfl).2.2
 have E1:Ext m M1:=E0.mcx ow1.mc (by simp) hm
 obtain⟨v2,M2,b1,b2,kk,rfl,bl,k21⟩:=qbs (n+1) M1 (x:=L) (by omega) (by omega)
 have E2:Ext m M2:=E1.trans b2
 have hmn1:m.n<M1.n:=by have:=ow1.mc.n;omega
 have R2:Arr M2 m.n [uv L]:=R1.congr (b2.obj _ hmn1)
 obtain⟨P,hP⟩:=qh2 (2^kk)
 have hP21:P<=2^21:=by rw[hP];exact Nat.pow_le_pow_right (by decide) k21
 have hPup:L<P:=by rw[hP];exact bl.up
 have hPlo:P<=2*L:=by rw[hP];exact bl.lo (qgi (by decide:0<8) (by rw[hL];omega))
 rw[<-hP]at b1
 have q1:ky .quo (.int .i64 (L:Int)) (.int .i64 4)=some (iv ((L/4:Nat):Int)):=xy (a:=L) (b:=4) (by omega) (by omega)
 obtain⟨q,hq⟩:=qh2 (L/4)
 rw[<-hq]at q1
 have wq2:IntKind.i64.wrap ((q:Int)*2)=((q*2:Nat):Int):=qD (by omega) (by omega)
 obtain⟨q2,hq2⟩:=qh2 (q*2)
 rw[<-hq2]at wq2
 have wj:IntKind.i64.wrap ((a:Int)+(q2:Int))=((a+q2:Nat):Int):=qD (by omega) (by omega)
 obtain⟨e0,he0⟩:=qh2 (a+q2)
 rw[<-he0]at wj
 have we:=qL (j:=e0) (by omega) (by omega)
 have we2:=qY (i:=e0) (by omega)
 obtain⟨e1,he1⟩:=qh2 (e0-1)
 obtain⟨e2,he2⟩:=qh2 (e0+1)
 rw[<-he1]at we
 rw[<-he2]at we2
 simp[jQ,w0,d8,d8',cL,hM0',a1,b1,q1,wq2,wj,we]
 refine qF (c:=DJ) rfl (zH _) (λk t m'=>Tm.get 0 t=dV B c N/\Tm.get 1 t=iv a/\Tm.get 6 t=iv L/\Tm.get 7 t=.pointer (some ⟨m.n,0,none⟩)/\Tm.get 8 t=uv P/\Tm.get 9 t=iv ((e1+k:Nat):Int)/\∃(l':List Nat) (r:Nat),SD m m' B qP l'/\PI a b l l'/\Arr m' m.n [uv r]/\m.n<m'.n/\r<18446744073709551616) 3 (by omega)
  ⟨by simp,by simp,by simp,by simp,by simp,by simp,l,L,h1.callE E2,PI.refl,R2,by have:=b2.n;omega,by omega⟩ (λk t m' K hk hI hK=>?_)
 obtain⟨t0,t1,t6,t7,t8,t9,l1,r,h2,p1,hR,hRn,hr⟩:=hI
 have hlen:=p1.len
 obtain⟨ix,hix⟩:=qh2 (e1+k)
 rw[<-hix]at t9
 by_cases hk3:k<3
 .have d1:((ix:Int)<=(e2:Int))=True:=eq_true (by omega)
  have d1':(ix<=e2)=True:=eq_true (by omega)
  have wn:=qY (i:=ix) (by omega)
  obtain⟨v3,m3,c1,c2,g,g1,rfl,g2⟩:=rnd_c (n+3) h2.mb hR hRn hr
  have h3:=SD.other h2 c2 (qgg _) (by omega)
  have sb:ky .sub (uv P) (.int .u64 1)=some (uv (P-1)):=by
   rw[zO,IntKind.wrap_u64];congr 2;omega
  have an:ky .and (uv g) (uv (P-1))=some (uv (g%P)):=by
   rw[XU g1 (by omega),hP,Nat.and_two_pow_sub_one_eq_mod]
  obtain⟨P1,hP1⟩:=qh2 (P-1)
  rw[<-hP1]at sb an
  obtain⟨o,ho⟩:=qh2 (g%P)
  have ho2:o<P:=by rw[ho];exact Nat.mod_lt _ (by omega)
  rw[<-ho]at an
  have co:xH .i64 (uv o)=some (iv o):=by rw[wV,wrap64 _ (by omega) (by omega)]
  have step:∀(o':Nat) (t':Tm),o'<L->(Tm.get 0 t'=dV B c N/\Tm.get 1 t'=iv a/\Tm.get 6 t'=iv L/\Tm.get 7 t'=.pointer (some ⟨m.n,0,none⟩)/\Tm.get 8 t'=uv P/\Tm.get 9 t'=iv ix/\Tm.get 10 t'=iv o')->FSo qP m B a b l (λ_ l'=>True) (qK VM (ex Tryz.prog (n+4)) (Jk (yd ZS) (ex Tryz.prog (n+4)) K (ju 0 (kQ []) noK) (kQ [])) (ju 1 (Jk (yd ZS) (ex Tryz.prog (n+4)) K (ju 0 (kQ []) noK) (kQ [])) (ju 0 (kQ []) noK)) (kQ []) t' m3):=λo' t' ho' ⟨t0,t1,t6,t7,t8,t9,t10⟩=>by
   have wo:IntKind.i64.wrap ((a:Int)+(o':Int))=((a+o':Nat):Int):=qD (by omega) (by omega)
   obtain⟨j,hj⟩:=qh2 (a+o')
   rw[<-hj]at wo
   obtain⟨x,hx⟩:∃x,l1[ix]?=some x:=⟨_,qgd (by omega)⟩
   obtain⟨y,hy⟩:∃y,l1[j]?=some y:=⟨_,qgd (by omega)⟩
   have i1:=wx (e:=1) (c:=c) B N (ix) (by omega)
   rw[Nat.mul_one]at i1
   have i2:=wx (e:=1) (c:=c) B N (j) (by omega)
   rw[Nat.mul_one]at i2
   have Ls1:load1 m3 ⟨B,j,none⟩=some (iv y):=qO elI h3 hy none
   have Ls2:load1 m3 ⟨B,ix,none⟩=some (iv x):=qO elI h3 hx none
   obtain⟨ms6,cs1,cs0,hs6,ns6,os6⟩:=kC elI h3 (i:=ix) (wC hx) y
   obtain⟨Ms6,hMs6⟩:=qh2 (Dx.behind m3 ms6)
   rw[<-hMs6]at hs6 ns6 os6
   obtain⟨ms7,ds1,ds0,hs7,ns7,os7⟩:=kC elI hs6 (i:=j) (by rw[List.length_set];exact wC hy) x
   obtain⟨Ms7,hMs7⟩:=qh2 (Dx.behind Ms6 ms7)
   rw[<-hMs7]at hs7 ns7 os7
   simp[t0,t1,t6,t7,t8,t9,t10,wo,i1,i2,Ls1,Ls2,cs1,cs0,<-hMs6,ds1,ds0,<-hMs7,wn]
   have hm3:m.n<m3.n:=qgi hRn c2.n
   exact hK hk3 _ _ ⟨by simp[t0],by simp[t1],by simp[t6],by simp[t7],by simp[t8],by simp;omega,_,g,hs7,p1.trans (PI.swp (by omega) (by omega) hx hy),g2.congr (by rw[os7 _ (by omega),os6 _ (by omega)]),by rw[ns7,ns6];exact hm3,g1⟩
  by_cases hoL:L<=o
  .have d2:((L:Int)<=(o:Int))=True:=eq_true (by omega)
   have d2':(L<=o)=True:=eq_true hoL
   have wL:IntKind.i64.wrap ((o:Int)-(L:Int))=((o-L:Nat):Int):=qD (by omega) (by omega)
   simp[-QM,-Zb,jQ,t0,t1,t6,t7,t8,t9,q1,wq2,wj,we2,d1,d1',c1,sb,an,co,d2,d2',wL]
   exact step (o-L) _ (by omega) ⟨by simp[t0],by simp[t1],by simp[t6],by simp[t7],by simp[t8],by simp[t9],by simp⟩
  .have d2:((L:Int)<=(o:Int))=False:=eq_false (by omega)
   have d2':(L<=o)=False:=eq_false hoL
   simp[-QM,-Zb,jQ,t0,t1,t6,t7,t8,t9,q1,wq2,wj,we2,d1,d1',c1,sb,an,co,d2,d2']
   exact step o _ (by omega) ⟨by simp[t0],by simp[t1],by simp[t6],by simp[t7],by simp[t8],by simp[t9],by simp⟩
 .have d1:((ix:Int)<=(e2:Int))=False:=eq_false (by omega)
  have d1':(ix<=e2)=False:=eq_false (by omega)
  simp[jQ,t0,t1,t6,t7,t8,t9,q1,wq2,wj,we2,d1,d1']
  exact zp (kD h2 p1 trivial)
end Go.Sx
namespace Go.Sx
open Go.Dx Go.Proofs
set_option maxRecDepth 10000
theorem ZZ (n:Nat){m:M}(hm:m.base<=m.n){B c N a b S:Nat}{s:Int}{l:List (Nat × Nat)}(hA:Arr m B (l.flatMap qf))(hB:B<m.n)(hN:l.length=N)(ha:a<N)(hb:b<N)(hS:Arr m S [iv s])(hSm:S<m.n) :
  MuC (ex Tryz.prog (n+4)) 116 [dV B c N,iv a,iv b,.pointer (some ⟨S,0,none⟩),fnC] m S (λv m'=>∃x y:Nat,v=.tuple #[iv x,iv y]/\((x=a/\y=b)\/(x=b/\y=a))/\∃s':Int,Arr m' S [iv s']):=by
 refine qA (Q:=λv m'=>Mc m m' [S]/\∃x y:Nat,v=.tuple #[iv x,iv y]/\((x=a/\y=b)\/(x=b/\y=a))/\∃s':Int,Arr m' S [iv s']) dk3_ok (by simp) ?_
 have h1:SD m m B qf l:=SD.start hm hA hB
 have ow:Ow m m [S] [(S,[iv s])]:=Ow.start hm (by simpa using ⟨hSm,hS⟩) (by simp)
 obtain⟨x,hx⟩:∃x,l[a]?=some x:=⟨_,qgd (by omega)⟩
 obtain⟨y,hy⟩:∃y,l[b]?=some y:=⟨_,qgd (by omega)⟩
 have i1:=wx (e:=2) (c:=c) B N (a) ha
 have i2:=wx (e:=2) (c:=c) B N (b) hb
 have e1:loads m ⟨B,a*2,none⟩ 2=some (qf x):=wJ elP h1 hx none
 have e2:loads m ⟨B,b*2,none⟩ 2=some (qf y):=wJ elP h1 hy none
 obtain⟨v5,m5,b51,b50,b52,c5,rfl,q5⟩:=qm (jT n (qg m) y x)
 obtain⟨M5,hM5⟩:=qh2 (Dx.behind m m5)
 rw[<-hM5]at b52
 have ow5:=ow.step b52
 cases hc:ltP y x with
 | true =>
  have e5:(c5<0)=True:=eq_true (q5.2 hc)
  have l0:load1 M5 ⟨S,0,none⟩=some (iv s):=(ow5.get 0 rfl).2.2.load1 0 none
  obtain⟨m6,c1,ow6,-⟩:=ow5.store 0 rfl (o:=0) (v:=iv (IntKind.i64.wrap (s+1))) (by simp) rfl
  simp[i1,i2,e1,e2,b51,b50,e5,qd,<-hM5,l0,c1]
  exact Qm ⟨ow6.mc,b,a,by simp,.inr ⟨rfl,rfl⟩,_,(ow6.get 0 rfl).2.2⟩
 | false =>
  have e5:(c5<0)=False:=eq_false λh=>by rw[q5.1 h]at hc;cases hc
  simp[i1,i2,e1,e2,b51,b50,e5,qd,<-hM5]
  exact Qm ⟨ow5.mc,a,b,by simp,.inl ⟨rfl,rfl⟩,_,(ow5.get 0 rfl).2.2⟩
theorem qbm (n:Nat){m:M}(hm:m.base<=m.n){B c N a b d S:Nat}{s:Int}{l:List (Nat × Nat)}(hA:Arr m B (l.flatMap qf))(hB:B<m.n)(hN:l.length=N)(ha:a<N)(hb:b<N)(hd:d<N)(hS:Arr m S [iv s])(hSm:S<m.n)(hBS:B≠S) :
  MuC (ex Tryz.prog (n+5)) 106 [dV B c N,iv a,iv b,iv d,.pointer (some ⟨S,0,none⟩),fnC] m S (λv m'=>∃x:Nat,v=iv x/\(x=a\/x=b\/x=d)/\∃s':Int,Arr m' S [iv s']):=by
 refine qA (Q:=λv m'=>Mc m m' [S]/\∃x:Nat,v=iv x/\(x=a\/x=b\/x=d)/\∃s':Int,Arr m' S [iv s']) dj3_ok (by simp) ?_
 obtain⟨v1,m1,a1,a2,x1,y1,rfl,e1,s1,hS1⟩:=ZZ n hm (c:=c) hA hB hN ha hb hS hSm
 have hm1:m1.base<=m1.n:=by rw[a2.base];exact qgp hm a2.n
 have hx1:x1<N/\y1<N:=by omega
 obtain⟨v2,m2,b1,b2,x2,y2,rfl,e2,s2,hS2⟩:=ZZ n hm1 (c:=c) (hA.congr (a2.obj B hB (by simp;exact hBS))) (qgi hB a2.n) hN hx1.2 hd hS1 (qgi hSm a2.n)
 have k2:=a2.trans b2
 have hm2:m2.base<=m2.n:=by rw[k2.base];exact qgp hm k2.n
 obtain⟨v3,m3,c1,c2,x3,y3,rfl,e3,s3,hS3⟩:=ZZ n hm2 (c:=c) (hA.congr (k2.obj B hB (by simp;exact hBS))) (qgi hB k2.n) hN hx1.1 (b:=x2) (by omega) hS2 (qgi hSm k2.n)
 simp[a1,b1,c1]
 exact wO ⟨k2.trans c2,y3,by simp,by omega,s3,hS3⟩
theorem ZL (n:Nat){m:M}(hm:m.base<=m.n){B c N a S:Nat}{s:Int}{l:List (Nat × Nat)}(hA:Arr m B (l.flatMap qf))(hB:B<m.n)(hN:l.length=N)(ha:1<=a)(hb:a+1<N)(hNN:N<=1000000)(hS:Arr m S [iv s])(hSm:S<m.n)(hBS:B≠S) :
  MuC (ex Tryz.prog (n+6)) 105 [dV B c N,iv a,.pointer (some ⟨S,0,none⟩),fnC] m S (λv m'=>∃x:Nat,v=iv x/\(a<=x+1/\x<=a+1)/\∃s':Int,Arr m' S [iv s']):=by
 refine qA (Q:=λv m'=>Mc m m' [S]/\∃x:Nat,v=iv x/\(a<=x+1/\x<=a+1)/\∃s':Int,Arr m' S [iv s']) dj2_ok (by simp) ?_
 have w1:=qL (j:=a) (by omega) (by omega)
 have w2:=qY (i:=a) (by omega)
 obtain⟨p,hp⟩:=qh2 (a-1)
 obtain⟨q,hq⟩:=qh2 (a+1)
 rw[<-hp]at w1
 rw[<-hq]at w2
 obtain⟨v1,m1,a1,a2,x1,rfl,e1,s1,hS1⟩:=qbm n hm (c:=c) (a:=p) (b:=a) (d:=q) hA hB hN (by omega) (by omega) (by omega) hS hSm hBS
 simp[w1,w2,a1]
 exact wO ⟨a2,x1,by simp,by omega,s1,hS1⟩
theorem pivP_c (n:Nat){m:M}(hm:m.base<=m.n){B c N a b:Nat}{l:List (Nat × Nat)}(hA:Arr m B (l.flatMap qf))(hB:B<m.n)(hN:l.length=N)(hab:a+8<=b)(hb:b<=N)(hNN:N<=1000000) :
  Dx.Call (ex Tryz.prog (n+7)) 91 [dV B c N,iv a,iv b,fnC] m λv _=>gP a b v:=by
 refine qj dh8_ok (by simp) ?_
 have w0:IntKind.i64.wrap ((b:Int)-(a:Int))=((b-a:Nat):Int):=qD (by omega) (by omega)
 obtain⟨L,hL⟩:=qh2 (b-a)
 rw[<-hL]at w0
 have q1:ky .quo (.int .i64 (L:Int)) (.int .i64 4)=some (iv ((L/4:Nat):Int)):=xy (a:=L) (b:=4) (by omega) (by omega)
 obtain⟨q,hq⟩:=qh2 (L/4)
 rw[<-hq]at q1
 have wq:IntKind.i64.wrap (q:Int)=(q:Int):=qD rfl (by omega)
 have wq2:IntKind.i64.wrap ((q:Int)*2)=((q*2:Nat):Int):=qD (by omega) (by omega)
 have wq3:IntKind.i64.wrap ((q:Int)*3)=((q*3:Nat):Int):=qD (by omega) (by omega)
 obtain⟨q2,hq2⟩:=qh2 (q*2)
 obtain⟨q3,hq3⟩:=qh2 (q*3)
 rw[<-hq2]at wq2
 rw[<-hq3]at wq3
 have wi:IntKind.i64.wrap ((a:Int)+(q:Int))=((a+q:Nat):Int):=qD (by omega) (by omega)
 have wj:IntKind.i64.wrap ((a:Int)+(q2:Int))=((a+q2:Nat):Int):=qD (by omega) (by omega)
 have wk:IntKind.i64.wrap ((a:Int)+(q3:Int))=((a+q3:Nat):Int):=qD (by omega) (by omega)
 obtain⟨i,hi⟩:=qh2 (a+q)
 obtain⟨j,hj⟩:=qh2 (a+q2)
 obtain⟨k,hk⟩:=qh2 (a+q3)
 rw[<-hi]at wi
 rw[<-hj]at wj
 rw[<-hk]at wk
 have d8:((8:Int)<=(L:Int))=True:=eq_true (by omega)
 have d8':(8<=L)=True:=eq_true (by omega)
 obtain⟨M0,hM0⟩:=qh2 (Dx.newRow m [iv 0])
 have hM0':Dx.newRow m [zI]=M0:=hM0.symm
 have E0:Ext m M0:=by rw[hM0];exact Ext.row _ _
 have hn0:M0.n=m.n+1:=by rw[hM0,qQ]
 have S0:Arr M0 m.n [iv 0]:=by rw[hM0];exact Arr.row _ _
 have hb0:M0.base<=M0.n:=((Sees.refl hm).ext E0).base
 have A0:Arr M0 B (l.flatMap qf):=hA.congr (E0.obj B hB)
 have fin:∀(m2:M) (i j k:Nat) (s:Int),Mc M0 m2 [m.n]->Arr m2 m.n [iv s]->(a<=i/\i<b)->(a<=j/\j<b)->(a<=k/\k<b) ->
   ∃(v:Nat) (m3:M) (s3:Int),(ex Tryz.prog (n+6)).f 106 [dV B c N,iv i,iv j,iv k,.pointer (some ⟨m.n,0,none⟩),fnC] m2=some (iv v,m3)/\Ext m m3/\(a<=v/\v<b)/\load1 m3 ⟨m.n,0,none⟩=some (iv s3):=λm2 i j k s hM hS h1 h2 h3=>by
  obtain⟨v,m3,e1,e2,x,rfl,e3,s3,e4⟩:=qbm (n+1) (c:=c) (m:=m2) (by rw[hM.base];exact qgp hb0 hM.n) (A0.congr (hM.obj B (by omega) (by simp;omega))) (qgi (by omega) hM.n) hN (a:=i) (b:=j) (d:=k) (by omega) (by omega) (by omega) hS (qgi (by omega) hM.n) (by omega)
  exact⟨x,m3,s3,e1,(E0.mcx hM (by simp) hm).mcx e2 (by simp) hm,by omega,e4.load1 0 none⟩
 by_cases h50:50<=L
 .have d5:((50:Int)<=(L:Int))=True:=eq_true (by omega)
  have d5':(50<=L)=True:=eq_true h50
  obtain⟨v1,m1,a1,a2,x1,rfl,e1,s1,hS1⟩:=ZL n hb0 (c:=c) (a:=i) A0 (by omega) hN (by omega) (by omega) hNN S0 (by omega) (by omega)
  have hm1:m1.base<=m1.n:=by rw[a2.base];exact qgp hb0 a2.n
  obtain⟨v2,m2,b1,b2,x2,rfl,e2,s2,hS2⟩:=ZL n hm1 (c:=c) (a:=j) (A0.congr (a2.obj B (by omega) (by simp;omega))) (qgi (by omega) a2.n) hN (by omega) (by omega) hNN hS1 (qgi (by omega) a2.n) (by omega)
  have k2:=a2.trans b2
  have hm2:m2.base<=m2.n:=by rw[k2.base];exact qgp hb0 k2.n
  obtain⟨v3,m3,c1,c2,x3,rfl,e3,s3,hS3⟩:=ZL n hm2 (c:=c) (a:=k) (A0.congr (k2.obj B (by omega) (by simp;omega))) (qgi (by omega) k2.n) hN (by omega) (by omega) hNN hS2 (qgi (by omega) k2.n) (by omega)
  obtain⟨v,m4,s4,f1,f2,f3,f4⟩:=fin m3 x1 x2 x3 s3 (k2.trans c2) hS3 (by omega) (by omega) (by omega)
  by_cases z0:s4=0
  .rw[z0]at f4
   simp[jQ,w0,q1,wq,wq2,wq3,wi,wj,wk,hM0',d8,d8',d5,d5',a1,b1,c1,f1,f4]
   exact jc f2 (show gP a b _ from ⟨v,1,by simp,f3⟩)
  .by_cases z1:s4=12
   .rw[z1]at f4
    simp[jQ,w0,q1,wq,wq2,wq3,wi,wj,wk,hM0',d8,d8',d5,d5',a1,b1,c1,f1,f4]
    exact jc f2 (show gP a b _ from ⟨v,2,by simp,f3⟩)
   .simp[jQ,w0,q1,wq,wq2,wq3,wi,wj,wk,hM0',d8,d8',d5,d5',a1,b1,c1,f1,f4,z0,z1]
    exact jc f2 (show gP a b _ from ⟨v,0,by simp,f3⟩)
 .have d5:((50:Int)<=(L:Int))=False:=eq_false (by omega)
  have d5':(50<=L)=False:=eq_false h50
  obtain⟨v,m4,s4,f1,f2,f3,f4⟩:=fin M0 i j k 0 Mc.refl S0 (by omega) (by omega) (by omega)
  by_cases z0:s4=0
  .rw[z0]at f4
   simp[jQ,w0,q1,wq,wq2,wq3,wi,wj,wk,hM0',d8,d8',d5,d5',f1,f4]
   exact jc f2 (show gP a b _ from ⟨v,1,by simp,f3⟩)
  .by_cases z1:s4=12
   .rw[z1]at f4
    simp[jQ,w0,q1,wq,wq2,wq3,wi,wj,wk,hM0',d8,d8',d5,d5',f1,f4]
    exact jc f2 (show gP a b _ from ⟨v,2,by simp,f3⟩)
   .simp[jQ,w0,q1,wq,wq2,wq3,wi,wj,wk,hM0',d8,d8',d5,d5',f1,f4,z0,z1]
    exact jc f2 (show gP a b _ from ⟨v,0,by simp,f3⟩)
theorem brkP_c (n:Nat){m:M}(hm:m.base<=m.n){B c N a b:Nat}{l:List (Nat × Nat)}(hA:Arr m B (l.flatMap qf))(hB:B<m.n)(hN:l.length=N)(hab:a+8<=b)(hb:b<=N)(hNN:N<=1000000) :
  MuC (ex Tryz.prog (n+5)) 90 [dV B c N,iv a,iv b,fnC] m B (SoQ qf B a b l λ_ l'=>True):=by
 refine qA (Q:=λv m'=>Mc m m' [B]/\SoQ qf B a b l (λ_ l'=>True) v m') dh7_ok (by simp) ?_
 have w0:IntKind.i64.wrap ((b:Int)-(a:Int))=((b-a:Nat):Int):=qD (by omega) (by omega)
 obtain⟨L,hL⟩:=qh2 (b-a)
 rw[<-hL]at w0
 have d8:((8:Int)<=(L:Int))=True:=eq_true (by omega)
 have d8':(8<=L)=True:=eq_true (by omega)
 have cL:=vt (x:=L) (by omega)
 obtain⟨M0,hM0⟩:=qh2 (Dx.newRow m [uv 0])
 have hM0':Dx.newRow m [zU]=M0:=hM0.symm
 have h1:SD m m B qf l:=SD.start hm hA hB
 have E0:Ext m M0:=by rw[hM0];exact Ext.row _ _
 have hn0:M0.n=m.n+1:=by rw[hM0,qQ]
 have hb0:M0.base<=M0.n:=((Sees.refl hm).ext E0).base
 have ow:Ow M0 M0 [m.n] [(m.n,[uv 0])]:=Ow.start hb0 (by simp;exact⟨by omega,by rw[hM0];exact Arr.row _ _⟩) (by simp)
 obtain⟨M1,a1,ow1,-⟩:=ow.store 0 rfl (o:=0) (v:=uv L) (by simp) rfl
 have R1:Arr M1 m.n [uv L]:=(ow1.get 0 rfl).2.2
 have E1:Ext m M1:=E0.mcx ow1.mc (by simp) hm
 obtain⟨v2,M2,b1,b2,kk,rfl,bl,k21⟩:=qbs (n+1) M1 (x:=L) (by omega) (by omega)
 have E2:Ext m M2:=E1.trans b2
 have hmn1:m.n<M1.n:=by have:=ow1.mc.n;omega
 have R2:Arr M2 m.n [uv L]:=R1.congr (b2.obj _ hmn1)
 obtain⟨P,hP⟩:=qh2 (2^kk)
 have hP21:P<=2^21:=by rw[hP];exact Nat.pow_le_pow_right (by decide) k21
 have hPup:L<P:=by rw[hP];exact bl.up
 have hPlo:P<=2*L:=by rw[hP];exact bl.lo (qgi (by decide:0<8) (by rw[hL];omega))
 rw[<-hP]at b1
 have q1:ky .quo (.int .i64 (L:Int)) (.int .i64 4)=some (iv ((L/4:Nat):Int)):=xy (a:=L) (b:=4) (by omega) (by omega)
 obtain⟨q,hq⟩:=qh2 (L/4)
 rw[<-hq]at q1
 have wq2:IntKind.i64.wrap ((q:Int)*2)=((q*2:Nat):Int):=qD (by omega) (by omega)
 obtain⟨q2,hq2⟩:=qh2 (q*2)
 rw[<-hq2]at wq2
 have wj:IntKind.i64.wrap ((a:Int)+(q2:Int))=((a+q2:Nat):Int):=qD (by omega) (by omega)
 obtain⟨e0,he0⟩:=qh2 (a+q2)
 rw[<-he0]at wj
 have we:=qL (j:=e0) (by omega) (by omega)
 have we2:=qY (i:=e0) (by omega)
 obtain⟨e1,he1⟩:=qh2 (e0-1)
 obtain⟨e2,he2⟩:=qh2 (e0+1)
 rw[<-he1]at we
 rw[<-he2]at we2
 simp[jQ,w0,d8,d8',cL,hM0',a1,b1,q1,wq2,wj,we]
 refine qF (c:=Ds) rfl (zH _) (λk t m'=>Tm.get 3 t=fnC/\Tm.get 0 t=dV B c N/\Tm.get 1 t=iv a/\Tm.get 8 t=iv L/\Tm.get 9 t=.pointer (some ⟨m.n,0,none⟩)/\Tm.get 10 t=uv P/\Tm.get 11 t=iv ((e1+k:Nat):Int)/\∃(l':List (Nat × Nat)) (r:Nat),SD m m' B qf l'/\PI a b l l'/\Arr m' m.n [uv r]/\m.n<m'.n/\r<18446744073709551616) 3 (by omega)
  ⟨by simp,by simp,by simp,by simp,by simp,by simp,by simp,l,L,h1.callE E2,PI.refl,R2,by have:=b2.n;omega,by omega⟩ (λk t m' K hk hI hK=>?_)
 obtain⟨tc,t0,t1,t6,t7,t8,t9,l1,r,h2,p1,hR,hRn,hr⟩:=hI
 have hlen:=p1.len
 obtain⟨ix,hix⟩:=qh2 (e1+k)
 rw[<-hix]at t9
 by_cases hk3:k<3
 .have d1:((ix:Int)<=(e2:Int))=True:=eq_true (by omega)
  have d1':(ix<=e2)=True:=eq_true (by omega)
  have wn:=qY (i:=ix) (by omega)
  obtain⟨v3,m3,c1,c2,g,g1,rfl,g2⟩:=rnd_c (n+3) h2.mb hR hRn hr
  have h3:=SD.other h2 c2 (qgg _) (by omega)
  have sb:ky .sub (uv P) (.int .u64 1)=some (uv (P-1)):=by
   rw[zO,IntKind.wrap_u64];congr 2;omega
  have an:ky .and (uv g) (uv (P-1))=some (uv (g%P)):=by
   rw[XU g1 (by omega),hP,Nat.and_two_pow_sub_one_eq_mod]
  obtain⟨P1,hP1⟩:=qh2 (P-1)
  rw[<-hP1]at sb an
  obtain⟨o,ho⟩:=qh2 (g%P)
  have ho2:o<P:=by rw[ho];exact Nat.mod_lt _ (by omega)
  rw[<-ho]at an
  have co:xH .i64 (uv o)=some (iv o):=by rw[wV,wrap64 _ (by omega) (by omega)]
  have step:∀(o':Nat) (t':Tm),o'<L->(Tm.get 3 t'=fnC/\Tm.get 0 t'=dV B c N/\Tm.get 1 t'=iv a/\Tm.get 8 t'=iv L/\Tm.get 9 t'=.pointer (some ⟨m.n,0,none⟩)/\Tm.get 10 t'=uv P/\Tm.get 11 t'=iv ix/\Tm.get 12 t'=iv o')->FSo qf m B a b l (λ_ l'=>True) (qK VL (ex Tryz.prog (n+4)) (Jk (yd ZR) (ex Tryz.prog (n+4)) K (ju 0 (kQ []) noK) (kQ [])) (ju 1 (Jk (yd ZR) (ex Tryz.prog (n+4)) K (ju 0 (kQ []) noK) (kQ [])) (ju 0 (kQ []) noK)) (kQ []) t' m3):=λo' t' ho' ⟨tc,t0,t1,t6,t7,t8,t9,t10⟩=>by
   have wo:IntKind.i64.wrap ((a:Int)+(o':Int))=((a+o':Nat):Int):=qD (by omega) (by omega)
   obtain⟨j,hj⟩:=qh2 (a+o')
   rw[<-hj]at wo
   obtain⟨x,hx⟩:∃x,l1[ix]?=some x:=⟨_,qgd (by omega)⟩
   obtain⟨y,hy⟩:∃y,l1[j]?=some y:=⟨_,qgd (by omega)⟩
   have i1:=wx (e:=2) (c:=c) B N (ix) (by omega)
   have i2:=wx (e:=2) (c:=c) B N (j) (by omega)
   have Ls1:loads m3 ⟨B,j*2,none⟩ 2=some (qf y):=wJ elP h3 hy none
   have Ls2:loads m3 ⟨B,ix*2,none⟩ 2=some (qf x):=wJ elP h3 hx none
   obtain⟨ms6,cs1,cs0,hs6,ns6,os6⟩:=zy elP h3 (i:=ix) (wC hx) y
   obtain⟨Ms6,hMs6⟩:=qh2 (Dx.behind m3 ms6)
   rw[<-hMs6]at hs6 ns6 os6
   obtain⟨ms7,ds1,ds0,hs7,ns7,os7⟩:=zy elP hs6 (i:=j) (by rw[List.length_set];exact wC hy) x
   obtain⟨Ms7,hMs7⟩:=qh2 (Dx.behind Ms6 ms7)
   rw[<-hMs7]at hs7 ns7 os7
   simp[tc,t0,t1,t6,t7,t8,t9,t10,wo,i1,i2,Ls1,Ls2,cs1,cs0,<-hMs6,ds1,ds0,<-hMs7,qd,wn]
   have hm3:m.n<m3.n:=qgi hRn c2.n
   exact hK hk3 _ _ ⟨by simp[tc],by simp[t0],by simp[t1],by simp[t6],by simp[t7],by simp[t8],by simp;omega,_,g,hs7,p1.trans (PI.swp (by omega) (by omega) hx hy),g2.congr (by rw[os7 _ (by omega),os6 _ (by omega)]),by rw[ns7,ns6];exact hm3,g1⟩
  by_cases hoL:L<=o
  .have d2:((L:Int)<=(o:Int))=True:=eq_true (by omega)
   have d2':(L<=o)=True:=eq_true hoL
   have wL:IntKind.i64.wrap ((o:Int)-(L:Int))=((o-L:Nat):Int):=qD (by omega) (by omega)
   simp[-QM,-Za,jQ,tc,t0,t1,t6,t7,t8,t9,q1,wq2,wj,we2,d1,d1',c1,sb,an,co,d2,d2',wL]
   exact step (o-L) _ (by omega) ⟨by simp[tc],by simp[t0],by simp[t1],by simp[t6],by simp[t7],by simp[t8],by simp[t9],by simp⟩
  .have d2:((L:Int)<=(o:Int))=False:=eq_false (by omega)
   have d2':(L<=o)=False:=eq_false hoL
   simp[-QM,-Za,jQ,tc,t0,t1,t6,t7,t8,t9,q1,wq2,wj,we2,d1,d1',c1,sb,an,co,d2,d2']
   exact step o _ (by omega) ⟨by simp[tc],by simp[t0],by simp[t1],by simp[t6],by simp[t7],by simp[t8],by simp[t9],by simp⟩
 .have d1:((ix:Int)<=(e2:Int))=False:=eq_false (by omega)
  have d1':(ix<=e2)=False:=eq_false (by omega)
  simp[jQ,tc,t0,t1,t6,t7,t8,t9,q1,wq2,wj,we2,d1,d1']
  exact zp (kD h2 p1 trivial)
end Go.Sx
