/- Contracts. -/
import Derived.Test.YtifpodmojagpiaaGreatGc
import Derived.Test.YtifpodmojagpiaaGreatGb2
set_option linter.unusedVariables false
set_option linter.unusedSimpArgs false
set_option linter.defProp false
set_option maxHeartbeats 1000000
namespace Go.Dx
section
variable {m0 m m':M}{σ:List (Nat × List Value)}{k b:Nat}{l:List Value}
theorem St.keepOn (h:St m0 m σ)(e:Ext m0 m')(hn:m.n<=m'.n)(ho:∀p∈σ,m'.obj p.1=m.obj p.1):St m0 m' σ :=
 ⟨e,h.base,λp hp=>let ⟨h1,h2,h3⟩:=h.arr p hp;⟨h1,by omega,h3.congr (ho p hp)⟩,h.nd⟩
theorem St.fill (h:St m0 m σ)(k:Nat)(hk:σ[k]?=some (b,l)){n:Nat}{l':List Value}(hl:l.length=n)(hl':l'.length=n)(hv:∀v∈l',okC v=true) :
  ∃m',wt n (.pointer (some ⟨b,0,none⟩)) (.agg ⟨l'⟩) m=some (undef,m')/\St m0 m' (σ.set k (b,l'))/\m'.n=m.n/\∀X,X≠b->m'.obj X=m.obj X:=by
 obtain⟨h1,h2,h3⟩:=h.get k hk
 have e:=kf (n:=n) (o:=0) (v:=.agg ⟨l'⟩) (l:=l') h3 rfl hl' (by omega) hv
 obtain⟨_,s2,s3,s4,s5,s6⟩:=wD (o:=0) (l:=l') h3 (by omega) hv
 rw[kG (by omega)]at s2
 exact⟨_,e,h.put' k hk s3 s4 (s6 (by have:=h.ext.base;have:=h.base;omega)) s5 s2,s3,s5⟩
end
theorem Grown.okC {α:Type}{m0 m:M}{v:Value}{e:Nat}{f:α->List Value}{es:List α}(h:Grown m0 m v e f es):Dx.okC v=true:=by
 rcases h with ⟨_,rfl⟩ | ⟨B,_,_,_,rfl,_⟩<;>rfl
@[simp] theorem qft (m:M) (a b:Int):ki 2 1 (rep 1 [zI,zI]) [(0,2,.agg ⟨[.int .i64 a,.int .i64 b]⟩)] m=some (.slice (some ⟨m.n,0,some 5⟩) 1 1,newRow m [.int .i64 a,.int .i64 b]):=_root_.id rfl
@[simp] theorem qg7 (a b:Int):qW [zI,zI] [(0,1,.int .i64 a),(1,1,.int .i64 b)]=some (.agg ⟨[.int .i64 a,.int .i64 b]⟩):=_root_.id rfl
end Go.Dx
namespace Go.Sx
open Go.Dx Go.Proofs
end Go.Sx
namespace Go.Sx
open Go.Dx Go.Proofs
theorem qbx (n:Nat)(PB:Nat)(ed:Value)(es:List (Int × Int))(i:Nat)(hi:i<es.length)(hl:es.length<=1000)(m:M)(hm:m.base<=m.n)(hPB:PB<m.n)(hp:load1 m ⟨PB,0,none⟩=some ed)(hed:Rd m ed 2 edgeRow es) :
  CallV (ex Tryz.prog (n+2)) 12 [.pointer (some ⟨PB,0,none⟩),iv i] m (iv (eAt es (ahN es.length i)).2):=by
 refine qy da7_ok (by simp) ?_
 obtain⟨e,he⟩:∃e,es[ahN es.length i]?=some e:=⟨_,qgn (fL hi)⟩
 have ⟨a1,a2,a3⟩:=hed.at he
 have c1:=Call.use (m0:=m) λm'' h=>vn n PB ed es.length i hi hl m'' (by rw[qQ h hPB];exact hp) hed.len
 have hS:=Sees.refl hm
 have a4:∀m'',Sees m m''->load1 m'' ⟨(adr 2 ed (ahN es.length i)).block,(adr 2 ed (ahN es.length i)).off+1,none⟩=some (iv e.2):=λm'' h=>a3 m'' 1 none h (by simp[edgeRow])
 have a5:(eAt es (ahN es.length i)).2=e.2:=by rw[zm he]
 simp (maxDischargeDepth:=30) [hp,a1,c1,hS,a4,a5]
 exact qp (by simp (maxDischargeDepth:=30) [c1,hS]) (by simp)
def wrR (es:List (Int × Int))(b c:Nat):Nat:=(List.range es.length).countP λi=>qu es i&&decide (kY es b true i=c)
end Go.Sx
namespace Go.Sx
open Go.Dx Go.Proofs
def back (len:Nat):Nat->Nat->Nat
 | 0,i=>i
 | k+1,i=>ahN len (back len k i)
structure Stop (es:List (Int × Int))(i d:Nat):Prop where
 out:∀j,j<d->qv es (ahN es.length (back es.length j i))=true
 inn:qv es (ahN es.length (back es.length d i))=false
 le:d<=1000
def bw (es:List (Int × Int))(i d:Nat):Nat:=(List.range d).countP λt=>qu es (back es.length (t+1) i)
theorem bw_le (es:List (Int × Int))(i d:Nat):bw es i d<=d:=by
 unfold bw;have:=List.countP_le_length (p:=λt=>qu es (back es.length (t+1) i)) (l:=List.range d);simpa using this
def xX (es:List (Int × Int))(V:Nat->Nat)(i:Nat):Nat:=if qu es i then V i else if (eAt es (ahN es.length i)).1=1 then V (ahN es.length i) else 0
end Go.Sx
namespace Go.Dx
def upN {α:Type}(f:Nat->α)(j:Nat)(v:α):Nat->α:=λk=>if k=j then v else f k
theorem wJ {α:Type}(f:Nat->α)(j:Nat)(v:α):upN f j v j=v:=by unfold upN;rw[if_pos rfl]
theorem kZ {α:Type}(f:Nat->α){j k:Nat}(v:α)(h:k≠j):upN f j v k=f k:=by unfold upN;rw[if_neg h]
theorem yv {e n:Nat}{f:Nat->List Value}(h:∀j,(f j).length=e):((List.range n).flatMap f).length=n*e:=by
 have:=wP h (List.range n);simpa using this
theorem Wk {e:Nat}{f g:Nat->List Value}{j o:Nat}{v:Value}(hf:∀k,(f k).length=e)(ho:o<e)(hne:∀k,k≠j->g k=f k)(hj:g j=(f j).set o v):∀n,j<n->((List.range n).flatMap f).set (j*e+o) v=(List.range n).flatMap g:=by
 intro n
 induction n with
 | zero=>intro h;omega
 | succ n ih =>
  intro h
  rw[List.range_succ,List.flatMap_append,List.flatMap_append]
  have hl:=yv (n:=n) hf
  by_cases e':j=n
  .subst e'
   have key:∀m,m<=j->(List.range m).flatMap g=(List.range m).flatMap f:=by
    intro m
    induction m with
    | zero=>intro _;rfl
    | succ m im=>intro hm;rw[List.range_succ,List.flatMap_append,List.flatMap_append,im (by omega)];simp[hne m (by omega)]
   rw[key j (qgq _),List.set_append_right _ _ (by omega),hl,show j*e+o-j*e=o by omega]
   simp[hj]
  .have hjn:j<n:=by omega
   have:=qh8 e (Nat.succ_le_of_lt hjn)
   rw[Nat.succ_mul]at this
   rw[List.set_append_left _ _ (by omega),ih hjn]
   simp[hne n (by omega)]
theorem XD (n:Nat)(l:List Value):rep n l=(List.range n).flatMap λ_=>l:=by
 induction n with
 | zero=>rfl
 | succ n ih =>
  rw[List.range_succ_eq_map,List.flatMap_cons,List.flatMap_map]
  show l++rep n l=_
  rw[ih]
theorem yg {e c:Nat}(B n i:Nat)(h:i<n):wZ e (.slice (some ⟨B,0,some c⟩) n n) (.int .i64 i)=some (.pointer (some ⟨B,i*e,none⟩)):=by
 show (bif Nat.blt i n then WW (i*e) ⟨B,0,some c⟩ else none)=_
 rw[show Nat.blt i n=true from qgv h]
 show some (Value.pointer (some ⟨B,0+i*e,none⟩))=_
 rw[Nat.zero_add]
theorem xJ {α:Type}{m:M}{B c e:Nat}{f:α->List Value}(hf:∀x,(f x).length=e){l:List α}(h:Arr m B (l.flatMap f))(hB:B<m.n):Rd m (.slice (some ⟨B,0,some c⟩) l.length l.length) e f l:=by
 have hlen:=wP hf l
 refine⟨rfl,λi r hr=>?_,?_,λC hC=>by cases hC;exact hB⟩
 .have hi:=(qgp.1 hr).1
  refine⟨?_,hB,?_⟩
  .rw[yg B _ i hi]
   show _=some (Value.pointer (some ⟨B,0+i*e,none⟩))
   rw[Nat.zero_add]
  .show loads m ⟨B,0+i*e,none⟩ e=_
   have:=qh8 e (Nat.succ_le_of_lt hi)
   rw[Nat.succ_mul]at this
   rw[Nat.zero_add,h.loads (by omega),jz hf l i r hr]
 .show loads m _ (l.length*e)=_
  rw[h.loads (by omega),List.drop_zero,<-hlen,List.take_length]
theorem Wh {e:Nat}{f:Nat->List Value}(hf:∀j,(f j).length=e){n j o:Nat}(hj:j<n)(ho:o<e):((List.range n).flatMap f)[j*e+o]?=(f j)[o]?:=by
 have:=jz hf (List.range n) j j (by rw[List.getElem?_range hj])
 have h2:=congrArg (λl=>l[o]?) this
 simp only[List.getElem?_take,ho,if_true,List.getElem?_drop]at h2
 exact h2
theorem Fo {n e bytes:Nat}{zs:List Value}(hz:zs.length=e)(h:n<=1000)(hb:bytes<=1000)(he:e<=100)(m:M):bi e bytes zs (.int .i64 (n:Int)) (.int .i64 (n:Int)) m=some (.slice (some ⟨m.n,0,some (code e true)⟩) n n,newRow m ((List.range n).flatMap λ_=>zs)):=by
 show (bif Nat.ble n n&&Nat.ble (n*bytes) most&&Nat.ble n 4611686018427387904&&Nat.ble (n*e) 1048576 then some (Value.slice (some ⟨m.n,0,some (code e true)⟩) n n,newRow m (rep n zs)) else none)=_
 have h1:n*bytes<=1000*1000:=Nat.mul_le_mul h hb
 have h2:n*e<=1000*100:=Nat.mul_le_mul h he
 rw[qgv (qgq n),qgv (by unfold most;omega),qgv (by omega),qgv (by omega),XD]
 rfl
@[simp] theorem pConvI_ap (k:IntKind) (a:V) (t:Tm):zL k a t=bZ k (a t):=_root_.id rfl
@[simp] theorem vd (x:Nat) (h:x<1000000):bZ .u64 (.int .i64 (x:Int))=some (.int .u64 (x:Int)):=by
 show some (Value.int .u64 (vv .u64 (x:Int)))=_
 rw[zD]
 have:IntKind.u64.wrap (x:Int)=(x:Int):=by
  unfold IntKind.wrap;simp[IntKind.bits,IntKind.signed];omega
 rw[this]
end Go.Dx
namespace Go.Dx
section
variable {m0 m m':M}{σ σ':List (Nat × List Value)}{k b:Nat}{l:List Value}
theorem St.sub (h:St m0 m σ)(hs:∀p∈σ',p∈σ)(hn:(σ'.map (·.1)).Nodup):St m0 m σ':=⟨h.ext,h.base,λp hp=>h.arr p (hs p hp),hn⟩
theorem Grown.low {α:Type}{m0 m0' m:M}{v:Value}{e:Nat}{f:α->List Value}{es:List α}(h:Grown m0 m v e f es)(hn:m0'.n<=m0.n):Grown m0' m v e f es:=by
 rcases h with h | ⟨B,h1,h2⟩
 .exact .inl h
 .exact .inr ⟨B,by omega,h2⟩
theorem St.fillAny (h:St m0 m σ)(k:Nat)(hk:σ[k]?=some (b,l)){n:Nat}{l':List Value}(hn0:0<n)(hl:l.length=n)(hl':l'.length=n)(hv:∀v∈l',okC v=true) :
  ∃m',wt n (.pointer (some ⟨b,0,none⟩)) (.agg ⟨l'⟩) (qc m)=some (undef,m')/\m'.log=[b]/\St m0 (Dx.behind m m') (σ.set k (b,l'))/\(Dx.behind m m').n=m.n/\(∀X,X≠b->(Dx.behind m m').obj X=m.obj X):=by
 obtain⟨h1,h2,h3⟩:=h.get k hk
 have h3':Arr (qc m) b l:=h3.congr (qm m b)
 have e:=kf (n:=n) (o:=0) (v:=.agg ⟨l'⟩) (l:=l') h3' rfl hl' (by omega) hv
 obtain⟨s1,s2,s3,s4,s5,s6⟩:=wD (o:=0) (l:=l') h3' (by omega) hv
 rw[kG (by omega)]at s2
 have hlog:(ji (qc m) b 0 l').log=[b]:=by
  obtain⟨c,hc,hcl⟩:=h3'
  obtain⟨v0,vs,rfl⟩:∃v0 vs,l'=v0::vs:=by
   cases l' with
   | nil=>simp at hl';omega
   | cons a b=>exact⟨a,b,rfl⟩
  have:∃c',wx (qc m) ⟨b,0,none⟩ (v0::vs)=some ((qc m).put b (.cells c')):=by
   have hs:wx (qc m) ⟨b,0,none⟩ (v0::vs)=ob (vN ((qc m).obj b)) λc=>ob (stn c 0 (v0::vs)) λc'=>some ((qc m).put b (.cells c')):=rfl
   rw[hs,hc]
   obtain⟨c',e',_⟩:=dS (vs:=v0::vs) (o:=0) hcl (by omega) hv
   exact⟨c',by show ob (stn c 0 (v0::vs)) _=_;rw[e'];rfl⟩
  obtain⟨c',e'⟩:=this
  have hp:ji (qc m) b 0 (v0::vs)=(qc m).put b (.cells c'):=by unfold ji;rw[e'];rfl
  rw[hp]
  cases m with | mk a nx bs wl =>
  show note nx b []=[b]
  have h2':b<nx:=h2
  unfold note
  have:Nat.ble nx b=false:=by
   cases q:Nat.ble nx b with
   | false=>rfl
   | true=>exact absurd (qgw q) (by omega)
  rw[this];rfl
 refine⟨_,e,hlog,h.put' k hk (by rw[wb,s3,qt]) (kj _ _) ?_ (λX hX=>by rw[qx,s5 X hX,qm]) (s2.congr (qx _ _ _)),by rw[wb,s3,qt],λX hX=>by rw[qx,s5 X hX,qm]⟩
 rw[km,hlog]
 refine yE λB hB=>?_
 rw[qgu.1 hB,h.ext.base]
 have:=h.base
 omega
end
end Go.Dx
namespace Go.Dx
end Go.Dx
namespace Go.Sx
open Go.Dx Go.Proofs
theorem grown_low {α:Type}{m0 m:M}{v:Value}{e:Nat}{f:α->List Value}{es:List α}(h:Grown m0 m v e f es):∀B,blk v=some B->m0.n<=B/\B<m.n:=by
 rcases h with ⟨_,rfl⟩ | ⟨B',h1,h2,_,rfl,_⟩
 .intro B hB;cases hB
 .intro B hB;cases hB;exact⟨h1,h2⟩
structure LF (m1:M)(PB A5 A6 A7 c1:Nat)(ed ec md:Value)(es:List (Int × Int))(ms:List Int)(TH CE VA:Nat->Nat):Prop where
 lP:PB<m1.n
 l5:A5<m1.n
 l6:A6<m1.n
 l7:A7<m1.n
 lc:c1<m1.n
 p0:load1 m1 ⟨PB,0,none⟩=some ed
 p5:load1 m1 ⟨PB,5,none⟩=some (.slice (some ⟨A5,0,some 3⟩) es.length es.length)
 p6:load1 m1 ⟨PB,6,none⟩=some (.slice (some ⟨A6,0,some 3⟩) es.length es.length)
 p7:load1 m1 ⟨PB,7,none⟩=some (.slice (some ⟨A7,0,some 3⟩) es.length es.length)
 a5:∀i,i<es.length->load1 m1 ⟨A5,i,none⟩=some (iv (TH i))
 a6:∀i,i<es.length->load1 m1 ⟨A6,i,none⟩=some (iv (CE i))
 a7:∀i,i<es.length->load1 m1 ⟨A7,i,none⟩=some (iv (VA i))
 hed:Rd m1 ed 2 edgeRow es
 c1m:load1 m1 ⟨c1,1,none⟩=some md
 hmd:Rd m1 md 1 modeRow ms
 small:∀i,VA i<1000000
theorem LF.sees {m1 m:M}{PB A5 A6 A7 c1:Nat}{ed ec md:Value}{es:List (Int × Int)}{ms:List Int}{TH CE VA:Nat->Nat}(h:LF m1 PB A5 A6 A7 c1 ed ec md es ms TH CE VA)(k:Sees m1 m):LF m PB A5 A6 A7 c1 ed ec md es ms TH CE VA:=by
 have hn:=k.n
 exact⟨qgs h.lP hn,qgs h.l5 hn,qgs h.l6 hn,qgs h.l7 hn,qgs h.lc hn,(qQ k h.lP).trans h.p0,(qQ k h.lP).trans h.p5,(qQ k h.lP).trans h.p6,(qQ k h.lP).trans h.p7,
  λi hi=>(qQ k h.l5).trans (h.a5 i hi),λi hi=>(qQ k h.l6).trans (h.a6 i hi),λi hi=>(qQ k h.l7).trans (h.a7 i hi),h.hed.sees k,(qQ k h.lc).trans h.c1m,h.hmd.sees k,h.small⟩
def yu (es:List (Int × Int))(i:Nat):Int:=(eAt es (ahN es.length i)).2
structure BV (es:List (Int × Int))(va:List Nat)(TH CE VA WR:Nat->Nat):Prop where
 th:∀i,i<es.length->(xk es (es.length-cnt es) (wi es (wM es))).th[i]?=some (TH i)
 tl:∀i,i<es.length->TH i<cnt es
 ce:∀i,i<es.length->(xk es (es.length-cnt es) (wi es (wM es))).ce[i]?=some (CE i)
 va:∀i,i<es.length->va[i]?=some (VA i)
 wr:∀x,x<es.length-cnt es->(xk es (es.length-cnt es) (wi es (wM es))).wr[x]?=some (WR x)
 vs:∀i,VA i<1000000
 ws:∀i,WR i<1000000
theorem _root_.Go.Dx.Rd.okV {α:Type}{m:M}{v:Value}{e:Nat}{f:α->List Value}{es:List α}(h:Rd m v e f es):Dx.okC v=true:=by
 have:=h.len
 cases v with
 | slice a n c=>rfl
 | _=>cases this
end Go.Sx
namespace Go.Sx
open Go.Dx Go.Proofs
structure AR where
 op:Int
 dst:Int
 base:Int
 mode:Int
 e:Option (Nat × Int × Nat)
def eV:Option (Nat × Int × Nat)->Value
 | none=>zS
 | some (B,_)=>.slice (some ⟨B,0,some 9⟩) 1 1
def xO (r:AR):List Value:=[iv r.op,iv r.dst,iv r.base,iv 0,zS,eV r.e,zS,iv r.mode,iv 0,iv 0,iv 0]
def xM (op:Int)(v:Nat):List Value:=[iv op,.int .u64 v,iv 0,iv 0]
def ku (x:Nat):List Value:=[.int .u64 x]
theorem eV_ok (e:Option (Nat × Int × Nat)):okC (eV e)=true:=by cases e<;>rfl
theorem fK (r:AR):(xO r).length=11:=rfl
theorem Ke (r:AR):∀v∈xO r,okC v=true:=by simp[xO,okC];exact eV_ok _
theorem vP (r:Nat):(ku r).length=1:=rfl
theorem KO (r:Nat):∀v∈ku r,okC v=true:=by simp[ku,okC]
structure WB where
 q5:Nat
 W:Nat
 P8:Nat
 TB:Nat
 P9:Nat
 OB:Nat
 PB:Nat
def vW (loc:Nat->Nat)(va:Nat->Value)(j:Nat):List Value:=[iv (loc j),va j]
def WE (vo:Nat->Value)(j:Nat):List Value:=[vo j]
def WB.σ (u:WB)(N nt:Nat)(fv:Value)(loc:Nat->Nat)(va vo:Nat->Value):List (Nat × List Value) :=
 [(u.W,[.pointer (some ⟨u.PB,0,none⟩)]),(u.TB,(List.range nt).flatMap (vW loc va)),(u.OB,(List.range nt).flatMap (WE vo)),(u.P9,[fv,.slice (some ⟨u.OB,0,some 3⟩) nt nt]),(u.P8,[iv N,.slice (some ⟨u.TB,0,some 5⟩) nt nt]),(u.q5,[.pointer (some ⟨u.PB,0,none⟩)])]
structure WI (m1 m:M)(u:WB)(N nt:Nat)(fv:Value)(loc:Nat->Nat)(va vo:Nat->Value)(A:Nat->List AR)(O:Nat->List Nat)(tag:Nat->Nat):Prop where
 st:St m1 m (u.σ N nt fv loc va vo)
 t0:∀p∈u.σ N nt fv loc va vo,tag p.1=0
 ga:∀j,j<nt->Grown m1 m (va j) 11 xO (A j)/\∀B,blk (va j)=some B->tag B=2+2*j
 go:∀j,j<nt->Grown m1 m (vo j) 1 ku (O j)/\∀B,blk (vo j)=some B->tag B=3+2*j
 ge:∀j,j<nt->∀r,r∈A j->∀B op v,r.e=some (B,op,v)->m1.n<=B/\B<m.n/\Arr m B (xM op v)/\tag B=1
section
variable {m1 m:M}{u:WB}{N nt:Nat}{fv:Value}{loc:Nat->Nat}{va vo:Nat->Value}{A:Nat->List AR}{O:Nat->List Nat}{tag:Nat->Nat}
theorem WI.step (h:WI m1 m u N nt fv loc va vo A O tag){m':M}(e:Ext m m'):WI m1 m' u N nt fv loc va vo A O tag :=
 ⟨h.st.step e,h.t0,λj hj=>⟨(h.ga j hj).1.ext e,(h.ga j hj).2⟩,λj hj=>⟨(h.go j hj).1.ext e,(h.go j hj).2⟩,λj hj r hr B op v hB=>let ⟨a,b,c,d⟩:=h.ge j hj r hr B op v hB;⟨a,qgs b e.n,c.ext e b,d⟩⟩
theorem WI.putL (h:WI m1 m u N nt fv loc va vo A O tag){L:Nat}(hL:∀p∈u.σ N nt fv loc va vo,p.1≠L)(h0:m1.n<=L)(ht:tag L=0)(o:zV):WI m1 (m.put L o) u N nt fv loc va vo A O tag:=by
 have ne:∀B,tag B≠0->(m.put L o).obj B=m.obj B:=λB hB=>by rw[M.obj_put,if_neg (by rintro rfl;exact hB ht)]
 refine⟨h.st.putL hL h0 o,h.t0,λj hj=>⟨(h.ga j hj).1.keep (by rw[M.n_put];exact qgq _) λB _ hB=>ne B ?_,(h.ga j hj).2⟩,λj hj=>⟨(h.go j hj).1.keep (by rw[M.n_put];exact qgq _) λB _ hB=>ne B ?_,(h.go j hj).2⟩,λj hj r hr B op v hB=>?_⟩
 .rw[(h.ga j hj).2 B hB];omega
 .rw[(h.go j hj).2 B hB];omega
 .obtain⟨a,b,c,d⟩:=h.ge j hj r hr B op v hB
  exact⟨a,by rw[M.n_put];exact b,c.congr (ne B (by rw[d];omega)),d⟩
theorem WI.act' (h:WI m1 m u N nt fv loc va vo A O tag){j:Nat}(hj:j<nt)(r:AR){M1:M}(hM:Ext m M1)(hE:∀B op v,r.e=some (B,op,v)->m.n<=B/\B<M1.n/\Arr M1 B (xM op v))
  {v':Value} {m2 m3:M} (e2:Ext m1 m2) (g2:Grown m1 m2 v' 11 xO (A j++[r])) (n2:M1.n<=m2.n) (k2:∀B,B<M1.n->blk (va j)≠some B->m2.obj B=M1.obj B) (b2:∀B,blk v'=some B->M1.n<=B)
  (s3:St m1 m2 (u.σ N nt fv loc va vo)->St m1 m3 ((u.σ N nt fv loc va vo).set 1 (u.TB,((List.range nt).flatMap (vW loc va)).set (j*2+1) v'))/\m3.n=m2.n/\∀X,X≠u.TB->m3.obj X=m2.obj X) :
  ∃tag',WI m1 m3 u N nt fv loc (upN va j v') vo (upN A j (A j++[r])) O tag'/\M1.n<=m3.n/\∀L,L<m.n->tag L=0->tag' L=0/\(L≠u.TB->m3.obj L=m.obj L):=by
 have hvj:=(h.ga j hj).2
 have low:=grown_low (h.ga j hj).1
 have ne0:∀B,tag B≠2+2*j->blk (va j)≠some B:=λB hB hc=>hB (hvj B hc)
 have keep2:∀B,B<m.n->tag B≠2+2*j->m2.obj B=m.obj B:=λB hB ht=>(k2 B (by have:=hM.n;omega) (ne0 B ht)).trans (hM.obj B hB)
 have st2:St m1 m2 (u.σ N nt fv loc va vo):=h.st.keepOn e2 (by have:=hM.n;omega) λp hp=>keep2 p.1 (h.st.arr p hp).2.1 (by rw[h.t0 p hp];omega)
 obtain⟨q1,q2,q3⟩:=s3 st2
 have hTB:tag u.TB=0:=h.t0 (u.TB,(List.range nt).flatMap (vW loc va)) (by unfold WB.σ;simp)
 have hset:((List.range nt).flatMap (vW loc va)).set (j*2+1) v'=(List.range nt).flatMap (vW loc (upN va j v')) :=
  Wk (e:=2) (λk=>rfl) (by omega) (λk hk=>by unfold vW;rw[kZ _ _ hk]) (by unfold vW;rw[wJ];rfl) nt hj
 have st3:St m1 m3 (u.σ N nt fv loc (upN va j v') vo):=by
  have e:(u.σ N nt fv loc va vo).set 1 (u.TB,((List.range nt).flatMap (vW loc va)).set (j*2+1) v')=u.σ N nt fv loc (upN va j v') vo:=by rw[hset];rfl
  rw[<-e];exact q1
 have hTBm:u.TB<m.n:=(h.st.get 1 rfl).2.1
 obtain⟨tag',htag⟩:∃tag':Nat->Nat,tag'=λB=>if B<m.n then tag B else if blk v'=some B then 2+2*j else 1:=⟨_,rfl⟩
 have told:∀B,B<m.n->tag' B=tag B:=λB hB=>by rw[htag];simp[hB]
 have tnew:∀B,blk v'=some B->tag' B=2+2*j:=λB hB=>by
  have h1:=b2 B hB;have h2:=hM.n
  rw[htag];simp only;rw[if_neg (by omega),if_pos hB]
 have keep3:∀B,B<m.n->tag B≠2+2*j->B≠u.TB->m3.obj B=m.obj B:=λB hB ht hne=>(q3 B hne).trans (keep2 B hB ht)
 refine⟨tag',⟨st3,λp hp=>?_,λk hk=>?_,λk hk=>?_,λk hk x hx B op v hB=>?_⟩,by omega,λL hL ht=>⟨by rw[told L hL];exact ht,λhne=>keep3 L hL (by omega) hne⟩⟩
 .have hk:p.1∈(u.σ N nt fv loc va vo).map (·.1):=by
   have e:(u.σ N nt fv loc va vo).map (·.1)=(u.σ N nt fv loc (upN va j v') vo).map (·.1):=rfl
   rw[e];exact List.mem_map.2 ⟨_,hp,rfl⟩
  obtain⟨p',hp',e⟩:=List.mem_map.1 hk
  rw[<-e,told _ (h.st.arr p' hp').2.1];exact h.t0 p' hp'
 .by_cases e:k=j
  .subst e
   rw[wJ,wJ]
   refine⟨g2.keep (by omega) λB hB hb=>q3 B (by have:=b2 B hb;have:=hM.n;omega),tnew⟩
  .rw[kZ _ _ e,kZ _ _ e]
   obtain⟨g,t⟩:=h.ga k hk
   have lk:=grown_low g
   refine⟨g.keep (by have:=hM.n;omega) λB hB hb=>keep3 B hB (by rw[t B hb];omega) (by rintro rfl;have:=t _ hb;omega),λB hB=>by rw[told _ (lk B hB).2];exact t B hB⟩
 .obtain⟨g,t⟩:=h.go k hk
  have lk:=grown_low g
  refine⟨g.keep (by have:=hM.n;omega) λB hB hb=>keep3 B hB (by rw[t B hb];omega) (by rintro rfl;have:=t _ hb;omega),λB hB=>by rw[told _ (lk B hB).2];exact t B hB⟩
 .have old:x∈A k->m1.n<=B/\B<m3.n/\Arr m3 B (xM op v)/\tag' B=1:=λhx=>by
   obtain⟨a,b,c,d⟩:=h.ge k hk x hx B op v hB
   refine⟨a,by have:=hM.n;omega,c.congr (keep3 B b (by omega) (by rintro rfl;omega)),by rw[told B b];exact d⟩
  by_cases e:k=j
  .subst e
   rw[wJ]at hx
   rcases qhc.1 hx with hx | hx
   .exact old hx
   .rw[qgu.1 hx]at hB
    obtain⟨a,b,c⟩:=hE B op v hB
    have hm1:=h.st.ext.n
    have hnb:blk v'≠some B:=λhc=>by have:=b2 B hc;omega
    refine⟨by omega,by omega,c.congr ?_,?_⟩
    .rw[q3 B (by omega)]
     exact k2 B b λhc=>by have:=(low B hc).2;omega
    .rw[htag];simp only;rw[if_neg (by omega),if_neg hnb]
  .rw[kZ _ _ e]at hx;exact old hx
theorem WI.act (h:WI m1 m u N nt fv loc va vo A O tag)(hb1:m1.base<=m1.n){j:Nat}(hj:j<nt)(r:AR){M1:M}(hM:Ext m M1)(hE:∀B op v,r.e=some (B,op,v)->m.n<=B/\B<M1.n/\Arr M1 B (xM op v)){X:Nat}{sp:Option Nat}
  (hx:loads M1 ⟨X,0,sp⟩ 11=some (xO r)) (hl:(A j).length<=1000):∃v' m2 m3,wY M1 11 136 (va j) (.slice (some ⟨X,0,sp⟩) 1 1)=some (v',m2)/\wt 1 (.pointer (some ⟨u.TB,j*2+1,none⟩)) v' m2=some (undef,m3) /\
   ∃tag',WI m1 m3 u N nt fv loc (upN va j v') vo (upN A j (A j++[r])) O tag'/\M1.n<=m3.n/\∀L,L<m.n->tag L=0->tag' L=0/\(L≠u.TB->m3.obj L=m.obj L):=by
 obtain⟨v',m2,p1,p2,p3,p4,p5,p6⟩:=((h.ga j hj).1.ext hM).append (h.st.ext.trans hM) hb1 (by omega) fK Ke hx (bytes:=136) (by unfold most;omega) (by omega)
 have hst2:St m1 m2 (u.σ N nt fv loc va vo):=h.st.keepOn p2 (by have:=hM.n;omega) λp hp=>by
  have hp2:=(h.st.arr p hp).2.1
  rw[p5 p.1 (by have:=hM.n;omega) (λhc=>by have:=(h.ga j hj).2 _ hc;rw[h.t0 p hp]at this;omega)]
  exact hM.obj _ hp2
 have hlen:((List.range nt).flatMap (vW loc va)).length=nt*2:=yv λ_=>rfl
 obtain⟨m3,s1,s2,s3,s4⟩:=hst2.store 1 rfl (o:=j*2+1) (v:=v') (by rw[hlen];omega) p3.okC
 exact⟨v',m2,m3,p1,s1,h.act' hj r hM hE p2 p3 p4 p5 p6 λ_=>⟨s2,s3,s4⟩⟩
theorem WI.actAny (h:WI m1 m u N nt fv loc va vo A O tag)(hb1:m1.base<=m1.n){j:Nat}(hj:j<nt)(r:AR){M1:M}(hM:Ext m M1)(hE:∀B op v,r.e=some (B,op,v)->m.n<=B/\B<M1.n/\Arr M1 B (xM op v)){X:Nat}{sp:Option Nat}
  (hx:loads M1 ⟨X,0,sp⟩ 11=some (xO r)) (hl:(A j).length<=1000):∃v' m2 m3,wY (qc M1) 11 136 (va j) (.slice (some ⟨X,0,sp⟩) 1 1)=some (v',m2)/\wt 1 (.pointer (some ⟨u.TB,j*2+1,none⟩)) v' (qc (behind M1 m2))=some (undef,m3) /\
   ∃tag',WI m1 (behind (behind M1 m2) m3) u N nt fv loc (upN va j v') vo (upN A j (A j++[r])) O tag'/\M1.n<=(behind (behind M1 m2) m3).n/\∀L,L<m.n->tag L=0->tag' L=0/\(L≠u.TB->(behind (behind M1 m2) m3).obj L=m.obj L):=by
 obtain⟨v',m2',p1,p1',p2,p3,p4,p5,p6⟩:=((h.ga j hj).1.ext hM).appendAny (h.st.ext.trans hM) hb1 (by omega) fK Ke hx (bytes:=136) (by unfold most;omega) (by omega)
 obtain⟨m2,hm2⟩:=qhd (behind M1 m2')
 rw[<-hm2]at p2 p3 p4 p5
 have hst2:St m1 m2 (u.σ N nt fv loc va vo):=h.st.keepOn p2 (by have:=hM.n;omega) λp hp=>by
  have hp2:=(h.st.arr p hp).2.1
  rw[p5 p.1 (by have:=hM.n;omega) (λhc=>by have:=(h.ga j hj).2 _ hc;rw[h.t0 p hp]at this;omega)]
  exact hM.obj _ hp2
 have hlen:((List.range nt).flatMap (vW loc va)).length=nt*2:=yv λ_=>rfl
 obtain⟨m3,s1,s1',s2,s3,s4⟩:=hst2.storeAny 1 rfl (o:=j*2+1) (v:=v') (by rw[hlen];omega) p3.okC
 refine⟨v',m2',m3,p1,by rw[<-hm2];exact s1,?_⟩
 rw[<-hm2]
 exact h.act' hj r hM hE p2 p3 p4 p5 p6 λ_=>⟨s2,s3,s4⟩
theorem WI.local (h:WI m1 m u N nt fv loc va vo A O tag){j:Nat}(hj:j<nt)(x:Nat):∃m3,wt 1 (.pointer (some ⟨u.TB,j*2,none⟩)) (iv x) m=some (undef,m3)/\WI m1 m3 u N nt fv (upN loc j x) va vo A O tag/\m.n<=m3.n/\∀X,X≠u.TB->m3.obj X=m.obj X:=by
 have hlen:((List.range nt).flatMap (vW loc va)).length=nt*2:=yv λ_=>rfl
 obtain⟨m3,s1,s2,s3,s4⟩:=h.st.store 1 rfl (o:=j*2) (v:=iv x) (by rw[hlen];omega) rfl
 have hset:((List.range nt).flatMap (vW loc va)).set (j*2) (iv x)=(List.range nt).flatMap (vW (upN loc j x) va) :=
  Wk (e:=2) (o:=0) (λk=>rfl) (by omega) (λk hk=>by unfold vW;rw[kZ _ _ hk]) (by unfold vW;rw[wJ];rfl) nt hj
 have st3:St m1 m3 (u.σ N nt fv (upN loc j x) va vo):=by
  have e:(u.σ N nt fv loc va vo).set 1 (u.TB,((List.range nt).flatMap (vW loc va)).set (j*2) (iv x))=u.σ N nt fv (upN loc j x) va vo:=by rw[hset];rfl
  rw[<-e];exact s2
 have hTB:tag u.TB=0:=h.t0 (u.TB,(List.range nt).flatMap (vW loc va)) (by unfold WB.σ;simp)
 refine⟨m3,s1,⟨st3,λp hp=>?_,λk hk=>?_,λk hk=>?_,λk hk y hy B op v hB=>?_⟩,by omega,s4⟩
 .have hk:p.1∈(u.σ N nt fv loc va vo).map (·.1):=by
   have e:(u.σ N nt fv loc va vo).map (·.1)=(u.σ N nt fv (upN loc j x) va vo).map (·.1):=rfl
   rw[e];exact List.mem_map.2 ⟨_,hp,rfl⟩
  obtain⟨p',hp',e⟩:=List.mem_map.1 hk
  rw[<-e];exact h.t0 p' hp'
 .obtain⟨g,t⟩:=h.ga k hk
  exact⟨g.keep (by omega) λB hB hb=>s4 B (by rintro rfl;have:=t _ hb;omega),t⟩
 .obtain⟨g,t⟩:=h.go k hk
  exact⟨g.keep (by omega) λB hB hb=>s4 B (by rintro rfl;have:=t _ hb;omega),t⟩
 .obtain⟨a,b,c,d⟩:=h.ge k hk y hy B op v hB
  exact⟨a,by omega,c.congr (s4 B (by rintro rfl;omega)),d⟩
theorem WI.out (h:WI m1 m u N nt fv loc va vo A O tag)(hb1:m1.base<=m1.n){j:Nat}(hj:j<nt)(x:Nat){M1:M}(hM:Ext m M1){X:Nat}{sp:Option Nat}
  (hx:loads M1 ⟨X,0,sp⟩ 1=some (ku x)) (hl:(O j).length<=1000):∃v' m2 m3,wY (qc M1) 1 8 (vo j) (.slice (some ⟨X,0,sp⟩) 1 1)=some (v',m2)/\(m2.log=[]\/∃B,blk (vo j)=some B/\m2.log=[B])/\wt 1 (.pointer (some ⟨u.OB,j,none⟩)) v' (qc (behind M1 m2))=some (undef,m3) /\
   ∃tag',WI m1 (behind (behind M1 m2) m3) u N nt fv loc va (upN vo j v') A (upN O j (O j++[x])) tag'/\M1.n<=(behind (behind M1 m2) m3).n/\∀L,L<m.n->tag L=0->tag' L=0/\(L≠u.OB->(behind (behind M1 m2) m3).obj L=m.obj L):=by
 obtain⟨v',m2',p1,p1',p2,g2,n2,k2,b2⟩:=((h.go j hj).1.ext hM).appendAny (h.st.ext.trans hM) hb1 (by omega) vP KO hx (bytes:=8) (by unfold most;omega) (by omega)
 obtain⟨m2,hm2⟩:=qhd (behind M1 m2')
 rw[<-hm2]at p2 g2 n2 k2
 have hvj:=(h.go j hj).2
 have low:=grown_low (h.go j hj).1
 have keep2:∀B,B<m.n->tag B≠3+2*j->m2.obj B=m.obj B:=λB hB ht=>(k2 B (by have:=hM.n;omega) (λhc=>ht (hvj B hc))).trans (hM.obj B hB)
 have st2:St m1 m2 (u.σ N nt fv loc va vo):=h.st.keepOn p2 (by have:=hM.n;omega) λp hp=>keep2 p.1 (h.st.arr p hp).2.1 (by rw[h.t0 p hp];omega)
 have hlen:((List.range nt).flatMap (WE vo)).length=nt*1:=yv λ_=>rfl
 obtain⟨m3',s1,s1',s2,s3,s4⟩:=st2.storeAny 2 rfl (o:=j) (v:=v') (by rw[hlen];omega) g2.okC
 refine⟨v',m2',m3',p1,p1',by rw[<-hm2];exact s1,?_⟩
 rw[<-hm2]
 obtain⟨m3,hm3⟩:=qhd (behind m2 m3')
 rw[<-hm3]at s2 s3 s4 ⊢
 have hOB:tag u.OB=0:=h.t0 (u.OB,(List.range nt).flatMap (WE vo)) (by unfold WB.σ;simp)
 have hset:((List.range nt).flatMap (WE vo)).set j v'=(List.range nt).flatMap (WE (upN vo j v')):=by
  have:=Wk (e:=1) (o:=0) (j:=j) (v:=v') (f:=WE vo) (g:=WE (upN vo j v')) (λk=>rfl) (by omega) (λk hk=>by unfold WE;rw[kZ _ _ hk]) (by unfold WE;rw[wJ];rfl) nt hj
  rwa [Nat.mul_one,Nat.add_zero]at this
 have st3:St m1 m3 (u.σ N nt fv loc va (upN vo j v')):=by
  have e:(u.σ N nt fv loc va vo).set 2 (u.OB,((List.range nt).flatMap (WE vo)).set j v')=u.σ N nt fv loc va (upN vo j v'):=by rw[hset];rfl
  rw[<-e];exact s2
 have hOBm:u.OB<m.n:=(h.st.get 2 rfl).2.1
 obtain⟨tag',htag⟩:∃tag':Nat->Nat,tag'=λB=>if B<m.n then tag B else 3+2*j:=⟨_,rfl⟩
 have told:∀B,B<m.n->tag' B=tag B:=λB hB=>by rw[htag];simp[hB]
 have tnew:∀B,blk v'=some B->tag' B=3+2*j:=λB hB=>by
  have h1:=b2 B hB;have h2:=hM.n
  rw[htag];simp only;rw[if_neg (by omega)]
 have keep3:∀B,B<m.n->tag B≠3+2*j->B≠u.OB->m3.obj B=m.obj B:=λB hB ht hne=>(s4 B hne).trans (keep2 B hB ht)
 have hMn:=hM.n
 refine⟨tag',⟨st3,λp hp=>?_,λk hk=>?_,λk hk=>?_,λk hk y hy B op v hB=>?_⟩,by omega,λL hL ht=>⟨by rw[told L hL];exact ht,λhne=>keep3 L hL (by omega) hne⟩⟩
 .have hk:p.1∈(u.σ N nt fv loc va vo).map (·.1):=by
   have e:(u.σ N nt fv loc va vo).map (·.1)=(u.σ N nt fv loc va (upN vo j v')).map (·.1):=rfl
   rw[e];exact List.mem_map.2 ⟨_,hp,rfl⟩
  obtain⟨p',hp',e⟩:=List.mem_map.1 hk
  rw[<-e,told _ (h.st.arr p' hp').2.1];exact h.t0 p' hp'
 .obtain⟨g,t⟩:=h.ga k hk
  have lk:=grown_low g
  exact⟨g.keep (by omega) λB hB hb=>keep3 B hB (by rw[t B hb];omega) (by rintro rfl;have:=t _ hb;omega),λB hB=>by rw[told _ (lk B hB).2];exact t B hB⟩
 .by_cases e:k=j
  .subst e
   rw[wJ,wJ]
   exact⟨g2.keep (by omega) λB hB hb=>s4 B (by have:=b2 B hb;omega),tnew⟩
  .rw[kZ _ _ e,kZ _ _ e]
   obtain⟨g,t⟩:=h.go k hk
   have lk:=grown_low g
   exact⟨g.keep (by omega) λB hB hb=>keep3 B hB (by rw[t B hb];omega) (by rintro rfl;have:=t _ hb;omega),λB hB=>by rw[told _ (lk B hB).2];exact t B hB⟩
 .obtain⟨a,b,c,d⟩:=h.ge k hk y hy B op v hB
  exact⟨a,by omega,c.congr (keep3 B b (by omega) (by rintro rfl;omega)),by rw[told B b];exact d⟩
end
end Go.Sx
namespace Go.Dx
@[simp] theorem qg5 (m:M) (a b c d e f g h i j k:Value):ki 11 1 (rep 1 [zI,zI,zI,zI,zS,zS,zS,zI,zI,zI,zI]) [(0,11,.agg ⟨[a,b,c,d,e,f,g,h,i,j,k]⟩)] m =
  some (.slice (some ⟨m.n,0,some 23⟩) 1 1,newRow m [a,b,c,d,e,f,g,h,i,j,k]):=_root_.id rfl
@[simp] theorem qfu (m:M) (a b c d:Value):ki 4 1 (rep 1 [zI,zU,zI,zI]) [(0,4,.agg ⟨[a,b,c,d]⟩)] m=some (.slice (some ⟨m.n,0,some 9⟩) 1 1,newRow m [a,b,c,d]):=_root_.id rfl
@[simp] theorem qg9 (o v:Int):qW [zI,zU,zI,zI] [(0,1,.int .i64 o),(1,1,.int .u64 v)]=some (.agg ⟨[.int .i64 o,.int .u64 v,zI,zI]⟩):=_root_.id rfl
@[simp] theorem qfv (o f:Int):qW [zI,zI,zI,zI,zS,zS,zS,zI,zI,zI,zI] [(0,1,.int .i64 o),(7,1,.int .i64 f)] =
  some (.agg ⟨[.int .i64 o,zI,zI,zI,zS,zS,zS,.int .i64 f,zI,zI,zI]⟩):=_root_.id rfl
@[simp] theorem qfy (o c f:Int) (a:Option Addr) (x y:Nat):qW [zI,zI,zI,zI,zS,zS,zS,zI,zI,zI,zI] [(0,1,.int .i64 o),(2,1,.int .i64 c),(7,1,.int .i64 f),(5,1,.slice a x y)] =
  some (.agg ⟨[.int .i64 o,zI,.int .i64 c,zI,zS,.slice a x y,zS,.int .i64 f,zI,zI,zI]⟩):=_root_.id rfl
@[simp] theorem qg8 (o d c f:Int):qW [zI,zI,zI,zI,zS,zS,zS,zI,zI,zI,zI] [(0,1,.int .i64 o),(1,1,.int .i64 d),(2,1,.int .i64 c),(7,1,.int .i64 f)] =
  some (.agg ⟨[.int .i64 o,.int .i64 d,.int .i64 c,zI,zS,zS,zS,.int .i64 f,zI,zI,zI]⟩):=_root_.id rfl
end Go.Dx
namespace Go.Sx
open Go.Dx Go.Proofs
abbrev AB:=Int × Int × Int × Int × Option (Int × Nat)
def AR.era (r:AR):AB:=(r.op,r.dst,r.base,r.mode,r.e.map (·.2))
section
variable {m1 m:M}{u:WB}{N nt:Nat}{fv:Value}{loc:Nat->Nat}{va vo:Nat->Value}{A:Nat->List AR}{O:Nat->List Nat}{tag:Nat->Nat}
theorem WI.lt8 (h:WI m1 m u N nt fv loc va vo A O tag):load1 m ⟨u.P8,1,none⟩=some (.slice (some ⟨u.TB,0,some 5⟩) nt nt):=by rw[(h.st.get 4 rfl).2.2.load1];rfl
theorem WI.lt9 (h:WI m1 m u N nt fv loc va vo A O tag):load1 m ⟨u.P9,1,none⟩=some (.slice (some ⟨u.OB,0,some 3⟩) nt nt):=by rw[(h.st.get 3 rfl).2.2.load1];rfl
theorem WI.lq (h:WI m1 m u N nt fv loc va vo A O tag):load1 m ⟨u.q5,0,none⟩=some (.pointer (some ⟨u.PB,0,none⟩)):=by rw[(h.st.get 5 rfl).2.2.load1];rfl
theorem WI.lloc (h:WI m1 m u N nt fv loc va vo A O tag){j:Nat}(hj:j<nt):load1 m ⟨u.TB,j*2,none⟩=some (iv (loc j)):=by
 rw[(h.st.get 1 rfl).2.2.load1]
 have:=Wh (e:=2) (f:=vW loc va) (o:=0) (λ_=>rfl) hj (by omega)
 rwa [Nat.add_zero]at this
theorem WI.lva (h:WI m1 m u N nt fv loc va vo A O tag){j:Nat}(hj:j<nt):load1 m ⟨u.TB,j*2+1,none⟩=some (va j):=by
 rw[(h.st.get 1 rfl).2.2.load1]
 exact Wh (e:=2) (f:=vW loc va) (o:=1) (λ_=>rfl) hj (by omega)
theorem WI.lvo (h:WI m1 m u N nt fv loc va vo A O tag){j:Nat}(hj:j<nt):load1 m ⟨u.OB,j,none⟩=some (vo j):=by
 rw[(h.st.get 2 rfl).2.2.load1]
 have:=Wh (e:=1) (f:=WE vo) (o:=0) (λ_=>rfl) hj (by omega)
 rwa [Nat.add_zero,Nat.mul_one]at this
theorem qfq (n:Nat){PB A5 A6 A7 c1:Nat}{ed ec md:Value}{es:List (Int × Int)}{ms:List Int}{TH CE VA:Nat->Nat}(hb1:m1.base<=m1.n)(hLF:LF m1 PB A5 A6 A7 c1 ed ec md es ms TH CE VA)(hok:∀(i:Nat) e,es[i]?=some e->zx e=false)(hPB:u.PB=PB)
  {i j:Nat} (hi:i<es.length) (hml:ms.length=es.length) (hj:TH i=j) (hjn:j<nt) (h:WI m1 m u N nt fv loc va vo A O tag) (hA:(A j).length<=1000) (hO:(O j).length<=1000) (hloc:loc j<=1000) {t:Tm} (t1:Tm.get 1 t=.pointer (some ⟨c1,0,none⟩)) (t5:Tm.get 5 t=.pointer (some ⟨u.q5,0,none⟩)) (t9:Tm.get 9 t=.pointer (some ⟨u.P9,0,none⟩))
  (t10:Tm.get 10 t=iv i) (t11:Tm.get 11 t=.pointer (some ⟨u.TB,j*2,none⟩)) {L:Nat} (hL:tag L=0) (hLm:L<m.n) (hLT:L≠u.TB) (hLO:L≠u.OB) (P:Option E->M->Prop)
  (hP:∀m2 va' vo' tag' r,WI m1 m2 u N nt fv (if qu es i then loc else upN loc j (loc j+1)) va' vo' (upN A j (A j++[r])) (if qu es i then O else upN O j (O j++[VA i])) tag'->m.n<=m2.n->m2.obj L=m.obj L->tag' L=0 ->
   r.era=(if qu es i then ((3,0,(CE i:Int),mAt ms i,some (1,VA i)):AB) else ((2,(loc j:Int),(CE i:Int),mAt ms i,none):AB))->P none m2) :
  Rnd P (Zj (ex Tryz.prog (n+2)) (zW none) (jN 1 (zW none) vZ) (zW (some E.ret)) t m):=by
 obtain⟨e,he⟩:∃e,es[i]?=some e:=⟨_,qgn hi⟩
 obtain⟨md',hmd'⟩:∃e,ms[i]?=some e:=⟨_,qgn (by omega)⟩
 have hmi:mAt ms i=md':=qb2 hmd'
 have hfe:qu es i=zv e.1:=by unfold qu;rw[zm he]
 have hbk:=zc (hok i e he)
 have hS:=h.st.sees
 have lf:=hLF.sees hS
 have lq:=h.lq
 rw[hPB]at lq
 obtain⟨v3,m3,g1,g2,rfl⟩:=Zw n PB ed es e i he hbk.1 hbk.2 m hS.base lf.p0 lf.hed
 have h3:=h.step g2
 have lf3:=lf.sees (hS.self.ext g2)
 have lq3:=h3.lq
 rw[hPB]at lq3
 have ⟨u1,u2⟩:=Rd.at1 (g:=λ(x:Int)=>iv x) lf3.hmd hmd'
 have u2':=u2 m3 (hS.self.ext g2).self
 have x6:=yg (e:=1) (c:=3) A6 es.length i hi
 have x7:=yg (e:=1) (c:=3) A7 es.length i hi
 have x5:=yg (e:=1) (c:=3) A5 es.length i hi
 rw[Nat.mul_one]at x5 x6 x7
 have y6:=lf3.a6 i hi
 have y7:=lf3.a7 i hi
 obtain⟨V,hV⟩:=qhd (VA i)
 obtain⟨C,hC⟩:=qhd (CE i)
 have hVs:V<1000000:=by rw[hV];exact lf.small i
 have cvv:=vd V hVs
 rw[<-hV]at y7 hP
 rw[<-hC]at y6 hP
 simp[t5,t10,lq,g1,xP]
 cases hf:zv e.1 with
 | true =>
  rw[hfe,hf,hmi]at hP
  obtain⟨M1,hM1⟩:=qhd (Dx.newRow m3 [iv 1,.int .u64 V,iv 0,iv 0])
  have n1:M1.n=m3.n+1:=by rw[hM1,qz]
  obtain⟨M2,hM2⟩:=qhd (Dx.newRow M1 [iv 3,iv 0,iv C,iv 0,zS,.slice (some ⟨m3.n,0,some 9⟩) 1 1,zS,iv md',iv 0,iv 0,iv 0])
  have E1:Ext m3 M1:=by rw[hM1];exact Ext.row _ _
  have E2:Ext M1 M2:=by rw[hM2];exact Ext.row _ _
  have hA1:Arr M2 m3.n (xM 1 V):=by
   have:Arr M1 m3.n (xM 1 V):=by rw[hM1];exact Arr.row m3 _
   exact this.ext E2 (by omega)
  obtain⟨v',m4,m5,p1,p2,tag',p3,p4,p5⟩:=h3.actAny hb1 hjn ⟨3,0,C,md',some (m3.n,1,V)⟩ (E1.trans E2) (λB op v hB=>by cases hB;exact⟨qgq _,by have:=E2.n;omega,hA1⟩) (X:=M1.n) (sp:=some 23) (by rw[hM2];exact (Arr.row M1 _).loads (by simp)) hA
  have lva:=h3.lva hjn
  simp[t1,t5,t10,t11,lva,lq3,lf3.p6,lf3.p7,x6,x7,y6,y7,lf3.c1m,u1,u2',cvv,<-hM1,n1]
  rw[n1]at p1
  simp[<-hM2,p1,p2]
  refine zJ (hP _ _ _ tag' _ p3 (by have:=g2.n;have:=E1.n;have:=E2.n;omega) ?_ (p5 L (by have:=g2.n;omega) hL).1 rfl)
  rw[(p5 L (by have:=g2.n;omega) hL).2 hLT,g2.obj L hLm]
 | false =>
  rw[hfe,hf,hmi]at hP
  have ll:=h3.lloc hjn
  obtain⟨K,hK⟩:=qhd (loc j)
  rw[<-hK]at ll hP
  obtain⟨M2,hM2⟩:=qhd (Dx.newRow m3 [iv 2,iv K,iv C,iv 0,zS,zS,zS,iv md',iv 0,iv 0,iv 0])
  have E2:Ext m3 M2:=by rw[hM2];exact Ext.row _ _
  obtain⟨v',m4,m5,p1,p2,tag',p3,p4,p5⟩:=h3.actAny hb1 hjn ⟨2,K,C,md',none⟩ E2 (λB op v hB=>by cases hB) (X:=m3.n) (sp:=some 23) (by rw[hM2];exact (Arr.row m3 _).loads (by simp)) hA
  have lva:=h3.lva hjn
  simp[t1,t5,t9,t10,t11,lva,ll,lq3,lf3.p6,lf3.p7,x6,x7,y6,y7,lf3.c1m,u1,u2',<-hM2,p1,p2]
  have ll5:=p3.lloc hjn
  rw[Zy,<-hK]at ll5
  obtain⟨M3,hM3⟩:=qhd (behind (behind M2 m4) m5)
  rw[<-hM3]at p3 p4 p5 ⊢
  have ll4:=p3.lloc hjn
  rw[<-hK]at ll4
  have wK:=wL (i:=K) (by omega)
  obtain⟨K',hK'⟩:=qhd (K+1)
  rw[<-hK']at wK hP
  obtain⟨M4,q1,q2,q3,q4⟩:=p3.local hjn K'
  simp[t11,ll5,wK,q1]
  have lf4:=hLF.sees q2.st.sees
  have lq4:=q2.lq
  rw[hPB]at lq4
  have l9:=q2.lt9
  have lo:=q2.lvo hjn
  have z5:=lf4.a5 i hi
  have z7:=lf4.a7 i hi
  rw[hj]at z5
  rw[<-hV]at z7
  have xo:=yg (e:=1) (c:=3) u.OB nt j hjn
  rw[Nat.mul_one]at xo
  obtain⟨M5,hM5⟩:=qhd (Dx.newRow M4 [.int .u64 V])
  have E5:Ext M4 M5:=by rw[hM5];exact Ext.row _ _
  obtain⟨v2,m6,m7,r1,r2,r3,tag2,r4,r5,r6⟩:=q2.out hb1 hjn V E5 (X:=M4.n) (sp:=some 3) (by rw[hM5];exact (Arr.row M4 _).loads (by simp)) hO
  have t9t:tag' u.P9=0:=q2.t0 (u.P9,[fv,.slice (some ⟨u.OB,0,some 3⟩) nt nt]) (by unfold WB.σ;simp)
  have t5t:tag' u.q5=0:=q2.t0 (u.q5,[.pointer (some ⟨u.PB,0,none⟩)]) (by unfold WB.σ;simp)
  have hmt:∀B,blk (vo j)=some B->¬u.P9=B/\¬u.q5=B/\¬PB=B/\¬A5=B:=λB hB=>by
   have t:=(q2.go j hjn).2 B hB
   have lw:=(grown_low (q2.go j hjn).1 B hB).1
   have:=hLF.lP;have:=hLF.l5
   exact⟨by rintro rfl;omega,by rintro rfl;omega,by rintro rfl;omega,by rintro rfl;omega⟩
  have fin:Rnd P (zW none t (behind (behind M5 m6) m7))->True:=λ_=>trivial
  have done:P none (behind (behind M5 m6) m7):=by
   have hLm3:L<M3.n:=by have:=g2.n;have:=E2.n;omega
   refine hP _ _ _ tag2 _ r4 (by have:=g2.n;have:=E2.n;have:=E5.n;omega) ?_ (r6 L (by omega) ((p5 L (by have:=g2.n;omega) hL).1)).1 rfl
   rw[(r6 L (by omega) ((p5 L (by have:=g2.n;omega) hL).1)).2 hLO,q4 L hLT,(p5 L (by have:=g2.n;omega) hL).2 hLT,g2.obj L hLm]
  rcases r2 with r2 | ⟨B,hB,r2⟩
  .simp[t1,t5,t9,t10,t11,l9,lq4,lf4.p5,lf4.p7,x5,x7,z5,z7,xo,lo,cvv,<-hM5,r1,r2,r3]
   exact zJ done
  .obtain⟨d1,d2,d3,d4⟩:=hmt B hB
   simp[t1,t5,t9,t10,t11,l9,lq4,lf4.p5,lf4.p7,x5,x7,z5,z7,xo,lo,cvv,<-hM5,r1,r2,r3,d1,d2,d3,d4]
   exact zJ done
end
end Go.Sx
namespace Go.Sx
open Go.Dx Go.Proofs
structure TS where
 loc:Nat
 acts:List AB
 outs:List Nat
abbrev fenA (f:Int):AB:=(7,0,0,f,none)
abbrev stA (c:Nat)(m:Int)(v:Nat):AB:=(3,0,c,m,some (1,v))
abbrev ldA (d c:Nat)(m:Int):AB:=(2,d,c,m,none)
def evF (f:Int):List AB:=if f=0 then [] else [fenA f]
def gq (es:List (Int × Int))(ms:List Int)(CE VA:Nat->Nat)(i:Nat)(s:TS):TS :=
 if qu es i then ⟨s.loc,s.acts++evF (yu es i)++[stA (CE i) (mAt ms i) (VA i)],s.outs⟩ else ⟨s.loc+1,s.acts++evF (yu es i)++[ldA s.loc (CE i) (mAt ms i)],s.outs++[VA i]⟩
def zR (es:List (Int × Int))(ms:List Int)(TH CE VA:Nat->Nat)(S:Nat->TS)(i:Nat):Nat->TS:=upN S (TH i) (gq es ms CE VA i (S (TH i)))
def WJ (m1 m:M)(u:WB)(N nt:Nat)(fv:Value)(S:Nat->TS)(L:Nat):Prop:=∃loc va vo A O tag,WI m1 m u N nt fv loc va vo A O tag/\tag L=0/\∀j,j<nt->loc j=(S j).loc/\(A j).map AR.era=(S j).acts/\O j=(S j).outs
theorem WJ.step {m1 m m':M}{u:WB}{N nt:Nat}{fv:Value}{S:Nat->TS}{L:Nat}(h:WJ m1 m u N nt fv S L)(e:Ext m m'):WJ m1 m' u N nt fv S L:=let ⟨a,b,c,d,f,g,h1,h2,h3⟩:=h;⟨a,b,c,d,f,g,h1.step e,h2,h3⟩
theorem WJ.putL {m1 m:M}{u:WB}{N nt:Nat}{fv:Value}{S:Nat->TS}{L:Nat}(h:WJ m1 m u N nt fv S L)(hL:∀b∈[u.W,u.TB,u.OB,u.P9,u.P8,u.q5],b≠L)(h0:m1.n<=L)(o:zV):WJ m1 (m.put L o) u N nt fv S L :=
 let ⟨a,b,c,d,f,g,h1,h2,h3⟩:=h;⟨a,b,c,d,f,g,h1.putL (λp hp=>hL p.1 (by unfold WB.σ at hp;simp at hp ⊢;rcases hp with rfl | rfl | rfl | rfl | rfl | rfl<;>simp)) h0 h2 o,h2,h3⟩
theorem qda (n:Nat){m1 m:M}{u:WB}{N nt:Nat}{fv:Value}{S:Nat->TS}{L:Nat}{PB A5 A6 A7 c1:Nat}{ed ec md:Value}{es:List (Int × Int)}{ms:List Int}{TH CE VA:Nat->Nat}(hl:es.length<=16)(hb1:m1.base<=m1.n)(hLF:LF m1 PB A5 A6 A7 c1 ed ec md es ms TH CE VA)(hok:∀(i:Nat) e,es[i]?=some e->zx e=false)(hPB:u.PB=PB)
  {i:Nat} (hi:i<es.length) (hml:ms.length=es.length) (hjn:TH i<nt) (h:WJ m1 m u N nt fv S L) (hbd:∀j,(S j).loc<=900/\(S j).acts.length<=900/\(S j).outs.length<=900) {T:Tm} (t1:Tm.get 1 T=.pointer (some ⟨c1,0,none⟩)) (t5:Tm.get 5 T=.pointer (some ⟨u.q5,0,none⟩)) (t8:Tm.get 8 T=.pointer (some ⟨u.P8,0,none⟩)) (t9:Tm.get 9 T=.pointer (some ⟨u.P9,0,none⟩))
  (hLm:L<m.n) (hLb:∀b∈[u.W,u.TB,u.OB,u.P9,u.P8,u.q5],b≠L) :
  Rnd (λe m2=>e=none/\m2.obj L=m.obj L/\m.n<=m2.n/\WJ m1 m2 u N nt fv (zR es ms TH CE VA S i) L) (Js (ex Tryz.prog (n+2)) (zW none) vZ (zW (some E.ret)) (Tm.set 10 (iv i) (Tm.set 47 (iv i) T)) m):=by
 suffices H:∀P:Option E->M->Prop,(∀m2,m2.obj L=m.obj L->m.n<=m2.n->WJ m1 m2 u N nt fv (zR es ms TH CE VA S i) L->P none m2)->Rnd P (Js (ex Tryz.prog (n+2)) (zW none) vZ (zW (some E.ret)) (Tm.set 10 (iv i) (Tm.set 47 (iv i) T)) m) from H _ λm2 a b c=>⟨rfl,a,b,c⟩
 intro P hP
 obtain⟨loc,va,vo,A,O,tag,h,hL,hSj⟩:=h
 obtain⟨j,hj⟩:∃j,TH i=j:=⟨_,rfl⟩
 rw[hj]at hjn
 obtain⟨s1,s2,s3⟩:=hSj j hjn
 obtain⟨b1,b2,b3⟩:=hbd j
 have hAl:(A j).length<=900:=by have:=congrArg List.length s2;rw[List.length_map]at this;omega
 have hOl:(O j).length<=900:=by rw[s3];omega
 have hS:=h.st.sees
 have lf:=hLF.sees hS
 have lq:=h.lq
 rw[hPB]at lq
 have l8:=h.lt8
 have x5:=yg (e:=1) (c:=3) A5 es.length i hi
 rw[Nat.mul_one]at x5
 have z5:=lf.a5 i hi
 rw[hj]at z5
 have xT:=yg (e:=2) (c:=5) u.TB nt j hjn
 obtain⟨v2,m2,g1,g2,rfl⟩:=qbx n PB ed es i hi (by omega) m hS.base lf.lP lf.p0 lf.hed
 obtain⟨f,hf⟩:=qhd (yu es i)
 have hf':(eAt es (ahN es.length i)).2=f:=by rw[hf];rfl
 rw[hf']at g1
 have h2:=h.step g2
 have hLT:L≠u.TB:=λe=>hLb u.TB (by simp) e.symm
 have hLO:L≠u.OB:=λe=>hLb u.OB (by simp) e.symm
 unfold Js
 simp[t5,t8,lq,l8,lf.p5,x5,z5,xT,g1,-bT]
 have fin:∀(m3:M) (A3:Nat->List AR) va3 tag3 t,WI m1 m3 u N nt fv loc va3 vo A3 O tag3->m.n<=m3.n->m3.obj L=m.obj L->tag3 L=0->(A3 j).map AR.era=(A j).map AR.era++evF f->(∀k,k≠j->A3 k=A k)->(A3 j).length<=1000 ->
   Tm.get 1 t=.pointer (some ⟨c1,0,none⟩)->Tm.get 5 t=.pointer (some ⟨u.q5,0,none⟩)->Tm.get 9 t=.pointer (some ⟨u.P9,0,none⟩)->Tm.get 10 t=iv i->Tm.get 11 t=.pointer (some ⟨u.TB,j*2,none⟩) ->
   Rnd P (Zj (ex Tryz.prog (n+2)) (zW none) (jN 1 (zW none) vZ) (zW (some E.ret)) t m3):=by
  intro m3 A3 va3 tag3 t w n3 o3 g3 e3 k3 l3 q1 q5 q9 q10 q11
  refine qfq n hb1 hLF hok hPB hi hml hj hjn w l3 (by omega) (by omega) q1 q5 q9 q10 q11 g3 (by omega) hLT hLO P λm4 va4 vo4 tag4 r w4 n4 o4 g4 er=>hP m4 (o4.trans o3) (by omega) ⟨_,_,_,_,_,_,w4,g4,λk hk=>?_⟩
  by_cases e:k=j
  .subst e
   have hw:zR es ms TH CE VA S i k=gq es ms CE VA i (S k):=by unfold zR;rw[hj,wJ]
   rw[hw,wJ,List.map_append,e3,s2]
   unfold gq
   rw[<-hf]
   cases hfr:qu es i with
   | true =>
    rw[hfr]at er
    simp only[if_true]at er ⊢
    exact⟨s1,by simp[er],s3⟩
   | false =>
    rw[hfr]at er
    simp only[Bool.false_eq_true,if_false]at er ⊢
    rw[wJ,wJ]
    exact⟨by rw[s1],by simp[er,s1],by rw[s3]⟩
  .have hw:zR es ms TH CE VA S i k=S k:=by unfold zR;rw[hj,kZ _ _ e]
   obtain⟨k1,k2,k3'⟩:=hSj k hk
   rw[hw,kZ _ _ e,k3 k e]
   refine⟨?_,k2,?_⟩
   .split
    .exact k1
    .rw[kZ _ _ e];exact k1
   .split
    .exact k3'
    .rw[kZ _ _ e];exact k3'
 by_cases hz:f=0
 .simp[hz,-bT]
  refine fin m2 A va tag _ h2 g2.n (g2.obj L hLm) hL (by rw[hz];simp[evF]) (λ_ _=>rfl) (by omega) ?_ ?_ ?_ ?_ ?_
  .simp[t1]
  .simp[t5]
  .simp[t9]
  .simp
  .simp
 .have lva:=h2.lva hjn
  obtain⟨M3,hM3⟩:=qhd (Dx.newRow m2 [iv 7,iv 0,iv 0,iv 0,zS,zS,zS,iv f,iv 0,iv 0,iv 0])
  have E3:Ext m2 M3:=by rw[hM3];exact Ext.row _ _
  obtain⟨v',m4,m5,p1,p2,tag',p3,p4,p5⟩:=h2.act hb1 hjn ⟨7,0,0,f,none⟩ E3 (λB op v hB=>by cases hB) (X:=m2.n) (sp:=some 23) (by rw[hM3];exact (Arr.row m2 _).loads (by simp)) (by omega)
  simp[hz,lva,<-hM3,p1,p2,-bT]
  have hL2:L<m2.n:=by have:=g2.n;omega
  refine fin m5 _ _ tag' _ p3 (by have:=g2.n;have:=E3.n;omega) (by rw[(p5 L hL2 hL).2 hLT,g2.obj L hLm]) (p5 L hL2 hL).1 (by rw[wJ];simp[evF,hz,AR.era]) (λk hk=>by rw[kZ _ _ hk]) (by rw[wJ];simp;omega) ?_ ?_ ?_ ?_ ?_
  .simp[t1]
  .simp[t5]
  .simp[t9]
  .simp
  .simp
end Go.Sx
namespace Go.Dx
@[simp] theorem qfx (o:Int) (a:Option Addr) (x y:Nat):qW [zI,zI,zI,zI,zS,zS,zS,zI,zI,zI,zI] [(0,1,.int .i64 o),(5,1,.slice a x y)] =
  some (.agg ⟨[.int .i64 o,zI,zI,zI,zS,.slice a x y,zS,zI,zI,zI,zI]⟩):=_root_.id rfl
end Go.Dx
namespace Go.Sx
open Go.Dx Go.Proofs
def WK (m1 m:M)(u:WB)(N nt:Nat)(fv:Value)(S:Nat->TS):Prop:=∃loc va vo A O tag,WI m1 m u N nt fv loc va vo A O tag/\∀j,j<nt->loc j=(S j).loc/\(A j).map AR.era=(S j).acts/\O j=(S j).outs
theorem WJ.toK {m1 m:M}{u:WB}{N nt:Nat}{fv:Value}{S:Nat->TS}{L:Nat}(h:WJ m1 m u N nt fv S L):WK m1 m u N nt fv S:=let ⟨a,b,c,d,f,g,h1,_,h3⟩:=h;⟨a,b,c,d,f,g,h1,h3⟩
theorem WK.congr {m1 m:M}{u:WB}{N nt:Nat}{fv:Value}{S S':Nat->TS}(h:WK m1 m u N nt fv S)(e:∀j,j<nt->S' j=S j):WK m1 m u N nt fv S':=let ⟨a,b,c,d,f,g,h1,h3⟩:=h;⟨a,b,c,d,f,g,h1,λj hj=>by rw[e j hj];exact h3 j hj⟩
abbrev prA (k:Nat):AB:=(8,0,0,0,some (2,k))
def jt (q:Nat):List AB:=(List.range q).map prA
theorem Xx (q:Nat):jt (q+1)=jt q++[prA q]:=by unfold jt;rw[List.range_succ,List.map_append];rfl
theorem vR (q:Nat):(jt q).length=q:=by unfold jt;simp
def TS.pr (s:TS)(q:Nat):TS:=⟨s.loc,s.acts++jt q,s.outs⟩
def TS.fin (s:TS):TS:=s.pr s.loc
theorem qd9 (n:Nat){m1:M}{u:WB}{N nt:Nat}{fv:Value}(hb1:m1.base<=m1.n){S:Nat->TS}(hbd:∀j,(S j).loc<=400/\(S j).acts.length<=400){p:Nat}(hp:p<nt)(Q:Option Out->Prop)(kn0 kn kr:K)(ke:Nat->K)(t:Tm)(m:M)
  (h14:Tm.get 14 t=.pointer (some ⟨u.TB,p*2,none⟩)) (h187:Tm.get 187 t=iv (S p).loc) (h188:Tm.get 188 t=iv 0) (h:WK m1 m u N nt fv S) (I:Tm->Prop) (hI:I t) (hIk:∀t i v,I t->i ∉ [2,3,5,8,9,176,177]->I (Tm.set i v t))
  (hq:∀t m,I t->WK m1 m u N nt fv (upN S p (S p).fin)->Q (kn t m)):Q (Vc (ex Tryz.prog n) kn0 (jN 4 kn ke) kr t m):=by
 obtain⟨q0,hq0⟩:=qhd ((S p).loc)
 have hq400:q0<=400:=by rw[hq0];exact (hbd p).1
 rw[<-hq0]at h187
 refine qR (c:=Vc) rfl Q (λi t m'=>Tm.get 14 t=.pointer (some ⟨u.TB,p*2,none⟩)/\Tm.get 187 t=iv q0/\Tm.get 188 t=iv i/\I t/\WK m1 m' u N nt fv (upN S p ((S p).pr i))) q0 (by omega)
  ⟨h14,h187,h188,hI,h.congr λj hj=>?_⟩ (λi t m' k hi hJ hk=>?_)
 .by_cases e:j=p
  .subst e;rw[wJ];simp[TS.pr,jt]
  .rw[kZ _ _ e]
 obtain⟨h14,h187,h188,hI,hW⟩:=hJ
 by_cases hil:i<q0
 .obtain⟨loc,va,vo,A,O,tag,w,hS⟩:=hW
  obtain⟨s1,s2,s3⟩:=hS p hp
  rw[wJ]at s1 s2 s3
  have hAl:(A p).length<=1000:=by
   have:=congrArg List.length s2
   rw[List.length_map]at this
   simp only[TS.pr,qgx,vR]at this
   have:=(hbd p).2
   omega
  have hd:=dlt hil
  have w1:=wL (i:=i) (by omega)
  have cvv:=vd i (by omega)
  have lva:=w.lva hp
  obtain⟨M1,hM1⟩:=qhd (Dx.newRow m' [iv 2,.int .u64 i,iv 0,iv 0])
  have n1:M1.n=m'.n+1:=by rw[hM1,qz]
  obtain⟨M2,hM2⟩:=qhd (Dx.newRow M1 [iv 8,iv 0,iv 0,iv 0,zS,.slice (some ⟨m'.n,0,some 9⟩) 1 1,zS,iv 0,iv 0,iv 0,iv 0])
  have E1:Ext m' M1:=by rw[hM1];exact Ext.row _ _
  have E2:Ext M1 M2:=by rw[hM2];exact Ext.row _ _
  have hA1:Arr M2 m'.n (xM 2 i):=by
   have:Arr M1 m'.n (xM 2 i):=by rw[hM1];exact Arr.row m' _
   exact this.ext E2 (by omega)
  obtain⟨v',m4,m5,p1,p2,tag',p3,p4,p5⟩:=w.act hb1 hp ⟨8,0,0,0,some (m'.n,2,i)⟩ (E1.trans E2) (λB op v hB=>by cases hB;exact⟨qgq _,by have:=E2.n;omega,hA1⟩) (X:=M1.n) (sp:=some 23) (by rw[hM2];exact (Arr.row M1 _).loads (by simp)) hAl
  rw[n1]at p1
  simp[h14,h187,h188,hd,lva,cvv,<-hM1,n1,<-hM2,p1,p2,w1]
  refine hk hil _ _ ⟨by simp[h14],by simp[h187],by simp,?_,_,_,_,_,_,tag',p3,λj hj=>?_⟩
  .repeat' (first | exact hI | refine hIk _ _ _ ?_ (by simp))
  .by_cases e:j=p
   .subst e
    rw[wJ,wJ]
    refine⟨s1,?_,s3⟩
    rw[List.map_append,s2]
    simp[TS.pr,Xx,AR.era]
   .have:=hS j hj
    rw[kZ _ _ e]at this ⊢
    rw[kZ _ _ e]
    exact this
 .obtain rfl:i=q0:=by omega
  have hd:((i:Int)<(i:Int))=False:=eq_false (by omega)
  simp[h187,h188,hd]
  refine hq _ _ ?_ ?_
  .repeat' (first | exact hI | refine hIk _ _ _ ?_ (by simp))
  .rw[hq0]at hW;exact hW
theorem BF (n:Nat){m1:M}{u:WB}{N nt:Nat}{fv:Value}(hnt:nt<=16)(hb1:m1.base<=m1.n){S:Nat->TS}(hbd:∀j,(S j).loc<=100/\(S j).acts.length<=100)(Q:Option Out->Prop)(kn0 kn kr:K)(ke:Nat->K)(t:Tm)(m:M){P2 P3:Nat}
  (t2:Tm.get 2 t=.pointer (some ⟨P2,0,none⟩)) (t3:Tm.get 3 t=.pointer (some ⟨P3,0,none⟩)) (t5:Tm.get 5 t=.pointer (some ⟨u.q5,0,none⟩)) (t8:Tm.get 8 t=.pointer (some ⟨u.P8,0,none⟩)) (t9:Tm.get 9 t=.pointer (some ⟨u.P9,0,none⟩))
  (h176:Tm.get 176 t=iv nt) (h177:Tm.get 177 t=iv 0) (h:WK m1 m u N nt fv S)
  (hq:∀t m,Tm.get 2 t=.pointer (some ⟨P2,0,none⟩)->Tm.get 3 t=.pointer (some ⟨P3,0,none⟩)->Tm.get 5 t=.pointer (some ⟨u.q5,0,none⟩)->Tm.get 9 t=.pointer (some ⟨u.P9,0,none⟩)->Tm.get 8 t=.pointer (some ⟨u.P8,0,none⟩)->WK m1 m u N nt fv (λj=>(S j).fin)->Q (kn t m)):Q (Vd (ex Tryz.prog n) kn0 (jN 2 kn ke) kr t m):=by
 refine qR (c:=Vd) rfl Q (λi t m'=>(Tm.get 2 t=.pointer (some ⟨P2,0,none⟩)/\Tm.get 3 t=.pointer (some ⟨P3,0,none⟩)/\Tm.get 5 t=.pointer (some ⟨u.q5,0,none⟩)/\Tm.get 8 t=.pointer (some ⟨u.P8,0,none⟩)/\Tm.get 9 t=.pointer (some ⟨u.P9,0,none⟩)/\Tm.get 176 t=iv nt)/\Tm.get 177 t=iv i /\
   WK m1 m' u N nt fv (λj=>if j<i then (S j).fin else S j)) nt (by omega)
  ⟨⟨t2,t3,t5,t8,t9,h176⟩,h177,h.congr λj hj=>by simp⟩ (λi t m' k hi hJ hk=>?_)
 obtain⟨⟨t2,t3,t5,t8,t9,h176⟩,h177,hW⟩:=hJ
 by_cases hil:i<nt
 .have hd:=dlt hil
  have w1:=wL (i:=i) (by omega)
  have xT:=yg (e:=2) (c:=5) u.TB nt i hil
  have ⟨l8,ll⟩:load1 m' ⟨u.P8,1,none⟩=some (.slice (some ⟨u.TB,0,some 5⟩) nt nt)/\load1 m' ⟨u.TB,i*2,none⟩=some (iv (S i).loc):=by
   obtain⟨loc,va,vo,A,O,tag,w,hS⟩:=hW
   have:=(hS i hil).1
   simp only[Nat.lt_irrefl,if_false]at this
   exact⟨w.lt8,by rw[w.lloc hil,this]⟩
  simp[t8,h176,h177,hd,l8,ll,xT]
  refine qd9 n hb1 (S:=λj=>if j<i then (S j).fin else S j) (λj=>?_) hil Q _ _ _ _ _ _ ?_ ?_ ?_ hW
   (λt=>(Tm.get 2 t=.pointer (some ⟨P2,0,none⟩)/\Tm.get 3 t=.pointer (some ⟨P3,0,none⟩)/\Tm.get 5 t=.pointer (some ⟨u.q5,0,none⟩)/\Tm.get 8 t=.pointer (some ⟨u.P8,0,none⟩)/\Tm.get 9 t=.pointer (some ⟨u.P9,0,none⟩)/\Tm.get 176 t=iv nt)/\Tm.get 177 t=iv i)
   ?_ (λt i v h hm=>?_) (λt m hI hW'=>?_)
  .have:=hbd j
   split
   .simp only[TS.fin,TS.pr,qgx,vR];omega
   .omega
  .simp
  .simp
  .simp
  .exact⟨⟨by simp[t2],by simp[t3],by simp[t5],by simp[t8],by simp[t9],by simp[h176]⟩,by simp[h177]⟩
  .simp only[List.mem_cons,List.not_mem_nil,or_false,not_or]at hm
   obtain⟨a1,a2,a3,a4,a5,a6,a7⟩:=hm
   simp only[jT]
   rw[if_neg (Ne.symm a1),if_neg (Ne.symm a2),if_neg (Ne.symm a3),if_neg (Ne.symm a4),if_neg (Ne.symm a5),if_neg (Ne.symm a6),if_neg (Ne.symm a7)]
   exact h
  .obtain⟨⟨t2,t3,t5,t8,t9,h176⟩,h177⟩:=hI
   simp[h177,w1]
   refine hk hil _ _ ⟨⟨by simp[t2],by simp[t3],by simp[t5],by simp[t8],by simp[t9],by simp[h176]⟩,by simp,hW'.congr λj hj=>?_⟩
   by_cases e:j=i
   .subst e;rw[wJ];simp
   .rw[kZ _ _ e]
    by_cases h':j<i
    .rw[if_pos (by omega),if_pos h']
    .rw[if_neg (by omega),if_neg h']
 .obtain rfl:i=nt:=by omega
  have hd:((i:Int)<(i:Int))=False:=eq_false (by omega)
  simp[h176,h177,hd]
  exact hq _ _ (by simp[t2]) (by simp[t3]) (by simp[t5]) (by simp[t9]) (by simp[t8]) (hW.congr λj hj=>by rw[if_pos hj])
end Go.Sx
namespace Go.Sx
open Go.Dx Go.Proofs
theorem qd8 (n:Nat){m1 m5:M}{u:WB}{N nt:Nat}(hN:N<=16)(hb1:m1.base<=m1.n){A8:Nat}(h8m:A8<m1.n){WR:Nat->Nat}(hsm:∀x,WR x<1000000)(h8:∀x,x<N->load1 m1 ⟨A8,x,none⟩=some (iv (WR x))){loc:Nat->Nat}{va vo:Nat->Value}(h:St m1 m5 (u.σ N nt zS loc va vo))(Q:Option Out->Prop)(kn0 kn kr:K)(ke:Nat->K)(t:Tm){P2 P3:Nat}
  (t2:Tm.get 2 t=.pointer (some ⟨P2,0,none⟩)) (t3:Tm.get 3 t=.pointer (some ⟨P3,0,none⟩)) (t8:Tm.get 8 t=.pointer (some ⟨u.P8,0,none⟩)) (t9:Tm.get 9 t=.pointer (some ⟨u.P9,0,none⟩)) (h210:Tm.get 210 t=.slice (some ⟨A8,0,some 3⟩) N N) (h211:Tm.get 211 t=iv N) (h212:Tm.get 212 t=iv 0)
  (hq:∀t m fv,Tm.get 2 t=.pointer (some ⟨P2,0,none⟩)->Tm.get 3 t=.pointer (some ⟨P3,0,none⟩)->Tm.get 8 t=.pointer (some ⟨u.P8,0,none⟩)->Tm.get 9 t=.pointer (some ⟨u.P9,0,none⟩)->St m1 m (u.σ N nt fv loc va vo)->Grown m1 m fv 1 ku ((List.range N).map WR)->(∀B,blk fv=some B->m5.n<=B)->m5.n<=m.n->(∀B,B<m5.n->B≠u.P9->m.obj B=m5.obj B)->Q (kn t m)) :
  Q (Ve (ex Tryz.prog n) kn0 (jN 6 kn ke) kr t m5):=by
 refine qR (c:=Ve) rfl Q (λi t m'=>(Tm.get 2 t=.pointer (some ⟨P2,0,none⟩)/\Tm.get 3 t=.pointer (some ⟨P3,0,none⟩)/\Tm.get 8 t=.pointer (some ⟨u.P8,0,none⟩)/\Tm.get 9 t=.pointer (some ⟨u.P9,0,none⟩)/\Tm.get 210 t=.slice (some ⟨A8,0,some 3⟩) N N/\Tm.get 211 t=iv N)/\Tm.get 212 t=iv i /\
   ∃fv,St m1 m' (u.σ N nt fv loc va vo)/\Grown m1 m' fv 1 ku ((List.range i).map WR)/\(∀B,blk fv=some B->m5.n<=B)/\m5.n<=m'.n/\∀B,B<m5.n->B≠u.P9->m'.obj B=m5.obj B) N (by omega)
  ⟨⟨t2,t3,t8,t9,h210,h211⟩,h212,_,h,by simpa using Grown.nil,λB hB=>by (cases hB),qgq _,λ_ _ _=>rfl⟩ (λi t m' k hi hJ hk=>?_)
 obtain⟨⟨t2,t3,t8,t9,h210,h211⟩,h212,fv,st,hG,hfv,hn5,ho⟩:=hJ
 by_cases hil:i<N
 .have hd:=dlt hil
  have w1:=wL (i:=i) (by omega)
  have x8:=yg (e:=1) (c:=3) A8 N i hil
  rw[Nat.mul_one]at x8
  have l8:load1 m' ⟨A8,i,none⟩=some (iv (WR i)):=(qQ st.sees h8m).trans (h8 i hil)
  obtain⟨w,hw⟩:=qhd (WR i)
  have cvv:=vd w (by rw[hw];exact hsm i)
  rw[<-hw]at l8
  have lf:load1 m' ⟨u.P9,0,none⟩=some fv:=by rw[(st.get 3 rfl).2.2.load1];rfl
  obtain⟨M1,hM1⟩:=qhd (Dx.newRow m' [.int .u64 w])
  have E1:Ext m' M1:=by rw[hM1];exact Ext.row _ _
  have hlen:((List.range i).map WR).length=i:=by simp
  obtain⟨v',m2,p1,p2,p3,p4,p5,p6⟩:=(hG.ext E1).append (st.ext.trans E1) hb1 (by omega) vP KO (x:=w) (X:=m'.n) (sp:=some 3) (by rw[hM1];exact (Arr.row m' _).loads (by simp)) (bytes:=8) (by rw[hlen];unfold most;omega) (by rw[hlen];omega)
  have hE1n:=E1.n
  have st2:St m1 m2 (u.σ N nt fv loc va vo):=(st.step E1).keepOn p2 p4 λp hp=>p5 p.1 (by have:=(st.arr p hp).2.1;omega) λhc=>by
   have:=hfv _ hc
   have hp':p.1∈(u.σ N nt zS loc va vo).map (·.1):=by
    have e:(u.σ N nt zS loc va vo).map (·.1)=(u.σ N nt fv loc va vo).map (·.1):=rfl
    rw[e];exact List.mem_map.2 ⟨_,hp,rfl⟩
   obtain⟨q,hq,e⟩:=List.mem_map.1 hp'
   have:=(h.arr q hq).2.1
   omega
  obtain⟨m3,s1,s2,s3,s4⟩:=st2.store 3 rfl (o:=0) (v:=v') (by simp) p3.okC
  have h9m:u.P9<m5.n:=(h.get 3 rfl).2.1
  simp[t2,t3,t8,t9,h210,h211,h212,hd,x8,l8,lf,cvv,<-hM1,p1,s1,w1]
  refine hk hil _ _ ⟨⟨by simp[t2],by simp[t3],by simp[t8],by simp[t9],by simp[h210],by simp[h211]⟩,by simp,v',s2,?_,λB hB=>by have:=p6 B hB;omega,by omega,λB hB hne=>?_⟩
  .have e:(List.range (i+1)).map WR=(List.range i).map WR++[w]:=by rw[List.range_succ,List.map_append,hw];rfl
   rw[e]
   exact p3.keep (by omega) λB hB hb=>s4 B (by have:=p6 B hb;omega)
  .rw[s4 B hne,p5 B (by omega) (λhc=>by have:=hfv B hc;omega),E1.obj B (by omega)]
   exact ho B hB hne
 .obtain rfl:i=N:=by omega
  have hd:((i:Int)<(i:Int))=False:=eq_false (by omega)
  simp[h211,h212,hd]
  exact hq _ _ fv (by simp[t2]) (by simp[t3]) (by simp[t8]) (by simp[t9]) st hG hfv hn5 ho
end Go.Sx
namespace Go.Dx
theorem FI {m0 m:M}{Q:Value->M->Prop}{t:Tm}{p q r:Nat}{a b:Addr}{l1 l2:List Value}(h1:Tm.get p t=.pointer (some a))(h2:loads m a 2=some l1)(h3:Tm.get q t=.pointer (some b))(h4:loads m b 2=some l2)(he:Ext m0 m)(hq:Q (.tuple #[.agg ⟨l1⟩,.agg ⟨l2⟩,Tm.get r t]) m) :
  Ret m0 Q (kO [.cell p 2,.cell q 2,.t r] t m):=by
 refine dM (l:=[.agg ⟨l1⟩,.agg ⟨l2⟩,Tm.get r t]) ?_ he hq
 simp only[vT,gm,h1,h3,yO,qS,h2,h4]
@[simp] theorem qfw:qW [zI,zS] []=some (.agg ⟨[zI,zS]⟩):=_root_.id rfl
@[simp] theorem build_sl0:qW [zS,zS] []=some (.agg ⟨[zS,zS]⟩):=_root_.id rfl
@[simp] theorem qgb (a:Int) (x:Option Addr) (y z:Nat):qW [zI,zS] [(0,1,.int .i64 a),(1,1,.slice x y z)]=some (.agg ⟨[.int .i64 a,.slice x y z]⟩):=_root_.id rfl
@[simp] theorem qga (x:Option Addr) (y z:Nat):qW [zS,zS] [(1,1,.slice x y z)]=some (.agg ⟨[zS,.slice x y z]⟩):=_root_.id rfl
end Go.Dx
namespace Go.Sx
open Go.Dx Go.Proofs
def TS0:Nat->TS:=λ_=>⟨0,[],[]⟩
def Woven (m0 m:M)(v:Value)(N nt:Nat)(S:Nat->TS)(W:List Nat):Prop :=
 ∃(tsl osl fsl:Value) (loc:Nat->Nat) (va vo:Nat->Value) (A:Nat->List AR),v=.tuple #[.agg #[iv N,tsl],.agg #[fsl,osl],iv 0]/\Rd m fsl 1 ku W/\Rd m tsl 2 (λp:Int × Value=>[iv p.1,p.2]) ((List.range nt).map λ(j:Nat)=>(((loc j:Nat):Int),(va j:Value)))/\Rd m osl 1 (λv=>[v]) ((List.range nt).map vo) /\
  (∀j,j<nt->loc j=(S j).loc/\(A j).map AR.era=(S j).acts/\Rd m (va j) 11 xO (A j)/\Rd m (vo j) 1 ku (S j).outs/\(∀r,r∈A j->∀B op v,r.e=some (B,op,v)->B<m.n/\Arr m B (xM op v))) /\
  (∀B,blk fsl=some B->m0.n<=B)/\(∀B,blk tsl=some B->m0.n<=B)/\(∀B,blk osl=some B->m0.n<=B)/\∀j,j<nt->(∀B,blk (va j)=some B->m0.n<=B)/\(∀B,blk (vo j)=some B->m0.n<=B)/\∀r,r∈A j->∀B op v,r.e=some (B,op,v)->m0.n<=B
theorem XS (es:List (Int × Int))(ms:List Int)(TH CE VA:Nat->Nat):∀(l:List Nat) (k:Nat) (S:Nat->TS),(∀j,(S j).loc<=k/\(S j).acts.length<=2*k/\(S j).outs.length<=k) ->
  ∀j,(l.foldl (zR es ms TH CE VA) S j).loc<=k+l.length/\(l.foldl (zR es ms TH CE VA) S j).acts.length<=2*(k+l.length)/\(l.foldl (zR es ms TH CE VA) S j).outs.length<=k+l.length
 | [],k,S,h=>h
 | i::l,k,S,h=>by
  have:=XS es ms TH CE VA l (k+1) (zR es ms TH CE VA S i) λj=>by
   unfold zR
   by_cases e:j=TH i
   .subst e
    rw[wJ]
    obtain⟨h1,h2,h3⟩:=h (TH i)
    have hf:(evF (yu es i)).length<=1:=by unfold evF;split<;>simp
    unfold gq
    split
    .refine⟨by simp only;omega,by simp only[qgx,List.length_singleton];omega,by simp only;omega⟩
    .refine⟨by simp only;omega,by simp only[qgx,List.length_singleton];omega,by simp only[qgx,List.length_singleton];omega⟩
   .rw[kZ _ _ e]
    obtain⟨h1,h2,h3⟩:=h j
    exact⟨by omega,by omega,by omega⟩
  rw[List.foldl_cons,List.length_cons,show k+(l.length+1)=k+1+l.length by omega]
  exact this
theorem qdh (n:Nat)(ed md:Value)(es:List (Int × Int))(ms:List Int)(m:M)(hm:m.base<=m.n)(hl:es.length<9223372036854775807)(hed:Rd m ed 2 edgeRow es)(hmd:Rd m md 1 modeRow ms)(ch:Nat->List Nat)
  (hch:(zj es ms).2=0->∀c,c<es.length-cnt es->kU es (xk es (es.length-cnt es) (wi es (wM es))).ce (wM es) c (ch c)) (TH CE VA WR:Nat->Nat)
  (hlaw:(zj es ms).2=0->BV es (jm es ch (List.replicate es.length 0) (es.length-cnt es)) TH CE VA WR) :
  Dx.Call (ex Tryz.prog (n+9)) 5 [.agg #[ed,md]] m λv m'=>((zj es ms).2≠0/\v=.tuple #[.agg #[iv 0,zS],.agg #[zS,zS],iv (zj es ms).2]) \/
   ((zj es ms).2=0/\Woven m m' v (es.length-cnt es) (cnt es) (λj=>((wi es (wM es)).foldl (zR es ms TH CE VA) TS0 j).fin) ((List.range (es.length-cnt es)).map WR)):=by
 suffices H:∀Q:Value->M->Prop,(∀v m',(((zj es ms).2≠0/\v=.tuple #[.agg #[iv 0,zS],.agg #[zS,zS],iv (zj es ms).2]) \/
   ((zj es ms).2=0/\Woven m m' v (es.length-cnt es) (cnt es) (λj=>((wi es (wM es)).foldl (zR es ms TH CE VA) TS0 j).fin) ((List.range (es.length-cnt es)).map WR)))->Q v m')->Dx.Call (ex Tryz.prog (n+9)) 5 [.agg #[ed,md]] m Q from H _ λ_ _ h=>h
 intro Q hQ
 refine qy da1_ok (by simp) ?_
 have st0:St m m []:=St.nil hm (Ext.refl m)
 have stA:=((st0.row [ed,md]).row [zI,zS]).row [zS,zS]
 simp only[qz]at stA
 obtain⟨mA,hmA⟩:=qhd (Dx.newRow (Dx.newRow (Dx.newRow m [ed,md]) [zI,zS]) [zS,zS])
 rw[<-hmA]at stA
 have lbA:loads mA ⟨m.n,0,none⟩ 2=some [ed,md]:=(stA.get 2 rfl).2.2.loads (by simp)
 obtain⟨v1,m1,c1,c2,c3⟩:=lay_c n ed md es ms mA stA.sees.base hl (hed.sees stA.sees) (hmd.sees stA.sees) ch hch
 have st1:=stA.step c2
 have hb1:m1.base<=m1.n:=st1.sees.base
 have s0:St m1 m1 []:=St.nil hb1 (Ext.refl m1)
 have s1:=s0.row [.pointer none]
 simp[<-hmA,lbA,qe,c1]
 rcases c3 with ⟨hz,rfl⟩ | ⟨hz,PB,rfl,hLaid⟩
 .obtain⟨q1,hq1⟩:=qhd ((zj es ms).1)
  obtain⟨q2,hq2⟩:=qhd ((zj es ms).2)
  rw[<-hq2]at hz hQ ⊢
  rw[<-hq1]
  have s1':=st1.row [.pointer none]
  obtain⟨m2,a1,a2,a3,a4⟩:=s1'.store 0 rfl (o:=0) (v:=.pointer none) (by simp) rfl
  obtain⟨m3,b1,b2,b3,b4⟩:=a2.fill 2 rfl (n:=2) (l':=[iv 0,zS]) rfl rfl (by simp[okC])
  obtain⟨m4,d1,d2,d3,d4⟩:=b2.fill 1 rfl (n:=2) (l':=[zS,zS]) rfl rfl (by simp[okC])
  simp[a1,hz,b1,d1]
  refine FI (a:=⟨m.n+1,0,none⟩) (b:=⟨m.n+1+1,0,none⟩) (by simp) ((d2.get 2 rfl).2.2.loads (by simp)) (by simp) ((d2.get 1 rfl).2.2.loads (by simp)) d2.ext (hQ _ _ (.inl ⟨hz,by simp⟩))
 .obtain⟨law1,law2,law3,law4,law5,law6,law7⟩:=hlaw hz
  obtain⟨hl16,hml,hA2,hN1,hok⟩:es.length<=16/\ms.length=es.length/\2<=cnt es/\1<=es.length-cnt es/\∀(i:Nat) e,es[i]?=some e->zx e=false:=by
   unfold zj at hz
   by_cases h1:(wn es ms).2≠0
   .rw[if_pos h1]at hz;exact absurd hz h1
   .rw[if_neg h1]at hz
    have h1':(wn es ms).2=0:=by omega
    by_cases h2:cnt es<2\/es.length-cnt es<1
    .rw[if_pos h2]at hz;simp at hz
    .exact⟨(jr h1').1,(jr h1').2,by omega,by omega,fc h1'⟩
  obtain⟨N,hNe⟩:=qhd (es.length-cnt es)
  obtain⟨nt,hnt⟩:=qhd (cnt es)
  have hcl:cnt es<=es.length:=by unfold cnt;exact List.countP_le_length
  obtain⟨b,hbe⟩:=qhd (wM es)
  have hb:=Zh (es:=es) (by omega)
  rw[<-hbe]at hb
  have hbl:b<es.length:=by unfold first at hb;rw[List.find?_range_eq_some]at hb;simpa using hb.2.1
  obtain⟨ed',md',A5,A6,A7,A8,hPl,hmd',p1,p3,p4,p5,p7,p8,r5,r6,r7,r8,k5,k6,k7,k8⟩:=hLaid.ex
  rw[<-hNe]at law1 law3 law4 law5 hPl p3 p4 p8 r5 r6 r7 r8 hQ hN1
  rw[<-hbe]at law1 law3 law5 hPl r5 r6 r8 hQ
  rw[<-hnt]at law2 hQ hA2
  have hp3:es.length-N=nt:=by omega
  rw[hp3]at p3
  have hLF:LF m1 PB A5 A6 A7 m.n ed' ed md es ms TH CE VA:=by
   refine⟨hPl.lt,k5,k6,k7,by have:=(st1.get 2 rfl).2.1;exact this,hPl.p0 none,p5 none,hPl.p6 none,p7 none,λi hi=>?_,λi hi=>?_,λi hi=>?_,hPl.hed,?_,hmd.sees st1.sees,law6⟩
   .rw[r5.load1];exact kW _ _ _ (law1 i hi)
   .rw[r6.load1];exact kW _ _ _ (law3 i hi)
   .rw[r7.load1];exact kW _ _ _ (law4 i hi)
   .rw[(st1.get 2 rfl).2.2.load1];rfl
  obtain⟨m2,a1,a2,a3,a4⟩:=s1.store 0 rfl (o:=0) (v:=.pointer (some ⟨PB,0,none⟩)) (by simp) rfl
  have a2':St m1 m2 [(m1.n,[.pointer (some ⟨PB,0,none⟩)])]:=a2
  have n2:m2.n=m1.n+1:=by rw[a3,qz]
  have lq:load1 m2 ⟨m1.n,0,none⟩=some (.pointer (some ⟨PB,0,none⟩)):=by rw[(a2'.get 0 rfl).2.2.load1];rfl
  have lP4:load1 m2 ⟨PB,4,none⟩=some (iv N):=(qQ a2'.sees hPl.lt).trans (p4 none)
  have lP3:load1 m2 ⟨PB,3,none⟩=some (iv nt):=(qQ a2'.sees hPl.lt).trans (p3 none)
  have mk2:=Fo (n:=nt) (e:=2) (bytes:=32) (zs:=[zI,zS]) rfl (by omega) (by omega) (by omega) m2
  have b1':=a2'.row ((List.range nt).flatMap λ_=>[zI,zS])
  have b2':=b1'.row [zI,zS]
  simp only[qz]at b2'
  obtain⟨m3',d1,d1l,d2,d3,d4⟩:=b2'.fillAny 0 rfl (n:=2) (l':=[iv N,.slice (some ⟨m2.n,0,some 5⟩) nt nt]) (by omega) rfl rfl (by simp[okC])
  obtain⟨M3,hM3⟩:=qhd (behind (Dx.newRow (Dx.newRow m2 ((List.range nt).flatMap λ_=>[zI,zS])) [zI,zS]) m3')
  rw[<-hM3]at d2 d3 d4
  simp only[qz]at d3
  have d2':St m1 M3 [(m2.n+1,[iv N,.slice (some ⟨m2.n,0,some 5⟩) nt nt]),(m2.n,(List.range nt).flatMap λ_=>[zI,zS]),(m1.n,[.pointer (some ⟨PB,0,none⟩)])]:=d2
  have lq3:load1 M3 ⟨m1.n,0,none⟩=some (.pointer (some ⟨PB,0,none⟩)):=by rw[(d2'.get 2 rfl).2.2.load1];rfl
  have lP33:load1 M3 ⟨PB,3,none⟩=some (iv nt):=(qQ d2'.sees hPl.lt).trans (p3 none)
  have mk1:=Fo (n:=nt) (e:=1) (bytes:=24) (zs:=[zS]) rfl (by omega) (by omega) (by omega) M3
  have e1':=d2'.row ((List.range nt).flatMap λ_=>[zS])
  have e2':=e1'.row [zS,zS]
  simp only[qz]at e2'
  obtain⟨M4,f1,f2,f3,f4⟩:=e2'.fill 0 rfl (n:=2) (l':=[zS,.slice (some ⟨M3.n,0,some 3⟩) nt nt]) rfl rfl (by simp[okC])
  simp only[qz]at f3
  have lq4:load1 M4 ⟨m1.n,0,none⟩=some (.pointer (some ⟨PB,0,none⟩)):=by rw[(f2.get 4 rfl).2.2.load1];rfl
  have hwk:=YB (n+7) ⟨PB,0,none⟩ M4
  have stW:=f2.row [.pointer (some ⟨PB,0,none⟩)]
  obtain⟨M5,hM5⟩:=qhd (Dx.newRow M4 [.pointer (some ⟨PB,0,none⟩)])
  rw[<-hM5]at stW
  have n5:M5.n=M4.n+1:=by rw[hM5,qz]
  have code2:code 2 true=5:=rfl
  have code1:code 1 true=3:=rfl
  rw[code2]at mk2
  rw[code1]at mk1
  simp[a1,lq,lP4,lP3,mk2,d1,<-hM3,lq3,lP33,mk1,f1,lq4,hwk,<-hM5]
  generalize hT0:Tm.set 46 _ _=T0
  have g1:Tm.get 1 T0=.pointer (some ⟨m.n,0,none⟩):=by rw[<-hT0];simp
  have g2:Tm.get 2 T0=.pointer (some ⟨m.n+1,0,none⟩):=by rw[<-hT0];simp
  have g3:Tm.get 3 T0=.pointer (some ⟨m.n+1+1,0,none⟩):=by rw[<-hT0];simp
  have g5:Tm.get 5 T0=.pointer (some ⟨m1.n,0,none⟩):=by rw[<-hT0];simp
  have g8:Tm.get 8 T0=.pointer (some ⟨m2.n+1,0,none⟩):=by rw[<-hT0];simp
  have g9:Tm.get 9 T0=.pointer (some ⟨M3.n+1,0,none⟩):=by rw[<-hT0];simp
  have g46:Tm.get 46 T0=.func (.func 22) #[] #[.pointer (some ⟨M4.n,0,none⟩)]:=by rw[<-hT0];simp
  clear hT0
  obtain⟨T,hT⟩:=qhd (xj [9,8,5,1] T0)
  have kp:∀i,i∈[9,8,5,1]->Tm.get i T=Tm.get i T0:=λi hi=>by
   rw[hT];exact yw i (by simp at hi;omega) T0 _ (by simp) hi
  have T1:=(kp 1 (by simp)).trans g1
  have T5:=(kp 5 (by simp)).trans g5
  have T8:=(kp 8 (by simp)).trans g8
  have T9:=(kp 9 (by simp)).trans g9
  obtain⟨u,hu⟩:∃u:WB,u=⟨m1.n,M4.n,m2.n+1,m2.n,M3.n+1,M3.n,PB⟩:=⟨_,rfl⟩
  have u5:u.q5=m1.n:=by rw[hu]
  have uW:u.W=M4.n:=by rw[hu]
  have u8:u.P8=m2.n+1:=by rw[hu]
  have uT:u.TB=m2.n:=by rw[hu]
  have u9:u.P9=M3.n+1:=by rw[hu]
  have uO:u.OB=M3.n:=by rw[hu]
  have uP:u.PB=PB:=by rw[hu]
  have stu:St m1 M5 (u.σ N nt zS (λ_=>0) (λ_=>zS) (λ_=>zS)):=by
   refine stW.sub (λp hp=>?_) ?_
   .rw[hu]at hp
    simp only[WB.σ,List.mem_cons,List.not_mem_nil,or_false]at hp
    rcases hp with rfl | rfl | rfl | rfl | rfl | rfl
    .exact qgo (i:=0) rfl
    .exact qgo (i:=4) rfl
    .exact qgo (i:=2) rfl
    .exact qgo (i:=1) rfl
    .exact qgo (i:=3) rfl
    .exact qgo (i:=5) rfl
   .rw[hu];simp only[WB.σ,List.map_cons,List.map_nil,List.nodup_cons,List.mem_cons,List.not_mem_nil,or_false,not_false_eq_true,List.nodup_nil,and_true];omega
  have wi0:WI m1 M5 u N nt zS (λ_=>0) (λ_=>zS) (λ_=>zS) (λ_=>[]) (λ_=>[]) (λ_=>0) :=
   ⟨stu,λ_ _=>rfl,λj _=>⟨.nil,λB hB=>by cases hB⟩,λj _=>⟨.nil,λB hB=>by cases hB⟩,λj _ r hr=>by cases hr⟩
  obtain⟨L,hLe⟩:=qhd (M5.n)
  have wj0:WJ m1 M5 u N nt zS TS0 L:=⟨_,_,_,_,_,_,wi0,rfl,λj _=>⟨rfl,rfl,rfl⟩⟩
  have hLb:∀b∈[u.W,u.TB,u.OB,u.P9,u.P8,u.q5],b≠L:=by
   intro x hx
   simp only[List.mem_cons,List.not_mem_nil,or_false]at hx
   omega
  have hm1L:m1.n<=L:=by omega
  obtain⟨ca,hca⟩:∃ca:Code,ca=(cL (cL (cR (cL (cR (cR (cR (cR (cR (wu Tryz.f5)))))))))):=⟨_,rfl⟩
  obtain⟨cb,hcb⟩:∃cb:Code,cb=(cR (cL (cR (cL (cR (cR (cR (cR (cR (wu Tryz.f5)))))))))):=⟨_,rfl⟩
  have ha:=BG
  have hbb:=BK
  rw[<-hca]at ha;rw[<-hcb]at hbb
  obtain⟨mE,hmE⟩:=qhd (M5.alloc (.loop 0 T 226 #[47] ca cb none))
  have nE:mE.n=M5.n+1:=by rw[hmE,M.n_alloc]
  have EE:Ext M5 mE:=by rw[hmE];exact⟨by rw[M.n_alloc];omega,λX hX=>by rw[M.obj_alloc,if_neg (by omega)],M.base_alloc _ _,M.log_alloc _ _⟩
  have obE:mE.obj L=some (.loop 0 T 226 #[47] ca cb none):=by rw[hmE,M.obj_alloc,if_pos hLe]
  let S:Nat->Nat->TS:=λk=>((wi es b).take k).foldl (zR es ms TH CE VA) TS0
  have hol:(wi es b).length=es.length:=by unfold wi;simp
  have hSb:∀k j,(S k j).loc<=16/\(S k j).acts.length<=32/\(S k j).outs.length<=16:=λk j=>by
   have:=XS es ms TH CE VA ((wi es b).take k) 0 TS0 (λj=>by simp[TS0]) j
   rw[List.length_take,hol]at this
   have h2:min k es.length<=16:=by omega
   simp only[S]
   omega
  have hwalk:=Jq (n+7) (.func (.yield L) #[] #[]) PB u.W b es.length (by omega) (by omega) hbl
   (λk m'=>WJ m1 m' u N nt zS (S k) L/\m'.obj L=some (.loop 0 T 226 #[47] ca cb none)/\L<m'.n) (λ_=>False)
   (λk m' _ h=>by
    obtain⟨⟨loc,va,vo,A,O,tag,w,-,-⟩,-,-⟩:=h
    have lf:=hLF.sees w.st.sees
    have hPl':=hPl.sees w.st.sees
    refine⟨by rw[(w.st.get 0 rfl).2.2.load1];show some (Value.pointer (some ⟨u.PB,0,none⟩))=_;rw[uP],⟨ed',hPl'.p0 none,hPl'.hed.len⟩,hPl'.p2 none⟩)
   (λk m' hk h=>by
    obtain⟨w,hob,hLn⟩:=h
    obtain⟨i,hi⟩:=qhd ((b+k)%es.length)
    have hil:i<es.length:=by rw[hi];exact Nat.mod_lt _ (by omega)
    rw[<-hi]
    have hki:(wi es b)[k]?=some i:=by
     rw[hi];unfold wi;rw[qh4,List.getElem?_range hk];rfl
    have hSk:S (k+1)=zR es ms TH CE VA (S k) i:=by
     obtain⟨h,e⟩:=qgp.1 hki
     simp only[S]
     rw[List.take_succ_eq_append_getElem h,List.foldl_append,e];rfl
    have hrd:=fy (P:=Tryz.prog) (n:=n+6) (L:=L) (args:=[iv i]) (t':=Tm.set 47 (iv i) T) (t'':=Tm.set 10 (iv i) (Tm.set 47 (iv i) T)) (m:=m')
     (R:=λe m2=>e=none/\m'.n<=m2.n/\WJ m1 m2 u N nt zS (zR es ms TH CE VA (S k) i) L) hob ha hbb rfl (by omega) (λk=>by unfold qdb;simp) (by
      have w1:=w.putL hLb hm1L (.loop 1 T 226 #[47] ca cb none)
      have:=qda (n+4) hl16 hb1 hLF hok uP hil hml (law2 i hil) w1 (λj=>by have:=hSb k j;omega) T1 (by rw[u5];exact T5) (by rw[u8];exact T8) (by rw[u9];exact T9) (by rw[M.n_put];exact hLn) hLb
      obtain⟨e,m2,r1,r2,r3,r4,r5⟩:=this
      rw[M.n_put]at r4
      rw[M.obj_put,if_pos rfl]at r3
      exact⟨e,m2,r1,r3,r2,r4,r5⟩)
    obtain⟨e,m2,ho2,⟨rfl,hn2,hw2⟩,hrun⟩:=hrd
    rw[<-hSk]at hw2
    exact .inl ⟨_,hrun,hw2.putL hLb hm1L _,by rw[M.obj_put,if_pos rfl],by rw[M.n_put];omega⟩)
   mE ⟨by simpa [S]using wj0.step EE,obE,by omega⟩
  obtain⟨m6,hw,hend⟩:=hwalk
  rcases hend with ⟨w6,ob6,hL6⟩ | hF
  rotate_left
  .exact hF.elim
  rw[uW]at hw
  rw[hLe]at hw ob6
  refine WO (c:=Dv) rfl (g:=22) (u:=[]) (v:=[.pointer (some ⟨M4.n,0,none⟩)]) g46 (r:=.tuple #[]) (m1:=m6) (st:=0) (by rw[<-hT,<-hca,<-hcb,<-hmE];exact hw) (by rw[hca,hcb]at ob6;exact ob6) (by omega) ?_
  unfold vI
  rw[<-hLe]
  have w7:=(w6.putL hLb hm1L (.loop 3 T 226 #[47] (cL (cL (cR (cL (cR (cR (cR (cR (cR (wu Tryz.f5)))))))))) (cR (cL (cR (cL (cR (cR (cR (cR (cR (wu Tryz.f5)))))))))) none)).toK
  obtain⟨m7,hm7⟩:=qhd (m6.put L (.loop 3 T 226 #[47] (cL (cL (cR (cL (cR (cR (cR (cR (cR (wu Tryz.f5)))))))))) (cR (cL (cR (cL (cR (cR (cR (cR (cR (wu Tryz.f5)))))))))) none))
  rw[<-hm7]at w7 ⊢
  have l8:load1 m7 ⟨u.P8,1,none⟩=some (.slice (some ⟨u.TB,0,some 5⟩) nt nt):=by
   obtain⟨loc,va,vo,A,O,tag,w,-⟩:=w7;exact w.lt8
  have hlenS:za (.slice (some ⟨u.TB,0,some 5⟩) nt nt)=some (iv nt):=rfl
  rw[<-u8]at g8
  rw[<-u9]at g9
  rw[<-u5]at g5
  simp[g8,l8,hlenS]
  have hSn:S es.length=(wi es b).foldl (zR es ms TH CE VA) TS0:=by simp only[S];rw[List.take_of_length_le (by omega)]
  refine BF (n+8) (by omega) hb1 (S:=S es.length) (λj=>by have:=hSb es.length j;omega) (Ret m Q) _ _ _ _ _ _ (P2:=m.n+1) (P3:=m.n+1+1) ?_ ?_ ?_ ?_ ?_ ?_ ?_ w7 (λt8 m8 x2 x3 x5 x9 x8 w8=>?_)
  .simp[g2]
  .simp[g3]
  .simp[g5]
  .simp[g8]
  .simp[g9]
  .simp
  .simp
  obtain⟨loc,va,vo,A,O,tag,w,hS⟩:=w8
  have lq8:=w.lq
  rw[uP]at lq8
  have lP8:load1 m8 ⟨PB,8,none⟩=some (.slice (some ⟨A8,0,some 3⟩) N N):=(qQ w.st.sees hPl.lt).trans (p8 none)
  have hlenN:za (.slice (some ⟨A8,0,some 3⟩) N N)=some (iv N):=rfl
  simp[x5,lq8,lP8,hlenN]
  refine qd8 (n+8) (by omega) hb1 (A8:=A8) k8 (WR:=WR) law7 (λx hx=>?_) w.st (Ret m Q) _ _ _ _ _ (P2:=m.n+1) (P3:=m.n+1+1) ?_ ?_ ?_ ?_ ?_ ?_ ?_ (λt9 m9 fv y2 y3 y8 y9 st9 hG hfv hn9 ho9=>?_)
  .rw[r8.load1];exact kW _ _ _ (law5 x hx)
  .simp[x2]
  .simp[x3]
  .simp[x8]
  .simp[x9]
  .simp
  .simp
  .simp
  have st10:=st1.step st9.ext
  have lT:loads m9 ⟨u.P8,0,none⟩ 2=some [iv N,.slice (some ⟨u.TB,0,some 5⟩) nt nt]:=(st9.get 4 rfl).2.2.loads (by simp)
  have lO:loads m9 ⟨u.P9,0,none⟩ 2=some [fv,.slice (some ⟨u.OB,0,some 3⟩) nt nt]:=(st9.get 3 rfl).2.2.loads (by simp)
  obtain⟨m10',i1,i2,i3,i4,i5⟩:=st10.fillAny 1 rfl (n:=2) (l':=[iv N,.slice (some ⟨u.TB,0,some 5⟩) nt nt]) (by omega) rfl rfl (by simp[okC])
  obtain⟨m10,hm10⟩:=qhd (behind m9 m10')
  rw[<-hm10]at i3 i4 i5
  obtain⟨m11',j1,j2,j3,j4,j5⟩:=i3.fillAny 0 rfl (n:=2) (l':=[fv,.slice (some ⟨u.OB,0,some 3⟩) nt nt]) (by omega) rfl rfl (by simp[okC];exact hG.okC)
  obtain⟨m11,hm11⟩:=qhd (behind m10 m11')
  rw[<-hm11]at j3 j4 j5
  have hP3:m.n+1+1<m1.n:=(st1.get 0 rfl).2.1
  have hne9:¬(u.P9=m.n+1):=by rw[u9];omega
  simp[y2,y3,y8,y9,lT,lO,qe,i1,i2,<-hm10,hne9,j1,j2,<-hm11]
  have keep:∀B,m1.n<=B->m11.obj B=m9.obj B:=λB hB=>by
   have e1:=j5 B (by omega)
   have e2:=i5 B (by omega)
   rw[e1,e2]
  have n11:m11.n=m9.n:=by rw[j4,i4]
  have keep8:∀B,m1.n<=B->B<m8.n->B≠u.P9->m11.obj B=m8.obj B:=λB h1 h2 h3=>(keep B h1).trans (ho9 B h2 h3)
  have t9z:tag u.P9=0:=w.t0 (u.P9,[zS,.slice (some ⟨u.OB,0,some 3⟩) nt nt]) (by unfold WB.σ;simp)
  refine FI (a:=⟨m.n+1,0,none⟩) (b:=⟨m.n+1+1,0,none⟩) (by simp[y2]) ((j3.get 1 rfl).2.2.loads (by simp)) (by simp[y3]) ((j3.get 0 rfl).2.2.loads (by simp)) j3.ext (hQ _ _ (.inr ⟨hz,.slice (some ⟨u.TB,0,some 5⟩) nt nt,.slice (some ⟨u.OB,0,some 3⟩) nt nt,fv,loc,va,vo,A,by simp,?_,?_,?_,λj hj=>?_,λB hB=>?_,λB hB=>?_,λB hB=>?_,λj hj=>?_⟩))
  .have h5:Grown m1 m11 fv 1 ku ((List.range N).map WR):=hG.keep (by omega) λB hB hb=>keep B (grown_low hG B hb).1
   exact h5.rd vP
  .have hA:=(st9.get 1 rfl).2.2
   have hm1:=(st9.get 1 rfl).1
   have hlt:=(st9.get 1 rfl).2.1
   have hA':Arr m11 u.TB (((List.range nt).map λ(j:Nat)=>(((loc j:Nat):Int),(va j:Value))).flatMap λp:Int × Value=>[iv p.1,p.2]):=by
    rw[List.flatMap_map];exact hA.congr (keep _ hm1)
   have:=xJ (m:=m11) (c:=5) (e:=2) (f:=λp:Int × Value=>[iv p.1,p.2]) (λ_=>rfl) hA' (by omega)
   rwa [List.length_map,List.length_range]at this
  .have hA:=(st9.get 2 rfl).2.2
   have hm1:=(st9.get 2 rfl).1
   have hlt:=(st9.get 2 rfl).2.1
   have hA':Arr m11 u.OB (((List.range nt).map vo).flatMap λv=>[v]):=by
    rw[List.flatMap_map];exact hA.congr (keep _ hm1)
   have:=xJ (m:=m11) (c:=3) (e:=1) (f:=λv:Value=>[v]) (λ_=>rfl) hA' (by omega)
   rwa [List.length_map,List.length_range]at this
  .obtain⟨e1,e2,e3⟩:=hS j hj
   rw[<-hSn]
   obtain⟨ga,gt⟩:=w.ga j hj
   obtain⟨go,ot⟩:=w.go j hj
   refine⟨e1,e2,?_,?_,λr hr B op v hB=>?_⟩
   .have:Grown m1 m11 (va j) 11 xO (A j):=ga.keep (by omega) λB hB hb=>keep8 B (grown_low ga B hb).1 hB (by rintro rfl;have:=gt _ hb;omega)
    exact this.rd fK
   .have:Grown m1 m11 (vo j) 1 ku (O j):=go.keep (by omega) λB hB hb=>keep8 B (grown_low go B hb).1 hB (by rintro rfl;have:=ot _ hb;omega)
    rw[e3]at this
    exact this.rd vP
   .obtain⟨k1,k2,k3,k4⟩:=w.ge j hj r hr B op v hB
    exact⟨by omega,k3.congr (keep8 B k1 k2 (by rintro rfl;omega))⟩
  .have h5:=(grown_low hG B hB).1
   have h6:=st1.ext.n
   omega
  .cases hB
   have h5:=(st9.get 1 rfl).1
   have h6:=st1.ext.n
   show m.n<=u.TB
   omega
  .cases hB
   have h5:=(st9.get 2 rfl).1
   have h6:=st1.ext.n
   show m.n<=u.OB
   omega
  .have h6:=st1.ext.n
   refine⟨λB hB=>?_,λB hB=>?_,λr hr B op v hB=>?_⟩
   .have:=(grown_low (w.ga j hj).1 B hB).1;omega
   .have:=(grown_low (w.go j hj).1 B hB).1;omega
   .have:=(w.ge j hj r hr B op v hB).1;omega
end Go.Sx
