/- Contracts. -/
import Derived.Test.YtifpodmojagpiaaGreatGf
import Derived.Test.YtifpodmojagpiaaGreatGe
import Derived.Test.YtifpodmojagpiaaGreatGb2
set_option linter.unusedVariables false
set_option linter.unusedSimpArgs false
set_option linter.defProp false
set_option linter.unusedSectionVars false
set_option maxHeartbeats 2000000
namespace Go.Sx
open Go.Dx Go.Proofs
set_option maxRecDepth 10000
inductive Nm where
 | run | tb | cb | lb | ev | rf | rmw | cob | outb | log
 | thr (t:Nat) | mac (t:Nat) | loc (t:Nat) | num (t:Nat) | out (t:Nat) | co (c:Nat)
 deriving DecidableEq
structure Tr where
 k:Nat
 av:Value
 s:Ms
 nums:List Int
 ex:Int
structure RS where
 lse:Bool
 cells:List U
 last:List Int
 ev:List Ev5
 rf:List (Int × Int)
 rmw:List (Int × Int)
 co:List (List Int)
 outs:List (List U)
 log:List Int
 used:Nat
 ths:List Tr
def gl:List Value->Option (List Value)
 | []=>none
 | x::l=>some (x::l)
def gv (B e:Nat):Nat->Value
 | 0=>zS
 | n+1=>.slice (some ⟨B,0,some (code e false)⟩) (n+1) (n+1)
def lv1 (B:Nat):Nat->Value
 | 0=>zS
 | 1=>.slice (some ⟨B,0,some (code 1 true)⟩) 1 1
 | n+2=>.slice (some ⟨B,0,some (code 1 false)⟩) (n+2) (n+2)
def jO (p:Int × Int):List Value:=[iv p.1,iv p.2]
def qq (A:Nm->Nat)(S:RS):List Value :=
 [.bool false,.bool S.lse,gv (A .tb) 1 S.ths.length,.slice (some ⟨A .cb,0,some 3⟩) S.cells.length S.cells.length,gv (A .lb) 1 S.last.length,iv S.cells.length,gv (A .ev) 5 S.ev.length,gv (A .rf) 2 S.rf.length,
  gv (A .cob) 1 S.co.length,gv (A .rmw) 2 S.rmw.length,zS,zS,zS,gv (A .outb) 1 S.outs.length,gv (A .log) 1 S.log.length,iv S.used]
def wH (T:Nat)(A:Nm->Nat)(t:Nat)(x:Tr):List Value:=[.iface T (mP (A (.mac t))),gv (A (.num t)) 1 x.nums.length,iv x.ex]
variable [Cdf]
def qo (T:Nat)(A:Nm->Nat)(S:RS):Nm->Option (List Value)
 | .run=>some (qq A S)
 | .tb=>gl ((List.range S.ths.length).map λt=>mP (A (.thr t)))
 | .cb=>some (lsR S.cells)
 | .lb=>gl (S.last.map iv)
 | .ev=>gl (S.ev.flatMap wE)
 | .rf=>gl (S.rf.flatMap jO)
 | .rmw=>gl (S.rmw.flatMap jO)
 | .cob=>gl ((List.range S.co.length).map λc=>lv1 (A (.co c)) (S.co.getD c []).length)
 | .outb=>gl ((List.range S.outs.length).map λt=>gv (A (.out t)) 1 (S.outs.getD t []).length)
 | .log=>gl (S.log.map iv)
 | .thr t=>S.ths[t]?.map (wH T A t)
 | .mac t=>S.ths[t]?.map λx=>qF x.k x.av (lvV (A (.loc t)) x.k) x.s
 | .loc t=>S.ths[t]?.map λx=>lsR x.s.ls
 | .num t=>S.ths[t]?.bind λx=>gl (x.nums.map iv)
 | .out t=>S.outs[t]?.bind λl=>gl (lsR l)
 | .co c=>S.co[c]?.bind λl=>gl (l.map iv)
abbrev RX (T:Nat)(m0 m:M)(W:List Nat)(A:Nm->Nat)(S:RS)(σ:List (Nat × List Value)):Prop:=NH m0 m W A (qo T A S) σ
theorem wv {l:List Value}(h:l≠[]):gl l=some l:=by cases l with | nil=>exact absurd rfl h | cons a l=>rfl
theorem zE (l:List Value):(gl l).getD []=l:=by cases l<;>rfl
theorem gv_pos {B e n:Nat}(h:0<n):gv B e n=.slice (some ⟨B,0,some (code e false)⟩) n n:=by cases n with | zero=>omega | succ n=>rfl
theorem qea {B n:Nat}(h:1<n):lv1 B n=.slice (some ⟨B,0,some (code 1 false)⟩) n n:=by
 match n,h with
 | n+2,_=>rfl
theorem Zs (B e n:Nat):za (gv B e n)=some (.int .i64 (n:Int)):=by cases n<;>rfl
theorem JT (B e n:Nat):okC (gv B e n)=true:=by cases n<;>rfl
theorem lv1_ok (B n:Nat):okC (lv1 B n)=true:=by
 match n with
 | 0=>rfl
 | 1=>rfl
 | n+2=>rfl
theorem GV.gv {ν:Type}{A:ν->Nat}{C:ν->Option (List Value)}{a:ν}{e n:Nat}{l:List Value}(h:C a=gl l)(hl:l.length=n*e)(he:0<e)(hok:∀u∈l,okC u=true):GV A C a e n (gv (A a) e n):=by
 cases n with
 | zero =>
  have:l=[]:=by cases l with | nil=>rfl | cons=>simp at hl
  subst this
  exact .inl ⟨h,rfl,rfl⟩
 | succ n =>
  have hne:l≠[]:=λe2=>by
   rw[e2,List.length_nil]at hl
   exact absurd hl (Nat.ne_of_lt (Nat.mul_pos (Nat.succ_pos n) he))
  exact .inr ⟨_,l,by rw[h,wv hne],rfl,.inl rfl,hl,Nat.succ_pos n,hok⟩
theorem GV.lv1 {ν:Type}{A:ν->Nat}{C:ν->Option (List Value)}{a:ν}{n:Nat}{l:List Value}(h:C a=gl l)(hl:l.length=n)(hok:∀u∈l,okC u=true):GV A C a 1 n (lv1 (A a) n):=by
 match n with
 | 0 =>
  have:l=[]:=by cases l with | nil=>rfl | cons=>simp at hl
  subst this
  exact .inl ⟨h,rfl,rfl⟩
 | 1 =>
  have hne:l≠[]:=λe2=>by rw[e2]at hl;simp at hl
  exact .inr ⟨_,l,by rw[h,wv hne],rfl,.inr rfl,by omega,by omega,hok⟩
 | n+2 =>
  have hne:l≠[]:=λe2=>by rw[e2]at hl;simp at hl
  exact .inr ⟨_,l,by rw[h,wv hne],rfl,.inl rfl,by omega,by omega,hok⟩
section
variable {ν:Type}[DecidableEq ν]{m0 m m':M}{W:List Nat}{A A':ν->Nat}{C C':ν->Option (List Value)}{σ σ':List (Nat × List Value)}{a b:ν}{l l' lb:List Value}{v:Value}{o:Nat}
omit [Cdf] in
theorem _root_.Go.Dx.NH.pushS (h:NH m0 m W A C σ){e n bytes X:Nat}{sp:Option Nat}{x:List Value}(hv:GV A C a e n v)(he:0<e)(hx:loads m ⟨X,0,sp⟩ e=some x)(hok:∀u∈x,okC u=true)(hm:(n+1)*bytes<=most)(hn:n+1<=4611686018427387904)
  (hb:C b=some lb) (hab:b≠a) (ho:o<lb.length) :
  ∃mq m5,wY m e bytes v (.slice (some ⟨X,0,sp⟩) 1 1)=some (.slice (some ⟨m.n,0,some (code e false)⟩) (n+1) (n+1),mq)/\wt 1 (.pointer (some ⟨A b,o,none⟩)) (.slice (some ⟨m.n,0,some (code e false)⟩) (n+1) (n+1)) mq=some (undef,m5) /\
   NH m0 m5 W (qf A a m.n) (qf (qf C a (some ((C a).getD []++x))) b (some (lb.set o (.slice (some ⟨m.n,0,some (code e false)⟩) (n+1) (n+1))))) σ/\m5.n=m.n+1:=by
 obtain⟨mq,a1,a2,a3⟩:=h.push hv he hx hok hm hn
 have hb':qf C a (some ((C a).getD []++x)) b=some lb:=by rw[qh hab];exact hb
 obtain⟨m5,b1,b2,b3⟩:=a2.set hb' ho (v:=.slice (some ⟨m.n,0,some (code e false)⟩) (n+1) (n+1)) rfl
 rw[qh hab]at b1
 exact⟨mq,m5,a1,b1,b2,by omega⟩
omit [Cdf] in
theorem _root_.Go.Dx.NH.pushSAny (h:NH m0 m W A C σ){e n bytes X:Nat}{sp:Option Nat}{x:List Value}(hv:GV A C a e n v)(he:0<e)(hx:loads m ⟨X,0,sp⟩ e=some x)(hok:∀u∈x,okC u=true)(hm:(n+1)*bytes<=most)(hn:n+1<=4611686018427387904)
  (hb:C b=some lb) (hab:b≠a) (ho:o<lb.length) :
  ∃mq m5,wY (qc m) e bytes v (.slice (some ⟨X,0,sp⟩) 1 1)=some (.slice (some ⟨m.n,0,some (code e false)⟩) (n+1) (n+1),mq) /\
   wt 1 (.pointer (some ⟨A b,o,none⟩)) (.slice (some ⟨m.n,0,some (code e false)⟩) (n+1) (n+1)) (qc (Dx.behind m mq))=some (undef,m5)/\m5.log=[A b]/\(mq.log=[]\/∃B,blk v=some B/\mq.log=[B]) /\
   NH m0 (Dx.behind (Dx.behind m mq) m5) W (qf A a m.n) (qf (qf C a (some ((C a).getD []++x))) b (some (lb.set o (.slice (some ⟨m.n,0,some (code e false)⟩) (n+1) (n+1))))) σ/\(Dx.behind (Dx.behind m mq) m5).n=m.n+1:=by
 obtain⟨mq,a1,a2,a3,a4⟩:=h.pushAny hv he hx hok hm hn
 have hb':qf C a (some ((C a).getD []++x)) b=some lb:=by rw[qh hab];exact hb
 obtain⟨m5,b1,b0,b2,b3⟩:=a2.setAny hb' ho (v:=.slice (some ⟨m.n,0,some (code e false)⟩) (n+1) (n+1)) rfl
 rw[qh hab]at b1 b0
 exact⟨mq,m5,a1,b1,b0,a4,b2,by omega⟩
end
end Go.Sx
namespace Go.Sx
open Go.Dx Go.Proofs
set_option maxRecDepth 10000
def mcS (S:RS)(t:Nat)(f:Ms->Ms):RS:={ S with ths:=S.ths.modify t λx=>{ x with s:=f x.s } }
def evA (S:RS)(e:Ev5):RS:={ S with ev:=S.ev++[e] }
def dG (S:RS)(t:Nat)(n:Int):RS:={ S with ths:=S.ths.modify t λx=>{ x with nums:=x.nums++[n] } }
def evS (S:RS)(t:Nat)(e:Ev5):RS:=dG (evA S { e with th:=t }) t S.ev.length
def zg (acts:List Ac)(v:U)(s:Ms):Ms:=match acts[s.at_]? with
 | some a=>zX s a v
 | none=>s
def cellAt (S:RS)(c:Nat):U:=S.cells.getD c u0
def vM (S:RS)(c:Nat):Int:=S.last.getD c 0
def rfA (S:RS)(p:Int × Int):RS:={ S with rf:=S.rf++[p] }
def exA (S:RS)(t:Nat)(n:Int):RS:={ S with ths:=S.ths.modify t λx=>{ x with ex:=n } }
def jD (acts:List Ac)(t:Nat)(w:Wt)(S:RS):RS :=
 let S1:=rfA (evS S t ⟨0,1,w.loc,cellAt S w.loc.toNat,w.mode⟩) (vM S w.loc.toNat,S.ev.length)
 let S2:=if w.ex then exA S1 t (vM S w.loc.toNat) else S1
 mcS S2 t (zg acts (cellAt S w.loc.toNat))
def coA (S:RS)(c:Nat)(n:Int):RS:={ S with co:=S.co.modify c (· ++ [n]) }
def dY (S:RS)(c:Nat)(v:U)(n:Int):RS:={ S with cells:=S.cells.set c v,last:=S.last.set c n }
def u1:U:=⟨1,by omega⟩
def jg (acts:List Ac)(t:Nat)(w:Wt)(S:RS):RS :=
 mcS (dY (coA (evS S t ⟨0,2,w.loc,w.val,w.mode⟩) w.loc.toNat S.ev.length) w.loc.toNat w.val S.ev.length) t (zg acts u1)
def Qn (S:RS)(t:Nat)(v:U):RS:={ S with outs:=S.outs.modify t (· ++ [v]) }
def rmwA (S:RS)(p:Int × Int):RS:={ S with rmw:=S.rmw++[p] }
def gX (S:RS)(t:Int):RS:={ S with log:=S.log++[t] }
def zw (S:RS):RS:={ S with used:=S.used+1 }
def ZJ (S:RS)(t:Nat):Wt:=match S.ths[t]? with
 | some x=>x.s.now
 | none=>wt0
def okR (S:RS)(w:Wt):Bool:=decide (((w.what=1\/w.what=2)/\0<=w.loc/\w.loc<S.cells.length)\/w.what=3\/w.what=4\/w.what=6)
def doR (acts:List Ac)(t:Nat)(w:Wt)(S:RS):RS :=
 if w.what=1 then
  let S1:=jD acts t w S
  if w.ex then
   let S2:=mcS S1 t (qI acts)
   let s:=ZJ S2 t
   if s.what=2/\s.ex=true then
    let S3:=rmwA (jg acts t s S2) (S.ev.length,S2.ev.length)
    if S.lse then S3 else gX S3 t
   else S2
  else S1
 else if w.what=2 then jg acts t w S
 else if w.what=3 then mcS (evS S t ⟨0,3,-1,u0,w.mode⟩) t (zg acts u0)
 else if w.what=4 then mcS (Qn S t w.val) t (zg acts u0)
 else S
def kz (acts:Nat->List Ac)(p:Int)(S:RS):RS :=
 if 0<=p/\p<S.ths.length then
  let t:=p.toNat
  let S1:=mcS S t (qI (acts t))
  let w:=ZJ S1 t
  if okR S1 w then doR (acts t) t w (gX (zw S1) t) else S1
 else S
end Go.Sx
namespace Go.Dx
theorem qb5 {B:Nat}{l:List Nat}(h:B ∉ l):ZC B l=false:=by
 induction l with
 | nil=>rfl
 | cons C l ih =>
  simp at h
  unfold ZC
  rw[ih h.2]
  have:Nat.beq B C=false:=by
   cases q:Nat.beq B C with
   | false=>rfl
   | true=>exact absurd (qh0 q) h.1
  rw[this];rfl
theorem xG {B:Nat}{l:List Nat}(h:B ∉ l)(r:Option Nat):FP.meet ⟨some B,[]⟩ ⟨r,l⟩=true:=by
 cases l with
 | nil=>rfl
 | cons C l =>
  have:=qb5 h
  show (!ZC B (C::l))=true
  rw[this];rfl
end Go.Dx
namespace Go.Sx
open Go.Dx Go.Proofs
set_option maxRecDepth 10000
variable [Cdf]
structure AK (A A':Nm->Nat):Prop where
 run:A' .run=A .run
 cb:A' .cb=A .cb
 thr:∀t,A' (.thr t)=A (.thr t)
 mac:∀t,A' (.mac t)=A (.mac t)
 loc:∀t,A' (.loc t)=A (.loc t)
theorem AK.refl (A:Nm->Nat):AK A A:=⟨rfl,rfl,λ_=>rfl,λ_=>rfl,λ_=>rfl⟩
theorem AK.trans {A B C:Nm->Nat}(h:AK A B)(k:AK B C):AK A C:=⟨k.run.trans h.run,k.cb.trans h.cb,λt=>(k.thr t).trans (h.thr t),λt=>(k.mac t).trans (h.mac t),λt=>(k.loc t).trans (h.loc t)⟩
def Nm.fixed:Nm->Bool
 | .run | .cb | .thr _ | .mac _ | .loc _=>true
 | _=>false
theorem AK.upd {A:Nm->Nat}{a:Nm}(h:a.fixed=false)(B:Nat):AK A (qf A a B) :=
 ⟨qh (by rintro rfl;cases h),qh (by rintro rfl;cases h),λt=>qh (by rintro rfl;cases h),λt=>qh (by rintro rfl;cases h),λt=>qh (by rintro rfl;cases h)⟩
theorem ya {B n t:Nat}(h:t<n):wZ 1 (gv B 1 n) (iv t)=some (.pointer (some ⟨B,t,none⟩)):=by
 rw[gv_pos (by omega)]
 have:=yg (e:=1) (c:=code 1 false) B n t h
 rwa [Nat.mul_one]at this
theorem qe0 (l:List Ev5):(l.flatMap wE).length=l.length*5:=wP (e:=5) (f:=wE) (λ_=>rfl) l
theorem VJ (l:List Ev5):∀u∈l.flatMap wE,okC u=true:=by
 intro u hu
 obtain⟨e,_,h⟩:=List.mem_flatMap.1 hu
 unfold wE at h
 simp only[List.mem_cons,List.not_mem_nil,or_false]at h
 rcases h with rfl | rfl | rfl | rfl | rfl<;>rfl
theorem vK (l:List Int):∀u∈l.map (λn=>iv n),okC u=true:=by
 intro u hu
 obtain⟨e,_,rfl⟩:=List.mem_map.1 hu
 rfl
theorem YN (T:Nat)(A:Nm->Nat)(S:RS)(e:Ev5)(B:Nat)(a:Nm):qo T (qf A .ev B) (evA S e) a =
  qf (qf (qo T A S) .ev (some ((qo T A S .ev).getD []++wE e))) .run (some ((qq A S).set 6 (.slice (some ⟨B,0,some (code 5 false)⟩) (S.ev.length+1) (S.ev.length+1)))) a:=by
 cases a with
 | thr t'=>simp only[qo,qf,evA,reduceCtorEq,if_false];cases S.ths[t']?<;>simp[wH,qf]
 | _=>simp[qo,qf,evA,qq,zE,wv,wE,gv]
theorem qab (T:Nat)(A:Nm->Nat)(S:RS){t:Nat}{x:Tr}(ht:S.ths[t]?=some x)(n:Int)(B:Nat)(a:Nm):qo T (qf A (.num t) B) (dG S t n) a =
  qf (qf (qo T A S) (.num t) (some ((qo T A S (.num t)).getD []++[iv n]))) (.thr t) (some ((wH T A t x).set 1 (.slice (some ⟨B,0,some (code 1 false)⟩) (x.nums.length+1) (x.nums.length+1)))) a:=by
 have hl:=(qgp.1 ht).1
 cases a with
 | thr t' =>
  by_cases h:t'=t
  .subst h;simp[qo,qf,dG,wH,ht,gv,List.getElem?_modify]
  .have h':¬t=t':=λe=>h e.symm
   simp only[qo,qf,dG,h,h',List.getElem?_modify,Nm.thr.injEq,reduceCtorEq,if_false]
   cases S.ths[t']?<;>simp[wH,qf,h]
 | num t' =>
  by_cases h:t'=t
  .subst h;simp[qo,qf,dG,ht,zE,wv,List.getElem?_modify]
  .have h':¬t=t':=λe=>h e.symm
   simp[qo,qf,dG,h,h',List.getElem?_modify]
 | mac t' =>
  by_cases h:t'=t
  .subst h;simp[qo,qf,dG,ht,List.getElem?_modify]
  .have h':¬t=t':=λe=>h e.symm
   simp[qo,qf,dG,h,h',List.getElem?_modify]
 | loc t' =>
  by_cases h:t'=t
  .subst h;simp[qo,qf,dG,ht,List.getElem?_modify]
  .have h':¬t=t':=λe=>h e.symm
   simp[qo,qf,dG,h,h',List.getElem?_modify]
 | _=>simp[qo,qf,dG,qq]
end Go.Sx
namespace Go.Sx
open Go.Dx Go.Proofs
set_option maxRecDepth 10000
variable [Cdf]
structure RR (T:Nat)(m m':M)(A:Nm->Nat)(S:RS)(A':Nm->Nat)(S':RS):Prop where
 nr:NR m m' A (qo T A S) A' (qo T A' S')
 ak:AK A A'
abbrev RH (T:Nat)(m:M)(A:Nm->Nat)(S:RS):Prop:=HpN m A (qo T A S)
section
variable {T:Nat}{m0 m m':M}{W:List Nat}{A:Nm->Nat}{S:RS}{σ:List (Nat × List Value)}
theorem RX.run (h:RX T m0 m W A S σ)(o:Nat)(s:Option Nat):load1 m ⟨A .run,o,s⟩=(qq A S)[o]?:=h.ld rfl o s
theorem gvN (h:RX T m0 m W A S σ){t:Nat}{x:Tr}(ht:S.ths[t]?=some x):GV A (qo T A S) (.num t) 1 x.nums.length (gv (A (.num t)) 1 x.nums.length) :=
 GV.gv (l:=x.nums.map λn=>iv n) (by show S.ths[t]?.bind _=_;rw[ht];rfl) (by simp) (by omega) (vK _)
theorem RX.tbne {t:Nat}(ht:t<S.ths.length):(List.range S.ths.length).map (λt=>mP (A (.thr t)))≠[]:=λe=>by
 have:=congrArg List.length e
 rw[List.length_map,List.length_range,List.length_nil]at this;omega
theorem RX.notin (h:RX T m0 m W A S σ){t:Nat}{x:Tr}(ht:S.ths[t]?=some x){l:List Nat}(hl:l=[]\/∃B,blk (gv (A (.num t)) 1 x.nums.length)=some B/\l=[B]){X:Nat}(hX:∃a la,qo T A S a=some la/\a≠.num t/\A a=X):X ∉ l:=by
 rcases hl with rfl | ⟨B,hB,rfl⟩
 .simp
 .obtain⟨a,la,h1,h2,rfl⟩:=hX
  rw[qgu]
  rcases gvN h ht with ⟨_,_,e⟩ | ⟨c,l,hc,e,_⟩
  .rw[e]at hB;cases hB
  .rw[e]at hB
   have:A (.num t)=B:=by injection hB
   rw[<-this]
   exact λe=>h2 (h.inj a (.num t) _ _ h1 hc e)
theorem RX.tb (h:RX T m0 m W A S σ){t:Nat}(ht:t<S.ths.length)(s:Option Nat):load1 m ⟨A .tb,t,s⟩=some (mP (A (.thr t))):=by
 have hne:(List.range S.ths.length).map (λt=>mP (A (.thr t)))≠[]:=λe=>by
  have:=congrArg List.length e
  rw[List.length_map,List.length_range,List.length_nil]at this;omega
 have hc:qo T A S .tb=some ((List.range S.ths.length).map λt=>mP (A (.thr t))):=wv hne
 rw[h.ld hc,qh4,List.getElem?_range ht];rfl
theorem RX.thr (h:RX T m0 m W A S σ){t:Nat}{x:Tr}(ht:S.ths[t]?=some x)(o:Nat)(s:Option Nat):load1 m ⟨A (.thr t),o,s⟩=(wH T A t x)[o]?:=by
 have hc:qo T A S (.thr t)=some (wH T A t x):=by show S.ths[t]?.map _=_;rw[ht];rfl
 exact h.ld hc o s
theorem gvE (h:RX T m0 m W A S σ):GV A (qo T A S) .ev 5 S.ev.length (gv (A .ev) 5 S.ev.length) :=
 GV.gv (l:=S.ev.flatMap wE) rfl (qe0 _) (by omega) (VJ _)
end
theorem Dp (m:M)(e:Ev5):ki 5 1 (rep 1 [zI,zI,zI,zU,zI]) [(0,5,.agg ⟨wE e⟩)] m=some (.slice (some ⟨m.n,0,some 11⟩) 1 1,Dx.newRow m (wE e)):=rfl
theorem bs_int (m:M)(n:Int):ki 1 1 (rep 1 [zI]) [(0,1,iv n)] m=some (.slice (some ⟨m.n,0,some 3⟩) 1 1,Dx.newRow m [iv n]):=rfl
theorem Zq (T n:Nat){m:M}(hm:m.base<=m.n){A:Nm->Nat}{S:RS}(h:RH T m A S){t:Nat}{x:Tr}(ht:S.ths[t]?=some x)(e:Ev5)(h1:S.ev.length<=1000000)(h2:x.nums.length<=1000000) :
  ∃m' A',(ex Tryz.prog (n+1)).f 62 [mP (A .run),iv t,.agg ⟨wE e⟩] m=some (iv S.ev.length,m')/\RR T m m' A S A' (evS S t e):=by
 suffices H:∃v m',(ex Tryz.prog (n+1)).f 62 [mP (A .run),iv t,.agg ⟨wE e⟩] m=some (v,m')/\v=iv S.ev.length/\∃A',RR T m m' A S A' (evS S t e) by
  obtain⟨v,m',a1,rfl,A',a2⟩:=H
  exact⟨m',A',a1,a2⟩
 refine wO (Q:=λv m'=>v=iv S.ev.length/\∃A',RR T m m' A S A' (evS S t e)) df1_ok (by simp) ?_
 obtain⟨Wl,hW,x0⟩:=h.start hm
 have htl:=(qgp.1 ht).1
 have x1:=x0.row (wE e)
 obtain⟨m1,hm1⟩:=qhd (Dx.newRow m (wE e))
 have hb:yf (.agg ⟨wE e⟩) m=some (.pointer (some ⟨m.n,0,none⟩),m1):=by rw[hm1];rfl
 rw[<-hm1]at x1
 have r1:=RX.run x1
 simp only[qq]at r1
 have hlen:=Zs (A .ev) 5 S.ev.length
 obtain⟨m2,a1,x2,n2⟩:=x1.bset 0 rfl (o:=0) (v:=iv t) (by simp[wE]) rfl
 obtain⟨e',he'⟩:=qhd ({ e with th:=t })
 have hrow:(wE e).set 0 (iv t)=wE e':=by rw[he'];rfl
 rw[hrow]at x2
 have r2:=RX.run x2
 simp only[qq]at r2
 have le:loads m2 ⟨m.n,0,none⟩ 5=some (wE e'):=x2.blds 0 rfl (o:=0) (n:=5) none (by simp[wE])
 have x3:=x2.row (wE e')
 have bs:=Dp m2 e'
 obtain⟨m3,hm3⟩:=qhd (Dx.newRow m2 (wE e'))
 rw[<-hm3]at x3 bs
 have lx:loads m3 ⟨m2.n,0,some 11⟩ 5=some (wE e'):=x3.blds 0 rfl (o:=0) (n:=5) (some 11) (by simp[wE])
 obtain⟨mq,m5,b1,b2,b3,b4,x5,n5⟩:=x3.pushSAny (b:=.run) (lb:=qq A S) (o:=6) (bytes:=40) (gvE x3) (by omega) lx (λu hu=>VJ [e'] u (by simpa using hu)) (by unfold most;omega) (by omega) rfl (by simp) (by simp[qq])
 obtain⟨M4,hM4⟩:=qhd (Dx.behind m3 mq)
 obtain⟨M5,hM5⟩:=qhd (Dx.behind M4 m5)
 rw[<-hM4]at b2 x5
 rw[<-hM5]at x5
 have x6:RX T m M5 Wl (qf A .ev m3.n) (evA S e') _:=x5.conv (YN T A S e' m3.n) (λ_ _ _=>rfl)
 obtain⟨A1,hA1⟩:=qhd (qf A .ev m3.n)
 have ak1:AK A A1:=by rw[hA1];exact AK.upd rfl _
 rw[<-hA1]at x6
 have ht6:(evA S e').ths[t]?=some x:=ht
 have r6:=RX.run x6
 simp only[qq,ak1.run,evA]at r6
 have l6:∀s,load1 M5 ⟨A1 .tb,t,s⟩=some (mP (A1 (.thr t))):=RX.tb x6 htl
 have q6:=RX.thr x6 ht6
 simp only[wH]at q6
 have ix:=ya (B:=A1 .tb) htl
 have x7:=x6.row [iv S.ev.length]
 have bs7:=bs_int M5 S.ev.length
 obtain⟨m7,hm7⟩:=qhd (Dx.newRow M5 [iv S.ev.length])
 rw[<-hm7]at x7 bs7
 have lx7:loads m7 ⟨M5.n,0,some 3⟩ 1=some [iv S.ev.length]:=x7.blds 0 rfl (o:=0) (n:=1) (some 3) (by simp)
 obtain⟨mr,m8,c1,c2,c3,c4,x8,n8⟩:=x7.pushSAny (b:=.thr t) (lb:=wH T A1 t x) (o:=1) (bytes:=8) (gvN x7 ht6) (by omega) lx7 (λu hu=>vK [(S.ev.length:Int)] u (by simpa using hu)) (by unfold most;omega) (by omega) (by show S.ths[t]?.map _=_;rw[ht];rfl) (by simp) (by simp[wH])
 obtain⟨M8,hM8⟩:=qhd (Dx.behind m7 mr)
 obtain⟨M9,hM9⟩:=qhd (Dx.behind M8 m8)
 rw[<-hM8]at c2 x8
 rw[<-hM9]at x8
 have hS:evS S t e=dG (evA S e') t S.ev.length:=by rw[he'];rfl
 have x9:RX T m M9 Wl (qf A1 (.num t) m7.n) (evS S t e) []:=by
  rw[hS]
  exact x8.clear.conv (qab T A1 (evA S e') ht6 S.ev.length m7.n) (λ_ _ _=>rfl)
 have hd1:A .run ∉ mr.log:=x6.notin ht6 c4 (by rw[<-ak1.run];exact⟨.run,_,rfl,by simp,rfl⟩)
 have hd2:A1 .tb ∉ mr.log:=x6.notin ht6 c4 ⟨.tb,_,wv (RX.tbne htl),by simp,rfl⟩
 simp[hb,r1,hlen,a1,r2,qe,le,bs,b1,<-hM4,b2,b3,<-hM5,r6,l6,q6,ix,bs7,c1,<-hM8,c2,c3,<-hM9,xG hd1,xG hd2]
 exact zu ⟨by simp,_,x9.res hW,ak1.trans (AK.upd rfl _)⟩
end Go.Sx
namespace Go.Sx
open Go.Dx Go.Proofs
set_option maxRecDepth 10000
variable [Cdf]
structure MI (acts:List Ac)(s:Ms):Prop where
 at_:s.at_<=acts.length
 now:s.asked=true->s.now.what≠6->s.now=ja acts s
def EB (av:Value)(acts:List Ac)(B:Nat):Prop:=blk av=some B\/∃a∈acts,blk a.ix=some B\/blk a.ev=some B\/blk a.fv=some B
structure TE (T:Nat)(m:M)(A:Nm->Nat)(S:RS)(acts:Nat->List Ac):Prop where
 rav:∀(t:Nat) (x:Tr),S.ths[t]?=some x->Rd m x.av 11 qd (acts t)/\∀a∈acts t,AcOK m a
 ro:∀(t:Nat) (x:Tr),S.ths[t]?=some x->∀B,EB x.av (acts t) B->¬yk A (qo T A S) B
structure TG (S:RS)(acts:Nat->List Ac)(cells:Int):Prop where
 cc:cells<=4096
 hg:∀(t:Nat) (x:Tr),S.ths[t]?=some x->(∀a∈acts t,AcG x.k (acts t).length cells a)/\(acts t).length<=65536/\x.s.ls.length=x.k/\MI (acts t) x.s
section
variable {T:Nat}{m m':M}{A A':Nm->Nat}{S S':RS}{acts:Nat->List Ac}{cells:Int}
def SameT (S S':RS):Prop:=∀(t:Nat) (x':Tr),S'.ths[t]?=some x'->∃x,S.ths[t]?=some x/\x'.av=x.av/\x'.k=x.k
theorem SameT.refl (S:RS):SameT S S:=λt x h=>⟨x,h,rfl,rfl⟩
theorem SameT.trans {a b c:RS}(h:SameT a b)(k:SameT b c):SameT a c:=λt x hx=>by
 obtain⟨y,h1,h2,h3⟩:=k t x hx
 obtain⟨z,k1,k2,k3⟩:=h t y h1
 exact⟨z,k1,h2.trans k2,h3.trans k3⟩
theorem jf {S:RS}{S':RS}{t:Nat}{f:Tr->Tr}(hS:S'.ths=S.ths.modify t f)(hf:∀x,(f x).av=x.av/\(f x).k=x.k):SameT S S':=λt' x' h=>by
 rw[hS,List.getElem?_modify]at h
 cases hx:S.ths[t']? with
 | none=>rw[hx]at h;simp at h
 | some x =>
  rw[hx]at h
  simp at h
  refine⟨x,rfl,?_⟩
  by_cases e:t=t'
  .rw[if_pos e]at h;rw[<-h];exact hf x
  .rw[if_neg e]at h;rw[<-h];exact⟨rfl,rfl⟩
theorem EB.lt {m:M}{av:Value}{acts:List Ac}(h1:Rd m av 11 qd acts)(h2:∀a∈acts,AcOK m a){B:Nat}(h:EB av acts B):B<m.n:=by
 rcases h with h | ⟨a,ha,h⟩
 .exact h1.lt B h
 .exact (h2 a ha).lt B h
theorem TE.call (h:TE T m A S acts)(k:RR T m m' A S A' S')(hs:SameT S S'):TE T m' A' S' acts:=by
 obtain⟨Wl,hl,hmc⟩:=k.nr.mc
 have keep:∀(t:Nat) (x:Tr),S.ths[t]?=some x->∀B,EB x.av (acts t) B->B<m.n/\m'.obj B=m.obj B:=λt x hx B hB=>by
  obtain⟨h1,h2⟩:=h.rav t x hx
  have hlt:=hB.lt h1 h2
  exact⟨hlt,hmc.obj B hlt λhc=>h.ro t x hx B hB (hl B hc)⟩
 refine⟨λt x' hx'=>?_,λt x' hx' B hB hL=>?_⟩
 .obtain⟨x,hx,e1,e2⟩:=hs t x' hx'
  obtain⟨h1,h2⟩:=h.rav t x hx
  rw[e1]
  exact⟨h1.congr hmc.n λB hB=>(keep t x hx B (.inl hB)).2,λa ha=>(h2 a ha).congr hmc.n λB hB=>(keep t x hx B (.inr ⟨a,ha,hB⟩)).2⟩
 .obtain⟨x,hx,e1,e2⟩:=hs t x' hx'
  rw[e1]at hB
  obtain⟨a,l,ha,e⟩:=hL
  rcases k.nr.liv a l ha with h3 | h3
  .rw[e]at h3;exact h.ro t x hx B hB h3
  .have:=(keep t x hx B hB).1;omega
theorem TE.env (h:TE T m A S acts){t:Nat}{x:Tr}(hx:S.ths[t]?=some x):Env m (A (.mac t)) (A (.loc t)) x.av (acts t):=by
 obtain⟨h1,h2⟩:=h.rav t x hx
 have ne:∀B,EB x.av (acts t) B->B ∉ [A (.mac t),A (.loc t)]:=λB hB hc=>by
  simp only[List.mem_cons,List.not_mem_nil,or_false]at hc
  refine h.ro t x hx B hB ?_
  rcases hc with rfl | rfl
  .exact⟨.mac t,_,by show S.ths[t]?.map _=_;rw[hx];rfl,rfl⟩
  .exact⟨.loc t,_,by show S.ths[t]?.map _=_;rw[hx];rfl,rfl⟩
 exact⟨h1,λB hB=>ne B (.inl hB),λa ha=>⟨h2 a ha,λB hB=>ne B (.inr ⟨a,ha,.inl hB⟩),λB hB=>ne B (.inr ⟨a,ha,.inr (.inl hB)⟩),λB hB=>ne B (.inr ⟨a,ha,.inr (.inr hB)⟩)⟩⟩
theorem TE.any (h:TE T m A S acts)(hm:m.base<=m.n):TE T (qc m) A S acts :=
 ⟨λt x hx=>let ⟨h1,h2⟩:=h.rav t x hx;⟨h1.congr (by rw[qt];exact qgq _) λB _=>qm _ _,λa ha=>(h2 a ha).congr (by rw[qt];exact qgq _) λB _=>qm _ _⟩,h.ro⟩
theorem gK (T:Nat)(A:Nm->Nat)(S:RS){t:Nat}{x:Tr}(ht:S.ths[t]?=some x):qo T A S (.mac t)=some (qF x.k x.av (lvV (A (.loc t)) x.k) x.s):=by show S.ths[t]?.map _=_;rw[ht];rfl
theorem gJ (T:Nat)(A:Nm->Nat)(S:RS){t:Nat}{x:Tr}(ht:S.ths[t]?=some x):qo T A S (.loc t)=some (lsR x.s.ls):=by show S.ths[t]?.map _=_;rw[ht];rfl
theorem qds (T:Nat)(A:Nm->Nat)(S:RS){t:Nat}{x:Tr}(ht:S.ths[t]?=some x)(f:Ms->Ms)(a:Nm):qo T A (mcS S t f) a =
  qf (qf (qo T A S) (.mac t) (some (qF x.k x.av (lvV (A (.loc t)) x.k) (f x.s)))) (.loc t) (some (lsR (f x.s).ls)) a:=by
 have other:∀{β:Type} (g:Tr->β) (t':Nat) (hg:∀x,g { x with s:=f x.s }=g x),(S.ths.modify t λx=>{ x with s:=f x.s })[t']?.map g=S.ths[t']?.map g:=λg t' hg=>by
  rw[List.getElem?_modify]
  cases S.ths[t']? with
  | none=>rfl
  | some y =>
   by_cases e:t=t'
   .simp[e,hg]
   .simp[e]
 cases a with
 | thr t' =>
  simp only[qf,reduceCtorEq,if_false]
  exact other (wH T A t') t' λ_=>rfl
 | num t' =>
  simp only[qf,reduceCtorEq,if_false]
  show ((S.ths.modify t λx=>{ x with s:=f x.s })[t']?).bind _=_
  have:=other (λy:Tr=>gl (y.nums.map λn=>iv n)) t' λ_=>rfl
  simpa [Option.bind_eq_bind,qo,List.getElem?_modify]using (by
   rw[List.getElem?_modify]
   cases S.ths[t']? with
   | none=>rfl
   | some y=>by_cases e:t=t'<;>simp[e]:((S.ths.modify t λx=>{ x with s:=f x.s })[t']?).bind (λy:Tr=>gl (y.nums.map λn=>iv n))=(S.ths[t']?).bind λy:Tr=>gl (y.nums.map λn=>iv n))
 | mac t' =>
  by_cases h:t'=t
  .subst h;simp[qo,qf,mcS,ht,List.getElem?_modify]
  .have h':¬t=t':=λe=>h e.symm
   simp[qo,qf,mcS,h,h',List.getElem?_modify]
 | loc t' =>
  by_cases h:t'=t
  .subst h;simp[qo,qf,mcS,ht,List.getElem?_modify]
  .have h':¬t=t':=λe=>h e.symm
   simp[qo,qf,mcS,h,h',List.getElem?_modify]
 | _=>simp[qo,qf,mcS,qq]
theorem Fg (h:RH T m A S)(hm:m.base<=m.n){t:Nat}{x:Tr}(ht:S.ths[t]?=some x)(f:Ms->Ms)(k:Mc m m' [A (.mac t),A (.loc t)])(hM:MsAt m' (A (.mac t)) (A (.loc t)) x.k x.av (f x.s)):RR T m m' A S A (mcS S t f):=by
 obtain⟨Wl,hW,x0⟩:=h.start hm
 exact⟨((x0.call2 (gK T A S ht) (gJ T A S ht) (by simp) k hM.row hM.ls).conv (qds T A S ht f) λ_ _ _=>rfl).res hW,AK.refl A⟩
theorem Fe (h:RH T m A S){t:Nat}{x:Tr}(ht:S.ths[t]?=some x)(hl:x.s.ls.length=x.k):MsAt m (A (.mac t)) (A (.loc t)) x.k x.av x.s :=
 ⟨(h.hx _ _ (gK T A S ht)).2,(h.hx _ _ (gJ T A S ht)).2,hl,(h.hx _ _ (gK T A S ht)).1,(h.hx _ _ (gJ T A S ht)).1⟩
theorem Ff (h:RH T m A S){t:Nat}{x:Tr}(ht:S.ths[t]?=some x):A (.mac t)≠A (.loc t):=λe=>by
 have:=h.inj _ _ _ _ (gK T A S ht) (gJ T A S ht) e
 cases this
theorem nextT (h:RH T m A S)(hm:m.base<=m.n)(hE:TE T m A S acts)(hG:TG S acts cells){t:Nat}{x:Tr}(ht:S.ths[t]?=some x)(N:Nat) :
  ∃m',(ex Tryz.prog (N+6)).f 133 [mP (A (.mac t))] m=some (.agg ⟨wtL (qI (acts t) x.s).now⟩,m')/\RR T m m' A S A (mcS S t (qI (acts t))):=by
 obtain⟨g1,g2,g3,g4⟩:=hG.hg t x ht
 obtain⟨v,m',a1,a2,a3,rfl⟩:=qed hG.cc (hE.env ht) g1 g2 g4.at_ N hm (Ff h ht) (Fe h ht g3)
 exact⟨m',a1,Fg h hm ht _ a2 a3⟩
end
end Go.Sx
namespace Go.Sx
open Go.Dx Go.Proofs
set_option maxRecDepth 10000
section
variable {k:Nat}{cells:Int}{acts:List Ac}{s:Ms}{a:Ac}
theorem Xq (how:ownB a=false)(hop:1<=a.op/\a.op<=10):a.op=2\/a.op=3\/a.op=7\/a.op=8\/(a.op=4\/a.op=5\/a.op=6):=by
 unfold ownB at how
 have:=of_decide_eq_false how
 omega
theorem qet (how:ownB a=false)(hop:1<=a.op/\a.op<=10)(hw:s.now=qU s a)(h:(s.now.ex=true/\s.opn=true)\/s.now.what=1):pD a.op=true:=by
 unfold pD
 refine decide_eq_true ?_
 rw[hw]at h
 rcases Xq how hop with e | e | e | e | e
 .omega
 .unfold qU at h;rw[if_neg (by omega),if_pos e]at h;simp at h
 .unfold qU at h;rw[if_neg (by omega),if_neg (by omega),if_pos e]at h;simp at h
 .unfold qU at h;rw[if_neg (by omega),if_neg (by omega),if_neg (by omega),if_pos e]at h;simp at h
 .omega
theorem qfn (how:ownB a=false)(hop:1<=a.op/\a.op<=10):(qU s a).what≠5/\(qU s a).what≠6/\1<=(qU s a).what/\(qU s a).what<=4:=by
 unfold qU
 repeat' split
 all_goals simp
theorem MI.cases (h:MI acts s)(ha:s.asked=true)(h5:s.now.what≠5)(h6:s.now.what≠6):∃a,acts[s.at_]?=some a/\ownB a=false/\s.now=qU s a:=by
 have hn:=h.now ha h6
 unfold ja at hn
 cases hx:acts[s.at_]? with
 | none=>rw[hx]at hn;simp only at hn;rw[hn]at h5;exact absurd rfl h5
 | some a =>
  rw[hx]at hn
  simp only at hn
  cases ho:ownB a with
  | true=>rw[ho]at hn;simp at hn;rw[hn]at h6;exact absurd rfl h6
  | false=>rw[ho]at hn;simp at hn;exact⟨a,rfl,ho,hn⟩
theorem Dh (hg:∀a∈acts,AcG k acts.length cells a):∀(f:Nat) (s:Ms),s.at_<=acts.length->(adv acts f s).at_<=acts.length/\(adv acts f s).ls.length=s.ls.length/\(adv acts f s).asked=s.asked:=by
 intro f
 induction f with
 | zero =>
  intro s hs
  rw[Jw]
  exact⟨hs,rfl,rfl⟩
 | succ f ih =>
  intro s hs
  cases hx:acts[s.at_]? with
  | none=>rw[QL _ hx];exact⟨hs,rfl,rfl⟩
  | some a =>
   cases ho:ownB a with
   | false=>rw[QM _ hx ho];exact⟨hs,rfl,rfl⟩
   | true =>
    rw[YH _ hx ho]
    have hlt:=(qgp.1 hx).1
    have h1:=qbt (hg a (qgo hx)) ho hlt
    obtain⟨h2,h3,h4⟩:=ih (xU s a) h1
    refine⟨h2,by rw[h3,Fv],h4.trans ?_⟩
    unfold xU
    split
    .rfl
    .split
     .rfl
     .rfl
theorem yB (hg:∀a∈acts,AcG k acts.length cells a)(h:MI acts s):MI acts (qI acts s)/\(qI acts s).ls.length=s.ls.length/\(qI acts s).asked=true/\((qI acts s).now.what≠6->(qI acts s).now=ja acts (qI acts s)):=by
 unfold qI
 by_cases hc:s.asked=true/\s.now.what≠6
 .rw[if_pos hc]
  exact⟨h,rfl,hc.1,λh6=>h.now hc.1 h6⟩
 .rw[if_neg hc]
  obtain⟨h2,h3,h4⟩:=Dh hg 100000 { s with asked:=true } h.at_
  have hw:(Qk acts (adv acts 100000 { s with asked:=true })).now=ja acts (Qk acts (adv acts 100000 { s with asked:=true })):=by
   show ja acts (adv acts 100000 { s with asked:=true })=_
   unfold ja Qk
   cases acts[(adv acts 100000 { s with asked:=true }).at_]? with
   | none=>rfl
   | some a=>rfl
  exact⟨⟨h2,λ_ _=>hw⟩,h3,h4,λ_=>hw⟩
theorem Kx (s:Ms)(a:Ac)(v:U):(fB s a v).at_=s.at_+1/\(fB s a v).ls.length=s.ls.length/\(fB s a v).asked=s.asked:=by
 unfold fB
 split
 .exact⟨rfl,by simp,rfl⟩
 .split
  .exact⟨rfl,by simp,rfl⟩
  .exact⟨rfl,rfl,rfl⟩
theorem VR (s:Ms)(a:Ac)(v:U):((zX s a v).at_=s.at_+1\/(zX s a v).at_=s.at_)/\(zX s a v).ls.length=s.ls.length/\(zX s a v).asked=false:=by
 unfold zX
 split
 .split
  .exact⟨.inr rfl,rfl,rfl⟩
  .obtain⟨h1,h2,h3⟩:=Kx { s with asked:=false,old:=v } a v
   exact⟨.inl h1,h2,h3⟩
 .obtain⟨h1,h2,h3⟩:=Kx { s with asked:=false } a v
  exact⟨.inl h1,h2,h3⟩
theorem VQ (h:MI acts s)(v:U):(zg acts v s).at_<=acts.length/\(zg acts v s).ls.length=s.ls.length/\MI acts (zg acts v s):=by
 unfold zg
 cases hx:acts[s.at_]? with
 | none=>exact⟨h.at_,rfl,h⟩
 | some a =>
  have hlt:=(qgp.1 hx).1
  obtain⟨h1,h2,h3⟩:=VR s a v
  have hat:(zX s a v).at_<=acts.length:=by rcases h1 with h1 | h1<;>omega
  exact⟨hat,h2,hat,λhc=>by rw[h3]at hc;cases hc⟩
end
variable [Cdf]
section
variable {T:Nat}{m m':M}{A A':Nm->Nat}{S S':RS}{acts:Nat->List Ac}{cells:Int}
theorem ZB (S:RS)(f:Ms->Ms){t:Nat}{x:Tr}(ht:S.ths[t]?=some x):(mcS S t f).ths[t]?=some { x with s:=f x.s }:=by
 unfold mcS
 rw[List.getElem?_modify,ht];simp
theorem VY (S:RS)(f:Ms->Ms){t t':Nat}(h:t≠t'):(mcS S t f).ths[t']?=S.ths[t']?:=by
 unfold mcS
 rw[List.getElem?_modify]
 cases S.ths[t']? with
 | none=>rfl
 | some x=>simp[h]
omit [Cdf] in
theorem TG.mc (h:TG S acts cells){t:Nat}{f:Ms->Ms}(hf:∀x,S.ths[t]?=some x->(f x.s).ls.length=x.k/\MI (acts t) (f x.s)):TG (mcS S t f) acts cells:=by
 refine⟨h.cc,λt' x' hx'=>?_⟩
 by_cases e:t=t'
 .subst e
  cases hx:S.ths[t]? with
  | none =>
   unfold mcS at hx'
   rw[List.getElem?_modify,hx]at hx'
   simp at hx'
  | some x =>
   rw[ZB S f hx]at hx'
   cases hx'
   obtain⟨h1,h2,h3,h4⟩:=h.hg t x hx
   exact⟨h1,h2,(hf x hx).1,(hf x hx).2⟩
 .rw[VY S f e]at hx'
  exact h.hg t' x' hx'
omit [Cdf] in
theorem TG.next (h:TG S acts cells)(t:Nat):TG (mcS S t (qI (acts t))) acts cells:=h.mc λx hx=>by
 obtain⟨h1,h2,h3,h4⟩:=h.hg t x hx
 obtain⟨k1,k2,_⟩:=yB h1 h4
 exact⟨by rw[k2,h3],k1⟩
omit [Cdf] in
theorem TG.feed (h:TG S acts cells)(t:Nat)(v:U):TG (mcS S t (zg (acts t) v)) acts cells:=h.mc λx hx=>by
 obtain⟨h1,h2,h3,h4⟩:=h.hg t x hx
 obtain⟨k1,k2,k3⟩:=VQ h4 v
 exact⟨by rw[k2,h3],k3⟩
omit [Cdf] in
theorem TG.same (h:TG S acts cells)(hs:∀(t:Nat) (x':Tr),S'.ths[t]?=some x'->∃x,S.ths[t]?=some x/\x'.s=x.s/\x'.k=x.k):TG S' acts cells :=
 ⟨h.cc,λt x' hx'=>by
  obtain⟨x,hx,e1,e2⟩:=hs t x' hx'
  rw[e1,e2];exact h.hg t x hx⟩
omit [Cdf] in
theorem TG.modify {f:Tr->Tr}{t:Nat}(h:TG S acts cells)(hS:S'.ths=S.ths.modify t f)(hf:∀x,(f x).s=x.s/\(f x).k=x.k):TG S' acts cells:=h.same λt' x' hx'=>by
 rw[hS,List.getElem?_modify]at hx'
 cases hx:S.ths[t']? with
 | none=>rw[hx]at hx';simp at hx'
 | some x =>
  rw[hx]at hx'
  simp at hx'
  refine⟨x,rfl,?_⟩
  by_cases e:t=t'
  .rw[if_pos e]at hx';rw[<-hx'];exact hf x
  .rw[if_neg e]at hx';rw[<-hx'];exact⟨rfl,rfl⟩
theorem SameT.mc (S:RS)(t:Nat)(f:Ms->Ms):SameT S (mcS S t f):=jf (f:=λx=>{ x with s:=f x.s }) rfl λ_=>⟨rfl,rfl⟩
theorem YR (h:RH T m A S)(hm:m.base<=m.n)(hE:TE T m A S acts)(hG:TG S acts cells){t:Nat}{x:Tr}(ht:S.ths[t]?=some x)(ha:x.s.asked=true)(h5:x.s.now.what≠5)(h6:x.s.now.what≠6)(v:U)(N:Nat) :
  ∃m',(ex Tryz.prog (N+4)).f 132 [mP (A (.mac t)),uv v.1] m=some (iv 0,m')/\RR T m m' A S A (mcS S t (zg (acts t) v)):=by
 obtain⟨g1,g2,g3,g4⟩:=hG.hg t x ht
 obtain⟨a,k1,k2,k3⟩:=g4.cases ha h5 h6
 have hga:=g1 a (qgo k1)
 have hat:x.s.at_<9223372036854775807:=by have:=g4.at_;omega
 obtain⟨w,m',a1,a2,a3,rfl⟩:=feed_c (hE.env ht) hga k1 ha h5 h6 (qet k2 hga.op k3) v N hm (Ff h ht) (Fe h ht g3) hat
 have e:zX x.s a v=zg (acts t) v x.s:=by unfold zg;rw[k1]
 rw[e]at a3
 exact⟨m',a1,Fg h hm ht _ a2 a3⟩
end
end Go.Sx
namespace Go.Sx
open Go.Dx Go.Proofs
set_option maxRecDepth 10000
variable [Cdf]
structure SZ (S:RS):Prop where
 last:S.last.length=S.cells.length
 co:S.co.length=S.cells.length
 outs:S.outs.length=S.ths.length
 cells:S.cells.length<=1000000
 ths:S.ths.length<=1000000
 ev:S.ev.length<=1000000
 rf:S.rf.length<=1000000
 rmw:S.rmw.length<=1000000
 nums:∀(t:Nat) (x:Tr),S.ths[t]?=some x->x.nums.length<=1000000
 coN:∀(c:Nat) (l:List Int),S.co[c]?=some l->l.length<=1000000
 outN:∀(t:Nat) (l:List U),S.outs[t]?=some l->l.length<=1000000000000
section
variable {T:Nat}{m0 m m':M}{W:List Nat}{A A':Nm->Nat}{S S':RS}{σ:List (Nat × List Value)}{acts:Nat->List Ac}{cells:Int}
theorem RR.refl (h:RH T m A S)(hm:m.base<=m.n):RR T m m A S A S:=by
 obtain⟨Wl,hW,x0⟩:=h.start hm
 exact⟨x0.res hW,AK.refl A⟩
theorem RR.behind (k:RR T (qc m) m' A S A' S'):RR T m (Dx.behind m m') A S A' S':=⟨k.nr.behind,k.ak⟩
theorem RX.call (h:RX T m0 m W A S σ)(k:RR T m m' A S A' S'):RX T m0 m' W A' S' σ:=NH.call h k.nr
theorem RX.lastv (h:RX T m0 m W A S σ){c:Nat}(hc:c<S.last.length)(s:Option Nat):load1 m ⟨A .lb,c,s⟩=some (iv (vM S c)):=by
 have hne:S.last.map (λn=>iv n)≠[]:=λe=>by
  have:=congrArg List.length e
  rw[List.length_map,List.length_nil]at this;omega
 have hh:qo T A S .lb=some (S.last.map λn=>iv n):=wv hne
 rw[h.ld hh,qh4,qgn hc]
 unfold vM
 rw[List.getD_eq_getElem?_getD,qgn hc];rfl
theorem RX.cellv (h:RX T m0 m W A S σ){c:Nat}(hc:c<S.cells.length)(s:Option Nat):load1 m ⟨A .cb,c,s⟩=some (uv (cellAt S c).1):=by
 have hh:qo T A S .cb=some (lsR S.cells):=rfl
 rw[h.ld hh]
 unfold lsR cellAt
 rw[qh4,List.getD_eq_getElem?_getD,qgn hc];rfl
theorem DJ {B n c:Nat}(h:c<n):wZ 1 (.slice (some ⟨B,0,some 3⟩) n n) (iv c)=some (.pointer (some ⟨B,c,none⟩)):=by
 have:=yg (e:=1) (c:=3) B n c h
 rwa [Nat.mul_one]at this
theorem pr_len (l:List (Int × Int)):(l.flatMap jO).length=l.length*2:=wP (e:=2) (f:=jO) (λ_=>rfl) l
theorem pr_ok (l:List (Int × Int)):∀u∈l.flatMap jO,okC u=true:=by
 intro u hu
 obtain⟨e,_,h⟩:=List.mem_flatMap.1 hu
 unfold jO at h
 simp only[List.mem_cons,List.not_mem_nil,or_false]at h
 rcases h with rfl | rfl<;>rfl
theorem gvRf (T:Nat)(A:Nm->Nat)(S:RS):GV A (qo T A S) .rf 2 S.rf.length (gv (A .rf) 2 S.rf.length):=GV.gv (l:=S.rf.flatMap jO) rfl (pr_len _) (by omega) (pr_ok _)
theorem qdt (T:Nat)(A:Nm->Nat)(S:RS)(p:Int × Int)(B:Nat)(a:Nm):qo T (qf A .rf B) (rfA S p) a =
  qf (qf (qo T A S) .rf (some ((qo T A S .rf).getD []++jO p))) .run (some ((qq A S).set 7 (.slice (some ⟨B,0,some (code 2 false)⟩) (S.rf.length+1) (S.rf.length+1)))) a:=by
 cases a with
 | thr t'=>simp only[qo,qf,rfA,reduceCtorEq,if_false];cases S.ths[t']?<;>simp[wH,qf]
 | _=>simp[qo,qf,rfA,qq,zE,wv,jO,gv]
theorem qdr (T:Nat)(A:Nm->Nat)(S:RS){t:Nat}{x:Tr}(ht:S.ths[t]?=some x)(n:Int)(a:Nm):qo T A (exA S t n) a=qf (qo T A S) (.thr t) (some ((wH T A t x).set 2 (iv n))) a:=by
 cases a with
 | thr t' =>
  by_cases h:t'=t
  .subst h;simp[qo,qf,exA,wH,ht,List.getElem?_modify]
  .have h':¬t=t':=λe=>h e.symm
   simp only[qo,qf,exA,h,h',List.getElem?_modify,Nm.thr.injEq,reduceCtorEq,if_false]
   cases S.ths[t']?<;>simp
 | num t' =>
  by_cases h:t'=t
  .subst h;simp[qo,qf,exA,ht,List.getElem?_modify]
  .have h':¬t=t':=λe=>h e.symm
   simp[qo,qf,exA,h,h',List.getElem?_modify]
 | mac t' =>
  by_cases h:t'=t
  .subst h;simp[qo,qf,exA,ht,List.getElem?_modify]
  .have h':¬t=t':=λe=>h e.symm
   simp[qo,qf,exA,h,h',List.getElem?_modify]
 | loc t' =>
  by_cases h:t'=t
  .subst h;simp[qo,qf,exA,ht,List.getElem?_modify]
  .have h':¬t=t':=λe=>h e.symm
   simp[qo,qf,exA,h,h',List.getElem?_modify]
 | _=>simp[qo,qf,exA,qq]
end
@[simp] theorem qg1 (a:Nat) (v:Value):dD (.iface a v)=some (.iface a v):=rfl
@[simp] theorem tab_feed:Yz [(88,132),(95,152)] 88=some 132:=rfl
@[simp] theorem tab_next:Yz [(88,133),(95,47),(190,94)] 88=some 133:=rfl
@[simp] theorem b_ev (a b:Int) (d:Int) (v:Int):qW [zI,zI,zI,zU,zI] [(1,1,.int .i64 a),(2,1,.int .i64 b),(3,1,.int .u64 v),(4,1,.int .i64 d)]=some (.agg ⟨[zI,.int .i64 a,.int .i64 b,.int .u64 v,.int .i64 d]⟩):=rfl
@[simp] theorem b_pr (a b:Int):qW [zI,zI] [(0,1,.int .i64 a),(1,1,.int .i64 b)]=some (.agg ⟨[.int .i64 a,.int .i64 b]⟩):=rfl
theorem bs_pr (m:M)(p:Int × Int):ki 2 1 (rep 1 [zI,zI]) [(0,2,.agg ⟨jO p⟩)] m=some (.slice (some ⟨m.n,0,some 5⟩) 1 1,Dx.newRow m (jO p)):=rfl
theorem qfa (T n:Nat){m:M}(hm:m.base<=m.n){A:Nm->Nat}{S:RS}{acts:Nat->List Ac}{cells:Int}(h:RH 88 m A S)(hE:TE 88 m A S acts)(hG:TG S acts cells)(hZ:SZ S){t:Nat}{x:Tr}(ht:S.ths[t]?=some x)
  (ha:x.s.asked=true) (h5:x.s.now.what≠5) (h6:x.s.now.what≠6) (w:Wt) (hw0:0<=w.loc) (hw1:w.loc<S.cells.length) :
  ∃m' A',(ex Tryz.prog (n+5)).f 57 [mP (A .run),iv t,.agg ⟨wtL w⟩] m=some (iv S.ev.length,m')/\RR 88 m m' A S A' (jD (acts t) t w S):=by
 suffices H:∃v m',(ex Tryz.prog (n+5)).f 57 [mP (A .run),iv t,.agg ⟨wtL w⟩] m=some (v,m')/\v=iv S.ev.length/\∃A',RR 88 m m' A S A' (jD (acts t) t w S) by
  obtain⟨v,m',a1,rfl,A',a2⟩:=H
  exact⟨m',A',a1,a2⟩
 refine wO (Q:=λv m'=>v=iv S.ev.length/\∃A',RR 88 m m' A S A' (jD (acts t) t w S)) de6_ok (by simp) ?_
 obtain⟨Wl,hW,x0⟩:=h.start hm
 have htl:=(qgp.1 ht).1
 obtain⟨c,hc⟩:∃c:Nat,w.loc=c:=⟨w.loc.toNat,by omega⟩
 have hcc:c<S.cells.length:=by omega
 have hcl:c<S.last.length:=by rw[hZ.last];exact hcc
 have hcn:w.loc.toNat=c:=by omega
 have x1:=x0.row (wtL w)
 obtain⟨m1,hm1⟩:=qhd (Dx.newRow m (wtL w))
 have hb:yf (.agg ⟨wtL w⟩) m=some (.pointer (some ⟨m.n,0,none⟩),m1):=by rw[hm1];rfl
 rw[<-hm1]at x1
 have r1:=RX.run x1
 simp only[qq]at r1
 have lw1:∀o s,load1 m1 ⟨m.n,o,s⟩=(wtL w)[o]?:=λo s=>x1.bld 0 rfl o s
 simp only[wtL,hc]at lw1
 have ixc:=DJ (B:=A .cb) hcc
 have lc1:=λs=>RX.cellv x1 hcc s
 obtain⟨u,hu⟩:=qhd (cellAt S c)
 simp only[<-hu]at lc1
 obtain⟨m2',A1,e1,k1⟩:=Zq 88 (n+3) (m:=qc m1) (NH.mb x1 |> λhb=>by rw[wW,qt];exact qgq _) (HpN.any x1.hp) ht ⟨0,1,w.loc,u,w.mode⟩ hZ.ev (hZ.nums t x ht)
 have k1':=k1.behind
 obtain⟨m2,hm2⟩:=qhd (Dx.behind m1 m2')
 rw[<-hm2]at k1'
 have x2:=RX.call x1 k1'
 have hev:wE ⟨0,1,w.loc,u,w.mode⟩=[zI,.int .i64 1,.int .i64 c,.int .u64 u.1,.int .i64 w.mode]:=by rw[hc];rfl
 rw[hev]at e1
 have ak1:=k1.ak
 obtain⟨S2,hS2⟩:=qhd (evS S t ⟨0,1,w.loc,u,w.mode⟩)
 rw[<-hS2]at x2
 have ht2:S2.ths[t]?=some { x with nums:=x.nums++[(S.ev.length:Int)] }:=by
  rw[hS2]
  show (S.ths.modify t _)[t]?=_
  rw[List.getElem?_modify,ht];simp
 have r2:=RX.run x2
 have f2:S2.ths.length=S.ths.length/\S2.cells=S.cells/\S2.last=S.last/\S2.rf=S.rf:=by rw[hS2];exact⟨List.length_modify ..,rfl,rfl,rfl⟩
 simp only[qq,f2.1,f2.2.1,f2.2.2.1,f2.2.2.2,ak1.run,ak1.cb]at r2
 have lw2:∀o s,load1 m2 ⟨m.n,o,s⟩=(wtL w)[o]?:=λo s=>x2.bld 0 rfl o s
 simp only[wtL,hc]at lw2
 have ixl:=ya (B:=A1 .lb) hcl
 have ll2:=λs=>RX.lastv x2 (c:=c) (by rw[f2.2.2.1];exact hcl) s
 obtain⟨la,hla⟩:=qhd (vM S c)
 have hla2:vM S2 c=la:=by rw[hla];unfold vM;rw[f2.2.2.1]
 simp only[hla2]at ll2
 have x3:=x2.row (jO (la,S.ev.length))
 have bs:=bs_pr m2 (la,(S.ev.length:Int))
 obtain⟨m3,hm3⟩:=qhd (Dx.newRow m2 (jO (la,(S.ev.length:Int))))
 have hm3':Dx.newRow m2 [Value.int .i64 la,Value.int .i64 (S.ev.length:Int)]=m3:=hm3.symm
 rw[<-hm3]at x3 bs
 have lx:loads m3 ⟨m2.n,0,some 5⟩ 2=some (jO (la,(S.ev.length:Int))):=x3.blds 0 rfl (o:=0) (n:=2) (some 5) (by simp[jO])
 obtain⟨mq,m5,b1,b2,b3,b4,x5,n5⟩:=x3.pushSAny (b:=.run) (lb:=qq A1 S2) (o:=7) (bytes:=16) (gvRf 88 A1 S2) (by omega) lx (λu hu=>pr_ok [(la,(S.ev.length:Int))] u (by simpa using hu)) (by rw[f2.2.2.2];have:=hZ.rf;unfold most;omega) (by rw[f2.2.2.2];have:=hZ.rf;omega) rfl (by simp) (by simp[qq])
 obtain⟨M4,hM4⟩:=qhd (Dx.behind m3 mq)
 obtain⟨M5,hM5⟩:=qhd (Dx.behind M4 m5)
 rw[<-hM4]at b2 x5
 rw[<-hM5]at x5
 rw[f2.2.2.2]at b1 b2
 rw[ak1.run]at b2 b3
 have x6:RX 88 m M5 Wl (qf A1 .rf m3.n) (rfA S2 (la,(S.ev.length:Int))) _:=x5.conv (qdt 88 A1 S2 (la,(S.ev.length:Int)) m3.n) (λ_ _ _=>rfl)
 obtain⟨A2,hA2⟩:=qhd (qf A1 .rf m3.n)
 have ak2:AK A A2:=by rw[hA2];exact ak1.trans (AK.upd rfl _)
 rw[<-hA2]at x6
 obtain⟨S3,hS3⟩:=qhd (rfA S2 (la,(S.ev.length:Int)))
 rw[<-hS3]at x6
 have f3:S3.ths=S2.ths/\S3.cells=S.cells/\S3.last=S.last:=by rw[hS3];exact⟨rfl,f2.2.1,f2.2.2.1⟩
 have ht3:S3.ths[t]?=some { x with nums:=x.nums++[(S.ev.length:Int)] }:=by rw[f3.1];exact ht2
 have hl3:S3.ths.length=S.ths.length:=by rw[f3.1];exact f2.1
 have htl3:t<S3.ths.length:=by omega
 have G3:TG S3 acts cells:=hG.modify (S':=S3) (t:=t) (f:=λx=>{ x with nums:=x.nums++[(S.ev.length:Int)] }) (by rw[f3.1,hS2];rfl) λ_=>⟨rfl,rfl⟩
 have T3:SameT S S3:=jf (S':=S3) (t:=t) (f:=λx=>{ x with nums:=x.nums++[(S.ev.length:Int)] }) (by rw[f3.1,hS2];rfl) λ_=>⟨rfl,rfl⟩
 have fin:∀(M:Dx.M) (S4:RS) (τ:Tm) (kn:K) (ke:Nat->K),RX 88 m M Wl A2 S4 [(m2.n,jO (la,(S.ev.length:Int))),(m.n,wtL w)]->S4.ths.length=S.ths.length->S4.cells=S.cells->TG S4 acts cells->SameT S S4->(∃y,S4.ths[t]?=some y/\y.s=x.s) ->
   jD (acts t) t w S=mcS S4 t (zg (acts t) u)->Tm.get 0 τ=mP (A .run)->Tm.get 1 τ=iv t->Tm.get 5 τ=.pointer (some ⟨m.n,0,none⟩)->Tm.get 7 τ=iv S.ev.length ->
   xY (λv m'=>v=iv S.ev.length/\∃A',RR 88 m m' A S A' (jD (acts t) t w S)) (DZ (ex Tryz.prog (n+4)) kn ke (kO [.t 6]) τ M):=by
  intro M S4 τ kn ke y0 g1 g2 g3 g4 ⟨y,hy,hys⟩ hS t0 t1 t5 t7
  have q:=RX.run y0
  simp only[qq,g1,g2,ak2.run,ak2.cb]at q
  have lb:=λs=>RX.tb y0 (t:=t) (by omega) s
  have lt:=RX.thr y0 hy
  simp only[wH]at lt
  have ixt:=ya (B:=A2 .tb) htl
  have lw:∀o s,load1 M ⟨m.n,o,s⟩=(wtL w)[o]?:=λo s=>y0.bld 1 rfl o s
  simp only[wtL,hc]at lw
  have lc:=λs=>RX.cellv y0 (c:=c) (by rw[g2];exact hcc) s
  have hc4:cellAt S4 c=u:=by rw[hu];unfold cellAt;rw[g2]
  simp only[ak2.cb,hc4]at lc
  have E4:TE 88 M A2 S4 acts:=hE.call ⟨y0.clear.res hW,ak2⟩ g4
  obtain⟨m9,d1,d2⟩:=YR (m:=qc M) (HpN.any y0.hp) (by rw[wW,qt];exact qgq _) (E4.any y0.mb) g3 hy (by rw[hys];exact ha) (by rw[hys];exact h5) (by rw[hys];exact h6) u (n+0)
  have y1:=RX.call y0 d2.behind
  simp[t0,t1,t5,t7,q,lb,lt,ixt,ixc,lw,lc,d1]
  exact zu ⟨by simp,A2,by rw[hS];exact⟨y1.clear.res hW,ak2⟩⟩
 have lw6:∀o s,load1 M5 ⟨m.n,o,s⟩=(wtL w)[o]?:=λo s=>x6.bld 1 rfl o s
 simp only[wtL,hc]at lw6
 cases hex:w.ex with
 | false =>
  rw[hex]at lw6 lw1 lw2
  simp[-JF,hb,lw1,r1,ixc,lc1,e1,<-hm2,r2,lw2,ixl,ll2,hm3',b1,<-hM4,b2,b3,<-hM5,lw6]
  refine fin M5 S3 _ _ _ x6 hl3 f3.2.1 G3 T3 ⟨_,ht3,rfl⟩ (by simp only[jD,hcn,<-hu,<-hla,hex,hS3,hS2,if_false,Bool.false_eq_true]) ?_ ?_ ?_ ?_<;>simp
 | true =>
  rw[hex]at lw6 lw1 lw2
  have q6:=RX.run x6
  simp only[qq,hl3,f3.2.2,ak2.run,ak2.cb]at q6
  have lb6:=λs=>RX.tb x6 (t:=t) htl3 s
  have ix6:=ya (B:=A2 .tb) htl
  have lt6:=RX.thr x6 ht3
  simp only[wH]at lt6
  have ixl6:=ya (B:=A2 .lb) hcl
  have ll6:=λs=>RX.lastv x6 (c:=c) (by rw[f3.2.2];exact hcl) s
  have hla3:vM S3 c=la:=by rw[hla];unfold vM;rw[f3.2.2]
  simp only[hla3]at ll6
  obtain⟨m7,g1,g2,x7,n7⟩:=NH.setAny x6 (a:=.thr t) (l:=wH 88 A2 t { x with nums:=x.nums++[(S.ev.length:Int)] }) (o:=2) (v:=iv la) (by show S3.ths[t]?.map _=_;rw[ht3];rfl) (by simp[wH]) rfl
  obtain⟨M7,hM7⟩:=qhd (Dx.behind M5 m7)
  rw[<-hM7]at x7
  have x8:RX 88 m M7 Wl A2 (exA S3 t la) _:=NH.conv x7 (qdr 88 A2 S3 ht3 la) (λ_ _ _=>rfl)
  simp[-JF,hb,lw1,r1,ixc,lc1,e1,<-hm2,r2,lw2,ixl,ll2,hm3',b1,<-hM4,b2,b3,<-hM5,lw6,q6,lb6,ix6,lt6,ixl6,ll6,g1,g2,<-hM7]
  refine fin M7 (exA S3 t la) _ _ _ x8 (by show (S3.ths.modify t _).length=_;rw[List.length_modify];exact hl3) f3.2.1 (G3.modify (S':=exA S3 t la) (t:=t) (f:=λx=>{ x with ex:=la }) rfl λ_=>⟨rfl,rfl⟩) (T3.trans (jf (S':=exA S3 t la) (t:=t) (f:=λx=>{ x with ex:=la }) rfl λ_=>⟨rfl,rfl⟩)) ⟨{ x with nums:=x.nums++[(S.ev.length:Int)],ex:=la },?_,rfl⟩ (by simp only[jD,hcn,<-hu,<-hla,hex,hS3,hS2,if_true]) ?_ ?_ ?_ ?_
  rotate_left
  iterate 4 simp
  show (S3.ths.modify t _)[t]?=_
  rw[List.getElem?_modify,ht3];simp
end Go.Sx
namespace Go.Sx
open Go.Dx Go.Proofs
set_option maxRecDepth 10000
variable [Cdf]
section
variable {T:Nat}{m0 m m':M}{W:List Nat}{A A':Nm->Nat}{S S':RS}{σ:List (Nat × List Value)}{acts:Nat->List Ac}{cells:Int}
def vC (A:Nm->Nat)(S:RS):List Value:=(List.range S.co.length).map λc=>lv1 (A (.co c)) (S.co.getD c []).length
theorem QY (A:Nm->Nat)(S:RS):(vC A S).length=S.co.length:=by unfold vC;simp
theorem JI (T:Nat)(A:Nm->Nat)(S:RS){c:Nat}(hc:c<S.co.length):qo T A S .cob=some (vC A S):=by
 refine wv λe=>?_
 have:=congrArg List.length e
 rw[List.length_map,List.length_range,List.length_nil]at this;omega
theorem RX.cov (h:RX T m0 m W A S σ){c:Nat}{l:List Int}(hc:S.co[c]?=some l)(s:Option Nat):load1 m ⟨A .cob,c,s⟩=some (lv1 (A (.co c)) l.length):=by
 obtain⟨hl,e⟩:=qgp.1 hc
 rw[h.ld (JI T A S hl)]
 unfold vC
 rw[qh4,List.getElem?_range hl]
 simp[List.getD_eq_getElem?_getD,hc]
theorem gvCo (T:Nat)(A:Nm->Nat)(S:RS){c:Nat}{l:List Int}(hc:S.co[c]?=some l):GV A (qo T A S) (.co c) 1 l.length (lv1 (A (.co c)) l.length) :=
 GV.lv1 (l:=l.map λn=>iv n) (by show S.co[c]?.bind _=_;rw[hc];rfl) (by simp) (vK _)
theorem qdq (T:Nat)(A:Nm->Nat)(S:RS){c:Nat}{l:List Int}(hc:S.co[c]?=some l)(hl:1<=l.length)(n:Int)(B:Nat)(a:Nm):qo T (qf A (.co c) B) (coA S c n) a =
  qf (qf (qo T A S) (.co c) (some ((qo T A S (.co c)).getD []++[iv n]))) .cob (some ((vC A S).set c (.slice (some ⟨B,0,some (code 1 false)⟩) (l.length+1) (l.length+1)))) a:=by
 obtain⟨hcl,rfl⟩:=qgp.1 hc
 cases a with
 | thr t'=>simp only[qo,qf,coA,reduceCtorEq,if_false];cases S.ths[t']?<;>simp[wH,qf]
 | co c' =>
  by_cases h:c'=c
  .subst h;simp[qo,qf,coA,hc,zE,wv,List.getElem?_modify]
  .have h':¬c=c':=λe=>h e.symm
   simp[qo,qf,coA,h,h',List.getElem?_modify]
 | cob =>
  simp only[qo,qf,if_true]
  rw[show (coA S c n).co=S.co.modify c (· ++ [n]) from rfl,List.length_modify]
  rw[wv (λe=>by have:=congrArg List.length e;rw[List.length_map,List.length_range,List.length_nil]at this;omega)]
  congr 1
  refine List.ext_getElem? λi=>?_
  rw[List.getElem?_set]
  unfold vC
  rw[List.length_map,List.length_range]
  by_cases hi:i<S.co.length
  .rw[qh4,List.getElem?_range hi,qh4,List.getElem?_range hi]
   simp only[Option.map_some,List.getD_eq_getElem?_getD,List.getElem?_modify]
   by_cases h:c=i
   .subst h
    simp[hcl]
    rw[qea (by omega)]
   .have h':¬i=c:=λe=>h e.symm
    simp[h,h',qf]
  .rw[qha (by simpa using hi),qha (by simpa using hi)]
   split
   .rename_i h;subst h;omega
   .rfl
 | _=>simp[qo,qf,coA,qq]
theorem Gy (T:Nat)(A:Nm->Nat)(S:RS){c:Nat}(hc:c<S.last.length)(v:U)(n:Int)(a:Nm):qo T A (dY S c v n) a =
  qf (qf (qo T A S) .cb (some ((lsR S.cells).set c (uv v.1)))) .lb (some ((S.last.map λn=>iv n).set c (iv n))) a:=by
 have hne:S.last≠[]:=λe=>by rw[e]at hc;simp at hc
 cases a with
 | lb =>
  simp only[qo,qf,dY,if_true]
  rw[wv (by simp[hne]),List.map_set]
 | cb=>simp[qo,qf,dY,Qz]
 | _=>simp[qo,qf,dY,qq]
end
@[simp] theorem bs_int0 (m:M) (n:Int):ki 1 1 (rep 1 [zI]) [(0,1,.int .i64 n)] m=some (.slice (some ⟨m.n,0,some 3⟩) 1 1,Dx.newRow m [.int .i64 n]):=rfl
theorem qcm (n:Nat){m:M}(hm:m.base<=m.n){A:Nm->Nat}{S:RS}{acts:Nat->List Ac}{cells:Int}(h:RH 88 m A S)(hE:TE 88 m A S acts)(hG:TG S acts cells)(hZ:SZ S)(hco:∀(c:Nat) (l:List Int),S.co[c]?=some l->1<=l.length){t:Nat}{x:Tr}(ht:S.ths[t]?=some x)
  (ha:x.s.asked=true) (h5:x.s.now.what≠5) (h6:x.s.now.what≠6) (w:Wt) (hw0:0<=w.loc) (hw1:w.loc<S.cells.length) :
  ∃m' A',(ex Tryz.prog (n+5)).f 58 [mP (A .run),iv t,.agg ⟨wtL w⟩] m=some (iv S.ev.length,m')/\RR 88 m m' A S A' (jg (acts t) t w S):=by
 suffices H:∃v m',(ex Tryz.prog (n+5)).f 58 [mP (A .run),iv t,.agg ⟨wtL w⟩] m=some (v,m')/\v=iv S.ev.length/\∃A',RR 88 m m' A S A' (jg (acts t) t w S) by
  obtain⟨v,m',a1,rfl,A',a2⟩:=H
  exact⟨m',A',a1,a2⟩
 refine wO (Q:=λv m'=>v=iv S.ev.length/\∃A',RR 88 m m' A S A' (jg (acts t) t w S)) de7_ok (by simp) ?_
 obtain⟨Wl,hW,x0⟩:=h.start hm
 have htl:=(qgp.1 ht).1
 obtain⟨c,hc⟩:∃c:Nat,w.loc=c:=⟨w.loc.toNat,by omega⟩
 have hcc:c<S.cells.length:=by omega
 have hcl:c<S.last.length:=by rw[hZ.last];exact hcc
 have hcn:w.loc.toNat=c:=by omega
 obtain⟨lc,hlc⟩:∃lc,S.co[c]?=some lc:=⟨_,qgn (by rw[hZ.co];exact hcc)⟩
 have hcol:c<S.co.length:=by rw[hZ.co];exact hcc
 have x1:=x0.row (wtL w)
 obtain⟨m1,hm1⟩:=qhd (Dx.newRow m (wtL w))
 have hb:yf (.agg ⟨wtL w⟩) m=some (.pointer (some ⟨m.n,0,none⟩),m1):=by rw[hm1];rfl
 rw[<-hm1]at x1
 have lw1:∀o s,load1 m1 ⟨m.n,o,s⟩=(wtL w)[o]?:=λo s=>x1.bld 0 rfl o s
 simp only[wtL,hc]at lw1
 obtain⟨m2,A1,e1,k1⟩:=Zq 88 (n+3) x1.mb x1.hp ht ⟨0,2,w.loc,w.val,w.mode⟩ hZ.ev (hZ.nums t x ht)
 have x2:=RX.call x1 k1
 have hev:wE ⟨0,2,w.loc,w.val,w.mode⟩=[zI,.int .i64 2,.int .i64 c,.int .u64 w.val.1,.int .i64 w.mode]:=by rw[hc];rfl
 rw[hev]at e1
 have ak1:=k1.ak
 obtain⟨S2,hS2⟩:=qhd (evS S t ⟨0,2,w.loc,w.val,w.mode⟩)
 rw[<-hS2]at x2
 have ht2:S2.ths[t]?=some { x with nums:=x.nums++[(S.ev.length:Int)] }:=by
  rw[hS2]
  show (S.ths.modify t _)[t]?=_
  rw[List.getElem?_modify,ht];simp
 have f2:S2.ths.length=S.ths.length/\S2.cells=S.cells/\S2.last=S.last/\S2.co=S.co:=by rw[hS2];exact⟨List.length_modify ..,rfl,rfl,rfl⟩
 have r2:=RX.run x2
 simp only[qq,f2.1,f2.2.1,f2.2.2.1,f2.2.2.2,ak1.run,ak1.cb]at r2
 have lw2:∀o s,load1 m2 ⟨m.n,o,s⟩=(wtL w)[o]?:=λo s=>x2.bld 0 rfl o s
 simp only[wtL,hc]at lw2
 have hlc2:S2.co[c]?=some lc:=by rw[f2.2.2.2];exact hlc
 have ixo:=ya (B:=A1 .cob) hcol
 have lo2:=λs=>RX.cov x2 hlc2 s
 have x3:=x2.row [iv S.ev.length]
 obtain⟨m3,hm3⟩:=qhd (Dx.newRow m2 [iv S.ev.length])
 have hm3':Dx.newRow m2 [Value.int .i64 (S.ev.length:Int)]=m3:=hm3.symm
 rw[<-hm3]at x3
 have lx:loads m3 ⟨m2.n,0,some 3⟩ 1=some [iv S.ev.length]:=x3.blds 0 rfl (o:=0) (n:=1) (some 3) (by simp)
 obtain⟨mq,m5,b1,b2,b3,b4,x5,n5⟩:=x3.pushSAny (b:=.cob) (lb:=vC A1 S2) (o:=c) (bytes:=8) (gvCo 88 A1 S2 hlc2) (by omega) lx (λu hu=>vK [(S.ev.length:Int)] u (by simpa using hu)) (by have:=hZ.coN c lc hlc;unfold most;omega) (by have:=hZ.coN c lc hlc;omega) (JI 88 A1 S2 (by rw[f2.2.2.2];exact hcol)) (by simp) (by rw[QY,f2.2.2.2];exact hcol)
 obtain⟨M4,hM4⟩:=qhd (Dx.behind m3 mq)
 obtain⟨M5,hM5⟩:=qhd (Dx.behind M4 m5)
 rw[<-hM4]at b2 x5
 rw[<-hM5]at x5
 have x6:RX 88 m M5 Wl (qf A1 (.co c) m3.n) (coA S2 c S.ev.length) _:=x5.conv (qdq 88 A1 S2 hlc2 (hco c lc hlc) S.ev.length m3.n) (λ_ _ _=>rfl)
 have hdl:∀X,(∃a la,qo 88 A1 S2 a=some la/\a≠.co c/\A1 a=X)\/(∃p∈[(m.n,wtL w)],p.1=X)->X ∉ mq.log:=λX hX=>by
  rcases b4 with e | ⟨B,hB,e⟩
  .rw[e];simp
  .rw[e,qgu]
   have hcc2:∃l,qo 88 A1 S2 (.co c)=some l/\A1 (.co c)=B:=by
    rcases gvCo 88 A1 S2 hlc2 with ⟨_,_,e2⟩ | ⟨cd,l,h1,e2,_⟩
    .rw[e2]at hB;cases hB
    .rw[e2]at hB;exact⟨l,h1,by injection hB⟩
   obtain⟨l,h1,e3⟩:=hcc2
   rcases hX with ⟨a,la,h2,h3,rfl⟩ | ⟨p,hp,rfl⟩
   .rw[<-e3];exact λe4=>h3 (x2.inj a (.co c) _ _ h2 h1 e4)
   .rw[<-e3];exact λe4=>x2.sep p hp _ _ h1 e4.symm
 have hd1:A .run ∉ mq.log:=hdl _ (.inl ⟨.run,_,rfl,by simp,ak1.run⟩)
 have hd2:m.n ∉ mq.log:=hdl _ (.inr ⟨_,qgu.2 rfl,rfl⟩)
 obtain⟨A2,hA2⟩:=qhd (qf A1 (.co c) m3.n)
 have ak2:AK A A2:=by rw[hA2];exact ak1.trans (AK.upd rfl _)
 rw[<-hA2]at x6
 obtain⟨S3,hS3⟩:=qhd (coA S2 c S.ev.length)
 rw[<-hS3]at x6
 have f3:S3.ths=S2.ths/\S3.cells=S.cells/\S3.last=S.last:=by rw[hS3];exact⟨rfl,f2.2.1,f2.2.2.1⟩
 have r6:=RX.run x6
 simp only[qq,f3.1,f2.1,f3.2.1,f3.2.2,ak2.run,ak2.cb]at r6
 have lw6:∀o s,load1 M5 ⟨m.n,o,s⟩=(wtL w)[o]?:=λo s=>x6.bld 1 rfl o s
 simp only[wtL,hc]at lw6
 have ixc:=DJ (B:=A .cb) hcc
 have ixl:=ya (B:=A2 .lb) hcl
 obtain⟨m7,g1,g2,x7,n7⟩:=NH.setAny x6 (a:=.cb) (l:=lsR S3.cells) (o:=c) (v:=uv w.val.1) rfl (by rw[gY,f3.2.1];exact hcc) rfl
 obtain⟨M7,hM7⟩:=qhd (Dx.behind M5 m7)
 rw[<-hM7]at x7
 rw[ak2.cb]at g1 g2
 have hlb:qo 88 A2 S3 .lb=some (S3.last.map λn=>iv n):=wv (λe=>by
  have:=congrArg List.length e
  rw[List.length_map,List.length_nil,f3.2.2]at this;omega)
 obtain⟨m8,i1,i2,x8,n8⟩:=NH.setAny x7 (a:=.lb) (l:=S3.last.map λn=>iv n) (o:=c) (v:=iv S.ev.length) (by rw[qh (by simp)];exact hlb) (by rw[List.length_map,f3.2.2];exact hcl) rfl
 obtain⟨M8,hM8⟩:=qhd (Dx.behind M7 m8)
 rw[<-hM8]at x8
 have x9:RX 88 m M8 Wl A2 (dY S3 c w.val S.ev.length) _:=x8.conv (Gy 88 A2 S3 (by rw[f3.2.2];exact hcl) w.val S.ev.length) (λ_ _ _=>rfl)
 have hne1:¬m.n=A .cb:=by rw[<-ak2.cb];exact λe=>x6.sep _ (qgy _ (qgu.2 rfl)) .cb _ rfl e.symm
 obtain⟨S4,hS4⟩:=qhd (dY S3 c w.val S.ev.length)
 rw[<-hS4]at x9
 have f4:S4.ths=S2.ths:=by rw[hS4];exact f3.1
 have ht4:S4.ths[t]?=some { x with nums:=x.nums++[(S.ev.length:Int)] }:=by rw[f4];exact ht2
 have r9:=RX.run x9
 simp only[qq,f4,f2.1,ak2.run]at r9
 have lb9:=λs=>RX.tb x9 (t:=t) (by rw[f4,f2.1];exact htl) s
 have lt9:=RX.thr x9 ht4
 simp only[wH]at lt9
 have ixt:=ya (B:=A2 .tb) htl
 have hmod:S4.ths=S.ths.modify t λx=>{ x with nums:=x.nums++[(S.ev.length:Int)] }:=by rw[f4,hS2];rfl
 have G4:TG S4 acts cells:=hG.modify hmod λ_=>⟨rfl,rfl⟩
 have T4:SameT S S4:=jf hmod λ_=>⟨rfl,rfl⟩
 have E4:TE 88 M8 A2 S4 acts:=hE.call ⟨x9.clear.res hW,ak2⟩ T4
 obtain⟨m9,d1,d2⟩:=YR x9.hp x9.mb E4 G4 ht4 ha h5 h6 u1 n
 have d1:(ex Tryz.prog (n+4)).f 132 [mP (A2 (.mac t)),.int .u64 1] M8=some (iv 0,m9):=d1
 have y1:=RX.call x9 d2
 have hS:jg (acts t) t w S=mcS S4 t (zg (acts t) u1):=by simp only[jg,hcn,hS4,hS3,hS2]
 simp[hb,lw1,e1,r2,lw2,ixo,lo2,hm3',b1,<-hM4,b2,b3,<-hM5,xG hd1,xG hd2,r6,lw6,ixc,ixl,g1,g2,<-hM7,i1,i2,<-hM8,hne1,r9,lb9,lt9,ixt,d1]
 exact zu ⟨by simp,A2,by rw[hS];exact⟨y1.clear.res hW,ak2⟩⟩
end Go.Sx
namespace Go.Sx
open Go.Dx Go.Proofs
set_option maxRecDepth 10000
variable [Cdf]
structure BX (m:M)(A:Nm->Nat)(S:RS)(t:Nat)(w:Wt)(b3 b4 b5 b7:Nat):Prop where
 ar:Arr m b3 [mP (A .run)]
 at_:Arr m b4 [iv t]
 aw:Arr m b5 (wtL w)
 ax:Arr m b7 [mP (A (.thr t))]
 lt:∀B∈[b3,b4,b5,b7],B<m.n/\¬yk A (qo 88 A S) B
section
variable {m m':M}{A A':Nm->Nat}{S S':RS}{t:Nat}{w:Wt}{b3 b4 b5 b7:Nat}{acts:Nat->List Ac}{cells:Int}
theorem BX.call (h:BX m A S t w b3 b4 b5 b7)(k:RR 88 m m' A S A' S'):BX m' A' S' t w b3 b4 b5 b7:=by
 obtain⟨Wl,hl,hmc⟩:=k.nr.mc
 have keep:∀B∈[b3,b4,b5,b7],m'.obj B=m.obj B:=λB hB=>hmc.obj B (h.lt B hB).1 λhc=>(h.lt B hB).2 (hl B hc)
 refine⟨by rw[k.ak.run];exact h.ar.congr (keep _ (by simp)),h.at_.congr (keep _ (by simp)),h.aw.congr (keep _ (by simp)),by rw[k.ak.thr];exact h.ax.congr (keep _ (by simp)),λB hB=>⟨qgs (h.lt B hB).1 hmc.n,λ⟨a,l,ha,e⟩=>?_⟩⟩
 rcases k.nr.liv a l ha with h3 | h3
 .rw[e]at h3;exact (h.lt B hB).2 h3
 .have:=(h.lt B hB).1;omega
theorem BX.lr (h:BX m A S t w b3 b4 b5 b7)(s:Option Nat):load1 m ⟨b3,0,s⟩=some (mP (A .run)):=h.ar.load1 0 s
theorem BX.lt' (h:BX m A S t w b3 b4 b5 b7)(s:Option Nat):load1 m ⟨b4,0,s⟩=some (iv t):=h.at_.load1 0 s
theorem BX.lw (h:BX m A S t w b3 b4 b5 b7)(o:Nat)(s:Option Nat):load1 m ⟨b5,o,s⟩=(wtL w)[o]?:=h.aw.load1 o s
theorem BX.lx (h:BX m A S t w b3 b4 b5 b7)(s:Option Nat):load1 m ⟨b7,0,s⟩=some (mP (A (.thr t))):=h.ax.load1 0 s
theorem BX.lwN (h:BX m A S t w b3 b4 b5 b7):loads m ⟨b5,0,none⟩ 6=some (wtL w):=h.aw.loads (o:=0) (n:=6) (by simp[wtL])
theorem HpN.runv (h:RH 88 m A S)(o:Nat)(s:Option Nat):load1 m ⟨A .run,o,s⟩=(qq A S)[o]?:=(h.hx .run _ rfl).2.load1 o s
theorem HpN.thrv (h:RH 88 m A S){x:Tr}(ht:S.ths[t]?=some x)(o:Nat)(s:Option Nat):load1 m ⟨A (.thr t),o,s⟩=(wH 88 A t x)[o]?:=by
 have hc:qo 88 A S (.thr t)=some (wH 88 A t x):=by show S.ths[t]?.map _=_;rw[ht];rfl
 exact (h.hx _ _ hc).2.load1 o s
theorem qdu (n:Nat)(hm:m.base<=m.n)(h:RH 88 m A S)(hE:TE 88 m A S acts)(hG:TG S acts cells)(hZ:SZ S){x:Tr}(ht:S.ths[t]?=some x)(ha:x.s.asked=true)(h5:x.s.now.what≠5)(h6:x.s.now.what≠6)
  (hB:BX m A S t w b3 b4 b5 b7) (hw0:0<=w.loc) (hw1:w.loc<S.cells.length) (hw:w.what=1) (hx:w.ex=false) :
  ∃v m' A',(ex Tryz.prog (n+6)).f 56 [mP b3,mP b4,mP b5,mP b7] m=some (v,m')/\RR 88 m m' A S A' (doR (acts t) t w S):=by
 suffices H:∃v m',(ex Tryz.prog (n+6)).f 56 [mP b3,mP b4,mP b5,mP b7] m=some (v,m')/\∃A',RR 88 m m' A S A' (doR (acts t) t w S) by
  obtain⟨v,m',a1,A',a2⟩:=H
  exact⟨v,m',A',a1,a2⟩
 refine wO (Q:=λv m'=>∃A',RR 88 m m' A S A' (doR (acts t) t w S)) de5_ok (by simp) ?_
 obtain⟨m1,A1,e1,k1⟩:=qfa 88 n hm h hE hG hZ ht ha h5 h6 w hw0 hw1
 have B1:=hB.call k1
 have hR:doR (acts t) t w S=jD (acts t) t w S:=by
  unfold doR
  rw[if_pos hw]
  simp[hx]
 have r1:=HpN.runv k1.nr.hp
 simp only[qq]at r1
 have lw:=B1.lw
 simp only[wtL,hx]at lw
 simp[hB.lr,hB.lt',hB.lwN,qe,e1,B1.lr,r1,lw]
 exact Ky ⟨A1,by rw[hR];exact k1⟩
theorem qah (n:Nat)(hm:m.base<=m.n)(h:RH 88 m A S)(hE:TE 88 m A S acts)(hG:TG S acts cells)(hZ:SZ S)(hco:∀(c:Nat) (l:List Int),S.co[c]?=some l->1<=l.length){x:Tr}(ht:S.ths[t]?=some x)(ha:x.s.asked=true)(h5:x.s.now.what≠5)(h6:x.s.now.what≠6)
  (hB:BX m A S t w b3 b4 b5 b7) (hw0:0<=w.loc) (hw1:w.loc<S.cells.length) (hw:w.what=2) :
  ∃v m' A',(ex Tryz.prog (n+6)).f 60 [mP b3,mP b4,mP b5] m=some (v,m')/\RR 88 m m' A S A' (doR (acts t) t w S):=by
 suffices H:∃v m',(ex Tryz.prog (n+6)).f 60 [mP b3,mP b4,mP b5] m=some (v,m')/\∃A',RR 88 m m' A S A' (doR (acts t) t w S) by
  obtain⟨v,m',a1,A',a2⟩:=H
  exact⟨v,m',A',a1,a2⟩
 refine wO (Q:=λv m'=>∃A',RR 88 m m' A S A' (doR (acts t) t w S)) de9_ok (by simp) ?_
 obtain⟨m1,A1,e1,k1⟩:=qcm n hm h hE hG hZ hco ht ha h5 h6 w hw0 hw1
 have hR:doR (acts t) t w S=jg (acts t) t w S:=by
  unfold doR
  rw[if_neg (by omega),if_pos hw]
 simp[hB.lr,hB.lt',hB.lwN,qe,e1]
 exact Ky ⟨A1,by rw[hR];exact k1⟩
@[simp] theorem b_ev3 (a b:Int) (d:Int):qW [zI,zI,zI,zU,zI] [(1,1,.int .i64 a),(2,1,.int .i64 b),(4,1,.int .i64 d)]=some (.agg ⟨[zI,.int .i64 a,.int .i64 b,zU,.int .i64 d]⟩):=rfl
theorem qaf (n:Nat)(hm:m.base<=m.n)(h:RH 88 m A S)(hE:TE 88 m A S acts)(hG:TG S acts cells)(hZ:SZ S){x:Tr}(ht:S.ths[t]?=some x)(ha:x.s.asked=true)(h5:x.s.now.what≠5)(h6:x.s.now.what≠6)
  (hB:BX m A S t w b3 b4 b5 b7) (hw:w.what=3) :
  ∃v m' A',(ex Tryz.prog (n+6)).f 61 [mP b3,mP b4,mP b5,mP b7] m=some (v,m')/\RR 88 m m' A S A' (doR (acts t) t w S):=by
 suffices H:∃v m',(ex Tryz.prog (n+6)).f 61 [mP b3,mP b4,mP b5,mP b7] m=some (v,m')/\∃A',RR 88 m m' A S A' (doR (acts t) t w S) by
  obtain⟨v,m',a1,A',a2⟩:=H
  exact⟨v,m',A',a1,a2⟩
 refine wO (Q:=λv m'=>∃A',RR 88 m m' A S A' (doR (acts t) t w S)) df0_ok (by simp) ?_
 obtain⟨Wl,hW,x0⟩:=h.start hm
 obtain⟨m1,A1,e1,k1⟩:=Zq 88 (n+4) hm h ht ⟨0,3,-1,u0,w.mode⟩ hZ.ev (hZ.nums t x ht)
 have hev:wE ⟨0,3,-1,u0,w.mode⟩=[zI,.int .i64 3,.int .i64 (-1),zU,.int .i64 w.mode]:=rfl
 rw[hev]at e1
 have B1:=hB.call k1
 obtain⟨S1,hS1⟩:=qhd (evS S t ⟨0,3,-1,u0,w.mode⟩)
 rw[<-hS1]at k1 B1
 have ht1:S1.ths[t]?=some { x with nums:=x.nums++[(S.ev.length:Int)] }:=by
  rw[hS1]
  show (S.ths.modify t _)[t]?=_
  rw[List.getElem?_modify,ht];simp
 have hmod:S1.ths=S.ths.modify t λx=>{ x with nums:=x.nums++[(S.ev.length:Int)] }:=by rw[hS1];rfl
 have x1:=RX.call x0 k1
 obtain⟨m2,d1,d2⟩:=YR k1.nr.hp x1.mb (hE.call k1 (jf hmod λ_=>⟨rfl,rfl⟩)) (hG.modify hmod λ_=>⟨rfl,rfl⟩) ht1 ha h5 h6 u0 (n+1)
 have d1:(ex Tryz.prog (n+5)).f 132 [mP (A1 (.mac t)),zU] m1=some (iv 0,m2):=d1
 have lt1:=HpN.thrv k1.nr.hp ht1
 simp only[wH]at lt1
 have hR:doR (acts t) t w S=mcS S1 t (zg (acts t) u0):=by
  unfold doR
  rw[if_neg (by omega),if_neg (by omega),if_pos hw,hS1]
 have lw:=hB.lw
 simp only[wtL]at lw
 simp[hB.lr,hB.lt',lw,e1,B1.lx,lt1,d1]
 exact Ky ⟨A1,by rw[hR];exact⟨(RX.call x1 d2).res hW,k1.ak⟩⟩
end
end Go.Sx
namespace Go.Sx
open Go.Dx Go.Proofs
set_option maxRecDepth 10000
variable [Cdf]
section
variable {T:Nat}{m0 m m':M}{W:List Nat}{A A':Nm->Nat}{S S':RS}{σ:List (Nat × List Value)}{acts:Nat->List Ac}{cells:Int}
def zH (A:Nm->Nat)(S:RS):List Value:=(List.range S.outs.length).map λt=>gv (A (.out t)) 1 (S.outs.getD t []).length
theorem Qf (A:Nm->Nat)(S:RS):(zH A S).length=S.outs.length:=by unfold zH;simp
theorem Kt (T:Nat)(A:Nm->Nat)(S:RS){t:Nat}(hc:t<S.outs.length):qo T A S .outb=some (zH A S):=by
 refine wv λe=>?_
 have:=congrArg List.length e
 rw[List.length_map,List.length_range,List.length_nil]at this;omega
theorem RX.outv (h:RX T m0 m W A S σ){t:Nat}{l:List U}(hc:S.outs[t]?=some l)(s:Option Nat):load1 m ⟨A .outb,t,s⟩=some (gv (A (.out t)) 1 l.length):=by
 obtain⟨hl,e⟩:=qgp.1 hc
 rw[h.ld (Kt T A S hl)]
 unfold zH
 rw[qh4,List.getElem?_range hl]
 simp[List.getD_eq_getElem?_getD,hc]
theorem lsR_ok (l:List U):∀u∈lsR l,okC u=true:=by
 intro u hu
 unfold lsR at hu
 obtain⟨e,_,rfl⟩:=List.mem_map.1 hu
 rfl
theorem gvOut (T:Nat)(A:Nm->Nat)(S:RS){t:Nat}{l:List U}(hc:S.outs[t]?=some l):GV A (qo T A S) (.out t) 1 l.length (gv (A (.out t)) 1 l.length) :=
 GV.gv (l:=lsR l) (by show S.outs[t]?.bind _=_;rw[hc];rfl) (by rw[gY];omega) (by omega) (lsR_ok _)
theorem qac (T:Nat)(A:Nm->Nat)(S:RS){t:Nat}{l:List U}(hc:S.outs[t]?=some l)(v:U)(B:Nat)(a:Nm):qo T (qf A (.out t) B) (Qn S t v) a =
  qf (qf (qo T A S) (.out t) (some ((qo T A S (.out t)).getD []++[uv v.1]))) .outb (some ((zH A S).set t (.slice (some ⟨B,0,some (code 1 false)⟩) (l.length+1) (l.length+1)))) a:=by
 obtain⟨hcl,rfl⟩:=qgp.1 hc
 cases a with
 | thr t'=>simp only[qo,qf,Qn,reduceCtorEq,if_false];cases S.ths[t']?<;>simp[wH,qf]
 | out c' =>
  by_cases h:c'=t
  .subst h
   simp only[qo,qf,Qn,if_true,List.getElem?_modify,reduceCtorEq,if_false]
   rw[qgn hcl]
   simp only[Option.map_some,Option.bind_some,Option.map_eq_map]
   rw[zE]
   show gl (lsR (_++[v]))=_
   unfold lsR
   rw[List.map_append,wv (by simp)]
   rfl
  .have h':¬t=c':=λe=>h e.symm
   simp[qo,qf,Qn,h,h',List.getElem?_modify]
 | outb =>
  simp only[qo,qf,if_true]
  rw[show (Qn S t v).outs=S.outs.modify t (· ++ [v]) from rfl,List.length_modify]
  rw[wv (λe=>by have:=congrArg List.length e;rw[List.length_map,List.length_range,List.length_nil]at this;omega)]
  congr 1
  refine List.ext_getElem? λi=>?_
  rw[List.getElem?_set]
  unfold zH
  rw[List.length_map,List.length_range]
  by_cases hi:i<S.outs.length
  .rw[qh4,List.getElem?_range hi,qh4,List.getElem?_range hi]
   simp only[Option.map_some,List.getD_eq_getElem?_getD,List.getElem?_modify]
   by_cases h:t=i
   .subst h
    simp[hcl,gv]
   .have h':¬i=t:=λe=>h e.symm
    simp[h,h',qf]
  .rw[qha (by simpa using hi),qha (by simpa using hi)]
   split
   .rename_i h;subst h;omega
   .rfl
 | _=>simp[qo,qf,Qn,qq]
end
@[simp] theorem bs_u0 (m:M) (n:Int):ki 1 1 (rep 1 [zU]) [(0,1,.int .u64 n)] m=some (.slice (some ⟨m.n,0,some 3⟩) 1 1,Dx.newRow m [.int .u64 n]):=rfl
section
variable {m m':M}{A A':Nm->Nat}{S S':RS}{t:Nat}{w:Wt}{b3 b4 b5 b7:Nat}{acts:Nat->List Ac}{cells:Int}
theorem BX.ext (h:BX m A S t w b3 b4 b5 b7)(e:Ext m m'):BX m' A S t w b3 b4 b5 b7:=by
 have keep:∀B∈[b3,b4,b5,b7],m'.obj B=m.obj B:=λB hB=>e.obj B (h.lt B hB).1
 exact⟨h.ar.congr (keep _ (by simp)),h.at_.congr (keep _ (by simp)),h.aw.congr (keep _ (by simp)),h.ax.congr (keep _ (by simp)),λB hB=>⟨qgs (h.lt B hB).1 e.n,(h.lt B hB).2⟩⟩
theorem qag (n:Nat)(hm:m.base<=m.n)(h:RH 88 m A S)(hE:TE 88 m A S acts)(hG:TG S acts cells)(hZ:SZ S){x:Tr}(ht:S.ths[t]?=some x)(ha:x.s.asked=true)(h5:x.s.now.what≠5)(h6:x.s.now.what≠6)
  (hB:BX m A S t w b3 b4 b5 b7) (hw:w.what=4) :
  ∃v m' A',(ex Tryz.prog (n+6)).f 63 [mP b3,mP b4,mP b5,mP b7] m=some (v,m')/\RR 88 m m' A S A' (doR (acts t) t w S):=by
 suffices H:∃v m',(ex Tryz.prog (n+6)).f 63 [mP b3,mP b4,mP b5,mP b7] m=some (v,m')/\∃A',RR 88 m m' A S A' (doR (acts t) t w S) by
  obtain⟨v,m',a1,A',a2⟩:=H
  exact⟨v,m',A',a1,a2⟩
 refine wO (Q:=λv m'=>∃A',RR 88 m m' A S A' (doR (acts t) t w S)) df2_ok (by simp) ?_
 obtain⟨Wl,hW,x0⟩:=h.start hm
 have htl:=(qgp.1 ht).1
 have hto:t<S.outs.length:=by rw[hZ.outs];exact htl
 obtain⟨lo,hlo⟩:∃lo,S.outs[t]?=some lo:=⟨_,qgn hto⟩
 have r0:=RX.run x0
 simp only[qq]at r0
 have ix:=ya (B:=A .outb) hto
 have lo0:=λs=>RX.outv x0 hlo s
 have lw:=hB.lw
 simp only[wtL]at lw
 have x1:=x0.row [uv w.val.1]
 obtain⟨m1,hm1⟩:=qhd (Dx.newRow m [uv w.val.1])
 have hm1':Dx.newRow m [Value.int .u64 (w.val.1:Int)]=m1:=hm1.symm
 rw[<-hm1]at x1
 have lx:loads m1 ⟨m.n,0,some 3⟩ 1=some [uv w.val.1]:=x1.blds 0 rfl (o:=0) (n:=1) (some 3) (by simp)
 obtain⟨mq,m5,b1,b2,b3',b4',x5,n5⟩:=x1.pushSAny (b:=.outb) (lb:=zH A S) (o:=t) (bytes:=8) (gvOut 88 A S hlo) (by omega) lx (λu hu=>by simp at hu;subst hu;rfl) (by have:=hZ.outN t lo hlo;unfold most;omega) (by have:=hZ.outN t lo hlo;omega) (Kt 88 A S hto) (by simp) (by rw[Qf];exact hto)
 obtain⟨M4,hM4⟩:=qhd (Dx.behind m1 mq)
 obtain⟨M5,hM5⟩:=qhd (Dx.behind M4 m5)
 rw[<-hM4]at b2 x5
 rw[<-hM5]at x5
 have x6:RX 88 m M5 Wl (qf A (.out t) m1.n) (Qn S t w.val) _:=x5.conv (qac 88 A S hlo w.val m1.n) (λ_ _ _=>rfl)
 have hdl:∀X,(∃a la,qo 88 A S a=some la/\a≠.out t/\A a=X)\/(¬yk A (qo 88 A S) X)->X ∉ mq.log:=λX hX=>by
  rcases b4' with e | ⟨B,hBk,e⟩
  .rw[e];simp
  .rw[e,qgu]
   have hcc2:∃l,qo 88 A S (.out t)=some l/\A (.out t)=B:=by
    rcases gvOut 88 A S hlo with ⟨_,_,e2⟩ | ⟨cd,l,h1,e2,_⟩
    .rw[e2]at hBk;cases hBk
    .rw[e2]at hBk;exact⟨l,h1,by injection hBk⟩
   obtain⟨l,h1,e3⟩:=hcc2
   rcases hX with ⟨a,la,h2,h3,rfl⟩ | hX
   .rw[<-e3];exact λe4=>h3 (h.inj a (.out t) _ _ h2 h1 e4)
   .rintro rfl;exact hX ⟨.out t,l,h1,e3⟩
 have hd1:A .run ∉ mq.log:=hdl _ (.inl ⟨.run,_,rfl,by simp,rfl⟩)
 have hd2:b3 ∉ mq.log:=hdl _ (.inr (hB.lt _ (by simp)).2)
 have hd3:b4 ∉ mq.log:=hdl _ (.inr (hB.lt _ (by simp)).2)
 obtain⟨A2,hA2⟩:=qhd (qf A (.out t) m1.n)
 have ak2:AK A A2:=by rw[hA2];exact AK.upd rfl _
 rw[<-hA2]at x6
 obtain⟨S2,hS2⟩:=qhd (Qn S t w.val)
 rw[<-hS2]at x6
 have f2:S2.ths=S.ths:=by rw[hS2];rfl
 have ht2:S2.ths[t]?=some x:=by rw[f2];exact ht
 have k2:RR 88 m M5 A S A2 S2:=⟨x6.clear.res hW,ak2⟩
 have B2:=hB.call k2
 have st:SameT S S2:=λt' x' hx'=>⟨x',by rw[<-f2];exact hx',rfl,rfl⟩
 obtain⟨m9,d1,d2⟩:=YR x6.hp x6.mb (hE.call k2 st) (hG.same λt' x' hx'=>⟨x',by rw[<-f2];exact hx',rfl,rfl⟩) ht2 ha h5 h6 u0 (n+1)
 have d1:(ex Tryz.prog (n+5)).f 132 [mP (A2 (.mac t)),zU] M5=some (iv 0,m9):=d1
 have lt2:=HpN.thrv x6.hp ht2
 simp only[wH]at lt2
 have hR:doR (acts t) t w S=mcS S2 t (zg (acts t) u0):=by
  unfold doR
  rw[if_neg (by omega),if_neg (by omega),if_neg (by omega),if_pos hw,hS2]
 simp[hB.lr,hB.lt',lw,r0,ix,lo0,hm1',b1,<-hM4,b2,b3',<-hM5,xG hd1,xG hd2,xG hd3,B2.lx,lt2,d1]
 exact Ky ⟨A2,by rw[hR];exact⟨(RX.call x6.clear d2).res hW,ak2⟩⟩
end
end Go.Sx
namespace Go.Sx
open Go.Dx Go.Proofs
set_option maxRecDepth 10000
variable [Cdf]
def clV (w:Wt)(b3 b4 b5 b7:Nat):Value :=
 if w.what=1 then .func (.func 56) ⟨[]⟩ ⟨[mP b3,mP b4,mP b5,mP b7]⟩
 else if w.what=2 then .func (.func 60) ⟨[]⟩ ⟨[mP b3,mP b4,mP b5]⟩
 else if w.what=3 then .func (.func 61) ⟨[]⟩ ⟨[mP b3,mP b4,mP b5,mP b7]⟩
 else if w.what=4 then .func (.func 63) ⟨[]⟩ ⟨[mP b3,mP b4,mP b5,mP b7]⟩
 else .func (.func 64) ⟨[]⟩ ⟨[]⟩
theorem sact_c (n:Nat){m:M}(hm:m.base<=m.n){A:Nm->Nat}{S:RS}(h:RH 88 m A S){t:Nat}{x:Tr}(ht:S.ths[t]?=some x)(w:Wt)(hwb:1<=w.what/\w.what<=6) :
  ∃m',(ex Tryz.prog (n+1)).f 43 [mP (A .run),iv t,.agg ⟨wtL w⟩] m=some (if okR S w then clV w m.n (m.n+1) (m.n+2) (m.n+3) else .nilFunc,m')/\Ext m m'/\BX m' A S t w m.n (m.n+1) (m.n+2) (m.n+3):=by
 suffices H:∃v m',(ex Tryz.prog (n+1)).f 43 [mP (A .run),iv t,.agg ⟨wtL w⟩] m=some (v,m')/\v=(if okR S w then clV w m.n (m.n+1) (m.n+2) (m.n+3) else .nilFunc)/\Ext m m'/\BX m' A S t w m.n (m.n+1) (m.n+2) (m.n+3) by
  obtain⟨v,m',a1,rfl,a2⟩:=H
  exact⟨m',a1,a2⟩
 refine wO (Q:=λv m'=>v=(if okR S w then clV w m.n (m.n+1) (m.n+2) (m.n+3) else .nilFunc)/\Ext m m'/\BX m' A S t w m.n (m.n+1) (m.n+2) (m.n+3)) dd7_ok (by simp) ?_
 obtain⟨Wl,hW,x0⟩:=h.start hm
 have htl:=(qgp.1 ht).1
 have st1:=(St.nil hm (Ext.refl m)).row [mP (A .run)]
 obtain⟨m1,hm1⟩:=qhd (Dx.newRow m [mP (A .run)])
 have n1:m1.n=m.n+1:=by rw[hm1,qz]
 have hb1:yf (mP (A .run)) m=some (.pointer (some ⟨m.n,0,none⟩),m1):=by rw[hm1];rfl
 rw[<-hm1]at st1
 have st2:=st1.row [iv t]
 obtain⟨m2,hm2⟩:=qhd (Dx.newRow m1 [iv t])
 have n2:m2.n=m.n+2:=by rw[hm2,qz,n1]
 have hb2:yf (iv t) m1=some (.pointer (some ⟨m.n+1,0,none⟩),m2):=by rw[hm2,<-n1];rfl
 rw[<-hm2,n1]at st2
 have st3:=st2.row (wtL w)
 obtain⟨m3,hm3⟩:=qhd (Dx.newRow m2 (wtL w))
 have n3:m3.n=m.n+3:=by rw[hm3,qz,n2]
 have hb3:yf (.agg ⟨wtL w⟩) m2=some (.pointer (some ⟨m.n+2,0,none⟩),m3):=by rw[hm3,<-n2];rfl
 rw[<-hm3,n2]at st3
 have st4:=st3.row [.pointer none]
 obtain⟨m4,hm4⟩:=qhd (Dx.newRow m3 [.pointer none])
 rw[<-hm4,n3]at st4
 have hx3:=NH.ext x0 st3.ext
 have r3:=RX.run hx3
 simp only[qq]at r3
 have lb3:=λs=>RX.tb hx3 htl s
 have ixt:=ya (B:=A .tb) htl
 have l3:∀s,load1 m3 ⟨m.n,0,s⟩=some (mP (A .run)):=λs=>(st3.get 2 rfl).2.2.load1 0 s
 have l4:∀s,load1 m3 ⟨m.n+1,0,s⟩=some (iv t):=λs=>(st3.get 1 rfl).2.2.load1 0 s
 obtain⟨m5',g1,g2,g3,g4,g5⟩:=st4.storeAny 0 rfl (o:=0) (v:=mP (A (.thr t))) (by simp) rfl
 obtain⟨m5,hm5⟩:=qhd (Dx.behind m4 m5')
 rw[<-hm5]at g3
 have g3':St m m5 [(m.n+3,[mP (A (.thr t))]),(m.n+2,wtL w),(m.n+1,[iv t]),(m.n,[mP (A .run)])]:=g3
 have l5:∀o s,load1 m5 ⟨m.n+2,o,s⟩=(wtL w)[o]?:=λo s=>(g3'.get 1 rfl).2.2.load1 o s
 have l50:∀s,load1 m5 ⟨m.n,0,s⟩=some (mP (A .run)):=λs=>(g3'.get 3 rfl).2.2.load1 0 s
 have hx5:=NH.ext x0 g3'.ext
 have r5:=RX.run hx5
 simp only[qq]at r5
 have BXf:BX m5 A S t w m.n (m.n+1) (m.n+2) (m.n+3):=by
  refine⟨(g3'.get 3 rfl).2.2,(g3'.get 2 rfl).2.2,(g3'.get 1 rfl).2.2,(g3'.get 0 rfl).2.2,λB hB=>⟨?_,λ⟨a,l,ha,e⟩=>?_⟩⟩
  .have:=(g3'.get 0 rfl).2.1
   simp only[List.mem_cons,List.not_mem_nil,or_false]at hB
   rcases hB with rfl | rfl | rfl | rfl<;>omega
  .have h1:=(h.hx a l ha).1
   simp only[List.mem_cons,List.not_mem_nil,or_false]at hB
   rcases hB with rfl | rfl | rfl | rfl<;>omega
 have n3':m3.n=m.n+3:=n3
 have hal:∀l,Dx.newRow m3 l=Dx.newRow m3 l:=λ_=>rfl
 obtain⟨what,loc,mode,val,ex⟩:=w
 simp only at hwb
 simp only[wtL]at l5
 have hfin:∀(v:Value),v=(if okR S ⟨what,loc,mode,val,ex⟩ then clV ⟨what,loc,mode,val,ex⟩ m.n (m.n+1) (m.n+2) (m.n+3) else .nilFunc)->v=(if okR S ⟨what,loc,mode,val,ex⟩ then clV ⟨what,loc,mode,val,ex⟩ m.n (m.n+1) (m.n+2) (m.n+3) else .nilFunc)/\Ext m m5/\BX m5 A S t ⟨what,loc,mode,val,ex⟩ m.n (m.n+1) (m.n+2) (m.n+3):=λv hv=>⟨hv,g3'.ext,BXf⟩
 have hlen:za (.slice (some ⟨A .cb,0,some 3⟩) S.cells.length S.cells.length)=some (.int .i64 (S.cells.length:Int)):=rfl
 rcases (by omega:what=1\/what=2\/what=3\/what=4\/what=5\/what=6) with rfl | rfl | rfl | rfl | rfl | rfl
 .by_cases hl:0<=loc/\loc<S.cells.length
  .have c1:¬(loc<0):=by omega
   have c2:¬((S.cells.length:Int)<=loc):=by omega
   have ho:okR S ⟨1,loc,mode,val,ex⟩=true:=decide_eq_true (.inl ⟨.inl rfl,hl⟩)
   simp[hb1,hb2,hb3,l3,l4,r3,ixt,lb3,<-hm4,n3',g1,g2,<-hm5,l5,l50,r5,hlen,c1,c2]
   exact zu (hfin _ (by simp[ho,clV]))
  .have ho:okR S ⟨1,loc,mode,val,ex⟩=false:=decide_eq_false (by simp only;omega)
   by_cases c1:loc<0
   .simp[hb1,hb2,hb3,l3,l4,r3,ixt,lb3,<-hm4,n3',g1,g2,<-hm5,l5,l50,r5,hlen,c1]
    exact zu (hfin _ (by simp[ho]))
   .have c2:(S.cells.length:Int)<=loc:=by omega
    simp[hb1,hb2,hb3,l3,l4,r3,ixt,lb3,<-hm4,n3',g1,g2,<-hm5,l5,l50,r5,hlen,c1,c2]
    exact zu (hfin _ (by simp[ho]))
 .by_cases hl:0<=loc/\loc<S.cells.length
  .have c1:¬(loc<0):=by omega
   have c2:¬((S.cells.length:Int)<=loc):=by omega
   have ho:okR S ⟨2,loc,mode,val,ex⟩=true:=decide_eq_true (.inl ⟨.inr rfl,hl⟩)
   simp[hb1,hb2,hb3,l3,l4,r3,ixt,lb3,<-hm4,n3',g1,g2,<-hm5,l5,l50,r5,hlen,c1,c2]
   exact zu (hfin _ (by simp[ho,clV]))
  .have ho:okR S ⟨2,loc,mode,val,ex⟩=false:=decide_eq_false (by simp only;omega)
   by_cases c1:loc<0
   .simp[hb1,hb2,hb3,l3,l4,r3,ixt,lb3,<-hm4,n3',g1,g2,<-hm5,l5,l50,r5,hlen,c1]
    exact zu (hfin _ (by simp[ho]))
   .have c2:(S.cells.length:Int)<=loc:=by omega
    simp[hb1,hb2,hb3,l3,l4,r3,ixt,lb3,<-hm4,n3',g1,g2,<-hm5,l5,l50,r5,hlen,c1,c2]
    exact zu (hfin _ (by simp[ho]))
 .have ho:okR S ⟨3,loc,mode,val,ex⟩=true:=decide_eq_true (by simp)
  simp[hb1,hb2,hb3,l3,l4,r3,ixt,lb3,<-hm4,n3',g1,g2,<-hm5,l5,l50,r5,hlen]
  exact zu (hfin _ (by simp[ho,clV]))
 .have ho:okR S ⟨4,loc,mode,val,ex⟩=true:=decide_eq_true (by simp)
  simp[hb1,hb2,hb3,l3,l4,r3,ixt,lb3,<-hm4,n3',g1,g2,<-hm5,l5,l50,r5,hlen]
  exact zu (hfin _ (by simp[ho,clV]))
 .have ho:okR S ⟨5,loc,mode,val,ex⟩=false:=decide_eq_false (by simp)
  simp[hb1,hb2,hb3,l3,l4,r3,ixt,lb3,<-hm4,n3',g1,g2,<-hm5,l5,l50,r5,hlen]
  exact zu (hfin _ (by simp[ho,clV]))
 .have ho:okR S ⟨6,loc,mode,val,ex⟩=true:=decide_eq_true (by simp)
  simp[hb1,hb2,hb3,l3,l4,r3,ixt,lb3,<-hm4,n3',g1,g2,<-hm5,l5,l50,r5,hlen]
  exact zu (hfin _ (by simp[ho,clV]))
end Go.Sx
namespace Go.Sx
open Go.Dx Go.Proofs
set_option maxRecDepth 10000
variable [Cdf]
def NP (acts:List Ac):Prop:=∀a∈acts,a.op≠4/\a.op≠5/\a.op≠6
structure PI (S:RS)(acts:Nat->List Ac)(cells:Int):Prop where
 tg:TG S acts cells
 sz:SZ S
 co:∀(c:Nat) (l:List Int),S.co[c]?=some l->1<=l.length
 np:∀t,NP (acts t)
section
variable {T:Nat}{m0 m m':M}{W:List Nat}{A A':Nm->Nat}{S S':RS}{σ:List (Nat × List Value)}{acts:Nat->List Ac}{cells:Int}{t:Nat}{w:Wt}{b3 b4 b5 b7:Nat}
theorem qfo {s:Ms}{a:Ac}(h:a.op≠4/\a.op≠5/\a.op≠6)(how:ownB a=false)(hop:1<=a.op/\a.op<=10):(qU s a).ex=false:=by
 rcases Xq how hop with e | e | e | e | e
 .unfold qU;rw[if_pos e]
 .unfold qU;rw[if_neg (by omega),if_pos e]
 .unfold qU;rw[if_neg (by omega),if_neg (by omega),if_pos e]
 .unfold qU;rw[if_neg (by omega),if_neg (by omega),if_neg (by omega),if_pos e]
 .omega
theorem JJ (T:Nat)(A:Nm->Nat)(S:RS)(n:Int)(B:Nat)(a:Nm):qo T (qf A .log B) (gX S n) a =
  qf (qf (qo T A S) .log (some ((qo T A S .log).getD []++[iv n]))) .run (some ((qq A S).set 14 (.slice (some ⟨B,0,some (code 1 false)⟩) (S.log.length+1) (S.log.length+1)))) a:=by
 cases a with
 | thr t'=>simp only[qo,qf,gX,reduceCtorEq,if_false];cases S.ths[t']?<;>simp[wH,qf]
 | _=>simp[qo,qf,gX,qq,zE,wv,gv]
theorem Ku (T:Nat)(A:Nm->Nat)(S:RS)(a:Nm):qo T A (zw S) a=qf (qo T A S) .run (some ((qq A S).set 15 (iv (S.used+1:Nat)))) a:=by
 cases a with
 | run=>simp[qo,qf,zw,qq]
 | _=>simp[qo,qf,zw]
theorem gvLog (T:Nat)(A:Nm->Nat)(S:RS):GV A (qo T A S) .log 1 S.log.length (gv (A .log) 1 S.log.length):=GV.gv (l:=S.log.map λn=>iv n) rfl (by simp) (by omega) (vK _)
theorem SZ.mc (h:SZ S)(t:Nat)(f:Ms->Ms):SZ (mcS S t f):=by
 have hl:(mcS S t f).ths.length=S.ths.length:=List.length_modify ..
 refine⟨h.last,h.co,by rw[hl];exact h.outs,h.cells,by rw[hl];exact h.ths,h.ev,h.rf,h.rmw,λt' x' hx'=>?_,h.coN,h.outN⟩
 unfold mcS at hx'
 rw[List.getElem?_modify]at hx'
 cases hx:S.ths[t']? with
 | none=>rw[hx]at hx';simp at hx'
 | some x =>
  rw[hx]at hx'
  simp at hx'
  have:=h.nums t' x hx
  by_cases e:t=t'
  .rw[if_pos e]at hx';rw[<-hx'];exact this
  .rw[if_neg e]at hx';rw[<-hx'];exact this
theorem PI.next (h:PI S acts cells)(t:Nat):PI (gX (zw (mcS S t (qI (acts t)))) t) acts cells :=
 ⟨(h.tg.next t).same λt' x hx=>⟨x,hx,rfl,rfl⟩,let k:=h.sz.mc t (qI (acts t));⟨k.last,k.co,k.outs,k.cells,k.ths,k.ev,k.rf,k.rmw,k.nums,k.coN,k.outN⟩,h.co,h.np⟩
theorem RR.trans {m1 m2 m3:M}{A1 A2 A3:Nm->Nat}{S1 S2 S3:RS}(hm:m1.base<=m1.n)(h:RH T m1 A1 S1)(k1:RR T m1 m2 A1 S1 A2 S2)(k2:RR T m2 m3 A2 S2 A3 S3):RR T m1 m3 A1 S1 A3 S3:=by
 obtain⟨Wl,hW,x0⟩:=h.start hm
 exact⟨((RX.call (RX.call x0 k1) k2).res hW),k1.ak.trans k2.ak⟩
theorem do_c (n:Nat)(hm:m.base<=m.n)(h:RH 88 m A S)(hE:TE 88 m A S acts)(hP:PI S acts cells){x:Tr}(ht:S.ths[t]?=some x)(ha:x.s.asked=true)(hw:x.s.now=w)(hB:BX m A S t w b3 b4 b5 b7)(hok:okR S w=true)(hx:w.what=1->w.ex=false) :
  ∃v m' A',vA (ex Tryz.prog (n+6)) [] m (clV w b3 b4 b5 b7)=some (v,m')/\RR 88 m m' A S A' (doR (acts t) t w S):=by
 have ho:=of_decide_eq_true hok
 have h5:x.s.now.what≠5:=by rw[hw];omega
 by_cases h1:w.what=1
 .obtain⟨v,m',A',e,k⟩:=qdu n hm h hE hP.tg hP.sz ht ha h5 (by rw[hw];omega) hB (by omega) (by omega) h1 (hx h1)
  exact⟨v,m',A',by unfold clV;rw[if_pos h1,jo];exact e,k⟩
 by_cases h2:w.what=2
 .obtain⟨v,m',A',e,k⟩:=qah n hm h hE hP.tg hP.sz hP.co ht ha h5 (by rw[hw];omega) hB (by omega) (by omega) h2
  exact⟨v,m',A',by unfold clV;rw[if_neg h1,if_pos h2,jo];exact e,k⟩
 by_cases h3:w.what=3
 .obtain⟨v,m',A',e,k⟩:=qaf n hm h hE hP.tg hP.sz ht ha h5 (by rw[hw];omega) hB h3
  exact⟨v,m',A',by unfold clV;rw[if_neg h1,if_neg h2,if_pos h3,jo];exact e,k⟩
 by_cases h4:w.what=4
 .obtain⟨v,m',A',e,k⟩:=qag n hm h hE hP.tg hP.sz ht ha h5 (by rw[hw];omega) hB h4
  exact⟨v,m',A',by unfold clV;rw[if_neg h1,if_neg h2,if_neg h3,if_pos h4,jo];exact e,k⟩
 .have hR:doR (acts t) t w S=S:=by unfold doR;rw[if_neg h1,if_neg h2,if_neg h3,if_neg h4]
  have H:∃v m',(ex Tryz.prog (n+6)).f 64 [] m=some (v,m')/\m'=m:=by
   refine wO (Q:=λv m'=>m'=m) df3_ok (by simp) ?_
   simp
   exact Ky rfl
  obtain⟨v,m',e,rfl⟩:=H
  exact⟨v,m',A,by unfold clV;rw[if_neg h1,if_neg h2,if_neg h3,if_neg h4,jo];exact e,by rw[hR];exact RR.refl h hm⟩
theorem MI.six {al:List Ac}{s:Ms}{k:Nat}(hg:∀a∈al,AcG k al.length cells a)(h:MI al s)(ha:s.asked=true)(hn:s.now.what≠6->s.now=ja al s)(hnp:NP al):(1<=s.now.what/\s.now.what<=6)/\(1<=s.now.what/\s.now.what<=4->s.now.ex=false):=by
 by_cases h6:s.now.what=6
 .exact⟨by omega,by omega⟩
 by_cases h5:s.now.what=5
 .exact⟨by omega,by omega⟩
 obtain⟨a,k1,k2,k3⟩:=h.cases ha h5 h6
 have hga:=hg a (qgo k1)
 obtain⟨_,_,w3,w4⟩:=qfn (s:=s) k2 hga.op
 rw[<-k3]at w3 w4
 exact⟨by omega,λ_=>by rw[k3];exact qfo (hnp a (qgo k1)) k2 hga.op⟩
end
end Go.Sx
namespace Go.Sx
open Go.Dx Go.Proofs
set_option maxRecDepth 10000
variable [Cdf]
abbrev intRow (n:Int):List Value:=[iv n]
structure OKS (S:RS)(acts:Nat->List Ac)(cells:Int):Prop where
 pi:PI S acts cells
 log:S.log.length<=1000000000000
 ev:S.ev.length<=256
 used:S.used<=1000000000000000000
section
variable {m0 m m':M}{W:List Nat}{A A':Nm->Nat}{S S':RS}{acts:Nat->List Ac}{cells:Int}
theorem pick_c (N:Nat)(hm:m.base<=m.n)(h:RH 88 m A S)(hE:TE 88 m A S acts)(hK:OKS S acts cells){t:Nat}{x:Tr}(ht:S.ths[t]?=some x)(Q:Option Out->Prop)(kn kr:K)(ke:Nat->K)(τ:Tm)(t0:Tm.get 0 τ=mP (A .run))(t8:Tm.get 8 τ=iv t)
  (hQ:∀(τ':Tm) (m':M) (A':Nm->Nat),RR 88 m m' A S A' (kz acts t S)->(Tm.get 0 τ'=Tm.get 0 τ/\Tm.get 2 τ'=Tm.get 2 τ/\Tm.get 10 τ'=Tm.get 10 τ/\Tm.get 11 τ'=Tm.get 11 τ/\Tm.get 12 τ'=Tm.get 12 τ)->Q (kn τ' m')) :
  Q (Vm (ex Tryz.prog (N+6)) kn ke kr τ m):=by
 have htl:=(qgp.1 ht).1
 obtain⟨Wl,hW,x0⟩:=h.start hm
 have r0:=RX.run x0
 simp only[qq]at r0
 have lb0:=λs=>RX.tb x0 htl s
 have ixt:=ya (B:=A .tb) htl
 have lt0:=RX.thr x0 ht
 simp only[wH]at lt0
 obtain⟨m1,e1,k1⟩:=nextT h hm hE hK.pi.tg ht N
 obtain⟨g1,g2,g3,g4⟩:=hK.pi.tg.hg t x ht
 obtain⟨q1,q2,q3,q4⟩:=yB g1 g4
 obtain⟨w,hw⟩:=qhd ((qI (acts t) x.s).now)
 rw[<-hw]at e1
 obtain⟨six1,six2⟩:=MI.six g1 q1 q3 q4 (hK.pi.np t)
 rw[<-hw]at six1 six2
 obtain⟨S1,hS1⟩:=qhd (mcS S t (qI (acts t)))
 rw[<-hS1]at k1
 have x1:=RX.call x0 k1
 have ht1:S1.ths[t]?=some { x with s:=qI (acts t) x.s }:=by rw[hS1];exact ZB S _ ht
 have E1:TE 88 m1 A S1 acts:=hE.call k1 (by rw[hS1];exact SameT.mc S t _)
 obtain⟨m2,e2,k2,B2⟩:=sact_c (N+5) x1.mb x1.hp ht1 w six1
 have hpick:kz acts t S=if okR S1 w then doR (acts t) t w (gX (zw S1) t) else S1:=by
  have hnow:ZJ S1 t=w:=by unfold ZJ;rw[ht1,hw]
  unfold kz
  rw[if_pos (by omega)]
  simp only[qh1,<-hS1,hnow]
 cases hok:okR S1 w with
 | false =>
  rw[hok]at e2 hpick
  simp at e2 hpick
  have kk:RR 88 m m2 A S A (kz acts t S):=by rw[hpick];exact⟨(NH.ext x1 k2).res hW,AK.refl A⟩
  simp[t0,t8,r0,lb0,ixt,lt0,e1,e2]
  exact hQ _ _ _ kk (by simp)
 | true =>
  rw[hok]at e2 hpick
  simp at e2 hpick
  obtain⟨n,hn⟩:∃n:Nat,S.used=n:=⟨_,rfl⟩
  have hu1:S1.used=n:=by rw[hS1];exact hn
  have hn':=hK.used
  rw[hn]at hn'
  have x2:=NH.ext x1 k2
  have r2:=RX.run x2
  simp only[qq,hu1]at r2
  have na:=wL (i:=n) (by omega)
  obtain⟨q,hq⟩:∃q:Nat,q=n+1:=⟨_,rfl⟩
  rw[<-hq]at na
  have hcl:∃g l,clV w m1.n (m1.n+1) (m1.n+2) (m1.n+3)=.func (.func g) ⟨[]⟩ ⟨l⟩:=by
   unfold clV
   split
   .exact⟨_,_,rfl⟩
   .split
    .exact⟨_,_,rfl⟩
    .split
     .exact⟨_,_,rfl⟩
     .split
      .exact⟨_,_,rfl⟩
      .exact⟨_,_,rfl⟩
  obtain⟨g,l,hgl⟩:=hcl
  obtain⟨m3,a1,x3,n3⟩:=NH.set x2 (a:=.run) (l:=qq A S1) (o:=15) (v:=iv q) rfl (by simp[qq]) rfl
  have x3':RX 88 m m3 Wl A (zw S1) _:=x3.conv (λa=>by rw[Ku,hu1,hq]) (λ_ _ _=>rfl)
  have r3:=RX.run x3'
  have hl3:(zw S1).log=S.log:=by rw[hS1];rfl
  simp only[qq,hl3]at r3
  have x4:=x3'.row [iv t]
  obtain⟨m4,hm4⟩:=qhd (Dx.newRow m3 [iv t])
  have hm4':Dx.newRow m3 [Value.int .i64 (t:Int)]=m4:=hm4.symm
  rw[<-hm4]at x4
  have lx:loads m4 ⟨m3.n,0,some 3⟩ 1=some [iv t]:=x4.blds 0 rfl (o:=0) (n:=1) (some 3) (by simp)
  have hlog:=hK.log
  obtain⟨mq,m5,b1,b2,x5,n5⟩:=x4.pushS (b:=.run) (lb:=qq A (zw S1)) (o:=14) (bytes:=8) (gvLog 88 A (zw S1)) (by omega) lx (λu hu=>vK [(t:Int)] u (by simpa using hu)) (by rw[hl3];unfold most;omega) (by rw[hl3];omega) rfl (by simp) (by simp[qq])
  rw[hl3]at b1 b2
  have x6:RX 88 m m5 Wl (qf A .log m4.n) (gX (zw S1) t) _:=x5.conv (JJ 88 A (zw S1) t m4.n) (λ_ _ _=>rfl)
  obtain⟨A2,hA2⟩:=qhd (qf A .log m4.n)
  have ak2:AK A A2:=by rw[hA2];exact AK.upd rfl _
  rw[<-hA2]at x6
  obtain⟨S2,hS2⟩:=qhd (gX (zw S1) t)
  rw[<-hS2]at x6 hpick
  have f2:S2.ths=S1.ths:=by rw[hS2];rfl
  have ht2:S2.ths[t]?=some { x with s:=qI (acts t) x.s }:=by rw[f2];exact ht1
  obtain⟨Wm,hWm,y0⟩:=HpN.start (NH.ext x1 k2).hp (NH.ext x1 k2).mb
  obtain⟨m3',a1',y3,_⟩:=NH.set y0 (a:=.run) (l:=qq A S1) (o:=15) (v:=iv q) rfl (by simp[qq]) rfl
  rw[a1]at a1'
  obtain rfl:m3=m3':=by injection a1' with e;injection e
  have y3':RX 88 m2 m3 Wm A (zw S1) _:=y3.conv (λa=>by rw[Ku,hu1,hq]) (λ_ _ _=>rfl)
  have y4:=y3'.row [iv t]
  rw[<-hm4]at y4
  obtain⟨mq',m5',b1',b2',y5,_⟩:=y4.pushS (b:=.run) (lb:=qq A (zw S1)) (o:=14) (bytes:=8) (gvLog 88 A (zw S1)) (by omega) lx (λu hu=>vK [(t:Int)] u (by simpa using hu)) (by rw[hl3];unfold most;omega) (by rw[hl3];omega) rfl (by simp) (by simp[qq])
  rw[hl3,b1]at b1'
  obtain rfl:mq=mq':=by injection b1' with e;injection e
  rw[hl3,b2]at b2'
  obtain rfl:m5=m5':=by injection b2' with e;injection e
  have y6:RX 88 m2 m5 Wm (qf A .log m4.n) (gX (zw S1) t) _:=y5.conv (JJ 88 A (zw S1) t m4.n) (λ_ _ _=>rfl)
  rw[<-hA2,<-hS2]at y6
  have k26:RR 88 m2 m5 A S1 A2 S2:=⟨y6.clear.res hWm,ak2⟩
  have B6:=B2.call k26
  have k06:RR 88 m m5 A S A2 S2:=⟨x6.clear.res hW,ak2⟩
  have sT:SameT S S2:=(SameT.mc S t (qI (acts t))).trans λt' x' hx'=>⟨x',by rw[f2,hS1]at hx';exact hx',rfl,rfl⟩
  have hok2:okR S2 w=true:=by rw[<-hok,hS2];rfl
  have hex:w.what=1->w.ex=false:=λe=>six2 (by omega)
  obtain⟨v7,m7,A7,c1,k7⟩:=do_c N x6.mb x6.hp (hE.call k06 sT) (by rw[hS2,hS1];exact hK.pi.next t) ht2 q3 hw.symm B6 hok2 hex
  have kk:RR 88 m m7 A S A7 (kz acts t S):=by rw[hpick];exact RR.trans hm h k06 k7
  rw[hgl]at e2 c1
  have he:eqN Xj true (.func (.func g) ⟨[]⟩ ⟨l⟩) .nilFunc=some false:=rfl
  simp[-jo,he,t0,t8,r0,lb0,ixt,lt0,e1,e2,r2,qC,na,a1,r3,hm4',b1,b2,c1]
  refine hQ _ _ _ kk ?_
  simp
end
end Go.Sx
namespace Go.Sx
open Go.Dx Go.Proofs
set_option maxRecDepth 10000
def shp (S:RS):List (Value × Nat):=S.ths.map λx=>(x.av,x.k)
theorem ZA {α β:Type}(g:α->β)(f:α->α)(h:∀x,g (f x)=g x)(l:List α)(i:Nat):(l.modify i f).map g=l.map g:=by
 refine List.ext_getElem? λj=>?_
 rw[qh4,qh4,List.getElem?_modify]
 cases l[j]? with
 | none=>rfl
 | some x=>by_cases e:i=j<;>simp[e,h]
theorem xV (S:RS)(t:Nat)(f:Ms->Ms):shp (mcS S t f)=shp S:=by
 unfold shp mcS
 exact ZA (λx:Tr=>(x.av,x.k)) (λx=>{ x with s:=f x.s }) (λ_=>rfl) _ _
theorem Jh (S:RS)(t:Nat)(e:Ev5):shp (evS S t e)=shp S:=by
 unfold shp evS dG evA
 exact ZA (λx:Tr=>(x.av,x.k)) (λx=>{ x with nums:=x.nums++[(S.ev.length:Int)] }) (λ_=>rfl) _ _
theorem shp_ex (S:RS)(t:Nat)(n:Int):shp (exA S t n)=shp S:=by
 unfold shp exA
 exact ZA (λx:Tr=>(x.av,x.k)) (λx=>{ x with ex:=n }) (λ_=>rfl) _ _
theorem qce (S:RS)(p:Int × Int):shp (rfA S p)=shp S:=rfl
theorem FQ (S:RS)(p:Int × Int):shp (rmwA S p)=shp S:=rfl
theorem FO (S:RS)(t:Int):shp (gX S t)=shp S:=rfl
theorem qcf (S:RS):shp (zw S)=shp S:=rfl
theorem qf9 (S:RS)(t:Nat)(v:U):shp (Qn S t v)=shp S:=rfl
theorem shp_co (S:RS)(c:Nat)(n:Int):shp (coA S c n)=shp S:=rfl
theorem qcc (S:RS)(c:Nat)(v:U)(n:Int):shp (dY S c v n)=shp S:=rfl
theorem bG (acts:List Ac)(t:Nat)(w:Wt)(S:RS):shp (jD acts t w S)=shp S:=by
 unfold jD
 simp only
 rw[xV]
 split
 .rw[shp_ex,qce,Jh]
 .rw[qce,Jh]
theorem dQ (acts:List Ac)(t:Nat)(w:Wt)(S:RS):shp (jg acts t w S)=shp S:=by
 unfold jg
 rw[xV,qcc,shp_co,Jh]
theorem shp_do (acts:List Ac)(t:Nat)(w:Wt)(S:RS):shp (doR acts t w S)=shp S:=by
 unfold doR
 simp only
 split
 .split
  .split
   .split
    .rw[FQ,dQ,xV,bG]
    .rw[FO,FQ,dQ,xV,bG]
   .rw[xV,bG]
  .rw[bG]
 .split
  .rw[dQ]
  .split
   .rw[xV,Jh]
   .split
    .rw[xV,qf9]
    .rfl
theorem qcd (acts:Nat->List Ac)(p:Int)(S:RS):shp (kz acts p S)=shp S:=by
 unfold kz
 simp only
 split
 .split
  .rw[shp_do,FO,qcf,xV]
  .rw[xV]
 .rfl
def wk (acts:Nat->List Ac)(l:List Int)(S:RS):RS:=l.foldl (λS p=>kz acts p S) S
theorem vq (acts:Nat->List Ac):∀(l:List Int) (S:RS),shp (wk acts l S)=shp S
 | [],S=>rfl
 | p::l,S=>by
  show shp (wk acts l (kz acts p S))=_
  rw[vq acts l,qcd]
theorem Yo (acts:Nat->List Ac){l:List Int}{i:Nat}{p:Int}(h:l[i]?=some p)(S:RS):wk acts (l.take (i+1)) S=kz acts p (wk acts (l.take i) S):=by
 unfold wk
 rw[List.take_add_one,h,List.foldl_append];rfl
variable [Cdf]
theorem WQ {S S':RS}(h:shp S'=shp S):SameT S S':=λt x' hx'=>by
 have e:(shp S')[t]?=(shp S)[t]?:=by rw[h]
 unfold shp at e
 rw[qh4,qh4,hx']at e
 cases hx:S.ths[t]? with
 | none=>rw[hx]at e;simp at e
 | some x =>
  rw[hx]at e
  simp at e
  exact⟨x,rfl,e.1,e.2⟩
theorem Ji {S S':RS}(h:shp S'=shp S):S'.ths.length=S.ths.length:=by
 have:=congrArg List.length h
 simpa [shp]using this
section
variable {m0 m m':M}{W:List Nat}{A A':Nm->Nat}{S S':RS}{acts:Nat->List Ac}{cells:Int}
theorem intRd {pv:Value}{l:List Int}(h:Rd m pv 1 intRow l){i:Nat}{p:Int}(hi:l[i]?=some p):wZ 1 pv (iv i)=some (.pointer (some (adr 1 pv i)))/\∀m'',Sees m m''->load1 m'' (adr 1 pv i)=some (iv p):=Rd.at1 (g:=λ(x:Int)=>iv x) h hi
theorem play_c (N:Nat)(hm:m.base<=m.n)(h:RH 88 m A S)(hE:TE 88 m A S acts){picks:List Int}{pv:Value}(hp:Rd m pv 1 intRow picks)(hpl:∀B,blk pv=some B->¬yk A (qo 88 A S) B)(hlen:picks.length<=4611686018427387904)(fuel:Int)
  (hK:∀i,i<=picks.length->OKS (wk acts (picks.take i) S) acts cells/\(i<picks.length->((wk acts (picks.take i) S).used:Int)<fuel)) :
  ∃m' A',(ex Tryz.prog (N+7)).f 28 [mP (A .run),pv,iv fuel] m=some (iv 0,m')/\RR 88 m m' A S A' (wk acts picks S):=by
 suffices H:∃v m',(ex Tryz.prog (N+7)).f 28 [mP (A .run),pv,iv fuel] m=some (v,m')/\v=iv 0/\∃A',RR 88 m m' A S A' (wk acts picks S) by
  obtain⟨v,m',a1,rfl,A',a2⟩:=H
  exact⟨m',A',a1,a2⟩
 refine wO (Q:=λv m'=>v=iv 0/\∃A',RR 88 m m' A S A' (wk acts picks S)) dc3_ok (by simp) ?_
 have hpn:=hp.len
 simp[hpn]
 refine qR (c:=DL) rfl (xY _) (λi τ m'=>Tm.get 0 τ=mP (A .run)/\Tm.get 2 τ=iv fuel/\Tm.get 10 τ=pv/\Tm.get 11 τ=iv picks.length/\Tm.get 12 τ=iv i/\∃A',RR 88 m m' A S A' (wk acts (picks.take i) S)) picks.length (by omega)
  ⟨by simp,by simp,by simp,by simp,by simp,A,RR.refl h hm⟩ (λi τ m' K hi hI hk=>?_)
 obtain⟨t0,t2,t10,t11,t12,A1,k1⟩:=hI
 obtain⟨S1,hS1⟩:=qhd (wk acts (picks.take i) S)
 rw[<-hS1]at k1
 obtain⟨Wl,hW,x0⟩:=h.start hm
 have x1:=RX.call x0 k1
 have r1:=RX.run x1
 simp only[qq,k1.ak.run]at r1
 obtain⟨K1,K2⟩:=hK i hi
 rw[<-hS1]at K1 K2
 have hle:=Zs (A1 .ev) 5 S1.ev.length
 have hlt:=Zs (A1 .tb) 1 S1.ths.length
 have dev:¬((256:Int)<(S1.ev.length:Int)):=by have:=K1.ev;omega
 by_cases hil:i<picks.length
 .obtain⟨p,hpi⟩:∃p,picks[i]?=some p:=⟨_,qgn hil⟩
  have hp1:Rd m' pv 1 intRow picks:=by
   obtain⟨Wm,hl,hmc⟩:=k1.nr.mc
   exact hp.congr hmc.n λB hB=>hmc.obj B (hp.lt B hB) λhc=>hpl B hB (hl B hc)
  obtain⟨i1,i2⟩:=intRd hp1 hpi
  have i2':load1 m' (adr 1 pv i)=some (iv p):=i2 m' (Sees.refl x1.mb)
  have d1:((i:Int)<(picks.length:Int))=True:=eq_true (by omega)
  have du:¬(fuel<=(S1.used:Int)):=by have:=K2 hil;omega
  have w1:=wL (i:=i) (by omega)
  have hs:=Yo acts hpi S
  rw[<-hS1]at hs
  by_cases hp0:p<0
  .have hpk:kz acts p S1=S1:=by unfold kz;rw[if_neg (by omega)]
   simp[t0,t2,t10,t11,t12,d1,i1,i2',r1,hle,dev,du,hp0,w1]
   exact hk hil _ _ ⟨by simp[t0],by simp[t2],by simp[t10],by simp[t11],by simp,A1,by rw[hs,hpk];exact k1⟩
  .by_cases hpn2:(S1.ths.length:Int)<=p
   .have hpk:kz acts p S1=S1:=by unfold kz;rw[if_neg (by omega)]
    simp[t0,t2,t10,t11,t12,d1,i1,i2',r1,hle,hlt,dev,du,hp0,hpn2,w1]
    exact hk hil _ _ ⟨by simp[t0],by simp[t2],by simp[t10],by simp[t11],by simp,A1,by rw[hs,hpk];exact k1⟩
   .obtain⟨t,rfl⟩:∃t:Nat,p=t:=⟨p.toNat,by omega⟩
    obtain⟨x,hx⟩:∃x,S1.ths[t]?=some x:=⟨_,qgn (by omega)⟩
    have E1:=hE.call k1 (by rw[hS1];exact WQ (vq acts _ S))
    simp[-Gr,t0,t2,t10,t11,t12,d1,i1,i2',r1,hle,hlt,dev,du,hp0,hpn2,w1]
    refine pick_c N x1.mb x1.hp E1 K1 hx (xY _) _ _ _ _ (by simp[t0,k1.ak.run]) (by simp) λτ' m2 A2 k2 hτ=>?_
    obtain⟨g0,g2,g10,g11,g12⟩:=hτ
    simp[t0,t2,t10,t11,t12]at g0 g2 g10 g11 g12
    simp[g12,w1]
    exact hk hil _ _ ⟨by simp[g0],by simp[g2],by simp[g10],by simp[g11],by simp,A2,by rw[hs];exact RR.trans hm h k1 k2⟩
 .obtain rfl:i=picks.length:=by omega
  rw[List.take_length]at hS1
  simp[t0,t11,t12,r1,hle,dev]
  exact zu ⟨by simp,A1,by rw[<-hS1];exact k1⟩
end
end Go.Sx
