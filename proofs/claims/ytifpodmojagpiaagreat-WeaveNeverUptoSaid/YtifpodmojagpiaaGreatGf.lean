/- Contracts. -/
import Derived.Test.YtifpodmojagpiaaGreatGe
import Derived.Test.YtifpodmojagpiaaGreatGb2
set_option linter.unusedVariables false
set_option linter.unusedSimpArgs false
set_option linter.defProp false
set_option linter.unusedSectionVars false
namespace Go.Sx
open Go.Dx Go.Proofs
set_option maxRecDepth 10000
structure Wt where
 what:Int
 loc:Int
 mode:Int
 val:U
 ex:Bool
def wtL (w:Wt):List Value:=[iv w.what,iv w.loc,iv w.mode,uv w.val.1,.bool w.ex,.bool false]
def u0:U:=⟨0,by omega⟩
def wt0:Wt:=⟨0,0,0,u0,false⟩
structure Ms where
 at_:Nat
 ls:List U
 now:Wt
 asked:Bool
 old:U
 opn:Bool
def lsR (ls:List U):List Value:=ls.map λu=>uv u.1
theorem qb1 (ls:List U):ls.flatMap vX=lsR ls:=by
 unfold lsR
 induction ls with
 | nil=>rfl
 | cons u ls ih=>rw[List.flatMap_cons,ih];rfl
class Cdf where
 cd:Nat
variable [Cdf]
def lvV (Lb k:Nat):Value:=.slice (some ⟨Lb,0,some Cdf.cd⟩) k k
def qF (k:Nat)(av lv:Value)(s:Ms):List Value:=[iv k,av,iv s.at_,lv,iv s.now.what,iv s.now.loc,iv s.now.mode,uv s.now.val.1,.bool s.now.ex,.bool false,.bool s.asked,uv s.old.1,.bool s.opn]
theorem rd_ls {m:M}{Lb:Nat}{ls:List U}(h:Arr m Lb (lsR ls))(hB:Lb<m.n):Rd m (lvV Lb ls.length) 1 vX ls:=by
 rw[<-qb1]at h
 exact xJ (f:=vX) (λ_=>rfl) h hB
def jk (ls:List U)(es:List Nd):U:=⟨dV ls es (es.length-1),Jm _ _ _⟩
def gW (ls:List U)(a:Ac):Int:=if a.size=0 then a.base else a.base+(((jk ls a.ixs).1 &&& (a.size.toNat-1):Nat):Int)
def rdM (m:Int):Int:=if m=2 then 2 else if m=4 then 2 else if m=5 then 5 else 1
def wrM (m:Int):Int:=if m=3 then 3 else if m=4 then 3 else if m=5 then 5 else 1
def addU (u v:U):U:=⟨(u.1+v.1)%18446744073709551616,Nat.mod_lt _ (by omega)⟩
structure AcG (k na:Nat)(cells:Int)(a:Ac):Prop where
 op:1<=a.op/\a.op<=10
 may:jF a.op a.mode=true
 dst:gL (pD a.op) k a.dst=true
 pl:plB (pP a.op) cells k a=true
 es:esB (pE a.op) (pF a.op) k a=true
 to:toB (pT a.op) na a.to=true
theorem Df {k na:Nat}{cells:Int}{a:Ac}(h:bN cells k na a=true):AcG k na cells a:=by
 unfold bN at h
 simp only[qgt,decide_eq_true_eq]at h
 exact⟨h.1,h.2.1,h.2.2.1,h.2.2.2.1,h.2.2.2.2.1,h.2.2.2.2.2⟩
theorem AcG.e {k na:Nat}{cells:Int}{a:Ac}(h:AcG k na cells a)(he:pE a.op=true):wU k a.es=true:=by
 have:=h.es
 unfold esB at this
 simp only[qgt]at this
 have h2:=this.1.2
 rw[he]at h2
 simpa using h2
theorem AcG.f {k na:Nat}{cells:Int}{a:Ac}(h:AcG k na cells a)(he:pF a.op=true):wU k a.fs=true:=by
 have:=h.es
 unfold esB at this
 simp only[qgt]at this
 have h2:=this.2
 rw[he]at h2
 simpa using h2
theorem AcG.p {k na:Nat}{cells:Int}{a:Ac}(h:AcG k na cells a)(he:pP a.op=true):jL cells k a=true:=by
 have:=h.pl
 unfold plB at this
 rw[he]at this
 simpa using this
theorem AcG.d {k na:Nat}{cells:Int}{a:Ac}(h:AcG k na cells a)(he:pD a.op=true):0<=a.dst/\a.dst<k:=by
 have:=h.dst
 unfold gL at this
 rw[he]at this
 simpa using this
theorem AcG.t {k na:Nat}{cells:Int}{a:Ac}(h:AcG k na cells a)(he:pT a.op=true):0<=a.to/\a.to<=na:=by
 have:=h.to
 unfold toB at this
 rw[he]at this
 simpa using this
theorem xL {k:Nat}{ls:List U}(hk:ls.length=k){e:List Nd}{ed ld:Value}(he:wU k e=true)(N:Nat)(m:M)(hm:m.base<=m.n)(hed:Rd m ed 4 qP e)(hld:Rd m ld 1 vX ls) :
  CallV (ex Tryz.prog (N+3)) 135 [ed,ld] m (uv (jk ls e).1):=by
 obtain⟨x1,x2,x3⟩:=dc he
 exact qfj ls e ed ld x2 x1 (by rw[hk];exact x3) N m hm hed hld
structure MsAt (m:M)(Mb Lb:Nat)(k:Nat)(av:Value)(s:Ms):Prop where
 row:Arr m Mb (qF k av (lvV Lb k) s)
 ls:Arr m Lb (lsR s.ls)
 len:s.ls.length=k
 mb:Mb<m.n
 lb:Lb<m.n
theorem MsAt.rd {m:M}{Mb Lb k:Nat}{av:Value}{s:Ms}(h:MsAt m Mb Lb k av s):Rd m (lvV Lb k) 1 vX s.ls:=by
 have:=rd_ls h.ls h.lb
 rwa [h.len]at this
theorem MsAt.congr {m m':M}{Mb Lb k:Nat}{av:Value}{s:Ms}(h:MsAt m Mb Lb k av s)(hn:m.n<=m'.n)(h1:m'.obj Mb=m.obj Mb)(h2:m'.obj Lb=m.obj Lb):MsAt m' Mb Lb k av s :=
 ⟨h.row.congr h1,h.ls.congr h2,h.len,qgs h.mb hn,qgs h.lb hn⟩
theorem MsAt.ext {m m':M}{Mb Lb k:Nat}{av:Value}{s:Ms}(h:MsAt m Mb Lb k av s)(e:Ext m m'):MsAt m' Mb Lb k av s:=h.congr e.n (e.obj _ h.mb) (e.obj _ h.lb)
theorem MsAt.any {m:M}{Mb Lb k:Nat}{av:Value}{s:Ms}(h:MsAt m Mb Lb k av s):MsAt (qc m) Mb Lb k av s:=h.congr (by rw[qt];exact qgq _) (qm _ _) (qm _ _)
theorem MsAt.l1 {m:M}{Mb Lb k:Nat}{av:Value}{s:Ms}(h:MsAt m Mb Lb k av s):∀o s',load1 m ⟨Mb,o,s'⟩=(qF k av (lvV Lb k) s)[o]?:=λo s'=>h.row.load1 o s'
abbrev mP (Mb:Nat):Value:=.pointer (some ⟨Mb,0,none⟩)
theorem Bq (n:Nat){mode:Int}(h1:1<=mode)(h2:mode<=5)(m:M):CallV (ex Tryz.prog (n+1)) 150 [iv mode] m (iv (rdM mode)):=by
 refine qy dh5_ok (by simp) ?_
 have b:qW [zI,zI,zI,zI,zI,zI] [(1,1,.int .i64 1),(2,1,.int .i64 2),(3,1,.int .i64 1),(4,1,.int .i64 2),(5,1,.int .i64 5)]=some (.agg ⟨[zI,.int .i64 1,.int .i64 2,.int .i64 1,.int .i64 2,.int .i64 5]⟩):=rfl
 have key:fT 6 false 1 (.agg ⟨[zI,.int .i64 1,.int .i64 2,.int .i64 1,.int .i64 2,.int .i64 5]⟩) (.int .i64 mode)=some (iv (rdM mode)):=by
  rcases (by omega:mode=1\/mode=2\/mode=3\/mode=4\/mode=5) with rfl | rfl | rfl | rfl | rfl<;>rfl
 simp[b,yZ,key]
 exact qp (Ext.refl m) (by simp)
theorem BE (n:Nat){mode:Int}(h1:1<=mode)(h2:mode<=5)(m:M):CallV (ex Tryz.prog (n+1)) 151 [iv mode] m (iv (wrM mode)):=by
 refine qy dh6_ok (by simp) ?_
 have b:qW [zI,zI,zI,zI,zI,zI] [(1,1,.int .i64 1),(2,1,.int .i64 1),(3,1,.int .i64 3),(4,1,.int .i64 3),(5,1,.int .i64 5)]=some (.agg ⟨[zI,.int .i64 1,.int .i64 1,.int .i64 3,.int .i64 3,.int .i64 5]⟩):=rfl
 have key:fT 6 false 1 (.agg ⟨[zI,.int .i64 1,.int .i64 1,.int .i64 3,.int .i64 3,.int .i64 5]⟩) (.int .i64 mode)=some (iv (wrM mode)):=by
  rcases (by omega:mode=1\/mode=2\/mode=3\/mode=4\/mode=5) with rfl | rfl | rfl | rfl | rfl<;>rfl
 simp[b,yZ,key]
 exact qp (Ext.refl m) (by simp)
theorem qby {cells:Int}{k:Nat}{a:Ac}(h:jL cells k a=true):0<=a.size/\a.size<=1024/\0<=a.base/\a.base<=cells/\(a.size=0\/wU k a.ixs=true):=by
 unfold jL at h
 simp only[qgt,decide_eq_true_eq]at h
 refine⟨h.1.1.1.1,h.1.1.1.2,h.1.2.1,by have:=h.1.2.2;omega,?_⟩
 by_cases h0:a.size=0
 .exact .inl h0
 .have:=h.2
  rw[if_neg h0]at this
  exact .inr this
theorem qay (k:Nat){cells:Int}(hc:cells<=4096)(a:Ac)(hpl:jL cells k a=true)(av:Value)(s:Ms)(Mb Lb:Nat)(N:Nat)(m:M)(hm:m.base<=m.n)(hM:MsAt m Mb Lb k av s)(ha:AcOK m a) :
  CallV (ex Tryz.prog (N+4)) 149 [mP Mb,.agg ⟨qd a⟩] m (iv (gW s.ls a)):=by
 refine qy dh4_ok (by simp) ?_
 obtain⟨p1,p2,p3,p4,p5⟩:=qby hpl
 have st1:=(St.nil hm (Ext.refl m)).row (qd a)
 obtain⟨m1,hm1⟩:=qhd (Dx.newRow m (qd a))
 rw[<-hm1]at st1
 have la:∀o s,load1 m1 ⟨m.n,o,s⟩=(qd a)[o]?:=λo s=>(st1.get 0 rfl).2.2.load1 o s
 have hM1:=hM.ext st1.ext
 have lM:=hM1.l1
 have ha1:=ha.sees st1.sees
 simp only[qd]at la
 simp only[qF]at lM
 by_cases h0:a.size=0
 .have hl:gW s.ls a=a.base:=if_pos h0
  have d0:decide (a.size=0)=true:=decide_eq_true h0
  rw[hl]
  simp[<-hm1,la,d0]
  exact qp st1.ext (by simp)
 .have d0:decide (a.size=0)=false:=decide_eq_false h0
  have he:wU k a.ixs=true:=by rcases p5 with h | h;exact absurd h h0;exact h
  obtain⟨z,hz⟩:∃z:Nat,a.size=((z+1:Nat):Int):=⟨a.size.toNat-1,by omega⟩
  have hzz:a.size.toNat-1=z:=by omega
  obtain⟨v3,m3',c1,c2,c3,rfl⟩:=wq (xL hM.len he (N) (qc m1) (qB st1.sees).base (ha.ix.sees (qB st1.sees)) hM1.any.rd)
  obtain⟨m3,hm3⟩:=qhd (behind m1 m3')
  rw[<-hm3]at c3
  have st3:=st1.step c3
  have la3:∀o s,load1 m3 ⟨m.n,o,s⟩=(qd a)[o]?:=λo s=>(st3.get 0 rfl).2.2.load1 o s
  simp only[qd]at la3
  obtain⟨w,hw⟩:=qhd (jk s.ls a.ixs)
  rw[<-hw]at c1
  have q1:zh .sub (.int .i64 a.size) (.int .i64 1)=some (.int .i64 (z:Int)):=by rw[qY,hz,wrap64 _ (by omega) (by omega)];congr 2;omega
  have q2:=vd z (by omega)
  have q3:=qcz (a:=w.1) (b:=z) w.2 (by omega)
  obtain⟨r,hr⟩:=qhd (w.1 &&& z)
  have hrz:r<=z:=by rw[hr];exact Nat.and_le_right
  rw[<-hr]at q3
  have q4:bZ .i64 (.int .u64 (r:Int))=some (.int .i64 (r:Int)):=by
   show some (Value.int .i64 (vv .i64 (r:Int)))=_
   rw[zD,wrap64 _ (by omega) (by omega)]
  have q5:zh .add (.int .i64 a.base) (.int .i64 (r:Int))=some (.int .i64 (a.base+r)):=by rw[qC,wrap64 _ (by omega) (by omega)]
  have hl:gW s.ls a=a.base+(r:Int):=by unfold gW;rw[if_neg h0,<-hw,hzz,hr]
  rw[hl]
  simp[-qY,-qC,<-hm1,la,d0,lM,c1,c2,la3,q1,q2,q3,q4,q5,<-hm3]
  exact qp st3.ext (by simp)
end Go.Sx
namespace Go.Sx
open Go.Dx Go.Proofs
set_option maxRecDepth 10000
variable [Cdf]
def qU (s:Ms)(a:Ac):Wt :=
 if a.op=2 then ⟨1,gW s.ls a,a.mode,u0,false⟩
 else if a.op=3 then ⟨2,gW s.ls a,a.mode,jk s.ls a.es,false⟩
 else if a.op=7 then ⟨3,0,a.mode,u0,false⟩
 else if a.op=8 then ⟨4,0,0,jk s.ls a.es,false⟩
 else if s.opn then ⟨2,gW s.ls a,wrM a.mode,(if a.op=5 then addU (jk s.ls a.es) s.old else if a.op=6 then jk s.ls a.fs else jk s.ls a.es),true⟩
 else ⟨1,gW s.ls a,rdM a.mode,u0,true⟩
abbrev Z6:List Value:=[zI,zI,zI,zU,.bool false,.bool false]
theorem w_load (x y:Int):qW Z6 [(0,1,.int .i64 1),(1,1,.int .i64 x),(2,1,.int .i64 y)]=some (.agg ⟨[.int .i64 1,.int .i64 x,.int .i64 y,zU,.bool false,.bool false]⟩):=rfl
theorem qfm (x y:Int)(z:Int):qW Z6 [(0,1,.int .i64 2),(1,1,.int .i64 x),(2,1,.int .i64 y),(3,1,.int .u64 z)]=some (.agg ⟨[.int .i64 2,.int .i64 x,.int .i64 y,.int .u64 z,.bool false,.bool false]⟩):=rfl
theorem qfk (y:Int):qW Z6 [(0,1,.int .i64 3),(2,1,.int .i64 y)]=some (.agg ⟨[.int .i64 3,zI,.int .i64 y,zU,.bool false,.bool false]⟩):=rfl
theorem qfl (z:Int):qW Z6 [(0,1,.int .i64 4),(3,1,.int .u64 z)]=some (.agg ⟨[.int .i64 4,zI,zI,.int .u64 z,.bool false,.bool false]⟩):=rfl
theorem Jp (x y:Int):qW Z6 [(0,1,.int .i64 1),(1,1,.int .i64 x),(2,1,.int .i64 y),(4,1,.bool true)]=some (.agg ⟨[.int .i64 1,.int .i64 x,.int .i64 y,zU,.bool true,.bool false]⟩):=rfl
theorem Jo:qW Z6 []=some (.agg ⟨Z6⟩):=rfl
section
variable {k na:Nat}{cells:Int}{a:Ac}{av:Value}{s:Ms}{Mb Lb:Nat}{m:M}
theorem load_c (hc:cells<=4096)(hg:AcG k na cells a)(hop:a.op=2)(N:Nat)(hm:m.base<=m.n)(hM:MsAt m Mb Lb k av s)(ha:AcOK m a) :
  CallV (ex Tryz.prog (N+5)) 141 [mP Mb,.agg ⟨qd a⟩] m (.agg ⟨wtL (qU s a)⟩):=by
 refine qy dg6_ok (by simp) ?_
 have st1:=(St.nil hm (Ext.refl m)).row (qd a)
 obtain⟨m1,hm1⟩:=qhd (Dx.newRow m (qd a))
 rw[<-hm1]at st1
 have st2:=st1.row Z6
 obtain⟨m2,hm2⟩:=qhd (Dx.newRow m1 Z6)
 rw[<-hm2]at st2
 have l11:loads m2 ⟨m.n,0,none⟩ 11=some (qd a):=(st2.get 1 rfl).2.2.loads (n:=11) (by simp[qd])
 obtain⟨v3,m3',c1,c2,c3,rfl⟩:=wq (qay k hc a (hg.p (by rw[hop];rfl)) av s Mb Lb N (qc m2) (qB st2.sees).base (hM.ext st2.ext).any (ha.sees (qB st2.sees)))
 obtain⟨m3,hm3⟩:=qhd (behind m2 m3')
 rw[<-hm3]at c3
 have st3:=st2.step c3
 have la3:∀o s,load1 m3 ⟨m.n,o,s⟩=(qd a)[o]?:=λo s=>(st3.get 1 rfl).2.2.load1 o s
 simp only[qd]at la3
 obtain⟨x,hx⟩:=qhd (gW s.ls a)
 have hw:qU s a=⟨1,x,a.mode,u0,false⟩:=by unfold qU;rw[if_pos hop,hx]
 rw[hw]
 rw[<-hx]at c1
 have hz:wtL ⟨1,x,a.mode,u0,false⟩=[.int .i64 1,.int .i64 x,.int .i64 a.mode,zU,.bool false,.bool false]:=rfl
 rw[hz]
 obtain⟨m4',w1,w2,w3,w4,w5⟩:=st3.fillAny 0 rfl (n:=6) (l':=[.int .i64 1,.int .i64 x,.int .i64 a.mode,zU,.bool false,.bool false]) (by omega) rfl rfl (by simp[okC])
 obtain⟨m4,hm4⟩:=qhd (behind m3 m4')
 rw[<-hm4]at w3
 have lf:loads m4 ⟨m1.n,0,none⟩ 6=some _:=(w3.get 0 rfl).2.2.loads (n:=6) (by simp)
 simp[<-hm1,<-hm2,l11,qe,c1,c2,<-hm3,la3,w_load,w1,<-hm4]
 exact zn (a:=⟨m1.n,0,none⟩) (by simp) lf w3.ext rfl
theorem qfe (hc:cells<=4096)(hg:AcG k na cells a)(hop:a.op=3)(N:Nat)(hm:m.base<=m.n)(hM:MsAt m Mb Lb k av s)(ha:AcOK m a) :
  CallV (ex Tryz.prog (N+5)) 142 [mP Mb,.agg ⟨qd a⟩] m (.agg ⟨wtL (qU s a)⟩):=by
 refine qy dg7_ok (by simp) ?_
 have st1:=(St.nil hm (Ext.refl m)).row (qd a)
 obtain⟨m1,hm1⟩:=qhd (Dx.newRow m (qd a))
 rw[<-hm1]at st1
 have st2:=st1.row Z6
 obtain⟨m2,hm2⟩:=qhd (Dx.newRow m1 Z6)
 rw[<-hm2]at st2
 have l11:loads m2 ⟨m.n,0,none⟩ 11=some (qd a):=(st2.get 1 rfl).2.2.loads (n:=11) (by simp[qd])
 obtain⟨v3,m3',c1,c2,c3,rfl⟩:=wq (qay k hc a (hg.p (by rw[hop];rfl)) av s Mb Lb N (qc m2) (qB st2.sees).base (hM.ext st2.ext).any (ha.sees (qB st2.sees)))
 obtain⟨m3,hm3⟩:=qhd (behind m2 m3')
 rw[<-hm3]at c3
 have st3:=st2.step c3
 have la3:∀o s,load1 m3 ⟨m.n,o,s⟩=(qd a)[o]?:=λo s=>(st3.get 1 rfl).2.2.load1 o s
 simp only[qd]at la3
 have hM3:=hM.ext st3.ext
 have lM:=hM3.l1
 simp only[qF]at lM
 obtain⟨v4,m4',d1,d2,d3,rfl⟩:=wq (xL hM.len (hg.e (by rw[hop];rfl)) (N+1) (qc m3) (qB st3.sees).base (ha.ev.sees (qB st3.sees)) hM3.any.rd)
 obtain⟨m4,hm4⟩:=qhd (behind m3 m4')
 rw[<-hm4]at d3
 have st4:=st3.step d3
 obtain⟨x,hx⟩:=qhd (gW s.ls a)
 obtain⟨y,hy⟩:=qhd (jk s.ls a.es)
 have hw:qU s a=⟨2,x,a.mode,y,false⟩:=by unfold qU;rw[if_neg (by omega),if_pos hop,hx,hy]
 rw[hw]
 rw[<-hx]at c1
 rw[<-hy]at d1
 have hz:wtL ⟨2,x,a.mode,y,false⟩=[.int .i64 2,.int .i64 x,.int .i64 a.mode,.int .u64 y.1,.bool false,.bool false]:=rfl
 rw[hz]
 obtain⟨m5',w1,w2,w3,w4,w5⟩:=st4.fillAny 0 rfl (n:=6) (l':=[.int .i64 2,.int .i64 x,.int .i64 a.mode,.int .u64 y.1,.bool false,.bool false]) (by omega) rfl rfl (by simp[okC])
 obtain⟨m5,hm5⟩:=qhd (behind m4 m5')
 rw[<-hm5]at w3
 have lf:loads m5 ⟨m1.n,0,none⟩ 6=some _:=(w3.get 0 rfl).2.2.loads (n:=6) (by simp)
 simp[<-hm1,<-hm2,l11,qe,c1,c2,<-hm3,la3,lM,d1,d2,<-hm4,qfm,w1,<-hm5]
 exact zn (a:=⟨m1.n,0,none⟩) (by simp) lf w3.ext rfl
theorem qe3 (hop:a.op=7)(N:Nat)(hm:m.base<=m.n)(hM:MsAt m Mb Lb k av s) :
  CallV (ex Tryz.prog (N+1)) 144 [mP Mb,.agg ⟨qd a⟩] m (.agg ⟨wtL (qU s a)⟩):=by
 refine qy dg9_ok (by simp) ?_
 have st1:=(St.nil hm (Ext.refl m)).row (qd a)
 obtain⟨m1,hm1⟩:=qhd (Dx.newRow m (qd a))
 rw[<-hm1]at st1
 have st2:=st1.row Z6
 obtain⟨m2,hm2⟩:=qhd (Dx.newRow m1 Z6)
 rw[<-hm2]at st2
 have la:∀o s,load1 m2 ⟨m.n,o,s⟩=(qd a)[o]?:=λo s=>(st2.get 1 rfl).2.2.load1 o s
 simp only[qd]at la
 have hw:qU s a=⟨3,0,a.mode,u0,false⟩:=by unfold qU;rw[if_neg (by omega),if_neg (by omega),if_pos hop]
 rw[hw]
 have hz:wtL ⟨3,0,a.mode,u0,false⟩=[.int .i64 3,zI,.int .i64 a.mode,zU,.bool false,.bool false]:=rfl
 rw[hz]
 obtain⟨m5,w1,w3,w4,w5⟩:=st2.fill 0 rfl (n:=6) (l':=[.int .i64 3,zI,.int .i64 a.mode,zU,.bool false,.bool false]) rfl rfl (by simp[okC])
 have lf:loads m5 ⟨m1.n,0,none⟩ 6=some _:=(w3.get 0 rfl).2.2.loads (n:=6) (by simp)
 simp[<-hm1,<-hm2,la,qfk,w1]
 exact zn (a:=⟨m1.n,0,none⟩) (by simp) lf w3.ext rfl
theorem qew (hg:AcG k na cells a)(hop:a.op=8)(N:Nat)(hm:m.base<=m.n)(hM:MsAt m Mb Lb k av s)(ha:AcOK m a) :
  CallV (ex Tryz.prog (N+4)) 145 [mP Mb,.agg ⟨qd a⟩] m (.agg ⟨wtL (qU s a)⟩):=by
 refine qy dh0_ok (by simp) ?_
 have st1:=(St.nil hm (Ext.refl m)).row (qd a)
 obtain⟨m1,hm1⟩:=qhd (Dx.newRow m (qd a))
 rw[<-hm1]at st1
 have st2:=st1.row Z6
 obtain⟨m2,hm2⟩:=qhd (Dx.newRow m1 Z6)
 rw[<-hm2]at st2
 have la:∀o s,load1 m2 ⟨m.n,o,s⟩=(qd a)[o]?:=λo s=>(st2.get 1 rfl).2.2.load1 o s
 simp only[qd]at la
 have hM3:=hM.ext st2.ext
 have lM:=hM3.l1
 simp only[qF]at lM
 obtain⟨v4,m4',d1,d2,d3,rfl⟩:=wq (xL hM.len (hg.e (by rw[hop];rfl)) N (qc m2) (qB st2.sees).base (ha.ev.sees (qB st2.sees)) hM3.any.rd)
 obtain⟨m4,hm4⟩:=qhd (behind m2 m4')
 rw[<-hm4]at d3
 have st4:=st2.step d3
 obtain⟨y,hy⟩:=qhd (jk s.ls a.es)
 have hw:qU s a=⟨4,0,0,y,false⟩:=by unfold qU;rw[if_neg (by omega),if_neg (by omega),if_neg (by omega),if_pos hop,hy]
 rw[hw]
 rw[<-hy]at d1
 have hz:wtL ⟨4,0,0,y,false⟩=[.int .i64 4,zI,zI,.int .u64 y.1,.bool false,.bool false]:=rfl
 rw[hz]
 obtain⟨m5',w1,w2,w3,w4,w5⟩:=st4.fillAny 0 rfl (n:=6) (l':=[.int .i64 4,zI,zI,.int .u64 y.1,.bool false,.bool false]) (by omega) rfl rfl (by simp[okC])
 obtain⟨m5,hm5⟩:=qhd (behind m4 m5')
 rw[<-hm5]at w3
 have lf:loads m5 ⟨m1.n,0,none⟩ 6=some _:=(w3.get 0 rfl).2.2.loads (n:=6) (by simp)
 simp[<-hm1,<-hm2,la,lM,d1,d2,<-hm4,qfl,w1,<-hm5]
 exact zn (a:=⟨m1.n,0,none⟩) (by simp) lf w3.ext rfl
end
end Go.Sx
namespace Go.Sx
open Go.Dx Go.Proofs
set_option maxRecDepth 10000
variable [Cdf]
theorem qeb {op mode:Int}(ho:op=4\/op=5\/op=6)(h:jF op mode=true):1<=mode/\mode<=5:=by
 unfold jF at h
 rw[if_neg (by omega),if_neg (by omega),if_pos ho]at h
 exact of_decide_eq_true h
section
variable {k na:Nat}{cells:Int}{a:Ac}{av:Value}{s:Ms}{Mb Lb:Nat}{m:M}
theorem pair_c (hc:cells<=4096)(hg:AcG k na cells a)(hop:a.op=4\/a.op=5\/a.op=6)(N:Nat)(hm:m.base<=m.n)(hM:MsAt m Mb Lb k av s)(ha:AcOK m a) :
  CallV (ex Tryz.prog (N+5)) 143 [mP Mb,.agg ⟨qd a⟩] m (.agg ⟨wtL (qU s a)⟩):=by
 refine qy dg8_ok (by simp) ?_
 obtain⟨md1,md2⟩:=qeb hop hg.may
 have hpP:pP a.op=true:=by rcases hop with h | h | h<;>(rw[h];rfl)
 have hpE:pE a.op=true:=by rcases hop with h | h | h<;>(rw[h];rfl)
 have st1:=(St.nil hm (Ext.refl m)).row (qd a)
 obtain⟨m1,hm1⟩:=qhd (Dx.newRow m (qd a))
 rw[<-hm1]at st1
 have st2:=st1.row Z6
 obtain⟨m2,hm2⟩:=qhd (Dx.newRow m1 Z6)
 rw[<-hm2]at st2
 have l11:loads m2 ⟨m.n,0,none⟩ 11=some (qd a):=(st2.get 1 rfl).2.2.loads (n:=11) (by simp[qd])
 obtain⟨v3,m3',c1,c2,c3,rfl⟩:=wq (qay k hc a (hg.p hpP) av s Mb Lb N (qc m2) (qB st2.sees).base (hM.ext st2.ext).any (ha.sees (qB st2.sees)))
 obtain⟨m3,hm3⟩:=qhd (behind m2 m3')
 rw[<-hm3]at c3
 have st3:=st2.step c3
 have la3:∀o s,load1 m3 ⟨m.n,o,s⟩=(qd a)[o]?:=λo s=>(st3.get 1 rfl).2.2.load1 o s
 obtain⟨v4,m4',d1,d2,d3,rfl⟩:=wq (Bq (N+3) md1 md2 (qc m3))
 obtain⟨m4,hm4⟩:=qhd (behind m3 m4')
 rw[<-hm4]at d3
 have st4:=st3.step d3
 have st5:=st4.row Z6
 obtain⟨m5,hm5⟩:=qhd (Dx.newRow m4 Z6)
 rw[<-hm5]at st5
 obtain⟨x,hx⟩:=qhd (gW s.ls a)
 rw[<-hx]at c1
 obtain⟨y,hy⟩:=qhd (rdM a.mode)
 rw[<-hy]at d1
 obtain⟨m6',w1,w2,w3,w4,w5⟩:=st5.fillAny 0 rfl (n:=6) (l':=[.int .i64 1,.int .i64 x,.int .i64 y,zU,.bool true,.bool false]) (by omega) rfl rfl (by simp[okC])
 obtain⟨m6,hm6⟩:=qhd (behind m5 m6')
 rw[<-hm6]at w3
 have st6:St m m6 [(m4.n,[.int .i64 1,.int .i64 x,.int .i64 y,zU,.bool true,.bool false]),(m1.n,Z6),(m.n,qd a)]:=w3
 have hM6:=hM.ext st6.ext
 have lM:=hM6.l1
 simp only[qF]at lM
 simp only[qd]at la3
 cases ho:s.opn with
 | false =>
  rw[ho]at lM
  have hw:qU s a=⟨1,x,y,u0,true⟩:=by
   unfold qU
   rw[if_neg (by omega),if_neg (by omega),if_neg (by omega),if_neg (by omega),ho,hx,hy];rfl
  rw[hw]
  have hz:wtL ⟨1,x,y,u0,true⟩=[.int .i64 1,.int .i64 x,.int .i64 y,zU,.bool true,.bool false]:=rfl
  rw[hz]
  have l6:loads m6 ⟨m4.n,0,none⟩ 6=some _:=(st6.get 0 rfl).2.2.loads (n:=6) (by simp)
  obtain⟨m7,x1,x2,x3,x4⟩:=st6.fill 1 rfl (n:=6) (l':=[.int .i64 1,.int .i64 x,.int .i64 y,zU,.bool true,.bool false]) rfl rfl (by simp[okC])
  have lf:loads m7 ⟨m1.n,0,none⟩ 6=some _:=(x2.get 1 rfl).2.2.loads (n:=6) (by simp)
  simp[<-hm1,<-hm2,l11,qe,c1,c2,<-hm3,la3,d1,d2,<-hm4,Jp,<-hm5,w1,<-hm6,lM,l6,x1]
  exact zn (a:=⟨m1.n,0,none⟩) (by simp) lf x2.ext rfl
 | true =>
  rw[ho]at lM
  have la6:∀o s,load1 m6 ⟨m.n,o,s⟩=(qd a)[o]?:=λo s=>(st6.get 2 rfl).2.2.load1 o s
  simp only[qd]at la6
  obtain⟨v7,m7',e1,e2,e3,rfl⟩:=wq (BE (N+3) md1 md2 (qc m6))
  obtain⟨m7,hm7⟩:=qhd (behind m6 m7')
  rw[<-hm7]at e3
  have st7:=st6.step e3
  have la7:∀o s,load1 m7 ⟨m.n,o,s⟩=(qd a)[o]?:=λo s=>(st7.get 2 rfl).2.2.load1 o s
  simp only[qd]at la7
  have hM7:=hM.ext st7.ext
  have lM7:=hM7.l1
  simp only[qF]at lM7
  obtain⟨v8,m8',f1,f2,f3,rfl⟩:=wq (xL hM.len (hg.e hpE) (N+1) (qc m7) (qB st7.sees).base (ha.ev.sees (qB st7.sees)) hM7.any.rd)
  obtain⟨m8,hm8⟩:=qhd (behind m7 m8')
  rw[<-hm8]at f3
  have st8:=st7.step f3
  obtain⟨z,hz⟩:=qhd (wrM a.mode)
  rw[<-hz]at e1
  obtain⟨u,hu⟩:=qhd (jk s.ls a.es)
  rw[<-hu]at f1
  obtain⟨m9',g1,g2,g3,g4,g5⟩:=st8.storeAny 0 rfl (o:=0) (v:=.int .i64 2) (by simp) rfl
  obtain⟨m9,hm9⟩:=qhd (behind m8 m9')
  rw[<-hm9]at g3
  obtain⟨m10',i1,i2,i3,i4,i5⟩:=g3.storeAny 0 rfl (o:=2) (v:=.int .i64 z) (by simp) rfl
  obtain⟨m10,hm10⟩:=qhd (behind m9 m10')
  rw[<-hm10]at i3
  obtain⟨m11',j1,j2,j3,j4,j5⟩:=i3.storeAny 0 rfl (o:=3) (v:=uv u.1) (by simp) rfl
  obtain⟨m11,hm11⟩:=qhd (behind m10 m11')
  rw[<-hm11]at j3
  have st11:St m m11 [(m4.n,[.int .i64 2,.int .i64 x,.int .i64 z,uv u.1,.bool true,.bool false]),(m1.n,Z6),(m.n,qd a)]:=j3
  have la11:∀o s,load1 m11 ⟨m.n,o,s⟩=(qd a)[o]?:=λo s=>(st11.get 2 rfl).2.2.load1 o s
  have l5:∀o s,load1 m11 ⟨m4.n,o,s⟩=_:=λo s=>(st11.get 0 rfl).2.2.load1 o s
  simp only[qd]at la11
  have hM11:=hM.ext st11.ext
  have lM11:=hM11.l1
  simp only[qF]at lM11
  have fin:∀(v:U) (mz:M),St m mz [(m4.n,[.int .i64 2,.int .i64 x,.int .i64 z,uv v.1,.bool true,.bool false]),(m1.n,Z6),(m.n,qd a)]->qU s a=⟨2,x,z,v,true⟩ ->
    ∃me,loads mz ⟨m4.n,0,none⟩ 6=some [.int .i64 2,.int .i64 x,.int .i64 z,uv v.1,.bool true,.bool false]/\wt 6 (.pointer (some ⟨m1.n,0,none⟩)) (.agg ⟨[.int .i64 2,.int .i64 x,.int .i64 z,uv v.1,.bool true,.bool false]⟩) mz=some (undef,me)/\loads me ⟨m1.n,0,none⟩ 6=some (wtL (qU s a))/\Ext m me:=λv mz hst hw=>by
   obtain⟨me,x1,x2,x3,x4⟩:=hst.fill 1 rfl (n:=6) (l':=[.int .i64 2,.int .i64 x,.int .i64 z,uv v.1,.bool true,.bool false]) rfl rfl (by simp[okC])
   refine⟨me,(hst.get 0 rfl).2.2.loads (n:=6) (by simp),x1,?_,x2.ext⟩
   rw[hw]
   exact (x2.get 1 rfl).2.2.loads (n:=6) (by simp)
  have hwant:qU s a=⟨2,x,z,(if a.op=5 then addU u s.old else if a.op=6 then jk s.ls a.fs else u),true⟩:=by
   unfold qU
   rw[if_neg (by omega),if_neg (by omega),if_neg (by omega),if_neg (by omega),ho,hx,hz,hu];rfl
  by_cases h5:a.op=5
  .have d5:decide (a.op=5)=true:=decide_eq_true h5
   rw[if_pos h5]at hwant
   have q:=u_add u.1 s.old.1
   obtain⟨t,ht⟩:=qhd (addU u s.old)
   have q':zh .add (uv u.1) (uv s.old.1)=some (uv t.1):=by rw[q,ht];rfl
   obtain⟨m12',n1,n2,n3,n4,n5⟩:=st11.storeAny 0 rfl (o:=3) (v:=uv t.1) (by simp) rfl
   obtain⟨m12,hm12⟩:=qhd (behind m11 m12')
   rw[<-hm12]at n3
   obtain⟨me,y1,y2,y3,y4⟩:=fin t m12 n3 (by rw[hwant,ht])
   simp[-qC,<-hm1,<-hm2,l11,qe,c1,c2,<-hm3,la3,d1,d2,<-hm4,Jp,<-hm5,w1,<-hm6,lM,la6,e1,e2,<-hm7,la7,lM7,f1,f2,<-hm8,g1,<-hm9,i1,<-hm10,j1,<-hm11,la11,d5,l5,lM11,q',n1,<-hm12,y1,y2]
   exact zn (a:=⟨m1.n,0,none⟩) (by simp) y3 y4 rfl
  .have d5:decide (a.op=5)=false:=decide_eq_false h5
   rw[if_neg h5]at hwant
   by_cases h6:a.op=6
   .have d6:decide (a.op=6)=true:=decide_eq_true h6
    rw[if_pos h6]at hwant
    obtain⟨v12,m12',n1,n2,n3,rfl⟩:=wq (xL hM.len (hg.f (by rw[h6];rfl)) (N+1) (qc m11) (qB st11.sees).base (ha.fv.sees (qB st11.sees)) hM11.any.rd)
    obtain⟨m12,hm12⟩:=qhd (behind m11 m12')
    rw[<-hm12]at n3
    have st12:=st11.step n3
    obtain⟨t,ht⟩:=qhd (jk s.ls a.fs)
    rw[<-ht]at n1
    obtain⟨m13',o1,o2,o3,o4,o5⟩:=st12.storeAny 0 rfl (o:=3) (v:=uv t.1) (by simp) rfl
    obtain⟨m13,hm13⟩:=qhd (behind m12 m13')
    rw[<-hm13]at o3
    obtain⟨me,y1,y2,y3,y4⟩:=fin t m13 o3 (by rw[hwant,ht])
    simp[-qC,<-hm1,<-hm2,l11,qe,c1,c2,<-hm3,la3,d1,d2,<-hm4,Jp,<-hm5,w1,<-hm6,lM,la6,e1,e2,<-hm7,la7,lM7,f1,f2,<-hm8,g1,<-hm9,i1,<-hm10,j1,<-hm11,la11,d5,d6,l5,lM11,n1,<-hm12,o1,<-hm13,y1,y2]
    exact zn (a:=⟨m1.n,0,none⟩) (by simp) y3 y4 rfl
   .have d6:decide (a.op=6)=false:=decide_eq_false h6
    rw[if_neg h6]at hwant
    obtain⟨me,y1,y2,y3,y4⟩:=fin u m11 st11 hwant
    simp[-qC,<-hm1,<-hm2,l11,qe,c1,c2,<-hm3,la3,d1,d2,<-hm4,Jp,<-hm5,w1,<-hm6,lM,la6,e1,e2,<-hm7,la7,lM7,f1,f2,<-hm8,g1,<-hm9,i1,<-hm10,j1,<-hm11,la11,d5,d6,y1,y2]
    exact zn (a:=⟨m1.n,0,none⟩) (by simp) y3 y4 rfl
end
end Go.Sx
namespace Go.Sx
open Go.Dx Go.Proofs
set_option maxRecDepth 10000
variable [Cdf]
def setS (s:Ms)(a:Ac):Ms:={ s with ls:=s.ls.set a.dst.toNat (jk s.ls a.es),at_:=s.at_+1 }
def JX (s:Ms)(a:Ac):Ms:={ s with at_:=a.to.toNat }
def Qi (s:Ms)(a:Ac):Ms:={ s with at_:=if (jk s.ls a.es).1=0 then a.to.toNat else s.at_+1 }
theorem Qz (ls:List U)(i:Nat)(u:U):(lsR ls).set i (uv u.1)=lsR (ls.set i u):=by unfold lsR;rw[List.map_set]
theorem gY (ls:List U):(lsR ls).length=ls.length:=by unfold lsR;simp
structure AcAp (Mb Lb:Nat)(a:Ac):Prop where
 ix:∀B,blk a.ix=some B->B ∉ [Mb,Lb]
 ev:∀B,blk a.ev=some B->B ∉ [Mb,Lb]
 fv:∀B,blk a.fv=some B->B ∉ [Mb,Lb]
section
variable {k na:Nat}{cells:Int}{a:Ac}{av:Value}{s:Ms}{Mb Lb:Nat}{m m':M}
abbrev msS (Mb Lb k:Nat)(av:Value)(s:Ms):List (Nat × List Value):=[(Mb,qF k av (lvV Lb k) s),(Lb,lsR s.ls)]
theorem MsAt.ow (h:MsAt m Mb Lb k av s)(hne:Mb≠Lb)(hm:m.base<=m.n):Ow m m [Mb,Lb] (msS Mb Lb k av s) :=
 Ow.start hm (λp hp=>by
  rcases List.mem_cons.1 hp with rfl | hp
  .exact⟨by simp,h.mb,h.row⟩
  .rw[qgu.1 hp];exact⟨by simp,h.lb,h.ls⟩) (by simp[hne])
def WrC (x:Ex)(g:Nat)(args:List Value)(m:M)(Mb Lb k:Nat)(av:Value)(s':Ms)(v':Value):Prop :=
 ∃v m',x.f g args m=some (v,m')/\Mc m m' [Mb,Lb]/\MsAt m' Mb Lb k av s'/\v=v'
theorem Ow.msAt {m0:M}{σ:List (Nat × List Value)}(h:Ow m0 m [Mb,Lb] σ)(i j:Nat)(hi:σ[i]?=some (Mb,qF k av (lvV Lb k) s))(hj:σ[j]?=some (Lb,lsR s.ls))(hl:s.ls.length=k):MsAt m Mb Lb k av s :=
 ⟨(h.get i hi).2.2,(h.get j hj).2.2,hl,(h.get i hi).2.1,(h.get j hj).2.1⟩
theorem set_c (hg:AcG k na cells a)(hop:a.op=1)(N:Nat)(hm:m.base<=m.n)(hne:Mb≠Lb)(hM:MsAt m Mb Lb k av s)(hat:s.at_<9223372036854775807)(ha:AcOK m a) :
  WrC (ex Tryz.prog (N+4)) 140 [mP Mb,.agg ⟨qd a⟩] m Mb Lb k av (setS s a) (.agg ⟨Z6⟩):=by
 refine wO (Q:=λv m'=>Mc m m' [Mb,Lb]/\MsAt m' Mb Lb k av (setS s a)/\v=.agg ⟨Z6⟩) dg5_ok (by simp) ?_
 have ow0:=hM.ow hne hm
 have ow1:=ow0.row (qd a)
 obtain⟨m1,hm1⟩:=qhd (Dx.newRow m (qd a))
 rw[<-hm1]at ow1
 have ow2:=ow1.row Z6
 obtain⟨m2,hm2⟩:=qhd (Dx.newRow m1 Z6)
 rw[<-hm2]at ow2
 have la:∀o s,load1 m2 ⟨m.n,o,s⟩=(qd a)[o]?:=λo s=>(ow2.get 1 rfl).2.2.load1 o s
 simp only[qd]at la
 have e12:Ext m m2:=by rw[hm2,hm1];exact (Ext.row _ _).trans (Ext.row _ _)
 have hM2:=hM.ext e12
 have lM:=hM2.l1
 simp only[qF]at lM
 have S2:Sees m m2:=(Sees.refl hm).ext e12
 obtain⟨v4,m4',d1,d2,d3,rfl⟩:=wq (xL hM.len (hg.e (by rw[hop];rfl)) N (qc m2) (qB S2).base (ha.ev.sees (qB S2)) hM2.any.rd)
 obtain⟨m4,hm4⟩:=qhd (behind m2 m4')
 rw[<-hm4]at d3
 have ow4:=ow2.step d3
 obtain⟨y,hy⟩:=qhd (jk s.ls a.es)
 rw[<-hy]at d1
 obtain⟨dd1,dd2⟩:=hg.d (by rw[hop];rfl)
 obtain⟨d,hd⟩:∃d:Nat,a.dst=d:=⟨a.dst.toNat,by omega⟩
 have hdk:d<k:=by omega
 have hix:wZ 1 (lvV Lb k) (.int .i64 a.dst)=some (.pointer (some ⟨Lb,d,none⟩)):=by
  rw[hd]
  have:=yg (e:=1) (c:=3) Lb k d hdk
  rwa [Nat.mul_one]at this
 obtain⟨m5',f1,f2,f3,f4,f5⟩:=ow4.storeAny 3 rfl (o:=d) (v:=uv y.1) (by rw[gY,hM.len];exact hdk) rfl
 obtain⟨m5,hm5⟩:=qhd (behind m4 m5')
 rw[<-hm5]at f3
 have l5:∀o s',load1 m5 ⟨Mb,o,s'⟩=(qF k av (lvV Lb k) s)[o]?:=λo s'=>(f3.get 2 rfl).2.2.load1 o s'
 simp only[qF]at l5
 have na1:=wL hat
 obtain⟨at1,hat1⟩:=qhd (s.at_+1)
 rw[<-hat1]at na1
 obtain⟨m6,g1,g3,g4,g5⟩:=f3.store 2 rfl (o:=2) (v:=iv at1) (by simp[qF]) rfl
 obtain⟨m7,h1,h3,h4,h5⟩:=g3.storeN 0 rfl (o:=0) (l':=Z6) (n:=6) (by omega) rfl (by simp) (by simp[okC])
 have lf:loads m7 ⟨m1.n,0,none⟩ 6=some Z6:=(h3.get 0 rfl).2.2.loads (n:=6) (by simp[over])
 have hs:MsAt m7 Mb Lb k av (setS s a):=by
  refine Ow.msAt h3 2 3 ?_ ?_ ?_
  .show some (Mb,(qF k av (lvV Lb k) s).set 2 (iv at1))=_
   rw[hat1];rfl
  .show some (Lb,(lsR s.ls).set d (uv y.1))=_
   rw[Qz,hy]
   show _=some (Lb,lsR (s.ls.set a.dst.toNat (jk s.ls a.es)))
   rw[hd,qh1]
  .show (s.ls.set _ _).length=k
   rw[List.length_set];exact hM.len
 simp[-qC,<-hm1,<-hm2,la,lM,d1,d2,<-hm4,hix,f1,<-hm5,l5,qC,na1,g1,Jo,h1]
 exact zY (a:=⟨m1.n,0,none⟩) (by simp) lf ⟨h3.mc,hs,rfl⟩
theorem jump_c (hg:AcG k na cells a)(hop:a.op=9)(N:Nat)(hm:m.base<=m.n)(hne:Mb≠Lb)(hM:MsAt m Mb Lb k av s) :
  WrC (ex Tryz.prog (N+1)) 146 [mP Mb,.agg ⟨qd a⟩] m Mb Lb k av (JX s a) (.agg ⟨Z6⟩):=by
 refine wO (Q:=λv m'=>Mc m m' [Mb,Lb]/\MsAt m' Mb Lb k av (JX s a)/\v=.agg ⟨Z6⟩) dh1_ok (by simp) ?_
 have ow0:=hM.ow hne hm
 have ow1:=ow0.row (qd a)
 obtain⟨m1,hm1⟩:=qhd (Dx.newRow m (qd a))
 rw[<-hm1]at ow1
 have ow2:=ow1.row Z6
 obtain⟨m2,hm2⟩:=qhd (Dx.newRow m1 Z6)
 rw[<-hm2]at ow2
 have la:∀o s,load1 m2 ⟨m.n,o,s⟩=(qd a)[o]?:=λo s=>(ow2.get 1 rfl).2.2.load1 o s
 simp only[qd]at la
 obtain⟨tt1,tt2⟩:=hg.t (by rw[hop];rfl)
 obtain⟨m6,g1,g3,g4,g5⟩:=ow2.store 2 rfl (o:=2) (v:=iv a.to) (by simp[qF]) rfl
 obtain⟨m7,h1,h3,h4,h5⟩:=g3.storeN 0 rfl (o:=0) (l':=Z6) (n:=6) (by omega) rfl (by simp) (by simp[okC])
 have lf:loads m7 ⟨m1.n,0,none⟩ 6=some Z6:=(h3.get 0 rfl).2.2.loads (n:=6) (by simp[over])
 have hs:MsAt m7 Mb Lb k av (JX s a):=by
  refine Ow.msAt h3 2 3 ?_ rfl hM.len
  show some (Mb,(qF k av (lvV Lb k) s).set 2 (iv a.to))=_
  have:a.to=((a.to.toNat:Nat):Int):=by omega
  rw[this];rfl
 simp[<-hm1,<-hm2,la,g1,Jo,h1]
 exact zY (a:=⟨m1.n,0,none⟩) (by simp) lf ⟨h3.mc,hs,rfl⟩
theorem zero_c (hg:AcG k na cells a)(hop:a.op=10)(N:Nat)(hm:m.base<=m.n)(hne:Mb≠Lb)(hM:MsAt m Mb Lb k av s)(hat:s.at_<9223372036854775807)(ha:AcOK m a)(hap:AcAp Mb Lb a) :
  WrC (ex Tryz.prog (N+4)) 147 [mP Mb,.agg ⟨qd a⟩] m Mb Lb k av (Qi s a) (.agg ⟨Z6⟩):=by
 refine wO (Q:=λv m'=>Mc m m' [Mb,Lb]/\MsAt m' Mb Lb k av (Qi s a)/\v=.agg ⟨Z6⟩) dh2_ok (by simp) ?_
 have ow0:=hM.ow hne hm
 have ow1:=ow0.row (qd a)
 obtain⟨m1,hm1⟩:=qhd (Dx.newRow m (qd a))
 rw[<-hm1]at ow1
 have ow2:=ow1.row Z6
 obtain⟨m2,hm2⟩:=qhd (Dx.newRow m1 Z6)
 rw[<-hm2]at ow2
 have lM2:∀o s',load1 m2 ⟨Mb,o,s'⟩=(qF k av (lvV Lb k) s)[o]?:=λo s'=>(ow2.get 2 rfl).2.2.load1 o s'
 simp only[qF]at lM2
 have na1:=wL hat
 obtain⟨at1,hat1⟩:=qhd (s.at_+1)
 rw[<-hat1]at na1
 obtain⟨m3,g1,g3,g4,g5⟩:=ow2.store 2 rfl (o:=2) (v:=iv at1) (by simp[qF]) rfl
 have la:∀o s,load1 m3 ⟨m.n,o,s⟩=(qd a)[o]?:=λo s=>(g3.get 1 rfl).2.2.load1 o s
 simp only[qd]at la
 obtain⟨s3,hs3⟩:∃s3:Ms,s3={ s with at_:=at1 }:=⟨_,rfl⟩
 have hM3:MsAt m3 Mb Lb k av s3:=by
  rw[hs3]
  exact Ow.msAt g3 2 3 rfl rfl hM.len
 have hls:s3.ls=s.ls:=by rw[hs3]
 have lM:=hM3.l1
 simp only[qF]at lM
 have hm3:m3.base<=m3.n:=g3.mb
 have hev:Rd m3 a.ev 4 qP a.es:=g3.rd ha.ev hap.ev
 obtain⟨v4,m4',d1,d2,d3,rfl⟩:=wq (xL hM3.len (hg.e (by rw[hop];rfl)) N (qc m3) (qB (Sees.refl hm3)).base (hev.sees (qB (Sees.refl hm3))) hM3.any.rd)
 obtain⟨m4,hm4⟩:=qhd (behind m3 m4')
 rw[<-hm4]at d3
 have ow4:=g3.step d3
 have la4:∀o s,load1 m4 ⟨m.n,o,s⟩=(qd a)[o]?:=λo s=>(ow4.get 1 rfl).2.2.load1 o s
 simp only[qd]at la4
 obtain⟨y,hy⟩:=qhd (jk s.ls a.es)
 rw[hls,<-hy]at d1
 obtain⟨tt1,tt2⟩:=hg.t (by rw[hop];rfl)
 by_cases h0:y.1=0
 .have e0:decide ((y.1:Int)=0)=true:=decide_eq_true (by omega)
  have e0':decide (y.1=0)=true:=decide_eq_true h0
  obtain⟨m6,i1,i3,i4,i5⟩:=ow4.store 2 rfl (o:=2) (v:=iv a.to) (by simp[qF]) rfl
  obtain⟨m7,h1,h3,h4,h5⟩:=i3.storeN 0 rfl (o:=0) (l':=Z6) (n:=6) (by omega) rfl (by simp) (by simp[okC])
  have lf:loads m7 ⟨m1.n,0,none⟩ 6=some Z6:=(h3.get 0 rfl).2.2.loads (n:=6) (by simp[over])
  have hs:MsAt m7 Mb Lb k av (Qi s a):=by
   refine Ow.msAt h3 2 3 ?_ rfl hM.len
   show some (Mb,((qF k av (lvV Lb k) s).set 2 (iv at1)).set 2 (iv a.to))=_
   have:a.to=((a.to.toNat:Nat):Int):=by omega
   unfold Qi
   rw[<-hy,if_pos h0,this];rfl
  simp[-qC,<-hm1,<-hm2,lM2,qC,na1,g1,la,lM,d1,d2,<-hm4,e0,e0',la4,i1,Jo,h1]
  exact zY (a:=⟨m1.n,0,none⟩) (by simp) lf ⟨h3.mc,hs,rfl⟩
 .have e0:decide ((y.1:Int)=0)=false:=decide_eq_false (by omega)
  have e0':decide (y.1=0)=false:=decide_eq_false h0
  obtain⟨m7,h1,h3,h4,h5⟩:=ow4.storeN 0 rfl (o:=0) (l':=Z6) (n:=6) (by omega) rfl (by simp) (by simp[okC])
  have lf:loads m7 ⟨m1.n,0,none⟩ 6=some Z6:=(h3.get 0 rfl).2.2.loads (n:=6) (by simp[over])
  have hs:MsAt m7 Mb Lb k av (Qi s a):=by
   refine Ow.msAt h3 2 3 ?_ rfl hM.len
   show some (Mb,(qF k av (lvV Lb k) s).set 2 (iv at1))=_
   unfold Qi
   rw[<-hy,if_neg h0,hat1];rfl
  simp[-qC,<-hm1,<-hm2,lM2,qC,na1,g1,la,lM,d1,d2,<-hm4,e0,e0',la4,Jo,h1]
  exact zY (a:=⟨m1.n,0,none⟩) (by simp) lf ⟨h3.mc,hs,rfl⟩
end
end Go.Sx
namespace Go.Sx
open Go.Dx Go.Proofs
set_option maxRecDepth 10000
variable [Cdf]
structure Env (m:M)(Mb Lb:Nat)(av:Value)(acts:List Ac):Prop where
 rav:Rd m av 11 qd acts
 avp:∀B,blk av=some B->B ∉ [Mb,Lb]
 ok:∀a∈acts,AcOK m a/\AcAp Mb Lb a
section
variable {k na:Nat}{cells:Int}{a:Ac}{av:Value}{s:Ms}{Mb Lb:Nat}{m m':M}{acts:List Ac}
theorem AcOK.mc (h:AcOK m a)(hp:AcAp Mb Lb a)(k:Mc m m' [Mb,Lb]):AcOK m' a :=
 ⟨h.ix.congr k.n λB hB=>k.obj B (h.ix.lt B hB) (hp.ix B hB),h.ev.congr k.n λB hB=>k.obj B (h.ev.lt B hB) (hp.ev B hB),h.fv.congr k.n λB hB=>k.obj B (h.fv.lt B hB) (hp.fv B hB),h.ixl,h.evl,h.fvl⟩
theorem Env.mc (h:Env m Mb Lb av acts)(k:Mc m m' [Mb,Lb]):Env m' Mb Lb av acts :=
 ⟨h.rav.congr k.n λB hB=>k.obj B (h.rav.lt B hB) (h.avp B hB),h.avp,λa ha=>⟨(h.ok a ha).1.mc (h.ok a ha).2 k,(h.ok a ha).2⟩⟩
theorem Env.ext (h:Env m Mb Lb av acts)(e:Ext m m'):Env m' Mb Lb av acts:=h.mc e.mc
theorem Env.any (h:Env m Mb Lb av acts)(hm:m.base<=m.n):Env (qc m) Mb Lb av acts :=
 ⟨h.rav.sees (qB (Sees.refl hm)),h.avp,λa ha=>⟨(h.ok a ha).1.sees (qB (Sees.refl hm)),(h.ok a ha).2⟩⟩
abbrev Z11:List Value:=[zI,zI,zI,zI,zS,zS,zS,zI,zI,zI,zI]
theorem yn (h:AcOK m a):∀v∈qd a,okC v=true:=by
 have o1:=h.ix.okV
 have o2:=h.ev.okV
 have o3:=h.fv.okV
 intro v hv
 simp only[qd,List.mem_cons,List.not_mem_nil,or_false]at hv
 rcases hv with rfl | rfl | rfl | rfl | rfl | rfl | rfl | rfl | rfl | rfl | rfl<;>first | rfl | assumption
theorem Dg (hE:Env m Mb Lb av acts)(hM:MsAt m Mb Lb k av s)(ha:acts[s.at_]?=some a)(N:Nat)(hm:m.base<=m.n) :
  CallV (ex Tryz.prog (N+1)) 134 [mP Mb] m (.agg ⟨qd a⟩):=by
 refine qy df9_ok (by simp) ?_
 have st1:=(St.nil hm (Ext.refl m)).row Z11
 obtain⟨m1,hm1⟩:=qhd (Dx.newRow m Z11)
 rw[<-hm1]at st1
 have lM:=(hM.ext st1.ext).l1
 simp only[qF]at lM
 obtain⟨a1,a2,_⟩:=hE.rav.at ha
 have a2':=a2 m1 st1.sees
 obtain⟨m4',w1,w2,w3,w4,w5⟩:=st1.fillAny 0 rfl (n:=11) (l':=qd a) (by omega) rfl rfl (yn (hE.ok a (qgo ha)).1)
 obtain⟨m4,hm4⟩:=qhd (behind m1 m4')
 rw[<-hm4]at w3
 have lf:loads m4 ⟨m.n,0,none⟩ 11=some (qd a):=(w3.get 0 rfl).2.2.loads (n:=11) (by simp[qd])
 simp[<-hm1,lM,a1,a2',qe,w1,<-hm4]
 exact zn (a:=⟨m.n,0,none⟩) (by simp) lf w3.ext rfl
def ownB (a:Ac):Bool:=decide (a.op=1\/a.op=9\/a.op=10)
theorem qbu (a:Ac)(N:Nat)(m:M):CallV (ex Tryz.prog (N+1)) 137 [.agg ⟨qd a⟩] m (.bool (ownB a)):=by
 refine qy dg2_ok (by simp) ?_
 have la:∀o,load1 (Dx.newRow m (qd a)) ⟨m.n,o,none⟩=(qd a)[o]?:=λo=>vk m _ o
 have E:Ext m (Dx.newRow m (qd a)):=Ext.row _ _
 obtain⟨m1,hm1⟩:=qhd (Dx.newRow m (qd a))
 rw[<-hm1]at la E
 simp only[qd]at la
 have hb:ownB a=decide (a.op=1\/a.op=9\/a.op=10):=rfl
 rw[hb]
 by_cases h1:a.op=1
 .have d1:decide (a.op=1)=true:=decide_eq_true h1
  rw[decide_eq_true (.inl h1)]
  simp[<-hm1,la,d1]
  exact qp E (by simp)
 .have d1:decide (a.op=1)=false:=decide_eq_false h1
  by_cases h9:a.op=9
  .have d9:decide (a.op=9)=true:=decide_eq_true h9
   rw[decide_eq_true (.inr (.inl h9))]
   simp[<-hm1,la,d1,d9]
   exact qp E (by simp)
  .have d9:decide (a.op=9)=false:=decide_eq_false h9
   simp[<-hm1,la,d1,d9]
   exact qp E (by simp[h1,h9])
def fnV (g:Nat):Value:=.func (.func g) #[] #[]
def dW:List Value:=[.nilFunc,fnV 140,fnV 141,fnV 142,fnV 143,fnV 143,fnV 143,fnV 144,fnV 145,fnV 146,fnV 147]
def fW (op:Int):Nat:=if op=1 then 140 else if op=2 then 141 else if op=3 then 142 else if op=4 then 143 else if op=5 then 143 else if op=6 then 143 else if op=7 then 144 else if op=8 then 145 else if op=9 then 146 else 147
theorem qfp:qW [.nilFunc,.nilFunc,.nilFunc,.nilFunc,.nilFunc,.nilFunc,.nilFunc,.nilFunc,.nilFunc,.nilFunc,.nilFunc] [(1,1,.func (.func 140) #[] #[]),(2,1,.func (.func 141) #[] #[]),(3,1,.func (.func 142) #[] #[]),(4,1,.func (.func 143) #[] #[]),(5,1,.func (.func 143) #[] #[]),(6,1,.func (.func 143) #[] #[]),(7,1,.func (.func 144) #[] #[]),(8,1,.func (.func 145) #[] #[]),(9,1,.func (.func 146) #[] #[]),(10,1,.func (.func 147) #[] #[])]=some (.agg ⟨dW⟩):=rfl
theorem Gd (N:Nat)(m:M)(hm:m.base<=m.n):CallV (ex Tryz.prog (N+1)) 136 [] m (.agg ⟨dW⟩):=by
 refine qy dg1_ok (by simp) ?_
 obtain⟨a,c1,c2,c3,c4,c5⟩:=jE (m:=m) hm (zs:=[.nilFunc,.nilFunc,.nilFunc,.nilFunc,.nilFunc,.nilFunc,.nilFunc,.nilFunc,.nilFunc,.nilFunc,.nilFunc]) (l:=dW) (v:=.agg ⟨dW⟩) (n:=11) rfl rfl rfl (by simp[dW,fnV,okC])
 simp[qfp,c1]
 exact zn (a:=⟨m.n,0,none⟩) (by simp) (c3 none) c4 rfl
theorem Ge {op:Int}(h1:1<=op)(h2:op<=10):fT 11 false 1 (.agg ⟨dW⟩) (.int .i64 op)=some (.func (.func (fW op)) ⟨[]⟩ ⟨[]⟩):=by
 rcases (by omega:op=1\/op=2\/op=3\/op=4\/op=5\/op=6\/op=7\/op=8\/op=9\/op=10) with rfl | rfl | rfl | rfl | rfl | rfl | rfl | rfl | rfl | rfl<;>rfl
theorem qd7 (hc:cells<=4096)(hg:AcG k na cells a)(how:ownB a=false)(N:Nat)(hm:m.base<=m.n)(hM:MsAt m Mb Lb k av s)(ha:AcOK m a) :
  CallV (ex Tryz.prog (N+5)) (fW a.op) [mP Mb,.agg ⟨qd a⟩] m (.agg ⟨wtL (qU s a)⟩):=by
 obtain⟨o1,o2⟩:=hg.op
 have hn:=of_decide_eq_false how
 rcases (by omega:a.op=2\/a.op=3\/(a.op=4\/a.op=5\/a.op=6)\/a.op=7\/a.op=8) with h | h | h | h | h
 .have:fW a.op=141:=by rw[h];rfl
  rw[this];exact load_c hc hg h N hm hM ha
 .have:fW a.op=142:=by rw[h];rfl
  rw[this];exact qfe hc hg h N hm hM ha
 .have:fW a.op=143:=by rcases h with h | h | h<;>(rw[h];rfl)
  rw[this];exact pair_c hc hg h N hm hM ha
 .have:fW a.op=144:=by rw[h];rfl
  rw[this];exact qe3 h (N+4) hm hM
 .have:fW a.op=145:=by rw[h];rfl
  rw[this];exact qew hg h (N+1) hm hM ha
def xU (s:Ms)(a:Ac):Ms:=if a.op=1 then setS s a else if a.op=9 then JX s a else Qi s a
theorem Bj (hg:AcG k na cells a)(how:ownB a=true)(N:Nat)(hm:m.base<=m.n)(hne:Mb≠Lb)(hM:MsAt m Mb Lb k av s)(hat:s.at_<9223372036854775807)(ha:AcOK m a)(hap:AcAp Mb Lb a) :
  WrC (ex Tryz.prog (N+4)) (fW a.op) [mP Mb,.agg ⟨qd a⟩] m Mb Lb k av (xU s a) (.agg ⟨Z6⟩):=by
 have hn:=of_decide_eq_true how
 rcases hn with h | h | h
 .have:fW a.op=140:=by rw[h];rfl
  have h2:xU s a=setS s a:=by unfold xU;rw[if_pos h]
  rw[this,h2];exact set_c hg h N hm hne hM hat ha
 .have:fW a.op=146:=by rw[h];rfl
  have h2:xU s a=JX s a:=by unfold xU;rw[if_neg (by omega),if_pos h]
  rw[this,h2];exact jump_c hg h (N+3) hm hne hM
 .have:fW a.op=147:=by rw[h];rfl
  have h2:xU s a=Qi s a:=by unfold xU;rw[if_neg (by omega),if_neg (by omega)]
  rw[this,h2];exact zero_c hg h N hm hne hM hat ha hap
end
structure Ev5 where
 th:Int
 kind:Int
 loc:Int
 val:U
 mode:Int
def wE (e:Ev5):List Value:=[iv e.th,iv e.kind,iv e.loc,uv e.val.1,iv e.mode]
end Go.Sx
namespace Go.Sx
open Go.Dx Go.Proofs
set_option maxRecDepth 10000
variable [Cdf]
theorem vY (w:Wt):∀v∈wtL w,okC v=true:=by simp[wtL,okC]
section
variable {k na:Nat}{cells:Int}{a:Ac}{av:Value}{s:Ms}{Mb Lb:Nat}{m m':M}{acts:List Ac}
end
end Go.Sx
namespace Go.Sx
open Go.Dx Go.Proofs
set_option maxRecDepth 10000
variable [Cdf]
def fB (s:Ms)(a:Ac)(v:U):Ms :=
 if s.now.ex=true/\s.opn=true then { s with ls:=s.ls.set a.dst.toNat s.old,opn:=false,at_:=s.at_+1 }
 else if s.now.what=1 then { s with ls:=s.ls.set a.dst.toNat v,at_:=s.at_+1 }
 else { s with at_:=s.at_+1 }
def zX (s:Ms)(a:Ac)(v:U):Ms :=
 if s.now.what=1/\s.now.ex=true then
  if a.op≠6\/(jk s.ls a.es).1=v.1 then { s with asked:=false,old:=v,opn:=true } else fB { s with asked:=false,old:=v } a v
 else fB { s with asked:=false } a v
section
variable {k na:Nat}{cells:Int}{a:Ac}{av:Value}{s:Ms}{Mb Lb:Nat}{m m0:M}{acts:List Ac}
theorem JP {Ab:Nat}(h:Ow m0 m [Mb,Lb] [(Ab,qd a),(Mb,qF k av (lvV Lb k) s),(Lb,lsR s.ls)])(hl:s.ls.length=k)(hD:(s.now.ex=true/\s.opn=true)\/s.now.what=1->0<=a.dst/\a.dst<k)(hat:s.at_<9223372036854775807)(v:U){x:Ex}{kn:K}{ke:Nat->K}{t:Tm}
  (t0:Tm.get 0 t=mP Mb) (t1:Tm.get 1 t=uv v.1) (t5:Tm.get 5 t=.pointer (some ⟨Ab,0,none⟩)) :
  xY (λw m'=>Mc m0 m' [Mb,Lb]/\MsAt m' Mb Lb k av (fB s a v)/\w=iv 0) (Vq x kn ke (kO [.t 4]) t m):=by
 have lM:∀o s',load1 m ⟨Mb,o,s'⟩=(qF k av (lvV Lb k) s)[o]?:=λo s'=>(h.get 1 rfl).2.2.load1 o s'
 simp only[qF]at lM
 have na1:=wL hat
 obtain⟨at1,hat1⟩:=qhd (s.at_+1)
 rw[<-hat1]at na1
 have la:∀o s',load1 m ⟨Ab,o,s'⟩=(qd a)[o]?:=λo s'=>(h.get 0 rfl).2.2.load1 o s'
 simp only[qd]at la
 by_cases hA:s.now.ex=true/\s.opn=true
 .obtain⟨dd1,dd2⟩:=hD (.inl hA)
  obtain⟨d,hd⟩:∃d:Nat,a.dst=d:=⟨a.dst.toNat,by omega⟩
  have hix:wZ 1 (lvV Lb k) (.int .i64 a.dst)=some (.pointer (some ⟨Lb,d,none⟩)):=by
   rw[hd]
   have:=yg (e:=1) (c:=3) Lb k d (by omega)
   rwa [Nat.mul_one]at this
  have hF:fB s a v={ s with ls:=s.ls.set a.dst.toNat s.old,opn:=false,at_:=s.at_+1 }:=if_pos hA
  rw[hF]
  obtain⟨h1,h2⟩:=hA
  rw[h1,h2]at lM
  obtain⟨m2,f1,f3,f4,f5⟩:=h.store 1 rfl (o:=12) (v:=.bool false) (by simp[qF]) rfl
  have l2:∀o s',load1 m2 ⟨Mb,o,s'⟩=((qF k av (lvV Lb k) s).set 12 (.bool false))[o]?:=λo s'=>(f3.get 1 rfl).2.2.load1 o s'
  simp only[qF]at l2
  have la2:∀o s',load1 m2 ⟨Ab,o,s'⟩=(qd a)[o]?:=λo s'=>(f3.get 0 rfl).2.2.load1 o s'
  simp only[qd]at la2
  obtain⟨m3',g1,g2,g3,g4,g5⟩:=f3.storeAny 2 rfl (o:=d) (v:=uv s.old.1) (by rw[gY,hl];omega) rfl
  obtain⟨m3,hm3⟩:=qhd (behind m2 m3')
  rw[<-hm3]at g3
  have l3:∀o s',load1 m3 ⟨Mb,o,s'⟩=((qF k av (lvV Lb k) s).set 12 (.bool false))[o]?:=λo s'=>(g3.get 1 rfl).2.2.load1 o s'
  simp only[qF]at l3
  obtain⟨m4,i1,i3,i4,i5⟩:=g3.store 1 rfl (o:=2) (v:=iv at1) (by simp[qF]) rfl
  have hs:MsAt m4 Mb Lb k av { s with ls:=s.ls.set a.dst.toNat s.old,opn:=false,at_:=s.at_+1 }:=by
   refine Ow.msAt i3 1 2 ?_ ?_ ?_
   .show some (Mb,((qF k av (lvV Lb k) s).set 12 (.bool false)).set 2 (iv at1))=_
    rw[hat1];rfl
   .show some (Lb,(lsR s.ls).set d (uv s.old.1))=_
    rw[Qz,hd,qh1]
   .show (s.ls.set _ _).length=k
    rw[List.length_set];exact hl
  simp[-qC,t0,t1,t5,lM,f1,l2,la2,hix,g1,<-hm3,l3,qC,na1,i1]
  exact zu ⟨i3.mc,hs,by simp⟩
 .have hnx:(s.now.ex&&s.opn)=false:=by
   cases h1:s.now.ex<;>cases h2:s.opn<;>first | rfl | exact absurd ⟨h1,h2⟩ hA
  by_cases hB:s.now.what=1
  .obtain⟨dd1,dd2⟩:=hD (.inr hB)
   obtain⟨d,hd⟩:∃d:Nat,a.dst=d:=⟨a.dst.toNat,by omega⟩
   have hix:wZ 1 (lvV Lb k) (.int .i64 a.dst)=some (.pointer (some ⟨Lb,d,none⟩)):=by
    rw[hd]
    have:=yg (e:=1) (c:=3) Lb k d (by omega)
    rwa [Nat.mul_one]at this
   have hF:fB s a v={ s with ls:=s.ls.set a.dst.toNat v,at_:=s.at_+1 }:=by unfold fB;rw[if_neg hA,if_pos hB]
   rw[hF]
   have dB:decide (s.now.what=1)=true:=decide_eq_true hB
   obtain⟨m3',g1,g2,g3,g4,g5⟩:=h.storeAny 2 rfl (o:=d) (v:=uv v.1) (by rw[gY,hl];omega) rfl
   obtain⟨m3,hm3⟩:=qhd (behind m m3')
   rw[<-hm3]at g3
   have l3:∀o s',load1 m3 ⟨Mb,o,s'⟩=(qF k av (lvV Lb k) s)[o]?:=λo s'=>(g3.get 1 rfl).2.2.load1 o s'
   simp only[qF]at l3
   obtain⟨m4,i1,i3,i4,i5⟩:=g3.store 1 rfl (o:=2) (v:=iv at1) (by simp[qF]) rfl
   have hs:MsAt m4 Mb Lb k av { s with ls:=s.ls.set a.dst.toNat v,at_:=s.at_+1 }:=by
    refine Ow.msAt i3 1 2 ?_ ?_ ?_
    .show some (Mb,(qF k av (lvV Lb k) s).set 2 (iv at1))=_
     rw[hat1];rfl
    .show some (Lb,(lsR s.ls).set d (uv v.1))=_
     rw[Qz,hd,qh1]
    .show (s.ls.set _ _).length=k
     rw[List.length_set];exact hl
   cases hx:s.now.ex with
   | false =>
    rw[hx]at lM
    simp[-qC,t0,t1,t5,lM,dB,la,hix,g1,<-hm3,l3,qC,na1,i1]
    exact zu ⟨i3.mc,hs,by simp⟩
   | true =>
    rw[hx,Bool.true_and]at hnx
    rw[hx,hnx]at lM
    simp[-qC,t0,t1,t5,lM,dB,la,hix,g1,<-hm3,l3,qC,na1,i1]
    exact zu ⟨i3.mc,hs,by simp⟩
  .have hF:fB s a v={ s with at_:=s.at_+1 }:=by unfold fB;rw[if_neg hA,if_neg hB]
   rw[hF]
   have dB:decide (s.now.what=1)=false:=decide_eq_false hB
   obtain⟨m4,i1,i3,i4,i5⟩:=h.store 1 rfl (o:=2) (v:=iv at1) (by simp[qF]) rfl
   have hs:MsAt m4 Mb Lb k av { s with at_:=s.at_+1 }:=by
    refine Ow.msAt i3 1 2 ?_ rfl hl
    show some (Mb,(qF k av (lvV Lb k) s).set 2 (iv at1))=_
    rw[hat1];rfl
   cases hx:s.now.ex with
   | false =>
    rw[hx]at lM
    simp[-qC,t0,t1,t5,lM,dB,qC,na1,i1]
    exact zu ⟨i3.mc,hs,by simp⟩
   | true =>
    rw[hx,Bool.true_and]at hnx
    rw[hx,hnx]at lM
    simp[-qC,t0,t1,t5,lM,dB,qC,na1,i1]
    exact zu ⟨i3.mc,hs,by simp⟩
theorem feed_c (hE:Env m Mb Lb av acts)(hg:AcG k na cells a)(ha:acts[s.at_]?=some a)(hask:s.asked=true)(hw5:s.now.what≠5)(hw6:s.now.what≠6)
  (hD:(s.now.ex=true/\s.opn=true)\/s.now.what=1->pD a.op=true) (v:U) (N:Nat) (hm:m.base<=m.n) (hne:Mb≠Lb) (hM:MsAt m Mb Lb k av s) (hat:s.at_<9223372036854775807) :
  WrC (ex Tryz.prog (N+4)) 132 [mP Mb,uv v.1] m Mb Lb k av (zX s a v) (iv 0):=by
 refine wO (Q:=λw m'=>Mc m m' [Mb,Lb]/\MsAt m' Mb Lb k av (zX s a v)/\w=iv 0) df7_ok (by simp) ?_
 have ow0:=hM.ow hne hm
 have lM:=hM.l1
 simp only[qF]at lM
 rw[hask]at lM
 have d5:decide (s.now.what=5)=false:=decide_eq_false hw5
 have d6:decide (s.now.what=6)=false:=decide_eq_false hw6
 obtain⟨m1,f1,f3,f4,f5⟩:=ow0.store 0 rfl (o:=10) (v:=.bool false) (by simp[qF]) rfl
 obtain⟨s1,hs1⟩:∃s1:Ms,s1={ s with asked:=false }:=⟨_,rfl⟩
 have ow1:Ow m m1 [Mb,Lb] [(Mb,qF k av (lvV Lb k) s1),(Lb,lsR s1.ls)]:=by
  have h:=f3
  have hr:(qF k av (lvV Lb k) s).set 10 (.bool false)=qF k av (lvV Lb k) s1:=by rw[hs1];rfl
  have hr2:lsR s1.ls=lsR s.ls:=by rw[hs1]
  rw[<-hr,hr2];exact h
 have hlen1:s1.ls.length=k:=by rw[hs1];exact hM.len
 have hM1:MsAt m1 Mb Lb k av s1:=Ow.msAt ow1 0 1 rfl rfl hlen1
 have hE1:=hE.mc ow1.mc
 have haok:=hE.ok a (qgo ha)
 obtain⟨v2,m2,c1,c2,rfl⟩:=Dg hE1 hM1 (by rw[hs1];exact ha) (N+2) ow1.mb
 have ow2:=ow1.step c2
 have ow3:=ow2.row Z11
 obtain⟨m3,hm3⟩:=qhd (Dx.newRow m2 Z11)
 rw[<-hm3]at ow3
 obtain⟨m4,g1,g3,g4,g5⟩:=ow3.storeN 0 rfl (o:=0) (l':=qd a) (n:=11) (by omega) rfl (by simp) (yn haok.1)
 have ow4:Ow m m4 [Mb,Lb] [(m2.n,qd a),(Mb,qF k av (lvV Lb k) s1),(Lb,lsR s1.ls)]:=by
  have h:=g3
  rw[kG (by rfl)]at h
  exact h
 have l4:∀o s',load1 m4 ⟨Mb,o,s'⟩=(qF k av (lvV Lb k) s1)[o]?:=λo s'=>(ow4.get 1 rfl).2.2.load1 o s'
 simp only[qF]at l4
 have hnow:s1.now=s.now:=by rw[hs1]
 have hopn:s1.opn=s.opn:=by rw[hs1]
 have hls:s1.ls=s.ls:=by rw[hs1]
 have hat1:s1.at_=s.at_:=by rw[hs1]
 have hDD:∀s':Ms,s'.now=s.now->s'.opn=s.opn->((s'.now.ex=true/\s'.opn=true)\/s'.now.what=1->0<=a.dst/\a.dst<k):=λs' h1 h2 h=>by
  rw[h1,h2]at h
  exact hg.d (hD h)
 rw[hnow]at l4
 by_cases hA:s.now.what=1/\s.now.ex=true
 .obtain⟨hw1,hx⟩:=hA
  have d1:decide (s.now.what=1)=true:=decide_eq_true hw1
  rw[hx]at l4
  obtain⟨m5,i1,i3,i4,i5⟩:=ow4.store 1 rfl (o:=11) (v:=uv v.1) (by simp[qF]) rfl
  obtain⟨s2,hs2⟩:∃s2:Ms,s2={ s with asked:=false,old:=v }:=⟨_,rfl⟩
  have ow5:Ow m m5 [Mb,Lb] [(m2.n,qd a),(Mb,qF k av (lvV Lb k) s2),(Lb,lsR s2.ls)]:=by
   have h:=i3
   have hr:(qF k av (lvV Lb k) s1).set 11 (uv v.1)=qF k av (lvV Lb k) s2:=by rw[hs1,hs2];rfl
   have hr2:lsR s2.ls=lsR s1.ls:=by rw[hs1,hs2]
   rw[<-hr,hr2];exact h
  have hlen2:s2.ls.length=k:=by rw[hs2];exact hM.len
  have hM5:MsAt m5 Mb Lb k av s2:=Ow.msAt ow5 1 2 rfl rfl hlen2
  have l5:=hM5.l1
  simp only[qF]at l5
  have la5:∀o s',load1 m5 ⟨m2.n,o,s'⟩=(qd a)[o]?:=λo s'=>(ow5.get 0 rfl).2.2.load1 o s'
  simp only[qd]at la5
  have hls2:s2.ls=s.ls:=by rw[hs2]
  by_cases h6:a.op=6
  .have q6:decide (a.op=6)=true:=decide_eq_true h6
   have haok5:=haok.1.mc haok.2 ow5.mc
   obtain⟨v6,m6',e1,e2,e3,rfl⟩:=wq (xL hM5.len (hg.e (by rw[h6];rfl)) N (qc m5) (qB (Sees.refl ow5.mb)).base (haok5.ev.sees (qB (Sees.refl ow5.mb))) hM5.any.rd)
   obtain⟨m6,hm6⟩:=qhd (behind m5 m6')
   rw[<-hm6]at e3
   have ow6:=ow5.step e3
   obtain⟨y,hy⟩:=qhd (jk s.ls a.es)
   rw[hls2,<-hy]at e1
   by_cases hyv:y.1=v.1
   .have dv:decide ((y.1:Int)=(v.1:Int))=true:=decide_eq_true (by omega)
    have dv':decide (y.1=v.1)=true:=decide_eq_true hyv
    have hF:zX s a v={ s with asked:=false,old:=v,opn:=true }:=by unfold zX;rw[if_pos ⟨hw1,hx⟩,if_pos (.inr (by rw[<-hy];exact hyv))]
    rw[hF]
    obtain⟨m7,n1,n3,n4,n5⟩:=ow6.store 1 rfl (o:=12) (v:=.bool true) (by simp[qF]) rfl
    have hs:MsAt m7 Mb Lb k av { s with asked:=false,old:=v,opn:=true }:=by
     refine Ow.msAt n3 1 2 ?_ ?_ hM.len
     .rw[hs2];rfl
     .rw[hs2];rfl
    simp[lM,d5,d6,f1,c1,<-hm3,g1,l4,d1,i1,la5,q6,l5,e1,<-hm6,dv,dv',n1]
    exact zu ⟨n3.mc,hs,by simp⟩
   .have dv:decide ((y.1:Int)=(v.1:Int))=false:=decide_eq_false (by omega)
    have dv':decide (y.1=v.1)=false:=decide_eq_false hyv
    have hF:zX s a v=fB s2 a v:=by unfold zX;rw[if_pos ⟨hw1,hx⟩,if_neg (by rw[<-hy];intro h;rcases h with h | h;exact h h6;exact hyv h),hs2]
    rw[hF]
    simp[lM,d5,d6,f1,c1,<-hm3,g1,l4,d1,i1,la5,q6,l5,e1,<-hm6,dv,dv',-bW]
    exact JP ow6 hlen2 (hDD s2 (by rw[hs2]) (by rw[hs2])) (by rw[hs2];exact hat) v (by simp) (by simp) (by simp)
  .have q6:decide (a.op=6)=false:=decide_eq_false h6
   have hF:zX s a v={ s with asked:=false,old:=v,opn:=true }:=by unfold zX;rw[if_pos ⟨hw1,hx⟩,if_pos (.inl h6)]
   rw[hF]
   obtain⟨m7,n1,n3,n4,n5⟩:=ow5.store 1 rfl (o:=12) (v:=.bool true) (by simp[qF]) rfl
   have hs:MsAt m7 Mb Lb k av { s with asked:=false,old:=v,opn:=true }:=by
    refine Ow.msAt n3 1 2 ?_ ?_ hM.len
    .rw[hs2];rfl
    .rw[hs2];rfl
   simp[lM,d5,d6,f1,c1,<-hm3,g1,l4,d1,i1,la5,q6,n1]
   exact zu ⟨n3.mc,hs,by simp⟩
 .have hF:zX s a v=fB s1 a v:=by unfold zX;rw[if_neg hA,hs1]
  rw[hF]
  have fin:=λ{x:Ex} {kn:K} {ke:Nat->K} {t:Tm}=>JP (x:=x) (kn:=kn) (ke:=ke) (t:=t) ow4 hlen1 (hDD s1 hnow hopn) (by rw[hat1];exact hat) v
  by_cases hw1:s.now.what=1
  .have d1:decide (s.now.what=1)=true:=decide_eq_true hw1
   have hx:s.now.ex=false:=by
    cases h:s.now.ex with
    | false=>rfl
    | true=>exact absurd ⟨hw1,h⟩ hA
   rw[hx]at l4
   simp[lM,d5,d6,f1,c1,<-hm3,g1,l4,d1,-bW]
   exact fin (by simp) (by simp) (by simp)
  .have d1:decide (s.now.what=1)=false:=decide_eq_false hw1
   simp[lM,d5,d6,f1,c1,<-hm3,g1,l4,d1,-bW]
   exact fin (by simp) (by simp) (by simp)
end
end Go.Sx
namespace Go.Sx
open Go.Dx Go.Proofs
set_option maxRecDepth 10000
instance cdf3:Cdf:=⟨3⟩
theorem FF {α:Type}{m:M}{e:Nat}{f:α->List Value}:Rd m zS e f []:=⟨rfl,λi r hr=>by simp at hr,rfl,λB hB=>by cases hB⟩
theorem Xk {α:Type}{m:M}{e:Nat}{f:α->List Value}{es:List α}{n c:Nat}(h:Rd m (.slice none n c) e f es):es=[]:=by
 cases hc:es with
 | nil=>rfl
 | cons x xs=>have:=(h.row 0 x (by rw[hc];rfl)).1;cases this
theorem QI (n:Nat)(ed:Value)(es:List Nd)(hl:es.length<=65536)(m:M)(hm:m.base<=m.n)(hed:Rd m ed 4 qP es) :
  Dx.Call (ex Tryz.prog (n+1)) 42 [ed] m λv m'=>Rd m' v 4 qP es/\∀B,blk v=some B->m.n<=B:=by
 refine qy dd6_ok (by simp) ?_
 have hel:=hed.len
 have hn:=gO hel
 obtain⟨v',m',h1,h2,h3,h4,h5⟩:=jQ hm hed Xl 32 (by unfold most;omega) (by omega)
 have hbs:ki 4 0 (rep 0 [zI,zU,zI,zI]) [] m=some (.slice (some ⟨m.n,0,some (code 4 true)⟩) 0 0,Dx.newRow m []):=rfl
 simp[hn]
 cases ed with
 | slice a k c =>
  cases a with
  | none =>
   simp
   obtain rfl:=Xk hed
   exact qp (by simp) (by simp only[jT,reduceIte];exact⟨FF,λB hB=>by cases hB⟩)
  | some a =>
   simp[hbs,h1]
   exact qp h2 (by simp only[jT,reduceIte];exact⟨h3,λB hB=>(h4 B hB).1⟩)
 | _=>cases hel
theorem zo (a:Ac):(qd a).length=11:=rfl
theorem BQ (n:Nat)(ed:Value)(es:List Ac)(hl:es.length<=65536)(m:M)(hm:m.base<=m.n)(hed:Rd m ed 11 qd es) :
  Dx.Call (ex Tryz.prog (n+1)) 41 [ed] m λv m'=>Rd m' v 11 qd es/\(∀B,blk v=some B->m.n<=B/\Arr m' B (es.flatMap qd))/\(es≠[]->∃B,v=.slice (some ⟨B,0,some (code 11 false)⟩) es.length es.length):=by
 refine qy dd5_ok (by simp) ?_
 have hel:=hed.len
 have hn:=gO hel
 obtain⟨v',m',h1,h2,h3,h4,h5⟩:=jQ hm hed zo 136 (by unfold most;omega) (by omega)
 have hbs:ki 11 0 (rep 0 [zI,zI,zI,zI,zS,zS,zS,zI,zI,zI,zI]) [] m=some (.slice (some ⟨m.n,0,some (code 11 true)⟩) 0 0,Dx.newRow m []):=rfl
 simp[hn]
 cases ed with
 | slice a k c =>
  cases a with
  | none =>
   simp
   obtain rfl:=Xk hed
   exact qp (by simp) (by simp only[jT,reduceIte];exact⟨FF,(λB hB=>by cases hB),λh=>absurd trivial h⟩)
  | some a =>
   simp[hbs,h1]
   exact qp h2 (by simp only[jT,reduceIte];exact⟨h3,h4,λh=>⟨_,h5 h⟩⟩)
 | _=>cases hel
def AcEq (a b:Ac):Prop:=∃x y z,a={ b with ix:=x,ev:=y,fv:=z }
theorem AcEq.refl (a:Ac):AcEq a a:=⟨a.ix,a.ev,a.fv,rfl⟩
def ms0 (k:Nat):Ms:=⟨0,List.replicate k u0,wt0,false,u0,false⟩
structure NewF (m0:M)(v':Value)(cur:List Ac):Prop where
 av:∀B,blk v'=some B->m0.n<=B
 ac:∀a∈cur,∀B,(blk a.ix=some B\/blk a.ev=some B\/blk a.fv=some B)->m0.n<=B
def NewP (m0:M)(k:Nat)(cur:List Ac)(v:Value)(m':M):Prop :=
 ∃Mb Lb v',v=.tuple #[mP Mb,iv 0]/\Mb≠Lb/\m0.n<=Mb/\m0.n<=Lb/\MsAt m' Mb Lb k v' (ms0 k)/\Env m' Mb Lb v' cur/\NewF m0 v' cur
theorem Xc (k:Nat):((List.range k).flatMap λ_=>[zU])=lsR (List.replicate k u0):=by
 rw[YY]
 unfold grR lsR
 rw[List.map_nil,List.nil_append,List.length_nil,Nat.sub_zero,List.map_replicate]
 rfl
abbrev Z13:List Value:=[zI,zS,zI,zS,zI,zI,zI,zU,.bool false,.bool false,.bool false,zU,.bool false]
theorem Xi {m0 m:M}{σ:List (Nat × List Value)}{Bt k:Nat}{v':Value}{cur:List Ac}(st:St m0 m ((Bt,[iv k,v'])::σ))(hR:Rd m v' 11 qd cur)(hok:∀a∈cur,AcOK m a)(hF:NewF m0 v' cur)(hk:k<=24){x:Ex}{kn:K}{ke:Nat->K}{t:Tm}(t6:Tm.get 6 t=.pointer (some ⟨Bt,0,none⟩)) :
  Ret m0 (NewP m0 k cur) (Vk x kn ke (kO [.t 4,.t 5]) t m):=by
 have l2:loads m ⟨Bt,0,none⟩ 2=some [iv k,v']:=(st.get 0 rfl).2.2.loads (n:=2) (by simp)
 have l1:∀o s,load1 m ⟨Bt,o,s⟩=[iv k,v'][o]?:=λo s=>(st.get 0 rfl).2.2.load1 o s
 have mk:=bg (n:=k) (e:=1) (bytes:=8) (zs:=[zU]) rfl (by omega) (by unfold most;omega) (by omega) m
 rw[Xc]at mk
 obtain⟨m1,hm1⟩:=qhd (Dx.newRow m (lsR (List.replicate k u0)))
 rw[<-hm1]at mk
 obtain⟨a,n,c,rfl⟩:∃a n c,v'=.slice a n c:=by
  have:=hR.len
  cases v' with
  | slice a n c=>exact⟨a,n,c,rfl⟩
  | _=>cases this
 obtain⟨R,hRw⟩:∃R:List Value,R=[.int .i64 k,.slice a n c,zI,.slice (some ⟨m.n,0,some 3⟩) k k,zI,zI,zI,zU,.bool false,.bool false,.bool false,zU,.bool false]:=⟨_,rfl⟩
 have b:qW Z13 [(0,2,.agg ⟨[iv k,.slice a n c]⟩),(3,1,.slice (some ⟨m.n,0,some (code 1 true)⟩) k k)]=some (.agg ⟨R⟩):=by rw[hRw];rfl
 obtain⟨m2,hm2⟩:=qhd (Dx.newRow m1 R)
 have st1:=st.row (lsR (List.replicate k u0))
 rw[<-hm1]at st1
 have st2:=st1.row R
 rw[<-hm2]at st2
 have hn1:m1.n=m.n+1:=by rw[hm1];exact qz _ _
 have E2:Ext m m2:=by rw[hm2,hm1];exact (Ext.row _ _).trans (Ext.row _ _)
 have hm0:=st.ext.n
 have hrow:qF k (.slice a n c) (lvV m.n k) (ms0 k)=R:=by rw[hRw];rfl
 have S2:Sees m m2:=((Sees.refl (by rw[st.ext.base];exact qgz st.base hm0)).ext E2)
 simp[t6,l2,l1,qe,mk,b,<-hm2]
 refine yK st2.ext ⟨m1.n,m.n,.slice a n c,by simp,by omega,by omega,by omega,⟨by rw[hrow];exact (st2.get 0 rfl).2.2,(st2.get 1 rfl).2.2,List.length_replicate,(st2.get 0 rfl).2.1,(st2.get 1 rfl).2.1⟩,⟨hR.sees S2,λB hB=>?_,λx hx=>⟨(hok x hx).sees S2,?_,?_,?_⟩⟩,hF⟩
 .have:=hR.lt B hB
  simp;omega
 .intro B hB
  have:=(hok x hx).ix.lt B hB
  simp;omega
 .intro B hB
  have:=(hok x hx).ev.lt B hB
  simp;omega
 .intro B hB
  have:=(hok x hx).fv.lt B hB
  simp;omega
theorem xC {α:Type}{e:Nat}{f:α->List Value}(hf:∀x,(f x).length=e){o:Nat}(ho:o<e){v:Value}:∀{l:List α} {i:Nat} {a a':α},l[i]?=some a->f a'=(f a).set o v->(l.flatMap f).set (i*e+o) v=(l.set i a').flatMap f
 | [],i,a,a',h,_=>by simp at h
 | x::l,0,a,a',h,h2=>by
  simp at h;subst h
  rw[Nat.zero_mul,Nat.zero_add,List.set_cons_zero,List.flatMap_cons,List.flatMap_cons,List.set_append_left _ _ (by rw[hf];exact ho),h2]
 | x::l,i+1,a,a',h,h2=>by
  rw[List.set_cons_succ,List.flatMap_cons,List.flatMap_cons,List.set_append_right _ _ (by rw[hf,Nat.succ_mul];omega),hf,show (i+1)*e+o-e=i*e+o by rw[Nat.succ_mul];omega,xC hf ho (by simpa using h) h2]
end Go.Sx
namespace Go.Sx
open Go.Dx Go.Proofs
set_option maxRecDepth 10000
theorem qdz {k na:Nat}{cells:Int}{a:Ac}(h:AcG k na cells a):a.es.length<=65536/\a.fs.length<=65536/\a.ixs.length<=65536:=by
 have h1:=h.es
 unfold esB at h1
 simp only[qgt]at h1
 have len:∀(p:Bool) (e:List Nd),decide (p=decide (0<e.length))=true->(!p||wU k e)=true->e.length<=65536:=λp e hp he=>by
  have hp':=of_decide_eq_true hp
  cases p with
  | true=>simp at he;exact (dc he).2.1
  | false =>
   have:¬0<e.length:=of_decide_eq_false hp'.symm
   omega
 refine⟨len _ _ h1.1.1.1 h1.1.2,len _ _ h1.1.1.2 h1.2,?_⟩
 have h2:=h.pl
 unfold plB at h2
 cases hp:pP a.op with
 | true =>
  rw[hp]at h2
  simp only[if_true]at h2
  unfold jL at h2
  simp only[qgt]at h2
  have h3:=h2.2
  by_cases h0:a.size=0
  .rw[if_pos h0]at h3;have:=of_decide_eq_true h3;omega
  .rw[if_neg h0]at h3;exact (dc h3).2.1
 | false =>
  rw[hp]at h2
  simp at h2
  have:=h2.2.2
  rw[this];simp
structure NJ (m0 m:M)(Bc i:Nat)(acts cur:List Ac):Prop where
 len:cur.length=acts.length
 eq:∀(j:Nat) a,acts[j]?=some a->∃a',cur[j]?=some a'/\AcEq a' a/\AcOK m a'
 old:∀(j:Nat),i<=j->cur[j]?=acts[j]?
 own:∀(j:Nat) a',j<i->cur[j]?=some a'->∀B,(blk a'.ix=some B\/blk a'.ev=some B\/blk a'.fv=some B)->Bc<B
theorem AcOK.congr {m m':M}{a:Ac}(h:AcOK m a)(hn:m.n<=m'.n)(k:∀B,(blk a.ix=some B\/blk a.ev=some B\/blk a.fv=some B)->m'.obj B=m.obj B):AcOK m' a :=
 ⟨h.ix.congr hn λB hB=>k B (.inl hB),h.ev.congr hn λB hB=>k B (.inr (.inl hB)),h.fv.congr hn λB hB=>k B (.inr (.inr hB)),h.ixl,h.evl,h.fvl⟩
theorem AcOK.lt {m:M}{a:Ac}(h:AcOK m a):∀B,(blk a.ix=some B\/blk a.ev=some B\/blk a.fv=some B)->B<m.n:=λB hB=>by
 rcases hB with hB | hB | hB
 .exact h.ix.lt B hB
 .exact h.ev.lt B hB
 .exact h.fv.lt B hB
theorem XF {m0:M}{P Q:Value->M->Prop}{o:Option Out}(h:Ret m0 P o)(k:∀v m',P v m'->Q v m'):Ret m0 Q o:=let ⟨v,m',e,h1,h2⟩:=h;⟨v,m',e,h1,k v m' h2⟩
theorem _root_.Go.Dx.St.add {m0 m:M}{σ:List (Nat × List Value)}{B:Nat}{l:List Value}(h:St m0 m σ)(h1:m0.n<=B)(h2:B<m.n)(h3:Arr m B l)(h4:∀p∈σ,p.1≠B):St m0 m ((B,l)::σ):=by
 refine⟨h.ext,h.base,λp hp=>?_,?_⟩
 .rcases List.mem_cons.1 hp with rfl | hp
  .exact⟨h1,h2,h3⟩
  .exact h.arr p hp
 .rw[List.map_cons,List.nodup_cons]
  refine⟨λhm=>?_,h.nd⟩
  obtain⟨q,hq,e⟩:=List.mem_map.1 hm
  exact h4 q hq e
theorem New_c (p:Pg)(th:Int)(N:Nat)(m:M)(hm:m.base<=m.n)(hp:PgOK m p) :
  Dx.Call (ex Tryz.prog (N+6)) 26 [pgV p,iv th] m λv m' =>
   if pgB p=true/\0<=th/\th<p.ths.length then ∃t cur,p.ths[th.toNat]?=some t/\cur.length=t.acts.length/\(∀(j:Nat) a,t.acts[j]?=some a->∃a',cur[j]?=some a'/\AcEq a' a)/\NewP m t.loc.toNat cur v m'
   else v=.tuple #[.pointer none,iv 1]:=by
 refine qy dc1_ok (by simp) ?_
 obtain⟨n,hn⟩:=qhd (p.ths.length)
 have hll:za p.tv=some (.int .i64 (n:Int)):=by rw[hn];exact hp.tv.len
 have st1:=(St.nil hm (Ext.refl m)).row [iv p.cells,p.tv]
 obtain⟨m1,hm1⟩:=qhd (Dx.newRow m [iv p.cells,p.tv])
 rw[<-hm1]at st1
 have l2:loads m1 ⟨m.n,0,none⟩ 2=some [iv p.cells,p.tv]:=(st1.get 0 rfl).2.2.loads (n:=2) (by simp)
 obtain⟨v2,m2,c1,c2,rfl⟩:=YG p N m1 st1.sees.self.base (hp.sees st1.sees)
 have st2:=st1.step c2
 have l1:∀o s,load1 m2 ⟨m.n,o,s⟩=[iv p.cells,p.tv][o]?:=λo s=>(st2.get 0 rfl).2.2.load1 o s
 have hpv:pgV p=.agg ⟨[iv p.cells,p.tv]⟩:=rfl
 rw[hpv]at c1 ⊢
 rw[<-hn]
 cases hB:pgB p with
 | false =>
  rw[hB]at c1
  rw[show (λ(v:Value) (m':M)=>if false=true/\0<=th/\th<(n:Int) then _ else v=.tuple #[.pointer none,iv 1])=λ(v:Value) (m':M)=>v=.tuple #[.pointer none,iv 1] from funext λv=>funext λm'=>if_neg (by simp)]
  simp[<-hm1,l2,qe,c1]
  exact yK st2.ext (by simp)
 | true =>
 rw[hB]at c1
 by_cases h0:th<0
 .have e0:(th<0)=True:=eq_true h0
  rw[show (λ(v:Value) (m':M)=>if true=true/\0<=th/\th<(n:Int) then _ else v=.tuple #[.pointer none,iv 1])=λ(v:Value) (m':M)=>v=.tuple #[.pointer none,iv 1] from funext λv=>funext λm'=>if_neg (by omega)]
  simp[<-hm1,l2,qe,c1,e0]
  exact yK st2.ext (by simp)
 have e0:(th<0)=False:=eq_false h0
 by_cases h1:(n:Int)<=th
 .have e1:((n:Int)<=th)=True:=eq_true h1
  rw[show (λ(v:Value) (m':M)=>if true=true/\0<=th/\th<(n:Int) then _ else v=.tuple #[.pointer none,iv 1])=λ(v:Value) (m':M)=>v=.tuple #[.pointer none,iv 1] from funext λv=>funext λm'=>if_neg (by omega)]
  simp[<-hm1,l2,qe,c1,e0,l1,hll,e1]
  exact yK st2.ext (by simp)
 have e1:((n:Int)<=th)=False:=eq_false h1
 obtain⟨T,hT⟩:∃T:Nat,th=T:=⟨th.toNat,by omega⟩
 obtain⟨t,ht⟩:∃t,p.ths[T]?=some t:=⟨_,qgn (by omega)⟩
 have htok:=hp.ths t (qgo ht)
 have htB:thB p.cells t=true:=by
  unfold pgB at hB
  simp only[qgt]at hB
  exact List.all_eq_true.1 hB.2.2 t (qgo ht)
 unfold thB at htB
 simp only[qgt,decide_eq_true_eq]at htB
 obtain⟨⟨hl0,hl1⟩,htl,hacts⟩:=htB
 have hac:∀a∈t.acts,AcG t.loc.toNat t.acts.length p.cells a:=λa ha=>Df (List.all_eq_true.1 hacts a ha)
 obtain⟨k,hk⟩:=qhd (t.loc.toNat)
 have hkl:t.loc=(k:Int):=by omega
 have hT':th.toNat=T:=by omega
 rw[show (λ(v:Value) (m':M)=>if true=true/\0<=th/\th<(n:Int) then (∃t cur,p.ths[th.toNat]?=some t/\cur.length=t.acts.length/\(∀(j:Nat) a,t.acts[j]?=some a->∃a',cur[j]?=some a'/\AcEq a' a)/\NewP m t.loc.toNat cur v m') else v=.tuple #[.pointer none,iv 1])=λ(v:Value) (m':M)=>(∃t cur,p.ths[th.toNat]?=some t/\cur.length=t.acts.length/\(∀(j:Nat) a,t.acts[j]?=some a->∃a',cur[j]?=some a'/\AcEq a' a)/\NewP m t.loc.toNat cur v m') from funext λv=>funext λm'=>if_pos ⟨rfl,by omega,by omega⟩]
 suffices H:Ret m (λv m'=>∃cur:List Ac,cur.length=t.acts.length/\(∀(j:Nat) a,t.acts[j]?=some a->∃a',cur[j]?=some a'/\AcEq a' a)/\NewP m k cur v m') (Vl (ex Tryz.prog (N+5)) (kO [.t 4,.t 5]) noK (kO [.t 4,.t 5]) (jl .blank 0 [.agg ⟨[iv p.cells,p.tv]⟩,iv th]) m) by
  obtain⟨v,m',e,e2,cur,q1,q2,q3⟩:=H
  exact⟨v,m',e,e2,t,cur,by rw[hT'];exact ht,q1,q2,by rw[<-hk];exact q3⟩
 have ⟨a1,a2,_⟩:=hp.tv.at ht
 rw[<-hT]at a1
 have a2':=a2 m2 st2.sees
 simp only[FW]at a2'
 rw[hkl]at a2'
 have st3:=st2.row [zI,zS]
 obtain⟨m3,hm3⟩:=qhd (Dx.newRow m2 [zI,zS])
 rw[<-hm3]at st3
 obtain⟨m4,f1,f2,f3,f4⟩:=st3.fill 0 rfl (n:=2) (l':=[iv k,t.av]) rfl rfl (by simp[okC];exact htok.av.okV)
 have l4:∀o s,load1 m4 ⟨m2.n,o,s⟩=[iv k,t.av][o]?:=λo s=>(f2.get 0 rfl).2.2.load1 o s
 obtain⟨v5,m5,g1,g2,g3,g4,g5⟩:=BQ (N+4) t.av t.acts htl m4 f2.sees.self.base (htok.av.sees f2.sees)
 have st5:=f2.step g2
 have okv5:okC v5=true:=g3.okV
 obtain⟨m6,i1,i2,i3,i4⟩:=st5.store 0 rfl (o:=1) (v:=v5) (by simp) okv5
 have st6:St m m6 [(m2.n,[iv k,v5]),(m.n,[iv p.cells,p.tv])]:=i2
 have h25:m2.n<m4.n:=by rw[f3,hm3,qz];omega
 have hlt5:∀B,blk v5=some B->B≠m2.n:=λB hB=>by have:=(g4 B hB).1;omega
 have R6:Rd m6 v5 11 qd t.acts:=g3.congr (by rw[i3];exact qgq _) λB hB=>i4 B (hlt5 B hB)
 have l6:∀o s,load1 m6 ⟨m2.n,o,s⟩=[iv k,v5][o]?:=λo s=>(st6.get 0 rfl).2.2.load1 o s
 obtain⟨na,hna⟩:=qhd (t.acts.length)
 have hal:za v5=some (.int .i64 (na:Int)):=by rw[hna];exact R6.len
 simp[<-hm1,l2,qe,c1,e0,l1,hll,e1,a1,a2',<-hm3,f1,l4,g1,i1,l6,hal,-bV]
 by_cases hz:t.acts=[]
 .-- no acts
  have hna0:na=0:=by rw[hna,hz];rfl
  refine qR (c:=Vj) rfl (Ret m _) (λi T' m'=>m'=m6/\Tm.get 6 T'=.pointer (some ⟨m2.n,0,none⟩)/\Tm.get 34 T'=iv na/\Tm.get 35 T'=iv 0) 0 (by omega)
   ⟨rfl,by simp,by simp,by simp⟩ (λi T' m' k' hi hI hk'=>?_)
  obtain⟨rfl,t6,t34,t35⟩:=hI
  have hd:((0:Int)<(na:Int))=False:=eq_false (by omega)
  have hd':(0<na)=False:=eq_false (by omega)
  simp[t34,t35,hd,hd',-bV]
  exact XF (Xi (σ:=[(m.n,[iv p.cells,p.tv])]) st6 R6 (λa ha=>by rw[hz]at ha;cases ha) ⟨λB hB=>by have:=(g4 B hB).1;have:=f2.ext.n;omega,λa ha=>by rw[hz]at ha;cases ha⟩ (by omega) (by simp[t6])) (λv m' h=>⟨t.acts,rfl,λj a hj=>⟨a,hj,AcEq.refl a⟩,h⟩)
 .obtain⟨Bc,hv5⟩:=g5 hz
  obtain⟨hBc,hArr⟩:=g4 Bc (by rw[hv5];rfl)
  have hBc6:Bc<m6.n:=R6.lt Bc (by rw[hv5];rfl)
  have hmn2:m.n<=m2.n:=st2.ext.n
  have hmm2:m.n<m2.n:=(st2.get 0 rfl).2.1
  have st6c:St m m6 [(Bc,t.acts.flatMap qd),(m2.n,[iv k,v5]),(m.n,[iv p.cells,p.tv])]:=by
   refine st6.add (by omega) hBc6 (hArr.congr (i4 Bc (hlt5 Bc (by rw[hv5];rfl)))) (λq hq=>?_)
   rcases List.mem_cons.1 hq with rfl | hq
   .show m2.n≠Bc;omega
   .rw[qgu.1 hq];show m.n≠Bc;omega
  have hap0:∀a∈t.acts,AcOK m a:=htok.acts
  rw[<-hna]at hv5
  have hnal:na<=65536:=by rw[hna];exact htl
  have ix:∀j,j<na->wZ 11 v5 (.int .i64 (j:Int))=some (.pointer (some ⟨Bc,j*11,none⟩)):=λj hj=>by rw[hv5];exact yg Bc na j hj
  refine qR (c:=Vj) rfl (Ret m _) (λi T' m'=>∃cur,St m m' [(Bc,cur.flatMap qd),(m2.n,[iv k,v5]),(m.n,[iv p.cells,p.tv])]/\NJ m m' Bc i t.acts cur/\Tm.get 6 T'=.pointer (some ⟨m2.n,0,none⟩)/\Tm.get 33 T'=v5/\Tm.get 34 T'=iv na/\Tm.get 35 T'=iv i) na (by omega)
   ⟨t.acts,st6c,⟨rfl,λj a hj=>⟨a,hj,AcEq.refl a,(hap0 a (qgo hj)).sees st6.sees⟩,λj _=>rfl,λj a' hj=>absurd hj (Nat.not_lt_zero _)⟩,by simp,by simp,by simp,by simp⟩ (λi T' m' k' hi hI hk'=>?_)
  obtain⟨cur,st,nj,t6,t33,t34,t35⟩:=hI
  have hcl:cur.length=na:=nj.len.trans hna.symm
  by_cases hil:i<na
  .have hd:=dlt hil
   have ni:=wL (i:=i) (by omega)
   obtain⟨ai,hai⟩:∃a,t.acts[i]?=some a:=⟨_,qgn (by omega)⟩
   have hci:cur[i]?=some ai:=(nj.old i (qgq _)).trans hai
   have hmem:=qgo hai
   have haok:=hap0 ai hmem
   have hacg:=hac ai hmem
   obtain⟨el,fl,xl⟩:=qdz hacg
   have hRc:Rd m' v5 11 qd cur:=by
    have:=xJ (c:=code 11 false) zo (st.get 0 rfl).2.2 (st.get 0 rfl).2.1
    rw[hcl]at this
    rw[hv5];exact this
   have ⟨b1,b2,_⟩:=hRc.at hci
   have b2':=b2 m' st.sees.self
   have ixi:=ix i hil
   have hadr:adr 11 v5 i=⟨Bc,i*11,none⟩:=by
    have:=b1.symm.trans ixi
    injection this with this
    injection this with this
    injection this
   rw[hadr]at b2'
   have s1:=st.row Z11
   obtain⟨n1,hn1⟩:=qhd (Dx.newRow m' Z11)
   rw[<-hn1]at s1
   obtain⟨n2,x1,x2,x3,x4⟩:=s1.fill 0 rfl (n:=11) (l':=qd ai) rfl rfl (yn haok)
   have s2:St m n2 [(m'.n,qd ai),(Bc,cur.flatMap qd),(m2.n,[iv k,v5]),(m.n,[iv p.cells,p.tv])]:=x2
   have la2:∀o s,load1 n2 ⟨m'.n,o,s⟩=(qd ai)[o]?:=λo s=>(s2.get 0 rfl).2.2.load1 o s
   have lt2:∀o s,load1 n2 ⟨m2.n,o,s⟩=[iv k,v5][o]?:=λo s=>(s2.get 2 rfl).2.2.load1 o s
   simp only[qd]at la2
   obtain⟨e',n3',y1,y2,y3,y4,y5⟩:=wq (QI (N+4) ai.ev ai.es el (qc n2) (qB s2.sees).base (haok.ev.sees (qB s2.sees)))
   obtain⟨n3,hn3⟩:=qhd (behind n2 n3')
   rw[<-hn3]at y3
   have s3:=s2.step y3
   have y4':Rd n3 e' 4 qP ai.es:=by rw[hn3];exact y4.behind
   have la3:∀o s,load1 n3 ⟨m'.n,o,s⟩=(qd ai)[o]?:=λo s=>(s3.get 0 rfl).2.2.load1 o s
   simp only[qd]at la3
   obtain⟨f',n4',z1,z2,z3,z4,z5⟩:=wq (QI (N+4) ai.fv ai.fs fl (qc n3) (qB s3.sees).base (haok.fv.sees (qB s3.sees)))
   obtain⟨n4,hn4⟩:=qhd (behind n3 n4')
   rw[<-hn4]at z3
   have s4:=s3.step z3
   have z4':Rd n4 f' 4 qP ai.fs:=by rw[hn4];exact z4.behind
   have la4:∀o s,load1 n4 ⟨m'.n,o,s⟩=(qd ai)[o]?:=λo s=>(s4.get 0 rfl).2.2.load1 o s
   simp only[qd]at la4
   obtain⟨x',n5',w1,w2,w3,w4,w5⟩:=wq (QI (N+4) ai.ix ai.ixs xl (qc n4) (qB s4.sees).base (haok.ix.sees (qB s4.sees)))
   obtain⟨n5,hn5⟩:=qhd (behind n4 n5')
   rw[<-hn5]at w3
   have s5:=s4.step w3
   have w4':Rd n5 x' 4 qP ai.ixs:=by rw[hn5];exact w4.behind
   have nn2:n2.n=m'.n+1:=by rw[x3,hn1,qz]
   have nn3:=y3.n
   have nn4:=z3.n
   have nn5:=w3.n
   have hBcm:Bc<m'.n:=(st.get 0 rfl).2.1
   rw[qt]at y5 z5 w5
   have hfl:(cur.flatMap qd).length=na*11:=by rw[wP zo,hcl]
   have hbd:=qh8 11 (Nat.succ_le_of_lt hil)
   rw[Nat.succ_mul]at hbd
   obtain⟨n6',p1,p2,p3,p4,p5⟩:=s5.storeAny 1 rfl (o:=i*11+5) (v:=e') (by rw[hfl];omega) y4.okV
   obtain⟨n6,hn6⟩:=qhd (behind n5 n6')
   rw[<-hn6]at p3 p4 p5
   rw[xC zo (by omega) hci (show qd { ai with ev:=e' }=(qd ai).set 5 e' from rfl)]at p3
   have hci6:(cur.set i { ai with ev:=e' })[i]?=some { ai with ev:=e' }:=by rw[qh7 (by omega)]
   obtain⟨n7',q1,q2,q3,q4,q5⟩:=p3.storeAny 1 rfl (o:=i*11+6) (v:=f') (by rw[wP zo,List.length_set,hcl];omega) z4.okV
   obtain⟨n7,hn7⟩:=qhd (behind n6 n7')
   rw[<-hn7]at q3 q4 q5
   have q3':St m n7 (List.set [(m'.n,qd ai),(Bc,(cur.set i { ai with ev:=e' }).flatMap qd),(m2.n,[iv k,v5]),(m.n,[iv p.cells,p.tv])] 1 (Bc,((cur.set i { ai with ev:=e' }).flatMap qd).set (i*11+6) f')):=q3
   rw[xC zo (by omega) hci6 (show qd { ai with ev:=e',fv:=f' }=(qd { ai with ev:=e' }).set 6 f' from rfl),List.set_set]at q3'
   have hci7:(cur.set i { ai with ev:=e',fv:=f' })[i]?=some { ai with ev:=e',fv:=f' }:=by rw[qh7 (by omega)]
   obtain⟨n8',r1,r2,r3,r4,r5⟩:=q3'.storeAny 1 rfl (o:=i*11+4) (v:=x') (by rw[wP zo,List.length_set,hcl];omega) w4.okV
   obtain⟨n8,hn8⟩:=qhd (behind n7 n8')
   rw[<-hn8]at r3 r4 r5
   have r3':St m n8 (List.set [(m'.n,qd ai),(Bc,(cur.set i { ai with ev:=e',fv:=f' }).flatMap qd),(m2.n,[iv k,v5]),(m.n,[iv p.cells,p.tv])] 1 (Bc,((cur.set i { ai with ev:=e',fv:=f' }).flatMap qd).set (i*11+4) x')):=r3
   obtain⟨a',ha'⟩:∃a':Ac,a'={ ai with ix:=x',ev:=e',fv:=f' }:=⟨_,rfl⟩
   rw[xC zo (by omega) hci7 (show qd a'=(qd { ai with ev:=e',fv:=f' }).set 4 x' by rw[ha'];rfl),List.set_set]at r3'
   have st8:St m n8 [(Bc,(cur.set i a').flatMap qd),(m2.n,[iv k,v5]),(m.n,[iv p.cells,p.tv])]:=r3'.sub (by intro q hq;exact qgy _ hq) (by have:=r3'.nd;simp only[List.set_cons_succ,List.set_cons_zero,List.map_cons,List.map_nil,List.nodup_cons]at this ⊢;exact this.2)
   have n58:n8.n=n5.n:=by rw[r4,q4,p4]
   have keep5:∀B,B≠Bc->n8.obj B=n5.obj B:=λB hB=>by rw[r5 B hB,q5 B hB,p5 B hB]
   have keep2:∀B,B<n2.n->n5.obj B=n2.obj B:=λB hB=>by rw[w3.obj B (by omega),z3.obj B (by omega),y3.obj B (by omega)]
   have keep1:∀B,B<m'.n->n2.obj B=m'.obj B:=λB hB=>by
    rw[x4 B (by omega),hn1]
    exact (Ext.row m' Z11).obj B hB
   have keep:∀B,B<m'.n->B≠Bc->n8.obj B=m'.obj B:=λB hB hne=>by rw[keep5 B hne,keep2 B (by omega),keep1 B hB]
   have hR8:∀{v:Value} {es:List Nd} {mm:M},Rd mm v 4 qP es->mm.n<=n5.n->(∀B,B<mm.n->n5.obj B=mm.obj B)->(∀B,blk v=some B->n2.n<=B)->Rd n8 v 4 qP es:=λ{v es mm} hv hmm hob hlo=>hv.congr (by omega) λB hB=>by
    rw[keep5 B (by have:=hlo B hB;omega),hob B (hv.lt B hB)]
   have ok':AcOK n8 a':=by
    rw[ha']
    exact⟨hR8 w4' (qgq _) (λ_ _=>rfl) (λB hB=>by have:=w5 B hB;omega),hR8 y4' (by omega) (λB hB=>by rw[w3.obj B (by omega),z3.obj B hB]) (λB hB=>y5 B hB),hR8 z4' (by omega) (λB hB=>w3.obj B hB) (λB hB=>by have:=z5 B hB;omega),haok.ixl,haok.evl,haok.fvl⟩
   have nj8:NJ m n8 Bc (i+1) t.acts (cur.set i a'):=by
    refine⟨by rw[List.length_set];exact nj.len,λj a hj=>?_,λj hj=>?_,λj b hj hb=>?_⟩
    .by_cases hji:j=i
     .subst hji
      rw[hai]at hj;cases hj
      exact⟨a',qh7 (by omega),⟨x',e',f',ha'⟩,ok'⟩
     .obtain⟨b,hb1,hb2,hb3⟩:=nj.eq j a hj
      refine⟨b,by rw[qhb (Ne.symm hji)];exact hb1,hb2,?_⟩
      by_cases hlt:j<i
      .exact hb3.congr (by omega) λB hB=>keep B (hb3.lt B hB) (by have:=nj.own j b hlt hb1 B hB;omega)
      .have:b=a:=by
        have:=nj.old j (by omega)
        rw[hb1,hj]at this
        exact Option.some.inj this
       subst this
       exact (hap0 b (qgo hj)).sees st8.sees
    .rw[qhb (by omega)];exact nj.old j (by omega)
    .by_cases hji:j=i
     .subst hji
      rw[qh7 (by omega)]at hb
      cases hb
      intro B hB
      rw[ha']at hB
      rcases hB with hB | hB | hB
      .have:=w5 B hB;omega
      .have:=y5 B hB;omega
      .have:=z5 B hB;omega
     .rw[qhb (Ne.symm hji)]at hb
      exact nj.own j b (by omega) hb
   have hne1:¬m2.n=Bc:=by omega
   have hne2:¬Bc=m2.n:=by omega
   simp[t6,t33,t34,t35,hd,b2',qe,<-hn1,x1,la2,lt2,y1,y2,<-hn3,la3,z1,z2,<-hn4,la4,w1,w2,<-hn5,ixi,p1,p2,<-hn6,q1,q2,<-hn7,r1,r2,<-hn8,hne1,hne2,ni]
   exact hk' hil _ _ ⟨cur.set i a',st8,nj8,by simp[t6],by simp[t33],by simp[t34],by simp⟩
  .obtain rfl:i=na:=by omega
   have hd:((i:Int)<(i:Int))=False:=eq_false (by omega)
   simp[t6,t33,t34,t35,hd,-bV]
   have st':St m m' ((m2.n,[iv k,v5])::[(m.n,[iv p.cells,p.tv])]):=st.sub (by intro q hq;exact qgy _ hq) (by have:=st.nd;simp only[List.map_cons,List.map_nil,List.nodup_cons]at this ⊢;exact this.2)
   have hRc:Rd m' v5 11 qd cur:=by
    have:=xJ (c:=code 11 false) zo (st.get 0 rfl).2.2 (st.get 0 rfl).2.1
    rw[hcl]at this
    rw[hv5];exact this
   refine XF (Xi st' hRc (λa ha=>?_) ⟨λB hB=>?_,λa ha B hB=>?_⟩ (by omega) (by simp[t6])) (λv m' h=>⟨cur,nj.len,λj a hj=>let ⟨b,h1,h2,_⟩:=nj.eq j a hj;⟨b,h1,h2⟩,h⟩)
   .obtain⟨j,hj⟩:=qh9 ha
    have hjl:=(qgp.1 hj).1
    obtain⟨b,h1,_,h3⟩:=nj.eq j _ (qgn (show j<t.acts.length by omega))
    rw[hj]at h1;cases h1
    exact h3
   .have:=(g4 B hB).1;have:=f2.ext.n;omega
   .obtain⟨j,hj⟩:=qh9 ha
    have hjl:=(qgp.1 hj).1
    have:=nj.own j a (by omega) hj B hB
    have:=f2.ext.n
    omega
end Go.Sx
namespace Go.Sx
open Go.Dx Go.Proofs
set_option maxRecDepth 10000
variable [Cdf]
def jP:Wt:=⟨5,0,0,u0,false⟩
def vt:Wt:=⟨6,0,0,u0,false⟩
def adv (acts:List Ac):Nat->Ms->Ms
 | f,s=>match acts[s.at_]? with
  | none=>s
  | some a=>if ownB a then (match f with
   | 0=>s
   | f+1=>adv acts f (xU s a)) else s
def ja (acts:List Ac)(s:Ms):Wt:=match acts[s.at_]? with
 | none=>jP
 | some a=>if ownB a then vt else qU s a
def Qk (acts:List Ac)(s:Ms):Ms:={ s with now:=ja acts s }
def qI (acts:List Ac)(s:Ms):Ms:=if s.asked=true/\s.now.what≠6 then s else Qk acts (adv acts 100000 { s with asked:=true })
theorem QL {acts:List Ac}{s:Ms}(f:Nat)(h:acts[s.at_]?=none):adv acts f s=s:=by unfold adv;rw[h]
theorem QM {acts:List Ac}{s:Ms}{a:Ac}(f:Nat)(h:acts[s.at_]?=some a)(ho:ownB a=false):adv acts f s=s:=by unfold adv;rw[h];simp[ho]
theorem YH {acts:List Ac}{s:Ms}{a:Ac}(f:Nat)(h:acts[s.at_]?=some a)(ho:ownB a=true):adv acts (f+1) s=adv acts f (xU s a):=by conv=>lhs;unfold adv;rw[h];simp[ho]
theorem Jw {acts:List Ac}{s:Ms}:adv acts 0 s=s:=by
 unfold adv
 cases acts[s.at_]? with
 | none=>rfl
 | some a=>simp
section
variable {k na:Nat}{cells:Int}{a:Ac}{av:Value}{s:Ms}{Mb Lb R2:Nat}{m m0:M}{acts:List Ac}
def PN (m0:M)(Mb Lb k:Nat)(av:Value)(S:Ms)(v:Value)(m':M):Prop:=Mc m0 m' [Mb,Lb]/\MsAt m' Mb Lb k av S/\v=.agg ⟨wtL S.now⟩
abbrev nS (R2 Mb Lb k:Nat)(av:Value)(s:Ms):List (Nat × List Value):=[(R2,Z6),(Mb,qF k av (lvV Lb k) s),(Lb,lsR s.ls)]
theorem qbt (hg:AcG k na cells a)(how:ownB a=true)(hat:s.at_<na):(xU s a).at_<=na:=by
 have hop:=of_decide_eq_true how
 unfold xU
 split
 .show s.at_+1<=na;omega
 .split
  .have:=hg.t (show pT a.op=true by unfold pT;exact decide_eq_true (by omega))
   show a.to.toNat<=na;omega
  .have:=hg.t (show pT a.op=true by unfold pT;exact decide_eq_true (by omega))
   show (if (jk s.ls a.es).1=0 then a.to.toNat else s.at_+1)<=na
   by_cases hz:(jk s.ls a.es).1=0
   .rw[if_pos hz];omega
   .rw[if_neg hz];omega
theorem Fv (s:Ms)(a:Ac):(xU s a).ls.length=s.ls.length:=by
 unfold xU
 split
 .show (s.ls.set _ _).length=_;simp
 .split<;>rfl
theorem Ow.mach {σ:List (Nat × List Value)}{m':M}{s':Ms}(h:Ow m0 m [Mb,Lb] (σ++[(Mb,qF k av (lvV Lb k) s),(Lb,lsR s.ls)]))(kk:Mc m m' [Mb,Lb])(hM:MsAt m' Mb Lb k av s'):Ow m0 m' [Mb,Lb] (σ++[(Mb,qF k av (lvV Lb k) s'),(Lb,lsR s'.ls)]):=by
 have hnd:=h.nd
 refine h.call kk (λp hp=>?_) (by simpa using hnd)
 rcases qhc.1 hp with hp | hp
 .obtain⟨_,h2,h3⟩:=h.arr p (List.mem_append_left _ hp)
  refine⟨⟨p,List.mem_append_left _ hp,rfl⟩,h3.congr (kk.obj _ h2 ?_)⟩
  rw[List.map_append,List.nodup_append]at hnd
  have:=hnd.2.2 p.1 (List.mem_map.2 ⟨p,hp,rfl⟩)
  simp at this ⊢
  exact this
 .simp only[List.mem_cons,List.not_mem_nil,or_false]at hp
  rcases hp with rfl | rfl
  .exact⟨⟨_,List.mem_append_right _ (qh6 ..),rfl⟩,hM.row⟩
  .exact⟨⟨_,List.mem_append_right _ (qgy _ (qh6 ..)),rfl⟩,hM.ls⟩
theorem Ya (hc:cells<=4096)(hE:Env m0 Mb Lb av acts)(hg:AcG k na cells a)(hat:s.at_<9223372036854775807)(ha:acts[s.at_]?=some a)(hl:s.ls.length=k)(hne:Mb≠Lb)
  (h:Ow m0 m [Mb,Lb] (nS R2 Mb Lb k av s)) {t:Tm} {j:Nat} (t0:Tm.get 0 t=mP Mb) (t2:Tm.get 2 t=.pointer (some ⟨R2,0,none⟩)) (t25:Tm.get 25 t=iv j) {N:Nat} {kn:K} {ke:Nat->K} {S:Ms}
  (hS:ownB a=false->S={ s with now:=qU s a })
  (H:ownB a=true->∀t' m',Tm.get 0 t'=mP Mb->Tm.get 2 t'=.pointer (some ⟨R2,0,none⟩)->Tm.get 25 t'=iv j->Ow m0 m' [Mb,Lb] (nS R2 Mb Lb k av (xU s a))->xY (PN m0 Mb Lb k av S) (kn t' m')) :
  xY (PN m0 Mb Lb k av S) (Vr (ex Tryz.prog (N+5)) kn ke (kO [.cell 2 6]) t m):=by
 have hM:MsAt m Mb Lb k av s:=Ow.msAt h 1 2 rfl rfl hl
 have hEm:=hE.mc h.mc
 have hm:=h.mb
 obtain⟨v3,m3,c1,c2,rfl⟩:=Dg hEm hM ha (N+4) hm
 have ow3:=h.step c2
 have ow4:=ow3.row Z11
 obtain⟨m4,hm4⟩:=qhd (Dx.newRow m3 Z11)
 rw[<-hm4]at ow4
 have haok:=hEm.ok a (qgo ha)
 obtain⟨m5,g1,g3,g4,g5⟩:=ow4.storeN 0 rfl (o:=0) (l':=qd a) (n:=11) (by omega) rfl (by simp) (yn haok.1)
 have ow5:Ow m0 m5 [Mb,Lb] ((m3.n,qd a)::nS R2 Mb Lb k av s):=by
  have h:=g3
  rw[kG (by rfl)]at h
  exact h
 have l5:∀o s',load1 m5 ⟨m3.n,o,s'⟩=(qd a)[o]?:=λo s'=>(ow5.get 0 rfl).2.2.load1 o s'
 simp only[qd]at l5
 have E5:=hE.mc ow5.mc
 have hM5:MsAt m5 Mb Lb k av s:=Ow.msAt ow5 2 3 rfl rfl hl
 obtain⟨v6,m6',d1,d2,d3,rfl⟩:=wq (Gd (N+4) (qc m5) (qB (Sees.refl ow5.mb)).base)
 obtain⟨m6,hm6⟩:=qhd (behind m5 m6')
 rw[<-hm6]at d3
 have ow6:=ow5.step d3
 have l6:∀o s',load1 m6 ⟨m3.n,o,s'⟩=(qd a)[o]?:=λo s'=>(ow6.get 0 rfl).2.2.load1 o s'
 simp only[qd]at l6
 have l6n:loads m6 ⟨m3.n,0,none⟩ 11=some (qd a):=(ow6.get 0 rfl).2.2.loads (n:=11) (by simp[qd])
 have E6:=E5.ext d3
 have hM6:=hM5.ext d3
 have haok6:=E6.ok a (qgo ha)
 have hwi:=Ge hg.op.1 hg.op.2
 cases how:ownB a with
 | true =>
  have ok6:=(E6.any ow6.mb).ok a (qgo ha)
  obtain⟨v7,m7',e1,e2,e3,rfl⟩:=Bj hg how (N+1) (qB (Sees.refl ow6.mb)).base hne hM6.any hat ok6.1 ok6.2
  obtain⟨m7,hm7⟩:=qhd (behind m6 m7')
  have e2':=e2.behind
  rw[<-hm7]at e2'
  have e3':MsAt m7 Mb Lb k av (xU s a):=e3.congr (by rw[hm7,wb];exact qgq _) (by rw[hm7,qx]) (by rw[hm7,qx])
  have ow7:Ow m0 m7 [Mb,Lb] ((m3.n,qd a)::nS R2 Mb Lb k av (xU s a)):=Ow.mach (σ:=[(m3.n,qd a),(R2,Z6)]) ow6 e2' e3'
  have ow8:=ow7.row Z6
  obtain⟨m8,hm8⟩:=qhd (Dx.newRow m7 Z6)
  rw[<-hm8]at ow8
  obtain⟨m9',i1,i2,i3,i4,i5⟩:=ow8.storeNAny 0 rfl (o:=0) (l':=Z6) (n:=6) (by omega) rfl (by simp) (by simp[okC])
  obtain⟨m9,hm9⟩:=qhd (behind m8 m9')
  rw[<-hm9]at i3
  have ow9:Ow m0 m9 [Mb,Lb] ((m7.n,Z6)::(m3.n,qd a)::nS R2 Mb Lb k av (xU s a)):=by
   have h:=i3
   rw[kG (by rfl)]at h
   exact h
  have l9n:loads m9 ⟨m3.n,0,none⟩ 11=some (qd a):=(ow9.get 1 rfl).2.2.loads (n:=11) (by simp[qd])
  obtain⟨v10,m10,j1,j2,rfl⟩:=qbu a (N+4) m9
  rw[how]at j1
  have ow10:=ow9.step j2
  have ow11:=ow10.sub (σ':=nS R2 Mb Lb k av (xU s a)) (λp hp=>qgy _ (qgy _ hp)) (by have:=ow10.nd;simp only[List.map_cons,List.nodup_cons]at this ⊢;exact this.2.2)
  simp[t0,t2,t25,c1,<-hm4,g1,l5,d1,d2,<-hm6,yZ,l6,hwi,l6n,qe,e1,<-hm7,<-hm8,i1,i2,<-hm9,l9n,j1]
  exact H how _ _ (by simp[t0]) (by simp[t2]) (by simp[t25]) ow11
 | false =>
  obtain⟨v7,m7',e1,e2,e3,rfl⟩:=wq (qd7 hc hg how N (qB (Sees.refl ow6.mb)).base hM6.any (haok6.1.sees (qB (Sees.refl ow6.mb))))
  obtain⟨m7,hm7⟩:=qhd (behind m6 m7')
  rw[<-hm7]at e3
  have ow7:=ow6.step e3
  have hS':=hS how
  obtain⟨w,hw⟩:=qhd (qU s a)
  rw[<-hw]at e1 hS'
  have ow8:=ow7.row Z6
  obtain⟨m8,hm8⟩:=qhd (Dx.newRow m7 Z6)
  rw[<-hm8]at ow8
  obtain⟨m9',i1,i2,i3,i4,i5⟩:=ow8.storeNAny 0 rfl (o:=0) (l':=wtL w) (n:=6) (by omega) rfl (by simp) (vY w)
  obtain⟨m9,hm9⟩:=qhd (behind m8 m9')
  rw[<-hm9]at i3
  have ow9:Ow m0 m9 [Mb,Lb] ((m7.n,wtL w)::(m3.n,qd a)::nS R2 Mb Lb k av s):=by
   have h:=i3
   rw[kG (by rfl)]at h
   exact h
  have l9n:loads m9 ⟨m3.n,0,none⟩ 11=some (qd a):=(ow9.get 1 rfl).2.2.loads (n:=11) (by simp[qd])
  obtain⟨v10,m10,j1,j2,rfl⟩:=qbu a (N+4) m9
  rw[how]at j1
  have ow10:=ow9.step j2
  have l10:loads m10 ⟨m7.n,0,none⟩ 6=some (wtL w):=(ow10.get 0 rfl).2.2.loads (n:=6) (by simp[wtL])
  obtain⟨m11,n1,n3,n4,n5⟩:=ow10.storeN 3 rfl (o:=4) (l':=wtL w) (n:=6) (by omega) rfl (by simp[qF]) (vY w)
  have l11:loads m11 ⟨m7.n,0,none⟩ 6=some (wtL w):=(n3.get 0 rfl).2.2.loads (n:=6) (by simp[wtL])
  obtain⟨m12,o1,o3,o4,o5⟩:=n3.storeN 2 rfl (o:=0) (l':=wtL w) (n:=6) (by omega) rfl (by simp) (vY w)
  have lf:loads m12 ⟨R2,0,none⟩ 6=some (wtL w):=by
   have:=(o3.get 2 rfl).2.2.loads (o:=0) (s:=none) (n:=6) (by rw[jH];simp)
   rw[kG (by rfl)]at this
   exact this
  have hs:MsAt m12 Mb Lb k av S:=by
   refine Ow.msAt o3 3 4 ?_ (by rw[hS'];rfl) (by rw[hS'];exact hl)
   show some (Mb,over (qF k av (lvV Lb k) s) 4 (wtL w))=_
   rw[hS'];rfl
  simp[t0,t2,t25,c1,<-hm4,g1,l5,d1,d2,<-hm6,yZ,l6,hwi,l6n,qe,e1,<-hm7,<-hm8,i1,i2,<-hm9,l9n,j1,l10,n1,l11,o1]
  exact zY (a:=⟨R2,0,none⟩) (by simp[t2]) lf ⟨o3.mc,hs,by rw[hS']⟩
theorem ZH (hl:s.ls.length=k)(h:Ow m0 m [Mb,Lb] (nS R2 Mb Lb k av s)){t:Tm}(t0:Tm.get 0 t=mP Mb)(t2:Tm.get 2 t=.pointer (some ⟨R2,0,none⟩)){x:Ex}{kn:K}{ke:Nat->K} :
  xY (PN m0 Mb Lb k av s) (Vs x kn ke (kO [.cell 2 6]) t m):=by
 have l6:loads m ⟨Mb,4,none⟩ 6=some (wtL s.now):=by
  have:=(h.get 1 rfl).2.2.loads (o:=4) (s:=none) (n:=6) (by simp[qF])
  rw[this];rfl
 obtain⟨m4,i1,i3,i4,i5⟩:=h.storeN 0 rfl (o:=0) (l':=wtL s.now) (n:=6) (by omega) rfl (by simp) (vY s.now)
 have hM4:MsAt m4 Mb Lb k av s:=Ow.msAt i3 1 2 rfl rfl hl
 have lf:loads m4 ⟨R2,0,none⟩ 6=some (wtL s.now):=by
  have:=(i3.get 0 rfl).2.2.loads (o:=0) (s:=none) (n:=6) (by rw[jH];simp)
  rw[kG (by rfl)]at this
  exact this
 simp[t0,t2,l6,qe,i1]
 exact zY (a:=⟨R2,0,none⟩) (by simp[t2]) lf ⟨i3.mc,hM4,rfl⟩
theorem GW (hc:cells<=4096)(hE:Env m0 Mb Lb av acts)(hgs:∀a∈acts,AcG k acts.length cells a)(hal:acts.length<=65536)(hat:s.at_<=acts.length)(hl:s.ls.length=k)(hne:Mb≠Lb)
  (h:Ow m0 m [Mb,Lb] (nS R2 Mb Lb k av s)) {t:Tm} (t0:Tm.get 0 t=mP Mb) (t2:Tm.get 2 t=.pointer (some ⟨R2,0,none⟩)) {N:Nat} {kn:K} {ke:Nat->K} {S:Ms} (hS:S=Qk acts s) :
  xY (PN m0 Mb Lb k av S) (Vt (ex Tryz.prog (N+5)) kn ke (kO [.cell 2 6]) t m):=by
 have hlen:za av=some (.int .i64 (acts.length:Int)):=hE.rav.len
 have bf:qW Z6 [(0,1,.int .i64 6)]=some (.agg ⟨wtL vt⟩):=rfl
 obtain⟨m1,g1,g3,g4,g5⟩:=h.storeN 1 rfl (o:=4) (l':=wtL vt) (n:=6) (by omega) rfl (by simp[qF]) (vY vt)
 have ow1:Ow m0 m1 [Mb,Lb] (nS R2 Mb Lb k av { s with now:=vt }):=g3
 have hM1:MsAt m1 Mb Lb k av { s with now:=vt }:=Ow.msAt ow1 1 2 rfl rfl hl
 have lM:∀o s',load1 m1 ⟨Mb,o,s'⟩=(qF k av (lvV Lb k) { s with now:=vt })[o]?:=λo s'=>(ow1.get 1 rfl).2.2.load1 o s'
 simp only[qF]at lM
 have hEm:=hE.mc ow1.mc
 have hm:=ow1.mb
 cases ha:acts[s.at_]? with
 | none =>
  have hge:=List.getElem?_eq_none_iff.1 ha
  have de:decide (((s.at_:Nat):Int)=((acts.length:Nat):Int))=true:=decide_eq_true (by omega)
  have de':decide (s.at_=acts.length)=true:=decide_eq_true (by omega)
  have hSe:S={ s with now:=jP }:=by rw[hS];unfold Qk ja;rw[ha]
  rw[hSe]
  obtain⟨m2,i1,i3,i4,i5⟩:=ow1.store 1 rfl (o:=4) (v:=.int .i64 5) (by simp[qF]) rfl
  have ow2:Ow m0 m2 [Mb,Lb] (nS R2 Mb Lb k av { s with now:=jP }):=i3
  simp[t0,t2,bf,g1,lM,hlen,de,de',i1,-bX]
  exact ZH (s:={ s with now:=jP }) hl ow2 (by simp[t0]) (by simp[t2])
 | some a =>
  have hlt:=(qgp.1 ha).1
  have hmem:=qgo ha
  have hg:=hgs a hmem
  have dne:decide (((s.at_:Nat):Int)=((acts.length:Nat):Int))=false:=decide_eq_false (by omega)
  have dne':decide (s.at_=acts.length)=false:=decide_eq_false (by omega)
  obtain⟨v3,m3,c1,c2,rfl⟩:=Dg hEm hM1 ha (N+4) hm
  have ow3:=ow1.step c2
  have ow4:=ow3.row Z11
  obtain⟨m4,hm4⟩:=qhd (Dx.newRow m3 Z11)
  rw[<-hm4]at ow4
  have haok:=hEm.ok a hmem
  obtain⟨m5,j1,j3,j4,j5⟩:=ow4.storeN 0 rfl (o:=0) (l':=qd a) (n:=11) (by omega) rfl (by simp) (yn haok.1)
  have ow5:Ow m0 m5 [Mb,Lb] ((m3.n,qd a)::nS R2 Mb Lb k av { s with now:=vt }):=by
   have h:=j3
   rw[kG (by rfl)]at h
   exact h
  have l5n:loads m5 ⟨m3.n,0,none⟩ 11=some (qd a):=(ow5.get 0 rfl).2.2.loads (n:=11) (by simp[qd])
  obtain⟨v6,m6,d1,d2,rfl⟩:=qbu a (N+4) m5
  have ow6:=ow5.step d2
  cases how:ownB a with
  | true =>
   rw[how]at d1
   have hSe:S={ s with now:=vt }:=by rw[hS];unfold Qk ja;rw[ha];simp[how]
   rw[hSe]
   have ow7:=ow6.sub (σ':=nS R2 Mb Lb k av { s with now:=vt }) (λp hp=>qgy _ hp) (by have:=ow6.nd;simp only[List.map_cons,List.nodup_cons]at this ⊢;exact this.2)
   simp[t0,t2,bf,g1,lM,hlen,dne,dne',c1,<-hm4,j1,l5n,qe,d1,-bX]
   exact ZH (s:={ s with now:=vt }) hl ow7 (by simp[t0]) (by simp[t2])
  | false =>
   rw[how]at d1
   have hSe:S={ s with now:=qU s a }:=by rw[hS];unfold Qk ja;rw[ha];simp[how]
   rw[hSe]
   have E6:=hE.mc ow6.mc
   have hM6:MsAt m6 Mb Lb k av { s with now:=vt }:=Ow.msAt ow6 2 3 rfl rfl hl
   obtain⟨v7,m7',e1,e2,e3,rfl⟩:=wq (Gd (N+4) (qc m6) (qB (Sees.refl ow6.mb)).base)
   obtain⟨m7,hm7⟩:=qhd (behind m6 m7')
   rw[<-hm7]at e3
   have ow7:=ow6.step e3
   have l7:∀o s',load1 m7 ⟨m3.n,o,s'⟩=(qd a)[o]?:=λo s'=>(ow7.get 0 rfl).2.2.load1 o s'
   simp only[qd]at l7
   have l7n:loads m7 ⟨m3.n,0,none⟩ 11=some (qd a):=(ow7.get 0 rfl).2.2.loads (n:=11) (by simp[qd])
   have E7:=E6.ext e3
   have hM7:=hM6.ext e3
   have haok7:=E7.ok a hmem
   have hwi:=Ge hg.op.1 hg.op.2
   obtain⟨v8,m8',f1,f2,f3,rfl⟩:=wq (qd7 hc hg how N (qB (Sees.refl ow7.mb)).base hM7.any (haok7.1.sees (qB (Sees.refl ow7.mb))))
   obtain⟨m8,hm8⟩:=qhd (behind m7 m8')
   rw[<-hm8]at f3
   have ow8:=ow7.step f3
   have hw:qU { s with now:=vt } a=qU s a:=rfl
   rw[hw]at f1
   obtain⟨w,hww⟩:=qhd (qU s a)
   rw[<-hww]at f1 ⊢
   obtain⟨m9',i1,i2,i3,i4,i5⟩:=ow8.storeNAny 2 rfl (o:=4) (l':=wtL w) (n:=6) (by omega) rfl (by simp[qF]) (vY w)
   obtain⟨m9,hm9⟩:=qhd (behind m8 m9')
   rw[<-hm9]at i3
   have ow9:Ow m0 m9 [Mb,Lb] ((m3.n,qd a)::nS R2 Mb Lb k av { s with now:=w }):=i3
   have ow10:=ow9.sub (σ':=nS R2 Mb Lb k av { s with now:=w }) (λp hp=>qgy _ hp) (by have:=ow9.nd;simp only[List.map_cons,List.nodup_cons]at this ⊢;exact this.2)
   simp[t0,t2,bf,g1,lM,hlen,dne,dne',c1,<-hm4,j1,l5n,qe,d1,e1,e2,<-hm7,yZ,l7,hwi,l7n,f1,f2,<-hm8,i1,i2,<-hm9,-bX]
   exact ZH (s:={ s with now:=w }) hl ow10 (by simp[t0]) (by simp[t2])
theorem qed (hc:cells<=4096)(hE:Env m Mb Lb av acts)(hgs:∀a∈acts,AcG k acts.length cells a)(hal:acts.length<=65536)(hat:s.at_<=acts.length)(N:Nat)(hm:m.base<=m.n)(hne:Mb≠Lb)(hM:MsAt m Mb Lb k av s) :
  WrC (ex Tryz.prog (N+6)) 133 [mP Mb] m Mb Lb k av (qI acts s) (.agg ⟨wtL (qI acts s).now⟩):=by
 refine wO (Q:=PN m Mb Lb k av (qI acts s)) df8_ok (by simp) ?_
 have ow0:=hM.ow hne hm
 have ow1:=ow0.row Z6
 obtain⟨m1,hm1⟩:=qhd (Dx.newRow m Z6)
 rw[<-hm1]at ow1
 have l1:∀o s',load1 m1 ⟨Mb,o,s'⟩=(qF k av (lvV Lb k) s)[o]?:=λo s'=>(ow1.get 1 rfl).2.2.load1 o s'
 simp only[qF]at l1
 have hlen:za av=some (.int .i64 (acts.length:Int)):=hE.rav.len
 by_cases hq:s.asked=true/\s.now.what≠6
 .have hS:qI acts s=s:=if_pos hq
  rw[hS]
  rw[hq.1]at l1
  have d6:decide (s.now.what=6)=false:=decide_eq_false hq.2
  have l6:loads m1 ⟨Mb,4,none⟩ 6=some (wtL s.now):=by
   have:=(ow1.get 1 rfl).2.2.loads (o:=4) (s:=none) (n:=6) (by simp[qF])
   rw[this];rfl
  obtain⟨m2,f1,f3,f4,f5⟩:=ow1.storeN 0 rfl (o:=0) (l':=wtL s.now) (n:=6) (by omega) rfl (by simp) (vY s.now)
  have hM2:MsAt m2 Mb Lb k av s:=Ow.msAt f3 1 2 rfl rfl hM.len
  have lf:loads m2 ⟨m.n,0,none⟩ 6=some (wtL s.now):=by
   have:=(f3.get 0 rfl).2.2.loads (o:=0) (s:=none) (n:=6) (by rw[jH];simp)
   rw[kG (by rfl)]at this
   exact this
  simp[<-hm1,l1,d6,l6,qe,f1]
  exact zY (a:=⟨m.n,0,none⟩) (by simp) lf ⟨f3.mc,hM2,rfl⟩
 have hS:qI acts s=Qk acts (adv acts 100000 { s with asked:=true }):=if_neg hq
 obtain⟨S,hSe⟩:=qhd (qI acts s)
 rw[<-hSe]
 rw[<-hSe]at hS
 obtain⟨m2,f1,f3,f4,f5⟩:=ow1.store 1 rfl (o:=10) (v:=.bool true) (by simp[qF]) rfl
 have ow2:Ow m m2 [Mb,Lb] (nS m.n Mb Lb k av { s with asked:=true }):=f3
 have go:∀tt,Tm.get 0 tt=mP Mb->Tm.get 2 tt=.pointer (some ⟨m.n,0,none⟩)->xY (PN m Mb Lb k av S) (Vu (ex Tryz.prog (N+5)) (kO [.cell 2 6]) noK (kO [.cell 2 6]) tt m2):=λtt u0 u2=>by
  simp[u0,u2,-Kq]
  refine qR (c:=qa4) rfl (xY _) (λj t m'=>∃sj,Ow m m' [Mb,Lb] (nS m.n Mb Lb k av sj)/\sj.ls.length=k/\sj.at_<=acts.length/\S=Qk acts (adv acts (100000-j) sj)/\Tm.get 0 t=mP Mb/\Tm.get 2 t=.pointer (some ⟨m.n,0,none⟩)/\Tm.get 25 t=iv j) 100000 (by omega)
   ⟨_,ow2,hM.len,hat,hS,by simp[u0],by simp[u2],by simp⟩ (λj t m' k' hj hI hk'=>?_)
  obtain⟨sj,ow,hl,hatj,hSj,t0,t2,t25⟩:=hI
  have lM:∀o s',load1 m' ⟨Mb,o,s'⟩=(qF k av (lvV Lb k) sj)[o]?:=λo s'=>(ow.get 1 rfl).2.2.load1 o s'
  simp only[qF]at lM
  by_cases hjl:j<100000
  .have hd:((j:Int)<100000)=True:=eq_true (by omega)
   have hd':(j<100000)=True:=eq_true hjl
   cases ha:acts[sj.at_]? with
   | none =>
    have hge:=List.getElem?_eq_none_iff.1 ha
    have de:decide (((sj.at_:Nat):Int)=((acts.length:Nat):Int))=true:=decide_eq_true (by omega)
    have de':decide (sj.at_=acts.length)=true:=decide_eq_true (by omega)
    have hSe:S={ sj with now:=jP }:=by rw[hSj,QL _ ha];unfold Qk ja;rw[ha]
    have bh:qW Z6 [(0,1,.int .i64 5)]=some (.agg ⟨wtL jP⟩):=rfl
    obtain⟨m3,g1,g3,g4,g5⟩:=ow.storeN 1 rfl (o:=4) (l':=wtL jP) (n:=6) (by omega) rfl (by simp[qF]) (vY jP)
    have ow3:Ow m m3 [Mb,Lb] (nS m.n Mb Lb k av { sj with now:=jP }):=g3
    have l6:loads m3 ⟨Mb,4,none⟩ 6=some (wtL jP):=by
     have:=(ow3.get 1 rfl).2.2.loads (o:=4) (s:=none) (n:=6) (by simp[qF])
     rw[this];rfl
    obtain⟨m4,i1,i3,i4,i5⟩:=ow3.storeN 0 rfl (o:=0) (l':=wtL jP) (n:=6) (by omega) rfl (by simp) (vY jP)
    have hM4:MsAt m4 Mb Lb k av { sj with now:=jP }:=Ow.msAt i3 1 2 rfl rfl hl
    have lf:loads m4 ⟨m.n,0,none⟩ 6=some (wtL jP):=by
     have:=(i3.get 0 rfl).2.2.loads (o:=0) (s:=none) (n:=6) (by rw[jH];simp)
     rw[kG (by rfl)]at this
     exact this
    simp[t0,t2,t25,hd,hd',lM,hlen,de,de',bh,g1,l6,qe,i1]
    refine zY (a:=⟨m.n,0,none⟩) (by simp[t2]) lf ⟨i3.mc,by rw[hSe];exact hM4,by rw[hSe]⟩
   | some a =>
    have hlt:=(qgp.1 ha).1
    have hmem:=qgo ha
    have dne:decide (((sj.at_:Nat):Int)=((acts.length:Nat):Int))=false:=decide_eq_false (by omega)
    have dne':decide (sj.at_=acts.length)=false:=decide_eq_false (by omega)
    have nj:=wL (i:=j) (by omega)
    simp[t0,t2,t25,hd,hd',lM,hlen,dne,dne',-Gv]
    refine Ya (j:=j) (R2:=m.n) (s:=sj) (S:=S) hc hE (hgs a hmem) (by omega) ha hl hne ow (by simp[t0]) (by simp[t2]) (by simp[t25]) (λho=>?_) (λho t' m2' t0 t2 t25 ow'=>?_)
    .rw[hSj,QM _ ha ho];unfold Qk ja;rw[ha];simp[ho]
    .simp[t25,nj]
     refine hk' hjl _ _ ⟨xU sj a,ow',by rw[Fv];exact hl,qbt (hgs a hmem) ho hlt,?_,by simp[t0],by simp[t2],by simp⟩
     rw[hSj,show 100000-j=(100000-(j+1))+1 by omega,YH _ ha ho]
  .obtain rfl:j=100000:=by omega
   have hd:((100000:Int)<100000)=False:=eq_false (by omega)
   rw[Nat.sub_self,Jw]at hSj
   simp[t0,t2,t25,-Kq]
   exact GW hc hE hgs hal hatj hl hne ow (by simp[t0]) (by simp[t2]) hSj
 cases hask:s.asked with
 | false =>
  rw[hask]at l1
  simp[<-hm1,l1,f1,-Kr]
  exact go _ (by simp) (by simp)
 | true =>
  have h6:s.now.what=6:=Classical.byContradiction λh=>hq ⟨hask,h⟩
  have d6:decide (s.now.what=6)=true:=decide_eq_true h6
  rw[hask]at l1
  simp[<-hm1,l1,d6,f1,-Kr]
  exact go _ (by simp) (by simp)
end
end Go.Sx
