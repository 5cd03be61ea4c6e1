/- Contracts. -/
import Derived.Test.YtjoapkgigchboaaGreatGe
import Derived.Test.YtjoapkgigchboaaGreatGc
import Derived.Test.YtjoapkgigchboaaGreatGb3
import Derived.Test.YtjoapkgigchboaaGreatGd
import Derived.Laws.BitsAllLaws
set_option linter.unusedVariables false
set_option linter.unusedSimpArgs false
set_option linter.defProp false
namespace Go.Sx
open Go.Dx Go.Proofs
set_option maxRecDepth 10000
structure Mch where
 l:Value
 at_:Int
 v:Nat->Nat
 t:Nat->Value
 fn:Bool
 fz:Bool
 fc:Bool
 fv:Bool
 ft:Value
 way:Value
 opn:Bool
 loc:Int
 rd:Int
 half:Value
 own:Int
 dn:Int
 ev:Value
 rmw:Value
 addr:Value
 data:Value
 ctrl:Value
 outs:Value
 st:Int
 lc:Int
 us:Int
 limit:Int
def BI (s:Mch):List Value:=[.bool s.fn,.bool s.fz,.bool s.fc,.bool s.fv,s.ft,s.way,.bool s.opn,iv s.loc,iv s.rd,s.half,iv s.own,iv s.dn,s.ev,s.rmw,s.addr,s.data,s.ctrl,s.outs,iv s.st,iv s.lc,iv s.us,iv s.limit]
def qS (s:Mch):List Value:=[s.l,iv s.at_] ++ (List.range 32).map (fun k=>uv (s.v k)) ++ (List.range 32).map s.t ++ BI s
theorem kh (s:Mch):(qS s).length=88:=rfl
theorem yC (s:Mch) {k:Nat} (h:k<32):(qS s)[2+k]?=some (uv (s.v k)):=by
 unfold qS
 rw[qde,qde,qd9 (by simp),qd8 (by simp;omega)]
 simp[h]
theorem fu (s:Mch) {k:Nat} (h:k<32):(qS s)[34+k]?=some (s.t k):=by
 unfold qS
 rw[qde,qde,qd9 (by simp;omega),qd9 (by simp;omega),qd8 (by simp;omega)]
 simp[show 34+k - 2 - 32=k by omega,h]
structure MAt (m:M) (P:Nat) (s:Mch):Prop where
 arr:Arr m P (qS s)
 lt:P<m.n
theorem MAt.ext {m m':M} {P:Nat} {s:Mch} (h:MAt m P s) (e:Ext m m'):MAt m' P s:=⟨h.arr.congr (e.obj _ h.lt),qcz h.lt e.n⟩
theorem MAt.sees {m m':M} {P:Nat} {s:Mch} (h:MAt m P s) (e:Sees m m'):MAt m' P s:=⟨h.arr.congr (e.obj _ h.lt),qcz h.lt e.n⟩
theorem MAt.any {m:M} {P:Nat} {s:Mch} (h:MAt m P s):MAt (qg m) P s:=⟨h.arr.congr (qu m P),by rw[qp];exact h.lt⟩
theorem MAt.l1 {m:M} {P:Nat} {s:Mch} (h:MAt m P s) (o:Nat):load1 m ⟨P,o,none⟩=(qS s)[o]?:=h.arr.load1 o none
abbrev mP (P:Nat):Value:=.pointer (some ⟨P,0,none⟩)
structure Wnt where
 what:Int
 loc:Int
 mode:Int
 val:Nat
 ex:Bool
 one:Bool
def qo (w:Wnt):List Value:=[iv w.what,iv w.loc,iv w.mode,uv w.val,.bool w.ex,.bool w.one]
theorem zD (w:Wnt):∀v∈qo w,okC v=true:=by simp[qo,okC]
def XU:Wnt:=⟨0,0,0,0,false,false⟩
abbrev z6w:List Value:=[zI,zI,zI,zU,.bool false,.bool false]
def jR (what:Int):Wnt:=⟨what,0,0,0,false,false⟩
def wZ (evn:Nat) (w:Wnt):Wnt:=if 256<=evn+(if w.one then 1 else 0) then jR 6 else w
theorem xP (n:Nat) {m:M} (hm:m.base<=m.n) {P:Nat} {s:Mch} (h:MAt m P s) {evn:Nat} (he:zm s.ev=some (iv evn)) (hn:evn<=100000) (w:Wnt):CallV (ex Tryz.prog (n+1)) 49 [mP P,.agg ⟨qo w⟩] m (.agg ⟨qo (wZ evn w)⟩):=by
 refine qm dd5_ok (by simp) ?_
 have st2:=((St.nil hm (Ext.refl m)).row (qo w)).row z6w
 obtain⟨m0,hm0⟩:=qdi (Dx.newRow m (qo w))
 have hb:kC (.agg ⟨qo w⟩) m=some (.pointer (some ⟨m.n,0,none⟩),m0):=by rw[hm0];rfl
 have hn0:m0.n=m.n+1:=by rw[hm0,qv]
 rw[<-hm0]at st2
 obtain⟨m1,hm1⟩:=qdi (Dx.newRow m0 z6w)
 have hm1':Dx.newRow m0 [zI,zI,zI,zU,.bool false,.bool false]=m1:=hm1.symm
 rw[<-hm1]at st2
 have h1:=h.ext st2.ext
 have l78:load1 m1 ⟨P,78,none⟩=some s.ev:=h1.l1 78
 have l5:load1 m1 ⟨m.n,5,none⟩=some (.bool w.one):=(st2.get 1 rfl).2.2.load1 5 none
 have lw:loads m1 ⟨m.n,0,none⟩ 6=some (qo w):=(st2.get 1 rfl).2.2.loads (o:=0) (n:=6) (by simp[qo])
 have w1:IntKind.i64.wrap ((evn:Int)+1)=((evn+1:Nat):Int):=by rw[wrap64 _ (by omega) (by omega)];omega
 have bu:wJ [zI,zI,zI,zU,.bool false,.bool false] [(0,1,.int .i64 6)]=some (.agg ⟨qo (jR 6)⟩):=rfl
 have fin:∀x:Wnt,∃m2,qD 6 (.pointer (some ⟨m0.n,0,none⟩)) (.agg ⟨qo x⟩) m1=some (undef,m2)/\Ext m m2/\loads m2 ⟨m0.n,0,none⟩ 6=some (qo x):=fun x=>by
  obtain⟨m2,s1,st3,_,_⟩:=st2.fill 0 rfl (n:=6) (l':=qo x) rfl rfl (zD x)
  exact⟨m2,s1,st3.ext,(st3.get 0 rfl).2.2.loads (o:=0) (n:=6) (by simp[qo])⟩
 obtain⟨ma,a1,a2,a3⟩:=fin (jR 6)
 obtain⟨mb,b1,b2,b3⟩:=fin w
 cases ho:w.one with
 | true =>
  rw[ho]at l5
  by_cases hq:256<=evn+1
  ·have hd:((256:Int)<=((evn+1:Nat):Int))=True:=eq_true (by omega)
   obtain⟨q,hqq⟩:∃q:Nat,q=evn+1:=⟨_,rfl⟩
   rw[<-hqq]at w1 hd
   simp[hb,hm1',l78,he,l5,w1,hd,bu,a1]
   exact kG (a:=⟨m0.n,0,none⟩) (by simp) a3 a2 (by simp[wZ,ho,hq])
  ·have hd:((256:Int)<=((evn+1:Nat):Int))=False:=eq_false (by omega)
   obtain⟨q,hqq⟩:∃q:Nat,q=evn+1:=⟨_,rfl⟩
   rw[<-hqq]at w1 hd
   simp[hb,hm1',l78,he,l5,w1,hd,qe,lw,b1]
   exact kG (a:=⟨m0.n,0,none⟩) (by simp) b3 b2 (by simp[wZ,ho,hq])
 | false =>
  rw[ho]at l5
  by_cases hq:256<=evn
  ·have hd:((256:Int)<=(evn:Int))=True:=eq_true (by omega)
   simp[hb,hm1',l78,he,l5,hd,bu,a1]
   exact kG (a:=⟨m0.n,0,none⟩) (by simp) a3 a2 (by simp[wZ,ho,hq])
  ·have hd:((256:Int)<=(evn:Int))=False:=eq_false (by omega)
   simp[hb,hm1',l78,he,l5,hd,qe,lw,b1]
   exact kG (a:=⟨m0.n,0,none⟩) (by simp) b3 b2 (by simp[wZ,ho,hq])
end Go.Sx
namespace Go.Sx
open Go.Dx Go.Proofs
set_option maxRecDepth 10000
structure jB (i:Ins):Prop where
 op:1<=i.op/\i.op<=47
 rd:∃k:Nat,i.rd=(k:Int)/\k<32
 rn:∃k:Nat,i.rn=(k:Int)/\k<32
 rm:∃k:Nat,i.rm=(k:Int)/\k<32
theorem jo (B o:Nat) {k:Nat} (h:k<32):zF 32 1 (.pointer (some ⟨B,o,none⟩)) (iv k)=some (.pointer (some ⟨B,o+k,none⟩)):=by
 have h1:vK (iv k)=some k:=rfl
 have h2:Nat.blt k 32=true:=by rw[<-Nat.blt_eq]at h;exact h
 unfold zF
 rw[h1,qV,bc,qV,h2,cond_true,Nat.mul_one]
 show some (Value.pointer (some ⟨B,o+k,none⟩))=_
 rfl
def Ql (s:Mch) (i:Ins):Int:=IntKind.u64.wrap (IntKind.u64.wrap ((s.v i.rn.toNat:Int)+IntKind.u64.wrap i.imm) - 65536)
def cellL (s:Mch) (i:Ins):Int:=IntKind.i64.wrap (IntKind.u64.wrap ((Ql s i).tdiv 8))
def jC (s:Mch) (i:Ins):Bool:=decide ((Ql s i).tmod 8=0) && decide (IntKind.u64.wrap ((Ql s i).tdiv 8)<4096)
theorem xH (n:Nat) {m:M} (hm:m.base<=m.n) {P:Nat} {s:Mch} (h:MAt m P s) {i:Ins} (hi:jB i):CallV (ex Tryz.prog (n+1)) 50 [mP P,.agg ⟨ql i⟩] m (.tuple #[iv (cellL s i),.bool (jC s i)]):=by
 refine qm dd6_ok (by simp) ?_
 have st1:=(St.nil hm (Ext.refl m)).row (ql i)
 obtain⟨m0,hm0⟩:=qdi (Dx.newRow m (ql i))
 have hb:kC (.agg ⟨ql i⟩) m=some (.pointer (some ⟨m.n,0,none⟩),m0):=by rw[hm0];rfl
 rw[<-hm0]at st1
 have h1:=h.ext st1.ext
 obtain⟨k,hk,hk2⟩:=hi.rn
 have l2:load1 m0 ⟨m.n,2,none⟩=some (iv i.rn):=(st1.get 0 rfl).2.2.load1 2 none
 have l4:load1 m0 ⟨m.n,4,none⟩=some (iv i.imm):=(st1.get 0 rfl).2.2.load1 4 none
 have ia:=jo P 2 hk2
 rw[<-hk]at ia
 have lv:load1 m0 ⟨P,2+k,none⟩=some (uv (s.v k)):=by rw[h1.l1,yC s hk2]
 have hkn:i.rn.toNat=k:=by rw[hk];rfl
 obtain⟨a,ha⟩:=qdi (Ql s i)
 have ha':IntKind.u64.wrap (IntKind.u64.wrap ((s.v k:Int)+IntKind.u64.wrap i.imm) - 65536)=a:=by rw[ha];unfold Ql;rw[hkn]
 have hq:=Qe .u64 a 8 (by decide)
 have hr:=yO .u64 a 8 (by decide)
 obtain⟨b,hbq⟩:=qdi (IntKind.u64.wrap (a.tdiv 8))
 rw[<-hbq]at hq
 have e1:cellL s i=IntKind.i64.wrap b:=by unfold cellL;rw[<-ha,hbq]
 have e2:jC s i=(decide (a.tmod 8=0) && decide (b<4096)):=by unfold jC;rw[<-ha,hbq]
 rw[e1,e2]
 by_cases h0:a.tmod 8=0
 ·simp[hb,l2,ia,lv,l4,ky,ha',hq,hr,h0]
  exact jc st1.ext (by simp)
 ·simp[hb,l2,ia,lv,l4,ky,ha',hq,hr,h0]
  exact jc st1.ext (by simp)
def jQ (i:Ins) (w:Wnt):Wnt:=⟨w.what,w.loc,if i.op=35 then 16 else if (IntKind.i64.wrap (i.op - 36)).tmod 2=1 then 12 else w.mode,w.val,w.ex,decide (36<=i.op)⟩
theorem qa4 (n:Nat) {m:M} (hm:m.base<=m.n) (i:Ins) (w:Wnt):CallV (ex Tryz.prog (n+1)) 51 [.agg ⟨ql i⟩,.agg ⟨qo w⟩] m (.agg ⟨qo (jQ i w)⟩):=by
 refine qm dd7_ok (by simp) ?_
 have st1:=(((St.nil hm (Ext.refl m)).row (ql i)).row (qo w)).row z6w
 obtain⟨m0,hm0⟩:=qdi (Dx.newRow m (ql i))
 have hb:kC (.agg ⟨ql i⟩) m=some (.pointer (some ⟨m.n,0,none⟩),m0):=by rw[hm0];rfl
 have hn0:m0.n=m.n+1:=by rw[hm0,qv]
 obtain⟨m1,hm1⟩:=qdi (Dx.newRow m0 (qo w))
 have hb1:kC (.agg ⟨qo w⟩) m0=some (.pointer (some ⟨m0.n,0,none⟩),m1):=by rw[hm1];rfl
 have hn1:m1.n=m0.n+1:=by rw[hm1,qv]
 rw[<-hm0,<-hm1]at st1
 obtain⟨m2,hm2⟩:=qdi (Dx.newRow m1 z6w)
 have hm2':Dx.newRow m1 [zI,zI,zI,zU,.bool false,.bool false]=m2:=hm2.symm
 rw[<-hm2]at st1
 have l0:load1 m2 ⟨m.n,0,none⟩=some (iv i.op):=(st1.get 2 rfl).2.2.load1 0 none
 obtain⟨m3,s1,st3,s2,s3⟩:=st1.store 1 (b:=m0.n) (l:=qo w) rfl (o:=5) (v:=.bool (decide (36<=i.op))) (by simp[qo]) rfl
 have l0':load1 m3 ⟨m.n,0,none⟩=some (iv i.op):=(st3.get 2 rfl).2.2.load1 0 none
 have hr:=yO .i64 (IntKind.i64.wrap (i.op - 36)) 2 (by decide)
 have fin:∀(m4:M) (x:Wnt),St m m4 [(m1.n,z6w),(m0.n,qo x),(m.n,ql i)]->loads m4 ⟨m0.n,0,none⟩ 6=some (qo x)/\∃m5,qD 6 (.pointer (some ⟨m1.n,0,none⟩)) (.agg ⟨qo x⟩) m4=some (undef,m5)/\Ext m m5/\loads m5 ⟨m1.n,0,none⟩ 6=some (qo x):=fun m4 x st=>by
  obtain⟨m5,a1,a2,a3,a4⟩:=st.fill 0 rfl (n:=6) (l':=qo x) rfl rfl (zD x)
  exact⟨(st.get 1 rfl).2.2.loads (o:=0) (n:=6) (by simp[qo]),m5,a1,a2.ext,(a2.get 0 rfl).2.2.loads (o:=0) (n:=6) (by simp[qo])⟩
 by_cases h35:i.op=35
 ·obtain⟨m4,b1,st4,b2,b3⟩:=st3.store 1 (b:=m0.n) rfl (o:=2) (v:=.int .i64 16) (by simp[qo]) rfl
  have hx:jQ i w=⟨w.what,w.loc,16,w.val,w.ex,decide (36<=i.op)⟩:=by unfold jQ;rw[if_pos h35]
  obtain⟨c1,m5,c2,c3,c4⟩:=fin m4 (jQ i w) (by rw[hx];exact st4)
  rw[h35]at s1
  simp at s1
  simp[hb,hb1,hm2',l0,s1,l0',h35,b1,qe,c1,c2]
  exact kG (a:=⟨m1.n,0,none⟩) (by simp) c4 c3 rfl
 ·by_cases h2:(IntKind.i64.wrap (i.op - 36)).tmod 2=1
  ·obtain⟨m4,b1,st4,b2,b3⟩:=st3.store 1 (b:=m0.n) rfl (o:=2) (v:=.int .i64 12) (by simp[qo]) rfl
   have hx:jQ i w=⟨w.what,w.loc,12,w.val,w.ex,decide (36<=i.op)⟩:=by unfold jQ;rw[if_neg h35,if_pos h2]
   obtain⟨c1,m5,c2,c3,c4⟩:=fin m4 (jQ i w) (by rw[hx];exact st4)
   simp[hb,hb1,hm2',l0,s1,l0',h35,hr,h2,b1,qe,c1,c2]
   exact kG (a:=⟨m1.n,0,none⟩) (by simp) c4 c3 rfl
  ·have hx:jQ i w=⟨w.what,w.loc,w.mode,w.val,w.ex,decide (36<=i.op)⟩:=by unfold jQ;rw[if_neg h35,if_neg h2]
   obtain⟨c1,m5,c2,c3,c4⟩:=fin m3 (jQ i w) (by rw[hx];exact st3)
   simp[hb,hb1,hm2',l0,s1,l0',h35,hr,h2,qe,c1,c2]
   exact kG (a:=⟨m1.n,0,none⟩) (by simp) c4 c3 rfl
end Go.Sx
namespace Go.Sx
open Go.Dx Go.Proofs
set_option maxRecDepth 10000
def xf (loc:Int):Wnt:=⟨1,loc,11,0,false,false⟩
def wQ (s:Mch) (i:Ins):Wnt :=
 ⟨if i.op=23\/i.op=25\/i.op=28\/i.op=29 then 2 else 1,cellL s i,if i.op=24\/i.op=27 then 12 else if i.op=25\/i.op=29 then 13 else 11,if i.op=23\/i.op=25\/i.op=28\/i.op=29 then s.v i.rd.toNat else 0,decide (26<=i.op),false⟩
def qC (s:Mch) (evn:Nat) (i:Ins):Wnt × Bool :=
 if i.op=30 then (wZ evn ⟨3,0,14,0,false,false⟩,false)
 else if i.op=31 then (wZ evn ⟨3,0,15,0,false,false⟩,false)
 else if i.op=33 then (⟨4,0,0,s.v i.imm.toNat,false,false⟩,false)
 else if i.op=34 then (jR 5,false)
 else if i.op<22\/i.op=32 then (XU,true)
 else if jC s i=false then (jR 7,false)
 else if 35<=i.op then (wZ evn (jQ i (xf (cellL s i))),false)
 else if (i.op=28\/i.op=29)/\(s.opn=false\/s.loc≠cellL s i) then (wQ s i,true)
 else (wZ evn (wQ s i),false)
theorem bn (a:Int):wJ [zI,zI,zI,zU,.bool false,.bool false] [(0,1,.int .i64 a)]=some (.agg ⟨qo (jR a)⟩):=rfl
theorem Vd (a b:Int):wJ [zI,zI,zI,zU,.bool false,.bool false] [(0,1,.int .i64 a),(2,1,.int .i64 b)]=some (.agg ⟨qo ⟨a,0,b,0,false,false⟩⟩):=rfl
theorem qa8 (a:Int) (v:Nat):wJ [zI,zI,zI,zU,.bool false,.bool false] [(0,1,.int .i64 a),(3,1,.int .u64 v)]=some (.agg ⟨qo ⟨a,0,0,v,false,false⟩⟩):=rfl
section
variable {m:M} {P:Nat} {s:Mch} {i:Ins} {evn:Nat}
theorem kZ {m0 m':M} {X:Nat} (st:St m m' [(X,z6w),(m.n,ql i)]) (x:Wnt):∃m2,qD 6 (.pointer (some ⟨X,0,none⟩)) (.agg ⟨qo x⟩) m'=some (undef,m2)/\St m m2 [(X,qo x),(m.n,ql i)]/\loads m2 ⟨X,0,none⟩ 6=some (qo x):=by
 obtain⟨m2,s1,st2,_,_⟩:=st.fill 0 rfl (n:=6) (l':=qo x) rfl rfl (zD x)
 exact⟨m2,s1,st2,(st2.get 0 rfl).2.2.loads (o:=0) (n:=6) (by simp[qo])⟩
set_option maxHeartbeats 1000000 in
theorem want_a (n:Nat) (hm:m.base<=m.n) (h:MAt m P s) (hi:jB i) (he:zm s.ev=some (iv evn)) (hn:evn<=100000) (hop:i.op=30):CallV (ex Tryz.prog (n+2)) 29 [mP P,.agg ⟨ql i⟩] m (.tuple #[.agg ⟨qo (qC s evn i).1⟩,.bool (qC s evn i).2]):=by
 refine qm zV (by simp) ?_
 have st1:=((St.nil hm (Ext.refl m)).row (ql i)).row z6w
 obtain⟨m0,hm0⟩:=qdi (Dx.newRow m (ql i))
 have hb:kC (.agg ⟨ql i⟩) m=some (.pointer (some ⟨m.n,0,none⟩),m0):=by rw[hm0];rfl
 have hn0:m0.n=m.n+1:=by rw[hm0,qv]
 rw[<-hm0]at st1
 obtain⟨m1,hm1⟩:=qdi (Dx.newRow m0 z6w)
 have hm1':Dx.newRow m0 [zI,zI,zI,zU,.bool false,.bool false]=m1:=hm1.symm
 rw[<-hm1]at st1
 have h1:=h.ext st1.ext
 have ex':=(st1.get 1 rfl).2.2
 have l0:load1 m1 ⟨m.n,0,none⟩=some (iv i.op):=ex'.load1 0 none
 obtain⟨v2,m2,a1,a2,rfl⟩:=xP n st1.sees.base h1 he hn ⟨3,0,14,0,false,false⟩
 have st2:=st1.step a2
 obtain⟨m3,s1,st3,s2⟩:=kZ (m0:=m) st2 (wZ evn ⟨3,0,14,0,false,false⟩)
 have hw:qC s evn i=(wZ evn ⟨3,0,14,0,false,false⟩,false):=by unfold qC;simp[hop]
 rw[hop]at l0
 rw[hw]
 simp[hb,hm1',l0,Vd,a1,s1]
 exact qR (a:=⟨m0.n,0,none⟩) (by simp) s2 st3.ext (by simp)
set_option maxHeartbeats 1000000 in
theorem want_b (n:Nat) (hm:m.base<=m.n) (h:MAt m P s) (hi:jB i) (he:zm s.ev=some (iv evn)) (hn:evn<=100000) (hop:i.op=31):CallV (ex Tryz.prog (n+2)) 29 [mP P,.agg ⟨ql i⟩] m (.tuple #[.agg ⟨qo (qC s evn i).1⟩,.bool (qC s evn i).2]):=by
 refine qm zV (by simp) ?_
 have st1:=((St.nil hm (Ext.refl m)).row (ql i)).row z6w
 obtain⟨m0,hm0⟩:=qdi (Dx.newRow m (ql i))
 have hb:kC (.agg ⟨ql i⟩) m=some (.pointer (some ⟨m.n,0,none⟩),m0):=by rw[hm0];rfl
 have hn0:m0.n=m.n+1:=by rw[hm0,qv]
 rw[<-hm0]at st1
 obtain⟨m1,hm1⟩:=qdi (Dx.newRow m0 z6w)
 have hm1':Dx.newRow m0 [zI,zI,zI,zU,.bool false,.bool false]=m1:=hm1.symm
 rw[<-hm1]at st1
 have h1:=h.ext st1.ext
 have ex':=(st1.get 1 rfl).2.2
 have l0:load1 m1 ⟨m.n,0,none⟩=some (iv i.op):=ex'.load1 0 none
 obtain⟨v2,m2,a1,a2,rfl⟩:=xP n st1.sees.base h1 he hn ⟨3,0,15,0,false,false⟩
 have st2:=st1.step a2
 obtain⟨m3,s1,st3,s2⟩:=kZ (m0:=m) st2 (wZ evn ⟨3,0,15,0,false,false⟩)
 have hw:qC s evn i=(wZ evn ⟨3,0,15,0,false,false⟩,false):=by unfold qC;simp[hop]
 rw[hop]at l0
 rw[hw]
 simp[hb,hm1',l0,Vd,a1,s1]
 exact qR (a:=⟨m0.n,0,none⟩) (by simp) s2 st3.ext (by simp)
set_option maxHeartbeats 1000000 in
theorem qcf (n:Nat) (hm:m.base<=m.n) (h:MAt m P s) (hi:jB i) (he:zm s.ev=some (iv evn)) (hn:evn<=100000) (hop:i.op=33) (hk:∃k:Nat,i.imm=(k:Int)/\k<32):CallV (ex Tryz.prog (n+2)) 29 [mP P,.agg ⟨ql i⟩] m (.tuple #[.agg ⟨qo (qC s evn i).1⟩,.bool (qC s evn i).2]):=by
 refine qm zV (by simp) ?_
 have st1:=((St.nil hm (Ext.refl m)).row (ql i)).row z6w
 obtain⟨m0,hm0⟩:=qdi (Dx.newRow m (ql i))
 have hb:kC (.agg ⟨ql i⟩) m=some (.pointer (some ⟨m.n,0,none⟩),m0):=by rw[hm0];rfl
 have hn0:m0.n=m.n+1:=by rw[hm0,qv]
 rw[<-hm0]at st1
 obtain⟨m1,hm1⟩:=qdi (Dx.newRow m0 z6w)
 have hm1':Dx.newRow m0 [zI,zI,zI,zU,.bool false,.bool false]=m1:=hm1.symm
 rw[<-hm1]at st1
 have h1:=h.ext st1.ext
 have ex':=(st1.get 1 rfl).2.2
 have l0:load1 m1 ⟨m.n,0,none⟩=some (iv i.op):=ex'.load1 0 none
 obtain⟨k,hk,hk2⟩:=hk
 have ia:=jo P 2 hk2
 rw[<-hk]at ia
 have l4:load1 m1 ⟨m.n,4,none⟩=some (iv i.imm):=ex'.load1 4 none
 have lv:load1 m1 ⟨P,2+k,none⟩=some (uv (s.v k)):=by rw[h1.l1,yC s hk2]
 obtain⟨m3,s1,s0,st3,s3,s4⟩:=st1.fillAny 0 rfl (n:=6) (l':=qo ⟨4,0,0,s.v k,false,false⟩) (by omega) rfl rfl (zD _)
 have s2:=(st3.get 0 rfl).2.2.loads (o:=0) (n:=6) (s:=none) (by simp[qo])
 have hw:qC s evn i=(⟨4,0,0,s.v k,false,false⟩,false):=by unfold qC;simp[hop,hk]
 rw[hop]at l0
 rw[hw]
 simp[hb,hm1',l0,l4,ia,lv,qa8,s1,s0]
 exact qR (a:=⟨m0.n,0,none⟩) (by simp) s2 st3.ext (by simp[qo])
set_option maxHeartbeats 1000000 in
theorem want_d (n:Nat) (hm:m.base<=m.n) (h:MAt m P s) (hi:jB i) (he:zm s.ev=some (iv evn)) (hn:evn<=100000) (hop:i.op=34):CallV (ex Tryz.prog (n+2)) 29 [mP P,.agg ⟨ql i⟩] m (.tuple #[.agg ⟨qo (qC s evn i).1⟩,.bool (qC s evn i).2]):=by
 refine qm zV (by simp) ?_
 have st1:=((St.nil hm (Ext.refl m)).row (ql i)).row z6w
 obtain⟨m0,hm0⟩:=qdi (Dx.newRow m (ql i))
 have hb:kC (.agg ⟨ql i⟩) m=some (.pointer (some ⟨m.n,0,none⟩),m0):=by rw[hm0];rfl
 have hn0:m0.n=m.n+1:=by rw[hm0,qv]
 rw[<-hm0]at st1
 obtain⟨m1,hm1⟩:=qdi (Dx.newRow m0 z6w)
 have hm1':Dx.newRow m0 [zI,zI,zI,zU,.bool false,.bool false]=m1:=hm1.symm
 rw[<-hm1]at st1
 have h1:=h.ext st1.ext
 have ex':=(st1.get 1 rfl).2.2
 have l0:load1 m1 ⟨m.n,0,none⟩=some (iv i.op):=ex'.load1 0 none
 obtain⟨m3,s1,st3,s2⟩:=kZ (m0:=m) st1 (jR 5)
 have hw:qC s evn i=(jR 5,false):=by unfold qC;simp[hop]
 rw[hop]at l0
 rw[hw]
 simp[hb,hm1',l0,bn,s1]
 exact qR (a:=⟨m0.n,0,none⟩) (by simp) s2 st3.ext (by simp)
set_option maxHeartbeats 1000000 in
theorem want_e (n:Nat) (hm:m.base<=m.n) (h:MAt m P s) (hi:jB i) (he:zm s.ev=some (iv evn)) (hn:evn<=100000) (hop:i.op<22):CallV (ex Tryz.prog (n+2)) 29 [mP P,.agg ⟨ql i⟩] m (.tuple #[.agg ⟨qo (qC s evn i).1⟩,.bool (qC s evn i).2]):=by
 refine qm zV (by simp) ?_
 have st1:=((St.nil hm (Ext.refl m)).row (ql i)).row z6w
 obtain⟨m0,hm0⟩:=qdi (Dx.newRow m (ql i))
 have hb:kC (.agg ⟨ql i⟩) m=some (.pointer (some ⟨m.n,0,none⟩),m0):=by rw[hm0];rfl
 have hn0:m0.n=m.n+1:=by rw[hm0,qv]
 rw[<-hm0]at st1
 obtain⟨m1,hm1⟩:=qdi (Dx.newRow m0 z6w)
 have hm1':Dx.newRow m0 [zI,zI,zI,zU,.bool false,.bool false]=m1:=hm1.symm
 rw[<-hm1]at st1
 have h1:=h.ext st1.ext
 have ex':=(st1.get 1 rfl).2.2
 have l0:load1 m1 ⟨m.n,0,none⟩=some (iv i.op):=ex'.load1 0 none
 obtain⟨m3,s1,st3,s2⟩:=kZ (m0:=m) st1 XU
 have lz:loads m1 ⟨m0.n,0,none⟩ 6=some (qo XU):=(st1.get 0 rfl).2.2.loads (o:=0) (n:=6) (by simp)
 have hw:qC s evn i=(XU,true):=by unfold qC;rw[if_neg (by omega),if_neg (by omega),if_neg (by omega),if_neg (by omega),if_pos (by omega)]
 rw[hw]
 have q1:(i.op=30)=False:=eq_false (by omega)
 have q2:(i.op=31)=False:=eq_false (by omega)
 have q3:(i.op=33)=False:=eq_false (by omega)
 have q4:(i.op=34)=False:=eq_false (by omega)
 have q5:(i.op<22)=True:=eq_true (by omega)
 have q6:((29:Int)<i.op)=False:=eq_false (by omega)
 have q7:(i.op<35)=True:=eq_true (by omega)
 simp[hb,hm1',l0,q1,q2,q3,q4,q5,q6,q7,qe,lz,s1]
 exact qR (a:=⟨m0.n,0,none⟩) (by simp) s2 st3.ext (by simp)
set_option maxHeartbeats 1000000 in
theorem want_f (n:Nat) (hm:m.base<=m.n) (h:MAt m P s) (hi:jB i) (he:zm s.ev=some (iv evn)) (hn:evn<=100000) (hop:i.op=32):CallV (ex Tryz.prog (n+2)) 29 [mP P,.agg ⟨ql i⟩] m (.tuple #[.agg ⟨qo (qC s evn i).1⟩,.bool (qC s evn i).2]):=by
 refine qm zV (by simp) ?_
 have st1:=((St.nil hm (Ext.refl m)).row (ql i)).row z6w
 obtain⟨m0,hm0⟩:=qdi (Dx.newRow m (ql i))
 have hb:kC (.agg ⟨ql i⟩) m=some (.pointer (some ⟨m.n,0,none⟩),m0):=by rw[hm0];rfl
 have hn0:m0.n=m.n+1:=by rw[hm0,qv]
 rw[<-hm0]at st1
 obtain⟨m1,hm1⟩:=qdi (Dx.newRow m0 z6w)
 have hm1':Dx.newRow m0 [zI,zI,zI,zU,.bool false,.bool false]=m1:=hm1.symm
 rw[<-hm1]at st1
 have h1:=h.ext st1.ext
 have ex':=(st1.get 1 rfl).2.2
 have l0:load1 m1 ⟨m.n,0,none⟩=some (iv i.op):=ex'.load1 0 none
 obtain⟨m3,s1,st3,s2⟩:=kZ (m0:=m) st1 XU
 have lz:loads m1 ⟨m0.n,0,none⟩ 6=some (qo XU):=(st1.get 0 rfl).2.2.loads (o:=0) (n:=6) (by simp)
 have hw:qC s evn i=(XU,true):=by unfold qC;rw[if_neg (by omega),if_neg (by omega),if_neg (by omega),if_neg (by omega),if_pos (by omega)]
 rw[hw]
 have q1:(i.op=30)=False:=eq_false (by omega)
 have q2:(i.op=31)=False:=eq_false (by omega)
 have q3:(i.op=33)=False:=eq_false (by omega)
 have q4:(i.op=34)=False:=eq_false (by omega)
 have q5:(i.op<22)=False:=eq_false (by omega)
 have q6:((29:Int)<i.op)=True:=eq_true (by omega)
 have q7:(i.op<35)=True:=eq_true (by omega)
 simp[hb,hm1',l0,q1,q2,q3,q4,q5,q6,q7,qe,lz,s1]
 exact qR (a:=⟨m0.n,0,none⟩) (by simp) s2 st3.ext (by simp)
set_option maxHeartbeats 1000000 in
theorem want_g (n:Nat) (hm:m.base<=m.n) (h:MAt m P s) (hi:jB i) (he:zm s.ev=some (iv evn)) (hn:evn<=100000) (hop:22<=i.op/\i.op<=29) (hc:jC s i=false):CallV (ex Tryz.prog (n+2)) 29 [mP P,.agg ⟨ql i⟩] m (.tuple #[.agg ⟨qo (qC s evn i).1⟩,.bool (qC s evn i).2]):=by
 refine qm zV (by simp) ?_
 have st1:=((St.nil hm (Ext.refl m)).row (ql i)).row z6w
 obtain⟨m0,hm0⟩:=qdi (Dx.newRow m (ql i))
 have hb:kC (.agg ⟨ql i⟩) m=some (.pointer (some ⟨m.n,0,none⟩),m0):=by rw[hm0];rfl
 have hn0:m0.n=m.n+1:=by rw[hm0,qv]
 rw[<-hm0]at st1
 obtain⟨m1,hm1⟩:=qdi (Dx.newRow m0 z6w)
 have hm1':Dx.newRow m0 [zI,zI,zI,zU,.bool false,.bool false]=m1:=hm1.symm
 rw[<-hm1]at st1
 have h1:=h.ext st1.ext
 have ex':=(st1.get 1 rfl).2.2
 have l0:load1 m1 ⟨m.n,0,none⟩=some (iv i.op):=ex'.load1 0 none
 obtain⟨v2,m2,a1,a2,rfl⟩:=xH n st1.sees.base h1 hi
 have li:loads m1 ⟨m.n,0,none⟩ 6=some (ql i):=ex'.loads (o:=0) (n:=6) (by simp[ql])
 have st2:=st1.step a2
 have h2:=h.ext st2.ext
 obtain⟨m3,s1,st3,s2⟩:=kZ (m0:=m) st2 (jR 7)
 have hw:qC s evn i=(jR 7,false):=by unfold qC;rw[if_neg (by omega),if_neg (by omega),if_neg (by omega),if_neg (by omega),if_neg (by omega),if_pos hc]
 rw[hw]
 rw[hc]at a1
 have q1:(i.op=30)=False:=eq_false (by omega)
 have q2:(i.op=31)=False:=eq_false (by omega)
 have q3:(i.op=33)=False:=eq_false (by omega)
 have q4:(i.op=34)=False:=eq_false (by omega)
 have q5:(i.op<22)=False:=eq_false (by omega)
 have q6:((29:Int)<i.op)=False:=eq_false (by omega)
 have q7:(i.op<35)=True:=eq_true (by omega)
 simp[hb,hm1',l0,q1,q2,q3,q4,q5,q6,q7,qe,li,a1,bn,s1]
 exact qR (a:=⟨m0.n,0,none⟩) (by simp) s2 st3.ext (by simp)
set_option maxHeartbeats 1000000 in
theorem want_h (n:Nat) (hm:m.base<=m.n) (h:MAt m P s) (hi:jB i) (he:zm s.ev=some (iv evn)) (hn:evn<=100000) (hop:35<=i.op) (hc:jC s i=false):CallV (ex Tryz.prog (n+2)) 29 [mP P,.agg ⟨ql i⟩] m (.tuple #[.agg ⟨qo (qC s evn i).1⟩,.bool (qC s evn i).2]):=by
 refine qm zV (by simp) ?_
 have st1:=((St.nil hm (Ext.refl m)).row (ql i)).row z6w
 obtain⟨m0,hm0⟩:=qdi (Dx.newRow m (ql i))
 have hb:kC (.agg ⟨ql i⟩) m=some (.pointer (some ⟨m.n,0,none⟩),m0):=by rw[hm0];rfl
 have hn0:m0.n=m.n+1:=by rw[hm0,qv]
 rw[<-hm0]at st1
 obtain⟨m1,hm1⟩:=qdi (Dx.newRow m0 z6w)
 have hm1':Dx.newRow m0 [zI,zI,zI,zU,.bool false,.bool false]=m1:=hm1.symm
 rw[<-hm1]at st1
 have h1:=h.ext st1.ext
 have ex':=(st1.get 1 rfl).2.2
 have l0:load1 m1 ⟨m.n,0,none⟩=some (iv i.op):=ex'.load1 0 none
 obtain⟨v2,m2,a1,a2,rfl⟩:=xH n st1.sees.base h1 hi
 have li:loads m1 ⟨m.n,0,none⟩ 6=some (ql i):=ex'.loads (o:=0) (n:=6) (by simp[ql])
 have st2:=st1.step a2
 have h2:=h.ext st2.ext
 obtain⟨m3,s1,st3,s2⟩:=kZ (m0:=m) st2 (jR 7)
 have hw:qC s evn i=(jR 7,false):=by unfold qC;rw[if_neg (by omega),if_neg (by omega),if_neg (by omega),if_neg (by omega),if_neg (by omega),if_pos hc]
 rw[hw]
 rw[hc]at a1
 have q1:(i.op=30)=False:=eq_false (by omega)
 have q2:(i.op=31)=False:=eq_false (by omega)
 have q3:(i.op=33)=False:=eq_false (by omega)
 have q4:(i.op=34)=False:=eq_false (by omega)
 have q5:(i.op<22)=False:=eq_false (by omega)
 have q6:((29:Int)<i.op)=True:=eq_true (by omega)
 have q7:(i.op<35)=False:=eq_false (by omega)
 simp[hb,hm1',l0,q1,q2,q3,q4,q5,q6,q7,qe,li,a1,bn,s1]
 exact qR (a:=⟨m0.n,0,none⟩) (by simp) s2 st3.ext (by simp)
set_option maxHeartbeats 1000000 in
theorem want_k (n:Nat) (hm:m.base<=m.n) (h:MAt m P s) (hi:jB i) (he:zm s.ev=some (iv evn)) (hn:evn<=100000) (hop:35<=i.op) (hc:jC s i=true):CallV (ex Tryz.prog (n+2)) 29 [mP P,.agg ⟨ql i⟩] m (.tuple #[.agg ⟨qo (qC s evn i).1⟩,.bool (qC s evn i).2]):=by
 refine qm zV (by simp) ?_
 have st1:=((St.nil hm (Ext.refl m)).row (ql i)).row z6w
 obtain⟨m0,hm0⟩:=qdi (Dx.newRow m (ql i))
 have hb:kC (.agg ⟨ql i⟩) m=some (.pointer (some ⟨m.n,0,none⟩),m0):=by rw[hm0];rfl
 have hn0:m0.n=m.n+1:=by rw[hm0,qv]
 rw[<-hm0]at st1
 obtain⟨m1,hm1⟩:=qdi (Dx.newRow m0 z6w)
 have hm1':Dx.newRow m0 [zI,zI,zI,zU,.bool false,.bool false]=m1:=hm1.symm
 rw[<-hm1]at st1
 have h1:=h.ext st1.ext
 have ex':=(st1.get 1 rfl).2.2
 have l0:load1 m1 ⟨m.n,0,none⟩=some (iv i.op):=ex'.load1 0 none
 obtain⟨v2,m2,a1,a2,rfl⟩:=xH n st1.sees.base h1 hi
 have li:loads m1 ⟨m.n,0,none⟩ 6=some (ql i):=ex'.loads (o:=0) (n:=6) (by simp[ql])
 have st2:=st1.step a2
 have h2:=h.ext st2.ext
 obtain⟨m3,s1,st3,s2⟩:=kZ (m0:=m) st2 (xf (cellL s i))
 have l0':load1 m3 ⟨m.n,0,none⟩=some (iv i.op):=(st3.get 1 rfl).2.2.load1 0 none
 have li':loads m3 ⟨m.n,0,none⟩ 6=some (ql i):=(st3.get 1 rfl).2.2.loads (o:=0) (n:=6) (by simp[ql])
 obtain⟨v4,m4,b1,b2,rfl⟩:=qa4 n st3.sees.base i (xf (cellL s i))
 have st4:=st3.step b2
 obtain⟨v5,m5,c1,c2,rfl⟩:=xP n st4.sees.base (h.ext st4.ext) he hn (jQ i (xf (cellL s i)))
 have st5:=st4.step c2
 obtain⟨m6,d1,st6,d2,d3⟩:=st5.fill 0 rfl (n:=6) (l':=qo (wZ evn (jQ i (xf (cellL s i))))) rfl rfl (zD _)
 have d4:=(st6.get 0 rfl).2.2.loads (o:=0) (n:=6) (s:=none) (by simp[qo])
 have hw:qC s evn i=(wZ evn (jQ i (xf (cellL s i))),false):=by unfold qC;rw[if_neg (by omega),if_neg (by omega),if_neg (by omega),if_neg (by omega),if_neg (by omega),if_neg (by rw[hc];simp),if_pos hop]
 have bu:wJ [zI,zI,zI,zU,.bool false,.bool false] [(0,1,.int .i64 1),(1,1,iv (cellL s i)),(2,1,.int .i64 11)]=some (.agg ⟨qo (xf (cellL s i))⟩):=rfl
 have q8:((35:Int)<=i.op)=True:=eq_true hop
 rw[hw]
 rw[hc]at a1
 have q1:(i.op=30)=False:=eq_false (by omega)
 have q2:(i.op=31)=False:=eq_false (by omega)
 have q3:(i.op=33)=False:=eq_false (by omega)
 have q4:(i.op=34)=False:=eq_false (by omega)
 have q5:(i.op<22)=False:=eq_false (by omega)
 have q6:((29:Int)<i.op)=True:=eq_true (by omega)
 have q7:(i.op<35)=False:=eq_false (by omega)
 simp[hb,hm1',l0,q1,q2,q3,q4,q5,q6,q7,q8,qe,li,a1,bu,s1,l0',li',s2,b1,c1,d1]
 exact qR (a:=⟨m0.n,0,none⟩) (by simp) d4 st6.ext (by simp[qo])
end
end Go.Sx
namespace Go.Sx
open Go.Dx Go.Proofs
set_option maxRecDepth 10000
theorem Jb {a b:Nat} (h:a≠b):Nat.beq a b=false:=by
 cases q:Nat.beq a b with
 | false=>rfl
 | true=>exact absurd (qd7 q) h
section
variable {m:M} {P:Nat} {s:Mch} {i:Ins} {evn:Nat}
set_option maxHeartbeats 1000000 in
theorem qc7 (n:Nat) (hm:m.base<=m.n) (h:MAt m P s) (hi:jB i) (he:zm s.ev=some (iv evn)) (hn:evn<=100000) (hop:i.op=22) (hc:jC s i=true):CallV (ex Tryz.prog (n+2)) 29 [mP P,.agg ⟨ql i⟩] m (.tuple #[.agg ⟨qo (qC s evn i).1⟩,.bool (qC s evn i).2]):=by
 refine qm zV (by simp) ?_
 have st1:=((St.nil hm (Ext.refl m)).row (ql i)).row z6w
 obtain⟨m0,hm0⟩:=qdi (Dx.newRow m (ql i))
 have hb:kC (.agg ⟨ql i⟩) m=some (.pointer (some ⟨m.n,0,none⟩),m0):=by rw[hm0];rfl
 have hn0:m0.n=m.n+1:=by rw[hm0,qv]
 rw[<-hm0]at st1
 obtain⟨m1,hm1⟩:=qdi (Dx.newRow m0 z6w)
 have hm1':Dx.newRow m0 [zI,zI,zI,zU,.bool false,.bool false]=m1:=hm1.symm
 rw[<-hm1]at st1
 have h1:=h.ext st1.ext
 have hPlt:=h.lt
 have ex':=(st1.get 1 rfl).2.2
 have l0:load1 m1 ⟨m.n,0,none⟩=some (.int .i64 22):=by rw[<-hop];exact ex'.load1 0 none
 obtain⟨v2,m2,a1,a2,rfl⟩:=xH n st1.sees.base h1 hi
 have li:loads m1 ⟨m.n,0,none⟩ 6=some (ql i):=ex'.loads (o:=0) (n:=6) (by simp[ql])
 have st2:=st1.step a2
 rw[hc]at a1
 obtain⟨m3,s1,st3,s2⟩:=kZ (m0:=m) st2 (xf (cellL s i))
 have bu:wJ [zI,zI,zI,zU,.bool false,.bool false] [(0,1,.int .i64 1),(1,1,iv (cellL s i)),(2,1,.int .i64 11)]=some (.agg ⟨qo (xf (cellL s i))⟩):=rfl
 have k3:load1 m3 ⟨m.n,0,none⟩=some (.int .i64 22):=by rw[<-hop];exact (st3.get 1 rfl).2.2.load1 0 none
 obtain⟨m7,e1,st7,e2,e3⟩:=st3.store 0 (b:=m0.n) rfl (o:=4) (v:=.bool false) (by simp[qo]) rfl
 have hx:wQ s i=⟨1,cellL s i,11,0,false,false⟩:=by unfold wQ;simp[hop]
 have st7':St m m7 [(m0.n,qo (wQ s i)),(m.n,ql i)]:=by rw[hx];exact st7
 have p4:load1 m7 ⟨m0.n,4,none⟩=some (.bool false):=by rw[(st7'.get 0 rfl).2.2.load1,hx];rfl
 have p0:load1 m7 ⟨m0.n,0,none⟩=some (.int .i64 1):=by rw[(st7'.get 0 rfl).2.2.load1,hx];rfl
 have lw:loads m7 ⟨m0.n,0,none⟩ 6=some (qo (wQ s i)):=(st7'.get 0 rfl).2.2.loads (o:=0) (n:=6) (by simp[qo])
 have h7:=h.ext st7'.ext
 obtain⟨v8,m8,f1,f2,rfl⟩:=xP n st7'.sees.base h7 he hn (wQ s i)
 have st8:=st7'.step f2
 obtain⟨m9,g1,st9,g2,g3⟩:=st8.fill 0 rfl (n:=6) (l':=qo (wZ evn (wQ s i))) rfl rfl (zD _)
 have g4:=(st9.get 0 rfl).2.2.loads (o:=0) (n:=6) (s:=none) (by simp[qo])
 have hw:qC s evn i=(wZ evn (wQ s i),false):=by unfold qC;rw[if_neg (by omega),if_neg (by omega),if_neg (by omega),if_neg (by omega),if_neg (by omega),if_neg (by rw[hc];simp),if_neg (by omega),if_neg (by omega)]
 rw[hw]
 simp[hb,hm1',l0,qe,li,a1,bu,s1,k3,e1,p4,p0,lw,f1,g1]
 exact qR (a:=⟨m0.n,0,none⟩) (by simp) g4 st9.ext (by simp[qo])
set_option maxHeartbeats 1000000 in
theorem qc8 (n:Nat) (hm:m.base<=m.n) (h:MAt m P s) (hi:jB i) (he:zm s.ev=some (iv evn)) (hn:evn<=100000) (hop:i.op=23) (hc:jC s i=true):CallV (ex Tryz.prog (n+2)) 29 [mP P,.agg ⟨ql i⟩] m (.tuple #[.agg ⟨qo (qC s evn i).1⟩,.bool (qC s evn i).2]):=by
 refine qm zV (by simp) ?_
 have st1:=((St.nil hm (Ext.refl m)).row (ql i)).row z6w
 obtain⟨m0,hm0⟩:=qdi (Dx.newRow m (ql i))
 have hb:kC (.agg ⟨ql i⟩) m=some (.pointer (some ⟨m.n,0,none⟩),m0):=by rw[hm0];rfl
 have hn0:m0.n=m.n+1:=by rw[hm0,qv]
 rw[<-hm0]at st1
 obtain⟨m1,hm1⟩:=qdi (Dx.newRow m0 z6w)
 have hm1':Dx.newRow m0 [zI,zI,zI,zU,.bool false,.bool false]=m1:=hm1.symm
 rw[<-hm1]at st1
 have h1:=h.ext st1.ext
 have hPlt:=h.lt
 have ex':=(st1.get 1 rfl).2.2
 have l0:load1 m1 ⟨m.n,0,none⟩=some (.int .i64 23):=by rw[<-hop];exact ex'.load1 0 none
 obtain⟨v2,m2,a1,a2,rfl⟩:=xH n st1.sees.base h1 hi
 have li:loads m1 ⟨m.n,0,none⟩ 6=some (ql i):=ex'.loads (o:=0) (n:=6) (by simp[ql])
 have st2:=st1.step a2
 rw[hc]at a1
 obtain⟨m3,s1,st3,s2⟩:=kZ (m0:=m) st2 (xf (cellL s i))
 have bu:wJ [zI,zI,zI,zU,.bool false,.bool false] [(0,1,.int .i64 1),(1,1,iv (cellL s i)),(2,1,.int .i64 11)]=some (.agg ⟨qo (xf (cellL s i))⟩):=rfl
 have k3:load1 m3 ⟨m.n,0,none⟩=some (.int .i64 23):=by rw[<-hop];exact (st3.get 1 rfl).2.2.load1 0 none
 have h3:=h.ext st3.ext
 obtain⟨k,hk,hk2⟩:=hi.rd
 have ia:=jo P 2 hk2
 rw[<-hk]at ia
 have l1:load1 m3 ⟨m.n,1,none⟩=some (iv i.rd):=(st3.get 1 rfl).2.2.load1 1 none
 have lv:load1 m3 ⟨P,2+k,none⟩=some (uv (s.v k)):=by rw[h3.l1,yC s hk2]
 have hrd:i.rd.toNat=k:=by rw[hk];rfl
 obtain⟨m4,b1,b0,st4,b2,b3⟩:=st3.storeAny 0 (b:=m0.n) (l:=qo (xf (cellL s i))) rfl (o:=0) (v:=.int .i64 2) (by simp[qo]) rfl
 obtain⟨m5,c1,c0,st5,c2,c3⟩:=st4.storeAny 0 (b:=m0.n) rfl (o:=3) (v:=uv (s.v k)) (by simp[qo]) rfl
 have hme:meets [(7,{ rd:=some P,wr:=[] }),(2,{ rd:=some m.n,wr:=[] })] { rd:=none,wr:=[m0.n] } [2,7]=true:=by
  show (!(Nat.beq m.n m0.n || false) && (!(Nat.beq P m0.n || false) && true))=true
  rw[Jb (show m.n≠m0.n by omega),Jb (show P≠m0.n by omega)];rfl
 obtain⟨mE,hE⟩:=qdi (behind (behind m3 m4) m5)
 rw[<-hE]at st5
 have kE:load1 mE ⟨m.n,0,none⟩=some (.int .i64 23):=by rw[<-hop];exact (st5.get 1 rfl).2.2.load1 0 none
 obtain⟨m7,e1,st7,e2,e3⟩:=st5.store 0 (b:=m0.n) rfl (o:=4) (v:=.bool false) (by simp[qo]) rfl
 have hx:wQ s i=⟨2,cellL s i,11,s.v k,false,false⟩:=by unfold wQ;simp[hop,hrd]
 have st7':St m m7 [(m0.n,qo (wQ s i)),(m.n,ql i)]:=by rw[hx];exact st7
 have p4:load1 m7 ⟨m0.n,4,none⟩=some (.bool false):=by rw[(st7'.get 0 rfl).2.2.load1,hx];rfl
 have p0:load1 m7 ⟨m0.n,0,none⟩=some (.int .i64 2):=by rw[(st7'.get 0 rfl).2.2.load1,hx];rfl
 have lw:loads m7 ⟨m0.n,0,none⟩ 6=some (qo (wQ s i)):=(st7'.get 0 rfl).2.2.loads (o:=0) (n:=6) (by simp[qo])
 have h7:=h.ext st7'.ext
 obtain⟨v8,m8,f1,f2,rfl⟩:=xP n st7'.sees.base h7 he hn (wQ s i)
 have st8:=st7'.step f2
 obtain⟨m9,g1,st9,g2,g3⟩:=st8.fill 0 rfl (n:=6) (l':=qo (wZ evn (wQ s i))) rfl rfl (zD _)
 have g4:=(st9.get 0 rfl).2.2.loads (o:=0) (n:=6) (s:=none) (by simp[qo])
 have hw:qC s evn i=(wZ evn (wQ s i),false):=by unfold qC;rw[if_neg (by omega),if_neg (by omega),if_neg (by omega),if_neg (by omega),if_neg (by omega),if_neg (by rw[hc];simp),if_neg (by omega),if_neg (by omega)]
 rw[hw]
 simp[hb,hm1',l0,qe,li,a1,bu,s1,k3,l1,ia,lv,b1,b0,c1,c0,-zZ,hme,<-hE,kE,e1,p4,p0,lw,f1,g1]
 exact qR (a:=⟨m0.n,0,none⟩) (by simp) g4 st9.ext (by simp[qo])
set_option maxHeartbeats 1000000 in
theorem qc9 (n:Nat) (hm:m.base<=m.n) (h:MAt m P s) (hi:jB i) (he:zm s.ev=some (iv evn)) (hn:evn<=100000) (hop:i.op=24) (hc:jC s i=true):CallV (ex Tryz.prog (n+2)) 29 [mP P,.agg ⟨ql i⟩] m (.tuple #[.agg ⟨qo (qC s evn i).1⟩,.bool (qC s evn i).2]):=by
 refine qm zV (by simp) ?_
 have st1:=((St.nil hm (Ext.refl m)).row (ql i)).row z6w
 obtain⟨m0,hm0⟩:=qdi (Dx.newRow m (ql i))
 have hb:kC (.agg ⟨ql i⟩) m=some (.pointer (some ⟨m.n,0,none⟩),m0):=by rw[hm0];rfl
 have hn0:m0.n=m.n+1:=by rw[hm0,qv]
 rw[<-hm0]at st1
 obtain⟨m1,hm1⟩:=qdi (Dx.newRow m0 z6w)
 have hm1':Dx.newRow m0 [zI,zI,zI,zU,.bool false,.bool false]=m1:=hm1.symm
 rw[<-hm1]at st1
 have h1:=h.ext st1.ext
 have hPlt:=h.lt
 have ex':=(st1.get 1 rfl).2.2
 have l0:load1 m1 ⟨m.n,0,none⟩=some (.int .i64 24):=by rw[<-hop];exact ex'.load1 0 none
 obtain⟨v2,m2,a1,a2,rfl⟩:=xH n st1.sees.base h1 hi
 have li:loads m1 ⟨m.n,0,none⟩ 6=some (ql i):=ex'.loads (o:=0) (n:=6) (by simp[ql])
 have st2:=st1.step a2
 rw[hc]at a1
 obtain⟨m3,s1,st3,s2⟩:=kZ (m0:=m) st2 (xf (cellL s i))
 have bu:wJ [zI,zI,zI,zU,.bool false,.bool false] [(0,1,.int .i64 1),(1,1,iv (cellL s i)),(2,1,.int .i64 11)]=some (.agg ⟨qo (xf (cellL s i))⟩):=rfl
 have k3:load1 m3 ⟨m.n,0,none⟩=some (.int .i64 24):=by rw[<-hop];exact (st3.get 1 rfl).2.2.load1 0 none
 obtain⟨m6,d1,st6,d2,d3⟩:=st3.store 0 (b:=m0.n) rfl (o:=2) (v:=.int .i64 12) (by simp[qo]) rfl
 have k6:load1 m6 ⟨m.n,0,none⟩=some (.int .i64 24):=by rw[<-hop];exact (st6.get 1 rfl).2.2.load1 0 none
 obtain⟨m7,e1,st7,e2,e3⟩:=st6.store 0 (b:=m0.n) rfl (o:=4) (v:=.bool false) (by simp[qo]) rfl
 have hx:wQ s i=⟨1,cellL s i,12,0,false,false⟩:=by unfold wQ;simp[hop]
 have st7':St m m7 [(m0.n,qo (wQ s i)),(m.n,ql i)]:=by rw[hx];exact st7
 have p4:load1 m7 ⟨m0.n,4,none⟩=some (.bool false):=by rw[(st7'.get 0 rfl).2.2.load1,hx];rfl
 have p0:load1 m7 ⟨m0.n,0,none⟩=some (.int .i64 1):=by rw[(st7'.get 0 rfl).2.2.load1,hx];rfl
 have lw:loads m7 ⟨m0.n,0,none⟩ 6=some (qo (wQ s i)):=(st7'.get 0 rfl).2.2.loads (o:=0) (n:=6) (by simp[qo])
 have h7:=h.ext st7'.ext
 obtain⟨v8,m8,f1,f2,rfl⟩:=xP n st7'.sees.base h7 he hn (wQ s i)
 have st8:=st7'.step f2
 obtain⟨m9,g1,st9,g2,g3⟩:=st8.fill 0 rfl (n:=6) (l':=qo (wZ evn (wQ s i))) rfl rfl (zD _)
 have g4:=(st9.get 0 rfl).2.2.loads (o:=0) (n:=6) (s:=none) (by simp[qo])
 have hw:qC s evn i=(wZ evn (wQ s i),false):=by unfold qC;rw[if_neg (by omega),if_neg (by omega),if_neg (by omega),if_neg (by omega),if_neg (by omega),if_neg (by rw[hc];simp),if_neg (by omega),if_neg (by omega)]
 rw[hw]
 simp[hb,hm1',l0,qe,li,a1,bu,s1,k3,d1,k6,e1,p4,p0,lw,f1,g1]
 exact qR (a:=⟨m0.n,0,none⟩) (by simp) g4 st9.ext (by simp[qo])
set_option maxHeartbeats 1000000 in
theorem qca (n:Nat) (hm:m.base<=m.n) (h:MAt m P s) (hi:jB i) (he:zm s.ev=some (iv evn)) (hn:evn<=100000) (hop:i.op=25) (hc:jC s i=true):CallV (ex Tryz.prog (n+2)) 29 [mP P,.agg ⟨ql i⟩] m (.tuple #[.agg ⟨qo (qC s evn i).1⟩,.bool (qC s evn i).2]):=by
 refine qm zV (by simp) ?_
 have st1:=((St.nil hm (Ext.refl m)).row (ql i)).row z6w
 obtain⟨m0,hm0⟩:=qdi (Dx.newRow m (ql i))
 have hb:kC (.agg ⟨ql i⟩) m=some (.pointer (some ⟨m.n,0,none⟩),m0):=by rw[hm0];rfl
 have hn0:m0.n=m.n+1:=by rw[hm0,qv]
 rw[<-hm0]at st1
 obtain⟨m1,hm1⟩:=qdi (Dx.newRow m0 z6w)
 have hm1':Dx.newRow m0 [zI,zI,zI,zU,.bool false,.bool false]=m1:=hm1.symm
 rw[<-hm1]at st1
 have h1:=h.ext st1.ext
 have hPlt:=h.lt
 have ex':=(st1.get 1 rfl).2.2
 have l0:load1 m1 ⟨m.n,0,none⟩=some (.int .i64 25):=by rw[<-hop];exact ex'.load1 0 none
 obtain⟨v2,m2,a1,a2,rfl⟩:=xH n st1.sees.base h1 hi
 have li:loads m1 ⟨m.n,0,none⟩ 6=some (ql i):=ex'.loads (o:=0) (n:=6) (by simp[ql])
 have st2:=st1.step a2
 rw[hc]at a1
 obtain⟨m3,s1,st3,s2⟩:=kZ (m0:=m) st2 (xf (cellL s i))
 have bu:wJ [zI,zI,zI,zU,.bool false,.bool false] [(0,1,.int .i64 1),(1,1,iv (cellL s i)),(2,1,.int .i64 11)]=some (.agg ⟨qo (xf (cellL s i))⟩):=rfl
 have k3:load1 m3 ⟨m.n,0,none⟩=some (.int .i64 25):=by rw[<-hop];exact (st3.get 1 rfl).2.2.load1 0 none
 have h3:=h.ext st3.ext
 obtain⟨k,hk,hk2⟩:=hi.rd
 have ia:=jo P 2 hk2
 rw[<-hk]at ia
 have l1:load1 m3 ⟨m.n,1,none⟩=some (iv i.rd):=(st3.get 1 rfl).2.2.load1 1 none
 have lv:load1 m3 ⟨P,2+k,none⟩=some (uv (s.v k)):=by rw[h3.l1,yC s hk2]
 have hrd:i.rd.toNat=k:=by rw[hk];rfl
 obtain⟨m4,b1,b0,st4,b2,b3⟩:=st3.storeAny 0 (b:=m0.n) (l:=qo (xf (cellL s i))) rfl (o:=0) (v:=.int .i64 2) (by simp[qo]) rfl
 obtain⟨m5,c1,c0,st5,c2,c3⟩:=st4.storeAny 0 (b:=m0.n) rfl (o:=3) (v:=uv (s.v k)) (by simp[qo]) rfl
 have hme:meets [(7,{ rd:=some P,wr:=[] }),(2,{ rd:=some m.n,wr:=[] })] { rd:=none,wr:=[m0.n] } [2,7]=true:=by
  show (!(Nat.beq m.n m0.n || false) && (!(Nat.beq P m0.n || false) && true))=true
  rw[Jb (show m.n≠m0.n by omega),Jb (show P≠m0.n by omega)];rfl
 obtain⟨mE,hE⟩:=qdi (behind (behind m3 m4) m5)
 rw[<-hE]at st5
 have kE:load1 mE ⟨m.n,0,none⟩=some (.int .i64 25):=by rw[<-hop];exact (st5.get 1 rfl).2.2.load1 0 none
 obtain⟨m6,d1,st6,d2,d3⟩:=st5.store 0 (b:=m0.n) rfl (o:=2) (v:=.int .i64 13) (by simp[qo]) rfl
 have k6:load1 m6 ⟨m.n,0,none⟩=some (.int .i64 25):=by rw[<-hop];exact (st6.get 1 rfl).2.2.load1 0 none
 obtain⟨m7,e1,st7,e2,e3⟩:=st6.store 0 (b:=m0.n) rfl (o:=4) (v:=.bool false) (by simp[qo]) rfl
 have hx:wQ s i=⟨2,cellL s i,13,s.v k,false,false⟩:=by unfold wQ;simp[hop,hrd]
 have st7':St m m7 [(m0.n,qo (wQ s i)),(m.n,ql i)]:=by rw[hx];exact st7
 have p4:load1 m7 ⟨m0.n,4,none⟩=some (.bool false):=by rw[(st7'.get 0 rfl).2.2.load1,hx];rfl
 have p0:load1 m7 ⟨m0.n,0,none⟩=some (.int .i64 2):=by rw[(st7'.get 0 rfl).2.2.load1,hx];rfl
 have lw:loads m7 ⟨m0.n,0,none⟩ 6=some (qo (wQ s i)):=(st7'.get 0 rfl).2.2.loads (o:=0) (n:=6) (by simp[qo])
 have h7:=h.ext st7'.ext
 obtain⟨v8,m8,f1,f2,rfl⟩:=xP n st7'.sees.base h7 he hn (wQ s i)
 have st8:=st7'.step f2
 obtain⟨m9,g1,st9,g2,g3⟩:=st8.fill 0 rfl (n:=6) (l':=qo (wZ evn (wQ s i))) rfl rfl (zD _)
 have g4:=(st9.get 0 rfl).2.2.loads (o:=0) (n:=6) (s:=none) (by simp[qo])
 have hw:qC s evn i=(wZ evn (wQ s i),false):=by unfold qC;rw[if_neg (by omega),if_neg (by omega),if_neg (by omega),if_neg (by omega),if_neg (by omega),if_neg (by rw[hc];simp),if_neg (by omega),if_neg (by omega)]
 rw[hw]
 simp[hb,hm1',l0,qe,li,a1,bu,s1,k3,l1,ia,lv,b1,b0,c1,c0,-zZ,hme,<-hE,kE,d1,k6,e1,p4,p0,lw,f1,g1]
 exact qR (a:=⟨m0.n,0,none⟩) (by simp) g4 st9.ext (by simp[qo])
set_option maxHeartbeats 1000000 in
theorem qcb (n:Nat) (hm:m.base<=m.n) (h:MAt m P s) (hi:jB i) (he:zm s.ev=some (iv evn)) (hn:evn<=100000) (hop:i.op=26) (hc:jC s i=true):CallV (ex Tryz.prog (n+2)) 29 [mP P,.agg ⟨ql i⟩] m (.tuple #[.agg ⟨qo (qC s evn i).1⟩,.bool (qC s evn i).2]):=by
 refine qm zV (by simp) ?_
 have st1:=((St.nil hm (Ext.refl m)).row (ql i)).row z6w
 obtain⟨m0,hm0⟩:=qdi (Dx.newRow m (ql i))
 have hb:kC (.agg ⟨ql i⟩) m=some (.pointer (some ⟨m.n,0,none⟩),m0):=by rw[hm0];rfl
 have hn0:m0.n=m.n+1:=by rw[hm0,qv]
 rw[<-hm0]at st1
 obtain⟨m1,hm1⟩:=qdi (Dx.newRow m0 z6w)
 have hm1':Dx.newRow m0 [zI,zI,zI,zU,.bool false,.bool false]=m1:=hm1.symm
 rw[<-hm1]at st1
 have h1:=h.ext st1.ext
 have hPlt:=h.lt
 have ex':=(st1.get 1 rfl).2.2
 have l0:load1 m1 ⟨m.n,0,none⟩=some (.int .i64 26):=by rw[<-hop];exact ex'.load1 0 none
 obtain⟨v2,m2,a1,a2,rfl⟩:=xH n st1.sees.base h1 hi
 have li:loads m1 ⟨m.n,0,none⟩ 6=some (ql i):=ex'.loads (o:=0) (n:=6) (by simp[ql])
 have st2:=st1.step a2
 rw[hc]at a1
 obtain⟨m3,s1,st3,s2⟩:=kZ (m0:=m) st2 (xf (cellL s i))
 have bu:wJ [zI,zI,zI,zU,.bool false,.bool false] [(0,1,.int .i64 1),(1,1,iv (cellL s i)),(2,1,.int .i64 11)]=some (.agg ⟨qo (xf (cellL s i))⟩):=rfl
 have k3:load1 m3 ⟨m.n,0,none⟩=some (.int .i64 26):=by rw[<-hop];exact (st3.get 1 rfl).2.2.load1 0 none
 obtain⟨m7,e1,st7,e2,e3⟩:=st3.store 0 (b:=m0.n) rfl (o:=4) (v:=.bool true) (by simp[qo]) rfl
 have hx:wQ s i=⟨1,cellL s i,11,0,true,false⟩:=by unfold wQ;simp[hop]
 have st7':St m m7 [(m0.n,qo (wQ s i)),(m.n,ql i)]:=by rw[hx];exact st7
 have p4:load1 m7 ⟨m0.n,4,none⟩=some (.bool true):=by rw[(st7'.get 0 rfl).2.2.load1,hx];rfl
 have p0:load1 m7 ⟨m0.n,0,none⟩=some (.int .i64 1):=by rw[(st7'.get 0 rfl).2.2.load1,hx];rfl
 have lw:loads m7 ⟨m0.n,0,none⟩ 6=some (qo (wQ s i)):=(st7'.get 0 rfl).2.2.loads (o:=0) (n:=6) (by simp[qo])
 have h7:=h.ext st7'.ext
 obtain⟨v8,m8,f1,f2,rfl⟩:=xP n st7'.sees.base h7 he hn (wQ s i)
 have st8:=st7'.step f2
 obtain⟨m9,g1,st9,g2,g3⟩:=st8.fill 0 rfl (n:=6) (l':=qo (wZ evn (wQ s i))) rfl rfl (zD _)
 have g4:=(st9.get 0 rfl).2.2.loads (o:=0) (n:=6) (s:=none) (by simp[qo])
 have hw:qC s evn i=(wZ evn (wQ s i),false):=by unfold qC;rw[if_neg (by omega),if_neg (by omega),if_neg (by omega),if_neg (by omega),if_neg (by omega),if_neg (by rw[hc];simp),if_neg (by omega),if_neg (by omega)]
 rw[hw]
 simp[hb,hm1',l0,qe,li,a1,bu,s1,k3,e1,p4,p0,lw,f1,g1]
 exact qR (a:=⟨m0.n,0,none⟩) (by simp) g4 st9.ext (by simp[qo])
set_option maxHeartbeats 1000000 in
theorem qcc (n:Nat) (hm:m.base<=m.n) (h:MAt m P s) (hi:jB i) (he:zm s.ev=some (iv evn)) (hn:evn<=100000) (hop:i.op=27) (hc:jC s i=true):CallV (ex Tryz.prog (n+2)) 29 [mP P,.agg ⟨ql i⟩] m (.tuple #[.agg ⟨qo (qC s evn i).1⟩,.bool (qC s evn i).2]):=by
 refine qm zV (by simp) ?_
 have st1:=((St.nil hm (Ext.refl m)).row (ql i)).row z6w
 obtain⟨m0,hm0⟩:=qdi (Dx.newRow m (ql i))
 have hb:kC (.agg ⟨ql i⟩) m=some (.pointer (some ⟨m.n,0,none⟩),m0):=by rw[hm0];rfl
 have hn0:m0.n=m.n+1:=by rw[hm0,qv]
 rw[<-hm0]at st1
 obtain⟨m1,hm1⟩:=qdi (Dx.newRow m0 z6w)
 have hm1':Dx.newRow m0 [zI,zI,zI,zU,.bool false,.bool false]=m1:=hm1.symm
 rw[<-hm1]at st1
 have h1:=h.ext st1.ext
 have hPlt:=h.lt
 have ex':=(st1.get 1 rfl).2.2
 have l0:load1 m1 ⟨m.n,0,none⟩=some (.int .i64 27):=by rw[<-hop];exact ex'.load1 0 none
 obtain⟨v2,m2,a1,a2,rfl⟩:=xH n st1.sees.base h1 hi
 have li:loads m1 ⟨m.n,0,none⟩ 6=some (ql i):=ex'.loads (o:=0) (n:=6) (by simp[ql])
 have st2:=st1.step a2
 rw[hc]at a1
 obtain⟨m3,s1,st3,s2⟩:=kZ (m0:=m) st2 (xf (cellL s i))
 have bu:wJ [zI,zI,zI,zU,.bool false,.bool false] [(0,1,.int .i64 1),(1,1,iv (cellL s i)),(2,1,.int .i64 11)]=some (.agg ⟨qo (xf (cellL s i))⟩):=rfl
 have k3:load1 m3 ⟨m.n,0,none⟩=some (.int .i64 27):=by rw[<-hop];exact (st3.get 1 rfl).2.2.load1 0 none
 obtain⟨m6,d1,st6,d2,d3⟩:=st3.store 0 (b:=m0.n) rfl (o:=2) (v:=.int .i64 12) (by simp[qo]) rfl
 have k6:load1 m6 ⟨m.n,0,none⟩=some (.int .i64 27):=by rw[<-hop];exact (st6.get 1 rfl).2.2.load1 0 none
 obtain⟨m7,e1,st7,e2,e3⟩:=st6.store 0 (b:=m0.n) rfl (o:=4) (v:=.bool true) (by simp[qo]) rfl
 have hx:wQ s i=⟨1,cellL s i,12,0,true,false⟩:=by unfold wQ;simp[hop]
 have st7':St m m7 [(m0.n,qo (wQ s i)),(m.n,ql i)]:=by rw[hx];exact st7
 have p4:load1 m7 ⟨m0.n,4,none⟩=some (.bool true):=by rw[(st7'.get 0 rfl).2.2.load1,hx];rfl
 have p0:load1 m7 ⟨m0.n,0,none⟩=some (.int .i64 1):=by rw[(st7'.get 0 rfl).2.2.load1,hx];rfl
 have lw:loads m7 ⟨m0.n,0,none⟩ 6=some (qo (wQ s i)):=(st7'.get 0 rfl).2.2.loads (o:=0) (n:=6) (by simp[qo])
 have h7:=h.ext st7'.ext
 obtain⟨v8,m8,f1,f2,rfl⟩:=xP n st7'.sees.base h7 he hn (wQ s i)
 have st8:=st7'.step f2
 obtain⟨m9,g1,st9,g2,g3⟩:=st8.fill 0 rfl (n:=6) (l':=qo (wZ evn (wQ s i))) rfl rfl (zD _)
 have g4:=(st9.get 0 rfl).2.2.loads (o:=0) (n:=6) (s:=none) (by simp[qo])
 have hw:qC s evn i=(wZ evn (wQ s i),false):=by unfold qC;rw[if_neg (by omega),if_neg (by omega),if_neg (by omega),if_neg (by omega),if_neg (by omega),if_neg (by rw[hc];simp),if_neg (by omega),if_neg (by omega)]
 rw[hw]
 simp[hb,hm1',l0,qe,li,a1,bu,s1,k3,d1,k6,e1,p4,p0,lw,f1,g1]
 exact qR (a:=⟨m0.n,0,none⟩) (by simp) g4 st9.ext (by simp[qo])
set_option maxHeartbeats 1000000 in
theorem qcd (n:Nat) (hm:m.base<=m.n) (h:MAt m P s) (hi:jB i) (he:zm s.ev=some (iv evn)) (hn:evn<=100000) (hop:i.op=28) (hc:jC s i=true):CallV (ex Tryz.prog (n+2)) 29 [mP P,.agg ⟨ql i⟩] m (.tuple #[.agg ⟨qo (qC s evn i).1⟩,.bool (qC s evn i).2]):=by
 refine qm zV (by simp) ?_
 have st1:=((St.nil hm (Ext.refl m)).row (ql i)).row z6w
 obtain⟨m0,hm0⟩:=qdi (Dx.newRow m (ql i))
 have hb:kC (.agg ⟨ql i⟩) m=some (.pointer (some ⟨m.n,0,none⟩),m0):=by rw[hm0];rfl
 have hn0:m0.n=m.n+1:=by rw[hm0,qv]
 rw[<-hm0]at st1
 obtain⟨m1,hm1⟩:=qdi (Dx.newRow m0 z6w)
 have hm1':Dx.newRow m0 [zI,zI,zI,zU,.bool false,.bool false]=m1:=hm1.symm
 rw[<-hm1]at st1
 have h1:=h.ext st1.ext
 have hPlt:=h.lt
 have ex':=(st1.get 1 rfl).2.2
 have l0:load1 m1 ⟨m.n,0,none⟩=some (.int .i64 28):=by rw[<-hop];exact ex'.load1 0 none
 obtain⟨v2,m2,a1,a2,rfl⟩:=xH n st1.sees.base h1 hi
 have li:loads m1 ⟨m.n,0,none⟩ 6=some (ql i):=ex'.loads (o:=0) (n:=6) (by simp[ql])
 have st2:=st1.step a2
 rw[hc]at a1
 obtain⟨m3,s1,st3,s2⟩:=kZ (m0:=m) st2 (xf (cellL s i))
 have bu:wJ [zI,zI,zI,zU,.bool false,.bool false] [(0,1,.int .i64 1),(1,1,iv (cellL s i)),(2,1,.int .i64 11)]=some (.agg ⟨qo (xf (cellL s i))⟩):=rfl
 have k3:load1 m3 ⟨m.n,0,none⟩=some (.int .i64 28):=by rw[<-hop];exact (st3.get 1 rfl).2.2.load1 0 none
 have h3:=h.ext st3.ext
 obtain⟨k,hk,hk2⟩:=hi.rd
 have ia:=jo P 2 hk2
 rw[<-hk]at ia
 have l1:load1 m3 ⟨m.n,1,none⟩=some (iv i.rd):=(st3.get 1 rfl).2.2.load1 1 none
 have lv:load1 m3 ⟨P,2+k,none⟩=some (uv (s.v k)):=by rw[h3.l1,yC s hk2]
 have hrd:i.rd.toNat=k:=by rw[hk];rfl
 obtain⟨m4,b1,b0,st4,b2,b3⟩:=st3.storeAny 0 (b:=m0.n) (l:=qo (xf (cellL s i))) rfl (o:=0) (v:=.int .i64 2) (by simp[qo]) rfl
 obtain⟨m5,c1,c0,st5,c2,c3⟩:=st4.storeAny 0 (b:=m0.n) rfl (o:=3) (v:=uv (s.v k)) (by simp[qo]) rfl
 have hme:meets [(7,{ rd:=some P,wr:=[] }),(2,{ rd:=some m.n,wr:=[] })] { rd:=none,wr:=[m0.n] } [2,7]=true:=by
  show (!(Nat.beq m.n m0.n || false) && (!(Nat.beq P m0.n || false) && true))=true
  rw[Jb (show m.n≠m0.n by omega),Jb (show P≠m0.n by omega)];rfl
 obtain⟨mE,hE⟩:=qdi (behind (behind m3 m4) m5)
 rw[<-hE]at st5
 have kE:load1 mE ⟨m.n,0,none⟩=some (.int .i64 28):=by rw[<-hop];exact (st5.get 1 rfl).2.2.load1 0 none
 obtain⟨m7,e1,st7,e2,e3⟩:=st5.store 0 (b:=m0.n) rfl (o:=4) (v:=.bool true) (by simp[qo]) rfl
 have hx:wQ s i=⟨2,cellL s i,11,s.v k,true,false⟩:=by unfold wQ;simp[hop,hrd]
 have st7':St m m7 [(m0.n,qo (wQ s i)),(m.n,ql i)]:=by rw[hx];exact st7
 have p4:load1 m7 ⟨m0.n,4,none⟩=some (.bool true):=by rw[(st7'.get 0 rfl).2.2.load1,hx];rfl
 have p0:load1 m7 ⟨m0.n,0,none⟩=some (.int .i64 2):=by rw[(st7'.get 0 rfl).2.2.load1,hx];rfl
 have lw:loads m7 ⟨m0.n,0,none⟩ 6=some (qo (wQ s i)):=(st7'.get 0 rfl).2.2.loads (o:=0) (n:=6) (by simp[qo])
 have h7:=h.ext st7'.ext
 obtain⟨v8,m8,f1,f2,rfl⟩:=xP n st7'.sees.base h7 he hn (wQ s i)
 have st8:=st7'.step f2
 obtain⟨m9,g1,st9,g2,g3⟩:=st8.fill 0 rfl (n:=6) (l':=qo (wZ evn (wQ s i))) rfl rfl (zD _)
 have g4:=(st9.get 0 rfl).2.2.loads (o:=0) (n:=6) (s:=none) (by simp[qo])
 have p72:load1 m7 ⟨P,72,none⟩=some (.bool s.opn):=h7.l1 72
 have p73:load1 m7 ⟨P,73,none⟩=some (iv s.loc):=h7.l1 73
 obtain⟨mA,x1,stA,x2,x3⟩:=st7'.fill 0 rfl (n:=6) (l':=qo (wQ s i)) rfl rfl (zD _)
 have x4:=(stA.get 0 rfl).2.2.loads (o:=0) (n:=6) (s:=none) (by simp[qo])
 by_cases ho:s.opn=true
 ·by_cases hl:s.loc=cellL s i
  ·have hw:qC s evn i=(wZ evn (wQ s i),false):=by unfold qC;rw[if_neg (by omega),if_neg (by omega),if_neg (by omega),if_neg (by omega),if_neg (by omega),if_neg (by rw[hc];simp),if_neg (by omega),if_neg (fun hh=>by rcases hh.2 with e | e;rw[ho]at e;cases e;exact e hl)]
   rw[hw]
   rw[ho]at p72
   simp[hb,hm1',l0,qe,li,a1,bu,s1,k3,l1,ia,lv,b1,b0,c1,c0,-zZ,hme,<-hE,kE,e1,p4,p0,lw,f1,g1,p72,p73,hl]
   exact qR (a:=⟨m0.n,0,none⟩) (by simp) g4 st9.ext (by simp[qo])
  ·have hw:qC s evn i=(wQ s i,true):=by unfold qC;rw[if_neg (by omega),if_neg (by omega),if_neg (by omega),if_neg (by omega),if_neg (by omega),if_neg (by rw[hc];simp),if_neg (by omega),if_pos ⟨by omega,.inr hl⟩]
   rw[hw]
   rw[ho]at p72
   simp[hb,hm1',l0,qe,li,a1,bu,s1,k3,l1,ia,lv,b1,b0,c1,c0,-zZ,hme,<-hE,kE,e1,p4,p0,lw,f1,g1,p72,p73,hl,x1]
   exact qR (a:=⟨m0.n,0,none⟩) (by simp) x4 stA.ext (by simp[qo])
 ·have ho':s.opn=false:=by simpa using ho
  have hw:qC s evn i=(wQ s i,true):=by unfold qC;rw[if_neg (by omega),if_neg (by omega),if_neg (by omega),if_neg (by omega),if_neg (by omega),if_neg (by rw[hc];simp),if_neg (by omega),if_pos ⟨by omega,.inl ho'⟩]
  rw[hw]
  rw[ho']at p72
  simp[hb,hm1',l0,qe,li,a1,bu,s1,k3,l1,ia,lv,b1,b0,c1,c0,-zZ,hme,<-hE,kE,e1,p4,p0,lw,f1,g1,p72,p73,x1]
  exact qR (a:=⟨m0.n,0,none⟩) (by simp) x4 stA.ext (by simp[qo])
set_option maxHeartbeats 1000000 in
theorem qce (n:Nat) (hm:m.base<=m.n) (h:MAt m P s) (hi:jB i) (he:zm s.ev=some (iv evn)) (hn:evn<=100000) (hop:i.op=29) (hc:jC s i=true):CallV (ex Tryz.prog (n+2)) 29 [mP P,.agg ⟨ql i⟩] m (.tuple #[.agg ⟨qo (qC s evn i).1⟩,.bool (qC s evn i).2]):=by
 refine qm zV (by simp) ?_
 have st1:=((St.nil hm (Ext.refl m)).row (ql i)).row z6w
 obtain⟨m0,hm0⟩:=qdi (Dx.newRow m (ql i))
 have hb:kC (.agg ⟨ql i⟩) m=some (.pointer (some ⟨m.n,0,none⟩),m0):=by rw[hm0];rfl
 have hn0:m0.n=m.n+1:=by rw[hm0,qv]
 rw[<-hm0]at st1
 obtain⟨m1,hm1⟩:=qdi (Dx.newRow m0 z6w)
 have hm1':Dx.newRow m0 [zI,zI,zI,zU,.bool false,.bool false]=m1:=hm1.symm
 rw[<-hm1]at st1
 have h1:=h.ext st1.ext
 have hPlt:=h.lt
 have ex':=(st1.get 1 rfl).2.2
 have l0:load1 m1 ⟨m.n,0,none⟩=some (.int .i64 29):=by rw[<-hop];exact ex'.load1 0 none
 obtain⟨v2,m2,a1,a2,rfl⟩:=xH n st1.sees.base h1 hi
 have li:loads m1 ⟨m.n,0,none⟩ 6=some (ql i):=ex'.loads (o:=0) (n:=6) (by simp[ql])
 have st2:=st1.step a2
 rw[hc]at a1
 obtain⟨m3,s1,st3,s2⟩:=kZ (m0:=m) st2 (xf (cellL s i))
 have bu:wJ [zI,zI,zI,zU,.bool false,.bool false] [(0,1,.int .i64 1),(1,1,iv (cellL s i)),(2,1,.int .i64 11)]=some (.agg ⟨qo (xf (cellL s i))⟩):=rfl
 have k3:load1 m3 ⟨m.n,0,none⟩=some (.int .i64 29):=by rw[<-hop];exact (st3.get 1 rfl).2.2.load1 0 none
 have h3:=h.ext st3.ext
 obtain⟨k,hk,hk2⟩:=hi.rd
 have ia:=jo P 2 hk2
 rw[<-hk]at ia
 have l1:load1 m3 ⟨m.n,1,none⟩=some (iv i.rd):=(st3.get 1 rfl).2.2.load1 1 none
 have lv:load1 m3 ⟨P,2+k,none⟩=some (uv (s.v k)):=by rw[h3.l1,yC s hk2]
 have hrd:i.rd.toNat=k:=by rw[hk];rfl
 obtain⟨m4,b1,b0,st4,b2,b3⟩:=st3.storeAny 0 (b:=m0.n) (l:=qo (xf (cellL s i))) rfl (o:=0) (v:=.int .i64 2) (by simp[qo]) rfl
 obtain⟨m5,c1,c0,st5,c2,c3⟩:=st4.storeAny 0 (b:=m0.n) rfl (o:=3) (v:=uv (s.v k)) (by simp[qo]) rfl
 have hme:meets [(7,{ rd:=some P,wr:=[] }),(2,{ rd:=some m.n,wr:=[] })] { rd:=none,wr:=[m0.n] } [2,7]=true:=by
  show (!(Nat.beq m.n m0.n || false) && (!(Nat.beq P m0.n || false) && true))=true
  rw[Jb (show m.n≠m0.n by omega),Jb (show P≠m0.n by omega)];rfl
 obtain⟨mE,hE⟩:=qdi (behind (behind m3 m4) m5)
 rw[<-hE]at st5
 have kE:load1 mE ⟨m.n,0,none⟩=some (.int .i64 29):=by rw[<-hop];exact (st5.get 1 rfl).2.2.load1 0 none
 obtain⟨m6,d1,st6,d2,d3⟩:=st5.store 0 (b:=m0.n) rfl (o:=2) (v:=.int .i64 13) (by simp[qo]) rfl
 have k6:load1 m6 ⟨m.n,0,none⟩=some (.int .i64 29):=by rw[<-hop];exact (st6.get 1 rfl).2.2.load1 0 none
 obtain⟨m7,e1,st7,e2,e3⟩:=st6.store 0 (b:=m0.n) rfl (o:=4) (v:=.bool true) (by simp[qo]) rfl
 have hx:wQ s i=⟨2,cellL s i,13,s.v k,true,false⟩:=by unfold wQ;simp[hop,hrd]
 have st7':St m m7 [(m0.n,qo (wQ s i)),(m.n,ql i)]:=by rw[hx];exact st7
 have p4:load1 m7 ⟨m0.n,4,none⟩=some (.bool true):=by rw[(st7'.get 0 rfl).2.2.load1,hx];rfl
 have p0:load1 m7 ⟨m0.n,0,none⟩=some (.int .i64 2):=by rw[(st7'.get 0 rfl).2.2.load1,hx];rfl
 have lw:loads m7 ⟨m0.n,0,none⟩ 6=some (qo (wQ s i)):=(st7'.get 0 rfl).2.2.loads (o:=0) (n:=6) (by simp[qo])
 have h7:=h.ext st7'.ext
 obtain⟨v8,m8,f1,f2,rfl⟩:=xP n st7'.sees.base h7 he hn (wQ s i)
 have st8:=st7'.step f2
 obtain⟨m9,g1,st9,g2,g3⟩:=st8.fill 0 rfl (n:=6) (l':=qo (wZ evn (wQ s i))) rfl rfl (zD _)
 have g4:=(st9.get 0 rfl).2.2.loads (o:=0) (n:=6) (s:=none) (by simp[qo])
 have p72:load1 m7 ⟨P,72,none⟩=some (.bool s.opn):=h7.l1 72
 have p73:load1 m7 ⟨P,73,none⟩=some (iv s.loc):=h7.l1 73
 obtain⟨mA,x1,stA,x2,x3⟩:=st7'.fill 0 rfl (n:=6) (l':=qo (wQ s i)) rfl rfl (zD _)
 have x4:=(stA.get 0 rfl).2.2.loads (o:=0) (n:=6) (s:=none) (by simp[qo])
 by_cases ho:s.opn=true
 ·by_cases hl:s.loc=cellL s i
  ·have hw:qC s evn i=(wZ evn (wQ s i),false):=by unfold qC;rw[if_neg (by omega),if_neg (by omega),if_neg (by omega),if_neg (by omega),if_neg (by omega),if_neg (by rw[hc];simp),if_neg (by omega),if_neg (fun hh=>by rcases hh.2 with e | e;rw[ho]at e;cases e;exact e hl)]
   rw[hw]
   rw[ho]at p72
   simp[hb,hm1',l0,qe,li,a1,bu,s1,k3,l1,ia,lv,b1,b0,c1,c0,-zZ,hme,<-hE,kE,d1,k6,e1,p4,p0,lw,f1,g1,p72,p73,hl]
   exact qR (a:=⟨m0.n,0,none⟩) (by simp) g4 st9.ext (by simp[qo])
  ·have hw:qC s evn i=(wQ s i,true):=by unfold qC;rw[if_neg (by omega),if_neg (by omega),if_neg (by omega),if_neg (by omega),if_neg (by omega),if_neg (by rw[hc];simp),if_neg (by omega),if_pos ⟨by omega,.inr hl⟩]
   rw[hw]
   rw[ho]at p72
   simp[hb,hm1',l0,qe,li,a1,bu,s1,k3,l1,ia,lv,b1,b0,c1,c0,-zZ,hme,<-hE,kE,d1,k6,e1,p4,p0,lw,f1,g1,p72,p73,hl,x1]
   exact qR (a:=⟨m0.n,0,none⟩) (by simp) x4 stA.ext (by simp[qo])
 ·have ho':s.opn=false:=by simpa using ho
  have hw:qC s evn i=(wQ s i,true):=by unfold qC;rw[if_neg (by omega),if_neg (by omega),if_neg (by omega),if_neg (by omega),if_neg (by omega),if_neg (by rw[hc];simp),if_neg (by omega),if_pos ⟨by omega,.inl ho'⟩]
  rw[hw]
  rw[ho']at p72
  simp[hb,hm1',l0,qe,li,a1,bu,s1,k3,l1,ia,lv,b1,b0,c1,c0,-zZ,hme,<-hE,kE,d1,k6,e1,p4,p0,lw,f1,g1,p72,p73,x1]
  exact qR (a:=⟨m0.n,0,none⟩) (by simp) x4 stA.ext (by simp[qo])
theorem want_c (n:Nat) (hm:m.base<=m.n) (h:MAt m P s) (hi:jB i) (h33:i.op=33->∃k:Nat,i.imm=(k:Int)/\k<32) (he:zm s.ev=some (iv evn)) (hn:evn<=100000):CallV (ex Tryz.prog (n+2)) 29 [mP P,.agg ⟨ql i⟩] m (.tuple #[.agg ⟨qo (qC s evn i).1⟩,.bool (qC s evn i).2]):=by
 obtain⟨o1,o2⟩:=hi.op
 by_cases c:i.op<22
 ·exact want_e n hm h hi he hn c
 by_cases c:i.op<=29
 ·cases hc:jC s i with
  | false=>exact want_g n hm h hi he hn (by omega) hc
  | true =>
   rcases (by omega:i.op=22\/i.op=23\/i.op=24\/i.op=25\/i.op=26\/i.op=27\/i.op=28\/i.op=29) with e | e | e | e | e | e | e | e
   ·exact qc7 n hm h hi he hn e hc
   ·exact qc8 n hm h hi he hn e hc
   ·exact qc9 n hm h hi he hn e hc
   ·exact qca n hm h hi he hn e hc
   ·exact qcb n hm h hi he hn e hc
   ·exact qcc n hm h hi he hn e hc
   ·exact qcd n hm h hi he hn e hc
   ·exact qce n hm h hi he hn e hc
 by_cases c:35<=i.op
 ·cases hc:jC s i with
  | false=>exact want_h n hm h hi he hn c hc
  | true=>exact want_k n hm h hi he hn c hc
 rcases (by omega:i.op=30\/i.op=31\/i.op=32\/i.op=33\/i.op=34) with e | e | e | e | e
 ·exact want_a n hm h hi he hn e
 ·exact want_b n hm h hi he hn e
 ·exact want_f n hm h hi he hn e
 ·exact qcf n hm h hi he hn e (h33 e)
 ·exact want_d n hm h hi he hn e
end
end Go.Sx
namespace Go.Sx
open Go.Dx Go.Proofs
set_option maxRecDepth 10000
theorem map_set {α:Type} (f:Nat->α) {k n:Nat} (h:k<n) (x:α):((List.range n).map f).set k x=(List.range n).map (upN f k x):=by
 refine List.ext_getElem (by simp) fun i h1 h2=>?_
 simp only[List.getElem_set,List.getElem_map,List.getElem_range]
 by_cases e:k=i
 ·subst e;rw[if_pos rfl,yM]
 ·rw[if_neg e,Wa _ _ (Ne.symm e)]
theorem qar (s:Mch) {k:Nat} (h:k<32) (x:Nat):(qS s).set (2+k) (uv x)=qS { s with v:=upN s.v k x }:=by
 unfold qS
 rw[qde,qde,List.set_append_right _ _ (by simp),List.set_append_left _ _ (by simp;omega)]
 simp only[List.length_cons,List.length_nil]
 rw[show 2+k - (0+1+1)=k by omega,map_set _ h]
 have:(List.range 32).map (upN (fun k=>uv (s.v k)) k (uv x))=(List.range 32).map fun j=>uv (upN s.v k x j):=List.map_congr_left fun j _=>by
  unfold upN;split<;>rfl
 rw[this,<-qde,<-qde]
 rfl
theorem qaq (s:Mch) {k:Nat} (h:k<32) (x:Value):(qS s).set (34+k) x=qS { s with t:=upN s.t k x }:=by
 unfold qS
 rw[qde,qde,List.set_append_right _ _ (by simp;omega),List.set_append_right _ _ (by simp;omega),List.set_append_left _ _ (by simp;omega)]
 simp only[List.length_cons,List.length_nil,List.length_map,List.length_range]
 rw[show 34+k - (0+1+1) - 32=k by omega,map_set _ h,<-qde,<-qde]
 rfl
def dH (s:Mch) (k:Nat) (x:Nat) (tv:Value):Mch:=if k=31 then s else { s with v:=upN s.v k x,t:=upN s.t k tv }
theorem MAt.ow {m:M} {P:Nat} {s:Mch} (h:MAt m P s) (hm:m.base<=m.n):Ow m m [P] [(P,qS s)] :=
 Ow.start hm (by simp;exact⟨h.lt,h.arr⟩) (by simp)
theorem set_c (n:Nat) {m:M} (hm:m.base<=m.n) {P:Nat} {s:Mch} (h:MAt m P s) {k:Nat} (hk:k<32) (x:Nat) (tv:Value) (ht:okC tv=true) :
  MuC (ex Tryz.prog (n+1)) 37 [.pointer (some ⟨P,2,none⟩),iv k,uv x,tv] m P (fun _ m'=>MAt m' P (dH s k x tv)):=by
 refine qA (Q:=fun v m'=>Mc m m' [P]/\MAt m' P (dH s k x tv)) dc3_ok (by simp) ?_
 have ow:=h.ow hm
 by_cases h31:k=31
 ·have hd:((k:Int)=31)=True:=eq_true (by omega)
  have hd':(k=31)=True:=eq_true h31
  simp[hd,hd']
  exact kX ⟨Mc.refl,by unfold dH;rw[if_pos h31];exact h⟩
 ·have hd:((k:Int)=31)=False:=eq_false (by omega)
  have hd':(k=31)=False:=eq_false h31
  have i1:=jo P 2 hk
  have i2:=jo P 34 hk
  obtain⟨m1,a1,a0,ow1,a2,a3⟩:=ow.storeAny 0 rfl (o:=2+k) (v:=uv x) (by rw[kh];omega) rfl
  rw[qar s hk x]at ow1
  obtain⟨m2,b1,b0,ow2,b2,b3⟩:=ow1.storeAny 0 rfl (o:=34+k) (v:=tv) (by rw[kh];omega) ht
  simp[hd,hd',i1,i2,a1,a0,b1,b0]
  refine kX ⟨ow2.mc,?_⟩
  have g:=ow2.get 0 rfl
  unfold dH
  rw[if_neg h31]
  refine⟨?_,g.2.1⟩
  have:=g.2.2
  rwa [qaq _ hk]at this
end Go.Sx
namespace Go.Sx
open Go.Dx Go.Proofs
set_option maxRecDepth 10000
structure EvR where
 th:Int
 kind:Int
 loc:Int
 val:Nat
 mode:Int
 deriving DecidableEq
def zJ (x:EvR):List Value:=[iv x.th,iv x.kind,iv x.loc,uv x.val,iv x.mode]
abbrev zG (x:Nat):List Value:=[uv x]
def Row (e:Nat):Type:={ l:List Value // l.length=e/\∀v∈l,okC v=true }
def wD {e:Nat} (r:Row e):List Value:=r.1
def evR (x:EvR):Row 5:=⟨zJ x,rfl,by simp[zJ,okC]⟩
def prR (x:Nat × Nat):Row 2:=⟨qf x,rfl,by simp[qf,okC]⟩
def wdR (x:Nat):Row 1:=⟨zG x,rfl,by simp[okC]⟩
def esz:Nat->Nat
 | 0=>5
 | 1=>2 | 2=>2 | 3=>2 | 4=>2
 | _=>1
theorem Kr (F:Nat):0<esz F:=by unfold esz;split<;>omega
structure Hf where
 w:Wnt
 ad:List Nat
 da:List Nat
 rd:Nat
structure PM where
 sc:Mch
 code:List Ins
 t:Nat->List Nat
 ft:List Nat
 way:List Nat
 half:Option Hf
 ev:List EvR
 rmw:List (Nat × Nat)
 addr:List (Nat × Nat)
 data:List (Nat × Nat)
 ctrl:List (Nat × Nat)
 outs:List Nat
def lst (s:Mch):Nat->Value
 | 0=>s.ev
 | 1=>s.rmw
 | 2=>s.addr
 | 3=>s.data
 | 4=>s.ctrl
 | 5=>s.outs
 | _=>zc
def vn (s:Mch) (F:Nat) (v:Value):Mch:=match F with
 | 0=>{ s with ev:=v }
 | 1=>{ s with rmw:=v }
 | 2=>{ s with addr:=v }
 | 3=>{ s with data:=v }
 | 4=>{ s with ctrl:=v }
 | 5=>{ s with outs:=v }
 | _=>s
def rowsOf (S:PM):(F:Nat)->List (Row (esz F))
 | 0=>S.ev.map evR
 | 1=>S.rmw.map prR
 | 2=>S.addr.map prR
 | 3=>S.data.map prR
 | 4=>S.ctrl.map prR
 | 5=>S.outs.map wdR
 | _+6=>[]
theorem six {F:Nat} (h:F<6):F=0\/F=1\/F=2\/F=3\/F=4\/F=5:=by omega
theorem xv (s:Mch) {F:Nat} (h:F<6) (v:Value):lst (vn s F v) F=v:=by rcases six h with rfl | rfl | rfl | rfl | rfl | rfl<;>rfl
theorem zh (s:Mch) {F G:Nat} (h:F<6) (hG:G<6) (hne:G≠F) (v:Value):lst (vn s F v) G=lst s G:=by
 rcases six h with rfl | rfl | rfl | rfl | rfl | rfl<;>rcases six hG with rfl | rfl | rfl | rfl | rfl | rfl<;>first | rfl | exact absurd rfl hne
theorem mc_lst (s:Mch) {F:Nat} (h:F<6):(qS s)[78+F]?=some (lst s F):=by rcases six h with rfl | rfl | rfl | rfl | rfl | rfl<;>rfl
theorem Vz (s:Mch) {F:Nat} (h:F<6) (v:Value):(qS s).set (78+F) v=qS (vn s F v):=by
 rcases six h with rfl | rfl | rfl | rfl | rfl | rfl<;>kernel_rfl
structure Gh where
 H:Option Nat
 av:Value
 dv:Value
def HalfR (m:M) (hv:Value) (g:Gh):Option Hf->Prop
 | none=>hv=.pointer none
 | some h=>∃H,g.H=some H/\hv=mP H/\H<m.n/\Arr m H (qo h.w ++ [g.av,g.dv,iv h.rd])/\RS m g.av h.ad/\RS m g.dv h.da
def Sh (s:Mch) (g:Gh) (B:Nat):Prop:=blk s.l=some B\/(∃k,k<32/\blk (s.t k)=some B)\/blk s.ft=some B\/blk s.way=some B\/g.H=some B\/blk g.av=some B\/blk g.dv=some B
def Lb (s:Mch) (B:Nat):Prop:=∃F,F<6/\blk (lst s F)=some B
structure Hp (m:M) (P:Nat) (s:Mch) (g:Gh) (S:PM):Prop where
 code:Rd m s.l 6 ql S.code
 t:∀k,k<32->RS m (s.t k) (S.t k)
 ft:RS m s.ft S.ft
 way:RS m s.way S.way
 half:HalfR m s.half g S.half
 ls:∀F,F<6->Gro m (lst s F) (esz F) wD (rowsOf S F)
 dis:∀F G,F<6->G<6->F≠G->∀B,blk (lst s F)=some B->blk (lst s G)≠some B
 lP:∀F,F<6->blk (lst s F)≠some P
 sP:¬Sh s g P
 sL:∀B,Sh s g B->¬Lb s B
 sn:∀B,Sh s g B->B<m.n
def bU (s:Mch):Mch:={ s with l:=zc,t:=fun _=>zc,ft:=zc,way:=zc,half:=.pointer none,ev:=zc,rmw:=zc,addr:=zc,data:=zc,ctrl:=zc,outs:=zc }
def Sc (s:Mch) (S:PM):Prop:=bU s=S.sc
theorem HalfR.congr {m m':M} {hv:Value} {g:Gh} {h:Option Hf} (k:HalfR m hv g h) (hn:m.n<=m'.n) (ho:∀B,g.H=some B\/blk g.av=some B\/blk g.dv=some B->m'.obj B=m.obj B):HalfR m' hv g h:=by
 cases h with
 | none=>exact k
 | some h =>
  obtain⟨H,h1,h2,h3,h4,h5,h6⟩:=k
  exact⟨H,h1,h2,qcz h3 hn,h4.congr (ho H (.inl h1)),h5.congr hn fun B hB=>ho B (.inr (.inl hB)),h6.congr hn fun B hB=>ho B (.inr (.inr hB))⟩
theorem Hp.congr {m m':M} {P:Nat} {s:Mch} {g:Gh} {S:PM} (h:Hp m P s g S) (hn:m.n<=m'.n) (hs:∀B,Sh s g B->m'.obj B=m.obj B) (hl:∀B,Lb s B->m'.obj B=m.obj B):Hp m' P s g S :=
 ⟨h.code.congr hn fun B hB=>hs B (.inl hB),fun k hk=>(h.t k hk).congr hn fun B hB=>hs B (.inr (.inl ⟨k,hk,hB⟩)),h.ft.congr hn fun B hB=>hs B (.inr (.inr (.inl hB))),h.way.congr hn fun B hB=>hs B (.inr (.inr (.inr (.inl hB)))),
  h.half.congr hn fun B hB=>hs B (.inr (.inr (.inr (.inr hB)))),fun F hF=>(h.ls F hF).keep hn fun B _ hB=>hl B ⟨F,hF,hB⟩,h.dis,h.lP,h.sP,h.sL,fun B hB=>qcz (h.sn B hB) hn⟩
theorem Hp.ln {m:M} {P:Nat} {s:Mch} {g:Gh} {S:PM} (h:Hp m P s g S) {B:Nat} (hB:Lb s B):B<m.n:=by
 obtain⟨F,hF,e⟩:=hB
 exact (h.ls F hF).lt B e
theorem Hp.ext {m m':M} {P:Nat} {s:Mch} {g:Gh} {S:PM} (h:Hp m P s g S) (e:Ext m m'):Hp m' P s g S :=
 h.congr e.n (fun B hB=>e.obj B (h.sn B hB)) fun B hB=>e.obj B (h.ln hB)
structure dX (s s':Mch) (S S':PM):Prop where
 l:s'.l=s.l
 t:s'.t=s.t
 ft:s'.ft=s.ft
 way:s'.way=s.way
 half:s'.half=s.half
 ls:∀F,F<6->lst s' F=lst s F
 code:S'.code=S.code
 tS:S'.t=S.t
 ftS:S'.ft=S.ft
 wayS:S'.way=S.way
 halfS:S'.half=S.half
 lsS:∀F,F<6->rowsOf S' F=rowsOf S F
theorem Hp.same {m:M} {P:Nat} {s s':Mch} {g:Gh} {S S':PM} (h:Hp m P s g S) (k:dX s s' S S'):Hp m P s' g S':=by
 have hsh:∀B,Sh s' g B->Sh s g B:=fun B hB=>by unfold Sh at *;rw[k.l,k.t,k.ft,k.way]at hB;exact hB
 have hlb:∀B,Lb s' B->Lb s B:=fun B ⟨F,hF,hB⟩=>⟨F,hF,by rw[<-k.ls F hF];exact hB⟩
 exact⟨by rw[k.l,k.code];exact h.code,fun q hq=>by rw[k.t,k.tS];exact h.t q hq,by rw[k.ft,k.ftS];exact h.ft,by rw[k.way,k.wayS];exact h.way,by rw[k.half,k.halfS];exact h.half,fun F hF=>by rw[k.ls F hF,k.lsS F hF];exact h.ls F hF,
  fun F G hF hG hne B hB=>by rw[k.ls G hG];rw[k.ls F hF]at hB;exact h.dis F G hF hG hne B hB,fun F hF=>by rw[k.ls F hF];exact h.lP F hF,fun hP=>h.sP (hsh P hP),fun B hB hL=>h.sL B (hsh B hB) (hlb B hL),fun B hB=>h.sn B (hsh B hB)⟩
def own (P:Nat) (s:Mch):List Nat:=P :: (List.range 6).flatMap fun F=>vO (lst s F)
theorem wG {P B:Nat} {s:Mch}:B∈own P s ↔ B=P\/Lb s B:=by
 unfold own Lb
 rw[List.mem_cons,List.mem_flatMap]
 constructor
 ·rintro (h | ⟨F,hF,h⟩)
  ·exact .inl h
  ·exact .inr ⟨F,List.mem_range.1 hF,ki.1 h⟩
 ·rintro (h | ⟨F,hF,h⟩)
  ·exact .inl h
  ·exact .inr ⟨F,List.mem_range.2 hF,ki.2 h⟩
structure MX (m0 m:M) (W:List Nat) (Z:Nat->Prop) (P:Nat) (σ:List (Nat × List Value)) (s:Mch) (g:Gh) (S:PM):Prop where
 ow:Ow m0 m W (σ ++ [(P,qS s)])
 hp:Hp m P s g S
 sc:Sc s S
 lW:∀B,Lb s B->B∈W\/m0.n<=B
 shZ:∀B,Sh s g B->Z B\/m0.n<=B
 sig:∀p∈σ,¬Lb s p.1/\¬Sh s g p.1
 PW:P∈W
 Wn:∀B∈W,B<m0.n
end Go.Sx
namespace Go.Dx
theorem Ow.app {m0 m:M} {W:List Nat} {σ:List (Nat × List Value)} {α:Type} {v:Value} {e:Nat} {f:α->List Value} {es:List α} (h:Ow m0 m W σ) (hg:Grown M.empty m v e f es) (he:0<e) (hf:∀x,(f x).length=e) (hok:∀x,∀v∈f x,okC v=true) {x:α} {X:Nat} {sp:Option Nat}
  (hx:loads m ⟨X,0,sp⟩ e=some (f x)) {bytes:Nat} (hm:(es.length+1)*bytes<=most) (hn:es.length+1<=4611686018427387904) (hB:∀B,blk v=some B->B∈W\/m0.n<=B) (hσ:∀p∈σ,blk v≠some p.1) :
  ∃v' mq,wE m e bytes v (.slice (some ⟨X,0,sp⟩) 1 1)=some (v',mq)/\Ow m0 mq W σ/\Grown M.empty mq v' e f (es ++ [x])/\(∀B,blk v'=some B->m.n<=B)/\m.n<mq.n/\(∀X,X<m.n->blk v≠some X->mq.obj X=m.obj X):=by
 obtain⟨v',mq,h1,h2,h3,h4,h5,h6,h7⟩:=hg.core he hf hok hx (Nat.zero_le _) hm hn
 exact⟨v',mq,h1,h.kill hB (Nat.le_of_lt h3) h4 (h5.imp id fun ⟨B,a,_,b⟩=>⟨B,a,b⟩) h6 hσ,h2,h7,h3,h6⟩
end Go.Dx
namespace Go.Sx
open Go.Dx Go.Proofs
set_option maxRecDepth 10000
theorem wU {e:Nat} (r:Row e):(wD r).length=e:=r.2.1
theorem gV {e:Nat} (r:Row e):∀v∈wD r,okC v=true:=r.2.2
section
variable {m0 m m':M} {W:List Nat} {Z:Nat->Prop} {P:Nat} {σ:List (Nat × List Value)} {s s':Mch} {g:Gh} {S S':PM}
theorem MX.mb (h:MX m0 m W Z P σ s g S):m.base<=m.n:=h.ow.mb
theorem MX.atP (h:MX m0 m W Z P σ s g S):(σ ++ [(P,qS s)])[σ.length]?=some (P,qS s):=by rw[qd9 (qcx _)];simp
theorem MX.mat (h:MX m0 m W Z P σ s g S):MAt m P s:=⟨(h.ow.get _ h.atP).2.2,(h.ow.get _ h.atP).2.1⟩
theorem MX.ld (h:MX m0 m W Z P σ s g S) (o:Nat):load1 m ⟨P,o,none⟩=(qS s)[o]?:=h.mat.l1 o
theorem MX.lsn (h:MX m0 m W Z P σ s g S) {F:Nat} (hF:F<6):load1 m ⟨P,78+F,none⟩=some (lst s F):=by rw[h.ld,mc_lst s hF]
theorem MX.start (hm:m.base<=m.n) (ha:MAt m P s) (hp:Hp m P s g S) (hs:Sc s S):MX m m (own P s) (Sh s g) P [] s g S :=
 ⟨Ow.start hm (by simp;exact⟨wG.2 (.inl rfl),ha.lt,ha.arr⟩) (by simp),hp,hs,fun B hB=>.inl (wG.2 (.inr hB)),fun B hB=>.inl hB,by simp,wG.2 (.inl rfl),fun B hB=>by
  rcases wG.1 hB with rfl | h
  ·exact ha.lt
  ·exact hp.ln h⟩
theorem MX.row (h:MX m0 m W Z P σ s g S) (l:List Value):MX m0 (Dx.newRow m l) W Z P ((m.n,l) :: σ) s g S :=
 ⟨h.ow.row l,h.hp.ext (Ext.row m l),h.sc,h.lW,h.shZ,fun p hp=>by
  rcases List.mem_cons.1 hp with rfl | hp
  ·exact⟨fun hL=>by have:=h.hp.ln hL;simp at this,fun hS=>by have:=h.hp.sn _ hS;simp at this⟩
  ·exact h.sig p hp,h.PW,h.Wn⟩
theorem MX.ext (h:MX m0 m W Z P σ s g S) (e:Ext m m'):MX m0 m' W Z P σ s g S:=⟨h.ow.step e,h.hp.ext e,h.sc,h.lW,h.shZ,h.sig,h.PW,h.Wn⟩
theorem MX.drop {σ':List (Nat × List Value)} (h:MX m0 m W Z P σ s g S) (hs:∀p∈σ',p∈σ) (hn:((σ' ++ [(P,qS s)]).map (·.1)).Nodup):MX m0 m W Z P σ' s g S :=
 ⟨h.ow.sub (fun p hp=>by
  rcases qdh.1 hp with hp | hp
  ·exact List.mem_append_left _ (hs p hp)
  ·exact List.mem_append_right _ hp) hn,h.hp,h.sc,h.lW,h.shZ,fun p hp=>h.sig p (hs p hp),h.PW,h.Wn⟩
theorem MX.clear (h:MX m0 m W Z P σ s g S):MX m0 m W Z P [] s g S:=h.drop (by simp) (by simp)
theorem MX.turn (h:MX m0 m W Z P σ s g S) (ow:Ow m0 m' W (σ ++ [(P,qS s')])) (hn:m'.n=m.n) (ho:∀X,X≠P->m'.obj X=m.obj X) (k:dX s s' S S') (hc:Sc s' S'):MX m0 m' W Z P σ s' g S':=by
 have hsh:∀B,Sh s' g B->Sh s g B:=fun B hB=>by unfold Sh at *;rw[k.l,k.t,k.ft,k.way]at hB;exact hB
 have hlb:∀B,Lb s' B->Lb s B:=fun B ⟨F,hF,hB⟩=>⟨F,hF,by rw[<-k.ls F hF];exact hB⟩
 refine⟨ow,(h.hp.congr (m':=m') (by omega) (fun B hB=>ho B (fun e=>h.hp.sP (e ▸ hB))) (fun B hB=>ho B (fun e=>?_))).same k,hc,fun B hB=>h.lW B (hlb B hB),fun B hB=>h.shZ B (hsh B hB),fun p hp=>⟨fun hL=>(h.sig p hp).1 (hlb _ hL),fun hS=>(h.sig p hp).2 (hsh _ hS)⟩,h.PW,h.Wn⟩
 obtain⟨F,hF,e2⟩:=hB
 exact h.hp.lP F hF (by rw[e2,e])
theorem xR {σ:List (Nat × List Value)} {x y:Nat × List Value}:(σ ++ [x]).set σ.length y=σ ++ [y]:=by
 rw[List.set_append_right _ _ (qcx _)];simp
theorem MX.set (h:MX m0 m W Z P σ s g S) {o:Nat} {v:Value} (ho:o<88) (hv:okC v=true) (hs':(qS s).set o v=qS s') (k:dX s s' S S') (hc:Sc s' S') :
  ∃m',qD 1 (.pointer (some ⟨P,o,none⟩)) v m=some (undef,m')/\MX m0 m' W Z P σ s' g S'/\m'.n=m.n/\∀X,X≠P->m'.obj X=m.obj X:=by
 obtain⟨m',a,b,c,d⟩:=h.ow.store σ.length h.atP (o:=o) (v:=v) (by rw[kh];exact ho) hv
 rw[hs',xR]at b
 exact⟨m',a,h.turn b c d k hc,c,d⟩
theorem MX.setAny (h:MX m0 m W Z P σ s g S) {o:Nat} {v:Value} (ho:o<88) (hv:okC v=true) (hs':(qS s).set o v=qS s') (k:dX s s' S S') (hc:Sc s' S') :
  ∃m',qD 1 (.pointer (some ⟨P,o,none⟩)) v (qg m)=some (undef,m')/\m'.log=[P]/\MX m0 (Dx.behind m m') W Z P σ s' g S'/\(Dx.behind m m').n=m.n/\∀X,X≠P->(Dx.behind m m').obj X=m.obj X:=by
 obtain⟨m',a,a0,b,c,d⟩:=h.ow.storeAny σ.length h.atP (o:=o) (v:=v) (by rw[kh];exact ho) hv
 rw[hs',xR]at b
 exact⟨m',a,a0,h.turn b c d k hc,c,d⟩
structure fY (S S':PM) (F:Nat) (r:Row (esz F)):Prop where
 sc:S'.sc=S.sc
 code:S'.code=S.code
 t:S'.t=S.t
 ft:S'.ft=S.ft
 way:S'.way=S.way
 half:S'.half=S.half
 new:rowsOf S' F=rowsOf S F ++ [r]
 ls:∀G,G<6->G≠F->rowsOf S' G=rowsOf S G
theorem Fm (s:Mch) (F:Nat) (v:Value):bU (vn s F v)=bU s:=by
 unfold vn
 split<;>rfl
theorem gW (s:Mch) (F:Nat) (v:Value) (g:Gh) (B:Nat):Sh (vn s F v) g B ↔ Sh s g B:=by
 unfold vn
 split<;>exact Iff.rfl
theorem MX.pushed (h:MX m0 m W Z P σ s g S) {F:Nat} (hF:F<6) {r:Row (esz F)} (hS:fY S S' F r) {v':Value} {mq:M} (ow:Ow m0 m' W (σ ++ [(P,qS (vn s F v'))])) (hG:Gro mq v' (esz F) wD (rowsOf S F ++ [r])) (hv:∀B,blk v'=some B->m.n<=B) (hn:m.n<mq.n)
  (ho:∀X,X<m.n->blk (lst s F)≠some X->mq.obj X=m.obj X) (hn2:m'.n=mq.n) (ho2:∀X,X≠P->m'.obj X=mq.obj X):MX m0 m' W Z P σ (vn s F v') g S':=by
 have hP:=h.mat.lt
 have obj:∀X,X<m.n->X≠P->blk (lst s F)≠some X->m'.obj X=m.obj X:=fun X h1 h2 h3=>(ho2 X h2).trans (ho X h1 h3)
 have shO:∀B,Sh s g B->m'.obj B=m.obj B:=fun B hB=>obj B (h.hp.sn B hB) (fun e=>h.hp.sP (e ▸ hB)) fun e=>h.hp.sL B hB ⟨F,hF,e⟩
 have lsO:∀G,G<6->G≠F->∀B,blk (lst s G)=some B->m'.obj B=m.obj B:=fun G hG hne B hB=>obj B ((h.hp.ls G hG).lt B hB) (fun e=>h.hp.lP G hG (by rw[hB,e])) fun e=>h.hp.dis G F hG hF hne B hB e
 have hmn:m.n<=m'.n:=by omega
 have lb:∀B,Lb (vn s F v') B->(Lb s B/\B<m.n/\blk v'≠some B)\/blk v'=some B:=fun B ⟨G,hG,hB⟩=>by
  by_cases e:G=F
  ·subst e;rw[xv s hF]at hB;exact .inr hB
  ·rw[zh s hF hG e]at hB
   have:=(h.hp.ls G hG).lt B hB
   exact .inl ⟨⟨G,hG,hB⟩,this,fun hc=>by have:=hv B hc;omega⟩
 have hG':Gro m' v' (esz F) wD (rowsOf S' F):=by
  rw[hS.new]
  exact hG.keep (by omega) fun B hB hbB=>ho2 B (by have:=hv B hbB;omega)
 have cc:∀{q:Mch},q=vn s F v'->q.l=s.l/\q.t=s.t/\q.ft=s.ft/\q.way=s.way/\q.half=s.half:=fun {q} hq=>by
  subst hq;unfold vn;split<;>exact⟨rfl,rfl,rfl,rfl,rfl⟩
 obtain⟨c1,c2,c3,c4,c5⟩:=cc rfl
 refine⟨ow,⟨?_,?_,?_,?_,?_,?_,?_,?_,?_,?_,?_⟩,?_,?_,?_,?_,h.PW,h.Wn⟩
 ·rw[c1,hS.code];exact h.hp.code.congr hmn fun B hB=>shO B (.inl hB)
 ·intro k hk
  rw[c2,hS.t]
  exact (h.hp.t k hk).congr hmn fun B hB=>shO B (.inr (.inl ⟨k,hk,hB⟩))
 ·rw[c3,hS.ft];exact h.hp.ft.congr hmn fun B hB=>shO B (.inr (.inr (.inl hB)))
 ·rw[c4,hS.way];exact h.hp.way.congr hmn fun B hB=>shO B (.inr (.inr (.inr (.inl hB))))
 ·rw[c5,hS.half];exact h.hp.half.congr hmn fun B hB=>shO B (.inr (.inr (.inr (.inr hB))))
 ·intro G hG
  by_cases e:G=F
  ·subst e;rw[xv s hF];exact hG'
  ·rw[zh s hF hG e,hS.ls G hG e]
   exact (h.hp.ls G hG).keep hmn fun B _ hB=>lsO G hG e B hB
 ·intro G1 G2 h1 h2 hne B hB hc
  by_cases e1:G1=F
  ·have e2:G2≠F:=fun e=>hne (e1.trans e.symm)
   rw[e1,xv s hF]at hB
   rw[zh s hF h2 e2]at hc
   have:=hv B hB
   have:=(h.hp.ls G2 h2).lt B hc
   omega
  ·rw[zh s hF h1 e1]at hB
   by_cases e2:G2=F
   ·rw[e2,xv s hF]at hc
    have:=hv B hc
    have:=(h.hp.ls G1 h1).lt B hB
    omega
   ·rw[zh s hF h2 e2]at hc
    exact h.hp.dis G1 G2 h1 h2 hne B hB hc
 ·intro G hG hc
  by_cases e:G=F
  ·rw[e,xv s hF]at hc;have:=hv P hc;omega
  ·rw[zh s hF hG e]at hc;exact h.hp.lP G hG hc
 ·exact fun hc=>h.hp.sP ((gW s F v' g P).1 hc)
 ·intro B hB hL
  have hB':=(gW s F v' g B).1 hB
  rcases lb B hL with ⟨h1,_⟩ | h1
  ·exact h.hp.sL B hB' h1
  ·have:=hv B h1;have:=h.hp.sn B hB';omega
 ·intro B hB
  have:=h.hp.sn B ((gW s F v' g B).1 hB)
  omega
 ·show bU (vn s F v')=S'.sc
  rw[Fm,hS.sc];exact h.sc
 ·intro B hB
  rcases lb B hB with ⟨h1,_⟩ | h1
  ·exact h.lW B h1
  ·have:=hv B h1;have:=h.ow.mc.n;exact .inr (by omega)
 ·exact fun B hB=>h.shZ B ((gW s F v' g B).1 hB)
 ·intro p hp
  have hpn:=(h.ow.arr p (List.mem_append_left _ hp)).2.1
  refine⟨fun hL=>?_,fun hSh=>(h.sig p hp).2 ((gW s F v' g p.1).1 hSh)⟩
  rcases lb _ hL with ⟨h1,_⟩ | h1
  ·exact (h.sig p hp).1 h1
  ·have:=hv _ h1;omega
theorem MX.hW (h:MX m0 m W Z P σ s g S) {F:Nat} (hF:F<6):(∀B,blk (lst s F)=some B->B∈W\/m0.n<=B)/\∀p∈σ ++ [(P,qS s)],blk (lst s F)≠some p.1 :=
 ⟨fun B hB=>h.lW B ⟨F,hF,hB⟩,fun p hp hc=>by
  rcases qdh.1 hp with hp | hp
  ·exact (h.sig p hp).1 ⟨F,hF,hc⟩
  ·rw[qd1.1 hp]at hc;exact h.hp.lP F hF hc⟩
theorem MX.push (h:MX m0 m W Z P σ s g S) {F:Nat} (hF:F<6) {r:Row (esz F)} (hS:fY S S' F r) {X:Nat} {sp:Option Nat} (hx:loads m ⟨X,0,sp⟩ (esz F)=some (wD r)) {bytes:Nat} (hm:((rowsOf S F).length+1)*bytes<=most) (hn:(rowsOf S F).length+1<=4611686018427387904) :
  ∃v' mq m5,wE m (esz F) bytes (lst s F) (.slice (some ⟨X,0,sp⟩) 1 1)=some (v',mq)/\qD 1 (.pointer (some ⟨P,78+F,none⟩)) v' mq=some (undef,m5)/\MX m0 m5 W Z P σ (vn s F v') g S':=by
 obtain⟨v',mq,a1,a2,a3,a4,a5,a6⟩:=h.ow.app (h.hp.ls F hF) (Kr F) wU gV hx hm hn (h.hW hF).1 (h.hW hF).2
 obtain⟨m5,b1,b2,b3,b4⟩:=a2.store σ.length h.atP (o:=78+F) (v:=v') (by rw[kh];omega) (Grown.okC a3)
 rw[Vz s hF,xR]at b2
 exact⟨v',mq,m5,a1,b1,h.pushed hF hS b2 a3 a4 a5 a6 b3 b4⟩
theorem MX.pushAny (h:MX m0 m W Z P σ s g S) {F:Nat} (hF:F<6) {r:Row (esz F)} (hS:fY S S' F r) {X:Nat} {sp:Option Nat} (hx:loads m ⟨X,0,sp⟩ (esz F)=some (wD r)) {bytes:Nat} (hm:((rowsOf S F).length+1)*bytes<=most) (hn:(rowsOf S F).length+1<=4611686018427387904) :
  ∃v' mq m5,wE (qg m) (esz F) bytes (lst s F) (.slice (some ⟨X,0,sp⟩) 1 1)=some (v',mq)/\qD 1 (.pointer (some ⟨P,78+F,none⟩)) v' (qg (Dx.behind m mq))=some (undef,m5)/\m5.log=[P]/\MX m0 (Dx.behind (Dx.behind m mq) m5) W Z P σ (vn s F v') g S':=by
 obtain⟨v',mq,a1,a2,a3,a4,a5,a6⟩:=h.ow.appAny (h.hp.ls F hF) (Kr F) wU gV hx hm hn (h.hW hF).1 (h.hW hF).2
 obtain⟨m5,b1,b0,b2,b3,b4⟩:=a2.storeAny σ.length h.atP (o:=78+F) (v:=v') (by rw[kh];omega) (Grown.okC a3)
 rw[Vz s hF,xR]at b2
 exact⟨v',mq,m5,a1,b1,b0,h.pushed hF hS b2 a3 a4 a5 a6 b3 b4⟩
structure Res (m m':M) (P:Nat) (s:Mch) (g:Gh) (s':Mch) (g':Gh) (S':PM):Prop where
 mc:Mc m m' (own P s)
 mat:MAt m' P s'
 hp:Hp m' P s' g' S'
 sc:Sc s' S'
 lb:∀B,Lb s' B->Lb s B\/m.n<=B
 sh:∀B,Sh s' g' B->Sh s g B\/m.n<=B
theorem MX.res {g':Gh} (h:MX m m' (own P s) (Sh s g) P σ s' g' S'):Res m m' P s g s' g' S' :=
 ⟨h.ow.mc,h.mat,h.hp,h.sc,fun B hB=>by
  rcases h.lW B hB with h1 | h1
  ·rcases wG.1 h1 with rfl | h2
   ·obtain⟨F,hF,e⟩:=hB
    exact absurd e (h.hp.lP F hF)
   ·exact .inl h2
  ·exact .inr h1,h.shZ⟩
theorem MX.call {g':Gh} (h:MX m0 m W Z P σ s g S) (k:Res m m' P s g s' g' S'):MX m0 m' W Z P σ s' g' S':=by
 have hmn:=h.ow.mc.n
 have hP:=h.mat.lt
 have hlt:∀p∈σ,p.1<m.n/\p.1≠P:=fun p hp=>by
  have hn:=h.ow.nd
  rw[List.map_append,List.nodup_append]at hn
  exact⟨(h.ow.arr p (List.mem_append_left _ hp)).2.1,hn.2.2 _ (List.mem_map.2 ⟨p,hp,rfl⟩) P (by simp)⟩
 have hin:∀B∈own P s,B∈W\/m0.n<=B:=fun B hB=>by
  rcases wG.1 hB with rfl | h1
  ·exact .inl h.PW
  ·exact h.lW B h1
 refine⟨⟨h.ow.mc.tr2 k.mc hin h.ow.base,h.ow.base,fun p hp=>?_,?_⟩,k.hp,k.sc,fun B hB=>?_,fun B hB=>?_,fun p hp=>⟨fun hL=>?_,fun hS=>?_⟩,h.PW,h.Wn⟩
 ·rcases qdh.1 hp with hp | hp
  ·obtain⟨h1,h2,h3⟩:=h.ow.arr p (List.mem_append_left _ hp)
   refine⟨h1,qcz h2 k.mc.n,h3.congr (k.mc.obj _ h2 fun hc=>?_)⟩
   rcases wG.1 hc with e | e
   ·exact (hlt p hp).2 e
   ·exact (h.sig p hp).1 e
  ·rw[qd1.1 hp]
   exact⟨.inl h.PW,k.mat.lt,k.mat.arr⟩
 ·have hn:=h.ow.nd
  rw[List.map_append]at hn ⊢
  exact hn
 ·rcases k.lb B hB with h1 | h1
  ·exact h.lW B h1
  ·exact .inr (by omega)
 ·rcases k.sh B hB with h1 | h1
  ·exact h.shZ B h1
  ·exact .inr (by omega)
 ·have:=(hlt p hp).1
  rcases k.lb _ hL with h1 | h1
  ·exact (h.sig p hp).1 h1
  ·omega
 ·have:=(hlt p hp).1
  rcases k.sh _ hS with h1 | h1
  ·exact (h.sig p hp).2 h1
  ·omega
theorem Res.behind {g':Gh} (k:Res (qg m) m' P s g s' g' S'):Res m (Dx.behind m m') P s g s' g' S' :=
 ⟨k.mc.behind,⟨k.mat.arr.congr (qy _ _ _),by rw[qU];exact k.mat.lt⟩,k.hp.congr (by rw[qU];exact qcx _) (fun B _=>qy _ _ _) (fun B _=>qy _ _ _),k.sc,fun B hB=>by have:=k.lb B hB;rwa [qp]at this,fun B hB=>by have:=k.sh B hB;rwa [qp]at this⟩
theorem MX.callAny {g':Gh} (h:MX m0 m W Z P σ s g S) (k:Res (qg m) m' P s g s' g' S'):MX m0 (Dx.behind m m') W Z P σ s' g' S':=h.call k.behind
theorem MX.hpAny (h:MX m0 m W Z P σ s g S):Hp (qg m) P s g S:=h.hp.congr (by rw[qp];exact qcx _) (fun B _=>qu _ _) (fun B _=>qu _ _)
theorem MX.matAny (h:MX m0 m W Z P σ s g S):MAt (qg m) P s:=h.mat.any
theorem MX.callP (h:MX m0 m W Z P σ s g S) (k:Mc m m' [P]) (ha:MAt m' P s') (hs:dX s s' S S') (hc:Sc s' S'):MX m0 m' W Z P σ s' g S':=by
 have hsh:∀B,Sh s' g B->Sh s g B:=fun B hB=>by unfold Sh at *;rw[hs.l,hs.t,hs.ft,hs.way]at hB;exact hB
 have hlb:∀B,Lb s' B->Lb s B:=fun B ⟨F,hF,hB⟩=>⟨F,hF,by rw[<-hs.ls F hF];exact hB⟩
 have hp':Hp m' P s g S:=h.hp.congr k.n (fun B hB=>k.obj B (h.hp.sn B hB) (by simp;exact fun e=>h.hp.sP (e ▸ hB))) (fun B hB=>k.obj B (h.hp.ln hB) (by
  simp
  rintro rfl
  obtain⟨F,hF,e⟩:=hB
  exact h.hp.lP F hF e))
 exact h.call ⟨k.mono (by simp;exact wG.2 (.inl rfl)),ha,hp'.same hs,hc,fun B hB=>.inl (hlb B hB),fun B hB=>.inl (hsh B hB)⟩
end
end Go.Sx
namespace Go.Sx
open Go.Dx Go.Proofs
set_option maxRecDepth 10000
def MuR (x:Ex) (f:Nat) (args:List Value) (m:M) (P:Nat) (s:Mch) (g:Gh) (S':PM) (Q:Value->Prop):Prop:=∃v m' s' g',x.f f args m=some (v,m')/\Res m m' P s g s' g' S'/\Q v
structure ML (m:M) (P:Nat) (s:Mch) (g:Gh) (S:PM):Prop where
 base:m.base<=m.n
 mat:MAt m P s
 hp:Hp m P s g S
 sc:Sc s S
theorem ML.mx {m:M} {P:Nat} {s:Mch} {g:Gh} {S:PM} (h:ML m P s g S):MX m m (own P s) (Sh s g) P [] s g S:=MX.start h.base h.mat h.hp h.sc
theorem MX.ml {m0 m:M} {W:List Nat} {Z:Nat->Prop} {P:Nat} {σ:List (Nat × List Value)} {s:Mch} {g:Gh} {S:PM} (h:MX m0 m W Z P σ s g S):ML m P s g S:=⟨h.mb,h.mat,h.hp,h.sc⟩
theorem MX.mlAny {m0 m:M} {W:List Nat} {Z:Nat->Prop} {P:Nat} {σ:List (Nat × List Value)} {s:Mch} {g:Gh} {S:PM} (h:MX m0 m W Z P σ s g S):ML (qg m) P s g S:=⟨qF m,h.matAny,h.hpAny,h.sc⟩
theorem MX.keepRS {m0 m:M} {W:List Nat} {Z:Nat->Prop} {P:Nat} {σ:List (Nat × List Value)} {s:Mch} {g:Gh} {S:PM} (h:MX m0 m W Z P σ s g S) {v:Value} {l:List Nat} (k:RS m0 v l) (hB:∀B,blk v=some B->B ∉ W):RS m v l :=
 k.congr h.ow.mc.n fun B hb=>h.ow.mc.obj B (k.lt B hb) (hB B hb)
def jG (l:List Nat) (b:Nat):List (Nat × Nat):=l.map fun a=>(a,b)
theorem xE (l:List Nat) (b:Nat):(jG l b).length=l.length:=by simp[jG]
theorem fW {l:List Nat} {i a:Nat} (h:l[i]?=some a) (b:Nat):jG (l.take (i+1)) b=jG (l.take i) b ++ [(a,b)]:=by
 unfold jG
 rw[List.take_add_one,h];simp
def dataP (S:PM) (l:List Nat) (b:Nat):PM:={ S with data:=S.data ++ jG l b }
theorem YZ (S:PM) (l:List (Nat × Nat)) (p:Nat × Nat):fY { S with data:=l } { S with data:=l ++ [p] } 3 (prR p) :=
 ⟨rfl,rfl,rfl,rfl,rfl,rfl,by show (l ++ [p]).map prR=l.map prR ++ [prR p];simp,fun G hG hne=>by rcases six hG with rfl | rfl | rfl | rfl | rfl | rfl<;>first | rfl | exact absurd rfl hne⟩
theorem yR (m:M) (a b:Int):zP 2 1 (rep 1 [zI,zI]) [(0,2,.agg ⟨[iv a,iv b]⟩)] m=some (.slice (some ⟨m.n,0,some 5⟩) 1 1,Dx.newRow m [iv a,iv b]):=rfl
theorem gh (a b:Int):wJ [zI,zI] [(0,1,iv a),(1,1,iv b)]=some (.agg ⟨[iv a,iv b]⟩):=rfl
theorem dK (m:M) (a b:Nat) (sp:Option Nat):loads (Dx.newRow m [iv a,iv b]) ⟨m.n,0,sp⟩ (esz 3)=some (wD (prR (a,b))):=by
 have:=(Arr.row m [iv a,iv b]).loads (o:=0) (n:=2) (s:=sp) (by simp)
 exact this
theorem yX (S:PM):(rowsOf S 3).length=S.data.length:=by show (S.data.map prR).length=_;rw[List.length_map]
set_option maxHeartbeats 1000000 in
theorem GU (n:Nat) {m:M} {P:Nat} {s:Mch} {g:Gh} {S:PM} (h:ML m P s g S) {av:Value} {ad:List Nat} (hr:RS m av ad) (hav:∀B,blk av=some B->B ∉ own P s) (b:Nat) (hl:S.data.length+ad.length<=1000000) :
  MuR (ex Tryz.prog (n+1)) 60 [mP P,av,iv b] m P s g (dataP S ad b) fun _=>True:=by
 suffices H:∃v m',(ex Tryz.prog (n+1)).f 60 [mP P,av,iv b] m=some (v,m')/\∃s' g',Res m m' P s g s' g' (dataP S ad b) by
  obtain⟨v,m',h1,s',g',h2⟩:=H
  exact⟨v,m',s',g',h1,h2,trivial⟩
 refine qA (Q:=fun v m'=>∃s' g',Res m m' P s g s' g' (dataP S ad b)) de3_ok (by simp) ?_
 have hln:=hr.rd.len
 simp[hln]
 refine qE (c:=ce3_7) rfl (zj _) (fun i t m'=>Tm.get 0 t=mP P/\Tm.get 2 t=iv b/\Tm.get 8 t=av/\Tm.get 9 t=iv ad.length/\Tm.get 10 t=iv i/\∃s' g',MX m m' (own P s) (Sh s g) P [] s' g' (dataP S (ad.take i) b)) ad.length (by omega)
  ⟨by simp,by simp,by simp,by simp,by simp,s,g,by simpa [dataP,jG]using h.mx⟩ (fun i t m' K hi hI hK=>?_)
 obtain⟨t0,t2,t8,t9,t10,s',g',hx⟩:=hI
 by_cases hil:i<ad.length
 ·have d1:((i:Int)<(ad.length:Int))=True:=eq_true (by omega)
  have w1:=qZ (i:=i) (by omega)
  obtain⟨a,ha⟩:∃a,ad[i]?=some a:=⟨_,qcu hil⟩
  have hr':=hx.keepRS hr hav
  obtain⟨i1,i2⟩:=Rd.at1 (g:=fun (x:Nat)=>iv x) hr'.rd ha
  have i2':load1 m' (adr 1 av i)=some (iv a):=i2 m' (Sees.refl hx.mb)
  have l81:load1 m' ⟨P,81,none⟩=some s'.data:=hx.lsn (F:=3) (by omega)
  have hx1:=hx.row [iv a,iv b]
  have hlen:(rowsOf (dataP S (ad.take i) b) 3).length<=1000000:=by
   rw[yX]
   show (S.data ++ jG (ad.take i) b).length<=_
   rw[qd4,xE,List.length_take];omega
  obtain⟨v',mq,m5,a1,a2,hx2⟩:=hx1.push (F:=3) (by omega) (r:=prR (a,b)) (S':=dataP S (ad.take (i+1)) b) (by
   have:=YZ S (S.data ++ jG (ad.take i) b) (a,b)
   rw[qde,<-fW ha]at this
   exact this) (dK m' a b (some 5)) (bytes:=16) (by unfold most;omega) (by omega)
  have a1:wE (Dx.newRow m' [iv a,iv b]) 2 16 s'.data (.slice (some ⟨m'.n,0,some 5⟩) 1 1)=some (v',mq):=a1
  have bs:=yR m' a b
  simp[t0,t2,t8,t9,t10,d1,i1,i2',l81,gh,bs,a1,a2,w1]
  exact hK hil _ _ ⟨by simp[t0],by simp[t2],by simp[t8],by simp[t9],by simp,_,_,hx2.clear⟩
 ·obtain rfl:i=ad.length:=by omega
  rw[List.take_length]at hx
  simp[t9,t10]
  exact kX ⟨s',g',hx.res⟩
end Go.Sx
namespace Go.Sx
open Go.Dx Go.Proofs
set_option maxRecDepth 10000
theorem gI (s:Mch) (b:Bool):(qS s).set 72 (.bool b)=qS { s with opn:=b }:=by kernel_rfl
theorem qbf (S:PM) (e:EvR):fY S { S with ev:=S.ev ++ [e] } 0 (evR e) :=
 ⟨rfl,rfl,rfl,rfl,rfl,rfl,by show (S.ev ++ [e]).map evR=S.ev.map evR ++ [evR e];simp,fun G hG hne=>by rcases six hG with rfl | rfl | rfl | rfl | rfl | rfl<;>first | rfl | exact absurd rfl hne⟩
theorem YX (S:PM) (l:List (Nat × Nat)) (p:Nat × Nat):fY { S with addr:=l } { S with addr:=l ++ [p] } 2 (prR p) :=
 ⟨rfl,rfl,rfl,rfl,rfl,rfl,by show (l ++ [p]).map prR=l.map prR ++ [prR p];simp,fun G hG hne=>by rcases six hG with rfl | rfl | rfl | rfl | rfl | rfl<;>first | rfl | exact absurd rfl hne⟩
theorem YY (S:PM) (l:List (Nat × Nat)) (p:Nat × Nat):fY { S with ctrl:=l } { S with ctrl:=l ++ [p] } 4 (prR p) :=
 ⟨rfl,rfl,rfl,rfl,rfl,rfl,by show (l ++ [p]).map prR=l.map prR ++ [prR p];simp,fun G hG hne=>by rcases six hG with rfl | rfl | rfl | rfl | rfl | rfl<;>first | rfl | exact absurd rfl hne⟩
theorem Dw (S:PM) (p:Nat × Nat):fY S { S with rmw:=S.rmw ++ [p] } 1 (prR p) :=
 ⟨rfl,rfl,rfl,rfl,rfl,rfl,by show (S.rmw ++ [p]).map prR=S.rmw.map prR ++ [prR p];simp,fun G hG hne=>by rcases six hG with rfl | rfl | rfl | rfl | rfl | rfl<;>first | rfl | exact absurd rfl hne⟩
theorem Fa (S:PM) (x:Nat):fY S { S with outs:=S.outs ++ [x] } 5 (wdR x) :=
 ⟨rfl,rfl,rfl,rfl,rfl,rfl,by show (S.outs ++ [x]).map wdR=S.outs.map wdR ++ [wdR x];simp,fun G hG hne=>by rcases six hG with rfl | rfl | rfl | rfl | rfl | rfl<;>first | rfl | exact absurd rfl hne⟩
theorem zC (S:PM):(rowsOf S 0).length=S.ev.length:=by show (S.ev.map evR).length=_;rw[List.length_map]
theorem vG (S:PM):(rowsOf S 1).length=S.rmw.length:=by show (S.rmw.map prR).length=_;rw[List.length_map]
theorem yW (S:PM):(rowsOf S 2).length=S.addr.length:=by show (S.addr.map prR).length=_;rw[List.length_map]
theorem yY (S:PM):(rowsOf S 4).length=S.ctrl.length:=by show (S.ctrl.map prR).length=_;rw[List.length_map]
theorem jY (S:PM):(rowsOf S 5).length=S.outs.length:=by show (S.outs.map wdR).length=_;rw[List.length_map]
def evP (S:PM) (e:EvR):PM:={ S with sc:={ S.sc with opn:=false },ev:=S.ev ++ [e] }
def ga (S:PM) (l:List Nat) (b:Nat):PM:={ S with addr:=S.addr ++ jG l b }
def Zx (S:PM) (l:List Nat) (b:Nat):PM:={ S with ctrl:=S.ctrl ++ jG l b }
def zX (S:PM) (ad:List Nat) (e:EvR):PM:=Zx (ga (evP S e) ad S.ev.length) S.way S.ev.length
theorem bs_ev (m:M) (e:EvR):zP 5 1 (rep 1 [zI,zI,zI,zU,zI]) [(0,5,.agg ⟨zJ e⟩)] m=some (.slice (some ⟨m.n,0,some 11⟩) 1 1,Dx.newRow m (zJ e)):=rfl
theorem yK {m:M} {P:Nat} {s:Mch} {g:Gh} {S:PM} (h:Hp m P s g S) {B:Nat} (hB:Sh s g B):B ∉ own P s:=fun hc=>by
 rcases wG.1 hc with rfl | hL
 ·exact h.sP hB
 ·exact h.sL B hB hL
set_option maxHeartbeats 2000000 in
theorem Vk (n:Nat) {m:M} {P:Nat} {s:Mch} {g:Gh} {S:PM} (h:ML m P s g S) {av:Value} {ad:List Nat} (hr:RS m av ad) (hav:∀B,blk av=some B->B ∉ own P s) (e:EvR) (h1:S.ev.length<=1000000) (h2:S.addr.length+ad.length<=1000000) (h3:S.ctrl.length+S.way.length<=1000000) :
  MuR (ex Tryz.prog (n+1)) 35 [mP P,av,.agg ⟨zJ e⟩] m P s g (zX S ad e) fun _=>True:=by
 suffices H:∃v m',(ex Tryz.prog (n+1)).f 35 [mP P,av,.agg ⟨zJ e⟩] m=some (v,m')/\∃s' g',Res m m' P s g s' g' (zX S ad e) by
  obtain⟨v,m',h1,s',g',h2⟩:=H
  exact⟨v,m',s',g',h1,h2,trivial⟩
 refine qA (Q:=fun v m'=>∃s' g',Res m m' P s g s' g' (zX S ad e)) dc1_ok (by simp) ?_
 have hx0:=h.mx.row (zJ e)
 obtain⟨m0,hm0⟩:=qdi (Dx.newRow m (zJ e))
 have hb:kC (.agg ⟨zJ e⟩) m=some (.pointer (some ⟨m.n,0,none⟩),m0):=by rw[hm0];rfl
 rw[<-hm0]at hx0
 have l78:load1 m0 ⟨P,78,none⟩=some s.ev:=hx0.lsn (F:=0) (by omega)
 have hlen:zm s.ev=some (.int .i64 S.ev.length):=by
  have:=(h.hp.ls 0 (by omega)).len
  rw[zC]at this;exact this
 obtain⟨m1,a1,hx1,-⟩:=hx0.set (o:=72) (v:=.bool false) (by omega) rfl (gI s false) (S':={ S with sc:={ S.sc with opn:=false } }) ⟨rfl,rfl,rfl,rfl,rfl,fun F hF=>by rcases six hF with rfl | rfl | rfl | rfl | rfl | rfl<;>rfl,rfl,rfl,rfl,rfl,rfl,fun F hF=>by rcases six hF with rfl | rfl | rfl | rfl | rfl | rfl<;>rfl⟩ (by
  show bU { s with opn:=false }={ S.sc with opn:=false }
  rw[<-h.sc];rfl)
 have l78':load1 m1 ⟨P,78,none⟩=some s.ev:=hx1.lsn (F:=0) (by omega)
 have le:loads m1 ⟨m.n,0,none⟩ 5=some (zJ e):=(hx1.ow.get 0 rfl).2.2.loads (o:=0) (n:=5) (by simp[zJ])
 have hx2:=hx1.row (zJ e)
 obtain⟨M1,hM1⟩:=qdi (Dx.newRow m1 (zJ e))
 have bs:=bs_ev m1 e
 have hX:loads M1 ⟨m1.n,0,some 11⟩ (esz 0)=some (wD (evR e)):=by
  have:=(Arr.row m1 (zJ e)).loads (o:=0) (n:=5) (s:=some 11) (by simp[zJ])
  rw[hM1];exact this
 rw[<-hM1]at hx2 bs
 obtain⟨v',mq,m5,b1,b2,b3,hx3⟩:=hx2.pushAny (F:=0) (by omega) (qbf _ e) hX (bytes:=40) (by rw[zC];unfold most;simp only;omega) (by rw[zC];simp only;omega)
 have b1:wE (qg M1) 5 40 s.ev (.slice (some ⟨m1.n,0,some 11⟩) 1 1)=some (v',mq):=b1
 have b2:qD 1 (.pointer (some ⟨P,78,none⟩)) v' (qg (Dx.behind M1 mq))=some (undef,m5):=b2
 obtain⟨M2,hM2⟩:=qdi (Dx.behind M1 mq)
 obtain⟨M3,hM3⟩:=qdi (Dx.behind M2 m5)
 rw[<-hM2]at b2 hx3
 rw[<-hM3]at hx3
 have hr3:=hx3.keepRS hr hav
 obtain⟨s3,hs3⟩:=qdi (vn { s with opn:=false } 0 v')
 rw[<-hs3]at hx3
 have hav3:∀B,blk av=some B->B ∉ own P s3:=fun B hB hc=>by
  have hBn:=hr.lt B hB
  rcases wG.1 hc with rfl | hL
  ·exact hav _ hB (wG.2 (.inl rfl))
  ·rcases hx3.lW B hL with h' | h'
   ·exact hav B hB h'
   ·omega
 have hx3c:=hx3.clear
 change MX m M3 (own P s) (Sh s g) P [] s3 g (evP S e) at hx3c
 have hln:=hr.rd.len
 simp[hb,l78,hlen,a1,l78',qe,le,bs,b1,<-hM2,b2,b3,<-hM3,hln]
 refine qE (c:=cc1_7) rfl (zj _) (fun i t m'=>Tm.get 0 t=mP P/\Tm.get 6 t=iv S.ev.length/\Tm.get 32 t=av/\Tm.get 33 t=iv ad.length/\Tm.get 34 t=iv i/\∃s' g',MX M3 m' (own P s3) (Sh s3 g) P [] s' g' (ga (evP S e) (ad.take i) S.ev.length)) ad.length (by omega)
  ⟨by simp,by simp,by simp,by simp,by simp,s3,g,by simpa [ga,jG]using hx3c.ml.mx⟩ (fun i t m' K hi hI hK=>?_)
 obtain⟨t0,t6,t32,t33,t34,s',g',hx⟩:=hI
 by_cases hil:i<ad.length
 ·have d1:((i:Int)<(ad.length:Int))=True:=eq_true (by omega)
  have w1:=qZ (i:=i) (by omega)
  obtain⟨a,ha⟩:∃a,ad[i]?=some a:=⟨_,qcu hil⟩
  have hr':=hx.keepRS hr3 hav3
  obtain⟨i1,i2⟩:=Rd.at1 (g:=fun (x:Nat)=>iv x) hr'.rd ha
  have i2':load1 m' (adr 1 av i)=some (iv a):=i2 m' (Sees.refl hx.mb)
  have l80:load1 m' ⟨P,80,none⟩=some s'.addr:=hx.lsn (F:=2) (by omega)
  have hx1:=hx.row [iv a,iv S.ev.length]
  have hlen2:(rowsOf (ga (evP S e) (ad.take i) S.ev.length) 2).length<=1000000:=by
   rw[yW]
   show (S.addr ++ jG (ad.take i) _).length<=_
   rw[qd4,xE,List.length_take];omega
  obtain⟨v'',mq',m5',c1,c2,hx2⟩:=hx1.push (F:=2) (by omega) (r:=prR (a,S.ev.length)) (S':=ga (evP S e) (ad.take (i+1)) S.ev.length) (by
   have:=YX (evP S e) (S.addr ++ jG (ad.take i) S.ev.length) (a,S.ev.length)
   rw[qde,<-fW ha]at this
   exact this) (dK m' a S.ev.length (some 5)) (bytes:=16) (by unfold most;omega) (by omega)
  have c1:wE (Dx.newRow m' [iv a,iv S.ev.length]) 2 16 s'.addr (.slice (some ⟨m'.n,0,some 5⟩) 1 1)=some (v'',mq'):=c1
  have bs':=yR m' a S.ev.length
  simp[t0,t6,t32,t33,t34,d1,i1,i2',l80,gh,bs',c1,c2,w1]
  exact hK hil _ _ ⟨by simp[t0],by simp[t6],by simp[t32],by simp[t33],by simp,_,_,hx2.clear⟩
 ·obtain rfl:i=ad.length:=by omega
  rw[List.take_length]at hx
  have hx4:=hx3c.call hx.res
  have l71:load1 m' ⟨P,71,none⟩=some s'.way:=hx.ld 71
  have hrw:RS m' s'.way S.way:=hx.hp.way
  have hlw:=hrw.rd.len
  simp[t0,t6,t33,t34,l71,hlw]
  obtain⟨wv0,hwv⟩:=qdi (s'.way)
  rw[<-hwv]at hrw
  have havw:∀B,blk wv0=some B->B ∉ own P s':=fun B hB=>yK hx.hp (by rw[hwv]at hB;exact .inr (.inr (.inr (.inl hB))))
  refine qE (c:=FY) rfl (zj _) (fun i t m2=>Tm.get 0 t=mP P/\Tm.get 6 t=iv S.ev.length/\Tm.get 56 t=wv0/\Tm.get 57 t=iv S.way.length/\Tm.get 58 t=iv i/\∃s2 g2,MX m' m2 (own P s') (Sh s' g') P [] s2 g2 (Zx (ga (evP S e) ad S.ev.length) (S.way.take i) S.ev.length)) S.way.length (by omega)
   ⟨by simp[t0],by simp[t6],by simp[hwv],by simp,by simp,s',g',by simpa [Zx,jG]using hx.ml.mx⟩ (fun i t m2 K2 hi hI hK2=>?_)
  obtain⟨t0,t6,t56,t57,t58,s2,g2,hy⟩:=hI
  by_cases hil:i<S.way.length
  ·have d1:((i:Int)<(S.way.length:Int))=True:=eq_true (by omega)
   have w1:=qZ (i:=i) (by omega)
   obtain⟨a,ha⟩:∃a,S.way[i]?=some a:=⟨_,qcu hil⟩
   have hr':=hy.keepRS hrw havw
   obtain⟨i1,i2⟩:=Rd.at1 (g:=fun (x:Nat)=>iv x) hr'.rd ha
   have i2':load1 m2 (adr 1 wv0 i)=some (iv a):=i2 m2 (Sees.refl hy.mb)
   have l82:load1 m2 ⟨P,82,none⟩=some s2.ctrl:=hy.lsn (F:=4) (by omega)
   have hx1:=hy.row [iv a,iv S.ev.length]
   have hlen2:(rowsOf (Zx (ga (evP S e) ad S.ev.length) (S.way.take i) S.ev.length) 4).length<=1000000:=by
    rw[yY]
    show (S.ctrl ++ jG (S.way.take i) _).length<=_
    rw[qd4,xE,List.length_take];omega
   obtain⟨v'',mq',m5',c1,c2,hx2⟩:=hx1.push (F:=4) (by omega) (r:=prR (a,S.ev.length)) (S':=Zx (ga (evP S e) ad S.ev.length) (S.way.take (i+1)) S.ev.length) (by
    have:=YY (ga (evP S e) ad S.ev.length) (S.ctrl ++ jG (S.way.take i) S.ev.length) (a,S.ev.length)
    rw[qde,<-fW ha]at this
    exact this) (dK m2 a S.ev.length (some 5)) (bytes:=16) (by unfold most;omega) (by omega)
   have c1:wE (Dx.newRow m2 [iv a,iv S.ev.length]) 2 16 s2.ctrl (.slice (some ⟨m2.n,0,some 5⟩) 1 1)=some (v'',mq'):=c1
   have bs':=yR m2 a S.ev.length
   simp[t0,t6,t56,t57,t58,d1,i1,i2',l82,gh,bs',c1,c2,w1]
   exact hK2 hil _ _ ⟨by simp[t0],by simp[t6],by simp[t56],by simp[t57],by simp,_,_,hx2.clear⟩
  ·obtain rfl:i=S.way.length:=by omega
   rw[List.take_length]at hy
   simp[t57,t58]
   exact kX ⟨s2,g2,(hx4.call hy.res).res⟩
end Go.Sx
namespace Go.Sx
open Go.Dx Go.Proofs
set_option maxRecDepth 10000
structure Tv (m0 m:M) (Z:Nat->Prop) (P:Nat) (σ:List (Nat × List Value)) (s:Mch) (v:Value) (l:List Nat):Prop where
 rs:RS m v l
 z:∀B,blk v=some B->Z B\/m0.n<=B
 lb:∀B,blk v=some B->¬Lb s B
 p:∀B,blk v=some B->B≠P
 sg:∀p∈σ,blk v≠some p.1
section
variable {m0 m m':M} {W:List Nat} {Z:Nat->Prop} {P:Nat} {σ:List (Nat × List Value)} {s s':Mch} {g:Gh} {S S':PM}
theorem Tv.nil:Tv m0 m Z P σ s zc []:=⟨RS.none m,fun B hB=>(by cases hB),fun B hB=>(by cases hB),fun B hB=>(by cases hB),fun p _ hc=>(by cases hc)⟩
theorem MX.tv (h:MX m0 m W Z P σ s g S) {v:Value} {l:List Nat} (hr:RS m v l) (hv:∀B,blk v=some B->Sh s g B):Tv m0 m Z P σ s v l :=
 ⟨hr,fun B hB=>h.shZ B (hv B hB),fun B hB=>h.hp.sL B (hv B hB),fun B hB e=>h.hp.sP (e ▸ hv B hB),fun p hp hc=>(h.sig p hp).2 (hv _ hc)⟩
theorem MX.tvT (h:MX m0 m W Z P σ s g S) {k:Nat} (hk:k<32):Tv m0 m Z P σ s (s.t k) (S.t k):=h.tv (h.hp.t k hk) fun B hB=>.inr (.inl ⟨k,hk,hB⟩)
theorem MX.tvF (h:MX m0 m W Z P σ s g S):Tv m0 m Z P σ s s.ft S.ft:=h.tv h.hp.ft fun B hB=>.inr (.inr (.inl hB))
theorem MX.tvW (h:MX m0 m W Z P σ s g S):Tv m0 m Z P σ s s.way S.way:=h.tv h.hp.way fun B hB=>.inr (.inr (.inr (.inl hB)))
theorem MX.tvN (h:MX m0 m W Z P σ s g S) (e:Ext m m') {v:Value} {l:List Nat} (hr:RS m' v l) (hv:∀B,blk v=some B->m.n<=B):Tv m0 m' Z P σ s v l :=
 ⟨hr,fun B hB=>.inr (by have:=hv B hB;have:=h.ow.mc.n;omega),fun B hB hL=>by have:=h.hp.ln hL;have:=hv B hB;omega,fun B hB e=>by have:=h.mat.lt;have:=hv B hB;omega,fun p hp hc=>by have:=(h.ow.arr p (List.mem_append_left _ hp)).2.1;have:=hv _ hc;omega⟩
theorem Tv.ext {v:Value} {l:List Nat} (h:Tv m0 m Z P σ s v l) (hm:m.base<=m.n) (e:Ext m m'):Tv m0 m' Z P σ s v l:=⟨h.rs.ext hm e,h.z,h.lb,h.p,h.sg⟩
theorem MX.tvWith (h:MX m0 m W Z P σ s g S) (e:Ext m m') {v sv:Value} {l sl:List Nat} (hs:Tv m0 m Z P σ s sv sl) (hr:RS m' v l) (hv:∀B,blk v=some B->blk sv=some B\/m.n<=B):Tv m0 m' Z P σ s v l:=by
 have n1:=h.ow.mc.n
 refine⟨hr,fun B hB=>?_,fun B hB=>?_,fun B hB=>?_,fun p hp hc=>?_⟩
 ·rcases hv B hB with h1 | h1
  ·exact hs.z B h1
  ·exact .inr (by omega)
 ·rcases hv B hB with h1 | h1
  ·exact hs.lb B h1
  ·exact fun hL=>by have:=h.hp.ln hL;omega
 ·rcases hv B hB with h1 | h1
  ·exact hs.p B h1
  ·have:=h.mat.lt;omega
 ·rcases hv _ hc with h1 | h1
  ·exact hs.sg p hp h1
  ·have:=(h.ow.arr p (List.mem_append_left _ hp)).2.1;omega
theorem MX.newSets (h:MX m0 m W Z P σ s g S) (ow:Ow m0 m' W (σ ++ [(P,qS s')])) (hn:m.n<=m'.n) (ho:∀X,X<m.n->X≠P->m'.obj X=m.obj X) (hl:s'.l=s.l) (hh:s'.half=s.half) (hls:∀F,F<6->lst s' F=lst s F) (hcS:S'.code=S.code) (hhS:S'.half=S.half) (hlS:∀F,F<6->rowsOf S' F=rowsOf S F)
  (ht:∀k,k<32->Tv m0 m Z P σ s (s'.t k) (S'.t k)) (hf:Tv m0 m Z P σ s s'.ft S'.ft) (hw:Tv m0 m Z P σ s s'.way S'.way) (hc:Sc s' S'):MX m0 m' W Z P σ s' g S':=by
 have hlb:∀B,Lb s' B->Lb s B:=fun B ⟨F,hF,hB⟩=>⟨F,hF,by rw[<-hls F hF];exact hB⟩
 have hlb2:∀B,Lb s B->Lb s' B:=fun B ⟨F,hF,hB⟩=>⟨F,hF,by rw[hls F hF];exact hB⟩
 have set:∀{v:Value} {l:List Nat},Tv m0 m Z P σ s v l->RS m' v l:=fun {v l} k=>k.rs.congr hn fun B hB=>ho B (k.rs.lt B hB) (k.p B hB)
 have sh:∀B,Sh s' g B->(Z B\/m0.n<=B)/\¬Lb s B/\B≠P/\(∀p∈σ,p.1≠B)/\B<m.n:=fun B hB=>by
  have old:Sh s g B->(Z B\/m0.n<=B)/\¬Lb s B/\B≠P/\(∀p∈σ,p.1≠B)/\B<m.n:=fun k=>⟨h.shZ B k,h.hp.sL B k,fun e=>h.hp.sP (e ▸ k),fun p hp e=>(h.sig p hp).2 (e ▸ k),h.hp.sn B k⟩
  have new:∀{v:Value} {l:List Nat},Tv m0 m Z P σ s v l->blk v=some B->(Z B\/m0.n<=B)/\¬Lb s B/\B≠P/\(∀p∈σ,p.1≠B)/\B<m.n:=fun k e=>⟨k.z B e,k.lb B e,k.p B e,fun p hp e2=>k.sg p hp (by rw[e,e2]),k.rs.lt B e⟩
  rcases hB with h1 | ⟨k,hk,h1⟩ | h1 | h1 | h1
  ·rw[hl]at h1;exact old (.inl h1)
  ·exact new (ht k hk) h1
  ·exact new hf h1
  ·exact new hw h1
  ·exact old (.inr (.inr (.inr (.inr h1))))
 have base:=h.hp.congr (m':=m') hn (fun B hB=>ho B (h.hp.sn B hB) (fun e=>h.hp.sP (e ▸ hB))) (fun B hB=>ho B (h.hp.ln hB) (fun e=>by
  obtain⟨F,hF,e2⟩:=hB
  exact h.hp.lP F hF (by rw[e2,e])))
 refine⟨ow,⟨by rw[hl,hcS];exact base.code,fun k hk=>set (ht k hk),set hf,set hw,by rw[hh,hhS];exact base.half,fun F hF=>by rw[hls F hF,hlS F hF];exact base.ls F hF,
  fun F G hF hG hne B hB=>by rw[hls G hG];rw[hls F hF]at hB;exact base.dis F G hF hG hne B hB,fun F hF=>by rw[hls F hF];exact base.lP F hF,fun hP=>(sh P hP).2.2.1 rfl,fun B hB hL=>(sh B hB).2.1 (hlb B hL),fun B hB=>qcz (sh B hB).2.2.2.2 hn⟩,hc,
  fun B hB=>h.lW B (hlb B hB),fun B hB=>(sh B hB).1,fun p hp=>⟨fun hL=>(h.sig p hp).1 (hlb _ hL),fun hS=>(sh _ hS).2.2.2.1 p hp rfl⟩,h.PW,h.Wn⟩
def setRP (S:PM) (k x:Nat) (l:List Nat):PM:=if k=31 then S else { S with sc:={ S.sc with v:=upN S.sc.v k x },t:=upN S.t k l }
theorem lst_v (s:Mch) (v:Nat->Nat) (t:Nat->Value) (F:Nat):lst { s with v:=v,t:=t } F=lst s F:=by unfold lst;split<;>rfl
theorem dQ {S S':PM} (h1:S'.ev=S.ev) (h2:S'.rmw=S.rmw) (h3:S'.addr=S.addr) (h4:S'.data=S.data) (h5:S'.ctrl=S.ctrl) (h6:S'.outs=S.outs):∀F,F<6->rowsOf S' F=rowsOf S F:=fun F hF=>by
 rcases six hF with rfl | rfl | rfl | rfl | rfl | rfl
 ·show S'.ev.map evR=_;rw[h1];rfl
 ·show S'.rmw.map prR=_;rw[h2];rfl
 ·show S'.addr.map prR=_;rw[h3];rfl
 ·show S'.data.map prR=_;rw[h4];rfl
 ·show S'.ctrl.map prR=_;rw[h5];rfl
 ·show S'.outs.map wdR=_;rw[h6];rfl
theorem MX.owCall (h:MX m0 m W Z P σ s g S) (k:Mc m m' [P]) (ha:MAt m' P s'):Ow m0 m' W (σ ++ [(P,qS s')]):=by
 refine⟨h.ow.mc.tr2 k (by simp;exact .inl h.PW) h.ow.base,h.ow.base,fun p hp=>?_,?_⟩
 ·rcases qdh.1 hp with hp | hp
  ·have hnd:=h.ow.nd
   rw[List.map_append,List.nodup_append]at hnd
   have hne:p.1≠P:=hnd.2.2 _ (List.mem_map.2 ⟨p,hp,rfl⟩) P (by simp)
   obtain⟨h1,h2,h3⟩:=h.ow.arr p (List.mem_append_left _ hp)
   exact⟨h1,qcz h2 k.n,h3.congr (k.obj _ h2 (by simp;exact hne))⟩
  ·rw[qd1.1 hp]
   exact⟨.inl h.PW,ha.lt,ha.arr⟩
 ·have hnd:=h.ow.nd
  rw[List.map_append]at hnd ⊢
  exact hnd
theorem MX.callR (h:MX m0 m W Z P σ s g S) (k:Mc m m' [P]) {j x:Nat} {tv:Value} {tl:List Nat} (hj:j<32) (ha:MAt m' P (dH s j x tv)) (ht:Tv m0 m Z P σ s tv tl):MX m0 m' W Z P σ (dH s j x tv) g (setRP S j x tl):=by
 by_cases e:j=31
 ·have e1:dH s j x tv=s:=by unfold dH;rw[if_pos e]
  have e2:setRP S j x tl=S:=by unfold setRP;rw[if_pos e]
  rw[e1]at ha ⊢
  rw[e2]
  exact h.callP k ha ⟨rfl,rfl,rfl,rfl,rfl,fun _ _=>rfl,rfl,rfl,rfl,rfl,rfl,fun _ _=>rfl⟩ h.sc
 ·have e1:dH s j x tv={ s with v:=upN s.v j x,t:=upN s.t j tv }:=by unfold dH;rw[if_neg e]
  have e2:setRP S j x tl={ S with sc:={ S.sc with v:=upN S.sc.v j x },t:=upN S.t j tl }:=by unfold setRP;rw[if_neg e]
  rw[e1]at ha ⊢
  rw[e2]
  refine h.newSets (h.owCall k ha) k.n (fun X h1 h2=>k.obj X h1 (by simp;exact h2)) rfl rfl (fun F _=>lst_v s _ _ F) rfl rfl (fun _ _=>rfl) (fun q hq=>?_) h.tvF h.tvW ?_
  ·show Tv m0 m Z P σ s (upN s.t j tv q) (upN S.t j tl q)
   by_cases eq:q=j
   ·subst eq;rw[yM,yM];exact ht
   ·rw[Wa _ _ eq,Wa _ _ eq];exact h.tvT hq
  ·show bU { s with v:=upN s.v j x,t:=upN s.t j tv }={ S.sc with v:=upN S.sc.v j x }
   rw[<-h.sc];rfl
theorem MX.reg (h:MX m0 m W Z P σ s g S) (n:Nat) {j:Nat} (hj:j<32) (x:Nat) {tv:Value} {tl:List Nat} (ht:Tv m0 m Z P σ s tv tl) :
  ∃v m',(ex Tryz.prog (n+1)).f 37 [.pointer (some ⟨P,2,none⟩),iv j,uv x,tv] m=some (v,m')/\MX m0 m' W Z P σ (dH s j x tv) g (setRP S j x tl):=by
 obtain⟨v,m',a1,a2,a3⟩:=set_c n h.mb h.mat hj x tv ht.rs.ok
 exact⟨v,m',a1,h.callR a2 hj a3 ht⟩
theorem MX.regAny (h:MX m0 m W Z P σ s g S) (n:Nat) {j:Nat} (hj:j<32) (x:Nat) {tv:Value} {tl:List Nat} (ht:Tv m0 m Z P σ s tv tl) :
  ∃v m',(ex Tryz.prog (n+1)).f 37 [.pointer (some ⟨P,2,none⟩),iv j,uv x,tv] (qg m)=some (v,m')/\MX m0 (Dx.behind m m') W Z P σ (dH s j x tv) g (setRP S j x tl):=by
 obtain⟨v,m',a1,a2,a3⟩:=set_c n (qF m) h.matAny hj x tv ht.rs.ok
 exact⟨v,m',a1,h.callR a2.behind hj ⟨a3.arr.congr (qy _ _ _),by rw[qU];exact a3.lt⟩ ht⟩
end
end Go.Sx
namespace Go.Sx
open Go.Dx Go.Proofs
set_option maxRecDepth 10000
def isF (s:Mch) (k:Nat):Bool:=if k=0 then s.fz else if k=2 then s.fc else if k=4 then s.fn else if k=6 then s.fv else if k=8 then s.fc && !s.fz else if k=10 then s.fn == s.fv else if k=12 then (s.fn == s.fv) && !s.fz else false
def jW (s:Mch) (c:Nat):Bool:=isF s (c - c % 2) != decide (c % 2=1)
theorem lt16 {c:Nat} (h:c<16):c=0\/c=1\/c=2\/c=3\/c=4\/c=5\/c=6\/c=7\/c=8\/c=9\/c=10\/c=11\/c=12\/c=13\/c=14\/c=15:=by omega
theorem even16 {c:Nat} (h:c<16):ku .andNot (iv c) (.int .i64 1)=some (iv ((c - c % 2:Nat):Int)):=by
 rcases lt16 h with rfl | rfl | rfl | rfl | rfl | rfl | rfl | rfl | rfl | rfl | rfl | rfl | rfl | rfl | rfl | rfl<;>kernel_rfl
theorem odd16 {c:Nat} (h:c<16):ku .and (iv c) (.int .i64 1)=some (iv ((c % 2:Nat):Int)):=by
 rcases lt16 h with rfl | rfl | rfl | rfl | rfl | rfl | rfl | rfl | rfl | rfl | rfl | rfl | rfl | rfl | rfl | rfl<;>kernel_rfl
def vg (s:Mch):List Value:=[.bool s.fn,.bool s.fz,.bool s.fc,.bool s.fv,s.ft]
theorem BJ (s:Mch):((qS s).drop 66).take 5=vg s:=by kernel_rfl
abbrev z5f:List Value:=[.bool false,.bool false,.bool false,.bool false,zc]
set_option maxHeartbeats 1000000 in
theorem Vq (n:Nat) {m:M} (hm:m.base<=m.n) {P:Nat} {s:Mch} (h:MAt m P s) (hft:okC s.ft=true) {c:Nat} (hc:c<16):CallV (ex Tryz.prog (n+1)) 53 [mP P,iv c] m (.bool (jW s c)):=by
 refine qm dd9_ok (by simp) ?_
 have l66:loads m ⟨P,66,none⟩ 5=some (vg s):=by rw[h.arr.loads (by rw[kh];omega),BJ]
 have st1:=(St.nil hm (Ext.refl m)).row z5f
 obtain⟨m0,hm0⟩:=qdi (Dx.newRow m z5f)
 have hm0':Dx.newRow m [.bool false,.bool false,.bool false,.bool false,zS]=m0:=hm0.symm
 rw[<-hm0]at st1
 obtain⟨m1,a1,st2,-,-⟩:=st1.fill 0 rfl (n:=5) (l':=vg s) rfl rfl (by simp[vg,okC];exact hft)
 have l:∀o,load1 m1 ⟨m.n,o,none⟩=(vg s)[o]?:=fun o=>(st2.get 0 rfl).2.2.load1 o none
 have l0:=l 0;have l1:=l 1;have l2:=l 2;have l3:=l 3
 simp only[vg,List.getElem?_cons_succ,List.getElem?_cons_zero]at l0 l1 l2 l3
 have e1:=even16 hc
 have e2:=odd16 hc
 obtain⟨k,hk⟩:=qdi (c - c % 2)
 obtain⟨r,hr⟩:=qdi (c % 2)
 have hh:jW s c=(isF s k != decide (r=1)):=by unfold jW;rw[<-hk,<-hr]
 rw[<-hk]at e1
 rw[<-hr]at e2
 have hr2:((r:Int)=1)=(r=1):=propext ⟨fun h=>by omega,fun h=>by omega⟩
 rw[hh]
 have hk8:k=0\/k=2\/k=4\/k=6\/k=8\/k=10\/k=12\/k=14:=by omega
 have ret:∀(t:Tm) (b:Bool),b=isF s k->Tm.get 4 t=.bool (b != decide (r=1))->Ret m (fun u _=>u=.bool (isF s k != decide (r=1))) (kD [.t 4] t m1):=fun t b hb ht=>qN st2.ext (by rw[ht,hb])
 rcases hk8 with rfl | rfl | rfl | rfl | rfl | rfl | rfl | rfl
 ·simp[l66,qe,hm0',a1,l0,l1,l2,l3,e1,e2,hr2]
  exact ret _ s.fz rfl (by simp)
 ·simp[l66,qe,hm0',a1,l0,l1,l2,l3,e1,e2,hr2]
  exact ret _ s.fc rfl (by simp)
 ·simp[l66,qe,hm0',a1,l0,l1,l2,l3,e1,e2,hr2]
  exact ret _ s.fn rfl (by simp)
 ·simp[l66,qe,hm0',a1,l0,l1,l2,l3,e1,e2,hr2]
  exact ret _ s.fv rfl (by simp)
 ·cases hfc:s.fc with
  | true =>
   rw[hfc]at l2
   simp[l66,qe,hm0',a1,l0,l1,l2,l3,e1,e2,hr2]
   exact ret _ (!s.fz) (by simp[isF,hfc]) (by simp)
  | false =>
   rw[hfc]at l2
   simp[l66,qe,hm0',a1,l0,l1,l2,l3,e1,e2,hr2]
   exact ret _ false (by simp[isF,hfc]) (by simp)
 ·simp[l66,qe,hm0',a1,l0,l1,l2,l3,e1,e2,hr2]
  exact ret _ (s.fn == s.fv) rfl (by simp)
 ·cases hfc:(s.fn == s.fv) with
  | true =>
   simp[l66,qe,hm0',a1,l0,l1,l2,l3,e1,e2,hr2,hfc]
   exact ret _ (!s.fz) (by simp[isF,hfc]) (by simp)
  | false =>
   simp[l66,qe,hm0',a1,l0,l1,l2,l3,e1,e2,hr2,hfc]
   exact ret _ false (by simp[isF,hfc]) (by simp)
 ·simp[l66,qe,hm0',a1,l0,l1,l2,l3,e1,e2,hr2]
  exact ret _ false rfl (by simp)
abbrev W64:Nat:=18446744073709551616
def QY (a b:Nat):Nat:=(a+(W64 - b)) % W64
def vT (s:Mch) (a b:Nat) (tv:Value):Mch:={ s with fn:=decide (QY a b / 2 ^ 63=1),fz:=decide (QY a b=0),fc:=decide (b<=a),fv:=decide (((a ^^^ b) &&& (a ^^^ QY a b)) / 2 ^ 63=1),ft:=tv }
def cmpP (S:PM) (a b:Nat) (l:List Nat):PM:={ S with sc:={ vT S.sc a b zc with ft:=S.sc.ft },ft:=l }
theorem qap (s:Mch) (a b c d:Bool) (v:Value):over (qS s) 66 [.bool a,.bool b,.bool c,.bool d,v]=qS { s with fn:=a,fz:=b,fc:=c,fv:=d,ft:=v }:=by kernel_rfl
theorem Zd (a b:Nat):QY a b<W64:=Nat.mod_lt _ (by decide)
theorem MX.callF {m0 m m':M} {W:List Nat} {Z:Nat->Prop} {P:Nat} {σ:List (Nat × List Value)} {s:Mch} {g:Gh} {S:PM} (h:MX m0 m W Z P σ s g S) {a b:Nat} {tv:Value} {tl:List Nat} (k:Mc m m' [P]) (ha:MAt m' P (vT s a b tv)) (ht:Tv m0 m Z P σ s tv tl):MX m0 m' W Z P σ (vT s a b tv) g (cmpP S a b tl) :=
 h.newSets (h.owCall k ha) k.n (fun X h1 h2=>k.obj X h1 (by simp;exact h2)) rfl rfl (fun F hF=>by rcases six hF with rfl | rfl | rfl | rfl | rfl | rfl<;>rfl) rfl rfl (dQ rfl rfl rfl rfl rfl rfl) (fun k hk=>h.tvT hk) ht h.tvW (by
  show bU (vT s a b tv)={ vT S.sc a b zc with ft:=S.sc.ft }
  rw[<-h.sc];rfl)
theorem Yl (n:Nat) {m:M} (hm:m.base<=m.n) {P:Nat} {s:Mch} (h:MAt m P s) {a b:Nat} (ha:a<W64) (hb:b<W64) {tv:Value} {tl:List Nat} (ht:RS m tv tl) :
  MuC (ex Tryz.prog (n+1)) 54 [mP P,uv a,uv b,tv] m P (fun _ m'=>MAt m' P (vT s a b tv)):=by
 refine qA (Q:=fun v m'=>Mc m m' [P]/\MAt m' P (vT s a b tv)) de0_ok (by simp) ?_
 have ow:=h.ow hm
 obtain⟨m',a1,b2,b3,b4⟩:=ow.storeN 0 rfl (o:=66) (n:=5) (l':=vg (vT s a b tv)) (by omega) rfl (by rw[kh];omega) (by simp[vg,vT,okC];exact ht.ok)
 rw[show vg (vT s a b tv)=[.bool (vT s a b tv).fn,.bool (vT s a b tv).fz,.bool (vT s a b tv).fc,.bool (vT s a b tv).fv,tv] from rfl,qap]at b2
 have hd:=Zd a b
 have s1:=DZ ha hb
 have s1:ku .sub (uv a) (uv b)=some (uv (QY a b)):=s1
 obtain⟨d,hd'⟩:=qdi (QY a b)
 rw[<-hd']at s1 hd
 have sh1:shV .shr (uv d) (.int .u64 63)=some (uv (d / 2 ^ 63)):=QZ (s:=63) (by omega)
 have x1:=Kb (a:=a) (b:=b) ha hb
 have x2:=Kb (a:=a) (b:=d) ha hd
 have x3:=JG (a:=a ^^^ b) (b:=a ^^^ d) (db ha hb) (db ha hd)
 have sh2:shV .shr (uv ((a ^^^ b) &&& (a ^^^ d))) (.int .u64 63)=some (uv (((a ^^^ b) &&& (a ^^^ d)) / 2 ^ 63)):=QZ (s:=63) (by omega)
 obtain⟨p,hp⟩:=qdi (a ^^^ b)
 obtain⟨q,hq⟩:=qdi (a ^^^ d)
 obtain⟨r,hr⟩:=qdi (p &&& q)
 obtain⟨d63,hd63⟩:=qdi (d / 2 ^ 63)
 rw[<-hp]at x1
 rw[<-hq]at x2
 rw[<-hp,<-hq,<-hr]at x3 sh2
 obtain⟨r63,hr63⟩:=qdi (r / 2 ^ 63)
 rw[<-hd63]at sh1
 rw[<-hr63]at sh2
 have c1:decide (d63=1)=(vT s a b tv).fn:=by show _=decide (QY a b / 2 ^ 63=1);rw[<-hd',<-hd63]
 have c2:decide (d=0)=(vT s a b tv).fz:=by show _=decide (QY a b=0);rw[<-hd']
 have c4:decide (r63=1)=(vT s a b tv).fv:=by show _=decide (((a ^^^ b) &&& (a ^^^ QY a b)) / 2 ^ 63=1);rw[<-hd',<-hp,<-hq,<-hr,<-hr63]
 have f1:((d63:Int)=1)=(d63=1):=propext ⟨fun h=>by omega,fun h=>by omega⟩
 have f2:((d:Int)=0)=(d=0):=propext ⟨fun h=>by omega,fun h=>by omega⟩
 have f3:((b:Int)<=(a:Int))=(b<=a):=propext ⟨fun h=>by omega,fun h=>by omega⟩
 have f4:((r63:Int)=1)=(r63=1):=propext ⟨fun h=>by omega,fun h=>by omega⟩
 have bu:wJ [.bool false,.bool false,.bool false,.bool false,zS] [(0,1,.bool (decide (d63=1))),(1,1,.bool (decide (d=0))),(2,1,.bool (decide (b<=a))),(3,1,.bool (decide (r63=1))),(4,1,tv)]=some (.agg ⟨vg (vT s a b tv)⟩):=by
  rw[c1,c2,c4,show decide (b<=a)=(vT s a b tv).fc from rfl]
  obtain⟨ad,k,q,e⟩:∃ad k q,tv=.slice ad k q:=by
   have:=ht.rd.len
   cases tv with
   | slice a b c=>exact⟨_,_,_,rfl⟩
   | _=>cases this
  rw[e];rfl
 simp[f1,f2,f3,f4,s1,sh1,x1,x2,x3,sh2,bu,a1]
 exact kX ⟨b2.mc,(b2.get 0 rfl).2.2,(b2.get 0 rfl).2.1⟩
end Go.Sx
namespace Go.Sx
open Go.Dx Go.Proofs
set_option maxRecDepth 10000
structure InsX (i:Ins):Prop where
 ok:jB i
 svc:i.op=33->∃k:Nat,i.imm=(k:Int)/\k<32
 cnd:∃c:Nat,i.cond=(c:Int)/\c<16
 mov:(i.op=1\/i.op=2)->(∃k:Nat,i.imm=(k:Int)/\k<65536)/\i.cond<=3
 ari:(12<=i.op/\i.op<=15)->∃k:Nat,i.imm=(k:Int)/\k<4096/\(14<=i.op->k<64)
 far:-67108864<=i.imm/\i.imm<=67108864
def yf (op:Int) (a b k:Nat):Nat :=
 if op=3 then (a+b) % W64 else if op=4 then QY a b else if op=5 then a &&& b else if op=6 then a ||| b else if op=7 then a ^^^ b else if op=8 then a ||| (18446744073709551615 - b)
 else if op=9 then a*b % W64 else if op=10 then a*2 ^ (b % 64) % W64 else if op=11 then a / 2 ^ (b % 64) else if op=12 then (a+k) % W64 else if op=13 then QY a k else if op=14 then a*2 ^ k % W64 else a / 2 ^ k
theorem VN {a k:Nat} (hk:k<64):shV .shl (uv a) (iv k)=some (uv (a*2 ^ k % 18446744073709551616)):=by
 rw[bV (by omega),Int.toNat_natCast,Nat.min_eq_left (by show k<=64;omega),IntKind.wrap_u64]
 congr 2
theorem shr_i {a k:Nat} (hk:k<64):shV .shr (uv a) (iv k)=some (uv (a / 2 ^ k)):=by
 rw[sh_r (by omega),Int.toNat_natCast,Nat.min_eq_left (by show k<=64;omega)]
 congr 2
 rw[show ((2:Int) ^ k)=((2 ^ k:Nat):Int) by push_cast;rfl,Int.ofNat_fdiv]
theorem Dr {a b:Nat} (ha:a<18446744073709551616) (hb:b<18446744073709551616):a ||| b<18446744073709551616:=by
 rw[<-pow64]at *;exact Nat.or_lt_two_pow ha hb
theorem JK {a b:Nat} (ha:a<18446744073709551616):a &&& b<18446744073709551616:=Nat.lt_of_le_of_lt Nat.and_le_left ha
theorem WX {op:Int} {a b k:Nat} (ha:a<W64) (hb:b<W64):yf op a b k<W64:=by
 have hdiv:∀q,a / q<W64:=fun q=>Nat.lt_of_le_of_lt (Nat.div_le_self _ _) ha
 have hmod:∀q,q % W64<W64:=fun q=>Nat.mod_lt _ (by decide)
 have key:∀(p:Prop) [Decidable p] (x y:Nat),x<W64->y<W64->(if p then x else y)<W64:=fun p _ x y hx hy=>by
  split
  ·exact hx
  ·exact hy
 unfold yf
 refine key _ _ _ (hmod _) (key _ _ _ (Zd _ _) (key _ _ _ (JK ha) (key _ _ _ (Dr ha hb) (key _ _ _ (db ha hb) (key _ _ _ (Dr ha (by omega)) (key _ _ _ (hmod _) (key _ _ _ (hmod _) (key _ _ _ (hdiv _) (key _ _ _ (hmod _) (key _ _ _ (Zd _ _) (key _ _ _ (hmod _) (hdiv _))))))))))))
theorem Jp (n:Nat) {m:M} (hm:m.base<=m.n) {P:Nat} {s:Mch} (h:MAt m P s) {i:Ins} (hi:InsX i) (hop:3<=i.op/\i.op<=15) (hv:∀k,s.v k<W64) :
  CallV (ex Tryz.prog (n+1)) 55 [mP P,.agg ⟨ql i⟩] m (uv (yf i.op (s.v i.rn.toNat) (s.v i.rm.toNat) i.imm.toNat)):=by
 refine qm de1_ok (by simp) ?_
 have st1:=(St.nil hm (Ext.refl m)).row (ql i)
 obtain⟨m0,hm0⟩:=qdi (Dx.newRow m (ql i))
 have hb:kC (.agg ⟨ql i⟩) m=some (.pointer (some ⟨m.n,0,none⟩),m0):=by rw[hm0];rfl
 rw[<-hm0]at st1
 have h1:=h.ext st1.ext
 obtain⟨kn,hkn,hkn2⟩:=hi.ok.rn
 obtain⟨km,hkm,hkm2⟩:=hi.ok.rm
 have l0:load1 m0 ⟨m.n,0,none⟩=some (iv i.op):=(st1.get 0 rfl).2.2.load1 0 none
 have l2:load1 m0 ⟨m.n,2,none⟩=some (iv i.rn):=(st1.get 0 rfl).2.2.load1 2 none
 have l3:load1 m0 ⟨m.n,3,none⟩=some (iv i.rm):=(st1.get 0 rfl).2.2.load1 3 none
 have l4:load1 m0 ⟨m.n,4,none⟩=some (iv i.imm):=(st1.get 0 rfl).2.2.load1 4 none
 have ian:=jo P 2 hkn2
 have iam:=jo P 2 hkm2
 rw[<-hkn]at ian
 rw[<-hkm]at iam
 have lvn:load1 m0 ⟨P,2+kn,none⟩=some (uv (s.v kn)):=by rw[h1.l1,yC s hkn2]
 have lvm:load1 m0 ⟨P,2+km,none⟩=some (uv (s.v km)):=by rw[h1.l1,yC s hkm2]
 have e1:i.rn.toNat=kn:=by rw[hkn];rfl
 have e2:i.rm.toNat=km:=by rw[hkm];rfl
 rw[e1,e2]
 obtain⟨a,ha⟩:=qdi (s.v kn)
 obtain⟨b,hbb⟩:=qdi (s.v km)
 have ha2:a<W64:=by rw[ha];exact hv kn
 have hb2:b<W64:=by rw[hbb];exact hv km
 rw[<-ha]at lvn ⊢
 rw[<-hbb]at lvm ⊢
 obtain⟨z,hz⟩:=qdi (yf i.op a b i.imm.toNat)
 rw[<-hz]
 by_cases h12:12<=i.op
 ·obtain⟨k,hk,hk2,hk3⟩:=hi.ari ⟨h12,hop.2⟩
  have e3:i.imm.toNat=k:=by rw[hk];rfl
  rw[e3]at hz
  rw[hk]at l4
  have cu:=xU (x:=k) (by omega)
  rcases (by omega:i.op=12\/i.op=13\/i.op=14\/i.op=15) with h | h | h | h
  ·rw[h]at l0 hz
   have x1:ku .add (uv a) (uv k)=some (uv z):=by rw[hz];exact DW a k
   simp[hb,l0,l2,l3,l4,ian,iam,lvn,lvm,cu,-zy,-zA,x1]
   exact qN st1.ext (by simp)
  ·rw[h]at l0 hz
   have x1:ku .sub (uv a) (uv k)=some (uv z):=by rw[hz];exact DZ (a:=a) (b:=k) ha2 (by omega)
   simp[hb,l0,l2,l3,l4,ian,iam,lvn,lvm,cu,-zy,-zA,x1]
   exact qN st1.ext (by simp)
  ·rw[h]at l0 hz
   have x1:shV .shl (uv a) (iv k)=some (uv z):=by rw[hz];exact VN (a:=a) (k:=k) (hk3 (by omega))
   simp[hb,l0,l2,l3,l4,ian,iam,lvn,lvm,-zy,-zA,x1]
   exact qN st1.ext (by simp)
  ·rw[h]at l0 hz
   have x1:shV .shr (uv a) (iv k)=some (uv z):=by rw[hz];exact shr_i (a:=a) (k:=k) (hk3 (by omega))
   simp[hb,l0,l2,l3,l4,ian,iam,lvn,lvm,-zy,-zA,x1]
   exact qN st1.ext (by simp)
 ·rcases (by omega:i.op=3\/i.op=4\/i.op=5\/i.op=6\/i.op=7\/i.op=8\/i.op=9\/i.op=10\/i.op=11) with h | h | h | h | h | h | h | h | h
  ·rw[h]at l0 hz
   have x1:ku .add (uv a) (uv b)=some (uv z):=by rw[hz];exact DW a b
   simp[hb,l0,l2,l3,l4,ian,iam,lvn,lvm,-zy,-zA,x1]
   exact qN st1.ext (by simp)
  ·rw[h]at l0 hz
   have x1:ku .sub (uv a) (uv b)=some (uv z):=by rw[hz];exact DZ ha2 hb2
   simp[hb,l0,l2,l3,l4,ian,iam,lvn,lvm,-zy,-zA,x1]
   exact qN st1.ext (by simp)
  ·rw[h]at l0 hz
   have x1:ku .and (uv a) (uv b)=some (uv z):=by rw[hz];exact JG ha2 hb2
   simp[hb,l0,l2,l3,l4,ian,iam,lvn,lvm,-zy,-zA,x1]
   exact qN st1.ext (by simp)
  ·rw[h]at l0 hz
   have x1:ku .or (uv a) (uv b)=some (uv z):=by rw[hz];exact u_or ha2 hb2
   simp[hb,l0,l2,l3,l4,ian,iam,lvn,lvm,-zy,-zA,x1]
   exact qN st1.ext (by simp)
  ·rw[h]at l0 hz
   have x1:ku .xor (uv a) (uv b)=some (uv z):=by rw[hz];exact Kb ha2 hb2
   simp[hb,l0,l2,l3,l4,ian,iam,lvn,lvm,-zy,-zA,x1]
   exact qN st1.ext (by simp)
  ·rw[h]at l0 hz
   have x0:=u_not hb2
   obtain⟨q,hq⟩:=qdi (18446744073709551615 - b)
   have x1:ku .or (uv a) (uv q)=some (uv z):=by rw[hz,hq];exact u_or (a:=a) (b:=18446744073709551615 - b) ha2 (by omega)
   rw[<-hq]at x0
   simp[hb,l0,l2,l3,l4,ian,iam,lvn,lvm,x0,x1]
   exact qN st1.ext (by simp)
  ·rw[h]at l0 hz
   have x1:ku .mul (uv a) (uv b)=some (uv z):=by rw[hz];exact u_mul a b
   simp[hb,l0,l2,l3,l4,ian,iam,lvn,lvm,-zy,-zA,x1]
   exact qN st1.ext (by simp)
  ·rw[h]at l0 hz
   have x0:ku .rem (uv b) (.int .u64 64)=some (uv (b % 64)):=u_rem (a:=b) (b:=64) (by omega)
   obtain⟨q,hq⟩:=qdi (b % 64)
   have x1:shV .shl (uv a) (uv q)=some (uv z):=by rw[hz,hq];exact DY (a:=a) (s:=b % 64) (by omega)
   rw[<-hq]at x0
   simp[hb,l0,l2,l3,l4,ian,iam,lvn,lvm,x0,x1]
   exact qN st1.ext (by simp)
  ·rw[h]at l0 hz
   have x0:ku .rem (uv b) (.int .u64 64)=some (uv (b % 64)):=u_rem (a:=b) (b:=64) (by omega)
   obtain⟨q,hq⟩:=qdi (b % 64)
   have x1:shV .shr (uv a) (uv q)=some (uv z):=by rw[hz,hq];exact QZ (a:=a) (s:=b % 64) (by omega)
   rw[<-hq]at x0
   simp[hb,l0,l2,l3,l4,ian,iam,lvn,lvm,x0,x1]
   exact qN st1.ext (by simp)
end Go.Sx
namespace Go.Sx
open Go.Dx Go.Proofs
set_option maxRecDepth 10000
theorem DX {a b:Nat} (ha:a<18446744073709551616) (hb:b<18446744073709551616):ku .andNot (uv a) (uv b)=some (uv (a &&& (18446744073709551615 - b))):=by
 rw[wS]
 show some (Value.int .u64 (bits .andNot .u64 (a:Int) (b:Int)))=_
 rw[Go.u64_andNot_nat a b ha hb]
def YJ (i:Ins):Nat:=i.imm.toNat*2 ^ (16*i.cond.toNat) % W64
def WL (old:Nat) (i:Ins):Nat:=(old &&& (18446744073709551615 - 65535*2 ^ (16*i.cond.toNat) % W64)) ||| (i.imm.toNat*2 ^ (16*i.cond.toNat) % W64)
def doF (S:PM) (i:Ins):PM × Int :=
 let nx:=IntKind.i64.wrap (S.sc.at_+1)
 let jp:=IntKind.i64.wrap (S.sc.at_+i.imm)
 let rd:=i.rd.toNat
 let rn:=i.rn.toNat
 let rm:=i.rm.toNat
 if i.op=18 then (S,jp)
 else if i.op=19 then ({ S with way:=uni S.way S.ft },if jW S.sc i.cond.toNat then jp else nx)
 else if i.op=20\/i.op=21 then ({ S with way:=uni S.way (S.t rd) },if (decide (S.sc.v rd=0) == decide (i.op=20)) then jp else nx)
 else if i.op=16 then (cmpP S (S.sc.v rn) (S.sc.v rm) (uni (S.t rn) (S.t rm)),nx)
 else if i.op=17 then (setRP S rd (if jW S.sc i.cond.toNat then 1 else 0) S.ft,nx)
 else if i.op=1 then (setRP S rd (YJ i) [],nx)
 else if i.op=2 then (setRP S rd (WL (S.sc.v rd) i) (S.t rd),nx)
 else if i.op=28\/i.op=29 then (setRP { S with sc:={ S.sc with opn:=false } } rm 1 [],nx)
 else if i.op=32 then (S,nx)
 else (setRP S rd (yf i.op (S.sc.v rn) (S.sc.v rm) i.imm.toNat) (if i.op<12 then uni (S.t rn) (S.t rm) else S.t rn),nx)
structure InB (S:PM):Prop where
 v:∀k,S.sc.v k<W64
 t:∀k,(S.t k).length<=1000
 ft:S.ft.length<=1000
 way:S.way.length<=1000
abbrev DoR (n:Nat) (m:M) (P:Nat) (s:Mch) (g:Gh) (S:PM) (i:Ins):Prop:=MuR (ex Tryz.prog (n+31)) 31 [mP P,.agg ⟨ql i⟩] m P s g (doF S i).1 fun v=>v=iv (doF S i).2
theorem BK (s:Mch) (v:Value):(qS s).set 71 v=qS { s with way:=v }:=by kernel_rfl
section
variable {m0 m m':M} {W:List Nat} {Z:Nat->Prop} {P:Nat} {σ:List (Nat × List Value)} {s s':Mch} {g:Gh} {S S':PM}
theorem MX.wayAny (h:MX m0 m W Z P σ s g S) {v:Value} {l:List Nat} (ht:Tv m0 m Z P σ s v l) :
  ∃m',qD 1 (.pointer (some ⟨P,71,none⟩)) v (qg m)=some (undef,m')/\m'.log=[P]/\MX m0 (Dx.behind m m') W Z P σ { s with way:=v } g { S with way:=l }:=by
 obtain⟨m',a,a0,b,c,d⟩:=h.ow.storeAny σ.length h.atP (o:=71) (v:=v) (by rw[kh];omega) ht.rs.ok
 rw[BK,xR]at b
 exact⟨m',a,a0,h.newSets b (Nat.le_of_eq c.symm) (fun X _ hX=>d X hX) rfl rfl (fun F hF=>by rcases six hF with rfl | rfl | rfl | rfl | rfl | rfl<;>rfl) rfl rfl (dQ rfl rfl rfl rfl rfl rfl) (fun k hk=>h.tvT hk) h.tvF ht (by
  show bU { s with way:=v }=S.sc
  rw[<-h.sc];rfl)⟩
theorem MX.uniAny (h:MX m0 m W Z P σ s g S) (n:Nat) {sv ov:Value} {sl ol:List Nat} (hs:Tv m0 m Z P σ s sv sl) (ho:RS m ov ol) (hl:sl.length+ol.length<=1000000) :
  ∃v m',(ex Tryz.prog (n+29)).f 52 [sv,ov] (qg m)=some (v,m')/\m'.log=[]/\Ext m (Dx.behind m m')/\MX m0 (Dx.behind m m') W Z P σ s g S/\Tv m0 (Dx.behind m m') Z P σ s v (uni sl ol):=by
 have any:∀{w:Value} {l:List Nat},RS m w l->RS (qg m) w l:=fun {w l} k=>k.congr (by rw[qp];exact qcx _) fun B _=>qu _ _
 obtain⟨v,m',a1,a0,a2,a3,a4⟩:=qn (with_c n (qF m) (any hs.rs) (any ho) hl)
 refine⟨v,m',a1,a0,a2,h.ext a2,h.tvWith a2 hs (a3.congr (by rw[qU];exact qcx _) fun B _=>qy _ _ _) fun B hB=>?_⟩
 have:=a4 B hB
 rwa [qp]at this
end
theorem regs {i:Ins} (hi:InsX i):(∃k:Nat,i.rd=(k:Int)/\i.rd.toNat=k/\k<32)/\(∃k:Nat,i.rn=(k:Int)/\i.rn.toNat=k/\k<32)/\(∃k:Nat,i.rm=(k:Int)/\i.rm.toNat=k/\k<32):=by
 obtain⟨a,ha,ha2⟩:=hi.ok.rd
 obtain⟨b,hb,hb2⟩:=hi.ok.rn
 obtain⟨c,hc,hc2⟩:=hi.ok.rm
 exact⟨⟨a,ha,by rw[ha];rfl,ha2⟩,⟨b,hb,by rw[hb];rfl,hb2⟩,⟨c,hc,by rw[hc];rfl,hc2⟩⟩
theorem cnd {i:Ins} (hi:InsX i):∃c:Nat,i.cond=(c:Int)/\i.cond.toNat=c/\c<16:=by
 obtain⟨c,hc,hc2⟩:=hi.cnd
 exact⟨c,hc,by rw[hc];rfl,hc2⟩
set_option maxHeartbeats 1000000 in
theorem do_B (n:Nat) {m:M} {P:Nat} {s:Mch} {g:Gh} {S:PM} (h:ML m P s g S) (hb:InB S) {i:Ins} (hi:InsX i) (hop:i.op=18):DoR n m P s g S i:=by
 suffices H:∃v m',(ex Tryz.prog (n+31)).f 31 [mP P,.agg ⟨ql i⟩] m=some (v,m')/\v=iv (doF S i).2/\∃s' g',Res m m' P s g s' g' (doF S i).1 by
  obtain⟨v,m',h1,h2,s',g',h3⟩:=H
  exact⟨v,m',s',g',h1,h3,h2⟩
 refine qA (Q:=fun v m'=>v=iv (doF S i).2/\∃s' g',Res m m' P s g s' g' (doF S i).1) xn (by simp) ?_
 obtain⟨⟨rd,hrd,erd,hrd2⟩,⟨rn,hrn,ern,hrn2⟩,⟨rm,hrm,erm,hrm2⟩⟩:=regs hi
 obtain⟨cc,hcc,ecc,hcc2⟩:=cnd hi
 have hx0:=h.mx.row (ql i)
 obtain⟨m0,hm0⟩:=qdi (Dx.newRow m (ql i))
 have hbx:kC (.agg ⟨ql i⟩) m=some (.pointer (some ⟨m.n,0,none⟩),m0):=by rw[hm0];rfl
 rw[<-hm0]at hx0
 have hsv:s.v=S.sc.v:=by rw[<-h.sc];rfl
 have hsat:s.at_=S.sc.at_:=by rw[<-h.sc];rfl
 have l1:load1 m0 ⟨P,1,none⟩=some (iv S.sc.at_):=by rw[<-hsat];exact hx0.ld 1
 have I:∀{mq:M} {sq:Mch} {gq:Gh} {Sq:PM} (hq:MX m mq (own P s) (Sh s g) P [(m.n,ql i)] sq gq Sq) (o:Nat),load1 mq ⟨m.n,o,none⟩=(ql i)[o]?:=fun hq o=>(hq.ow.get 0 rfl).2.2.load1 o none
 have l0:load1 m0 ⟨m.n,0,none⟩=some (iv i.op):=I hx0 0
 have l4:load1 m0 ⟨m.n,4,none⟩=some (iv i.imm):=I hx0 4
 obtain⟨nx,hnx⟩:=qdi (IntKind.i64.wrap (S.sc.at_+1))
 obtain⟨jp,hjp⟩:=qdi (IntKind.i64.wrap (S.sc.at_+i.imm))
 have hF:doF S i=(S,jp):=by unfold doF;rw[if_pos hop,hjp]
 rw[hF]
 rw[hop]at l0
 simp[hbx,l1,l0,l4,<-hnx,<-hjp]
 exact wH ⟨by simp,s,g,hx0.res⟩
set_option maxHeartbeats 1000000 in
theorem do_N (n:Nat) {m:M} {P:Nat} {s:Mch} {g:Gh} {S:PM} (h:ML m P s g S) (hb:InB S) {i:Ins} (hi:InsX i) (hop:i.op=32):DoR n m P s g S i:=by
 suffices H:∃v m',(ex Tryz.prog (n+31)).f 31 [mP P,.agg ⟨ql i⟩] m=some (v,m')/\v=iv (doF S i).2/\∃s' g',Res m m' P s g s' g' (doF S i).1 by
  obtain⟨v,m',h1,h2,s',g',h3⟩:=H
  exact⟨v,m',s',g',h1,h3,h2⟩
 refine qA (Q:=fun v m'=>v=iv (doF S i).2/\∃s' g',Res m m' P s g s' g' (doF S i).1) xn (by simp) ?_
 obtain⟨⟨rd,hrd,erd,hrd2⟩,⟨rn,hrn,ern,hrn2⟩,⟨rm,hrm,erm,hrm2⟩⟩:=regs hi
 obtain⟨cc,hcc,ecc,hcc2⟩:=cnd hi
 have hx0:=h.mx.row (ql i)
 obtain⟨m0,hm0⟩:=qdi (Dx.newRow m (ql i))
 have hbx:kC (.agg ⟨ql i⟩) m=some (.pointer (some ⟨m.n,0,none⟩),m0):=by rw[hm0];rfl
 rw[<-hm0]at hx0
 have hsv:s.v=S.sc.v:=by rw[<-h.sc];rfl
 have hsat:s.at_=S.sc.at_:=by rw[<-h.sc];rfl
 have l1:load1 m0 ⟨P,1,none⟩=some (iv S.sc.at_):=by rw[<-hsat];exact hx0.ld 1
 have I:∀{mq:M} {sq:Mch} {gq:Gh} {Sq:PM} (hq:MX m mq (own P s) (Sh s g) P [(m.n,ql i)] sq gq Sq) (o:Nat),load1 mq ⟨m.n,o,none⟩=(ql i)[o]?:=fun hq o=>(hq.ow.get 0 rfl).2.2.load1 o none
 have l0:load1 m0 ⟨m.n,0,none⟩=some (iv i.op):=I hx0 0
 have l4:load1 m0 ⟨m.n,4,none⟩=some (iv i.imm):=I hx0 4
 obtain⟨nx,hnx⟩:=qdi (IntKind.i64.wrap (S.sc.at_+1))
 obtain⟨jp,hjp⟩:=qdi (IntKind.i64.wrap (S.sc.at_+i.imm))
 have hF:doF S i=(S,nx):=by unfold doF;simp only[hop];rw[hnx];rfl
 rw[hF]
 rw[hop]at l0
 simp[hbx,l1,l0,l4,<-hnx,<-hjp]
 exact wH ⟨by simp,s,g,hx0.res⟩
set_option maxHeartbeats 1000000 in
theorem do_C (n:Nat) {m:M} {P:Nat} {s:Mch} {g:Gh} {S:PM} (h:ML m P s g S) (hb:InB S) {i:Ins} (hi:InsX i) (hop:i.op=19):DoR n m P s g S i:=by
 suffices H:∃v m',(ex Tryz.prog (n+31)).f 31 [mP P,.agg ⟨ql i⟩] m=some (v,m')/\v=iv (doF S i).2/\∃s' g',Res m m' P s g s' g' (doF S i).1 by
  obtain⟨v,m',h1,h2,s',g',h3⟩:=H
  exact⟨v,m',s',g',h1,h3,h2⟩
 refine qA (Q:=fun v m'=>v=iv (doF S i).2/\∃s' g',Res m m' P s g s' g' (doF S i).1) xn (by simp) ?_
 obtain⟨⟨rd,hrd,erd,hrd2⟩,⟨rn,hrn,ern,hrn2⟩,⟨rm,hrm,erm,hrm2⟩⟩:=regs hi
 obtain⟨cc,hcc,ecc,hcc2⟩:=cnd hi
 have hx0:=h.mx.row (ql i)
 obtain⟨m0,hm0⟩:=qdi (Dx.newRow m (ql i))
 have hbx:kC (.agg ⟨ql i⟩) m=some (.pointer (some ⟨m.n,0,none⟩),m0):=by rw[hm0];rfl
 rw[<-hm0]at hx0
 have hsv:s.v=S.sc.v:=by rw[<-h.sc];rfl
 have hsat:s.at_=S.sc.at_:=by rw[<-h.sc];rfl
 have l1:load1 m0 ⟨P,1,none⟩=some (iv S.sc.at_):=by rw[<-hsat];exact hx0.ld 1
 have I:∀{mq:M} {sq:Mch} {gq:Gh} {Sq:PM} (hq:MX m mq (own P s) (Sh s g) P [(m.n,ql i)] sq gq Sq) (o:Nat),load1 mq ⟨m.n,o,none⟩=(ql i)[o]?:=fun hq o=>(hq.ow.get 0 rfl).2.2.load1 o none
 have l0:load1 m0 ⟨m.n,0,none⟩=some (iv i.op):=I hx0 0
 have l4:load1 m0 ⟨m.n,4,none⟩=some (iv i.imm):=I hx0 4
 obtain⟨nx,hnx⟩:=qdi (IntKind.i64.wrap (S.sc.at_+1))
 obtain⟨jp,hjp⟩:=qdi (IntKind.i64.wrap (S.sc.at_+i.imm))
 have hF:doF S i=({ S with way:=uni S.way S.ft },if jW S.sc cc then jp else nx):=by unfold doF;simp only[hop,ecc];rw[hnx,hjp];rfl
 rw[hF]
 rw[hop]at l0
 have l71:load1 m0 ⟨P,71,none⟩=some s.way:=hx0.ld 71
 have l70:load1 m0 ⟨P,70,none⟩=some s.ft:=hx0.ld 70
 obtain⟨v2,m2,a1,a0,a2,hx2,tv2⟩:=hx0.uniAny (n+1) hx0.tvW hx0.hp.ft (by have:=hb.way;have:=hb.ft;omega)
 obtain⟨M2,hM2⟩:=qdi (Dx.behind m0 m2)
 rw[<-hM2]at hx2 tv2
 obtain⟨m3,b1,b0,hx3⟩:=hx2.wayAny tv2
 obtain⟨M3,hM3⟩:=qdi (Dx.behind M2 m3)
 rw[<-hM3]at hx3
 have l5:load1 M3 ⟨m.n,5,none⟩=some (iv i.cond):=I hx3 5
 rw[hcc]at l5
 obtain⟨v4,m4,c1,c2,rfl⟩:=Vq (n+29) hx3.mb hx3.mat (hx3.hp.ft.ok) hcc2
 have hx4:=hx3.ext c2
 have hho:jW { s with way:=v2 } cc=jW S.sc cc:=by rw[<-h.sc];rfl
 rw[hho]at c1
 cases hc:jW S.sc cc with
 | true =>
  rw[hc]at c1
  simp[hbx,l1,l0,l4,<-hnx,<-hjp,l71,l70,a1,a0,<-hM2,b1,b0,<-hM3,l5,c1]
  exact wH ⟨by simp,_,_,hx4.res⟩
 | false =>
  rw[hc]at c1
  simp[hbx,l1,l0,l4,<-hnx,<-hjp,l71,l70,a1,a0,<-hM2,b1,b0,<-hM3,l5,c1]
  exact wH ⟨by simp,_,_,hx4.res⟩
set_option maxHeartbeats 1000000 in
theorem do_Z (n:Nat) {m:M} {P:Nat} {s:Mch} {g:Gh} {S:PM} (h:ML m P s g S) (hb:InB S) {i:Ins} (hi:InsX i) (hop:i.op=20):DoR n m P s g S i:=by
 suffices H:∃v m',(ex Tryz.prog (n+31)).f 31 [mP P,.agg ⟨ql i⟩] m=some (v,m')/\v=iv (doF S i).2/\∃s' g',Res m m' P s g s' g' (doF S i).1 by
  obtain⟨v,m',h1,h2,s',g',h3⟩:=H
  exact⟨v,m',s',g',h1,h3,h2⟩
 refine qA (Q:=fun v m'=>v=iv (doF S i).2/\∃s' g',Res m m' P s g s' g' (doF S i).1) xn (by simp) ?_
 obtain⟨⟨rd,hrd,erd,hrd2⟩,⟨rn,hrn,ern,hrn2⟩,⟨rm,hrm,erm,hrm2⟩⟩:=regs hi
 obtain⟨cc,hcc,ecc,hcc2⟩:=cnd hi
 have hx0:=h.mx.row (ql i)
 obtain⟨m0,hm0⟩:=qdi (Dx.newRow m (ql i))
 have hbx:kC (.agg ⟨ql i⟩) m=some (.pointer (some ⟨m.n,0,none⟩),m0):=by rw[hm0];rfl
 rw[<-hm0]at hx0
 have hsv:s.v=S.sc.v:=by rw[<-h.sc];rfl
 have hsat:s.at_=S.sc.at_:=by rw[<-h.sc];rfl
 have l1:load1 m0 ⟨P,1,none⟩=some (iv S.sc.at_):=by rw[<-hsat];exact hx0.ld 1
 have I:∀{mq:M} {sq:Mch} {gq:Gh} {Sq:PM} (hq:MX m mq (own P s) (Sh s g) P [(m.n,ql i)] sq gq Sq) (o:Nat),load1 mq ⟨m.n,o,none⟩=(ql i)[o]?:=fun hq o=>(hq.ow.get 0 rfl).2.2.load1 o none
 have l0:load1 m0 ⟨m.n,0,none⟩=some (iv i.op):=I hx0 0
 have l4:load1 m0 ⟨m.n,4,none⟩=some (iv i.imm):=I hx0 4
 obtain⟨nx,hnx⟩:=qdi (IntKind.i64.wrap (S.sc.at_+1))
 obtain⟨jp,hjp⟩:=qdi (IntKind.i64.wrap (S.sc.at_+i.imm))
 have hF:doF S i=({ S with way:=uni S.way (S.t rd) },if (decide (S.sc.v rd=0) == true) then jp else nx):=by unfold doF;simp only[hop,erd];rw[hnx,hjp];rfl
 rw[hF]
 rw[hop]at l0
 have l71:load1 m0 ⟨P,71,none⟩=some s.way:=hx0.ld 71
 have l1i:load1 m0 ⟨m.n,1,none⟩=some (iv i.rd):=I hx0 1
 have itrd:=jo P 34 hrd2
 rw[<-hrd]at itrd
 have ltrd:load1 m0 ⟨P,34+rd,none⟩=some (s.t rd):=by rw[hx0.ld,fu s hrd2]
 obtain⟨v2,m2,a1,a0,a2,hx2,tv2⟩:=hx0.uniAny (n+1) hx0.tvW (hx0.hp.t rd hrd2) (by have:=hb.way;have:=hb.t rd;omega)
 obtain⟨M2,hM2⟩:=qdi (Dx.behind m0 m2)
 rw[<-hM2]at hx2 tv2
 obtain⟨m3,b1,b0,hx3⟩:=hx2.wayAny tv2
 obtain⟨M3,hM3⟩:=qdi (Dx.behind M2 m3)
 rw[<-hM3]at hx3
 have k1:load1 M3 ⟨m.n,1,none⟩=some (iv i.rd):=I hx3 1
 have k0:load1 M3 ⟨m.n,0,none⟩=some (iv i.op):=I hx3 0
 rw[hop]at k0
 have iard:=jo P 2 hrd2
 rw[<-hrd]at iard
 have lvrd:load1 M3 ⟨P,2+rd,none⟩=some (uv (S.sc.v rd)):=by rw[hx3.ld,yC _ hrd2,<-hsv]
 by_cases hz:S.sc.v rd=0
 ·rw[hz]at lvrd
  simp[hbx,l1,l0,l4,l1i,<-hnx,<-hjp,l71,itrd,ltrd,a1,a0,<-hM2,b1,b0,<-hM3,k1,k0,iard,lvrd]
  exact wH ⟨by simp[hz],_,_,hx3.res⟩
 ·have hz':(((S.sc.v rd:Nat):Int)=0)=False:=eq_false (by omega)
  obtain⟨x,hx⟩:=qdi (S.sc.v rd)
  rw[<-hx]at lvrd hz'
  have hz2:(x=0)=False:=eq_false (by rw[hx];exact hz)
  simp[hbx,l1,l0,l4,l1i,<-hnx,<-hjp,l71,itrd,ltrd,a1,a0,<-hM2,b1,b0,<-hM3,k1,k0,iard,lvrd,hz',hz2]
  exact wH ⟨by simp[hz],_,_,hx3.res⟩
set_option maxHeartbeats 1000000 in
theorem do_Y (n:Nat) {m:M} {P:Nat} {s:Mch} {g:Gh} {S:PM} (h:ML m P s g S) (hb:InB S) {i:Ins} (hi:InsX i) (hop:i.op=21):DoR n m P s g S i:=by
 suffices H:∃v m',(ex Tryz.prog (n+31)).f 31 [mP P,.agg ⟨ql i⟩] m=some (v,m')/\v=iv (doF S i).2/\∃s' g',Res m m' P s g s' g' (doF S i).1 by
  obtain⟨v,m',h1,h2,s',g',h3⟩:=H
  exact⟨v,m',s',g',h1,h3,h2⟩
 refine qA (Q:=fun v m'=>v=iv (doF S i).2/\∃s' g',Res m m' P s g s' g' (doF S i).1) xn (by simp) ?_
 obtain⟨⟨rd,hrd,erd,hrd2⟩,⟨rn,hrn,ern,hrn2⟩,⟨rm,hrm,erm,hrm2⟩⟩:=regs hi
 obtain⟨cc,hcc,ecc,hcc2⟩:=cnd hi
 have hx0:=h.mx.row (ql i)
 obtain⟨m0,hm0⟩:=qdi (Dx.newRow m (ql i))
 have hbx:kC (.agg ⟨ql i⟩) m=some (.pointer (some ⟨m.n,0,none⟩),m0):=by rw[hm0];rfl
 rw[<-hm0]at hx0
 have hsv:s.v=S.sc.v:=by rw[<-h.sc];rfl
 have hsat:s.at_=S.sc.at_:=by rw[<-h.sc];rfl
 have l1:load1 m0 ⟨P,1,none⟩=some (iv S.sc.at_):=by rw[<-hsat];exact hx0.ld 1
 have I:∀{mq:M} {sq:Mch} {gq:Gh} {Sq:PM} (hq:MX m mq (own P s) (Sh s g) P [(m.n,ql i)] sq gq Sq) (o:Nat),load1 mq ⟨m.n,o,none⟩=(ql i)[o]?:=fun hq o=>(hq.ow.get 0 rfl).2.2.load1 o none
 have l0:load1 m0 ⟨m.n,0,none⟩=some (iv i.op):=I hx0 0
 have l4:load1 m0 ⟨m.n,4,none⟩=some (iv i.imm):=I hx0 4
 obtain⟨nx,hnx⟩:=qdi (IntKind.i64.wrap (S.sc.at_+1))
 obtain⟨jp,hjp⟩:=qdi (IntKind.i64.wrap (S.sc.at_+i.imm))
 have hF:doF S i=({ S with way:=uni S.way (S.t rd) },if (decide (S.sc.v rd=0) == false) then jp else nx):=by unfold doF;simp only[hop,erd];rw[hnx,hjp];rfl
 rw[hF]
 rw[hop]at l0
 have l71:load1 m0 ⟨P,71,none⟩=some s.way:=hx0.ld 71
 have l1i:load1 m0 ⟨m.n,1,none⟩=some (iv i.rd):=I hx0 1
 have itrd:=jo P 34 hrd2
 rw[<-hrd]at itrd
 have ltrd:load1 m0 ⟨P,34+rd,none⟩=some (s.t rd):=by rw[hx0.ld,fu s hrd2]
 obtain⟨v2,m2,a1,a0,a2,hx2,tv2⟩:=hx0.uniAny (n+1) hx0.tvW (hx0.hp.t rd hrd2) (by have:=hb.way;have:=hb.t rd;omega)
 obtain⟨M2,hM2⟩:=qdi (Dx.behind m0 m2)
 rw[<-hM2]at hx2 tv2
 obtain⟨m3,b1,b0,hx3⟩:=hx2.wayAny tv2
 obtain⟨M3,hM3⟩:=qdi (Dx.behind M2 m3)
 rw[<-hM3]at hx3
 have k1:load1 M3 ⟨m.n,1,none⟩=some (iv i.rd):=I hx3 1
 have k0:load1 M3 ⟨m.n,0,none⟩=some (iv i.op):=I hx3 0
 rw[hop]at k0
 have iard:=jo P 2 hrd2
 rw[<-hrd]at iard
 have lvrd:load1 M3 ⟨P,2+rd,none⟩=some (uv (S.sc.v rd)):=by rw[hx3.ld,yC _ hrd2,<-hsv]
 by_cases hz:S.sc.v rd=0
 ·rw[hz]at lvrd
  simp[hbx,l1,l0,l4,l1i,<-hnx,<-hjp,l71,itrd,ltrd,a1,a0,<-hM2,b1,b0,<-hM3,k1,k0,iard,lvrd]
  exact wH ⟨by simp[hz],_,_,hx3.res⟩
 ·have hz':(((S.sc.v rd:Nat):Int)=0)=False:=eq_false (by omega)
  obtain⟨x,hx⟩:=qdi (S.sc.v rd)
  rw[<-hx]at lvrd hz'
  have hz2:(x=0)=False:=eq_false (by rw[hx];exact hz)
  simp[hbx,l1,l0,l4,l1i,<-hnx,<-hjp,l71,itrd,ltrd,a1,a0,<-hM2,b1,b0,<-hM3,k1,k0,iard,lvrd,hz',hz2]
  exact wH ⟨by simp[hz],_,_,hx3.res⟩
set_option maxHeartbeats 1000000 in
theorem do_M (n:Nat) {m:M} {P:Nat} {s:Mch} {g:Gh} {S:PM} (h:ML m P s g S) (hb:InB S) {i:Ins} (hi:InsX i) (hop:i.op=16):DoR n m P s g S i:=by
 suffices H:∃v m',(ex Tryz.prog (n+31)).f 31 [mP P,.agg ⟨ql i⟩] m=some (v,m')/\v=iv (doF S i).2/\∃s' g',Res m m' P s g s' g' (doF S i).1 by
  obtain⟨v,m',h1,h2,s',g',h3⟩:=H
  exact⟨v,m',s',g',h1,h3,h2⟩
 refine qA (Q:=fun v m'=>v=iv (doF S i).2/\∃s' g',Res m m' P s g s' g' (doF S i).1) xn (by simp) ?_
 obtain⟨⟨rd,hrd,erd,hrd2⟩,⟨rn,hrn,ern,hrn2⟩,⟨rm,hrm,erm,hrm2⟩⟩:=regs hi
 obtain⟨cc,hcc,ecc,hcc2⟩:=cnd hi
 have hx0:=h.mx.row (ql i)
 obtain⟨m0,hm0⟩:=qdi (Dx.newRow m (ql i))
 have hbx:kC (.agg ⟨ql i⟩) m=some (.pointer (some ⟨m.n,0,none⟩),m0):=by rw[hm0];rfl
 rw[<-hm0]at hx0
 have hsv:s.v=S.sc.v:=by rw[<-h.sc];rfl
 have hsat:s.at_=S.sc.at_:=by rw[<-h.sc];rfl
 have l1:load1 m0 ⟨P,1,none⟩=some (iv S.sc.at_):=by rw[<-hsat];exact hx0.ld 1
 have I:∀{mq:M} {sq:Mch} {gq:Gh} {Sq:PM} (hq:MX m mq (own P s) (Sh s g) P [(m.n,ql i)] sq gq Sq) (o:Nat),load1 mq ⟨m.n,o,none⟩=(ql i)[o]?:=fun hq o=>(hq.ow.get 0 rfl).2.2.load1 o none
 have l0:load1 m0 ⟨m.n,0,none⟩=some (iv i.op):=I hx0 0
 have l4:load1 m0 ⟨m.n,4,none⟩=some (iv i.imm):=I hx0 4
 obtain⟨nx,hnx⟩:=qdi (IntKind.i64.wrap (S.sc.at_+1))
 obtain⟨jp,hjp⟩:=qdi (IntKind.i64.wrap (S.sc.at_+i.imm))
 have hF:doF S i=(cmpP S (S.sc.v rn) (S.sc.v rm) (uni (S.t rn) (S.t rm)),nx):=by unfold doF;simp only[hop,ern,erm];rw[hnx];rfl
 rw[hF]
 rw[hop]at l0
 have l2i:load1 m0 ⟨m.n,2,none⟩=some (iv i.rn):=I hx0 2
 have l3i:load1 m0 ⟨m.n,3,none⟩=some (iv i.rm):=I hx0 3
 have iarn:=jo P 2 hrn2
 rw[<-hrn]at iarn
 have lvrn:load1 m0 ⟨P,2+rn,none⟩=some (uv (S.sc.v rn)):=by rw[hx0.ld,yC s hrn2,hsv]
 have iarm:=jo P 2 hrm2
 rw[<-hrm]at iarm
 have lvrm:load1 m0 ⟨P,2+rm,none⟩=some (uv (S.sc.v rm)):=by rw[hx0.ld,yC s hrm2,hsv]
 have itrn:=jo P 34 hrn2
 rw[<-hrn]at itrn
 have ltrn:load1 m0 ⟨P,34+rn,none⟩=some (s.t rn):=by rw[hx0.ld,fu s hrn2]
 have itrm:=jo P 34 hrm2
 rw[<-hrm]at itrm
 have ltrm:load1 m0 ⟨P,34+rm,none⟩=some (s.t rm):=by rw[hx0.ld,fu s hrm2]
 obtain⟨v2,m2,a1,a0,a2,hx2,tv2⟩:=hx0.uniAny (n+1) (hx0.tvT hrn2) (hx0.hp.t rm hrm2) (by have:=hb.t rn;have:=hb.t rm;omega)
 obtain⟨M2,hM2⟩:=qdi (Dx.behind m0 m2)
 rw[<-hM2]at hx2 tv2
 obtain⟨v3,m3,b1,b2,b3⟩:=Yl (n+29) (qF M2) hx2.matAny (a:=S.sc.v rn) (b:=S.sc.v rm) (hb.v rn) (hb.v rm) (tv:=v2) (tl:=uni (S.t rn) (S.t rm)) (tv2.rs.congr (by rw[qp];exact qcx _) fun B _=>qu _ _)
 have hx3:=hx2.callF b2.behind ⟨b3.arr.congr (qy _ _ _),by rw[qU];exact b3.lt⟩ tv2
 simp[hbx,l1,l0,l4,l2i,l3i,<-hnx,<-hjp,iarn,iarm,itrn,itrm,lvrn,lvrm,ltrn,ltrm,a1,a0,<-hM2,b1]
 exact wH ⟨by simp,_,_,hx3.res⟩
set_option maxHeartbeats 1000000 in
theorem do_S (n:Nat) {m:M} {P:Nat} {s:Mch} {g:Gh} {S:PM} (h:ML m P s g S) (hb:InB S) {i:Ins} (hi:InsX i) (hop:i.op=17):DoR n m P s g S i:=by
 suffices H:∃v m',(ex Tryz.prog (n+31)).f 31 [mP P,.agg ⟨ql i⟩] m=some (v,m')/\v=iv (doF S i).2/\∃s' g',Res m m' P s g s' g' (doF S i).1 by
  obtain⟨v,m',h1,h2,s',g',h3⟩:=H
  exact⟨v,m',s',g',h1,h3,h2⟩
 refine qA (Q:=fun v m'=>v=iv (doF S i).2/\∃s' g',Res m m' P s g s' g' (doF S i).1) xn (by simp) ?_
 obtain⟨⟨rd,hrd,erd,hrd2⟩,⟨rn,hrn,ern,hrn2⟩,⟨rm,hrm,erm,hrm2⟩⟩:=regs hi
 obtain⟨cc,hcc,ecc,hcc2⟩:=cnd hi
 have hx0:=h.mx.row (ql i)
 obtain⟨m0,hm0⟩:=qdi (Dx.newRow m (ql i))
 have hbx:kC (.agg ⟨ql i⟩) m=some (.pointer (some ⟨m.n,0,none⟩),m0):=by rw[hm0];rfl
 rw[<-hm0]at hx0
 have hsv:s.v=S.sc.v:=by rw[<-h.sc];rfl
 have hsat:s.at_=S.sc.at_:=by rw[<-h.sc];rfl
 have l1:load1 m0 ⟨P,1,none⟩=some (iv S.sc.at_):=by rw[<-hsat];exact hx0.ld 1
 have I:∀{mq:M} {sq:Mch} {gq:Gh} {Sq:PM} (hq:MX m mq (own P s) (Sh s g) P [(m.n,ql i)] sq gq Sq) (o:Nat),load1 mq ⟨m.n,o,none⟩=(ql i)[o]?:=fun hq o=>(hq.ow.get 0 rfl).2.2.load1 o none
 have l0:load1 m0 ⟨m.n,0,none⟩=some (iv i.op):=I hx0 0
 have l4:load1 m0 ⟨m.n,4,none⟩=some (iv i.imm):=I hx0 4
 obtain⟨nx,hnx⟩:=qdi (IntKind.i64.wrap (S.sc.at_+1))
 obtain⟨jp,hjp⟩:=qdi (IntKind.i64.wrap (S.sc.at_+i.imm))
 have hF:doF S i=(setRP S rd (if jW S.sc cc then 1 else 0) S.ft,nx):=by unfold doF;simp only[hop,erd,ecc];rw[hnx];rfl
 rw[hF]
 rw[hop]at l0
 have l5:load1 m0 ⟨m.n,5,none⟩=some (iv i.cond):=I hx0 5
 rw[hcc]at l5
 obtain⟨v4,m4,c1,c2,rfl⟩:=Vq (n+29) hx0.mb hx0.mat (hx0.hp.ft.ok) hcc2
 have hx4:=hx0.ext c2
 have hho:jW s cc=jW S.sc cc:=by rw[<-h.sc];rfl
 rw[hho]at c1
 have l1i:load1 m4 ⟨m.n,1,none⟩=some (iv rd):=by rw[I hx4 1,<-hrd];rfl
 have l70:load1 m4 ⟨P,70,none⟩=some s.ft:=hx4.ld 70
 cases hc:jW S.sc cc with
 | true =>
  rw[hc]at c1
  obtain⟨v5,m5,d1,hx5⟩:=hx4.regAny (n+29) hrd2 1 hx4.tvF
  have d1:(ex Tryz.prog (n+30)).f 37 [.pointer (some ⟨P,2,none⟩),iv rd,.int .u64 1,s.ft] (qg m4)=some (v5,m5):=d1
  simp[hbx,l1,l0,l4,<-hnx,<-hjp,l5,c1,l1i,l70,d1]
  exact wH ⟨by simp,_,_,hx5.res⟩
 | false =>
  rw[hc]at c1
  obtain⟨v5,m5,d1,hx5⟩:=hx4.regAny (n+29) hrd2 0 hx4.tvF
  have d1:(ex Tryz.prog (n+30)).f 37 [.pointer (some ⟨P,2,none⟩),iv rd,zU,s.ft] (qg m4)=some (v5,m5):=d1
  simp[hbx,l1,l0,l4,<-hnx,<-hjp,l5,c1,l1i,l70,d1]
  exact wH ⟨by simp,_,_,hx5.res⟩
set_option maxHeartbeats 1000000 in
theorem do_V (n:Nat) {m:M} {P:Nat} {s:Mch} {g:Gh} {S:PM} (h:ML m P s g S) (hb:InB S) {i:Ins} (hi:InsX i) (hop:i.op=1):DoR n m P s g S i:=by
 suffices H:∃v m',(ex Tryz.prog (n+31)).f 31 [mP P,.agg ⟨ql i⟩] m=some (v,m')/\v=iv (doF S i).2/\∃s' g',Res m m' P s g s' g' (doF S i).1 by
  obtain⟨v,m',h1,h2,s',g',h3⟩:=H
  exact⟨v,m',s',g',h1,h3,h2⟩
 refine qA (Q:=fun v m'=>v=iv (doF S i).2/\∃s' g',Res m m' P s g s' g' (doF S i).1) xn (by simp) ?_
 obtain⟨⟨rd,hrd,erd,hrd2⟩,⟨rn,hrn,ern,hrn2⟩,⟨rm,hrm,erm,hrm2⟩⟩:=regs hi
 obtain⟨cc,hcc,ecc,hcc2⟩:=cnd hi
 have hx0:=h.mx.row (ql i)
 obtain⟨m0,hm0⟩:=qdi (Dx.newRow m (ql i))
 have hbx:kC (.agg ⟨ql i⟩) m=some (.pointer (some ⟨m.n,0,none⟩),m0):=by rw[hm0];rfl
 rw[<-hm0]at hx0
 have hsv:s.v=S.sc.v:=by rw[<-h.sc];rfl
 have hsat:s.at_=S.sc.at_:=by rw[<-h.sc];rfl
 have l1:load1 m0 ⟨P,1,none⟩=some (iv S.sc.at_):=by rw[<-hsat];exact hx0.ld 1
 have I:∀{mq:M} {sq:Mch} {gq:Gh} {Sq:PM} (hq:MX m mq (own P s) (Sh s g) P [(m.n,ql i)] sq gq Sq) (o:Nat),load1 mq ⟨m.n,o,none⟩=(ql i)[o]?:=fun hq o=>(hq.ow.get 0 rfl).2.2.load1 o none
 have l0:load1 m0 ⟨m.n,0,none⟩=some (iv i.op):=I hx0 0
 have l4:load1 m0 ⟨m.n,4,none⟩=some (iv i.imm):=I hx0 4
 obtain⟨nx,hnx⟩:=qdi (IntKind.i64.wrap (S.sc.at_+1))
 obtain⟨jp,hjp⟩:=qdi (IntKind.i64.wrap (S.sc.at_+i.imm))
 have hF:doF S i=(setRP S rd (YJ i) [],nx):=by unfold doF;simp only[hop,erd];rw[hnx];rfl
 rw[hF]
 obtain⟨⟨q,hq,hq2⟩,hc3⟩:=hi.mov (.inl hop)
 rw[hop]at l0
 have l4:load1 m0 ⟨m.n,4,none⟩=some (iv q):=by rw[<-hq];exact l4
 have hjp:jp=IntKind.i64.wrap (S.sc.at_+(q:Int)):=by rw[hjp,hq]
 have l5:load1 m0 ⟨m.n,5,none⟩=some (iv cc):=by rw[<-hcc];exact I hx0 5
 have l1i:load1 m0 ⟨m.n,1,none⟩=some (iv rd):=by rw[<-hrd];exact I hx0 1
 have cu:=xU (x:=q) (by omega)
 have w16:IntKind.i64.wrap (16*(cc:Int))=((16*cc:Nat):Int):=qB (by omega) (by omega)
 obtain⟨k,hk⟩:=qdi (16*cc)
 rw[<-hk]at w16
 have sh:shV .shl (uv q) (iv k)=some (uv (YJ i)):=by
  rw[VN (by omega)]
  unfold YJ
  rw[hk,ecc,hq];rfl
 obtain⟨x,hx⟩:=qdi (YJ i)
 rw[<-hx]at sh ⊢
 obtain⟨v5,m5,d1,hx5⟩:=hx0.regAny (n+29) hrd2 x Tv.nil
 simp[hbx,l1,l0,l4,<-hnx,<-hjp,l5,l1i,cu,jH,w16,sh,d1]
 exact wH ⟨by simp,_,_,hx5.res⟩
set_option maxHeartbeats 1000000 in
theorem do_K (n:Nat) {m:M} {P:Nat} {s:Mch} {g:Gh} {S:PM} (h:ML m P s g S) (hb:InB S) {i:Ins} (hi:InsX i) (hop:i.op=2):DoR n m P s g S i:=by
 suffices H:∃v m',(ex Tryz.prog (n+31)).f 31 [mP P,.agg ⟨ql i⟩] m=some (v,m')/\v=iv (doF S i).2/\∃s' g',Res m m' P s g s' g' (doF S i).1 by
  obtain⟨v,m',h1,h2,s',g',h3⟩:=H
  exact⟨v,m',s',g',h1,h3,h2⟩
 refine qA (Q:=fun v m'=>v=iv (doF S i).2/\∃s' g',Res m m' P s g s' g' (doF S i).1) xn (by simp) ?_
 obtain⟨⟨rd,hrd,erd,hrd2⟩,⟨rn,hrn,ern,hrn2⟩,⟨rm,hrm,erm,hrm2⟩⟩:=regs hi
 obtain⟨cc,hcc,ecc,hcc2⟩:=cnd hi
 have hx0:=h.mx.row (ql i)
 obtain⟨m0,hm0⟩:=qdi (Dx.newRow m (ql i))
 have hbx:kC (.agg ⟨ql i⟩) m=some (.pointer (some ⟨m.n,0,none⟩),m0):=by rw[hm0];rfl
 rw[<-hm0]at hx0
 have hsv:s.v=S.sc.v:=by rw[<-h.sc];rfl
 have hsat:s.at_=S.sc.at_:=by rw[<-h.sc];rfl
 have l1:load1 m0 ⟨P,1,none⟩=some (iv S.sc.at_):=by rw[<-hsat];exact hx0.ld 1
 have I:∀{mq:M} {sq:Mch} {gq:Gh} {Sq:PM} (hq:MX m mq (own P s) (Sh s g) P [(m.n,ql i)] sq gq Sq) (o:Nat),load1 mq ⟨m.n,o,none⟩=(ql i)[o]?:=fun hq o=>(hq.ow.get 0 rfl).2.2.load1 o none
 have l0:load1 m0 ⟨m.n,0,none⟩=some (iv i.op):=I hx0 0
 have l4:load1 m0 ⟨m.n,4,none⟩=some (iv i.imm):=I hx0 4
 obtain⟨nx,hnx⟩:=qdi (IntKind.i64.wrap (S.sc.at_+1))
 obtain⟨jp,hjp⟩:=qdi (IntKind.i64.wrap (S.sc.at_+i.imm))
 have hF:doF S i=(setRP S rd (WL (S.sc.v rd) i) (S.t rd),nx):=by unfold doF;simp only[hop,erd];rw[hnx];rfl
 rw[hF]
 obtain⟨⟨q,hq,hq2⟩,hc3⟩:=hi.mov (.inr hop)
 rw[hop]at l0
 have l4:load1 m0 ⟨m.n,4,none⟩=some (iv q):=by rw[<-hq];exact l4
 have hjp:jp=IntKind.i64.wrap (S.sc.at_+(q:Int)):=by rw[hjp,hq]
 have l5:load1 m0 ⟨m.n,5,none⟩=some (iv cc):=by rw[<-hcc];exact I hx0 5
 have l1i:load1 m0 ⟨m.n,1,none⟩=some (iv i.rd):=I hx0 1
 have iard:=jo P 2 hrd2
 rw[<-hrd]at iard
 have lvrd:load1 m0 ⟨P,2+rd,none⟩=some (uv (S.sc.v rd)):=by rw[hx0.ld,yC s hrd2,hsv]
 have itrd:=jo P 34 hrd2
 rw[<-hrd]at itrd
 have ltrd:load1 m0 ⟨P,34+rd,none⟩=some (s.t rd):=by rw[hx0.ld,fu s hrd2]
 have cu:=xU (x:=q) (by omega)
 have w16:IntKind.i64.wrap (16*(cc:Int))=((16*cc:Nat):Int):=qB (by omega) (by omega)
 obtain⟨k,hk⟩:=qdi (16*cc)
 rw[<-hk]at w16
 have hkl:k<64:=by omega
 obtain⟨a1,ha1⟩:=qdi (65535*2 ^ k % W64)
 obtain⟨a2,ha2⟩:=qdi (q*2 ^ k % W64)
 have ha1l:a1<W64:=by rw[ha1];exact Nat.mod_lt _ (by decide)
 have ha2l:a2<W64:=by rw[ha2];exact Nat.mod_lt _ (by decide)
 have sh1:shV .shl (.int .u64 65535) (iv k)=some (uv a1):=by rw[ha1];exact VN (a:=65535) hkl
 have sh2:shV .shl (uv q) (iv k)=some (uv a2):=by rw[ha2];exact VN hkl
 have an:=DX (a:=S.sc.v rd) (b:=a1) (hb.v rd) ha1l
 obtain⟨a3,ha3⟩:=qdi (S.sc.v rd &&& (18446744073709551615 - a1))
 have ha3l:a3<W64:=by rw[ha3];exact JK (hb.v rd)
 rw[<-ha3]at an
 have orr:=u_or (a:=a3) (b:=a2) ha3l ha2l
 have hm:WL (S.sc.v rd) i=a3 ||| a2:=by unfold WL;rw[ha3,ha2,ha1,hk,ecc,hq];rfl
 obtain⟨x,hx⟩:=qdi (WL (S.sc.v rd) i)
 rw[<-hm,<-hx]at orr
 rw[<-hx]
 obtain⟨v5,m5,d1,hx5⟩:=hx0.regAny (n+29) hrd2 x (hx0.tvT hrd2)
 rw[<-hrd]at d1
 simp[hbx,l1,l0,l4,<-hnx,<-hjp,l5,l1i,iard,itrd,lvrd,ltrd,cu,jH,w16,sh1,sh2,an,orr,d1]
 exact wH ⟨by simp,_,_,hx5.res⟩
set_option maxHeartbeats 1000000 in
theorem do_X (n:Nat) {m:M} {P:Nat} {s:Mch} {g:Gh} {S:PM} (h:ML m P s g S) (hb:InB S) {i:Ins} (hi:InsX i) (hop:i.op=28\/i.op=29):DoR n m P s g S i:=by
 suffices H:∃v m',(ex Tryz.prog (n+31)).f 31 [mP P,.agg ⟨ql i⟩] m=some (v,m')/\v=iv (doF S i).2/\∃s' g',Res m m' P s g s' g' (doF S i).1 by
  obtain⟨v,m',h1,h2,s',g',h3⟩:=H
  exact⟨v,m',s',g',h1,h3,h2⟩
 refine qA (Q:=fun v m'=>v=iv (doF S i).2/\∃s' g',Res m m' P s g s' g' (doF S i).1) xn (by simp) ?_
 obtain⟨⟨rd,hrd,erd,hrd2⟩,⟨rn,hrn,ern,hrn2⟩,⟨rm,hrm,erm,hrm2⟩⟩:=regs hi
 obtain⟨cc,hcc,ecc,hcc2⟩:=cnd hi
 have hx0:=h.mx.row (ql i)
 obtain⟨m0,hm0⟩:=qdi (Dx.newRow m (ql i))
 have hbx:kC (.agg ⟨ql i⟩) m=some (.pointer (some ⟨m.n,0,none⟩),m0):=by rw[hm0];rfl
 rw[<-hm0]at hx0
 have hsv:s.v=S.sc.v:=by rw[<-h.sc];rfl
 have hsat:s.at_=S.sc.at_:=by rw[<-h.sc];rfl
 have l1:load1 m0 ⟨P,1,none⟩=some (iv S.sc.at_):=by rw[<-hsat];exact hx0.ld 1
 have I:∀{mq:M} {sq:Mch} {gq:Gh} {Sq:PM} (hq:MX m mq (own P s) (Sh s g) P [(m.n,ql i)] sq gq Sq) (o:Nat),load1 mq ⟨m.n,o,none⟩=(ql i)[o]?:=fun hq o=>(hq.ow.get 0 rfl).2.2.load1 o none
 have l0:load1 m0 ⟨m.n,0,none⟩=some (iv i.op):=I hx0 0
 have l4:load1 m0 ⟨m.n,4,none⟩=some (iv i.imm):=I hx0 4
 obtain⟨nx,hnx⟩:=qdi (IntKind.i64.wrap (S.sc.at_+1))
 obtain⟨jp,hjp⟩:=qdi (IntKind.i64.wrap (S.sc.at_+i.imm))
 have hF:doF S i=(setRP { S with sc:={ S.sc with opn:=false } } rm 1 [],nx):=by unfold doF;rcases hop with hop | hop<;>(simp only[hop,erm];rw[hnx];rfl)
 rw[hF]
 have l3i:load1 m0 ⟨m.n,3,none⟩=some (iv i.rm):=I hx0 3
 obtain⟨m2,a1,hx2,-⟩:=hx0.set (o:=72) (v:=.bool false) (by omega) rfl (gI s false) (S':={ S with sc:={ S.sc with opn:=false } }) ⟨rfl,rfl,rfl,rfl,rfl,fun F hF=>by rcases six hF with rfl | rfl | rfl | rfl | rfl | rfl<;>rfl,rfl,rfl,rfl,rfl,rfl,fun F hF=>by rcases six hF with rfl | rfl | rfl | rfl | rfl | rfl<;>rfl⟩ (by
  show bU { s with opn:=false }={ S.sc with opn:=false }
  rw[<-h.sc];rfl)
 have k3:load1 m2 ⟨m.n,3,none⟩=some (iv rm):=by rw[<-hrm];exact I hx2 3
 obtain⟨v5,m5,d1,hx5⟩:=hx2.regAny (n+29) hrm2 1 Tv.nil
 have d1:(ex Tryz.prog (n+30)).f 37 [.pointer (some ⟨P,2,none⟩),iv rm,.int .u64 1,zS] (qg m2)=some (v5,m5):=d1
 rcases hop with hop | hop
 ·rw[hop]at l0
  simp[hbx,l1,l0,l4,<-hnx,<-hjp,a1,k3,d1]
  exact wH ⟨by simp,_,_,hx5.res⟩
 ·rw[hop]at l0
  simp[hbx,l1,l0,l4,<-hnx,<-hjp,a1,k3,d1]
  exact wH ⟨by simp,_,_,hx5.res⟩
set_option maxHeartbeats 1000000 in
theorem do_R (n:Nat) {m:M} {P:Nat} {s:Mch} {g:Gh} {S:PM} (h:ML m P s g S) (hb:InB S) {i:Ins} (hi:InsX i) (hop:3<=i.op/\i.op<=11):DoR n m P s g S i:=by
 suffices H:∃v m',(ex Tryz.prog (n+31)).f 31 [mP P,.agg ⟨ql i⟩] m=some (v,m')/\v=iv (doF S i).2/\∃s' g',Res m m' P s g s' g' (doF S i).1 by
  obtain⟨v,m',h1,h2,s',g',h3⟩:=H
  exact⟨v,m',s',g',h1,h3,h2⟩
 refine qA (Q:=fun v m'=>v=iv (doF S i).2/\∃s' g',Res m m' P s g s' g' (doF S i).1) xn (by simp) ?_
 obtain⟨⟨rd,hrd,erd,hrd2⟩,⟨rn,hrn,ern,hrn2⟩,⟨rm,hrm,erm,hrm2⟩⟩:=regs hi
 obtain⟨cc,hcc,ecc,hcc2⟩:=cnd hi
 have hx0:=h.mx.row (ql i)
 obtain⟨m0,hm0⟩:=qdi (Dx.newRow m (ql i))
 have hbx:kC (.agg ⟨ql i⟩) m=some (.pointer (some ⟨m.n,0,none⟩),m0):=by rw[hm0];rfl
 rw[<-hm0]at hx0
 have hsv:s.v=S.sc.v:=by rw[<-h.sc];rfl
 have hsat:s.at_=S.sc.at_:=by rw[<-h.sc];rfl
 have l1:load1 m0 ⟨P,1,none⟩=some (iv S.sc.at_):=by rw[<-hsat];exact hx0.ld 1
 have I:∀{mq:M} {sq:Mch} {gq:Gh} {Sq:PM} (hq:MX m mq (own P s) (Sh s g) P [(m.n,ql i)] sq gq Sq) (o:Nat),load1 mq ⟨m.n,o,none⟩=(ql i)[o]?:=fun hq o=>(hq.ow.get 0 rfl).2.2.load1 o none
 have l0:load1 m0 ⟨m.n,0,none⟩=some (iv i.op):=I hx0 0
 have l4:load1 m0 ⟨m.n,4,none⟩=some (iv i.imm):=I hx0 4
 obtain⟨nx,hnx⟩:=qdi (IntKind.i64.wrap (S.sc.at_+1))
 obtain⟨jp,hjp⟩:=qdi (IntKind.i64.wrap (S.sc.at_+i.imm))
 obtain⟨op,hopv⟩:∃op:Nat,i.op=(op:Int):=⟨i.op.toNat,by omega⟩
 obtain⟨rv,hrv⟩:=qdi (yf i.op (S.sc.v rn) (S.sc.v rm) i.imm.toNat)
 have hF:doF S i=(setRP S rd rv (uni (S.t rn) (S.t rm)),nx):=by
  unfold doF
  simp only[erd,ern,erm]
  rw[if_neg (by omega),if_neg (by omega),if_neg (by omega),if_neg (by omega),if_neg (by omega),if_neg (by omega),if_neg (by omega),if_neg (by omega),if_neg (by omega),if_pos (by omega),hnx,hrv]
 rw[hF]
 have l2i:load1 m0 ⟨m.n,2,none⟩=some (iv i.rn):=I hx0 2
 have itrn:=jo P 34 hrn2
 rw[<-hrn]at itrn
 have ltrn:load1 m0 ⟨P,34+rn,none⟩=some (s.t rn):=by rw[hx0.ld,fu s hrn2]
 have n1:(i.op=18)=False:=eq_false (by omega)
 have n2:(i.op=19)=False:=eq_false (by omega)
 have n3:(i.op=20)=False:=eq_false (by omega)
 have n4:(i.op=21)=False:=eq_false (by omega)
 have n5:(i.op=16)=False:=eq_false (by omega)
 have n6:(i.op=17)=False:=eq_false (by omega)
 have n7:(i.op=1)=False:=eq_false (by omega)
 have n8:(i.op=2)=False:=eq_false (by omega)
 have n9:(i.op=28)=False:=eq_false (by omega)
 have n10:(i.op=29)=False:=eq_false (by omega)
 have n11:(i.op=32)=False:=eq_false (by omega)
 have d12:(i.op<12)=True:=eq_true (by omega)
 have l3i:load1 m0 ⟨m.n,3,none⟩=some (iv i.rm):=I hx0 3
 have itrm:=jo P 34 hrm2
 rw[<-hrm]at itrm
 have ltrm:load1 m0 ⟨P,34+rm,none⟩=some (s.t rm):=by rw[hx0.ld,fu s hrm2]
 obtain⟨v2,m2,a1,a0,a2,hx2,tv2⟩:=hx0.uniAny (n+1) (hx0.tvT hrn2) (hx0.hp.t rm hrm2) (by have:=hb.t rn;have:=hb.t rm;omega)
 obtain⟨M2,hM2⟩:=qdi (Dx.behind m0 m2)
 rw[<-hM2]at hx2 tv2
 have k1:load1 M2 ⟨m.n,1,none⟩=some (iv i.rd):=I hx2 1
 have k6:loads M2 ⟨m.n,0,none⟩ 6=some (ql i):=(hx2.ow.get 0 rfl).2.2.loads (o:=0) (n:=6) (by simp[ql])
 obtain⟨v3,m3,b1,b0,b2,rfl⟩:=qn (Jp (n+29) (qF M2) hx2.matAny hi ⟨by omega,by omega⟩ (by rw[hsv];exact hb.v))
 rw[hsv,ern,erm,<-hrv]at b1
 obtain⟨M3,hM3⟩:=qdi (Dx.behind M2 m3)
 rw[<-hM3]at b2
 have hx3:=hx2.ext b2
 have tv3:=tv2.ext hx2.mb b2
 obtain⟨v5,m5,d1,hx5⟩:=hx3.regAny (n+29) hrd2 rv tv3
 rw[<-hrd]at d1
 simp[hbx,l1,l0,l4,<-hnx,<-hjp,n1,n2,n3,n4,n5,n6,n7,n8,n9,n10,n11,d12,l2i,itrn,ltrn,a1,a0,<-hM2,l3i,itrm,ltrm,k1,qe,k6,b1,b0,<-hM3,d1]
 exact wH ⟨by simp,_,_,hx5.res⟩
set_option maxHeartbeats 1000000 in
theorem do_I (n:Nat) {m:M} {P:Nat} {s:Mch} {g:Gh} {S:PM} (h:ML m P s g S) (hb:InB S) {i:Ins} (hi:InsX i) (hop:12<=i.op/\i.op<=15):DoR n m P s g S i:=by
 suffices H:∃v m',(ex Tryz.prog (n+31)).f 31 [mP P,.agg ⟨ql i⟩] m=some (v,m')/\v=iv (doF S i).2/\∃s' g',Res m m' P s g s' g' (doF S i).1 by
  obtain⟨v,m',h1,h2,s',g',h3⟩:=H
  exact⟨v,m',s',g',h1,h3,h2⟩
 refine qA (Q:=fun v m'=>v=iv (doF S i).2/\∃s' g',Res m m' P s g s' g' (doF S i).1) xn (by simp) ?_
 obtain⟨⟨rd,hrd,erd,hrd2⟩,⟨rn,hrn,ern,hrn2⟩,⟨rm,hrm,erm,hrm2⟩⟩:=regs hi
 obtain⟨cc,hcc,ecc,hcc2⟩:=cnd hi
 have hx0:=h.mx.row (ql i)
 obtain⟨m0,hm0⟩:=qdi (Dx.newRow m (ql i))
 have hbx:kC (.agg ⟨ql i⟩) m=some (.pointer (some ⟨m.n,0,none⟩),m0):=by rw[hm0];rfl
 rw[<-hm0]at hx0
 have hsv:s.v=S.sc.v:=by rw[<-h.sc];rfl
 have hsat:s.at_=S.sc.at_:=by rw[<-h.sc];rfl
 have l1:load1 m0 ⟨P,1,none⟩=some (iv S.sc.at_):=by rw[<-hsat];exact hx0.ld 1
 have I:∀{mq:M} {sq:Mch} {gq:Gh} {Sq:PM} (hq:MX m mq (own P s) (Sh s g) P [(m.n,ql i)] sq gq Sq) (o:Nat),load1 mq ⟨m.n,o,none⟩=(ql i)[o]?:=fun hq o=>(hq.ow.get 0 rfl).2.2.load1 o none
 have l0:load1 m0 ⟨m.n,0,none⟩=some (iv i.op):=I hx0 0
 have l4:load1 m0 ⟨m.n,4,none⟩=some (iv i.imm):=I hx0 4
 obtain⟨nx,hnx⟩:=qdi (IntKind.i64.wrap (S.sc.at_+1))
 obtain⟨jp,hjp⟩:=qdi (IntKind.i64.wrap (S.sc.at_+i.imm))
 obtain⟨op,hopv⟩:∃op:Nat,i.op=(op:Int):=⟨i.op.toNat,by omega⟩
 obtain⟨rv,hrv⟩:=qdi (yf i.op (S.sc.v rn) (S.sc.v rm) i.imm.toNat)
 have hF:doF S i=(setRP S rd rv (S.t rn),nx):=by
  unfold doF
  simp only[erd,ern,erm]
  rw[if_neg (by omega),if_neg (by omega),if_neg (by omega),if_neg (by omega),if_neg (by omega),if_neg (by omega),if_neg (by omega),if_neg (by omega),if_neg (by omega),if_neg (by omega),hnx,hrv]
 rw[hF]
 have l2i:load1 m0 ⟨m.n,2,none⟩=some (iv i.rn):=I hx0 2
 have itrn:=jo P 34 hrn2
 rw[<-hrn]at itrn
 have ltrn:load1 m0 ⟨P,34+rn,none⟩=some (s.t rn):=by rw[hx0.ld,fu s hrn2]
 have n1:(i.op=18)=False:=eq_false (by omega)
 have n2:(i.op=19)=False:=eq_false (by omega)
 have n3:(i.op=20)=False:=eq_false (by omega)
 have n4:(i.op=21)=False:=eq_false (by omega)
 have n5:(i.op=16)=False:=eq_false (by omega)
 have n6:(i.op=17)=False:=eq_false (by omega)
 have n7:(i.op=1)=False:=eq_false (by omega)
 have n8:(i.op=2)=False:=eq_false (by omega)
 have n9:(i.op=28)=False:=eq_false (by omega)
 have n10:(i.op=29)=False:=eq_false (by omega)
 have n11:(i.op=32)=False:=eq_false (by omega)
 have d12:(i.op<12)=False:=eq_false (by omega)
 have k1:load1 m0 ⟨m.n,1,none⟩=some (iv i.rd):=I hx0 1
 have k6:loads m0 ⟨m.n,0,none⟩ 6=some (ql i):=(hx0.ow.get 0 rfl).2.2.loads (o:=0) (n:=6) (by simp[ql])
 obtain⟨v3,m3,b1,b0,b2,rfl⟩:=qn (Jp (n+29) (qF m0) hx0.matAny hi ⟨by omega,by omega⟩ (by rw[hsv];exact hb.v))
 rw[hsv,ern,erm,<-hrv]at b1
 obtain⟨M3,hM3⟩:=qdi (Dx.behind m0 m3)
 rw[<-hM3]at b2
 have hx3:=hx0.ext b2
 have tv3:=hx3.tvT hrn2
 obtain⟨v5,m5,d1,hx5⟩:=hx3.regAny (n+29) hrd2 rv tv3
 rw[<-hrd]at d1
 simp[hbx,l1,l0,l4,<-hnx,<-hjp,n1,n2,n3,n4,n5,n6,n7,n8,n9,n10,n11,d12,l2i,itrn,ltrn,k1,qe,k6,b1,b0,<-hM3,d1]
 exact wH ⟨by simp,_,_,hx5.res⟩
theorem do_c (n:Nat) {m:M} {P:Nat} {s:Mch} {g:Gh} {S:PM} (h:ML m P s g S) (hb:InB S) {i:Ins} (hi:InsX i) (hop:i.op<=21\/i.op=28\/i.op=29\/i.op=32):DoR n m P s g S i:=by
 have:=hi.ok.op
 by_cases h1:i.op=18;· exact do_B n h hb hi h1
 by_cases h2:i.op=32;· exact do_N n h hb hi h2
 by_cases h3:i.op=19;· exact do_C n h hb hi h3
 by_cases h4:i.op=20;· exact do_Z n h hb hi h4
 by_cases h5:i.op=21;· exact do_Y n h hb hi h5
 by_cases h6:i.op=16;· exact do_M n h hb hi h6
 by_cases h7:i.op=17;· exact do_S n h hb hi h7
 by_cases h8:i.op=1;· exact do_V n h hb hi h8
 by_cases h9:i.op=2;· exact do_K n h hb hi h9
 by_cases h10:i.op=28\/i.op=29;· exact do_X n h hb hi h10
 by_cases h11:i.op<=11
 ·exact do_R n h hb hi ⟨by omega,h11⟩
 ·exact do_I n h hb hi ⟨by omega,by omega⟩
end Go.Sx
