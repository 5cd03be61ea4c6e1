/- Contracts. -/
import Derived.Test.YtjoapkgigchboaaGreatGe
import Derived.Test.YtjoapkgigchboaaGreatGc
import Derived.Test.YtjoapkgigchboaaGreatGb3
import Derived.Test.YtjoapkgigchboaaGreatGd
import Derived.Laws.BitsAllLaws
set_option linter.unusedVariables false
set_option linter.unusedSimpArgs false
set_option linter.defProp false
set_option maxHeartbeats 2000000
namespace Go.Sx
open Go.Dx Go.Proofs
set_option maxRecDepth 10000
structure Mch where
 l:Value
 at_:Int
 v:Nat->Nat
 t:Nat->Value
 fn:Bool
 fz:Bool
 fc:Bool
 fv:Bool
 ft:Value
 way:Value
 opn:Bool
 loc:Int
 rd:Int
 half:Value
 own:Int
 dn:Int
 ev:Value
 rmw:Value
 addr:Value
 data:Value
 ctrl:Value
 outs:Value
 st:Int
 lc:Int
 us:Int
 limit:Int
def qbc (s:Mch):List Value:=[.bool s.fn,.bool s.fz,.bool s.fc,.bool s.fv,s.ft,s.way,.bool s.opn,iv s.loc,iv s.rd,s.half,iv s.own,iv s.dn,s.ev,s.rmw,s.addr,s.data,s.ctrl,s.outs,iv s.st,iv s.lc,iv s.us,iv s.limit]
def qX (s:Mch):List Value:=[s.l,iv s.at_]++(List.range 32).map (λk=>uv (s.v k))++(List.range 32).map s.t++qbc s
theorem kA (s:Mch):(qX s).length=88:=rfl
theorem yX (s:Mch){k:Nat}(h:k<32):(qX s)[2+k]?=some (uv (s.v k)):=by
 unfold qX
 rw[qgy,qgy,qgt (by simp),qgs (by simp;omega)]
 simp[h]
theorem gh (s:Mch){k:Nat}(h:k<32):(qX s)[34+k]?=some (s.t k):=by
 unfold qX
 rw[qgy,qgy,qgt (by simp;omega),qgt (by simp;omega),qgs (by simp;omega)]
 simp[show 34+k-2-32=k by omega,h]
structure MAt (m:M)(P:Nat)(s:Mch):Prop where
 arr:Arr m P (qX s)
 lt:P<m.n
theorem MAt.ext {m m':M}{P:Nat}{s:Mch}(h:MAt m P s)(e:Ext m m'):MAt m' P s:=⟨h.arr.congr (e.obj _ h.lt),qgi h.lt e.n⟩
theorem MAt.sees {m m':M}{P:Nat}{s:Mch}(h:MAt m P s)(e:Sees m m'):MAt m' P s:=⟨h.arr.congr (e.obj _ h.lt),qgi h.lt e.n⟩
theorem MAt.any {m:M}{P:Nat}{s:Mch}(h:MAt m P s):MAt (qg m) P s:=⟨h.arr.congr (qw m P),by rw[qq];exact h.lt⟩
theorem MAt.l1 {m:M}{P:Nat}{s:Mch}(h:MAt m P s)(o:Nat):load1 m ⟨P,o,none⟩=(qX s)[o]?:=h.arr.load1 o none
abbrev mP (P:Nat):Value:=.pointer (some ⟨P,0,none⟩)
structure Wnt where
 what:Int
 loc:Int
 mode:Int
 val:Nat
 ex:Bool
 one:Bool
def qy (w:Wnt):List Value:=[iv w.what,iv w.loc,iv w.mode,uv w.val,.bool w.ex,.bool w.one]
theorem vp (w:Wnt):∀v∈qy w,okC v=true:=by simp[qy,okC]
def Yv:Wnt:=⟨0,0,0,0,false,false⟩
abbrev z6w:List Value:=[zI,zI,zI,zU,.bool false,.bool false]
def zl (what:Int):Wnt:=⟨what,0,0,0,false,false⟩
def ku (evn:Nat)(w:Wnt):Wnt:=if 256<=evn+(if w.one then 1 else 0) then zl 6 else w
theorem room_c (n:Nat){m:M}(hm:m.base<=m.n){P:Nat}{s:Mch}(h:MAt m P s){evn:Nat}(he:jW s.ev=some (iv evn))(hn:evn<=100000)(w:Wnt):CallV (ex Tryz.prog (n+1)) 49 [mP P,.agg ⟨qy w⟩] m (.agg ⟨qy (ku evn w)⟩):=by
 refine qj dd6_ok (by simp) ?_
 have st2:=((St.nil hm (Ext.refl m)).row (qy w)).row z6w
 obtain⟨m0,hm0⟩:=qh2 (Dx.newRow m (qy w))
 have hb:jv (.agg ⟨qy w⟩) m=some (.pointer (some ⟨m.n,0,none⟩),m0):=by rw[hm0];rfl
 have hn0:m0.n=m.n+1:=by rw[hm0,qQ]
 rw[<-hm0]at st2
 obtain⟨m1,hm1⟩:=qh2 (Dx.newRow m0 z6w)
 have hm1':Dx.newRow m0 [zI,zI,zI,zU,.bool false,.bool false]=m1:=hm1.symm
 rw[<-hm1]at st2
 have h1:=h.ext st2.ext
 have l78:load1 m1 ⟨P,78,none⟩=some s.ev:=h1.l1 78
 have l5:load1 m1 ⟨m.n,5,none⟩=some (.bool w.one):=(st2.get 1 rfl).2.2.load1 5 none
 have lw:loads m1 ⟨m.n,0,none⟩ 6=some (qy w):=(st2.get 1 rfl).2.2.loads (o:=0) (n:=6) (by simp[qy])
 have w1:IntKind.i64.wrap ((evn:Int)+1)=((evn+1:Nat):Int):=by rw[wrap64 _ (by omega) (by omega)];omega
 have bu:wN [zI,zI,zI,zU,.bool false,.bool false] [(0,1,.int .i64 6)]=some (.agg ⟨qy (zl 6)⟩):=rfl
 have fin:∀x:Wnt,∃m2,qB 6 (.pointer (some ⟨m0.n,0,none⟩)) (.agg ⟨qy x⟩) m1=some (undef,m2)/\Ext m m2/\loads m2 ⟨m0.n,0,none⟩ 6=some (qy x):=λx=>by
  obtain⟨m2,s1,st3,_,_⟩:=st2.fill 0 rfl (n:=6) (l':=qy x) rfl rfl (vp x)
  exact⟨m2,s1,st3.ext,(st3.get 0 rfl).2.2.loads (o:=0) (n:=6) (by simp[qy])⟩
 obtain⟨ma,a1,a2,a3⟩:=fin (zl 6)
 obtain⟨mb,b1,b2,b3⟩:=fin w
 cases ho:w.one with
 | true =>
  rw[ho]at l5
  by_cases hq:256<=evn+1
  .have hd:((256:Int)<=((evn+1:Nat):Int))=True:=eq_true (by omega)
   obtain⟨q,hqq⟩:∃q:Nat,q=evn+1:=⟨_,rfl⟩
   rw[<-hqq]at w1 hd
   simp[hb,hm1',l78,he,l5,w1,hd,bu,a1]
   exact kH (a:=⟨m0.n,0,none⟩) (by simp) a3 a2 (by simp[ku,ho,hq])
  .have hd:((256:Int)<=((evn+1:Nat):Int))=False:=eq_false (by omega)
   obtain⟨q,hqq⟩:∃q:Nat,q=evn+1:=⟨_,rfl⟩
   rw[<-hqq]at w1 hd
   simp[hb,hm1',l78,he,l5,w1,hd,qd,lw,b1]
   exact kH (a:=⟨m0.n,0,none⟩) (by simp) b3 b2 (by simp[ku,ho,hq])
 | false =>
  rw[ho]at l5
  by_cases hq:256<=evn
  .have hd:((256:Int)<=(evn:Int))=True:=eq_true (by omega)
   simp[hb,hm1',l78,he,l5,hd,bu,a1]
   exact kH (a:=⟨m0.n,0,none⟩) (by simp) a3 a2 (by simp[ku,ho,hq])
  .have hd:((256:Int)<=(evn:Int))=False:=eq_false (by omega)
   simp[hb,hm1',l78,he,l5,hd,qd,lw,b1]
   exact kH (a:=⟨m0.n,0,none⟩) (by simp) b3 b2 (by simp[ku,ho,hq])
end Go.Sx
namespace Go.Sx
open Go.Dx Go.Proofs
set_option maxRecDepth 10000
structure Yy (i:Ins):Prop where
 op:1<=i.op/\i.op<=47
 rd:∃k:Nat,i.rd=(k:Int)/\k<32
 rn:∃k:Nat,i.rn=(k:Int)/\k<32
 rm:∃k:Nat,i.rm=(k:Int)/\k<32
theorem jB (B o:Nat){k:Nat}(h:k<32):zi 32 1 (.pointer (some ⟨B,o,none⟩)) (iv k)=some (.pointer (some ⟨B,o+k,none⟩)):=by
 have h1:vo (iv k)=some k:=rfl
 have h2:Nat.blt k 32=true:=by rw[<-Nat.blt_eq]at h;exact h
 unfold zi
 rw[h1,qN,yg,qN,h2,cond_true,Nat.mul_one]
 show some (Value.pointer (some ⟨B,o+k,none⟩))=_
 rfl
def bc (s:Mch)(i:Ins):Int:=IntKind.u64.wrap (IntKind.u64.wrap ((s.v i.rn.toNat:Int)+IntKind.u64.wrap i.imm)-65536)
def cellL (s:Mch)(i:Ins):Int:=IntKind.i64.wrap (IntKind.u64.wrap ((bc s i).tdiv 8))
def zP (s:Mch)(i:Ins):Bool:=decide ((bc s i).tmod 8=0)&&decide (IntKind.u64.wrap ((bc s i).tdiv 8)<4096)
theorem cell_c (n:Nat){m:M}(hm:m.base<=m.n){P:Nat}{s:Mch}(h:MAt m P s){i:Ins}(hi:Yy i):CallV (ex Tryz.prog (n+1)) 50 [mP P,.agg ⟨qv i⟩] m (.tuple #[iv (cellL s i),.bool (zP s i)]):=by
 refine qj dd7_ok (by simp) ?_
 have st1:=(St.nil hm (Ext.refl m)).row (qv i)
 obtain⟨m0,hm0⟩:=qh2 (Dx.newRow m (qv i))
 have hb:jv (.agg ⟨qv i⟩) m=some (.pointer (some ⟨m.n,0,none⟩),m0):=by rw[hm0];rfl
 rw[<-hm0]at st1
 have h1:=h.ext st1.ext
 obtain⟨k,hk,hk2⟩:=hi.rn
 have l2:load1 m0 ⟨m.n,2,none⟩=some (iv i.rn):=(st1.get 0 rfl).2.2.load1 2 none
 have l4:load1 m0 ⟨m.n,4,none⟩=some (iv i.imm):=(st1.get 0 rfl).2.2.load1 4 none
 have ia:=jB P 2 hk2
 rw[<-hk]at ia
 have lv:load1 m0 ⟨P,2+k,none⟩=some (uv (s.v k)):=by rw[h1.l1,yX s hk2]
 have hkn:i.rn.toNat=k:=by rw[hk];rfl
 obtain⟨a,ha⟩:=qh2 (bc s i)
 have ha':IntKind.u64.wrap (IntKind.u64.wrap ((s.v k:Int)+IntKind.u64.wrap i.imm)-65536)=a:=by rw[ha];unfold bc;rw[hkn]
 have hq:=gu .u64 a 8 (by decide)
 have hr:=jK .u64 a 8 (by decide)
 obtain⟨b,hbq⟩:=qh2 (IntKind.u64.wrap (a.tdiv 8))
 rw[<-hbq]at hq
 have e1:cellL s i=IntKind.i64.wrap b:=by unfold cellL;rw[<-ha,hbq]
 have e2:zP s i=(decide (a.tmod 8=0)&&decide (b<4096)):=by unfold zP;rw[<-ha,hbq]
 rw[e1,e2]
 by_cases h0:a.tmod 8=0
 .simp[hb,l2,ia,lv,l4,wV,ha',hq,hr,h0]
  exact jc st1.ext (by simp)
 .simp[hb,l2,ia,lv,l4,wV,ha',hq,hr,h0]
  exact jc st1.ext (by simp)
def jz (i:Ins)(w:Wnt):Wnt:=⟨w.what,w.loc,if i.op=35 then 16 else if (IntKind.i64.wrap (i.op-36)).tmod 2=1 then 12 else w.mode,w.val,w.ex,decide (36<=i.op)⟩
theorem qdg (n:Nat){m:M}(hm:m.base<=m.n)(i:Ins)(w:Wnt):CallV (ex Tryz.prog (n+1)) 51 [.agg ⟨qv i⟩,.agg ⟨qy w⟩] m (.agg ⟨qy (jz i w)⟩):=by
 refine qj dd8_ok (by simp) ?_
 have st1:=(((St.nil hm (Ext.refl m)).row (qv i)).row (qy w)).row z6w
 obtain⟨m0,hm0⟩:=qh2 (Dx.newRow m (qv i))
 have hb:jv (.agg ⟨qv i⟩) m=some (.pointer (some ⟨m.n,0,none⟩),m0):=by rw[hm0];rfl
 have hn0:m0.n=m.n+1:=by rw[hm0,qQ]
 obtain⟨m1,hm1⟩:=qh2 (Dx.newRow m0 (qy w))
 have hb1:jv (.agg ⟨qy w⟩) m0=some (.pointer (some ⟨m0.n,0,none⟩),m1):=by rw[hm1];rfl
 have hn1:m1.n=m0.n+1:=by rw[hm1,qQ]
 rw[<-hm0,<-hm1]at st1
 obtain⟨m2,hm2⟩:=qh2 (Dx.newRow m1 z6w)
 have hm2':Dx.newRow m1 [zI,zI,zI,zU,.bool false,.bool false]=m2:=hm2.symm
 rw[<-hm2]at st1
 have l0:load1 m2 ⟨m.n,0,none⟩=some (iv i.op):=(st1.get 2 rfl).2.2.load1 0 none
 obtain⟨m3,s1,st3,s2,s3⟩:=st1.store 1 (b:=m0.n) (l:=qy w) rfl (o:=5) (v:=.bool (decide (36<=i.op))) (by simp[qy]) rfl
 have l0':load1 m3 ⟨m.n,0,none⟩=some (iv i.op):=(st3.get 2 rfl).2.2.load1 0 none
 have hr:=jK .i64 (IntKind.i64.wrap (i.op-36)) 2 (by decide)
 have fin:∀(m4:M) (x:Wnt),St m m4 [(m1.n,z6w),(m0.n,qy x),(m.n,qv i)]->loads m4 ⟨m0.n,0,none⟩ 6=some (qy x)/\∃m5,qB 6 (.pointer (some ⟨m1.n,0,none⟩)) (.agg ⟨qy x⟩) m4=some (undef,m5)/\Ext m m5/\loads m5 ⟨m1.n,0,none⟩ 6=some (qy x):=λm4 x st=>by
  obtain⟨m5,a1,a2,a3,a4⟩:=st.fill 0 rfl (n:=6) (l':=qy x) rfl rfl (vp x)
  exact⟨(st.get 1 rfl).2.2.loads (o:=0) (n:=6) (by simp[qy]),m5,a1,a2.ext,(a2.get 0 rfl).2.2.loads (o:=0) (n:=6) (by simp[qy])⟩
 by_cases h35:i.op=35
 .obtain⟨m4,b1,st4,b2,b3⟩:=st3.store 1 (b:=m0.n) rfl (o:=2) (v:=.int .i64 16) (by simp[qy]) rfl
  have hx:jz i w=⟨w.what,w.loc,16,w.val,w.ex,decide (36<=i.op)⟩:=by unfold jz;rw[if_pos h35]
  obtain⟨c1,m5,c2,c3,c4⟩:=fin m4 (jz i w) (by rw[hx];exact st4)
  rw[h35]at s1
  simp at s1
  simp[hb,hb1,hm2',l0,s1,l0',h35,b1,qd,c1,c2]
  exact kH (a:=⟨m1.n,0,none⟩) (by simp) c4 c3 rfl
 .by_cases h2:(IntKind.i64.wrap (i.op-36)).tmod 2=1
  .obtain⟨m4,b1,st4,b2,b3⟩:=st3.store 1 (b:=m0.n) rfl (o:=2) (v:=.int .i64 12) (by simp[qy]) rfl
   have hx:jz i w=⟨w.what,w.loc,12,w.val,w.ex,decide (36<=i.op)⟩:=by unfold jz;rw[if_neg h35,if_pos h2]
   obtain⟨c1,m5,c2,c3,c4⟩:=fin m4 (jz i w) (by rw[hx];exact st4)
   simp[hb,hb1,hm2',l0,s1,l0',h35,hr,h2,b1,qd,c1,c2]
   exact kH (a:=⟨m1.n,0,none⟩) (by simp) c4 c3 rfl
  .have hx:jz i w=⟨w.what,w.loc,w.mode,w.val,w.ex,decide (36<=i.op)⟩:=by unfold jz;rw[if_neg h35,if_neg h2]
   obtain⟨c1,m5,c2,c3,c4⟩:=fin m3 (jz i w) (by rw[hx];exact st3)
   simp[hb,hb1,hm2',l0,s1,l0',h35,hr,h2,qd,c1,c2]
   exact kH (a:=⟨m1.n,0,none⟩) (by simp) c4 c3 rfl
end Go.Sx
namespace Go.Sx
open Go.Dx Go.Proofs
set_option maxRecDepth 10000
def xb (loc:Int):Wnt:=⟨1,loc,11,0,false,false⟩
def jm (s:Mch)(i:Ins):Wnt :=
 ⟨if i.op=23\/i.op=25\/i.op=28\/i.op=29 then 2 else 1,cellL s i,if i.op=24\/i.op=27 then 12 else if i.op=25\/i.op=29 then 13 else 11,if i.op=23\/i.op=25\/i.op=28\/i.op=29 then s.v i.rd.toNat else 0,decide (26<=i.op),false⟩
def wD (s:Mch)(evn:Nat)(i:Ins):Wnt × Bool :=
 if i.op=30 then (ku evn ⟨3,0,14,0,false,false⟩,false)
 else if i.op=31 then (ku evn ⟨3,0,15,0,false,false⟩,false)
 else if i.op=33 then (⟨4,0,0,s.v i.imm.toNat,false,false⟩,false)
 else if i.op=34 then (zl 5,false)
 else if i.op<22\/i.op=32 then (Yv,true)
 else if zP s i=false then (zl 7,false)
 else if 35<=i.op then (ku evn (jz i (xb (cellL s i))),false)
 else if (i.op=28\/i.op=29)/\(s.opn=false\/s.loc≠cellL s i) then (jm s i,true)
 else (ku evn (jm s i),false)
theorem dp (a:Int):wN [zI,zI,zI,zU,.bool false,.bool false] [(0,1,.int .i64 a)]=some (.agg ⟨qy (zl a)⟩):=rfl
theorem YE (a b:Int):wN [zI,zI,zI,zU,.bool false,.bool false] [(0,1,.int .i64 a),(2,1,.int .i64 b)]=some (.agg ⟨qy ⟨a,0,b,0,false,false⟩⟩):=rfl
theorem qdl (a:Int)(v:Nat):wN [zI,zI,zI,zU,.bool false,.bool false] [(0,1,.int .i64 a),(3,1,.int .u64 v)]=some (.agg ⟨qy ⟨a,0,0,v,false,false⟩⟩):=rfl
theorem Xm {a b:Nat}(h:a≠b):Nat.beq a b=false:=by
 cases q:Nat.beq a b with
 | false=>rfl
 | true=>exact absurd (qgq q) h
section
variable {m:M}{P:Nat}{s:Mch}{i:Ins}{evn:Nat}
theorem zg {m':M}{X:Nat}(st:St m m' [(X,z6w),(m.n,qv i)])(x:Wnt):∃m2,qB 6 (.pointer (some ⟨X,0,none⟩)) (.agg ⟨qy x⟩) m'=some (undef,m2)/\St m m2 [(X,qy x),(m.n,qv i)]/\loads m2 ⟨X,0,none⟩ 6=some (qy x):=by
 obtain⟨m2,s1,st2,_,_⟩:=st.fill 0 rfl (n:=6) (l':=qy x) rfl rfl (vp x)
 exact⟨m2,s1,st2,(st2.get 0 rfl).2.2.loads (o:=0) (n:=6) (by simp[qy])⟩
structure WP (m:M)(P:Nat)(s:Mch)(i:Ins)(evn:Nat):Prop where
 hm:m.base<=m.n
 h:MAt m P s
 hi:Yy i
 he:jW s.ev=some (iv evn)
 hn:evn<=100000
abbrev WG (n:Nat)(m:M)(P:Nat)(s:Mch)(i:Ins)(evn:Nat):Prop:=CallV (ex Tryz.prog (n+2)) 29 [mP P,.agg ⟨qv i⟩] m (.tuple #[.agg ⟨qy (wD s evn i).1⟩,.bool (wD s evn i).2])
theorem WP.pre (w:WP m P s i evn):∃m0 m1,jv (.agg ⟨qv i⟩) m=some (.pointer (some ⟨m.n,0,none⟩),m0)/\m0.n=m.n+1/\Dx.newRow m0 [zI,zI,zI,zU,.bool false,.bool false]=m1/\St m m1 [(m0.n,z6w),(m.n,qv i)]/\load1 m1 ⟨m.n,0,none⟩=some (iv i.op)/\loads m1 ⟨m.n,0,none⟩ 6=some (qv i):=by
 have st:=((St.nil w.hm (Ext.refl m)).row (qv i)).row z6w
 have ex':=(st.get 1 rfl).2.2
 exact⟨_,_,rfl,qQ _ _,rfl,st,ex'.load1 0 none,ex'.loads (o:=0) (n:=6) (by simp[qv])⟩
theorem WP.room (w:WP m P s i evn)(n:Nat){mq:M}{σ:List (Nat × List Value)}(st:St m mq σ)(x:Wnt):∃m2,(ex Tryz.prog (n+1)).f 49 [mP P,.agg ⟨qy x⟩] mq=some (.agg ⟨qy (ku evn x)⟩,m2)/\St m m2 σ:=by
 obtain⟨v,m2,a1,a2,rfl⟩:=room_c n st.sees.base (w.h.ext st.ext) w.he w.hn x
 exact⟨m2,a1,st.step a2⟩
theorem WP.cell (w:WP m P s i evn)(n:Nat){mq:M}{σ:List (Nat × List Value)}(st:St m mq σ):∃m2,(ex Tryz.prog (n+1)).f 50 [mP P,.agg ⟨qv i⟩] mq=some (.tuple #[iv (cellL s i),.bool (zP s i)],m2)/\St m m2 σ:=by
 obtain⟨v,m2,a1,a2,rfl⟩:=cell_c n st.sees.base (w.h.ext st.ext) w.hi
 exact⟨m2,a1,st.step a2⟩
theorem WP.tail (w:WP m P s i evn)(n:Nat){B:Nat}{mq:M}{l:List Value}(st:St m mq [(B,l),(m.n,qv i)])(hl:l.length=6){b:Bool}{x:Wnt}(hx:l.set 4 (.bool b)=qy x) :
  ∃m7 m8 m9 mA,qB 1 (.pointer (some ⟨B,4,none⟩)) (.bool b) mq=some (undef,m7)/\load1 m7 ⟨B,4,none⟩=some (.bool x.ex)/\load1 m7 ⟨B,0,none⟩=some (iv x.what)/\loads m7 ⟨B,0,none⟩ 6=some (qy x)/\(ex Tryz.prog (n+1)).f 49 [mP P,.agg ⟨qy x⟩] m7=some (.agg ⟨qy (ku evn x)⟩,m8) /\
   qB 6 (.pointer (some ⟨B,0,none⟩)) (.agg ⟨qy (ku evn x)⟩) m8=some (undef,m9)/\loads m9 ⟨B,0,none⟩ 6=some (qy (ku evn x))/\Ext m m9/\qB 6 (.pointer (some ⟨B,0,none⟩)) (.agg ⟨qy x⟩) m7=some (undef,mA)/\loads mA ⟨B,0,none⟩ 6=some (qy x)/\Ext m mA/\load1 m7 ⟨P,72,none⟩=some (.bool s.opn)/\load1 m7 ⟨P,73,none⟩=some (iv s.loc):=by
 obtain⟨m7,e1,st7,-,-⟩:=st.store 0 (b:=B) rfl (o:=4) (v:=.bool b) (by omega) rfl
 rw[hx]at st7
 have g:=(st7.get 0 rfl).2.2
 obtain⟨m8,f1,st8⟩:=w.room n st7 x
 obtain⟨m9,g1,st9,-,-⟩:=st8.fill 0 rfl (n:=6) (l':=qy (ku evn x)) rfl rfl (vp _)
 obtain⟨mA,x1,stA,-,-⟩:=st7.fill 0 rfl (n:=6) (l':=qy x) rfl rfl (vp _)
 have h7:=w.h.ext st7.ext
 exact⟨m7,m8,m9,mA,e1,g.load1 4 none,g.load1 0 none,g.loads (o:=0) (n:=6) (by simp[qy]),f1,g1,(st9.get 0 rfl).2.2.loads (o:=0) (n:=6) (by simp[qy]),st9.ext,x1,(stA.get 0 rfl).2.2.loads (o:=0) (n:=6) (by simp[qy]),stA.ext,h7.l1 72,h7.l1 73⟩
theorem want_a (n:Nat)(w:WP m P s i evn)(hop:i.op=30):WG n m P s i evn:=by
 refine qj ji (by simp) ?_
 obtain⟨m0,m1,hb,hn0,hm1',st1,l0,li⟩:=w.pre
 obtain⟨m2,a1,st2⟩:=w.room n st1 ⟨3,0,14,0,false,false⟩
 obtain⟨m3,s1,st3,s2⟩:=zg st2 (ku evn ⟨3,0,14,0,false,false⟩)
 have hw:wD s evn i=(ku evn ⟨3,0,14,0,false,false⟩,false):=by unfold wD;simp[hop]
 rw[hop]at l0
 rw[hw]
 simp[hb,hm1',l0,YE,a1,s1]
 exact qT (a:=⟨m0.n,0,none⟩) (by simp) s2 st3.ext (by simp)
theorem want_b (n:Nat)(w:WP m P s i evn)(hop:i.op=31):WG n m P s i evn:=by
 refine qj ji (by simp) ?_
 obtain⟨m0,m1,hb,hn0,hm1',st1,l0,li⟩:=w.pre
 obtain⟨m2,a1,st2⟩:=w.room n st1 ⟨3,0,15,0,false,false⟩
 obtain⟨m3,s1,st3,s2⟩:=zg st2 (ku evn ⟨3,0,15,0,false,false⟩)
 have hw:wD s evn i=(ku evn ⟨3,0,15,0,false,false⟩,false):=by unfold wD;simp[hop]
 rw[hop]at l0
 rw[hw]
 simp[hb,hm1',l0,YE,a1,s1]
 exact qT (a:=⟨m0.n,0,none⟩) (by simp) s2 st3.ext (by simp)
theorem qfx (n:Nat)(w:WP m P s i evn)(hop:i.op=33)(hk:∃k:Nat,i.imm=(k:Int)/\k<32):WG n m P s i evn:=by
 refine qj ji (by simp) ?_
 obtain⟨m0,m1,hb,hn0,hm1',st1,l0,li⟩:=w.pre
 obtain⟨k,hk,hk2⟩:=hk
 have ia:=jB P 2 hk2
 rw[<-hk]at ia
 have l4:load1 m1 ⟨m.n,4,none⟩=some (iv i.imm):=(st1.get 1 rfl).2.2.load1 4 none
 have lv:load1 m1 ⟨P,2+k,none⟩=some (uv (s.v k)):=by rw[(w.h.ext st1.ext).l1,yX s hk2]
 obtain⟨m3,s1,s0,st3,s3,s4⟩:=st1.fillAny 0 rfl (n:=6) (l':=qy ⟨4,0,0,s.v k,false,false⟩) (by omega) rfl rfl (vp _)
 have s2:=(st3.get 0 rfl).2.2.loads (o:=0) (n:=6) (s:=none) (by simp[qy])
 have hw:wD s evn i=(⟨4,0,0,s.v k,false,false⟩,false):=by unfold wD;simp[hop,hk]
 rw[hop]at l0
 rw[hw]
 simp[hb,hm1',l0,l4,ia,lv,qdl,s1,s0]
 exact qT (a:=⟨m0.n,0,none⟩) (by simp) s2 st3.ext (by simp[qy])
theorem want_d (n:Nat)(w:WP m P s i evn)(hop:i.op=34):WG n m P s i evn:=by
 refine qj ji (by simp) ?_
 obtain⟨m0,m1,hb,hn0,hm1',st1,l0,li⟩:=w.pre
 obtain⟨m3,s1,st3,s2⟩:=zg st1 (zl 5)
 have hw:wD s evn i=(zl 5,false):=by unfold wD;simp[hop]
 rw[hop]at l0
 rw[hw]
 simp[hb,hm1',l0,dp,s1]
 exact qT (a:=⟨m0.n,0,none⟩) (by simp) s2 st3.ext (by simp)
theorem want_e (n:Nat)(w:WP m P s i evn)(hop:i.op<22):WG n m P s i evn:=by
 refine qj ji (by simp) ?_
 obtain⟨m0,m1,hb,hn0,hm1',st1,l0,li⟩:=w.pre
 obtain⟨m3,s1,st3,s2⟩:=zg st1 Yv
 have lz:loads m1 ⟨m0.n,0,none⟩ 6=some (qy Yv):=(st1.get 0 rfl).2.2.loads (o:=0) (n:=6) (by simp)
 have hw:wD s evn i=(Yv,true):=by unfold wD;rw[if_neg (by omega),if_neg (by omega),if_neg (by omega),if_neg (by omega),if_pos (by omega)]
 rw[hw]
 have q1:(i.op=30)=False:=eq_false (by omega)
 have q2:(i.op=31)=False:=eq_false (by omega)
 have q3:(i.op=33)=False:=eq_false (by omega)
 have q4:(i.op=34)=False:=eq_false (by omega)
 have q5:(i.op<22)=True:=eq_true (by omega)
 have q6:((29:Int)<i.op)=False:=eq_false (by omega)
 have q7:(i.op<35)=True:=eq_true (by omega)
 simp[hb,hm1',l0,q1,q2,q3,q4,q5,q6,q7,qd,lz,s1]
 exact qT (a:=⟨m0.n,0,none⟩) (by simp) s2 st3.ext (by simp)
theorem want_f (n:Nat)(w:WP m P s i evn)(hop:i.op=32):WG n m P s i evn:=by
 refine qj ji (by simp) ?_
 obtain⟨m0,m1,hb,hn0,hm1',st1,l0,li⟩:=w.pre
 obtain⟨m3,s1,st3,s2⟩:=zg st1 Yv
 have lz:loads m1 ⟨m0.n,0,none⟩ 6=some (qy Yv):=(st1.get 0 rfl).2.2.loads (o:=0) (n:=6) (by simp)
 have hw:wD s evn i=(Yv,true):=by unfold wD;rw[if_neg (by omega),if_neg (by omega),if_neg (by omega),if_neg (by omega),if_pos (by omega)]
 rw[hw]
 have q1:(i.op=30)=False:=eq_false (by omega)
 have q2:(i.op=31)=False:=eq_false (by omega)
 have q3:(i.op=33)=False:=eq_false (by omega)
 have q4:(i.op=34)=False:=eq_false (by omega)
 have q5:(i.op<22)=False:=eq_false (by omega)
 have q6:((29:Int)<i.op)=True:=eq_true (by omega)
 have q7:(i.op<35)=True:=eq_true (by omega)
 simp[hb,hm1',l0,q1,q2,q3,q4,q5,q6,q7,qd,lz,s1]
 exact qT (a:=⟨m0.n,0,none⟩) (by simp) s2 st3.ext (by simp)
theorem want_g (n:Nat)(w:WP m P s i evn)(hop:22<=i.op/\i.op<=29)(hc:zP s i=false):WG n m P s i evn:=by
 refine qj ji (by simp) ?_
 obtain⟨m0,m1,hb,hn0,hm1',st1,l0,li⟩:=w.pre
 obtain⟨m2,a1,st2⟩:=w.cell n st1
 obtain⟨m3,s1,st3,s2⟩:=zg st2 (zl 7)
 have hw:wD s evn i=(zl 7,false):=by unfold wD;rw[if_neg (by omega),if_neg (by omega),if_neg (by omega),if_neg (by omega),if_neg (by omega),if_pos hc]
 rw[hw]
 rw[hc]at a1
 have q1:(i.op=30)=False:=eq_false (by omega)
 have q2:(i.op=31)=False:=eq_false (by omega)
 have q3:(i.op=33)=False:=eq_false (by omega)
 have q4:(i.op=34)=False:=eq_false (by omega)
 have q5:(i.op<22)=False:=eq_false (by omega)
 have q6:((29:Int)<i.op)=False:=eq_false (by omega)
 have q7:(i.op<35)=True:=eq_true (by omega)
 simp[hb,hm1',l0,q1,q2,q3,q4,q5,q6,q7,qd,li,a1,dp,s1]
 exact qT (a:=⟨m0.n,0,none⟩) (by simp) s2 st3.ext (by simp)
theorem want_h (n:Nat)(w:WP m P s i evn)(hop:35<=i.op)(hc:zP s i=false):WG n m P s i evn:=by
 refine qj ji (by simp) ?_
 obtain⟨m0,m1,hb,hn0,hm1',st1,l0,li⟩:=w.pre
 obtain⟨m2,a1,st2⟩:=w.cell n st1
 obtain⟨m3,s1,st3,s2⟩:=zg st2 (zl 7)
 have hw:wD s evn i=(zl 7,false):=by unfold wD;rw[if_neg (by omega),if_neg (by omega),if_neg (by omega),if_neg (by omega),if_neg (by omega),if_pos hc]
 rw[hw]
 rw[hc]at a1
 have q1:(i.op=30)=False:=eq_false (by omega)
 have q2:(i.op=31)=False:=eq_false (by omega)
 have q3:(i.op=33)=False:=eq_false (by omega)
 have q4:(i.op=34)=False:=eq_false (by omega)
 have q5:(i.op<22)=False:=eq_false (by omega)
 have q6:((29:Int)<i.op)=True:=eq_true (by omega)
 have q7:(i.op<35)=False:=eq_false (by omega)
 simp[hb,hm1',l0,q1,q2,q3,q4,q5,q6,q7,qd,li,a1,dp,s1]
 exact qT (a:=⟨m0.n,0,none⟩) (by simp) s2 st3.ext (by simp)
theorem want_k (n:Nat)(w:WP m P s i evn)(hop:35<=i.op)(hc:zP s i=true):WG n m P s i evn:=by
 refine qj ji (by simp) ?_
 obtain⟨m0,m1,hb,hn0,hm1',st1,l0,li⟩:=w.pre
 obtain⟨m2,a1,st2⟩:=w.cell n st1
 obtain⟨m3,s1,st3,s2⟩:=zg st2 (xb (cellL s i))
 have l0':load1 m3 ⟨m.n,0,none⟩=some (iv i.op):=(st3.get 1 rfl).2.2.load1 0 none
 have li':loads m3 ⟨m.n,0,none⟩ 6=some (qv i):=(st3.get 1 rfl).2.2.loads (o:=0) (n:=6) (by simp[qv])
 obtain⟨v4,m4,b1,b2,rfl⟩:=qdg n st3.sees.base i (xb (cellL s i))
 obtain⟨m5,c1,st5⟩:=w.room n (st3.step b2) (jz i (xb (cellL s i)))
 obtain⟨m6,d1,st6,d2,d3⟩:=st5.fill 0 rfl (n:=6) (l':=qy (ku evn (jz i (xb (cellL s i))))) rfl rfl (vp _)
 have d4:=(st6.get 0 rfl).2.2.loads (o:=0) (n:=6) (s:=none) (by simp[qy])
 have hw:wD s evn i=(ku evn (jz i (xb (cellL s i))),false):=by unfold wD;rw[if_neg (by omega),if_neg (by omega),if_neg (by omega),if_neg (by omega),if_neg (by omega),if_neg (by rw[hc];simp),if_pos hop]
 have bu:wN [zI,zI,zI,zU,.bool false,.bool false] [(0,1,.int .i64 1),(1,1,iv (cellL s i)),(2,1,.int .i64 11)]=some (.agg ⟨qy (xb (cellL s i))⟩):=rfl
 have q8:((35:Int)<=i.op)=True:=eq_true hop
 rw[hw]
 rw[hc]at a1
 have q1:(i.op=30)=False:=eq_false (by omega)
 have q2:(i.op=31)=False:=eq_false (by omega)
 have q3:(i.op=33)=False:=eq_false (by omega)
 have q4:(i.op=34)=False:=eq_false (by omega)
 have q5:(i.op<22)=False:=eq_false (by omega)
 have q6:((29:Int)<i.op)=True:=eq_true (by omega)
 have q7:(i.op<35)=False:=eq_false (by omega)
 simp[hb,hm1',l0,q1,q2,q3,q4,q5,q6,q7,q8,qd,li,a1,bu,s1,l0',li',s2,b1,c1,d1]
 exact qT (a:=⟨m0.n,0,none⟩) (by simp) d4 st6.ext (by simp[qy])
end
end Go.Sx
namespace Go.Sx
open Go.Dx Go.Proofs
set_option maxRecDepth 10000
section
variable {m:M}{P:Nat}{s:Mch}{i:Ins}{evn:Nat}
theorem jP (h:22<=i.op/\i.op<=29)(hc:zP s i=true):wD s evn i=if (i.op=28\/i.op=29)/\(s.opn=false\/s.loc≠cellL s i) then (jm s i,true) else (ku evn (jm s i),false):=by
 unfold wD
 rw[if_neg (by omega),if_neg (by omega),if_neg (by omega),if_neg (by omega),if_neg (by omega),if_neg (by rw[hc];simp),if_neg (by omega)]
theorem qfp (n:Nat)(w:WP m P s i evn)(hop:i.op=22)(hc:zP s i=true):WG n m P s i evn:=by
 refine qj ji (by simp) ?_
 obtain⟨m0,m1,hb,hn0,hm1',st1,l0,li⟩:=w.pre
 rw[hop]at l0
 obtain⟨m2,a1,st2⟩:=w.cell n st1
 rw[hc]at a1
 obtain⟨m3,s1,st3,s2⟩:=zg st2 (xb (cellL s i))
 have bu:wN [zI,zI,zI,zU,.bool false,.bool false] [(0,1,.int .i64 1),(1,1,iv (cellL s i)),(2,1,.int .i64 11)]=some (.agg ⟨qy (xb (cellL s i))⟩):=rfl
 have k3:load1 m3 ⟨m.n,0,none⟩=some (.int .i64 22):=by rw[<-hop];exact (st3.get 1 rfl).2.2.load1 0 none
 have hx:jm s i=⟨1,cellL s i,11,0,false,false⟩:=by unfold jm;simp[hop]
 obtain⟨m7,m8,m9,mA,e1,p4,p0,lw,f1,g1,g4,E9,x1,x4,EA,p72,p73⟩:=w.tail n st3 rfl (b:=false) (x:=jm s i) (by rw[hx];rfl)
 have p4:load1 m7 ⟨m0.n,4,none⟩=some (.bool false):=by rw[p4,hx]
 have p0:load1 m7 ⟨m0.n,0,none⟩=some (.int .i64 1):=by rw[p0,hx]
 rw[jP (by omega) hc,if_neg (by omega)]
 simp[hb,hm1',l0,qd,li,a1,bu,s1,k3,e1,p4,p0,lw,f1,g1]
 exact qT (a:=⟨m0.n,0,none⟩) (by simp) g4 E9 (by simp[qy])
theorem qfq (n:Nat)(w:WP m P s i evn)(hop:i.op=23)(hc:zP s i=true):WG n m P s i evn:=by
 refine qj ji (by simp) ?_
 obtain⟨m0,m1,hb,hn0,hm1',st1,l0,li⟩:=w.pre
 rw[hop]at l0
 obtain⟨m2,a1,st2⟩:=w.cell n st1
 rw[hc]at a1
 obtain⟨m3,s1,st3,s2⟩:=zg st2 (xb (cellL s i))
 have bu:wN [zI,zI,zI,zU,.bool false,.bool false] [(0,1,.int .i64 1),(1,1,iv (cellL s i)),(2,1,.int .i64 11)]=some (.agg ⟨qy (xb (cellL s i))⟩):=rfl
 have k3:load1 m3 ⟨m.n,0,none⟩=some (.int .i64 23):=by rw[<-hop];exact (st3.get 1 rfl).2.2.load1 0 none
 obtain⟨k,hk,hk2⟩:=w.hi.rd
 have ia:=jB P 2 hk2
 rw[<-hk]at ia
 have l1:load1 m3 ⟨m.n,1,none⟩=some (iv i.rd):=(st3.get 1 rfl).2.2.load1 1 none
 have lv:load1 m3 ⟨P,2+k,none⟩=some (uv (s.v k)):=by rw[(w.h.ext st3.ext).l1,yX s hk2]
 have hrd:i.rd.toNat=k:=by rw[hk];rfl
 obtain⟨m4,b1,b0,st4,b2,b3⟩:=st3.storeAny 0 (b:=m0.n) (l:=qy (xb (cellL s i))) rfl (o:=0) (v:=.int .i64 2) (by simp[qy]) rfl
 obtain⟨m5,c1,c0,st5,c2,c3⟩:=st4.storeAny 0 (b:=m0.n) rfl (o:=3) (v:=uv (s.v k)) (by simp[qy]) rfl
 have hPlt:=w.h.lt
 have hme:meets [(7,{ rd:=some P,wr:=[] }),(2,{ rd:=some m.n,wr:=[] })] { rd:=none,wr:=[m0.n] } [2,7]=true:=by
  show (!(Nat.beq m.n m0.n||false)&&(!(Nat.beq P m0.n||false)&&true))=true
  rw[Xm (show m.n≠m0.n by omega),Xm (show P≠m0.n by omega)];rfl
 obtain⟨mE,hE⟩:=qh2 (behind (behind m3 m4) m5)
 rw[<-hE]at st5
 have kE:load1 mE ⟨m.n,0,none⟩=some (.int .i64 23):=by rw[<-hop];exact (st5.get 1 rfl).2.2.load1 0 none
 have hx:jm s i=⟨2,cellL s i,11,s.v k,false,false⟩:=by unfold jm;simp[hop,hrd]
 obtain⟨m7,m8,m9,mA,e1,p4,p0,lw,f1,g1,g4,E9,x1,x4,EA,p72,p73⟩:=w.tail n st5 rfl (b:=false) (x:=jm s i) (by rw[hx];rfl)
 have p4:load1 m7 ⟨m0.n,4,none⟩=some (.bool false):=by rw[p4,hx]
 have p0:load1 m7 ⟨m0.n,0,none⟩=some (.int .i64 2):=by rw[p0,hx]
 rw[jP (by omega) hc,if_neg (by omega)]
 simp[hb,hm1',l0,qd,li,a1,bu,s1,k3,l1,ia,lv,b1,b0,c1,c0,-jk,hme,<-hE,kE,e1,p4,p0,lw,f1,g1]
 exact qT (a:=⟨m0.n,0,none⟩) (by simp) g4 E9 (by simp[qy])
theorem qfr (n:Nat)(w:WP m P s i evn)(hop:i.op=24)(hc:zP s i=true):WG n m P s i evn:=by
 refine qj ji (by simp) ?_
 obtain⟨m0,m1,hb,hn0,hm1',st1,l0,li⟩:=w.pre
 rw[hop]at l0
 obtain⟨m2,a1,st2⟩:=w.cell n st1
 rw[hc]at a1
 obtain⟨m3,s1,st3,s2⟩:=zg st2 (xb (cellL s i))
 have bu:wN [zI,zI,zI,zU,.bool false,.bool false] [(0,1,.int .i64 1),(1,1,iv (cellL s i)),(2,1,.int .i64 11)]=some (.agg ⟨qy (xb (cellL s i))⟩):=rfl
 have k3:load1 m3 ⟨m.n,0,none⟩=some (.int .i64 24):=by rw[<-hop];exact (st3.get 1 rfl).2.2.load1 0 none
 obtain⟨m6,d1,st6,d2,d3⟩:=st3.store 0 (b:=m0.n) rfl (o:=2) (v:=.int .i64 12) (by simp[qy]) rfl
 have k6:load1 m6 ⟨m.n,0,none⟩=some (.int .i64 24):=by rw[<-hop];exact (st6.get 1 rfl).2.2.load1 0 none
 have hx:jm s i=⟨1,cellL s i,12,0,false,false⟩:=by unfold jm;simp[hop]
 obtain⟨m7,m8,m9,mA,e1,p4,p0,lw,f1,g1,g4,E9,x1,x4,EA,p72,p73⟩:=w.tail n st6 rfl (b:=false) (x:=jm s i) (by rw[hx];rfl)
 have p4:load1 m7 ⟨m0.n,4,none⟩=some (.bool false):=by rw[p4,hx]
 have p0:load1 m7 ⟨m0.n,0,none⟩=some (.int .i64 1):=by rw[p0,hx]
 rw[jP (by omega) hc,if_neg (by omega)]
 simp[hb,hm1',l0,qd,li,a1,bu,s1,k3,d1,k6,e1,p4,p0,lw,f1,g1]
 exact qT (a:=⟨m0.n,0,none⟩) (by simp) g4 E9 (by simp[qy])
theorem qfs (n:Nat)(w:WP m P s i evn)(hop:i.op=25)(hc:zP s i=true):WG n m P s i evn:=by
 refine qj ji (by simp) ?_
 obtain⟨m0,m1,hb,hn0,hm1',st1,l0,li⟩:=w.pre
 rw[hop]at l0
 obtain⟨m2,a1,st2⟩:=w.cell n st1
 rw[hc]at a1
 obtain⟨m3,s1,st3,s2⟩:=zg st2 (xb (cellL s i))
 have bu:wN [zI,zI,zI,zU,.bool false,.bool false] [(0,1,.int .i64 1),(1,1,iv (cellL s i)),(2,1,.int .i64 11)]=some (.agg ⟨qy (xb (cellL s i))⟩):=rfl
 have k3:load1 m3 ⟨m.n,0,none⟩=some (.int .i64 25):=by rw[<-hop];exact (st3.get 1 rfl).2.2.load1 0 none
 obtain⟨k,hk,hk2⟩:=w.hi.rd
 have ia:=jB P 2 hk2
 rw[<-hk]at ia
 have l1:load1 m3 ⟨m.n,1,none⟩=some (iv i.rd):=(st3.get 1 rfl).2.2.load1 1 none
 have lv:load1 m3 ⟨P,2+k,none⟩=some (uv (s.v k)):=by rw[(w.h.ext st3.ext).l1,yX s hk2]
 have hrd:i.rd.toNat=k:=by rw[hk];rfl
 obtain⟨m4,b1,b0,st4,b2,b3⟩:=st3.storeAny 0 (b:=m0.n) (l:=qy (xb (cellL s i))) rfl (o:=0) (v:=.int .i64 2) (by simp[qy]) rfl
 obtain⟨m5,c1,c0,st5,c2,c3⟩:=st4.storeAny 0 (b:=m0.n) rfl (o:=3) (v:=uv (s.v k)) (by simp[qy]) rfl
 have hPlt:=w.h.lt
 have hme:meets [(7,{ rd:=some P,wr:=[] }),(2,{ rd:=some m.n,wr:=[] })] { rd:=none,wr:=[m0.n] } [2,7]=true:=by
  show (!(Nat.beq m.n m0.n||false)&&(!(Nat.beq P m0.n||false)&&true))=true
  rw[Xm (show m.n≠m0.n by omega),Xm (show P≠m0.n by omega)];rfl
 obtain⟨mE,hE⟩:=qh2 (behind (behind m3 m4) m5)
 rw[<-hE]at st5
 have kE:load1 mE ⟨m.n,0,none⟩=some (.int .i64 25):=by rw[<-hop];exact (st5.get 1 rfl).2.2.load1 0 none
 obtain⟨m6,d1,st6,d2,d3⟩:=st5.store 0 (b:=m0.n) rfl (o:=2) (v:=.int .i64 13) (by simp[qy]) rfl
 have k6:load1 m6 ⟨m.n,0,none⟩=some (.int .i64 25):=by rw[<-hop];exact (st6.get 1 rfl).2.2.load1 0 none
 have hx:jm s i=⟨2,cellL s i,13,s.v k,false,false⟩:=by unfold jm;simp[hop,hrd]
 obtain⟨m7,m8,m9,mA,e1,p4,p0,lw,f1,g1,g4,E9,x1,x4,EA,p72,p73⟩:=w.tail n st6 rfl (b:=false) (x:=jm s i) (by rw[hx];rfl)
 have p4:load1 m7 ⟨m0.n,4,none⟩=some (.bool false):=by rw[p4,hx]
 have p0:load1 m7 ⟨m0.n,0,none⟩=some (.int .i64 2):=by rw[p0,hx]
 rw[jP (by omega) hc,if_neg (by omega)]
 simp[hb,hm1',l0,qd,li,a1,bu,s1,k3,l1,ia,lv,b1,b0,c1,c0,-jk,hme,<-hE,kE,d1,k6,e1,p4,p0,lw,f1,g1]
 exact qT (a:=⟨m0.n,0,none⟩) (by simp) g4 E9 (by simp[qy])
theorem qft (n:Nat)(w:WP m P s i evn)(hop:i.op=26)(hc:zP s i=true):WG n m P s i evn:=by
 refine qj ji (by simp) ?_
 obtain⟨m0,m1,hb,hn0,hm1',st1,l0,li⟩:=w.pre
 rw[hop]at l0
 obtain⟨m2,a1,st2⟩:=w.cell n st1
 rw[hc]at a1
 obtain⟨m3,s1,st3,s2⟩:=zg st2 (xb (cellL s i))
 have bu:wN [zI,zI,zI,zU,.bool false,.bool false] [(0,1,.int .i64 1),(1,1,iv (cellL s i)),(2,1,.int .i64 11)]=some (.agg ⟨qy (xb (cellL s i))⟩):=rfl
 have k3:load1 m3 ⟨m.n,0,none⟩=some (.int .i64 26):=by rw[<-hop];exact (st3.get 1 rfl).2.2.load1 0 none
 have hx:jm s i=⟨1,cellL s i,11,0,true,false⟩:=by unfold jm;simp[hop]
 obtain⟨m7,m8,m9,mA,e1,p4,p0,lw,f1,g1,g4,E9,x1,x4,EA,p72,p73⟩:=w.tail n st3 rfl (b:=true) (x:=jm s i) (by rw[hx];rfl)
 have p4:load1 m7 ⟨m0.n,4,none⟩=some (.bool true):=by rw[p4,hx]
 have p0:load1 m7 ⟨m0.n,0,none⟩=some (.int .i64 1):=by rw[p0,hx]
 rw[jP (by omega) hc,if_neg (by omega)]
 simp[hb,hm1',l0,qd,li,a1,bu,s1,k3,e1,p4,p0,lw,f1,g1]
 exact qT (a:=⟨m0.n,0,none⟩) (by simp) g4 E9 (by simp[qy])
theorem qfu (n:Nat)(w:WP m P s i evn)(hop:i.op=27)(hc:zP s i=true):WG n m P s i evn:=by
 refine qj ji (by simp) ?_
 obtain⟨m0,m1,hb,hn0,hm1',st1,l0,li⟩:=w.pre
 rw[hop]at l0
 obtain⟨m2,a1,st2⟩:=w.cell n st1
 rw[hc]at a1
 obtain⟨m3,s1,st3,s2⟩:=zg st2 (xb (cellL s i))
 have bu:wN [zI,zI,zI,zU,.bool false,.bool false] [(0,1,.int .i64 1),(1,1,iv (cellL s i)),(2,1,.int .i64 11)]=some (.agg ⟨qy (xb (cellL s i))⟩):=rfl
 have k3:load1 m3 ⟨m.n,0,none⟩=some (.int .i64 27):=by rw[<-hop];exact (st3.get 1 rfl).2.2.load1 0 none
 obtain⟨m6,d1,st6,d2,d3⟩:=st3.store 0 (b:=m0.n) rfl (o:=2) (v:=.int .i64 12) (by simp[qy]) rfl
 have k6:load1 m6 ⟨m.n,0,none⟩=some (.int .i64 27):=by rw[<-hop];exact (st6.get 1 rfl).2.2.load1 0 none
 have hx:jm s i=⟨1,cellL s i,12,0,true,false⟩:=by unfold jm;simp[hop]
 obtain⟨m7,m8,m9,mA,e1,p4,p0,lw,f1,g1,g4,E9,x1,x4,EA,p72,p73⟩:=w.tail n st6 rfl (b:=true) (x:=jm s i) (by rw[hx];rfl)
 have p4:load1 m7 ⟨m0.n,4,none⟩=some (.bool true):=by rw[p4,hx]
 have p0:load1 m7 ⟨m0.n,0,none⟩=some (.int .i64 1):=by rw[p0,hx]
 rw[jP (by omega) hc,if_neg (by omega)]
 simp[hb,hm1',l0,qd,li,a1,bu,s1,k3,d1,k6,e1,p4,p0,lw,f1,g1]
 exact qT (a:=⟨m0.n,0,none⟩) (by simp) g4 E9 (by simp[qy])
theorem qfv (n:Nat)(w:WP m P s i evn)(hop:i.op=28)(hc:zP s i=true):WG n m P s i evn:=by
 refine qj ji (by simp) ?_
 obtain⟨m0,m1,hb,hn0,hm1',st1,l0,li⟩:=w.pre
 rw[hop]at l0
 obtain⟨m2,a1,st2⟩:=w.cell n st1
 rw[hc]at a1
 obtain⟨m3,s1,st3,s2⟩:=zg st2 (xb (cellL s i))
 have bu:wN [zI,zI,zI,zU,.bool false,.bool false] [(0,1,.int .i64 1),(1,1,iv (cellL s i)),(2,1,.int .i64 11)]=some (.agg ⟨qy (xb (cellL s i))⟩):=rfl
 have k3:load1 m3 ⟨m.n,0,none⟩=some (.int .i64 28):=by rw[<-hop];exact (st3.get 1 rfl).2.2.load1 0 none
 obtain⟨k,hk,hk2⟩:=w.hi.rd
 have ia:=jB P 2 hk2
 rw[<-hk]at ia
 have l1:load1 m3 ⟨m.n,1,none⟩=some (iv i.rd):=(st3.get 1 rfl).2.2.load1 1 none
 have lv:load1 m3 ⟨P,2+k,none⟩=some (uv (s.v k)):=by rw[(w.h.ext st3.ext).l1,yX s hk2]
 have hrd:i.rd.toNat=k:=by rw[hk];rfl
 obtain⟨m4,b1,b0,st4,b2,b3⟩:=st3.storeAny 0 (b:=m0.n) (l:=qy (xb (cellL s i))) rfl (o:=0) (v:=.int .i64 2) (by simp[qy]) rfl
 obtain⟨m5,c1,c0,st5,c2,c3⟩:=st4.storeAny 0 (b:=m0.n) rfl (o:=3) (v:=uv (s.v k)) (by simp[qy]) rfl
 have hPlt:=w.h.lt
 have hme:meets [(7,{ rd:=some P,wr:=[] }),(2,{ rd:=some m.n,wr:=[] })] { rd:=none,wr:=[m0.n] } [2,7]=true:=by
  show (!(Nat.beq m.n m0.n||false)&&(!(Nat.beq P m0.n||false)&&true))=true
  rw[Xm (show m.n≠m0.n by omega),Xm (show P≠m0.n by omega)];rfl
 obtain⟨mE,hE⟩:=qh2 (behind (behind m3 m4) m5)
 rw[<-hE]at st5
 have kE:load1 mE ⟨m.n,0,none⟩=some (.int .i64 28):=by rw[<-hop];exact (st5.get 1 rfl).2.2.load1 0 none
 have hx:jm s i=⟨2,cellL s i,11,s.v k,true,false⟩:=by unfold jm;simp[hop,hrd]
 obtain⟨m7,m8,m9,mA,e1,p4,p0,lw,f1,g1,g4,E9,x1,x4,EA,p72,p73⟩:=w.tail n st5 rfl (b:=true) (x:=jm s i) (by rw[hx];rfl)
 have p4:load1 m7 ⟨m0.n,4,none⟩=some (.bool true):=by rw[p4,hx]
 have p0:load1 m7 ⟨m0.n,0,none⟩=some (.int .i64 2):=by rw[p0,hx]
 rw[jP (by omega) hc]
 cases ho:s.opn with
 | true =>
  rw[ho]at p72
  by_cases hl:s.loc=cellL s i
  .rw[if_neg (λhh=>by rcases hh.2 with e | e;cases e;exact e hl)]
   simp[hb,hm1',l0,qd,li,a1,bu,s1,k3,l1,ia,lv,b1,b0,c1,c0,-jk,hme,<-hE,kE,e1,p4,p0,lw,f1,g1,p72,p73,hl]
   exact qT (a:=⟨m0.n,0,none⟩) (by simp) g4 E9 (by simp[qy])
  .rw[if_pos ⟨by omega,.inr hl⟩]
   simp[hb,hm1',l0,qd,li,a1,bu,s1,k3,l1,ia,lv,b1,b0,c1,c0,-jk,hme,<-hE,kE,e1,p4,p0,lw,p72,p73,hl,x1]
   exact qT (a:=⟨m0.n,0,none⟩) (by simp) x4 EA (by simp[qy])
 | false =>
  rw[ho]at p72
  rw[if_pos ⟨by omega,.inl rfl⟩]
  simp[hb,hm1',l0,qd,li,a1,bu,s1,k3,l1,ia,lv,b1,b0,c1,c0,-jk,hme,<-hE,kE,e1,p4,p0,lw,p72,p73,x1]
  exact qT (a:=⟨m0.n,0,none⟩) (by simp) x4 EA (by simp[qy])
theorem qfw (n:Nat)(w:WP m P s i evn)(hop:i.op=29)(hc:zP s i=true):WG n m P s i evn:=by
 refine qj ji (by simp) ?_
 obtain⟨m0,m1,hb,hn0,hm1',st1,l0,li⟩:=w.pre
 rw[hop]at l0
 obtain⟨m2,a1,st2⟩:=w.cell n st1
 rw[hc]at a1
 obtain⟨m3,s1,st3,s2⟩:=zg st2 (xb (cellL s i))
 have bu:wN [zI,zI,zI,zU,.bool false,.bool false] [(0,1,.int .i64 1),(1,1,iv (cellL s i)),(2,1,.int .i64 11)]=some (.agg ⟨qy (xb (cellL s i))⟩):=rfl
 have k3:load1 m3 ⟨m.n,0,none⟩=some (.int .i64 29):=by rw[<-hop];exact (st3.get 1 rfl).2.2.load1 0 none
 obtain⟨k,hk,hk2⟩:=w.hi.rd
 have ia:=jB P 2 hk2
 rw[<-hk]at ia
 have l1:load1 m3 ⟨m.n,1,none⟩=some (iv i.rd):=(st3.get 1 rfl).2.2.load1 1 none
 have lv:load1 m3 ⟨P,2+k,none⟩=some (uv (s.v k)):=by rw[(w.h.ext st3.ext).l1,yX s hk2]
 have hrd:i.rd.toNat=k:=by rw[hk];rfl
 obtain⟨m4,b1,b0,st4,b2,b3⟩:=st3.storeAny 0 (b:=m0.n) (l:=qy (xb (cellL s i))) rfl (o:=0) (v:=.int .i64 2) (by simp[qy]) rfl
 obtain⟨m5,c1,c0,st5,c2,c3⟩:=st4.storeAny 0 (b:=m0.n) rfl (o:=3) (v:=uv (s.v k)) (by simp[qy]) rfl
 have hPlt:=w.h.lt
 have hme:meets [(7,{ rd:=some P,wr:=[] }),(2,{ rd:=some m.n,wr:=[] })] { rd:=none,wr:=[m0.n] } [2,7]=true:=by
  show (!(Nat.beq m.n m0.n||false)&&(!(Nat.beq P m0.n||false)&&true))=true
  rw[Xm (show m.n≠m0.n by omega),Xm (show P≠m0.n by omega)];rfl
 obtain⟨mE,hE⟩:=qh2 (behind (behind m3 m4) m5)
 rw[<-hE]at st5
 have kE:load1 mE ⟨m.n,0,none⟩=some (.int .i64 29):=by rw[<-hop];exact (st5.get 1 rfl).2.2.load1 0 none
 obtain⟨m6,d1,st6,d2,d3⟩:=st5.store 0 (b:=m0.n) rfl (o:=2) (v:=.int .i64 13) (by simp[qy]) rfl
 have k6:load1 m6 ⟨m.n,0,none⟩=some (.int .i64 29):=by rw[<-hop];exact (st6.get 1 rfl).2.2.load1 0 none
 have hx:jm s i=⟨2,cellL s i,13,s.v k,true,false⟩:=by unfold jm;simp[hop,hrd]
 obtain⟨m7,m8,m9,mA,e1,p4,p0,lw,f1,g1,g4,E9,x1,x4,EA,p72,p73⟩:=w.tail n st6 rfl (b:=true) (x:=jm s i) (by rw[hx];rfl)
 have p4:load1 m7 ⟨m0.n,4,none⟩=some (.bool true):=by rw[p4,hx]
 have p0:load1 m7 ⟨m0.n,0,none⟩=some (.int .i64 2):=by rw[p0,hx]
 rw[jP (by omega) hc]
 cases ho:s.opn with
 | true =>
  rw[ho]at p72
  by_cases hl:s.loc=cellL s i
  .rw[if_neg (λhh=>by rcases hh.2 with e | e;cases e;exact e hl)]
   simp[hb,hm1',l0,qd,li,a1,bu,s1,k3,l1,ia,lv,b1,b0,c1,c0,-jk,hme,<-hE,kE,d1,k6,e1,p4,p0,lw,f1,g1,p72,p73,hl]
   exact qT (a:=⟨m0.n,0,none⟩) (by simp) g4 E9 (by simp[qy])
  .rw[if_pos ⟨by omega,.inr hl⟩]
   simp[hb,hm1',l0,qd,li,a1,bu,s1,k3,l1,ia,lv,b1,b0,c1,c0,-jk,hme,<-hE,kE,d1,k6,e1,p4,p0,lw,p72,p73,hl,x1]
   exact qT (a:=⟨m0.n,0,none⟩) (by simp) x4 EA (by simp[qy])
 | false =>
  rw[ho]at p72
  rw[if_pos ⟨by omega,.inl rfl⟩]
  simp[hb,hm1',l0,qd,li,a1,bu,s1,k3,l1,ia,lv,b1,b0,c1,c0,-jk,hme,<-hE,kE,d1,k6,e1,p4,p0,lw,p72,p73,x1]
  exact qT (a:=⟨m0.n,0,none⟩) (by simp) x4 EA (by simp[qy])
theorem want_c (n:Nat)(hm:m.base<=m.n)(h:MAt m P s)(hi:Yy i)(h33:i.op=33->∃k:Nat,i.imm=(k:Int)/\k<32)(he:jW s.ev=some (iv evn))(hn:evn<=100000):WG n m P s i evn:=by
 have w:WP m P s i evn:=⟨hm,h,hi,he,hn⟩
 obtain⟨o1,o2⟩:=hi.op
 by_cases c:i.op<22
 .exact want_e n w c
 by_cases c:i.op<=29
 .cases hc:zP s i with
  | false=>exact want_g n w (by omega) hc
  | true =>
   rcases (by omega:i.op=22\/i.op=23\/i.op=24\/i.op=25\/i.op=26\/i.op=27\/i.op=28\/i.op=29) with e | e | e | e | e | e | e | e
   .exact qfp n w e hc
   .exact qfq n w e hc
   .exact qfr n w e hc
   .exact qfs n w e hc
   .exact qft n w e hc
   .exact qfu n w e hc
   .exact qfv n w e hc
   .exact qfw n w e hc
 by_cases c:35<=i.op
 .cases hc:zP s i with
  | false=>exact want_h n w c hc
  | true=>exact want_k n w c hc
 rcases (by omega:i.op=30\/i.op=31\/i.op=32\/i.op=33\/i.op=34) with e | e | e | e | e
 .exact want_a n w e
 .exact want_b n w e
 .exact want_f n w e
 .exact qfx n w e (h33 e)
 .exact want_d n w e
end
end Go.Sx
namespace Go.Sx
open Go.Dx Go.Proofs
set_option maxRecDepth 10000
theorem map_set {α:Type}(f:Nat->α){k n:Nat}(h:k<n)(x:α):((List.range n).map f).set k x=(List.range n).map (upN f k x):=by
 refine List.ext_getElem (by simp) λi h1 h2=>?_
 simp only[List.getElem_set,List.getElem_map,List.getElem_range]
 by_cases e:k=i
 .subst e;rw[if_pos rfl,xa]
 .rw[if_neg e,yE _ _ (Ne.symm e)]
theorem qe6 (s:Mch){k:Nat}(h:k<32)(x:Nat):(qX s).set (2+k) (uv x)=qX { s with v:=upN s.v k x }:=by
 unfold qX
 rw[qgy,qgy,List.set_append_right _ _ (by simp),List.set_append_left _ _ (by simp;omega)]
 simp only[List.length_cons,List.length_nil]
 rw[show 2+k-(0+1+1)=k by omega,map_set _ h]
 have:(List.range 32).map (upN (λk=>uv (s.v k)) k (uv x))=(List.range 32).map λj=>uv (upN s.v k x j):=List.map_congr_left λj _=>by
  unfold upN;split<;>rfl
 rw[this,<-qgy,<-qgy]
 rfl
theorem qe5 (s:Mch){k:Nat}(h:k<32)(x:Value):(qX s).set (34+k) x=qX { s with t:=upN s.t k x }:=by
 unfold qX
 rw[qgy,qgy,List.set_append_right _ _ (by simp;omega),List.set_append_right _ _ (by simp;omega),List.set_append_left _ _ (by simp;omega)]
 simp only[List.length_cons,List.length_nil,List.length_map,List.length_range]
 rw[show 34+k-(0+1+1)-32=k by omega,map_set _ h,<-qgy,<-qgy]
 rfl
def QD (s:Mch)(k:Nat)(x:Nat)(tv:Value):Mch:=if k=31 then s else { s with v:=upN s.v k x,t:=upN s.t k tv }
theorem MAt.ow {m:M}{P:Nat}{s:Mch}(h:MAt m P s)(hm:m.base<=m.n):Ow m m [P] [(P,qX s)] :=
 Ow.start hm (by simp;exact⟨h.lt,h.arr⟩) (by simp)
theorem set_c (n:Nat){m:M}(hm:m.base<=m.n){P:Nat}{s:Mch}(h:MAt m P s){k:Nat}(hk:k<32)(x:Nat)(tv:Value)(ht:okC tv=true) :
  MuC (ex Tryz.prog (n+1)) 37 [.pointer (some ⟨P,2,none⟩),iv k,uv x,tv] m P (λ_ m'=>MAt m' P (QD s k x tv)):=by
 refine qA (Q:=λv m'=>Mc m m' [P]/\MAt m' P (QD s k x tv)) dc4_ok (by simp) ?_
 have ow:=h.ow hm
 by_cases h31:k=31
 .have hd:((k:Int)=31)=True:=eq_true (by omega)
  have hd':(k=31)=True:=eq_true h31
  simp[hd,hd']
  exact zp ⟨Mc.refl,by unfold QD;rw[if_pos h31];exact h⟩
 .have hd:((k:Int)=31)=False:=eq_false (by omega)
  have hd':(k=31)=False:=eq_false h31
  have i1:=jB P 2 hk
  have i2:=jB P 34 hk
  obtain⟨m1,a1,a0,ow1,a2,a3⟩:=ow.storeAny 0 rfl (o:=2+k) (v:=uv x) (by rw[kA];omega) rfl
  rw[qe6 s hk x]at ow1
  obtain⟨m2,b1,b0,ow2,b2,b3⟩:=ow1.storeAny 0 rfl (o:=34+k) (v:=tv) (by rw[kA];omega) ht
  simp[hd,hd',i1,i2,a1,a0,b1,b0]
  refine zp ⟨ow2.mc,?_⟩
  have g:=ow2.get 0 rfl
  unfold QD
  rw[if_neg h31]
  refine⟨?_,g.2.1⟩
  have:=g.2.2
  rwa [qe5 _ hk]at this
end Go.Sx
namespace Go.Sx
open Go.Dx Go.Proofs
set_option maxRecDepth 10000
structure EvR where
 th:Int
 kind:Int
 loc:Int
 val:Nat
 mode:Int
 deriving DecidableEq
def zJ (x:EvR):List Value:=[iv x.th,iv x.kind,iv x.loc,uv x.val,iv x.mode]
abbrev xx (x:Nat):List Value:=[uv x]
def Row (e:Nat):Type:={ l:List Value // l.length=e/\∀v∈l,okC v=true }
def wY {e:Nat}(r:Row e):List Value:=r.1
def evR (x:EvR):Row 5:=⟨zJ x,rfl,by simp[zJ,okC]⟩
def prR (x:Nat × Nat):Row 2:=⟨qf x,rfl,by simp[qf,okC]⟩
def wdR (x:Nat):Row 1:=⟨xx x,rfl,by simp[okC]⟩
def esz:Nat->Nat
 | 0=>5
 | 1=>2 | 2=>2 | 3=>2 | 4=>2
 | _=>1
theorem ZC (F:Nat):0<esz F:=by unfold esz;split<;>omega
structure Hf where
 w:Wnt
 ad:List Nat
 da:List Nat
 rd:Nat
structure PM where
 sc:Mch
 code:List Ins
 t:Nat->List Nat
 ft:List Nat
 way:List Nat
 half:Option Hf
 ev:List EvR
 rmw:List (Nat × Nat)
 addr:List (Nat × Nat)
 data:List (Nat × Nat)
 ctrl:List (Nat × Nat)
 outs:List Nat
def lst (s:Mch):Nat->Value
 | 0=>s.ev
 | 1=>s.rmw
 | 2=>s.addr
 | 3=>s.data
 | 4=>s.ctrl
 | 5=>s.outs
 | _=>kW
def vL (s:Mch)(F:Nat)(v:Value):Mch:=match F with
 | 0=>{ s with ev:=v }
 | 1=>{ s with rmw:=v }
 | 2=>{ s with addr:=v }
 | 3=>{ s with data:=v }
 | 4=>{ s with ctrl:=v }
 | 5=>{ s with outs:=v }
 | _=>s
def rowsOf (S:PM):(F:Nat)->List (Row (esz F))
 | 0=>S.ev.map evR
 | 1=>S.rmw.map prR
 | 2=>S.addr.map prR
 | 3=>S.data.map prR
 | 4=>S.ctrl.map prR
 | 5=>S.outs.map wdR
 | _+6=>[]
theorem six {F:Nat}(h:F<6):F=0\/F=1\/F=2\/F=3\/F=4\/F=5:=by omega
theorem xQ (s:Mch){F:Nat}(h:F<6)(v:Value):lst (vL s F v) F=v:=by rcases six h with rfl | rfl | rfl | rfl | rfl | rfl<;>rfl
theorem zq (s:Mch){F G:Nat}(h:F<6)(hG:G<6)(hne:G≠F)(v:Value):lst (vL s F v) G=lst s G:=by
 rcases six h with rfl | rfl | rfl | rfl | rfl | rfl<;>rcases six hG with rfl | rfl | rfl | rfl | rfl | rfl<;>first | rfl | exact absurd rfl hne
theorem mc_lst (s:Mch){F:Nat}(h:F<6):(qX s)[78+F]?=some (lst s F):=by rcases six h with rfl | rfl | rfl | rfl | rfl | rfl<;>rfl
theorem Ff (s:Mch){F:Nat}(h:F<6)(v:Value):(qX s).set (78+F) v=qX (vL s F v):=by
 rcases six h with rfl | rfl | rfl | rfl | rfl | rfl<;>kernel_rfl
structure Gh where
 H:Option Nat
 av:Value
 dv:Value
def HalfR (m:M)(hv:Value)(g:Gh):Option Hf->Prop
 | none=>hv=.pointer none
 | some h=>∃H,g.H=some H/\hv=mP H/\H<m.n/\Arr m H (qy h.w++[g.av,g.dv,iv h.rd])/\RS m g.av h.ad/\RS m g.dv h.da
def Sh (s:Mch)(g:Gh)(B:Nat):Prop:=blk s.l=some B\/(∃k,k<32/\blk (s.t k)=some B)\/blk s.ft=some B\/blk s.way=some B\/g.H=some B\/blk g.av=some B\/blk g.dv=some B
def Lb (s:Mch)(B:Nat):Prop:=∃F,F<6/\blk (lst s F)=some B
structure Hp (m:M)(P:Nat)(s:Mch)(g:Gh)(S:PM):Prop where
 code:Rd m s.l 6 qv S.code
 t:∀k,k<32->RS m (s.t k) (S.t k)
 ft:RS m s.ft S.ft
 way:RS m s.way S.way
 half:HalfR m s.half g S.half
 ls:∀F,F<6->Gro m (lst s F) (esz F) wY (rowsOf S F)
 dis:∀F G,F<6->G<6->F≠G->∀B,blk (lst s F)=some B->blk (lst s G)≠some B
 lP:∀F,F<6->blk (lst s F)≠some P
 sP:¬Sh s g P
 sL:∀B,Sh s g B->¬Lb s B
 sn:∀B,Sh s g B->B<m.n
def dX (s:Mch):Mch:={ s with l:=kW,t:=λ_=>kW,ft:=kW,way:=kW,half:=.pointer none,ev:=kW,rmw:=kW,addr:=kW,data:=kW,ctrl:=kW,outs:=kW }
def Sc (s:Mch)(S:PM):Prop:=dX s=S.sc
theorem HalfR.congr {m m':M}{hv:Value}{g:Gh}{h:Option Hf}(k:HalfR m hv g h)(hn:m.n<=m'.n)(ho:∀B,g.H=some B\/blk g.av=some B\/blk g.dv=some B->m'.obj B=m.obj B):HalfR m' hv g h:=by
 cases h with
 | none=>exact k
 | some h =>
  obtain⟨H,h1,h2,h3,h4,h5,h6⟩:=k
  exact⟨H,h1,h2,qgi h3 hn,h4.congr (ho H (.inl h1)),h5.congr hn λB hB=>ho B (.inr (.inl hB)),h6.congr hn λB hB=>ho B (.inr (.inr hB))⟩
theorem Hp.congr {m m':M}{P:Nat}{s:Mch}{g:Gh}{S:PM}(h:Hp m P s g S)(hn:m.n<=m'.n)(hs:∀B,Sh s g B->m'.obj B=m.obj B)(hl:∀B,Lb s B->m'.obj B=m.obj B):Hp m' P s g S :=
 ⟨h.code.congr hn λB hB=>hs B (.inl hB),λk hk=>(h.t k hk).congr hn λB hB=>hs B (.inr (.inl ⟨k,hk,hB⟩)),h.ft.congr hn λB hB=>hs B (.inr (.inr (.inl hB))),h.way.congr hn λB hB=>hs B (.inr (.inr (.inr (.inl hB)))),
  h.half.congr hn λB hB=>hs B (.inr (.inr (.inr (.inr hB)))),λF hF=>(h.ls F hF).keep hn λB _ hB=>hl B ⟨F,hF,hB⟩,h.dis,h.lP,h.sP,h.sL,λB hB=>qgi (h.sn B hB) hn⟩
theorem Hp.ln {m:M}{P:Nat}{s:Mch}{g:Gh}{S:PM}(h:Hp m P s g S){B:Nat}(hB:Lb s B):B<m.n:=by
 obtain⟨F,hF,e⟩:=hB
 exact (h.ls F hF).lt B e
theorem Hp.ext {m m':M}{P:Nat}{s:Mch}{g:Gh}{S:PM}(h:Hp m P s g S)(e:Ext m m'):Hp m' P s g S :=
 h.congr e.n (λB hB=>e.obj B (h.sn B hB)) λB hB=>e.obj B (h.ln hB)
structure QS (s s':Mch)(S S':PM):Prop where
 l:s'.l=s.l
 t:s'.t=s.t
 ft:s'.ft=s.ft
 way:s'.way=s.way
 half:s'.half=s.half
 ls:∀F,F<6->lst s' F=lst s F
 code:S'.code=S.code
 tS:S'.t=S.t
 ftS:S'.ft=S.ft
 wayS:S'.way=S.way
 halfS:S'.half=S.half
 lsS:∀F,F<6->rowsOf S' F=rowsOf S F
theorem Hp.same {m:M}{P:Nat}{s s':Mch}{g:Gh}{S S':PM}(h:Hp m P s g S)(k:QS s s' S S'):Hp m P s' g S':=by
 have hsh:∀B,Sh s' g B->Sh s g B:=λB hB=>by unfold Sh at *;rw[k.l,k.t,k.ft,k.way]at hB;exact hB
 have hlb:∀B,Lb s' B->Lb s B:=λB ⟨F,hF,hB⟩=>⟨F,hF,by rw[<-k.ls F hF];exact hB⟩
 exact⟨by rw[k.l,k.code];exact h.code,λq hq=>by rw[k.t,k.tS];exact h.t q hq,by rw[k.ft,k.ftS];exact h.ft,by rw[k.way,k.wayS];exact h.way,by rw[k.half,k.halfS];exact h.half,λF hF=>by rw[k.ls F hF,k.lsS F hF];exact h.ls F hF,
  λF G hF hG hne B hB=>by rw[k.ls G hG];rw[k.ls F hF]at hB;exact h.dis F G hF hG hne B hB,λF hF=>by rw[k.ls F hF];exact h.lP F hF,λhP=>h.sP (hsh P hP),λB hB hL=>h.sL B (hsh B hB) (hlb B hL),λB hB=>h.sn B (hsh B hB)⟩
def own (P:Nat)(s:Mch):List Nat:=P::(List.range 6).flatMap λF=>Qy (lst s F)
theorem wR {P B:Nat}{s:Mch}:B∈own P s ↔ B=P\/Lb s B:=by
 unfold own Lb
 rw[List.mem_cons,List.mem_flatMap]
 constructor
 .rintro (h | ⟨F,hF,h⟩)
  .exact .inl h
  .exact .inr ⟨F,List.mem_range.1 hF,zX.1 h⟩
 .rintro (h | ⟨F,hF,h⟩)
  .exact .inl h
  .exact .inr ⟨F,List.mem_range.2 hF,zX.2 h⟩
structure MX (m0 m:M)(W:List Nat)(Z:Nat->Prop)(P:Nat)(σ:List (Nat × List Value))(s:Mch)(g:Gh)(S:PM):Prop where
 ow:Ow m0 m W (σ++[(P,qX s)])
 hp:Hp m P s g S
 sc:Sc s S
 lW:∀B,Lb s B->B∈W\/m0.n<=B
 shZ:∀B,Sh s g B->Z B\/m0.n<=B
 sig:∀p∈σ,¬Lb s p.1/\¬Sh s g p.1
 PW:P∈W
 Wn:∀B∈W,B<m0.n
end Go.Sx
namespace Go.Dx
theorem Ow.app {m0 m:M}{W:List Nat}{σ:List (Nat × List Value)}{α:Type}{v:Value}{e:Nat}{f:α->List Value}{es:List α}(h:Ow m0 m W σ)(hg:Grown M.empty m v e f es)(he:0<e)(hf:∀x,(f x).length=e)(hok:∀x,∀v∈f x,okC v=true){x:α}{X:Nat}{sp:Option Nat}
  (hx:loads m ⟨X,0,sp⟩ e=some (f x)) {bytes:Nat} (hm:(es.length+1)*bytes<=most) (hn:es.length+1<=4611686018427387904) (hB:∀B,blk v=some B->B∈W\/m0.n<=B) (hσ:∀p∈σ,blk v≠some p.1) :
  ∃v' mq,wZ m e bytes v (.slice (some ⟨X,0,sp⟩) 1 1)=some (v',mq)/\Ow m0 mq W σ/\Grown M.empty mq v' e f (es++[x])/\(∀B,blk v'=some B->m.n<=B)/\m.n<mq.n/\(∀X,X<m.n->blk v≠some X->mq.obj X=m.obj X):=by
 obtain⟨v',mq,h1,h2,h3,h4,h5,h6,h7⟩:=hg.core he hf hok hx (Nat.zero_le _) hm hn
 exact⟨v',mq,h1,h.kill hB (Nat.le_of_lt h3) h4 (h5.imp id λ⟨B,a,_,b⟩=>⟨B,a,b⟩) h6 hσ,h2,h7,h3,h6⟩
end Go.Dx
namespace Go.Sx
open Go.Dx Go.Proofs
set_option maxRecDepth 10000
theorem kJ {e:Nat}(r:Row e):(wY r).length=e:=r.2.1
theorem Ji {e:Nat}(r:Row e):∀v∈wY r,okC v=true:=r.2.2
section
variable {m0 m m':M}{W:List Nat}{Z:Nat->Prop}{P:Nat}{σ:List (Nat × List Value)}{s s':Mch}{g:Gh}{S S':PM}
theorem MX.mb (h:MX m0 m W Z P σ s g S):m.base<=m.n:=h.ow.mb
theorem MX.atP (h:MX m0 m W Z P σ s g S):(σ++[(P,qX s)])[σ.length]?=some (P,qX s):=by rw[qgt (qgg _)];simp
theorem MX.mat (h:MX m0 m W Z P σ s g S):MAt m P s:=⟨(h.ow.get _ h.atP).2.2,(h.ow.get _ h.atP).2.1⟩
theorem MX.ld (h:MX m0 m W Z P σ s g S)(o:Nat):load1 m ⟨P,o,none⟩=(qX s)[o]?:=h.mat.l1 o
theorem MX.lsn (h:MX m0 m W Z P σ s g S){F:Nat}(hF:F<6):load1 m ⟨P,78+F,none⟩=some (lst s F):=by rw[h.ld,mc_lst s hF]
theorem MX.start (hm:m.base<=m.n)(ha:MAt m P s)(hp:Hp m P s g S)(hs:Sc s S):MX m m (own P s) (Sh s g) P [] s g S :=
 ⟨Ow.start hm (by simp;exact⟨wR.2 (.inl rfl),ha.lt,ha.arr⟩) (by simp),hp,hs,λB hB=>.inl (wR.2 (.inr hB)),λB hB=>.inl hB,by simp,wR.2 (.inl rfl),λB hB=>by
  rcases wR.1 hB with rfl | h
  .exact ha.lt
  .exact hp.ln h⟩
theorem MX.row (h:MX m0 m W Z P σ s g S)(l:List Value):MX m0 (Dx.newRow m l) W Z P ((m.n,l)::σ) s g S :=
 ⟨h.ow.row l,h.hp.ext (Ext.row m l),h.sc,h.lW,h.shZ,λp hp=>by
  rcases List.mem_cons.1 hp with rfl | hp
  .exact⟨λhL=>by have:=h.hp.ln hL;simp at this,λhS=>by have:=h.hp.sn _ hS;simp at this⟩
  .exact h.sig p hp,h.PW,h.Wn⟩
theorem MX.ext (h:MX m0 m W Z P σ s g S)(e:Ext m m'):MX m0 m' W Z P σ s g S:=⟨h.ow.step e,h.hp.ext e,h.sc,h.lW,h.shZ,h.sig,h.PW,h.Wn⟩
theorem MX.drop {σ':List (Nat × List Value)}(h:MX m0 m W Z P σ s g S)(hs:∀p∈σ',p∈σ)(hn:((σ'++[(P,qX s)]).map (·.1)).Nodup):MX m0 m W Z P σ' s g S :=
 ⟨h.ow.sub (λp hp=>by
  rcases qh1.1 hp with hp | hp
  .exact List.mem_append_left _ (hs p hp)
  .exact List.mem_append_right _ hp) hn,h.hp,h.sc,h.lW,h.shZ,λp hp=>h.sig p (hs p hp),h.PW,h.Wn⟩
theorem MX.clear (h:MX m0 m W Z P σ s g S):MX m0 m W Z P [] s g S:=h.drop (by simp) (by simp)
theorem MX.turn (h:MX m0 m W Z P σ s g S)(ow:Ow m0 m' W (σ++[(P,qX s')]))(hn:m'.n=m.n)(ho:∀X,X≠P->m'.obj X=m.obj X)(k:QS s s' S S')(hc:Sc s' S'):MX m0 m' W Z P σ s' g S':=by
 have hsh:∀B,Sh s' g B->Sh s g B:=λB hB=>by unfold Sh at *;rw[k.l,k.t,k.ft,k.way]at hB;exact hB
 have hlb:∀B,Lb s' B->Lb s B:=λB ⟨F,hF,hB⟩=>⟨F,hF,by rw[<-k.ls F hF];exact hB⟩
 refine⟨ow,(h.hp.congr (m':=m') (by omega) (λB hB=>ho B (λe=>h.hp.sP (e ▸ hB))) (λB hB=>ho B (λe=>?_))).same k,hc,λB hB=>h.lW B (hlb B hB),λB hB=>h.shZ B (hsh B hB),λp hp=>⟨λhL=>(h.sig p hp).1 (hlb _ hL),λhS=>(h.sig p hp).2 (hsh _ hS)⟩,h.PW,h.Wn⟩
 obtain⟨F,hF,e2⟩:=hB
 exact h.hp.lP F hF (by rw[e2,e])
theorem vm {σ:List (Nat × List Value)}{x y:Nat × List Value}:(σ++[x]).set σ.length y=σ++[y]:=by
 rw[List.set_append_right _ _ (qgg _)];simp
theorem MX.set (h:MX m0 m W Z P σ s g S){o:Nat}{v:Value}(ho:o<88)(hv:okC v=true)(hs':(qX s).set o v=qX s')(k:QS s s' S S')(hc:Sc s' S') :
  ∃m',qB 1 (.pointer (some ⟨P,o,none⟩)) v m=some (undef,m')/\MX m0 m' W Z P σ s' g S'/\m'.n=m.n/\∀X,X≠P->m'.obj X=m.obj X:=by
 obtain⟨m',a,b,c,d⟩:=h.ow.store σ.length h.atP (o:=o) (v:=v) (by rw[kA];exact ho) hv
 rw[hs',vm]at b
 exact⟨m',a,h.turn b c d k hc,c,d⟩
theorem MX.setAny (h:MX m0 m W Z P σ s g S){o:Nat}{v:Value}(ho:o<88)(hv:okC v=true)(hs':(qX s).set o v=qX s')(k:QS s s' S S')(hc:Sc s' S') :
  ∃m',qB 1 (.pointer (some ⟨P,o,none⟩)) v (qg m)=some (undef,m')/\m'.log=[P]/\MX m0 (Dx.behind m m') W Z P σ s' g S'/\(Dx.behind m m').n=m.n/\∀X,X≠P->(Dx.behind m m').obj X=m.obj X:=by
 obtain⟨m',a,a0,b,c,d⟩:=h.ow.storeAny σ.length h.atP (o:=o) (v:=v) (by rw[kA];exact ho) hv
 rw[hs',vm]at b
 exact⟨m',a,a0,h.turn b c d k hc,c,d⟩
structure gQ (S S':PM)(F:Nat)(r:Row (esz F)):Prop where
 sc:S'.sc=S.sc
 code:S'.code=S.code
 t:S'.t=S.t
 ft:S'.ft=S.ft
 way:S'.way=S.way
 half:S'.half=S.half
 new:rowsOf S' F=rowsOf S F++[r]
 ls:∀G,G<6->G≠F->rowsOf S' G=rowsOf S G
theorem Bm (s:Mch)(F:Nat)(v:Value):dX (vL s F v)=dX s:=by
 unfold vL
 split<;>rfl
theorem bY (s:Mch)(F:Nat)(v:Value)(g:Gh)(B:Nat):Sh (vL s F v) g B ↔ Sh s g B:=by
 unfold vL
 split<;>exact Iff.rfl
theorem MX.pushed (h:MX m0 m W Z P σ s g S){F:Nat}(hF:F<6){r:Row (esz F)}(hS:gQ S S' F r){v':Value}{mq:M}(ow:Ow m0 m' W (σ++[(P,qX (vL s F v'))]))(hG:Gro mq v' (esz F) wY (rowsOf S F++[r]))(hv:∀B,blk v'=some B->m.n<=B)(hn:m.n<mq.n)
  (ho:∀X,X<m.n->blk (lst s F)≠some X->mq.obj X=m.obj X) (hn2:m'.n=mq.n) (ho2:∀X,X≠P->m'.obj X=mq.obj X):MX m0 m' W Z P σ (vL s F v') g S':=by
 have hP:=h.mat.lt
 have obj:∀X,X<m.n->X≠P->blk (lst s F)≠some X->m'.obj X=m.obj X:=λX h1 h2 h3=>(ho2 X h2).trans (ho X h1 h3)
 have shO:∀B,Sh s g B->m'.obj B=m.obj B:=λB hB=>obj B (h.hp.sn B hB) (λe=>h.hp.sP (e ▸ hB)) λe=>h.hp.sL B hB ⟨F,hF,e⟩
 have lsO:∀G,G<6->G≠F->∀B,blk (lst s G)=some B->m'.obj B=m.obj B:=λG hG hne B hB=>obj B ((h.hp.ls G hG).lt B hB) (λe=>h.hp.lP G hG (by rw[hB,e])) λe=>h.hp.dis G F hG hF hne B hB e
 have hmn:m.n<=m'.n:=by omega
 have lb:∀B,Lb (vL s F v') B->(Lb s B/\B<m.n/\blk v'≠some B)\/blk v'=some B:=λB ⟨G,hG,hB⟩=>by
  by_cases e:G=F
  .subst e;rw[xQ s hF]at hB;exact .inr hB
  .rw[zq s hF hG e]at hB
   have:=(h.hp.ls G hG).lt B hB
   exact .inl ⟨⟨G,hG,hB⟩,this,λhc=>by have:=hv B hc;omega⟩
 have hG':Gro m' v' (esz F) wY (rowsOf S' F):=by
  rw[hS.new]
  exact hG.keep (by omega) λB hB hbB=>ho2 B (by have:=hv B hbB;omega)
 have cc:∀{q:Mch},q=vL s F v'->q.l=s.l/\q.t=s.t/\q.ft=s.ft/\q.way=s.way/\q.half=s.half:=λ{q} hq=>by
  subst hq;unfold vL;split<;>exact⟨rfl,rfl,rfl,rfl,rfl⟩
 obtain⟨c1,c2,c3,c4,c5⟩:=cc rfl
 refine⟨ow,⟨?_,?_,?_,?_,?_,?_,?_,?_,?_,?_,?_⟩,?_,?_,?_,?_,h.PW,h.Wn⟩
 .rw[c1,hS.code];exact h.hp.code.congr hmn λB hB=>shO B (.inl hB)
 .intro k hk
  rw[c2,hS.t]
  exact (h.hp.t k hk).congr hmn λB hB=>shO B (.inr (.inl ⟨k,hk,hB⟩))
 .rw[c3,hS.ft];exact h.hp.ft.congr hmn λB hB=>shO B (.inr (.inr (.inl hB)))
 .rw[c4,hS.way];exact h.hp.way.congr hmn λB hB=>shO B (.inr (.inr (.inr (.inl hB))))
 .rw[c5,hS.half];exact h.hp.half.congr hmn λB hB=>shO B (.inr (.inr (.inr (.inr hB))))
 .intro G hG
  by_cases e:G=F
  .subst e;rw[xQ s hF];exact hG'
  .rw[zq s hF hG e,hS.ls G hG e]
   exact (h.hp.ls G hG).keep hmn λB _ hB=>lsO G hG e B hB
 .intro G1 G2 h1 h2 hne B hB hc
  by_cases e1:G1=F
  .have e2:G2≠F:=λe=>hne (e1.trans e.symm)
   rw[e1,xQ s hF]at hB
   rw[zq s hF h2 e2]at hc
   have:=hv B hB
   have:=(h.hp.ls G2 h2).lt B hc
   omega
  .rw[zq s hF h1 e1]at hB
   by_cases e2:G2=F
   .rw[e2,xQ s hF]at hc
    have:=hv B hc
    have:=(h.hp.ls G1 h1).lt B hB
    omega
   .rw[zq s hF h2 e2]at hc
    exact h.hp.dis G1 G2 h1 h2 hne B hB hc
 .intro G hG hc
  by_cases e:G=F
  .rw[e,xQ s hF]at hc;have:=hv P hc;omega
  .rw[zq s hF hG e]at hc;exact h.hp.lP G hG hc
 .exact λhc=>h.hp.sP ((bY s F v' g P).1 hc)
 .intro B hB hL
  have hB':=(bY s F v' g B).1 hB
  rcases lb B hL with ⟨h1,_⟩ | h1
  .exact h.hp.sL B hB' h1
  .have:=hv B h1;have:=h.hp.sn B hB';omega
 .intro B hB
  have:=h.hp.sn B ((bY s F v' g B).1 hB)
  omega
 .show dX (vL s F v')=S'.sc
  rw[Bm,hS.sc];exact h.sc
 .intro B hB
  rcases lb B hB with ⟨h1,_⟩ | h1
  .exact h.lW B h1
  .have:=hv B h1;have:=h.ow.mc.n;exact .inr (by omega)
 .exact λB hB=>h.shZ B ((bY s F v' g B).1 hB)
 .intro p hp
  have hpn:=(h.ow.arr p (List.mem_append_left _ hp)).2.1
  refine⟨λhL=>?_,λhSh=>(h.sig p hp).2 ((bY s F v' g p.1).1 hSh)⟩
  rcases lb _ hL with ⟨h1,_⟩ | h1
  .exact (h.sig p hp).1 h1
  .have:=hv _ h1;omega
theorem MX.hW (h:MX m0 m W Z P σ s g S){F:Nat}(hF:F<6):(∀B,blk (lst s F)=some B->B∈W\/m0.n<=B)/\∀p∈σ++[(P,qX s)],blk (lst s F)≠some p.1 :=
 ⟨λB hB=>h.lW B ⟨F,hF,hB⟩,λp hp hc=>by
  rcases qh1.1 hp with hp | hp
  .exact (h.sig p hp).1 ⟨F,hF,hc⟩
  .rw[qgk.1 hp]at hc;exact h.hp.lP F hF hc⟩
theorem MX.push (h:MX m0 m W Z P σ s g S){F:Nat}(hF:F<6){r:Row (esz F)}(hS:gQ S S' F r){X:Nat}{sp:Option Nat}(hx:loads m ⟨X,0,sp⟩ (esz F)=some (wY r)){bytes:Nat}(hm:((rowsOf S F).length+1)*bytes<=most)(hn:(rowsOf S F).length+1<=4611686018427387904) :
  ∃v' mq m5,wZ m (esz F) bytes (lst s F) (.slice (some ⟨X,0,sp⟩) 1 1)=some (v',mq)/\qB 1 (.pointer (some ⟨P,78+F,none⟩)) v' mq=some (undef,m5)/\MX m0 m5 W Z P σ (vL s F v') g S':=by
 obtain⟨v',mq,a1,a2,a3,a4,a5,a6⟩:=h.ow.app (h.hp.ls F hF) (ZC F) kJ Ji hx hm hn (h.hW hF).1 (h.hW hF).2
 obtain⟨m5,b1,b2,b3,b4⟩:=a2.store σ.length h.atP (o:=78+F) (v:=v') (by rw[kA];omega) (Grown.okC a3)
 rw[Ff s hF,vm]at b2
 exact⟨v',mq,m5,a1,b1,h.pushed hF hS b2 a3 a4 a5 a6 b3 b4⟩
theorem MX.pushAny (h:MX m0 m W Z P σ s g S){F:Nat}(hF:F<6){r:Row (esz F)}(hS:gQ S S' F r){X:Nat}{sp:Option Nat}(hx:loads m ⟨X,0,sp⟩ (esz F)=some (wY r)){bytes:Nat}(hm:((rowsOf S F).length+1)*bytes<=most)(hn:(rowsOf S F).length+1<=4611686018427387904) :
  ∃v' mq m5,wZ (qg m) (esz F) bytes (lst s F) (.slice (some ⟨X,0,sp⟩) 1 1)=some (v',mq)/\qB 1 (.pointer (some ⟨P,78+F,none⟩)) v' (qg (Dx.behind m mq))=some (undef,m5)/\m5.log=[P]/\MX m0 (Dx.behind (Dx.behind m mq) m5) W Z P σ (vL s F v') g S':=by
 obtain⟨v',mq,a1,a2,a3,a4,a5,a6⟩:=h.ow.appAny (h.hp.ls F hF) (ZC F) kJ Ji hx hm hn (h.hW hF).1 (h.hW hF).2
 obtain⟨m5,b1,b0,b2,b3,b4⟩:=a2.storeAny σ.length h.atP (o:=78+F) (v:=v') (by rw[kA];omega) (Grown.okC a3)
 rw[Ff s hF,vm]at b2
 exact⟨v',mq,m5,a1,b1,b0,h.pushed hF hS b2 a3 a4 a5 a6 b3 b4⟩
structure Res (m m':M)(P:Nat)(s:Mch)(g:Gh)(s':Mch)(g':Gh)(S':PM):Prop where
 mc:Mc m m' (own P s)
 mat:MAt m' P s'
 hp:Hp m' P s' g' S'
 sc:Sc s' S'
 lb:∀B,Lb s' B->Lb s B\/m.n<=B
 sh:∀B,Sh s' g' B->Sh s g B\/m.n<=B
theorem MX.res {g':Gh}(h:MX m m' (own P s) (Sh s g) P σ s' g' S'):Res m m' P s g s' g' S' :=
 ⟨h.ow.mc,h.mat,h.hp,h.sc,λB hB=>by
  rcases h.lW B hB with h1 | h1
  .rcases wR.1 h1 with rfl | h2
   .obtain⟨F,hF,e⟩:=hB
    exact absurd e (h.hp.lP F hF)
   .exact .inl h2
  .exact .inr h1,h.shZ⟩
theorem MX.call {g':Gh}(h:MX m0 m W Z P σ s g S)(k:Res m m' P s g s' g' S'):MX m0 m' W Z P σ s' g' S':=by
 have hmn:=h.ow.mc.n
 have hP:=h.mat.lt
 have hlt:∀p∈σ,p.1<m.n/\p.1≠P:=λp hp=>by
  have hn:=h.ow.nd
  rw[List.map_append,List.nodup_append]at hn
  exact⟨(h.ow.arr p (List.mem_append_left _ hp)).2.1,hn.2.2 _ (List.mem_map.2 ⟨p,hp,rfl⟩) P (by simp)⟩
 have hin:∀B∈own P s,B∈W\/m0.n<=B:=λB hB=>by
  rcases wR.1 hB with rfl | h1
  .exact .inl h.PW
  .exact h.lW B h1
 refine⟨⟨h.ow.mc.tr2 k.mc hin h.ow.base,h.ow.base,λp hp=>?_,?_⟩,k.hp,k.sc,λB hB=>?_,λB hB=>?_,λp hp=>⟨λhL=>?_,λhS=>?_⟩,h.PW,h.Wn⟩
 .rcases qh1.1 hp with hp | hp
  .obtain⟨h1,h2,h3⟩:=h.ow.arr p (List.mem_append_left _ hp)
   refine⟨h1,qgi h2 k.mc.n,h3.congr (k.mc.obj _ h2 λhc=>?_)⟩
   rcases wR.1 hc with e | e
   .exact (hlt p hp).2 e
   .exact (h.sig p hp).1 e
  .rw[qgk.1 hp]
   exact⟨.inl h.PW,k.mat.lt,k.mat.arr⟩
 .have hn:=h.ow.nd
  rw[List.map_append]at hn ⊢
  exact hn
 .rcases k.lb B hB with h1 | h1
  .exact h.lW B h1
  .exact .inr (by omega)
 .rcases k.sh B hB with h1 | h1
  .exact h.shZ B h1
  .exact .inr (by omega)
 .have:=(hlt p hp).1
  rcases k.lb _ hL with h1 | h1
  .exact (h.sig p hp).1 h1
  .omega
 .have:=(hlt p hp).1
  rcases k.sh _ hS with h1 | h1
  .exact (h.sig p hp).2 h1
  .omega
theorem Res.behind {g':Gh}(k:Res (qg m) m' P s g s' g' S'):Res m (Dx.behind m m') P s g s' g' S' :=
 ⟨k.mc.behind,⟨k.mat.arr.congr (qz _ _ _),by rw[wg];exact k.mat.lt⟩,k.hp.congr (by rw[wg];exact qgg _) (λB _=>qz _ _ _) (λB _=>qz _ _ _),k.sc,λB hB=>by have:=k.lb B hB;rwa [qq]at this,λB hB=>by have:=k.sh B hB;rwa [qq]at this⟩
theorem MX.callAny {g':Gh}(h:MX m0 m W Z P σ s g S)(k:Res (qg m) m' P s g s' g' S'):MX m0 (Dx.behind m m') W Z P σ s' g' S':=h.call k.behind
theorem MX.hpAny (h:MX m0 m W Z P σ s g S):Hp (qg m) P s g S:=h.hp.congr (by rw[qq];exact qgg _) (λB _=>qw _ _) (λB _=>qw _ _)
theorem MX.matAny (h:MX m0 m W Z P σ s g S):MAt (qg m) P s:=h.mat.any
theorem MX.callP (h:MX m0 m W Z P σ s g S)(k:Mc m m' [P])(ha:MAt m' P s')(hs:QS s s' S S')(hc:Sc s' S'):MX m0 m' W Z P σ s' g S':=by
 have hsh:∀B,Sh s' g B->Sh s g B:=λB hB=>by unfold Sh at *;rw[hs.l,hs.t,hs.ft,hs.way]at hB;exact hB
 have hlb:∀B,Lb s' B->Lb s B:=λB ⟨F,hF,hB⟩=>⟨F,hF,by rw[<-hs.ls F hF];exact hB⟩
 have hp':Hp m' P s g S:=h.hp.congr k.n (λB hB=>k.obj B (h.hp.sn B hB) (by simp;exact λe=>h.hp.sP (e ▸ hB))) (λB hB=>k.obj B (h.hp.ln hB) (by
  simp
  rintro rfl
  obtain⟨F,hF,e⟩:=hB
  exact h.hp.lP F hF e))
 exact h.call ⟨k.mono (by simp;exact wR.2 (.inl rfl)),ha,hp'.same hs,hc,λB hB=>.inl (hlb B hB),λB hB=>.inl (hsh B hB)⟩
end
end Go.Sx
namespace Go.Sx
open Go.Dx Go.Proofs
set_option maxRecDepth 10000
def MuR (x:Ex)(f:Nat)(args:List Value)(m:M)(P:Nat)(s:Mch)(g:Gh)(S':PM)(Q:Value->Prop):Prop:=∃v m' s' g',x.f f args m=some (v,m')/\Res m m' P s g s' g' S'/\Q v
structure ML (m:M)(P:Nat)(s:Mch)(g:Gh)(S:PM):Prop where
 base:m.base<=m.n
 mat:MAt m P s
 hp:Hp m P s g S
 sc:Sc s S
theorem ML.mx {m:M}{P:Nat}{s:Mch}{g:Gh}{S:PM}(h:ML m P s g S):MX m m (own P s) (Sh s g) P [] s g S:=MX.start h.base h.mat h.hp h.sc
theorem MX.ml {m0 m:M}{W:List Nat}{Z:Nat->Prop}{P:Nat}{σ:List (Nat × List Value)}{s:Mch}{g:Gh}{S:PM}(h:MX m0 m W Z P σ s g S):ML m P s g S:=⟨h.mb,h.mat,h.hp,h.sc⟩
theorem MX.mlAny {m0 m:M}{W:List Nat}{Z:Nat->Prop}{P:Nat}{σ:List (Nat × List Value)}{s:Mch}{g:Gh}{S:PM}(h:MX m0 m W Z P σ s g S):ML (qg m) P s g S:=⟨qI m,h.matAny,h.hpAny,h.sc⟩
theorem MX.keepRS {m0 m:M}{W:List Nat}{Z:Nat->Prop}{P:Nat}{σ:List (Nat × List Value)}{s:Mch}{g:Gh}{S:PM}(h:MX m0 m W Z P σ s g S){v:Value}{l:List Nat}(k:RS m0 v l)(hB:∀B,blk v=some B->B ∉ W):RS m v l :=
 k.congr h.ow.mc.n λB hb=>h.ow.mc.obj B (k.lt B hb) (hB B hb)
def zc (l:List Nat)(b:Nat):List (Nat × Nat):=l.map λa=>(a,b)
theorem xY (l:List Nat)(b:Nat):(zc l b).length=l.length:=by simp[zc]
theorem gN {l:List Nat}{i a:Nat}(h:l[i]?=some a)(b:Nat):zc (l.take (i+1)) b=zc (l.take i) b++[(a,b)]:=by
 unfold zc
 rw[List.take_add_one,h];simp
def dataP (S:PM)(l:List Nat)(b:Nat):PM:={ S with data:=S.data++zc l b }
theorem Bb (S:PM)(l:List (Nat × Nat))(p:Nat × Nat):gQ { S with data:=l } { S with data:=l++[p] } 3 (prR p) :=
 ⟨rfl,rfl,rfl,rfl,rfl,rfl,by show (l++[p]).map prR=l.map prR++[prR p];simp,λG hG hne=>by rcases six hG with rfl | rfl | rfl | rfl | rfl | rfl<;>first | rfl | exact absurd rfl hne⟩
theorem gW (m:M)(a b:Int):jR 2 1 (rep 1 [zI,zI]) [(0,2,.agg ⟨[iv a,iv b]⟩)] m=some (.slice (some ⟨m.n,0,some 5⟩) 1 1,Dx.newRow m [iv a,iv b]):=rfl
theorem gX (a b:Int):wN [zI,zI] [(0,1,iv a),(1,1,iv b)]=some (.agg ⟨[iv a,iv b]⟩):=rfl
theorem QH (m:M)(a b:Nat)(sp:Option Nat):loads (Dx.newRow m [iv a,iv b]) ⟨m.n,0,sp⟩ (esz 3)=some (wY (prR (a,b))):=by
 have:=(Arr.row m [iv a,iv b]).loads (o:=0) (n:=2) (s:=sp) (by simp)
 exact this
theorem fQ (S:PM):(rowsOf S 3).length=S.data.length:=by show (S.data.map prR).length=_;rw[List.length_map]
theorem qa2 (n:Nat){m:M}{P:Nat}{s:Mch}{g:Gh}{S:PM}(h:ML m P s g S){av:Value}{ad:List Nat}(hr:RS m av ad)(hav:∀B,blk av=some B->B ∉ own P s)(b:Nat)(hl:S.data.length+ad.length<=1000000) :
  MuR (ex Tryz.prog (n+1)) 60 [mP P,av,iv b] m P s g (dataP S ad b) λ_=>True:=by
 suffices H:∃v m',(ex Tryz.prog (n+1)).f 60 [mP P,av,iv b] m=some (v,m')/\∃s' g',Res m m' P s g s' g' (dataP S ad b) by
  obtain⟨v,m',h1,s',g',h2⟩:=H
  exact⟨v,m',s',g',h1,h2,trivial⟩
 refine qA (Q:=λv m'=>∃s' g',Res m m' P s g s' g' (dataP S ad b)) de7_ok (by simp) ?_
 have hln:=hr.rd.len
 simp[hln]
 refine qF (c:=ce7_7) rfl (zH _) (λi t m'=>Tm.get 0 t=mP P/\Tm.get 2 t=iv b/\Tm.get 8 t=av/\Tm.get 9 t=iv ad.length/\Tm.get 10 t=iv i/\∃s' g',MX m m' (own P s) (Sh s g) P [] s' g' (dataP S (ad.take i) b)) ad.length (by omega)
  ⟨by simp,by simp,by simp,by simp,by simp,s,g,by simpa [dataP,zc]using h.mx⟩ (λi t m' K hi hI hK=>?_)
 obtain⟨t0,t2,t8,t9,t10,s',g',hx⟩:=hI
 by_cases hil:i<ad.length
 .have d1:((i:Int)<(ad.length:Int))=True:=eq_true (by omega)
  have w1:=qY (i:=i) (by omega)
  obtain⟨a,ha⟩:∃a,ad[i]?=some a:=⟨_,qgd hil⟩
  have hr':=hx.keepRS hr hav
  obtain⟨i1,i2⟩:=Rd.at1 (g:=λ(x:Nat)=>iv x) hr'.rd ha
  have i2':load1 m' (adr 1 av i)=some (iv a):=i2 m' (Sees.refl hx.mb)
  have l81:load1 m' ⟨P,81,none⟩=some s'.data:=hx.lsn (F:=3) (by omega)
  have hx1:=hx.row [iv a,iv b]
  have hlen:(rowsOf (dataP S (ad.take i) b) 3).length<=1000000:=by
   rw[fQ]
   show (S.data++zc (ad.take i) b).length<=_
   rw[qgn,xY,List.length_take];omega
  obtain⟨v',mq,m5,a1,a2,hx2⟩:=hx1.push (F:=3) (by omega) (r:=prR (a,b)) (S':=dataP S (ad.take (i+1)) b) (by
   have:=Bb S (S.data++zc (ad.take i) b) (a,b)
   rw[qgy,<-gN ha]at this
   exact this) (QH m' a b (some 5)) (bytes:=16) (by unfold most;omega) (by omega)
  have a1:wZ (Dx.newRow m' [iv a,iv b]) 2 16 s'.data (.slice (some ⟨m'.n,0,some 5⟩) 1 1)=some (v',mq):=a1
  have bs:=gW m' a b
  simp[t0,t2,t8,t9,t10,d1,i1,i2',l81,gX,bs,a1,a2,w1]
  exact hK hil _ _ ⟨by simp[t0],by simp[t2],by simp[t8],by simp[t9],by simp,_,_,hx2.clear⟩
 .obtain rfl:i=ad.length:=by omega
  rw[List.take_length]at hx
  simp[t9,t10]
  exact zp ⟨s',g',hx.res⟩
end Go.Sx
namespace Go.Sx
open Go.Dx Go.Proofs
set_option maxRecDepth 10000
theorem bH (s:Mch)(b:Bool):(qX s).set 72 (.bool b)=qX { s with opn:=b }:=by kernel_rfl
theorem qev (S:PM)(e:EvR):gQ S { S with ev:=S.ev++[e] } 0 (evR e) :=
 ⟨rfl,rfl,rfl,rfl,rfl,rfl,by show (S.ev++[e]).map evR=S.ev.map evR++[evR e];simp,λG hG hne=>by rcases six hG with rfl | rfl | rfl | rfl | rfl | rfl<;>first | rfl | exact absurd rfl hne⟩
theorem GZ (S:PM)(l:List (Nat × Nat))(p:Nat × Nat):gQ { S with addr:=l } { S with addr:=l++[p] } 2 (prR p) :=
 ⟨rfl,rfl,rfl,rfl,rfl,rfl,by show (l++[p]).map prR=l.map prR++[prR p];simp,λG hG hne=>by rcases six hG with rfl | rfl | rfl | rfl | rfl | rfl<;>first | rfl | exact absurd rfl hne⟩
theorem Ba (S:PM)(l:List (Nat × Nat))(p:Nat × Nat):gQ { S with ctrl:=l } { S with ctrl:=l++[p] } 4 (prR p) :=
 ⟨rfl,rfl,rfl,rfl,rfl,rfl,by show (l++[p]).map prR=l.map prR++[prR p];simp,λG hG hne=>by rcases six hG with rfl | rfl | rfl | rfl | rfl | rfl<;>first | rfl | exact absurd rfl hne⟩
theorem qcf (S:PM)(p:Nat × Nat):gQ S { S with rmw:=S.rmw++[p] } 1 (prR p) :=
 ⟨rfl,rfl,rfl,rfl,rfl,rfl,by show (S.rmw++[p]).map prR=S.rmw.map prR++[prR p];simp,λG hG hne=>by rcases six hG with rfl | rfl | rfl | rfl | rfl | rfl<;>first | rfl | exact absurd rfl hne⟩
theorem Bc (S:PM)(x:Nat):gQ S { S with outs:=S.outs++[x] } 5 (wdR x) :=
 ⟨rfl,rfl,rfl,rfl,rfl,rfl,by show (S.outs++[x]).map wdR=S.outs.map wdR++[wdR x];simp,λG hG hne=>by rcases six hG with rfl | rfl | rfl | rfl | rfl | rfl<;>first | rfl | exact absurd rfl hne⟩
theorem xn (S:PM):(rowsOf S 0).length=S.ev.length:=by show (S.ev.map evR).length=_;rw[List.length_map]
theorem yc (S:PM):(rowsOf S 1).length=S.rmw.length:=by show (S.rmw.map prR).length=_;rw[List.length_map]
theorem fP (S:PM):(rowsOf S 2).length=S.addr.length:=by show (S.addr.map prR).length=_;rw[List.length_map]
theorem fR (S:PM):(rowsOf S 4).length=S.ctrl.length:=by show (S.ctrl.map prR).length=_;rw[List.length_map]
theorem fS (S:PM):(rowsOf S 5).length=S.outs.length:=by show (S.outs.map wdR).length=_;rw[List.length_map]
def evP (S:PM)(e:EvR):PM:={ S with sc:={ S.sc with opn:=false },ev:=S.ev++[e] }
def gT (S:PM)(l:List Nat)(b:Nat):PM:={ S with addr:=S.addr++zc l b }
def JE (S:PM)(l:List Nat)(b:Nat):PM:={ S with ctrl:=S.ctrl++zc l b }
def kG (S:PM)(ad:List Nat)(e:EvR):PM:=JE (gT (evP S e) ad S.ev.length) S.way S.ev.length
theorem bs_ev (m:M)(e:EvR):jR 5 1 (rep 1 [zI,zI,zI,zU,zI]) [(0,5,.agg ⟨zJ e⟩)] m=some (.slice (some ⟨m.n,0,some 11⟩) 1 1,Dx.newRow m (zJ e)):=rfl
theorem fD {m:M}{P:Nat}{s:Mch}{g:Gh}{S:PM}(h:Hp m P s g S){B:Nat}(hB:Sh s g B):B ∉ own P s:=λhc=>by
 rcases wR.1 hc with rfl | hL
 .exact h.sP hB
 .exact h.sL B hB hL
theorem YP (n:Nat){m:M}{P:Nat}{s:Mch}{g:Gh}{S:PM}(h:ML m P s g S){av:Value}{ad:List Nat}(hr:RS m av ad)(hav:∀B,blk av=some B->B ∉ own P s)(e:EvR)(h1:S.ev.length<=1000000)(h2:S.addr.length+ad.length<=1000000)(h3:S.ctrl.length+S.way.length<=1000000) :
  MuR (ex Tryz.prog (n+1)) 35 [mP P,av,.agg ⟨zJ e⟩] m P s g (kG S ad e) λ_=>True:=by
 suffices H:∃v m',(ex Tryz.prog (n+1)).f 35 [mP P,av,.agg ⟨zJ e⟩] m=some (v,m')/\∃s' g',Res m m' P s g s' g' (kG S ad e) by
  obtain⟨v,m',h1,s',g',h2⟩:=H
  exact⟨v,m',s',g',h1,h2,trivial⟩
 refine qA (Q:=λv m'=>∃s' g',Res m m' P s g s' g' (kG S ad e)) dc2_ok (by simp) ?_
 have hx0:=h.mx.row (zJ e)
 obtain⟨m0,hm0⟩:=qh2 (Dx.newRow m (zJ e))
 have hb:jv (.agg ⟨zJ e⟩) m=some (.pointer (some ⟨m.n,0,none⟩),m0):=by rw[hm0];rfl
 rw[<-hm0]at hx0
 have l78:load1 m0 ⟨P,78,none⟩=some s.ev:=hx0.lsn (F:=0) (by omega)
 have hlen:jW s.ev=some (.int .i64 S.ev.length):=by
  have:=(h.hp.ls 0 (by omega)).len
  rw[xn]at this;exact this
 obtain⟨m1,a1,hx1,-⟩:=hx0.set (o:=72) (v:=.bool false) (by omega) rfl (bH s false) (S':={ S with sc:={ S.sc with opn:=false } }) ⟨rfl,rfl,rfl,rfl,rfl,λF hF=>by rcases six hF with rfl | rfl | rfl | rfl | rfl | rfl<;>rfl,rfl,rfl,rfl,rfl,rfl,λF hF=>by rcases six hF with rfl | rfl | rfl | rfl | rfl | rfl<;>rfl⟩ (by
  show dX { s with opn:=false }={ S.sc with opn:=false }
  rw[<-h.sc];rfl)
 have l78':load1 m1 ⟨P,78,none⟩=some s.ev:=hx1.lsn (F:=0) (by omega)
 have le:loads m1 ⟨m.n,0,none⟩ 5=some (zJ e):=(hx1.ow.get 0 rfl).2.2.loads (o:=0) (n:=5) (by simp[zJ])
 have hx2:=hx1.row (zJ e)
 obtain⟨M1,hM1⟩:=qh2 (Dx.newRow m1 (zJ e))
 have bs:=bs_ev m1 e
 have hX:loads M1 ⟨m1.n,0,some 11⟩ (esz 0)=some (wY (evR e)):=by
  have:=(Arr.row m1 (zJ e)).loads (o:=0) (n:=5) (s:=some 11) (by simp[zJ])
  rw[hM1];exact this
 rw[<-hM1]at hx2 bs
 obtain⟨v',mq,m5,b1,b2,b3,hx3⟩:=hx2.pushAny (F:=0) (by omega) (qev _ e) hX (bytes:=40) (by rw[xn];unfold most;simp only;omega) (by rw[xn];simp only;omega)
 have b1:wZ (qg M1) 5 40 s.ev (.slice (some ⟨m1.n,0,some 11⟩) 1 1)=some (v',mq):=b1
 have b2:qB 1 (.pointer (some ⟨P,78,none⟩)) v' (qg (Dx.behind M1 mq))=some (undef,m5):=b2
 obtain⟨M2,hM2⟩:=qh2 (Dx.behind M1 mq)
 obtain⟨M3,hM3⟩:=qh2 (Dx.behind M2 m5)
 rw[<-hM2]at b2 hx3
 rw[<-hM3]at hx3
 have hr3:=hx3.keepRS hr hav
 obtain⟨s3,hs3⟩:=qh2 (vL { s with opn:=false } 0 v')
 rw[<-hs3]at hx3
 have hav3:∀B,blk av=some B->B ∉ own P s3:=λB hB hc=>by
  have hBn:=hr.lt B hB
  rcases wR.1 hc with rfl | hL
  .exact hav _ hB (wR.2 (.inl rfl))
  .rcases hx3.lW B hL with h' | h'
   .exact hav B hB h'
   .omega
 have hx3c:=hx3.clear
 change MX m M3 (own P s) (Sh s g) P [] s3 g (evP S e) at hx3c
 have hln:=hr.rd.len
 simp[hb,l78,hlen,a1,l78',qd,le,bs,b1,<-hM2,b2,b3,<-hM3,hln]
 refine qF (c:=cc2_7) rfl (zH _) (λi t m'=>Tm.get 0 t=mP P/\Tm.get 6 t=iv S.ev.length/\Tm.get 32 t=av/\Tm.get 33 t=iv ad.length/\Tm.get 34 t=iv i/\∃s' g',MX M3 m' (own P s3) (Sh s3 g) P [] s' g' (gT (evP S e) (ad.take i) S.ev.length)) ad.length (by omega)
  ⟨by simp,by simp,by simp,by simp,by simp,s3,g,by simpa [gT,zc]using hx3c.ml.mx⟩ (λi t m' K hi hI hK=>?_)
 obtain⟨t0,t6,t32,t33,t34,s',g',hx⟩:=hI
 by_cases hil:i<ad.length
 .have d1:((i:Int)<(ad.length:Int))=True:=eq_true (by omega)
  have w1:=qY (i:=i) (by omega)
  obtain⟨a,ha⟩:∃a,ad[i]?=some a:=⟨_,qgd hil⟩
  have hr':=hx.keepRS hr3 hav3
  obtain⟨i1,i2⟩:=Rd.at1 (g:=λ(x:Nat)=>iv x) hr'.rd ha
  have i2':load1 m' (adr 1 av i)=some (iv a):=i2 m' (Sees.refl hx.mb)
  have l80:load1 m' ⟨P,80,none⟩=some s'.addr:=hx.lsn (F:=2) (by omega)
  have hx1:=hx.row [iv a,iv S.ev.length]
  have hlen2:(rowsOf (gT (evP S e) (ad.take i) S.ev.length) 2).length<=1000000:=by
   rw[fP]
   show (S.addr++zc (ad.take i) _).length<=_
   rw[qgn,xY,List.length_take];omega
  obtain⟨v'',mq',m5',c1,c2,hx2⟩:=hx1.push (F:=2) (by omega) (r:=prR (a,S.ev.length)) (S':=gT (evP S e) (ad.take (i+1)) S.ev.length) (by
   have:=GZ (evP S e) (S.addr++zc (ad.take i) S.ev.length) (a,S.ev.length)
   rw[qgy,<-gN ha]at this
   exact this) (QH m' a S.ev.length (some 5)) (bytes:=16) (by unfold most;omega) (by omega)
  have c1:wZ (Dx.newRow m' [iv a,iv S.ev.length]) 2 16 s'.addr (.slice (some ⟨m'.n,0,some 5⟩) 1 1)=some (v'',mq'):=c1
  have bs':=gW m' a S.ev.length
  simp[t0,t6,t32,t33,t34,d1,i1,i2',l80,gX,bs',c1,c2,w1]
  exact hK hil _ _ ⟨by simp[t0],by simp[t6],by simp[t32],by simp[t33],by simp,_,_,hx2.clear⟩
 .obtain rfl:i=ad.length:=by omega
  rw[List.take_length]at hx
  have hx4:=hx3c.call hx.res
  have l71:load1 m' ⟨P,71,none⟩=some s'.way:=hx.ld 71
  have hrw:RS m' s'.way S.way:=hx.hp.way
  have hlw:=hrw.rd.len
  simp[t0,t6,t33,t34,l71,hlw]
  obtain⟨wv0,hwv⟩:=qh2 (s'.way)
  rw[<-hwv]at hrw
  have havw:∀B,blk wv0=some B->B ∉ own P s':=λB hB=>fD hx.hp (by rw[hwv]at hB;exact .inr (.inr (.inr (.inl hB))))
  refine qF (c:=BS) rfl (zH _) (λi t m2=>Tm.get 0 t=mP P/\Tm.get 6 t=iv S.ev.length/\Tm.get 56 t=wv0/\Tm.get 57 t=iv S.way.length/\Tm.get 58 t=iv i/\∃s2 g2,MX m' m2 (own P s') (Sh s' g') P [] s2 g2 (JE (gT (evP S e) ad S.ev.length) (S.way.take i) S.ev.length)) S.way.length (by omega)
   ⟨by simp[t0],by simp[t6],by simp[hwv],by simp,by simp,s',g',by simpa [JE,zc]using hx.ml.mx⟩ (λi t m2 K2 hi hI hK2=>?_)
  obtain⟨t0,t6,t56,t57,t58,s2,g2,hy⟩:=hI
  by_cases hil:i<S.way.length
  .have d1:((i:Int)<(S.way.length:Int))=True:=eq_true (by omega)
   have w1:=qY (i:=i) (by omega)
   obtain⟨a,ha⟩:∃a,S.way[i]?=some a:=⟨_,qgd hil⟩
   have hr':=hy.keepRS hrw havw
   obtain⟨i1,i2⟩:=Rd.at1 (g:=λ(x:Nat)=>iv x) hr'.rd ha
   have i2':load1 m2 (adr 1 wv0 i)=some (iv a):=i2 m2 (Sees.refl hy.mb)
   have l82:load1 m2 ⟨P,82,none⟩=some s2.ctrl:=hy.lsn (F:=4) (by omega)
   have hx1:=hy.row [iv a,iv S.ev.length]
   have hlen2:(rowsOf (JE (gT (evP S e) ad S.ev.length) (S.way.take i) S.ev.length) 4).length<=1000000:=by
    rw[fR]
    show (S.ctrl++zc (S.way.take i) _).length<=_
    rw[qgn,xY,List.length_take];omega
   obtain⟨v'',mq',m5',c1,c2,hx2⟩:=hx1.push (F:=4) (by omega) (r:=prR (a,S.ev.length)) (S':=JE (gT (evP S e) ad S.ev.length) (S.way.take (i+1)) S.ev.length) (by
    have:=Ba (gT (evP S e) ad S.ev.length) (S.ctrl++zc (S.way.take i) S.ev.length) (a,S.ev.length)
    rw[qgy,<-gN ha]at this
    exact this) (QH m2 a S.ev.length (some 5)) (bytes:=16) (by unfold most;omega) (by omega)
   have c1:wZ (Dx.newRow m2 [iv a,iv S.ev.length]) 2 16 s2.ctrl (.slice (some ⟨m2.n,0,some 5⟩) 1 1)=some (v'',mq'):=c1
   have bs':=gW m2 a S.ev.length
   simp[t0,t6,t56,t57,t58,d1,i1,i2',l82,gX,bs',c1,c2,w1]
   exact hK2 hil _ _ ⟨by simp[t0],by simp[t6],by simp[t56],by simp[t57],by simp,_,_,hx2.clear⟩
  .obtain rfl:i=S.way.length:=by omega
   rw[List.take_length]at hy
   simp[t57,t58]
   exact zp ⟨s2,g2,(hx4.call hy.res).res⟩
end Go.Sx
namespace Go.Sx
open Go.Dx Go.Proofs
set_option maxRecDepth 10000
structure Tv (m0 m:M)(Z:Nat->Prop)(P:Nat)(σ:List (Nat × List Value))(s:Mch)(v:Value)(l:List Nat):Prop where
 rs:RS m v l
 z:∀B,blk v=some B->Z B\/m0.n<=B
 lb:∀B,blk v=some B->¬Lb s B
 p:∀B,blk v=some B->B≠P
 sg:∀p∈σ,blk v≠some p.1
section
variable {m0 m m':M}{W:List Nat}{Z:Nat->Prop}{P:Nat}{σ:List (Nat × List Value)}{s s':Mch}{g:Gh}{S S':PM}
theorem Tv.nil:Tv m0 m Z P σ s kW []:=⟨RS.none m,λB hB=>(by cases hB),λB hB=>(by cases hB),λB hB=>(by cases hB),λp _ hc=>(by cases hc)⟩
theorem MX.tv (h:MX m0 m W Z P σ s g S){v:Value}{l:List Nat}(hr:RS m v l)(hv:∀B,blk v=some B->Sh s g B):Tv m0 m Z P σ s v l :=
 ⟨hr,λB hB=>h.shZ B (hv B hB),λB hB=>h.hp.sL B (hv B hB),λB hB e=>h.hp.sP (e ▸ hv B hB),λp hp hc=>(h.sig p hp).2 (hv _ hc)⟩
theorem MX.tvT (h:MX m0 m W Z P σ s g S){k:Nat}(hk:k<32):Tv m0 m Z P σ s (s.t k) (S.t k):=h.tv (h.hp.t k hk) λB hB=>.inr (.inl ⟨k,hk,hB⟩)
theorem MX.tvF (h:MX m0 m W Z P σ s g S):Tv m0 m Z P σ s s.ft S.ft:=h.tv h.hp.ft λB hB=>.inr (.inr (.inl hB))
theorem MX.tvW (h:MX m0 m W Z P σ s g S):Tv m0 m Z P σ s s.way S.way:=h.tv h.hp.way λB hB=>.inr (.inr (.inr (.inl hB)))
theorem MX.tvN (h:MX m0 m W Z P σ s g S)(e:Ext m m'){v:Value}{l:List Nat}(hr:RS m' v l)(hv:∀B,blk v=some B->m.n<=B):Tv m0 m' Z P σ s v l :=
 ⟨hr,λB hB=>.inr (by have:=hv B hB;have:=h.ow.mc.n;omega),λB hB hL=>by have:=h.hp.ln hL;have:=hv B hB;omega,λB hB e=>by have:=h.mat.lt;have:=hv B hB;omega,λp hp hc=>by have:=(h.ow.arr p (List.mem_append_left _ hp)).2.1;have:=hv _ hc;omega⟩
theorem Tv.ext {v:Value}{l:List Nat}(h:Tv m0 m Z P σ s v l)(hm:m.base<=m.n)(e:Ext m m'):Tv m0 m' Z P σ s v l:=⟨h.rs.ext hm e,h.z,h.lb,h.p,h.sg⟩
theorem MX.tvWith (h:MX m0 m W Z P σ s g S)(e:Ext m m'){v sv:Value}{l sl:List Nat}(hs:Tv m0 m Z P σ s sv sl)(hr:RS m' v l)(hv:∀B,blk v=some B->blk sv=some B\/m.n<=B):Tv m0 m' Z P σ s v l:=by
 have n1:=h.ow.mc.n
 refine⟨hr,λB hB=>?_,λB hB=>?_,λB hB=>?_,λp hp hc=>?_⟩
 .rcases hv B hB with h1 | h1
  .exact hs.z B h1
  .exact .inr (by omega)
 .rcases hv B hB with h1 | h1
  .exact hs.lb B h1
  .exact λhL=>by have:=h.hp.ln hL;omega
 .rcases hv B hB with h1 | h1
  .exact hs.p B h1
  .have:=h.mat.lt;omega
 .rcases hv _ hc with h1 | h1
  .exact hs.sg p hp h1
  .have:=(h.ow.arr p (List.mem_append_left _ hp)).2.1;omega
theorem MX.newSets (h:MX m0 m W Z P σ s g S)(ow:Ow m0 m' W (σ++[(P,qX s')]))(hn:m.n<=m'.n)(ho:∀X,X<m.n->X≠P->m'.obj X=m.obj X)(hl:s'.l=s.l)(hh:s'.half=s.half)(hls:∀F,F<6->lst s' F=lst s F)(hcS:S'.code=S.code)(hhS:S'.half=S.half)(hlS:∀F,F<6->rowsOf S' F=rowsOf S F)
  (ht:∀k,k<32->Tv m0 m Z P σ s (s'.t k) (S'.t k)) (hf:Tv m0 m Z P σ s s'.ft S'.ft) (hw:Tv m0 m Z P σ s s'.way S'.way) (hc:Sc s' S'):MX m0 m' W Z P σ s' g S':=by
 have hlb:∀B,Lb s' B->Lb s B:=λB ⟨F,hF,hB⟩=>⟨F,hF,by rw[<-hls F hF];exact hB⟩
 have hlb2:∀B,Lb s B->Lb s' B:=λB ⟨F,hF,hB⟩=>⟨F,hF,by rw[hls F hF];exact hB⟩
 have set:∀{v:Value} {l:List Nat},Tv m0 m Z P σ s v l->RS m' v l:=λ{v l} k=>k.rs.congr hn λB hB=>ho B (k.rs.lt B hB) (k.p B hB)
 have sh:∀B,Sh s' g B->(Z B\/m0.n<=B)/\¬Lb s B/\B≠P/\(∀p∈σ,p.1≠B)/\B<m.n:=λB hB=>by
  have old:Sh s g B->(Z B\/m0.n<=B)/\¬Lb s B/\B≠P/\(∀p∈σ,p.1≠B)/\B<m.n:=λk=>⟨h.shZ B k,h.hp.sL B k,λe=>h.hp.sP (e ▸ k),λp hp e=>(h.sig p hp).2 (e ▸ k),h.hp.sn B k⟩
  have new:∀{v:Value} {l:List Nat},Tv m0 m Z P σ s v l->blk v=some B->(Z B\/m0.n<=B)/\¬Lb s B/\B≠P/\(∀p∈σ,p.1≠B)/\B<m.n:=λk e=>⟨k.z B e,k.lb B e,k.p B e,λp hp e2=>k.sg p hp (by rw[e,e2]),k.rs.lt B e⟩
  rcases hB with h1 | ⟨k,hk,h1⟩ | h1 | h1 | h1
  .rw[hl]at h1;exact old (.inl h1)
  .exact new (ht k hk) h1
  .exact new hf h1
  .exact new hw h1
  .exact old (.inr (.inr (.inr (.inr h1))))
 have base:=h.hp.congr (m':=m') hn (λB hB=>ho B (h.hp.sn B hB) (λe=>h.hp.sP (e ▸ hB))) (λB hB=>ho B (h.hp.ln hB) (λe=>by
  obtain⟨F,hF,e2⟩:=hB
  exact h.hp.lP F hF (by rw[e2,e])))
 refine⟨ow,⟨by rw[hl,hcS];exact base.code,λk hk=>set (ht k hk),set hf,set hw,by rw[hh,hhS];exact base.half,λF hF=>by rw[hls F hF,hlS F hF];exact base.ls F hF,
  λF G hF hG hne B hB=>by rw[hls G hG];rw[hls F hF]at hB;exact base.dis F G hF hG hne B hB,λF hF=>by rw[hls F hF];exact base.lP F hF,λhP=>(sh P hP).2.2.1 rfl,λB hB hL=>(sh B hB).2.1 (hlb B hL),λB hB=>qgi (sh B hB).2.2.2.2 hn⟩,hc,
  λB hB=>h.lW B (hlb B hB),λB hB=>(sh B hB).1,λp hp=>⟨λhL=>(h.sig p hp).1 (hlb _ hL),λhS=>(sh _ hS).2.2.2.1 p hp rfl⟩,h.PW,h.Wn⟩
def setRP (S:PM)(k x:Nat)(l:List Nat):PM:=if k=31 then S else { S with sc:={ S.sc with v:=upN S.sc.v k x },t:=upN S.t k l }
theorem lst_v (s:Mch)(v:Nat->Nat)(t:Nat->Value)(F:Nat):lst { s with v:=v,t:=t } F=lst s F:=by unfold lst;split<;>rfl
theorem bX {S S':PM}(h1:S'.ev=S.ev)(h2:S'.rmw=S.rmw)(h3:S'.addr=S.addr)(h4:S'.data=S.data)(h5:S'.ctrl=S.ctrl)(h6:S'.outs=S.outs):∀F,F<6->rowsOf S' F=rowsOf S F:=λF hF=>by
 rcases six hF with rfl | rfl | rfl | rfl | rfl | rfl
 .show S'.ev.map evR=_;rw[h1];rfl
 .show S'.rmw.map prR=_;rw[h2];rfl
 .show S'.addr.map prR=_;rw[h3];rfl
 .show S'.data.map prR=_;rw[h4];rfl
 .show S'.ctrl.map prR=_;rw[h5];rfl
 .show S'.outs.map wdR=_;rw[h6];rfl
theorem MX.owCall (h:MX m0 m W Z P σ s g S)(k:Mc m m' [P])(ha:MAt m' P s'):Ow m0 m' W (σ++[(P,qX s')]):=by
 refine⟨h.ow.mc.tr2 k (by simp;exact .inl h.PW) h.ow.base,h.ow.base,λp hp=>?_,?_⟩
 .rcases qh1.1 hp with hp | hp
  .have hnd:=h.ow.nd
   rw[List.map_append,List.nodup_append]at hnd
   have hne:p.1≠P:=hnd.2.2 _ (List.mem_map.2 ⟨p,hp,rfl⟩) P (by simp)
   obtain⟨h1,h2,h3⟩:=h.ow.arr p (List.mem_append_left _ hp)
   exact⟨h1,qgi h2 k.n,h3.congr (k.obj _ h2 (by simp;exact hne))⟩
  .rw[qgk.1 hp]
   exact⟨.inl h.PW,ha.lt,ha.arr⟩
 .have hnd:=h.ow.nd
  rw[List.map_append]at hnd ⊢
  exact hnd
theorem MX.callR (h:MX m0 m W Z P σ s g S)(k:Mc m m' [P]){j x:Nat}{tv:Value}{tl:List Nat}(hj:j<32)(ha:MAt m' P (QD s j x tv))(ht:Tv m0 m Z P σ s tv tl):MX m0 m' W Z P σ (QD s j x tv) g (setRP S j x tl):=by
 by_cases e:j=31
 .have e1:QD s j x tv=s:=by unfold QD;rw[if_pos e]
  have e2:setRP S j x tl=S:=by unfold setRP;rw[if_pos e]
  rw[e1]at ha ⊢
  rw[e2]
  exact h.callP k ha ⟨rfl,rfl,rfl,rfl,rfl,λ_ _=>rfl,rfl,rfl,rfl,rfl,rfl,λ_ _=>rfl⟩ h.sc
 .have e1:QD s j x tv={ s with v:=upN s.v j x,t:=upN s.t j tv }:=by unfold QD;rw[if_neg e]
  have e2:setRP S j x tl={ S with sc:={ S.sc with v:=upN S.sc.v j x },t:=upN S.t j tl }:=by unfold setRP;rw[if_neg e]
  rw[e1]at ha ⊢
  rw[e2]
  refine h.newSets (h.owCall k ha) k.n (λX h1 h2=>k.obj X h1 (by simp;exact h2)) rfl rfl (λF _=>lst_v s _ _ F) rfl rfl (λ_ _=>rfl) (λq hq=>?_) h.tvF h.tvW ?_
  .show Tv m0 m Z P σ s (upN s.t j tv q) (upN S.t j tl q)
   by_cases eq:q=j
   .subst eq;rw[xa,xa];exact ht
   .rw[yE _ _ eq,yE _ _ eq];exact h.tvT hq
  .show dX { s with v:=upN s.v j x,t:=upN s.t j tv }={ S.sc with v:=upN S.sc.v j x }
   rw[<-h.sc];rfl
theorem MX.reg (h:MX m0 m W Z P σ s g S)(n:Nat){j:Nat}(hj:j<32)(x:Nat){tv:Value}{tl:List Nat}(ht:Tv m0 m Z P σ s tv tl) :
  ∃v m',(ex Tryz.prog (n+1)).f 37 [.pointer (some ⟨P,2,none⟩),iv j,uv x,tv] m=some (v,m')/\MX m0 m' W Z P σ (QD s j x tv) g (setRP S j x tl):=by
 obtain⟨v,m',a1,a2,a3⟩:=set_c n h.mb h.mat hj x tv ht.rs.ok
 exact⟨v,m',a1,h.callR a2 hj a3 ht⟩
theorem MX.regAny (h:MX m0 m W Z P σ s g S)(n:Nat){j:Nat}(hj:j<32)(x:Nat){tv:Value}{tl:List Nat}(ht:Tv m0 m Z P σ s tv tl) :
  ∃v m',(ex Tryz.prog (n+1)).f 37 [.pointer (some ⟨P,2,none⟩),iv j,uv x,tv] (qg m)=some (v,m')/\MX m0 (Dx.behind m m') W Z P σ (QD s j x tv) g (setRP S j x tl):=by
 obtain⟨v,m',a1,a2,a3⟩:=set_c n (qI m) h.matAny hj x tv ht.rs.ok
 exact⟨v,m',a1,h.callR a2.behind hj ⟨a3.arr.congr (qz _ _ _),by rw[wg];exact a3.lt⟩ ht⟩
end
end Go.Sx
namespace Go.Sx
open Go.Dx Go.Proofs
set_option maxRecDepth 10000
def isF (s:Mch)(k:Nat):Bool:=if k=0 then s.fz else if k=2 then s.fc else if k=4 then s.fn else if k=6 then s.fv else if k=8 then s.fc && !s.fz else if k=10 then s.fn==s.fv else if k=12 then (s.fn==s.fv) && !s.fz else false
def jx (s:Mch)(c:Nat):Bool:=isF s (c-c%2) != decide (c%2=1)
theorem lt16 {c:Nat}(h:c<16):c=0\/c=1\/c=2\/c=3\/c=4\/c=5\/c=6\/c=7\/c=8\/c=9\/c=10\/c=11\/c=12\/c=13\/c=14\/c=15:=by omega
theorem even16 {c:Nat}(h:c<16):ky .andNot (iv c) (.int .i64 1)=some (iv ((c-c%2:Nat):Int)):=by
 rcases lt16 h with rfl | rfl | rfl | rfl | rfl | rfl | rfl | rfl | rfl | rfl | rfl | rfl | rfl | rfl | rfl | rfl<;>kernel_rfl
theorem odd16 {c:Nat}(h:c<16):ky .and (iv c) (.int .i64 1)=some (iv ((c%2:Nat):Int)):=by
 rcases lt16 h with rfl | rfl | rfl | rfl | rfl | rfl | rfl | rfl | rfl | rfl | rfl | rfl | rfl | rfl | rfl | rfl<;>kernel_rfl
def vF (s:Mch):List Value:=[.bool s.fn,.bool s.fz,.bool s.fc,.bool s.fv,s.ft]
theorem qbd (s:Mch):((qX s).drop 66).take 5=vF s:=by kernel_rfl
abbrev z5f:List Value:=[.bool false,.bool false,.bool false,.bool false,kW]
theorem YV (n:Nat){m:M}(hm:m.base<=m.n){P:Nat}{s:Mch}(h:MAt m P s)(hft:okC s.ft=true){c:Nat}(hc:c<16):CallV (ex Tryz.prog (n+1)) 53 [mP P,iv c] m (.bool (jx s c)):=by
 refine qj de0_ok (by simp) ?_
 have l66:loads m ⟨P,66,none⟩ 5=some (vF s):=by rw[h.arr.loads (by rw[kA];omega),qbd]
 have st1:=(St.nil hm (Ext.refl m)).row z5f
 obtain⟨m0,hm0⟩:=qh2 (Dx.newRow m z5f)
 have hm0':Dx.newRow m [.bool false,.bool false,.bool false,.bool false,zS]=m0:=hm0.symm
 rw[<-hm0]at st1
 obtain⟨m1,a1,st2,-,-⟩:=st1.fill 0 rfl (n:=5) (l':=vF s) rfl rfl (by simp[vF,okC];exact hft)
 have l:∀o,load1 m1 ⟨m.n,o,none⟩=(vF s)[o]?:=λo=>(st2.get 0 rfl).2.2.load1 o none
 have l0:=l 0;have l1:=l 1;have l2:=l 2;have l3:=l 3
 simp only[vF,List.getElem?_cons_succ,List.getElem?_cons_zero]at l0 l1 l2 l3
 have e1:=even16 hc
 have e2:=odd16 hc
 obtain⟨k,hk⟩:=qh2 (c-c%2)
 obtain⟨r,hr⟩:=qh2 (c%2)
 have hh:jx s c=(isF s k != decide (r=1)):=by unfold jx;rw[<-hk,<-hr]
 rw[<-hk]at e1
 rw[<-hr]at e2
 have hr2:((r:Int)=1)=(r=1):=propext ⟨λh=>by omega,λh=>by omega⟩
 rw[hh]
 have hk8:k=0\/k=2\/k=4\/k=6\/k=8\/k=10\/k=12\/k=14:=by omega
 have ret:∀(t:Tm) (b:Bool),b=isF s k->Tm.get 4 t=.bool (b != decide (r=1))->Ret m (λu _=>u=.bool (isF s k != decide (r=1))) (kQ [.t 4] t m1):=λt b hb ht=>qx st2.ext (by rw[ht,hb])
 rcases hk8 with rfl | rfl | rfl | rfl | rfl | rfl | rfl | rfl
 .simp[l66,qd,hm0',a1,l0,l1,l2,l3,e1,e2,hr2]
  exact ret _ s.fz rfl (by simp)
 .simp[l66,qd,hm0',a1,l0,l1,l2,l3,e1,e2,hr2]
  exact ret _ s.fc rfl (by simp)
 .simp[l66,qd,hm0',a1,l0,l1,l2,l3,e1,e2,hr2]
  exact ret _ s.fn rfl (by simp)
 .simp[l66,qd,hm0',a1,l0,l1,l2,l3,e1,e2,hr2]
  exact ret _ s.fv rfl (by simp)
 .cases hfc:s.fc with
  | true =>
   rw[hfc]at l2
   simp[l66,qd,hm0',a1,l0,l1,l2,l3,e1,e2,hr2]
   exact ret _ (!s.fz) (by simp[isF,hfc]) (by simp)
  | false =>
   rw[hfc]at l2
   simp[l66,qd,hm0',a1,l0,l1,l2,l3,e1,e2,hr2]
   exact ret _ false (by simp[isF,hfc]) (by simp)
 .simp[l66,qd,hm0',a1,l0,l1,l2,l3,e1,e2,hr2]
  exact ret _ (s.fn==s.fv) rfl (by simp)
 .cases hfc:(s.fn==s.fv) with
  | true =>
   simp[l66,qd,hm0',a1,l0,l1,l2,l3,e1,e2,hr2,hfc]
   exact ret _ (!s.fz) (by simp[isF,hfc]) (by simp)
  | false =>
   simp[l66,qd,hm0',a1,l0,l1,l2,l3,e1,e2,hr2,hfc]
   exact ret _ false (by simp[isF,hfc]) (by simp)
 .simp[l66,qd,hm0',a1,l0,l1,l2,l3,e1,e2,hr2]
  exact ret _ false rfl (by simp)
abbrev W64:Nat:=18446744073709551616
def Kb (a b:Nat):Nat:=(a+(W64-b))%W64
def vR (s:Mch)(a b:Nat)(tv:Value):Mch:={ s with fn:=decide (Kb a b/2^63=1),fz:=decide (Kb a b=0),fc:=decide (b<=a),fv:=decide (((a ^^^ b) &&& (a ^^^ Kb a b))/2^63=1),ft:=tv }
def cmpP (S:PM)(a b:Nat)(l:List Nat):PM:={ S with sc:={ vR S.sc a b kW with ft:=S.sc.ft },ft:=l }
theorem qe4 (s:Mch)(a b c d:Bool)(v:Value):over (qX s) 66 [.bool a,.bool b,.bool c,.bool d,v]=qX { s with fn:=a,fz:=b,fc:=c,fv:=d,ft:=v }:=by kernel_rfl
theorem Jo (a b:Nat):Kb a b<W64:=Nat.mod_lt _ (by decide)
theorem MX.callF {m0 m m':M}{W:List Nat}{Z:Nat->Prop}{P:Nat}{σ:List (Nat × List Value)}{s:Mch}{g:Gh}{S:PM}(h:MX m0 m W Z P σ s g S){a b:Nat}{tv:Value}{tl:List Nat}(k:Mc m m' [P])(ha:MAt m' P (vR s a b tv))(ht:Tv m0 m Z P σ s tv tl):MX m0 m' W Z P σ (vR s a b tv) g (cmpP S a b tl) :=
 h.newSets (h.owCall k ha) k.n (λX h1 h2=>k.obj X h1 (by simp;exact h2)) rfl rfl (λF hF=>by rcases six hF with rfl | rfl | rfl | rfl | rfl | rfl<;>rfl) rfl rfl (bX rfl rfl rfl rfl rfl rfl) (λk hk=>h.tvT hk) ht h.tvW (by
  show dX (vR s a b tv)={ vR S.sc a b kW with ft:=S.sc.ft }
  rw[<-h.sc];rfl)
theorem Gi (n:Nat){m:M}(hm:m.base<=m.n){P:Nat}{s:Mch}(h:MAt m P s){a b:Nat}(ha:a<W64)(hb:b<W64){tv:Value}{tl:List Nat}(ht:RS m tv tl) :
  MuC (ex Tryz.prog (n+1)) 54 [mP P,uv a,uv b,tv] m P (λ_ m'=>MAt m' P (vR s a b tv)):=by
 refine qA (Q:=λv m'=>Mc m m' [P]/\MAt m' P (vR s a b tv)) de1_ok (by simp) ?_
 have ow:=h.ow hm
 obtain⟨m',a1,b2,b3,b4⟩:=ow.storeN 0 rfl (o:=66) (n:=5) (l':=vF (vR s a b tv)) (by omega) rfl (by rw[kA];omega) (by simp[vF,vR,okC];exact ht.ok)
 rw[show vF (vR s a b tv)=[.bool (vR s a b tv).fn,.bool (vR s a b tv).fz,.bool (vR s a b tv).fc,.bool (vR s a b tv).fv,tv] from rfl,qe4]at b2
 have hd:=Jo a b
 have s1:=qd8 ha hb
 have s1:ky .sub (uv a) (uv b)=some (uv (Kb a b)):=s1
 obtain⟨d,hd'⟩:=qh2 (Kb a b)
 rw[<-hd']at s1 hd
 have sh1:shV .shr (uv d) (.int .u64 63)=some (uv (d/2^63)):=Kd (s:=63) (by omega)
 have x1:=Zm (a:=a) (b:=b) ha hb
 have x2:=Zm (a:=a) (b:=d) ha hd
 have x3:=XU (a:=a ^^^ b) (b:=a ^^^ d) (Qe ha hb) (Qe ha hd)
 have sh2:shV .shr (uv ((a ^^^ b) &&& (a ^^^ d))) (.int .u64 63)=some (uv (((a ^^^ b) &&& (a ^^^ d))/2^63)):=Kd (s:=63) (by omega)
 obtain⟨p,hp⟩:=qh2 (a ^^^ b)
 obtain⟨q,hq⟩:=qh2 (a ^^^ d)
 obtain⟨r,hr⟩:=qh2 (p &&& q)
 obtain⟨d63,hd63⟩:=qh2 (d/2^63)
 rw[<-hp]at x1
 rw[<-hq]at x2
 rw[<-hp,<-hq,<-hr]at x3 sh2
 obtain⟨r63,hr63⟩:=qh2 (r/2^63)
 rw[<-hd63]at sh1
 rw[<-hr63]at sh2
 have c1:decide (d63=1)=(vR s a b tv).fn:=by show _=decide (Kb a b/2^63=1);rw[<-hd',<-hd63]
 have c2:decide (d=0)=(vR s a b tv).fz:=by show _=decide (Kb a b=0);rw[<-hd']
 have c4:decide (r63=1)=(vR s a b tv).fv:=by show _=decide (((a ^^^ b) &&& (a ^^^ Kb a b))/2^63=1);rw[<-hd',<-hp,<-hq,<-hr,<-hr63]
 have f1:((d63:Int)=1)=(d63=1):=propext ⟨λh=>by omega,λh=>by omega⟩
 have f2:((d:Int)=0)=(d=0):=propext ⟨λh=>by omega,λh=>by omega⟩
 have f3:((b:Int)<=(a:Int))=(b<=a):=propext ⟨λh=>by omega,λh=>by omega⟩
 have f4:((r63:Int)=1)=(r63=1):=propext ⟨λh=>by omega,λh=>by omega⟩
 have bu:wN [.bool false,.bool false,.bool false,.bool false,zS] [(0,1,.bool (decide (d63=1))),(1,1,.bool (decide (d=0))),(2,1,.bool (decide (b<=a))),(3,1,.bool (decide (r63=1))),(4,1,tv)]=some (.agg ⟨vF (vR s a b tv)⟩):=by
  rw[c1,c2,c4,show decide (b<=a)=(vR s a b tv).fc from rfl]
  obtain⟨ad,k,q,e⟩:∃ad k q,tv=.slice ad k q:=by
   have:=ht.rd.len
   cases tv with
   | slice a b c=>exact⟨_,_,_,rfl⟩
   | _=>cases this
  rw[e];rfl
 simp[f1,f2,f3,f4,s1,sh1,x1,x2,x3,sh2,bu,a1]
 exact zp ⟨b2.mc,(b2.get 0 rfl).2.2,(b2.get 0 rfl).2.1⟩
end Go.Sx
namespace Go.Sx
open Go.Dx Go.Proofs
set_option maxRecDepth 10000
structure InsX (i:Ins):Prop where
 ok:Yy i
 svc:i.op=33->∃k:Nat,i.imm=(k:Int)/\k<32
 cnd:∃c:Nat,i.cond=(c:Int)/\c<16
 mov:(i.op=1\/i.op=2)->(∃k:Nat,i.imm=(k:Int)/\k<65536)/\i.cond<=3
 ari:(12<=i.op/\i.op<=15)->∃k:Nat,i.imm=(k:Int)/\k<4096/\(14<=i.op->k<64)
 far:-67108864<=i.imm/\i.imm<=67108864
def xv (op:Int)(a b k:Nat):Nat :=
 if op=3 then (a+b)%W64 else if op=4 then Kb a b else if op=5 then a &&& b else if op=6 then a|||b else if op=7 then a ^^^ b else if op=8 then a|||(18446744073709551615-b)
 else if op=9 then a*b%W64 else if op=10 then a*2^(b%64)%W64 else if op=11 then a/2^(b%64) else if op=12 then (a+k)%W64 else if op=13 then Kb a k else if op=14 then a*2^k%W64 else a/2^k
theorem FC {a k:Nat}(hk:k<64):shV .shl (uv a) (iv k)=some (uv (a*2^k%18446744073709551616)):=by
 rw[gi (by omega),qgr,Nat.min_eq_left (by show k<=64;omega),IntKind.wrap_u64]
 congr 2
theorem shr_i {a k:Nat}(hk:k<64):shV .shr (uv a) (iv k)=some (uv (a/2^k)):=by
 rw[Bn (by omega),qgr,Nat.min_eq_left (by show k<=64;omega)]
 congr 2
 rw[show ((2:Int)^k)=((2^k:Nat):Int) by push_cast;rfl,Int.ofNat_fdiv]
theorem qc9 {a b:Nat}(ha:a<18446744073709551616)(hb:b<18446744073709551616):a|||b<18446744073709551616:=by
 rw[<-pow64]at *;exact Nat.or_lt_two_pow ha hb
theorem Vb {a b:Nat}(ha:a<18446744073709551616):a &&& b<18446744073709551616:=Nat.lt_of_le_of_lt Nat.and_le_left ha
theorem Zf {op:Int}{a b k:Nat}(ha:a<W64)(hb:b<W64):xv op a b k<W64:=by
 have hdiv:∀q,a/q<W64:=λq=>Nat.lt_of_le_of_lt (Nat.div_le_self _ _) ha
 have hmod:∀q,q%W64<W64:=λq=>Nat.mod_lt _ (by decide)
 have key:∀(p:Prop) [Decidable p] (x y:Nat),x<W64->y<W64->(if p then x else y)<W64:=λp _ x y hx hy=>by
  split
  .exact hx
  .exact hy
 unfold xv
 refine key _ _ _ (hmod _) (key _ _ _ (Jo _ _) (key _ _ _ (Vb ha) (key _ _ _ (qc9 ha hb) (key _ _ _ (Qe ha hb) (key _ _ _ (qc9 ha (by omega)) (key _ _ _ (hmod _) (key _ _ _ (hmod _) (key _ _ _ (hdiv _) (key _ _ _ (hmod _) (key _ _ _ (Jo _ _) (key _ _ _ (hmod _) (hdiv _))))))))))))
theorem XC (n:Nat){m:M}(hm:m.base<=m.n){P:Nat}{s:Mch}(h:MAt m P s){i:Ins}(hi:InsX i)(hop:3<=i.op/\i.op<=15)(hv:∀k,s.v k<W64) :
  CallV (ex Tryz.prog (n+1)) 55 [mP P,.agg ⟨qv i⟩] m (uv (xv i.op (s.v i.rn.toNat) (s.v i.rm.toNat) i.imm.toNat)):=by
 refine qj de2_ok (by simp) ?_
 have st1:=(St.nil hm (Ext.refl m)).row (qv i)
 obtain⟨m0,hm0⟩:=qh2 (Dx.newRow m (qv i))
 have hb:jv (.agg ⟨qv i⟩) m=some (.pointer (some ⟨m.n,0,none⟩),m0):=by rw[hm0];rfl
 rw[<-hm0]at st1
 have h1:=h.ext st1.ext
 obtain⟨kn,hkn,hkn2⟩:=hi.ok.rn
 obtain⟨km,hkm,hkm2⟩:=hi.ok.rm
 have l0:load1 m0 ⟨m.n,0,none⟩=some (iv i.op):=(st1.get 0 rfl).2.2.load1 0 none
 have l2:load1 m0 ⟨m.n,2,none⟩=some (iv i.rn):=(st1.get 0 rfl).2.2.load1 2 none
 have l3:load1 m0 ⟨m.n,3,none⟩=some (iv i.rm):=(st1.get 0 rfl).2.2.load1 3 none
 have l4:load1 m0 ⟨m.n,4,none⟩=some (iv i.imm):=(st1.get 0 rfl).2.2.load1 4 none
 have ian:=jB P 2 hkn2
 have iam:=jB P 2 hkm2
 rw[<-hkn]at ian
 rw[<-hkm]at iam
 have lvn:load1 m0 ⟨P,2+kn,none⟩=some (uv (s.v kn)):=by rw[h1.l1,yX s hkn2]
 have lvm:load1 m0 ⟨P,2+km,none⟩=some (uv (s.v km)):=by rw[h1.l1,yX s hkm2]
 have e1:i.rn.toNat=kn:=by rw[hkn];rfl
 have e2:i.rm.toNat=km:=by rw[hkm];rfl
 rw[e1,e2]
 obtain⟨a,ha⟩:=qh2 (s.v kn)
 obtain⟨b,hbb⟩:=qh2 (s.v km)
 have ha2:a<W64:=by rw[ha];exact hv kn
 have hb2:b<W64:=by rw[hbb];exact hv km
 rw[<-ha]at lvn ⊢
 rw[<-hbb]at lvm ⊢
 obtain⟨z,hz⟩:=qh2 (xv i.op a b i.imm.toNat)
 rw[<-hz]
 by_cases h12:12<=i.op
 .obtain⟨k,hk,hk2,hk3⟩:=hi.ari ⟨h12,hop.2⟩
  have e3:i.imm.toNat=k:=by rw[hk];rfl
  rw[e3]at hz
  rw[hk]at l4
  have cu:=vt (x:=k) (by omega)
  rcases (by omega:i.op=12\/i.op=13\/i.op=14\/i.op=15) with h | h | h | h
  .rw[h]at l0 hz
   have x1:ky .add (uv a) (uv k)=some (uv z):=by rw[hz];exact qd5 a k
   simp[hb,l0,l2,l3,l4,ian,iam,lvn,lvm,cu,-zN,-zO,x1]
   exact qx st1.ext (by simp)
  .rw[h]at l0 hz
   have x1:ky .sub (uv a) (uv k)=some (uv z):=by rw[hz];exact qd8 (a:=a) (b:=k) ha2 (by omega)
   simp[hb,l0,l2,l3,l4,ian,iam,lvn,lvm,cu,-zN,-zO,x1]
   exact qx st1.ext (by simp)
  .rw[h]at l0 hz
   have x1:shV .shl (uv a) (iv k)=some (uv z):=by rw[hz];exact FC (a:=a) (k:=k) (hk3 (by omega))
   simp[hb,l0,l2,l3,l4,ian,iam,lvn,lvm,-zN,-zO,x1]
   exact qx st1.ext (by simp)
  .rw[h]at l0 hz
   have x1:shV .shr (uv a) (iv k)=some (uv z):=by rw[hz];exact shr_i (a:=a) (k:=k) (hk3 (by omega))
   simp[hb,l0,l2,l3,l4,ian,iam,lvn,lvm,-zN,-zO,x1]
   exact qx st1.ext (by simp)
 .rcases (by omega:i.op=3\/i.op=4\/i.op=5\/i.op=6\/i.op=7\/i.op=8\/i.op=9\/i.op=10\/i.op=11) with h | h | h | h | h | h | h | h | h
  .rw[h]at l0 hz
   have x1:ky .add (uv a) (uv b)=some (uv z):=by rw[hz];exact qd5 a b
   simp[hb,l0,l2,l3,l4,ian,iam,lvn,lvm,-zN,-zO,x1]
   exact qx st1.ext (by simp)
  .rw[h]at l0 hz
   have x1:ky .sub (uv a) (uv b)=some (uv z):=by rw[hz];exact qd8 ha2 hb2
   simp[hb,l0,l2,l3,l4,ian,iam,lvn,lvm,-zN,-zO,x1]
   exact qx st1.ext (by simp)
  .rw[h]at l0 hz
   have x1:ky .and (uv a) (uv b)=some (uv z):=by rw[hz];exact XU ha2 hb2
   simp[hb,l0,l2,l3,l4,ian,iam,lvn,lvm,-zN,-zO,x1]
   exact qx st1.ext (by simp)
  .rw[h]at l0 hz
   have x1:ky .or (uv a) (uv b)=some (uv z):=by rw[hz];exact u_or ha2 hb2
   simp[hb,l0,l2,l3,l4,ian,iam,lvn,lvm,-zN,-zO,x1]
   exact qx st1.ext (by simp)
  .rw[h]at l0 hz
   have x1:ky .xor (uv a) (uv b)=some (uv z):=by rw[hz];exact Zm ha2 hb2
   simp[hb,l0,l2,l3,l4,ian,iam,lvn,lvm,-zN,-zO,x1]
   exact qx st1.ext (by simp)
  .rw[h]at l0 hz
   have x0:=u_not hb2
   obtain⟨q,hq⟩:=qh2 (18446744073709551615-b)
   have x1:ky .or (uv a) (uv q)=some (uv z):=by rw[hz,hq];exact u_or (a:=a) (b:=18446744073709551615-b) ha2 (by omega)
   rw[<-hq]at x0
   simp[hb,l0,l2,l3,l4,ian,iam,lvn,lvm,x0,x1]
   exact qx st1.ext (by simp)
  .rw[h]at l0 hz
   have x1:ky .mul (uv a) (uv b)=some (uv z):=by rw[hz];exact u_mul a b
   simp[hb,l0,l2,l3,l4,ian,iam,lvn,lvm,-zN,-zO,x1]
   exact qx st1.ext (by simp)
  .rw[h]at l0 hz
   have x0:ky .rem (uv b) (.int .u64 64)=some (uv (b%64)):=u_rem (a:=b) (b:=64) (by omega)
   obtain⟨q,hq⟩:=qh2 (b%64)
   have x1:shV .shl (uv a) (uv q)=some (uv z):=by rw[hz,hq];exact qd7 (a:=a) (s:=b%64) (by omega)
   rw[<-hq]at x0
   simp[hb,l0,l2,l3,l4,ian,iam,lvn,lvm,x0,x1]
   exact qx st1.ext (by simp)
  .rw[h]at l0 hz
   have x0:ky .rem (uv b) (.int .u64 64)=some (uv (b%64)):=u_rem (a:=b) (b:=64) (by omega)
   obtain⟨q,hq⟩:=qh2 (b%64)
   have x1:shV .shr (uv a) (uv q)=some (uv z):=by rw[hz,hq];exact Kd (a:=a) (s:=b%64) (by omega)
   rw[<-hq]at x0
   simp[hb,l0,l2,l3,l4,ian,iam,lvn,lvm,x0,x1]
   exact qx st1.ext (by simp)
end Go.Sx
namespace Go.Sx
open Go.Dx Go.Proofs
set_option maxRecDepth 10000
theorem qd6 {a b:Nat}(ha:a<18446744073709551616)(hb:b<18446744073709551616):ky .andNot (uv a) (uv b)=some (uv (a &&& (18446744073709551615-b))):=by
 rw[wW]
 show some (Value.int .u64 (bits .andNot .u64 (a:Int) (b:Int)))=_
 rw[Go.u64_andNot_nat a b ha hb]
theorem qd4 (a:Int):0<=IntKind.u64.wrap a:=by rw[IntKind.wrap_u64];omega
def GI (i:Ins):Nat:=i.imm.toNat*2^(16*i.cond.toNat)%W64
def KW (old:Nat)(i:Ins):Nat:=(old &&& (18446744073709551615-65535*2^(16*i.cond.toNat)%W64))|||(i.imm.toNat*2^(16*i.cond.toNat)%W64)
def doF (S:PM)(i:Ins):PM × Int :=
 let nx:=IntKind.i64.wrap (S.sc.at_+1)
 let jp:=IntKind.i64.wrap (S.sc.at_+i.imm)
 let rd:=i.rd.toNat
 let rn:=i.rn.toNat
 let rm:=i.rm.toNat
 if i.op=18 then (S,jp)
 else if i.op=19 then ({ S with way:=uni S.way S.ft },if jx S.sc i.cond.toNat then jp else nx)
 else if i.op=20\/i.op=21 then ({ S with way:=uni S.way (S.t rd) },if (decide (S.sc.v rd=0)==decide (i.op=20)) then jp else nx)
 else if i.op=16 then (cmpP S (S.sc.v rn) (S.sc.v rm) (uni (S.t rn) (S.t rm)),nx)
 else if i.op=17 then (setRP S rd (if jx S.sc i.cond.toNat then 1 else 0) S.ft,nx)
 else if i.op=1 then (setRP S rd (GI i) [],nx)
 else if i.op=2 then (setRP S rd (KW (S.sc.v rd) i) (S.t rd),nx)
 else if i.op=28\/i.op=29 then (setRP { S with sc:={ S.sc with opn:=false } } rm 1 [],nx)
 else if i.op=32 then (S,nx)
 else (setRP S rd (xv i.op (S.sc.v rn) (S.sc.v rm) i.imm.toNat) (if i.op<12 then uni (S.t rn) (S.t rm) else S.t rn),nx)
structure InB (S:PM):Prop where
 v:∀k,S.sc.v k<W64
 t:∀k,(S.t k).length<=1000
 ft:S.ft.length<=1000
 way:S.way.length<=1000
abbrev DoR (n:Nat)(m:M)(P:Nat)(s:Mch)(g:Gh)(S:PM)(i:Ins):Prop:=MuR (ex Tryz.prog (n+31)) 31 [mP P,.agg ⟨qv i⟩] m P s g (doF S i).1 λv=>v=iv (doF S i).2
theorem qbe (s:Mch)(v:Value):(qX s).set 71 v=qX { s with way:=v }:=by kernel_rfl
section
variable {m0 m m':M}{W:List Nat}{Z:Nat->Prop}{P:Nat}{σ:List (Nat × List Value)}{s s':Mch}{g:Gh}{S S':PM}
theorem MX.wayAny (h:MX m0 m W Z P σ s g S){v:Value}{l:List Nat}(ht:Tv m0 m Z P σ s v l) :
  ∃m',qB 1 (.pointer (some ⟨P,71,none⟩)) v (qg m)=some (undef,m')/\m'.log=[P]/\MX m0 (Dx.behind m m') W Z P σ { s with way:=v } g { S with way:=l }:=by
 obtain⟨m',a,a0,b,c,d⟩:=h.ow.storeAny σ.length h.atP (o:=71) (v:=v) (by rw[kA];omega) ht.rs.ok
 rw[qbe,vm]at b
 exact⟨m',a,a0,h.newSets b (Nat.le_of_eq c.symm) (λX _ hX=>d X hX) rfl rfl (λF hF=>by rcases six hF with rfl | rfl | rfl | rfl | rfl | rfl<;>rfl) rfl rfl (bX rfl rfl rfl rfl rfl rfl) (λk hk=>h.tvT hk) h.tvF ht (by
  show dX { s with way:=v }=S.sc
  rw[<-h.sc];rfl)⟩
theorem MX.uniAny (h:MX m0 m W Z P σ s g S)(n:Nat){sv ov:Value}{sl ol:List Nat}(hs:Tv m0 m Z P σ s sv sl)(ho:RS m ov ol)(hl:sl.length+ol.length<=1000000) :
  ∃v m',(ex Tryz.prog (n+29)).f 52 [sv,ov] (qg m)=some (v,m')/\m'.log=[]/\Ext m (Dx.behind m m')/\MX m0 (Dx.behind m m') W Z P σ s g S/\Tv m0 (Dx.behind m m') Z P σ s v (uni sl ol):=by
 have any:∀{w:Value} {l:List Nat},RS m w l->RS (qg m) w l:=λ{w l} k=>k.congr (by rw[qq];exact qgg _) λB _=>qw _ _
 obtain⟨v,m',a1,a0,a2,a3,a4⟩:=qm (with_c n (qI m) (any hs.rs) (any ho) hl)
 refine⟨v,m',a1,a0,a2,h.ext a2,h.tvWith a2 hs (a3.congr (by rw[wg];exact qgg _) λB _=>qz _ _ _) λB hB=>?_⟩
 have:=a4 B hB
 rwa [qq]at this
end
theorem regs {i:Ins}(hi:InsX i):(∃k:Nat,i.rd=(k:Int)/\i.rd.toNat=k/\k<32)/\(∃k:Nat,i.rn=(k:Int)/\i.rn.toNat=k/\k<32)/\(∃k:Nat,i.rm=(k:Int)/\i.rm.toNat=k/\k<32):=by
 obtain⟨a,ha,ha2⟩:=hi.ok.rd
 obtain⟨b,hb,hb2⟩:=hi.ok.rn
 obtain⟨c,hc,hc2⟩:=hi.ok.rm
 exact⟨⟨a,ha,by rw[ha];rfl,ha2⟩,⟨b,hb,by rw[hb];rfl,hb2⟩,⟨c,hc,by rw[hc];rfl,hc2⟩⟩
theorem cnd {i:Ins}(hi:InsX i):∃c:Nat,i.cond=(c:Int)/\i.cond.toNat=c/\c<16:=by
 obtain⟨c,hc,hc2⟩:=hi.cnd
 exact⟨c,hc,by rw[hc];rfl,hc2⟩
theorem xJ {n:Nat}{m:M}{P:Nat}{s:Mch}{g:Gh}{S:PM}(h:ML m P s g S){i:Ins}(hi:InsX i)
  (H:∀(rd rn rm cc:Nat) (nx jp:Int) (m0:M),i.rd=(rd:Int)->i.rd.toNat=rd->rd<32->i.rn=(rn:Int)->i.rn.toNat=rn->rn<32->i.rm=(rm:Int)->i.rm.toNat=rm->rm<32->i.cond=(cc:Int)->i.cond.toNat=cc->cc<16 ->
   MX m m0 (own P s) (Sh s g) P [(m.n,qv i)] s g S->jv (.agg ⟨qv i⟩) m=some (.pointer (some ⟨m.n,0,none⟩),m0)->s.v=S.sc.v->load1 m0 ⟨P,1,none⟩=some (iv S.sc.at_) ->
   (∀{mq:M} {sq:Mch} {gq:Gh} {Sq:PM} (hq:MX m mq (own P s) (Sh s g) P [(m.n,qv i)] sq gq Sq) (o:Nat),load1 mq ⟨m.n,o,none⟩=(qv i)[o]?) ->
   load1 m0 ⟨m.n,0,none⟩=some (iv i.op)->load1 m0 ⟨m.n,4,none⟩=some (iv i.imm)->nx=IntKind.i64.wrap (S.sc.at_+1)->jp=IntKind.i64.wrap (S.sc.at_+i.imm) ->
   ∃v m',(ex Tryz.prog (n+31)).f 31 [mP P,.agg ⟨qv i⟩] m=some (v,m')/\v=iv (doF S i).2/\∃s' g',Res m m' P s g s' g' (doF S i).1):DoR n m P s g S i:=by
 obtain⟨⟨rd,hrd,erd,hrd2⟩,⟨rn,hrn,ern,hrn2⟩,⟨rm,hrm,erm,hrm2⟩⟩:=regs hi
 obtain⟨cc,hcc,ecc,hcc2⟩:=cnd hi
 have hx0:=h.mx.row (qv i)
 have I:∀{mq:M} {sq:Mch} {gq:Gh} {Sq:PM} (hq:MX m mq (own P s) (Sh s g) P [(m.n,qv i)] sq gq Sq) (o:Nat),load1 mq ⟨m.n,o,none⟩=(qv i)[o]?:=λhq o=>(hq.ow.get 0 rfl).2.2.load1 o none
 obtain⟨v,m',h1,h2,s',g',h3⟩:=H rd rn rm cc _ _ _ hrd erd hrd2 hrn ern hrn2 hrm erm hrm2 hcc ecc hcc2 hx0 rfl (by rw[<-h.sc];rfl) (by
  have e:s.at_=S.sc.at_:=by rw[<-h.sc];rfl
  rw[<-e];exact hx0.ld 1) I (I hx0 0) (I hx0 4) rfl rfl
 exact⟨v,m',s',g',h1,h3,h2⟩
theorem do_B (n:Nat){m:M}{P:Nat}{s:Mch}{g:Gh}{S:PM}(h:ML m P s g S)(hb:InB S){i:Ins}(hi:InsX i)(hop:i.op=18):DoR n m P s g S i:=by
 refine xJ h hi λrd rn rm cc nx jp m0 hrd erd hrd2 hrn ern hrn2 hrm erm hrm2 hcc ecc hcc2 hx0 hbx hsv l1 I l0 l4 hnx hjp=>qA xI (by simp) ?_
 have hF:doF S i=(S,jp):=by unfold doF;rw[if_pos hop,hjp]
 rw[hF]
 rw[hop]at l0
 simp[hbx,l1,l0,l4,<-hnx,<-hjp]
 exact wO ⟨by simp,s,g,hx0.res⟩
theorem do_N (n:Nat){m:M}{P:Nat}{s:Mch}{g:Gh}{S:PM}(h:ML m P s g S)(hb:InB S){i:Ins}(hi:InsX i)(hop:i.op=32):DoR n m P s g S i:=by
 refine xJ h hi λrd rn rm cc nx jp m0 hrd erd hrd2 hrn ern hrn2 hrm erm hrm2 hcc ecc hcc2 hx0 hbx hsv l1 I l0 l4 hnx hjp=>qA xI (by simp) ?_
 have hF:doF S i=(S,nx):=by unfold doF;simp only[hop];rw[hnx];rfl
 rw[hF]
 rw[hop]at l0
 simp[hbx,l1,l0,l4,<-hnx,<-hjp]
 exact wO ⟨by simp,s,g,hx0.res⟩
theorem do_C (n:Nat){m:M}{P:Nat}{s:Mch}{g:Gh}{S:PM}(h:ML m P s g S)(hb:InB S){i:Ins}(hi:InsX i)(hop:i.op=19):DoR n m P s g S i:=by
 refine xJ h hi λrd rn rm cc nx jp m0 hrd erd hrd2 hrn ern hrn2 hrm erm hrm2 hcc ecc hcc2 hx0 hbx hsv l1 I l0 l4 hnx hjp=>qA xI (by simp) ?_
 have hF:doF S i=({ S with way:=uni S.way S.ft },if jx S.sc cc then jp else nx):=by unfold doF;simp only[hop,ecc];rw[hnx,hjp];rfl
 rw[hF]
 rw[hop]at l0
 have l71:load1 m0 ⟨P,71,none⟩=some s.way:=hx0.ld 71
 have l70:load1 m0 ⟨P,70,none⟩=some s.ft:=hx0.ld 70
 obtain⟨v2,m2,a1,a0,a2,hx2,tv2⟩:=hx0.uniAny (n+1) hx0.tvW hx0.hp.ft (by have:=hb.way;have:=hb.ft;omega)
 obtain⟨M2,hM2⟩:=qh2 (Dx.behind m0 m2)
 rw[<-hM2]at hx2 tv2
 obtain⟨m3,b1,b0,hx3⟩:=hx2.wayAny tv2
 obtain⟨M3,hM3⟩:=qh2 (Dx.behind M2 m3)
 rw[<-hM3]at hx3
 have l5:load1 M3 ⟨m.n,5,none⟩=some (iv i.cond):=I hx3 5
 rw[hcc]at l5
 obtain⟨v4,m4,c1,c2,rfl⟩:=YV (n+29) hx3.mb hx3.mat (hx3.hp.ft.ok) hcc2
 have hx4:=hx3.ext c2
 have hho:jx { s with way:=v2 } cc=jx S.sc cc:=by rw[<-h.sc];rfl
 rw[hho]at c1
 cases hc:jx S.sc cc with
 | true =>
  rw[hc]at c1
  simp[hbx,l1,l0,l4,<-hnx,<-hjp,l71,l70,a1,a0,<-hM2,b1,b0,<-hM3,l5,c1]
  exact wO ⟨by simp,_,_,hx4.res⟩
 | false =>
  rw[hc]at c1
  simp[hbx,l1,l0,l4,<-hnx,<-hjp,l71,l70,a1,a0,<-hM2,b1,b0,<-hM3,l5,c1]
  exact wO ⟨by simp,_,_,hx4.res⟩
theorem do_Z (n:Nat){m:M}{P:Nat}{s:Mch}{g:Gh}{S:PM}(h:ML m P s g S)(hb:InB S){i:Ins}(hi:InsX i)(hop:i.op=20):DoR n m P s g S i:=by
 refine xJ h hi λrd rn rm cc nx jp m0 hrd erd hrd2 hrn ern hrn2 hrm erm hrm2 hcc ecc hcc2 hx0 hbx hsv l1 I l0 l4 hnx hjp=>qA xI (by simp) ?_
 have hF:doF S i=({ S with way:=uni S.way (S.t rd) },if (decide (S.sc.v rd=0)==true) then jp else nx):=by unfold doF;simp only[hop,erd];rw[hnx,hjp];rfl
 rw[hF]
 rw[hop]at l0
 have l71:load1 m0 ⟨P,71,none⟩=some s.way:=hx0.ld 71
 have l1i:load1 m0 ⟨m.n,1,none⟩=some (iv i.rd):=I hx0 1
 have itrd:=jB P 34 hrd2
 rw[<-hrd]at itrd
 have ltrd:load1 m0 ⟨P,34+rd,none⟩=some (s.t rd):=by rw[hx0.ld,gh s hrd2]
 obtain⟨v2,m2,a1,a0,a2,hx2,tv2⟩:=hx0.uniAny (n+1) hx0.tvW (hx0.hp.t rd hrd2) (by have:=hb.way;have:=hb.t rd;omega)
 obtain⟨M2,hM2⟩:=qh2 (Dx.behind m0 m2)
 rw[<-hM2]at hx2 tv2
 obtain⟨m3,b1,b0,hx3⟩:=hx2.wayAny tv2
 obtain⟨M3,hM3⟩:=qh2 (Dx.behind M2 m3)
 rw[<-hM3]at hx3
 have k1:load1 M3 ⟨m.n,1,none⟩=some (iv i.rd):=I hx3 1
 have k0:load1 M3 ⟨m.n,0,none⟩=some (iv i.op):=I hx3 0
 rw[hop]at k0
 have iard:=jB P 2 hrd2
 rw[<-hrd]at iard
 have lvrd:load1 M3 ⟨P,2+rd,none⟩=some (uv (S.sc.v rd)):=by rw[hx3.ld,yX _ hrd2,<-hsv]
 by_cases hz:S.sc.v rd=0
 .rw[hz]at lvrd
  simp[hbx,l1,l0,l4,l1i,<-hnx,<-hjp,l71,itrd,ltrd,a1,a0,<-hM2,b1,b0,<-hM3,k1,k0,iard,lvrd]
  exact wO ⟨by simp[hz],_,_,hx3.res⟩
 .have hz':(((S.sc.v rd:Nat):Int)=0)=False:=eq_false (by omega)
  obtain⟨x,hx⟩:=qh2 (S.sc.v rd)
  rw[<-hx]at lvrd hz'
  have hz2:(x=0)=False:=eq_false (by rw[hx];exact hz)
  simp[hbx,l1,l0,l4,l1i,<-hnx,<-hjp,l71,itrd,ltrd,a1,a0,<-hM2,b1,b0,<-hM3,k1,k0,iard,lvrd,hz',hz2]
  exact wO ⟨by simp[hz],_,_,hx3.res⟩
theorem do_Y (n:Nat){m:M}{P:Nat}{s:Mch}{g:Gh}{S:PM}(h:ML m P s g S)(hb:InB S){i:Ins}(hi:InsX i)(hop:i.op=21):DoR n m P s g S i:=by
 refine xJ h hi λrd rn rm cc nx jp m0 hrd erd hrd2 hrn ern hrn2 hrm erm hrm2 hcc ecc hcc2 hx0 hbx hsv l1 I l0 l4 hnx hjp=>qA xI (by simp) ?_
 have hF:doF S i=({ S with way:=uni S.way (S.t rd) },if (decide (S.sc.v rd=0)==false) then jp else nx):=by unfold doF;simp only[hop,erd];rw[hnx,hjp];rfl
 rw[hF]
 rw[hop]at l0
 have l71:load1 m0 ⟨P,71,none⟩=some s.way:=hx0.ld 71
 have l1i:load1 m0 ⟨m.n,1,none⟩=some (iv i.rd):=I hx0 1
 have itrd:=jB P 34 hrd2
 rw[<-hrd]at itrd
 have ltrd:load1 m0 ⟨P,34+rd,none⟩=some (s.t rd):=by rw[hx0.ld,gh s hrd2]
 obtain⟨v2,m2,a1,a0,a2,hx2,tv2⟩:=hx0.uniAny (n+1) hx0.tvW (hx0.hp.t rd hrd2) (by have:=hb.way;have:=hb.t rd;omega)
 obtain⟨M2,hM2⟩:=qh2 (Dx.behind m0 m2)
 rw[<-hM2]at hx2 tv2
 obtain⟨m3,b1,b0,hx3⟩:=hx2.wayAny tv2
 obtain⟨M3,hM3⟩:=qh2 (Dx.behind M2 m3)
 rw[<-hM3]at hx3
 have k1:load1 M3 ⟨m.n,1,none⟩=some (iv i.rd):=I hx3 1
 have k0:load1 M3 ⟨m.n,0,none⟩=some (iv i.op):=I hx3 0
 rw[hop]at k0
 have iard:=jB P 2 hrd2
 rw[<-hrd]at iard
 have lvrd:load1 M3 ⟨P,2+rd,none⟩=some (uv (S.sc.v rd)):=by rw[hx3.ld,yX _ hrd2,<-hsv]
 by_cases hz:S.sc.v rd=0
 .rw[hz]at lvrd
  simp[hbx,l1,l0,l4,l1i,<-hnx,<-hjp,l71,itrd,ltrd,a1,a0,<-hM2,b1,b0,<-hM3,k1,k0,iard,lvrd]
  exact wO ⟨by simp[hz],_,_,hx3.res⟩
 .have hz':(((S.sc.v rd:Nat):Int)=0)=False:=eq_false (by omega)
  obtain⟨x,hx⟩:=qh2 (S.sc.v rd)
  rw[<-hx]at lvrd hz'
  have hz2:(x=0)=False:=eq_false (by rw[hx];exact hz)
  simp[hbx,l1,l0,l4,l1i,<-hnx,<-hjp,l71,itrd,ltrd,a1,a0,<-hM2,b1,b0,<-hM3,k1,k0,iard,lvrd,hz',hz2]
  exact wO ⟨by simp[hz],_,_,hx3.res⟩
theorem do_M (n:Nat){m:M}{P:Nat}{s:Mch}{g:Gh}{S:PM}(h:ML m P s g S)(hb:InB S){i:Ins}(hi:InsX i)(hop:i.op=16):DoR n m P s g S i:=by
 refine xJ h hi λrd rn rm cc nx jp m0 hrd erd hrd2 hrn ern hrn2 hrm erm hrm2 hcc ecc hcc2 hx0 hbx hsv l1 I l0 l4 hnx hjp=>qA xI (by simp) ?_
 have hF:doF S i=(cmpP S (S.sc.v rn) (S.sc.v rm) (uni (S.t rn) (S.t rm)),nx):=by unfold doF;simp only[hop,ern,erm];rw[hnx];rfl
 rw[hF]
 rw[hop]at l0
 have l2i:load1 m0 ⟨m.n,2,none⟩=some (iv i.rn):=I hx0 2
 have l3i:load1 m0 ⟨m.n,3,none⟩=some (iv i.rm):=I hx0 3
 have iarn:=jB P 2 hrn2
 rw[<-hrn]at iarn
 have lvrn:load1 m0 ⟨P,2+rn,none⟩=some (uv (S.sc.v rn)):=by rw[hx0.ld,yX s hrn2,hsv]
 have iarm:=jB P 2 hrm2
 rw[<-hrm]at iarm
 have lvrm:load1 m0 ⟨P,2+rm,none⟩=some (uv (S.sc.v rm)):=by rw[hx0.ld,yX s hrm2,hsv]
 have itrn:=jB P 34 hrn2
 rw[<-hrn]at itrn
 have ltrn:load1 m0 ⟨P,34+rn,none⟩=some (s.t rn):=by rw[hx0.ld,gh s hrn2]
 have itrm:=jB P 34 hrm2
 rw[<-hrm]at itrm
 have ltrm:load1 m0 ⟨P,34+rm,none⟩=some (s.t rm):=by rw[hx0.ld,gh s hrm2]
 obtain⟨v2,m2,a1,a0,a2,hx2,tv2⟩:=hx0.uniAny (n+1) (hx0.tvT hrn2) (hx0.hp.t rm hrm2) (by have:=hb.t rn;have:=hb.t rm;omega)
 obtain⟨M2,hM2⟩:=qh2 (Dx.behind m0 m2)
 rw[<-hM2]at hx2 tv2
 obtain⟨v3,m3,b1,b2,b3⟩:=Gi (n+29) (qI M2) hx2.matAny (a:=S.sc.v rn) (b:=S.sc.v rm) (hb.v rn) (hb.v rm) (tv:=v2) (tl:=uni (S.t rn) (S.t rm)) (tv2.rs.congr (by rw[qq];exact qgg _) λB _=>qw _ _)
 have hx3:=hx2.callF b2.behind ⟨b3.arr.congr (qz _ _ _),by rw[wg];exact b3.lt⟩ tv2
 simp[hbx,l1,l0,l4,l2i,l3i,<-hnx,<-hjp,iarn,iarm,itrn,itrm,lvrn,lvrm,ltrn,ltrm,a1,a0,<-hM2,b1]
 exact wO ⟨by simp,_,_,hx3.res⟩
theorem do_S (n:Nat){m:M}{P:Nat}{s:Mch}{g:Gh}{S:PM}(h:ML m P s g S)(hb:InB S){i:Ins}(hi:InsX i)(hop:i.op=17):DoR n m P s g S i:=by
 refine xJ h hi λrd rn rm cc nx jp m0 hrd erd hrd2 hrn ern hrn2 hrm erm hrm2 hcc ecc hcc2 hx0 hbx hsv l1 I l0 l4 hnx hjp=>qA xI (by simp) ?_
 have hF:doF S i=(setRP S rd (if jx S.sc cc then 1 else 0) S.ft,nx):=by unfold doF;simp only[hop,erd,ecc];rw[hnx];rfl
 rw[hF]
 rw[hop]at l0
 have l5:load1 m0 ⟨m.n,5,none⟩=some (iv i.cond):=I hx0 5
 rw[hcc]at l5
 obtain⟨v4,m4,c1,c2,rfl⟩:=YV (n+29) hx0.mb hx0.mat (hx0.hp.ft.ok) hcc2
 have hx4:=hx0.ext c2
 have hho:jx s cc=jx S.sc cc:=by rw[<-h.sc];rfl
 rw[hho]at c1
 have l1i:load1 m4 ⟨m.n,1,none⟩=some (iv rd):=by rw[I hx4 1,<-hrd];rfl
 have l70:load1 m4 ⟨P,70,none⟩=some s.ft:=hx4.ld 70
 cases hc:jx S.sc cc with
 | true =>
  rw[hc]at c1
  obtain⟨v5,m5,d1,hx5⟩:=hx4.regAny (n+29) hrd2 1 hx4.tvF
  have d1:(ex Tryz.prog (n+30)).f 37 [.pointer (some ⟨P,2,none⟩),iv rd,.int .u64 1,s.ft] (qg m4)=some (v5,m5):=d1
  simp[hbx,l1,l0,l4,<-hnx,<-hjp,l5,c1,l1i,l70,d1]
  exact wO ⟨by simp,_,_,hx5.res⟩
 | false =>
  rw[hc]at c1
  obtain⟨v5,m5,d1,hx5⟩:=hx4.regAny (n+29) hrd2 0 hx4.tvF
  have d1:(ex Tryz.prog (n+30)).f 37 [.pointer (some ⟨P,2,none⟩),iv rd,zU,s.ft] (qg m4)=some (v5,m5):=d1
  simp[hbx,l1,l0,l4,<-hnx,<-hjp,l5,c1,l1i,l70,d1]
  exact wO ⟨by simp,_,_,hx5.res⟩
theorem do_V (n:Nat){m:M}{P:Nat}{s:Mch}{g:Gh}{S:PM}(h:ML m P s g S)(hb:InB S){i:Ins}(hi:InsX i)(hop:i.op=1):DoR n m P s g S i:=by
 refine xJ h hi λrd rn rm cc nx jp m0 hrd erd hrd2 hrn ern hrn2 hrm erm hrm2 hcc ecc hcc2 hx0 hbx hsv l1 I l0 l4 hnx hjp=>qA xI (by simp) ?_
 have hF:doF S i=(setRP S rd (GI i) [],nx):=by unfold doF;simp only[hop,erd];rw[hnx];rfl
 rw[hF]
 obtain⟨⟨q,hq,hq2⟩,hc3⟩:=hi.mov (.inl hop)
 rw[hop]at l0
 have l4:load1 m0 ⟨m.n,4,none⟩=some (iv q):=by rw[<-hq];exact l4
 have hjp:jp=IntKind.i64.wrap (S.sc.at_+(q:Int)):=by rw[hjp,hq]
 have l5:load1 m0 ⟨m.n,5,none⟩=some (iv cc):=by rw[<-hcc];exact I hx0 5
 have l1i:load1 m0 ⟨m.n,1,none⟩=some (iv rd):=by rw[<-hrd];exact I hx0 1
 have cu:=vt (x:=q) (by omega)
 have w16:IntKind.i64.wrap (16*(cc:Int))=((16*cc:Nat):Int):=qD (by omega) (by omega)
 obtain⟨k,hk⟩:=qh2 (16*cc)
 rw[<-hk]at w16
 have sh:shV .shl (uv q) (iv k)=some (uv (GI i)):=by
  rw[FC (by omega)]
  unfold GI
  rw[hk,ecc,hq];rfl
 obtain⟨x,hx⟩:=qh2 (GI i)
 rw[<-hx]at sh ⊢
 obtain⟨v5,m5,d1,hx5⟩:=hx0.regAny (n+29) hrd2 x Tv.nil
 simp[hbx,l1,l0,l4,<-hnx,<-hjp,l5,l1i,cu,jQ,w16,sh,d1]
 exact wO ⟨by simp,_,_,hx5.res⟩
theorem do_K (n:Nat){m:M}{P:Nat}{s:Mch}{g:Gh}{S:PM}(h:ML m P s g S)(hb:InB S){i:Ins}(hi:InsX i)(hop:i.op=2):DoR n m P s g S i:=by
 refine xJ h hi λrd rn rm cc nx jp m0 hrd erd hrd2 hrn ern hrn2 hrm erm hrm2 hcc ecc hcc2 hx0 hbx hsv l1 I l0 l4 hnx hjp=>qA xI (by simp) ?_
 have hF:doF S i=(setRP S rd (KW (S.sc.v rd) i) (S.t rd),nx):=by unfold doF;simp only[hop,erd];rw[hnx];rfl
 rw[hF]
 obtain⟨⟨q,hq,hq2⟩,hc3⟩:=hi.mov (.inr hop)
 rw[hop]at l0
 have l4:load1 m0 ⟨m.n,4,none⟩=some (iv q):=by rw[<-hq];exact l4
 have hjp:jp=IntKind.i64.wrap (S.sc.at_+(q:Int)):=by rw[hjp,hq]
 have l5:load1 m0 ⟨m.n,5,none⟩=some (iv cc):=by rw[<-hcc];exact I hx0 5
 have l1i:load1 m0 ⟨m.n,1,none⟩=some (iv i.rd):=I hx0 1
 have iard:=jB P 2 hrd2
 rw[<-hrd]at iard
 have lvrd:load1 m0 ⟨P,2+rd,none⟩=some (uv (S.sc.v rd)):=by rw[hx0.ld,yX s hrd2,hsv]
 have itrd:=jB P 34 hrd2
 rw[<-hrd]at itrd
 have ltrd:load1 m0 ⟨P,34+rd,none⟩=some (s.t rd):=by rw[hx0.ld,gh s hrd2]
 have cu:=vt (x:=q) (by omega)
 have w16:IntKind.i64.wrap (16*(cc:Int))=((16*cc:Nat):Int):=qD (by omega) (by omega)
 obtain⟨k,hk⟩:=qh2 (16*cc)
 rw[<-hk]at w16
 have hkl:k<64:=by omega
 obtain⟨a1,ha1⟩:=qh2 (65535*2^k%W64)
 obtain⟨a2,ha2⟩:=qh2 (q*2^k%W64)
 have ha1l:a1<W64:=by rw[ha1];exact Nat.mod_lt _ (by decide)
 have ha2l:a2<W64:=by rw[ha2];exact Nat.mod_lt _ (by decide)
 have sh1:shV .shl (.int .u64 65535) (iv k)=some (uv a1):=by rw[ha1];exact FC (a:=65535) hkl
 have sh2:shV .shl (uv q) (iv k)=some (uv a2):=by rw[ha2];exact FC hkl
 have an:=qd6 (a:=S.sc.v rd) (b:=a1) (hb.v rd) ha1l
 obtain⟨a3,ha3⟩:=qh2 (S.sc.v rd &&& (18446744073709551615-a1))
 have ha3l:a3<W64:=by rw[ha3];exact Vb (hb.v rd)
 rw[<-ha3]at an
 have orr:=u_or (a:=a3) (b:=a2) ha3l ha2l
 have hm:KW (S.sc.v rd) i=a3|||a2:=by unfold KW;rw[ha3,ha2,ha1,hk,ecc,hq];rfl
 obtain⟨x,hx⟩:=qh2 (KW (S.sc.v rd) i)
 rw[<-hm,<-hx]at orr
 rw[<-hx]
 obtain⟨v5,m5,d1,hx5⟩:=hx0.regAny (n+29) hrd2 x (hx0.tvT hrd2)
 rw[<-hrd]at d1
 simp[hbx,l1,l0,l4,<-hnx,<-hjp,l5,l1i,iard,itrd,lvrd,ltrd,cu,jQ,w16,sh1,sh2,an,orr,d1]
 exact wO ⟨by simp,_,_,hx5.res⟩
theorem do_X (n:Nat){m:M}{P:Nat}{s:Mch}{g:Gh}{S:PM}(h:ML m P s g S)(hb:InB S){i:Ins}(hi:InsX i)(hop:i.op=28\/i.op=29):DoR n m P s g S i:=by
 refine xJ h hi λrd rn rm cc nx jp m0 hrd erd hrd2 hrn ern hrn2 hrm erm hrm2 hcc ecc hcc2 hx0 hbx hsv l1 I l0 l4 hnx hjp=>qA xI (by simp) ?_
 have hF:doF S i=(setRP { S with sc:={ S.sc with opn:=false } } rm 1 [],nx):=by unfold doF;rcases hop with hop | hop<;>(simp only[hop,erm];rw[hnx];rfl)
 rw[hF]
 have l3i:load1 m0 ⟨m.n,3,none⟩=some (iv i.rm):=I hx0 3
 obtain⟨m2,a1,hx2,-⟩:=hx0.set (o:=72) (v:=.bool false) (by omega) rfl (bH s false) (S':={ S with sc:={ S.sc with opn:=false } }) ⟨rfl,rfl,rfl,rfl,rfl,λF hF=>by rcases six hF with rfl | rfl | rfl | rfl | rfl | rfl<;>rfl,rfl,rfl,rfl,rfl,rfl,λF hF=>by rcases six hF with rfl | rfl | rfl | rfl | rfl | rfl<;>rfl⟩ (by
  show dX { s with opn:=false }={ S.sc with opn:=false }
  rw[<-h.sc];rfl)
 have k3:load1 m2 ⟨m.n,3,none⟩=some (iv rm):=by rw[<-hrm];exact I hx2 3
 obtain⟨v5,m5,d1,hx5⟩:=hx2.regAny (n+29) hrm2 1 Tv.nil
 have d1:(ex Tryz.prog (n+30)).f 37 [.pointer (some ⟨P,2,none⟩),iv rm,.int .u64 1,zS] (qg m2)=some (v5,m5):=d1
 rcases hop with hop | hop
 .rw[hop]at l0
  simp[hbx,l1,l0,l4,<-hnx,<-hjp,a1,k3,d1]
  exact wO ⟨by simp,_,_,hx5.res⟩
 .rw[hop]at l0
  simp[hbx,l1,l0,l4,<-hnx,<-hjp,a1,k3,d1]
  exact wO ⟨by simp,_,_,hx5.res⟩
theorem do_R (n:Nat){m:M}{P:Nat}{s:Mch}{g:Gh}{S:PM}(h:ML m P s g S)(hb:InB S){i:Ins}(hi:InsX i)(hop:3<=i.op/\i.op<=11):DoR n m P s g S i:=by
 refine xJ h hi λrd rn rm cc nx jp m0 hrd erd hrd2 hrn ern hrn2 hrm erm hrm2 hcc ecc hcc2 hx0 hbx hsv l1 I l0 l4 hnx hjp=>qA xI (by simp) ?_
 obtain⟨op,hopv⟩:∃op:Nat,i.op=(op:Int):=⟨i.op.toNat,by omega⟩
 obtain⟨rv,hrv⟩:=qh2 (xv i.op (S.sc.v rn) (S.sc.v rm) i.imm.toNat)
 have hF:doF S i=(setRP S rd rv (uni (S.t rn) (S.t rm)),nx):=by
  unfold doF
  simp only[erd,ern,erm]
  rw[if_neg (by omega),if_neg (by omega),if_neg (by omega),if_neg (by omega),if_neg (by omega),if_neg (by omega),if_neg (by omega),if_neg (by omega),if_neg (by omega),if_pos (by omega),hnx,hrv]
 rw[hF]
 have l2i:load1 m0 ⟨m.n,2,none⟩=some (iv i.rn):=I hx0 2
 have itrn:=jB P 34 hrn2
 rw[<-hrn]at itrn
 have ltrn:load1 m0 ⟨P,34+rn,none⟩=some (s.t rn):=by rw[hx0.ld,gh s hrn2]
 have n1:(i.op=18)=False:=eq_false (by omega)
 have n2:(i.op=19)=False:=eq_false (by omega)
 have n3:(i.op=20)=False:=eq_false (by omega)
 have n4:(i.op=21)=False:=eq_false (by omega)
 have n5:(i.op=16)=False:=eq_false (by omega)
 have n6:(i.op=17)=False:=eq_false (by omega)
 have n7:(i.op=1)=False:=eq_false (by omega)
 have n8:(i.op=2)=False:=eq_false (by omega)
 have n9:(i.op=28)=False:=eq_false (by omega)
 have n10:(i.op=29)=False:=eq_false (by omega)
 have n11:(i.op=32)=False:=eq_false (by omega)
 have d12:(i.op<12)=True:=eq_true (by omega)
 have l3i:load1 m0 ⟨m.n,3,none⟩=some (iv i.rm):=I hx0 3
 have itrm:=jB P 34 hrm2
 rw[<-hrm]at itrm
 have ltrm:load1 m0 ⟨P,34+rm,none⟩=some (s.t rm):=by rw[hx0.ld,gh s hrm2]
 obtain⟨v2,m2,a1,a0,a2,hx2,tv2⟩:=hx0.uniAny (n+1) (hx0.tvT hrn2) (hx0.hp.t rm hrm2) (by have:=hb.t rn;have:=hb.t rm;omega)
 obtain⟨M2,hM2⟩:=qh2 (Dx.behind m0 m2)
 rw[<-hM2]at hx2 tv2
 have k1:load1 M2 ⟨m.n,1,none⟩=some (iv i.rd):=I hx2 1
 have k6:loads M2 ⟨m.n,0,none⟩ 6=some (qv i):=(hx2.ow.get 0 rfl).2.2.loads (o:=0) (n:=6) (by simp[qv])
 obtain⟨v3,m3,b1,b0,b2,rfl⟩:=qm (XC (n+29) (qI M2) hx2.matAny hi ⟨by omega,by omega⟩ (by rw[hsv];exact hb.v))
 rw[hsv,ern,erm,<-hrv]at b1
 obtain⟨M3,hM3⟩:=qh2 (Dx.behind M2 m3)
 rw[<-hM3]at b2
 have hx3:=hx2.ext b2
 have tv3:=tv2.ext hx2.mb b2
 obtain⟨v5,m5,d1,hx5⟩:=hx3.regAny (n+29) hrd2 rv tv3
 rw[<-hrd]at d1
 simp[hbx,l1,l0,l4,<-hnx,<-hjp,n1,n2,n3,n4,n5,n6,n7,n8,n9,n10,n11,d12,l2i,itrn,ltrn,a1,a0,<-hM2,l3i,itrm,ltrm,k1,qd,k6,b1,b0,<-hM3,d1]
 exact wO ⟨by simp,_,_,hx5.res⟩
theorem do_I (n:Nat){m:M}{P:Nat}{s:Mch}{g:Gh}{S:PM}(h:ML m P s g S)(hb:InB S){i:Ins}(hi:InsX i)(hop:12<=i.op/\i.op<=15):DoR n m P s g S i:=by
 refine xJ h hi λrd rn rm cc nx jp m0 hrd erd hrd2 hrn ern hrn2 hrm erm hrm2 hcc ecc hcc2 hx0 hbx hsv l1 I l0 l4 hnx hjp=>qA xI (by simp) ?_
 obtain⟨op,hopv⟩:∃op:Nat,i.op=(op:Int):=⟨i.op.toNat,by omega⟩
 obtain⟨rv,hrv⟩:=qh2 (xv i.op (S.sc.v rn) (S.sc.v rm) i.imm.toNat)
 have hF:doF S i=(setRP S rd rv (S.t rn),nx):=by
  unfold doF
  simp only[erd,ern,erm]
  rw[if_neg (by omega),if_neg (by omega),if_neg (by omega),if_neg (by omega),if_neg (by omega),if_neg (by omega),if_neg (by omega),if_neg (by omega),if_neg (by omega),if_neg (by omega),hnx,hrv]
 rw[hF]
 have l2i:load1 m0 ⟨m.n,2,none⟩=some (iv i.rn):=I hx0 2
 have itrn:=jB P 34 hrn2
 rw[<-hrn]at itrn
 have ltrn:load1 m0 ⟨P,34+rn,none⟩=some (s.t rn):=by rw[hx0.ld,gh s hrn2]
 have n1:(i.op=18)=False:=eq_false (by omega)
 have n2:(i.op=19)=False:=eq_false (by omega)
 have n3:(i.op=20)=False:=eq_false (by omega)
 have n4:(i.op=21)=False:=eq_false (by omega)
 have n5:(i.op=16)=False:=eq_false (by omega)
 have n6:(i.op=17)=False:=eq_false (by omega)
 have n7:(i.op=1)=False:=eq_false (by omega)
 have n8:(i.op=2)=False:=eq_false (by omega)
 have n9:(i.op=28)=False:=eq_false (by omega)
 have n10:(i.op=29)=False:=eq_false (by omega)
 have n11:(i.op=32)=False:=eq_false (by omega)
 have d12:(i.op<12)=False:=eq_false (by omega)
 have k1:load1 m0 ⟨m.n,1,none⟩=some (iv i.rd):=I hx0 1
 have k6:loads m0 ⟨m.n,0,none⟩ 6=some (qv i):=(hx0.ow.get 0 rfl).2.2.loads (o:=0) (n:=6) (by simp[qv])
 obtain⟨v3,m3,b1,b0,b2,rfl⟩:=qm (XC (n+29) (qI m0) hx0.matAny hi ⟨by omega,by omega⟩ (by rw[hsv];exact hb.v))
 rw[hsv,ern,erm,<-hrv]at b1
 obtain⟨M3,hM3⟩:=qh2 (Dx.behind m0 m3)
 rw[<-hM3]at b2
 have hx3:=hx0.ext b2
 have tv3:=hx3.tvT hrn2
 obtain⟨v5,m5,d1,hx5⟩:=hx3.regAny (n+29) hrd2 rv tv3
 rw[<-hrd]at d1
 simp[hbx,l1,l0,l4,<-hnx,<-hjp,n1,n2,n3,n4,n5,n6,n7,n8,n9,n10,n11,d12,l2i,itrn,ltrn,k1,qd,k6,b1,b0,<-hM3,d1]
 exact wO ⟨by simp,_,_,hx5.res⟩
theorem do_c (n:Nat){m:M}{P:Nat}{s:Mch}{g:Gh}{S:PM}(h:ML m P s g S)(hb:InB S){i:Ins}(hi:InsX i)(hop:i.op<=21\/i.op=28\/i.op=29\/i.op=32):DoR n m P s g S i:=by
 have:=hi.ok.op
 by_cases h1:i.op=18;· exact do_B n h hb hi h1
 by_cases h2:i.op=32;· exact do_N n h hb hi h2
 by_cases h3:i.op=19;· exact do_C n h hb hi h3
 by_cases h4:i.op=20;· exact do_Z n h hb hi h4
 by_cases h5:i.op=21;· exact do_Y n h hb hi h5
 by_cases h6:i.op=16;· exact do_M n h hb hi h6
 by_cases h7:i.op=17;· exact do_S n h hb hi h7
 by_cases h8:i.op=1;· exact do_V n h hb hi h8
 by_cases h9:i.op=2;· exact do_K n h hb hi h9
 by_cases h10:i.op=28\/i.op=29;· exact do_X n h hb hi h10
 by_cases h11:i.op<=11
 .exact do_R n h hb hi ⟨by omega,h11⟩
 .exact do_I n h hb hi ⟨by omega,by omega⟩
end Go.Sx
