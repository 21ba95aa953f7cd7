/- Tests that. -/
import Derived.Test.YtggbaapfbgjaeaaGreatDoorDq3
import Derived.Test.YtggbaapfbgjaeaaGreatDoorMy2
import Derived.Test.YtggbaapfbgjaeaaGreatDoorBg1
import Derived.Test.YtggbaapfbgjaeaaGreatDoorZ7
import Derived.Test.YtggbaapfbgjaeaaGreatDoorFy5
import Derived.Test.YtggbaapfbgjaeaaGreatDoorPi1
import Derived.Test.YtggbaapfbgjaeaaGreatDoorCq1
set_option linter.all false
namespace Go.Proofs.YtggbaapfbgjaeaaGreatDoor
open Go Go.Am Go.Proofs
set_option maxRecDepth 100000
set_option maxHeartbeats 4000000
abbrev yR0(c:Ct)(f s0:Ste)(w:Ob)(s:Ste)(wv:V):H :=
 [⟨0,.box c.cells⟩,⟨0,.arr 0 []⟩,⟨0,.box [.sl 1 0 0 0 0,.bool false]⟩,⟨0,.arr 0 []⟩,⟨0,.arr 0 []⟩,⟨0,.arr 0 []⟩,⟨0,.arr 0 []⟩,⟨0,.arr 0 []⟩,⟨0,.box f.cells⟩,
   ⟨0,.arr 0 []⟩,⟨0,.arr 0 []⟩,⟨0,.arr 0 []⟩,⟨0,.arr 0 []⟩,⟨0,.arr 0 []⟩,⟨0,.box s0.cells⟩,w,⟨0,.box (mcs c s wv false)⟩]
theorem ev55{c:Ct}(hfew:c.small=true){test:List Int}(hlt:test.length<=4096)(hin:∀i∈test,0<=i/\i<c.inputs.length) :
  ev pg (.call (fnq 55) [c.v,qct test] [])=some (rvq (zdp (qap c test).1 (qap c test).2)):=by
 have e1:=ev84 c hfew;have e2:=ev85 c hfew;unfold zdo at e2;rw[qab,pg55.1];unfold qap;by_cases hf:(qer c).2=0
 .by_cases hs:(qby c).2.2=0
  .have hchk:=q0s hs;have hF:(qer c).1=qef c:=by unfold qer;rw[if_pos hchk]
   have hR:Rdy c (qer c).1:=by rw[hF];exact⟨hfew,qdg hchk⟩
   have hL:=qti hfew hchk hs;have hbe:=hR.beg hL.rdy;rw[if_neg (by simp[hf,hs])];have hfM:qfq c=qen c 6 ⟨(qby c).1,qle (qer c).1 (qby c).1,false⟩:=rfl;have hlen:=qnx (t:=(qby c).1) hR.small;generalize qfq c=fm at *;rw[hf]at e1;rw[hs]at e2;generalize (qer c).1=f at *;generalize (qby c).1=s0 at *;generalize (qby c).2.1=cf at *;have hc0:qcp (yR0 c f s0 ⟨0,.arr 0 []⟩ f (.sl 15 0 0 0 0)):=by unfold qcp;simp
   have e86:=ev86 hc0 (m:=16) (w:=15) (gm:=0) (g:=0) (n:=0) (c:=c) (s:=f) (t:=s0) (l:=[]) rfl rfl (.inr rfl) hR.small hL.rdy.small (by simp) hbe;generalize qle f s0=B at *;have hc1:qcp (yR0 c f s0 ⟨1,.arr 2 (B.map qfa)⟩ s0 (.sl 15 1 2 0 B.length)):=by unfold qcp;simp
   obtain⟨g',e87⟩:=ev87 hc1 (m:=16) (gm:=0) (w:=15) (by simp) (by simp) (by decide) hfew (a:=⟨s0,B,false⟩) (g:=1) hL hlen;have hLf:=qin hfew 6 (a:=⟨s0,B,false⟩) hL;rw[<-hfM]at e87 hLf;obtain⟨fs,fl,fr⟩:=fm;have hlp:=fun st=>z2p hfew f s0 g' fl hlt hin (u0:=(fs,fr,[fl])) (g0:=0) hLf rfl (st:=st);simp only at hlp ⊢;generalize hu:qhu c test (fs,fr,[fl])=u at *;obtain⟨us,ur,uW⟩:=u;simp[Hm,yR0]at e87;simp[yR0]at e86;simp[ir55,e1,e2,e86,e87,qah,qaq,exT,qag];generalize hq:ev pg (.code (.going _ L55_0) _)=o;obtain⟨r,rfl,g,frr,hfr,rfl⟩:∃r,o=some r/\_:=by rw[<-hq];exact hlp _ (by simp[T55,yR])
   simp[zuw,hfr.ne]
  .rw[if_pos (.inr hs)];have hsb:((qby c).2.2 != 0)=true:=by simpa using hs
   generalize qby c=y at *;generalize qer c=z at *;obtain⟨z1,z2⟩:=z;obtain⟨y1,y2,y3⟩:=y;simp only at hf hs hsb;subst hf;simp[ir55,e1,e2,hs,hsb]
 .rw[if_pos (.inl hf)];have hfb:((qer c).2 != 0)=true:=by simpa using hf
  generalize qby c=y at *;generalize qer c=z at *;obtain⟨z1,z2⟩:=z;obtain⟨y1,y2,y3⟩:=y;simp only at hf hfb;simp[ir55,e1,e2,hf,hfb]
abbrev mv(a:Mw):V:=.agg (a.s.cells++[qyh a.l,.bool a.r])
theorem zdj{c:Ct}{s:Ste}(hfew:c.small=true)(h:Lie c s){x:Evn}(hx:(qcv c s x).2.2=0):qle s (qcv c s x).1=qmr s (qcv c s x).1:=by unfold qle;rw[if_pos (h.beg (qmx hfew hx))]
theorem ev93{c:Ct}(hfew:c.small=true){a:Mw}(h:Lie c a.s)(hl:a.l.length<=100000)(x:Evn):ev pg (.call (fnq 93) [c.v,mv a,x.v] [])=some (rvq (mv (qgh c a x))):=by
 have e1:=ev139 h.rdy x;rw[<-h.next1]at e1;unfold zdo at e1;unfold qgh;rw[qab,pg93.1];by_cases hx:(qcv c a.s x).2.2=0
 .have hL':=qmx hfew hx;have e2:=ev91 a.s (qcv c a.s x).1 h.rdy.small (by
   have q1:=h.rdy.shp.e;have q2:=hL'.rdy.shp.e;omega)
  rw[<-zdj hfew h hx]at e2;have hb:=qnx (t:=(qcv c a.s x).1) h.rdy.small;rw[if_pos hx];generalize qle a.s (qcv c a.s x).1=B at *;generalize qcv c a.s x=y at *;obtain⟨t,j,e⟩:=y;simp only at e1 e2 hx ⊢;subst hx;have f1:a.l.length*16<=140737488355328:=by omega
  have f2:(a.l.length+B.length)*16<=140737488355328:=by omega
  simp[ir93,e1,e2,f1,f2,qaa,qaq,exT,qag]
 .have hxb:((qcv c a.s x).2.2 != 0)=true:=by simpa using hx
  rw[if_neg hx];generalize qcv c a.s x=y at *;obtain⟨t,j,e⟩:=y;simp only at e1 hx hxb ⊢;simp[ir93,e1,hx,hxb,qaq,exT,qag]
abbrev hG(c:Ct)(a:Mw)(out:List V):H:=[⟨0,.box c.cells⟩,⟨0,.box (a.s.cells++[qyh a.l,.bool a.r])⟩,⟨0,.arr 0 []⟩,⟨0,.arr 0 []⟩,⟨0,.arr 0 []⟩,⟨0,.arr 0 []⟩,⟨0,.arr 0 []⟩,⟨0,.arr 0 []⟩,⟨0,.box out⟩]
abbrev zkl:List V:=[.sl 2 0 0 0 0,.sl 3 0 0 0 0,.sl 4 0 0 0 0,.sl 5 0 0 0 0,.sl 6 0 0 0 0,.sl 7 0 0 0 0,.bool false]
def T90(k:Nat):Tm:=[none,none,bN 0,bN 1,bN 8,nN k]++zN 24
def zke:Tm:=[none,none,none,bN 1,bN 8]++zN 25
theorem q4d{c:Ct}(hfew:c.small=true){a:Mw}(h:Lie c a.s)(x:Evn):(qgh c a x).l.length<=a.l.length+4096:=by
 unfold qgh;split
 .have:=qnx (t:=(qcv c a.s x).1) h.rdy.small;simp only[jF];omega
 .simp
theorem z2v{c:Ct}(hfew:c.small=true){a0:Mw}(h0L:Lie c a0.s)(h0l:a0.l.length<=8192){st:St}(h0:At (T90 0) (hG c a0 zkl) st) :
  ∃r,ev pg (.code (.going 9 L90_0) st)=some r/\(qat .ret zke (hG c (qen c 6 a0) ((qen c 6 a0).s.cells++[qyh (qen c 6 a0).l,.bool (qen c 6 a0).r])) r\/qat (.exit 0) zke (hG c (qen c 6 a0) zkl) r):=by
 refine qce (α:=Mw) 6 (fun k _=>T90 k) (fun _ a=>hG c a zkl) (fun k a=>qen c (6-k) a=qen c 6 a0/\Lie c a.s/\a.l.length<=8192+4096*k) _ ?_ ?_ a0 ⟨rfl,h0L,by simpa using h0l⟩ h0
 .rintro k a f hf hk ⟨hg,hL,hl⟩;have hk':(k:Int)<6:=by omega
  have wk:=qbi k;have e1:=ev137 a.s hL.rdy.small;have hev:(qkc c a.s).1=qjj a.s:=by rw[hL.events]
  have hn:6-k=(6-(k+1))+1:=by omega
  rw[hn]at hg;by_cases hr:a.r=true
  .rw[qen,if_pos hr]at hg;obtain⟨S,e,hS⟩:∃S,ev pg (.code L90_0 ⟨fill f 0 (T90 k),hG c a zkl⟩)=some { x:=.exit 0,st:=⟨S,hG c a zkl⟩ }/\qmg zke S:=by
    simp[T90,zke,L90_0,hk',hr,hf.ne]
   exact⟨_,e,.inr ⟨by simp,.inr (by rw[<-hg];exact qez.2 ⟨rfl,hS,rfl⟩)⟩⟩
  .have hr':a.r=false:=by simpa using hr
   rw[qen,if_neg hr,hev]at hg;cases hE:qjj a.s with
   | nil =>
    rw[hE]at hg e1;simp only at hg;obtain⟨S,e,hS⟩:∃S,ev pg (.code L90_0 ⟨fill f 0 (T90 k),hG c a zkl⟩)=some { x:=.ret,st:=⟨S,hG c a (a.s.cells++[qyh a.l,.bool a.r])⟩ }/\qmg zke S:=by simp[T90,zke,L90_0,hk',hr',e1,hf.ne]
    exact⟨_,e,.inr ⟨by simp,.inl (by rw[<-hg];exact qez.2 ⟨rfl,hS,rfl⟩)⟩⟩
   | cons x xs =>
    rw[hE]at hg e1;simp only at hg;have hxs:¬(xs.length:Int)+1=0:=by omega
    have e2:=ev93 hfew hL (by omega) x;have hlen:=q4d hfew hL x;have hL':=qkm hfew hL x;generalize qgh c a x=b at *;have e3:ev pg (.call (fnq 93) [c.v,.agg [qct a.s.ends,qdb a.s.valves,qdb a.s.inputs,qdb a.s.values,qct a.s.timers,qyh a.l,.bool false],x.v] [])=some (rvq (mv b)):=by rw[<-hr'];exact e2
    obtain⟨S,e,hS⟩:∃S,ev pg (.code L90_0 ⟨fill f 0 (T90 k),hG c a zkl⟩)=some { st:=⟨S,hG c b zkl⟩ }/\qmg (T90 (k+1)) (S.map (qbl 9)):=by simp[T90,L90_0,hk',hr',e1,e3,wk,hxs,qaq,exT,qag,hf.ne]
    exact⟨_,e,.inl ⟨rfl,b,⟨hg,hL',by omega⟩,hS,by simp⟩⟩
 .rintro a f hf ⟨hg,hL,hl⟩;simp only[Nat.sub_self]at hg;replace hg:a=qen c 6 a0:=hg;obtain⟨S,e,hS⟩:∃S,ev pg (.code L90_0 ⟨fill f 0 (T90 6),hG c a zkl⟩)=some { x:=.exit 0,st:=⟨S,hG c a zkl⟩ }/\qmg zke S:=by
   simp[T90,zke,L90_0,hf.ne]
  exact⟨_,e,by simp,.inr (by rw[<-hg];exact qez.2 ⟨rfl,hS,rfl⟩)⟩
theorem ev90{c:Ct}(hfew:c.small=true){a:Mw}(hL:Lie c a.s)(hl:a.l.length<=8192):ev pg (.call (fnq 90) [c.v,mv a] [])=some (rvq (mv (qen c 6 a))):=by
 have hlp:=fun st=>z2v hfew hL hl (st:=st);rw[qab,pg90.1];generalize qen c 6 a=b at *;simp[ir90,qah];generalize hq:ev pg (.code (.going _ L90_0) _)=o;obtain⟨r,rfl,hr⟩:∃r,o=some r/\_:=by rw[<-hq];exact hlp _ (by simp[T90])
 rcases hr with⟨fr,hfr,rfl⟩ | ⟨fr,hfr,rfl⟩
 .simp[zke,hfr.ne]
 .simp[zke,hfr.ne]
abbrev yV(c:Ct)(s0:Ste)(mw:List (Int×Bool))(g:Nat)(u:Ste×Bool×List (List (Int×Bool))):H :=
 [⟨0,.box c.cells⟩,⟨0,.arr 0 []⟩,⟨0,.box [.sl 1 0 0 0 0,.bool false]⟩,⟨0,.arr 0 []⟩,⟨0,.arr 0 []⟩,⟨0,.arr 0 []⟩,⟨0,.arr 0 []⟩,⟨0,.arr 0 []⟩,⟨0,.box s0.cells⟩,
   ⟨0,.arr 0 []⟩,⟨0,.arr 0 []⟩,⟨0,.arr 0 []⟩,⟨0,.arr 0 []⟩,⟨0,.arr 0 []⟩,⟨0,.arr 0 []⟩,⟨0,.box (u.1.cells++[qyh mw,.bool u.2.1])⟩,⟨g,.arr 1 (u.2.2.map zkb)⟩,⟨0,.arr 0 []⟩,⟨0,.box [.sl 16 g 1 0 u.2.2.length,.bool u.2.1]⟩]
def T58(test:List Int)(k:Nat):Tm:=[none,some (qct test),bN 0,none,bN 2,none,none,none,bN 15,bN 18,nN k]++zN 68
def zux:Tm:=[none,none,none,none,bN 2,none,none,none,none,bN 18]++zN 69
theorem z2r{c:Ct}(hfew:c.small=true)(s0:Ste){test:List Int}(hlt:test.length<=4096)(hin:∀i∈test,0<=i/\i<c.inputs.length){u0:Ste×Bool×List (List (Int×Bool))}{w0:List (Int×Bool)}{g0:Nat}(hL0:Lie c u0.1)(hW0:u0.2.2.length=1){st:St}(h0:At (T58 test 0) (yV c s0 w0 g0 u0) st) :
  ∃r,ev pg (.code (.going 19 L58_0) st)=some r/\∃w g,qat (.exit 0) zux (yV c s0 w g (qhu c test u0)) r:=by
 refine qce (α:=(Ste×Bool×List (List (Int×Bool)))×List (Int×Bool)×Nat) test.length (fun k _=>T58 test k) (fun _ u=>yV c s0 u.2.1 u.2.2 u.1) (fun k u=>qhu c (test.drop k) u.1=qhu c test u0/\Lie c u.1.1/\u.1.2.2.length=k+1) _ ?_ ?_ (u0,w0,g0) ⟨by simp,hL0,hW0⟩ h0
 .rintro k ⟨⟨s,rr,W⟩,w,g⟩ fr hf hk ⟨hg,hL,hW⟩;simp only at hg hL hW ⊢;have hk':(k:Int)<test.length:=by omega
  have wk:=qbi k;rw[jL hk,qhu]at hg;simp only at hg;cases hr:rr with
  | true =>
   subst hr;rw[if_pos rfl]at hg;obtain⟨S,e,hS⟩:∃S,ev pg (.code L58_0 ⟨fill fr 0 (T58 test k),yV c s0 w g (s,true,W)⟩)=some { x:=.exit 0,st:=⟨S,yV c s0 w g (s,true,W)⟩ }/\qmg zux S:=by simp[T58,zux,L58_0,hk,hk',hf.ne]
   exact⟨_,e,.inr ⟨by simp,w,g,by rw[<-hg];exact qez.2 ⟨rfl,hS,rfl⟩⟩⟩
  | false =>
   subst hr;rw[if_neg (by simp)]at hg;have hi:=hin test[k] (jH hk);have hsi:=hL.rdy.shp.i;have htk0:test[k]?=some test[k]:=jA hk;generalize htk:test[k]=i at *;obtain⟨hi0,hi1⟩:=hi;obtain⟨j,rfl⟩:∃j:Nat,i=j:=⟨i.toNat,by omega⟩
   have hj:j<s.inputs.length:=by omega
   have hjI:(j:Int)<s.inputs.length:=by omega
   have hP:qgm c s j=qen c 6 (qgh c ⟨s,[],false⟩ ⟨2,j,!s.inputs[j]⟩):=by unfold qgm;simp[hj]
   rw[hP]at hg;have hfitW:(W.length+1)*24<=140737488355328:=by omega
   have e93:=ev93 hfew (a:=⟨s,[],false⟩) hL (by simp) ⟨2,j,!s.inputs[j]⟩;have hLd:=qkm hfew (a:=⟨s,[],false⟩) hL ⟨2,j,!s.inputs[j]⟩;have hld:=q4d hfew (a:=⟨s,[],false⟩) hL ⟨2,j,!s.inputs[j]⟩;have hget:s.inputs[j]?=some s.inputs[j]:=jA hj;generalize qgh c ⟨s,[],false⟩ ⟨2,j,!s.inputs[j]⟩=d at *;replace e93:ev pg (.call (fnq 93) [c.v,.agg [qct s.ends,qdb s.valves,qdb s.inputs,qdb s.values,qct s.timers,.imm [],.bool false],(⟨2,j,!s.inputs[j]⟩:Evn).v] [])=some (rvq (mv d)):=e93;have e90:=ev90 hfew hLd (by simp only[List.length_nil]at hld;omega);replace e90:ev pg (.call (fnq 90) [c.v,.agg [qct d.s.ends,qdb d.s.valves,qdb d.s.inputs,qdb d.s.values,qct d.s.timers,qyh d.l,.bool d.r]] [])=some (rvq (mv (qen c 6 d))):=e90;have hLg:=qin hfew 6 hLd;generalize qen c 6 d=b at *;obtain⟨bs,bl,br⟩:=b;obtain⟨S,H',e,hS,hH⟩:∃S H',ev pg (.code L58_0 ⟨fill fr 0 (T58 test k),yV c s0 w g (s,false,W)⟩)=some { st:=⟨S,H'⟩ }/\qmg (T58 test (k+1)) (S.map (qbl 19))/\qgt 19 H'=yV c s0 bl (g+1) (bs,br,W++[bl]):=by
    simp[-qgt,T58,L58_0,hk,hk',htk,hj,hjI,hget,e93,e90,wk,hfitW,qaa,qaq,exT,qag,hf.ne];refine⟨_,_,⟨rfl,rfl⟩,?_,?_⟩
    .simp[hf.ne]
    .simp
   exact⟨_,e,.inl ⟨rfl,((bs,br,W++[bl]),bl,g+1),⟨hg,hLg,by simp[hW]⟩,hS,hH⟩⟩
 .rintro⟨⟨s,rr,W⟩,w,g⟩ fr hf ⟨hg,hL,hW⟩;simp only[List.drop_length,qhu]at hg;obtain⟨S,e,hS⟩:∃S,ev pg (.code L58_0 ⟨fill fr 0 (T58 test test.length),yV c s0 w g (s,rr,W)⟩)=some { x:=.exit 0,st:=⟨S,yV c s0 w g (s,rr,W)⟩ }/\qmg zux S:=by
   simp[T58,zux,L58_0,hf.ne]
  exact⟨_,e,by simp,w,g,by rw[<-hg];exact qez.2 ⟨rfl,hS,rfl⟩⟩
theorem ev58{c:Ct}(hfew:c.small=true){test:List Int}(hlt:test.length<=4096)(hin:∀i∈test,0<=i/\i<c.inputs.length)(hchk:c.check=0) :
  ev pg (.call (fnq 58) [c.v,qct test] [])=some (rvq (zdp (qap c test).1 (qap c test).2)):=by
 have e1:=ev89 c hfew;have e2:=ev92 hfew hchk;unfold zdo at e1;have hf0:(qer c).2=0:=by unfold qer;rw[if_pos hchk]
 have hF:(qer c).1=qef c:=by unfold qer;rw[if_pos hchk]
 rw[qab,pg58.1];unfold qap;by_cases hs:(qby c).2.2=0
 .have hR:Rdy c (qef c):=⟨hfew,qdg hchk⟩
  have hL:=qti hfew hchk hs;rw[if_neg (by simp[hf0,hs])];have hfM:qfq c=qen c 6 ⟨(qby c).1,qle (qer c).1 (qby c).1,false⟩:=rfl;have hlen:=qnx (t:=(qby c).1) hR.small;have hbe:=hR.beg hL.rdy;rw[hF]at hfM;have e3:=ev91 (qef c) (qby c).1 hR.small (by
   have q1:=hR.shp.e;have q2:=hL.rdy.shp.e;omega)
  have hbr:qle (qef c) (qby c).1=qmr (qef c) (qby c).1:=by unfold qle;rw[if_pos hbe]
  rw[<-hbr]at e3;generalize qfq c=fm at *;rw[hs]at e1;generalize (qby c).1=s0 at *;generalize (qby c).2.1=cf at *;generalize qef c=bg at *;generalize qle bg s0=B at *;have e90:=ev90 hfew (a:=⟨s0,B,false⟩) hL (by simp only;omega);have hLf:=qin hfew 6 (a:=⟨s0,B,false⟩) hL;rw[<-hfM]at e90 hLf;replace e90:ev pg (.call (fnq 90) [c.v,.agg [qct s0.ends,qdb s0.valves,qdb s0.inputs,qdb s0.values,qct s0.timers,qyh B,.bool false]] [])=some (rvq (mv fm)):=e90;obtain⟨fs,fl,fr⟩:=fm;have hlp:=fun st=>z2r hfew s0 hlt hin (u0:=(fs,fr,[fl])) (w0:=fl) (g0:=0) hLf rfl (st:=st);simp only at hlp ⊢;generalize hu:qhu c test (fs,fr,[fl])=u at *;obtain⟨us,ur,uW⟩:=u;simp[ir58,e1,e2,e3,e90,qah,qaq,qaa,exT,qag];generalize hq:ev pg (.code (.going _ L58_0) _)=o;obtain⟨r,rfl,w,g,frr,hfr,rfl⟩:∃r,o=some r/\_:=by rw[<-hq];exact hlp _ (by simp[T58,yV])
  simp[zux,hfr.ne]
 .rw[if_pos (.inr hs)];have hsb:((qby c).2.2 != 0)=true:=by simpa using hs
  generalize qby c=y at *;obtain⟨y1,y2,y3⟩:=y;simp only at hs hsb;simp[ir58,e1,hs,hsb]
abbrev frw(p:Int×Int):List V:=[num p.1,num p.2]
abbrev zgw(l:List (Int×Int)):V:=.imm (l.map frw)
theorem ev26:ev pg (.call (fnq 26) [] [])=some (rvq (fv (-1) 0)):=by rw[qab,pg26.1];simp[ir26]
theorem ev27:ev pg (.call (fnq 27) [] [])=some (rvq (fv (-1) 0)):=by rw[qab,pg27.1];simp[ir27]
def ofC(c:Ct)(p:Int×Int):Ct×Int:=if p.1=-1/\p.2=0 then(c,0)else(q7t c p.1 p.2,qwm c p.1 p.2)
theorem ev57(c:Ct)(hfew:c.small=true)(p:Int×Int):ev pg (.call (fnq 57) [c.v,fv p.1 p.2] [])=some (rvq (.tup [(ofC c p).1.v,num (ofC c p).2])):=by
 have e1:=ev42 c hfew p.1 p.2;have e0:=ev27;unfold ofC;obtain⟨k,i⟩:=p;simp only at e1 ⊢;rw[qab,pg57.1];by_cases h:k=-1/\i=0
 .rw[if_pos h];obtain⟨rfl,rfl⟩:=h;simp[ir57,e0,qaa,qaq,exT,qag]
 .rw[if_neg h];generalize q7t c k i=d at *;generalize qwm c k i=e at *;have hb:((k==-1)&&(i==0))=false:=by
   cases hh:((k==-1)&&(i==0))with
   | false=>rfl
   | true=>simp only[jE,beq_iff_eq]at hh;exact absurd hh h
  by_cases h1:k=-1
  .have h2:¬i=0:=fun h2=>h ⟨h1,h2⟩;have h2b:(i==0)=false:=by simpa using h2
   subst h1;simp[ir57,e0,e1,h2,h2b,qaa,qaq,exT,qag]
  .have h1b:(k==-1)=false:=by simpa using h1
   simp[ir57,e0,e1,h1,h1b,qaa,qaq,exT,qag]
def qvy(c:Ct):List (Int×Int)->Int
 | []=>0
 | p :: l=>if(ofC c p).2≠0 then(ofC c p).2 else qvy c l
def zkf(c:Ct)(l:List (Int×Int))(k:Nat):Tm:=[none,some (zgw l),bN 0,none,nN 0,none,nN k]++zN 28
def zks(e:Int):Tm:=[none,none,none,none,nN e]++zN 30
theorem z2t(c:Ct)(hfew:c.small=true)(l:List (Int×Int))(hl:l.length<=100000){st:St}(h0:At (zkf c l 0) [⟨0,.box c.cells⟩] st) :
  ∃r,ev pg (.code (.going 1 L79_0) st)=some r/\((qvy c l≠0/\zek .ret (zks (qvy c l)) r)\/(qvy c l=0/\zek (.exit 0) (List.replicate 35 none) r)):=by
 refine qce (α:=Unit) l.length (fun k _=>zkf c l k) (fun _ _=>[⟨0,.box c.cells⟩]) (fun k _=>qvy c (l.drop k)=qvy c l) _ ?_ ?_ () (by simp) h0
 .rintro k _ f hf hk hg;have hk':(k:Int)<l.length:=by omega
  have wk:=qbi k;rw[jL hk,qvy]at hg;have e1:=ev57 c hfew l[k];generalize ofC c l[k]=y at *;obtain⟨d,e⟩:=y;simp only at e1 hg;by_cases he:e=0
  .subst he;rw[if_neg (by simp)]at hg;obtain⟨S,H',ee,hS,hH⟩:∃S H',ev pg (.code L79_0 ⟨fill f 0 (zkf c l k),[⟨0,.box c.cells⟩]⟩)=some { st:=⟨S,H'⟩ }/\qmg (zkf c l (k+1)) (S.map (qbl 1))/\qgt 1 H'=[⟨0,.box c.cells⟩]:=by
    simp[-qgt,zkf,L79_0,hk,hk',e1,wk,qaq,exT,qag,hf.ne];refine⟨_,_,⟨rfl,rfl⟩,?_,?_⟩
    .simp[hf.ne]
    .simp
   exact⟨_,ee,.inl ⟨rfl,(),hg,hS,hH⟩⟩
  .rw[if_pos he]at hg;have heb:(e != 0)=true:=by simpa using he
   obtain⟨S,H',ee,hS⟩:∃S H',ev pg (.code L79_0 ⟨fill f 0 (zkf c l k),[⟨0,.box c.cells⟩]⟩)=some { x:=.ret,st:=⟨S,H'⟩ }/\qmg (zks e) S:=by simp[zkf,zks,L79_0,hk,hk',e1,wk,he,heb,qaq,exT,qag,hf.ne]
   refine⟨_,ee,.inr ⟨by simp,.inl ⟨by rw[<-hg];exact he,?_⟩⟩⟩;rw[<-hg];exact qvw.2 ⟨rfl,hS⟩
 .rintro _ f hf hg;rw[List.drop_length]at hg;obtain⟨S,H',ee,hS⟩:∃S H',ev pg (.code L79_0 ⟨fill f 0 (zkf c l l.length),[⟨0,.box c.cells⟩]⟩)=some { x:=.exit 0,st:=⟨S,H'⟩ }/\qmg (List.replicate 35 none) S:=by
   simp[zkf,L79_0,hf.ne]
  exact⟨_,ee,by simp,.inr ⟨hg.symm,qvw.2 ⟨rfl,hS⟩⟩⟩
def qps(c:Ct)(l:List (Int×Int)):Int:=if c.check≠0 then c.check else if 10<l.length then 5 else qvy c l
theorem ev79(c:Ct)(hfew:c.small=true)(l:List (Int×Int))(hl:l.length<=100000):ev pg (.call (fnq 79) [c.v,zgw l] [])=some (rvq (num (qps c l))):=by
 have e1:=ev61 c hfew;unfold qps;rw[qab,pg79.1];generalize c.check=e at *;by_cases h1:e=0
 .subst h1;rw[if_neg (by simp)];by_cases h2:10<l.length
  .have h2':(10:Int)<l.length:=by omega
   rw[if_pos h2];simp[ir79,e1,h2']
  .have h2':¬(10:Int)<l.length:=by omega
   rw[if_neg h2];have hlp:=fun st=>z2t c hfew l hl (st:=st);simp[ir79,e1,h2',qah];generalize hq:ev pg (.code (.going _ L79_0) _)=o;obtain⟨r,rfl,hr⟩:∃r,o=some r/\_:=by rw[<-hq];exact hlp _ (by simp[zkf])
   rcases hr with⟨hne,fr,H,hfr,rfl⟩ | ⟨he,fr,H,hfr,rfl⟩
   .simp[zks,hfr.ne]
   .rw[he];simp[hfr.ne]
 .have h1b:(e != 0)=true:=by simpa using h1
  rw[if_pos h1];simp[ir79,e1,h1,h1b]
def qyl(c:Ct)(i:Int):Bool:=decide (i<0)||decide ((c.inputs.length:Int)<=i)
def qtm(c:Ct)(test:List Int):Int:=if 4<test.length then 5 else if test.any (qyl c)=true then 6 else 0
theorem q6k{c:Ct}{test:List Int}(h:qtm c test=0):test.length<=4/\∀i∈test,0<=i/\i<c.inputs.length:=by
 unfold qtm at h;split at h
 .cases h
 .split at h
  .cases h
  .rename_i h1 h2;refine⟨by omega,fun i hi=>?_⟩;have h3:test.any (qyl c)=false:=by simpa using h2
   rw[List.any_eq_false]at h3;have:=h3 i hi;simp only[qyl,Bool.or_eq_true,jW,not_or]at this;omega
theorem ev83(c:Ct)(i:Int):ev pg (.call (.fn 83 [] [.bptr 0 0]) [num i] [⟨0,.box c.cells⟩])=some { v:=.bool (qyl c i),st:=⟨[],[⟨0,.box c.cells⟩]⟩ }:=by
 rw[qab,pg83.1];unfold qyl;by_cases h:i<0
 .simp[ir83,h]
 .by_cases h2:(c.inputs.length:Int)<=i
  .simp[ir83,h,h2]
  .simp[ir83,h,h2]
theorem ev54(c:Ct){test:List Int}(hl:test.length<=4096):ev pg (.call (fnq 54) [c.v,qct test] [])=some (rvq (num (qtm c test))):=by
 have e1:=ev29 (f:=83) (caps:=[.bptr 0 0]) (h:=[⟨0,.box c.cells⟩]) (l:=test) (p:=qyl c) hl (by simp[qek,V.low]) (by simp[qek,V.low]) (ev83 c) (by unfold qcp;simp);unfold qtm;rw[qab,pg54.1];by_cases h1:4<test.length
 .have h1':(4:Int)<test.length:=by omega
  rw[if_pos h1];simp[ir54,h1']
 .have h1':¬(4:Int)<test.length:=by omega
  rw[if_neg h1];cases hb:test.any (qyl c)with
  | true =>rw[hb]at e1;simp[ir54,h1',e1]
  | false =>rw[hb]at e1;simp[ir54,h1',e1]
def zom(test:List Int)(k:Nat):Tm:=[none,none,some (qct test),bN 0,none,none,nN 0,none,nN k]++zN 30
def zeq:Tm:=[none,none,none,none,none,none,nN 6]++zN 32
theorem z2q(c:Ct){test:List Int}(hl:test.length<=4096){st:St}(h0:At (zom test 0) [⟨0,.box c.cells⟩] st) :
  ∃r,ev pg (.code (.going 1 L56_0) st)=some r/\qmd test.length (fun k=>qyl c ((test[k]?).getD 0)) (fun _=>qat .ret zeq [⟨0,.box c.cells⟩]) (qat (.exit 0) (List.replicate 39 none) [⟨0,.box c.cells⟩]) r:=by
 refine qcw _ _ (zom test) [⟨0,.box c.cells⟩] _ _ ?_ ?_ ?_ h0
 .intro k f hf hk hp;have hk':(k:Int)<test.length:=by omega
  have wk:=qbi k;have hp':¬test[k]<0/\¬(c.inputs.length:Int)<=test[k]:=by simpa[qyl,hk]using hp
  obtain⟨p1,p2⟩:=hp';simp[zom,L56_0,hk,hk',p1,p2,wk,qaq,exT,qag,hf.ne]
 .intro k f hf hk hp;have hk':(k:Int)<test.length:=by omega
  have hp':test[k]<0\/(c.inputs.length:Int)<=test[k]:=by simpa[qyl,hk]using hp
  by_cases p1:test[k]<0
  .simp[zom,zeq,L56_0,hk,hk',p1,qaq,exT,qag,hf.ne]
  .have p2:=hp'.resolve_left p1;simp[zom,zeq,L56_0,hk,hk',p1,p2,qaq,exT,qag,hf.ne]
 .intro f hf;simp[zom,L56_0,hf.ne]
theorem zgv{c:Ct}{test:List Int}{X:Nat->R->Prop}{Y:R->Prop}{r:R}(h:qmd test.length (fun k=>qyl c ((test[k]?).getD 0)) X Y r):(test.any (qyl c)=true/\∃k,X k r)\/(test.any (qyl c)=false/\Y r):=by
 rcases h with⟨k,hk,hp,-,hX⟩ | ⟨hp,hY⟩
 .refine .inl ⟨List.any_eq_true.2 ⟨test[k],jH hk,by simpa[hk]using hp⟩,k,hX⟩
 .refine .inr ⟨?_,hY⟩;rw[List.any_eq_false];intro x hx;obtain⟨k,hk,rfl⟩:=List.getElem_of_mem hx;have:=hp k hk;simpa[hk]using this
def z0p(c:Ct)(l:List (Int×Int))(test:List Int):Int:=if qps c l≠0 then qps c l else qtm c test
theorem ev56(c:Ct)(hfew:c.small=true)(l:List (Int×Int))(hl:l.length<=100000){test:List Int}(ht:test.length<=4096):ev pg (.call (fnq 56) [c.v,zgw l,qct test] [])=some (rvq (num (z0p c l test))):=by
 have e1:=ev79 c hfew l hl;unfold z0p;rw[qab,pg56.1];generalize qps c l=e at *;by_cases h1:e=0
 .subst h1;rw[if_neg (by simp)];unfold qtm;by_cases h2:4<test.length
  .have h2':(4:Int)<test.length:=by omega
   rw[if_pos h2];simp[ir56,e1,h2']
  .have h2':¬(4:Int)<test.length:=by omega
   rw[if_neg h2];have hlp:∀st,At (zom test 0) [⟨0,.box c.cells⟩] st->∃r,ev pg (.code (.going 1 L56_0) st)=some r/\((test.any (qyl c)=true/\∃k:Nat,qat .ret zeq [⟨0,.box c.cells⟩] r)\/(test.any (qyl c)=false/\qat (.exit 0) (List.replicate 39 none) [⟨0,.box c.cells⟩] r)):=by intro st h0;obtain⟨r,e,hr⟩:=z2q c ht h0;exact⟨r,e,zgv hr⟩
   generalize test.any (qyl c)=bb at *;simp[ir56,e1,h2',qah];generalize hq:ev pg (.code (.going _ L56_0) _)=o;obtain⟨r,rfl,hr⟩:∃r,o=some r/\_:=by rw[<-hq];exact hlp _ (by simp[zom])
   rcases hr with⟨rfl,_,fr,hfr,rfl⟩ | ⟨rfl,fr,hfr,rfl⟩
   .simp[zeq,hfr.ne]
   .simp[hfr.ne]
 .have h1b:(e != 0)=true:=by simpa using h1
  rw[if_pos h1];simp[ir56,e1,h1,h1b]
end Go.Proofs.YtggbaapfbgjaeaaGreatDoor
