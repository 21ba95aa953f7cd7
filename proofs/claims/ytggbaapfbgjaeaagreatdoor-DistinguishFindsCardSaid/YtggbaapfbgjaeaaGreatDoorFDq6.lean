/- The reference's. -/
import Derived.Test.YtggbaapfbgjaeaaGreatDoorFDq3
import Derived.Test.YtggbaapfbgjaeaaGreatDoorFAf1
set_option linter.all false
namespace Go.Proofs.YtggbaapfbgjaeaaGreatDoor
open Go Go.Am Go.Proofs
set_option maxRecDepth 100000
set_option maxHeartbeats 4000000
abbrev yR0(c:Ct)(f s0:Ste)(w:Ob)(s:Ste)(wv:V):H :=
 [⟨0,.box c.cells⟩,⟨0,.arr 0 []⟩,⟨0,.box [.sl 1 0 0 0 0,.bool false]⟩,⟨0,.arr 0 []⟩,⟨0,.arr 0 []⟩,⟨0,.arr 0 []⟩,⟨0,.arr 0 []⟩,⟨0,.arr 0 []⟩,⟨0,.box f.cells⟩,
   ⟨0,.arr 0 []⟩,⟨0,.arr 0 []⟩,⟨0,.arr 0 []⟩,⟨0,.arr 0 []⟩,⟨0,.arr 0 []⟩,⟨0,.box s0.cells⟩,w,⟨0,.box (mcs c s wv false)⟩]
theorem ev55{c:Ct}(hfew:c.small=true){test:List Int}(hlt:test.length<=4096)(hin:∀i∈test,0<=i/\i<c.inputs.length) :
  ev pg (.call (fnq 55) [c.v,qcr test] [])=some (rvq (zoo (qbm c test).1 (qbm c test).2)):=by
 have e1:=ev84 c hfew;have e2:=ev85 c hfew;unfold zec at e2;rw[qaa,pg55.1];unfold qbm;by_cases hf:(qev c).2=0
 .by_cases hs:(qbz c).2.2=0
  .have hchk:=q1c hs;have hF:(qev c).1=qeh c:=by unfold qev;rw[if_pos hchk]
   have hR:Rdy c (qev c).1:=by rw[hF];exact⟨hfew,qdi hchk⟩
   have hL:=qtt hfew hchk hs;have hbe:=hR.beg hL.rdy;rw[if_neg (by simp[hf,hs])];have hfM:qmd c=qep c 6 ⟨(qbz c).1,qlf (qev c).1 (qbz c).1,false⟩:=rfl;have hlen:=qoa (t:=(qbz c).1) hR.small;generalize qmd c=fm at *;rw[hf]at e1;rw[hs]at e2;generalize (qev c).1=f at *;generalize (qbz c).1=s0 at *;generalize (qbz c).2.1=cf at *;have hc0:calm (yR0 c f s0 ⟨0,.arr 0 []⟩ f (.sl 15 0 0 0 0)):=by unfold calm;simp
   have e86:=ev86 hc0 (m:=16) (w:=15) (gm:=0) (g:=0) (n:=0) (c:=c) (s:=f) (t:=s0) (l:=[]) rfl rfl (.inr rfl) hR.small hL.rdy.small (by simp) hbe;generalize qlf f s0=B at *;have hc1:calm (yR0 c f s0 ⟨1,.arr 2 (B.map qfb)⟩ s0 (.sl 15 1 2 0 B.length)):=by unfold calm;simp
   obtain⟨g',e87⟩:=ev87 hc1 (m:=16) (gm:=0) (w:=15) (by simp) (by simp) (by decide) hfew (a:=⟨s0,B,false⟩) (g:=1) hL hlen;have hLf:=qio hfew 6 (a:=⟨s0,B,false⟩) hL;rw[<-hfM]at e87 hLf;obtain⟨fs,fl,fr⟩:=fm;have hlp:=fun st=>z4h hfew f s0 g' fl hlt hin (u0:=(fs,fr,[fl])) (g0:=0) hLf rfl (st:=st);simp only at hlp ⊢;generalize hu:qmk c test (fs,fr,[fl])=u at *;obtain⟨us,ur,uW⟩:=u;simp[Hm,yR0]at e87;simp[yR0]at e86;simp[ir55,e1,e2,e86,e87,qai,qay,exT,qag];generalize hq:ev pg (.code (.going _ L55_0) _)=o;obtain⟨r,rfl,g,frr,hfr,rfl⟩:∃r,o=some r/\_:=by rw[<-hq];exact hlp _ (by simp[T55,yR])
   simp[zwb,hfr.ne]
  .rw[if_pos (.inr hs)];have hsb:((qbz c).2.2 != 0)=true:=by simpa using hs
   generalize qbz c=y at *;generalize qev c=z at *;obtain⟨z1,z2⟩:=z;obtain⟨y1,y2,y3⟩:=y;simp only at hf hs hsb;subst hf;simp[ir55,e1,e2,hs,hsb]
 .rw[if_pos (.inl hf)];have hfb:((qev c).2 != 0)=true:=by simpa using hf
  generalize qbz c=y at *;generalize qev c=z at *;obtain⟨z1,z2⟩:=z;obtain⟨y1,y2,y3⟩:=y;simp only at hf hfb;simp[ir55,e1,e2,hf,hfb]
abbrev mv(a:Mw):V:=.agg (a.s.cells++[q3k a.l,.bool a.r])
theorem zdx{c:Ct}{s:Ste}(hfew:c.small=true)(h:Lie c s){x:Evn}(hx:(qcx c s x).2.2=0):qlf s (qcx c s x).1=qmw s (qcx c s x).1:=by unfold qlf;rw[if_pos (h.beg (qnc hfew hx))]
theorem ev93{c:Ct}(hfew:c.small=true){a:Mw}(h:Lie c a.s)(hl:a.l.length<=100000)(x:Evn):ev pg (.call (fnq 93) [c.v,mv a,x.v] [])=some (rvq (mv (qgl c a x))):=by
 have e1:=ev139 h.rdy x;rw[<-h.next1]at e1;unfold zec at e1;unfold qgl;rw[qaa,pg93.1];by_cases hx:(qcx c a.s x).2.2=0
 .have hL':=qnc hfew hx;have e2:=ev91 a.s (qcx c a.s x).1 h.rdy.small (by
   have q1:=h.rdy.shp.e;have q2:=hL'.rdy.shp.e;omega)
  rw[<-zdx hfew h hx]at e2;have hb:=qoa (t:=(qcx c a.s x).1) h.rdy.small;rw[if_pos hx];generalize qlf a.s (qcx c a.s x).1=B at *;generalize qcx c a.s x=y at *;obtain⟨t,j,e⟩:=y;simp only at e1 e2 hx ⊢;subst hx;have f1:a.l.length*16<=140737488355328:=by omega
  have f2:(a.l.length+B.length)*16<=140737488355328:=by omega
  simp[ir93,e1,e2,f1,f2,qab,qay,exT,qag]
 .have hxb:((qcx c a.s x).2.2 != 0)=true:=by simpa using hx
  rw[if_neg hx];generalize qcx c a.s x=y at *;obtain⟨t,j,e⟩:=y;simp only at e1 hx hxb ⊢;simp[ir93,e1,hx,hxb,qay,exT,qag]
abbrev hG(c:Ct)(a:Mw)(out:List V):H:=[⟨0,.box c.cells⟩,⟨0,.box (a.s.cells++[q3k a.l,.bool a.r])⟩,⟨0,.arr 0 []⟩,⟨0,.arr 0 []⟩,⟨0,.arr 0 []⟩,⟨0,.arr 0 []⟩,⟨0,.arr 0 []⟩,⟨0,.arr 0 []⟩,⟨0,.box out⟩]
abbrev zlf:List V:=[.sl 2 0 0 0 0,.sl 3 0 0 0 0,.sl 4 0 0 0 0,.sl 5 0 0 0 0,.sl 6 0 0 0 0,.sl 7 0 0 0 0,.bool false]
def T90(k:Nat):Tm:=[none,none,bN 0,bN 1,bN 8,nN k]++zN 24
def zky:Tm:=[none,none,none,bN 1,bN 8]++zN 25
theorem q4n{c:Ct}(hfew:c.small=true){a:Mw}(h:Lie c a.s)(x:Evn):(qgl c a x).l.length<=a.l.length+4096:=by
 unfold qgl;split
 .have:=qoa (t:=(qcx c a.s x).1) h.rdy.small;simp only[jF];omega
 .simp
theorem z4m{c:Ct}(hfew:c.small=true){a0:Mw}(h0L:Lie c a0.s)(h0l:a0.l.length<=8192){st:St}(h0:At (T90 0) (hG c a0 zlf) st) :
  ∃r,ev pg (.code (.going 9 L90_0) st)=some r/\(qar .ret zky (hG c (qep c 6 a0) ((qep c 6 a0).s.cells++[q3k (qep c 6 a0).l,.bool (qep c 6 a0).r])) r\/qar (.exit 0) zky (hG c (qep c 6 a0) zlf) r):=by
 refine qcg (α:=Mw) 6 (fun k _=>T90 k) (fun _ a=>hG c a zlf) (fun k a=>qep c (6-k) a=qep c 6 a0/\Lie c a.s/\a.l.length<=8192+4096*k) _ ?_ ?_ a0 ⟨rfl,h0L,by simpa using h0l⟩ h0
 .rintro k a f hf hk ⟨hg,hL,hl⟩;have hk':(k:Int)<6:=by omega
  have wk:=qbc k;have e1:=ev137 a.s hL.rdy.small;have hev:(qke c a.s).1=qjk a.s:=by rw[hL.events]
  have hn:6-k=(6-(k+1))+1:=by omega
  rw[hn]at hg;by_cases hr:a.r=true
  .rw[qep,if_pos hr]at hg;obtain⟨S,e,hS⟩:∃S,ev pg (.code L90_0 ⟨fill f 0 (T90 k),hG c a zlf⟩)=some { x:=.exit 0,st:=⟨S,hG c a zlf⟩ }/\qft zky S:=by
    simp[T90,zky,L90_0,hk',hr,hf.ne]
   exact⟨_,e,.inr ⟨by simp,.inr (by rw[<-hg];exact qbo.2 ⟨rfl,hS,rfl⟩)⟩⟩
  .have hr':a.r=false:=by simpa using hr
   rw[qep,if_neg hr,hev]at hg;cases hE:qjk a.s with
   | nil =>
    rw[hE]at hg e1;simp only at hg;obtain⟨S,e,hS⟩:∃S,ev pg (.code L90_0 ⟨fill f 0 (T90 k),hG c a zlf⟩)=some { x:=.ret,st:=⟨S,hG c a (a.s.cells++[q3k a.l,.bool a.r])⟩ }/\qft zky S:=by simp[T90,zky,L90_0,hk',hr',e1,hf.ne]
    exact⟨_,e,.inr ⟨by simp,.inl (by rw[<-hg];exact qbo.2 ⟨rfl,hS,rfl⟩)⟩⟩
   | cons x xs =>
    rw[hE]at hg e1;simp only at hg;have hxs:¬(xs.length:Int)+1=0:=by omega
    have e2:=ev93 hfew hL (by omega) x;have hlen:=q4n hfew hL x;have hL':=qko hfew hL x;generalize qgl c a x=b at *;have e3:ev pg (.call (fnq 93) [c.v,.agg [qcr a.s.ends,qdc a.s.valves,qdc a.s.inputs,qdc a.s.values,qcr a.s.timers,q3k a.l,.bool false],x.v] [])=some (rvq (mv b)):=by rw[<-hr'];exact e2
    obtain⟨S,e,hS⟩:∃S,ev pg (.code L90_0 ⟨fill f 0 (T90 k),hG c a zlf⟩)=some { st:=⟨S,hG c b zlf⟩ }/\qft (T90 (k+1)) (S.map (qbf 9)):=by simp[T90,L90_0,hk',hr',e1,e3,wk,hxs,qay,exT,qag,hf.ne]
    exact⟨_,e,.inl ⟨rfl,b,⟨hg,hL',by omega⟩,hS,by simp⟩⟩
 .rintro a f hf ⟨hg,hL,hl⟩;simp only[Nat.sub_self]at hg;replace hg:a=qep c 6 a0:=hg;obtain⟨S,e,hS⟩:∃S,ev pg (.code L90_0 ⟨fill f 0 (T90 6),hG c a zlf⟩)=some { x:=.exit 0,st:=⟨S,hG c a zlf⟩ }/\qft zky S:=by
   simp[T90,zky,L90_0,hf.ne]
  exact⟨_,e,by simp,.inr (by rw[<-hg];exact qbo.2 ⟨rfl,hS,rfl⟩)⟩
theorem ev90{c:Ct}(hfew:c.small=true){a:Mw}(hL:Lie c a.s)(hl:a.l.length<=8192):ev pg (.call (fnq 90) [c.v,mv a] [])=some (rvq (mv (qep c 6 a))):=by
 have hlp:=fun st=>z4m hfew hL hl (st:=st);rw[qaa,pg90.1];generalize qep c 6 a=b at *;simp[ir90,qai];generalize hq:ev pg (.code (.going _ L90_0) _)=o;obtain⟨r,rfl,hr⟩:∃r,o=some r/\_:=by rw[<-hq];exact hlp _ (by simp[T90])
 rcases hr with⟨fr,hfr,rfl⟩ | ⟨fr,hfr,rfl⟩
 .simp[zky,hfr.ne]
 .simp[zky,hfr.ne]
abbrev yV(c:Ct)(s0:Ste)(mw:List (Int×Bool))(g:Nat)(u:Ste×Bool×List (List (Int×Bool))):H :=
 [⟨0,.box c.cells⟩,⟨0,.arr 0 []⟩,⟨0,.box [.sl 1 0 0 0 0,.bool false]⟩,⟨0,.arr 0 []⟩,⟨0,.arr 0 []⟩,⟨0,.arr 0 []⟩,⟨0,.arr 0 []⟩,⟨0,.arr 0 []⟩,⟨0,.box s0.cells⟩,
   ⟨0,.arr 0 []⟩,⟨0,.arr 0 []⟩,⟨0,.arr 0 []⟩,⟨0,.arr 0 []⟩,⟨0,.arr 0 []⟩,⟨0,.arr 0 []⟩,⟨0,.box (u.1.cells++[q3k mw,.bool u.2.1])⟩,⟨g,.arr 1 (u.2.2.map zqs)⟩,⟨0,.arr 0 []⟩,⟨0,.box [.sl 16 g 1 0 u.2.2.length,.bool u.2.1]⟩]
def T58(test:List Int)(k:Nat):Tm:=[none,some (qcr test),bN 0,none,bN 2,none,none,none,bN 15,bN 18,nN k]++zN 68
def zwc:Tm:=[none,none,none,none,bN 2,none,none,none,none,bN 18]++zN 69
theorem z4i{c:Ct}(hfew:c.small=true)(s0:Ste){test:List Int}(hlt:test.length<=4096)(hin:∀i∈test,0<=i/\i<c.inputs.length){u0:Ste×Bool×List (List (Int×Bool))}{w0:List (Int×Bool)}{g0:Nat}(hL0:Lie c u0.1)(hW0:u0.2.2.length=1){st:St}(h0:At (T58 test 0) (yV c s0 w0 g0 u0) st) :
  ∃r,ev pg (.code (.going 19 L58_0) st)=some r/\∃w g,qar (.exit 0) zwc (yV c s0 w g (qmk c test u0)) r:=by
 refine qcg (α:=(Ste×Bool×List (List (Int×Bool)))×List (Int×Bool)×Nat) test.length (fun k _=>T58 test k) (fun _ u=>yV c s0 u.2.1 u.2.2 u.1) (fun k u=>qmk c (test.drop k) u.1=qmk c test u0/\Lie c u.1.1/\u.1.2.2.length=k+1) _ ?_ ?_ (u0,w0,g0) ⟨by simp,hL0,hW0⟩ h0
 .rintro k ⟨⟨s,rr,W⟩,w,g⟩ fr hf hk ⟨hg,hL,hW⟩;simp only at hg hL hW ⊢;have hk':(k:Int)<test.length:=by omega
  have wk:=qbc k;rw[jL hk,qmk]at hg;simp only at hg;cases hr:rr with
  | true =>
   subst hr;rw[if_pos rfl]at hg;obtain⟨S,e,hS⟩:∃S,ev pg (.code L58_0 ⟨fill fr 0 (T58 test k),yV c s0 w g (s,true,W)⟩)=some { x:=.exit 0,st:=⟨S,yV c s0 w g (s,true,W)⟩ }/\qft zwc S:=by simp[T58,zwc,L58_0,hk,hk',hf.ne]
   exact⟨_,e,.inr ⟨by simp,w,g,by rw[<-hg];exact qbo.2 ⟨rfl,hS,rfl⟩⟩⟩
  | false =>
   subst hr;rw[if_neg (by simp)]at hg;have hi:=hin test[k] (jH hk);have hsi:=hL.rdy.shp.i;have htk0:test[k]?=some test[k]:=jA hk;generalize htk:test[k]=i at *;obtain⟨hi0,hi1⟩:=hi;obtain⟨j,rfl⟩:∃j:Nat,i=j:=⟨i.toNat,by omega⟩
   have hj:j<s.inputs.length:=by omega
   have hjI:(j:Int)<s.inputs.length:=by omega
   have hP:qkx c s j=qep c 6 (qgl c ⟨s,[],false⟩ ⟨2,j,!s.inputs[j]⟩):=by unfold qkx;simp[hj]
   rw[hP]at hg;have hfitW:(W.length+1)*24<=140737488355328:=by omega
   have e93:=ev93 hfew (a:=⟨s,[],false⟩) hL (by simp) ⟨2,j,!s.inputs[j]⟩;have hLd:=qko hfew (a:=⟨s,[],false⟩) hL ⟨2,j,!s.inputs[j]⟩;have hld:=q4n hfew (a:=⟨s,[],false⟩) hL ⟨2,j,!s.inputs[j]⟩;have hget:s.inputs[j]?=some s.inputs[j]:=jA hj;generalize qgl c ⟨s,[],false⟩ ⟨2,j,!s.inputs[j]⟩=d at *;replace e93:ev pg (.call (fnq 93) [c.v,.agg [qcr s.ends,qdc s.valves,qdc s.inputs,qdc s.values,qcr s.timers,.imm [],.bool false],(⟨2,j,!s.inputs[j]⟩:Evn).v] [])=some (rvq (mv d)):=e93;have e90:=ev90 hfew hLd (by simp only[List.length_nil]at hld;omega);replace e90:ev pg (.call (fnq 90) [c.v,.agg [qcr d.s.ends,qdc d.s.valves,qdc d.s.inputs,qdc d.s.values,qcr d.s.timers,q3k d.l,.bool d.r]] [])=some (rvq (mv (qep c 6 d))):=e90;have hLg:=qio hfew 6 hLd;generalize qep c 6 d=b at *;obtain⟨bs,bl,br⟩:=b;obtain⟨S,H',e,hS,hH⟩:∃S H',ev pg (.code L58_0 ⟨fill fr 0 (T58 test k),yV c s0 w g (s,false,W)⟩)=some { st:=⟨S,H'⟩ }/\qft (T58 test (k+1)) (S.map (qbf 19))/\qgk 19 H'=yV c s0 bl (g+1) (bs,br,W++[bl]):=by
    simp[-qgk,T58,L58_0,hk,hk',htk,hj,hjI,hget,e93,e90,wk,hfitW,qab,qay,exT,qag,hf.ne];refine⟨_,_,⟨rfl,rfl⟩,?_,?_⟩
    .simp[hf.ne]
    .simp
   exact⟨_,e,.inl ⟨rfl,((bs,br,W++[bl]),bl,g+1),⟨hg,hLg,by simp[hW]⟩,hS,hH⟩⟩
 .rintro⟨⟨s,rr,W⟩,w,g⟩ fr hf ⟨hg,hL,hW⟩;simp only[List.drop_length,qmk]at hg;obtain⟨S,e,hS⟩:∃S,ev pg (.code L58_0 ⟨fill fr 0 (T58 test test.length),yV c s0 w g (s,rr,W)⟩)=some { x:=.exit 0,st:=⟨S,yV c s0 w g (s,rr,W)⟩ }/\qft zwc S:=by
   simp[T58,zwc,L58_0,hf.ne]
  exact⟨_,e,by simp,w,g,by rw[<-hg];exact qbo.2 ⟨rfl,hS,rfl⟩⟩
theorem ev58{c:Ct}(hfew:c.small=true){test:List Int}(hlt:test.length<=4096)(hin:∀i∈test,0<=i/\i<c.inputs.length)(hchk:c.check=0) :
  ev pg (.call (fnq 58) [c.v,qcr test] [])=some (rvq (zoo (qbm c test).1 (qbm c test).2)):=by
 have e1:=ev89 c hfew;have e2:=ev92 hfew hchk;unfold zec at e1;have hf0:(qev c).2=0:=by unfold qev;rw[if_pos hchk]
 have hF:(qev c).1=qeh c:=by unfold qev;rw[if_pos hchk]
 rw[qaa,pg58.1];unfold qbm;by_cases hs:(qbz c).2.2=0
 .have hR:Rdy c (qeh c):=⟨hfew,qdi hchk⟩
  have hL:=qtt hfew hchk hs;rw[if_neg (by simp[hf0,hs])];have hfM:qmd c=qep c 6 ⟨(qbz c).1,qlf (qev c).1 (qbz c).1,false⟩:=rfl;have hlen:=qoa (t:=(qbz c).1) hR.small;have hbe:=hR.beg hL.rdy;rw[hF]at hfM;have e3:=ev91 (qeh c) (qbz c).1 hR.small (by
   have q1:=hR.shp.e;have q2:=hL.rdy.shp.e;omega)
  have hbr:qlf (qeh c) (qbz c).1=qmw (qeh c) (qbz c).1:=by unfold qlf;rw[if_pos hbe]
  rw[<-hbr]at e3;generalize qmd c=fm at *;rw[hs]at e1;generalize (qbz c).1=s0 at *;generalize (qbz c).2.1=cf at *;generalize qeh c=bg at *;generalize qlf bg s0=B at *;have e90:=ev90 hfew (a:=⟨s0,B,false⟩) hL (by simp only;omega);have hLf:=qio hfew 6 (a:=⟨s0,B,false⟩) hL;rw[<-hfM]at e90 hLf;replace e90:ev pg (.call (fnq 90) [c.v,.agg [qcr s0.ends,qdc s0.valves,qdc s0.inputs,qdc s0.values,qcr s0.timers,q3k B,.bool false]] [])=some (rvq (mv fm)):=e90;obtain⟨fs,fl,fr⟩:=fm;have hlp:=fun st=>z4i hfew s0 hlt hin (u0:=(fs,fr,[fl])) (w0:=fl) (g0:=0) hLf rfl (st:=st);simp only at hlp ⊢;generalize hu:qmk c test (fs,fr,[fl])=u at *;obtain⟨us,ur,uW⟩:=u;simp[ir58,e1,e2,e3,e90,qai,qay,qab,exT,qag];generalize hq:ev pg (.code (.going _ L58_0) _)=o;obtain⟨r,rfl,w,g,frr,hfr,rfl⟩:∃r,o=some r/\_:=by rw[<-hq];exact hlp _ (by simp[T58,yV])
  simp[zwc,hfr.ne]
 .rw[if_pos (.inr hs)];have hsb:((qbz c).2.2 != 0)=true:=by simpa using hs
  generalize qbz c=y at *;obtain⟨y1,y2,y3⟩:=y;simp only at hs hsb;simp[ir58,e1,hs,hsb]
end Go.Proofs.YtggbaapfbgjaeaaGreatDoor
