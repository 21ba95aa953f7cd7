/- The faulty. -/
import Derived.Test.YtggbaapfbgjaeaaGreatDoorFFy4
set_option linter.all false
namespace Go.Proofs.YtggbaapfbgjaeaaGreatDoor
open Go Go.Am Go.Proofs
set_option maxRecDepth 100000
theorem qvn:∀{s:List V},(∀i,qah s i ≠ .nils)->qaq s
 | [],_,v,hv=>by cases hv
 | w :: s,h,v,hv=>by
  cases hv with
  | head=>exact h 0
  | tail _ hv=>exact qvn (s:=s) (fun i=>h (i+1)) v hv
theorem qsl:∀{s:List V} {j:Nat} (h:H),qah s j=.nils->(∀i,i≠j->qah s i ≠ .nils)->qhn h s=(qet s j (.sl h.length 0 0 0 0),h++[⟨0,.arr 0 []⟩])
 | [],j,h,hj,_=>by simp[qah]at hj
 | v :: s,0,h,hj,hn=>by have hv:v=.nils:=hj;subst hv;have hs:qaq s:=qvn fun i=>hn (i+1) (by omega);simp only[qhn,qeg _ hs];rfl
 | v :: s,j+1,h,hj,hn=>by have hv:v ≠ .nils:=hn 0 (by omega);have ih:=qsl (s:=s) (j:=j) h hj (fun i hi=>hn (i+1) (by omega));cases v<;>first | exact absurd rfl hv | (simp only[qhn,ih];rfl)
theorem qjs:∀{s:List V} {d:Nat},s.length<=d->qah s d=.undef
 | [],d,_=>by cases d<;>rfl
 | v :: s,0,h=>by simp at h
 | v :: s,d+1,h=>qjs (s:=s) (by simpa using h)
theorem zjh{s:List V}{j:Nat}{x:V}(h:∀i,i≠15->qah s i ≠ .nils)(hx:x ≠ .nils):∀i,i≠15->qah (qet s j x) i ≠ .nils:=by
 intro i hi;by_cases e:j=i
 .subst e;by_cases hl:j<s.length
  .rw[qin hl];exact hx
  .rw[qjs (by rw[qjc];omega)];simp
 .rw[qaf e];exact h i hi
theorem zyo{c:Ct}{k i:Int}{cells:List V}{li:Int}{d:Fs}{st:St}(h:R83 c k i cells li 2 d st):∃r,ev pg (.code L130_4 st)=some r/\r.x=.exit 4/\R83 c k i cells li 2 d r.st:=by obtain⟨gs,m,gk,mk,gv,mv,hh,hm2,hmk,hmv,hk⟩:=h;have e93:=hk.t93;have e94:=hk.t94;have hl:=hk.keep.len;refine⟨⟨.exit 4,.undef,⟨qet st.s 95 (.bool false),st.h⟩⟩,?_,rfl,gs,m,gk,mk,gv,mv,hh,hm2,hmk,hmv,hk.set 95 _ (by simp) (by decide) (by decide)⟩;rw[L130_4_eq];simp[e93,e94,hl]
theorem zsw{c:Ct}{A:Nat}(hM:Mid c A)(hcp:c.plus.length=A)(hcm:c.minus.length=A)(k i:Int)(hk6:0<=k/\k<6)(cells:List V)(v0 li:Int)(hcs:qik v0 cells)(h64:c.signals.length<=64)(st:St)(h0:R83 c k i cells li 0 (qbl c k i A) st):∃r,ev pg (.code (.going 29 L130_4) st)=some r/\r.x=.exit 4/\R83 c k i cells li 2 (qbg c k i A 1 (qbg c k i A 0 (qbl c k i A))) r.st:=by
 have hA6:=hM.hi;have hin:=hM.inp;obtain⟨l1,l2⟩:=qtu c k i A;obtain⟨m1,m2,m3⟩:=qys c k i A 0 (qbl c k i A);have hcN:qad c A<=200:=by unfold qad;omega
 have hw:(qbg c k i A 0 (qbl c k i A)).w.length<=1:=by unfold qbg qbl;simp only;split<;>simp
 obtain⟨r1,e1,x1,R1⟩:=zkd hM hcp hcm k i hk6 cells li v0 hcs 0 (.inl rfl) (qbl c k i A) rfl rfl hcp hcm (by omega) (by omega) (Nat.zero_le _) st h0;obtain⟨r2,e2,x2,R2⟩:=zkd hM hcp hcm k i hk6 cells li v0 hcs 1 (.inr rfl) (qbg c k i A 0 (qbl c k i A)) rfl rfl (by unfold qbg;simp only[qdr];exact hcp) (by unfold qbg;simp only[qdr];exact hcm) (by omega) (by omega) (by omega) _ R1;obtain⟨r3,e3,x3,R3⟩:=zyo R2;refine⟨r3,?_,x3,R3⟩;rw[qdy,e1];simp only[x1];rw[qdy,e2];simp only[x2];rw[qdy,e3];simp only[x3]
def zfa(c:Ct)(k i:Int)(cells:List V)(D:Fs)(r:R):Prop:=r.x=.ret/\∃gs ms gk mk gv mv,r.st.h=(h83 c k i cells (b83 c gs ms (D.d.signals.map Sg.row).length) ⟨0,.arr 1 (D.d.plus.map qbk)⟩ ⟨0,.arr 1 (D.d.minus.map qbk)⟩ ⟨gs,.arr ms (D.d.signals.map Sg.row)⟩ (q6v gk mk D.K gv mv D.w)).set 6 ⟨0,.box (b83 c gs ms (D.d.signals.map Sg.row).length)⟩/\qah r.st.s 4=.bptr 6 0/\qah r.st.s 5=.sl 28 gv mv 0 D.w.length
theorem z6b{c:Ct}{A:Nat}(hM:Mid c A)(hcp:c.plus.length=A)(hcm:c.minus.length=A)(k i:Int)(hk6:0<=k/\k<6)(cells:List V)(li:Int)(hli:li=qkg k i)(hcs:qik (qcu k) cells)(h64:c.signals.length<=64)(gk mk:Nat)(hmk:mk=1\/mk=0)(st:St)(g m:Nat)(hm:m=10\/m=0)(hh:st.h=h83 c k i cells (b83 c g m c.signals.length) ⟨0,.arr 1 (c.plus.map qbk)⟩ ⟨0,.arr 1 (c.minus.map qbk)⟩ ⟨g,.arr m ((c.signals.map (qjm li (qcu k))).map Sg.row)⟩ [⟨0,.arr 0 []⟩,⟨gk,.arr mk ((qaw c A (qad c A)).map qpq)⟩])(hk:Keep83 li st.s)(h9:qah st.s 9=.sl 27 gk mk 0 (qaw c A (qad c A)).length):∃r,ev pg (.code zrj st)=some r/\zfa c k i cells (qbg c k i A 1 (qbg c k i A 0 (qbl c k i A))) r:=by
 unfold zfa;have hgo:=zsw hM hcp hcm k i hk6 cells (qcu k) li hcs h64;obtain⟨s,h⟩:=st;simp only at hh hk h9;subst hh;have hl:=hk.len;have hnn:=hk.nn;generalize qbg c k i A 1 (qbg c k i A 0 (qbl c k i A))=D at *;simp[zrj,qai,hl];generalize hs2:qet (qet (qet (qet s 15 .nils) 92 _) 93 _) 94 _=s2;have g15:qah s2 15=.nils:=by rw[<-hs2];simp[hl]
 have gn:∀i,i≠15->qah s2 i ≠ .nils:=by rw[<-hs2];refine zjh (zjh (zjh (fun i hi=>?_) (by simp)) (by simp)) (by simp);rw[qaf (Ne.symm hi)];exact qap hnn i
 have hl2:s2.length=157:=by rw[<-hs2];simp[hl]
 have f:∀j,j≠15->j≠92->j≠93->j≠94->qah s2 j=qah s j:=fun j h1 h2 h3 h4=>by rw[<-hs2,qaf (Ne.symm h4),qaf (Ne.symm h3),qaf (Ne.symm h2),qaf (Ne.symm h1)]
 have g92:qah s2 92=z5l:=by rw[<-hs2];simp[hl]
 have g93:qah s2 93=num 2:=by rw[<-hs2];simp[hl]
 have g94:qah s2 94=num 0:=by rw[<-hs2];simp[hl]
 clear hs2;rw[qsl _ g15 gn];simp;generalize hr:ev pg (.code (.going 29 L130_4) _)=o;obtain⟨r,rfl,hx,hR⟩:∃r,o=some r/\_:=by
  rw[<-hr];refine hgo _ ⟨g,m,gk,mk,0,0,?_,hm,hmk,.inr rfl,⟨qvn fun i=>?_,by simp[hl2],?_,?_,?_,?_,?_,?_,?_⟩,?_,?_,?_,?_,?_⟩
  .subst hli;simp[qbl]
  .by_cases hi:i=15
   .subst hi;rw[qin (by omega)];simp
   .rw[qaf (Ne.symm hi)];exact gn i hi
  .rw[qaf (by decide),f _ (by decide) (by decide) (by decide) (by decide)];exact hk.t2
  .rw[qaf (by decide),f _ (by decide) (by decide) (by decide) (by decide)];exact hk.t3
  .rw[qaf (by decide),f _ (by decide) (by decide) (by decide) (by decide)];exact hk.t4
  .rw[qaf (by decide),f _ (by decide) (by decide) (by decide) (by decide)];exact hk.t5
  .rw[qaf (by decide),f _ (by decide) (by decide) (by decide) (by decide)];exact hk.t6
  .rw[qaf (by decide),f _ (by decide) (by decide) (by decide) (by decide)];exact hk.t7
  .rw[qaf (by decide),f _ (by decide) (by decide) (by decide) (by decide)];exact hk.t8
  .rw[qaf (by decide),f _ (by decide) (by decide) (by decide) (by decide)];exact h9
  .rw[qin (by omega)];rfl
  .rw[qaf (by decide)];exact g92
  .rw[qaf (by decide)];exact g93
  .rw[qaf (by decide)];exact g94
 obtain⟨gs,m,gk,mk,gv,mv,hh,hm2,hmk,hmv,hk⟩:=hR;obtain⟨x,v,s4,h4⟩:=r;simp only at hx hh hk;subst hx hh;have k4:=hk.keep.t4;have k8:=hk.keep.t8;have k15:=hk.t15;have kl:=hk.keep.len;simp[zxk,k4,k8,k15,kl]
theorem z5j{c:Ct}(hfew:c.small=true){A:Nat}(hM:Mid c A)(hcp:c.plus.length=A)(hcm:c.minus.length=A)(k i:Int)(hk6:0<=k/\k<6)(cells:List V)(li:Int)(hli:li=qkg k i)(hcs:qik (qcu k) cells)(h64:c.signals.length<=64)(r:R)(h0:z0x c A k i cells li r):∃r',ev pg (.code zri r.st)=some r'/\zfa c k i cells (qbg c k i A 1 (qbg c k i A 0 (qbl c k i A))) r':=by
 obtain⟨_,gk,mk,hh,hmk,hk,h9⟩:=h0;have hloop:=zud hfew k i cells li (qcu k) hcs gk mk (qaw c A (qad c A));have hT3:=z6b hM hcp hcm k i hk6 cells li hli hcs h64 gk mk hmk;have hln:=qxk c A (qad c A);obtain⟨x,v,s,h⟩:=r;simp only at hh hk h9;subst hh;have hl:=hk.len;have hnn:=hk.nn;have k2:=hk.t2;generalize qbg c k i A 1 (qbg c k i A 0 (qbl c k i A))=D at *;generalize hN:qad c A=N at *;generalize qaw c A N=K at *;subst hln;simp (maxDischargeDepth:=20) [zri,qai,hl,k2,qeg,qei,hnn];generalize hr:ev pg (.code (.going 28 L130_1) _)=o;obtain⟨r,rfl,hx,g,m,hh,hm,hk2,h92⟩:∃r,o=some r/\_:=by rw[<-hr];refine hloop _ ⟨0,0,rfl,.inr rfl,(((hk.set 58 _ (by simp) (by decide)).set 59 _ (by simp) (by decide)).set 60 _ (by simp) (by decide)).set 61 _ (by simp) (by decide),by simp[h9],by simp[hl],by simp[hl],by simp[hl]⟩
 obtain⟨r',hr',hF⟩:=hT3 r.st g m hm hh hk2 h92;simp[hx,hr'];exact hF
set_option maxHeartbeats 800000 in
theorem ev130line(c:Ct)(hfew:c.small=true)(hc:c.check=0){A:Nat}(hA:c.act.toNat=A)(hcp:c.plus.length=A)(hcm:c.minus.length=A)(h64:c.signals.length<=64)(kn:Nat)(hk:kn<6)(i:Int)(t:Txt)(hsel:List.take 4 (List.drop (kn*4) (kC 8))=[.str t,.bool true,num (qcu kn),.nilfn])(hli:qkg kn i=i):ev pg (.call (fnq 130) [c.v,fv kn i] [])=some (rvq (.tup [(qbg c kn i A 1 (qbg c kn i A 0 (qbl c kn i A))).d.v,.imm ((qbg c kn i A 1 (qbg c kn i A 0 (qbl c kn i A))).w.map qfj)])):=by
 obtain⟨f1,f2,f3,f4,f5,f6⟩:=qcd hfew;have h67:=ev169 [⟨0,.box c.cells⟩,⟨0,.box [num kn,num i]⟩,⟨0,.arr 0 []⟩,⟨0,.arr 0 []⟩,⟨0,.arr 0 []⟩,⟨0,.arr 0 []⟩,⟨0,.box [num 0,.sl 2 0 0 0 0,.sl 3 0 0 0 0,.sl 4 0 0 0 0,.sl 5 0 0 0 0]⟩,⟨0,.box [.str [],.bool false,.int .i64 0,.nilfn]⟩];have h4:4<=24-kn*4:=by omega
 have zyj:=ev170 c.inputs (by omega);have h35a:=ev78 c.plus (by omega);have h35b:=ev78 c.minus (by omega);have hM:=qfx hc hfew;rw[hA]at hM;have h73:=ev171 hM;have hT:=z5j hfew hM hcp hcm kn i (by omega) [.str t,.bool true,num (qcu kn),.nilfn] i hli.symm (.inl ⟨t,rfl⟩) h64;have hL:=ziw hfew hc A hA kn i [.str t,.bool true,num (qcu kn),.nilfn] (qcu kn) (.inl ⟨t,rfl⟩) i;have hI:∀st:St,(st.h=h83 c kn i [.str t,.bool true,num (qcu kn),.nilfn] (b83 c 0 0 0) ⟨0,.arr 1 (c.plus.map qbk)⟩ ⟨0,.arr 1 (c.minus.map qbk)⟩ ⟨0,.arr 0 []⟩ [⟨0,.arr 0 []⟩,⟨0,.arr 0 []⟩]/\Keep83 i st.s/\qah st.s 9=.sl 27 0 0 0 0/\qah st.s 43=num (qad c A)/\qah st.s 44=num 0)->zwu c A kn i [.str t,.bool true,num (qcu kn),.nilfn] i 0 st:=fun st h=>⟨0,0,h.1,.inr rfl,h.2.1,h.2.2.1,h.2.2.2.1,h.2.2.2.2⟩
 unfold zfa at hT;have hact:(qbg c kn i A 1 (qbg c kn i A 0 (qbl c kn i A))).d.act=c.act:=rfl;have hinp:(qbg c kn i A 1 (qbg c kn i A 0 (qbl c kn i A))).d.inputs=c.inputs:=rfl;have hpl:(qbg c kn i A 1 (qbg c kn i A 0 (qbl c kn i A))).d.plus.length=A:=by unfold qbg;simp only[qdr];exact hcp
 have hml:(qbg c kn i A 1 (qbg c kn i A 0 (qbl c kn i A))).d.minus.length=A:=by unfold qbg;simp only[qdr];exact hcm
 generalize qbg c kn i A 1 (qbg c kn i A 0 (qbl c kn i A))=D at *;generalize qad c A=N at *;generalize qcu kn=lv at *;rw[qaa,pg130.1,ir130_eq];simp[qab,exT,qag,h67,hk,h4,hsel,zyj,h35a,h35b,zrh,qai,h73];generalize hr:ev pg (.code (.going 28 L130_0) _)=o;obtain⟨r,rfl,hQ⟩:∃r,o=some r/\_:=by rw[<-hr];exact hL _ (hI _ ⟨by simp,⟨by simp[qaq],rfl,rfl,rfl,rfl,rfl,rfl,rfl,rfl⟩,rfl,rfl,rfl⟩)
 obtain⟨r',hr',hx,gs,ms,gk,mk,gv,mv,hh,e4,e5⟩:=hT r hQ;simp[hQ.1,hr',hx,hh,e4,e5,hpl,hml,hcp,hcm,hact,hinp]
set_option maxHeartbeats 800000 in
theorem ev130other(c:Ct)(hfew:c.small=true)(hc:c.check=0){A:Nat}(hA:c.act.toNat=A)(hcp:c.plus.length=A)(hcm:c.minus.length=A)(h64:c.signals.length<=64)(kn:Nat)(hk:kn<6)(i:Int)(t:Txt)(a b:Nat)(ha:a<17)(hb:b<17)(hsel:List.take 4 (List.drop (kn*4) (kC 8))=[.str t,.bool false,num (qcu kn),.fn 205 [] [.bptr a 0,.bptr b 0]])(hli:qkg kn i=-1):ev pg (.call (fnq 130) [c.v,fv kn i] [])=some (rvq (.tup [(qbg c kn i A 1 (qbg c kn i A 0 (qbl c kn i A))).d.v,.imm ((qbg c kn i A 1 (qbg c kn i A 0 (qbl c kn i A))).w.map qfj)])):=by
 obtain⟨f1,f2,f3,f4,f5,f6⟩:=qcd hfew;have h67:=ev169 [⟨0,.box c.cells⟩,⟨0,.box [num kn,num i]⟩,⟨0,.arr 0 []⟩,⟨0,.arr 0 []⟩,⟨0,.arr 0 []⟩,⟨0,.arr 0 []⟩,⟨0,.box [num 0,.sl 2 0 0 0 0,.sl 3 0 0 0 0,.sl 4 0 0 0 0,.sl 5 0 0 0 0]⟩,⟨0,.box [.str [],.bool false,.int .i64 0,.nilfn]⟩];have h4:4<=24-kn*4:=by omega
 have zyj:=ev170 c.inputs (by omega);have h35a:=ev78 c.plus (by omega);have h35b:=ev78 c.minus (by omega);have hM:=qfx hc hfew;rw[hA]at hM;have h73:=ev171 hM;have hT:=z5j hfew hM hcp hcm kn i (by omega) [.str t,.bool false,num (qcu kn),.fn 205 [] [.bptr a 0,.bptr b 0]] (-1) hli.symm (.inr ⟨t,a,b,ha,hb,rfl⟩) h64;have hL:=ziw hfew hc A hA kn i [.str t,.bool false,num (qcu kn),.fn 205 [] [.bptr a 0,.bptr b 0]] (qcu kn) (.inr ⟨t,a,b,ha,hb,rfl⟩) (-1);have hI:∀st:St,(st.h=h83 c kn i [.str t,.bool false,num (qcu kn),.fn 205 [] [.bptr a 0,.bptr b 0]] (b83 c 0 0 0) ⟨0,.arr 1 (c.plus.map qbk)⟩ ⟨0,.arr 1 (c.minus.map qbk)⟩ ⟨0,.arr 0 []⟩ [⟨0,.arr 0 []⟩,⟨0,.arr 0 []⟩]/\Keep83 (-1) st.s/\qah st.s 9=.sl 27 0 0 0 0/\qah st.s 43=num (qad c A)/\qah st.s 44=num 0)->zwu c A kn i [.str t,.bool false,num (qcu kn),.fn 205 [] [.bptr a 0,.bptr b 0]] (-1) 0 st:=fun st h=>⟨0,0,h.1,.inr rfl,h.2.1,h.2.2.1,h.2.2.2.1,h.2.2.2.2⟩
 unfold zfa at hT;have hact:(qbg c kn i A 1 (qbg c kn i A 0 (qbl c kn i A))).d.act=c.act:=rfl;have hinp:(qbg c kn i A 1 (qbg c kn i A 0 (qbl c kn i A))).d.inputs=c.inputs:=rfl;have hpl:(qbg c kn i A 1 (qbg c kn i A 0 (qbl c kn i A))).d.plus.length=A:=by unfold qbg;simp only[qdr];exact hcp
 have hml:(qbg c kn i A 1 (qbg c kn i A 0 (qbl c kn i A))).d.minus.length=A:=by unfold qbg;simp only[qdr];exact hcm
 generalize qbg c kn i A 1 (qbg c kn i A 0 (qbl c kn i A))=D at *;generalize qad c A=N at *;generalize qcu kn=lv at *;rw[qaa,pg130.1,ir130_eq];simp[qab,exT,qag,h67,hk,h4,hsel,zyj,h35a,h35b,zrh,qai,h73];generalize hr:ev pg (.code (.going 28 L130_0) _)=o;obtain⟨r,rfl,hQ⟩:∃r,o=some r/\_:=by rw[<-hr];exact hL _ (hI _ ⟨by simp,⟨by simp[qaq],rfl,rfl,rfl,rfl,rfl,rfl,rfl,rfl⟩,rfl,rfl,rfl⟩)
 obtain⟨r',hr',hx,gs,ms,gk,mk,gv,mv,hh,e4,e5⟩:=hT r hQ;simp[hQ.1,hr',hx,hh,e4,e5,hpl,hml,hcp,hcm,hact,hinp]
theorem ev130(c:Ct)(hfew:c.small=true)(k i:Int)(hf:q2c c k i=0):ev pg (.call (fnq 130) [c.v,fv k i] [])=some (rvq (.tup [(qcz c k i).d.v,.imm ((qcz c k i).w.map qfj)])):=by
 obtain⟨hc,hk,hi0,hiN,hiA⟩:=qkp hf;have hR:=qiz hc hfew;have h64:c.signals.length<=64:=by
  unfold Ct.check at hc;split at hc
  .cases hc
  .split at hc
   .cases hc
   .omega
 unfold qcz;rcases (by omega:k=(0:Nat)\/k=(1:Nat)\/k=(2:Nat)\/k=(3:Nat)\/k=(4:Nat)\/k=(5:Nat))with rfl | rfl | rfl | rfl | rfl | rfl
 .exact ev130other c hfew hc rfl hR.plus hR.minus h64 0 (by omega) i t0t 9 10 (by omega) (by omega) rfl rfl
 .exact ev130other c hfew hc rfl hR.plus hR.minus h64 1 (by omega) i t1t 11 12 (by omega) (by omega) rfl rfl
 .exact ev130line c hfew hc rfl hR.plus hR.minus h64 2 (by omega) i t2t rfl rfl
 .exact ev130line c hfew hc rfl hR.plus hR.minus h64 3 (by omega) i t3t rfl rfl
 .exact ev130other c hfew hc rfl hR.plus hR.minus h64 4 (by omega) i t4t 13 14 (by omega) (by omega) rfl rfl
 .exact ev130other c hfew hc rfl hR.plus hR.minus h64 5 (by omega) i t5t 15 16 (by omega) (by omega) rfl rfl
def qwz(c:Ct)(k i:Int):Int:=if q2c c k i=0 then(if(qcz c k i).d.check=0 then 0 else 12)else q2c c k i
def q9e:Ct:=⟨0,[],[],[],[]⟩
def q8f(c:Ct)(k i:Int):Ct:=if qwz c k i=0 then(qcz c k i).d else q9e
theorem ev80(c:Ct)(hfew:c.small=true)(k i:Int):ev pg (.call (fnq 80) [c.v,fv k i] [])=some (rvq (.tup [(q8f c k i).v,num (qwz c k i)])):=by
 have h19:=ev129 c hfew k i;rw[qaa,pg80.1];unfold q8f;by_cases he:q2c c k i=0
 .have h83:=ev130 c hfew k i he;have h29:=ev44 (qcz c k i).d (qmv hfew (qkp he).1 k i);by_cases hd:(qcz c k i).d.check=0
  .have e:qwz c k i=0:=by unfold qwz;rw[if_pos he,if_pos hd]
   rw[e,if_pos rfl];rw[he]at h19;rw[hd]at h29;generalize (qcz c k i).d=D at *;generalize (qcz c k i).w=w at *;simp[ir80,h19,h83,h29]
  .have e:qwz c k i=12:=by unfold qwz;rw[if_pos he,if_neg hd]
   rw[e,if_neg (by omega)];rw[he]at h19;generalize (qcz c k i).d=D at *;generalize (qcz c k i).w=w at *;generalize D.check=e' at *;simp[ir80,h19,h83,h29,hd,q9e]
 .have e:qwz c k i=q2c c k i:=by unfold qwz;rw[if_neg he]
  rw[e,if_neg he];generalize q2c c k i=e' at *;simp[ir80,h19,he,q9e]
end Go.Proofs.YtggbaapfbgjaeaaGreatDoor
