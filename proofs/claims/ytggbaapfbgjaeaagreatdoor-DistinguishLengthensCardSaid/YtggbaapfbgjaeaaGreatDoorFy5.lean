/- The faulty. -/
import Derived.Test.YtggbaapfbgjaeaaGreatDoorFy4
set_option linter.all false
namespace Go.Proofs.YtggbaapfbgjaeaaGreatDoor
open Go Go.Am Go.Proofs
set_option maxRecDepth 100000
theorem quy:∀{s:List V},(∀i,qaj s i ≠ .nils)->qas s
 | [],_,v,hv=>by cases hv
 | w :: s,h,v,hv=>by
  cases hv with
  | head=>exact h 0
  | tail _ hv=>exact quy (s:=s) (fun i=>h (i+1)) v hv
theorem qsc:∀{s:List V} {j:Nat} (h:H),qaj s j=.nils->(∀i,i≠j->qaj s i ≠ .nils)->qhn h s=(qep s j (.sl h.length 0 0 0 0),h++[⟨0,.arr 0 []⟩])
 | [],j,h,hj,_=>by simp[qaj]at hj
 | v :: s,0,h,hj,hn=>by have hv:v=.nils:=hj;subst hv;have hs:qas s:=quy fun i=>hn (i+1) (by omega);simp only[qhn,qee _ hs];rfl
 | v :: s,j+1,h,hj,hn=>by have hv:v ≠ .nils:=hn 0 (by omega);have ih:=qsc (s:=s) (j:=j) h hj (fun i hi=>hn (i+1) (by omega));cases v<;>first | exact absurd rfl hv | (simp only[qhn,ih];rfl)
theorem qjr:∀{s:List V} {d:Nat},s.length<=d->qaj s d=.undef
 | [],d,_=>by cases d<;>rfl
 | v :: s,0,h=>by simp at h
 | v :: s,d+1,h=>qjr (s:=s) (by simpa using h)
theorem zim{s:List V}{j:Nat}{x:V}(h:∀i,i≠15->qaj s i ≠ .nils)(hx:x ≠ .nils):∀i,i≠15->qaj (qep s j x) i ≠ .nils:=by
 intro i hi;by_cases e:j=i
 .subst e;by_cases hl:j<s.length
  .rw[qim hl];exact hx
  .rw[qjr (by rw[qjb];omega)];simp
 .rw[qaf e];exact h i hi
theorem zxf{c:Ct}{k i:Int}{cells:List V}{li:Int}{d:Fs}{st:St}(h:R83 c k i cells li 2 d st):∃r,ev pg (.code L130_4 st)=some r/\r.x=.exit 4/\R83 c k i cells li 2 d r.st:=by obtain⟨gs,m,gk,mk,gv,mv,hh,hm2,hmk,hmv,hk⟩:=h;have e93:=hk.t93;have e94:=hk.t94;have hl:=hk.keep.len;refine⟨⟨.exit 4,.undef,⟨qep st.s 95 (.bool false),st.h⟩⟩,?_,rfl,gs,m,gk,mk,gv,mv,hh,hm2,hmk,hmv,hk.set 95 _ (by simp) (by decide) (by decide)⟩;rw[L130_4_eq];simp[e93,e94,hl]
theorem zrq{c:Ct}{A:Nat}(hM:Mid c A)(hcp:c.plus.length=A)(hcm:c.minus.length=A)(k i:Int)(hk6:0<=k/\k<6)(cells:List V)(v0 li:Int)(hcs:qij v0 cells)(h64:c.signals.length<=64)(st:St)(h0:R83 c k i cells li 0 (qbm c k i A) st):∃r,ev pg (.code (.going 29 L130_4) st)=some r/\r.x=.exit 4/\R83 c k i cells li 2 (qbf c k i A 1 (qbf c k i A 0 (qbm c k i A))) r.st:=by
 have hA6:=hM.hi;have hin:=hM.inp;obtain⟨l1,l2⟩:=qtj c k i A;obtain⟨m1,m2,m3⟩:=qyf c k i A 0 (qbm c k i A);have hcN:qac c A<=200:=by unfold qac;omega
 have hw:(qbf c k i A 0 (qbm c k i A)).w.length<=1:=by unfold qbf qbm;simp only;split<;>simp
 obtain⟨r1,e1,x1,R1⟩:=zjj hM hcp hcm k i hk6 cells li v0 hcs 0 (.inl rfl) (qbm c k i A) rfl rfl hcp hcm (by omega) (by omega) (Nat.zero_le _) st h0;obtain⟨r2,e2,x2,R2⟩:=zjj hM hcp hcm k i hk6 cells li v0 hcs 1 (.inr rfl) (qbf c k i A 0 (qbm c k i A)) rfl rfl (by unfold qbf;simp only[qdq];exact hcp) (by unfold qbf;simp only[qdq];exact hcm) (by omega) (by omega) (by omega) _ R1;obtain⟨r3,e3,x3,R3⟩:=zxf R2;refine⟨r3,?_,x3,R3⟩;rw[qdx,e1];simp only[x1];rw[qdx,e2];simp only[x2];rw[qdx,e3];simp only[x3]
def zel(c:Ct)(k i:Int)(cells:List V)(D:Fs)(r:R):Prop:=r.x=.ret/\∃gs ms gk mk gv mv,r.st.h=(h83 c k i cells (b83 c gs ms (D.d.signals.map Sg.row).length) ⟨0,.arr 1 (D.d.plus.map qbh)⟩ ⟨0,.arr 1 (D.d.minus.map qbh)⟩ ⟨gs,.arr ms (D.d.signals.map Sg.row)⟩ (q6j gk mk D.K gv mv D.w)).set 6 ⟨0,.box (b83 c gs ms (D.d.signals.map Sg.row).length)⟩/\qaj r.st.s 4=.bptr 6 0/\qaj r.st.s 5=.sl 28 gv mv 0 D.w.length
theorem z4i{c:Ct}{A:Nat}(hM:Mid c A)(hcp:c.plus.length=A)(hcm:c.minus.length=A)(k i:Int)(hk6:0<=k/\k<6)(cells:List V)(li:Int)(hli:li=qke k i)(hcs:qij (qcr k) cells)(h64:c.signals.length<=64)(gk mk:Nat)(hmk:mk=1\/mk=0)(st:St)(g m:Nat)(hm:m=10\/m=0)(hh:st.h=h83 c k i cells (b83 c g m c.signals.length) ⟨0,.arr 1 (c.plus.map qbh)⟩ ⟨0,.arr 1 (c.minus.map qbh)⟩ ⟨g,.arr m ((c.signals.map (qjl li (qcr k))).map Sg.row)⟩ [⟨0,.arr 0 []⟩,⟨gk,.arr mk ((qay c A (qac c A)).map qpk)⟩])(hk:Keep83 li st.s)(h9:qaj st.s 9=.sl 27 gk mk 0 (qay c A (qac c A)).length):∃r,ev pg (.code zqe st)=some r/\zel c k i cells (qbf c k i A 1 (qbf c k i A 0 (qbm c k i A))) r:=by
 unfold zel;have hgo:=zrq hM hcp hcm k i hk6 cells (qcr k) li hcs h64;obtain⟨s,h⟩:=st;simp only at hh hk h9;subst hh;have hl:=hk.len;have hnn:=hk.nn;generalize qbf c k i A 1 (qbf c k i A 0 (qbm c k i A))=D at *;simp[zqe,qah,hl];generalize hs2:qep (qep (qep (qep s 15 .nils) 92 _) 93 _) 94 _=s2;have g15:qaj s2 15=.nils:=by rw[<-hs2];simp[hl]
 have gn:∀i,i≠15->qaj s2 i ≠ .nils:=by rw[<-hs2];refine zim (zim (zim (fun i hi=>?_) (by simp)) (by simp)) (by simp);rw[qaf (Ne.symm hi)];exact qar hnn i
 have hl2:s2.length=157:=by rw[<-hs2];simp[hl]
 have f:∀j,j≠15->j≠92->j≠93->j≠94->qaj s2 j=qaj s j:=fun j h1 h2 h3 h4=>by rw[<-hs2,qaf (Ne.symm h4),qaf (Ne.symm h3),qaf (Ne.symm h2),qaf (Ne.symm h1)]
 have g92:qaj s2 92=z3s:=by rw[<-hs2];simp[hl]
 have g93:qaj s2 93=num 2:=by rw[<-hs2];simp[hl]
 have g94:qaj s2 94=num 0:=by rw[<-hs2];simp[hl]
 clear hs2;rw[qsc _ g15 gn];simp;generalize hr:ev pg (.code (.going 29 L130_4) _)=o;obtain⟨r,rfl,hx,hR⟩:∃r,o=some r/\_:=by
  rw[<-hr];refine hgo _ ⟨g,m,gk,mk,0,0,?_,hm,hmk,.inr rfl,⟨quy fun i=>?_,by simp[hl2],?_,?_,?_,?_,?_,?_,?_⟩,?_,?_,?_,?_,?_⟩
  .subst hli;simp[qbm]
  .by_cases hi:i=15
   .subst hi;rw[qim (by omega)];simp
   .rw[qaf (Ne.symm hi)];exact gn i hi
  .rw[qaf (by decide),f _ (by decide) (by decide) (by decide) (by decide)];exact hk.t2
  .rw[qaf (by decide),f _ (by decide) (by decide) (by decide) (by decide)];exact hk.t3
  .rw[qaf (by decide),f _ (by decide) (by decide) (by decide) (by decide)];exact hk.t4
  .rw[qaf (by decide),f _ (by decide) (by decide) (by decide) (by decide)];exact hk.t5
  .rw[qaf (by decide),f _ (by decide) (by decide) (by decide) (by decide)];exact hk.t6
  .rw[qaf (by decide),f _ (by decide) (by decide) (by decide) (by decide)];exact hk.t7
  .rw[qaf (by decide),f _ (by decide) (by decide) (by decide) (by decide)];exact hk.t8
  .rw[qaf (by decide),f _ (by decide) (by decide) (by decide) (by decide)];exact h9
  .rw[qim (by omega)];rfl
  .rw[qaf (by decide)];exact g92
  .rw[qaf (by decide)];exact g93
  .rw[qaf (by decide)];exact g94
 obtain⟨gs,m,gk,mk,gv,mv,hh,hm2,hmk,hmv,hk⟩:=hR;obtain⟨x,v,s4,h4⟩:=r;simp only at hx hh hk;subst hx hh;have k4:=hk.keep.t4;have k8:=hk.keep.t8;have k15:=hk.t15;have kl:=hk.keep.len;simp[zwc,k4,k8,k15,kl]
theorem z3q{c:Ct}(hfew:c.small=true){A:Nat}(hM:Mid c A)(hcp:c.plus.length=A)(hcm:c.minus.length=A)(k i:Int)(hk6:0<=k/\k<6)(cells:List V)(li:Int)(hli:li=qke k i)(hcs:qij (qcr k) cells)(h64:c.signals.length<=64)(r:R)(h0:zzn c A k i cells li r):∃r',ev pg (.code zqd r.st)=some r'/\zel c k i cells (qbf c k i A 1 (qbf c k i A 0 (qbm c k i A))) r':=by
 obtain⟨_,gk,mk,hh,hmk,hk,h9⟩:=h0;have hloop:=zsx hfew k i cells li (qcr k) hcs gk mk (qay c A (qac c A));have hT3:=z4i hM hcp hcm k i hk6 cells li hli hcs h64 gk mk hmk;have hln:=qww c A (qac c A);obtain⟨x,v,s,h⟩:=r;simp only at hh hk h9;subst hh;have hl:=hk.len;have hnn:=hk.nn;have k2:=hk.t2;generalize qbf c k i A 1 (qbf c k i A 0 (qbm c k i A))=D at *;generalize hN:qac c A=N at *;generalize qay c A N=K at *;subst hln;simp (maxDischargeDepth:=20) [zqd,qah,hl,k2,qee,qeg,hnn];generalize hr:ev pg (.code (.going 28 L130_1) _)=o;obtain⟨r,rfl,hx,g,m,hh,hm,hk2,h92⟩:∃r,o=some r/\_:=by rw[<-hr];refine hloop _ ⟨0,0,rfl,.inr rfl,(((hk.set 58 _ (by simp) (by decide)).set 59 _ (by simp) (by decide)).set 60 _ (by simp) (by decide)).set 61 _ (by simp) (by decide),by simp[h9],by simp[hl],by simp[hl],by simp[hl]⟩
 obtain⟨r',hr',hF⟩:=hT3 r.st g m hm hh hk2 h92;simp[hx,hr'];exact hF
set_option maxHeartbeats 800000 in
theorem ev130line(c:Ct)(hfew:c.small=true)(hc:c.check=0){A:Nat}(hA:c.act.toNat=A)(hcp:c.plus.length=A)(hcm:c.minus.length=A)(h64:c.signals.length<=64)(kn:Nat)(hk:kn<6)(i:Int)(t:Txt)(hsel:List.take 4 (List.drop (kn*4) (kC 8))=[.str t,.bool true,num (qcr kn),.nilfn])(hli:qke kn i=i):ev pg (.call (fnq 130) [c.v,fv kn i] [])=some (rvq (.tup [(qbf c kn i A 1 (qbf c kn i A 0 (qbm c kn i A))).d.v,.imm ((qbf c kn i A 1 (qbf c kn i A 0 (qbm c kn i A))).w.map qfi)])):=by
 obtain⟨f1,f2,f3,f4,f5,f6⟩:=qdm hfew;have h67:=ev169 [⟨0,.box c.cells⟩,⟨0,.box [num kn,num i]⟩,⟨0,.arr 0 []⟩,⟨0,.arr 0 []⟩,⟨0,.arr 0 []⟩,⟨0,.arr 0 []⟩,⟨0,.box [num 0,.sl 2 0 0 0 0,.sl 3 0 0 0 0,.sl 4 0 0 0 0,.sl 5 0 0 0 0]⟩,⟨0,.box [.str [],.bool false,.int .i64 0,.nilfn]⟩];have h4:4<=24-kn*4:=by omega
 have zxa:=ev170 c.inputs (by omega);have h35a:=ev78 c.plus (by omega);have h35b:=ev78 c.minus (by omega);have hM:=qft hc hfew;rw[hA]at hM;have h73:=ev171 hM;have hT:=z3q hfew hM hcp hcm kn i (by omega) [.str t,.bool true,num (qcr kn),.nilfn] i hli.symm (.inl ⟨t,rfl⟩) h64;have hL:=zid hfew hc A hA kn i [.str t,.bool true,num (qcr kn),.nilfn] (qcr kn) (.inl ⟨t,rfl⟩) i;have hI:∀st:St,(st.h=h83 c kn i [.str t,.bool true,num (qcr kn),.nilfn] (b83 c 0 0 0) ⟨0,.arr 1 (c.plus.map qbh)⟩ ⟨0,.arr 1 (c.minus.map qbh)⟩ ⟨0,.arr 0 []⟩ [⟨0,.arr 0 []⟩,⟨0,.arr 0 []⟩]/\Keep83 i st.s/\qaj st.s 9=.sl 27 0 0 0 0/\qaj st.s 43=num (qac c A)/\qaj st.s 44=num 0)->zvm c A kn i [.str t,.bool true,num (qcr kn),.nilfn] i 0 st:=fun st h=>⟨0,0,h.1,.inr rfl,h.2.1,h.2.2.1,h.2.2.2.1,h.2.2.2.2⟩
 unfold zel at hT;have hact:(qbf c kn i A 1 (qbf c kn i A 0 (qbm c kn i A))).d.act=c.act:=rfl;have hinp:(qbf c kn i A 1 (qbf c kn i A 0 (qbm c kn i A))).d.inputs=c.inputs:=rfl;have hpl:(qbf c kn i A 1 (qbf c kn i A 0 (qbm c kn i A))).d.plus.length=A:=by unfold qbf;simp only[qdq];exact hcp
 have hml:(qbf c kn i A 1 (qbf c kn i A 0 (qbm c kn i A))).d.minus.length=A:=by unfold qbf;simp only[qdq];exact hcm
 generalize qbf c kn i A 1 (qbf c kn i A 0 (qbm c kn i A))=D at *;generalize qac c A=N at *;generalize qcr kn=lv at *;rw[qab,pg130.1,ir130_eq];simp[qaa,exT,qag,h67,hk,h4,hsel,zxa,h35a,h35b,zqc,qah,h73];generalize hr:ev pg (.code (.going 28 L130_0) _)=o;obtain⟨r,rfl,hQ⟩:∃r,o=some r/\_:=by rw[<-hr];exact hL _ (hI _ ⟨by simp,⟨by simp[qas],rfl,rfl,rfl,rfl,rfl,rfl,rfl,rfl⟩,rfl,rfl,rfl⟩)
 obtain⟨r',hr',hx,gs,ms,gk,mk,gv,mv,hh,e4,e5⟩:=hT r hQ;simp[hQ.1,hr',hx,hh,e4,e5,hpl,hml,hcp,hcm,hact,hinp]
set_option maxHeartbeats 800000 in
theorem ev130other(c:Ct)(hfew:c.small=true)(hc:c.check=0){A:Nat}(hA:c.act.toNat=A)(hcp:c.plus.length=A)(hcm:c.minus.length=A)(h64:c.signals.length<=64)(kn:Nat)(hk:kn<6)(i:Int)(t:Txt)(a b:Nat)(ha:a<17)(hb:b<17)(hsel:List.take 4 (List.drop (kn*4) (kC 8))=[.str t,.bool false,num (qcr kn),.fn 205 [] [.bptr a 0,.bptr b 0]])(hli:qke kn i=-1):ev pg (.call (fnq 130) [c.v,fv kn i] [])=some (rvq (.tup [(qbf c kn i A 1 (qbf c kn i A 0 (qbm c kn i A))).d.v,.imm ((qbf c kn i A 1 (qbf c kn i A 0 (qbm c kn i A))).w.map qfi)])):=by
 obtain⟨f1,f2,f3,f4,f5,f6⟩:=qdm hfew;have h67:=ev169 [⟨0,.box c.cells⟩,⟨0,.box [num kn,num i]⟩,⟨0,.arr 0 []⟩,⟨0,.arr 0 []⟩,⟨0,.arr 0 []⟩,⟨0,.arr 0 []⟩,⟨0,.box [num 0,.sl 2 0 0 0 0,.sl 3 0 0 0 0,.sl 4 0 0 0 0,.sl 5 0 0 0 0]⟩,⟨0,.box [.str [],.bool false,.int .i64 0,.nilfn]⟩];have h4:4<=24-kn*4:=by omega
 have zxa:=ev170 c.inputs (by omega);have h35a:=ev78 c.plus (by omega);have h35b:=ev78 c.minus (by omega);have hM:=qft hc hfew;rw[hA]at hM;have h73:=ev171 hM;have hT:=z3q hfew hM hcp hcm kn i (by omega) [.str t,.bool false,num (qcr kn),.fn 205 [] [.bptr a 0,.bptr b 0]] (-1) hli.symm (.inr ⟨t,a,b,ha,hb,rfl⟩) h64;have hL:=zid hfew hc A hA kn i [.str t,.bool false,num (qcr kn),.fn 205 [] [.bptr a 0,.bptr b 0]] (qcr kn) (.inr ⟨t,a,b,ha,hb,rfl⟩) (-1);have hI:∀st:St,(st.h=h83 c kn i [.str t,.bool false,num (qcr kn),.fn 205 [] [.bptr a 0,.bptr b 0]] (b83 c 0 0 0) ⟨0,.arr 1 (c.plus.map qbh)⟩ ⟨0,.arr 1 (c.minus.map qbh)⟩ ⟨0,.arr 0 []⟩ [⟨0,.arr 0 []⟩,⟨0,.arr 0 []⟩]/\Keep83 (-1) st.s/\qaj st.s 9=.sl 27 0 0 0 0/\qaj st.s 43=num (qac c A)/\qaj st.s 44=num 0)->zvm c A kn i [.str t,.bool false,num (qcr kn),.fn 205 [] [.bptr a 0,.bptr b 0]] (-1) 0 st:=fun st h=>⟨0,0,h.1,.inr rfl,h.2.1,h.2.2.1,h.2.2.2.1,h.2.2.2.2⟩
 unfold zel at hT;have hact:(qbf c kn i A 1 (qbf c kn i A 0 (qbm c kn i A))).d.act=c.act:=rfl;have hinp:(qbf c kn i A 1 (qbf c kn i A 0 (qbm c kn i A))).d.inputs=c.inputs:=rfl;have hpl:(qbf c kn i A 1 (qbf c kn i A 0 (qbm c kn i A))).d.plus.length=A:=by unfold qbf;simp only[qdq];exact hcp
 have hml:(qbf c kn i A 1 (qbf c kn i A 0 (qbm c kn i A))).d.minus.length=A:=by unfold qbf;simp only[qdq];exact hcm
 generalize qbf c kn i A 1 (qbf c kn i A 0 (qbm c kn i A))=D at *;generalize qac c A=N at *;generalize qcr kn=lv at *;rw[qab,pg130.1,ir130_eq];simp[qaa,exT,qag,h67,hk,h4,hsel,zxa,h35a,h35b,zqc,qah,h73];generalize hr:ev pg (.code (.going 28 L130_0) _)=o;obtain⟨r,rfl,hQ⟩:∃r,o=some r/\_:=by rw[<-hr];exact hL _ (hI _ ⟨by simp,⟨by simp[qas],rfl,rfl,rfl,rfl,rfl,rfl,rfl,rfl⟩,rfl,rfl,rfl⟩)
 obtain⟨r',hr',hx,gs,ms,gk,mk,gv,mv,hh,e4,e5⟩:=hT r hQ;simp[hQ.1,hr',hx,hh,e4,e5,hpl,hml,hcp,hcm,hact,hinp]
theorem ev130(c:Ct)(hfew:c.small=true)(k i:Int)(hf:q1t c k i=0):ev pg (.call (fnq 130) [c.v,fv k i] [])=some (rvq (.tup [(qcy c k i).d.v,.imm ((qcy c k i).w.map qfi)])):=by
 obtain⟨hc,hk,hi0,hiN,hiA⟩:=qkn hf;have hR:=qiy hc hfew;have h64:c.signals.length<=64:=by
  unfold Ct.check at hc;split at hc
  .cases hc
  .split at hc
   .cases hc
   .omega
 unfold qcy;rcases (by omega:k=(0:Nat)\/k=(1:Nat)\/k=(2:Nat)\/k=(3:Nat)\/k=(4:Nat)\/k=(5:Nat))with rfl | rfl | rfl | rfl | rfl | rfl
 .exact ev130other c hfew hc rfl hR.plus hR.minus h64 0 (by omega) i t0t 9 10 (by omega) (by omega) rfl rfl
 .exact ev130other c hfew hc rfl hR.plus hR.minus h64 1 (by omega) i t1t 11 12 (by omega) (by omega) rfl rfl
 .exact ev130line c hfew hc rfl hR.plus hR.minus h64 2 (by omega) i t2t rfl rfl
 .exact ev130line c hfew hc rfl hR.plus hR.minus h64 3 (by omega) i t3t rfl rfl
 .exact ev130other c hfew hc rfl hR.plus hR.minus h64 4 (by omega) i t4t 13 14 (by omega) (by omega) rfl rfl
 .exact ev130other c hfew hc rfl hR.plus hR.minus h64 5 (by omega) i t5t 15 16 (by omega) (by omega) rfl rfl
def qwm(c:Ct)(k i:Int):Int:=if q1t c k i=0 then(if(qcy c k i).d.check=0 then 0 else 12)else q1t c k i
def q8t:Ct:=⟨0,[],[],[],[]⟩
def q7t(c:Ct)(k i:Int):Ct:=if qwm c k i=0 then(qcy c k i).d else q8t
theorem ev80(c:Ct)(hfew:c.small=true)(k i:Int):ev pg (.call (fnq 80) [c.v,fv k i] [])=some (rvq (.tup [(q7t c k i).v,num (qwm c k i)])):=by
 have h19:=ev129 c hfew k i;rw[qab,pg80.1];unfold q7t;by_cases he:q1t c k i=0
 .have h83:=ev130 c hfew k i he;have h29:=ev44 (qcy c k i).d (qmq hfew (qkn he).1 k i);by_cases hd:(qcy c k i).d.check=0
  .have e:qwm c k i=0:=by unfold qwm;rw[if_pos he,if_pos hd]
   rw[e,if_pos rfl];rw[he]at h19;rw[hd]at h29;generalize (qcy c k i).d=D at *;generalize (qcy c k i).w=w at *;simp[ir80,h19,h83,h29]
  .have e:qwm c k i=12:=by unfold qwm;rw[if_pos he,if_neg hd]
   rw[e,if_neg (by omega)];rw[he]at h19;generalize (qcy c k i).d=D at *;generalize (qcy c k i).w=w at *;generalize D.check=e' at *;simp[ir80,h19,h83,h29,hd,q8t]
 .have e:qwm c k i=q1t c k i:=by unfold qwm;rw[if_neg he]
  rw[e,if_neg he];generalize q1t c k i=e' at *;simp[ir80,h19,he,q8t]
end Go.Proofs.YtggbaapfbgjaeaaGreatDoor
