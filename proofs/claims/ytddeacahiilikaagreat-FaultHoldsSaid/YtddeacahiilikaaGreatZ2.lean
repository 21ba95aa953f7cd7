/- The faulty control, by the program; an injection. A fault that touches nothing leaves the control as it is; faults that are alike touch the same pilots. Expressions in place of variables, by the reference. Are lists, expressions and controls equal, by the reference? -/
import Derived.Test.YtddeacahiilikaaGreatFy4
set_option linter.all false
namespace Go.Proofs.YtddeacahiilikaaGreat
open Go Go.Am Go.Proofs
set_option maxRecDepth 100000
theorem q0q:∀{s:List V},(∀i,qai s i ≠ .nils)->qat s
 | [],_,v,hv=>by cases hv
 | w :: s,h,v,hv=>by
  cases hv with
  | head=>exact h 0
  | tail _ hv=>exact q0q (s:=s) (fun i=>h (i+1)) v hv
theorem qym:∀{s:List V} {j:Nat} (h:H),qai s j=.nils->(∀i,i≠j->qai s i ≠ .nils)->qgy h s=(qfk s j (.sl h.length 0 0 0 0),h++[⟨0,.arr 0 []⟩])
 | [],j,h,hj,_=>by simp[qai]at hj
 | v :: s,0,h,hj,hn=>by
  have hv:v=.nils:=hj
  subst hv
  have hs:qat s:=q0q fun i=>hn (i+1) (by omega)
  simp only[qgy,qdy _ hs]
  rfl
 | v :: s,j+1,h,hj,hn=>by
  have hv:v ≠ .nils:=hn 0 (by omega)
  have ih:=qym (s:=s) (j:=j) h hj (fun i hi=>hn (i+1) (by omega))
  cases v<;>first | exact absurd rfl hv | (simp only[qgy,ih];rfl)
theorem qku:∀{s:List V} {d:Nat},s.length<=d->qai s d=.undef
 | [],d,_=>by cases d<;>rfl
 | v :: s,0,h=>by simp at h
 | v :: s,d+1,h=>qku (s:=s) (by simpa using h)
theorem zdx{s:List V}{j:Nat}{x:V}(h:∀i,i≠15->qai s i ≠ .nils)(hx:x ≠ .nils):∀i,i≠15->qai (qfk s j x) i ≠ .nils:=by
 intro i hi
 by_cases e:j=i
 .subst e
  by_cases hl:j<s.length
  .rw[qpa hl];exact hx
  .rw[qku (by rw[qkv];omega)];simp
 .rw[qak e];exact h i hi
theorem z0z{c:Ct}{k i:Int}{cells:List V}{li:Int}{d:Fs}{st:St}(h:R83 c k i cells li 2 d st):∃r,ev pg (.code L42_4 st)=some r/\r.x=.exit 4/\R83 c k i cells li 2 d r.st:=by
 obtain⟨gs,m,gk,mk,gv,mv,hh,hm2,hmk,hmv,hk⟩:=h
 have e93:=hk.t93
 have e94:=hk.t94
 have hl:=hk.keep.len
 refine⟨⟨.exit 4,.undef,⟨qfk st.s 95 (.bool false),st.h⟩⟩,?_,rfl,gs,m,gk,mk,gv,mv,hh,hm2,hmk,hmv,hk.set 95 _ (by simp) (by decide) (by decide)⟩
 rw[L42_4_eq]
 simp[e93,e94,hl]
theorem zwb{c:Ct}{A:Nat}(hM:Mid c A)(hcp:c.plus.length=A)(hcm:c.minus.length=A)(k i:Int)(hk6:0<=k/\k<6)(cells:List V)(v0 li:Int)(hcs:qhu v0 cells)(h64:c.signals.length<=64)(st:St)(h0:R83 c k i cells li 0 (qcs c k i A) st):∃r,ev pg (.code (.going 29 L42_4) st)=some r/\r.x=.exit 4/\R83 c k i cells li 2 (qbo c k i A 1 (qbo c k i A 0 (qcs c k i A))) r.st:=by
 have hA6:=hM.hi
 have hin:=hM.inp
 obtain⟨l1,l2⟩:=qxf c k i A
 obtain⟨m1,m2,m3⟩:=q3e c k i A 0 (qcs c k i A)
 have hcN:qae c A<=200:=by unfold qae;omega
 have hw:(qbo c k i A 0 (qcs c k i A)).w.length<=1:=by
  unfold qbo qcs
  simp only
  split<;>simp
 obtain⟨r1,e1,x1,R1⟩:=zfh hM hcp hcm k i hk6 cells li v0 hcs 0 (.inl rfl) (qcs c k i A) rfl rfl hcp hcm (by omega) (by omega) (Nat.zero_le _) st h0
 obtain⟨r2,e2,x2,R2⟩:=zfh hM hcp hcm k i hk6 cells li v0 hcs 1 (.inr rfl) (qbo c k i A 0 (qcs c k i A)) rfl rfl (by unfold qbo;simp only[qef];exact hcp) (by unfold qbo;simp only[qef];exact hcm) (by omega) (by omega) (by omega) _ R1
 obtain⟨r3,e3,x3,R3⟩:=z0z R2
 refine⟨r3,?_,x3,R3⟩
 rw[qdt,e1]
 simp only[x1]
 rw[qdt,e2]
 simp only[x2]
 rw[qdt,e3]
 simp only[x3]
def zhd(c:Ct)(k i:Int)(cells:List V)(D:Fs)(r:R):Prop:=r.x=.ret/\∃gs ms gk mk gv mv,r.st.h=(h83 c k i cells (b83 c gs ms (D.d.signals.map Sg.row).length) ⟨0,.arr 1 (D.d.plus.map qcc)⟩ ⟨0,.arr 1 (D.d.minus.map qcc)⟩ ⟨gs,.arr ms (D.d.signals.map Sg.row)⟩ (q3p gk mk D.K gv mv D.w)).set 6 ⟨0,.box (b83 c gs ms (D.d.signals.map Sg.row).length)⟩/\qai r.st.s 4=.bptr 6 0/\qai r.st.s 5=.sl 28 gv mv 0 D.w.length
theorem jkc{c:Ct}{A:Nat}(hM:Mid c A)(hcp:c.plus.length=A)(hcm:c.minus.length=A)(k i:Int)(hk6:0<=k/\k<6)(cells:List V)(li:Int)(hli:li=zjf k i)(hcs:qhu (qfx k) cells)(h64:c.signals.length<=64)(gk mk:Nat)(hmk:mk=1\/mk=0)(st:St)(g m:Nat)(hm:m=10\/m=0)(hh:st.h=h83 c k i cells (b83 c g m c.signals.length) ⟨0,.arr 1 (c.plus.map qcc)⟩ ⟨0,.arr 1 (c.minus.map qcc)⟩ ⟨g,.arr m ((c.signals.map (qwn li (qfx k))).map Sg.row)⟩ [⟨0,.arr 0 []⟩,⟨gk,.arr mk ((qbs c A (qae c A)).map qld)⟩])(hk:Keep83 li st.s)(h9:qai st.s 9=.sl 27 gk mk 0 (qbs c A (qae c A)).length):∃r,ev pg (.code zuj st)=some r/\zhd c k i cells (qbo c k i A 1 (qbo c k i A 0 (qcs c k i A))) r:=by
 unfold zhd
 have hgo:=zwb hM hcp hcm k i hk6 cells (qfx k) li hcs h64
 obtain⟨s,h⟩:=st
 simp only at hh hk h9
 subst hh
 have hl:=hk.len
 have hnn:=hk.nn
 generalize qbo c k i A 1 (qbo c k i A 0 (qcs c k i A))=D at *
 simp[zuj,qag,hl]
 generalize hs2:qfk (qfk (qfk (qfk s 15 .nils) 92 _) 93 _) 94 _=s2
 have g15:qai s2 15=.nils:=by rw[<-hs2];simp[hl]
 have gn:∀i,i≠15->qai s2 i ≠ .nils:=by
  rw[<-hs2]
  refine zdx (zdx (zdx (fun i hi=>?_) (by simp)) (by simp)) (by simp)
  rw[qak (Ne.symm hi)]
  exact qar hnn i
 have hl2:s2.length=157:=by rw[<-hs2];simp[hl]
 have f:∀j,j≠15->j≠92->j≠93->j≠94->qai s2 j=qai s j:=fun j h1 h2 h3 h4=>by
  rw[<-hs2,qak (Ne.symm h4),qak (Ne.symm h3),qak (Ne.symm h2),qak (Ne.symm h1)]
 have g92:qai s2 92=jix:=by rw[<-hs2];simp[hl]
 have g93:qai s2 93=num 2:=by rw[<-hs2];simp[hl]
 have g94:qai s2 94=num 0:=by rw[<-hs2];simp[hl]
 clear hs2
 rw[qym _ g15 gn]
 simp
 generalize hr:ev pg (.code (.going 29 L42_4) _)=o
 obtain⟨r,rfl,hx,hR⟩:∃r,o=some r/\_:=by
  rw[<-hr]
  refine hgo _ ⟨g,m,gk,mk,0,0,?_,hm,hmk,.inr rfl,⟨q0q fun i=>?_,by simp[hl2],?_,?_,?_,?_,?_,?_,?_⟩,?_,?_,?_,?_,?_⟩
  .subst hli
   simp[qcs]
  .by_cases hi:i=15
   .subst hi;rw[qpa (by omega)];simp
   .rw[qak (Ne.symm hi)];exact gn i hi
  .rw[qak (by decide),f _ (by decide) (by decide) (by decide) (by decide)];exact hk.t2
  .rw[qak (by decide),f _ (by decide) (by decide) (by decide) (by decide)];exact hk.t3
  .rw[qak (by decide),f _ (by decide) (by decide) (by decide) (by decide)];exact hk.t4
  .rw[qak (by decide),f _ (by decide) (by decide) (by decide) (by decide)];exact hk.t5
  .rw[qak (by decide),f _ (by decide) (by decide) (by decide) (by decide)];exact hk.t6
  .rw[qak (by decide),f _ (by decide) (by decide) (by decide) (by decide)];exact hk.t7
  .rw[qak (by decide),f _ (by decide) (by decide) (by decide) (by decide)];exact hk.t8
  .rw[qak (by decide),f _ (by decide) (by decide) (by decide) (by decide)];exact h9
  .rw[qpa (by omega)];rfl
  .rw[qak (by decide)];exact g92
  .rw[qak (by decide)];exact g93
  .rw[qak (by decide)];exact g94
 obtain⟨gs,m,gk,mk,gv,mv,hh,hm2,hmk,hmv,hk⟩:=hR
 obtain⟨x,v,s4,h4⟩:=r
 simp only at hx hh hk
 subst hx hh
 have k4:=hk.keep.t4
 have k8:=hk.keep.t8
 have k15:=hk.t15
 have kl:=hk.keep.len
 simp[z4w,k4,k8,k15,kl]
theorem jjd{c:Ct}(hfew:c.small=true){A:Nat}(hM:Mid c A)(hcp:c.plus.length=A)(hcm:c.minus.length=A)(k i:Int)(hk6:0<=k/\k<6)(cells:List V)(li:Int)(hli:li=zjf k i)(hcs:qhu (qfx k) cells)(h64:c.signals.length<=64)(r:R)(h0:z9a c A k i cells li r):∃r',ev pg (.code zti r.st)=some r'/\zhd c k i cells (qbo c k i A 1 (qbo c k i A 0 (qcs c k i A))) r':=by
 obtain⟨_,gk,mk,hh,hmk,hk,h9⟩:=h0
 have hloop:=zwx hfew k i cells li (qfx k) hcs gk mk (qbs c A (qae c A))
 have hT3:=jkc hM hcp hcm k i hk6 cells li hli hcs h64 gk mk hmk
 have hln:=q2p c A (qae c A)
 obtain⟨x,v,s,h⟩:=r
 simp only at hh hk h9
 subst hh
 have hl:=hk.len
 have hnn:=hk.nn
 have k2:=hk.t2
 generalize qbo c k i A 1 (qbo c k i A 0 (qcs c k i A))=D at *
 generalize hN:qae c A=N at *
 generalize qbs c A N=K at *
 subst hln
 simp (maxDischargeDepth:=20) [zti,qag,hl,k2,qdy,qcw,hnn]
 generalize hr:ev pg (.code (.going 28 L42_1) _)=o
 obtain⟨r,rfl,hx,g,m,hh,hm,hk2,h92⟩:∃r,o=some r/\_:=by
  rw[<-hr]
  refine hloop _ ⟨0,0,rfl,.inr rfl,(((hk.set 58 _ (by simp) (by decide)).set 59 _ (by simp) (by decide)).set 60 _ (by simp) (by decide)).set 61 _ (by simp) (by decide),by simp[h9],by simp[hl],by simp[hl],by simp[hl]⟩
 obtain⟨r',hr',hF⟩:=hT3 r.st g m hm hh hk2 h92
 simp[hx,hr']
 exact hF
set_option maxHeartbeats 800000 in
theorem ev42line(c:Ct)(hfew:c.small=true)(hc:c.check=0){A:Nat}(hA:c.act.toNat=A)(hcp:c.plus.length=A)(hcm:c.minus.length=A)(h64:c.signals.length<=64)(kn:Nat)(hk:kn<6)(i:Int)(t:Txt)(hsel:List.take 4 (List.drop (kn*4) (kC 8))=[.str t,.bool true,num (qfx kn),.nilfn])(hli:zjf kn i=i):ev pg (.call (.fn 42 [] []) [c.v,fv kn i] [])=some { v:=.tup [(qbo c kn i A 1 (qbo c kn i A 0 (qcs c kn i A))).d.v,.imm ((qbo c kn i A 1 (qbo c kn i A 0 (qcs c kn i A))).w.map qht)],st:=⟨[],[]⟩ }:=by
 obtain⟨f1,f2,f3,f4,f5,f6⟩:=qcf hfew
 have h67:=ev98 [⟨0,.box c.cells⟩,⟨0,.box [num kn,num i]⟩,⟨0,.arr 0 []⟩,⟨0,.arr 0 []⟩,⟨0,.arr 0 []⟩,⟨0,.arr 0 []⟩,⟨0,.box [num 0,.sl 2 0 0 0 0,.sl 3 0 0 0 0,.sl 4 0 0 0 0,.sl 5 0 0 0 0]⟩,⟨0,.box [.str [],.bool false,.int .i64 0,.nilfn]⟩]
 have h4:4<=24-kn*4:=by omega
 have z3a:=ev105 c.inputs (by omega)
 have h35a:=ev106 c.plus (by omega)
 have h35b:=ev106 c.minus (by omega)
 have hM:=qdo hc hfew
 rw[hA]at hM
 have h73:=ev102 hM
 have hT:=jjd hfew hM hcp hcm kn i (by omega) [.str t,.bool true,num (qfx kn),.nilfn] i hli.symm (.inl ⟨t,rfl⟩) h64
 have hL:=zhu hfew hc A hA kn i [.str t,.bool true,num (qfx kn),.nilfn] (qfx kn) (.inl ⟨t,rfl⟩) i
 have hI:∀st:St,(st.h=h83 c kn i [.str t,.bool true,num (qfx kn),.nilfn] (b83 c 0 0 0) ⟨0,.arr 1 (c.plus.map qcc)⟩ ⟨0,.arr 1 (c.minus.map qcc)⟩ ⟨0,.arr 0 []⟩ [⟨0,.arr 0 []⟩,⟨0,.arr 0 []⟩]/\Keep83 i st.s/\qai st.s 9=.sl 27 0 0 0 0/\qai st.s 43=num (qae c A)/\qai st.s 44=num 0)->z1d c A kn i [.str t,.bool true,num (qfx kn),.nilfn] i 0 st:=fun st h=>⟨0,0,h.1,.inr rfl,h.2.1,h.2.2.1,h.2.2.2.1,h.2.2.2.2⟩
 unfold zhd at hT
 have hact:(qbo c kn i A 1 (qbo c kn i A 0 (qcs c kn i A))).d.act=c.act:=rfl
 have hinp:(qbo c kn i A 1 (qbo c kn i A 0 (qcs c kn i A))).d.inputs=c.inputs:=rfl
 have hpl:(qbo c kn i A 1 (qbo c kn i A 0 (qcs c kn i A))).d.plus.length=A:=by unfold qbo;simp only[qef];exact hcp
 have hml:(qbo c kn i A 1 (qbo c kn i A 0 (qcs c kn i A))).d.minus.length=A:=by unfold qbo;simp only[qef];exact hcm
 generalize qbo c kn i A 1 (qbo c kn i A 0 (qcs c kn i A))=D at *
 generalize qae c A=N at *
 generalize qfx kn=lv at *
 rw[qac,pg42,ir42_eq]
 simp[qaa,exT,qaf,h67,hk,h4,hsel,z3a,h35a,h35b,zzi,qag,h73]
 generalize hr:ev pg (.code (.going 28 L42_0) _)=o
 obtain⟨r,rfl,hQ⟩:∃r,o=some r/\_:=by
  rw[<-hr]
  exact hL _ (hI _ ⟨by simp,⟨by simp[qat],rfl,rfl,rfl,rfl,rfl,rfl,rfl,rfl⟩,rfl,rfl,rfl⟩)
 obtain⟨r',hr',hx,gs,ms,gk,mk,gv,mv,hh,e4,e5⟩:=hT r hQ
 simp[hQ.1,hr',hx,hh,e4,e5,hpl,hml,hcp,hcm,hact,hinp]
set_option maxHeartbeats 800000 in
theorem ev42other(c:Ct)(hfew:c.small=true)(hc:c.check=0){A:Nat}(hA:c.act.toNat=A)(hcp:c.plus.length=A)(hcm:c.minus.length=A)(h64:c.signals.length<=64)(kn:Nat)(hk:kn<6)(i:Int)(t:Txt)(a b:Nat)(ha:a<17)(hb:b<17)(hsel:List.take 4 (List.drop (kn*4) (kC 8))=[.str t,.bool false,num (qfx kn),.fn 178 [] [.bptr a 0,.bptr b 0]])(hli:zjf kn i=-1):ev pg (.call (.fn 42 [] []) [c.v,fv kn i] [])=some { v:=.tup [(qbo c kn i A 1 (qbo c kn i A 0 (qcs c kn i A))).d.v,.imm ((qbo c kn i A 1 (qbo c kn i A 0 (qcs c kn i A))).w.map qht)],st:=⟨[],[]⟩ }:=by
 obtain⟨f1,f2,f3,f4,f5,f6⟩:=qcf hfew
 have h67:=ev98 [⟨0,.box c.cells⟩,⟨0,.box [num kn,num i]⟩,⟨0,.arr 0 []⟩,⟨0,.arr 0 []⟩,⟨0,.arr 0 []⟩,⟨0,.arr 0 []⟩,⟨0,.box [num 0,.sl 2 0 0 0 0,.sl 3 0 0 0 0,.sl 4 0 0 0 0,.sl 5 0 0 0 0]⟩,⟨0,.box [.str [],.bool false,.int .i64 0,.nilfn]⟩]
 have h4:4<=24-kn*4:=by omega
 have z3a:=ev105 c.inputs (by omega)
 have h35a:=ev106 c.plus (by omega)
 have h35b:=ev106 c.minus (by omega)
 have hM:=qdo hc hfew
 rw[hA]at hM
 have h73:=ev102 hM
 have hT:=jjd hfew hM hcp hcm kn i (by omega) [.str t,.bool false,num (qfx kn),.fn 178 [] [.bptr a 0,.bptr b 0]] (-1) hli.symm (.inr ⟨t,a,b,ha,hb,rfl⟩) h64
 have hL:=zhu hfew hc A hA kn i [.str t,.bool false,num (qfx kn),.fn 178 [] [.bptr a 0,.bptr b 0]] (qfx kn) (.inr ⟨t,a,b,ha,hb,rfl⟩) (-1)
 have hI:∀st:St,(st.h=h83 c kn i [.str t,.bool false,num (qfx kn),.fn 178 [] [.bptr a 0,.bptr b 0]] (b83 c 0 0 0) ⟨0,.arr 1 (c.plus.map qcc)⟩ ⟨0,.arr 1 (c.minus.map qcc)⟩ ⟨0,.arr 0 []⟩ [⟨0,.arr 0 []⟩,⟨0,.arr 0 []⟩]/\Keep83 (-1) st.s/\qai st.s 9=.sl 27 0 0 0 0/\qai st.s 43=num (qae c A)/\qai st.s 44=num 0)->z1d c A kn i [.str t,.bool false,num (qfx kn),.fn 178 [] [.bptr a 0,.bptr b 0]] (-1) 0 st:=fun st h=>⟨0,0,h.1,.inr rfl,h.2.1,h.2.2.1,h.2.2.2.1,h.2.2.2.2⟩
 unfold zhd at hT
 have hact:(qbo c kn i A 1 (qbo c kn i A 0 (qcs c kn i A))).d.act=c.act:=rfl
 have hinp:(qbo c kn i A 1 (qbo c kn i A 0 (qcs c kn i A))).d.inputs=c.inputs:=rfl
 have hpl:(qbo c kn i A 1 (qbo c kn i A 0 (qcs c kn i A))).d.plus.length=A:=by unfold qbo;simp only[qef];exact hcp
 have hml:(qbo c kn i A 1 (qbo c kn i A 0 (qcs c kn i A))).d.minus.length=A:=by unfold qbo;simp only[qef];exact hcm
 generalize qbo c kn i A 1 (qbo c kn i A 0 (qcs c kn i A))=D at *
 generalize qae c A=N at *
 generalize qfx kn=lv at *
 rw[qac,pg42,ir42_eq]
 simp[qaa,exT,qaf,h67,hk,h4,hsel,z3a,h35a,h35b,zzi,qag,h73]
 generalize hr:ev pg (.code (.going 28 L42_0) _)=o
 obtain⟨r,rfl,hQ⟩:∃r,o=some r/\_:=by
  rw[<-hr]
  exact hL _ (hI _ ⟨by simp,⟨by simp[qat],rfl,rfl,rfl,rfl,rfl,rfl,rfl,rfl⟩,rfl,rfl,rfl⟩)
 obtain⟨r',hr',hx,gs,ms,gk,mk,gv,mv,hh,e4,e5⟩:=hT r hQ
 simp[hQ.1,hr',hx,hh,e4,e5,hpl,hml,hcp,hcm,hact,hinp]
theorem ev42(c:Ct)(hfew:c.small=true)(k i:Int)(hf:qsi c k i=0):ev pg (.call (.fn 42 [] []) [c.v,fv k i] [])=some { v:=.tup [(qcp c k i).d.v,.imm ((qcp c k i).w.map qht)],st:=⟨[],[]⟩ }:=by
 obtain⟨hc,hk,hi0,hiN,hiA⟩:=qjo hf
 have hR:=qfe hc hfew
 have h64:c.signals.length<=64:=by
  unfold Ct.check at hc
  split at hc
  .cases hc
  .split at hc
   .cases hc
   .omega
 unfold qcp
 rcases (by omega:k=(0:Nat)\/k=(1:Nat)\/k=(2:Nat)\/k=(3:Nat)\/k=(4:Nat)\/k=(5:Nat))with rfl | rfl | rfl | rfl | rfl | rfl
 .exact ev42other c hfew hc rfl hR.plus hR.minus h64 0 (by omega) i t0t 9 10 (by omega) (by omega) rfl rfl
 .exact ev42other c hfew hc rfl hR.plus hR.minus h64 1 (by omega) i t1t 11 12 (by omega) (by omega) rfl rfl
 .exact ev42line c hfew hc rfl hR.plus hR.minus h64 2 (by omega) i t2t rfl rfl
 .exact ev42line c hfew hc rfl hR.plus hR.minus h64 3 (by omega) i t3t rfl rfl
 .exact ev42other c hfew hc rfl hR.plus hR.minus h64 4 (by omega) i t4t 13 14 (by omega) (by omega) rfl rfl
 .exact ev42other c hfew hc rfl hR.plus hR.minus h64 5 (by omega) i t5t 15 16 (by omega) (by omega) rfl rfl
def q8z(c:Ct)(k i:Int):Int:=if qsi c k i=0 then(if(qcp c k i).d.check=0 then 0 else 12)else qsi c k i
def zyd:Ct:=⟨0,[],[],[],[]⟩
def zuf(c:Ct)(k i:Int):Ct:=if q8z c k i=0 then(qcp c k i).d else zyd
theorem ev10(c:Ct)(hfew:c.small=true)(k i:Int):ev pg (.call (.fn 10 [] []) [c.v,fv k i] [])=some { v:=.tup [(zuf c k i).v,num (q8z c k i)],st:=⟨[],[]⟩ }:=by
 have h19:=ev41 c hfew k i
 rw[qac,pg10]
 unfold zuf
 by_cases he:qsi c k i=0
 .have h83:=ev42 c hfew k i he
  have h29:=ev43 (qcp c k i).d (qse hfew (qjo he).1 k i)
  by_cases hd:(qcp c k i).d.check=0
  .have e:q8z c k i=0:=by unfold q8z;rw[if_pos he,if_pos hd]
   rw[e,if_pos rfl]
   rw[he]at h19
   rw[hd]at h29
   generalize (qcp c k i).d=D at *
   generalize (qcp c k i).w=w at *
   simp[ir10,h19,h83,h29]
  .have e:q8z c k i=12:=by unfold q8z;rw[if_pos he,if_neg hd]
   rw[e,if_neg (by omega)]
   rw[he]at h19
   generalize (qcp c k i).d=D at *
   generalize (qcp c k i).w=w at *
   generalize D.check=e' at *
   simp[ir10,h19,h83,h29,hd,zyd]
 .have e:q8z c k i=qsi c k i:=by unfold q8z;rw[if_neg he]
  rw[e,if_neg he]
  generalize qsi c k i=e' at *
  simp[ir10,h19,he,zyd]
theorem qww{p:Nat->Bool}:∀{A:Nat},q9w p A=false<->∀j,j<A->p j=false
 | 0=>⟨fun _ j hj=>by omega,fun _=>rfl⟩
 | A+1=>by
  rw[q9w,Bool.or_eq_false_iff,qww]
  exact⟨fun h j hj=>by
   by_cases e:j=A
   .rw[e];exact h.2
   .exact h.1 j (by omega),fun h=>⟨fun j hj=>h j (by omega),h A (by omega)⟩⟩
theorem qng{f:Nat->Bool}{next:Int}{l:List Int}:∀{A j:Nat} (hj:j<l.length),j<A->(qeh f next A l)[j]?=some (if f j=true then next else l[j])
 | A+1,j,hl,hj=>by
  rw[qeh]
  by_cases e:j=A
  .subst e
   split
   .rw[jN (by rw[qef];exact hl)]
   .rw[qlp (jD _),jA hl]
  .split
   .rw[jO (by omega)]
    exact qng hl (by omega)
   .exact qng hl (by omega)
abbrev h66(x:Ex)(g m:Nat)(rows:List (List V)):H:=[⟨0,.box x.cells⟩,⟨0,.arr 0 []⟩,⟨0,.box [num 0,num 0,.sl 1 0 0 0 0]⟩,⟨g,.arr m rows⟩]
def I37(a b:List Txt)(k:Nat)(st:St):Prop:=st.h=[]/\st.s.length=26/\qai st.s 0=.imm (a.map qld)/\qai st.s 1=.imm (b.map qld)/\qai st.s 5=num k/\decide (a=b)=decide (a.drop k=b.drop k)
def Q37(a b:List Txt)(r:R):Prop:=r.st.s.length=26/\r.st.h=[]/\((r.x=.exit 0/\decide (a=b)=true)\/(r.x=.ret/\qai r.st.s 4=.bool false/\decide (a=b)=false))
theorem z1x(a b:List Txt)(hab:b.length=a.length)(ha:a.length<=4096)(st:St)(h0:I37 a b 0 st):∃r,ev pg (.code (.going 0 L59_0) st)=some r/\Q37 a b r:=by
 refine qaq (I37 a b) a.length (Q37 a b) h0 ?_ ?_
 .rintro k ⟨s,hh⟩ hk ⟨rfl,hl,e0,e1,e5,he⟩
  simp only at hl e0 e1 e5
  have hk':(k:Int)<a.length:=by omega
  have hkb:k<b.length:=by omega
  have wk:=qab (n:=(k:Int)+1) (by omega) (by omega)
  rw[jL hk,jL hkb]at he
  rw[qad hl]
  by_cases hb:a[k]=b[k]
  .have he':decide (a=b)=decide (a.drop (k+1)=b.drop (k+1)):=by rw[he];simp only[List.cons.injEq,hb,true_and]
   simp[L59_0,I37,List.range,List.range.loop,e0,e1,e5,hk,hk',hkb,hb,wk]
   simpa using he'
  .have he':decide (a=b)=false:=by rw[he];simp only[List.cons.injEq,hb,false_and,decide_false]
   simp[L59_0,Q37,List.range,List.range.loop,e0,e1,e5,hk,hk',hkb,hb]
   simpa using he'
 .rintro⟨s,hh⟩ ⟨rfl,hl,e0,e1,e5,he⟩
  simp only[List.drop_length]at hl e0 e1 e5 he
  rw[show List.drop a.length b=[]by rw[<-hab];exact List.drop_length]at he
  have he':decide (a=b)=true:=by rw[he];rfl
  rw[qad hl]
  simp[L59_0,Q37,List.range,List.range.loop,e0,e1,e5]
  simpa using he'
theorem ev59(a b:List Txt)(ha:a.length<=4096):ev pg (.call (.fn 59 [] []) [.imm (a.map qld),.imm (b.map qld)] [])=some { v:=.bool (decide (a=b)),st:=⟨[],[]⟩ }:=by
 by_cases hab:b.length=a.length
 .have hloop:=z1x a b hab ha
  have hab':(b.length:Int)=a.length:=by omega
  unfold Q37 at hloop
  have hI:∀st:St,I37 a b 0 st<->(st.h=[]/\st.s.length=26/\qai st.s 0=.imm (a.map qld)/\qai st.s 1=.imm (b.map qld)/\qai st.s 5=num 0):=fun st=>by
   unfold I37
   exact⟨fun h=>⟨h.1,h.2.1,h.2.2.1,h.2.2.2.1,h.2.2.2.2.1⟩,fun h=>⟨h.1,h.2.1,h.2.2.1,h.2.2.2.1,h.2.2.2.2,rfl⟩⟩
  generalize decide (a=b)=B at *
  rw[qac,pg59]
  simp[ir59,qag,hab']
  generalize hr:ev pg (.code (.going _ L59_0) _)=o
  obtain⟨r,rfl,hl,hh,hQ⟩:∃r,o=some r/\_:=by
   rw[<-hr]
   exact hloop _ ((hI _).2 ⟨by simp,by simp,by simp,by simp,by simp⟩)
  rcases hQ with⟨hx,rfl⟩ | ⟨hx,h4,rfl⟩
  .simp[hx,hh,hl]
  .simp[hx,h4]
 .have hd:decide (a=b)=false:=by
   rw[decide_eq_false_iff_not]
   intro e
   exact hab (by rw[e])
  have hne:((a.length:Int) != (b.length:Int))=true:=by
   rw[bne_iff_ne];omega
  rw[hd,qac,pg59]
  simp[ir59,hne]
def I39(a b:List Int)(k:Nat)(st:St):Prop:=st.h=[]/\st.s.length=26/\qai st.s 0=.imm (a.map qcc)/\qai st.s 1=.imm (b.map qcc)/\qai st.s 5=num k/\decide (a=b)=decide (a.drop k=b.drop k)
def Q39(a b:List Int)(r:R):Prop:=r.st.s.length=26/\r.st.h=[]/\((r.x=.exit 0/\decide (a=b)=true)\/(r.x=.ret/\qai r.st.s 4=.bool false/\decide (a=b)=false))
theorem z3v(a b:List Int)(hab:b.length=a.length)(ha:a.length<=4096)(st:St)(h0:I39 a b 0 st):∃r,ev pg (.code (.going 0 L61_0) st)=some r/\Q39 a b r:=by
 refine qaq (I39 a b) a.length (Q39 a b) h0 ?_ ?_
 .rintro k ⟨s,hh⟩ hk ⟨rfl,hl,e0,e1,e5,he⟩
  simp only at hl e0 e1 e5
  have hk':(k:Int)<a.length:=by omega
  have hkb:k<b.length:=by omega
  have wk:=qab (n:=(k:Int)+1) (by omega) (by omega)
  rw[jL hk,jL hkb]at he
  rw[qad hl]
  by_cases hb:a[k]=b[k]
  .have he':decide (a=b)=decide (a.drop (k+1)=b.drop (k+1)):=by rw[he];simp only[List.cons.injEq,hb,true_and]
   simp[L61_0,I39,List.range,List.range.loop,e0,e1,e5,hk,hk',hkb,hb,wk]
   simpa using he'
  .have he':decide (a=b)=false:=by rw[he];simp only[List.cons.injEq,hb,false_and,decide_false]
   simp[L61_0,Q39,List.range,List.range.loop,e0,e1,e5,hk,hk',hkb,hb]
   simpa using he'
 .rintro⟨s,hh⟩ ⟨rfl,hl,e0,e1,e5,he⟩
  simp only[List.drop_length]at hl e0 e1 e5 he
  rw[show List.drop a.length b=[]by rw[<-hab];exact List.drop_length]at he
  have he':decide (a=b)=true:=by rw[he];rfl
  rw[qad hl]
  simp[L61_0,Q39,List.range,List.range.loop,e0,e1,e5]
  simpa using he'
theorem ev61(a b:List Int)(ha:a.length<=4096):ev pg (.call (.fn 61 [] []) [.imm (a.map qcc),.imm (b.map qcc)] [])=some { v:=.bool (decide (a=b)),st:=⟨[],[]⟩ }:=by
 by_cases hab:b.length=a.length
 .have hloop:=z3v a b hab ha
  have hab':(b.length:Int)=a.length:=by omega
  unfold Q39 at hloop
  have hI:∀st:St,I39 a b 0 st<->(st.h=[]/\st.s.length=26/\qai st.s 0=.imm (a.map qcc)/\qai st.s 1=.imm (b.map qcc)/\qai st.s 5=num 0):=fun st=>by
   unfold I39
   exact⟨fun h=>⟨h.1,h.2.1,h.2.2.1,h.2.2.2.1,h.2.2.2.2.1⟩,fun h=>⟨h.1,h.2.1,h.2.2.1,h.2.2.2.1,h.2.2.2.2,rfl⟩⟩
  generalize decide (a=b)=B at *
  rw[qac,pg61]
  simp[ir61,qag,hab']
  generalize hr:ev pg (.code (.going _ L61_0) _)=o
  obtain⟨r,rfl,hl,hh,hQ⟩:∃r,o=some r/\_:=by
   rw[<-hr]
   exact hloop _ ((hI _).2 ⟨by simp,by simp,by simp,by simp,by simp⟩)
  rcases hQ with⟨hx,rfl⟩ | ⟨hx,h4,rfl⟩
  .simp[hx,hh,hl]
  .simp[hx,h4]
 .have hd:decide (a=b)=false:=by
   rw[decide_eq_false_iff_not]
   intro e
   exact hab (by rw[e])
  have hne:((a.length:Int) != (b.length:Int))=true:=by
   rw[bne_iff_ne];omega
  rw[hd,qac,pg61]
  simp[ir61,hne]
def z5u(x y:Ex)(k:Nat)(st:St):Prop:=st.h=[⟨0,.box x.cells⟩,⟨0,.box y.cells⟩]/\st.s.length=46/\qai st.s 2=.bptr 0 0/\qai st.s 3=.bptr 1 0/\qai st.s 5=num k/\qip x.args y.args=qip (x.args.drop k) (y.args.drop k)
def z1e(x y:Ex)(r:R):Prop:=r.st.s.length=46/\((r.x=.exit 0/\qip x.args y.args=true)\/(r.x=.ret/\qai r.st.s 4=.bool false/\qip x.args y.args=false))
theorem zwy(x y:Ex)(hab:y.args.length=x.args.length)(hl9:x.args.length<=4096)(ih:∀z∈x.args,∀y,ev pg (.call (.fn 206 [] []) [z.v,y.v] [])=some { v:=.bool (z.same y),st:=⟨[],[]⟩ })(st:St)(h0:z5u x y 0 st):∃r,ev pg (.code (.going 2 L206_0) st)=some r/\z1e x y r:=by
 refine qaq (z5u x y) x.args.length (z1e x y) h0 ?_ ?_
 .rintro k ⟨s,hh⟩ hk ⟨rfl,hl,e2,e3,e5,he⟩
  simp only at hl e2 e3 e5
  have hk':(k:Int)<x.args.length:=by omega
  have hkb:k<y.args.length:=by omega
  have wk:=qab (n:=(k:Int)+1) (by omega) (by omega)
  rw[zme hk hkb]at he
  have hi:=ih x.args[k] (jH hk) y.args[k]
  rw[qad hl]
  cases hb:x.args[k].same y.args[k]with
  | true =>
   rw[hb,Bool.true_and]at he
   rw[hb]at hi
   simp[L206_0,z5u,List.range,List.range.loop,e2,e3,e5,hk,hk',hkb,hi,wk]
   simpa using he
  | false =>
   rw[hb,Bool.false_and]at he
   rw[hb]at hi
   simp[L206_0,z1e,List.range,List.range.loop,e2,e3,e5,hk,hk',hkb,hi]
   simpa using he
 .rintro⟨s,hh⟩ ⟨rfl,hl,e2,e3,e5,he⟩
  simp only[List.drop_length]at hl e2 e3 e5 he
  rw[show List.drop x.args.length y.args=[]by rw[<-hab];exact List.drop_length,qip]at he
  rw[qad hl]
  simp[L206_0,z1e,List.range,List.range.loop,e2,e3,e5]
  simpa using he
theorem ev206_of(x y:Ex)(hl9:x.args.length<=4096)(ih:∀z∈x.args,∀y,ev pg (.call (.fn 206 [] []) [z.v,y.v] [])=some { v:=.bool (z.same y),st:=⟨[],[]⟩ }):ev pg (.call (.fn 206 [] []) [x.v,y.v] [])=some { v:=.bool (x.same y),st:=⟨[],[]⟩ }:=by
 rw[zvv]
 rw[qac,pg206]
 by_cases h1:x.op=y.op
 .have n1:(x.op != y.op)=false:=by simpa using h1
  have n1':(x.op==y.op)=true:=by simpa using h1
  by_cases h2:x.idx=y.idx
  .have n2:(x.idx != y.idx)=false:=by simpa using h2
   have n2':(x.idx==y.idx)=true:=by simpa using h2
   by_cases hab:y.args.length=x.args.length
   .have n3:((x.args.length:Int) != (y.args.length:Int))=false:=by rw[hab];simp
    have hloop:=zwy x y hab hl9 ih
    unfold z1e at hloop
    have hI:∀st:St,z5u x y 0 st<->(st.h=[⟨0,.box x.cells⟩,⟨0,.box y.cells⟩]/\st.s.length=46/\qai st.s 2=.bptr 0 0/\qai st.s 3=.bptr 1 0/\qai st.s 5=num 0):=fun st=>by
     unfold z5u
     exact⟨fun h=>⟨h.1,h.2.1,h.2.2.1,h.2.2.2.1,h.2.2.2.2.1⟩,fun h=>⟨h.1,h.2.1,h.2.2.1,h.2.2.2.1,h.2.2.2.2,rfl⟩⟩
    generalize qip x.args y.args=B at *
    simp[ir206,n1,n2,n3,n1',n2',qag]
    generalize hr:ev pg (.code (.going _ L206_0) _)=o
    obtain⟨r,rfl,hl,hQ⟩:∃r,o=some r/\_:=by
     rw[<-hr]
     exact hloop _ ((hI _).2 ⟨by simp,by simp,by simp,by simp,by simp⟩)
    rcases hQ with⟨hx,rfl⟩ | ⟨hx,h4,rfl⟩
    .simp[hx,hl]
    .simp[hx,h4]
   .have n3:((x.args.length:Int) != (y.args.length:Int))=true:=by rw[bne_iff_ne];omega
    have hd:qip x.args y.args=false:=by
     rw[<-Bool.not_eq_true]
     intro e
     exact hab (q1m e)
    rw[hd]
    simp[ir206,n1,n2,n3]
  .have n2:(x.idx != y.idx)=true:=by simpa using h2
   have n2':(x.idx==y.idx)=false:=by simpa using h2
   simp[ir206,n1,n2,n2']
 .have n1:(x.op != y.op)=true:=by simpa using h1
  have n1':(x.op==y.op)=false:=by simpa using h1
  simp[ir206,n1,n1']
theorem ev206:∀x:Ex,x.nodes<=256->∀y:Ex,ev pg (.call (.fn 206 [] []) [x.v,y.v] [])=some { v:=.bool (x.same y),st:=⟨[],[]⟩ }:=by
 refine Ex.ind fun x ih hx y=>?_
 exact ev206_of x y (by have:=qew hx;omega) fun z hz y=>ih z hz (qei hx hz) y
theorem ev132(x y:Ex)(hx:x.light=true)(hy:y.light=true):ev pg (.call (.fn 132 [] []) [x.v,y.v] [])=some { v:=.bool (x.same y),st:=⟨[],[]⟩ }:=by
 have h1:=ev82 x
 have h2:=ev82 y
 have h3:=ev206 x (qbx hx).1 y
 rw[hx]at h1
 rw[hy]at h2
 generalize x.same y=B at *
 rw[qac,pg132]
 simp[ir132,h1,h2,h3]
set_option maxHeartbeats 1000000 in
theorem ev60(a b:Sg)(ha:a.on.light=true/\a.off.light=true)(hb:b.on.light=true/\b.off.light=true):ev pg (.call (.fn 60 [] []) [.agg a.row,.agg b.row] [])=some { v:=.bool (q6n a b),st:=⟨[],[]⟩ }:=by
 have h1:=ev132 a.on b.on ha.1 hb.1
 have h2:=ev132 a.off b.off ha.2 hb.2
 unfold q6n
 generalize a.on.same b.on=B at *
 generalize a.off.same b.off=D at *
 rw[qac,pg60]
 by_cases e1:a.name=b.name
 .have n1:(a.name==b.name)=true:=by simpa using e1
  by_cases e2:a.kind=b.kind
  .have n2:(a.kind==b.kind)=true:=by simpa using e2
   cases B
   .simp[ir60,n1,n2,h1]
   .cases D
    .simp[ir60,n1,n2,h1,h2]
    .by_cases e3:a.delay=b.delay
     .have n3:(a.delay==b.delay)=true:=by simpa using e3
      simp[ir60,n1,n2,n3,h1,h2]
     .have n3:(a.delay==b.delay)=false:=by simpa using e3
      simp[ir60,n1,n2,n3,h1,h2]
  .have n2:(a.kind==b.kind)=false:=by simpa using e2
   simp[ir60,n1,n2]
 .have n1:(a.name==b.name)=false:=by simpa using e1
  simp[ir60,n1]
def I12(a b:Ct)(k:Nat)(st:St):Prop:=st.h=[⟨0,.box a.cells⟩,⟨0,.box b.cells⟩]/\st.s.length=59/\qai st.s 2=.bptr 0 0/\qai st.s 3=.bptr 1 0/\qai st.s 5=num k/\qhc a.signals b.signals=qhc (a.signals.drop k) (b.signals.drop k)
def Q12(a b:Ct)(r:R):Prop:=r.st.s.length=59/\((r.x=.exit 0/\r.st.h=[⟨0,.box a.cells⟩,⟨0,.box b.cells⟩]/\qai r.st.s 2=.bptr 0 0/\qai r.st.s 3=.bptr 1 0/\qhc a.signals b.signals=true)\/(r.x=.ret/\qai r.st.s 4=.bool false/\qhc a.signals b.signals=false))
theorem z1l(a b:Ct)(hab:b.signals.length=a.signals.length)(hl9:a.signals.length<=4096)(ha:∀x∈a.signals,x.on.light=true/\x.off.light=true)(hb:∀x∈b.signals,x.on.light=true/\x.off.light=true)(st:St)(h0:I12 a b 0 st):∃r,ev pg (.code (.going 2 L21_0) st)=some r/\Q12 a b r:=by
 refine qaq (I12 a b) a.signals.length (Q12 a b) h0 ?_ ?_
 .rintro k ⟨s,hh⟩ hk ⟨rfl,hl,e2,e3,e5,he⟩
  simp only at hl e2 e3 e5
  have hk':(k:Int)<a.signals.length:=by omega
  have hkb:k<b.signals.length:=by omega
  have wk:=qab (n:=(k:Int)+1) (by omega) (by omega)
  rw[zik hk hkb]at he
  have hi:=ev60 a.signals[k] b.signals[k] (ha _ (jH hk)) (hb _ (jH hkb))
  rw[qad hl]
  cases hb:q6n a.signals[k] b.signals[k]with
  | true =>
   rw[hb,Bool.true_and]at he
   rw[hb]at hi
   simp[L21_0,I12,List.range,List.range.loop,e2,e3,e5,hk,hk',hkb,hi,wk]
   simpa using he
  | false =>
   rw[hb,Bool.false_and]at he
   rw[hb]at hi
   simp[L21_0,Q12,List.range,List.range.loop,e2,e3,e5,hk,hk',hkb,hi]
   simpa using he
 .rintro⟨s,hh⟩ ⟨rfl,hl,e2,e3,e5,he⟩
  simp only[List.drop_length]at hl e2 e3 e5 he
  rw[show List.drop a.signals.length b.signals=[]by rw[<-hab];exact List.drop_length,qhc]at he
  rw[qad hl]
  simp[L21_0,Q12,List.range,List.range.loop,e2,e3,e5]
  simpa using he
theorem ev21(a b:Ct)(ha:a.small=true)(hb:b.small=true):ev pg (.call (.fn 21 [] []) [a.v,b.v] [])=some { v:=.bool (znl a b),st:=⟨[],[]⟩ }:=by
 obtain⟨f1,f2,f3,f4,f5,f6⟩:=qcf ha
 obtain⟨g1,g2,g3,g4,g5,g6⟩:=qcf hb
 have h37:=ev59 a.inputs b.inputs (by omega)
 have h39a:=ev61 a.plus b.plus (by omega)
 have h39b:=ev61 a.minus b.minus (by omega)
 unfold znl
 generalize decide (a.inputs=b.inputs)=B1 at *
 generalize decide (a.plus=b.plus)=B3 at *
 generalize decide (a.minus=b.minus)=B4 at *
 rw[qac,pg21]
 by_cases e1:a.act=b.act
 .have n1:(a.act != b.act)=false:=by simpa using e1
  have n1':(a.act==b.act)=true:=by simpa using e1
  cases B1
  .simp[ir21,n1,n1',h37]
  .by_cases hab:b.signals.length=a.signals.length
   .have n3:((a.signals.length:Int) != (b.signals.length:Int))=false:=by rw[hab];simp
    have hloop:=z1l a b hab (by omega) (fun x hx=>(f6 x hx).2) (fun x hx=>(g6 x hx).2)
    unfold Q12 at hloop
    have hI:∀st:St,I12 a b 0 st<->(st.h=[⟨0,.box a.cells⟩,⟨0,.box b.cells⟩]/\st.s.length=59/\qai st.s 2=.bptr 0 0/\qai st.s 3=.bptr 1 0/\qai st.s 5=num 0):=fun st=>by
     unfold I12
     exact⟨fun h=>⟨h.1,h.2.1,h.2.2.1,h.2.2.2.1,h.2.2.2.2.1⟩,fun h=>⟨h.1,h.2.1,h.2.2.1,h.2.2.2.1,h.2.2.2.2,rfl⟩⟩
    generalize qhc a.signals b.signals=B2 at *
    simp[ir21,n1,n1',n3,h37,qag]
    generalize hr:ev pg (.code (.going _ L21_0) _)=o
    obtain⟨r,rfl,hl,hQ⟩:∃r,o=some r/\_:=by
     rw[<-hr]
     exact hloop _ ((hI _).2 ⟨by simp,by simp,by simp,by simp,by simp⟩)
    rcases hQ with⟨hx,hh,k2,k3,rfl⟩ | ⟨hx,h4,rfl⟩
    .cases B3
     .simp[hx,hh,hl,k2,k3,h39a]
     .simp[hx,hh,hl,k2,k3,h39a,h39b]
    .simp[hx,h4]
   .have n3:((a.signals.length:Int) != (b.signals.length:Int))=true:=by rw[bne_iff_ne];omega
    have hd:qhc a.signals b.signals=false:=by
     rw[<-Bool.not_eq_true]
     intro e
     exact hab (by rw[qqv.1 e])
    rw[hd]
    simp[ir21,n1,n1',n3,h37]
 .have n1:(a.act != b.act)=true:=by simpa using e1
  have n1':(a.act==b.act)=false:=by simpa using e1
  simp[ir21,n1,n1']
end Go.Proofs.YtddeacahiilikaaGreat
