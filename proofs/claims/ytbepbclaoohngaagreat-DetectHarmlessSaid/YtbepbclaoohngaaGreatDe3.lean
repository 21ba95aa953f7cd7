/- A fault that touches nothing leaves the control as it is; faults that . -/
import Derived.Test.YtbepbclaoohngaaGreatFy4
set_option linter.all false
namespace Go.Proofs.YtbepbclaoohngaaGreat
open Go Go.Am Go.Proofs
set_option maxRecDepth 100000
theorem qvh:∀{s:List V},(∀i,qag s i ≠ .nils)->qaq s
 | [],_,v,hv=>by cases hv
 | w :: s,h,v,hv=>by
  cases hv with
  | head=>exact h 0
  | tail _ hv=>exact qvh (s:=s) (fun i=>h (i+1)) v hv
theorem qsf:∀{s:List V} {j:Nat} (h:H),qag s j=.nils->(∀i,i≠j->qag s i ≠ .nils)->qhm h s=(qej s j (.sl h.length 0 0 0 0),h++[⟨0,.arr 0 []⟩])
 | [],j,h,hj,_=>by simp[qag]at hj
 | v :: s,0,h,hj,hn=>by
  have hv:v=.nils:=hj
  subst hv
  have hs:qaq s:=qvh fun i=>hn (i+1) (by omega)
  simp only[qhm,qcz _ hs]
  rfl
 | v :: s,j+1,h,hj,hn=>by
  have hv:v ≠ .nils:=hn 0 (by omega)
  have ih:=qsf (s:=s) (j:=j) h hj (fun i hi=>hn (i+1) (by omega))
  cases v<;>first | exact absurd rfl hv | (simp only[qhm,ih];rfl)
theorem qjx:∀{s:List V} {d:Nat},s.length<=d->qag s d=.undef
 | [],d,_=>by cases d<;>rfl
 | v :: s,0,h=>by simp at h
 | v :: s,d+1,h=>qjx (s:=s) (by simpa using h)
theorem zjl{s:List V}{j:Nat}{x:V}(h:∀i,i≠15->qag s i ≠ .nils)(hx:x ≠ .nils):∀i,i≠15->qag (qej s j x) i ≠ .nils:=by
 intro i hi
 by_cases e:j=i
 .subst e
  by_cases hl:j<s.length
  .rw[qiw hl];exact hx
  .rw[qjx (by rw[qji];omega)];simp
 .rw[qaf e];exact h i hi
theorem z0f{c:Ct}{k i:Int}{cells:List V}{li:Int}{d:Fs}{st:St}(h:R83 c k i cells li 2 d st):∃r,ev pg (.code L86_4 st)=some r/\r.x=.exit 4/\R83 c k i cells li 2 d r.st:=by
 obtain⟨gs,m,gk,mk,gv,mv,hh,hm2,hmk,hmv,hk⟩:=h
 have e93:=hk.t93
 have e94:=hk.t94
 have hl:=hk.keep.len
 refine⟨⟨.exit 4,.undef,⟨qej st.s 95 (.bool false),st.h⟩⟩,?_,rfl,gs,m,gk,mk,gv,mv,hh,hm2,hmk,hmv,hk.set 95 _ (by simp) (by decide) (by decide)⟩
 rw[L86_4_eq]
 simp[e93,e94,hl]
theorem zue{c:Ct}{A:Nat}(hM:Mid c A)(hcp:c.plus.length=A)(hcm:c.minus.length=A)(k i:Int)(hk6:0<=k/\k<6)(cells:List V)(v0 li:Int)(hcs:qir v0 cells)(h64:c.signals.length<=64)(st:St)(h0:R83 c k i cells li 0 (qbi c k i A) st):∃r,ev pg (.code (.going 29 L86_4) st)=some r/\r.x=.exit 4/\R83 c k i cells li 2 (qba c k i A 1 (qba c k i A 0 (qbi c k i A))) r.st:=by
 have hA6:=hM.hi
 have hin:=hM.inp
 obtain⟨l1,l2⟩:=qom c k i A
 obtain⟨m1,m2,m3⟩:=qyl c k i A 0 (qbi c k i A)
 have hcN:qad c A<=200:=by unfold qad;omega
 have hw:(qba c k i A 0 (qbi c k i A)).w.length<=1:=by
  unfold qba qbi
  simp only
  split<;>simp
 obtain⟨r1,e1,x1,R1⟩:=zkg hM hcp hcm k i hk6 cells li v0 hcs 0 (.inl rfl) (qbi c k i A) rfl rfl hcp hcm (by omega) (by omega) (Nat.zero_le _) st h0
 obtain⟨r2,e2,x2,R2⟩:=zkg hM hcp hcm k i hk6 cells li v0 hcs 1 (.inr rfl) (qba c k i A 0 (qbi c k i A)) rfl rfl (by unfold qba;simp only[qdo];exact hcp) (by unfold qba;simp only[qdo];exact hcm) (by omega) (by omega) (by omega) _ R1
 obtain⟨r3,e3,x3,R3⟩:=z0f R2
 refine⟨r3,?_,x3,R3⟩
 rw[qdu,e1]
 simp only[x1]
 rw[qdu,e2]
 simp only[x2]
 rw[qdu,e3]
 simp only[x3]
def zfk(c:Ct)(k i:Int)(cells:List V)(D:Fs)(r:R):Prop:=r.x=.ret/\∃gs ms gk mk gv mv,r.st.h=(h83 c k i cells (b83 c gs ms (D.d.signals.map Sg.row).length) ⟨0,.arr 1 (D.d.plus.map qbo)⟩ ⟨0,.arr 1 (D.d.minus.map qbo)⟩ ⟨gs,.arr ms (D.d.signals.map Sg.row)⟩ (q7a gk mk D.K gv mv D.w)).set 6 ⟨0,.box (b83 c gs ms (D.d.signals.map Sg.row).length)⟩/\qag r.st.s 4=.bptr 6 0/\qag r.st.s 5=.sl 28 gv mv 0 D.w.length
theorem jex{c:Ct}{A:Nat}(hM:Mid c A)(hcp:c.plus.length=A)(hcm:c.minus.length=A)(k i:Int)(hk6:0<=k/\k<6)(cells:List V)(li:Int)(hli:li=qhc k i)(hcs:qir (qcd k) cells)(h64:c.signals.length<=64)(gk mk:Nat)(hmk:mk=1\/mk=0)(st:St)(g m:Nat)(hm:m=10\/m=0)(hh:st.h=h83 c k i cells (b83 c g m c.signals.length) ⟨0,.arr 1 (c.plus.map qbo)⟩ ⟨0,.arr 1 (c.minus.map qbo)⟩ ⟨g,.arr m ((c.signals.map (qih li (qcd k))).map Sg.row)⟩ [⟨0,.arr 0 []⟩,⟨gk,.arr mk ((qax c A (qad c A)).map qoq)⟩])(hk:Keep83 li st.s)(h9:qag st.s 9=.sl 27 gk mk 0 (qax c A (qad c A)).length):∃r,ev pg (.code zsv st)=some r/\zfk c k i cells (qba c k i A 1 (qba c k i A 0 (qbi c k i A))) r:=by
 unfold zfk
 have hgo:=zue hM hcp hcm k i hk6 cells (qcd k) li hcs h64
 obtain⟨s,h⟩:=st
 simp only at hh hk h9
 subst hh
 have hl:=hk.len
 have hnn:=hk.nn
 generalize qba c k i A 1 (qba c k i A 0 (qbi c k i A))=D at *
 simp[zsv,qam,hl]
 generalize hs2:qej (qej (qej (qej s 15 .nils) 92 _) 93 _) 94 _=s2
 have g15:qag s2 15=.nils:=by rw[<-hs2];simp[hl]
 have gn:∀i,i≠15->qag s2 i ≠ .nils:=by
  rw[<-hs2]
  refine zjl (zjl (zjl (fun i hi=>?_) (by simp)) (by simp)) (by simp)
  rw[qaf (Ne.symm hi)]
  exact qas hnn i
 have hl2:s2.length=157:=by rw[<-hs2];simp[hl]
 have f:∀j,j≠15->j≠92->j≠93->j≠94->qag s2 j=qag s j:=fun j h1 h2 h3 h4=>by
  rw[<-hs2,qaf (Ne.symm h4),qaf (Ne.symm h3),qaf (Ne.symm h2),qaf (Ne.symm h1)]
 have g92:qag s2 92=jej:=by rw[<-hs2];simp[hl]
 have g93:qag s2 93=num 2:=by rw[<-hs2];simp[hl]
 have g94:qag s2 94=num 0:=by rw[<-hs2];simp[hl]
 clear hs2
 rw[qsf _ g15 gn]
 simp
 generalize hr:ev pg (.code (.going 29 L86_4) _)=o
 obtain⟨r,rfl,hx,hR⟩:∃r,o=some r/\_:=by
  rw[<-hr]
  refine hgo _ ⟨g,m,gk,mk,0,0,?_,hm,hmk,.inr rfl,⟨qvh fun i=>?_,by simp[hl2],?_,?_,?_,?_,?_,?_,?_⟩,?_,?_,?_,?_,?_⟩
  .subst hli
   simp[qbi]
  .by_cases hi:i=15
   .subst hi;rw[qiw (by omega)];simp
   .rw[qaf (Ne.symm hi)];exact gn i hi
  .rw[qaf (by decide),f _ (by decide) (by decide) (by decide) (by decide)];exact hk.t2
  .rw[qaf (by decide),f _ (by decide) (by decide) (by decide) (by decide)];exact hk.t3
  .rw[qaf (by decide),f _ (by decide) (by decide) (by decide) (by decide)];exact hk.t4
  .rw[qaf (by decide),f _ (by decide) (by decide) (by decide) (by decide)];exact hk.t5
  .rw[qaf (by decide),f _ (by decide) (by decide) (by decide) (by decide)];exact hk.t6
  .rw[qaf (by decide),f _ (by decide) (by decide) (by decide) (by decide)];exact hk.t7
  .rw[qaf (by decide),f _ (by decide) (by decide) (by decide) (by decide)];exact hk.t8
  .rw[qaf (by decide),f _ (by decide) (by decide) (by decide) (by decide)];exact h9
  .rw[qiw (by omega)];rfl
  .rw[qaf (by decide)];exact g92
  .rw[qaf (by decide)];exact g93
  .rw[qaf (by decide)];exact g94
 obtain⟨gs,m,gk,mk,gv,mv,hh,hm2,hmk,hmv,hk⟩:=hR
 obtain⟨x,v,s4,h4⟩:=r
 simp only at hx hh hk
 subst hx hh
 have k4:=hk.keep.t4
 have k8:=hk.keep.t8
 have k15:=hk.t15
 have kl:=hk.keep.len
 simp[zzc,k4,k8,k15,kl]
theorem jeg{c:Ct}(hfew:c.small=true){A:Nat}(hM:Mid c A)(hcp:c.plus.length=A)(hcm:c.minus.length=A)(k i:Int)(hk6:0<=k/\k<6)(cells:List V)(li:Int)(hli:li=qhc k i)(hcs:qir (qcd k) cells)(h64:c.signals.length<=64)(r:R)(h0:z4p c A k i cells li r):∃r',ev pg (.code zsu r.st)=some r'/\zfk c k i cells (qba c k i A 1 (qba c k i A 0 (qbi c k i A))) r':=by
 obtain⟨_,gk,mk,hh,hmk,hk,h9⟩:=h0
 have hloop:=zvn hfew k i cells li (qcd k) hcs gk mk (qax c A (qad c A))
 have hT3:=jex hM hcp hcm k i hk6 cells li hli hcs h64 gk mk hmk
 have hln:=qxd c A (qad c A)
 obtain⟨x,v,s,h⟩:=r
 simp only at hh hk h9
 subst hh
 have hl:=hk.len
 have hnn:=hk.nn
 have k2:=hk.t2
 generalize qba c k i A 1 (qba c k i A 0 (qbi c k i A))=D at *
 generalize hN:qad c A=N at *
 generalize qax c A N=K at *
 subst hln
 simp (maxDischargeDepth:=20) [zsu,qam,hl,k2,qcz,qdn,hnn]
 generalize hr:ev pg (.code (.going 28 L86_1) _)=o
 obtain⟨r,rfl,hx,g,m,hh,hm,hk2,h92⟩:∃r,o=some r/\_:=by
  rw[<-hr]
  refine hloop _ ⟨0,0,rfl,.inr rfl,(((hk.set 58 _ (by simp) (by decide)).set 59 _ (by simp) (by decide)).set 60 _ (by simp) (by decide)).set 61 _ (by simp) (by decide),by simp[h9],by simp[hl],by simp[hl],by simp[hl]⟩
 obtain⟨r',hr',hF⟩:=hT3 r.st g m hm hh hk2 h92
 simp[hx,hr']
 exact hF
set_option maxHeartbeats 800000 in
theorem ev86line(c:Ct)(hfew:c.small=true)(hc:c.check=0){A:Nat}(hA:c.act.toNat=A)(hcp:c.plus.length=A)(hcm:c.minus.length=A)(h64:c.signals.length<=64)(kn:Nat)(hk:kn<6)(i:Int)(t:Txt)(hsel:List.take 4 (List.drop (kn*4) (kC 8))=[.str t,.bool true,num (qcd kn),.nilfn])(hli:qhc kn i=i):ev pg (.call (.fn 86 [] []) [c.v,fv kn i] [])=some { v:=.tup [(qba c kn i A 1 (qba c kn i A 0 (qbi c kn i A))).d.v,.imm ((qba c kn i A 1 (qba c kn i A 0 (qbi c kn i A))).w.map qhq)],st:=⟨[],[]⟩ }:=by
 obtain⟨f1,f2,f3,f4,f5,f6⟩:=qdd hfew
 have h67:=ev83 [⟨0,.box c.cells⟩,⟨0,.box [num kn,num i]⟩,⟨0,.arr 0 []⟩,⟨0,.arr 0 []⟩,⟨0,.arr 0 []⟩,⟨0,.arr 0 []⟩,⟨0,.box [num 0,.sl 2 0 0 0 0,.sl 3 0 0 0 0,.sl 4 0 0 0 0,.sl 5 0 0 0 0]⟩,⟨0,.box [.str [],.bool false,.int .i64 0,.nilfn]⟩]
 have h4:4<=24-kn*4:=by omega
 have z0a:=ev141 c.inputs (by omega)
 have h35a:=ev142 c.plus (by omega)
 have h35b:=ev142 c.minus (by omega)
 have hM:=qfs hc hfew
 rw[hA]at hM
 have h73:=ev85 hM
 have hT:=jeg hfew hM hcp hcm kn i (by omega) [.str t,.bool true,num (qcd kn),.nilfn] i hli.symm (.inl ⟨t,rfl⟩) h64
 have hL:=zir hfew hc A hA kn i [.str t,.bool true,num (qcd kn),.nilfn] (qcd kn) (.inl ⟨t,rfl⟩) i
 have hI:∀st:St,(st.h=h83 c kn i [.str t,.bool true,num (qcd kn),.nilfn] (b83 c 0 0 0) ⟨0,.arr 1 (c.plus.map qbo)⟩ ⟨0,.arr 1 (c.minus.map qbo)⟩ ⟨0,.arr 0 []⟩ [⟨0,.arr 0 []⟩,⟨0,.arr 0 []⟩]/\Keep83 i st.s/\qag st.s 9=.sl 27 0 0 0 0/\qag st.s 43=num (qad c A)/\qag st.s 44=num 0)->zyo c A kn i [.str t,.bool true,num (qcd kn),.nilfn] i 0 st:=fun st h=>⟨0,0,h.1,.inr rfl,h.2.1,h.2.2.1,h.2.2.2.1,h.2.2.2.2⟩
 unfold zfk at hT
 have hact:(qba c kn i A 1 (qba c kn i A 0 (qbi c kn i A))).d.act=c.act:=rfl
 have hinp:(qba c kn i A 1 (qba c kn i A 0 (qbi c kn i A))).d.inputs=c.inputs:=rfl
 have hpl:(qba c kn i A 1 (qba c kn i A 0 (qbi c kn i A))).d.plus.length=A:=by unfold qba;simp only[qdo];exact hcp
 have hml:(qba c kn i A 1 (qba c kn i A 0 (qbi c kn i A))).d.minus.length=A:=by unfold qba;simp only[qdo];exact hcm
 generalize qba c kn i A 1 (qba c kn i A 0 (qbi c kn i A))=D at *
 generalize qad c A=N at *
 generalize qcd kn=lv at *
 rw[qab,pg86,ir86_eq]
 simp[qaa,exT,qak,h67,hk,h4,hsel,z0a,h35a,h35b,zst,qam,h73]
 generalize hr:ev pg (.code (.going 28 L86_0) _)=o
 obtain⟨r,rfl,hQ⟩:∃r,o=some r/\_:=by
  rw[<-hr]
  exact hL _ (hI _ ⟨by simp,⟨by simp[qaq],rfl,rfl,rfl,rfl,rfl,rfl,rfl,rfl⟩,rfl,rfl,rfl⟩)
 obtain⟨r',hr',hx,gs,ms,gk,mk,gv,mv,hh,e4,e5⟩:=hT r hQ
 simp[hQ.1,hr',hx,hh,e4,e5,hpl,hml,hcp,hcm,hact,hinp]
set_option maxHeartbeats 800000 in
theorem ev86other(c:Ct)(hfew:c.small=true)(hc:c.check=0){A:Nat}(hA:c.act.toNat=A)(hcp:c.plus.length=A)(hcm:c.minus.length=A)(h64:c.signals.length<=64)(kn:Nat)(hk:kn<6)(i:Int)(t:Txt)(a b:Nat)(ha:a<17)(hb:b<17)(hsel:List.take 4 (List.drop (kn*4) (kC 8))=[.str t,.bool false,num (qcd kn),.fn 140 [] [.bptr a 0,.bptr b 0]])(hli:qhc kn i=-1):ev pg (.call (.fn 86 [] []) [c.v,fv kn i] [])=some { v:=.tup [(qba c kn i A 1 (qba c kn i A 0 (qbi c kn i A))).d.v,.imm ((qba c kn i A 1 (qba c kn i A 0 (qbi c kn i A))).w.map qhq)],st:=⟨[],[]⟩ }:=by
 obtain⟨f1,f2,f3,f4,f5,f6⟩:=qdd hfew
 have h67:=ev83 [⟨0,.box c.cells⟩,⟨0,.box [num kn,num i]⟩,⟨0,.arr 0 []⟩,⟨0,.arr 0 []⟩,⟨0,.arr 0 []⟩,⟨0,.arr 0 []⟩,⟨0,.box [num 0,.sl 2 0 0 0 0,.sl 3 0 0 0 0,.sl 4 0 0 0 0,.sl 5 0 0 0 0]⟩,⟨0,.box [.str [],.bool false,.int .i64 0,.nilfn]⟩]
 have h4:4<=24-kn*4:=by omega
 have z0a:=ev141 c.inputs (by omega)
 have h35a:=ev142 c.plus (by omega)
 have h35b:=ev142 c.minus (by omega)
 have hM:=qfs hc hfew
 rw[hA]at hM
 have h73:=ev85 hM
 have hT:=jeg hfew hM hcp hcm kn i (by omega) [.str t,.bool false,num (qcd kn),.fn 140 [] [.bptr a 0,.bptr b 0]] (-1) hli.symm (.inr ⟨t,a,b,ha,hb,rfl⟩) h64
 have hL:=zir hfew hc A hA kn i [.str t,.bool false,num (qcd kn),.fn 140 [] [.bptr a 0,.bptr b 0]] (qcd kn) (.inr ⟨t,a,b,ha,hb,rfl⟩) (-1)
 have hI:∀st:St,(st.h=h83 c kn i [.str t,.bool false,num (qcd kn),.fn 140 [] [.bptr a 0,.bptr b 0]] (b83 c 0 0 0) ⟨0,.arr 1 (c.plus.map qbo)⟩ ⟨0,.arr 1 (c.minus.map qbo)⟩ ⟨0,.arr 0 []⟩ [⟨0,.arr 0 []⟩,⟨0,.arr 0 []⟩]/\Keep83 (-1) st.s/\qag st.s 9=.sl 27 0 0 0 0/\qag st.s 43=num (qad c A)/\qag st.s 44=num 0)->zyo c A kn i [.str t,.bool false,num (qcd kn),.fn 140 [] [.bptr a 0,.bptr b 0]] (-1) 0 st:=fun st h=>⟨0,0,h.1,.inr rfl,h.2.1,h.2.2.1,h.2.2.2.1,h.2.2.2.2⟩
 unfold zfk at hT
 have hact:(qba c kn i A 1 (qba c kn i A 0 (qbi c kn i A))).d.act=c.act:=rfl
 have hinp:(qba c kn i A 1 (qba c kn i A 0 (qbi c kn i A))).d.inputs=c.inputs:=rfl
 have hpl:(qba c kn i A 1 (qba c kn i A 0 (qbi c kn i A))).d.plus.length=A:=by unfold qba;simp only[qdo];exact hcp
 have hml:(qba c kn i A 1 (qba c kn i A 0 (qbi c kn i A))).d.minus.length=A:=by unfold qba;simp only[qdo];exact hcm
 generalize qba c kn i A 1 (qba c kn i A 0 (qbi c kn i A))=D at *
 generalize qad c A=N at *
 generalize qcd kn=lv at *
 rw[qab,pg86,ir86_eq]
 simp[qaa,exT,qak,h67,hk,h4,hsel,z0a,h35a,h35b,zst,qam,h73]
 generalize hr:ev pg (.code (.going 28 L86_0) _)=o
 obtain⟨r,rfl,hQ⟩:∃r,o=some r/\_:=by
  rw[<-hr]
  exact hL _ (hI _ ⟨by simp,⟨by simp[qaq],rfl,rfl,rfl,rfl,rfl,rfl,rfl,rfl⟩,rfl,rfl,rfl⟩)
 obtain⟨r',hr',hx,gs,ms,gk,mk,gv,mv,hh,e4,e5⟩:=hT r hQ
 simp[hQ.1,hr',hx,hh,e4,e5,hpl,hml,hcp,hcm,hact,hinp]
theorem ev86(c:Ct)(hfew:c.small=true)(k i:Int)(hf:qtv c k i=0):ev pg (.call (.fn 86 [] []) [c.v,fv k i] [])=some { v:=.tup [(qcq c k i).d.v,.imm ((qcq c k i).w.map qhq)],st:=⟨[],[]⟩ }:=by
 obtain⟨hc,hk,hi0,hiN,hiA⟩:=qhr hf
 have hR:=qgq hc hfew
 have h64:c.signals.length<=64:=by
  unfold Ct.check at hc
  split at hc
  .cases hc
  .split at hc
   .cases hc
   .omega
 unfold qcq
 rcases (by omega:k=(0:Nat)\/k=(1:Nat)\/k=(2:Nat)\/k=(3:Nat)\/k=(4:Nat)\/k=(5:Nat))with rfl | rfl | rfl | rfl | rfl | rfl
 .exact ev86other c hfew hc rfl hR.plus hR.minus h64 0 (by omega) i t0t 9 10 (by omega) (by omega) rfl rfl
 .exact ev86other c hfew hc rfl hR.plus hR.minus h64 1 (by omega) i t1t 11 12 (by omega) (by omega) rfl rfl
 .exact ev86line c hfew hc rfl hR.plus hR.minus h64 2 (by omega) i t2t rfl rfl
 .exact ev86line c hfew hc rfl hR.plus hR.minus h64 3 (by omega) i t3t rfl rfl
 .exact ev86other c hfew hc rfl hR.plus hR.minus h64 4 (by omega) i t4t 13 14 (by omega) (by omega) rfl rfl
 .exact ev86other c hfew hc rfl hR.plus hR.minus h64 5 (by omega) i t5t 15 16 (by omega) (by omega) rfl rfl
def qhs(c:Ct)(k i:Int):Int:=if qtv c k i=0 then(if(qcq c k i).d.check=0 then 0 else 12)else qtv c k i
def qzj:Ct:=⟨0,[],[],[],[]⟩
def qio(c:Ct)(k i:Int):Ct:=if qhs c k i=0 then(qcq c k i).d else qzj
theorem ev38(c:Ct)(hfew:c.small=true)(k i:Int):ev pg (.call (.fn 38 [] []) [c.v,fv k i] [])=some { v:=.tup [(qio c k i).v,num (qhs c k i)],st:=⟨[],[]⟩ }:=by
 have h19:=ev81 c hfew k i
 rw[qab,pg38]
 unfold qio
 by_cases he:qtv c k i=0
 .have h83:=ev86 c hfew k i he
  have h29:=ev87 (qcq c k i).d (qml hfew (qhr he).1 k i)
  by_cases hd:(qcq c k i).d.check=0
  .have e:qhs c k i=0:=by unfold qhs;rw[if_pos he,if_pos hd]
   rw[e,if_pos rfl]
   rw[he]at h19
   rw[hd]at h29
   generalize (qcq c k i).d=D at *
   generalize (qcq c k i).w=w at *
   simp[ir38,h19,h83,h29]
  .have e:qhs c k i=12:=by unfold qhs;rw[if_pos he,if_neg hd]
   rw[e,if_neg (by omega)]
   rw[he]at h19
   generalize (qcq c k i).d=D at *
   generalize (qcq c k i).w=w at *
   generalize D.check=e' at *
   simp[ir38,h19,h83,h29,hd,qzj]
 .have e:qhs c k i=qtv c k i:=by unfold qhs;rw[if_neg he]
  rw[e,if_neg he]
  generalize qtv c k i=e' at *
  simp[ir38,h19,he,qzj]
theorem zid{c:Ct}(hfew:c.small=true)(k i:Int):(qio c k i).small=true:=by
 unfold qio qhs
 by_cases h1:qtv c k i=0
 .rw[if_pos h1]
  by_cases h2:(qcq c k i).d.check=0
  .rw[if_pos h2,if_pos rfl]
   exact qml hfew (qhr h1).1 k i
  .rw[if_neg h2,if_neg (by omega)];rfl
 .rw[if_neg h1,if_neg h1];rfl
mutual
theorem qhw(n v:Int):∀x:Ex,x.repl n v=x<->x.had n=false
 | .mk o i l=>by
  rw[Ex.repl,Ex.had]
  by_cases h:o=1/\i=n
  .rw[if_pos h,if_pos h,Ex.mk.injEq]
   exact⟨fun e=>by have:=e.1;omega,fun e=>by cases e⟩
  .rw[if_neg h,if_neg h,Ex.mk.injEq,q0t n v l]
   simp
theorem q0t(n v:Int):∀l:List Ex,qte n v l=l<->qyx n l=false
 | []=>by rw[qte,qyx];simp
 | x :: l=>by rw[qte,qyx,List.cons.injEq,qhw n v x,q0t n v l,jZ]
end
theorem zby{f:Nat->Bool}{b:Int}{n:Nat}:qim f b n=[]<->∀j,j<n->f j=false:=by
 unfold qim
 rw[List.map_eq_nil_iff,List.filter_eq_nil_iff]
 simp
theorem z2w(c:Ct)(k i:Int)(j:Nat):(pil c k i j).1<=1/\(pil c k i j).2<=1:=by
 unfold pil qcd
 repeat' split
 all_goals exact⟨by simp only<;>(first | omega | (split<;>omega)),by simp only<;>(first | omega | (split<;>omega))⟩
theorem qkr{f:Nat->Bool}{next:Int}{l:List Int}:∀{A:Nat},(∀j,j<A->f j=false)->qco f next A l=l
 | 0,_=>rfl
 | A+1,h=>by
  rw[qco,h A (by omega),if_neg (by decide)]
  exact qkr fun j hj=>h j (by omega)
theorem qsv{p:Nat->Bool}:∀{A:Nat},zbk p A=false<->∀j,j<A->p j=false
 | 0=>⟨fun _ j hj=>by omega,fun _=>rfl⟩
 | A+1=>by
  rw[zbk,jZ,qsv]
  exact⟨fun h j hj=>by
   by_cases e:j=A
   .rw[e];exact h.2
   .exact h.1 j (by omega),fun h=>⟨fun j hj=>h j (by omega),h A (by omega)⟩⟩
theorem qqg{c:Ct}{k i:Int}{j:Nat}:q3y c k i j=false<->pil c k i j=(-1,-1):=by
 have h:=zjw c k i j
 unfold q3y
 rw[jZ,decide_eq_false_iff_not,decide_eq_false_iff_not]
 generalize pil c k i j=p at *
 obtain⟨p1,p2⟩:=p
 simp only at h
 rw[Prod.mk.injEq]
 exact⟨fun g=>⟨by omega,by omega⟩,fun g=>⟨by simp only;omega,by simp only;omega⟩⟩
theorem q5x{c:Ct}{k i:Int}{A:Nat}:(qew c k i 0 A=false/\qew c k i 1 A=false)<->∀j,j<A->q3y c k i j=false:=by
 unfold qew
 rw[qsv,qsv]
 constructor
 .rintro⟨h0,h1⟩ j hj
  have g0:=h0 j hj
  have g1:=h1 j hj
  have hl:=z2w c k i j
  have hg:=zjw c k i j
  rw[qqg]
  unfold qps qpr at g0 g1
  generalize pil c k i j=p at *
  obtain⟨p1,p2⟩:=p
  simp only[jZ,beq_eq_false_iff_ne]at g0 g1
  simp only at hl hg
  rw[Prod.mk.injEq]
  exact⟨by omega,by omega⟩
 .intro h
  refine⟨fun j hj=>?_,fun j hj=>?_⟩ <;>
  .have g:=qqg.1 (h j hj)
   simp only[qps,qpr,g]
   decide
theorem q6y{c:Ct}{k i:Int}{A:Nat}{v:Int}{s:Fs}:(qba c k i A v s).d.signals.length=s.d.signals.length+(if qew c k i v A=true then 1 else 0):=by
 unfold qba
 simp only
 split<;>simp
theorem qzt{c:Ct}{A:Nat}(hR:Rgt c A)(n:Int){x:Sg}(hx:x∈c.signals):x.on.had n=x.on.occ n:=qwm n _ _ (hR.on x hx)
theorem qwn{c:Ct}{A:Nat}(hR:Rgt c A)(n:Int){x:Sg}(hx:x∈c.signals):x.off.had n=x.off.occ n:=by
 rcases hR.off x hx with h | h
 .exact qwm n _ _ h
 .exact zaw n _ h
theorem q7d{c:Ct}{k i:Int}{A:Nat}(h:∀j,j<A->q3y c k i j=false):(qba c k i A 1 (qba c k i A 0 (qbi c k i A))).d=(qbi c k i A).d:=by
 obtain⟨h0,h1⟩:=q5x.2 h
 have sel:∀v,v=0\/v=1->(∀j,j<A->qps c k i v j=false)/\(∀j,j<A->qpr c k i v j=false):=fun v hv=>by
  refine⟨fun j hj=>?_,fun j hj=>?_⟩ <;>
  .have g:=qqg.1 (h j hj)
   simp only[qps,qpr,g]
   rcases hv with rfl | rfl<;>decide
 rw[qlw h1,qlw h0]
 simp only
 rw[qkr (sel 0 (.inl rfl)).1,qkr (sel 0 (.inl rfl)).2,qkr (sel 1 (.inr rfl)).1,qkr (sel 1 (.inr rfl)).2]
theorem zex{c:Ct}(hfew:c.small=true){k i:Int}(hf:qtv c k i=0):qun c k i=[]<->c=(qcq c k i).d:=by
 obtain⟨hc,hk,hi0,hiN,hiA⟩:=qhr hf
 have hR:=qgq hc hfew
 have hact:=hR.mid.act
 unfold qun qcq
 rw[if_pos hf]
 generalize c.act.toNat=A at *
 unfold zky
 rw[List.append_eq_nil_iff,zby,zby]
 -- the signals
 have hsig:(∀j,j<c.signals.length->qfx c.signals k i j=false)->k=2\/k=3->(qbi c k i A).d=c:=fun h hl=>by
  have:c.signals.map (qih (qhc k i) (qcd k))=c.signals:=by
   rw[List.map_congr_left (g:=id),List.map_id]
   intro x hx
   obtain⟨j,hj,rfl⟩:=List.mem_iff_getElem.1 hx
   have g:=h j hj
   unfold qfx at g
   rw[decide_eq_true hl,Bool.true_and,jA hj]at g
   simp only[Option.map_some,Option.getD_some,jZ]at g
   have hi:qhc k i=i:=by unfold qhc;rw[if_pos hl]
   have g1:=(qhw i (qcd k) c.signals[j].on).2 (by rw[qzt hR i hx];exact g.1)
   have g2:=(qhw i (qcd k) c.signals[j].off).2 (by rw[qwn hR i hx];exact g.2)
   unfold qih
   rw[hi,g1,g2]
   rfl
  unfold qbi
  rw[this]
 constructor
 .rintro⟨h1,h2⟩
  rw[q7d h2]
  by_cases hl:k=2\/k=3
  .exact(hsig h1 hl).symm
  .have h3:=hiA hl
   have h4:=qqg.1 (h2 i.toNat (by omega))
   unfold pil at h4
   rw[if_neg hl,if_pos (by omega)]at h4
   exfalso
   revert h4
   repeat' split
   all_goals simp
 .intro h
  have e1:=q6y (c:=c) (k:=k) (i:=i) (A:=A) (v:=1) (s:=qba c k i A 0 (qbi c k i A))
  have e0:=q6y (c:=c) (k:=k) (i:=i) (A:=A) (v:=0) (s:=qbi c k i A)
  have l0:=(qom c k i A).1
  rw[<-h,e0,l0]at e1
  have n0:qew c k i 0 A=false:=by
   cases hb:qew c k i 0 A with
   | false=>rfl
   | true=>rw[hb,if_pos rfl]at e1;omega
  have n1:qew c k i 1 A=false:=by
   cases hb:qew c k i 1 A with
   | false=>rfl
   | true=>rw[hb,if_pos rfl]at e1;omega
  have h2:=q5x.1 ⟨n0,n1⟩
  rw[q7d h2]at h
  refine⟨fun j hj=>?_,h2⟩
  unfold qfx
  by_cases hl:k=2\/k=3
  .have hs:c.signals.map (qih (qhc k i) (qcd k))=c.signals:=(congrArg Ct.signals h).symm
   have hi:qhc k i=i:=by unfold qhc;rw[if_pos hl]
   rw[hi]at hs
   have hx:=jH hj
   have g:=congrArg (fun l=>l[j]?) hs
   simp only[List.getElem?_map,jA hj,Option.map_some,jC]at g
   have g1:=congrArg Sg.on g
   have g2:=congrArg Sg.off g
   rw[jA hj]
   simp only[Option.map_some,Option.getD_some]
   rw[<-qzt hR i hx,<-qwn hR i hx,(qhw _ _ _).1 g1,(qhw _ _ _).1 g2]
   simp
  .rw[decide_eq_false hl];rfl
end Go.Proofs.YtbepbclaoohngaaGreat
