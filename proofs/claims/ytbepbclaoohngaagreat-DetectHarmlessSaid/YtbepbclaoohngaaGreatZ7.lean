/- The faulty control, by the reference; injections. -/
import Derived.Test.YtbepbclaoohngaaGreatZ6
set_option linter.all false
namespace Go.Proofs.YtbepbclaoohngaaGreat
open Go Go.Am Go.Proofs
set_option maxRecDepth 100000
theorem Keep32.scrub{s:List V}(h:Keep32 s):Keep32 (s.map (qbq 21)):=by
 refine⟨qpl h.nn,by rw[List.length_map,h.len],?_,?_,?_,?_,?_⟩
 .rw[qbp,h.t2];simp
 .rw[qbp,h.t3];simp
 .rw[qbp,h.t4];simp
 .rw[qbp,h.t5];simp
 .rw[qbp,h.t6];simp
theorem Keep32v.scrub{P:List (Int×Int)}{v:Int}{gv mv nv:Nat}{s:List V}(h:Keep32v P v gv mv nv s):Keep32v P v gv mv nv (s.map (qbq 21)):=by
 refine⟨h.keep.scrub,?_,?_,?_⟩
 .rw[qbp,h.t9];simp
 .rw[qbp,h.t10];simp
 .rw[qbp,h.t11];simp
theorem Keep32v.next{P:List (Int×Int)}{v:Int}{gv mv nv:Nat}{s:List V}(h:Keep32v P v gv mv nv s)(x y:V)(hx:x ≠ .nils)(hy:y ≠ .nils)(v':Int):Keep32v P v' gv mv nv (qej (qej (qej s 81 x) 82 y) 11 (num v')):=by
 have hk:=((h.keep.set 81 x hx (by decide)).set 82 y hy (by decide)).set 11 (num v') (by simp) (by decide)
 have hl:=h.keep.len
 exact⟨hk,by simp[h.t9],by simp[h.t10],by simp[hl]⟩
def R32(c:Ct)(A:Nat)(k i v:Int)(d:Fs)(st:St):Prop:=∃gs m gv mv,st.h=h32 c k i (b32 c gs m d.d.signals.length) ⟨0,.arr 1 (d.d.plus.map qbo)⟩ ⟨0,.arr 1 (d.d.minus.map qbo)⟩ ⟨gs,.arr m (d.d.signals.map Sg.row)⟩ (zcg gv mv d.w)/\(m=10\/m=0)/\(mv=1\/mv=0)/\Keep32v (qft c k i A) v gv mv d.w.length st.s
theorem zzj{c:Ct}{k i:Int}(gs m n:Nat)(W:List (List V))(ps ms:List Int)(gv mv:Nat)(w:List Bool):qjn 21 (h32 c k i (b32 c gs m n) ⟨0,.arr 1 (ps.map qbo)⟩ ⟨0,.arr 1 (ms.map qbo)⟩ ⟨gs,.arr m W⟩ (zcg gv mv w))=h32 c k i (b32 c gs m n) ⟨0,.arr 1 (ps.map qbo)⟩ ⟨0,.arr 1 (ms.map qbo)⟩ ⟨gs,.arr m W⟩ (zcg gv mv w):=by
 simp
set_option maxHeartbeats 4000000 in
theorem zkf{c:Ct}{A:Nat}(hM:Mid c A)(hcp:c.plus.length=A)(hcm:c.minus.length=A)(k i:Int)(v:Int)(hv:v=0\/v=1)(d:Fs)(hda:d.d.act=c.act)(hdi:d.d.inputs=c.inputs)(hp:d.d.plus.length=A)(hm:d.d.minus.length=A)(hW:d.d.signals.length<=127)(hK:qax d.d A (qad d.d A)=d.K)(hw:d.w.length<=4096)(st:St)(h0:R32 c A k i v d st):∃r,ev pg (.code L117_2 st)=some r/\r.x=.normal/\R32 c A k i (v+1) (qba c k i A v d) (qts 21 r.st):=by
 obtain⟨gs,m,gv,mv,hh,hm2,hmv,hk⟩:=h0
 have hMd:Mid d.d A:=⟨by rw[hda];exact hM.act,hM.lo,hM.hi,by rw[hdi];exact hM.inp,by omega⟩
 have h67:=ev186 hMd
 have hMd':Mid ⟨c.act,c.inputs,d.d.signals,qco (qps c k i v) (qad d.d A:Nat) A d.d.plus,qco (qpr c k i v) (qad d.d A:Nat) A d.d.minus⟩ A:=⟨hM.act,hM.lo,hM.hi,hM.inp,by simp only;omega⟩
 have h69:=ev188 hMd' d.K (by rw[<-hK];exact qpk A hdi.symm rfl) (qbv v) (by have e:(qbv v).length=6:=rfl;omega)
 have hV1:=jfb hM.hi hcp hcm k i v hv (qad d.d A:Nat) d.d.plus d.d.minus hp hm gs m d.d.signals hm2 (by omega) gv mv hmv d.w hw (qfq d.K (qbv v)) h69
 clear h69
 obtain⟨s,h⟩:=st
 simp only at hh hk
 subst hh
 have hl:=hk.keep.len
 have e6:=hk.keep.t6
 have e11:=hk.t11
 have i1:=qan (n:=1) (by omega) (by omega)
 have i2:=qan (n:=2) (by omega) (by omega)
 obtain⟨⟨act,inputs,signals,plus,minus⟩,K,w⟩:=d
 simp only at hda hdi hp hm hW hK hw hMd h67 hV1 hk
 subst hda hdi
 have h67':ev pg (.call (.fn 186 [] []) [.agg [num c.act,.imm (c.inputs.map qoq),.imm (signals.map Sg.row),qes plus,qes minus]] [])=_:=h67
 have main:∀s2,Keep32v (qft c k i A) v gv mv w.length s2->qag s2 12=.bool false->qag s2 13=num (qad (⟨c.act,c.inputs,signals,plus,minus⟩:Ct) A:Nat)->∃r,ev pg (.code V1 ⟨s2,h32 c k i (b32 c gs m signals.length) ⟨0,.arr 1 (plus.map qbo)⟩ ⟨0,.arr 1 (minus.map qbo)⟩ ⟨gs,.arr m (signals.map Sg.row)⟩ (zcg gv mv w)⟩)=some r/\r.x=.normal/\qag r.st.s 11=num v/\r.st.s.length=138/\R32 c A k i (v+1) (qba c k i A v ⟨⟨c.act,c.inputs,signals,plus,minus⟩,K,w⟩) ⟨(qej (qej (qej r.st.s 81 (num v)) 82 (num (v+1))) 11 (num (v+1))).map (qbq 21),qjn 21 r.st.h⟩:=by
  intro s2 g1 g2 g3
  obtain⟨r,hr,hx,hQ⟩:=hV1 ⟨s2,_⟩ ⟨rfl,g1,g2,g3⟩
  refine⟨r,hr,hx,?_⟩
  cases hB:qew c k i v A with
  | true =>
   rw[hB,if_pos rfl]at hQ
   obtain⟨hh2,hk2⟩:=hQ
   refine⟨hk2.t11,hk2.keep.len,gs+1,10,gv+1,1,?_,.inl rfl,.inl rfl,?_⟩
   .rw[hh2,zzj,qnj hB]
    simp
   .rw[qnj hB]
    simp only[jF,List.length_singleton]
    exact(hk2.next _ _ (by simp) (by simp) _).scrub
  | false =>
   rw[hB,if_neg (by decide)]at hQ
   obtain⟨hh2,hk2⟩:=hQ
   refine⟨hk2.t11,hk2.keep.len,gs,m,gv,mv,?_,hm2,hmv,?_⟩
   .rw[hh2,zzj,qlw hB]
   .rw[qlw hB]
    exact(hk2.next _ _ (by simp) (by simp) _).scrub
 clear hV1
 generalize qad (⟨c.act,c.inputs,signals,plus,minus⟩:Ct) A=N at *
 rw[L117_2_eq]
 rcases hv with rfl | rfl
 all_goals
  simp[-qjn,hl,e6,e11,hp,hm,hcp,hcm,h67']
  generalize hq:ev pg (.code V1 _)=o
  obtain⟨r,rfl,hx,g11,hl2,hR⟩:∃r,o=some r/\_:=by
   rw[<-hq]
   refine main _ ((((((hk.set 79 _ (by simp) (by decide) (by decide)).set 80 _ (by simp) (by decide) (by decide)).set 12 _ (by simp) (by decide) (by decide)).set 83 _ (by simp) (by decide) (by decide)).set 84 _ (by simp) (by decide) (by decide)).set 13 _ (by simp) (by decide) (by decide)) ?_ ?_
   .simp[hl]
   .simp[hl]
  simp[-qjn,hx,g11,hl2,i1,i2]
  simpa using hR
theorem z0e{c:Ct}{A:Nat}{k i:Int}{d:Fs}{st:St}(h:R32 c A k i 2 d st):∃r,ev pg (.code L117_2 st)=some r/\r.x=.exit 2/\R32 c A k i 2 d r.st:=by
 obtain⟨gs,m,gv,mv,hh,hm2,hmv,hk⟩:=h
 have e11:=hk.t11
 have hl:=hk.keep.len
 refine⟨⟨.exit 2,.undef,⟨qej (qej st.s 79 (num 2)) 80 (.bool false),st.h⟩⟩,?_,rfl,gs,m,gv,mv,hh,hm2,hmv,(hk.set 79 _ (by simp) (by decide) (by decide)).set 80 _ (by simp) (by decide) (by decide)⟩
 rw[L117_2_eq]
 simp[e11,hl]
theorem zud{c:Ct}{A:Nat}(hM:Mid c A)(hcp:c.plus.length=A)(hcm:c.minus.length=A)(k i:Int)(h64:c.signals.length<=64)(st:St)(h0:R32 c A k i 0 (qbi c k i A) st):∃r,ev pg (.code (.going 21 L117_2) st)=some r/\r.x=.exit 2/\R32 c A k i 2 (qba c k i A 1 (qba c k i A 0 (qbi c k i A))) r.st:=by
 obtain⟨l1,l2⟩:=qom c k i A
 obtain⟨m1,m2,m3⟩:=qyl c k i A 0 (qbi c k i A)
 have hw:(qba c k i A 0 (qbi c k i A)).w.length<=1:=by
  unfold qba qbi
  simp only
  split<;>simp
 have hn0:=q8m c k i A
 have hn1:=zeb (c:=c) (k:=k) (i:=i) (v:=0) hn0
 obtain⟨r1,e1,x1,R1⟩:=zkf hM hcp hcm k i 0 (.inl rfl) (qbi c k i A) rfl rfl hcp hcm (by omega) hn0 (Nat.zero_le _) st h0
 obtain⟨r2,e2,x2,R2⟩:=zkf hM hcp hcm k i 1 (.inr rfl) (qba c k i A 0 (qbi c k i A)) rfl rfl (by unfold qba;simp only[qdo];exact hcp) (by unfold qba;simp only[qdo];exact hcm) (by omega) hn1 (by omega) _ R1
 obtain⟨r3,e3,x3,R3⟩:=z0e R2
 refine⟨r3,?_,x3,R3⟩
 rw[qdu,e1]
 simp only[x1]
 rw[qdu,e2]
 simp only[x2]
 rw[qdu,e3]
 simp only[x3]
def W3:C:=.seq (.reg [⟨some 136,none,.load true 5 (.t 6)⟩,
  ⟨some 137,none,.mv (.t 9)⟩,
  ⟨none,none,.store 5 (.t 4) (.t 136)⟩,
  ⟨some 5,none,.mv (.t 137)⟩])
 (.ret)
def W2:C:=.seq (.seq (.reg [⟨some 11,none,.mv (.c (.int .i64 0))⟩])
 (.block 2 (.loop L117_2))) W3
def W1:C:=.seq (.reg [⟨some 9,none,.mv (.c (.nils))⟩])
 (.seq (.reg [⟨some 76,none,.load true 5 (.t 2)⟩,
  ⟨some 77,none,.load true 2 (.t 3)⟩,
  ⟨some 78,none,.call (.c (.fn 187 [] [])) [.t 76,.t 77]⟩,
  ⟨some 10,none,.mv (.t 78)⟩]) W2)
theorem ir117_eq:ir117=.mk 138 [.cell 4 true 5,.t 5] (
 .seq (.reg [⟨some 2,none,.box (.t 0)⟩,
  ⟨some 3,none,.box (.t 1)⟩,
  ⟨some 4,none,.alloc [.int .i64 0,.nils,.nils,.nils,.nils]⟩,
  ⟨some 5,none,.mv (.c (.nils))⟩])
 (.seq (.draw [⟨some 6,none,.alloc [.int .i64 0,.nils,.nils,.nils,.nils]⟩,
  ⟨some 15,none,.faddr 0 (.t 2)⟩,
  ⟨some 16,none,.load false 1 (.t 15)⟩,
  ⟨some 17,none,.bslice false 1 [.str []] 0 []⟩,
  ⟨some 18,none,.faddr 1 (.t 2)⟩,
  ⟨some 19,none,.load false 1 (.t 18)⟩,
  ⟨some 20,none,.app 1 16 (.t 17) (.t 19)⟩,
  ⟨some 21,none,.bslice false 1 [.int .i64 0] 0 []⟩,
  ⟨some 22,none,.faddr 3 (.t 2)⟩,
  ⟨some 23,none,.load false 1 (.t 22)⟩,
  ⟨some 24,none,.app 1 8 (.t 21) (.t 23)⟩,
  ⟨some 25,none,.bslice false 1 [.int .i64 0] 0 []⟩,
  ⟨some 26,none,.faddr 4 (.t 2)⟩,
  ⟨some 27,none,.load false 1 (.t 26)⟩,
  ⟨some 28,none,.app 1 8 (.t 25) (.t 27)⟩,
  ⟨some 29,none,.build [.int .i64 0,.nils,.nils,.nils,.nils] [(0,1,(.t 16)),(1,1,(.t 20)),(3,1,(.t 24)),(4,1,(.t 28))]⟩,
  ⟨none,none,.store 5 (.t 6) (.t 29)⟩] [(2,6),(2,10),(2,14),(9,6),(13,6),(13,10)])
 (.seq (.seq (.reg [⟨some 7,none,.mv (.c (.int .i64 0))⟩])
 (.block 0 (.loop L117_0))) W1))) false false:=rfl
def zsj(c:Ct)(k i:Int)(D:Fs)(r:Am.R):Prop:=r.x=.ret/\∃gs ms gv mv,r.st.h=(h32 c k i (b32 c gs ms D.d.signals.length) ⟨0,.arr 1 (D.d.plus.map qbo)⟩ ⟨0,.arr 1 (D.d.minus.map qbo)⟩ ⟨gs,.arr ms (D.d.signals.map Sg.row)⟩ (zcg gv mv D.w)).set 6 ⟨0,.box (b32 c gs ms D.d.signals.length)⟩/\qag r.st.s 4=.bptr 6 0/\qag r.st.s 5=.sl 20 gv mv 0 D.w.length
theorem qxe{s:List V}{j:Nat}{x:V}(h:∀i,i≠9->qag s i ≠ .nils)(hx:x ≠ .nils):∀i,i≠9->qag (qej s j x) i ≠ .nils:=by
 intro i hi
 by_cases e:j=i
 .subst e
  by_cases hl:j<s.length
  .rw[qiw hl];exact hx
  .rw[qjx (by rw[qji];omega)];simp
 .rw[qaf e];exact h i hi
theorem jfe{c:Ct}{A:Nat}(hM:Mid c A)(hcp:c.plus.length=A)(hcm:c.minus.length=A)(k i:Int)(hk6:0<=k/\k<6)(h64:c.signals.length<=64)(r:Am.R)(h0:z4n c k i (qhc k i) (qcd k) r):∃r',ev pg (.code W1 r.st)=some r'/\zsj c k i (qba c k i A 1 (qba c k i A 0 (qbi c k i A))) r':=by
 obtain⟨_,g,m,hh,hm,hk⟩:=h0
 have hgo:=zud hM hcp hcm k i h64
 have h68:=ev187 hM hcp hcm k i hk6
 obtain⟨x0,v0,s,h⟩:=r
 simp only at hh hk
 subst hh
 have hl:=hk.len
 have hnn:=hk.nn
 have k2:=hk.t2
 have k3:=hk.t3
 unfold zsj
 generalize qba c k i A 1 (qba c k i A 0 (qbi c k i A))=D at *
 simp[W1,W2,qam,hl,k2,k3,h68]
 generalize hs2:qej (qej (qej (qej (qej (qej s 9 .nils) 76 _) 77 _) 78 _) 10 _) 11 _=s2
 have g9:qag s2 9=.nils:=by rw[<-hs2];simp[hl]
 have gn:∀i,i≠9->qag s2 i ≠ .nils:=by
  rw[<-hs2]
  refine qxe (qxe (qxe (qxe (qxe (fun i hi=>?_) (by simp)) (by simp)) (by simp)) (by simp)) (by simp)
  rw[qaf (Ne.symm hi)]
  exact qas hnn i
 have hl2:s2.length=138:=by rw[<-hs2];simp[hl]
 have f:∀j,j∉[9,76,77,78,10,11]->qag s2 j=qag s j:=fun j hj=>by
  simp only[List.mem_cons,List.not_mem_nil,or_false,not_or]at hj
  obtain⟨h1,h2,h3,h4,h5,h6⟩:=hj
  rw[<-hs2,qaf (Ne.symm h6),qaf (Ne.symm h5),qaf (Ne.symm h4),qaf (Ne.symm h3),qaf (Ne.symm h2),qaf (Ne.symm h1)]
 have g10:qag s2 10=qgw (qft c k i A):=by rw[<-hs2];simp[hl]
 have g11:qag s2 11=num 0:=by rw[<-hs2];simp[hl]
 clear hs2
 rw[qsf _ g9 gn]
 simp
 generalize hr:ev pg (.code (.going 21 L117_2) _)=o
 obtain⟨r,rfl,hx,hR⟩:∃r,o=some r/\_:=by
  rw[<-hr]
  refine hgo _ ⟨g,m,0,0,?_,hm,.inr rfl,⟨qvh fun i=>?_,by simp[hl2],?_,?_,?_,?_,?_⟩,?_,?_,?_⟩
  .simp[qbi]
  .by_cases hi:i=9
   .subst hi;rw[qiw (by omega)];simp
   .rw[qaf (Ne.symm hi)];exact gn i hi
  .rw[qaf (by decide),f _ (by decide)];exact hk.t2
  .rw[qaf (by decide),f _ (by decide)];exact hk.t3
  .rw[qaf (by decide),f _ (by decide)];exact hk.t4
  .rw[qaf (by decide),f _ (by decide)];exact hk.t5
  .rw[qaf (by decide),f _ (by decide)];exact hk.t6
  .rw[qiw (by omega)];rfl
  .rw[qaf (by decide)];exact g10
  .rw[qaf (by decide)];exact g11
 obtain⟨gs,m,gv,mv,hh,hm2,hmv,hk⟩:=hR
 obtain⟨x,v,s4,h4⟩:=r
 simp only at hx hh hk
 subst hx hh
 have k4:=hk.keep.t4
 have k6:=hk.keep.t6
 have k9:=hk.t9
 have kl:=hk.keep.len
 simp[W3,k4,k6,k9,kl]
set_option maxHeartbeats 800000 in
theorem ev117(c:Ct)(hfew:c.small=true)(k i:Int)(hf:qtv c k i=0):ev pg (.call (.fn 117 [] []) [c.v,fv k i] [])=some { v:=.tup [(qcq c k i).d.v,.imm ((qcq c k i).w.map qhq)],st:=⟨[],[]⟩ }:=by
 obtain⟨f1,f2,f3,f4,f5,f6⟩:=qdd hfew
 obtain⟨hc,hk,hi0,hiN,hiA⟩:=qhr hf
 have hR:=qgq hc hfew
 have h64:c.signals.length<=64:=by
  unfold Ct.check at hc
  split at hc
  .cases hc
  .split at hc
   .cases hc
   .omega
 have hT:=jfe hR.mid hR.plus hR.minus k i hk h64
 have hL:=zvf hc hfew hf
 have b1:c.inputs.length*16<=140737488355328:=by omega
 have b2:c.plus.length*8<=140737488355328:=by omega
 have b3:c.minus.length*8<=140737488355328:=by omega
 have hI:∀st:St,(st.h=h32 c k i (b32 c 0 0 0) ⟨0,.arr 1 (c.plus.map qbo)⟩ ⟨0,.arr 1 (c.minus.map qbo)⟩ ⟨0,.arr 0 []⟩ []/\Keep32 st.s/\qag st.s 7=num 0)->z4c c k i (qhc k i) (qcd k) 0 st:=fun st h=>⟨0,0,h.1,.inr rfl,h.2.1,h.2.2⟩
 have hcp:=hR.plus
 have hcm:=hR.minus
 unfold qcq
 generalize c.act.toNat=A at *
 unfold zsj at hT
 have hact:(qba c k i A 1 (qba c k i A 0 (qbi c k i A))).d.act=c.act:=rfl
 have hinp:(qba c k i A 1 (qba c k i A 0 (qbi c k i A))).d.inputs=c.inputs:=rfl
 have hpl:(qba c k i A 1 (qba c k i A 0 (qbi c k i A))).d.plus.length=A:=by unfold qba;simp only[qdo];exact hcp
 have hml:(qba c k i A 1 (qba c k i A 0 (qbi c k i A))).d.minus.length=A:=by unfold qba;simp only[qdo];exact hcm
 generalize qba c k i A 1 (qba c k i A 0 (qbi c k i A))=D at *
 rw[qab,pg117,ir117_eq]
 simp[qaa,exT,qak,b1,b2,b3,qam]
 generalize hr:ev pg (.code (.going 20 L117_0) _)=o
 obtain⟨r,rfl,hQ⟩:∃r,o=some r/\_:=by
  rw[<-hr]
  exact hL _ (hI _ ⟨by simp,⟨by simp[qaq],rfl,rfl,rfl,rfl,rfl,rfl⟩,rfl⟩)
 obtain⟨r',hr',hx,gs,ms,gv,mv,hh,e4,e5⟩:=hT r hQ
 simp[hQ.1,hr',hx,hh,e4,e5,hpl,hml,hcp,hcm,hact,hinp]
theorem ev59(c:Ct)(hfew:c.small=true)(k i:Int):ev pg (.call (.fn 59 [] []) [c.v,fv k i] [])=some { v:=.tup [(qio c k i).v,num (qhs c k i)],st:=⟨[],[]⟩ }:=by
 have h31:=ev116 c hfew k i
 rw[qab,pg59]
 unfold qio
 by_cases he:qtv c k i=0
 .have h32:=ev117 c hfew k i he
  have h33:=ev71 (qcq c k i).d (qml hfew (qhr he).1 k i)
  by_cases hd:(qcq c k i).d.check=0
  .have e:qhs c k i=0:=by unfold qhs;rw[if_pos he,if_pos hd]
   rw[e,if_pos rfl]
   rw[he]at h31
   rw[hd]at h33
   generalize (qcq c k i).d=D at *
   generalize (qcq c k i).w=w at *
   simp[ir59,h31,h32,h33]
  .have e:qhs c k i=12:=by unfold qhs;rw[if_pos he,if_neg hd]
   rw[e,if_neg (by omega)]
   rw[he]at h31
   generalize (qcq c k i).d=D at *
   generalize (qcq c k i).w=w at *
   generalize D.check=e' at *
   simp[ir59,h31,h32,h33,hd,qzj]
 .have e:qhs c k i=qtv c k i:=by unfold qhs;rw[if_neg he]
  rw[e,if_neg he]
  generalize qtv c k i=e' at *
  simp[ir59,h31,he,qzj]
end Go.Proofs.YtbepbclaoohngaaGreat
