/- The faulty. -/
import Derived.Test.YtggbaapfbgjaeaaGreatDoorFZ5
set_option linter.all false
namespace Go.Proofs.YtggbaapfbgjaeaaGreatDoor
open Go Go.Am Go.Proofs
set_option maxRecDepth 100000
def V4:C:=.seq (.draw [⟨some 116,none,.faddr 2 (.t 6)⟩,
    ⟨some 117,none,.load false 1 (.t 116)⟩,
    ⟨some 118,none,.load true 5 (.t 6)⟩,
    ⟨some 119,none,.bslice false 1 [.str []] 2 [(0,(.c (.str [115,116,117,99,107,48]))),(1,(.c (.str [115,116,117,99,107,49])))]⟩,
    ⟨some 120,none,.mv (.t 11)⟩,
    ⟨some 121,none,.iaddrL 1 (.t 119) (.t 120)⟩,
    ⟨some 122,none,.load false 1 (.t 121)⟩,
    ⟨some 123,none,.call (.c (fnq 118)) [.t 118,.t 122]⟩,
    ⟨some 124,none,.mv (.t 11)⟩,
    ⟨some 125,none,.bin false .eql (.t 124) (.c (.int .i64 1))⟩,
    ⟨some 126,none,.call (.c (fnq 119)) [.t 125]⟩,
    ⟨some 127,none,.build [.str [],.int .i64 0,.int .i64 0,.int .i64 0,.nils,.int .i64 0,.int .i64 0,.nils,.int .i64 0,.bool false] [(0,1,(.t 123)),(1,1,(.c (.int .i64 0))),(2,3,(.t 126))]⟩,
    ⟨some 128,none,.bslice true 10 [.str [],.int .i64 0,.int .i64 0,.int .i64 0,.imm [],.int .i64 0,.int .i64 0,.imm [],.int .i64 0,.bool false] 1 [(0,(.t 127))]⟩,
    ⟨some 129,none,.app 10 120 (.t 117) (.t 128)⟩,
    ⟨some 130,none,.faddr 2 (.t 6)⟩,
    ⟨none,none,.store 1 (.t 130) (.t 129)⟩] [(1,7),(1,10),(1,12)])
   (.reg [⟨some 131,none,.mv (.t 9)⟩,
    ⟨some 132,none,.mv (.t 11)⟩,
    ⟨some 133,none,.bin false .eql (.t 132) (.c (.int .i64 1))⟩,
    ⟨some 134,none,.bslice false 1 [.bool false] 1 [(0,(.t 133))]⟩,
    ⟨some 135,none,.app 1 1 (.t 131) (.t 134)⟩,
    ⟨some 9,none,.mv (.t 135)⟩])
def V2:C:=.seq (.reg [⟨some 115,none,.mv (.t 12)⟩]) (.cond (.t 115) V4 (.skip))
def V1:C:=.seq (.seq (.reg [⟨some 14,none,.mv (.c (.int .i64 0))⟩]) (.block 4 (.loop L74_1))) V2
theorem L74_2_eq:L74_2=.seq (.seq (.reg [⟨some 79,none,.mv (.t 11)⟩,
  ⟨some 80,none,.bin false .lss (.t 79) (.c (.int .i64 2))⟩])
 (.cond (.t 80) (.skip)
  (.exit 2)))
 (.seq (.block 3 (.seq (.reg [⟨some 12,none,.mv (.c (.bool false))⟩])
  (.seq (.reg [⟨some 83,none,.load true 5 (.t 6)⟩,
   ⟨some 84,none,.call (.c (fnq 116)) [.t 83]⟩,
   ⟨some 13,none,.mv (.t 84)⟩]) V1)))
 (.reg [⟨some 81,none,.mv (.t 11)⟩,
  ⟨some 82,none,.bin false .add (.t 81) (.c (.int .i64 1))⟩,
  ⟨some 11,none,.mv (.t 82)⟩])):=rfl
theorem Keep32.set{s:List V}(h:Keep32 s)(j:Nat)(x:V)(hx:x ≠ .nils)(hj:j∉[2,3,4,5,6]):Keep32 (qet s j x):=by simp only[List.mem_cons,List.not_mem_nil,or_false,not_or]at hj;obtain⟨h2,h3,h4,h5,h6⟩:=hj;exact⟨qei h.nn hx,by rw[qjc,h.len],by rw[qaf h2,h.t2],by rw[qaf h3,h.t3],by rw[qaf h4,h.t4],by rw[qaf h5,h.t5],by rw[qaf h6,h.t6]⟩
theorem Keep32v.set{P:List (Int×Int)}{v:Int}{gv mv nv:Nat}{s:List V}(h:Keep32v P v gv mv nv s)(j:Nat)(x:V)(hx:x ≠ .nils)(hj:j∉[2,3,4,5,6])(hj2:j∉[9,10,11]):Keep32v P v gv mv nv (qet s j x):=by simp only[List.mem_cons,List.not_mem_nil,or_false,not_or]at hj2;obtain⟨h9,h10,h11⟩:=hj2;exact⟨h.keep.set j x hx hj,by rw[qaf h9,h.t9],by rw[qaf h10,h.t10],by rw[qaf h11,h.t11]⟩
set_option maxHeartbeats 4000000 in
theorem z6h{c:Ct}(k i v:Int)(hv:v=0\/v=1)(G:List (Int×Int))(PS MS:List Int)(hp:PS.length=c.plus.length)(hm:MS.length=c.minus.length)(gs m:Nat)(signals:List Sg)(hms:m=10\/m=0)(hW:signals.length<=4096)(gv mv:Nat)(hmv:mv=1\/mv=0)(w:List Bool)(hw:w.length<=4096)(T:Txt)(h69:ev pg (.call (fnq 118) [.agg [num c.act,.imm (c.inputs.map qpq),.imm (signals.map Sg.row),qcr PS,qcr MS],.str (qbu v)] [])=some (rvq (.str T)))(st:St)(h0:st.h=h32 c k i (b32 c gs m signals.length) ⟨0,.arr 1 (PS.map qbk)⟩ ⟨0,.arr 1 (MS.map qbk)⟩ ⟨gs,.arr m (signals.map Sg.row)⟩ (zbz gv mv w)/\Keep32v G v gv mv w.length st.s):∃r,ev pg (.code V4 st)=some r/\r.x=.normal/\r.st.h=h32 c k i (b32 c (gs+1) 10 (signals.length+1)) ⟨0,.arr 1 (PS.map qbk)⟩ ⟨0,.arr 1 (MS.map qbk)⟩ ⟨gs+1,.arr 10 (signals.map Sg.row++[(qwu T v).row])⟩ (zbz (gv+1) 1 (w++[v==1]))/\Keep32v G v (gv+1) 1 (w.length+1) r.st.s:=by
 obtain⟨s,hh⟩:=st;obtain⟨rfl,⟨⟨hnn,hl,e2,e3,e4,e5,e6⟩,e9,e10,e11⟩⟩:=h0;simp only at hl e2 e3 e4 e5 e6 e9 e10 e11;have hnl:∀j,qah s j ≠ .nils:=qap hnn;have b2:(signals.length+1)*120<=140737488355328:=by omega
 have b3:w.length+1<=140737488355328:=by omega
 have h70:=ev119 (v==1);have hbv:(if(v==1)=true then(1:Int)else 0)=v:=by rcases hv with rfl | rfl<;>rfl
 rw[hbv]at h70;rw[qac hl];rcases hv with rfl | rfl
 .have h69':ev pg (.call (fnq 118) [.agg [num c.act,.imm (c.inputs.map qpq),.imm (signals.map Sg.row),qcr PS,qcr MS],.str [115,116,117,99,107,48]] [])=_:=h69;have h70':ev pg (.call (fnq 119) [.bool false] [])=_:=h70;rcases hms with rfl | rfl<;>rcases hmv with rfl | rfl
  all_goals
   simp[qab,exT,qag,V4,List.range,List.range.loop,e2,e3,e4,e5,e6,e9,e10,e11,hp,hm,b2,b3,h69',h70'];exact⟨⟨rfl,rfl,rfl⟩,⟨by simp[qaq,hnl],rfl,rfl,rfl,rfl,rfl,rfl⟩,rfl,rfl,rfl⟩
 .have h69':ev pg (.call (fnq 118) [.agg [num c.act,.imm (c.inputs.map qpq),.imm (signals.map Sg.row),qcr PS,qcr MS],.str [115,116,117,99,107,49]] [])=_:=h69;have h70':ev pg (.call (fnq 119) [.bool true] [])=_:=h70;rcases hms with rfl | rfl<;>rcases hmv with rfl | rfl
  all_goals
   simp[qab,exT,qag,V4,List.range,List.range.loop,e2,e3,e4,e5,e6,e9,e10,e11,hp,hm,b2,b3,h69',h70'];exact⟨⟨rfl,rfl,rfl⟩,⟨by simp[qaq,hnl],rfl,rfl,rfl,rfl,rfl,rfl⟩,rfl,rfl,rfl⟩
def zex(c:Ct)(k i v:Int)(G:List (Int×Int))(B:Bool)(PS MS:List Int)(gs m:Nat)(signals:List Sg)(gv mv:Nat)(w:List Bool)(T:Txt)(r:Am.R):Prop:=r.x=.normal/\(if B=true then r.st.h=h32 c k i (b32 c (gs+1) 10 (signals.length+1)) ⟨0,.arr 1 (PS.map qbk)⟩ ⟨0,.arr 1 (MS.map qbk)⟩ ⟨gs+1,.arr 10 (signals.map Sg.row++[(qwu T v).row])⟩ (zbz (gv+1) 1 (w++[v==1]))/\Keep32v G v (gv+1) 1 (w.length+1) r.st.s else r.st.h=h32 c k i (b32 c gs m signals.length) ⟨0,.arr 1 (PS.map qbk)⟩ ⟨0,.arr 1 (MS.map qbk)⟩ ⟨gs,.arr m (signals.map Sg.row)⟩ (zbz gv mv w)/\Keep32v G v gv mv w.length r.st.s)
theorem z6g{c:Ct}(k i v:Int)(hv:v=0\/v=1)(G:List (Int×Int))(PS MS:List Int)(hp:PS.length=c.plus.length)(hm:MS.length=c.minus.length)(gs m:Nat)(signals:List Sg)(hms:m=10\/m=0)(hW:signals.length<=4096)(gv mv:Nat)(hmv:mv=1\/mv=0)(w:List Bool)(hw:w.length<=4096)(T:Txt)(h69:ev pg (.call (fnq 118) [.agg [num c.act,.imm (c.inputs.map qpq),.imm (signals.map Sg.row),qcr PS,qcr MS],.str (qbu v)] [])=some (rvq (.str T)))(B:Bool)(st:St)(h0:st.h=h32 c k i (b32 c gs m signals.length) ⟨0,.arr 1 (PS.map qbk)⟩ ⟨0,.arr 1 (MS.map qbk)⟩ ⟨gs,.arr m (signals.map Sg.row)⟩ (zbz gv mv w)/\Keep32v G v gv mv w.length st.s/\qah st.s 12=.bool B):∃r,ev pg (.code V2 st)=some r/\zex c k i v G B PS MS gs m signals gv mv w T r:=by
 obtain⟨hh,hk,h12⟩:=h0;have hl:=hk.keep.len;obtain⟨s,h⟩:=st;simp only at hh hk h12 hl;have hk2:=hk.set 115 (.bool B) (by simp) (by decide) (by decide);unfold zex;cases B with
 | false =>
  refine⟨⟨.normal,.undef,⟨qet s 115 (.bool false),h⟩⟩,?_,rfl,?_⟩
  .simp[V2,hl,h12]
  .exact⟨hh,hk2⟩
 | true =>
  obtain⟨r,hr,hx,hh2,hk3⟩:=z6h k i v hv G PS MS hp hm gs m signals hms hW gv mv hmv w hw T h69 ⟨qet s 115 (.bool true),h⟩ ⟨hh,hk2⟩;refine⟨r,?_,hx,?_⟩
  .simp[V2,hl,h12,hr]
  .exact⟨hh2,hk3⟩
theorem z6f{c:Ct}{A:Nat}(hA6:A<=6)(hcp:c.plus.length=A)(hcm:c.minus.length=A)(k i v:Int)(hv:v=0\/v=1)(next:Int)(ps ms:List Int)(hp:ps.length=A)(hm:ms.length=A)(gs m:Nat)(signals:List Sg)(hms:m=10\/m=0)(hW:signals.length<=4096)(gv mv:Nat)(hmv:mv=1\/mv=0)(w:List Bool)(hw:w.length<=4096)(T:Txt)(h69:ev pg (.call (fnq 118) [.agg [num c.act,.imm (c.inputs.map qpq),.imm (signals.map Sg.row),qcr (qcv (qtr c k i v) next A ps),qcr (qcv (qtq c k i v) next A ms)],.str (qbu v)] [])=some (rvq (.str T)))(st:St)(h0:st.h=h32 c k i (b32 c gs m signals.length) ⟨0,.arr 1 (ps.map qbk)⟩ ⟨0,.arr 1 (ms.map qbk)⟩ ⟨gs,.arr m (signals.map Sg.row)⟩ (zbz gv mv w)/\Keep32v (qgs c k i A) v gv mv w.length st.s/\qah st.s 12=.bool false/\qah st.s 13=num next):∃r,ev pg (.code V1 st)=some r/\zex c k i v (qgs c k i A) (qhd c k i v A) (qcv (qtr c k i v) next A ps) (qcv (qtq c k i v) next A ms) gs m signals gv mv w T r:=by
 have hloop:=ztw (c:=c) hA6 k i v next gs m signals.length (signals.map Sg.row) gv mv w ps ms hp hm hcp hcm
 have hV2:=z6g (c:=c) k i v hv (qgs c k i A) (qcv (qtr c k i v) next A ps) (qcv (qtq c k i v) next A ms) (by rw[qdr,hp,hcp]) (by rw[qdr,hm,hcm]) gs m signals hms hW gv mv hmv w hw T h69 (qhd c k i v A);have hI:∀st:St,(st.h=h32 c k i (b32 c gs m signals.length) ⟨0,.arr 1 (ps.map qbk)⟩ ⟨0,.arr 1 (ms.map qbk)⟩ ⟨gs,.arr m (signals.map Sg.row)⟩ (zbz gv mv w)/\Keep32v (qgs c k i A) v gv mv w.length st.s/\qah st.s 12=.bool false/\qah st.s 13=num next/\qah st.s 14=num 0)->z0n c k i v A next (b32 c gs m signals.length) ⟨gs,.arr m (signals.map Sg.row)⟩ gv mv w ps ms 0 st:=fun st h=>⟨h.1,h.2.1,h.2.2.1,h.2.2.2.1,h.2.2.2.2⟩
 obtain⟨s,hh⟩:=st;obtain⟨rfl,hk,e12,e13⟩:=h0;simp only at hk e12 e13;have hl:=hk.keep.len;have hk2:=hk.set 14 (num 0) (by simp) (by decide) (by decide);have hnn2:=hk2.keep.nn;unfold z0w at hloop;clear h69;generalize qcv (qtr c k i v) next A ps=PS at *
 generalize qcv (qtq c k i v) next A ms=MS at *
 generalize qhd c k i v A=B at *;generalize qgs c k i A=G at *;simp (maxDischargeDepth:=20) [V1,qai,qeg,hnn2];generalize hr:ev pg (.code (.going 21 L74_1) _)=o;obtain⟨r,rfl,hx,hh,hkv,g12⟩:∃r,o=some r/\_:=by rw[<-hr];exact hloop _ (hI _ ⟨rfl,hk2,by simp[e12],by simp[e13],by simp[hl]⟩)
 obtain⟨r4,h4,hQ⟩:=hV2 r.st ⟨hh,hkv,g12⟩;simp[hx,h4];exact hQ
theorem Keep32.scrub{s:List V}(h:Keep32 s):Keep32 (s.map (qbf 21)):=by
 refine⟨qqc h.nn,by rw[List.length_map,h.len],?_,?_,?_,?_,?_⟩
 .rw[qbn,h.t2];simp
 .rw[qbn,h.t3];simp
 .rw[qbn,h.t4];simp
 .rw[qbn,h.t5];simp
 .rw[qbn,h.t6];simp
theorem Keep32v.scrub{P:List (Int×Int)}{v:Int}{gv mv nv:Nat}{s:List V}(h:Keep32v P v gv mv nv s):Keep32v P v gv mv nv (s.map (qbf 21)):=by
 refine⟨h.keep.scrub,?_,?_,?_⟩
 .rw[qbn,h.t9];simp
 .rw[qbn,h.t10];simp
 .rw[qbn,h.t11];simp
theorem Keep32v.next{P:List (Int×Int)}{v:Int}{gv mv nv:Nat}{s:List V}(h:Keep32v P v gv mv nv s)(x y:V)(hx:x ≠ .nils)(hy:y ≠ .nils)(v':Int):Keep32v P v' gv mv nv (qet (qet (qet s 81 x) 82 y) 11 (num v')):=by have hk:=((h.keep.set 81 x hx (by decide)).set 82 y hy (by decide)).set 11 (num v') (by simp) (by decide);have hl:=h.keep.len;exact⟨hk,by simp[h.t9],by simp[h.t10],by simp[hl]⟩
def R32(c:Ct)(A:Nat)(k i v:Int)(d:Fs)(st:St):Prop:=∃gs m gv mv,st.h=h32 c k i (b32 c gs m d.d.signals.length) ⟨0,.arr 1 (d.d.plus.map qbk)⟩ ⟨0,.arr 1 (d.d.minus.map qbk)⟩ ⟨gs,.arr m (d.d.signals.map Sg.row)⟩ (zbz gv mv d.w)/\(m=10\/m=0)/\(mv=1\/mv=0)/\Keep32v (qgs c k i A) v gv mv d.w.length st.s
theorem zxr{c:Ct}{k i:Int}(gs m n:Nat)(W:List (List V))(ps ms:List Int)(gv mv:Nat)(w:List Bool):qgk 21 (h32 c k i (b32 c gs m n) ⟨0,.arr 1 (ps.map qbk)⟩ ⟨0,.arr 1 (ms.map qbk)⟩ ⟨gs,.arr m W⟩ (zbz gv mv w))=h32 c k i (b32 c gs m n) ⟨0,.arr 1 (ps.map qbk)⟩ ⟨0,.arr 1 (ms.map qbk)⟩ ⟨gs,.arr m W⟩ (zbz gv mv w):=by simp
set_option maxHeartbeats 4000000 in
theorem zkc{c:Ct}{A:Nat}(hM:Mid c A)(hcp:c.plus.length=A)(hcm:c.minus.length=A)(k i:Int)(v:Int)(hv:v=0\/v=1)(d:Fs)(hda:d.d.act=c.act)(hdi:d.d.inputs=c.inputs)(hp:d.d.plus.length=A)(hm:d.d.minus.length=A)(hW:d.d.signals.length<=127)(hK:qaw d.d A (qad d.d A)=d.K)(hw:d.w.length<=4096)(st:St)(h0:R32 c A k i v d st):∃r,ev pg (.code L74_2 st)=some r/\r.x=.normal/\R32 c A k i (v+1) (qbg c k i A v d) (qvg 21 r.st):=by
 obtain⟨gs,m,gv,mv,hh,hm2,hmv,hk⟩:=h0;have hMd:Mid d.d A:=⟨by rw[hda];exact hM.act,hM.lo,hM.hi,by rw[hdi];exact hM.inp,by omega⟩
 have h67:=ev116 hMd;have hMd':Mid ⟨c.act,c.inputs,d.d.signals,qcv (qtr c k i v) (qad d.d A:Nat) A d.d.plus,qcv (qtq c k i v) (qad d.d A:Nat) A d.d.minus⟩ A:=⟨hM.act,hM.lo,hM.hi,hM.inp,by simp only;omega⟩
 have h69:=ev118 hMd' d.K (by rw[<-hK];exact qqb A hdi.symm rfl) (qbu v) (by have e:(qbu v).length=6:=rfl;omega);have hV1:=z6f hM.hi hcp hcm k i v hv (qad d.d A:Nat) d.d.plus d.d.minus hp hm gs m d.d.signals hm2 (by omega) gv mv hmv d.w hw (qfv d.K (qbu v)) h69;clear h69;obtain⟨s,h⟩:=st;simp only at hh hk;subst hh;have hl:=hk.keep.len;have e6:=hk.keep.t6;have e11:=hk.t11;have i1:=qam (n:=1) (by omega) (by omega);have i2:=qam (n:=2) (by omega) (by omega);obtain⟨⟨act,inputs,signals,plus,minus⟩,K,w⟩:=d;simp only at hda hdi hp hm hW hK hw hMd h67 hV1 hk;subst hda hdi;have h67':ev pg (.call (fnq 116) [.agg [num c.act,.imm (c.inputs.map qpq),.imm (signals.map Sg.row),qcr plus,qcr minus]] [])=_:=h67;have main:∀s2,Keep32v (qgs c k i A) v gv mv w.length s2->qah s2 12=.bool false->qah s2 13=num (qad (⟨c.act,c.inputs,signals,plus,minus⟩:Ct) A:Nat)->∃r,ev pg (.code V1 ⟨s2,h32 c k i (b32 c gs m signals.length) ⟨0,.arr 1 (plus.map qbk)⟩ ⟨0,.arr 1 (minus.map qbk)⟩ ⟨gs,.arr m (signals.map Sg.row)⟩ (zbz gv mv w)⟩)=some r/\r.x=.normal/\qah r.st.s 11=num v/\r.st.s.length=138/\R32 c A k i (v+1) (qbg c k i A v ⟨⟨c.act,c.inputs,signals,plus,minus⟩,K,w⟩) ⟨(qet (qet (qet r.st.s 81 (num v)) 82 (num (v+1))) 11 (num (v+1))).map (qbf 21),qgk 21 r.st.h⟩:=by
  intro s2 g1 g2 g3;obtain⟨r,hr,hx,hQ⟩:=hV1 ⟨s2,_⟩ ⟨rfl,g1,g2,g3⟩;refine⟨r,hr,hx,?_⟩;cases hB:qhd c k i v A with
  | true =>
   rw[hB,if_pos rfl]at hQ;obtain⟨hh2,hk2⟩:=hQ;refine⟨hk2.t11,hk2.keep.len,gs+1,10,gv+1,1,?_,.inl rfl,.inl rfl,?_⟩
   .rw[hh2,zxr,qnu hB];simp
   .rw[qnu hB];simp only[jF,List.length_singleton];exact(hk2.next _ _ (by simp) (by simp) _).scrub
  | false =>
   rw[hB,if_neg (by decide)]at hQ;obtain⟨hh2,hk2⟩:=hQ;refine⟨hk2.t11,hk2.keep.len,gs,m,gv,mv,?_,hm2,hmv,?_⟩
   .rw[hh2,zxr,qse hB]
   .rw[qse hB];exact(hk2.next _ _ (by simp) (by simp) _).scrub
 clear hV1;generalize qad (⟨c.act,c.inputs,signals,plus,minus⟩:Ct) A=N at *;rw[L74_2_eq];rcases hv with rfl | rfl
 all_goals
  simp[-qgk,hl,e6,e11,hp,hm,hcp,hcm,h67'];generalize hq:ev pg (.code V1 _)=o;obtain⟨r,rfl,hx,g11,hl2,hR⟩:∃r,o=some r/\_:=by
   rw[<-hq];refine main _ ((((((hk.set 79 _ (by simp) (by decide) (by decide)).set 80 _ (by simp) (by decide) (by decide)).set 12 _ (by simp) (by decide) (by decide)).set 83 _ (by simp) (by decide) (by decide)).set 84 _ (by simp) (by decide) (by decide)).set 13 _ (by simp) (by decide) (by decide)) ?_ ?_
   .simp[hl]
   .simp[hl]
  simp[-qgk,hx,g11,hl2,i1,i2];simpa using hR
theorem zyn{c:Ct}{A:Nat}{k i:Int}{d:Fs}{st:St}(h:R32 c A k i 2 d st):∃r,ev pg (.code L74_2 st)=some r/\r.x=.exit 2/\R32 c A k i 2 d r.st:=by obtain⟨gs,m,gv,mv,hh,hm2,hmv,hk⟩:=h;have e11:=hk.t11;have hl:=hk.keep.len;refine⟨⟨.exit 2,.undef,⟨qet (qet st.s 79 (num 2)) 80 (.bool false),st.h⟩⟩,?_,rfl,gs,m,gv,mv,hh,hm2,hmv,(hk.set 79 _ (by simp) (by decide) (by decide)).set 80 _ (by simp) (by decide) (by decide)⟩;rw[L74_2_eq];simp[e11,hl]
theorem zsv{c:Ct}{A:Nat}(hM:Mid c A)(hcp:c.plus.length=A)(hcm:c.minus.length=A)(k i:Int)(h64:c.signals.length<=64)(st:St)(h0:R32 c A k i 0 (qbl c k i A) st):∃r,ev pg (.code (.going 21 L74_2) st)=some r/\r.x=.exit 2/\R32 c A k i 2 (qbg c k i A 1 (qbg c k i A 0 (qbl c k i A))) r.st:=by
 obtain⟨l1,l2⟩:=qtu c k i A;obtain⟨m1,m2,m3⟩:=qys c k i A 0 (qbl c k i A);have hw:(qbg c k i A 0 (qbl c k i A)).w.length<=1:=by unfold qbg qbl;simp only;split<;>simp
 have hn0:=q8k c k i A;have hn1:=zdw (c:=c) (k:=k) (i:=i) (v:=0) hn0;obtain⟨r1,e1,x1,R1⟩:=zkc hM hcp hcm k i 0 (.inl rfl) (qbl c k i A) rfl rfl hcp hcm (by omega) hn0 (Nat.zero_le _) st h0;obtain⟨r2,e2,x2,R2⟩:=zkc hM hcp hcm k i 1 (.inr rfl) (qbg c k i A 0 (qbl c k i A)) rfl rfl (by unfold qbg;simp only[qdr];exact hcp) (by unfold qbg;simp only[qdr];exact hcm) (by omega) hn1 (by omega) _ R1;obtain⟨r3,e3,x3,R3⟩:=zyn R2;refine⟨r3,?_,x3,R3⟩;rw[qdy,e1];simp only[x1];rw[qdy,e2];simp only[x2];rw[qdy,e3];simp only[x3]
def W3:C:=.seq (.reg [⟨some 136,none,.load true 5 (.t 6)⟩,
  ⟨some 137,none,.mv (.t 9)⟩,
  ⟨none,none,.store 5 (.t 4) (.t 136)⟩,
  ⟨some 5,none,.mv (.t 137)⟩])
 (.ret)
def W2:C:=.seq (.seq (.reg [⟨some 11,none,.mv (.c (.int .i64 0))⟩])
 (.block 2 (.loop L74_2))) W3
def W1:C:=.seq (.reg [⟨some 9,none,.mv (.c (.nils))⟩])
 (.seq (.reg [⟨some 76,none,.load true 5 (.t 2)⟩,
  ⟨some 77,none,.load true 2 (.t 3)⟩,
  ⟨some 78,none,.call (.c (fnq 117)) [.t 76,.t 77]⟩,
  ⟨some 10,none,.mv (.t 78)⟩]) W2)
theorem ir74_eq:ir74=.mk 138 [.cell 4 true 5,.t 5] (
 .seq (.reg [⟨some 2,none,.box (.t 0)⟩,
  ⟨some 3,none,.box (.t 1)⟩,
  ⟨some 4,none,.alloc [.int .i64 0,.nils,.nils,.nils,.nils]⟩,
  ⟨some 5,none,.mv (.c (.nils))⟩])
 (.seq (.draw [⟨some 6,none,.alloc [.int .i64 0,.nils,.nils,.nils,.nils]⟩,
  ⟨some 15,none,.faddr 0 (.t 2)⟩,
  ⟨some 16,none,.load false 1 (.t 15)⟩,
  ⟨some 17,none,.bslice false 1 [.str []] 0 []⟩,
  ⟨some 18,none,.faddr 1 (.t 2)⟩,
  ⟨some 19,none,.load false 1 (.t 18)⟩,
  ⟨some 20,none,.app 1 16 (.t 17) (.t 19)⟩,
  ⟨some 21,none,.bslice false 1 [.int .i64 0] 0 []⟩,
  ⟨some 22,none,.faddr 3 (.t 2)⟩,
  ⟨some 23,none,.load false 1 (.t 22)⟩,
  ⟨some 24,none,.app 1 8 (.t 21) (.t 23)⟩,
  ⟨some 25,none,.bslice false 1 [.int .i64 0] 0 []⟩,
  ⟨some 26,none,.faddr 4 (.t 2)⟩,
  ⟨some 27,none,.load false 1 (.t 26)⟩,
  ⟨some 28,none,.app 1 8 (.t 25) (.t 27)⟩,
  ⟨some 29,none,.build [.int .i64 0,.nils,.nils,.nils,.nils] [(0,1,(.t 16)),(1,1,(.t 20)),(3,1,(.t 24)),(4,1,(.t 28))]⟩,
  ⟨none,none,.store 5 (.t 6) (.t 29)⟩] [(2,6),(2,10),(2,14),(9,6),(13,6),(13,10)])
 (.seq (.seq (.reg [⟨some 7,none,.mv (.c (.int .i64 0))⟩])
 (.block 0 (.loop L74_0))) W1))) false false:=rfl
def zqu(c:Ct)(k i:Int)(D:Fs)(r:Am.R):Prop:=r.x=.ret/\∃gs ms gv mv,r.st.h=(h32 c k i (b32 c gs ms D.d.signals.length) ⟨0,.arr 1 (D.d.plus.map qbk)⟩ ⟨0,.arr 1 (D.d.minus.map qbk)⟩ ⟨gs,.arr ms (D.d.signals.map Sg.row)⟩ (zbz gv mv D.w)).set 6 ⟨0,.box (b32 c gs ms D.d.signals.length)⟩/\qah r.st.s 4=.bptr 6 0/\qah r.st.s 5=.sl 20 gv mv 0 D.w.length
theorem qxl{s:List V}{j:Nat}{x:V}(h:∀i,i≠9->qah s i ≠ .nils)(hx:x ≠ .nils):∀i,i≠9->qah (qet s j x) i ≠ .nils:=by
 intro i hi;by_cases e:j=i
 .subst e;by_cases hl:j<s.length
  .rw[qin hl];exact hx
  .rw[qjs (by rw[qjc];omega)];simp
 .rw[qaf e];exact h i hi
theorem z6i{c:Ct}{A:Nat}(hM:Mid c A)(hcp:c.plus.length=A)(hcm:c.minus.length=A)(k i:Int)(hk6:0<=k/\k<6)(h64:c.signals.length<=64)(r:Am.R)(h0:z0v c k i (qkg k i) (qcu k) r):∃r',ev pg (.code W1 r.st)=some r'/\zqu c k i (qbg c k i A 1 (qbg c k i A 0 (qbl c k i A))) r':=by
 obtain⟨_,g,m,hh,hm,hk⟩:=h0;have hgo:=zsv hM hcp hcm k i h64;have h68:=ev117 hM hcp hcm k i hk6;obtain⟨x0,v0,s,h⟩:=r;simp only at hh hk;subst hh;have hl:=hk.len;have hnn:=hk.nn;have k2:=hk.t2;have k3:=hk.t3;unfold zqu;generalize qbg c k i A 1 (qbg c k i A 0 (qbl c k i A))=D at *;simp[W1,W2,qai,hl,k2,k3,h68];generalize hs2:qet (qet (qet (qet (qet (qet s 9 .nils) 76 _) 77 _) 78 _) 10 _) 11 _=s2;have g9:qah s2 9=.nils:=by rw[<-hs2];simp[hl]
 have gn:∀i,i≠9->qah s2 i ≠ .nils:=by rw[<-hs2];refine qxl (qxl (qxl (qxl (qxl (fun i hi=>?_) (by simp)) (by simp)) (by simp)) (by simp)) (by simp);rw[qaf (Ne.symm hi)];exact qap hnn i
 have hl2:s2.length=138:=by rw[<-hs2];simp[hl]
 have f:∀j,j∉[9,76,77,78,10,11]->qah s2 j=qah s j:=fun j hj=>by simp only[List.mem_cons,List.not_mem_nil,or_false,not_or]at hj;obtain⟨h1,h2,h3,h4,h5,h6⟩:=hj;rw[<-hs2,qaf (Ne.symm h6),qaf (Ne.symm h5),qaf (Ne.symm h4),qaf (Ne.symm h3),qaf (Ne.symm h2),qaf (Ne.symm h1)]
 have g10:qah s2 10=qjp (qgs c k i A):=by rw[<-hs2];simp[hl]
 have g11:qah s2 11=num 0:=by rw[<-hs2];simp[hl]
 clear hs2;rw[qsl _ g9 gn];simp;generalize hr:ev pg (.code (.going 21 L74_2) _)=o;obtain⟨r,rfl,hx,hR⟩:∃r,o=some r/\_:=by
  rw[<-hr];refine hgo _ ⟨g,m,0,0,?_,hm,.inr rfl,⟨qvn fun i=>?_,by simp[hl2],?_,?_,?_,?_,?_⟩,?_,?_,?_⟩
  .simp[qbl]
  .by_cases hi:i=9
   .subst hi;rw[qin (by omega)];simp
   .rw[qaf (Ne.symm hi)];exact gn i hi
  .rw[qaf (by decide),f _ (by decide)];exact hk.t2
  .rw[qaf (by decide),f _ (by decide)];exact hk.t3
  .rw[qaf (by decide),f _ (by decide)];exact hk.t4
  .rw[qaf (by decide),f _ (by decide)];exact hk.t5
  .rw[qaf (by decide),f _ (by decide)];exact hk.t6
  .rw[qin (by omega)];rfl
  .rw[qaf (by decide)];exact g10
  .rw[qaf (by decide)];exact g11
 obtain⟨gs,m,gv,mv,hh,hm2,hmv,hk⟩:=hR;obtain⟨x,v,s4,h4⟩:=r;simp only at hx hh hk;subst hx hh;have k4:=hk.keep.t4;have k6:=hk.keep.t6;have k9:=hk.t9;have kl:=hk.keep.len;simp[W3,k4,k6,k9,kl]
set_option maxHeartbeats 800000 in
theorem ev74(c:Ct)(hfew:c.small=true)(k i:Int)(hf:q2c c k i=0):ev pg (.call (fnq 74) [c.v,fv k i] [])=some (rvq (.tup [(qcz c k i).d.v,.imm ((qcz c k i).w.map qfj)])):=by
 obtain⟨f1,f2,f3,f4,f5,f6⟩:=qcd hfew;obtain⟨hc,hk,hi0,hiN,hiA⟩:=qkp hf;have hR:=qiz hc hfew;have h64:c.signals.length<=64:=by
  unfold Ct.check at hc;split at hc
  .cases hc
  .split at hc
   .cases hc
   .omega
 have hT:=z6i hR.mid hR.plus hR.minus k i hk h64;have hL:=ztv hc hfew hf;have b1:c.inputs.length*16<=140737488355328:=by omega
 have b2:c.plus.length*8<=140737488355328:=by omega
 have b3:c.minus.length*8<=140737488355328:=by omega
 have hI:∀st:St,(st.h=h32 c k i (b32 c 0 0 0) ⟨0,.arr 1 (c.plus.map qbk)⟩ ⟨0,.arr 1 (c.minus.map qbk)⟩ ⟨0,.arr 0 []⟩ []/\Keep32 st.s/\qah st.s 7=num 0)->z0m c k i (qkg k i) (qcu k) 0 st:=fun st h=>⟨0,0,h.1,.inr rfl,h.2.1,h.2.2⟩
 have hcp:=hR.plus;have hcm:=hR.minus;unfold qcz;generalize c.act.toNat=A at *;unfold zqu at hT;have hact:(qbg c k i A 1 (qbg c k i A 0 (qbl c k i A))).d.act=c.act:=rfl;have hinp:(qbg c k i A 1 (qbg c k i A 0 (qbl c k i A))).d.inputs=c.inputs:=rfl;have hpl:(qbg c k i A 1 (qbg c k i A 0 (qbl c k i A))).d.plus.length=A:=by unfold qbg;simp only[qdr];exact hcp
 have hml:(qbg c k i A 1 (qbg c k i A 0 (qbl c k i A))).d.minus.length=A:=by unfold qbg;simp only[qdr];exact hcm
 generalize qbg c k i A 1 (qbg c k i A 0 (qbl c k i A))=D at *;rw[qaa,pg74.1,ir74_eq];simp[qab,exT,qag,b1,b2,b3,qai];generalize hr:ev pg (.code (.going 20 L74_0) _)=o;obtain⟨r,rfl,hQ⟩:∃r,o=some r/\_:=by rw[<-hr];exact hL _ (hI _ ⟨by simp,⟨by simp[qaq],rfl,rfl,rfl,rfl,rfl,rfl⟩,rfl⟩)
 obtain⟨r',hr',hx,gs,ms,gv,mv,hh,e4,e5⟩:=hT r hQ;simp[hQ.1,hr',hx,hh,e4,e5,hpl,hml,hcp,hcm,hact,hinp]
theorem ev42(c:Ct)(hfew:c.small=true)(k i:Int):ev pg (.call (fnq 42) [c.v,fv k i] [])=some (rvq (.tup [(q8f c k i).v,num (qwz c k i)])):=by
 have h31:=ev73 c hfew k i;rw[qaa,pg42.1];unfold q8f;by_cases he:q2c c k i=0
 .have h32:=ev74 c hfew k i he;have h33:=ev61 (qcz c k i).d (qmv hfew (qkp he).1 k i);by_cases hd:(qcz c k i).d.check=0
  .have e:qwz c k i=0:=by unfold qwz;rw[if_pos he,if_pos hd]
   rw[e,if_pos rfl];rw[he]at h31;rw[hd]at h33;generalize (qcz c k i).d=D at *;generalize (qcz c k i).w=w at *;simp[ir42,h31,h32,h33]
  .have e:qwz c k i=12:=by unfold qwz;rw[if_pos he,if_neg hd]
   rw[e,if_neg (by omega)];rw[he]at h31;generalize (qcz c k i).d=D at *;generalize (qcz c k i).w=w at *;generalize D.check=e' at *;simp[ir42,h31,h32,h33,hd,q9e]
 .have e:qwz c k i=q2c c k i:=by unfold qwz;rw[if_neg he]
  rw[e,if_neg he];generalize q2c c k i=e' at *;simp[ir42,h31,he,q9e]
end Go.Proofs.YtggbaapfbgjaeaaGreatDoor
