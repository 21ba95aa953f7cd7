/- The faulty. -/
import Derived.Test.YtggbaapfbgjaeaaGreatDoorFFy3
set_option linter.all false
namespace Go.Proofs.YtggbaapfbgjaeaaGreatDoor
open Go Go.Am Go.Proofs
set_option maxRecDepth 100000
def U4:C:=.seq (.reg [⟨some 136,none,.mv (.t 9)⟩,
   ⟨some 137,none,.mv (.t 17)⟩,
   ⟨some 138,none,.bslice false 1 [.str []] 1 [(0,(.t 137))]⟩,
   ⟨some 139,none,.app 1 16 (.t 136) (.t 138)⟩,
   ⟨some 9,none,.mv (.t 139)⟩])
  (.seq (.reg [⟨some 140,none,.faddr 2 (.t 8)⟩,
   ⟨some 141,none,.load false 1 (.t 140)⟩,
   ⟨some 142,none,.mv (.t 17)⟩,
   ⟨some 143,none,.mv (.t 16)⟩,
   ⟨some 144,none,.build [.int .i64 0,.int .i64 0,.nils] [(0,1,(.c (.int .i64 0))),(1,1,(.t 143))]⟩,
   ⟨some 145,none,.build [.str [],.int .i64 0,.int .i64 0,.int .i64 0,.nils,.int .i64 0,.int .i64 0,.nils,.int .i64 0,.bool false] [(0,1,(.t 142)),(2,3,(.t 144))]⟩,
   ⟨some 146,none,.bslice true 10 [.str [],.int .i64 0,.int .i64 0,.int .i64 0,.imm [],.int .i64 0,.int .i64 0,.imm [],.int .i64 0,.bool false] 1 [(0,(.t 145))]⟩,
   ⟨some 147,none,.app 10 120 (.t 141) (.t 146)⟩,
   ⟨some 148,none,.faddr 2 (.t 8)⟩,
   ⟨none,none,.store 1 (.t 148) (.t 147)⟩])
  (.reg [⟨some 149,none,.mv (.t 15)⟩,
   ⟨some 150,none,.mv (.t 16)⟩,
   ⟨some 151,none,.bin false .eql (.t 150) (.c (.int .i64 1))⟩,
   ⟨some 152,none,.bslice false 1 [.bool false] 1 [(0,(.t 151))]⟩,
   ⟨some 153,none,.app 1 1 (.t 149) (.t 152)⟩,
   ⟨some 15,none,.mv (.t 153)⟩]))
def U2:C:=.seq (.seq (.reg [⟨some 129,none,.mv (.t 18)⟩,
   ⟨some 130,none,.un .not (.t 129)⟩])
  (.cond (.t 130) (.exit 5)
   (.skip)))
  (.seq (.block 8 (.loop L130_3)) U4)
def U1:C:=.seq (.seq (.reg [⟨some 101,none,.load true 5 (.t 2)⟩,
   ⟨some 102,none,.load true 2 (.t 3)⟩,
   ⟨some 103,none,.call (.c (fnq 174)) [.t 101,.t 102]⟩,
   ⟨some 104,none,.len false (.t 103)⟩,
   ⟨some 105,none,.mv (.c (.int .i64 0))⟩])
  (.block 6 (.loop L130_2))) U2
theorem L130_4_eq:L130_4=.seq (.reg [⟨some 95,none,.bin false .lss (.t 94) (.t 93)⟩])
 (.seq (.cond (.t 95) (.skip)
  (.exit 4))
 (.seq (.block 5 (.seq (.reg [⟨some 96,none,.mv (.t 94)⟩,
   ⟨some 97,none,.iaddrL 1 (.t 92) (.t 94)⟩,
   ⟨some 98,none,.load false 1 (.t 97)⟩,
   ⟨some 16,none,.mv (.t 96)⟩,
   ⟨some 17,none,.mv (.t 98)⟩])
  (.seq (.reg [⟨some 18,none,.mv (.c (.bool false))⟩])
  (.seq (.reg [⟨some 99,none,.load true 5 (.t 8)⟩,
   ⟨some 100,none,.call (.c (fnq 171)) [.t 99]⟩,
   ⟨some 19,none,.mv (.t 100)⟩]) U1))))
 (.reg [⟨some 154,none,.bin false .add (.t 94) (.c (.int .i64 1))⟩,
  ⟨some 94,none,.mv (.t 154)⟩]))):=rfl
set_option maxHeartbeats 4000000 in
theorem z6e{c:Ct}(k i:Int)(cells:List V)(li v:Int)(P M:Ob)(gs ms:Nat)(W:List (List V))(hms:ms=10\/ms=0)(hW:W.length<=4096)(gk mk:Nat)(hmk:mk=1\/mk=0)(K:List Txt)(hK:K.length<=4096)(gv mv:Nat)(hmv:mv=1\/mv=0)(w:List Bool)(hw:w.length<=4096)(T:Txt)(st:St)(h0:st.h=h83 c k i cells (b83 c gs ms W.length) P M ⟨gs,.arr ms W⟩ (q6v gk mk K gv mv w)/\Keep83w li v gk mk K.length gv mv w.length st.s/\qah st.s 17=.str T):∃r,ev pg (.code U4 st)=some r/\r.x=.normal/\r.st.h=h83 c k i cells (b83 c (gs+1) 10 (W.length+1)) P M ⟨gs+1,.arr 10 (W++[(qwu T v).row])⟩ (q6v (gk+1) 1 (K++[T]) (gv+1) 1 (w++[v==1]))/\Keep83v li v (gk+1) 1 (K.length+1) (gv+1) 1 (w.length+1) r.st.s:=by
 obtain⟨s,hh⟩:=st;obtain⟨rfl,⟨⟨⟨hnn,hl,e2,e3,e4,e5,e6,e7,e8⟩,e9,e15,e92,e93,e94⟩,e16⟩,e17⟩:=h0;simp only at hl e2 e3 e4 e5 e6 e7 e8 e9 e15 e92 e93 e94 e16 e17;have hnl:∀j,qah s j ≠ .nils:=qap hnn;have b1:(K.length+1)*16<=140737488355328:=by omega
 have b2:(W.length+1)*120<=140737488355328:=by omega
 have b3:w.length+1<=140737488355328:=by omega
 rw[qac hl];rcases hms with rfl | rfl<;>rcases hmk with rfl | rfl<;>rcases hmv with rfl | rfl
 all_goals
  simp[U4,List.range,List.range.loop,e2,e3,e4,e5,e6,e7,e8,e9,e15,e92,e93,e94,e16,e17,b1,b2,b3];exact⟨⟨rfl,rfl,rfl,rfl,rfl,rfl⟩,⟨by simp[qaq,hnl],rfl,rfl,rfl,rfl,rfl,rfl,rfl,rfl⟩,rfl,rfl,rfl,rfl,rfl⟩
theorem Keep83.set{li:Int}{s:List V}(h:Keep83 li s)(j:Nat)(x:V)(hx:x ≠ .nils)(hj:j∉[2,3,4,5,6,7,8]):Keep83 li (qet s j x):=by simp only[List.mem_cons,List.not_mem_nil,or_false,not_or]at hj;obtain⟨h2,h3,h4,h5,h6,h7,h8⟩:=hj;exact⟨qei h.nn hx,by rw[qjc,h.len],by rw[qaf h2,h.t2],by rw[qaf h3,h.t3],by rw[qaf h4,h.t4],by rw[qaf h5,h.t5],by rw[qaf h6,h.t6],by rw[qaf h7,h.t7],by rw[qaf h8,h.t8]⟩
theorem Keep83v.set{li v:Int}{gk mk nk gv mv nv:Nat}{s:List V}(h:Keep83v li v gk mk nk gv mv nv s)(j:Nat)(x:V)(hx:x ≠ .nils)(hj:j∉[2,3,4,5,6,7,8])(hj2:j∉[9,15,92,93,94]):Keep83v li v gk mk nk gv mv nv (qet s j x):=by simp only[List.mem_cons,List.not_mem_nil,or_false,not_or]at hj2;obtain⟨h9,h15,h92,h93,h94⟩:=hj2;exact⟨h.keep.set j x hx hj,by rw[qaf h9,h.t9],by rw[qaf h15,h.t15],by rw[qaf h92,h.t92],by rw[qaf h93,h.t93],by rw[qaf h94,h.t94]⟩
theorem Keep83w.set{li v:Int}{gk mk nk gv mv nv:Nat}{s:List V}(h:Keep83w li v gk mk nk gv mv nv s)(j:Nat)(x:V)(hx:x ≠ .nils)(hj:j∉[2,3,4,5,6,7,8])(hj2:j∉[9,15,92,93,94])(hj3:j≠16):Keep83w li v gk mk nk gv mv nv (qet s j x) :=
 ⟨h.keep.set j x hx hj hj2,by rw[qaf hj3,h.t16]⟩
set_option maxHeartbeats 4000000 in
theorem z6d{c:Ct}(k i:Int)(cells:List V)(li v v0:Int)(hcs:qik v0 cells)(ps ms:List Int)(gs m:Nat)(W:List (List V))(hms:m=10\/m=0)(hW:W.length<=4096)(gk mk:Nat)(hmk:mk=1\/mk=0)(K:List Txt)(hK:K.length<=4096)(gv mv:Nat)(hmv:mv=1\/mv=0)(w:List Bool)(hw:w.length<=4096)(B:Bool)(st:St)(h0:st.h=h83 c k i cells (b83 c gs m W.length) ⟨0,.arr 1 (ps.map qbk)⟩ ⟨0,.arr 1 (ms.map qbk)⟩ ⟨gs,.arr m W⟩ (q6v gk mk K gv mv w)/\Keep83w li v gk mk K.length gv mv w.length st.s/\qah st.s 17=.str (qbu v)/\qah st.s 18=.bool B):∃r,ev pg (.code U2 st)=some r/\(if B=true then r.x=.normal/\r.st.h=h83 c k i cells (b83 c (gs+1) 10 (W.length+1)) ⟨0,.arr 1 (ps.map qbk)⟩ ⟨0,.arr 1 (ms.map qbk)⟩ ⟨gs+1,.arr 10 (W++[(qwu (qfv K (qbu v)) v).row])⟩ (q6v (gk+1) 1 (K++[qfv K (qbu v)]) (gv+1) 1 (w++[v==1]))/\Keep83v li v (gk+1) 1 (K.length+1) (gv+1) 1 (w.length+1) r.st.s else r.x=.exit 5/\r.st.h=st.h/\Keep83v li v gk mk K.length gv mv w.length r.st.s):=by
 have hloop:=zuf (c:=c) k i cells li v v0 hcs gs m W.length W ps ms gk mk K hK gv mv w;have hU4:=z6e (c:=c) k i cells li v ⟨0,.arr 1 (ps.map qbk)⟩ ⟨0,.arr 1 (ms.map qbk)⟩ gs m W hms hW gk mk hmk K hK gv mv hmv w hw (qfv K (qbu v));obtain⟨s,hh⟩:=st;obtain⟨rfl,hk,e17,e18⟩:=h0;simp only at hk e17 e18;have hl:=hk.keep.keep.len;have hnn:=hk.keep.keep.nn;unfold z0z at hloop;generalize qfv K (qbu v)=T at *;cases B with
 | false =>simp[U2,hl,e18];exact(hk.keep.set 129 _ (by simp) (by decide) (by decide)).set 130 _ (by simp) (by decide) (by decide)
 | true =>
  have hk2:=(hk.set 129 (.bool true) (by simp) (by decide) (by decide) (by decide)).set 130 (.bool false) (by simp) (by decide) (by decide) (by decide);have hl2:=hk2.keep.keep.len;have hn2:=hk2.keep.keep.nn;have g17:qah (qet (qet s 129 (.bool true)) 130 (.bool false)) 17=.str (qbu v):=by simp[e17]
  simp (maxDischargeDepth:=9) [U2,qai,hl,e18,qeg,hn2];generalize qet (qet s 129 (.bool true)) 130 (.bool false)=s2 at *;generalize hr:ev pg (.code (.going 29 L130_3) _)=o;obtain⟨r,rfl,hx,hh,hk,h17⟩:∃r,o=some r/\_:=by rw[<-hr];exact hloop _ ⟨rfl,hk2,by rw[g17];simp⟩
  obtain⟨r4,h4,hx4,hh4,hk4⟩:=hU4 r.st ⟨hh,hk,h17⟩;simp[hx,h4];exact⟨hx4,hh4,hk4⟩
set_option maxHeartbeats 4000000 in
theorem z6c{c:Ct}{A:Nat}(hM:Mid c A)(hcp:c.plus.length=A)(hcm:c.minus.length=A)(k i:Int)(hk6:0<=k/\k<6)(cells:List V)(li v v0:Int)(hcs:qik v0 cells)(next:Int)(ps ms:List Int)(hp:ps.length=A)(hm:ms.length=A)(gs m:Nat)(W:List (List V))(hms:m=10\/m=0)(hW:W.length<=4096)(gk mk:Nat)(hmk:mk=1\/mk=0)(K:List Txt)(hK:K.length<=4096)(gv mv:Nat)(hmv:mv=1\/mv=0)(w:List Bool)(hw:w.length<=4096)(st:St)(h0:st.h=h83 c k i cells (b83 c gs m W.length) ⟨0,.arr 1 (ps.map qbk)⟩ ⟨0,.arr 1 (ms.map qbk)⟩ ⟨gs,.arr m W⟩ (q6v gk mk K gv mv w)/\Keep83w li v gk mk K.length gv mv w.length st.s/\qah st.s 17=.str (qbu v)/\qah st.s 18=.bool false/\qah st.s 19=num next):∃r,ev pg (.code U1 st)=some r/\(if qhd c k i v A=true then r.x=.normal/\r.st.h=h83 c k i cells (b83 c (gs+1) 10 (W.length+1)) ⟨0,.arr 1 ((qcv (qtr c k i v) next A ps).map qbk)⟩ ⟨0,.arr 1 ((qcv (qtq c k i v) next A ms).map qbk)⟩ ⟨gs+1,.arr 10 (W++[(qwu (qfv K (qbu v)) v).row])⟩ (q6v (gk+1) 1 (K++[qfv K (qbu v)]) (gv+1) 1 (w++[v==1]))/\Keep83v li v (gk+1) 1 (K.length+1) (gv+1) 1 (w.length+1) r.st.s else r.x=.exit 5/\r.st.h=h83 c k i cells (b83 c gs m W.length) ⟨0,.arr 1 ((qcv (qtr c k i v) next A ps).map qbk)⟩ ⟨0,.arr 1 ((qcv (qtq c k i v) next A ms).map qbk)⟩ ⟨gs,.arr m W⟩ (q6v gk mk K gv mv w)/\Keep83v li v gk mk K.length gv mv w.length r.st.s):=by
 have hloop:=zue (c:=c) hM.hi k i cells li v v0 hcs next gs m W.length W gk mk K gv mv w ps ms hp hm hcp hcm
 have hU2:=z6d (c:=c) k i cells li v v0 hcs (qcv (qtr c k i v) next A ps) (qcv (qtq c k i v) next A ms) gs m W hms hW gk mk hmk K hK gv mv hmv w hw (qhd c k i v A);have h72:=ev174 hM hcp hcm k i hk6;have hpl:=qou c k i A;have hI:∀st:St,(st.h=h83 c k i cells (b83 c gs m W.length) ⟨0,.arr 1 (ps.map qbk)⟩ ⟨0,.arr 1 (ms.map qbk)⟩ ⟨gs,.arr m W⟩ (q6v gk mk K gv mv w)/\Keep83w li v gk mk K.length gv mv w.length st.s/\qah st.s 17=.str (qbu v)/\qah st.s 18=.bool false/\qah st.s 19=num next/\qah st.s 103=qjp (qgs c k i A)/\qah st.s 104=num A/\qah st.s 105=num 0)->z0q c k i cells li v A next (b83 c gs m W.length) ⟨gs,.arr m W⟩ gk mk K gv mv w ps ms 0 st:=fun st h=>⟨h.1,h.2.1.keep,h.2.1.t16,h.2.2.1,h.2.2.2.1,h.2.2.2.2.1,h.2.2.2.2.2.1,h.2.2.2.2.2.2.1,h.2.2.2.2.2.2.2⟩
 obtain⟨s,hh⟩:=st;obtain⟨rfl,hk,e17,e18,e19⟩:=h0;simp only at hk e17 e18 e19;have hl:=hk.keep.keep.len;have hnn:=hk.keep.keep.nn;have e2:=hk.keep.keep.t2;have e3:=hk.keep.keep.t3;unfold z0y at hloop;generalize qcv (qtr c k i v) next A ps=PS at *
 generalize qcv (qtq c k i v) next A ms=MS at *
 generalize qhd c k i v A=B at *;generalize qfv K (qbu v)=T at *;generalize qgs c k i A=G at *;simp (maxDischargeDepth:=20) [U1,qai,hl,e2,e3,h72,hpl,qeg,qei,hnn];have hk2:=((((hk.set 101 (.agg [num c.act,.imm (c.inputs.map qpq),.imm (c.signals.map Sg.row),qcr c.plus,qcr c.minus]) (by simp) (by decide) (by decide) (by decide)).set 102 (.agg [num k,num i]) (by simp) (by decide) (by decide) (by decide)).set 103 (qjp G) (by simp) (by decide) (by decide) (by decide)).set 104 (num A) (by simp) (by decide) (by decide) (by decide)).set 105 (num 0) (by simp) (by decide) (by decide) (by decide);generalize hr:ev pg (.code (.going 29 L130_2) _)=o;obtain⟨r,rfl,hx,hh,hkv,g16,g17,g18,g19⟩:∃r,o=some r/\_:=by rw[<-hr];exact hloop _ (hI _ ⟨rfl,hk2,by simp[e17],by simp[e18],by simp[e19],by simp[hl],by simp[hl],by simp[hl]⟩)
 obtain⟨r4,h4,hQ⟩:=hU2 r.st ⟨hh,⟨hkv,g16⟩,g17,g18⟩;rw[hh]at hQ;simp[hx,h4];cases B
 .simpa using hQ
 .simpa using hQ
theorem Keep83.scrub{li:Int}{s:List V}(h:Keep83 li s):Keep83 li (s.map (qbf 29)):=by
 refine⟨qqc h.nn,by rw[List.length_map,h.len],?_,?_,?_,?_,?_,?_,?_⟩
 .rw[qbn,h.t2];simp
 .rw[qbn,h.t3];simp
 .rw[qbn,h.t4];simp
 .rw[qbn,h.t5];simp
 .rw[qbn,h.t6];simp
 .rw[qbn,h.t7];simp
 .rw[qbn,h.t8];simp
theorem Keep83v.scrub{li v:Int}{gk mk nk gv mv nv:Nat}{s:List V}(h:Keep83v li v gk mk nk gv mv nv s):Keep83v li v gk mk nk gv mv nv (s.map (qbf 29)):=by
 refine⟨h.keep.scrub,?_,?_,?_,?_,?_⟩
 .rw[qbn,h.t9];simp
 .rw[qbn,h.t15];simp
 .rw[qbn,h.t92];simp
 .rw[qbn,h.t93];simp
 .rw[qbn,h.t94];simp
theorem Keep83v.next{li v:Int}{gk mk nk gv mv nv:Nat}{s:List V}(h:Keep83v li v gk mk nk gv mv nv s)(x:V)(hx:x ≠ .nils)(v':Int):Keep83v li v' gk mk nk gv mv nv (qet (qet s 154 x) 94 (num v')):=by have hk:=(h.keep.set 154 x hx (by decide)).set 94 (num v') (by simp) (by decide);have hl:=h.keep.len;exact⟨hk,by simp[h.t9],by simp[h.t15],by simp[h.t92],by simp[h.t93],by simp[hl]⟩
theorem qnu{c:Ct}{k i:Int}{A:Nat}{v:Int}{d:Fs}(h:qhd c k i v A=true):qbg c k i A v d=⟨⟨d.d.act,d.d.inputs,d.d.signals++[qwu (qfv d.K (qbu v)) v],qcv (qtr c k i v) (qad d.d A) A d.d.plus,qcv (qtq c k i v) (qad d.d A) A d.d.minus⟩,d.K++[qfv d.K (qbu v)],d.w++[v==1]⟩:=by unfold qbg;rw[if_pos h,if_pos h,if_pos h]
theorem qse{c:Ct}{k i:Int}{A:Nat}{v:Int}{d:Fs}(h:qhd c k i v A=false):qbg c k i A v d=⟨⟨d.d.act,d.d.inputs,d.d.signals,qcv (qtr c k i v) (qad d.d A) A d.d.plus,qcv (qtq c k i v) (qad d.d A) A d.d.minus⟩,d.K,d.w⟩:=by unfold qbg;rw[h,if_neg (by decide),if_neg (by decide),if_neg (by decide)]
def R83(c:Ct)(k i:Int)(cells:List V)(li v:Int)(d:Fs)(st:St):Prop:=∃gs m gk mk gv mv,st.h=h83 c k i cells (b83 c gs m (d.d.signals.map Sg.row).length) ⟨0,.arr 1 (d.d.plus.map qbk)⟩ ⟨0,.arr 1 (d.d.minus.map qbk)⟩ ⟨gs,.arr m (d.d.signals.map Sg.row)⟩ (q6v gk mk d.K gv mv d.w)/\(m=10\/m=0)/\(mk=1\/mk=0)/\(mv=1\/mv=0)/\Keep83v li v gk mk d.K.length gv mv d.w.length st.s
theorem zxs{c:Ct}{k i:Int}{cells:List V}{v0:Int}(hcs:qik v0 cells)(gs m n:Nat)(W:List (List V))(ps ms:List Int)(gk mk:Nat)(K:List Txt)(gv mv:Nat)(w:List Bool):qgk 29 (h83 c k i cells (b83 c gs m n) ⟨0,.arr 1 (ps.map qbk)⟩ ⟨0,.arr 1 (ms.map qbk)⟩ ⟨gs,.arr m W⟩ (q6v gk mk K gv mv w))=h83 c k i cells (b83 c gs m n) ⟨0,.arr 1 (ps.map qbk)⟩ ⟨0,.arr 1 (ms.map qbk)⟩ ⟨gs,.arr m W⟩ (q6v gk mk K gv mv w):=by
 have ha2:∀a:Nat,a<17->a<29:=fun a h=>by omega
 rcases hcs with⟨t,rfl⟩ | ⟨t,a,b,ha,hb',rfl⟩
 .simp
 .simp[ha2 a ha,ha2 b hb']
set_option maxHeartbeats 4000000 in
theorem zkd{c:Ct}{A:Nat}(hM:Mid c A)(hcp:c.plus.length=A)(hcm:c.minus.length=A)(k i:Int)(hk6:0<=k/\k<6)(cells:List V)(li v0:Int)(hcs:qik v0 cells)(v:Int)(hv:v=0\/v=1)(d:Fs)(hda:d.d.act=c.act)(hdi:d.d.inputs=c.inputs)(hp:d.d.plus.length=A)(hm:d.d.minus.length=A)(hW:d.d.signals.length<=128)(hK:d.K.length<=4096)(hw:d.w.length<=4096)(st:St)(h0:R83 c k i cells li v d st):∃r,ev pg (.code L130_4 st)=some r/\r.x=.normal/\R83 c k i cells li (v+1) (qbg c k i A v d) (qvg 29 r.st):=by
 obtain⟨gs,m,gk,mk,gv,mv,hh,hm2,hmk,hmv,hk⟩:=h0;have hMd:Mid d.d A:=⟨by rw[hda];exact hM.act,hM.lo,hM.hi,by rw[hdi];exact hM.inp,hW⟩
 have h73:=ev171 hMd;have hU1:=z6c hM hcp hcm k i hk6 cells li v v0 hcs (qad d.d A:Nat) d.d.plus d.d.minus hp hm gs m (d.d.signals.map Sg.row) hm2 (by rw[List.length_map];omega) gk mk hmk d.K hK gv mv hmv d.w hw;obtain⟨s,h⟩:=st;simp only at hh hk;subst hh;have hl:=hk.keep.len;have hnn:=hk.keep.nn;have e8:=hk.keep.t8;have e92:=hk.t92;have e93:=hk.t93;have e94:=hk.t94;obtain⟨⟨act,inputs,signals,plus,minus⟩,K,w⟩:=d;simp only at hda hdi hp hm hW hK hw hMd h73 hU1 hk;subst hda hdi;have h73':ev pg (.call (fnq 171) [.agg [num c.act,.imm (c.inputs.map qpq),.imm (signals.map Sg.row),qcr plus,qcr minus]] [])=_:=h73;rw[L130_4_eq];have i1:=qam (n:=1) (by omega) (by omega);have i2:=qam (n:=2) (by omega) (by omega);have main:∀(s2:List V),Keep83w li v gk mk K.length gv mv w.length s2->qah s2 17=.str (qbu v)->qah s2 18=.bool false->qah s2 19=num (qad (⟨c.act,c.inputs,signals,plus,minus⟩:Ct) A:Nat)->∃r,ev pg (.code U1 ⟨s2,h83 c k i cells (b83 c gs m signals.length) ⟨0,.arr 1 (plus.map qbk)⟩ ⟨0,.arr 1 (minus.map qbk)⟩ ⟨gs,.arr m (signals.map Sg.row)⟩ (q6v gk mk K gv mv w)⟩)=some r/\(r.x=.normal\/r.x=.exit 5)/\qah r.st.s 94=num v/\r.st.s.length=157/\R83 c k i cells li (v+1) (qbg c k i A v ⟨⟨c.act,c.inputs,signals,plus,minus⟩,K,w⟩) ⟨(qet (qet r.st.s 154 (num (v+1))) 94 (num (v+1))).map (qbf 29),qgk 29 r.st.h⟩:=by
  intro s2 g1 g2 g3 g4;obtain⟨r,hr,hQ⟩:=hU1 ⟨s2,_⟩ ⟨by rw[List.length_map],g1,g2,g3,g4⟩;refine⟨r,hr,?_⟩;by_cases hB:qhd c k i v A=true
  .rw[if_pos hB]at hQ;obtain⟨hx,hh2,hk2⟩:=hQ;refine⟨.inl hx,hk2.t94,hk2.keep.len,gs+1,10,gk+1,1,gv+1,1,?_,.inl rfl,.inl rfl,.inl rfl,?_⟩
   .rw[hh2,zxs hcs,qnu hB];simp
   .rw[qnu hB];simp only[jF,List.length_singleton];exact(hk2.next _ (by simp) _).scrub
  .rw[if_neg hB]at hQ;have hB':qhd c k i v A=false:=by simpa using hB
   obtain⟨hx,hh2,hk2⟩:=hQ;refine⟨.inr hx,hk2.t94,hk2.keep.len,gs,m,gk,mk,gv,mv,?_,hm2,hmk,hmv,?_⟩
   .rw[hh2,zxs hcs,qse hB']
   .rw[qse hB'];exact(hk2.next _ (by simp) _).scrub
 clear hU1;generalize qad (⟨c.act,c.inputs,signals,plus,minus⟩:Ct) A=N at *;rcases hv with rfl | rfl
 all_goals
  simp[-qgk,hl,e8,e92,e93,e94,hp,hm,hcp,hcm,h73'];generalize hq:ev pg (.code U1 _)=o;obtain⟨r,rfl,hx,g94,hl2,hR⟩:∃r,o=some r/\_:=by
   rw[<-hq];refine main _ ⟨(((((((((hk.set 95 _ (by simp) (by decide) (by decide)).set 96 _ (by simp) (by decide) (by decide)).set 97 _ (by simp) (by decide) (by decide)).set 98 _ (by simp) (by decide) (by decide)).set 16 _ (by simp) (by decide) (by decide)).set 17 _ (by simp) (by decide) (by decide)).set 18 _ (by simp) (by decide) (by decide)).set 99 _ (by simp) (by decide) (by decide)).set 100 _ (by simp) (by decide) (by decide)).set 19 _ (by simp) (by decide) (by decide),?_⟩ ?_ ?_ ?_
   .simp[hl]
   .simp[hl]
   .simp[hl]
   .simp[hl]
  rcases hx with hx | hx
  .simp[-qgk,hx,g94,hl2,i1,i2];simpa using hR
  .simp[-qgk,hx,g94,hl2,i1,i2];simpa using hR
end Go.Proofs.YtggbaapfbgjaeaaGreatDoor
