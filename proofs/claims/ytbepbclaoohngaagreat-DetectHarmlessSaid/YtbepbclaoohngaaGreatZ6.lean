/- The faulty control, by the reference: rounds. -/
import Derived.Test.YtbepbclaoohngaaGreatZ5
set_option linter.all false
namespace Go.Proofs.YtbepbclaoohngaaGreat
open Go Go.Am Go.Proofs
set_option maxRecDepth 100000
def V4:C:=.seq (.draw [⟨some 116,none,.faddr 2 (.t 6)⟩,
    ⟨some 117,none,.load false 1 (.t 116)⟩,
    ⟨some 118,none,.load true 5 (.t 6)⟩,
    ⟨some 119,none,.bslice false 1 [.str []] 2 [(0,(.c (.str [115,116,117,99,107,48]))),(1,(.c (.str [115,116,117,99,107,49])))]⟩,
    ⟨some 120,none,.mv (.t 11)⟩,
    ⟨some 121,none,.iaddrL 1 (.t 119) (.t 120)⟩,
    ⟨some 122,none,.load false 1 (.t 121)⟩,
    ⟨some 123,none,.call (.c (.fn 188 [] [])) [.t 118,.t 122]⟩,
    ⟨some 124,none,.mv (.t 11)⟩,
    ⟨some 125,none,.bin false .eql (.t 124) (.c (.int .i64 1))⟩,
    ⟨some 126,none,.call (.c (.fn 189 [] [])) [.t 125]⟩,
    ⟨some 127,none,.build [.str [],.int .i64 0,.int .i64 0,.int .i64 0,.nils,.int .i64 0,.int .i64 0,.nils,.int .i64 0,.bool false] [(0,1,(.t 123)),(1,1,(.c (.int .i64 0))),(2,3,(.t 126))]⟩,
    ⟨some 128,none,.bslice true 10 [.str [],.int .i64 0,.int .i64 0,.int .i64 0,.imm [],.int .i64 0,.int .i64 0,.imm [],.int .i64 0,.bool false] 1 [(0,(.t 127))]⟩,
    ⟨some 129,none,.app 10 120 (.t 117) (.t 128)⟩,
    ⟨some 130,none,.faddr 2 (.t 6)⟩,
    ⟨none,none,.store 1 (.t 130) (.t 129)⟩] [(1,7),(1,10),(1,12)])
   (.reg [⟨some 131,none,.mv (.t 9)⟩,
    ⟨some 132,none,.mv (.t 11)⟩,
    ⟨some 133,none,.bin false .eql (.t 132) (.c (.int .i64 1))⟩,
    ⟨some 134,none,.bslice false 1 [.bool false] 1 [(0,(.t 133))]⟩,
    ⟨some 135,none,.app 1 1 (.t 131) (.t 134)⟩,
    ⟨some 9,none,.mv (.t 135)⟩])
def V2:C:=.seq (.reg [⟨some 115,none,.mv (.t 12)⟩]) (.cond (.t 115) V4 (.skip))
def V1:C:=.seq (.seq (.reg [⟨some 14,none,.mv (.c (.int .i64 0))⟩]) (.block 4 (.loop L117_1))) V2
theorem L117_2_eq:L117_2=.seq (.seq (.reg [⟨some 79,none,.mv (.t 11)⟩,
  ⟨some 80,none,.bin false .lss (.t 79) (.c (.int .i64 2))⟩])
 (.cond (.t 80) (.skip)
  (.exit 2)))
 (.seq (.block 3 (.seq (.reg [⟨some 12,none,.mv (.c (.bool false))⟩])
  (.seq (.reg [⟨some 83,none,.load true 5 (.t 6)⟩,
   ⟨some 84,none,.call (.c (.fn 186 [] [])) [.t 83]⟩,
   ⟨some 13,none,.mv (.t 84)⟩]) V1)))
 (.reg [⟨some 81,none,.mv (.t 11)⟩,
  ⟨some 82,none,.bin false .add (.t 81) (.c (.int .i64 1))⟩,
  ⟨some 11,none,.mv (.t 82)⟩])):=rfl
theorem Keep32.set{s:List V}(h:Keep32 s)(j:Nat)(x:V)(hx:x ≠ .nils)(hj:j∉[2,3,4,5,6]):Keep32 (qej s j x):=by
 simp only[List.mem_cons,List.not_mem_nil,or_false,not_or]at hj
 obtain⟨h2,h3,h4,h5,h6⟩:=hj
 exact⟨qdn h.nn hx,by rw[qji,h.len],by rw[qaf h2,h.t2],by rw[qaf h3,h.t3],by rw[qaf h4,h.t4],by rw[qaf h5,h.t5],by rw[qaf h6,h.t6]⟩
theorem Keep32v.set{P:List (Int×Int)}{v:Int}{gv mv nv:Nat}{s:List V}(h:Keep32v P v gv mv nv s)(j:Nat)(x:V)(hx:x ≠ .nils)(hj:j∉[2,3,4,5,6])(hj2:j∉[9,10,11]):Keep32v P v gv mv nv (qej s j x):=by
 simp only[List.mem_cons,List.not_mem_nil,or_false,not_or]at hj2
 obtain⟨h9,h10,h11⟩:=hj2
 exact⟨h.keep.set j x hx hj,by rw[qaf h9,h.t9],by rw[qaf h10,h.t10],by rw[qaf h11,h.t11]⟩
set_option maxHeartbeats 4000000 in
theorem jfd{c:Ct}(k i v:Int)(hv:v=0\/v=1)(G:List (Int×Int))(PS MS:List Int)(hp:PS.length=c.plus.length)(hm:MS.length=c.minus.length)(gs m:Nat)(signals:List Sg)(hms:m=10\/m=0)(hW:signals.length<=4096)(gv mv:Nat)(hmv:mv=1\/mv=0)(w:List Bool)(hw:w.length<=4096)(T:Txt)(h69:ev pg (.call (.fn 188 [] []) [.agg [num c.act,.imm (c.inputs.map qoq),.imm (signals.map Sg.row),qes PS,qes MS],.str (qbv v)] [])=some { v:=.str T,st:=⟨[],[]⟩ })(st:St)(h0:st.h=h32 c k i (b32 c gs m signals.length) ⟨0,.arr 1 (PS.map qbo)⟩ ⟨0,.arr 1 (MS.map qbo)⟩ ⟨gs,.arr m (signals.map Sg.row)⟩ (zcg gv mv w)/\Keep32v G v gv mv w.length st.s):∃r,ev pg (.code V4 st)=some r/\r.x=.normal/\r.st.h=h32 c k i (b32 c (gs+1) 10 (signals.length+1)) ⟨0,.arr 1 (PS.map qbo)⟩ ⟨0,.arr 1 (MS.map qbo)⟩ ⟨gs+1,.arr 10 (signals.map Sg.row++[(qwj T v).row])⟩ (zcg (gv+1) 1 (w++[v==1]))/\Keep32v G v (gv+1) 1 (w.length+1) r.st.s:=by
 obtain⟨s,hh⟩:=st
 obtain⟨rfl,⟨⟨hnn,hl,e2,e3,e4,e5,e6⟩,e9,e10,e11⟩⟩:=h0
 simp only at hl e2 e3 e4 e5 e6 e9 e10 e11
 have hnl:∀j,qag s j ≠ .nils:=qas hnn
 have b2:(signals.length+1)*120<=140737488355328:=by omega
 have b3:w.length+1<=140737488355328:=by omega
 have h70:=ev189 (v==1)
 have hbv:(if(v==1)=true then(1:Int)else 0)=v:=by rcases hv with rfl | rfl<;>rfl
 rw[hbv]at h70
 rw[qac hl]
 rcases hv with rfl | rfl
 .have h69':ev pg (.call (.fn 188 [] []) [.agg [num c.act,.imm (c.inputs.map qoq),.imm (signals.map Sg.row),qes PS,qes MS],.str [115,116,117,99,107,48]] [])=_:=h69
  have h70':ev pg (.call (.fn 189 [] []) [.bool false] [])=_:=h70
  rcases hms with rfl | rfl<;>rcases hmv with rfl | rfl
  all_goals
   simp[qaa,exT,qak,V4,List.range,List.range.loop,e2,e3,e4,e5,e6,e9,e10,e11,hp,hm,b2,b3,h69',h70']
   exact⟨⟨rfl,rfl,rfl⟩,⟨by simp[qaq,hnl],rfl,rfl,rfl,rfl,rfl,rfl⟩,rfl,rfl,rfl⟩
 .have h69':ev pg (.call (.fn 188 [] []) [.agg [num c.act,.imm (c.inputs.map qoq),.imm (signals.map Sg.row),qes PS,qes MS],.str [115,116,117,99,107,49]] [])=_:=h69
  have h70':ev pg (.call (.fn 189 [] []) [.bool true] [])=_:=h70
  rcases hms with rfl | rfl<;>rcases hmv with rfl | rfl
  all_goals
   simp[qaa,exT,qak,V4,List.range,List.range.loop,e2,e3,e4,e5,e6,e9,e10,e11,hp,hm,b2,b3,h69',h70']
   exact⟨⟨rfl,rfl,rfl⟩,⟨by simp[qaq,hnl],rfl,rfl,rfl,rfl,rfl,rfl⟩,rfl,rfl,rfl⟩
def zfi(c:Ct)(k i v:Int)(G:List (Int×Int))(B:Bool)(PS MS:List Int)(gs m:Nat)(signals:List Sg)(gv mv:Nat)(w:List Bool)(T:Txt)(r:Am.R):Prop:=r.x=.normal/\(if B=true then r.st.h=h32 c k i (b32 c (gs+1) 10 (signals.length+1)) ⟨0,.arr 1 (PS.map qbo)⟩ ⟨0,.arr 1 (MS.map qbo)⟩ ⟨gs+1,.arr 10 (signals.map Sg.row++[(qwj T v).row])⟩ (zcg (gv+1) 1 (w++[v==1]))/\Keep32v G v (gv+1) 1 (w.length+1) r.st.s else r.st.h=h32 c k i (b32 c gs m signals.length) ⟨0,.arr 1 (PS.map qbo)⟩ ⟨0,.arr 1 (MS.map qbo)⟩ ⟨gs,.arr m (signals.map Sg.row)⟩ (zcg gv mv w)/\Keep32v G v gv mv w.length r.st.s)
theorem jfc{c:Ct}(k i v:Int)(hv:v=0\/v=1)(G:List (Int×Int))(PS MS:List Int)(hp:PS.length=c.plus.length)(hm:MS.length=c.minus.length)(gs m:Nat)(signals:List Sg)(hms:m=10\/m=0)(hW:signals.length<=4096)(gv mv:Nat)(hmv:mv=1\/mv=0)(w:List Bool)(hw:w.length<=4096)(T:Txt)(h69:ev pg (.call (.fn 188 [] []) [.agg [num c.act,.imm (c.inputs.map qoq),.imm (signals.map Sg.row),qes PS,qes MS],.str (qbv v)] [])=some { v:=.str T,st:=⟨[],[]⟩ })(B:Bool)(st:St)(h0:st.h=h32 c k i (b32 c gs m signals.length) ⟨0,.arr 1 (PS.map qbo)⟩ ⟨0,.arr 1 (MS.map qbo)⟩ ⟨gs,.arr m (signals.map Sg.row)⟩ (zcg gv mv w)/\Keep32v G v gv mv w.length st.s/\qag st.s 12=.bool B):∃r,ev pg (.code V2 st)=some r/\zfi c k i v G B PS MS gs m signals gv mv w T r:=by
 obtain⟨hh,hk,h12⟩:=h0
 have hl:=hk.keep.len
 obtain⟨s,h⟩:=st
 simp only at hh hk h12 hl
 have hk2:=hk.set 115 (.bool B) (by simp) (by decide) (by decide)
 unfold zfi
 cases B with
 | false =>
  refine⟨⟨.normal,.undef,⟨qej s 115 (.bool false),h⟩⟩,?_,rfl,?_⟩
  .simp[V2,hl,h12]
  .exact⟨hh,hk2⟩
 | true =>
  obtain⟨r,hr,hx,hh2,hk3⟩:=jfd k i v hv G PS MS hp hm gs m signals hms hW gv mv hmv w hw T h69 ⟨qej s 115 (.bool true),h⟩ ⟨hh,hk2⟩
  refine⟨r,?_,hx,?_⟩
  .simp[V2,hl,h12,hr]
  .exact⟨hh2,hk3⟩
theorem jfb{c:Ct}{A:Nat}(hA6:A<=6)(hcp:c.plus.length=A)(hcm:c.minus.length=A)(k i v:Int)(hv:v=0\/v=1)(next:Int)(ps ms:List Int)(hp:ps.length=A)(hm:ms.length=A)(gs m:Nat)(signals:List Sg)(hms:m=10\/m=0)(hW:signals.length<=4096)(gv mv:Nat)(hmv:mv=1\/mv=0)(w:List Bool)(hw:w.length<=4096)(T:Txt)(h69:ev pg (.call (.fn 188 [] []) [.agg [num c.act,.imm (c.inputs.map qoq),.imm (signals.map Sg.row),qes (qco (qps c k i v) next A ps),qes (qco (qpr c k i v) next A ms)],.str (qbv v)] [])=some { v:=.str T,st:=⟨[],[]⟩ })(st:St)(h0:st.h=h32 c k i (b32 c gs m signals.length) ⟨0,.arr 1 (ps.map qbo)⟩ ⟨0,.arr 1 (ms.map qbo)⟩ ⟨gs,.arr m (signals.map Sg.row)⟩ (zcg gv mv w)/\Keep32v (qft c k i A) v gv mv w.length st.s/\qag st.s 12=.bool false/\qag st.s 13=num next):∃r,ev pg (.code V1 st)=some r/\zfi c k i v (qft c k i A) (qew c k i v A) (qco (qps c k i v) next A ps) (qco (qpr c k i v) next A ms) gs m signals gv mv w T r:=by
 have hloop:=zvg (c:=c) hA6 k i v next gs m signals.length (signals.map Sg.row) gv mv w ps ms hp hm hcp hcm
 have hV2:=jfc (c:=c) k i v hv (qft c k i A) (qco (qps c k i v) next A ps) (qco (qpr c k i v) next A ms) (by rw[qdo,hp,hcp]) (by rw[qdo,hm,hcm]) gs m signals hms hW gv mv hmv w hw T h69 (qew c k i v A)
 have hI:∀st:St,(st.h=h32 c k i (b32 c gs m signals.length) ⟨0,.arr 1 (ps.map qbo)⟩ ⟨0,.arr 1 (ms.map qbo)⟩ ⟨gs,.arr m (signals.map Sg.row)⟩ (zcg gv mv w)/\Keep32v (qft c k i A) v gv mv w.length st.s/\qag st.s 12=.bool false/\qag st.s 13=num next/\qag st.s 14=num 0)->z4d c k i v A next (b32 c gs m signals.length) ⟨gs,.arr m (signals.map Sg.row)⟩ gv mv w ps ms 0 st:=fun st h=>⟨h.1,h.2.1,h.2.2.1,h.2.2.2.1,h.2.2.2.2⟩
 obtain⟨s,hh⟩:=st
 obtain⟨rfl,hk,e12,e13⟩:=h0
 simp only at hk e12 e13
 have hl:=hk.keep.len
 have hk2:=hk.set 14 (num 0) (by simp) (by decide) (by decide)
 have hnn2:=hk2.keep.nn
 unfold z4o at hloop
 clear h69
 generalize qco (qps c k i v) next A ps=PS at *
 generalize qco (qpr c k i v) next A ms=MS at *
 generalize qew c k i v A=B at *
 generalize qft c k i A=G at *
 simp (maxDischargeDepth:=20) [V1,qam,qcz,hnn2]
 generalize hr:ev pg (.code (.going 21 L117_1) _)=o
 obtain⟨r,rfl,hx,hh,hkv,g12⟩:∃r,o=some r/\_:=by
  rw[<-hr]
  exact hloop _ (hI _ ⟨rfl,hk2,by simp[e12],by simp[e13],by simp[hl]⟩)
 obtain⟨r4,h4,hQ⟩:=hV2 r.st ⟨hh,hkv,g12⟩
 simp[hx,h4]
 exact hQ
end Go.Proofs.YtbepbclaoohngaaGreat
