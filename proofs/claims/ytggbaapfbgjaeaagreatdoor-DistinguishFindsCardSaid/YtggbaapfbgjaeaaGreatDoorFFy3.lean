/- The faulty. -/
import Derived.Test.YtggbaapfbgjaeaaGreatDoorFEq2
set_option linter.all false
namespace Go.Proofs.YtggbaapfbgjaeaaGreatDoor
open Go Go.Am Go.Proofs
set_option maxRecDepth 100000
def zxk:C:=.seq (.reg [⟨some 155,none,.load true 5 (.t 8)⟩,
  ⟨some 156,none,.mv (.t 15)⟩,
  ⟨none,none,.store 5 (.t 4) (.t 155)⟩,
  ⟨some 5,none,.mv (.t 156)⟩])
 (.ret)
def zrj:C:=.seq (.reg [⟨some 15,none,.mv (.c (.nils))⟩])
 (.seq (.seq (.reg [⟨some 92,none,.bslice false 1 [.str []] 2 [(0,(.c (.str [115,116,117,99,107,48]))),(1,(.c (.str [115,116,117,99,107,49])))]⟩,
  ⟨some 93,none,.len false (.t 92)⟩,
  ⟨some 94,none,.mv (.c (.int .i64 0))⟩])
 (.block 4 (.loop L130_4))) zxk)
def zri:C:=.seq (.seq (.reg [⟨some 58,none,.faddr 2 (.t 2)⟩,
  ⟨some 59,none,.load false 1 (.t 58)⟩,
  ⟨some 60,none,.len false (.t 59)⟩,
  ⟨some 61,none,.mv (.c (.int .i64 0))⟩])
 (.block 2 (.loop L130_1))) zrj
def zrh:C:=.seq (.seq (.reg [⟨some 42,none,.load true 5 (.t 2)⟩,
  ⟨some 43,none,.call (.c (fnq 171)) [.t 42]⟩,
  ⟨some 44,none,.mv (.c (.int .i64 0))⟩])
 (.block 0 (.loop L130_0))) zri
theorem ir130_eq:ir130=.mk 157 [.cell 4 true 5,.t 5] (
 .seq (.reg [⟨some 2,none,.box (.t 0)⟩,
  ⟨some 3,none,.box (.t 1)⟩,
  ⟨some 4,none,.alloc [.int .i64 0,.nils,.nils,.nils,.nils]⟩,
  ⟨some 5,none,.mv (.c (.nils))⟩])
 (.seq (.draw [⟨some 6,none,.alloc [.str [],.bool false,.int .i64 0,.nilfn]⟩,
  ⟨some 22,none,.call (.c (fnq 169)) []⟩,
  ⟨some 23,none,.faddr 0 (.t 3)⟩,
  ⟨some 24,none,.load false 1 (.t 23)⟩,
  ⟨some 25,none,.idxA true 6 4 (.t 22) (.t 24)⟩,
  ⟨none,none,.store 4 (.t 6) (.t 25)⟩] [(3,1)])
 (.seq (.reg [⟨some 7,none,.mv (.c (.int .i64 (-1)))⟩])
 (.seq (.seq (.reg [⟨some 26,none,.faddr 1 (.t 6)⟩,
  ⟨some 27,none,.load false 1 (.t 26)⟩])
 (.cond (.t 27) (.reg [⟨some 28,none,.faddr 1 (.t 3)⟩,
   ⟨some 29,none,.load false 1 (.t 28)⟩,
   ⟨some 7,none,.mv (.t 29)⟩])
  (.skip)))
 (.seq (.draw [⟨some 8,none,.alloc [.int .i64 0,.nils,.nils,.nils,.nils]⟩,
  ⟨some 30,none,.faddr 0 (.t 2)⟩,
  ⟨some 31,none,.load false 1 (.t 30)⟩,
  ⟨some 32,none,.faddr 1 (.t 2)⟩,
  ⟨some 33,none,.load false 1 (.t 32)⟩,
  ⟨some 34,none,.call (.c (fnq 170)) [.t 33]⟩,
  ⟨some 35,none,.faddr 3 (.t 2)⟩,
  ⟨some 36,none,.load false 1 (.t 35)⟩,
  ⟨some 37,none,.call (.c (fnq 78)) [.t 36]⟩,
  ⟨some 38,none,.faddr 4 (.t 2)⟩,
  ⟨some 39,none,.load false 1 (.t 38)⟩,
  ⟨some 40,none,.call (.c (fnq 78)) [.t 39]⟩,
  ⟨some 41,none,.build [.int .i64 0,.nils,.nils,.nils,.nils] [(0,1,(.t 31)),(1,1,(.t 34)),(3,1,(.t 37)),(4,1,(.t 40))]⟩,
  ⟨none,none,.store 5 (.t 8) (.t 41)⟩] [(2,5),(2,8),(2,11),(7,5),(10,5),(10,8)])
 (.seq (.reg [⟨some 9,none,.mv (.c (.nils))⟩]) zrh)))))) false false:=rfl
abbrev h83(c:Ct)(k i:Int)(cells:List V)(B:List V)(P M S:Ob)(t:H):H:=⟨0,.box c.cells⟩ :: ⟨0,.box [num k,num i]⟩ :: ⟨0,.arr 0 []⟩ :: ⟨0,.arr 0 []⟩ :: ⟨0,.arr 0 []⟩ :: ⟨0,.arr 0 []⟩ :: ⟨0,.box [num 0,.sl 2 0 0 0 0,.sl 3 0 0 0 0,.sl 4 0 0 0 0,.sl 5 0 0 0 0]⟩ :: ⟨0,.box cells⟩ :: ⟨0,.box (kC 8)⟩ :: kTa (⟨0,.arr 0 []⟩ :: ⟨0,.arr 0 []⟩ :: ⟨0,.arr 0 []⟩ :: ⟨0,.arr 0 []⟩ :: ⟨0,.box B⟩ :: ⟨0,.arr 1 (c.inputs.map qpq)⟩ :: P :: M :: S :: t)
structure Keep83(li:Int)(st:List V):Prop where
 nn:qaq st
 len:st.length=157
 t2:qah st 2=.bptr 0 0
 t3:qah st 3=.bptr 1 0
 t4:qah st 4=.bptr 6 0
 t5:qah st 5=.sl 26 0 0 0 0
 t6:qah st 6=.bptr 7 0
 t7:qah st 7=num li
 t8:qah st 8=.bptr 21 0
abbrev b83(c:Ct)(gs ms ns:Nat):List V:=[num c.act,.sl 22 0 1 0 c.inputs.length,.sl 25 gs ms 0 ns,.sl 23 0 1 0 c.plus.length,.sl 24 0 1 0 c.minus.length]
def qik(v:Int)(x:List V):Prop:=(∃t,x=[.str t,.bool true,num v,.nilfn])\/(∃t a b,a<17/\b<17/\x=[.str t,.bool false,num v,.fn 205 [] [.bptr a 0,.bptr b 0]])
def zwu(c:Ct)(A:Nat)(k i:Int)(cells:List V)(li:Int)(n:Nat)(st:St):Prop:=∃g m,st.h=h83 c k i cells (b83 c 0 0 0) ⟨0,.arr 1 (c.plus.map qbk)⟩ ⟨0,.arr 1 (c.minus.map qbk)⟩ ⟨0,.arr 0 []⟩ [⟨0,.arr 0 []⟩,⟨g,.arr m ((qaw c A n).map qpq)⟩]/\(m=1\/m=0)/\Keep83 li st.s/\qah st.s 9=.sl 27 g m 0 n/\qah st.s 43=num (qad c A)/\qah st.s 44=num n
def z0x(c:Ct)(A:Nat)(k i:Int)(cells:List V)(li:Int)(r:R):Prop:=r.x=.exit 0/\∃g m,r.st.h=h83 c k i cells (b83 c 0 0 0) ⟨0,.arr 1 (c.plus.map qbk)⟩ ⟨0,.arr 1 (c.minus.map qbk)⟩ ⟨0,.arr 0 []⟩ [⟨0,.arr 0 []⟩,⟨g,.arr m ((qaw c A (qad c A)).map qpq)⟩]/\(m=1\/m=0)/\Keep83 li r.st.s/\qah r.st.s 9=.sl 27 g m 0 (qad c A)
theorem q0g(c:Ct)(A n:Nat):qaw c A (n+1)=qaw c A n++[qbj c A n]:=by unfold qaw;rw[List.range_succ,List.map_append];rfl
theorem qxk(c:Ct)(A n:Nat):(qaw c A n).length=n:=by simp[qaw]
set_option maxHeartbeats 4000000 in
theorem ziw{c:Ct}(hfew:c.small=true)(hc:c.check=0)(A:Nat)(hA:c.act.toNat=A)(k i:Int)(cells:List V)(v:Int)(hcs:qik v cells)(li:Int)(st:St)(h0:zwu c A k i cells li 0 st):∃r,ev pg (.code (.going 28 L130_0) st)=some r/\z0x c A k i cells li r:=by
 have hM:=qfx hc hfew;rw[hA]at hM;have hcN:qad c A<=172:=by obtain⟨_,g1,g2,g3,g4⟩:=hM;unfold qad;omega
 refine qat (zwu c A k i cells li) (qad c A) (z0x c A k i cells li) h0 ?_ ?_
 .rintro n ⟨s,hh⟩ hn ⟨g,m,rfl,hm,⟨hnn,hl,e2,e3,e4,e5,e6,e7,e8⟩,e9,e43,e44⟩;simp only at hl e2 e3 e4 e5 e6 e7 e8 e9 e43 e44;have hnl:∀j,qah s j ≠ .nils:=qap hnn;have wn:=qbc n;have h120:=ev172 c hfew hc n (by rw[hA];exact hn);rw[hA]at h120;have hsn:=q0g c A n;have hln:=qxk c A n;have hb:(n+1)*16<=140737488355328:=by omega
  have hn':(n:Int)<(qad c A:Nat):=by omega
  unfold zwu;rw[hsn];generalize qbj c A n=nm at *;generalize qaw c A n=K at *;generalize qad c A=N at *;rw[qac hl];rcases hcs with⟨t,rfl⟩ | ⟨t,a,b,ha,hb',rfl⟩<;>rcases hm with rfl | rfl
  .simp[L130_0,List.range,List.range.loop,e2,e3,e4,e5,e6,e7,e8,e9,e43,e44,h120,hn',hln,hb,wn];exact⟨_,_,⟨rfl,rfl⟩,.inl rfl,⟨by simp[qaq,hnl],rfl,rfl,rfl,rfl,rfl,rfl,rfl,rfl⟩,rfl,rfl⟩
  .simp[L130_0,List.range,List.range.loop,e2,e3,e4,e5,e6,e7,e8,e9,e43,e44,h120,hn',hln,hb,wn];exact⟨_,_,⟨rfl,rfl⟩,.inl rfl,⟨by simp[qaq,hnl],rfl,rfl,rfl,rfl,rfl,rfl,rfl,rfl⟩,rfl,rfl⟩
  .have ha2:a<28:=by omega
   have hb2:b<28:=by omega
   simp[L130_0,List.range,List.range.loop,e2,e3,e4,e5,e6,e7,e8,e9,e43,e44,h120,hn',hln,hb,wn,ha2,hb2];exact⟨_,_,⟨rfl,rfl⟩,.inl rfl,⟨by simp[qaq,hnl],rfl,rfl,rfl,rfl,rfl,rfl,rfl,rfl⟩,rfl,rfl⟩
  .have ha2:a<28:=by omega
   have hb2:b<28:=by omega
   simp[L130_0,List.range,List.range.loop,e2,e3,e4,e5,e6,e7,e8,e9,e43,e44,h120,hn',hln,hb,wn,ha2,hb2];exact⟨_,_,⟨rfl,rfl⟩,.inl rfl,⟨by simp[qaq,hnl],rfl,rfl,rfl,rfl,rfl,rfl,rfl,rfl⟩,rfl,rfl⟩
 .rintro⟨s,hh⟩ ⟨g,m,rfl,hm,⟨hnn,hl,e2,e3,e4,e5,e6,e7,e8⟩,e9,e43,e44⟩;simp only at hl e2 e3 e4 e5 e6 e7 e8 e9 e43 e44;have hnl:∀j,qah s j ≠ .nils:=qap hnn;unfold z0x;generalize qaw c A (qad c A)=K at *;generalize qad c A=N at *;rw[qac hl];simp[L130_0,List.range,List.range.loop,e2,e3,e4,e5,e6,e7,e8,e9,e43,e44];exact⟨_,_,⟨rfl,rfl⟩,hm,⟨by simp[qaq,hnl],rfl,rfl,rfl,rfl,rfl,rfl,rfl,rfl⟩,rfl,rfl⟩
def z2e(c:Ct)(k i:Int)(cells:List V)(li v:Int)(gk mk:Nat)(K:List Txt)(n:Nat)(st:St):Prop:=∃g m,st.h=h83 c k i cells (b83 c g m n) ⟨0,.arr 1 (c.plus.map qbk)⟩ ⟨0,.arr 1 (c.minus.map qbk)⟩ ⟨g,.arr m (((c.signals.take n).map (qjm li v)).map Sg.row)⟩ [⟨0,.arr 0 []⟩,⟨gk,.arr mk (K.map qpq)⟩]/\(m=10\/m=0)/\Keep83 li st.s/\qah st.s 9=.sl 27 gk mk 0 K.length/\qah st.s 59=.imm (c.signals.map Sg.row)/\qah st.s 60=num c.signals.length/\qah st.s 61=num n
def z2h(c:Ct)(k i:Int)(cells:List V)(li v:Int)(gk mk:Nat)(K:List Txt)(r:R):Prop:=r.x=.exit 2/\∃g m,r.st.h=h83 c k i cells (b83 c g m c.signals.length) ⟨0,.arr 1 (c.plus.map qbk)⟩ ⟨0,.arr 1 (c.minus.map qbk)⟩ ⟨g,.arr m ((c.signals.map (qjm li v)).map Sg.row)⟩ [⟨0,.arr 0 []⟩,⟨gk,.arr mk (K.map qpq)⟩]/\(m=10\/m=0)/\Keep83 li r.st.s/\qah r.st.s 9=.sl 27 gk mk 0 K.length
set_option maxHeartbeats 4000000 in
theorem zud{c:Ct}(hfew:c.small=true)(k i:Int)(cells:List V)(li v:Int)(hcs:qik v cells)(gk mk:Nat)(K:List Txt)(st:St)(h0:z2e c k i cells li v gk mk K 0 st):∃r,ev pg (.code (.going 28 L130_1) st)=some r/\z2h c k i cells li v gk mk K r:=by
 obtain⟨f1,f2,f3,f4,f5,f6⟩:=qcd hfew;refine qat (z2e c k i cells li v gk mk K) c.signals.length (z2h c k i cells li v gk mk K) h0 ?_ ?_
 .rintro n ⟨s,hh⟩ hn ⟨g,m,rfl,hm,⟨hnn,hl,e2,e3,e4,e5,e6,e7,e8⟩,e9,e59,e60,e61⟩;simp only at hl e2 e3 e4 e5 e6 e7 e8 e9 e59 e60 e61;have hnl:∀j,qah s j ≠ .nils:=qap hnn;have wn:=qbc n;obtain⟨_,hon,hoff⟩:=f6 _ (jH hn);have h71a:=ev173 c.signals[n].on li v (qdq hon).1;have h71b:=ev173 c.signals[n].off li v (qdq hoff).1;have hsn:((c.signals.take (n+1)).map (qjm li v)).map Sg.row=((c.signals.take n).map (qjm li v)).map Sg.row++[(qjm li v c.signals[n]).row]:=by
   rw[jK hn,List.map_append,List.map_append];rfl
  have hln:(((c.signals.take n).map (qjm li v)).map Sg.row).length=n:=by rw[List.length_map,List.length_map,List.length_take];omega
  have hget:(c.signals.map Sg.row)[n]?=some c.signals[n].row:=by rw[List.getElem?_map,jA hn];rfl
  have hb:(n+1)*120<=140737488355328:=by omega
  have hn':(n:Int)<(c.signals.length:Int):=by omega
  unfold z2e;rw[hsn];generalize c.signals[n]=x at *;generalize ((c.signals.take n).map (qjm li v)).map Sg.row=W at *;generalize c.signals.map Sg.row=G at *;rw[qac hl];rcases hcs with⟨t,rfl⟩ | ⟨t,a,b,ha,hb',rfl⟩<;>rcases hm with rfl | rfl
  .simp[L130_1,List.range,List.range.loop,e2,e3,e4,e5,e6,e7,e8,e9,e59,e60,e61,h71a,h71b,hn',hln,hb,wn,hget];exact⟨_,_,⟨rfl,rfl⟩,.inl rfl,⟨by simp[qaq,hnl],rfl,rfl,rfl,rfl,rfl,rfl,rfl,rfl⟩⟩
  .simp[L130_1,List.range,List.range.loop,e2,e3,e4,e5,e6,e7,e8,e9,e59,e60,e61,h71a,h71b,hn',hln,hb,wn,hget];exact⟨_,_,⟨rfl,rfl⟩,.inl rfl,⟨by simp[qaq,hnl],rfl,rfl,rfl,rfl,rfl,rfl,rfl,rfl⟩⟩
  .have ha2:a<28:=by omega
   have hb2:b<28:=by omega
   simp[L130_1,List.range,List.range.loop,e2,e3,e4,e5,e6,e7,e8,e9,e59,e60,e61,h71a,h71b,hn',hln,hb,wn,hget,ha2,hb2];exact⟨_,_,⟨rfl,rfl⟩,.inl rfl,⟨by simp[qaq,hnl],rfl,rfl,rfl,rfl,rfl,rfl,rfl,rfl⟩⟩
  .have ha2:a<28:=by omega
   have hb2:b<28:=by omega
   simp[L130_1,List.range,List.range.loop,e2,e3,e4,e5,e6,e7,e8,e9,e59,e60,e61,h71a,h71b,hn',hln,hb,wn,hget,ha2,hb2];exact⟨_,_,⟨rfl,rfl⟩,.inl rfl,⟨by simp[qaq,hnl],rfl,rfl,rfl,rfl,rfl,rfl,rfl,rfl⟩⟩
 .rintro⟨s,hh⟩ ⟨g,m,rfl,hm,⟨hnn,hl,e2,e3,e4,e5,e6,e7,e8⟩,e9,e59,e60,e61⟩;simp only at hl e2 e3 e4 e5 e6 e7 e8 e9 e59 e60 e61;have hnl:∀j,qah s j ≠ .nils:=qap hnn;rw[List.take_length];unfold z2h;generalize (c.signals.map (qjm li v)).map Sg.row=W at *;rw[qac hl];simp[L130_1,List.range,List.range.loop,e2,e3,e4,e5,e6,e7,e8,e9,e59,e60,e61];exact⟨_,_,⟨rfl,rfl⟩,hm,⟨by simp[qaq,hnl],rfl,rfl,rfl,rfl,rfl,rfl,rfl,rfl⟩⟩
abbrev qfj(b:Bool):List V:=[.bool b]
abbrev q6v(gk mk:Nat)(K:List Txt)(gv mv:Nat)(w:List Bool):H:=[⟨0,.arr 0 []⟩,⟨gk,.arr mk (K.map qpq)⟩,⟨gv,.arr mv (w.map qfj)⟩]
abbrev z5l:V:=.imm [[.str [115,116,117,99,107,48]],[.str [115,116,117,99,107,49]]]
structure Keep83v(li:Int)(v:Int)(gk mk nk gv mv nv:Nat)(st:List V):Prop where
 keep:Keep83 li st
 t9:qah st 9=.sl 27 gk mk 0 nk
 t15:qah st 15=.sl 28 gv mv 0 nv
 t92:qah st 92=z5l
 t93:qah st 93=num 2
 t94:qah st 94=num v
def z0q(c:Ct)(k i:Int)(cells:List V)(li v:Int)(A:Nat)(next:Int)(B:List V)(S:Ob)(gk mk:Nat)(K:List Txt)(gv mv:Nat)(w:List Bool)(ps ms:List Int)(n:Nat)(st:St):Prop:=st.h=h83 c k i cells B ⟨0,.arr 1 ((qcv (qtr c k i v) next n ps).map qbk)⟩ ⟨0,.arr 1 ((qcv (qtq c k i v) next n ms).map qbk)⟩ S (q6v gk mk K gv mv w)/\Keep83v li v gk mk K.length gv mv w.length st.s/\qah st.s 16=num v/\qah st.s 17=.str (qbu v)/\qah st.s 18=.bool (qhd c k i v n)/\qah st.s 19=num next/\qah st.s 103=qjp (qgs c k i A)/\qah st.s 104=num A/\qah st.s 105=num n
def z0y(c:Ct)(k i:Int)(cells:List V)(li v:Int)(A:Nat)(next:Int)(B:List V)(S:Ob)(gk mk:Nat)(K:List Txt)(gv mv:Nat)(w:List Bool)(ps ms:List Int)(r:R):Prop:=r.x=.exit 6/\r.st.h=h83 c k i cells B ⟨0,.arr 1 ((qcv (qtr c k i v) next A ps).map qbk)⟩ ⟨0,.arr 1 ((qcv (qtq c k i v) next A ms).map qbk)⟩ S (q6v gk mk K gv mv w)/\Keep83v li v gk mk K.length gv mv w.length r.st.s/\qah r.st.s 16=num v/\qah r.st.s 17=.str (qbu v)/\qah r.st.s 18=.bool (qhd c k i v A)/\qah r.st.s 19=num next
theorem qky{f:Nat->Bool}{next:Int}{l:List Int}:∀{n j:Nat},n<=j->(qcv f next n l)[j]?=l[j]?
 | 0,_,_=>rfl
 | n+1,j,h=>by
  unfold qcv;split
  .rw[jO (by omega)];exact qky (by omega)
  .exact qky (by omega)
theorem qrq{f:Nat->Bool}{next:Int}{l:List Int}{n:Nat}:(qcv f next (n+1) l).map qbk=if f n=true then((qcv f next n l).map qbk).set n [num next]else(qcv f next n l).map qbk:=by
 rw[qcv];split
 .rw[List.map_set]
 .rfl
set_option maxHeartbeats 4000000 in
theorem zue{c:Ct}{A:Nat}(hA6:A<=6)(k i:Int)(cells:List V)(li v v0:Int)(hcs:qik v0 cells)(next:Int)(gs ms' ns:Nat)(W:List (List V))(gk mk:Nat)(K:List Txt)(gv mv:Nat)(w:List Bool)(ps ms:List Int)(hp:ps.length=A)(hm:ms.length=A)(hcp:c.plus.length=A)(hcm:c.minus.length=A)(st:St)(h0:z0q c k i cells li v A next (b83 c gs ms' ns) ⟨gs,.arr ms' W⟩ gk mk K gv mv w ps ms 0 st):∃r,ev pg (.code (.going 29 L130_2) st)=some r/\z0y c k i cells li v A next (b83 c gs ms' ns) ⟨gs,.arr ms' W⟩ gk mk K gv mv w ps ms r:=by
 refine qat (z0q c k i cells li v A next (b83 c gs ms' ns) ⟨gs,.arr ms' W⟩ gk mk K gv mv w ps ms) A (z0y c k i cells li v A next (b83 c gs ms' ns) ⟨gs,.arr ms' W⟩ gk mk K gv mv w ps ms) h0 ?_ ?_
 .rintro n ⟨s,hh⟩ hn ⟨rfl,⟨⟨hnn,hl,e2,e3,e4,e5,e6,e7,e8⟩,e9,e15,e92,e93,e94⟩,e16,e17,e18,e19,e103,e104,e105⟩;simp only at hl e2 e3 e4 e5 e6 e7 e8 e9 e15 e92 e93 e94 e16 e17 e18 e19 e103 e104 e105;have hnl:∀j,qah s j ≠ .nils:=qap hnn;have wn:=qbc n;have hn':(n:Int)<(A:Nat):=by omega
  have hgp:((qcv (qtr c k i v) next n ps).map qbk)[n]?=some (qbk ps[n]):=by rw[List.getElem?_map,qky (jD _),jA (by omega)];rfl
  have hgm:((qcv (qtq c k i v) next n ms).map qbk)[n]?=some (qbk ms[n]):=by rw[List.getElem?_map,qky (jD _),jA (by omega)];rfl
  have hgl:(qgs c k i A)[n]?=some (pil c k i n):=by unfold qgs;rw[List.getElem?_map,List.getElem?_range hn];rfl
  have hnp:n<c.plus.length:=by omega
  have hnm:n<c.minus.length:=by omega
  have hneed:qhd c k i v (n+1)=(qhd c k i v n||(qtr c k i v n||qtq c k i v n)):=rfl;unfold z0q;rw[qrq,qrq,hneed];generalize ps[n]=x at *;generalize ms[n]=y at *;have hs1:qtr c k i v n=((pil c k i n).1==v):=rfl;have hs2:qtq c k i v n=((pil c k i n).2==v):=rfl;rw[hs1,hs2];generalize pil c k i n=p at *;obtain⟨p1,p2⟩:=p;generalize qgs c k i A=G at *;generalize (qcv (qtr c k i v) next n ps).map qbk=X at *;generalize (qcv (qtq c k i v) next n ms).map qbk=Y at *;generalize qhd c k i v n=B at *;rw[qac hl];simp only;have ha2:∀a:Nat,a<17->a<29:=fun a h=>by omega
  by_cases hv1:p1=v
  .by_cases hv2:p2=v
   .rcases hcs with⟨t,rfl⟩ | ⟨t,a,b,ha,hb',rfl⟩
    .simp[L130_2,List.range,List.range.loop,e2,e3,e4,e5,e6,e7,e8,e9,e15,e92,e93,e94,e16,e17,e18,e19,e103,e104,e105,hn',wn,hgp,hgm,hgl,hv1,hv2,hnp,hnm];exact⟨⟨by simp[qaq,hnl],rfl,rfl,rfl,rfl,rfl,rfl,rfl,rfl⟩,rfl,rfl,rfl,rfl,rfl⟩
    .simp[L130_2,List.range,List.range.loop,e2,e3,e4,e5,e6,e7,e8,e9,e15,e92,e93,e94,e16,e17,e18,e19,e103,e104,e105,hn',wn,hgp,hgm,hgl,hv1,hv2,hnp,hnm,ha2 a ha,ha2 b hb'];exact⟨⟨by simp[qaq,hnl],rfl,rfl,rfl,rfl,rfl,rfl,rfl,rfl⟩,rfl,rfl,rfl,rfl,rfl⟩
   .have n2:(p2==v)=false:=by simpa using hv2
    rcases hcs with⟨t,rfl⟩ | ⟨t,a,b,ha,hb',rfl⟩
    .simp[L130_2,List.range,List.range.loop,e2,e3,e4,e5,e6,e7,e8,e9,e15,e92,e93,e94,e16,e17,e18,e19,e103,e104,e105,hn',wn,hgp,hgl,hv1,n2,hnp];exact⟨⟨by simp[qaq,hnl],rfl,rfl,rfl,rfl,rfl,rfl,rfl,rfl⟩,rfl,rfl,rfl,rfl,rfl⟩
    .simp[L130_2,List.range,List.range.loop,e2,e3,e4,e5,e6,e7,e8,e9,e15,e92,e93,e94,e16,e17,e18,e19,e103,e104,e105,hn',wn,hgp,hgl,hv1,n2,hnp,ha2 a ha,ha2 b hb'];exact⟨⟨by simp[qaq,hnl],rfl,rfl,rfl,rfl,rfl,rfl,rfl,rfl⟩,rfl,rfl,rfl,rfl,rfl⟩
  .have n1:(p1==v)=false:=by simpa using hv1
   by_cases hv2:p2=v
   .rcases hcs with⟨t,rfl⟩ | ⟨t,a,b,ha,hb',rfl⟩
    .simp[L130_2,List.range,List.range.loop,e2,e3,e4,e5,e6,e7,e8,e9,e15,e92,e93,e94,e16,e17,e18,e19,e103,e104,e105,hn',wn,hgm,hgl,n1,hv2,hnm];exact⟨⟨by simp[qaq,hnl],rfl,rfl,rfl,rfl,rfl,rfl,rfl,rfl⟩,rfl,rfl,rfl,rfl,rfl⟩
    .simp[L130_2,List.range,List.range.loop,e2,e3,e4,e5,e6,e7,e8,e9,e15,e92,e93,e94,e16,e17,e18,e19,e103,e104,e105,hn',wn,hgm,hgl,n1,hv2,hnm,ha2 a ha,ha2 b hb'];exact⟨⟨by simp[qaq,hnl],rfl,rfl,rfl,rfl,rfl,rfl,rfl,rfl⟩,rfl,rfl,rfl,rfl,rfl⟩
   .have n2:(p2==v)=false:=by simpa using hv2
    rcases hcs with⟨t,rfl⟩ | ⟨t,a,b,ha,hb',rfl⟩
    .simp[L130_2,List.range,List.range.loop,e2,e3,e4,e5,e6,e7,e8,e9,e15,e92,e93,e94,e16,e17,e18,e19,e103,e104,e105,hn',wn,hgl,n1,n2];exact⟨⟨by simp[qaq,hnl],rfl,rfl,rfl,rfl,rfl,rfl,rfl,rfl⟩,rfl,rfl,rfl,rfl,rfl⟩
    .simp[L130_2,List.range,List.range.loop,e2,e3,e4,e5,e6,e7,e8,e9,e15,e92,e93,e94,e16,e17,e18,e19,e103,e104,e105,hn',wn,hgl,n1,n2,ha2 a ha,ha2 b hb'];exact⟨⟨by simp[qaq,hnl],rfl,rfl,rfl,rfl,rfl,rfl,rfl,rfl⟩,rfl,rfl,rfl,rfl,rfl⟩
 .rintro⟨s,hh⟩ ⟨rfl,⟨⟨hnn,hl,e2,e3,e4,e5,e6,e7,e8⟩,e9,e15,e92,e93,e94⟩,e16,e17,e18,e19,e103,e104,e105⟩;simp only at hl e2 e3 e4 e5 e6 e7 e8 e9 e15 e92 e93 e94 e16 e17 e18 e19 e103 e104 e105;have hnl:∀j,qah s j ≠ .nils:=qap hnn;unfold z0y;generalize qcv (qtr c k i v) next A ps=X at *
  generalize qcv (qtq c k i v) next A ms=Y at *
  generalize qhd c k i v A=B at *;rw[qac hl];simp[L130_2,List.range,List.range.loop,e2,e3,e4,e5,e6,e7,e8,e9,e15,e92,e93,e94,e16,e17,e18,e19,e103,e104,e105];exact⟨⟨by simp[qaq,hnl],rfl,rfl,rfl,rfl,rfl,rfl,rfl,rfl⟩,rfl,rfl,rfl,rfl,rfl⟩
structure Keep83w(li v:Int)(gk mk nk gv mv nv:Nat)(st:List V):Prop where
 keep:Keep83v li v gk mk nk gv mv nv st
 t16:qah st 16=num v
def z2f(c:Ct)(k i:Int)(cells:List V)(li v:Int)(B:List V)(P M S:Ob)(gk mk:Nat)(K:List Txt)(gv mv:Nat)(w:List Bool)(n:Nat)(st:St):Prop:=st.h=h83 c k i cells B P M S (q6v gk mk K gv mv w)/\Keep83w li v gk mk K.length gv mv w.length st.s/\qah st.s 17=.str (qgu (qbu v) n)
def z0z(c:Ct)(k i:Int)(cells:List V)(li v:Int)(B:List V)(P M S:Ob)(gk mk:Nat)(K:List Txt)(gv mv:Nat)(w:List Bool)(r:R):Prop:=r.x=.exit 8/\r.st.h=h83 c k i cells B P M S (q6v gk mk K gv mv w)/\Keep83w li v gk mk K.length gv mv w.length r.st.s/\qah r.st.s 17=.str (qfv K (qbu v))
theorem q1i(s:Txt)(n:Nat):qgu s (n+1)=qgu s n++[95]:=by unfold qgu;rw[List.replicate_succ',List.append_assoc]
set_option maxHeartbeats 4000000 in
theorem zuf{c:Ct}(k i:Int)(cells:List V)(li v v0:Int)(hcs:qik v0 cells)(gs ms' ns:Nat)(W:List (List V))(ps ms:List Int)(gk mk:Nat)(K:List Txt)(hK:K.length<=4096)(gv mv:Nat)(w:List Bool)(st:St)(h0:z2f c k i cells li v (b83 c gs ms' ns) ⟨0,.arr 1 (ps.map qbk)⟩ ⟨0,.arr 1 (ms.map qbk)⟩ ⟨gs,.arr ms' W⟩ gk mk K gv mv w 0 st):∃r,ev pg (.code (.going 29 L130_3) st)=some r/\z0z c k i cells li v (b83 c gs ms' ns) ⟨0,.arr 1 (ps.map qbk)⟩ ⟨0,.arr 1 (ms.map qbk)⟩ ⟨gs,.arr ms' W⟩ gk mk K gv mv w r:=by
 refine qat (z2f c k i cells li v (b83 c gs ms' ns) ⟨0,.arr 1 (ps.map qbk)⟩ ⟨0,.arr 1 (ms.map qbk)⟩ ⟨gs,.arr ms' W⟩ gk mk K gv mv w) (quw K (qbu v)) (z0z c k i cells li v (b83 c gs ms' ns) ⟨0,.arr 1 (ps.map qbk)⟩ ⟨0,.arr 1 (ms.map qbk)⟩ ⟨gs,.arr ms' W⟩ gk mk K gv mv w) h0 ?_ ?_
 .rintro n ⟨s,hh⟩ hn ⟨rfl,⟨⟨⟨hnn,hl,e2,e3,e4,e5,e6,e7,e8⟩,e9,e15,e92,e93,e94⟩,e16⟩,e17⟩;simp only at hl e2 e3 e4 e5 e6 e7 e8 e9 e15 e92 e93 e94 e16 e17;have hnl:∀j,qah s j ≠ .nils:=qap hnn;have ha2:∀a:Nat,a<17->a<29:=fun a h=>by omega
  have zdh:=ev175 K (qgu (qbu v) n) hK;have hmem:K.any (isS (qgu (qbu v) n))=true:=by rw[zfn,jW];exact q7w K (qbu v) n hn
  have hlen:(qgu (qbu v) n).length<=8192:=by have h1:=q2d K (qbu v);have h2:(qbu v).length=6:=rfl;rw[jF,kD];omega
  have hb:(qgu (qbu v) n).length+1<=140737488355328:=by omega
  rw[hmem]at zdh;have hsu:=q1i (qbu v) n;unfold z2f;rw[hsu];generalize qgu (qbu v) n=T at *;rw[qac hl];rcases hcs with⟨t,rfl⟩ | ⟨t,a,b,ha,hb',rfl⟩
  .simp[L130_3,List.range,List.range.loop,e2,e3,e4,e5,e6,e7,e8,e9,e15,e92,e93,e94,e16,e17,zdh,hb];exact⟨⟨⟨by simp[qaq,hnl],rfl,rfl,rfl,rfl,rfl,rfl,rfl,rfl⟩,rfl,rfl,rfl,rfl,rfl⟩,rfl⟩
  .simp[L130_3,List.range,List.range.loop,e2,e3,e4,e5,e6,e7,e8,e9,e15,e92,e93,e94,e16,e17,zdh,hb,ha2 a ha,ha2 b hb'];exact⟨⟨⟨by simp[qaq,hnl],rfl,rfl,rfl,rfl,rfl,rfl,rfl,rfl⟩,rfl,rfl,rfl,rfl,rfl⟩,rfl⟩
 .rintro⟨s,hh⟩ ⟨rfl,⟨⟨⟨hnn,hl,e2,e3,e4,e5,e6,e7,e8⟩,e9,e15,e92,e93,e94⟩,e16⟩,e17⟩;simp only at hl e2 e3 e4 e5 e6 e7 e8 e9 e15 e92 e93 e94 e16 e17;have hnl:∀j,qah s j ≠ .nils:=qap hnn;have zdh:=ev175 K (qgu (qbu v) (quw K (qbu v))) hK;have hmem:K.any (isS (qgu (qbu v) (quw K (qbu v))))=false:=by
   rw[zfn,decide_eq_false_iff_not];exact zam K (qbu v)
  rw[hmem]at zdh;unfold z0z qfv;generalize qgu (qbu v) (quw K (qbu v))=T at *;rw[qac hl];simp[L130_3,List.range,List.range.loop,e2,e3,e4,e5,e6,e7,e8,e9,e15,e92,e93,e94,e16,e17,zdh];exact⟨⟨⟨by simp[qaq,hnl],rfl,rfl,rfl,rfl,rfl,rfl,rfl,rfl⟩,rfl,rfl,rfl,rfl,rfl⟩,rfl⟩
end Go.Proofs.YtggbaapfbgjaeaaGreatDoor
