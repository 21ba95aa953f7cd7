/- The faulty. -/
import Derived.Test.YtggbaapfbgjaeaaGreatDoorFy1
set_option linter.all false
namespace Go.Proofs.YtggbaapfbgjaeaaGreatDoor
open Go Go.Am Go.Proofs
set_option maxRecDepth 100000
theorem ev170(l:List Txt)(hl:l.length<=4096):ev pg (.call (fnq 170) [.imm (l.map qpk)] [])=some { v:=.sl 0 0 1 0 l.length,st:=⟨[],[⟨0,.arr 1 (l.map qpk)⟩]⟩ }:=by
 rw[qab,pg170.1];cases l with
 | nil=>simp[ir170,qck,qet,qed]
 | cons x l =>
  have h47:(l.length+1)*16<=140737488355328:=by simp only[List.length_cons]at hl;omega
  simp[ir170,h47,qck,qet,qed]
theorem ev78(l:List Int)(hl:l.length<=4096):ev pg (.call (fnq 78) [qct l] [])=some { v:=.sl 0 0 1 0 l.length,st:=⟨[],[⟨0,.arr 1 (l.map qbh)⟩]⟩ }:=by
 rw[qab,pg78.1];cases l with
 | nil=>simp[ir78,qck,qet,qed]
 | cons x l =>
  have h47:(l.length+1)*8<=140737488355328:=by simp only[List.length_cons]at hl;omega
  simp[ir78,h47,qck,qet,qed]
def isS(s x:Txt):Bool:=s==x
def zvk(K:List Txt)(t:Txt)(k:Nat)(st:St):Prop:=st.h=[]/\st.s.length=19/\qaj st.s 0=.imm (K.map qpk)/\qaj st.s 1=.str t/\qaj st.s 7=num K.length/\qaj st.s 8=num k/\K.any (isS t)=(K.drop k).any (isS t)
def zvu(K:List Txt)(t:Txt)(r:R):Prop:=r.st.s.length=19/\((r.x=.exit 0/\r.st.h=[]/\K.any (isS t)=false)\/(r.x=.ret/\r.st.h=[]/\(∃k:Nat,qaj r.st.s 4=num k)/\K.any (isS t)=true))
theorem zsk(K:List Txt)(t:Txt)(hK:K.length<=4096)(st:St)(h0:zvk K t 0 st):∃r,ev pg (.code (.going 0 L207_0) st)=some r/\zvu K t r:=by
 refine qaw (zvk K t) K.length (zvu K t) h0 ?_ ?_
 .rintro k ⟨s,hh⟩ hk ⟨rfl,hl,e0,e1,e7,e8,he⟩;simp only at hl e0 e1 e7 e8;have hk':(k:Int)<K.length:=by omega
  have wk:=qbi k;rw[zew hk]at he;rw[qad hl];by_cases hb:t=K[k]
  .have hb2:isS t K[k]=true:=by simpa[isS]using hb
   rw[hb2]at he;have hb3:(t==K[k])=true:=by simpa using hb
   simp[L207_0,zvu,List.range,List.range.loop,e0,e1,e7,e8,hk,hk',hb3];exact⟨⟨k,rfl⟩,by simpa using he⟩
  .have hb2:isS t K[k]=false:=by simpa[isS]using hb
   rw[hb2]at he;have hb3:(t==K[k])=false:=by simpa using hb
   simp[L207_0,zvk,List.range,List.range.loop,e0,e1,e7,e8,hk,hk',hb3,wk];simpa using he
 .rintro⟨s,hh⟩ ⟨rfl,hl,e0,e1,e7,e8,he⟩;simp only[List.drop_length]at hl e0 e1 e7 e8 he;have he':K.any (isS t)=false:=he;rw[qad hl];simp[L207_0,zvu,List.range,List.range.loop,e0,e1,e7,e8];simpa using he'
theorem ev175(K:List Txt)(t:Txt)(hK:K.length<=4096):ev pg (.call (fnq 175) [.imm (K.map qpk),.str t] [])=some (rvq (.bool (K.any (isS t)))):=by
 have hloop:=zsk K t hK;have h152:∃r:Int,ev pg (.call (fnq 207) [.imm (K.map qpk),.str t] [])=some (rvq (num r))/\decide (0<=r)=K.any (isS t):=by
  unfold zvu at hloop;have hI:∀st:St,zvk K t 0 st<->(st.h=[]/\st.s.length=19/\qaj st.s 0=.imm (K.map qpk)/\qaj st.s 1=.str t/\qaj st.s 7=num K.length/\qaj st.s 8=num 0):=fun st=>by unfold zvk;exact⟨fun h=>⟨h.1,h.2.1,h.2.2.1,h.2.2.2.1,h.2.2.2.2.1,h.2.2.2.2.2.1⟩,fun h=>⟨h.1,h.2.1,h.2.2.1,h.2.2.2.1,h.2.2.2.2.1,h.2.2.2.2.2,rfl⟩⟩
  generalize K.any (isS t)=B at *;rw[qab,pg207.1];simp[ir207,qah];generalize hr:ev pg (.code (.going _ L207_0) _)=o;obtain⟨r,rfl,hl,hQ⟩:∃r,o=some r/\_:=by rw[<-hr];exact hloop _ ((hI _).2 ⟨by simp,by simp,by simp,by simp,by simp,by simp⟩)
  rcases hQ with⟨hx,hh,rfl⟩ | ⟨hx,hh,⟨k,h4⟩,rfl⟩
  .simp[hx,hh,hl]
  .simp[hx,h4]
 obtain⟨r,h152,hr⟩:=h152;rw[qab,pg175.1,<-hr];simp[ir175,h152]
theorem zex(K:List Txt)(t:Txt):K.any (isS t)=decide (t∈K):=by
 rw[Bool.eq_iff_iff,List.any_eq_true,jW];constructor
 .rintro⟨x,hx,e⟩;unfold isS at e;rw[beq_iff_eq]at e;rw[e];exact hx
 .intro h;exact⟨t,h,by simp[isS]⟩
def I38(a b:List Int)(k:Nat)(st:St):Prop:=st.h=[]/\st.s.length=26/\qaj st.s 0=.imm (a.map qbh)/\qaj st.s 1=.imm (b.map qbh)/\qaj st.s 12=num a.length/\qaj st.s 13=num k/\decide (a=b)=decide (a.drop k=b.drop k)
def Q38(a b:List Int)(r:R):Prop:=r.st.s.length=26/\r.st.h=[]/\((r.x=.exit 0/\decide (a=b)=true)\/(r.x=.ret/\qaj r.st.s 4=.bool false/\decide (a=b)=false))
theorem zxi(a b:List Int)(hab:b.length=a.length)(ha:a.length<=4096)(st:St)(h0:I38 a b 0 st):∃r,ev pg (.code (.going 0 L36_0) st)=some r/\Q38 a b r:=by
 refine qaw (I38 a b) a.length (Q38 a b) h0 ?_ ?_
 .rintro k ⟨s,hh⟩ hk ⟨rfl,hl,e0,e1,e12,e13,he⟩;simp only at hl e0 e1 e12 e13;have hk':(k:Int)<a.length:=by omega
  have hkb:k<b.length:=by omega
  have wk:=qbi k;rw[jL hk,jL hkb]at he;rw[qad hl];by_cases hb:a[k]=b[k]
  .have he':decide (a=b)=decide (a.drop (k+1)=b.drop (k+1)):=by rw[he];simp only[List.cons.injEq,hb,true_and]
   simp[L36_0,I38,List.range,List.range.loop,e0,e1,e12,e13,hk,hk',hkb,hb,wk];simpa using he'
  .have he':decide (a=b)=false:=by rw[he];simp only[List.cons.injEq,hb,false_and,decide_false]
   simp[L36_0,Q38,List.range,List.range.loop,e0,e1,e12,e13,hk,hk',hkb,hb];simpa using he'
 .rintro⟨s,hh⟩ ⟨rfl,hl,e0,e1,e12,e13,he⟩;simp only[List.drop_length]at hl e0 e1 e12 e13 he;rw[show List.drop a.length b=[]by rw[<-hab];exact List.drop_length]at he;have he':decide (a=b)=true:=by rw[he];rfl
  rw[qad hl];simp[L36_0,Q38,List.range,List.range.loop,e0,e1,e12,e13];simpa using he'
theorem ev36(a b:List Int)(ha:a.length<=4096):ev pg (.call (fnq 36) [.imm (a.map qbh),.imm (b.map qbh)] [])=some (rvq (.bool (decide (a=b)))):=by
 by_cases hab:b.length=a.length
 .have hloop:=zxi a b hab ha;have hab':(b.length:Int)=a.length:=by omega
  unfold Q38 at hloop;have hI:∀st:St,I38 a b 0 st<->(st.h=[]/\st.s.length=26/\qaj st.s 0=.imm (a.map qbh)/\qaj st.s 1=.imm (b.map qbh)/\qaj st.s 12=num a.length/\qaj st.s 13=num 0):=fun st=>by unfold I38;exact⟨fun h=>⟨h.1,h.2.1,h.2.2.1,h.2.2.2.1,h.2.2.2.2.1,h.2.2.2.2.2.1⟩,fun h=>⟨h.1,h.2.1,h.2.2.1,h.2.2.2.1,h.2.2.2.2.1,h.2.2.2.2.2,rfl⟩⟩
  generalize decide (a=b)=B at *;rw[qab,pg36.1];simp[ir36,qah,hab'];generalize hr:ev pg (.code (.going _ L36_0) _)=o;obtain⟨r,rfl,hl,hh,hQ⟩:∃r,o=some r/\_:=by rw[<-hr];exact hloop _ ((hI _).2 ⟨by simp,by simp,by simp,by simp,by simp,by simp⟩)
  rcases hQ with⟨hx,rfl⟩ | ⟨hx,h4,rfl⟩
  .simp[hx,hh,hl]
  .simp[hx,h4]
 .have hd:decide (a=b)=false:=by
   rw[decide_eq_false_iff_not];intro e;exact hab (by rw[e])
  have hne:((a.length:Int) != (b.length:Int))=true:=by rw[bne_iff_ne];omega
  rw[hd,qab,pg36.1];simp[ir36,hne]
mutual
def Ex.same:Ex->Ex->Bool
 | .mk o i l,.mk o' i' l'=>o==o'&&(i==i'&&zyk l l')
def zyk:List Ex->List Ex->Bool
 | [],[]=>true
 | x :: l,y :: l'=>x.same y&&zyk l l'
 | _,_=>false
end
def zwc:C:=.seq (.reg [⟨some 155,none,.load true 5 (.t 8)⟩,
  ⟨some 156,none,.mv (.t 15)⟩,
  ⟨none,none,.store 5 (.t 4) (.t 155)⟩,
  ⟨some 5,none,.mv (.t 156)⟩])
 (.ret)
def zqe:C:=.seq (.reg [⟨some 15,none,.mv (.c (.nils))⟩])
 (.seq (.seq (.reg [⟨some 92,none,.bslice false 1 [.str []] 2 [(0,(.c (.str [115,116,117,99,107,48]))),(1,(.c (.str [115,116,117,99,107,49])))]⟩,
  ⟨some 93,none,.len false (.t 92)⟩,
  ⟨some 94,none,.mv (.c (.int .i64 0))⟩])
 (.block 4 (.loop L130_4))) zwc)
def zqd:C:=.seq (.seq (.reg [⟨some 58,none,.faddr 2 (.t 2)⟩,
  ⟨some 59,none,.load false 1 (.t 58)⟩,
  ⟨some 60,none,.len false (.t 59)⟩,
  ⟨some 61,none,.mv (.c (.int .i64 0))⟩])
 (.block 2 (.loop L130_1))) zqe
def zqc:C:=.seq (.seq (.reg [⟨some 42,none,.load true 5 (.t 2)⟩,
  ⟨some 43,none,.call (.c (fnq 171)) [.t 42]⟩,
  ⟨some 44,none,.mv (.c (.int .i64 0))⟩])
 (.block 0 (.loop L130_0))) zqd
theorem ir130_eq:ir130=.mk 157 [.cell 4 true 5,.t 5] (
 .seq (.reg [⟨some 2,none,.box (.t 0)⟩,
  ⟨some 3,none,.box (.t 1)⟩,
  ⟨some 4,none,.alloc [.int .i64 0,.nils,.nils,.nils,.nils]⟩,
  ⟨some 5,none,.mv (.c (.nils))⟩])
 (.seq (.draw [⟨some 6,none,.alloc [.str [],.bool false,.int .i64 0,.nilfn]⟩,
  ⟨some 22,none,.call (.c (fnq 169)) []⟩,
  ⟨some 23,none,.faddr 0 (.t 3)⟩,
  ⟨some 24,none,.load false 1 (.t 23)⟩,
  ⟨some 25,none,.idxA true 6 4 (.t 22) (.t 24)⟩,
  ⟨none,none,.store 4 (.t 6) (.t 25)⟩] [(3,1)])
 (.seq (.reg [⟨some 7,none,.mv (.c (.int .i64 (-1)))⟩])
 (.seq (.seq (.reg [⟨some 26,none,.faddr 1 (.t 6)⟩,
  ⟨some 27,none,.load false 1 (.t 26)⟩])
 (.cond (.t 27) (.reg [⟨some 28,none,.faddr 1 (.t 3)⟩,
   ⟨some 29,none,.load false 1 (.t 28)⟩,
   ⟨some 7,none,.mv (.t 29)⟩])
  (.skip)))
 (.seq (.draw [⟨some 8,none,.alloc [.int .i64 0,.nils,.nils,.nils,.nils]⟩,
  ⟨some 30,none,.faddr 0 (.t 2)⟩,
  ⟨some 31,none,.load false 1 (.t 30)⟩,
  ⟨some 32,none,.faddr 1 (.t 2)⟩,
  ⟨some 33,none,.load false 1 (.t 32)⟩,
  ⟨some 34,none,.call (.c (fnq 170)) [.t 33]⟩,
  ⟨some 35,none,.faddr 3 (.t 2)⟩,
  ⟨some 36,none,.load false 1 (.t 35)⟩,
  ⟨some 37,none,.call (.c (fnq 78)) [.t 36]⟩,
  ⟨some 38,none,.faddr 4 (.t 2)⟩,
  ⟨some 39,none,.load false 1 (.t 38)⟩,
  ⟨some 40,none,.call (.c (fnq 78)) [.t 39]⟩,
  ⟨some 41,none,.build [.int .i64 0,.nils,.nils,.nils,.nils] [(0,1,(.t 31)),(1,1,(.t 34)),(3,1,(.t 37)),(4,1,(.t 40))]⟩,
  ⟨none,none,.store 5 (.t 8) (.t 41)⟩] [(2,5),(2,8),(2,11),(7,5),(10,5),(10,8)])
 (.seq (.reg [⟨some 9,none,.mv (.c (.nils))⟩]) zqc)))))) false false:=rfl
abbrev h83(c:Ct)(k i:Int)(cells:List V)(B:List V)(P M S:Ob)(t:H):H:=⟨0,.box c.cells⟩ :: ⟨0,.box [num k,num i]⟩ :: ⟨0,.arr 0 []⟩ :: ⟨0,.arr 0 []⟩ :: ⟨0,.arr 0 []⟩ :: ⟨0,.arr 0 []⟩ :: ⟨0,.box [num 0,.sl 2 0 0 0 0,.sl 3 0 0 0 0,.sl 4 0 0 0 0,.sl 5 0 0 0 0]⟩ :: ⟨0,.box cells⟩ :: ⟨0,.box (kC 8)⟩ :: kTa (⟨0,.arr 0 []⟩ :: ⟨0,.arr 0 []⟩ :: ⟨0,.arr 0 []⟩ :: ⟨0,.arr 0 []⟩ :: ⟨0,.box B⟩ :: ⟨0,.arr 1 (c.inputs.map qpk)⟩ :: P :: M :: S :: t)
structure Keep83(li:Int)(st:List V):Prop where
 nn:qas st
 len:st.length=157
 t2:qaj st 2=.bptr 0 0
 t3:qaj st 3=.bptr 1 0
 t4:qaj st 4=.bptr 6 0
 t5:qaj st 5=.sl 26 0 0 0 0
 t6:qaj st 6=.bptr 7 0
 t7:qaj st 7=num li
 t8:qaj st 8=.bptr 21 0
abbrev b83(c:Ct)(gs ms ns:Nat):List V:=[num c.act,.sl 22 0 1 0 c.inputs.length,.sl 25 gs ms 0 ns,.sl 23 0 1 0 c.plus.length,.sl 24 0 1 0 c.minus.length]
def qij(v:Int)(x:List V):Prop:=(∃t,x=[.str t,.bool true,num v,.nilfn])\/(∃t a b,a<17/\b<17/\x=[.str t,.bool false,num v,.fn 205 [] [.bptr a 0,.bptr b 0]])
def zvm(c:Ct)(A:Nat)(k i:Int)(cells:List V)(li:Int)(n:Nat)(st:St):Prop:=∃g m,st.h=h83 c k i cells (b83 c 0 0 0) ⟨0,.arr 1 (c.plus.map qbh)⟩ ⟨0,.arr 1 (c.minus.map qbh)⟩ ⟨0,.arr 0 []⟩ [⟨0,.arr 0 []⟩,⟨g,.arr m ((qay c A n).map qpk)⟩]/\(m=1\/m=0)/\Keep83 li st.s/\qaj st.s 9=.sl 27 g m 0 n/\qaj st.s 43=num (qac c A)/\qaj st.s 44=num n
def zzn(c:Ct)(A:Nat)(k i:Int)(cells:List V)(li:Int)(r:R):Prop:=r.x=.exit 0/\∃g m,r.st.h=h83 c k i cells (b83 c 0 0 0) ⟨0,.arr 1 (c.plus.map qbh)⟩ ⟨0,.arr 1 (c.minus.map qbh)⟩ ⟨0,.arr 0 []⟩ [⟨0,.arr 0 []⟩,⟨g,.arr m ((qay c A (qac c A)).map qpk)⟩]/\(m=1\/m=0)/\Keep83 li r.st.s/\qaj r.st.s 9=.sl 27 g m 0 (qac c A)
theorem qzu(c:Ct)(A n:Nat):qay c A (n+1)=qay c A n++[qbk c A n]:=by unfold qay;rw[List.range_succ,List.map_append];rfl
theorem qww(c:Ct)(A n:Nat):(qay c A n).length=n:=by simp[qay]
set_option maxHeartbeats 4000000 in
theorem zid{c:Ct}(hfew:c.small=true)(hc:c.check=0)(A:Nat)(hA:c.act.toNat=A)(k i:Int)(cells:List V)(v:Int)(hcs:qij v cells)(li:Int)(st:St)(h0:zvm c A k i cells li 0 st):∃r,ev pg (.code (.going 28 L130_0) st)=some r/\zzn c A k i cells li r:=by
 have hM:=qft hc hfew;rw[hA]at hM;have hcN:qac c A<=172:=by obtain⟨_,g1,g2,g3,g4⟩:=hM;unfold qac;omega
 refine qaw (zvm c A k i cells li) (qac c A) (zzn c A k i cells li) h0 ?_ ?_
 .rintro n ⟨s,hh⟩ hn ⟨g,m,rfl,hm,⟨hnn,hl,e2,e3,e4,e5,e6,e7,e8⟩,e9,e43,e44⟩;simp only at hl e2 e3 e4 e5 e6 e7 e8 e9 e43 e44;have hnl:∀j,qaj s j ≠ .nils:=qar hnn;have wn:=qbi n;have h120:=ev172 c hfew hc n (by rw[hA];exact hn);rw[hA]at h120;have hsn:=qzu c A n;have hln:=qww c A n;have hb:(n+1)*16<=140737488355328:=by omega
  have hn':(n:Int)<(qac c A:Nat):=by omega
  unfold zvm;rw[hsn];generalize qbk c A n=nm at *;generalize qay c A n=K at *;generalize qac c A=N at *;rw[qad hl];rcases hcs with⟨t,rfl⟩ | ⟨t,a,b,ha,hb',rfl⟩<;>rcases hm with rfl | rfl
  .simp[L130_0,List.range,List.range.loop,e2,e3,e4,e5,e6,e7,e8,e9,e43,e44,h120,hn',hln,hb,wn];exact⟨_,_,⟨rfl,rfl⟩,.inl rfl,⟨by simp[qas,hnl],rfl,rfl,rfl,rfl,rfl,rfl,rfl,rfl⟩,rfl,rfl⟩
  .simp[L130_0,List.range,List.range.loop,e2,e3,e4,e5,e6,e7,e8,e9,e43,e44,h120,hn',hln,hb,wn];exact⟨_,_,⟨rfl,rfl⟩,.inl rfl,⟨by simp[qas,hnl],rfl,rfl,rfl,rfl,rfl,rfl,rfl,rfl⟩,rfl,rfl⟩
  .have ha2:a<28:=by omega
   have hb2:b<28:=by omega
   simp[L130_0,List.range,List.range.loop,e2,e3,e4,e5,e6,e7,e8,e9,e43,e44,h120,hn',hln,hb,wn,ha2,hb2];exact⟨_,_,⟨rfl,rfl⟩,.inl rfl,⟨by simp[qas,hnl],rfl,rfl,rfl,rfl,rfl,rfl,rfl,rfl⟩,rfl,rfl⟩
  .have ha2:a<28:=by omega
   have hb2:b<28:=by omega
   simp[L130_0,List.range,List.range.loop,e2,e3,e4,e5,e6,e7,e8,e9,e43,e44,h120,hn',hln,hb,wn,ha2,hb2];exact⟨_,_,⟨rfl,rfl⟩,.inl rfl,⟨by simp[qas,hnl],rfl,rfl,rfl,rfl,rfl,rfl,rfl,rfl⟩,rfl,rfl⟩
 .rintro⟨s,hh⟩ ⟨g,m,rfl,hm,⟨hnn,hl,e2,e3,e4,e5,e6,e7,e8⟩,e9,e43,e44⟩;simp only at hl e2 e3 e4 e5 e6 e7 e8 e9 e43 e44;have hnl:∀j,qaj s j ≠ .nils:=qar hnn;unfold zzn;generalize qay c A (qac c A)=K at *;generalize qac c A=N at *;rw[qad hl];simp[L130_0,List.range,List.range.loop,e2,e3,e4,e5,e6,e7,e8,e9,e43,e44];exact⟨_,_,⟨rfl,rfl⟩,hm,⟨by simp[qas,hnl],rfl,rfl,rfl,rfl,rfl,rfl,rfl,rfl⟩,rfl,rfl⟩
def z0v(c:Ct)(k i:Int)(cells:List V)(li v:Int)(gk mk:Nat)(K:List Txt)(n:Nat)(st:St):Prop:=∃g m,st.h=h83 c k i cells (b83 c g m n) ⟨0,.arr 1 (c.plus.map qbh)⟩ ⟨0,.arr 1 (c.minus.map qbh)⟩ ⟨g,.arr m (((c.signals.take n).map (qjl li v)).map Sg.row)⟩ [⟨0,.arr 0 []⟩,⟨gk,.arr mk (K.map qpk)⟩]/\(m=10\/m=0)/\Keep83 li st.s/\qaj st.s 9=.sl 27 gk mk 0 K.length/\qaj st.s 59=.imm (c.signals.map Sg.row)/\qaj st.s 60=num c.signals.length/\qaj st.s 61=num n
def z0y(c:Ct)(k i:Int)(cells:List V)(li v:Int)(gk mk:Nat)(K:List Txt)(r:R):Prop:=r.x=.exit 2/\∃g m,r.st.h=h83 c k i cells (b83 c g m c.signals.length) ⟨0,.arr 1 (c.plus.map qbh)⟩ ⟨0,.arr 1 (c.minus.map qbh)⟩ ⟨g,.arr m ((c.signals.map (qjl li v)).map Sg.row)⟩ [⟨0,.arr 0 []⟩,⟨gk,.arr mk (K.map qpk)⟩]/\(m=10\/m=0)/\Keep83 li r.st.s/\qaj r.st.s 9=.sl 27 gk mk 0 K.length
set_option maxHeartbeats 4000000 in
theorem zsx{c:Ct}(hfew:c.small=true)(k i:Int)(cells:List V)(li v:Int)(hcs:qij v cells)(gk mk:Nat)(K:List Txt)(st:St)(h0:z0v c k i cells li v gk mk K 0 st):∃r,ev pg (.code (.going 28 L130_1) st)=some r/\z0y c k i cells li v gk mk K r:=by
 obtain⟨f1,f2,f3,f4,f5,f6⟩:=qdm hfew;refine qaw (z0v c k i cells li v gk mk K) c.signals.length (z0y c k i cells li v gk mk K) h0 ?_ ?_
 .rintro n ⟨s,hh⟩ hn ⟨g,m,rfl,hm,⟨hnn,hl,e2,e3,e4,e5,e6,e7,e8⟩,e9,e59,e60,e61⟩;simp only at hl e2 e3 e4 e5 e6 e7 e8 e9 e59 e60 e61;have hnl:∀j,qaj s j ≠ .nils:=qar hnn;have wn:=qbi n;obtain⟨_,hon,hoff⟩:=f6 _ (jH hn);have h71a:=ev173 c.signals[n].on li v (qdp hon).1;have h71b:=ev173 c.signals[n].off li v (qdp hoff).1;have hsn:((c.signals.take (n+1)).map (qjl li v)).map Sg.row=((c.signals.take n).map (qjl li v)).map Sg.row++[(qjl li v c.signals[n]).row]:=by
   rw[jK hn,List.map_append,List.map_append];rfl
  have hln:(((c.signals.take n).map (qjl li v)).map Sg.row).length=n:=by rw[List.length_map,List.length_map,List.length_take];omega
  have hget:(c.signals.map Sg.row)[n]?=some c.signals[n].row:=by rw[List.getElem?_map,jA hn];rfl
  have hb:(n+1)*120<=140737488355328:=by omega
  have hn':(n:Int)<(c.signals.length:Int):=by omega
  unfold z0v;rw[hsn];generalize c.signals[n]=x at *;generalize ((c.signals.take n).map (qjl li v)).map Sg.row=W at *;generalize c.signals.map Sg.row=G at *;rw[qad hl];rcases hcs with⟨t,rfl⟩ | ⟨t,a,b,ha,hb',rfl⟩<;>rcases hm with rfl | rfl
  .simp[L130_1,List.range,List.range.loop,e2,e3,e4,e5,e6,e7,e8,e9,e59,e60,e61,h71a,h71b,hn',hln,hb,wn,hget];exact⟨_,_,⟨rfl,rfl⟩,.inl rfl,⟨by simp[qas,hnl],rfl,rfl,rfl,rfl,rfl,rfl,rfl,rfl⟩⟩
  .simp[L130_1,List.range,List.range.loop,e2,e3,e4,e5,e6,e7,e8,e9,e59,e60,e61,h71a,h71b,hn',hln,hb,wn,hget];exact⟨_,_,⟨rfl,rfl⟩,.inl rfl,⟨by simp[qas,hnl],rfl,rfl,rfl,rfl,rfl,rfl,rfl,rfl⟩⟩
  .have ha2:a<28:=by omega
   have hb2:b<28:=by omega
   simp[L130_1,List.range,List.range.loop,e2,e3,e4,e5,e6,e7,e8,e9,e59,e60,e61,h71a,h71b,hn',hln,hb,wn,hget,ha2,hb2];exact⟨_,_,⟨rfl,rfl⟩,.inl rfl,⟨by simp[qas,hnl],rfl,rfl,rfl,rfl,rfl,rfl,rfl,rfl⟩⟩
  .have ha2:a<28:=by omega
   have hb2:b<28:=by omega
   simp[L130_1,List.range,List.range.loop,e2,e3,e4,e5,e6,e7,e8,e9,e59,e60,e61,h71a,h71b,hn',hln,hb,wn,hget,ha2,hb2];exact⟨_,_,⟨rfl,rfl⟩,.inl rfl,⟨by simp[qas,hnl],rfl,rfl,rfl,rfl,rfl,rfl,rfl,rfl⟩⟩
 .rintro⟨s,hh⟩ ⟨g,m,rfl,hm,⟨hnn,hl,e2,e3,e4,e5,e6,e7,e8⟩,e9,e59,e60,e61⟩;simp only at hl e2 e3 e4 e5 e6 e7 e8 e9 e59 e60 e61;have hnl:∀j,qaj s j ≠ .nils:=qar hnn;rw[List.take_length];unfold z0y;generalize (c.signals.map (qjl li v)).map Sg.row=W at *;rw[qad hl];simp[L130_1,List.range,List.range.loop,e2,e3,e4,e5,e6,e7,e8,e9,e59,e60,e61];exact⟨_,_,⟨rfl,rfl⟩,hm,⟨by simp[qas,hnl],rfl,rfl,rfl,rfl,rfl,rfl,rfl,rfl⟩⟩
end Go.Proofs.YtggbaapfbgjaeaaGreatDoor
