/- The faulty control, by the program: names and signals. -/
import Derived.Test.YtbepbclaoohngaaGreatVFy1
set_option linter.all false
namespace Go.Proofs.YtbepbclaoohngaaGreat
open Go Go.Am Go.Proofs
set_option maxRecDepth 100000
theorem ev141(l:List Txt)(hl:l.length<=4096):ev pg (.call (.fn 141 [] []) [.imm (l.map qoe)] [])=some { v:=.sl 0 0 1 0 l.length,st:=⟨[],[⟨0,.arr 1 (l.map qoe)⟩]⟩ }:=by
 rw[qaa,pg141]
 cases l with
 | nil=>simp[ir141,qcn,qex,qei]
 | cons x l =>
  have h47:(l.length+1)*16<=140737488355328:=by
   simp only[List.length_cons]at hl
   omega
  simp[ir141,h47,qcn,qex,qei]
theorem ev142(l:List Int)(hl:l.length<=4096):ev pg (.call (.fn 142 [] []) [qeg l] [])=some { v:=.sl 0 0 1 0 l.length,st:=⟨[],[⟨0,.arr 1 (l.map qbj)⟩]⟩ }:=by
 rw[qaa,pg142]
 cases l with
 | nil=>simp[ir142,qcn,qex,qei]
 | cons x l =>
  have h47:(l.length+1)*8<=140737488355328:=by
   simp only[List.length_cons]at hl
   omega
  simp[ir142,h47,qcn,qex,qei]
def isS(s x:Txt):Bool:=s==x
def zxc(K:List Txt)(t:Txt)(k:Nat)(st:St):Prop:=st.h=[]/\st.s.length=19/\qai st.s 0=.imm (K.map qoe)/\qai st.s 1=.str t/\qai st.s 7=num K.length/\qai st.s 8=num k/\K.any (isS t)=(K.drop k).any (isS t)
def zxm(K:List Txt)(t:Txt)(r:R):Prop:=r.st.s.length=19/\((r.x=.exit 0/\r.st.h=[]/\K.any (isS t)=false)\/(r.x=.ret/\r.st.h=[]/\(∃k:Nat,qai r.st.s 4=num k)/\K.any (isS t)=true))
theorem zto(K:List Txt)(t:Txt)(hK:K.length<=4096)(st:St)(h0:zxc K t 0 st):∃r,ev pg (.code (.going 0 L207_0) st)=some r/\zxm K t r:=by
 refine qau (zxc K t) K.length (zxm K t) h0 ?_ ?_
 .rintro k ⟨s,hh⟩ hk ⟨rfl,hl,e0,e1,e7,e8,he⟩
  simp only at hl e0 e1 e7 e8
  have hk':(k:Int)<K.length:=by omega
  have wk:=qbb (k:=k) (by omega)
  rw[zel hk]at he
  rw[qad hl]
  by_cases hb:t=K[k]
  .have hb2:isS t K[k]=true:=by simpa[isS]using hb
   rw[hb2]at he
   have hb3:(t==K[k])=true:=by simpa using hb
   simp[L207_0,zxm,List.range,List.range.loop,e0,e1,e7,e8,hk,hk',hb3]
   exact⟨⟨k,rfl⟩,by simpa using he⟩
  .have hb2:isS t K[k]=false:=by simpa[isS]using hb
   rw[hb2]at he
   have hb3:(t==K[k])=false:=by simpa using hb
   simp[L207_0,zxc,List.range,List.range.loop,e0,e1,e7,e8,hk,hk',hb3,wk]
   simpa using he
 .rintro⟨s,hh⟩ ⟨rfl,hl,e0,e1,e7,e8,he⟩
  simp only[List.drop_length]at hl e0 e1 e7 e8 he
  have he':K.any (isS t)=false:=he
  rw[qad hl]
  simp[L207_0,zxm,List.range,List.range.loop,e0,e1,e7,e8]
  simpa using he'
theorem ev144(K:List Txt)(t:Txt)(hK:K.length<=4096):ev pg (.call (.fn 144 [] []) [.imm (K.map qoe),.str t] [])=some { v:=.bool (K.any (isS t)),st:=⟨[],[]⟩ }:=by
 have hloop:=zto K t hK
 have h152:∃r:Int,ev pg (.call (.fn 207 [] []) [.imm (K.map qoe),.str t] [])=some { v:=num r,st:=⟨[],[]⟩ }/\decide (0<=r)=K.any (isS t):=by
  unfold zxm at hloop
  have hI:∀st:St,zxc K t 0 st<->(st.h=[]/\st.s.length=19/\qai st.s 0=.imm (K.map qoe)/\qai st.s 1=.str t/\qai st.s 7=num K.length/\qai st.s 8=num 0):=fun st=>by
   unfold zxc
   exact⟨fun h=>⟨h.1,h.2.1,h.2.2.1,h.2.2.2.1,h.2.2.2.2.1,h.2.2.2.2.2.1⟩,fun h=>⟨h.1,h.2.1,h.2.2.1,h.2.2.2.1,h.2.2.2.2.1,h.2.2.2.2.2,rfl⟩⟩
  generalize K.any (isS t)=B at *
  rw[qaa,pg207]
  simp[ir207,qah]
  generalize hr:ev pg (.code (.going _ L207_0) _)=o
  obtain⟨r,rfl,hl,hQ⟩:∃r,o=some r/\_:=by
   rw[<-hr]
   exact hloop _ ((hI _).2 ⟨by simp,by simp,by simp,by simp,by simp,by simp⟩)
  rcases hQ with⟨hx,hh,rfl⟩ | ⟨hx,hh,⟨k,h4⟩,rfl⟩
  .simp[hx,hh,hl]
  .simp[hx,h4]
 obtain⟨r,h152,hr⟩:=h152
 rw[qaa,pg144,<-hr]
 simp[ir144,h152]
theorem zem(K:List Txt)(t:Txt):K.any (isS t)=decide (t∈K):=by
 rw[Bool.eq_iff_iff,List.any_eq_true,jW]
 constructor
 .rintro⟨x,hx,e⟩
  unfold isS at e
  rw[beq_iff_eq]at e
  rw[e];exact hx
 .intro h
  exact⟨t,h,by simp[isS]⟩
def I38(a b:List Int)(k:Nat)(st:St):Prop:=st.h=[]/\st.s.length=26/\qai st.s 0=.imm (a.map qbj)/\qai st.s 1=.imm (b.map qbj)/\qai st.s 12=num a.length/\qai st.s 13=num k/\decide (a=b)=decide (a.drop k=b.drop k)
def Q38(a b:List Int)(r:R):Prop:=r.st.s.length=26/\r.st.h=[]/\((r.x=.exit 0/\decide (a=b)=true)\/(r.x=.ret/\qai r.st.s 4=.bool false/\decide (a=b)=false))
theorem zzf(a b:List Int)(hab:b.length=a.length)(ha:a.length<=4096)(st:St)(h0:I38 a b 0 st):∃r,ev pg (.code (.going 0 L124_0) st)=some r/\Q38 a b r:=by
 refine qau (I38 a b) a.length (Q38 a b) h0 ?_ ?_
 .rintro k ⟨s,hh⟩ hk ⟨rfl,hl,e0,e1,e12,e13,he⟩
  simp only at hl e0 e1 e12 e13
  have hk':(k:Int)<a.length:=by omega
  have hkb:k<b.length:=by omega
  have wk:=qbb (k:=k) (by omega)
  rw[jL hk,jL hkb]at he
  rw[qad hl]
  by_cases hb:a[k]=b[k]
  .have he':decide (a=b)=decide (a.drop (k+1)=b.drop (k+1)):=by rw[he];simp only[List.cons.injEq,hb,true_and]
   simp[L124_0,I38,List.range,List.range.loop,e0,e1,e12,e13,hk,hk',hkb,hb,wk]
   simpa using he'
  .have he':decide (a=b)=false:=by rw[he];simp only[List.cons.injEq,hb,false_and,decide_false]
   simp[L124_0,Q38,List.range,List.range.loop,e0,e1,e12,e13,hk,hk',hkb,hb]
   simpa using he'
 .rintro⟨s,hh⟩ ⟨rfl,hl,e0,e1,e12,e13,he⟩
  simp only[List.drop_length]at hl e0 e1 e12 e13 he
  rw[show List.drop a.length b=[]by rw[<-hab];exact List.drop_length]at he
  have he':decide (a=b)=true:=by rw[he];rfl
  rw[qad hl]
  simp[L124_0,Q38,List.range,List.range.loop,e0,e1,e12,e13]
  simpa using he'
theorem ev124(a b:List Int)(ha:a.length<=4096):ev pg (.call (.fn 124 [] []) [.imm (a.map qbj),.imm (b.map qbj)] [])=some { v:=.bool (decide (a=b)),st:=⟨[],[]⟩ }:=by
 by_cases hab:b.length=a.length
 .have hloop:=zzf a b hab ha
  have hab':(b.length:Int)=a.length:=by omega
  unfold Q38 at hloop
  have hI:∀st:St,I38 a b 0 st<->(st.h=[]/\st.s.length=26/\qai st.s 0=.imm (a.map qbj)/\qai st.s 1=.imm (b.map qbj)/\qai st.s 12=num a.length/\qai st.s 13=num 0):=fun st=>by
   unfold I38
   exact⟨fun h=>⟨h.1,h.2.1,h.2.2.1,h.2.2.2.1,h.2.2.2.2.1,h.2.2.2.2.2.1⟩,fun h=>⟨h.1,h.2.1,h.2.2.1,h.2.2.2.1,h.2.2.2.2.1,h.2.2.2.2.2,rfl⟩⟩
  generalize decide (a=b)=B at *
  rw[qaa,pg124]
  simp[ir124,qah,hab']
  generalize hr:ev pg (.code (.going _ L124_0) _)=o
  obtain⟨r,rfl,hl,hh,hQ⟩:∃r,o=some r/\_:=by
   rw[<-hr]
   exact hloop _ ((hI _).2 ⟨by simp,by simp,by simp,by simp,by simp,by simp⟩)
  rcases hQ with⟨hx,rfl⟩ | ⟨hx,h4,rfl⟩
  .simp[hx,hh,hl]
  .simp[hx,h4]
 .have hd:decide (a=b)=false:=by
   rw[decide_eq_false_iff_not]
   intro e
   exact hab (by rw[e])
  have hne:((a.length:Int) != (b.length:Int))=true:=by
   rw[bne_iff_ne];omega
  rw[hd,qaa,pg124]
  simp[ir124,hne]
mutual
def Ex.same:Ex->Ex->Bool
 | .mk o i l,.mk o' i' l'=>o==o'&&(i==i'&&z2e l l')
def z2e:List Ex->List Ex->Bool
 | [],[]=>true
 | x :: l,y :: l'=>x.same y&&z2e l l'
 | _,_=>false
end
def zxt:C:=.seq (.reg [⟨some 155,none,.load true 5 (.t 8)⟩,
  ⟨some 156,none,.mv (.t 15)⟩,
  ⟨none,none,.store 5 (.t 4) (.t 155)⟩,
  ⟨some 5,none,.mv (.t 156)⟩])
 (.ret)
def zrp:C:=.seq (.reg [⟨some 15,none,.mv (.c (.nils))⟩])
 (.seq (.seq (.reg [⟨some 92,none,.bslice false 1 [.str []] 2 [(0,(.c (.str [115,116,117,99,107,48]))),(1,(.c (.str [115,116,117,99,107,49])))]⟩,
  ⟨some 93,none,.len false (.t 92)⟩,
  ⟨some 94,none,.mv (.c (.int .i64 0))⟩])
 (.block 4 (.loop L86_4))) zxt)
def zro:C:=.seq (.seq (.reg [⟨some 58,none,.faddr 2 (.t 2)⟩,
  ⟨some 59,none,.load false 1 (.t 58)⟩,
  ⟨some 60,none,.len false (.t 59)⟩,
  ⟨some 61,none,.mv (.c (.int .i64 0))⟩])
 (.block 2 (.loop L86_1))) zrp
def zrn:C:=.seq (.seq (.reg [⟨some 42,none,.load true 5 (.t 2)⟩,
  ⟨some 43,none,.call (.c (.fn 85 [] [])) [.t 42]⟩,
  ⟨some 44,none,.mv (.c (.int .i64 0))⟩])
 (.block 0 (.loop L86_0))) zro
theorem ir86_eq:ir86=.mk 157 [.cell 4 true 5,.t 5] (
 .seq (.reg [⟨some 2,none,.box (.t 0)⟩,
  ⟨some 3,none,.box (.t 1)⟩,
  ⟨some 4,none,.alloc [.int .i64 0,.nils,.nils,.nils,.nils]⟩,
  ⟨some 5,none,.mv (.c (.nils))⟩])
 (.seq (.draw [⟨some 6,none,.alloc [.str [],.bool false,.int .i64 0,.nilfn]⟩,
  ⟨some 22,none,.call (.c (.fn 83 [] [])) []⟩,
  ⟨some 23,none,.faddr 0 (.t 3)⟩,
  ⟨some 24,none,.load false 1 (.t 23)⟩,
  ⟨some 25,none,.idxA true 6 4 (.t 22) (.t 24)⟩,
  ⟨none,none,.store 4 (.t 6) (.t 25)⟩] [(3,1)])
 (.seq (.reg [⟨some 7,none,.mv (.c (.int .i64 (-1)))⟩])
 (.seq (.seq (.reg [⟨some 26,none,.faddr 1 (.t 6)⟩,
  ⟨some 27,none,.load false 1 (.t 26)⟩])
 (.cond (.t 27) (.reg [⟨some 28,none,.faddr 1 (.t 3)⟩,
   ⟨some 29,none,.load false 1 (.t 28)⟩,
   ⟨some 7,none,.mv (.t 29)⟩])
  (.skip)))
 (.seq (.draw [⟨some 8,none,.alloc [.int .i64 0,.nils,.nils,.nils,.nils]⟩,
  ⟨some 30,none,.faddr 0 (.t 2)⟩,
  ⟨some 31,none,.load false 1 (.t 30)⟩,
  ⟨some 32,none,.faddr 1 (.t 2)⟩,
  ⟨some 33,none,.load false 1 (.t 32)⟩,
  ⟨some 34,none,.call (.c (.fn 141 [] [])) [.t 33]⟩,
  ⟨some 35,none,.faddr 3 (.t 2)⟩,
  ⟨some 36,none,.load false 1 (.t 35)⟩,
  ⟨some 37,none,.call (.c (.fn 142 [] [])) [.t 36]⟩,
  ⟨some 38,none,.faddr 4 (.t 2)⟩,
  ⟨some 39,none,.load false 1 (.t 38)⟩,
  ⟨some 40,none,.call (.c (.fn 142 [] [])) [.t 39]⟩,
  ⟨some 41,none,.build [.int .i64 0,.nils,.nils,.nils,.nils] [(0,1,(.t 31)),(1,1,(.t 34)),(3,1,(.t 37)),(4,1,(.t 40))]⟩,
  ⟨none,none,.store 5 (.t 8) (.t 41)⟩] [(2,5),(2,8),(2,11),(7,5),(10,5),(10,8)])
 (.seq (.reg [⟨some 9,none,.mv (.c (.nils))⟩]) zrn)))))) false false:=rfl
abbrev h83(c:Ct)(k i:Int)(cells:List V)(B:List V)(P M S:Ob)(t:H):H:=⟨0,.box c.cells⟩ :: ⟨0,.box [num k,num i]⟩ :: ⟨0,.arr 0 []⟩ :: ⟨0,.arr 0 []⟩ :: ⟨0,.arr 0 []⟩ :: ⟨0,.arr 0 []⟩ :: ⟨0,.box [num 0,.sl 2 0 0 0 0,.sl 3 0 0 0 0,.sl 4 0 0 0 0,.sl 5 0 0 0 0]⟩ :: ⟨0,.box cells⟩ :: ⟨0,.box (kC 8)⟩ :: kTa (⟨0,.arr 0 []⟩ :: ⟨0,.arr 0 []⟩ :: ⟨0,.arr 0 []⟩ :: ⟨0,.arr 0 []⟩ :: ⟨0,.box B⟩ :: ⟨0,.arr 1 (c.inputs.map qoe)⟩ :: P :: M :: S :: t)
structure Keep83(li:Int)(st:List V):Prop where
 nn:qas st
 len:st.length=157
 t2:qai st 2=.bptr 0 0
 t3:qai st 3=.bptr 1 0
 t4:qai st 4=.bptr 6 0
 t5:qai st 5=.sl 26 0 0 0 0
 t6:qai st 6=.bptr 7 0
 t7:qai st 7=num li
 t8:qai st 8=.bptr 21 0
abbrev b83(c:Ct)(gs ms ns:Nat):List V:=[num c.act,.sl 22 0 1 0 c.inputs.length,.sl 25 gs ms 0 ns,.sl 23 0 1 0 c.plus.length,.sl 24 0 1 0 c.minus.length]
def qil(v:Int)(x:List V):Prop:=(∃t,x=[.str t,.bool true,num v,.nilfn])\/(∃t a b,a<17/\b<17/\x=[.str t,.bool false,num v,.fn 140 [] [.bptr a 0,.bptr b 0]])
def zxe(c:Ct)(A:Nat)(k i:Int)(cells:List V)(li:Int)(n:Nat)(st:St):Prop:=∃g m,st.h=h83 c k i cells (b83 c 0 0 0) ⟨0,.arr 1 (c.plus.map qbj)⟩ ⟨0,.arr 1 (c.minus.map qbj)⟩ ⟨0,.arr 0 []⟩ [⟨0,.arr 0 []⟩,⟨g,.arr m ((qax c A n).map qoe)⟩]/\(m=1\/m=0)/\Keep83 li st.s/\qai st.s 9=.sl 27 g m 0 n/\qai st.s 43=num (qac c A)/\qai st.s 44=num n
def z3h(c:Ct)(A:Nat)(k i:Int)(cells:List V)(li:Int)(r:R):Prop:=r.x=.exit 0/\∃g m,r.st.h=h83 c k i cells (b83 c 0 0 0) ⟨0,.arr 1 (c.plus.map qbj)⟩ ⟨0,.arr 1 (c.minus.map qbj)⟩ ⟨0,.arr 0 []⟩ [⟨0,.arr 0 []⟩,⟨g,.arr m ((qax c A (qac c A)).map qoe)⟩]/\(m=1\/m=0)/\Keep83 li r.st.s/\qai r.st.s 9=.sl 27 g m 0 (qac c A)
theorem qzd(c:Ct)(A n:Nat):qax c A (n+1)=qax c A n++[qbl c A n]:=by
 unfold qax
 rw[List.range_succ,List.map_append]
 rfl
theorem qwj(c:Ct)(A n:Nat):(qax c A n).length=n:=by simp[qax]
set_option maxHeartbeats 4000000 in
theorem zhk{c:Ct}(hfew:c.small=true)(hc:c.check=0)(A:Nat)(hA:c.act.toNat=A)(k i:Int)(cells:List V)(v:Int)(hcs:qil v cells)(li:Int)(st:St)(h0:zxe c A k i cells li 0 st):∃r,ev pg (.code (.going 28 L86_0) st)=some r/\z3h c A k i cells li r:=by
 have hM:=qfr hc hfew
 rw[hA]at hM
 have hcN:qac c A<=172:=by
  obtain⟨_,g1,g2,g3,g4⟩:=hM
  unfold qac
  omega
 refine qau (zxe c A k i cells li) (qac c A) (z3h c A k i cells li) h0 ?_ ?_
 .rintro n ⟨s,hh⟩ hn ⟨g,m,rfl,hm,⟨hnn,hl,e2,e3,e4,e5,e6,e7,e8⟩,e9,e43,e44⟩
  simp only at hl e2 e3 e4 e5 e6 e7 e8 e9 e43 e44
  have hnl:∀j,qai s j ≠ .nils:=qar hnn
  have wn:=qbb (k:=n) (by omega)
  have h120:=ev143 c hfew hc n (by rw[hA];exact hn)
  rw[hA]at h120
  have hsn:=qzd c A n
  have hln:=qwj c A n
  have hb:(n+1)*16<=140737488355328:=by omega
  have hn':(n:Int)<(qac c A:Nat):=by omega
  unfold zxe
  rw[hsn]
  generalize qbl c A n=nm at *
  generalize qax c A n=K at *
  generalize qac c A=N at *
  rw[qad hl]
  rcases hcs with⟨t,rfl⟩ | ⟨t,a,b,ha,hb',rfl⟩<;>rcases hm with rfl | rfl
  .simp[L86_0,List.range,List.range.loop,e2,e3,e4,e5,e6,e7,e8,e9,e43,e44,h120,hn',hln,hb,wn]
   exact⟨_,_,⟨rfl,rfl⟩,.inl rfl,⟨by simp[qas,hnl],rfl,rfl,rfl,rfl,rfl,rfl,rfl,rfl⟩,rfl,rfl⟩
  .simp[L86_0,List.range,List.range.loop,e2,e3,e4,e5,e6,e7,e8,e9,e43,e44,h120,hn',hln,hb,wn]
   exact⟨_,_,⟨rfl,rfl⟩,.inl rfl,⟨by simp[qas,hnl],rfl,rfl,rfl,rfl,rfl,rfl,rfl,rfl⟩,rfl,rfl⟩
  .have ha2:a<28:=by omega
   have hb2:b<28:=by omega
   simp[L86_0,List.range,List.range.loop,e2,e3,e4,e5,e6,e7,e8,e9,e43,e44,h120,hn',hln,hb,wn,ha2,hb2]
   exact⟨_,_,⟨rfl,rfl⟩,.inl rfl,⟨by simp[qas,hnl],rfl,rfl,rfl,rfl,rfl,rfl,rfl,rfl⟩,rfl,rfl⟩
  .have ha2:a<28:=by omega
   have hb2:b<28:=by omega
   simp[L86_0,List.range,List.range.loop,e2,e3,e4,e5,e6,e7,e8,e9,e43,e44,h120,hn',hln,hb,wn,ha2,hb2]
   exact⟨_,_,⟨rfl,rfl⟩,.inl rfl,⟨by simp[qas,hnl],rfl,rfl,rfl,rfl,rfl,rfl,rfl,rfl⟩,rfl,rfl⟩
 .rintro⟨s,hh⟩ ⟨g,m,rfl,hm,⟨hnn,hl,e2,e3,e4,e5,e6,e7,e8⟩,e9,e43,e44⟩
  simp only at hl e2 e3 e4 e5 e6 e7 e8 e9 e43 e44
  have hnl:∀j,qai s j ≠ .nils:=qar hnn
  unfold z3h
  generalize qax c A (qac c A)=K at *
  generalize qac c A=N at *
  rw[qad hl]
  simp[L86_0,List.range,List.range.loop,e2,e3,e4,e5,e6,e7,e8,e9,e43,e44]
  exact⟨_,_,⟨rfl,rfl⟩,hm,⟨by simp[qas,hnl],rfl,rfl,rfl,rfl,rfl,rfl,rfl,rfl⟩,rfl,rfl⟩
def jaa(c:Ct)(k i:Int)(cells:List V)(li v:Int)(gk mk:Nat)(K:List Txt)(n:Nat)(st:St):Prop:=∃g m,st.h=h83 c k i cells (b83 c g m n) ⟨0,.arr 1 (c.plus.map qbj)⟩ ⟨0,.arr 1 (c.minus.map qbj)⟩ ⟨g,.arr m (((c.signals.take n).map (qjh li v)).map Sg.row)⟩ [⟨0,.arr 0 []⟩,⟨gk,.arr mk (K.map qoe)⟩]/\(m=10\/m=0)/\Keep83 li st.s/\qai st.s 9=.sl 27 gk mk 0 K.length/\qai st.s 59=.imm (c.signals.map Sg.row)/\qai st.s 60=num c.signals.length/\qai st.s 61=num n
def jad(c:Ct)(k i:Int)(cells:List V)(li v:Int)(gk mk:Nat)(K:List Txt)(r:R):Prop:=r.x=.exit 2/\∃g m,r.st.h=h83 c k i cells (b83 c g m c.signals.length) ⟨0,.arr 1 (c.plus.map qbj)⟩ ⟨0,.arr 1 (c.minus.map qbj)⟩ ⟨g,.arr m ((c.signals.map (qjh li v)).map Sg.row)⟩ [⟨0,.arr 0 []⟩,⟨gk,.arr mk (K.map qoe)⟩]/\(m=10\/m=0)/\Keep83 li r.st.s/\qai r.st.s 9=.sl 27 gk mk 0 K.length
set_option maxHeartbeats 4000000 in
theorem zue{c:Ct}(hfew:c.small=true)(k i:Int)(cells:List V)(li v:Int)(hcs:qil v cells)(gk mk:Nat)(K:List Txt)(st:St)(h0:jaa c k i cells li v gk mk K 0 st):∃r,ev pg (.code (.going 28 L86_1) st)=some r/\jad c k i cells li v gk mk K r:=by
 obtain⟨f1,f2,f3,f4,f5,f6⟩:=qdp hfew
 refine qau (jaa c k i cells li v gk mk K) c.signals.length (jad c k i cells li v gk mk K) h0 ?_ ?_
 .rintro n ⟨s,hh⟩ hn ⟨g,m,rfl,hm,⟨hnn,hl,e2,e3,e4,e5,e6,e7,e8⟩,e9,e59,e60,e61⟩
  simp only at hl e2 e3 e4 e5 e6 e7 e8 e9 e59 e60 e61
  have hnl:∀j,qai s j ≠ .nils:=qar hnn
  have wn:=qbb (k:=n) (by omega)
  obtain⟨_,hon,hoff⟩:=f6 _ (jH hn)
  have h71a:=ev82 c.signals[n].on li v (qdr hon).1
  have h71b:=ev82 c.signals[n].off li v (qdr hoff).1
  have hsn:((c.signals.take (n+1)).map (qjh li v)).map Sg.row=((c.signals.take n).map (qjh li v)).map Sg.row++[(qjh li v c.signals[n]).row]:=by
   rw[jK hn,List.map_append,List.map_append];rfl
  have hln:(((c.signals.take n).map (qjh li v)).map Sg.row).length=n:=by
   rw[List.length_map,List.length_map,List.length_take];omega
  have hget:(c.signals.map Sg.row)[n]?=some c.signals[n].row:=by rw[List.getElem?_map,jA hn];rfl
  have hb:(n+1)*120<=140737488355328:=by omega
  have hn':(n:Int)<(c.signals.length:Int):=by omega
  unfold jaa
  rw[hsn]
  generalize c.signals[n]=x at *
  generalize ((c.signals.take n).map (qjh li v)).map Sg.row=W at *
  generalize c.signals.map Sg.row=G at *
  rw[qad hl]
  rcases hcs with⟨t,rfl⟩ | ⟨t,a,b,ha,hb',rfl⟩<;>rcases hm with rfl | rfl
  .simp[L86_1,List.range,List.range.loop,e2,e3,e4,e5,e6,e7,e8,e9,e59,e60,e61,h71a,h71b,hn',hln,hb,wn,hget]
   exact⟨_,_,⟨rfl,rfl⟩,.inl rfl,⟨by simp[qas,hnl],rfl,rfl,rfl,rfl,rfl,rfl,rfl,rfl⟩⟩
  .simp[L86_1,List.range,List.range.loop,e2,e3,e4,e5,e6,e7,e8,e9,e59,e60,e61,h71a,h71b,hn',hln,hb,wn,hget]
   exact⟨_,_,⟨rfl,rfl⟩,.inl rfl,⟨by simp[qas,hnl],rfl,rfl,rfl,rfl,rfl,rfl,rfl,rfl⟩⟩
  .have ha2:a<28:=by omega
   have hb2:b<28:=by omega
   simp[L86_1,List.range,List.range.loop,e2,e3,e4,e5,e6,e7,e8,e9,e59,e60,e61,h71a,h71b,hn',hln,hb,wn,hget,ha2,hb2]
   exact⟨_,_,⟨rfl,rfl⟩,.inl rfl,⟨by simp[qas,hnl],rfl,rfl,rfl,rfl,rfl,rfl,rfl,rfl⟩⟩
  .have ha2:a<28:=by omega
   have hb2:b<28:=by omega
   simp[L86_1,List.range,List.range.loop,e2,e3,e4,e5,e6,e7,e8,e9,e59,e60,e61,h71a,h71b,hn',hln,hb,wn,hget,ha2,hb2]
   exact⟨_,_,⟨rfl,rfl⟩,.inl rfl,⟨by simp[qas,hnl],rfl,rfl,rfl,rfl,rfl,rfl,rfl,rfl⟩⟩
 .rintro⟨s,hh⟩ ⟨g,m,rfl,hm,⟨hnn,hl,e2,e3,e4,e5,e6,e7,e8⟩,e9,e59,e60,e61⟩
  simp only at hl e2 e3 e4 e5 e6 e7 e8 e9 e59 e60 e61
  have hnl:∀j,qai s j ≠ .nils:=qar hnn
  rw[List.take_length]
  unfold jad
  generalize (c.signals.map (qjh li v)).map Sg.row=W at *
  rw[qad hl]
  simp[L86_1,List.range,List.range.loop,e2,e3,e4,e5,e6,e7,e8,e9,e59,e60,e61]
  exact⟨_,_,⟨rfl,rfl⟩,hm,⟨by simp[qas,hnl],rfl,rfl,rfl,rfl,rfl,rfl,rfl,rfl⟩⟩
end Go.Proofs.YtbepbclaoohngaaGreat
