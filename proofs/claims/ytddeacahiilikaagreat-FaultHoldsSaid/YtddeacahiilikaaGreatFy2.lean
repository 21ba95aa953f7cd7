/- Clones; is a text in a list? Are lists equal? Are expressions and controls equal? Are controls equal? The faulty control, by the program: names and signals. -/
import Derived.Test.YtddeacahiilikaaGreatFy1
set_option linter.all false
namespace Go.Proofs.YtddeacahiilikaaGreat
open Go Go.Am Go.Proofs
set_option maxRecDepth 100000
theorem ev105(l:List Txt)(hl:l.length<=4096):ev pg (.call (.fn 105 [] []) [.imm (l.map qld)] [])=some { v:=.sl 0 0 1 0 l.length,st:=⟨[],[⟨0,.arr 1 (l.map qld)⟩]⟩ }:=by
 rw[qac,pg105]
 cases l with
 | nil=>simp[ir105,qct,qel,qek]
 | cons x l =>
  have h47:(l.length+1)*16<=140737488355328:=by
   simp only[List.length_cons]at hl
   omega
  simp[ir105,h47,qct,qel,qek]
theorem ev106(l:List Int)(hl:l.length<=4096):ev pg (.call (.fn 106 [] []) [qcl l] [])=some { v:=.sl 0 0 1 0 l.length,st:=⟨[],[⟨0,.arr 1 (l.map qcc)⟩]⟩ }:=by
 rw[qac,pg106]
 cases l with
 | nil=>simp[ir106,qct,qel,qek]
 | cons x l =>
  have h47:(l.length+1)*8<=140737488355328:=by
   simp only[List.length_cons]at hl
   omega
  simp[ir106,h47,qct,qel,qek]
def isS(s x:Txt):Bool:=s==x
def z1c(K:List Txt)(t:Txt)(k:Nat)(st:St):Prop:=st.h=[]/\st.s.length=19/\qai st.s 0=.imm (K.map qld)/\qai st.s 1=.str t/\qai st.s 7=num K.length/\qai st.s 8=num k/\K.any (isS t)=(K.drop k).any (isS t)
def z5c(K:List Txt)(t:Txt)(r:R):Prop:=r.st.s.length=19/\((r.x=.exit 0/\r.st.h=[]/\K.any (isS t)=false)\/(r.x=.ret/\r.st.h=[]/\(∃k:Nat,qai r.st.s 4=num k)/\K.any (isS t)=true))
theorem zrj(K:List Txt)(t:Txt)(hK:K.length<=4096)(st:St)(h0:z1c K t 0 st):∃r,ev pg (.code (.going 0 L182_0) st)=some r/\z5c K t r:=by
 refine qaq (z1c K t) K.length (z5c K t) h0 ?_ ?_
 .rintro k ⟨s,hh⟩ hk ⟨rfl,hl,e0,e1,e7,e8,he⟩
  simp only at hl e0 e1 e7 e8
  have hk':(k:Int)<K.length:=by omega
  have wk:=qab (n:=(k:Int)+1) (by omega) (by omega)
  rw[zhj hk]at he
  rw[qad hl]
  by_cases hb:t=K[k]
  .have hb2:isS t K[k]=true:=by simpa[isS]using hb
   rw[hb2]at he
   have hb3:(t==K[k])=true:=by simpa using hb
   simp[L182_0,z5c,List.range,List.range.loop,e0,e1,e7,e8,hk,hk',hb3]
   exact⟨⟨k,rfl⟩,by simpa using he⟩
  .have hb2:isS t K[k]=false:=by simpa[isS]using hb
   rw[hb2]at he
   have hb3:(t==K[k])=false:=by simpa using hb
   simp[L182_0,z1c,List.range,List.range.loop,e0,e1,e7,e8,hk,hk',hb3,wk]
   simpa using he
 .rintro⟨s,hh⟩ ⟨rfl,hl,e0,e1,e7,e8,he⟩
  simp only[List.drop_length]at hl e0 e1 e7 e8 he
  have he':K.any (isS t)=false:=he
  rw[qad hl]
  simp[L182_0,z5c,List.range,List.range.loop,e0,e1,e7,e8]
  simpa using he'
theorem ev108(K:List Txt)(t:Txt)(hK:K.length<=4096):ev pg (.call (.fn 108 [] []) [.imm (K.map qld),.str t] [])=some { v:=.bool (K.any (isS t)),st:=⟨[],[]⟩ }:=by
 have hloop:=zrj K t hK
 have h152:∃r:Int,ev pg (.call (.fn 182 [] []) [.imm (K.map qld),.str t] [])=some { v:=num r,st:=⟨[],[]⟩ }/\decide (0<=r)=K.any (isS t):=by
  unfold z5c at hloop
  have hI:∀st:St,z1c K t 0 st<->(st.h=[]/\st.s.length=19/\qai st.s 0=.imm (K.map qld)/\qai st.s 1=.str t/\qai st.s 7=num K.length/\qai st.s 8=num 0):=fun st=>by
   unfold z1c
   exact⟨fun h=>⟨h.1,h.2.1,h.2.2.1,h.2.2.2.1,h.2.2.2.2.1,h.2.2.2.2.2.1⟩,fun h=>⟨h.1,h.2.1,h.2.2.1,h.2.2.2.1,h.2.2.2.2.1,h.2.2.2.2.2,rfl⟩⟩
  generalize K.any (isS t)=B at *
  rw[qac,pg182]
  simp[ir182,qag]
  generalize hr:ev pg (.code (.going _ L182_0) _)=o
  obtain⟨r,rfl,hl,hQ⟩:∃r,o=some r/\_:=by
   rw[<-hr]
   exact hloop _ ((hI _).2 ⟨by simp,by simp,by simp,by simp,by simp,by simp⟩)
  rcases hQ with⟨hx,hh,rfl⟩ | ⟨hx,hh,⟨k,h4⟩,rfl⟩
  .simp[hx,hh,hl]
  .simp[hx,h4]
 obtain⟨r,h152,hr⟩:=h152
 rw[qac,pg108,<-hr]
 simp[ir108,h152]
theorem zgg(K:List Txt)(t:Txt):K.any (isS t)=decide (t∈K):=by
 rw[Bool.eq_iff_iff,List.any_eq_true,jW]
 constructor
 .rintro⟨x,hx,e⟩
  unfold isS at e
  rw[beq_iff_eq]at e
  rw[e];exact hx
 .intro h
  exact⟨t,h,by simp[isS]⟩
def I38(a b:List Int)(k:Nat)(st:St):Prop:=st.h=[]/\st.s.length=26/\qai st.s 0=.imm (a.map qcc)/\qai st.s 1=.imm (b.map qcc)/\qai st.s 12=num a.length/\qai st.s 13=num k/\decide (a=b)=decide (a.drop k=b.drop k)
def Q38(a b:List Int)(r:R):Prop:=r.st.s.length=26/\r.st.h=[]/\((r.x=.exit 0/\decide (a=b)=true)\/(r.x=.ret/\qai r.st.s 4=.bool false/\decide (a=b)=false))
theorem z2f(a b:List Int)(hab:b.length=a.length)(ha:a.length<=4096)(st:St)(h0:I38 a b 0 st):∃r,ev pg (.code (.going 0 L40_0) st)=some r/\Q38 a b r:=by
 refine qaq (I38 a b) a.length (Q38 a b) h0 ?_ ?_
 .rintro k ⟨s,hh⟩ hk ⟨rfl,hl,e0,e1,e12,e13,he⟩
  simp only at hl e0 e1 e12 e13
  have hk':(k:Int)<a.length:=by omega
  have hkb:k<b.length:=by omega
  have wk:=qab (n:=(k:Int)+1) (by omega) (by omega)
  rw[jL hk,jL hkb]at he
  rw[qad hl]
  by_cases hb:a[k]=b[k]
  .have he':decide (a=b)=decide (a.drop (k+1)=b.drop (k+1)):=by rw[he];simp only[List.cons.injEq,hb,true_and]
   simp[L40_0,I38,List.range,List.range.loop,e0,e1,e12,e13,hk,hk',hkb,hb,wk]
   simpa using he'
  .have he':decide (a=b)=false:=by rw[he];simp only[List.cons.injEq,hb,false_and,decide_false]
   simp[L40_0,Q38,List.range,List.range.loop,e0,e1,e12,e13,hk,hk',hkb,hb]
   simpa using he'
 .rintro⟨s,hh⟩ ⟨rfl,hl,e0,e1,e12,e13,he⟩
  simp only[List.drop_length]at hl e0 e1 e12 e13 he
  rw[show List.drop a.length b=[]by rw[<-hab];exact List.drop_length]at he
  have he':decide (a=b)=true:=by rw[he];rfl
  rw[qad hl]
  simp[L40_0,Q38,List.range,List.range.loop,e0,e1,e12,e13]
  simpa using he'
theorem ev40(a b:List Int)(ha:a.length<=4096):ev pg (.call (.fn 40 [] []) [.imm (a.map qcc),.imm (b.map qcc)] [])=some { v:=.bool (decide (a=b)),st:=⟨[],[]⟩ }:=by
 by_cases hab:b.length=a.length
 .have hloop:=z2f a b hab ha
  have hab':(b.length:Int)=a.length:=by omega
  unfold Q38 at hloop
  have hI:∀st:St,I38 a b 0 st<->(st.h=[]/\st.s.length=26/\qai st.s 0=.imm (a.map qcc)/\qai st.s 1=.imm (b.map qcc)/\qai st.s 12=num a.length/\qai st.s 13=num 0):=fun st=>by
   unfold I38
   exact⟨fun h=>⟨h.1,h.2.1,h.2.2.1,h.2.2.2.1,h.2.2.2.2.1,h.2.2.2.2.2.1⟩,fun h=>⟨h.1,h.2.1,h.2.2.1,h.2.2.2.1,h.2.2.2.2.1,h.2.2.2.2.2,rfl⟩⟩
  generalize decide (a=b)=B at *
  rw[qac,pg40]
  simp[ir40,qag,hab']
  generalize hr:ev pg (.code (.going _ L40_0) _)=o
  obtain⟨r,rfl,hl,hh,hQ⟩:∃r,o=some r/\_:=by
   rw[<-hr]
   exact hloop _ ((hI _).2 ⟨by simp,by simp,by simp,by simp,by simp,by simp⟩)
  rcases hQ with⟨hx,rfl⟩ | ⟨hx,h4,rfl⟩
  .simp[hx,hh,hl]
  .simp[hx,h4]
 .have hd:decide (a=b)=false:=by
   rw[decide_eq_false_iff_not]
   intro e
   exact hab (by rw[e])
  have hne:((a.length:Int) != (b.length:Int))=true:=by
   rw[bne_iff_ne];omega
  rw[hd,qac,pg40]
  simp[ir40,hne]
mutual
def Ex.same:Ex->Ex->Bool
 | .mk o i l,.mk o' i' l'=>o==o'&&(i==i'&&qip l l')
def qip:List Ex->List Ex->Bool
 | [],[]=>true
 | x :: l,y :: l'=>x.same y&&qip l l'
 | _,_=>false
end
theorem zvv(x y:Ex):x.same y=(x.op==y.op&&(x.idx==y.idx&&qip x.args y.args)):=by cases x;cases y;rw[Ex.same];rfl
theorem zme{l l':List Ex}{k:Nat}(hk:k<l.length)(hk':k<l'.length):qip (l.drop k) (l'.drop k)=(l[k].same l'[k]&&qip (l.drop (k+1)) (l'.drop (k+1))):=by
 rw[jL hk,jL hk',qip]
theorem q1m:∀{l l':List Ex},qip l l'=true->l'.length=l.length
 | [],[],_=>rfl
 | x :: l,y :: l',h=>by
  rw[qip,jE]at h
  rw[List.length_cons,List.length_cons,q1m h.2]
 | [],y :: l',h=>by simp[qip]at h
 | x :: l,[],h=>by simp[qip]at h
mutual
theorem q9t:∀{x y:Ex},x.same y=true<->x=y
 | .mk o i l,.mk o' i' l'=>by
  rw[Ex.same,jE,jE,beq_iff_eq,beq_iff_eq,q4b,Ex.mk.injEq]
theorem q4b:∀{l l':List Ex},qip l l'=true<->l=l'
 | [],[]=>by rw[qip];simp
 | x :: l,y :: l'=>by rw[qip,jE,q9t,q4b,List.cons.injEq]
 | [],y :: l'=>by simp[qip]
 | x :: l,[]=>by simp[qip]
end
def q6n(a b:Sg):Bool:=a.name==b.name&&(a.kind==b.kind&&(a.delay==b.delay&&(a.init==b.init&&(a.on.same b.on&&a.off.same b.off))))
theorem zdl{a b:Sg}:q6n a b=true<->a=b:=by
 obtain⟨n,k,x,y,d,i⟩:=a
 obtain⟨n',k',x',y',d',i'⟩:=b
 simp only[q6n,jE,beq_iff_eq,q9t,Sg.mk.injEq]
 constructor
 .rintro⟨h1,h2,h3,h4,h5,h6⟩
  exact⟨h1,h2,h5,h6,h3,h4⟩
 .rintro⟨h1,h2,h5,h6,h3,h4⟩
  exact⟨h1,h2,h3,h4,h5,h6⟩
def qhc(a b:List Sg):Bool:=match a,b with
 | [],[]=>true
 | x :: l,y :: l'=>q6n x y&&qhc l l'
 | _,_=>false
theorem zik{l l':List Sg}{k:Nat}(hk:k<l.length)(hk':k<l'.length):qhc (l.drop k) (l'.drop k)=(q6n l[k] l'[k]&&qhc (l.drop (k+1)) (l'.drop (k+1))):=by
 rw[jL hk,jL hk',qhc]
theorem qqv:∀{l l':List Sg},qhc l l'=true<->l=l'
 | [],[]=>by simp[qhc]
 | x :: l,y :: l'=>by rw[qhc,jE,zdl,qqv,List.cons.injEq]
 | [],y :: l'=>by simp[qhc]
 | x :: l,[]=>by simp[qhc]
def znl(a b:Ct):Bool:=a.act==b.act&&(decide (a.inputs=b.inputs)&&(qhc a.signals b.signals&&(decide (a.plus=b.plus)&&decide (a.minus=b.minus))))
theorem zij{a b:Ct}:znl a b=true<->a=b:=by
 obtain⟨n,k,x,y,d⟩:=a
 obtain⟨n',k',x',y',d'⟩:=b
 simp only[znl,jE,beq_iff_eq,qqv,jW,Ct.mk.injEq]
def z4w:C:=.seq (.reg [⟨some 155,none,.load true 5 (.t 8)⟩,
  ⟨some 156,none,.mv (.t 15)⟩,
  ⟨none,none,.store 5 (.t 4) (.t 155)⟩,
  ⟨some 5,none,.mv (.t 156)⟩])
 (.ret)
def zuj:C:=.seq (.reg [⟨some 15,none,.mv (.c (.nils))⟩])
 (.seq (.seq (.reg [⟨some 92,none,.bslice false 1 [.str []] 2 [(0,(.c (.str [115,116,117,99,107,48]))),(1,(.c (.str [115,116,117,99,107,49])))]⟩,
  ⟨some 93,none,.len false (.t 92)⟩,
  ⟨some 94,none,.mv (.c (.int .i64 0))⟩])
 (.block 4 (.loop L42_4))) z4w)
def zti:C:=.seq (.seq (.reg [⟨some 58,none,.faddr 2 (.t 2)⟩,
  ⟨some 59,none,.load false 1 (.t 58)⟩,
  ⟨some 60,none,.len false (.t 59)⟩,
  ⟨some 61,none,.mv (.c (.int .i64 0))⟩])
 (.block 2 (.loop L42_1))) zuj
def zzi:C:=.seq (.seq (.reg [⟨some 42,none,.load true 5 (.t 2)⟩,
  ⟨some 43,none,.call (.c (.fn 102 [] [])) [.t 42]⟩,
  ⟨some 44,none,.mv (.c (.int .i64 0))⟩])
 (.block 0 (.loop L42_0))) zti
theorem ir42_eq:ir42=.mk 157 [.cell 4 true 5,.t 5] (
 .seq (.reg [⟨some 2,none,.box (.t 0)⟩,
  ⟨some 3,none,.box (.t 1)⟩,
  ⟨some 4,none,.alloc [.int .i64 0,.nils,.nils,.nils,.nils]⟩,
  ⟨some 5,none,.mv (.c (.nils))⟩])
 (.seq (.draw [⟨some 6,none,.alloc [.str [],.bool false,.int .i64 0,.nilfn]⟩,
  ⟨some 22,none,.call (.c (.fn 98 [] [])) []⟩,
  ⟨some 23,none,.faddr 0 (.t 3)⟩,
  ⟨some 24,none,.load false 1 (.t 23)⟩,
  ⟨some 25,none,.idxA true 6 4 (.t 22) (.t 24)⟩,
  ⟨none,none,.store 4 (.t 6) (.t 25)⟩] [(3,1)])
 (.seq (.reg [⟨some 7,none,.mv (.c (.int .i64 (-1)))⟩])
 (.seq (.seq (.reg [⟨some 26,none,.faddr 1 (.t 6)⟩,
  ⟨some 27,none,.load false 1 (.t 26)⟩])
 (.cond (.t 27) (.reg [⟨some 28,none,.faddr 1 (.t 3)⟩,
   ⟨some 29,none,.load false 1 (.t 28)⟩,
   ⟨some 7,none,.mv (.t 29)⟩])
  (.skip)))
 (.seq (.draw [⟨some 8,none,.alloc [.int .i64 0,.nils,.nils,.nils,.nils]⟩,
  ⟨some 30,none,.faddr 0 (.t 2)⟩,
  ⟨some 31,none,.load false 1 (.t 30)⟩,
  ⟨some 32,none,.faddr 1 (.t 2)⟩,
  ⟨some 33,none,.load false 1 (.t 32)⟩,
  ⟨some 34,none,.call (.c (.fn 105 [] [])) [.t 33]⟩,
  ⟨some 35,none,.faddr 3 (.t 2)⟩,
  ⟨some 36,none,.load false 1 (.t 35)⟩,
  ⟨some 37,none,.call (.c (.fn 106 [] [])) [.t 36]⟩,
  ⟨some 38,none,.faddr 4 (.t 2)⟩,
  ⟨some 39,none,.load false 1 (.t 38)⟩,
  ⟨some 40,none,.call (.c (.fn 106 [] [])) [.t 39]⟩,
  ⟨some 41,none,.build [.int .i64 0,.nils,.nils,.nils,.nils] [(0,1,(.t 31)),(1,1,(.t 34)),(3,1,(.t 37)),(4,1,(.t 40))]⟩,
  ⟨none,none,.store 5 (.t 8) (.t 41)⟩] [(2,5),(2,8),(2,11),(7,5),(10,5),(10,8)])
 (.seq (.reg [⟨some 9,none,.mv (.c (.nils))⟩]) zzi)))))) false false:=rfl
abbrev h83(c:Ct)(k i:Int)(cells:List V)(B:List V)(P M S:Ob)(t:H):H:=⟨0,.box c.cells⟩ :: ⟨0,.box [num k,num i]⟩ :: ⟨0,.arr 0 []⟩ :: ⟨0,.arr 0 []⟩ :: ⟨0,.arr 0 []⟩ :: ⟨0,.arr 0 []⟩ :: ⟨0,.box [num 0,.sl 2 0 0 0 0,.sl 3 0 0 0 0,.sl 4 0 0 0 0,.sl 5 0 0 0 0]⟩ :: ⟨0,.box cells⟩ :: ⟨0,.box (kC 8)⟩ :: kTa (⟨0,.arr 0 []⟩ :: ⟨0,.arr 0 []⟩ :: ⟨0,.arr 0 []⟩ :: ⟨0,.arr 0 []⟩ :: ⟨0,.box B⟩ :: ⟨0,.arr 1 (c.inputs.map qld)⟩ :: P :: M :: S :: t)
structure Keep83(li:Int)(st:List V):Prop where
 nn:qat st
 len:st.length=157
 t2:qai st 2=.bptr 0 0
 t3:qai st 3=.bptr 1 0
 t4:qai st 4=.bptr 6 0
 t5:qai st 5=.sl 26 0 0 0 0
 t6:qai st 6=.bptr 7 0
 t7:qai st 7=num li
 t8:qai st 8=.bptr 21 0
abbrev b83(c:Ct)(gs ms ns:Nat):List V:=[num c.act,.sl 22 0 1 0 c.inputs.length,.sl 25 gs ms 0 ns,.sl 23 0 1 0 c.plus.length,.sl 24 0 1 0 c.minus.length]
def qhu(v:Int)(x:List V):Prop:=(∃t,x=[.str t,.bool true,num v,.nilfn])\/(∃t a b,a<17/\b<17/\x=[.str t,.bool false,num v,.fn 178 [] [.bptr a 0,.bptr b 0]])
def z1d(c:Ct)(A:Nat)(k i:Int)(cells:List V)(li:Int)(n:Nat)(st:St):Prop:=∃g m,st.h=h83 c k i cells (b83 c 0 0 0) ⟨0,.arr 1 (c.plus.map qcc)⟩ ⟨0,.arr 1 (c.minus.map qcc)⟩ ⟨0,.arr 0 []⟩ [⟨0,.arr 0 []⟩,⟨g,.arr m ((qbs c A n).map qld)⟩]/\(m=1\/m=0)/\Keep83 li st.s/\qai st.s 9=.sl 27 g m 0 n/\qai st.s 43=num (qae c A)/\qai st.s 44=num n
def z9a(c:Ct)(A:Nat)(k i:Int)(cells:List V)(li:Int)(r:R):Prop:=r.x=.exit 0/\∃g m,r.st.h=h83 c k i cells (b83 c 0 0 0) ⟨0,.arr 1 (c.plus.map qcc)⟩ ⟨0,.arr 1 (c.minus.map qcc)⟩ ⟨0,.arr 0 []⟩ [⟨0,.arr 0 []⟩,⟨g,.arr m ((qbs c A (qae c A)).map qld)⟩]/\(m=1\/m=0)/\Keep83 li r.st.s/\qai r.st.s 9=.sl 27 g m 0 (qae c A)
theorem zau(c:Ct)(A n:Nat):qbs c A (n+1)=qbs c A n++[qbm c A n]:=by
 unfold qbs
 rw[List.range_succ,List.map_append]
 rfl
theorem q2p(c:Ct)(A n:Nat):(qbs c A n).length=n:=by simp[qbs]
set_option maxHeartbeats 4000000 in
theorem zhu{c:Ct}(hfew:c.small=true)(hc:c.check=0)(A:Nat)(hA:c.act.toNat=A)(k i:Int)(cells:List V)(v:Int)(hcs:qhu v cells)(li:Int)(st:St)(h0:z1d c A k i cells li 0 st):∃r,ev pg (.code (.going 28 L42_0) st)=some r/\z9a c A k i cells li r:=by
 have hM:=qdo hc hfew
 rw[hA]at hM
 have hcN:qae c A<=172:=by
  obtain⟨_,g1,g2,g3,g4⟩:=hM
  unfold qae
  omega
 refine qaq (z1d c A k i cells li) (qae c A) (z9a c A k i cells li) h0 ?_ ?_
 .rintro n ⟨s,hh⟩ hn ⟨g,m,rfl,hm,⟨hnn,hl,e2,e3,e4,e5,e6,e7,e8⟩,e9,e43,e44⟩
  simp only at hl e2 e3 e4 e5 e6 e7 e8 e9 e43 e44
  have hnl:∀j,qai s j ≠ .nils:=qar hnn
  have wn:=qab (n:=(n:Int)+1) (by omega) (by omega)
  have h120:=ev107 c hfew hc n (by rw[hA];exact hn)
  rw[hA]at h120
  have hsn:=zau c A n
  have hln:=q2p c A n
  have hb:(n+1)*16<=140737488355328:=by omega
  have hn':(n:Int)<(qae c A:Nat):=by omega
  unfold z1d
  rw[hsn]
  generalize qbm c A n=nm at *
  generalize qbs c A n=K at *
  generalize qae c A=N at *
  rw[qad hl]
  rcases hcs with⟨t,rfl⟩ | ⟨t,a,b,ha,hb',rfl⟩<;>rcases hm with rfl | rfl
  .simp[L42_0,List.range,List.range.loop,e2,e3,e4,e5,e6,e7,e8,e9,e43,e44,h120,hn',hln,hb,wn]
   exact⟨_,_,⟨rfl,rfl⟩,.inl rfl,⟨by simp[qat,hnl],rfl,rfl,rfl,rfl,rfl,rfl,rfl,rfl⟩,rfl,rfl⟩
  .simp[L42_0,List.range,List.range.loop,e2,e3,e4,e5,e6,e7,e8,e9,e43,e44,h120,hn',hln,hb,wn]
   exact⟨_,_,⟨rfl,rfl⟩,.inl rfl,⟨by simp[qat,hnl],rfl,rfl,rfl,rfl,rfl,rfl,rfl,rfl⟩,rfl,rfl⟩
  .have ha2:a<28:=by omega
   have hb2:b<28:=by omega
   simp[L42_0,List.range,List.range.loop,e2,e3,e4,e5,e6,e7,e8,e9,e43,e44,h120,hn',hln,hb,wn,ha2,hb2]
   exact⟨_,_,⟨rfl,rfl⟩,.inl rfl,⟨by simp[qat,hnl],rfl,rfl,rfl,rfl,rfl,rfl,rfl,rfl⟩,rfl,rfl⟩
  .have ha2:a<28:=by omega
   have hb2:b<28:=by omega
   simp[L42_0,List.range,List.range.loop,e2,e3,e4,e5,e6,e7,e8,e9,e43,e44,h120,hn',hln,hb,wn,ha2,hb2]
   exact⟨_,_,⟨rfl,rfl⟩,.inl rfl,⟨by simp[qat,hnl],rfl,rfl,rfl,rfl,rfl,rfl,rfl,rfl⟩,rfl,rfl⟩
 .rintro⟨s,hh⟩ ⟨g,m,rfl,hm,⟨hnn,hl,e2,e3,e4,e5,e6,e7,e8⟩,e9,e43,e44⟩
  simp only at hl e2 e3 e4 e5 e6 e7 e8 e9 e43 e44
  have hnl:∀j,qai s j ≠ .nils:=qar hnn
  unfold z9a
  generalize qbs c A (qae c A)=K at *
  generalize qae c A=N at *
  rw[qad hl]
  simp[L42_0,List.range,List.range.loop,e2,e3,e4,e5,e6,e7,e8,e9,e43,e44]
  exact⟨_,_,⟨rfl,rfl⟩,hm,⟨by simp[qat,hnl],rfl,rfl,rfl,rfl,rfl,rfl,rfl,rfl⟩,rfl,rfl⟩
def jds(c:Ct)(k i:Int)(cells:List V)(li v:Int)(gk mk:Nat)(K:List Txt)(n:Nat)(st:St):Prop:=∃g m,st.h=h83 c k i cells (b83 c g m n) ⟨0,.arr 1 (c.plus.map qcc)⟩ ⟨0,.arr 1 (c.minus.map qcc)⟩ ⟨g,.arr m (((c.signals.take n).map (qwn li v)).map Sg.row)⟩ [⟨0,.arr 0 []⟩,⟨gk,.arr mk (K.map qld)⟩]/\(m=10\/m=0)/\Keep83 li st.s/\qai st.s 9=.sl 27 gk mk 0 K.length/\qai st.s 59=.imm (c.signals.map Sg.row)/\qai st.s 60=num c.signals.length/\qai st.s 61=num n
def jfz(c:Ct)(k i:Int)(cells:List V)(li v:Int)(gk mk:Nat)(K:List Txt)(r:R):Prop:=r.x=.exit 2/\∃g m,r.st.h=h83 c k i cells (b83 c g m c.signals.length) ⟨0,.arr 1 (c.plus.map qcc)⟩ ⟨0,.arr 1 (c.minus.map qcc)⟩ ⟨g,.arr m ((c.signals.map (qwn li v)).map Sg.row)⟩ [⟨0,.arr 0 []⟩,⟨gk,.arr mk (K.map qld)⟩]/\(m=10\/m=0)/\Keep83 li r.st.s/\qai r.st.s 9=.sl 27 gk mk 0 K.length
set_option maxHeartbeats 4000000 in
theorem zwx{c:Ct}(hfew:c.small=true)(k i:Int)(cells:List V)(li v:Int)(hcs:qhu v cells)(gk mk:Nat)(K:List Txt)(st:St)(h0:jds c k i cells li v gk mk K 0 st):∃r,ev pg (.code (.going 28 L42_1) st)=some r/\jfz c k i cells li v gk mk K r:=by
 obtain⟨f1,f2,f3,f4,f5,f6⟩:=qcf hfew
 refine qaq (jds c k i cells li v gk mk K) c.signals.length (jfz c k i cells li v gk mk K) h0 ?_ ?_
 .rintro n ⟨s,hh⟩ hn ⟨g,m,rfl,hm,⟨hnn,hl,e2,e3,e4,e5,e6,e7,e8⟩,e9,e59,e60,e61⟩
  simp only at hl e2 e3 e4 e5 e6 e7 e8 e9 e59 e60 e61
  have hnl:∀j,qai s j ≠ .nils:=qar hnn
  have wn:=qab (n:=(n:Int)+1) (by omega) (by omega)
  obtain⟨_,hon,hoff⟩:=f6 _ (jH hn)
  have h71a:=ev100 c.signals[n].on li v (qbx hon).1
  have h71b:=ev100 c.signals[n].off li v (qbx hoff).1
  have hsn:((c.signals.take (n+1)).map (qwn li v)).map Sg.row=((c.signals.take n).map (qwn li v)).map Sg.row++[(qwn li v c.signals[n]).row]:=by
   rw[jK hn,List.map_append,List.map_append];rfl
  have hln:(((c.signals.take n).map (qwn li v)).map Sg.row).length=n:=by
   rw[List.length_map,List.length_map,List.length_take];omega
  have hget:(c.signals.map Sg.row)[n]?=some c.signals[n].row:=by rw[List.getElem?_map,jA hn];rfl
  have hb:(n+1)*120<=140737488355328:=by omega
  have hn':(n:Int)<(c.signals.length:Int):=by omega
  unfold jds
  rw[hsn]
  generalize c.signals[n]=x at *
  generalize ((c.signals.take n).map (qwn li v)).map Sg.row=W at *
  generalize c.signals.map Sg.row=G at *
  rw[qad hl]
  rcases hcs with⟨t,rfl⟩ | ⟨t,a,b,ha,hb',rfl⟩<;>rcases hm with rfl | rfl
  .simp[L42_1,List.range,List.range.loop,e2,e3,e4,e5,e6,e7,e8,e9,e59,e60,e61,h71a,h71b,hn',hln,hb,wn,hget]
   exact⟨_,_,⟨rfl,rfl⟩,.inl rfl,⟨by simp[qat,hnl],rfl,rfl,rfl,rfl,rfl,rfl,rfl,rfl⟩⟩
  .simp[L42_1,List.range,List.range.loop,e2,e3,e4,e5,e6,e7,e8,e9,e59,e60,e61,h71a,h71b,hn',hln,hb,wn,hget]
   exact⟨_,_,⟨rfl,rfl⟩,.inl rfl,⟨by simp[qat,hnl],rfl,rfl,rfl,rfl,rfl,rfl,rfl,rfl⟩⟩
  .have ha2:a<28:=by omega
   have hb2:b<28:=by omega
   simp[L42_1,List.range,List.range.loop,e2,e3,e4,e5,e6,e7,e8,e9,e59,e60,e61,h71a,h71b,hn',hln,hb,wn,hget,ha2,hb2]
   exact⟨_,_,⟨rfl,rfl⟩,.inl rfl,⟨by simp[qat,hnl],rfl,rfl,rfl,rfl,rfl,rfl,rfl,rfl⟩⟩
  .have ha2:a<28:=by omega
   have hb2:b<28:=by omega
   simp[L42_1,List.range,List.range.loop,e2,e3,e4,e5,e6,e7,e8,e9,e59,e60,e61,h71a,h71b,hn',hln,hb,wn,hget,ha2,hb2]
   exact⟨_,_,⟨rfl,rfl⟩,.inl rfl,⟨by simp[qat,hnl],rfl,rfl,rfl,rfl,rfl,rfl,rfl,rfl⟩⟩
 .rintro⟨s,hh⟩ ⟨g,m,rfl,hm,⟨hnn,hl,e2,e3,e4,e5,e6,e7,e8⟩,e9,e59,e60,e61⟩
  simp only at hl e2 e3 e4 e5 e6 e7 e8 e9 e59 e60 e61
  have hnl:∀j,qai s j ≠ .nils:=qar hnn
  rw[List.take_length]
  unfold jfz
  generalize (c.signals.map (qwn li v)).map Sg.row=W at *
  rw[qad hl]
  simp[L42_1,List.range,List.range.loop,e2,e3,e4,e5,e6,e7,e8,e9,e59,e60,e61]
  exact⟨_,_,⟨rfl,rfl⟩,hm,⟨by simp[qat,hnl],rfl,rfl,rfl,rfl,rfl,rfl,rfl,rfl⟩⟩
end Go.Proofs.YtddeacahiilikaaGreat
