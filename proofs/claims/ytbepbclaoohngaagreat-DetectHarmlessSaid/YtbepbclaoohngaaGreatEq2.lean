/- Are expressions and controls equal?. -/
import Derived.Test.YtbepbclaoohngaaGreatTo3
set_option linter.all false
namespace Go.Proofs.YtbepbclaoohngaaGreat
open Go Go.Am Go.Proofs
set_option maxRecDepth 100000
theorem ev143(c:Ct)(hfew:c.small=true)(hc:c.check=0)(i:Nat)(hi:i<qad c c.act.toNat):ev pg (.call (.fn 143 [] []) [c.v,num i] [])=some { v:=.tup [.str (qbl c c.act.toNat i),num 0],st:=⟨[],[]⟩ }:=by
 have hR:=qgq hc hfew
 have h29:=ev87 c hfew
 have h133:=ev205 hR.mid
 have h127:=ev206 hR.mid i hi
 rw[hc]at h29
 have hlt:¬((qad c c.act.toNat:Int)<=(i:Int)):=by omega
 have h0:¬((i:Int)<0):=by omega
 generalize qad c c.act.toNat=N at *
 rw[qab,pg143]
 simp[ir143,h29,h133,h127,h0,hlt]
theorem zrv{α:Type}[DecidableEq α](f:Nat->α)(hf:∀i j,f i=f j->i=j):∀(n:Nat) (K:List α),(∀j,j<n->f j∈K)->n<=K.length
 | 0,_,_=>Nat.zero_le _
 | n+1,K,h=>by
  have h1:=h n (by omega)
  have h2:=List.length_erase_of_mem h1
  have h3:=List.length_pos_of_mem h1
  have ih:=zrv f hf n (K.erase (f n)) fun j hj=>(List.mem_erase_of_ne (fun e=>by have:=hf _ _ e;omega)).2 (h j (by omega))
  omega
abbrev qgu(s:Txt)(j:Nat):Txt:=s++List.replicate j 95
theorem zle(s:Txt)(i j:Nat)(h:qgu s i=qgu s j):i=j:=by
 have:=congrArg List.length h
 simp at this
 exact this
def qju(K:List Txt)(s:Txt)(n:Nat):Nat->Nat
 | 0=>n
 | m+1=>if qgu s n∈K then qju K s (n+1) m else n
def qus(K:List Txt)(s:Txt):Nat:=qju K s 0 (K.length+1)
theorem qwc(K:List Txt)(s:Txt):∀(m n:Nat),(∀j,j<n->qgu s j∈K)->∀j,j<qju K s n m->qgu s j∈K
 | 0,n,h=>h
 | m+1,n,h=>by
  unfold qju
  split
  .rename_i hn
   refine qwc K s m (n+1) fun j hj=>?_
   by_cases e:j=n
   .rw[e];exact hn
   .exact h j (by omega)
  .exact h
theorem qtx(K:List Txt)(s:Txt):∀(m n:Nat),qju K s n m<n+m->¬qgu s (qju K s n m)∈K
 | 0,n,h=>absurd h (by unfold qju;omega)
 | m+1,n,h=>by
  unfold qju at h ⊢
  split
  .rename_i hn
   rw[if_pos hn]at h
   exact qtx K s m (n+1) (by omega)
  .rename_i hn
   exact hn
theorem q8a(K:List Txt)(s:Txt):∀j,j<qus K s->qgu s j∈K:=qwc K s _ 0 fun j hj=>by omega
theorem q2f(K:List Txt)(s:Txt):qus K s<=K.length:=zrv (qgu s) (zle s) _ K (q8a K s)
theorem zap(K:List Txt)(s:Txt):¬qgu s (qus K s)∈K:=qtx K s _ 0 (by have:=q2f K s;unfold qus at this;omega)
def qfq(K:List Txt)(s:Txt):Txt:=qgu s (qus K s)
theorem zdd(K:List Txt)(s:Txt):(qfq K s).length<=s.length+K.length:=by
 have:=q2f K s
 unfold qfq
 simp
 omega
def qhc(k i:Int):Int:=if k=2\/k=3 then i else -1
abbrev qih(n v:Int)(x:Sg):Sg:=⟨x.name,x.kind,x.on.repl n v,x.off.repl n v,x.delay,x.init⟩
def qco(f:Nat->Bool)(next:Int):Nat->List Int->List Int
 | 0,l=>l
 | j+1,l=>if f j=true then(qco f next j l).set j next else qco f next j l
theorem qdo(f:Nat->Bool)(next:Int)(l:List Int):∀j,(qco f next j l).length=l.length
 | 0=>rfl
 | j+1=>by
  have ih:=qdo f next l j
  unfold qco
  split
  .rw[jU,ih]
  .exact ih
def zbk(p:Nat->Bool):Nat->Bool
 | 0=>false
 | j+1=>zbk p j||p j
abbrev qbv(v:Int):Txt:=[115,116,117,99,107,if v=0 then 48 else 49]
abbrev qwj(name:Txt)(v:Int):Sg:=⟨name,0,.mk 0 v [],.mk 0 0 [],0,false⟩
structure Fs where
 d:Ct
 K:List Txt
 w:List Bool
abbrev qps(c:Ct)(k i v:Int)(j:Nat):Bool:=(pil c k i j).1==v
abbrev qpr(c:Ct)(k i v:Int)(j:Nat):Bool:=(pil c k i j).2==v
def qew(c:Ct)(k i v:Int)(A:Nat):Bool:=zbk (fun j=>qps c k i v j||qpr c k i v j) A
def qba(c:Ct)(k i:Int)(A:Nat)(v:Int)(s:Fs):Fs :=
 ⟨⟨s.d.act,s.d.inputs,if qew c k i v A=true then s.d.signals++[qwj (qfq s.K (qbv v)) v]else s.d.signals,qco (qps c k i v) (qad s.d A) A s.d.plus,qco (qpr c k i v) (qad s.d A) A s.d.minus⟩,
  if qew c k i v A=true then s.K++[qfq s.K (qbv v)]else s.K,if qew c k i v A=true then s.w++[v==1]else s.w⟩
def qbi(c:Ct)(k i:Int)(A:Nat):Fs:=⟨⟨c.act,c.inputs,c.signals.map (qih (qhc k i) (qcd k)),c.plus,c.minus⟩,qax c A (qad c A),[]⟩
def qcq(c:Ct)(k i:Int):Fs:=qba c k i c.act.toNat 1 (qba c k i c.act.toNat 0 (qbi c k i c.act.toNat))
mutual
theorem q0w(n v:Int):∀x:Ex,(x.repl n v).nodes<=x.nodes
 | .mk o i l=>by
  rw[Ex.repl]
  split
  .rw[Ex.nodes,Ex.nodes,qdj];omega
  .rw[Ex.nodes,Ex.nodes]
   have:=qxv n v l
   omega
theorem qxv(n v:Int):∀l:List Ex,qdj (qte n v l)<=qdj l
 | []=>jD _
 | x :: l=>by
  rw[qte,qdj,qdj]
  have h1:=q0w n v x
  have h2:=qxv n v l
  omega
end
mutual
theorem q0u(n v:Int):∀x:Ex,(x.repl n v).depth<=x.depth
 | .mk o i l=>by
  rw[Ex.repl]
  split
  .rw[Ex.depth,Ex.depth,qgv];omega
  .rw[Ex.depth,Ex.depth]
   have:=qxt n v l
   omega
theorem qxt(n v:Int):∀l:List Ex,qgv (qte n v l)<=qgv l
 | []=>jD _
 | x :: l=>by
  rw[qte,qgv,qgv]
  have h1:=q0u n v x
  have h2:=qxt n v l
  omega
end
theorem q0v{n v:Int}{x:Ex}(h:x.light=true):(x.repl n v).light=true:=by
 obtain⟨h1,h2⟩:=qcr h
 have h3:=q0w n v x
 have h4:=q0u n v x
 simp only[Ex.light,jE,jW]
 omega
theorem zcb{c:Ct}(h1:c.inputs.length<=32)(h2:c.signals.length<=128)(h3:c.plus.length<=40)(h4:c.minus.length<=40)(h5:∀s∈c.inputs,s.length<=200)(h6:∀x∈c.signals,x.name.length<=200/\x.on.light=true/\x.off.light=true):c.small=true:=by
 simp only[Ct.small,jE,jW,jP,q7z,q2d]
 exact⟨⟨⟨⟨⟨h1,h2⟩,h3⟩,h4⟩,h5⟩,fun x hx=>⟨⟨(h6 x hx).1,(h6 x hx).2.1⟩,(h6 x hx).2.2⟩⟩
theorem zql(v:Int):(Ex.mk 0 v []).light=true:=by
 simp[Ex.light,Ex.nodes,Ex.depth,qdj,qgv]
theorem q9b{c:Ct}(hfew:c.small=true)(k i:Int)(A:Nat):(qbi c k i A).d.small=true:=by
 obtain⟨h1,h2,h3,h4,h5,h6⟩:=qdd hfew
 refine zcb h1 ?_ h3 h4 h5 ?_
 .unfold qbi
  rw[List.length_map]
  exact h2
 .intro x hx
  unfold qbi at hx
  obtain⟨y,hy,rfl⟩:=List.mem_map.1 hx
  obtain⟨g1,g2,g3⟩:=h6 y hy
  exact⟨g1,q0v g2,q0v g3⟩
theorem q1h{c:Ct}{k i:Int}{A:Nat}{v:Int}{s:Fs}(h:s.d.small=true)(hs:s.d.signals.length<128)(hK:s.K.length<=190):(qba c k i A v s).d.small=true:=by
 obtain⟨h1,h2,h3,h4,h5,h6⟩:=qdd h
 refine zcb h1 ?_ ?_ ?_ h5 ?_
 .unfold qba
  simp only
  split
  .simp;omega
  .exact h2
 .unfold qba
  simp only[qdo]
  exact h3
 .unfold qba
  simp only[qdo]
  exact h4
 .intro x hx
  unfold qba at hx
  simp only at hx
  split at hx
  .rcases jQ.1 hx with hx | hx
   .exact h6 x hx
   .obtain rfl:=List.mem_singleton.1 hx
    have:=zdd s.K (qbv v)
    have e:(qbv v).length=6:=rfl
    have e2:(qfq s.K (qbv v)).length<=200:=by omega
    exact⟨e2,zql v,zql 0⟩
  .exact h6 x hx
theorem qyl(c:Ct)(k i:Int)(A:Nat)(v:Int)(s:Fs):s.d.signals.length<=(qba c k i A v s).d.signals.length/\(qba c k i A v s).d.signals.length<=s.d.signals.length+1/\(qba c k i A v s).K.length<=s.K.length+1:=by
 unfold qba
 simp only
 split<;>simp
theorem qom(c:Ct)(k i:Int)(A:Nat):(qbi c k i A).d.signals.length=c.signals.length/\(qbi c k i A).K.length=qad c A:=by
 unfold qbi qax
 simp
theorem qml{c:Ct}(hfew:c.small=true)(hc:c.check=0)(k i:Int):(qcq c k i).d.small=true:=by
 have hM:=qfs hc hfew
 have hA6:=hM.hi
 have h64:c.inputs.length<=16/\c.signals.length<=64:=by
  unfold Ct.check at hc
  split at hc
  .cases hc
  .split at hc
   .cases hc
   .omega
 obtain⟨a1,a2⟩:=qom c k i c.act.toNat
 obtain⟨b1,b2,b3⟩:=qyl c k i c.act.toNat 0 (qbi c k i c.act.toNat)
 have e:qad c c.act.toNat<=100:=by unfold qad;omega
 exact q1h (q1h (q9b hfew k i _) (by omega) (by omega)) (by omega) (by omega)
theorem q7y(c:Ct)(k i:Int):(qcq c k i).d.act=c.act/\(qcq c k i).d.inputs=c.inputs:=⟨rfl,rfl⟩
theorem ev141(l:List Txt)(hl:l.length<=4096):ev pg (.call (.fn 141 [] []) [.imm (l.map qoq)] [])=some { v:=.sl 0 0 1 0 l.length,st:=⟨[],[⟨0,.arr 1 (l.map qoq)⟩]⟩ }:=by
 rw[qab,pg141]
 cases l with
 | nil=>simp[ir141,qcm,qeo,qee]
 | cons x l =>
  have h47:(l.length+1)*16<=140737488355328:=by
   simp only[List.length_cons]at hl
   omega
  simp[ir141,h47,qcm,qeo,qee]
theorem ev142(l:List Int)(hl:l.length<=4096):ev pg (.call (.fn 142 [] []) [qes l] [])=some { v:=.sl 0 0 1 0 l.length,st:=⟨[],[⟨0,.arr 1 (l.map qbo)⟩]⟩ }:=by
 rw[qab,pg142]
 cases l with
 | nil=>simp[ir142,qcm,qeo,qee]
 | cons x l =>
  have h47:(l.length+1)*8<=140737488355328:=by
   simp only[List.length_cons]at hl
   omega
  simp[ir142,h47,qcm,qeo,qee]
def isS(s x:Txt):Bool:=s==x
def zym(K:List Txt)(t:Txt)(k:Nat)(st:St):Prop:=st.h=[]/\st.s.length=19/\qag st.s 0=.imm (K.map qoq)/\qag st.s 1=.str t/\qag st.s 7=num K.length/\qag st.s 8=num k/\K.any (isS t)=(K.drop k).any (isS t)
def zyu(K:List Txt)(t:Txt)(r:R):Prop:=r.st.s.length=19/\((r.x=.exit 0/\r.st.h=[]/\K.any (isS t)=false)\/(r.x=.ret/\r.st.h=[]/\(∃k:Nat,qag r.st.s 4=num k)/\K.any (isS t)=true))
theorem zuy(K:List Txt)(t:Txt)(hK:K.length<=4096)(st:St)(h0:zym K t 0 st):∃r,ev pg (.code (.going 0 L207_0) st)=some r/\zyu K t r:=by
 refine qat (zym K t) K.length (zyu K t) h0 ?_ ?_
 .rintro k ⟨s,hh⟩ hk ⟨rfl,hl,e0,e1,e7,e8,he⟩
  simp only at hl e0 e1 e7 e8
  have hk':(k:Int)<K.length:=by omega
  have wk:=qbs (k:=k) (by omega)
  rw[zft hk]at he
  rw[qac hl]
  by_cases hb:t=K[k]
  .have hb2:isS t K[k]=true:=by simpa[isS]using hb
   rw[hb2]at he
   have hb3:(t==K[k])=true:=by simpa using hb
   simp[L207_0,zyu,List.range,List.range.loop,e0,e1,e7,e8,hk,hk',hb3]
   exact⟨⟨k,rfl⟩,by simpa using he⟩
  .have hb2:isS t K[k]=false:=by simpa[isS]using hb
   rw[hb2]at he
   have hb3:(t==K[k])=false:=by simpa using hb
   simp[L207_0,zym,List.range,List.range.loop,e0,e1,e7,e8,hk,hk',hb3,wk]
   simpa using he
 .rintro⟨s,hh⟩ ⟨rfl,hl,e0,e1,e7,e8,he⟩
  simp only[List.drop_length]at hl e0 e1 e7 e8 he
  have he':K.any (isS t)=false:=he
  rw[qac hl]
  simp[L207_0,zyu,List.range,List.range.loop,e0,e1,e7,e8]
  simpa using he'
theorem ev144(K:List Txt)(t:Txt)(hK:K.length<=4096):ev pg (.call (.fn 144 [] []) [.imm (K.map qoq),.str t] [])=some { v:=.bool (K.any (isS t)),st:=⟨[],[]⟩ }:=by
 have hloop:=zuy K t hK
 have h152:∃r:Int,ev pg (.call (.fn 207 [] []) [.imm (K.map qoq),.str t] [])=some { v:=num r,st:=⟨[],[]⟩ }/\decide (0<=r)=K.any (isS t):=by
  unfold zyu at hloop
  have hI:∀st:St,zym K t 0 st<->(st.h=[]/\st.s.length=19/\qag st.s 0=.imm (K.map qoq)/\qag st.s 1=.str t/\qag st.s 7=num K.length/\qag st.s 8=num 0):=fun st=>by
   unfold zym
   exact⟨fun h=>⟨h.1,h.2.1,h.2.2.1,h.2.2.2.1,h.2.2.2.2.1,h.2.2.2.2.2.1⟩,fun h=>⟨h.1,h.2.1,h.2.2.1,h.2.2.2.1,h.2.2.2.2.1,h.2.2.2.2.2,rfl⟩⟩
  generalize K.any (isS t)=B at *
  rw[qab,pg207]
  simp[ir207,qam]
  generalize hr:ev pg (.code (.going _ L207_0) _)=o
  obtain⟨r,rfl,hl,hQ⟩:∃r,o=some r/\_:=by
   rw[<-hr]
   exact hloop _ ((hI _).2 ⟨by simp,by simp,by simp,by simp,by simp,by simp⟩)
  rcases hQ with⟨hx,hh,rfl⟩ | ⟨hx,hh,⟨k,h4⟩,rfl⟩
  .simp[hx,hh,hl]
  .simp[hx,h4]
 obtain⟨r,h152,hr⟩:=h152
 rw[qab,pg144,<-hr]
 simp[ir144,h152]
theorem zfu(K:List Txt)(t:Txt):K.any (isS t)=decide (t∈K):=by
 rw[Bool.eq_iff_iff,List.any_eq_true,jW]
 constructor
 .rintro⟨x,hx,e⟩
  unfold isS at e
  rw[beq_iff_eq]at e
  rw[e];exact hx
 .intro h
  exact⟨t,h,by simp[isS]⟩
def I38(a b:List Int)(k:Nat)(st:St):Prop:=st.h=[]/\st.s.length=26/\qag st.s 0=.imm (a.map qbo)/\qag st.s 1=.imm (b.map qbo)/\qag st.s 12=num a.length/\qag st.s 13=num k/\decide (a=b)=decide (a.drop k=b.drop k)
def Q38(a b:List Int)(r:R):Prop:=r.st.s.length=26/\r.st.h=[]/\((r.x=.exit 0/\decide (a=b)=true)\/(r.x=.ret/\qag r.st.s 4=.bool false/\decide (a=b)=false))
theorem z0i(a b:List Int)(hab:b.length=a.length)(ha:a.length<=4096)(st:St)(h0:I38 a b 0 st):∃r,ev pg (.code (.going 0 L124_0) st)=some r/\Q38 a b r:=by
 refine qat (I38 a b) a.length (Q38 a b) h0 ?_ ?_
 .rintro k ⟨s,hh⟩ hk ⟨rfl,hl,e0,e1,e12,e13,he⟩
  simp only at hl e0 e1 e12 e13
  have hk':(k:Int)<a.length:=by omega
  have hkb:k<b.length:=by omega
  have wk:=qbs (k:=k) (by omega)
  rw[jL hk,jL hkb]at he
  rw[qac hl]
  by_cases hb:a[k]=b[k]
  .have he':decide (a=b)=decide (a.drop (k+1)=b.drop (k+1)):=by rw[he];simp only[List.cons.injEq,hb,true_and]
   simp[L124_0,I38,List.range,List.range.loop,e0,e1,e12,e13,hk,hk',hkb,hb,wk]
   simpa using he'
  .have he':decide (a=b)=false:=by rw[he];simp only[List.cons.injEq,hb,false_and,decide_false]
   simp[L124_0,Q38,List.range,List.range.loop,e0,e1,e12,e13,hk,hk',hkb,hb]
   simpa using he'
 .rintro⟨s,hh⟩ ⟨rfl,hl,e0,e1,e12,e13,he⟩
  simp only[List.drop_length]at hl e0 e1 e12 e13 he
  rw[show List.drop a.length b=[]by rw[<-hab];exact List.drop_length]at he
  have he':decide (a=b)=true:=by rw[he];rfl
  rw[qac hl]
  simp[L124_0,Q38,List.range,List.range.loop,e0,e1,e12,e13]
  simpa using he'
theorem ev124(a b:List Int)(ha:a.length<=4096):ev pg (.call (.fn 124 [] []) [.imm (a.map qbo),.imm (b.map qbo)] [])=some { v:=.bool (decide (a=b)),st:=⟨[],[]⟩ }:=by
 by_cases hab:b.length=a.length
 .have hloop:=z0i a b hab ha
  have hab':(b.length:Int)=a.length:=by omega
  unfold Q38 at hloop
  have hI:∀st:St,I38 a b 0 st<->(st.h=[]/\st.s.length=26/\qag st.s 0=.imm (a.map qbo)/\qag st.s 1=.imm (b.map qbo)/\qag st.s 12=num a.length/\qag st.s 13=num 0):=fun st=>by
   unfold I38
   exact⟨fun h=>⟨h.1,h.2.1,h.2.2.1,h.2.2.2.1,h.2.2.2.2.1,h.2.2.2.2.2.1⟩,fun h=>⟨h.1,h.2.1,h.2.2.1,h.2.2.2.1,h.2.2.2.2.1,h.2.2.2.2.2,rfl⟩⟩
  generalize decide (a=b)=B at *
  rw[qab,pg124]
  simp[ir124,qam,hab']
  generalize hr:ev pg (.code (.going _ L124_0) _)=o
  obtain⟨r,rfl,hl,hh,hQ⟩:∃r,o=some r/\_:=by
   rw[<-hr]
   exact hloop _ ((hI _).2 ⟨by simp,by simp,by simp,by simp,by simp,by simp⟩)
  rcases hQ with⟨hx,rfl⟩ | ⟨hx,h4,rfl⟩
  .simp[hx,hh,hl]
  .simp[hx,h4]
 .have hd:decide (a=b)=false:=by
   rw[decide_eq_false_iff_not]
   intro e
   exact hab (by rw[e])
  have hne:((a.length:Int) != (b.length:Int))=true:=by
   rw[bne_iff_ne];omega
  rw[hd,qab,pg124]
  simp[ir124,hne]
mutual
def Ex.same:Ex->Ex->Bool
 | .mk o i l,.mk o' i' l'=>o==o'&&(i==i'&&z3h l l')
def z3h:List Ex->List Ex->Bool
 | [],[]=>true
 | x :: l,y :: l'=>x.same y&&z3h l l'
 | _,_=>false
end
end Go.Proofs.YtbepbclaoohngaaGreat
