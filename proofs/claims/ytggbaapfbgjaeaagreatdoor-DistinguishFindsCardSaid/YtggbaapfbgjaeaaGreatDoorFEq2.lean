/- Are expressions. -/
import Derived.Test.YtggbaapfbgjaeaaGreatDoorFTe2
set_option linter.all false
namespace Go.Proofs.YtggbaapfbgjaeaaGreatDoor
open Go Go.Am Go.Proofs
set_option maxRecDepth 100000
theorem zqg{α:Type}[DecidableEq α](f:Nat->α)(hf:∀i j,f i=f j->i=j):∀(n:Nat) (K:List α),(∀j,j<n->f j∈K)->n<=K.length
 | 0,_,_=>Nat.zero_le _
 | n+1,K,h=>by have h1:=h n (by omega);have h2:=List.length_erase_of_mem h1;have h3:=List.length_pos_of_mem h1;have ih:=zqg f hf n (K.erase (f n)) fun j hj=>(List.mem_erase_of_ne (fun e=>by have:=hf _ _ e;omega)).2 (h j (by omega));omega
abbrev qgu(s:Txt)(j:Nat):Txt:=s++List.replicate j 95
theorem zku(s:Txt)(i j:Nat)(h:qgu s i=qgu s j):i=j:=by have:=congrArg List.length h;simp at this;exact this
def qjq(K:List Txt)(s:Txt)(n:Nat):Nat->Nat
 | 0=>n
 | m+1=>if qgu s n∈K then qjq K s (n+1) m else n
def quw(K:List Txt)(s:Txt):Nat:=qjq K s 0 (K.length+1)
theorem qwo(K:List Txt)(s:Txt):∀(m n:Nat),(∀j,j<n->qgu s j∈K)->∀j,j<qjq K s n m->qgu s j∈K
 | 0,n,h=>h
 | m+1,n,h=>by
  unfold qjq;split
  .rename_i hn;refine qwo K s m (n+1) fun j hj=>?_;by_cases e:j=n
   .rw[e];exact hn
   .exact h j (by omega)
  .exact h
theorem qud(K:List Txt)(s:Txt):∀(m n:Nat),qjq K s n m<n+m->¬qgu s (qjq K s n m)∈K
 | 0,n,h=>absurd h (by unfold qjq;omega)
 | m+1,n,h=>by
  unfold qjq at h ⊢;split
  .rename_i hn;rw[if_pos hn]at h;exact qud K s m (n+1) (by omega)
  .rename_i hn;exact hn
theorem q7w(K:List Txt)(s:Txt):∀j,j<quw K s->qgu s j∈K:=qwo K s _ 0 fun j hj=>by omega
theorem q2d(K:List Txt)(s:Txt):quw K s<=K.length:=zqg (qgu s) (zku s) _ K (q7w K s)
theorem zam(K:List Txt)(s:Txt):¬qgu s (quw K s)∈K:=qud K s _ 0 (by have:=q2d K s;unfold quw at this;omega)
def qfv(K:List Txt)(s:Txt):Txt:=qgu s (quw K s)
theorem zcz(K:List Txt)(s:Txt):(qfv K s).length<=s.length+K.length:=by have:=q2d K s;unfold qfv;simp;omega
def qkg(k i:Int):Int:=if k=2\/k=3 then i else -1
abbrev qjm(n v:Int)(x:Sg):Sg:=⟨x.name,x.kind,x.on.repl n v,x.off.repl n v,x.delay,x.init⟩
def qcv(f:Nat->Bool)(next:Int):Nat->List Int->List Int
 | 0,l=>l
 | j+1,l=>if f j=true then(qcv f next j l).set j next else qcv f next j l
theorem qdr(f:Nat->Bool)(next:Int)(l:List Int):∀j,(qcv f next j l).length=l.length
 | 0=>rfl
 | j+1=>by
  have ih:=qdr f next l j
  unfold qcv;split
  .rw[jU,ih]
  .exact ih
def zqe(p:Nat->Bool):Nat->Bool
 | 0=>false
 | j+1=>zqe p j||p j
abbrev qbu(v:Int):Txt:=[115,116,117,99,107,if v=0 then 48 else 49]
abbrev qwu(name:Txt)(v:Int):Sg:=⟨name,0,.mk 0 v [],.mk 0 0 [],0,false⟩
structure Fs where
 d:Ct
 K:List Txt
 w:List Bool
abbrev qtr(c:Ct)(k i v:Int)(j:Nat):Bool:=(pil c k i j).1==v
abbrev qtq(c:Ct)(k i v:Int)(j:Nat):Bool:=(pil c k i j).2==v
def qhd(c:Ct)(k i v:Int)(A:Nat):Bool:=zqe (fun j=>qtr c k i v j||qtq c k i v j) A
def qbg(c:Ct)(k i:Int)(A:Nat)(v:Int)(s:Fs):Fs :=
 ⟨⟨s.d.act,s.d.inputs,if qhd c k i v A=true then s.d.signals++[qwu (qfv s.K (qbu v)) v]else s.d.signals,qcv (qtr c k i v) (qad s.d A) A s.d.plus,qcv (qtq c k i v) (qad s.d A) A s.d.minus⟩,
  if qhd c k i v A=true then s.K++[qfv s.K (qbu v)]else s.K,if qhd c k i v A=true then s.w++[v==1]else s.w⟩
def qbl(c:Ct)(k i:Int)(A:Nat):Fs:=⟨⟨c.act,c.inputs,c.signals.map (qjm (qkg k i) (qcu k)),c.plus,c.minus⟩,qaw c A (qad c A),[]⟩
def qcz(c:Ct)(k i:Int):Fs:=qbg c k i c.act.toNat 1 (qbg c k i c.act.toNat 0 (qbl c k i c.act.toNat))
mutual
theorem q0u(n v:Int):∀x:Ex,(x.repl n v).nodes<=x.nodes
 | .mk o i l=>by
  rw[Ex.repl];split
  .rw[Ex.nodes,Ex.nodes,qdj];omega
  .rw[Ex.nodes,Ex.nodes];have:=qyc n v l;omega
theorem qyc(n v:Int):∀l:List Ex,qdj (qtl n v l)<=qdj l
 | []=>jD _
 | x :: l=>by rw[qtl,qdj,qdj];have h1:=q0u n v x;have h2:=qyc n v l;omega
end
mutual
theorem q0s(n v:Int):∀x:Ex,(x.repl n v).depth<=x.depth
 | .mk o i l=>by
  rw[Ex.repl];split
  .rw[Ex.depth,Ex.depth,qgv];omega
  .rw[Ex.depth,Ex.depth];have:=qya n v l;omega
theorem qya(n v:Int):∀l:List Ex,qgv (qtl n v l)<=qgv l
 | []=>jD _
 | x :: l=>by rw[qtl,qgv,qgv];have h1:=q0s n v x;have h2:=qya n v l;omega
end
theorem q0t{n v:Int}{x:Ex}(h:x.light=true):(x.repl n v).light=true:=by obtain⟨h1,h2⟩:=qdq h;have h3:=q0u n v x;have h4:=q0s n v x;simp only[Ex.light,jE,jW];omega
theorem zbt{c:Ct}(h1:c.inputs.length<=32)(h2:c.signals.length<=128)(h3:c.plus.length<=40)(h4:c.minus.length<=40)(h5:∀s∈c.inputs,s.length<=200)(h6:∀x∈c.signals,x.name.length<=200/\x.on.light=true/\x.off.light=true):c.small=true:=by simp only[Ct.small,jE,jW,jP,q7v,q2a];exact⟨⟨⟨⟨⟨h1,h2⟩,h3⟩,h4⟩,h5⟩,fun x hx=>⟨⟨(h6 x hx).1,(h6 x hx).2.1⟩,(h6 x hx).2.2⟩⟩
theorem zqb(v:Int):(Ex.mk 0 v []).light=true:=by simp[Ex.light,Ex.nodes,Ex.depth,qdj,qgv]
theorem q8y{c:Ct}(hfew:c.small=true)(k i:Int)(A:Nat):(qbl c k i A).d.small=true:=by
 obtain⟨h1,h2,h3,h4,h5,h6⟩:=qcd hfew;refine zbt h1 ?_ h3 h4 h5 ?_
 .unfold qbl;rw[List.length_map];exact h2
 .intro x hx;unfold qbl at hx;obtain⟨y,hy,rfl⟩:=List.mem_map.1 hx;obtain⟨g1,g2,g3⟩:=h6 y hy;exact⟨g1,q0t g2,q0t g3⟩
theorem q1d{c:Ct}{k i:Int}{A:Nat}{v:Int}{s:Fs}(h:s.d.small=true)(hs:s.d.signals.length<128)(hK:s.K.length<=190):(qbg c k i A v s).d.small=true:=by
 obtain⟨h1,h2,h3,h4,h5,h6⟩:=qcd h;refine zbt h1 ?_ ?_ ?_ h5 ?_
 .unfold qbg;simp only;split
  .simp;omega
  .exact h2
 .unfold qbg;simp only[qdr];exact h3
 .unfold qbg;simp only[qdr];exact h4
 .intro x hx;unfold qbg at hx;simp only at hx;split at hx
  .rcases jQ.1 hx with hx | hx
   .exact h6 x hx
   .obtain rfl:=List.mem_singleton.1 hx;have:=zcz s.K (qbu v);have e:(qbu v).length=6:=rfl;have e2:(qfv s.K (qbu v)).length<=200:=by omega
    exact⟨e2,zqb v,zqb 0⟩
  .exact h6 x hx
theorem qys(c:Ct)(k i:Int)(A:Nat)(v:Int)(s:Fs):s.d.signals.length<=(qbg c k i A v s).d.signals.length/\(qbg c k i A v s).d.signals.length<=s.d.signals.length+1/\(qbg c k i A v s).K.length<=s.K.length+1:=by unfold qbg;simp only;split<;>simp
theorem qtu(c:Ct)(k i:Int)(A:Nat):(qbl c k i A).d.signals.length=c.signals.length/\(qbl c k i A).K.length=qad c A:=by unfold qbl qaw;simp
theorem qmv{c:Ct}(hfew:c.small=true)(hc:c.check=0)(k i:Int):(qcz c k i).d.small=true:=by
 have hM:=qfx hc hfew;have hA6:=hM.hi;have h64:c.inputs.length<=16/\c.signals.length<=64:=by
  unfold Ct.check at hc;split at hc
  .cases hc
  .split at hc
   .cases hc
   .omega
 obtain⟨a1,a2⟩:=qtu c k i c.act.toNat
 obtain⟨b1,b2,b3⟩:=qys c k i c.act.toNat 0 (qbl c k i c.act.toNat);have e:qad c c.act.toNat<=100:=by unfold qad;omega
 exact q1d (q1d (q8y hfew k i _) (by omega) (by omega)) (by omega) (by omega)
theorem q7u(c:Ct)(k i:Int):(qcz c k i).d.act=c.act/\(qcz c k i).d.inputs=c.inputs:=⟨rfl,rfl⟩
theorem ev170(l:List Txt)(hl:l.length<=4096):ev pg (.call (fnq 170) [.imm (l.map qpq)] [])=some { v:=.sl 0 0 1 0 l.length,st:=⟨[],[⟨0,.arr 1 (l.map qpq)⟩]⟩ }:=by
 rw[qaa,pg170.1];cases l with
 | nil=>simp[ir170,qch,qel,qdz]
 | cons x l =>
  have h47:(l.length+1)*16<=140737488355328:=by simp only[List.length_cons]at hl;omega
  simp[ir170,h47,qch,qel,qdz]
theorem ev78(l:List Int)(hl:l.length<=4096):ev pg (.call (fnq 78) [qcr l] [])=some { v:=.sl 0 0 1 0 l.length,st:=⟨[],[⟨0,.arr 1 (l.map qbk)⟩]⟩ }:=by
 rw[qaa,pg78.1];cases l with
 | nil=>simp[ir78,qch,qel,qdz]
 | cons x l =>
  have h47:(l.length+1)*8<=140737488355328:=by simp only[List.length_cons]at hl;omega
  simp[ir78,h47,qch,qel,qdz]
def isS(s x:Txt):Bool:=s==x
def zws(K:List Txt)(t:Txt)(k:Nat)(st:St):Prop:=st.h=[]/\st.s.length=19/\qah st.s 0=.imm (K.map qpq)/\qah st.s 1=.str t/\qah st.s 7=num K.length/\qah st.s 8=num k/\K.any (isS t)=(K.drop k).any (isS t)
def zxd(K:List Txt)(t:Txt)(r:R):Prop:=r.st.s.length=19/\((r.x=.exit 0/\r.st.h=[]/\K.any (isS t)=false)\/(r.x=.ret/\r.st.h=[]/\(∃k:Nat,qah r.st.s 4=num k)/\K.any (isS t)=true))
theorem ztq(K:List Txt)(t:Txt)(hK:K.length<=4096)(st:St)(h0:zws K t 0 st):∃r,ev pg (.code (.going 0 L207_0) st)=some r/\zxd K t r:=by
 refine qat (zws K t) K.length (zxd K t) h0 ?_ ?_
 .rintro k ⟨s,hh⟩ hk ⟨rfl,hl,e0,e1,e7,e8,he⟩;simp only at hl e0 e1 e7 e8;have hk':(k:Int)<K.length:=by omega
  have wk:=qbc k;rw[zfm hk]at he;rw[qac hl];by_cases hb:t=K[k]
  .have hb2:isS t K[k]=true:=by simpa[isS]using hb
   rw[hb2]at he;have hb3:(t==K[k])=true:=by simpa using hb
   simp[L207_0,zxd,List.range,List.range.loop,e0,e1,e7,e8,hk,hk',hb3];exact⟨⟨k,rfl⟩,by simpa using he⟩
  .have hb2:isS t K[k]=false:=by simpa[isS]using hb
   rw[hb2]at he;have hb3:(t==K[k])=false:=by simpa using hb
   simp[L207_0,zws,List.range,List.range.loop,e0,e1,e7,e8,hk,hk',hb3,wk];simpa using he
 .rintro⟨s,hh⟩ ⟨rfl,hl,e0,e1,e7,e8,he⟩;simp only[List.drop_length]at hl e0 e1 e7 e8 he;have he':K.any (isS t)=false:=he;rw[qac hl];simp[L207_0,zxd,List.range,List.range.loop,e0,e1,e7,e8];simpa using he'
theorem ev175(K:List Txt)(t:Txt)(hK:K.length<=4096):ev pg (.call (fnq 175) [.imm (K.map qpq),.str t] [])=some (rvq (.bool (K.any (isS t)))):=by
 have hloop:=ztq K t hK;have h152:∃r:Int,ev pg (.call (fnq 207) [.imm (K.map qpq),.str t] [])=some (rvq (num r))/\decide (0<=r)=K.any (isS t):=by
  unfold zxd at hloop;have hI:∀st:St,zws K t 0 st<->(st.h=[]/\st.s.length=19/\qah st.s 0=.imm (K.map qpq)/\qah st.s 1=.str t/\qah st.s 7=num K.length/\qah st.s 8=num 0):=fun st=>by unfold zws;exact⟨fun h=>⟨h.1,h.2.1,h.2.2.1,h.2.2.2.1,h.2.2.2.2.1,h.2.2.2.2.2.1⟩,fun h=>⟨h.1,h.2.1,h.2.2.1,h.2.2.2.1,h.2.2.2.2.1,h.2.2.2.2.2,rfl⟩⟩
  generalize K.any (isS t)=B at *;rw[qaa,pg207.1];simp[ir207,qai];generalize hr:ev pg (.code (.going _ L207_0) _)=o;obtain⟨r,rfl,hl,hQ⟩:∃r,o=some r/\_:=by rw[<-hr];exact hloop _ ((hI _).2 ⟨by simp,by simp,by simp,by simp,by simp,by simp⟩)
  rcases hQ with⟨hx,hh,rfl⟩ | ⟨hx,hh,⟨k,h4⟩,rfl⟩
  .simp[hx,hh,hl]
  .simp[hx,h4]
 obtain⟨r,h152,hr⟩:=h152;rw[qaa,pg175.1,<-hr];simp[ir175,h152]
theorem zfn(K:List Txt)(t:Txt):K.any (isS t)=decide (t∈K):=by
 rw[Bool.eq_iff_iff,List.any_eq_true,jW];constructor
 .rintro⟨x,hx,e⟩;unfold isS at e;rw[beq_iff_eq]at e;rw[e];exact hx
 .intro h;exact⟨t,h,by simp[isS]⟩
def I38(a b:List Int)(k:Nat)(st:St):Prop:=st.h=[]/\st.s.length=26/\qah st.s 0=.imm (a.map qbk)/\qah st.s 1=.imm (b.map qbk)/\qah st.s 12=num a.length/\qah st.s 13=num k/\decide (a=b)=decide (a.drop k=b.drop k)
def Q38(a b:List Int)(r:R):Prop:=r.st.s.length=26/\r.st.h=[]/\((r.x=.exit 0/\decide (a=b)=true)\/(r.x=.ret/\qah r.st.s 4=.bool false/\decide (a=b)=false))
theorem zyu(a b:List Int)(hab:b.length=a.length)(ha:a.length<=4096)(st:St)(h0:I38 a b 0 st):∃r,ev pg (.code (.going 0 L36_0) st)=some r/\Q38 a b r:=by
 refine qat (I38 a b) a.length (Q38 a b) h0 ?_ ?_
 .rintro k ⟨s,hh⟩ hk ⟨rfl,hl,e0,e1,e12,e13,he⟩;simp only at hl e0 e1 e12 e13;have hk':(k:Int)<a.length:=by omega
  have hkb:k<b.length:=by omega
  have wk:=qbc k;rw[jL hk,jL hkb]at he;rw[qac hl];by_cases hb:a[k]=b[k]
  .have he':decide (a=b)=decide (a.drop (k+1)=b.drop (k+1)):=by rw[he];simp only[List.cons.injEq,hb,true_and]
   simp[L36_0,I38,List.range,List.range.loop,e0,e1,e12,e13,hk,hk',hkb,hb,wk];simpa using he'
  .have he':decide (a=b)=false:=by rw[he];simp only[List.cons.injEq,hb,false_and,decide_false]
   simp[L36_0,Q38,List.range,List.range.loop,e0,e1,e12,e13,hk,hk',hkb,hb];simpa using he'
 .rintro⟨s,hh⟩ ⟨rfl,hl,e0,e1,e12,e13,he⟩;simp only[List.drop_length]at hl e0 e1 e12 e13 he;rw[show List.drop a.length b=[]by rw[<-hab];exact List.drop_length]at he;have he':decide (a=b)=true:=by rw[he];rfl
  rw[qac hl];simp[L36_0,Q38,List.range,List.range.loop,e0,e1,e12,e13];simpa using he'
theorem ev36(a b:List Int)(ha:a.length<=4096):ev pg (.call (fnq 36) [.imm (a.map qbk),.imm (b.map qbk)] [])=some (rvq (.bool (decide (a=b)))):=by
 by_cases hab:b.length=a.length
 .have hloop:=zyu a b hab ha;have hab':(b.length:Int)=a.length:=by omega
  unfold Q38 at hloop;have hI:∀st:St,I38 a b 0 st<->(st.h=[]/\st.s.length=26/\qah st.s 0=.imm (a.map qbk)/\qah st.s 1=.imm (b.map qbk)/\qah st.s 12=num a.length/\qah st.s 13=num 0):=fun st=>by unfold I38;exact⟨fun h=>⟨h.1,h.2.1,h.2.2.1,h.2.2.2.1,h.2.2.2.2.1,h.2.2.2.2.2.1⟩,fun h=>⟨h.1,h.2.1,h.2.2.1,h.2.2.2.1,h.2.2.2.2.1,h.2.2.2.2.2,rfl⟩⟩
  generalize decide (a=b)=B at *;rw[qaa,pg36.1];simp[ir36,qai,hab'];generalize hr:ev pg (.code (.going _ L36_0) _)=o;obtain⟨r,rfl,hl,hh,hQ⟩:∃r,o=some r/\_:=by rw[<-hr];exact hloop _ ((hI _).2 ⟨by simp,by simp,by simp,by simp,by simp,by simp⟩)
  rcases hQ with⟨hx,rfl⟩ | ⟨hx,h4,rfl⟩
  .simp[hx,hh,hl]
  .simp[hx,h4]
 .have hd:decide (a=b)=false:=by
   rw[decide_eq_false_iff_not];intro e;exact hab (by rw[e])
  have hne:((a.length:Int) != (b.length:Int))=true:=by rw[bne_iff_ne];omega
  rw[hd,qaa,pg36.1];simp[ir36,hne]
mutual
def Ex.same:Ex->Ex->Bool
 | .mk o i l,.mk o' i' l'=>o==o'&&(i==i'&&zzt l l')
def zzt:List Ex->List Ex->Bool
 | [],[]=>true
 | x :: l,y :: l'=>x.same y&&zzt l l'
 | _,_=>false
end
end Go.Proofs.YtggbaapfbgjaeaaGreatDoor
