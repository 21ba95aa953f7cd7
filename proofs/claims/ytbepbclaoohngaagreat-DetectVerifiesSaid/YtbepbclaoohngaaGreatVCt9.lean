/- Controls: errors, by the reference, on. -/
import Derived.Test.YtbepbclaoohngaaGreatVCt8
set_option linter.all false
namespace Go.Proofs.YtbepbclaoohngaaGreat
open Go Go.Am Go.Proofs
set_option maxRecDepth 100000
def goE(f:Nat->Int):Nat->Nat->Int
 | _,0=>0
 | k,n+1=>if f k=0 then goE f (k+1) n else f k
theorem q9m{f:Nat->Int}{k n:Nat}(hk:k<n):goE f k (n-k)=if f k=0 then goE f (k+1) (n-(k+1))else f k:=by
 obtain⟨m,hm⟩:∃m,n-k=m+1:=⟨n-k-1,by omega⟩
 rw[hm,show n-(k+1)=m by omega,goE]
abbrev qgc(n:Int)(x:Int):Bool:=decide (x<0)||decide (n<=x)
def ziq(c:Ct)(A:Nat):Int:=if c.plus.length≠A\/c.minus.length≠A then 8 else if(c.plus.any (qgc (qac c A)))=true\/(c.minus.any (qgc (qac c A)))=true then 6 else 0
theorem zel{α:Type}{f:α->Bool}{l:List α}{k:Nat}(hk:k<l.length):(l.drop k).any f=(f l[k]||(l.drop (k+1)).any f):=by
 rw[jL hk];rfl
structure Keep116(c:Ct)(t:Nat)(st:List V):Prop where
 nn:qas st
 len:st.length=51
 t1:qai st 1=.bptr 0 0
 t24:qai st 24=.imm [[qeg c.plus],[qeg c.minus]]
 t25:qai st 25=num 2
 t26:qai st 26=num t
def zxb(c:Ct)(t:Nat)(n:Int)(l:List Int)(k:Nat)(st:St):Prop:=st.h=[⟨0,.box c.cells⟩]/\Keep116 c t st.s/\qai st.s 4=qeg l/\qai st.s 5=num k/\l.any (qgc n)=(l.drop k).any (qgc n)
def zbc(c:Ct)(t:Nat)(n:Int)(l:List Int)(r:R):Prop:=r.st.s.length=51/\((r.x=.exit 2/\r.st.h=[⟨0,.box c.cells⟩]/\Keep116 c t r.st.s/\l.any (qgc n)=false)\/(r.x=.ret/\qai r.st.s 2=num 6/\l.any (qgc n)=true))
theorem zmp{c:Ct}{A:Nat}(h:Mid c A)(t:Nat)(l:List Int)(hl6:l.length<=40)(st:St)(h0:zxb c t (qac c A) l 0 st):∃r,ev pg (.code (.going 1 L130_0) st)=some r/\zbc c t (qac c A) l r:=by
 have hc:=ev186 h
 refine qau (zxb c t (qac c A) l) l.length (zbc c t (qac c A) l) h0 ?_ ?_
 .rintro k ⟨s,hh⟩ hk ⟨rfl,⟨hnn,hl,e1,e24,e25,e26⟩,e4,e5,he⟩
  simp only at hl e1 e24 e25 e26 e4 e5
  have hn:∀j,qai s j ≠ .nils:=qar hnn
  have hk':(k:Int)<l.length:=by omega
  have wk:=qbb (k:=k) (by omega)
  rw[zel hk]at he
  generalize hN:qac c A=N at *
  rw[qad hl]
  by_cases b1:l[k]<0
  .have hb:qgc (N:Int) l[k]=true:=by simp[qgc,b1]
   rw[hb,Bool.true_or]at he
   simp[qab,exT,qal,L130_0,zbc,List.range,List.range.loop,e1,e4,e5,hk,hk',b1]
   simpa using he
  .by_cases b2:(N:Int)<=l[k]
   .have hb:qgc (N:Int) l[k]=true:=by simp[qgc,b2]
    rw[hb,Bool.true_or]at he
    simp[qab,exT,qal,L130_0,zbc,List.range,List.range.loop,e1,e4,e5,hk,hk',b1,b2,hc]
    simpa using he
   .have hb:qgc (N:Int) l[k]=false:=by simp[qgc,b1,b2]
    rw[hb,Bool.false_or]at he
    simp[qab,exT,qal,L130_0,List.range,List.range.loop,e1,e4,e5,e24,e25,e26,hk,hk',b1,b2,hc,wk]
    exact⟨rfl,⟨by simp[qas,hn],rfl,rfl,rfl,rfl,rfl⟩,rfl,rfl,he⟩
 .rintro⟨s,hh⟩ ⟨rfl,⟨hnn,hl,e1,e24,e25,e26⟩,e4,e5,he⟩
  simp only[List.drop_length]at hl e1 e24 e25 e26 e4 e5 he
  have hn:∀j,qai s j ≠ .nils:=qar hnn
  have he':l.any (qgc (qac c A))=false:=he
  rw[qad hl]
  simp[L130_0,zbc,List.range,List.range.loop,e1,e4,e5,e24,e25,e26]
  exact⟨⟨by simp[qas,hn],rfl,rfl,rfl,rfl,rfl⟩,by simpa using he'⟩
def jeo(c:Ct)(n:Int)(t:Nat)(st:St):Prop:=st.h=[⟨0,.box c.cells⟩]/\Keep116 c t st.s/\(1<=t->c.plus.any (qgc n)=false)/\(2<=t->c.minus.any (qgc n)=false)
def z3d(c:Ct)(n:Int)(r:R):Prop:=r.st.s.length=51/\((r.x=.exit 0/\c.plus.any (qgc n)=false/\c.minus.any (qgc n)=false)\/(r.x=.ret/\qai r.st.s 2=num 6/\(c.plus.any (qgc n)=true\/c.minus.any (qgc n)=true)))
theorem ztj{c:Ct}{A:Nat}(h:Mid c A)(hp:c.plus.length<=40)(hm:c.minus.length<=40)(st:St)(h0:jeo c (qac c A) 0 st):∃r,ev pg (.code (.going 1 L130_1) st)=some r/\z3d c (qac c A) r:=by
 refine qau (jeo c (qac c A)) 2 (z3d c (qac c A)) h0 ?_ ?_
 .rintro t ⟨s,hh⟩ ht ⟨rfl,⟨hnn,hl,e1,e24,e25,e26⟩,p1,p2⟩
  simp only at hl e1 e24 e25 e26
  have hn:∀j,qai s j ≠ .nils:=qar hnn
  have ht2:(t:Int)<2:=by omega
  have wk:=qbb (k:=t) (by omega)
  obtain⟨l,hlt,hl40,hcase⟩:∃l,([[qeg c.plus],[qeg c.minus]]:List (List V))[t]?=some [qeg l]/\l.length<=40/\((t=0/\l=c.plus)\/(t=1/\l=c.minus)):=by
   rcases (by omega:t=0\/t=1)with rfl | rfl
   .exact⟨c.plus,rfl,hp,.inl ⟨rfl,rfl⟩⟩
   .exact⟨c.minus,rfl,hm,.inr ⟨rfl,rfl⟩⟩
  rw[qad hl]
  simp[L130_1,List.range,List.range.loop,e1,e24,e25,e26,ht2,hlt,qah,hn]
  generalize hr:ev pg (.code (.going 1 L130_0) _)=o
  obtain⟨r,rfl,hrl,hQ⟩:∃r,o=some r/\zbc c t (qac c A) l r:=by
   rw[<-hr]
   refine zmp h t l hl40 _ ⟨by simp,⟨by simp[qas,hn],by simp,by simp,by simp,by simp,by simp⟩,by simp,by simp,rfl⟩
  rcases hQ with⟨hx,hh,⟨hnn2,gl,g1,g24,g25,g26⟩,hE⟩ | ⟨hx,h2,hE⟩
  .simp[hx,hh,gl,g26,wk]
   refine⟨rfl,⟨?_,?_,?_,?_,?_,?_⟩,fun _=>?_,fun h2=>?_⟩
   .apply qpg
    repeat (first | with_reducible exact hnn2 | with_reducible refine qej ?_ (by simp))
   .simp[gl]
   .simp[g1]
   .simp[g24]
   .simp[g25]
   .simp[gl]
   .rcases hcase with⟨rfl,rfl⟩ | ⟨rfl,rfl⟩
    .exact hE
    .exact p1 (jD _)
   .rcases hcase with⟨rfl,rfl⟩ | ⟨rfl,rfl⟩
    .omega
    .exact hE
  .simp[hx]
   refine⟨hrl,.inr ⟨hx,h2,?_⟩⟩
   rcases hcase with⟨_,rfl⟩ | ⟨_,rfl⟩
   .exact .inl hE
   .exact .inr hE
 .rintro⟨s,hh⟩ ⟨rfl,⟨hnn,hl,e1,e24,e25,e26⟩,p1,p2⟩
  simp only at hl e1 e24 e25 e26
  have q1:=p1 (by omega)
  have q2:=p2 (jD _)
  rw[qad hl]
  simp[L130_1,z3d,List.range,List.range.loop,e1,e24,e25,e26]
  exact⟨by simpa using q1,by simpa using q2⟩
theorem ev130{c:Ct}{A:Nat}(h:Mid c A):ev pg (.call (.fn 130 [] []) [c.v] [])=some { v:=num (ziq c A),st:=⟨[],[]⟩ }:=by
 have hA:=h.act
 have hA6:=h.hi
 have b1:((c.plus.length:Int)=c.act)<->c.plus.length=A:=by omega
 have b2:((c.minus.length:Int)=c.act)<->c.minus.length=A:=by omega
 rw[qaa,pg130]
 by_cases h1:c.plus.length=A
 .have n1:((c.plus.length:Int) != c.act)=false:=by simp;omega
  by_cases h2:c.minus.length=A
  .have n2:((c.minus.length:Int) != c.act)=false:=by simp;omega
   have hp:ziq c A=if(c.plus.any (qgc (qac c A)))=true\/(c.minus.any (qgc (qac c A)))=true then 6 else 0:=by
    unfold ziq;rw[if_neg (by omega)]
   rw[hp]
   have hloop:=ztj h (by omega) (by omega)
   unfold z3d at hloop
   generalize c.plus.any (qgc (qac c A))=P at *
   generalize c.minus.any (qgc (qac c A))=M at *
   simp[ir130,n1,n2,qah]
   generalize hr:ev pg (.code (.going 1 L130_1) _)=o
   obtain⟨r,rfl,hl,hQ⟩:∃r,o=some r/\(r.st.s.length=51/\((r.x=.exit 0/\P=false/\M=false)\/(r.x=.ret/\qai r.st.s 2=num 6/\(P=true\/M=true)))):=by
    rw[<-hr]
    exact hloop _ ⟨by simp,⟨by simp[qas],by simp,by simp,by simp,by simp,by simp⟩,fun h=>by omega,fun h=>by omega⟩
   rcases hQ with⟨hx,rfl,rfl⟩ | ⟨hx,h2',hPM⟩
   .simp[hx,hl]
   .simp[hx,h2',hPM]
  .have n2:((c.minus.length:Int) != c.act)=true:=by simp;omega
   have hp:ziq c A=8:=by unfold ziq;rw[if_pos (.inr h2)]
   rw[hp]
   simp[ir130,n1,n2]
 .have n1:((c.plus.length:Int) != c.act)=true:=by simp;omega
  have hp:ziq c A=8:=by unfold ziq;rw[if_pos (.inl h1)]
  rw[hp]
  simp[ir130,n1]
abbrev qyu(c:Ct)(A:Nat)(j:Nat):Int:=qep (qax c A (2*A+j)) (qbl c A (2*A+j))
abbrev quu(c:Ct)(A:Nat)(i:Nat):Int:=match c.signals[i]? with
 | some x=>q7v c A (qax c A (qam c A+i)) i x
 | none=>0
def ctE(c:Ct)(A:Nat):Int :=
 if goE (qyu c A) 0 c.inputs.length=0 then(if goE (quu c A) 0 c.signals.length=0 then ziq c A else goE (quu c A) 0 c.signals.length)else goE (qyu c A) 0 c.inputs.length
def Ct.check(c:Ct):Int:=if c.act<1\/6<c.act then 2 else if 16<c.inputs.length\/64<c.signals.length then 5 else ctE c c.act.toNat
structure Keep69(c:Ct)(st:List V):Prop where
 nn:qas st
 len:st.length=57
 t1:qai st 1=.bptr 0 0
def Ct.small(c:Ct):Bool:=decide (c.inputs.length<=32)&&decide (c.signals.length<=128)&&decide (c.plus.length<=40)&&decide (c.minus.length<=40)&&c.inputs.all q6v&&c.signals.all q0x
theorem zge{c:Ct}(h:c.few=true):c.small=true:=by
 simp only[Ct.few,jE]at h
 obtain⟨⟨⟨⟨⟨⟨h1,_⟩,h2⟩,h3⟩,h4⟩,h5⟩,h6⟩:=h
 simp only[Ct.small,jE]
 exact⟨⟨⟨⟨⟨h1,h2⟩,h3⟩,h4⟩,h5⟩,h6⟩
theorem qdp{c:Ct}(h:c.small=true):c.inputs.length<=32/\c.signals.length<=128/\c.plus.length<=40/\c.minus.length<=40/\(∀s∈c.inputs,s.length<=200)/\(∀x∈c.signals,x.name.length<=200/\x.on.light=true/\x.off.light=true):=by
 simp only[Ct.small,jE,jW,jP,q6v,q0x]at h
 obtain⟨⟨⟨⟨⟨h1,h2⟩,h3⟩,h4⟩,h5⟩,h6⟩:=h
 exact⟨h1,h2,h3,h4,h5,fun x hx=>by
  obtain⟨⟨a,b⟩,d⟩:=h6 x hx
  exact⟨a,b,d⟩⟩
theorem zcx{c:Ct}{A:Nat}(h:c.small=true)(k:Nat):(qbl c A k).length<2 ^ 62:=by
 obtain⟨_,_,_,_,h5,h6⟩:=qdp h
 unfold qbl
 split
 .simp
 .split
  .cases hg:c.inputs[k-2*A]? with
   | none=>simp
   | some s =>
    have:=h5 s (jR hg)
    simp only[Option.getD_some]
    omega
  .cases hg:c.signals[k-(2*A+c.inputs.length)]? with
   | none=>simp
   | some x =>
    have:=(h6 x (jR hg)).1
    simp only[Option.map_some,Option.getD_some]
    omega
def z2y(c:Ct)(A k:Nat)(st:St):Prop:=st.h=[⟨0,.box c.cells⟩]/\Keep69 c st.s/\qai st.s 3=num k/\goE (qyu c A) 0 c.inputs.length=goE (qyu c A) k (c.inputs.length-k)
def zxp(c:Ct)(A:Nat)(r:R):Prop:=r.st.s.length=57/\((r.x=.exit 0/\r.st.h=[⟨0,.box c.cells⟩]/\Keep69 c r.st.s/\goE (qyu c A) 0 c.inputs.length=0)\/(r.x=.ret/\qai r.st.s 2=num (goE (qyu c A) 0 c.inputs.length)/\goE (qyu c A) 0 c.inputs.length≠0))
theorem zua{c:Ct}{A:Nat}(h:Mid c A)(hfew:c.small=true)(st:St)(h0:z2y c A 0 st):∃r,ev pg (.code (.going 1 L71_0) st)=some r/\zxp c A r:=by
 refine qau (z2y c A) c.inputs.length (zxp c A) h0 ?_ ?_
 .rintro k ⟨s,hh⟩ hk ⟨rfl,⟨hnn,hl,e1⟩,e3,he⟩
  simp only at hl e1 e3
  have hn:∀j,qai s j ≠ .nils:=qar hnn
  have hc:=ev128 h (2*A+k) (by unfold qac;omega) (zcx hfew _)
  obtain⟨hA,h1,h2,h3,h4⟩:=h
  have hk':(k:Int)<c.inputs.length:=by omega
  have wk:=qbb (k:=k) (by omega)
  have w1:=qan (n:=2*c.act) (by omega) (by omega)
  have hsum:2*c.act+(k:Int)=2*(A:Int)+(k:Int):=by omega
  have w2:=qan (n:=2*(A:Int)+(k:Int)) (by omega) (by omega)
  rw[q9m hk]at he
  have hF:qyu c A k=qep (qax c A (2*A+k)) (qbl c A (2*A+k)):=rfl
  rw[<-hF]at hc
  generalize qyu c A k=f at *
  simp at hc
  rw[qad hl]
  by_cases b:f=0
  .rw[if_pos b]at he
   simp[L71_0,List.range,List.range.loop,e1,e3,hk',w1,hsum,w2,hc,b,wk]
   exact⟨rfl,⟨by simp[qas,hn],rfl,rfl⟩,rfl,he⟩
  .rw[if_neg b]at he
   simp[L71_0,zxp,List.range,List.range.loop,e1,e3,hk',w1,hsum,w2,hc,b,he]
 .rintro⟨s,hh⟩ ⟨rfl,⟨hnn,hl,e1⟩,e3,he⟩
  simp only[Nat.sub_self,goE]at hl e1 e3 he
  have hn:∀j,qai s j ≠ .nils:=qar hnn
  rw[qad hl]
  simp[L71_0,zxp,List.range,List.range.loop,e1,e3,he]
  exact⟨by simp[qas,hn],rfl,rfl⟩
def z2z(c:Ct)(A k:Nat)(st:St):Prop:=st.h=[⟨0,.box c.cells⟩]/\Keep69 c st.s/\qai st.s 5=num k/\goE (quu c A) 0 c.signals.length=goE (quu c A) k (c.signals.length-k)
def zxq(c:Ct)(A:Nat)(r:R):Prop:=r.st.s.length=57/\((r.x=.exit 2/\r.st.h=[⟨0,.box c.cells⟩]/\Keep69 c r.st.s/\goE (quu c A) 0 c.signals.length=0)\/(r.x=.ret/\qai r.st.s 2=num (goE (quu c A) 0 c.signals.length)/\goE (quu c A) 0 c.signals.length≠0))
theorem zub{c:Ct}{A:Nat}(h:Mid c A)(hfew:c.small=true)(st:St)(h0:z2z c A 0 st):∃r,ev pg (.code (.going 1 L71_1) st)=some r/\zxq c A r:=by
 refine qau (z2z c A) c.signals.length (zxq c A) h0 ?_ ?_
 .rintro k ⟨s,hh⟩ hk ⟨rfl,⟨hnn,hl,e1⟩,e5,he⟩
  simp only at hl e1 e5
  have hn:∀j,qai s j ≠ .nils:=qar hnn
  have hc:=ev129 h k hk (by have:=((qdp hfew).2.2.2.2.2 _ (jH hk)).1;omega)
  obtain⟨hA,h1,h2,h3,h4⟩:=h
  have hk':(k:Int)<c.signals.length:=by omega
  have wk:=qbb (k:=k) (by omega)
  rw[q9m hk]at he
  have hF:quu c A k=q7v c A (qax c A (qam c A+k)) k c.signals[k]:=by unfold quu;rw[jA hk]
  rw[<-hF]at hc
  generalize quu c A k=f at *
  rw[qad hl]
  by_cases b:f=0
  .rw[if_pos b]at he
   simp[L71_1,List.range,List.range.loop,e1,e5,hk',hc,b,wk]
   exact⟨rfl,⟨by simp[qas,hn],rfl,rfl⟩,rfl,he⟩
  .rw[if_neg b]at he
   simp[L71_1,zxq,List.range,List.range.loop,e1,e5,hk',hc,b,he]
 .rintro⟨s,hh⟩ ⟨rfl,⟨hnn,hl,e1⟩,e5,he⟩
  simp only[Nat.sub_self,goE]at hl e1 e5 he
  have hn:∀j,qai s j ≠ .nils:=qar hnn
  rw[qad hl]
  simp[L71_1,zxq,List.range,List.range.loop,e1,e5,he]
  exact⟨by simp[qas,hn],rfl,rfl⟩
theorem ev71(c:Ct)(hfew:c.small=true):ev pg (.call (.fn 71 [] []) [c.v] [])=some { v:=num c.check,st:=⟨[],[]⟩ }:=by
 obtain⟨f1,f2,_⟩:=qdp hfew
 rw[qaa,pg71]
 unfold Ct.check
 by_cases a1:c.act<1
 .rw[if_pos (.inl a1)]
  simp[ir71,a1]
 by_cases a2:6<c.act
 .rw[if_pos (.inr a2)]
  simp[ir71,a1,a2]
 rw[if_neg (by omega)]
 by_cases a3:16<c.inputs.length
 .have a3':(16:Int)<(c.inputs.length:Int):=by omega
  rw[if_pos (.inl a3)]
  simp[ir71,a1,a2,a3']
 have a3':¬((16:Int)<(c.inputs.length:Int)):=by omega
 by_cases a4:64<c.signals.length
 .have a4':(64:Int)<(c.signals.length:Int):=by omega
  rw[if_pos (.inr a4)]
  simp[ir71,a1,a2,a3',a4']
 have a4':¬((64:Int)<(c.signals.length:Int)):=by omega
 rw[if_neg (by omega)]
 have hM:Mid c c.act.toNat:=⟨by omega,by omega,by omega,f1,f2⟩
 have h116:=ev130 hM
 have hla:=zua hM hfew
 have hlb:=zub hM hfew
 generalize c.act.toNat=A at *
 unfold ctE
 unfold zxp at hla
 unfold zxq at hlb
 have hIa:∀st:St,z2y c A 0 st<->(st.h=[⟨0,.box c.cells⟩]/\Keep69 c st.s/\qai st.s 3=num 0):=fun st=>by
  unfold z2y
  exact⟨fun h=>⟨h.1,h.2.1,h.2.2.1⟩,fun h=>⟨h.1,h.2.1,h.2.2,rfl⟩⟩
 have hIb:∀st:St,z2z c A 0 st<->(st.h=[⟨0,.box c.cells⟩]/\Keep69 c st.s/\qai st.s 5=num 0):=fun st=>by
  unfold z2z
  exact⟨fun h=>⟨h.1,h.2.1,h.2.2.1⟩,fun h=>⟨h.1,h.2.1,h.2.2,rfl⟩⟩
 generalize goE (qyu c A) 0 c.inputs.length=ei at *
 generalize goE (quu c A) 0 c.signals.length=es at *
 generalize ziq c A=ep at *
 simp[ir71,a1,a2,a3',a4',qah]
 generalize hr:ev pg (.code (.going 1 L71_0) _)=o
 obtain⟨r,rfl,hl,hQ⟩:∃r,o=some r/\_:=by
  rw[<-hr]
  exact hla _ ((hIa _).2 ⟨by simp,⟨by simp[qas],by simp,by simp⟩,by simp⟩)
 rcases hQ with⟨hx,hh,⟨hnn,gl,g1⟩,rfl⟩ | ⟨hx,h2,hE⟩
 .have hns:qas (qer r.st.s 5 (.int .i64 0)):=qej hnn (by simp)
  have had:∀h,qhl h (qer r.st.s 5 (.int .i64 0))=(qer r.st.s 5 (.int .i64 0),h):=fun h=>qdx h hns
  simp[hx,had,hh]
  generalize hr2:ev pg (.code (.going 1 L71_1) _)=o2
  obtain⟨r2,rfl,hl2,hQ2⟩:∃r,o2=some r/\_:=by
   rw[<-hr2]
   exact hlb _ ((hIb _).2 ⟨by simp,⟨hns,by simp[gl],by simp[g1]⟩,by simp[gl]⟩)
  rcases hQ2 with⟨hx2,hh2,⟨_,gl2,g12⟩,rfl⟩ | ⟨hx2,h22,hE2⟩
  .simp[hx2,hh2,gl2,g12,h116]
  .simp[hx2,h22,hE2]
 .simp[hx,h2,hE]
end Go.Proofs.YtbepbclaoohngaaGreat
