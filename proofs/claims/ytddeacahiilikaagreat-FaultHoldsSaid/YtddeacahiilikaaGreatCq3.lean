/- Gates: errors, by the program. Signals: errors, by the program. Signals: errors, by the program, are those by the reference. Controls: numbers of lines, by the program. Controls: errors, by the program. Controls: errors, by the program, are those by the reference. -/
import Derived.Test.YtddeacahiilikaaGreatCt9
set_option linter.all false
namespace Go.Proofs.YtddeacahiilikaaGreat
open Go Go.Am Go.Proofs
set_option maxRecDepth 100000
def qqi(c:Ct)(F i:Nat)(n:Int):Bool:=decide ((i:Int)<=n-F)&&((c.signals[(n-F).toNat]?).map fun x=>decide (x.kind=0)).getD false
abbrev gT(x:Sg)(i:Nat)(b:Bool)(r:H):H:=⟨0,.arr 0 []⟩ :: ⟨0,.arr 0 []⟩ :: ⟨0,.box x.row⟩ :: ⟨0,.box [.bptr 3 0]⟩ :: ⟨0,.box [num i]⟩ :: ⟨0,.arr 0 []⟩ :: ⟨0,.arr 0 []⟩ :: ⟨0,.box x.row⟩ :: ⟨0,.box [.bool b]⟩ :: r
abbrev eT(x:Sg):H:=[⟨0,.box x.on.cells⟩,⟨0,.box [.fn 229 [] [.bptr 7 0,.bptr 12 0,.bptr 8 0]]⟩,⟨0,.box [.fn 270 [] [.bptr 14 0,.bptr 15 0]]⟩]
abbrev gB(c:Ct)(l:List (Txt×Int))(x:Sg)(i:Nat)(b:Bool):H:=hX c l (gT x i b (eT x))
theorem ev229{c:Ct}{A:Nat}(h:Mid c A)(l:List (Txt×Int))(x:Sg)(i:Nat)(b:Bool)(n:Int)(r:H)(hn:0<=n/\n<(qae c A:Nat))(hr:∀b,qce (gB c l x i b++r)):ev pg (.call (.fn 229 [] [.bptr 7 0,.bptr 12 0,.bptr 8 0]) [num n] (gB c l x i b++r))=some { v:=.tup [],st:=⟨[],gB c l x i (b||qqi c (qal c A) i n)++r⟩ }:=by
 have hf:=ev193 h
 obtain⟨hA,h1,h2,h3,h4⟩:=h
 obtain⟨n,rfl⟩:∃k:Nat,n=k:=⟨n.toNat,by omega⟩
 have hnc:n<2*A+c.inputs.length+c.signals.length:=by have:=hn.2;unfold qae at this;omega
 have hck:∀b,qap (16+r.length) (gB c l x i b++r)=gB c l x i b++r:=fun b=>by
  have:=qdz (hr b)
  rw[show(gB c l x i b++r:H).length=16+r.length by simp;omega]at this
  exact this
 have hlen:r.length+1+1+1+1+1+1+1+1+1+1+1+1+1+1+1+1=16+r.length:=by omega
 have w1:=qab (n:=(n:Int)-(2*(A:Int)+(c.inputs.length:Int))) (by omega) (by omega)
 have hl16:(gB c l x i b++r:H).length=16+r.length:=by simp;omega
 rw[qac,pg229]
 have hlen:r.length+1+1+1+1+1+1+1+1+1+1+1+1+1+1+1+1=16+r.length:=by omega
 cases b with
 | true =>
  have hck:=hck true
  simp only[Bool.true_or]
  simp[-qap,ir229,hf,w1,hlen]
  exact hck
 | false =>
  by_cases hge:(i:Int)<=(n:Int)-(2*(A:Int)+(c.inputs.length:Int))
  .obtain⟨k,hk⟩:∃k:Nat,(n:Int)-(2*(A:Int)+(c.inputs.length:Int))=k:=⟨((n:Int)-(2*(A:Int)+(c.inputs.length:Int))).toNat,by omega⟩
   have hkl:k<c.signals.length:=by omega
   have hik:(i:Int)<=(k:Int):=by omega
   have hL:qqi c (qal c A) i n=(c.signals[k].kind==0):=by
    unfold qqi
    rw[show(n:Int)-((qal c A:Nat):Int)=k by unfold qal;omega]
    simp only[Int.toNat_natCast,jA hkl,decide_eq_true hik]
    rfl
   rw[hL,Bool.false_or]
   rw[hk]at w1
   have hck:=hck (c.signals[k].kind==0)
   simp[-qap,ir229,hf,hk,w1,hlen,hik,hkl]
   exact hck
  .have hL:qqi c (qal c A) i n=false:=by
    unfold qqi
    rw[decide_eq_false (by unfold qal;push_cast;omega),Bool.false_and]
   rw[hL]
   have hck:=hck false
   simp[-qap,ir229,hf,w1,hlen,hge]
   exact hck
theorem zrc(c:Ct)(l:List (Txt×Int))(x:Sg)(i:Nat)(b:Bool):qce (gB c l x i b):=by
 simp[qce,qbk]
theorem ev228{c:Ct}{A:Nat}(h:Mid c A)(l:List (Txt×Int))(x:Sg)(i:Nat)(hx:x.on.nodes<=256)(hv:x.on.err (qae c A:Nat)=0):ev pg (.call (.fn 228 [] []) [x.on.v,.fn 229 [] [.bptr 7 0,.bptr 12 0,.bptr 8 0]] (hX c l (gT x i false [])))=some { v:=.tup [],st:=⟨[],hX c l (gT x i (x.on.anyV (qqi c (qal c A) i)) [])⟩ }:=by
 have hY:Eac 14 (qae c A:Nat) (qqi c (qal c A) i) [.bptr 7 0,.bptr 12 0,.bptr 8 0] (gB c l x i):=⟨fun b=>rfl,fun b=>rfl,fun b=>rfl,fun b n r hn hr=>ev229 h l x i b n r hn hr,rfl⟩
 have h186:=ev270 hY x.on false [] hx hv (fun b=>by rw[List.append_nil];exact zrc c l x i b)
 rw[List.append_nil,List.append_nil,Bool.false_or]at h186
 generalize x.on.anyV (qqi c (qal c A) i)=B at *
 rw[qac,pg228]
 simp[ir228,h186]
abbrev s3(x:Sg):H:=[⟨0,.arr 0 []⟩,⟨0,.arr 0 []⟩,⟨0,.box x.row⟩]
theorem zft(c:Ct)(l:List (Txt×Int))(x:Sg):qce (hX c l (s3 x)):=by
 simp[qce,qbk]
def zed(c:Ct)(F i:Nat)(x:Sg):Int:=if x.on.anyV (qqi c F i)=true then 9 else if x.off.zero=false\/x.init=true\/x.delay≠0 then 3 else 0
theorem ev183{c:Ct}{A:Nat}(h:Mid c A)(l:List (Txt×Int))(i:Nat)(hi:i<c.signals.length)(hx:c.signals[i].on.nodes<=256)(hv:c.signals[i].on.err (qae c A:Nat)=0):ev pg (.call (.fn 183 [.bptr 3 0] []) [num i] (hX c l (s3 c.signals[i])))=some { v:=num (zed c (qal c A) i c.signals[i]),st:=⟨[],hX c l (s3 c.signals[i])⟩ }:=by
 have h153:=ev228 h l c.signals[i] i hx hv
 have hz:=ev230 c.signals[i].off
 have hck:qap 7 (hX c l (s3 c.signals[i]))=hX c l (s3 c.signals[i]):=qdz (zft c l c.signals[i])
 unfold zed
 generalize hG:hX c l (s3 c.signals[i])=G at *
 rw[<-hG]
 generalize c.signals[i].on.anyV (qqi c (qal c A) i)=B at *
 generalize c.signals[i].off.zero=ze at *
 rw[qac,pg183]
 cases B with
 | true =>
  simp[ir183,hi,h153]
 | false =>
  cases ze with
  | false =>
   simp[ir183,hi,h153,hz]
  | true =>
   cases hin:c.signals[i].init with
   | true =>
    simp[ir183,hi,h153,hz]
    simp[hin]
   | false =>
    by_cases hd:c.signals[i].delay=0
    .simp[ir183,hi,h153,hz]
     simp[hin,hd]
    .simp[ir183,hi,h153,hz]
     simp[hin,hd]
def z3u(c:Ct)(A:Nat)(x:Sg):Int:=if x.off.check (qae c A)=0 then(if x.delay=0 then 0 else 3)else x.off.check (qae c A)
theorem ev184{c:Ct}{A:Nat}(h:Mid c A)(l:List (Txt×Int))(i:Nat)(hi:i<c.signals.length)(hx:c.signals[i].off.light=true):ev pg (.call (.fn 184 [.bptr 3 0] []) [num i] (hX c l (s3 c.signals[i])))=some { v:=num (z3u c A c.signals[i]),st:=⟨[],hX c l (s3 c.signals[i])⟩ }:=by
 have h133:=ev180 h
 have h157:=ev231 c.signals[i].off (qae c A:Nat) hx
 rw[qac,pg184]
 unfold z3u
 generalize c.signals[i].off.check (qae c A)=e at *
 simp at h157
 by_cases he:e=0
 .by_cases hd:c.signals[i].delay=0
  .simp[ir184,qaa,exT,qaf,hi,h133,h157,he,hd]
  .simp[ir184,qaa,exT,qaf,hi,h133,h157,he,hd]
 .simp[ir184,qaa,exT,qaf,hi,h133,h157,he]
def z0u(x:Sg):Int:=if x.delay<1\/1000000<x.delay then 2 else if x.off.zero=false\/x.init=true then 3 else 0
theorem ev185(c:Ct)(l:List (Txt×Int))(i:Nat)(hi:i<c.signals.length):ev pg (.call (.fn 185 [.bptr 3 0] []) [num i] (hX c l (s3 c.signals[i])))=some { v:=num (z0u c.signals[i]),st:=⟨[],hX c l (s3 c.signals[i])⟩ }:=by
 have hz:=ev230 c.signals[i].off
 unfold z0u
 generalize c.signals[i].off.zero=ze at *
 rw[qac,pg185]
 by_cases d1:c.signals[i].delay<1
 .simp[ir185,hi,d1]
 .by_cases d2:1000000<c.signals[i].delay
  .simp[ir185,hi,d1,d2]
  .cases ze with
   | false=>simp[ir185,hi,hz,d1,d2]
   | true =>
    cases hin:c.signals[i].init with
    | true =>
     simp[ir185,hi,hz,d1,d2]
     simp[hin]
    | false =>
     simp[ir185,hi,hz,d1,d2]
     simp[hin]
def zkp(c:Ct)(A:Nat)(K:List Txt)(i:Nat)(x:Sg):Int :=
 if qec K x.name=0 then
  if x.kind<0\/3<=x.kind then 1
  else if x.on.check (qae c A)=0 then(if x.kind=0 then zed c (qal c A) i x else if x.kind=1 then z3u c A x else z0u x)
  else x.on.check (qae c A)
 else qec K x.name
theorem qpd{x:Ex}{n:Int}(h:x.check n=0):x.err n=0:=by
 unfold Ex.check at h
 split at h
 .cases h
 .split at h
  .exact h
  .cases h
theorem ev187{c:Ct}{A:Nat}(h:Mid c A)(l:List (Txt×Int))(i:Nat)(hi:i<c.signals.length)(hon:c.signals[i].on.light=true)(hoff:c.signals[i].off.light=true):∃l',ev pg (.call (.fn 187 [] []) [.bptr 3 0,num i] (hX c l []))=some { v:=num (zkp c A (l.map Prod.fst) i c.signals[i]),st:=⟨[],hX c l' []⟩ }/\((qec (l.map Prod.fst) c.signals[i].name=0/\∀q,q∈l'.map Prod.fst<->(q∈l.map Prod.fst\/q=c.signals[i].name))\/(qec (l.map Prod.fst) c.signals[i].name≠0/\l'=l)):=by
 obtain⟨l',h128,hl'⟩:=ev186 c l (s3 c.signals[i]) (fun l=>zft c l c.signals[i]) c.signals[i].name
 refine⟨l',?_,hl'⟩
 have h133:=ev180 h
 have h157:=ev231 c.signals[i].on (qae c A:Nat) hon
 have h124:=fun hv=>ev183 h l' i hi (qbx hon).1 (qpd (n:=(qae c A:Nat)) hv)
 have h125:=ev184 h l' i hi hoff
 have h126:=ev185 c l' i hi
 unfold zkp
 generalize qec (l.map Prod.fst) c.signals[i].name=ne at *
 generalize c.signals[i].on.check (qae c A:Nat)=oe at *
 generalize zed c (qal c A) i c.signals[i]=ge at *
 generalize z3u c A c.signals[i]=me at *
 generalize z0u c.signals[i]=te at *
 clear hl'
 simp at h157
 rw[qac,pg187]
 by_cases e1:ne=0
 .rw[if_pos e1]
  by_cases e2:c.signals[i].kind<0
  .rw[if_pos (.inl e2)]
   simp[ir187,hi,h128,e1,e2]
  by_cases e3:3<=c.signals[i].kind
  .rw[if_pos (.inr e3)]
   simp[ir187,hi,h128,e1,e2,e3]
  rw[if_neg (by omega)]
  by_cases e4:oe=0
  .rw[if_pos e4]
   have h124:=h124 e4
   have hk0:0<=c.signals[i].kind:=by omega
   rcases (by omega:c.signals[i].kind=0\/c.signals[i].kind=1\/c.signals[i].kind=2)with k0 | k0 | k0
   .have hkn:c.signals[i].kind.toNat=0:=by omega
    rw[if_pos k0]
    simp[qaa,exT,qaf,ir187,hi,h128,h133,h157,h124,e1,e2,e3,e4,hk0,hkn]
   .have hkn:c.signals[i].kind.toNat=1:=by omega
    rw[if_neg (by omega),if_pos k0]
    simp[qaa,exT,qaf,ir187,hi,h128,h133,h157,h125,e1,e2,e3,e4,hk0,hkn]
   .have hkn:c.signals[i].kind.toNat=2:=by omega
    rw[if_neg (by omega),if_neg (by omega)]
    simp[qaa,exT,qaf,ir187,hi,h128,h133,h157,h126,e1,e2,e3,e4,hk0,hkn]
  .rw[if_neg e4]
   simp[qaa,exT,qaf,ir187,hi,h128,h133,h157,e1,e2,e3,e4]
 .rw[if_neg e1]
  simp[ir187,hi,h128,e1]
theorem zfe{f:Int->Bool}{l:List Ex}(ih:∀y∈l,y.anyV f=true<->∃v,y.anyV (· == v)=true/\f v=true):qjb f l=true<->∃v,qjb (· == v) l=true/\f v=true:=by
 induction l with
 | nil=>simp[qjb]
 | cons y l ihl =>
  have h1:=ih y (by simp)
  have h2:=ihl fun z hz=>ih z (by simp[hz])
  simp only[qjb,Bool.or_eq_true]
  rw[h1,h2]
  constructor
  .rintro(⟨v,a,b⟩ | ⟨v,a,b⟩)
   .exact⟨v,.inl a,b⟩
   .exact⟨v,.inr a,b⟩
  .rintro⟨v,a | a,b⟩
   .exact .inl ⟨v,a,b⟩
   .exact .inr ⟨v,a,b⟩
theorem zkj(f:Int->Bool):∀x:Ex,x.anyV f=true<->∃v,x.anyV (· == v)=true/\f v=true:=by
 refine Ex.ind fun x ih=>?_
 have h:=zfe ih
 simp only[q5z,Bool.or_eq_true,jE,jW,beq_iff_eq]
 rw[h]
 constructor
 .rintro(⟨a,b⟩ | ⟨v,a,b⟩)
  .exact⟨x.idx,.inl ⟨a,rfl⟩,b⟩
  .exact⟨v,.inr a,b⟩
 .rintro⟨v,⟨a,rfl⟩ | a,b⟩
  .exact .inl ⟨a,b⟩
  .exact .inr ⟨v,a,b⟩
theorem zkw{v:Int}{l:List Ex}(ih:∀y∈l,y.occ v=y.anyV (· == v)):q1f v l=qjb (· == v) l:=by
 induction l with
 | nil=>rfl
 | cons y l ihl=>rw[q1f,qjb,ih y (by simp),ihl fun z hz=>ih z (by simp[hz])]
theorem q8g{o i n:Int}{k:Nat}(h:qbq o i k n=0)(ho:o=1):k=0:=by
 subst ho
 by_cases hk:k=0
 .exact hk
 .have e:qbq 1 i k n=3:=by simp[qbq,hk]
  omega
theorem zgu(v n:Int):∀x:Ex,x.err n=0->x.occ v=x.anyV (· == v):=by
 refine Ex.ind fun x ih hx=>?_
 obtain⟨h1,h2⟩:=qmz hx
 rw[qxx,q5z]
 by_cases ho:x.op=1
 .have ha:x.args=[]:=List.length_eq_zero_iff.1 (q8g h1 ho)
  simp[ho,ha,qjb]
 .simp only[if_neg ho,decide_eq_false ho,Bool.false_and,Bool.false_or]
  exact zkw fun y hy=>ih y hy (h2 y hy)
theorem qqo(on:Ex)(F:Nat):∀(l:List Sg) (k:Nat),qgh on F k l=true<->∃j x,l[j]?=some x/\x.kind=0/\on.occ (F+(k+j):Nat)=true
 | [],k=>by simp[qgh]
 | y :: l,k=>by
  rw[qgh,Bool.or_eq_true,jE,jW,qqo on F l (k+1)]
  constructor
  .rintro(⟨a,b⟩ | ⟨j,x,a,b,d⟩)
   .exact⟨0,y,rfl,a,b⟩
   .exact⟨j+1,x,a,b,by rw[show F+(k+(j+1))=F+(k+1+j)by omega];exact d⟩
  .rintro⟨j,x,a,b,d⟩
   cases j with
   | zero=>exact .inl (by obtain rfl:y=x:=(by simpa using a);exact⟨b,d⟩)
   | succ j=>exact .inr ⟨j,x,by simpa using a,b,by rw[show F+(k+1+j)=F+(k+(j+1))by omega];exact d⟩
theorem zua(c:Ct)(A i:Nat)(on:Ex)(n:Int)(h:on.err n=0):on.anyV (qqi c (qal c A) i)=qgh on (qal c A) i (c.signals.drop i):=by
 rw[Bool.eq_iff_iff,zkj,qqo]
 constructor
 .rintro⟨v,hv,hf⟩
  simp only[qqi,jE,jW]at hf
  obtain⟨h1,h2⟩:=hf
  cases hg:c.signals[(v-(qal c A:Nat)).toNat]? with
  | none=>rw[hg]at h2;cases h2
  | some x =>
   rw[hg]at h2
   refine⟨(v-(qal c A:Nat)).toNat-i,x,?_,by simpa using h2,?_⟩
   .rw[List.getElem?_drop,<-hg];congr 1;omega
   .rw[zgu _ n on h,show((qal c A+(i+((v-(qal c A:Nat)).toNat-i)):Nat):Int)=v by omega]
    exact hv
 .rintro⟨j,x,a,b,d⟩
  rw[List.getElem?_drop]at a
  rw[zgu _ n on h]at d
  refine⟨_,d,?_⟩
  simp only[qqi,jE,jW]
  refine⟨by omega,?_⟩
  rw[show(((qal c A+(i+j):Nat):Int)-(qal c A:Nat)).toNat=i+j by omega,a]
  simpa using b
theorem zuo(c:Ct)(A:Nat)(K:List Txt)(i:Nat)(x:Sg):zkp c A K i x=q4v c A K i x:=by
 unfold zkp q4v zed z3u z0u
 by_cases h0:qec K x.name=0
 .rw[if_pos h0,if_pos h0]
  by_cases h1:x.kind<0\/3<=x.kind
  .rw[if_pos h1,if_pos h1]
  .rw[if_neg h1,if_neg h1]
   by_cases h2:x.on.check (qae c A)=0
   .rw[if_pos h2,if_pos h2,zua c A i x.on _ (qpd h2)]
    generalize qgh x.on (qal c A) i (c.signals.drop i)=L
    generalize x.off.check (qae c A)=e
    rcases (by omega:x.kind=0\/x.kind=1\/x.kind=2)with k | k | k
    .simp[k,or_assoc]
    .simp[k]
    .simp[k]
   .rw[if_neg h2,if_neg h2]
 .rw[if_neg h0,if_neg h0]
theorem ev197(n:Nat)(hn:0<n)(hn2:n<=80):ev pg (.call (.fn 197 [] []) [.nils,num n] [⟨0,.arr 0 []⟩])=some { v:=.sl 1 0 1 0 0,st:=⟨[],[⟨0,.arr 0 []⟩,⟨0,.arr 1 []⟩]⟩ }:=by
 have w1:=qab (n:=(n:Int)) (by omega) (by omega)
 have p1:¬((n:Int)<0):=by omega
 have w0:=qab (n:=0) (by omega) (by omega)
 have p3:n*8<=140737488355328:=by omega
 rw[qac,pg197]
 simp[ir197,w0,w1,p1,hn,p3,qct,qel,qek]
 omega
theorem ev120(a b:List Int)(ha:a.length<=40)(hb:b.length<=40)(hp:0<a.length):ev pg (.call (.fn 120 [] []) [.imm [[qcl a],[qcl b]]] [])=some { v:=.sl 0 0 1 0 (a.length+b.length),st:=⟨[],[⟨0,.arr 1 ((a++b).map qcc)⟩]⟩ }:=by
 have h161:=ev197 (a.length+b.length) (by omega) (by omega)
 have w1:=qab (n:=(a.length:Int)) (by omega) (by omega)
 have w2:=qab (n:=(a.length:Int)+(b.length:Int)) (by omega) (by omega)
 have p1:¬((a.length:Int)<0):=by omega
 have p2:¬((a.length:Int)+(b.length:Int)<0):=by omega
 have i1:=qab (n:=1) (by omega) (by omega)
 have i2:=qab (n:=2) (by omega) (by omega)
 have q1:a.length*8<=140737488355328:=by omega
 have q2:(a.length+b.length)*8<=140737488355328:=by omega
 have hf:((a.length:Int)+(b.length:Int))=((a.length+b.length:Nat):Int):=by omega
 simp at h161
 rw[qac,pg120]
 simp[ir120,qag]
 rw[qdt]
 simp[L120_0,w1,p1,i1]
 rw[qdt]
 simp[w2,p2,i2]
 rw[qdt]
 simp[h161]
 rw[qdt]
 simp[L120_1,q1,i1]
 rw[qdt]
 simp[i2,q2]
 rw[qdt]
 simp[qct,qel,qek]
def I87(v:V)(h:H)(l:List Int)(p:Int->Bool)(k:Nat)(st:St):Prop:=st.h=h/\st.s.length=19/\qai st.s 0=qcl l/\qai st.s 1=v/\qai st.s 7=num l.length/\qai st.s 8=num k/\l.any p=(l.drop k).any p
def Q87(h:H)(l:List Int)(p:Int->Bool)(r:R):Prop:=r.st.s.length=19/\((r.x=.exit 0/\r.st.h=h/\l.any p=false)\/(r.x=.ret/\r.st.h=h/\(∃k:Nat,qai r.st.s 4=num k)/\l.any p=true))
theorem z2b{f:Nat}{caps:List V}{h:H}{l:List Int}{p:Int->Bool}(hl80:l.length<=4096)(hlow:qfo 0 caps=false)(hcap:qfo h.length caps=true)(hc:∀n:Int,ev pg (.call (.fn f [] caps) [num n] h)=some { v:=.bool (p n),st:=⟨[],h⟩ })(hcl:qce h)(n:Nat)(hn:n=h.length)(st:St)(h0:I87 (.fn f [] caps) h l p 0 st):∃r,ev pg (.code (.going n L235_0) st)=some r/\Q87 h l p r:=by
 have hcut:=qgz hcl
 rw[<-hn]at hcut hcap
 refine qaq (I87 (.fn f [] caps) h l p) l.length (Q87 h l p) h0 ?_ ?_
 .rintro k ⟨s,hh⟩ hk ⟨rfl,hl,e0,e1,e7,e8,he⟩
  simp only at hl e0 e1 e7 e8
  have hk':(k:Int)<l.length:=by omega
  have wk:=qab (n:=(k:Int)+1) (by omega) (by omega)
  have hcn:=hc l[k]
  rw[zhj hk]at he
  generalize p l[k]=b at *
  rw[qad hl]
  cases b with
  | true =>
   simp[-qbb,L235_0,Q87,List.range,List.range.loop,e0,e1,e7,e8,hk,hk',hlow,hcn]
   exact⟨⟨k,rfl⟩,by simpa using he⟩
  | false =>
   simp[-qbb,L235_0,I87,List.range,List.range.loop,e0,e1,e7,e8,hk,hk',hlow,hcn,hcut,hcap,wk]
   simpa using he
 .rintro⟨s,hh⟩ ⟨rfl,hl,e0,e1,e7,e8,he⟩
  simp only[List.drop_length]at hl e0 e1 e7 e8 he
  have he':l.any p=false:=he
  rw[qad hl]
  simp[L235_0,Q87,List.range,List.range.loop,e0,e1,e7,e8]
  simpa using he'
theorem ev188{f:Nat}{caps:List V}{h:H}{l:List Int}{p:Int->Bool}(hl80:l.length<=4096)(hlow:qfo 0 caps=false)(hcap:qfo h.length caps=true)(hc:∀n:Int,ev pg (.call (.fn f [] caps) [num n] h)=some { v:=.bool (p n),st:=⟨[],h⟩ })(hcl:qce h):ev pg (.call (.fn 188 [] []) [qcl l,.fn f [] caps] h)=some { v:=.bool (l.any p),st:=⟨[],h⟩ }:=by
 have hloop:=z2b hl80 hlow hcap hc hcl
 have hck:=qdz hcl
 have h87:∃r:Int,ev pg (.call (.fn 235 [] []) [qcl l,.fn f [] caps] h)=some { v:=num r,st:=⟨[],h⟩ }/\decide (0<=r)=l.any p:=by
  unfold Q87 at hloop
  have hI:∀st:St,I87 (.fn f [] caps) h l p 0 st<->(st.h=h/\st.s.length=19/\qai st.s 0=qcl l/\qai st.s 1=.fn f [] caps/\qai st.s 7=num l.length/\qai st.s 8=num 0):=fun st=>by
   unfold I87
   exact⟨fun h=>⟨h.1,h.2.1,h.2.2.1,h.2.2.2.1,h.2.2.2.2.1,h.2.2.2.2.2.1⟩,fun h=>⟨h.1,h.2.1,h.2.2.1,h.2.2.2.1,h.2.2.2.2.1,h.2.2.2.2.2,rfl⟩⟩
  generalize l.any p=B at *
  rw[qac,pg235]
  simp[-qap,ir235,qag]
  generalize hr:ev pg (.code (.going _ L235_0) _)=o
  obtain⟨r,rfl,hl,hQ⟩:∃r,o=some r/\_:=by
   rw[<-hr]
   exact hloop _ rfl _ ((hI _).2 ⟨by simp,by simp,by simp,by simp,by simp,by simp⟩)
  rcases hQ with⟨hx,hh,rfl⟩ | ⟨hx,hh,⟨k,h4⟩,rfl⟩
  .simp[-qap,hx,hh,hl,hck]
  .simp[-qap,hx,hh,h4,hck]
 obtain⟨r,h87,hr⟩:=h87
 rw[qac,pg188,<-hr]
 simp[-qap,ir188,h87,hck]
theorem ev189{c:Ct}{A:Nat}(hM:Mid c A){h:H}{i:Nat}(hi:h[i]?=some ⟨0,.box c.cells⟩)(hcl:qce h)(n:Int):ev pg (.call (.fn 189 [] [.bptr i 0]) [num n] h)=some { v:=.bool (qfj (qae c A:Nat) n),st:=⟨[],h⟩ }:=by
 have hck:=qdz hcl
 have h133:=ev180 hM
 rw[qac,pg189]
 unfold qfj
 generalize qae c A=N at *
 by_cases h1:n<0
 .simp[-qap,ir189,h1,hck]
 .simp[-qap,ir189,h1,hi,h133,hck]
theorem qwb{K L:List Txt}(h:∀q,q∈K<->q∈L)(s:Txt):qec K s=qec L s:=by
 unfold qec
 simp only[h s]
theorem zcd(c:Ct)(A:Nat){K L:List Txt}(h:∀q,q∈K<->q∈L)(i:Nat)(x:Sg):zkp c A K i x=zkp c A L i x:=by
 unfold zkp
 rw[qwb h]
theorem qmf(c:Ct)(A n:Nat)(q:Txt):q∈qbs c A (n+1)<->(q∈qbs c A n\/q=qbm c A n):=by
 unfold qbs
 rw[List.range_succ,List.map_append,jQ]
 simp
theorem qwx(c:Ct)(A j:Nat)(hj:j<c.inputs.length):qbm c A (2*A+j)=c.inputs[j]:=by
 unfold qbm
 rw[if_neg (by omega),if_pos (by omega),show 2*A+j-2*A=j by omega,jA hj]
 rfl
def qnk(c:Ct)(A n:Nat)(l:List (Txt×Int)):Prop:=∀q,q∈l.map Prod.fst<->q∈qbs c A n
theorem ziu(c:Ct)(l:List (Txt×Int)):qce (hX c l []):=by simp[qce,qbk]
structure Keep84(st:List V):Prop where
 nn:qat st
 len:st.length=111
 t1:qai st 1=.bptr 1 0
 t4:qai st 4=.bptr 3 0
def jil(c:Ct)(A k:Nat)(st:St):Prop:=(∃l,st.h=hX c l []/\qnk c A k l)/\Keep84 st.s/\qai st.s 45=num (2*A:Nat)/\qai st.s 46=num k
def z9v(c:Ct)(A:Nat)(r:R):Prop:=r.x=.exit 0/\(∃l,r.st.h=hX c l []/\qnk c A (2*A) l)/\Keep84 r.st.s
theorem zve{c:Ct}{A:Nat}(h:Mid c A)(st:St)(h0:jil c A 0 st):∃r,ev pg (.code (.going 4 L109_0) st)=some r/\z9v c A r:=by
 refine qaq (jil c A) (2*A) (z9v c A) h0 ?_ ?_
 .rintro k ⟨s,hh⟩ hk ⟨⟨l,rfl,hkeys⟩,⟨hnn,hl,e1,e4⟩,e45,e46⟩
  simp only at hl e1 e4 e45 e46
  have hn:∀j,qai s j ≠ .nils:=qar hnn
  have hk':(k:Int)<((2*A:Nat):Int):=by omega
  have h6:=h.hi
  have wk:=qab (n:=(k:Int)+1) (by omega) (by omega)
  have hc:=ev181 h k (by unfold qae;omega)
  obtain⟨l',hu1,hu2⟩:=q4w l (qbm c A k) k
  have hcut:∀l,qbb 4 (hX c l [])=hX c l []:=fun l=>qgz (ziu c l)
  generalize hN:2*A=N at *
  generalize hq:qbm c A k=q at *
  rw[qad hl]
  simp[qaa,exT,qaf,L109_0,List.range,List.range.loop,e1,e4,e45,e46,hk',hc,hu1,wk]
  exact⟨⟨l',rfl,fun t=>by rw[hu2,qmf,hq,hkeys t]⟩,⟨by simp[qat,hn],rfl,rfl,rfl⟩,by rw[hN];rfl,rfl⟩
 .rintro⟨s,hh⟩ ⟨⟨l,rfl,hkeys⟩,⟨hnn,hl,e1,e4⟩,e45,e46⟩
  simp only at hl e1 e4 e45 e46
  have hn:∀j,qai s j ≠ .nils:=qar hnn
  rw[qad hl]
  simp[L109_0,z9v,List.range,List.range.loop,e1,e4,e45,e46]
  exact⟨⟨l,rfl,hkeys⟩,⟨by simp[qat,hn],rfl,rfl,rfl⟩⟩
def z7z(c:Ct)(A k:Nat)(st:St):Prop:=(∃l,st.h=hX c l []/\qnk c A (2*A+k) l)/\Keep84 st.s/\qai st.s 59=.imm (c.inputs.map qld)/\qai st.s 60=num c.inputs.length/\qai st.s 61=num k/\goE (qyj c A) 0 c.inputs.length=goE (qyj c A) k (c.inputs.length-k)
def z5k(c:Ct)(A:Nat)(r:R):Prop:=(r.x=.exit 2/\(∃l,r.st.h=hX c l []/\qnk c A (qal c A) l)/\Keep84 r.st.s/\goE (qyj c A) 0 c.inputs.length=0)\/(r.x=.ret/\r.st.s.length=111/\qai r.st.s 2=.undef/\qai r.st.s 3=num (goE (qyj c A) 0 c.inputs.length)/\goE (qyj c A) 0 c.inputs.length≠0/\∃l,r.st.h=hX c l [])
theorem zqr{c:Ct}{A:Nat}(h:Mid c A)(st:St)(h0:z7z c A 0 st):∃r,ev pg (.code (.going 4 L109_1) st)=some r/\z5k c A r:=by
 refine qaq (z7z c A) c.inputs.length (z5k c A) h0 ?_ ?_
 .rintro k ⟨s,hh⟩ hk ⟨⟨l,rfl,hkeys⟩,⟨hnn,hl,e1,e4⟩,e59,e60,e61,he⟩
  simp only at hl e1 e4 e59 e60 e61
  have hn:∀j,qai s j ≠ .nils:=qar hnn
  obtain⟨hA,h1,h2,h3,h4⟩:=h
  have hk':(k:Int)<c.inputs.length:=by omega
  have wk:=qab (n:=(k:Int)+1) (by omega) (by omega)
  obtain⟨l',hc,hl'⟩:=ev186 c l [] (fun l=>ziu c l) c.inputs[k]
  rw[q8b hk]at he
  have hF:qec (l.map Prod.fst) c.inputs[k]=qyj c A k:=by
   rw[qwb hkeys,qyj,qwx c A k hk]
  rw[hF]at hc hl'
  have hkeys':qyj c A k=0->qnk c A (2*A+(k+1)) l':=fun h0=>by
   rcases hl' with⟨_,h⟩ | ⟨h,_⟩
   .intro q
    rw[h q,show 2*A+(k+1)=2*A+k+1 by omega,qmf,hkeys q,qwx c A k hk]
   .exact absurd h0 h
  generalize qyj c A k=f at *
  rw[qad hl]
  by_cases b:f=0
  .rw[if_pos b]at he
   simp[L109_1,List.range,List.range.loop,e1,e4,e59,e60,e61,hk,hk',hc,b,wk]
   exact⟨⟨l',rfl,hkeys' b⟩,⟨by simp[qat,hn],rfl,rfl,rfl⟩,rfl,rfl,rfl,he⟩
  .rw[if_neg b]at he
   simp[L109_1,z5k,List.range,List.range.loop,e1,e4,e59,e60,e61,hk,hk',hc,b,he]
   exact⟨l',rfl⟩
 .rintro⟨s,hh⟩ ⟨⟨l,rfl,hkeys⟩,⟨hnn,hl,e1,e4⟩,e59,e60,e61,he⟩
  simp only[Nat.sub_self,goE]at hl e1 e4 e59 e60 e61 he
  have hn:∀j,qai s j ≠ .nils:=qar hnn
  rw[qad hl]
  simp[L109_1,z5k,List.range,List.range.loop,e1,e4,e59,e60,e61,he]
  exact⟨⟨l,rfl,hkeys⟩,⟨by simp[qat,hn],rfl,rfl,rfl⟩⟩
def jcu(c:Ct)(A k:Nat)(st:St):Prop:=(∃l,st.h=hX c l []/\qnk c A (qal c A+k) l)/\Keep84 st.s/\qai st.s 74=num c.signals.length/\qai st.s 75=num k/\goE (qth c A) 0 c.signals.length=goE (qth c A) k (c.signals.length-k)
def z1q(c:Ct)(A:Nat)(r:R):Prop:=(r.x=.exit 4/\(∃l,r.st.h=hX c l [])/\Keep84 r.st.s/\goE (qth c A) 0 c.signals.length=0)\/(r.x=.ret/\r.st.s.length=111/\qai r.st.s 2=.undef/\qai r.st.s 3=num (goE (qth c A) 0 c.signals.length)/\goE (qth c A) 0 c.signals.length≠0/\∃l,r.st.h=hX c l [])
theorem zqk{c:Ct}{A:Nat}(h:Mid c A)(hfew:c.small=true)(st:St)(h0:jcu c A 0 st):∃r,ev pg (.code (.going 4 L109_2) st)=some r/\z1q c A r:=by
 refine qaq (jcu c A) c.signals.length (z1q c A) h0 ?_ ?_
 .rintro k ⟨s,hh⟩ hk ⟨⟨l,rfl,hkeys⟩,⟨hnn,hl,e1,e4⟩,e74,e75,he⟩
  simp only at hl e1 e4 e74 e75
  have hn:∀j,qai s j ≠ .nils:=qar hnn
  obtain⟨_,hon,hoff⟩:=(qcf hfew).2.2.2.2.2 _ (jH hk)
  obtain⟨l',hc,hl'⟩:=ev187 h l k hk hon hoff
  obtain⟨hA,h1,h2,h3,h4⟩:=h
  have hk':(k:Int)<c.signals.length:=by omega
  have wk:=qab (n:=(k:Int)+1) (by omega) (by omega)
  rw[q8b hk]at he
  have hF:zkp c A (l.map Prod.fst) k c.signals[k]=qth c A k:=by
   rw[zcd c A hkeys,zuo]
   unfold qth
   rw[jA hk]
  have hkeys':qth c A k=0->qnk c A (qal c A+(k+1)) l':=fun h0=>by
   rcases hl' with⟨_,h⟩ | ⟨h,_⟩
   .intro q
    rw[h q,show qal c A+(k+1)=qal c A+k+1 by omega,qmf,hkeys q,qqx c A k hk]
   .rw[<-hF]at h0
    unfold zkp at h0
    rw[if_neg h]at h0
    exact absurd h0 h
  rw[hF]at hc
  generalize qth c A k=f at *
  rw[qad hl]
  by_cases b:f=0
  .rw[if_pos b]at he
   simp[L109_2,List.range,List.range.loop,e1,e4,e74,e75,hk',hc,b,wk]
   exact⟨⟨l',rfl,hkeys' b⟩,⟨by simp[qat,hn],rfl,rfl,rfl⟩,rfl,rfl,he⟩
  .rw[if_neg b]at he
   simp[L109_2,z1q,List.range,List.range.loop,e1,e4,e74,e75,hk',hc,b,he]
   exact⟨l',rfl⟩
 .rintro⟨s,hh⟩ ⟨⟨l,rfl,hkeys⟩,⟨hnn,hl,e1,e4⟩,e74,e75,he⟩
  simp only[Nat.sub_self,goE]at hl e1 e4 e74 e75 he
  have hn:∀j,qai s j ≠ .nils:=qar hnn
  rw[qad hl]
  simp[L109_2,z1q,List.range,List.range.loop,e1,e4,e74,e75,he]
  exact⟨⟨l,rfl⟩,⟨by simp[qat,hn],rfl,rfl,rfl⟩⟩
theorem ev109(c:Ct)(hfew:c.small=true):∃v z,ev pg (.call (.fn 109 [] []) [c.v] [⟨0,.box c.cells⟩])=some { v:=.tup [v,num c.check],st:=⟨[],z⟩ }:=by
 obtain⟨f1,f2,f3,f4,_⟩:=qcf hfew
 rw[qac,pg109]
 unfold Ct.check
 by_cases a1:c.act<1
 .rw[if_pos (.inl a1)]
  simp[ir109,a1]
 by_cases a2:6<c.act
 .rw[if_pos (.inr a2)]
  simp[ir109,a1,a2]
 rw[if_neg (by omega)]
 by_cases a3:16<c.inputs.length
 .have a3':(16:Int)<(c.inputs.length:Int):=by omega
  rw[if_pos (.inl a3)]
  simp[ir109,a1,a2,a3']
 have a3':¬((16:Int)<(c.inputs.length:Int)):=by omega
 by_cases a4:64<c.signals.length
 .have a4':(64:Int)<(c.signals.length:Int):=by omega
  rw[if_pos (.inr a4)]
  simp[ir109,a1,a2,a3',a4']
 have a4':¬((64:Int)<(c.signals.length:Int)):=by omega
 rw[if_neg (by omega)]
 have hM:Mid c c.act.toNat:=⟨by omega,by omega,by omega,f1,f2⟩
 have hla:=zve hM
 have hlb:=zqr hM
 have hlc:=zqk hM hfew
 have hactA:c.act=(c.act.toNat:Int):=by omega
 have hA1:=hM.lo
 have hA6:=hM.hi
 have h132:=fun(l:List (Txt×Int)) (z:H) (hcl:qce (hX c l z)) (n:Int)=>ev189 hM (h:=hX c l z) (i:=1) rfl hcl n
 have h131:c.plus.length=c.act.toNat->_:=fun hp=>ev120 c.plus c.minus f3 f4 (by omega)
 generalize c.act.toNat=A at *
 have w1:=qab (n:=2*c.act) (by omega) (by omega)
 unfold ctE
 have hIb:∀st:St,z7z c A 0 st<->((∃l,st.h=hX c l []/\qnk c A (2*A) l)/\Keep84 st.s/\qai st.s 59=.imm (c.inputs.map qld)/\qai st.s 60=num c.inputs.length/\qai st.s 61=num 0):=fun st=>by
  unfold z7z
  exact⟨fun h=>⟨h.1,h.2.1,h.2.2.1,h.2.2.2.1,h.2.2.2.2.1⟩,fun h=>⟨h.1,h.2.1,h.2.2.1,h.2.2.2.1,h.2.2.2.2,rfl⟩⟩
 have hIc:∀st:St,jcu c A 0 st<->((∃l,st.h=hX c l []/\qnk c A (qal c A) l)/\Keep84 st.s/\qai st.s 74=num c.signals.length/\qai st.s 75=num 0):=fun st=>by
  unfold jcu
  exact⟨fun h=>⟨h.1,h.2.1,h.2.2.1,h.2.2.2.1⟩,fun h=>⟨h.1,h.2.1,h.2.2.1,h.2.2.2,rfl⟩⟩
 unfold z5k at hlb
 unfold z1q at hlc
 generalize goE (qyj c A) 0 c.inputs.length=ei at *
 generalize goE (qth c A) 0 c.signals.length=es at *
 simp[ir109,a1,a2,a3',a4',w1,qag]
 generalize hr:ev pg (.code (.going 4 L109_0) _)=o
 obtain⟨r,rfl,hx,⟨l,hh,hkeys⟩,⟨hnn,hl,g1,g4⟩⟩:∃r,o=some r/\z9v c A r:=by
  rw[<-hr]
  refine hla _ ⟨⟨[],rfl,by simp[qnk,qbs]⟩,⟨by simp[qat],by simp,by simp,by simp⟩,by simp[hactA],by simp⟩
 simp (maxDischargeDepth:=9) [hx,hh,hl,g1,qdy,qcw,hnn]
 generalize hr2:ev pg (.code (.going 4 L109_1) _)=o
 obtain⟨r2,rfl,hQ2⟩:∃r,o=some r/\_:=by
  rw[<-hr2]
  exact hlb _ ((hIb _).2 ⟨⟨l,rfl,hkeys⟩,⟨by simp (maxDischargeDepth:=9) [qcw,hnn],by simp[hl],by simp[g1],by simp[g4]⟩,by simp[hl],by simp[hl],by simp[hl]⟩)
 rcases hQ2 with⟨hx2,⟨l2,hh2,hkeys2⟩,⟨hnn2,hl2,g21,g24⟩,rfl⟩ | ⟨hx2,hl2,g22,g23,hE,l2,hh2⟩
 .simp (maxDischargeDepth:=9) [hx2,hh2,hl2,g21,qdy,qcw,hnn2]
  generalize hr3:ev pg (.code (.going 4 L109_2) _)=o
  obtain⟨r3,rfl,hQ3⟩:∃r,o=some r/\_:=by
   rw[<-hr3]
   exact hlc _ ((hIc _).2 ⟨⟨l2,rfl,hkeys2⟩,⟨by simp (maxDischargeDepth:=9) [qcw,hnn2],by simp[hl2],by simp[g21],by simp[g24]⟩,by simp[hl2],by simp[hl2]⟩)
  rcases hQ3 with⟨hx3,⟨l3,hh3⟩,⟨hnn3,hl3,g31,g34⟩,rfl⟩ | ⟨hx3,hl3,g32,g33,hE3,l3,hh3⟩
  .rw[if_pos (rfl:(0:Int)=0)]
   unfold zhc
   by_cases n1:c.plus.length=A
   .have n1b:((c.plus.length:Int) != c.act)=false:=by simp;omega
    by_cases n2:c.minus.length=A
    .have n2b:((c.minus.length:Int) != c.act)=false:=by simp;omega
     rw[if_neg (by omega)]
     have h131:=h131 n1
     have h130:=ev188 (f:=189) (caps:=[.bptr 1 0]) (h:=hX c l3 [⟨0,.frz 1 ((c.plus++c.minus).map qcc)⟩]) (l:=c.plus++c.minus) (p:=qfj (qae c A)) (by simp;omega) rfl rfl (fun n=>h132 l3 [⟨0,.frz 1 ((c.plus++c.minus).map qcc)⟩] (by simp[qce,qbk]) n) (by simp[qce,qbk])
     rw[List.any_append]at h130
     generalize c.plus.any (qfj (qae c A))=P at *
     generalize c.minus.any (qfj (qae c A))=M at *
     simp only[qcl,List.map_append]at h130
     cases P with
     | true=>simp[hx3,hh3,hl3,g31,n1b,n2b,h131,h130]
     | false=>cases M with
      | true=>simp[hx3,hh3,hl3,g31,n1b,n2b,h131,h130]
      | false=>simp[hx3,hh3,hl3,g31,g34,n1b,n2b,h131,h130]
    .have n2b:((c.minus.length:Int) != c.act)=true:=by simp;omega
     rw[if_pos (.inr n2)]
     simp[hx3,hh3,hl3,g31,n1b,n2b]
   .have n1b:((c.plus.length:Int) != c.act)=true:=by simp;omega
    rw[if_pos (.inl n1)]
    simp[hx3,hh3,hl3,g31,n1b]
  .simp[hx3,hh3,g32,g33,hE3]
 .simp[hx2,hh2,g22,g23,hE]
theorem ev43(c:Ct)(hfew:c.small=true):ev pg (.call (.fn 43 [] []) [c.v] [])=some { v:=num c.check,st:=⟨[],[]⟩ }:=by
 obtain⟨v,z,h84⟩:=ev109 c hfew
 generalize c.check=e at *
 rw[qac,pg43]
 simp[ir43,h84]
end Go.Proofs.YtddeacahiilikaaGreat
