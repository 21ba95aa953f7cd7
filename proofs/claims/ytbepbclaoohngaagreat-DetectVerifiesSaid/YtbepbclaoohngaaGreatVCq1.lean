/- Controls: numbers of lines, by the program. -/
import Derived.Test.YtbepbclaoohngaaGreatVCt9
set_option linter.all false
namespace Go.Proofs.YtbepbclaoohngaaGreat
open Go Go.Am Go.Proofs
set_option maxRecDepth 100000
def qsa(c:Ct)(F i:Nat)(n:Int):Bool:=decide ((i:Int)<=n-F)&&((c.signals[(n-F).toNat]?).map fun x=>decide (x.kind=0)).getD false
abbrev gT(x:Sg)(i:Nat)(b:Bool)(r:H):H:=⟨0,.arr 0 []⟩ :: ⟨0,.arr 0 []⟩ :: ⟨0,.box x.row⟩ :: ⟨0,.box [.bptr 3 0]⟩ :: ⟨0,.box [num i]⟩ :: ⟨0,.arr 0 []⟩ :: ⟨0,.arr 0 []⟩ :: ⟨0,.box x.row⟩ :: ⟨0,.box [.bool b]⟩ :: r
abbrev eT(x:Sg):H:=[⟨0,.box x.on.cells⟩,⟨0,.box [.fn 247 [] [.bptr 7 0,.bptr 12 0,.bptr 8 0]]⟩,⟨0,.box [.fn 275 [] [.bptr 14 0,.bptr 15 0]]⟩]
abbrev gB(c:Ct)(l:List (Txt×Int))(x:Sg)(i:Nat)(b:Bool):H:=hX c l (gT x i b (eT x))
theorem ev247{c:Ct}{A:Nat}(h:Mid c A)(l:List (Txt×Int))(x:Sg)(i:Nat)(b:Bool)(n:Int)(r:H)(hn:0<=n/\n<(qac c A:Nat))(hr:∀b,calm (gB c l x i b++r)):ev pg (.call (.fn 247 [] [.bptr 7 0,.bptr 12 0,.bptr 8 0]) [num n] (gB c l x i b++r))=some { v:=.tup [],st:=⟨[],gB c l x i (b||qsa c (qam c A) i n)++r⟩ }:=by
 have hf:=ev217 h
 obtain⟨hA,h1,h2,h3,h4⟩:=h
 obtain⟨n,rfl⟩:∃k:Nat,n=k:=⟨n.toNat,by omega⟩
 have hnc:n<2*A+c.inputs.length+c.signals.length:=by have:=hn.2;unfold qac at this;omega
 have hck:∀b,qef (16+r.length) (gB c l x i b++r)=gB c l x i b++r:=fun b=>by
  have:=qge (hr b)
  rw[show(gB c l x i b++r:H).length=16+r.length by simp;omega]at this
  exact this
 have hlen:r.length+1+1+1+1+1+1+1+1+1+1+1+1+1+1+1+1=16+r.length:=by omega
 have w1:=qan (n:=(n:Int)-(2*(A:Int)+(c.inputs.length:Int))) (by omega) (by omega)
 have hl16:(gB c l x i b++r:H).length=16+r.length:=by simp;omega
 rw[qaa,pg247]
 have hlen:r.length+1+1+1+1+1+1+1+1+1+1+1+1+1+1+1+1=16+r.length:=by omega
 cases b with
 | true =>
  have hck:=hck true
  simp only[Bool.true_or]
  simp[-qef,ir247,hf,w1,hlen]
  exact hck
 | false =>
  by_cases hge:(i:Int)<=(n:Int)-(2*(A:Int)+(c.inputs.length:Int))
  .obtain⟨k,hk⟩:∃k:Nat,(n:Int)-(2*(A:Int)+(c.inputs.length:Int))=k:=⟨((n:Int)-(2*(A:Int)+(c.inputs.length:Int))).toNat,by omega⟩
   have hkl:k<c.signals.length:=by omega
   have hik:(i:Int)<=(k:Int):=by omega
   have hL:qsa c (qam c A) i n=(c.signals[k].kind==0):=by
    unfold qsa
    rw[show(n:Int)-((qam c A:Nat):Int)=k by unfold qam;omega]
    simp only[Int.toNat_natCast,jA hkl,decide_eq_true hik]
    rfl
   rw[hL,Bool.false_or]
   rw[hk]at w1
   have hck:=hck (c.signals[k].kind==0)
   simp[-qef,ir247,hf,hk,w1,hlen,hik,hkl]
   exact hck
  .have hL:qsa c (qam c A) i n=false:=by
    unfold qsa
    rw[decide_eq_false (by unfold qam;push_cast;omega),Bool.false_and]
   rw[hL]
   have hck:=hck false
   simp[-qef,ir247,hf,w1,hlen,hge]
   exact hck
theorem zrx(c:Ct)(l:List (Txt×Int))(x:Sg)(i:Nat)(b:Bool):calm (gB c l x i b):=by
 simp[calm,qcf]
theorem ev246{c:Ct}{A:Nat}(h:Mid c A)(l:List (Txt×Int))(x:Sg)(i:Nat)(hx:x.on.nodes<=256)(hv:x.on.err (qac c A:Nat)=0):ev pg (.call (.fn 246 [] []) [x.on.v,.fn 247 [] [.bptr 7 0,.bptr 12 0,.bptr 8 0]] (hX c l (gT x i false [])))=some { v:=.tup [],st:=⟨[],hX c l (gT x i (x.on.anyV (qsa c (qam c A) i)) [])⟩ }:=by
 have hY:Eac 14 (qac c A:Nat) (qsa c (qam c A) i) [.bptr 7 0,.bptr 12 0,.bptr 8 0] (gB c l x i):=⟨fun b=>rfl,fun b=>rfl,fun b=>rfl,fun b n r hn hr=>ev247 h l x i b n r hn hr,rfl⟩
 have h186:=ev275 hY x.on false [] hx hv (fun b=>by rw[List.append_nil];exact zrx c l x i b)
 rw[List.append_nil,List.append_nil,Bool.false_or]at h186
 generalize x.on.anyV (qsa c (qam c A) i)=B at *
 rw[qaa,pg246]
 simp[ir246,h186]
abbrev s3(x:Sg):H:=[⟨0,.arr 0 []⟩,⟨0,.arr 0 []⟩,⟨0,.box x.row⟩]
theorem zey(c:Ct)(l:List (Txt×Int))(x:Sg):calm (hX c l (s3 x)):=by
 simp[calm,qcf]
def zgl(c:Ct)(F i:Nat)(x:Sg):Int:=if x.on.anyV (qsa c F i)=true then 9 else if x.off.zero=false\/x.init=true\/x.delay≠0 then 3 else 0
theorem ev208{c:Ct}{A:Nat}(h:Mid c A)(l:List (Txt×Int))(i:Nat)(hi:i<c.signals.length)(hx:c.signals[i].on.nodes<=256)(hv:c.signals[i].on.err (qac c A:Nat)=0):ev pg (.call (.fn 208 [.bptr 3 0] []) [num i] (hX c l (s3 c.signals[i])))=some { v:=num (zgl c (qam c A) i c.signals[i]),st:=⟨[],hX c l (s3 c.signals[i])⟩ }:=by
 have h153:=ev246 h l c.signals[i] i hx hv
 have hz:=ev248 c.signals[i].off
 have hck:qef 7 (hX c l (s3 c.signals[i]))=hX c l (s3 c.signals[i]):=qge (zey c l c.signals[i])
 unfold zgl
 generalize hG:hX c l (s3 c.signals[i])=G at *
 rw[<-hG]
 generalize c.signals[i].on.anyV (qsa c (qam c A) i)=B at *
 generalize c.signals[i].off.zero=ze at *
 rw[qaa,pg208]
 cases B with
 | true =>
  simp[ir208,hi,h153]
 | false =>
  cases ze with
  | false =>
   simp[ir208,hi,h153,hz]
  | true =>
   cases hin:c.signals[i].init with
   | true =>
    simp[ir208,hi,h153,hz]
    simp[hin]
   | false =>
    by_cases hd:c.signals[i].delay=0
    .simp[ir208,hi,h153,hz]
     simp[hin,hd]
    .simp[ir208,hi,h153,hz]
     simp[hin,hd]
def z1v(c:Ct)(A:Nat)(x:Sg):Int:=if x.off.check (qac c A)=0 then(if x.delay=0 then 0 else 3)else x.off.check (qac c A)
theorem ev209{c:Ct}{A:Nat}(h:Mid c A)(l:List (Txt×Int))(i:Nat)(hi:i<c.signals.length)(hx:c.signals[i].off.light=true):ev pg (.call (.fn 209 [.bptr 3 0] []) [num i] (hX c l (s3 c.signals[i])))=some { v:=num (z1v c A c.signals[i]),st:=⟨[],hX c l (s3 c.signals[i])⟩ }:=by
 have h133:=ev205 h
 have h157:=ev249 c.signals[i].off (qac c A:Nat) hx
 rw[qaa,pg209]
 unfold z1v
 generalize c.signals[i].off.check (qac c A)=e at *
 simp at h157
 by_cases he:e=0
 .by_cases hd:c.signals[i].delay=0
  .simp[ir209,qab,exT,qal,hi,h133,h157,he,hd]
  .simp[ir209,qab,exT,qal,hi,h133,h157,he,hd]
 .simp[ir209,qab,exT,qal,hi,h133,h157,he]
def z2m(x:Sg):Int:=if x.delay<1\/1000000<x.delay then 2 else if x.off.zero=false\/x.init=true then 3 else 0
theorem ev210(c:Ct)(l:List (Txt×Int))(i:Nat)(hi:i<c.signals.length):ev pg (.call (.fn 210 [.bptr 3 0] []) [num i] (hX c l (s3 c.signals[i])))=some { v:=num (z2m c.signals[i]),st:=⟨[],hX c l (s3 c.signals[i])⟩ }:=by
 have hz:=ev248 c.signals[i].off
 unfold z2m
 generalize c.signals[i].off.zero=ze at *
 rw[qaa,pg210]
 by_cases d1:c.signals[i].delay<1
 .simp[ir210,hi,d1]
 .by_cases d2:1000000<c.signals[i].delay
  .simp[ir210,hi,d1,d2]
  .cases ze with
   | false=>simp[ir210,hi,hz,d1,d2]
   | true =>
    cases hin:c.signals[i].init with
    | true =>
     simp[ir210,hi,hz,d1,d2]
     simp[hin]
    | false =>
     simp[ir210,hi,hz,d1,d2]
     simp[hin]
def zny(c:Ct)(A:Nat)(K:List Txt)(i:Nat)(x:Sg):Int :=
 if qep K x.name=0 then
  if x.kind<0\/3<=x.kind then 1
  else if x.on.check (qac c A)=0 then(if x.kind=0 then zgl c (qam c A) i x else if x.kind=1 then z1v c A x else z2m x)
  else x.on.check (qac c A)
 else qep K x.name
theorem qpx{x:Ex}{n:Int}(h:x.check n=0):x.err n=0:=by
 unfold Ex.check at h
 split at h
 .cases h
 .split at h
  .exact h
  .cases h
theorem ev212{c:Ct}{A:Nat}(h:Mid c A)(l:List (Txt×Int))(i:Nat)(hi:i<c.signals.length)(hon:c.signals[i].on.light=true)(hoff:c.signals[i].off.light=true):∃l',ev pg (.call (.fn 212 [] []) [.bptr 3 0,num i] (hX c l []))=some { v:=num (zny c A (l.map Prod.fst) i c.signals[i]),st:=⟨[],hX c l' []⟩ }/\((qep (l.map Prod.fst) c.signals[i].name=0/\∀q,q∈l'.map Prod.fst<->(q∈l.map Prod.fst\/q=c.signals[i].name))\/(qep (l.map Prod.fst) c.signals[i].name≠0/\l'=l)):=by
 obtain⟨l',h128,hl'⟩:=ev211 c l (s3 c.signals[i]) (fun l=>zey c l c.signals[i]) c.signals[i].name
 refine⟨l',?_,hl'⟩
 have h133:=ev205 h
 have h157:=ev249 c.signals[i].on (qac c A:Nat) hon
 have h124:=fun hv=>ev208 h l' i hi (qdr hon).1 (qpx (n:=(qac c A:Nat)) hv)
 have zgp:=ev209 h l' i hi hoff
 have q4a:=ev210 c l' i hi
 unfold zny
 generalize qep (l.map Prod.fst) c.signals[i].name=ne at *
 generalize c.signals[i].on.check (qac c A:Nat)=oe at *
 generalize zgl c (qam c A) i c.signals[i]=ge at *
 generalize z1v c A c.signals[i]=me at *
 generalize z2m c.signals[i]=te at *
 clear hl'
 simp at h157
 rw[qaa,pg212]
 by_cases e1:ne=0
 .rw[if_pos e1]
  by_cases e2:c.signals[i].kind<0
  .rw[if_pos (.inl e2)]
   simp[ir212,hi,h128,e1,e2]
  by_cases e3:3<=c.signals[i].kind
  .rw[if_pos (.inr e3)]
   simp[ir212,hi,h128,e1,e2,e3]
  rw[if_neg (by omega)]
  by_cases e4:oe=0
  .rw[if_pos e4]
   have h124:=h124 e4
   have hk0:0<=c.signals[i].kind:=by omega
   rcases (by omega:c.signals[i].kind=0\/c.signals[i].kind=1\/c.signals[i].kind=2)with k0 | k0 | k0
   .have hkn:c.signals[i].kind.toNat=0:=by omega
    rw[if_pos k0]
    simp[qab,exT,qal,ir212,hi,h128,h133,h157,h124,e1,e2,e3,e4,hk0,hkn]
   .have hkn:c.signals[i].kind.toNat=1:=by omega
    rw[if_neg (by omega),if_pos k0]
    simp[qab,exT,qal,ir212,hi,h128,h133,h157,zgp,e1,e2,e3,e4,hk0,hkn]
   .have hkn:c.signals[i].kind.toNat=2:=by omega
    rw[if_neg (by omega),if_neg (by omega)]
    simp[qab,exT,qal,ir212,hi,h128,h133,h157,q4a,e1,e2,e3,e4,hk0,hkn]
  .rw[if_neg e4]
   simp[qab,exT,qal,ir212,hi,h128,h133,h157,e1,e2,e3,e4]
 .rw[if_neg e1]
  simp[ir212,hi,h128,e1]
theorem zek{f:Int->Bool}{l:List Ex}(ih:∀y∈l,y.anyV f=true<->∃v,y.anyV (· == v)=true/\f v=true):qju f l=true<->∃v,qju (· == v) l=true/\f v=true:=by
 induction l with
 | nil=>simp[qju]
 | cons y l ihl =>
  have h1:=ih y (by simp)
  have h2:=ihl fun z hz=>ih z (by simp[hz])
  simp only[qju,Bool.or_eq_true]
  rw[h1,h2]
  constructor
  .rintro(⟨v,a,b⟩ | ⟨v,a,b⟩)
   .exact⟨v,.inl a,b⟩
   .exact⟨v,.inr a,b⟩
  .rintro⟨v,a | a,b⟩
   .exact .inl ⟨v,a,b⟩
   .exact .inr ⟨v,a,b⟩
theorem zko(f:Int->Bool):∀x:Ex,x.anyV f=true<->∃v,x.anyV (· == v)=true/\f v=true:=by
 refine Ex.ind fun x ih=>?_
 have h:=zek ih
 simp only[q6l,Bool.or_eq_true,jE,jW,beq_iff_eq]
 rw[h]
 constructor
 .rintro(⟨a,b⟩ | ⟨v,a,b⟩)
  .exact⟨x.idx,.inl ⟨a,rfl⟩,b⟩
  .exact⟨v,.inr a,b⟩
 .rintro⟨v,⟨a,rfl⟩ | a,b⟩
  .exact .inl ⟨a,b⟩
  .exact .inr ⟨v,a,b⟩
theorem znh{v:Int}{l:List Ex}(ih:∀y∈l,y.occ v=y.anyV (· == v)):q1u v l=qju (· == v) l:=by
 induction l with
 | nil=>rfl
 | cons y l ihl=>rw[q1u,qju,ih y (by simp),ihl fun z hz=>ih z (by simp[hz])]
theorem q1s{o i n:Int}{k:Nat}(h:qbq o i k n=0)(ho:o=1):k=0:=by
 subst ho
 by_cases hk:k=0
 .exact hk
 .have e:qbq 1 i k n=3:=by simp[qbq,hk]
  omega
theorem zij(v n:Int):∀x:Ex,x.err n=0->x.occ v=x.anyV (· == v):=by
 refine Ex.ind fun x ih hx=>?_
 obtain⟨h1,h2⟩:=qhi hx
 rw[qzf,q6l]
 by_cases ho:x.op=1
 .have ha:x.args=[]:=List.length_eq_zero_iff.1 (q1s h1 ho)
  simp[ho,ha,qju]
 .simp only[if_neg ho,decide_eq_false ho,Bool.false_and,Bool.false_or]
  exact znh fun y hy=>ih y hy (h2 y hy)
theorem qsb(on:Ex)(F:Nat):∀(l:List Sg) (k:Nat),qgu on F k l=true<->∃j x,l[j]?=some x/\x.kind=0/\on.occ (F+(k+j):Nat)=true
 | [],k=>by simp[qgu]
 | y :: l,k=>by
  rw[qgu,Bool.or_eq_true,jE,jW,qsb on F l (k+1)]
  constructor
  .rintro(⟨a,b⟩ | ⟨j,x,a,b,d⟩)
   .exact⟨0,y,rfl,a,b⟩
   .exact⟨j+1,x,a,b,by rw[show F+(k+(j+1))=F+(k+1+j)by omega];exact d⟩
  .rintro⟨j,x,a,b,d⟩
   cases j with
   | zero=>exact .inl (by obtain rfl:y=x:=(by simpa using a);exact⟨b,d⟩)
   | succ j=>exact .inr ⟨j,x,by simpa using a,b,by rw[show F+(k+1+j)=F+(k+(j+1))by omega];exact d⟩
theorem ztd(c:Ct)(A i:Nat)(on:Ex)(n:Int)(h:on.err n=0):on.anyV (qsa c (qam c A) i)=qgu on (qam c A) i (c.signals.drop i):=by
 rw[Bool.eq_iff_iff,zko,qsb]
 constructor
 .rintro⟨v,hv,hf⟩
  simp only[qsa,jE,jW]at hf
  obtain⟨h1,h2⟩:=hf
  cases hg:c.signals[(v-(qam c A:Nat)).toNat]? with
  | none=>rw[hg]at h2;cases h2
  | some x =>
   rw[hg]at h2
   refine⟨(v-(qam c A:Nat)).toNat-i,x,?_,by simpa using h2,?_⟩
   .rw[List.getElem?_drop,<-hg];congr 1;omega
   .rw[zij _ n on h,show((qam c A+(i+((v-(qam c A:Nat)).toNat-i)):Nat):Int)=v by omega]
    exact hv
 .rintro⟨j,x,a,b,d⟩
  rw[List.getElem?_drop]at a
  rw[zij _ n on h]at d
  refine⟨_,d,?_⟩
  simp only[qsa,jE,jW]
  refine⟨by omega,?_⟩
  rw[show(((qam c A+(i+j):Nat):Int)-(qam c A:Nat)).toNat=i+j by omega,a]
  simpa using b
theorem zvt(c:Ct)(A:Nat)(K:List Txt)(i:Nat)(x:Sg):zny c A K i x=q7v c A K i x:=by
 unfold zny q7v zgl z1v z2m
 by_cases h0:qep K x.name=0
 .rw[if_pos h0,if_pos h0]
  by_cases h1:x.kind<0\/3<=x.kind
  .rw[if_pos h1,if_pos h1]
  .rw[if_neg h1,if_neg h1]
   by_cases h2:x.on.check (qac c A)=0
   .rw[if_pos h2,if_pos h2,ztd c A i x.on _ (qpx h2)]
    generalize qgu x.on (qam c A) i (c.signals.drop i)=L
    generalize x.off.check (qac c A)=e
    rcases (by omega:x.kind=0\/x.kind=1\/x.kind=2)with k | k | k
    .simp[k,or_assoc]
    .simp[k]
    .simp[k]
   .rw[if_neg h2,if_neg h2]
 .rw[if_neg h0,if_neg h0]
theorem ev221(n:Nat)(hn:0<n)(hn2:n<=80):ev pg (.call (.fn 221 [] []) [.nils,num n] [⟨0,.arr 0 []⟩])=some { v:=.sl 1 0 1 0 0,st:=⟨[],[⟨0,.arr 0 []⟩,⟨0,.arr 1 []⟩]⟩ }:=by
 have w1:=qan (n:=(n:Int)) (by omega) (by omega)
 have p1:¬((n:Int)<0):=by omega
 have w0:=qan (n:=0) (by omega) (by omega)
 have p3:n*8<=140737488355328:=by omega
 rw[qaa,pg221]
 simp[ir221,w0,w1,p1,hn,p3,qcn,qex,qei]
 omega
theorem ev155(a b:List Int)(ha:a.length<=40)(hb:b.length<=40)(hp:0<a.length):ev pg (.call (.fn 155 [] []) [.imm [[qeg a],[qeg b]]] [])=some { v:=.sl 0 0 1 0 (a.length+b.length),st:=⟨[],[⟨0,.arr 1 ((a++b).map qbj)⟩]⟩ }:=by
 have h161:=ev221 (a.length+b.length) (by omega) (by omega)
 have w1:=qan (n:=(a.length:Int)) (by omega) (by omega)
 have w2:=qan (n:=(a.length:Int)+(b.length:Int)) (by omega) (by omega)
 have p1:¬((a.length:Int)<0):=by omega
 have p2:¬((a.length:Int)+(b.length:Int)<0):=by omega
 have i1:=qan (n:=1) (by omega) (by omega)
 have i2:=qan (n:=2) (by omega) (by omega)
 have q1:a.length*8<=140737488355328:=by omega
 have q2:(a.length+b.length)*8<=140737488355328:=by omega
 have hf:((a.length:Int)+(b.length:Int))=((a.length+b.length:Nat):Int):=by omega
 simp at h161
 rw[qaa,pg155]
 simp[ir155,qah]
 rw[qdz]
 simp[L155_0,w1,p1,i1]
 rw[qdz]
 simp[w2,p2,i2]
 rw[qdz]
 simp[h161]
 rw[qdz]
 simp[L155_1,q1,i1]
 rw[qdz]
 simp[i2,q2]
 rw[qdz]
 simp[qcn,qex,qei]
def I87(v:V)(h:H)(l:List Int)(p:Int->Bool)(k:Nat)(st:St):Prop:=st.h=h/\st.s.length=19/\qai st.s 0=qeg l/\qai st.s 1=v/\qai st.s 7=num l.length/\qai st.s 8=num k/\l.any p=(l.drop k).any p
def Q87(h:H)(l:List Int)(p:Int->Bool)(r:R):Prop:=r.st.s.length=19/\((r.x=.exit 0/\r.st.h=h/\l.any p=false)\/(r.x=.ret/\r.st.h=h/\(∃k:Nat,qai r.st.s 4=num k)/\l.any p=true))
theorem zzm{f:Nat}{caps:List V}{h:H}{l:List Int}{p:Int->Bool}(hl80:l.length<=4096)(hlow:qeo 0 caps=false)(hcap:qeo h.length caps=true)(hc:∀n:Int,ev pg (.call (.fn f [] caps) [num n] h)=some { v:=.bool (p n),st:=⟨[],h⟩ })(hcl:calm h)(n:Nat)(hn:n=h.length)(st:St)(h0:I87 (.fn f [] caps) h l p 0 st):∃r,ev pg (.code (.going n L253_0) st)=some r/\Q87 h l p r:=by
 have hcut:=qpv hcl
 rw[<-hn]at hcut hcap
 refine qau (I87 (.fn f [] caps) h l p) l.length (Q87 h l p) h0 ?_ ?_
 .rintro k ⟨s,hh⟩ hk ⟨rfl,hl,e0,e1,e7,e8,he⟩
  simp only at hl e0 e1 e7 e8
  have hk':(k:Int)<l.length:=by omega
  have wk:=qbb (k:=k) (by omega)
  have hcn:=hc l[k]
  rw[zel hk]at he
  generalize p l[k]=b at *
  rw[qad hl]
  cases b with
  | true =>
   simp[-qje,L253_0,Q87,List.range,List.range.loop,e0,e1,e7,e8,hk,hk',hlow,hcn]
   exact⟨⟨k,rfl⟩,by simpa using he⟩
  | false =>
   simp[-qje,L253_0,I87,List.range,List.range.loop,e0,e1,e7,e8,hk,hk',hlow,hcn,hcut,hcap,wk]
   simpa using he
 .rintro⟨s,hh⟩ ⟨rfl,hl,e0,e1,e7,e8,he⟩
  simp only[List.drop_length]at hl e0 e1 e7 e8 he
  have he':l.any p=false:=he
  rw[qad hl]
  simp[L253_0,Q87,List.range,List.range.loop,e0,e1,e7,e8]
  simpa using he'
theorem ev213{f:Nat}{caps:List V}{h:H}{l:List Int}{p:Int->Bool}(hl80:l.length<=4096)(hlow:qeo 0 caps=false)(hcap:qeo h.length caps=true)(hc:∀n:Int,ev pg (.call (.fn f [] caps) [num n] h)=some { v:=.bool (p n),st:=⟨[],h⟩ })(hcl:calm h):ev pg (.call (.fn 213 [] []) [qeg l,.fn f [] caps] h)=some { v:=.bool (l.any p),st:=⟨[],h⟩ }:=by
 have hloop:=zzm hl80 hlow hcap hc hcl
 have hck:=qge hcl
 have h87:∃r:Int,ev pg (.call (.fn 253 [] []) [qeg l,.fn f [] caps] h)=some { v:=num r,st:=⟨[],h⟩ }/\decide (0<=r)=l.any p:=by
  unfold Q87 at hloop
  have hI:∀st:St,I87 (.fn f [] caps) h l p 0 st<->(st.h=h/\st.s.length=19/\qai st.s 0=qeg l/\qai st.s 1=.fn f [] caps/\qai st.s 7=num l.length/\qai st.s 8=num 0):=fun st=>by
   unfold I87
   exact⟨fun h=>⟨h.1,h.2.1,h.2.2.1,h.2.2.2.1,h.2.2.2.2.1,h.2.2.2.2.2.1⟩,fun h=>⟨h.1,h.2.1,h.2.2.1,h.2.2.2.1,h.2.2.2.2.1,h.2.2.2.2.2,rfl⟩⟩
  generalize l.any p=B at *
  rw[qaa,pg253]
  simp[-qef,ir253,qah]
  generalize hr:ev pg (.code (.going _ L253_0) _)=o
  obtain⟨r,rfl,hl,hQ⟩:∃r,o=some r/\_:=by
   rw[<-hr]
   exact hloop _ rfl _ ((hI _).2 ⟨by simp,by simp,by simp,by simp,by simp,by simp⟩)
  rcases hQ with⟨hx,hh,rfl⟩ | ⟨hx,hh,⟨k,h4⟩,rfl⟩
  .simp[-qef,hx,hh,hl,hck]
  .simp[-qef,hx,hh,h4,hck]
 obtain⟨r,h87,hr⟩:=h87
 rw[qaa,pg213,<-hr]
 simp[-qef,ir213,h87,hck]
theorem ev214{c:Ct}{A:Nat}(hM:Mid c A){h:H}{i:Nat}(hi:h[i]?=some ⟨0,.box c.cells⟩)(hcl:calm h)(n:Int):ev pg (.call (.fn 214 [] [.bptr i 0]) [num n] h)=some { v:=.bool (qgc (qac c A:Nat) n),st:=⟨[],h⟩ }:=by
 have hck:=qge hcl
 have h133:=ev205 hM
 rw[qaa,pg214]
 unfold qgc
 generalize qac c A=N at *
 by_cases h1:n<0
 .simp[-qef,ir214,h1,hck]
 .simp[-qef,ir214,h1,hi,h133,hck]
end Go.Proofs.YtbepbclaoohngaaGreat
