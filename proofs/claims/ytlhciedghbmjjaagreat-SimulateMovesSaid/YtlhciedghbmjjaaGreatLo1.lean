/- Gates: errors, by the program. Signals: errors, by the program. Signals: errors, by the program, are those by the reference. Controls: numbers of lines, by the program. Controls: errors, by the program. Controls: errors, by the program, are those by the reference. Loops of Am, by a picture of the slots and of the memory. -/
import Derived.Test.YtlhciedghbmjjaaGreatCt9
import Derived.Test.YtlhciedghbmjjaaGreatEn6
set_option linter.all false
namespace Go.Proofs.YtlhciedghbmjjaaGreat
open Go Go.Am Go.Proofs
set_option maxRecDepth 100000
def qqr(c:Ct)(F i:Nat)(n:Int):Bool:=decide ((i:Int)<=n-F)&&((c.signals[(n-F).toNat]?).map fun x=>decide (x.kind=0)).getD false
abbrev gT(x:Sg)(i:Nat)(b:Bool)(r:H):H:=⟨0,.arr 0 []⟩ :: ⟨0,.arr 0 []⟩ :: ⟨0,.box x.row⟩ :: ⟨0,.box [.bptr 3 0]⟩ :: ⟨0,.box [num i]⟩ :: ⟨0,.arr 0 []⟩ :: ⟨0,.arr 0 []⟩ :: ⟨0,.box x.row⟩ :: ⟨0,.box [.bool b]⟩ :: r
abbrev eT(x:Sg):H:=[⟨0,.box x.on.cells⟩,⟨0,.box [.fn 148 [] [.bptr 7 0,.bptr 12 0,.bptr 8 0]]⟩,⟨0,.box [.fn 173 [] [.bptr 14 0,.bptr 15 0]]⟩]
abbrev gB(c:Ct)(l:List (Txt×Int))(x:Sg)(i:Nat)(b:Bool):H:=hX c l (gT x i b (eT x))
theorem ev148{c:Ct}{A:Nat}(h:Mid c A)(l:List (Txt×Int))(x:Sg)(i:Nat)(b:Bool)(n:Int)(r:H)(hn:0<=n/\n<(qak c A:Nat))(hr:∀b,qck (gB c l x i b++r)):ev pg (.call (.fn 148 [] [.bptr 7 0,.bptr 12 0,.bptr 8 0]) [num n] (gB c l x i b++r))=some { v:=.tup [],st:=⟨[],gB c l x i (b||qqr c (qam c A) i n)++r⟩ }:=by
 have hf:=ev125 h
 obtain⟨hA,h1,h2,h3,h4⟩:=h
 obtain⟨n,rfl⟩:∃k:Nat,n=k:=⟨n.toNat,by omega⟩
 have hnc:n<2*A+c.inputs.length+c.signals.length:=by have:=hn.2;unfold qak at this;omega
 have hck:∀b,qaq (16+r.length) (gB c l x i b++r)=gB c l x i b++r:=fun b=>by
  have:=qeb (hr b)
  rw[show(gB c l x i b++r:H).length=16+r.length by simp;omega]at this
  exact this
 have hlen:r.length+1+1+1+1+1+1+1+1+1+1+1+1+1+1+1+1=16+r.length:=by omega
 have w1:=qab (n:=(n:Int)-(2*(A:Int)+(c.inputs.length:Int))) (by omega) (by omega)
 have hl16:(gB c l x i b++r:H).length=16+r.length:=by simp;omega
 rw[qac,pg148]
 have hlen:r.length+1+1+1+1+1+1+1+1+1+1+1+1+1+1+1+1=16+r.length:=by omega
 cases b with
 | true =>
  have hck:=hck true
  simp only[Bool.true_or]
  simp[-qaq,ir148,hf,w1,hlen]
  exact hck
 | false =>
  by_cases hge:(i:Int)<=(n:Int)-(2*(A:Int)+(c.inputs.length:Int))
  .obtain⟨k,hk⟩:∃k:Nat,(n:Int)-(2*(A:Int)+(c.inputs.length:Int))=k:=⟨((n:Int)-(2*(A:Int)+(c.inputs.length:Int))).toNat,by omega⟩
   have hkl:k<c.signals.length:=by omega
   have hik:(i:Int)<=(k:Int):=by omega
   have hL:qqr c (qam c A) i n=(c.signals[k].kind==0):=by
    unfold qqr
    rw[show(n:Int)-((qam c A:Nat):Int)=k by unfold qam;omega]
    simp only[Int.toNat_natCast,jA hkl,decide_eq_true hik]
    rfl
   rw[hL,Bool.false_or]
   rw[hk]at w1
   have hck:=hck (c.signals[k].kind==0)
   simp[-qaq,ir148,hf,hk,w1,hlen,hik,hkl]
   exact hck
  .have hL:qqr c (qam c A) i n=false:=by
    unfold qqr
    rw[decide_eq_false (by unfold qam;push_cast;omega),Bool.false_and]
   rw[hL]
   have hck:=hck false
   simp[-qaq,ir148,hf,w1,hlen,hge]
   exact hck
theorem ztm(c:Ct)(l:List (Txt×Int))(x:Sg)(i:Nat)(b:Bool):qck (gB c l x i b):=by
 simp[qck,qbg]
theorem ev147{c:Ct}{A:Nat}(h:Mid c A)(l:List (Txt×Int))(x:Sg)(i:Nat)(hx:x.on.nodes<=256)(hv:x.on.err (qak c A:Nat)=0):ev pg (.call (.fn 147 [] []) [x.on.v,.fn 148 [] [.bptr 7 0,.bptr 12 0,.bptr 8 0]] (hX c l (gT x i false [])))=some { v:=.tup [],st:=⟨[],hX c l (gT x i (x.on.anyV (qqr c (qam c A) i)) [])⟩ }:=by
 have hY:Eac 14 (qak c A:Nat) (qqr c (qam c A) i) [.bptr 7 0,.bptr 12 0,.bptr 8 0] (gB c l x i):=⟨fun b=>rfl,fun b=>rfl,fun b=>rfl,fun b n r hn hr=>ev148 h l x i b n r hn hr,rfl⟩
 have h186:=ev173 hY x.on false [] hx hv (fun b=>by rw[List.append_nil];exact ztm c l x i b)
 rw[List.append_nil,List.append_nil,Bool.false_or]at h186
 generalize x.on.anyV (qqr c (qam c A) i)=B at *
 rw[qac,pg147]
 simp[ir147,h186]
abbrev s3(x:Sg):H:=[⟨0,.arr 0 []⟩,⟨0,.arr 0 []⟩,⟨0,.box x.row⟩]
theorem zby(c:Ct)(l:List (Txt×Int))(x:Sg):qck (hX c l (s3 x)):=by
 simp[qck,qbg]
def zbo(c:Ct)(F i:Nat)(x:Sg):Int:=if x.on.anyV (qqr c F i)=true then 9 else if x.off.zero=false\/x.init=true\/x.delay≠0 then 3 else 0
theorem ev107{c:Ct}{A:Nat}(h:Mid c A)(l:List (Txt×Int))(i:Nat)(hi:i<c.signals.length)(hx:c.signals[i].on.nodes<=256)(hv:c.signals[i].on.err (qak c A:Nat)=0):ev pg (.call (.fn 107 [.bptr 3 0] []) [num i] (hX c l (s3 c.signals[i])))=some { v:=num (zbo c (qam c A) i c.signals[i]),st:=⟨[],hX c l (s3 c.signals[i])⟩ }:=by
 have h153:=ev147 h l c.signals[i] i hx hv
 have hz:=ev149 c.signals[i].off
 have hck:qaq 7 (hX c l (s3 c.signals[i]))=hX c l (s3 c.signals[i]):=qeb (zby c l c.signals[i])
 unfold zbo
 generalize hG:hX c l (s3 c.signals[i])=G at *
 rw[<-hG]
 generalize c.signals[i].on.anyV (qqr c (qam c A) i)=B at *
 generalize c.signals[i].off.zero=ze at *
 rw[qac,pg107]
 cases B with
 | true =>
  simp[ir107,hi,h153]
 | false =>
  cases ze with
  | false =>
   simp[ir107,hi,h153,hz]
  | true =>
   cases hin:c.signals[i].init with
   | true =>
    simp[ir107,hi,h153,hz]
    simp[hin]
   | false =>
    by_cases hd:c.signals[i].delay=0
    .simp[ir107,hi,h153,hz]
     simp[hin,hd]
    .simp[ir107,hi,h153,hz]
     simp[hin,hd]
def zws(c:Ct)(A:Nat)(x:Sg):Int:=if x.off.check (qak c A)=0 then(if x.delay=0 then 0 else 3)else x.off.check (qak c A)
theorem ev108{c:Ct}{A:Nat}(h:Mid c A)(l:List (Txt×Int))(i:Nat)(hi:i<c.signals.length)(hx:c.signals[i].off.light=true):ev pg (.call (.fn 108 [.bptr 3 0] []) [num i] (hX c l (s3 c.signals[i])))=some { v:=num (zws c A c.signals[i]),st:=⟨[],hX c l (s3 c.signals[i])⟩ }:=by
 have h133:=ev115 h
 have h157:=ev150 c.signals[i].off (qak c A:Nat) hx
 rw[qac,pg108]
 unfold zws
 generalize c.signals[i].off.check (qak c A)=e at *
 simp at h157
 by_cases he:e=0
 .by_cases hd:c.signals[i].delay=0
  .simp[ir108,qaa,exT,qae,hi,h133,h157,he,hd]
  .simp[ir108,qaa,exT,qae,hi,h133,h157,he,hd]
 .simp[ir108,qaa,exT,qae,hi,h133,h157,he]
def zyf(x:Sg):Int:=if x.delay<1\/1000000<x.delay then 2 else if x.off.zero=false\/x.init=true then 3 else 0
theorem ev109(c:Ct)(l:List (Txt×Int))(i:Nat)(hi:i<c.signals.length):ev pg (.call (.fn 109 [.bptr 3 0] []) [num i] (hX c l (s3 c.signals[i])))=some { v:=num (zyf c.signals[i]),st:=⟨[],hX c l (s3 c.signals[i])⟩ }:=by
 have hz:=ev149 c.signals[i].off
 unfold zyf
 generalize c.signals[i].off.zero=ze at *
 rw[qac,pg109]
 by_cases d1:c.signals[i].delay<1
 .simp[ir109,hi,d1]
 .by_cases d2:1000000<c.signals[i].delay
  .simp[ir109,hi,d1,d2]
  .cases ze with
   | false=>simp[ir109,hi,hz,d1,d2]
   | true =>
    cases hin:c.signals[i].init with
    | true =>
     simp[ir109,hi,hz,d1,d2]
     simp[hin]
    | false =>
     simp[ir109,hi,hz,d1,d2]
     simp[hin]
def zks(c:Ct)(A:Nat)(K:List Txt)(i:Nat)(x:Sg):Int :=
 if qee K x.name=0 then
  if x.kind<0\/3<=x.kind then 1
  else if x.on.check (qak c A)=0 then(if x.kind=0 then zbo c (qam c A) i x else if x.kind=1 then zws c A x else zyf x)
  else x.on.check (qak c A)
 else qee K x.name
theorem qoj{x:Ex}{n:Int}(h:x.check n=0):x.err n=0:=by
 unfold Ex.check at h
 split at h
 .cases h
 .split at h
  .exact h
  .cases h
theorem ev112{c:Ct}{A:Nat}(h:Mid c A)(l:List (Txt×Int))(i:Nat)(hi:i<c.signals.length)(hon:c.signals[i].on.light=true)(hoff:c.signals[i].off.light=true):∃l',ev pg (.call (.fn 112 [] []) [.bptr 3 0,num i] (hX c l []))=some { v:=num (zks c A (l.map Prod.fst) i c.signals[i]),st:=⟨[],hX c l' []⟩ }/\((qee (l.map Prod.fst) c.signals[i].name=0/\∀q,q∈l'.map Prod.fst<->(q∈l.map Prod.fst\/q=c.signals[i].name))\/(qee (l.map Prod.fst) c.signals[i].name≠0/\l'=l)):=by
 obtain⟨l',h128,hl'⟩:=ev111 c l (s3 c.signals[i]) (fun l=>zby c l c.signals[i]) c.signals[i].name
 refine⟨l',?_,hl'⟩
 have h133:=ev115 h
 have h157:=ev150 c.signals[i].on (qak c A:Nat) hon
 have h124:=fun hv=>ev107 h l' i hi (qes hon).1 (qoj (n:=(qak c A:Nat)) hv)
 have zbs:=ev108 h l' i hi hoff
 have q2s:=ev109 c l' i hi
 unfold zks
 generalize qee (l.map Prod.fst) c.signals[i].name=ne at *
 generalize c.signals[i].on.check (qak c A:Nat)=oe at *
 generalize zbo c (qam c A) i c.signals[i]=ge at *
 generalize zws c A c.signals[i]=me at *
 generalize zyf c.signals[i]=te at *
 clear hl'
 simp at h157
 rw[qac,pg112]
 by_cases e1:ne=0
 .rw[if_pos e1]
  by_cases e2:c.signals[i].kind<0
  .rw[if_pos (.inl e2)]
   simp[ir112,hi,h128,e1,e2]
  by_cases e3:3<=c.signals[i].kind
  .rw[if_pos (.inr e3)]
   simp[ir112,hi,h128,e1,e2,e3]
  rw[if_neg (by omega)]
  by_cases e4:oe=0
  .rw[if_pos e4]
   have h124:=h124 e4
   have hk0:0<=c.signals[i].kind:=by omega
   rcases (by omega:c.signals[i].kind=0\/c.signals[i].kind=1\/c.signals[i].kind=2)with k0 | k0 | k0
   .have hkn:c.signals[i].kind.toNat=0:=by omega
    rw[if_pos k0]
    simp[qaa,exT,qae,ir112,hi,h128,h133,h157,h124,e1,e2,e3,e4,hk0,hkn]
   .have hkn:c.signals[i].kind.toNat=1:=by omega
    rw[if_neg (by omega),if_pos k0]
    simp[qaa,exT,qae,ir112,hi,h128,h133,h157,zbs,e1,e2,e3,e4,hk0,hkn]
   .have hkn:c.signals[i].kind.toNat=2:=by omega
    rw[if_neg (by omega),if_neg (by omega)]
    simp[qaa,exT,qae,ir112,hi,h128,h133,h157,q2s,e1,e2,e3,e4,hk0,hkn]
  .rw[if_neg e4]
   simp[qaa,exT,qae,ir112,hi,h128,h133,h157,e1,e2,e3,e4]
 .rw[if_neg e1]
  simp[ir112,hi,h128,e1]
theorem zdt{f:Int->Bool}{l:List Ex}(ih:∀y∈l,y.anyV f=true<->∃v,y.anyV (· == v)=true/\f v=true):qiy f l=true<->∃v,qiy (· == v) l=true/\f v=true:=by
 induction l with
 | nil=>simp[qiy]
 | cons y l ihl =>
  have h1:=ih y (by simp)
  have h2:=ihl fun z hz=>ih z (by simp[hz])
  simp only[qiy,Bool.or_eq_true]
  rw[h1,h2]
  constructor
  .rintro(⟨v,a,b⟩ | ⟨v,a,b⟩)
   .exact⟨v,.inl a,b⟩
   .exact⟨v,.inr a,b⟩
  .rintro⟨v,a | a,b⟩
   .exact .inl ⟨v,a,b⟩
   .exact .inr ⟨v,a,b⟩
theorem zhg(f:Int->Bool):∀x:Ex,x.anyV f=true<->∃v,x.anyV (· == v)=true/\f v=true:=by
 refine Ex.ind fun x ih=>?_
 have h:=zdt ih
 simp only[q5q,Bool.or_eq_true,jE,jW,beq_iff_eq]
 rw[h]
 constructor
 .rintro(⟨a,b⟩ | ⟨v,a,b⟩)
  .exact⟨x.idx,.inl ⟨a,rfl⟩,b⟩
  .exact⟨v,.inr a,b⟩
 .rintro⟨v,⟨a,rfl⟩ | a,b⟩
  .exact .inl ⟨a,b⟩
  .exact .inr ⟨v,a,b⟩
theorem zhk{v:Int}{l:List Ex}(ih:∀y∈l,y.occ v=y.anyV (· == v)):q9g v l=qiy (· == v) l:=by
 induction l with
 | nil=>rfl
 | cons y l ihl=>rw[q9g,qiy,ih y (by simp),ihl fun z hz=>ih z (by simp[hz])]
theorem zii{o i n:Int}{k:Nat}(h:qbm o i k n=0)(ho:o=1):k=0:=by
 subst ho
 by_cases hk:k=0
 .exact hk
 .have e:qbm 1 i k n=3:=by simp[qbm,hk]
  omega
theorem zfb(v n:Int):∀x:Ex,x.err n=0->x.occ v=x.anyV (· == v):=by
 refine Ex.ind fun x ih hx=>?_
 obtain⟨h1,h2⟩:=qpi hx
 rw[zla,q5q]
 by_cases ho:x.op=1
 .have ha:x.args=[]:=List.length_eq_zero_iff.1 (zii h1 ho)
  simp[ho,ha,qiy]
 .simp only[if_neg ho,decide_eq_false ho,Bool.false_and,Bool.false_or]
  exact zhk fun y hy=>ih y hy (h2 y hy)
theorem qxn(on:Ex)(F:Nat):∀(l:List Sg) (k:Nat),qgv on F k l=true<->∃j x,l[j]?=some x/\x.kind=0/\on.occ (F+(k+j):Nat)=true
 | [],k=>by simp[qgv]
 | y :: l,k=>by
  rw[qgv,Bool.or_eq_true,jE,jW,qxn on F l (k+1)]
  constructor
  .rintro(⟨a,b⟩ | ⟨j,x,a,b,d⟩)
   .exact⟨0,y,rfl,a,b⟩
   .exact⟨j+1,x,a,b,by rw[show F+(k+(j+1))=F+(k+1+j)by omega];exact d⟩
  .rintro⟨j,x,a,b,d⟩
   cases j with
   | zero=>exact .inl (by obtain rfl:y=x:=(by simpa using a);exact⟨b,d⟩)
   | succ j=>exact .inr ⟨j,x,by simpa using a,b,by rw[show F+(k+1+j)=F+(k+(j+1))by omega];exact d⟩
theorem znj(c:Ct)(A i:Nat)(on:Ex)(n:Int)(h:on.err n=0):on.anyV (qqr c (qam c A) i)=qgv on (qam c A) i (c.signals.drop i):=by
 rw[Bool.eq_iff_iff,zhg,qxn]
 constructor
 .rintro⟨v,hv,hf⟩
  simp only[qqr,jE,jW]at hf
  obtain⟨h1,h2⟩:=hf
  cases hg:c.signals[(v-(qam c A:Nat)).toNat]? with
  | none=>rw[hg]at h2;cases h2
  | some x =>
   rw[hg]at h2
   refine⟨(v-(qam c A:Nat)).toNat-i,x,?_,by simpa using h2,?_⟩
   .rw[List.getElem?_drop,<-hg];congr 1;omega
   .rw[zfb _ n on h,show((qam c A+(i+((v-(qam c A:Nat)).toNat-i)):Nat):Int)=v by omega]
    exact hv
 .rintro⟨j,x,a,b,d⟩
  rw[List.getElem?_drop]at a
  rw[zfb _ n on h]at d
  refine⟨_,d,?_⟩
  simp only[qqr,jE,jW]
  refine⟨by omega,?_⟩
  rw[show(((qam c A+(i+j):Nat):Int)-(qam c A:Nat)).toNat=i+j by omega,a]
  simpa using b
theorem zte(c:Ct)(A:Nat)(K:List Txt)(i:Nat)(x:Sg):zks c A K i x=q3r c A K i x:=by
 unfold zks q3r zbo zws zyf
 by_cases h0:qee K x.name=0
 .rw[if_pos h0,if_pos h0]
  by_cases h1:x.kind<0\/3<=x.kind
  .rw[if_pos h1,if_pos h1]
  .rw[if_neg h1,if_neg h1]
   by_cases h2:x.on.check (qak c A)=0
   .rw[if_pos h2,if_pos h2,znj c A i x.on _ (qoj h2)]
    generalize qgv x.on (qam c A) i (c.signals.drop i)=L
    generalize x.off.check (qak c A)=e
    rcases (by omega:x.kind=0\/x.kind=1\/x.kind=2)with k | k | k
    .simp[k,or_assoc]
    .simp[k]
    .simp[k]
   .rw[if_neg h2,if_neg h2]
 .rw[if_neg h0,if_neg h0]
theorem ev98(n:Nat)(hn:0<n)(hn2:n<=80):ev pg (.call (.fn 98 [] []) [.nils,num n] [⟨0,.arr 0 []⟩])=some { v:=.sl 1 0 1 0 0,st:=⟨[],[⟨0,.arr 0 []⟩,⟨0,.arr 1 []⟩]⟩ }:=by
 have w1:=qab (n:=(n:Int)) (by omega) (by omega)
 have p1:¬((n:Int)<0):=by omega
 have w0:=qab (n:=0) (by omega) (by omega)
 have p3:n*8<=140737488355328:=by omega
 rw[qac,pg98]
 simp[ir98,w0,w1,p1,hn,p3,qcr,qeo,qem]
 omega
theorem ev72(a b:List Int)(ha:a.length<=40)(hb:b.length<=40)(hp:0<a.length):ev pg (.call (.fn 72 [] []) [.imm [[qbx a],[qbx b]]] [])=some { v:=.sl 0 0 1 0 (a.length+b.length),st:=⟨[],[⟨0,.arr 1 ((a++b).map qdc)⟩]⟩ }:=by
 have h161:=ev98 (a.length+b.length) (by omega) (by omega)
 have w1:=qab (n:=(a.length:Int)) (by omega) (by omega)
 have w2:=qab (n:=(a.length:Int)+(b.length:Int)) (by omega) (by omega)
 have p1:¬((a.length:Int)<0):=by omega
 have p2:¬((a.length:Int)+(b.length:Int)<0):=by omega
 have i1:=qab (n:=1) (by omega) (by omega)
 have i2:=qab (n:=2) (by omega) (by omega)
 have q1:a.length*8<=140737488355328:=by omega
 have q2:(a.length+b.length)*8<=140737488355328:=by omega
 have hf:((a.length:Int)+(b.length:Int))=((a.length+b.length:Nat):Int):=by omega
 simp at h161
 rw[qac,pg72]
 simp[ir72,qaf]
 rw[qen]
 simp[L72_0,w1,p1,i1]
 rw[qen]
 simp[w2,p2,i2]
 rw[qen]
 simp[h161]
 rw[qen]
 simp[L72_1,q1,i1]
 rw[qen]
 simp[i2,q2]
 rw[qen]
 simp[qcr,qeo,qem]
def I87(v:V)(h:H)(l:List Int)(p:Int->Bool)(k:Nat)(st:St):Prop:=st.h=h/\st.s.length=19/\qat st.s 0=qbx l/\qat st.s 1=v/\qat st.s 7=num l.length/\qat st.s 8=num k/\l.any p=(l.drop k).any p
def Q87(h:H)(l:List Int)(p:Int->Bool)(r:R):Prop:=r.st.s.length=19/\((r.x=.exit 0/\r.st.h=h/\l.any p=false)\/(r.x=.ret/\r.st.h=h/\(∃k:Nat,qat r.st.s 4=num k)/\l.any p=true))
theorem z1m{f:Nat}{caps:List V}{h:H}{l:List Int}{p:Int->Bool}(hl80:l.length<=4096)(hlow:qfm 0 caps=false)(hcap:qfm h.length caps=true)(hc:∀n:Int,ev pg (.call (.fn f [] caps) [num n] h)=some { v:=.bool (p n),st:=⟨[],h⟩ })(hcl:qck h)(n:Nat)(hn:n=h.length)(st:St)(h0:I87 (.fn f [] caps) h l p 0 st):∃r,ev pg (.code (.going n L154_0) st)=some r/\Q87 h l p r:=by
 have hcut:=qej hcl
 rw[<-hn]at hcut hcap
 refine qbq (I87 (.fn f [] caps) h l p) l.length (Q87 h l p) h0 ?_ ?_
 .rintro k ⟨s,hh⟩ hk ⟨rfl,hl,e0,e1,e7,e8,he⟩
  simp only at hl e0 e1 e7 e8
  have hk':(k:Int)<l.length:=by omega
  have wk:=qab (n:=(k:Int)+1) (by omega) (by omega)
  have hcn:=hc l[k]
  rw[zlr hk]at he
  generalize p l[k]=b at *
  rw[qaj hl]
  cases b with
  | true =>
   simp[-qav,L154_0,Q87,List.range,List.range.loop,e0,e1,e7,e8,hk,hk',hlow,hcn]
   exact⟨⟨k,rfl⟩,by simpa using he⟩
  | false =>
   simp[-qav,L154_0,I87,List.range,List.range.loop,e0,e1,e7,e8,hk,hk',hlow,hcn,hcut,hcap,wk]
   simpa using he
 .rintro⟨s,hh⟩ ⟨rfl,hl,e0,e1,e7,e8,he⟩
  simp only[List.drop_length]at hl e0 e1 e7 e8 he
  have he':l.any p=false:=he
  rw[qaj hl]
  simp[L154_0,Q87,List.range,List.range.loop,e0,e1,e7,e8]
  simpa using he'
theorem ev113{f:Nat}{caps:List V}{h:H}{l:List Int}{p:Int->Bool}(hl80:l.length<=4096)(hlow:qfm 0 caps=false)(hcap:qfm h.length caps=true)(hc:∀n:Int,ev pg (.call (.fn f [] caps) [num n] h)=some { v:=.bool (p n),st:=⟨[],h⟩ })(hcl:qck h):ev pg (.call (.fn 113 [] []) [qbx l,.fn f [] caps] h)=some { v:=.bool (l.any p),st:=⟨[],h⟩ }:=by
 have hloop:=z1m hl80 hlow hcap hc hcl
 have hck:=qeb hcl
 have h87:∃r:Int,ev pg (.call (.fn 154 [] []) [qbx l,.fn f [] caps] h)=some { v:=num r,st:=⟨[],h⟩ }/\decide (0<=r)=l.any p:=by
  unfold Q87 at hloop
  have hI:∀st:St,I87 (.fn f [] caps) h l p 0 st<->(st.h=h/\st.s.length=19/\qat st.s 0=qbx l/\qat st.s 1=.fn f [] caps/\qat st.s 7=num l.length/\qat st.s 8=num 0):=fun st=>by
   unfold I87
   exact⟨fun h=>⟨h.1,h.2.1,h.2.2.1,h.2.2.2.1,h.2.2.2.2.1,h.2.2.2.2.2.1⟩,fun h=>⟨h.1,h.2.1,h.2.2.1,h.2.2.2.1,h.2.2.2.2.1,h.2.2.2.2.2,rfl⟩⟩
  generalize l.any p=B at *
  rw[qac,pg154]
  simp[-qaq,ir154,qaf]
  generalize hr:ev pg (.code (.going _ L154_0) _)=o
  obtain⟨r,rfl,hl,hQ⟩:∃r,o=some r/\_:=by
   rw[<-hr]
   exact hloop _ rfl _ ((hI _).2 ⟨by simp,by simp,by simp,by simp,by simp,by simp⟩)
  rcases hQ with⟨hx,hh,rfl⟩ | ⟨hx,hh,⟨k,h4⟩,rfl⟩
  .simp[-qaq,hx,hh,hl,hck]
  .simp[-qaq,hx,hh,h4,hck]
 obtain⟨r,h87,hr⟩:=h87
 rw[qac,pg113,<-hr]
 simp[-qaq,ir113,h87,hck]
theorem ev114{c:Ct}{A:Nat}(hM:Mid c A){h:H}{i:Nat}(hi:h[i]?=some ⟨0,.box c.cells⟩)(hcl:qck h)(n:Int):ev pg (.call (.fn 114 [] [.bptr i 0]) [num n] h)=some { v:=.bool (qfe (qak c A:Nat) n),st:=⟨[],h⟩ }:=by
 have hck:=qeb hcl
 have h133:=ev115 hM
 rw[qac,pg114]
 unfold qfe
 generalize qak c A=N at *
 by_cases h1:n<0
 .simp[-qaq,ir114,h1,hck]
 .simp[-qaq,ir114,h1,hi,h133,hck]
theorem quf{K L:List Txt}(h:∀q,q∈K<->q∈L)(s:Txt):qee K s=qee L s:=by
 unfold qee
 simp only[h s]
theorem q9j(c:Ct)(A:Nat){K L:List Txt}(h:∀q,q∈K<->q∈L)(i:Nat)(x:Sg):zks c A K i x=zks c A L i x:=by
 unfold zks
 rw[quf h]
theorem qln(c:Ct)(A n:Nat)(q:Txt):q∈qea c A (n+1)<->(q∈qea c A n\/q=qbs c A n):=by
 unfold qea
 rw[List.range_succ,List.map_append,jQ]
 simp
theorem qww(c:Ct)(A j:Nat)(hj:j<c.inputs.length):qbs c A (2*A+j)=c.inputs[j]:=by
 unfold qbs
 rw[if_neg (by omega),if_pos (by omega),show 2*A+j-2*A=j by omega,jA hj]
 rfl
def qmz(c:Ct)(A n:Nat)(l:List (Txt×Int)):Prop:=∀q,q∈l.map Prod.fst<->q∈qea c A n
theorem zev(c:Ct)(l:List (Txt×Int)):qck (hX c l []):=by simp[qck,qbg]
structure Keep84(st:List V):Prop where
 nn:qdv st
 len:st.length=111
 t1:qat st 1=.bptr 1 0
 t4:qat st 4=.bptr 3 0
def jeg(c:Ct)(A k:Nat)(st:St):Prop:=(∃l,st.h=hX c l []/\qmz c A k l)/\Keep84 st.s/\qat st.s 45=num (2*A:Nat)/\qat st.s 46=num k
def z6o(c:Ct)(A:Nat)(r:R):Prop:=r.x=.exit 0/\(∃l,r.st.h=hX c l []/\qmz c A (2*A) l)/\Keep84 r.st.s
theorem zsy{c:Ct}{A:Nat}(h:Mid c A)(st:St)(h0:jeg c A 0 st):∃r,ev pg (.code (.going 4 L81_0) st)=some r/\z6o c A r:=by
 refine qbq (jeg c A) (2*A) (z6o c A) h0 ?_ ?_
 .rintro k ⟨s,hh⟩ hk ⟨⟨l,rfl,hkeys⟩,⟨hnn,hl,e1,e4⟩,e45,e46⟩
  simp only at hl e1 e4 e45 e46
  have hn:∀j,qat s j ≠ .nils:=qcp hnn
  have hk':(k:Int)<((2*A:Nat):Int):=by omega
  have h6:=h.hi
  have wk:=qab (n:=(k:Int)+1) (by omega) (by omega)
  have hc:=ev110 h k (by unfold qak;omega)
  obtain⟨l',hu1,hu2⟩:=q5h l (qbs c A k) k
  have hcut:∀l,qav 4 (hX c l [])=hX c l []:=fun l=>qej (zev c l)
  generalize hN:2*A=N at *
  generalize hq:qbs c A k=q at *
  rw[qaj hl]
  simp[qaa,exT,qae,L81_0,List.range,List.range.loop,e1,e4,e45,e46,hk',hc,hu1,wk]
  exact⟨⟨l',rfl,fun t=>by rw[hu2,qln,hq,hkeys t]⟩,⟨by simp[qdv,hn],rfl,rfl,rfl⟩,by rw[hN];rfl,rfl⟩
 .rintro⟨s,hh⟩ ⟨⟨l,rfl,hkeys⟩,⟨hnn,hl,e1,e4⟩,e45,e46⟩
  simp only at hl e1 e4 e45 e46
  have hn:∀j,qat s j ≠ .nils:=qcp hnn
  rw[qaj hl]
  simp[L81_0,z6o,List.range,List.range.loop,e1,e4,e45,e46]
  exact⟨⟨l,rfl,hkeys⟩,⟨by simp[qdv,hn],rfl,rfl,rfl⟩⟩
def z3i(c:Ct)(A k:Nat)(st:St):Prop:=(∃l,st.h=hX c l []/\qmz c A (2*A+k) l)/\Keep84 st.s/\qat st.s 59=.imm (c.inputs.map q3t)/\qat st.s 60=num c.inputs.length/\qat st.s 61=num k/\goE (qwq c A) 0 c.inputs.length=goE (qwq c A) k (c.inputs.length-k)
def zxo(c:Ct)(A:Nat)(r:R):Prop:=(r.x=.exit 2/\(∃l,r.st.h=hX c l []/\qmz c A (qam c A) l)/\Keep84 r.st.s/\goE (qwq c A) 0 c.inputs.length=0)\/(r.x=.ret/\r.st.s.length=111/\qat r.st.s 2=.undef/\qat r.st.s 3=num (goE (qwq c A) 0 c.inputs.length)/\goE (qwq c A) 0 c.inputs.length≠0/\∃l,r.st.h=hX c l [])
theorem ztt{c:Ct}{A:Nat}(h:Mid c A)(st:St)(h0:z3i c A 0 st):∃r,ev pg (.code (.going 4 L81_1) st)=some r/\zxo c A r:=by
 refine qbq (z3i c A) c.inputs.length (zxo c A) h0 ?_ ?_
 .rintro k ⟨s,hh⟩ hk ⟨⟨l,rfl,hkeys⟩,⟨hnn,hl,e1,e4⟩,e59,e60,e61,he⟩
  simp only at hl e1 e4 e59 e60 e61
  have hn:∀j,qat s j ≠ .nils:=qcp hnn
  obtain⟨hA,h1,h2,h3,h4⟩:=h
  have hk':(k:Int)<c.inputs.length:=by omega
  have wk:=qab (n:=(k:Int)+1) (by omega) (by omega)
  obtain⟨l',hc,hl'⟩:=ev111 c l [] (fun l=>zev c l) c.inputs[k]
  rw[q6b hk]at he
  have hF:qee (l.map Prod.fst) c.inputs[k]=qwq c A k:=by
   rw[quf hkeys,qwq,qww c A k hk]
  rw[hF]at hc hl'
  have hkeys':qwq c A k=0->qmz c A (2*A+(k+1)) l':=fun h0=>by
   rcases hl' with⟨_,h⟩ | ⟨h,_⟩
   .intro q
    rw[h q,show 2*A+(k+1)=2*A+k+1 by omega,qln,hkeys q,qww c A k hk]
   .exact absurd h0 h
  generalize qwq c A k=f at *
  rw[qaj hl]
  by_cases b:f=0
  .rw[if_pos b]at he
   simp[L81_1,List.range,List.range.loop,e1,e4,e59,e60,e61,hk,hk',hc,b,wk]
   exact⟨⟨l',rfl,hkeys' b⟩,⟨by simp[qdv,hn],rfl,rfl,rfl⟩,rfl,rfl,rfl,he⟩
  .rw[if_neg b]at he
   simp[L81_1,zxo,List.range,List.range.loop,e1,e4,e59,e60,e61,hk,hk',hc,b,he]
   exact⟨l',rfl⟩
 .rintro⟨s,hh⟩ ⟨⟨l,rfl,hkeys⟩,⟨hnn,hl,e1,e4⟩,e59,e60,e61,he⟩
  simp only[Nat.sub_self,goE]at hl e1 e4 e59 e60 e61 he
  have hn:∀j,qat s j ≠ .nils:=qcp hnn
  rw[qaj hl]
  simp[L81_1,zxo,List.range,List.range.loop,e1,e4,e59,e60,e61,he]
  exact⟨⟨l,rfl,hkeys⟩,⟨by simp[qdv,hn],rfl,rfl,rfl⟩⟩
def z4q(c:Ct)(A k:Nat)(st:St):Prop:=(∃l,st.h=hX c l []/\qmz c A (qam c A+k) l)/\Keep84 st.s/\qat st.s 74=num c.signals.length/\qat st.s 75=num k/\goE (qsw c A) 0 c.signals.length=goE (qsw c A) k (c.signals.length-k)
def zzp(c:Ct)(A:Nat)(r:R):Prop:=(r.x=.exit 4/\(∃l,r.st.h=hX c l [])/\Keep84 r.st.s/\goE (qsw c A) 0 c.signals.length=0)\/(r.x=.ret/\r.st.s.length=111/\qat r.st.s 2=.undef/\qat r.st.s 3=num (goE (qsw c A) 0 c.signals.length)/\goE (qsw c A) 0 c.signals.length≠0/\∃l,r.st.h=hX c l [])
theorem zrf{c:Ct}{A:Nat}(h:Mid c A)(hfew:c.small=true)(st:St)(h0:z4q c A 0 st):∃r,ev pg (.code (.going 4 L81_2) st)=some r/\zzp c A r:=by
 refine qbq (z4q c A) c.signals.length (zzp c A) h0 ?_ ?_
 .rintro k ⟨s,hh⟩ hk ⟨⟨l,rfl,hkeys⟩,⟨hnn,hl,e1,e4⟩,e74,e75,he⟩
  simp only at hl e1 e4 e74 e75
  have hn:∀j,qat s j ≠ .nils:=qcp hnn
  obtain⟨_,hon,hoff⟩:=(qgr hfew).2.2.2.2.2 _ (jH hk)
  obtain⟨l',hc,hl'⟩:=ev112 h l k hk hon hoff
  obtain⟨hA,h1,h2,h3,h4⟩:=h
  have hk':(k:Int)<c.signals.length:=by omega
  have wk:=qab (n:=(k:Int)+1) (by omega) (by omega)
  rw[q6b hk]at he
  have hF:zks c A (l.map Prod.fst) k c.signals[k]=qsw c A k:=by
   rw[q9j c A hkeys,zte]
   unfold qsw
   rw[jA hk]
  have hkeys':qsw c A k=0->qmz c A (qam c A+(k+1)) l':=fun h0=>by
   rcases hl' with⟨_,h⟩ | ⟨h,_⟩
   .intro q
    rw[h q,show qam c A+(k+1)=qam c A+k+1 by omega,qln,hkeys q,qpz c A k hk]
   .rw[<-hF]at h0
    unfold zks at h0
    rw[if_neg h]at h0
    exact absurd h0 h
  rw[hF]at hc
  generalize qsw c A k=f at *
  rw[qaj hl]
  by_cases b:f=0
  .rw[if_pos b]at he
   simp[L81_2,List.range,List.range.loop,e1,e4,e74,e75,hk',hc,b,wk]
   exact⟨⟨l',rfl,hkeys' b⟩,⟨by simp[qdv,hn],rfl,rfl,rfl⟩,rfl,rfl,he⟩
  .rw[if_neg b]at he
   simp[L81_2,zzp,List.range,List.range.loop,e1,e4,e74,e75,hk',hc,b,he]
   exact⟨l',rfl⟩
 .rintro⟨s,hh⟩ ⟨⟨l,rfl,hkeys⟩,⟨hnn,hl,e1,e4⟩,e74,e75,he⟩
  simp only[Nat.sub_self,goE]at hl e1 e4 e74 e75 he
  have hn:∀j,qat s j ≠ .nils:=qcp hnn
  rw[qaj hl]
  simp[L81_2,zzp,List.range,List.range.loop,e1,e4,e74,e75,he]
  exact⟨⟨l,rfl⟩,⟨by simp[qdv,hn],rfl,rfl,rfl⟩⟩
theorem ev81(c:Ct)(hfew:c.small=true):∃v z,ev pg (.call (.fn 81 [] []) [c.v] [⟨0,.box c.cells⟩])=some { v:=.tup [v,num c.check],st:=⟨[],z⟩ }:=by
 obtain⟨f1,f2,f3,f4,_⟩:=qgr hfew
 rw[qac,pg81]
 unfold Ct.check
 by_cases a1:c.act<1
 .rw[if_pos (.inl a1)]
  simp[ir81,a1]
 by_cases a2:6<c.act
 .rw[if_pos (.inr a2)]
  simp[ir81,a1,a2]
 rw[if_neg (by omega)]
 by_cases a3:16<c.inputs.length
 .have a3':(16:Int)<(c.inputs.length:Int):=by omega
  rw[if_pos (.inl a3)]
  simp[ir81,a1,a2,a3']
 have a3':¬((16:Int)<(c.inputs.length:Int)):=by omega
 by_cases a4:64<c.signals.length
 .have a4':(64:Int)<(c.signals.length:Int):=by omega
  rw[if_pos (.inr a4)]
  simp[ir81,a1,a2,a3',a4']
 have a4':¬((64:Int)<(c.signals.length:Int)):=by omega
 rw[if_neg (by omega)]
 have hM:Mid c c.act.toNat:=⟨by omega,by omega,by omega,f1,f2⟩
 have hla:=zsy hM
 have hlb:=ztt hM
 have hlc:=zrf hM hfew
 have hactA:c.act=(c.act.toNat:Int):=by omega
 have hA1:=hM.lo
 have hA6:=hM.hi
 have h132:=fun(l:List (Txt×Int)) (z:H) (hcl:qck (hX c l z)) (n:Int)=>ev114 hM (h:=hX c l z) (i:=1) rfl hcl n
 have zfz:c.plus.length=c.act.toNat->_:=fun hp=>ev72 c.plus c.minus f3 f4 (by omega)
 generalize c.act.toNat=A at *
 have w1:=qab (n:=2*c.act) (by omega) (by omega)
 unfold ctE
 have hIb:∀st:St,z3i c A 0 st<->((∃l,st.h=hX c l []/\qmz c A (2*A) l)/\Keep84 st.s/\qat st.s 59=.imm (c.inputs.map q3t)/\qat st.s 60=num c.inputs.length/\qat st.s 61=num 0):=fun st=>by
  unfold z3i
  exact⟨fun h=>⟨h.1,h.2.1,h.2.2.1,h.2.2.2.1,h.2.2.2.2.1⟩,fun h=>⟨h.1,h.2.1,h.2.2.1,h.2.2.2.1,h.2.2.2.2,rfl⟩⟩
 have hIc:∀st:St,z4q c A 0 st<->((∃l,st.h=hX c l []/\qmz c A (qam c A) l)/\Keep84 st.s/\qat st.s 74=num c.signals.length/\qat st.s 75=num 0):=fun st=>by
  unfold z4q
  exact⟨fun h=>⟨h.1,h.2.1,h.2.2.1,h.2.2.2.1⟩,fun h=>⟨h.1,h.2.1,h.2.2.1,h.2.2.2,rfl⟩⟩
 unfold zxo at hlb
 unfold zzp at hlc
 generalize goE (qwq c A) 0 c.inputs.length=ei at *
 generalize goE (qsw c A) 0 c.signals.length=es at *
 simp[ir81,a1,a2,a3',a4',w1,qaf]
 generalize hr:ev pg (.code (.going 4 L81_0) _)=o
 obtain⟨r,rfl,hx,⟨l,hh,hkeys⟩,⟨hnn,hl,g1,g4⟩⟩:∃r,o=some r/\z6o c A r:=by
  rw[<-hr]
  refine hla _ ⟨⟨[],rfl,by simp[qmz,qea]⟩,⟨by simp[qdv],by simp,by simp,by simp⟩,by simp[hactA],by simp⟩
 simp (maxDischargeDepth:=9) [hx,hh,hl,g1,qho,qew,hnn]
 generalize hr2:ev pg (.code (.going 4 L81_1) _)=o
 obtain⟨r2,rfl,hQ2⟩:∃r,o=some r/\_:=by
  rw[<-hr2]
  exact hlb _ ((hIb _).2 ⟨⟨l,rfl,hkeys⟩,⟨by simp (maxDischargeDepth:=9) [qew,hnn],by simp[hl],by simp[g1],by simp[g4]⟩,by simp[hl],by simp[hl],by simp[hl]⟩)
 rcases hQ2 with⟨hx2,⟨l2,hh2,hkeys2⟩,⟨hnn2,hl2,g21,g24⟩,rfl⟩ | ⟨hx2,hl2,g22,g23,hE,l2,hh2⟩
 .simp (maxDischargeDepth:=9) [hx2,hh2,hl2,g21,qho,qew,hnn2]
  generalize hr3:ev pg (.code (.going 4 L81_2) _)=o
  obtain⟨r3,rfl,hQ3⟩:∃r,o=some r/\_:=by
   rw[<-hr3]
   exact hlc _ ((hIc _).2 ⟨⟨l2,rfl,hkeys2⟩,⟨by simp (maxDischargeDepth:=9) [qew,hnn2],by simp[hl2],by simp[g21],by simp[g24]⟩,by simp[hl2],by simp[hl2]⟩)
  rcases hQ3 with⟨hx3,⟨l3,hh3⟩,⟨hnn3,hl3,g31,g34⟩,rfl⟩ | ⟨hx3,hl3,g32,g33,hE3,l3,hh3⟩
  .rw[if_pos (rfl:(0:Int)=0)]
   unfold zch
   by_cases n1:c.plus.length=A
   .have n1b:((c.plus.length:Int) != c.act)=false:=by simp;omega
    by_cases n2:c.minus.length=A
    .have n2b:((c.minus.length:Int) != c.act)=false:=by simp;omega
     rw[if_neg (by omega)]
     have zfz:=zfz n1
     have h130:=ev113 (f:=114) (caps:=[.bptr 1 0]) (h:=hX c l3 [⟨0,.frz 1 ((c.plus++c.minus).map qdc)⟩]) (l:=c.plus++c.minus) (p:=qfe (qak c A)) (by simp;omega) rfl rfl (fun n=>h132 l3 [⟨0,.frz 1 ((c.plus++c.minus).map qdc)⟩] (by simp[qck,qbg]) n) (by simp[qck,qbg])
     rw[List.any_append]at h130
     generalize c.plus.any (qfe (qak c A))=P at *
     generalize c.minus.any (qfe (qak c A))=M at *
     simp only[qbx,List.map_append]at h130
     cases P with
     | true=>simp[hx3,hh3,hl3,g31,n1b,n2b,zfz,h130]
     | false=>cases M with
      | true=>simp[hx3,hh3,hl3,g31,n1b,n2b,zfz,h130]
      | false=>simp[hx3,hh3,hl3,g31,g34,n1b,n2b,zfz,h130]
    .have n2b:((c.minus.length:Int) != c.act)=true:=by simp;omega
     rw[if_pos (.inr n2)]
     simp[hx3,hh3,hl3,g31,n1b,n2b]
   .have n1b:((c.plus.length:Int) != c.act)=true:=by simp;omega
    rw[if_pos (.inl n1)]
    simp[hx3,hh3,hl3,g31,n1b]
  .simp[hx3,hh3,g32,g33,hE3]
 .simp[hx2,hh2,g22,g23,hE]
theorem ev44(c:Ct)(hfew:c.small=true):ev pg (.call (.fn 44 [] []) [c.v] [])=some { v:=num c.check,st:=⟨[],[]⟩ }:=by
 obtain⟨v,z,h84⟩:=ev81 c hfew
 generalize c.check=e at *
 rw[qac,pg44]
 simp[ir44,h84]
end Go.Proofs.YtlhciedghbmjjaaGreat
namespace Go.Am
abbrev Tm:=List (Option V)
def fill(f:Nat->V):Nat->Tm->List V
 | _,[]=>[]
 | i,some v :: t=>v :: fill f (i+1) t
 | i,none :: t=>f i :: fill f (i+1) t
def fits:Tm->List V->Prop
 | [],[]=>True
 | some v :: t,x :: s=>x=v/\fits t s
 | none :: t,x :: s=>x ≠ .nils/\fits t s
 | _,_=>False
def Junk(f:Nat->V):Prop:=∀i,f i ≠ .nils
theorem qlg:∀{t:Tm} {s:List V} (n:Nat),fits t s->∃f,Junk f/\s=fill f n t
 | [],[],_,_=>⟨fun _=>.undef,fun _=>by simp,rfl⟩
 | [],_ :: _,_,h=>by simp[fits]at h
 | some _ :: _,[],_,h=>by simp[fits]at h
 | none :: _,[],_,h=>by simp[fits]at h
 | some v :: t,x :: s,n,h=>by
  obtain⟨rfl,h2⟩:=h
  obtain⟨f,hf,rfl⟩:=qlg (n+1) h2
  exact⟨f,hf,rfl⟩
 | none :: t,x :: s,n,h=>by
  obtain⟨hx,h2⟩:=h
  obtain⟨f,hf,rfl⟩:=qlg (n+1) h2
  refine⟨fun i=>if i=n then x else f i,fun i=>?_,?_⟩
  .simp only
   split
   .exact hx
   .exact hf i
  .have:∀(t:Tm) (m:Nat),n<m->fill (fun i=>if i=n then x else f i) m t=fill f m t:=by
    intro t
    induction t with
    | nil=>intro m _;rfl
    | cons o t ih =>
     intro m hm
     cases o with
     | none=>simp only[fill,ih (m+1) (by omega)];rw[if_neg (by omega)]
     | some v=>simp only[fill,ih (m+1) (by omega)]
   simp only[fill,if_true]
   rw[this t (n+1) (by omega)]
structure At(T:Tm)(h:H)(st:St):Prop where
 s:fits T st.s
 h:st.h=h
theorem At.eq{T:Tm}{h:H}{st:St}(a:At T h st):∃f,Junk f/\st=⟨fill f 0 T,h⟩:=by
 obtain⟨f,hf,e⟩:=qlg 0 a.s
 refine⟨f,hf,?_⟩
 obtain⟨s,h'⟩:=st
 obtain rfl:h'=h:=a.h
 obtain rfl:s=fill f 0 T:=e
 rfl
theorem qbn{P:Prg}{nx:Nat}{c:C}{α:Type}(N:Nat)(T:Nat->α->Tm)(Hp:Nat->α->H)(G:Nat->α->Prop)(Q:R->Prop)
  (step:∀k a f,Junk f->k<N->G k a->∃r,ev P (.code c ⟨fill f 0 (T k a),Hp k a⟩)=some r/\((r.x=.normal/\∃a',G (k+1) a'/\At (T (k+1) a') (Hp (k+1) a') (qkh nx r.st))\/(r.x ≠ .normal/\Q r)))
  (last:∀a f,Junk f->G N a->∃r,ev P (.code c ⟨fill f 0 (T N a),Hp N a⟩)=some r/\r.x ≠ .normal/\Q r)
  {st:St} (a0:α) (g0:G 0 a0) (h0:At (T 0 a0) (Hp 0 a0) st):∃r,ev P (.code (.going nx c) st)=some r/\Q r:=by
 refine qbq (fun k st=>∃a,G k a/\At (T k a) (Hp k a) st) N Q ⟨a0,g0,h0⟩ ?_ ?_
 .rintro k st hk ⟨a,g,h⟩
  obtain⟨f,hf,rfl⟩:=h.eq
  exact step k a f hf hk g
 .rintro st ⟨a,g,h⟩
  obtain⟨f,hf,rfl⟩:=h.eq
  exact last a f hf g
theorem qcd{P:Prg}{nx:Nat}{c:C}(N:Nat)(T:Nat->Tm)(Hp:Nat->H)(Q:R->Prop)
  (step:∀k f,Junk f->k<N->∃r,ev P (.code c ⟨fill f 0 (T k),Hp k⟩)=some r/\((r.x=.normal/\At (T (k+1)) (Hp (k+1)) (qkh nx r.st))\/(r.x ≠ .normal/\Q r)))
  (last:∀f,Junk f->∃r,ev P (.code c ⟨fill f 0 (T N),Hp N⟩)=some r/\r.x ≠ .normal/\Q r)
  {st:St} (h0:At (T 0) (Hp 0) st):∃r,ev P (.code (.going nx c) st)=some r/\Q r :=
 qbn (α:=Unit) N (fun k _=>T k) (fun k _=>Hp k) (fun _ _=>True) Q
  (fun k _ f hf hk _=>by
   obtain⟨r,e,h⟩:=step k f hf hk
   refine⟨r,e,?_⟩
   rcases h with⟨hx,h⟩ | h
   .exact .inl ⟨hx,(),trivial,h⟩
   .exact .inr h)
  (fun _ f hf _=>last f hf) () trivial h0
def qkt(N:Nat)(p:Nat->Bool)(X:Nat->R->Prop)(Y:R->Prop)(r:R):Prop:=(∃k,k<N/\p k=true/\(∀j,j<k->p j=false)/\X k r)\/((∀j,j<N->p j=false)/\Y r)
theorem qcw{P:Prg}{nx:Nat}{c:C}(N:Nat)(p:Nat->Bool)(T:Nat->Tm)(h:H)(X:Nat->R->Prop)(Y:R->Prop)
  (go:∀k f,Junk f->k<N->p k=false->∃st,ev P (.code c ⟨fill f 0 (T k),h⟩)=some { st:=st }/\At (T (k+1)) h (qkh nx st))
  (hit:∀k f,Junk f->k<N->p k=true->∃r,ev P (.code c ⟨fill f 0 (T k),h⟩)=some r/\r.x ≠ .normal/\X k r)
  (last:∀f,Junk f->∃r,ev P (.code c ⟨fill f 0 (T N),h⟩)=some r/\r.x ≠ .normal/\Y r)
  {st:St} (h0:At (T 0) h st):∃r,ev P (.code (.going nx c) st)=some r/\qkt N p X Y r:=by
 refine qbn (α:=Unit) N (fun k _=>T k) (fun _ _=>h) (fun k _=>∀j,j<k->p j=false) _ ?_ ?_ () (fun j hj=>absurd hj (Nat.not_lt_zero j)) h0
 .intro k _ f hf hk hp
  cases hb:p k with
  | false =>
   obtain⟨st,e,ha⟩:=go k f hf hk hb
   refine⟨_,e,.inl ⟨rfl,(),fun j hj=>?_,ha⟩⟩
   by_cases hjk:j=k
   .rw[hjk];exact hb
   .exact hp j (by omega)
  | true =>
   obtain⟨r,e,hx,hX⟩:=hit k f hf hk hb
   exact⟨r,e,.inr ⟨hx,.inl ⟨k,hk,hb,hp,hX⟩⟩⟩
 .intro _ f hf hp
  obtain⟨r,e,hx,hY⟩:=last f hf
  exact⟨r,e,hx,.inr ⟨hp,hY⟩⟩
def qag(x:X)(T:Tm)(h:H)(r:R):Prop:=∃f,Junk f/\r={ x:=x,st:=⟨fill f 0 T,h⟩ }
@[simp] theorem z2y{x x':X}{T:Tm}{h:H}{st:St}:qag x T h { x:=x',v:=.undef,st:=st }<->x'=x/\At T h st:=by
 constructor
 .rintro⟨f,hf,e⟩
  injection e with e1 _ e3
  subst e3
  refine⟨e1,?_,rfl⟩
  have:∀(t:Tm) (n:Nat),fits t (fill f n t):=by
   intro t
   induction t with
   | nil=>intro n;trivial
   | cons o t ih =>
    intro n
    cases o with
    | none=>exact⟨hf n,ih (n+1)⟩
    | some v=>exact⟨rfl,ih (n+1)⟩
  exact this T 0
 .rintro⟨rfl,h⟩
  obtain⟨f,hf,rfl⟩:=h.eq
  exact⟨f,hf,rfl⟩
theorem zwu{T:Tm}{h h':H}{s:List V}:At T h ⟨s,h'⟩<->fits T s/\h'=h:=⟨fun a=>⟨a.s,a.h⟩,fun a=>⟨a.1,a.2⟩⟩
attribute [simp] fill fits zwu
@[simp] theorem Junk.ne{f:Nat->V}(hf:Junk f)(i:Nat):(f i=.nils)=False:=by simp[hf i]
end Go.Am
