/- Controls: numbers. -/
import Derived.Test.YtggbaapfbgjaeaaGreatDoorFCt9
set_option linter.all false
namespace Go.Proofs.YtggbaapfbgjaeaaGreatDoor
open Go Go.Am Go.Proofs
set_option maxRecDepth 100000
def qsy(c:Ct)(F i:Nat)(n:Int):Bool:=decide ((i:Int)<=n-F)&&((c.signals[(n-F).toNat]?).map fun x=>decide (x.kind=0)).getD false
abbrev gT(x:Sg)(i:Nat)(b:Bool)(r:H):H:=⟨0,.arr 0 []⟩ :: ⟨0,.arr 0 []⟩ :: ⟨0,.box x.row⟩ :: ⟨0,.box [.bptr 3 0]⟩ :: ⟨0,.box [num i]⟩ :: ⟨0,.arr 0 []⟩ :: ⟨0,.arr 0 []⟩ :: ⟨0,.box x.row⟩ :: ⟨0,.box [.bool b]⟩ :: r
abbrev eT(x:Sg):H:=[⟨0,.box x.on.cells⟩,⟨0,.box [.fn 160 [] [.bptr 7 0,.bptr 12 0,.bptr 8 0]]⟩,⟨0,.box [.fn 198 [] [.bptr 14 0,.bptr 15 0]]⟩]
abbrev gB(c:Ct)(l:List (Txt×Int))(x:Sg)(i:Nat)(b:Bool):H:=hX c l (gT x i b (eT x))
theorem ev160{c:Ct}{A:Nat}(h:Mid c A)(l:List (Txt×Int))(x:Sg)(i:Nat)(b:Bool)(n:Int)(r:H)(hn:0<=n/\n<(qad c A:Nat))(hr:∀b,calm (gB c l x i b++r)):ev pg (.call (.fn 160 [] [.bptr 7 0,.bptr 12 0,.bptr 8 0]) [num n] (gB c l x i b++r))=some { v:=.tup [],st:=⟨[],gB c l x i (b||qsy c (qal c A) i n)++r⟩ }:=by
 have hf:=ev161 h;obtain⟨hA,h1,h2,h3,h4⟩:=h;obtain⟨n,rfl⟩:∃k:Nat,n=k:=⟨n.toNat,by omega⟩
 have hnc:n<2*A+c.inputs.length+c.signals.length:=by have:=hn.2;unfold qad at this;omega
 have hck:∀b,qde (16+r.length) (gB c l x i b++r)=gB c l x i b++r:=fun b=>by have:=qfu (hr b);rw[show(gB c l x i b++r:H).length=16+r.length by simp;omega]at this;exact this
 have hlen:r.length+1+1+1+1+1+1+1+1+1+1+1+1+1+1+1+1=16+r.length:=by omega
 have w1:=qam (n:=(n:Int)-(2*(A:Int)+(c.inputs.length:Int))) (by omega) (by omega);have hl16:(gB c l x i b++r:H).length=16+r.length:=by simp;omega
 rw[qaa,pg160.1];have hlen:r.length+1+1+1+1+1+1+1+1+1+1+1+1+1+1+1+1=16+r.length:=by omega
 cases b with
 | true =>have hck:=hck true;simp only[Bool.true_or];simp[-qde,ir160,hf,w1,hlen];exact hck
 | false =>
  by_cases hge:(i:Int)<=(n:Int)-(2*(A:Int)+(c.inputs.length:Int))
  .obtain⟨k,hk⟩:∃k:Nat,(n:Int)-(2*(A:Int)+(c.inputs.length:Int))=k:=⟨((n:Int)-(2*(A:Int)+(c.inputs.length:Int))).toNat,by omega⟩
   have hkl:k<c.signals.length:=by omega
   have hik:(i:Int)<=(k:Int):=by omega
   have hL:qsy c (qal c A) i n=(c.signals[k].kind==0):=by unfold qsy;rw[show(n:Int)-((qal c A:Nat):Int)=k by unfold qal;omega];simp only[Int.toNat_natCast,jA hkl,decide_eq_true hik];rfl
   rw[hL,Bool.false_or];rw[hk]at w1;have hck:=hck (c.signals[k].kind==0);simp[-qde,ir160,hf,hk,w1,hlen,hik,hkl];exact hck
  .have hL:qsy c (qal c A) i n=false:=by
    unfold qsy;rw[decide_eq_false (by unfold qal;push_cast;omega),Bool.false_and]
   rw[hL];have hck:=hck false;simp[-qde,ir160,hf,w1,hlen,hge];exact hck
theorem zrw(c:Ct)(l:List (Txt×Int))(x:Sg)(i:Nat)(b:Bool):calm (gB c l x i b):=by simp[calm,qbx]
theorem ev159{c:Ct}{A:Nat}(h:Mid c A)(l:List (Txt×Int))(x:Sg)(i:Nat)(hx:x.on.nodes<=256)(hv:x.on.err (qad c A:Nat)=0):ev pg (.call (fnq 159) [x.on.v,.fn 160 [] [.bptr 7 0,.bptr 12 0,.bptr 8 0]] (hX c l (gT x i false [])))=some { v:=.tup [],st:=⟨[],hX c l (gT x i (x.on.anyV (qsy c (qal c A) i)) [])⟩ }:=by
 have hY:Eac 14 (qad c A:Nat) (qsy c (qal c A) i) [.bptr 7 0,.bptr 12 0,.bptr 8 0] (gB c l x i):=⟨fun b=>rfl,fun b=>rfl,fun b=>rfl,fun b n r hn hr=>ev160 h l x i b n r hn hr,rfl⟩
 have h186:=ev198 hY x.on false [] hx hv (fun b=>by rw[List.append_nil];exact zrw c l x i b);rw[List.append_nil,List.append_nil,Bool.false_or]at h186;generalize x.on.anyV (qsy c (qal c A) i)=B at *;rw[qaa,pg159.1];simp[ir159,h186]
abbrev s3(x:Sg):H:=[⟨0,.arr 0 []⟩,⟨0,.arr 0 []⟩,⟨0,.box x.row⟩]
theorem zga(c:Ct)(l:List (Txt×Int))(x:Sg):calm (hX c l (s3 x)):=by simp[calm,qbx]
def zht(c:Ct)(F i:Nat)(x:Sg):Int:=if x.on.anyV (qsy c F i)=true then 9 else if x.off.zero=false\/x.init=true\/x.delay≠0 then 3 else 0
theorem ev120{c:Ct}{A:Nat}(h:Mid c A)(l:List (Txt×Int))(i:Nat)(hi:i<c.signals.length)(hx:c.signals[i].on.nodes<=256)(hv:c.signals[i].on.err (qad c A:Nat)=0):ev pg (.call (.fn 120 [.bptr 3 0] []) [num i] (hX c l (s3 c.signals[i])))=some { v:=num (zht c (qal c A) i c.signals[i]),st:=⟨[],hX c l (s3 c.signals[i])⟩ }:=by
 have h153:=ev159 h l c.signals[i] i hx hv;have hz:=ev162 c.signals[i].off;have hck:qde 7 (hX c l (s3 c.signals[i]))=hX c l (s3 c.signals[i]):=qfu (zga c l c.signals[i]);unfold zht;generalize hG:hX c l (s3 c.signals[i])=G at *;rw[<-hG];generalize c.signals[i].on.anyV (qsy c (qal c A) i)=B at *;generalize c.signals[i].off.zero=ze at *;rw[qaa,pg120.1];cases B with
 | true =>simp[ir120,hi,h153]
 | false =>
  cases ze with
  | false =>simp[ir120,hi,h153,hz]
  | true =>
   cases hin:c.signals[i].init with
   | true =>simp[ir120,hi,h153,hz];simp[hin]
   | false =>
    by_cases hd:c.signals[i].delay=0
    .simp[ir120,hi,h153,hz];simp[hin,hd]
    .simp[ir120,hi,h153,hz];simp[hin,hd]
def zzl(c:Ct)(A:Nat)(x:Sg):Int:=if x.off.check (qad c A)=0 then(if x.delay=0 then 0 else 3)else x.off.check (qad c A)
theorem ev121{c:Ct}{A:Nat}(h:Mid c A)(l:List (Txt×Int))(i:Nat)(hi:i<c.signals.length)(hx:c.signals[i].off.light=true):ev pg (.call (.fn 121 [.bptr 3 0] []) [num i] (hX c l (s3 c.signals[i])))=some { v:=num (zzl c A c.signals[i]),st:=⟨[],hX c l (s3 c.signals[i])⟩ }:=by
 have h133:=ev128 h;have h157:=ev163 c.signals[i].off (qad c A:Nat) hx;rw[qaa,pg121.1];unfold zzl;generalize c.signals[i].off.check (qad c A)=e at *;simp at h157;by_cases he:e=0
 .by_cases hd:c.signals[i].delay=0
  .simp[ir121,qab,exT,qag,hi,h133,h157,he,hd]
  .simp[ir121,qab,exT,qag,hi,h133,h157,he,hd]
 .simp[ir121,qab,exT,qag,hi,h133,h157,he]
def z0b(x:Sg):Int:=if x.delay<1\/1000000<x.delay then 2 else if x.off.zero=false\/x.init=true then 3 else 0
theorem ev122(c:Ct)(l:List (Txt×Int))(i:Nat)(hi:i<c.signals.length):ev pg (.call (.fn 122 [.bptr 3 0] []) [num i] (hX c l (s3 c.signals[i])))=some { v:=num (z0b c.signals[i]),st:=⟨[],hX c l (s3 c.signals[i])⟩ }:=by
 have hz:=ev162 c.signals[i].off;unfold z0b;generalize c.signals[i].off.zero=ze at *;rw[qaa,pg122.1];by_cases d1:c.signals[i].delay<1
 .simp[ir122,hi,d1]
 .by_cases d2:1000000<c.signals[i].delay
  .simp[ir122,hi,d1,d2]
  .cases ze with
   | false=>simp[ir122,hi,hz,d1,d2]
   | true =>
    cases hin:c.signals[i].init with
    | true =>simp[ir122,hi,hz,d1,d2];simp[hin]
    | false =>simp[ir122,hi,hz,d1,d2];simp[hin]
def zpa(c:Ct)(A:Nat)(K:List Txt)(i:Nat)(x:Sg):Int :=
 if qes K x.name=0 then
  if x.kind<0\/3<=x.kind then 1
  else if x.on.check (qad c A)=0 then(if x.kind=0 then zht c (qal c A) i x else if x.kind=1 then zzl c A x else z0b x)
  else x.on.check (qad c A)
 else qes K x.name
theorem qqw{x:Ex}{n:Int}(h:x.check n=0):x.err n=0:=by
 unfold Ex.check at h;split at h
 .cases h
 .split at h
  .exact h
  .cases h
theorem ev125{c:Ct}{A:Nat}(h:Mid c A)(l:List (Txt×Int))(i:Nat)(hi:i<c.signals.length)(hon:c.signals[i].on.light=true)(hoff:c.signals[i].off.light=true):∃l',ev pg (.call (fnq 125) [.bptr 3 0,num i] (hX c l []))=some { v:=num (zpa c A (l.map Prod.fst) i c.signals[i]),st:=⟨[],hX c l' []⟩ }/\((qes (l.map Prod.fst) c.signals[i].name=0/\∀q,q∈l'.map Prod.fst<->(q∈l.map Prod.fst\/q=c.signals[i].name))\/(qes (l.map Prod.fst) c.signals[i].name≠0/\l'=l)):=by
 obtain⟨l',h128,hl'⟩:=ev124 c l (s3 c.signals[i]) (fun l=>zga c l c.signals[i]) c.signals[i].name;refine⟨l',?_,hl'⟩;have h133:=ev128 h;have h157:=ev163 c.signals[i].on (qad c A:Nat) hon;have h124:=fun hv=>ev120 h l' i hi (qdq hon).1 (qqw (n:=(qad c A:Nat)) hv);have zhy:=ev121 h l' i hi hoff;have q5c:=ev122 c l' i hi;unfold zpa;generalize qes (l.map Prod.fst) c.signals[i].name=ne at *;generalize c.signals[i].on.check (qad c A:Nat)=oe at *;generalize zht c (qal c A) i c.signals[i]=ge at *;generalize zzl c A c.signals[i]=me at *;generalize z0b c.signals[i]=te at *;clear hl';simp at h157;rw[qaa,pg125.1];by_cases e1:ne=0
 .rw[if_pos e1];by_cases e2:c.signals[i].kind<0
  .rw[if_pos (.inl e2)];simp[ir125,hi,h128,e1,e2]
  by_cases e3:3<=c.signals[i].kind
  .rw[if_pos (.inr e3)];simp[ir125,hi,h128,e1,e2,e3]
  rw[if_neg (by omega)];by_cases e4:oe=0
  .rw[if_pos e4];have h124:=h124 e4;have hk0:0<=c.signals[i].kind:=by omega
   rcases (by omega:c.signals[i].kind=0\/c.signals[i].kind=1\/c.signals[i].kind=2)with k0 | k0 | k0
   .have hkn:c.signals[i].kind.toNat=0:=by omega
    rw[if_pos k0];simp[qab,exT,qag,ir125,hi,h128,h133,h157,h124,e1,e2,e3,e4,hk0,hkn]
   .have hkn:c.signals[i].kind.toNat=1:=by omega
    rw[if_neg (by omega),if_pos k0];simp[qab,exT,qag,ir125,hi,h128,h133,h157,zhy,e1,e2,e3,e4,hk0,hkn]
   .have hkn:c.signals[i].kind.toNat=2:=by omega
    rw[if_neg (by omega),if_neg (by omega)];simp[qab,exT,qag,ir125,hi,h128,h133,h157,q5c,e1,e2,e3,e4,hk0,hkn]
  .rw[if_neg e4];simp[qab,exT,qag,ir125,hi,h128,h133,h157,e1,e2,e3,e4]
 .rw[if_neg e1];simp[ir125,hi,h128,e1]
theorem zfl{f:Int->Bool}{l:List Ex}(ih:∀y∈l,y.anyV f=true<->∃v,y.anyV (· == v)=true/\f v=true):qkb f l=true<->∃v,qkb (· == v) l=true/\f v=true:=by
 induction l with
 | nil=>simp[qkb]
 | cons y l ihl =>
  have h1:=ih y (by simp);have h2:=ihl fun z hz=>ih z (by simp[hz]);simp only[qkb,Bool.or_eq_true];rw[h1,h2];constructor
  .rintro(⟨v,a,b⟩ | ⟨v,a,b⟩)
   .exact⟨v,.inl a,b⟩
   .exact⟨v,.inr a,b⟩
  .rintro⟨v,a | a,b⟩
   .exact .inl ⟨v,a,b⟩
   .exact .inr ⟨v,a,b⟩
theorem zlv(f:Int->Bool):∀x:Ex,x.anyV f=true<->∃v,x.anyV (· == v)=true/\f v=true:=by
 refine Ex.ind fun x ih=>?_;have h:=zfl ih;simp only[q7k,Bool.or_eq_true,jE,jW,beq_iff_eq];rw[h];constructor
 .rintro(⟨a,b⟩ | ⟨v,a,b⟩)
  .exact⟨x.idx,.inl ⟨a,rfl⟩,b⟩
  .exact⟨v,.inr a,b⟩
 .rintro⟨v,⟨a,rfl⟩ | a,b⟩
  .exact .inl ⟨a,b⟩
  .exact .inr ⟨v,a,b⟩
theorem zoj{v:Int}{l:List Ex}(ih:∀y∈l,y.occ v=y.anyV (· == v)):q2u v l=qkb (· == v) l:=by
 induction l with
 | nil=>rfl
 | cons y l ihl=>rw[q2u,qkb,ih y (by simp),ihl fun z hz=>ih z (by simp[hz])]
theorem q2t{o i n:Int}{k:Nat}(h:qbq o i k n=0)(ho:o=1):k=0:=by
 subst ho;by_cases hk:k=0
 .exact hk
 .have e:qbq 1 i k n=3:=by simp[qbq,hk]
  omega
theorem zjm(v n:Int):∀x:Ex,x.err n=0->x.occ v=x.anyV (· == v):=by
 refine Ex.ind fun x ih hx=>?_;obtain⟨h1,h2⟩:=qhk hx;rw[q0i,q7k];by_cases ho:x.op=1
 .have ha:x.args=[]:=List.length_eq_zero_iff.1 (q2t h1 ho);simp[ho,ha,qkb]
 .simp only[if_neg ho,decide_eq_false ho,Bool.false_and,Bool.false_or];exact zoj fun y hy=>ih y hy (h2 y hy)
theorem qsz(on:Ex)(F:Nat):∀(l:List Sg) (k:Nat),qgw on F k l=true<->∃j x,l[j]?=some x/\x.kind=0/\on.occ (F+(k+j):Nat)=true
 | [],k=>by simp[qgw]
 | y :: l,k=>by
  rw[qgw,Bool.or_eq_true,jE,jW,qsz on F l (k+1)];constructor
  .rintro(⟨a,b⟩ | ⟨j,x,a,b,d⟩)
   .exact⟨0,y,rfl,a,b⟩
   .exact⟨j+1,x,a,b,by rw[show F+(k+(j+1))=F+(k+1+j)by omega];exact d⟩
  .rintro⟨j,x,a,b,d⟩;cases j with
   | zero=>exact .inl (by obtain rfl:y=x:=(by simpa using a);exact⟨b,d⟩)
   | succ j=>exact .inr ⟨j,x,by simpa using a,b,by rw[show F+(k+1+j)=F+(k+(j+1))by omega];exact d⟩
theorem ztf(c:Ct)(A i:Nat)(on:Ex)(n:Int)(h:on.err n=0):on.anyV (qsy c (qal c A) i)=qgw on (qal c A) i (c.signals.drop i):=by
 rw[Bool.eq_iff_iff,zlv,qsz];constructor
 .rintro⟨v,hv,hf⟩;simp only[qsy,jE,jW]at hf;obtain⟨h1,h2⟩:=hf;cases hg:c.signals[(v-(qal c A:Nat)).toNat]? with
  | none=>rw[hg]at h2;cases h2
  | some x =>
   rw[hg]at h2;refine⟨(v-(qal c A:Nat)).toNat-i,x,?_,by simpa using h2,?_⟩
   .rw[List.getElem?_drop,<-hg];congr 1;omega
   .rw[zjm _ n on h,show((qal c A+(i+((v-(qal c A:Nat)).toNat-i)):Nat):Int)=v by omega];exact hv
 .rintro⟨j,x,a,b,d⟩;rw[List.getElem?_drop]at a;rw[zjm _ n on h]at d;refine⟨_,d,?_⟩;simp only[qsy,jE,jW];refine⟨by omega,?_⟩;rw[show(((qal c A+(i+j):Nat):Int)-(qal c A:Nat)).toNat=i+j by omega,a];simpa using b
theorem zvg(c:Ct)(A:Nat)(K:List Txt)(i:Nat)(x:Sg):zpa c A K i x=q8v c A K i x:=by
 unfold zpa q8v zht zzl z0b;by_cases h0:qes K x.name=0
 .rw[if_pos h0,if_pos h0];by_cases h1:x.kind<0\/3<=x.kind
  .rw[if_pos h1,if_pos h1]
  .rw[if_neg h1,if_neg h1];by_cases h2:x.on.check (qad c A)=0
   .rw[if_pos h2,if_pos h2,ztf c A i x.on _ (qqw h2)];generalize qgw x.on (qal c A) i (c.signals.drop i)=L;generalize x.off.check (qad c A)=e;rcases (by omega:x.kind=0\/x.kind=1\/x.kind=2)with k | k | k
    .simp[k,or_assoc]
    .simp[k]
    .simp[k]
   .rw[if_neg h2,if_neg h2]
 .rw[if_neg h0,if_neg h0]
theorem ev167(n:Nat)(hn:0<n)(hn2:n<=80):ev pg (.call (fnq 167) [.nils,num n] [⟨0,.arr 0 []⟩])=some { v:=.sl 1 0 1 0 0,st:=⟨[],[⟨0,.arr 0 []⟩,⟨0,.arr 1 []⟩]⟩ }:=by
 have w1:=qam (n:=(n:Int)) (by omega) (by omega);have p1:¬((n:Int)<0):=by omega
 have w0:=qam (n:=0) (by omega) (by omega);have p3:n*8<=140737488355328:=by omega
 rw[qaa,pg167.1];simp[ir167,w0,w1,p1,hn,p3,qch,qel,qdz];omega
theorem ev126(a b:List Int)(ha:a.length<=40)(hb:b.length<=40)(hp:0<a.length):ev pg (.call (fnq 126) [.imm [[qcr a],[qcr b]]] [])=some { v:=.sl 0 0 1 0 (a.length+b.length),st:=⟨[],[⟨0,.arr 1 ((a++b).map qbk)⟩]⟩ }:=by
 have h161:=ev167 (a.length+b.length) (by omega) (by omega);have w1:=qam (n:=(a.length:Int)) (by omega) (by omega);have w2:=qam (n:=(a.length:Int)+(b.length:Int)) (by omega) (by omega);have p1:¬((a.length:Int)<0):=by omega
 have p2:¬((a.length:Int)+(b.length:Int)<0):=by omega
 have i1:=qam (n:=1) (by omega) (by omega);have i2:=qam (n:=2) (by omega) (by omega);have q1:a.length*8<=140737488355328:=by omega
 have q2:(a.length+b.length)*8<=140737488355328:=by omega
 have hf:((a.length:Int)+(b.length:Int))=((a.length+b.length:Nat):Int):=by omega
 simp at h161;rw[qaa,pg126.1];simp[ir126,qai];rw[qdy];simp[L126_0,w1,p1,i1];rw[qdy];simp[w2,p2,i2];rw[qdy];simp[h161];rw[qdy];simp[L126_1,q1,i1];rw[qdy];simp[i2,q2];rw[qdy];simp[qch,qel,qdz]
def I87(v:V)(h:H)(l:List Int)(p:Int->Bool)(k:Nat)(st:St):Prop:=st.h=h/\st.s.length=19/\qah st.s 0=qcr l/\qah st.s 1=v/\qah st.s 7=num l.length/\qah st.s 8=num k/\l.any p=(l.drop k).any p
def Q87(h:H)(l:List Int)(p:Int->Bool)(r:R):Prop:=r.st.s.length=19/\((r.x=.exit 0/\r.st.h=h/\l.any p=false)\/(r.x=.ret/\r.st.h=h/\(∃k:Nat,qah r.st.s 4=num k)/\l.any p=true))
theorem zzb{f:Nat}{caps:List V}{h:H}{l:List Int}{p:Int->Bool}(hl80:l.length<=4096)(hlow:qeq 0 caps=false)(hcap:qeq h.length caps=true)(hc:∀n:Int,ev pg (.call (.fn f [] caps) [num n] h)=some { v:=.bool (p n),st:=⟨[],h⟩ })(hcl:calm h)(n:Nat)(hn:n=h.length)(st:St)(h0:I87 (.fn f [] caps) h l p 0 st):∃r,ev pg (.code (.going n L64_0) st)=some r/\Q87 h l p r:=by
 have hcut:=qqv hcl;rw[<-hn]at hcut hcap;refine qat (I87 (.fn f [] caps) h l p) l.length (Q87 h l p) h0 ?_ ?_
 .rintro k ⟨s,hh⟩ hk ⟨rfl,hl,e0,e1,e7,e8,he⟩;simp only at hl e0 e1 e7 e8;have hk':(k:Int)<l.length:=by omega
  have wk:=qbc k;have hcn:=hc l[k];rw[zfm hk]at he;generalize p l[k]=b at *;rw[qac hl];cases b with
  | true =>simp[-qgk,L64_0,Q87,List.range,List.range.loop,e0,e1,e7,e8,hk,hk',hlow,hcn];exact⟨⟨k,rfl⟩,by simpa using he⟩
  | false =>simp[-qgk,L64_0,I87,List.range,List.range.loop,e0,e1,e7,e8,hk,hk',hlow,hcn,hcut,hcap,wk];simpa using he
 .rintro⟨s,hh⟩ ⟨rfl,hl,e0,e1,e7,e8,he⟩;simp only[List.drop_length]at hl e0 e1 e7 e8 he;have he':l.any p=false:=he;rw[qac hl];simp[L64_0,Q87,List.range,List.range.loop,e0,e1,e7,e8];simpa using he'
theorem ev29{f:Nat}{caps:List V}{h:H}{l:List Int}{p:Int->Bool}(hl80:l.length<=4096)(hlow:qeq 0 caps=false)(hcap:qeq h.length caps=true)(hc:∀n:Int,ev pg (.call (.fn f [] caps) [num n] h)=some { v:=.bool (p n),st:=⟨[],h⟩ })(hcl:calm h):ev pg (.call (fnq 29) [qcr l,.fn f [] caps] h)=some { v:=.bool (l.any p),st:=⟨[],h⟩ }:=by
 have hloop:=zzb hl80 hlow hcap hc hcl;have hck:=qfu hcl;have h87:∃r:Int,ev pg (.call (fnq 64) [qcr l,.fn f [] caps] h)=some { v:=num r,st:=⟨[],h⟩ }/\decide (0<=r)=l.any p:=by
  unfold Q87 at hloop;have hI:∀st:St,I87 (.fn f [] caps) h l p 0 st<->(st.h=h/\st.s.length=19/\qah st.s 0=qcr l/\qah st.s 1=.fn f [] caps/\qah st.s 7=num l.length/\qah st.s 8=num 0):=fun st=>by unfold I87;exact⟨fun h=>⟨h.1,h.2.1,h.2.2.1,h.2.2.2.1,h.2.2.2.2.1,h.2.2.2.2.2.1⟩,fun h=>⟨h.1,h.2.1,h.2.2.1,h.2.2.2.1,h.2.2.2.2.1,h.2.2.2.2.2,rfl⟩⟩
  generalize l.any p=B at *;rw[qaa,pg64.1];simp[-qde,ir64,qai];generalize hr:ev pg (.code (.going _ L64_0) _)=o;obtain⟨r,rfl,hl,hQ⟩:∃r,o=some r/\_:=by rw[<-hr];exact hloop _ rfl _ ((hI _).2 ⟨by simp,by simp,by simp,by simp,by simp,by simp⟩)
  rcases hQ with⟨hx,hh,rfl⟩ | ⟨hx,hh,⟨k,h4⟩,rfl⟩
  .simp[-qde,hx,hh,hl,hck]
  .simp[-qde,hx,hh,h4,hck]
 obtain⟨r,h87,hr⟩:=h87;rw[qaa,pg29.1,<-hr];simp[-qde,ir29,h87,hck]
theorem ev127{c:Ct}{A:Nat}(hM:Mid c A){h:H}{i:Nat}(hi:h[i]?=some ⟨0,.box c.cells⟩)(hcl:calm h)(n:Int):ev pg (.call (.fn 127 [] [.bptr i 0]) [num n] h)=some { v:=.bool (qfz (qad c A:Nat) n),st:=⟨[],h⟩ }:=by
 have hck:=qfu hcl;have h133:=ev128 hM;rw[qaa,pg127.1];unfold qfz;generalize qad c A=N at *;by_cases h1:n<0
 .simp[-qde,ir127,h1,hck]
 .simp[-qde,ir127,h1,hi,h133,hck]
end Go.Proofs.YtggbaapfbgjaeaaGreatDoor
