/- Controls: errors. -/
import Derived.Test.YtggbaapfbgjaeaaGreatDoorFCt6
set_option linter.all false
namespace Go.Proofs.YtggbaapfbgjaeaaGreatDoor
open Go Go.Am Go.Proofs
set_option maxRecDepth 100000
mutual
def Ex.occ(v:Int):Ex->Bool
 | .mk o i l=>if o=1 then i==v else q2u v l
def q2u(v:Int):List Ex->Bool
 | []=>false
 | x :: l=>x.occ v||q2u v l
end
theorem q0i(v:Int)(x:Ex):x.occ v=if x.op=1 then x.idx==v else q2u v x.args:=by cases x;rw[Ex.occ];rfl
theorem zuq{v:Int}{l:List Ex}{k:Nat}(hk:k<l.length):q2u v (l.drop k)=(l[k].occ v||q2u v (l.drop (k+1))):=by rw[jL hk,q2u]
def z2b(x:Ex)(v:Int)(k:Nat)(st:St):Prop:=st.h=[⟨0,.box x.cells⟩]/\st.s.length=27/\qah st.s 1=num v/\qah st.s 2=.bptr 0 0/\qah st.s 5=num k/\q2u v x.args=q2u v (x.args.drop k)
def zxb(x:Ex)(v:Int)(r:R):Prop:=r.st.s.length=27/\((r.x=.exit 0/\q2u v x.args=false)\/(r.x=.ret/\qah r.st.s 4=.bool true/\q2u v x.args=true))
theorem ztn(x:Ex)(v:Int)(hx:x.nodes<=256)(ih:∀y∈x.args,y.nodes<=256->ev pg (.call (fnq 195) [y.v,num v] [])=some (rvq (.bool (y.occ v))))(st:St)(h0:z2b x v 0 st):∃r,ev pg (.code (.going 1 L195_0) st)=some r/\zxb x v r:=by
 have hfew:=qfk hx;refine qat (z2b x v) x.args.length (zxb x v) h0 ?_ ?_
 .rintro k ⟨s,h⟩ hk ⟨rfl,hl,e1,e2,e5,he⟩;simp only at hl e1 e2 e5;have hk':(k:Int)<x.args.length:=by omega
  have wk:=qbc k;have hmem:=jH hk;have hc:=ih x.args[k] hmem (qey hx hmem);rw[zuq hk]at he;rw[qac hl];cases hd:x.args[k].occ v with
  | true =>rw[hd,Bool.true_or]at he;rw[hd]at hc;simp[L195_0,zxb,List.range,List.range.loop,e1,e2,e5,hk,hk',hc,he]
  | false =>rw[hd,Bool.false_or]at he;rw[hd]at hc;simp[L195_0,z2b,List.range,List.range.loop,e1,e2,e5,hk,hk',hc,wk,he]
 .rintro⟨s,h⟩ ⟨rfl,hl,e1,e2,e5,he⟩;simp only[List.drop_length]at hl e1 e2 e5 he;rw[qac hl];simp[L195_0,zxb,List.range,List.range.loop,e1,e2,e5,he,q2u]
theorem ev195(v:Int):∀x:Ex,x.nodes<=256->ev pg (.call (fnq 195) [x.v,num v] [])=some (rvq (.bool (x.occ v))):=by
 refine Ex.ind fun x ih hx=>?_;rw[qaa,pg195.1,q0i];by_cases h:x.op=1
 .have hb:(x.op==1)=true:=by simpa using h
  simp[ir195,h]
 .have hb:(x.op==1)=false:=by simpa using h
  simp[ir195,hb,h,qai];generalize hr:ev pg (.code (.going 1 L195_0) _)=o;obtain⟨r,rfl,hl,hQ⟩:∃r,o=some r/\zxb x v r:=by rw[<-hr];exact ztn x v hx ih _ ⟨by simp,by simp,by simp,by simp,by simp,rfl⟩
  rcases hQ with⟨hx,hE⟩ | ⟨hx,h4,hE⟩
  .simp[hx,hl,hE]
  .simp[hx,h4,hE]
def Ex.zero(x:Ex):Bool:=decide (x.op=0)&&decide (x.idx=0)&&decide (x.args.length=0)
theorem ev145(x:Ex):ev pg (.call (fnq 145) [x.v] [])=some (rvq (.bool x.zero)):=by
 rw[qaa,pg145.1];by_cases h1:(x.op==0)=true
 .have h1':x.op=0:=by simpa using h1
  by_cases h2:(x.idx==0)=true
  .have h2':x.idx=0:=by simpa using h2
   by_cases h3:x.args.length=0
   .have h3':((x.args.length:Int)==0)=true:=by rw[h3];rfl
    simp[ir145,Ex.zero,h1',h2',h3]
   .have h3':((x.args.length:Int)==0)=false:=by simp;simpa using h3
    simp[ir145,Ex.zero,h1,h2,h3,h3']
  .have h2':¬x.idx=0:=by simpa using h2
   have h2b:(x.idx==0)=false:=by simpa using h2
   simp[ir145,Ex.zero,h1,h2b,h2']
 .have h1':¬x.op=0:=by simpa using h1
  have h1b:(x.op==0)=false:=by simpa using h1
  simp[ir145,Ex.zero,h1b,h1']
theorem ev162(x:Ex):ev pg (.call (fnq 162) [x.v] [])=some (rvq (.bool x.zero)):=by
 rw[qaa,pg162.1];by_cases h1:(x.op==0)=true
 .have h1':x.op=0:=by simpa using h1
  by_cases h2:(x.idx==0)=true
  .have h2':x.idx=0:=by simpa using h2
   by_cases h3:x.args.length=0
   .have h3':((x.args.length:Int)==0)=true:=by rw[h3];rfl
    simp[ir162,Ex.zero,h1',h2',h3]
   .have h3':((x.args.length:Int)==0)=false:=by simp;simpa using h3
    simp[ir162,Ex.zero,h1,h2,h3,h3']
  .have h2':¬x.idx=0:=by simpa using h2
   have h2b:(x.idx==0)=false:=by simpa using h2
   simp[ir162,Ex.zero,h1,h2b,h2']
 .have h1':¬x.op=0:=by simpa using h1
  have h1b:(x.op==0)=false:=by simpa using h1
  simp[ir162,Ex.zero,h1b,h1']
def qgw(on:Ex)(F:Nat):Nat->List Sg->Bool
 | _,[]=>false
 | k,x :: l=>(decide (x.kind=0)&&on.occ (F+k:Nat))||qgw on F (k+1) l
theorem zim{on:Ex}{F:Nat}{l:List Sg}{k:Nat}(hk:k<l.length):qgw on F k (l.drop k)=((decide (l[k].kind=0)&&on.occ (F+k:Nat))||qgw on F (k+1) (l.drop (k+1))):=by rw[jL hk,qgw]
def z2c(c:Ct)(F i:Nat)(on:Ex)(j:Nat)(st:St):Prop:=st.h=[⟨0,.box c.cells⟩]/\st.s.length=34/\qah st.s 1=num i/\qah st.s 2=.bptr 0 0/\qah st.s 5=num (i+j:Nat)/\qgw on F i (c.signals.drop i)=qgw on F (i+j) (c.signals.drop (i+j))
def zxc(c:Ct)(F i:Nat)(on:Ex)(r:R):Prop:=r.st.s.length=34/\((r.x=.exit 0/\qgw on F i (c.signals.drop i)=false)\/(r.x=.ret/\qah r.st.s 4=.bool true/\qgw on F i (c.signals.drop i)=true))
theorem ztp{c:Ct}{A:Nat}(h:Mid c A)(i:Nat)(hi:i<c.signals.length)(hon:c.signals[i].on.nodes<=256)(st:St)(h0:z2c c (qal c A) i c.signals[i].on 0 st):∃r,ev pg (.code (.going 1 L144_0) st)=some r/\zxc c (qal c A) i c.signals[i].on r:=by
 have hf:=ev142 h;obtain⟨hA,h1,h2,h3,h4⟩:=h;refine qat (z2c c (qal c A) i c.signals[i].on) (c.signals.length-i) (zxc c (qal c A) i c.signals[i].on) h0 ?_ ?_
 .rintro j ⟨s,hh⟩ hj ⟨rfl,hl,e1,e2,e5,he⟩;simp only at hl e1 e2 e5;obtain⟨k,hk⟩:∃k,k=i+j:=⟨_,rfl⟩
  have hkl:k<c.signals.length:=by omega
  have hk':(k:Int)<c.signals.length:=by omega
  have wk:=qbc k;have wf:=qam (n:=2*(A:Int)+(c.inputs.length:Int)+(k:Int)) (by omega) (by omega);have ho:=ev195 (qal c A+k:Nat) c.signals[i].on hon;rw[<-hk]at e5 he;rw[zim hkl]at he;have hk1:i+(j+1)=k+1:=by omega
  generalize hoc:c.signals[i].on.occ (qal c A+k:Nat)=oc at *;rw[qac hl];unfold z2c;rw[hk1];simp at ho;by_cases hkind:c.signals[k].kind=0
  .have hkb:(c.signals[k].kind==0)=true:=by simpa using hkind
   rw[decide_eq_true hkind,Bool.true_and]at he;cases oc with
   | true =>rw[Bool.true_or]at he;simp[qab,exT,qag,L144_0,zxc,List.range,List.range.loop,e1,e2,e5,hkl,hk',hkb,hi,hf,wf,ho,he]
   | false =>rw[Bool.false_or]at he;simp[qab,exT,qag,L144_0,List.range,List.range.loop,e1,e2,e5,hkl,hk',hkb,hi,hf,wf,ho,wk,he]
  .have hkb:(c.signals[k].kind==0)=false:=by simpa using hkind
   rw[decide_eq_false hkind,Bool.false_and,Bool.false_or]at he;simp[qab,exT,qag,L144_0,List.range,List.range.loop,e1,e2,e5,hkl,hk',hkb,wk,he]
 .rintro⟨s,hh⟩ ⟨rfl,hl,e1,e2,e5,he⟩;have hk:i+(c.signals.length-i)=c.signals.length:=by omega
  rw[hk]at e5 he;simp only[List.drop_length]at hl e1 e2 e5 he;rw[qac hl];simp[L144_0,zxc,List.range,List.range.loop,e1,e2,e5,he,qgw]
theorem ev144{c:Ct}{A:Nat}(h:Mid c A)(i:Nat)(hi:i<c.signals.length)(hon:c.signals[i].on.nodes<=256):ev pg (.call (fnq 144) [c.v,num i] [])=some (rvq (.bool (qgw c.signals[i].on (qal c A) i (c.signals.drop i)))):=by
 rw[qaa,pg144.1];simp[ir144,qai];generalize hr:ev pg (.code (.going 1 L144_0) _)=o;obtain⟨r,rfl,hl,hQ⟩:∃r,o=some r/\zxc c (qal c A) i c.signals[i].on r:=by rw[<-hr];exact ztp h i hi hon _ ⟨by simp,by simp,by simp,by simp,by simp,rfl⟩
 rcases hQ with⟨hx,hE⟩ | ⟨hx,h4,hE⟩
 .simp[hx,hl,hE]
 .simp[hx,h4,hE]
def q8v(c:Ct)(A:Nat)(K:List Txt)(i:Nat)(x:Sg):Int :=
 if qes K x.name=0 then
  if x.kind<0\/3<=x.kind then 1
  else if x.on.check (qad c A)=0 then
   if x.kind=1/\x.off.check (qad c A)≠0 then x.off.check (qad c A)
   else if x.kind=0/\qgw x.on (qal c A) i (c.signals.drop i)=true then 9
   else if x.kind=2/\(x.delay<1\/1000000<x.delay)then 2
   else if(x.kind≠1/\(x.off.zero=false\/x.init=true))\/(x.kind≠2/\x.delay≠0)then 3 else 0
  else x.on.check (qad c A)
 else qes K x.name
theorem qtd(c:Ct)(A i:Nat)(hi:i<c.signals.length):qbj c A (qal c A+i)=c.signals[i].name:=by unfold qbj;rw[if_neg (by unfold qal;omega),if_neg (by unfold qal;omega)];rw[show qal c A+i-(2*A+c.inputs.length)=i by unfold qal;omega,jA hi];rfl
theorem q7m{x:Ex}{n:Int}(h:x.check n=0):x.light=true:=by
 unfold Ex.check at h;split at h
 .cases h
 .split at h
  .assumption
  .cases h
set_option maxHeartbeats 4000000 in
theorem ev95{c:Ct}{A:Nat}(h:Mid c A)(i:Nat)(hi:i<c.signals.length)(hlen:c.signals[i].name.length<2 ^ 62):ev pg (.call (fnq 95) [c.v,num i] [])=some (rvq (num (q8v c A (qaw c A (qal c A+i)) i c.signals[i]))):=by
 have hf:=ev142 h;have hc:=ev116 h;have hn:=ev94 h (qal c A+i) (by unfold qal qad;omega) (by rw[qtd c A i hi];exact hlen);rw[qtd c A i hi]at hn;have hck:=ev143 c.signals[i].on (qad c A:Nat);have hcf:=ev143 c.signals[i].off (qad c A:Nat);have hl:=ev144 h i hi;have hz:=ev145 c.signals[i].off;obtain⟨hA,h1,h2,h3,h4⟩:=h;have wf:=qam (n:=2*(A:Int)+(c.inputs.length:Int)+(i:Int)) (by omega) (by omega);unfold q8v;generalize hK:qaw c A (qal c A+i)=K at *;generalize hne:qes K c.signals[i].name=ne at *;generalize hoe:c.signals[i].on.check (qad c A:Nat)=oe at *;generalize hfe:c.signals[i].off.check (qad c A:Nat)=fe at *;generalize hle:qgw c.signals[i].on (qal c A) i (c.signals.drop i)=le at *;generalize hze:c.signals[i].off.zero=ze at *;simp at hn hck hcf;rw[qaa,pg95.1];by_cases e1:ne=0
 .rw[if_pos e1];by_cases e2:c.signals[i].kind<0
  .rw[if_pos (.inl e2)];simp[qab,exT,qag,ir95,hf,hi,wf,hn,e1,e2]
  by_cases e3:3<=c.signals[i].kind
  .rw[if_pos (.inr e3)];simp[qab,exT,qag,ir95,hf,hi,wf,hn,e1,e2,e3]
  rw[if_neg (by omega)];by_cases e4:oe=0
  .rw[if_pos e4];have hl:=hl (qdq (q7m (by rw[hoe];exact e4))).1;rcases (by omega:c.signals[i].kind=0\/c.signals[i].kind=1\/c.signals[i].kind=2)with k0 | k0 | k0
   .have b0:(c.signals[i].kind==0)=true:=by simpa using k0
    have b1:(c.signals[i].kind==1)=false:=by simp[k0]
    have b2:(c.signals[i].kind==2)=false:=by simp[k0]
    rw[if_neg (by omega)];cases le with
    | true =>rw[if_pos ⟨k0,rfl⟩];simp[qab,exT,qag,ir95,hf,hc,hi,wf,hn,hck,hl,e1,e2,e3,e4,b0,b1,b2]
    | false =>
     rw[if_neg (by simp),if_neg (by omega)];cases ze with
     | false =>rw[if_pos (.inl ⟨by omega,.inl rfl⟩)];simp[qab,exT,qag,ir95,hf,hc,hi,wf,hn,hck,hl,hz,e1,e2,e3,e4,b0,b1,b2]
     | true =>
      cases hin:c.signals[i].init with
      | true =>rw[if_pos (.inl ⟨by omega,.inr rfl⟩)];simp[qab,exT,qag,ir95,hf,hc,hi,wf,hn,hck,hl,hz,hin,e1,e2,e3,e4,b0,b1,b2]
      | false =>
       by_cases e5:c.signals[i].delay=0
       .rw[if_neg (by simp[e5])];simp[qab,exT,qag,ir95,hf,hc,hi,wf,hn,hck,hl,hz,hin,e1,e2,e3,e4,b0,b1,b2,e5]
       .rw[if_pos (.inr ⟨by omega,e5⟩)];simp[qab,exT,qag,ir95,hf,hc,hi,wf,hn,hck,hl,hz,hin,e1,e2,e3,e4,b0,b1,b2,e5]
   .have b0:(c.signals[i].kind==0)=false:=by simp[k0]
    have b1:(c.signals[i].kind==1)=true:=by simpa using k0
    have b2:(c.signals[i].kind==2)=false:=by simp[k0]
    by_cases e6:fe=0
    .rw[if_neg (by omega),if_neg (by omega),if_neg (by omega)];by_cases e5:c.signals[i].delay=0
     .rw[if_neg (by simp[e5,k0])];simp[qab,exT,qag,ir95,hf,hc,hi,wf,hn,hck,hcf,e1,e2,e3,e4,b0,b1,b2,e5,e6]
     .rw[if_pos (.inr ⟨by omega,e5⟩)];simp[qab,exT,qag,ir95,hf,hc,hi,wf,hn,hck,hcf,e1,e2,e3,e4,b0,b1,b2,e5,e6]
    .rw[if_pos ⟨k0,e6⟩];simp[qab,exT,qag,ir95,hf,hc,hi,wf,hn,hck,hcf,e1,e2,e3,e4,b1,b2,e6]
   .have b0:(c.signals[i].kind==0)=false:=by simp[k0]
    have b1:(c.signals[i].kind==1)=false:=by simp[k0]
    have b2:(c.signals[i].kind==2)=true:=by simpa using k0
    rw[if_neg (by omega),if_neg (by omega)];by_cases e7:c.signals[i].delay<1
    .rw[if_pos ⟨k0,.inl e7⟩];simp[qab,exT,qag,ir95,hf,hc,hi,wf,hn,hck,e1,e2,e3,e4,b0,b1,b2,e7]
    by_cases e8:1000000<c.signals[i].delay
    .rw[if_pos ⟨k0,.inr e8⟩];simp[qab,exT,qag,ir95,hf,hc,hi,wf,hn,hck,e1,e2,e3,e4,b0,b1,b2,e7,e8]
    rw[if_neg (by omega)];cases ze with
    | false =>rw[if_pos (.inl ⟨by omega,.inl rfl⟩)];simp[qab,exT,qag,ir95,hf,hc,hi,wf,hn,hck,hz,e1,e2,e3,e4,b0,b1,b2,e7,e8]
    | true =>
     cases hin:c.signals[i].init with
     | true =>rw[if_pos (.inl ⟨by omega,.inr rfl⟩)];simp[qab,exT,qag,ir95,hf,hc,hi,wf,hn,hck,hz,hin,e1,e2,e3,e4,b0,b1,b2,e7,e8]
     | false =>rw[if_neg (by simp[k0])];simp[qab,exT,qag,ir95,hf,hc,hi,wf,hn,hck,hz,hin,e1,e2,e3,e4,b0,b1,b2,e7,e8]
  .rw[if_neg e4];simp[qab,exT,qag,ir95,hf,hc,hi,wf,hn,hck,e1,e2,e3,e4]
 .rw[if_neg e1];simp[qab,exT,qag,ir95,hf,hi,wf,hn,e1]
def goE(f:Nat->Int):Nat->Nat->Int
 | _,0=>0
 | k,n+1=>if f k=0 then goE f (k+1) n else f k
theorem zap{f:Nat->Int}{k n:Nat}(hk:k<n):goE f k (n-k)=if f k=0 then goE f (k+1) (n-(k+1))else f k:=by
 obtain⟨m,hm⟩:∃m,n-k=m+1:=⟨n-k-1,by omega⟩
 rw[hm,show n-(k+1)=m by omega,goE]
abbrev qfz(n:Int)(x:Int):Bool:=decide (x<0)||decide (n<=x)
def zjt(c:Ct)(A:Nat):Int:=if c.plus.length≠A\/c.minus.length≠A then 8 else if(c.plus.any (qfz (qad c A)))=true\/(c.minus.any (qfz (qad c A)))=true then 6 else 0
theorem zfm{α:Type}{f:α->Bool}{l:List α}{k:Nat}(hk:k<l.length):(l.drop k).any f=(f l[k]||(l.drop (k+1)).any f):=by rw[jL hk];rfl
structure Keep116(c:Ct)(t:Nat)(st:List V):Prop where
 nn:qaq st
 len:st.length=51
 t1:qah st 1=.bptr 0 0
 t24:qah st 24=.imm [[qcr c.plus],[qcr c.minus]]
 t25:qah st 25=num 2
 t26:qah st 26=num t
def zwr(c:Ct)(t:Nat)(n:Int)(l:List Int)(k:Nat)(st:St):Prop:=st.h=[⟨0,.box c.cells⟩]/\Keep116 c t st.s/\qah st.s 4=qcr l/\qah st.s 5=num k/\l.any (qfz n)=(l.drop k).any (qfz n)
def zcb(c:Ct)(t:Nat)(n:Int)(l:List Int)(r:R):Prop:=r.st.s.length=51/\((r.x=.exit 2/\r.st.h=[⟨0,.box c.cells⟩]/\Keep116 c t r.st.s/\l.any (qfz n)=false)\/(r.x=.ret/\qah r.st.s 2=num 6/\l.any (qfz n)=true))
theorem zoa{c:Ct}{A:Nat}(h:Mid c A)(t:Nat)(l:List Int)(hl6:l.length<=40)(st:St)(h0:zwr c t (qad c A) l 0 st):∃r,ev pg (.code (.going 1 L96_0) st)=some r/\zcb c t (qad c A) l r:=by
 have hc:=ev116 h;refine qat (zwr c t (qad c A) l) l.length (zcb c t (qad c A) l) h0 ?_ ?_
 .rintro k ⟨s,hh⟩ hk ⟨rfl,⟨hnn,hl,e1,e24,e25,e26⟩,e4,e5,he⟩;simp only at hl e1 e24 e25 e26 e4 e5;have hn:∀j,qah s j ≠ .nils:=qap hnn;have hk':(k:Int)<l.length:=by omega
  have wk:=qbc k;rw[zfm hk]at he;generalize hN:qad c A=N at *;rw[qac hl];by_cases b1:l[k]<0
  .have hb:qfz (N:Int) l[k]=true:=by simp[qfz,b1]
   rw[hb,Bool.true_or]at he;simp[qab,exT,qag,L96_0,zcb,List.range,List.range.loop,e1,e4,e5,hk,hk',b1];simpa using he
  .by_cases b2:(N:Int)<=l[k]
   .have hb:qfz (N:Int) l[k]=true:=by simp[qfz,b2]
    rw[hb,Bool.true_or]at he;simp[qab,exT,qag,L96_0,zcb,List.range,List.range.loop,e1,e4,e5,hk,hk',b1,b2,hc];simpa using he
   .have hb:qfz (N:Int) l[k]=false:=by simp[qfz,b1,b2]
    rw[hb,Bool.false_or]at he;simp[qab,exT,qag,L96_0,List.range,List.range.loop,e1,e4,e5,e24,e25,e26,hk,hk',b1,b2,hc,wk];exact⟨rfl,⟨by simp[qaq,hn],rfl,rfl,rfl,rfl,rfl⟩,rfl,rfl,he⟩
 .rintro⟨s,hh⟩ ⟨rfl,⟨hnn,hl,e1,e24,e25,e26⟩,e4,e5,he⟩;simp only[List.drop_length]at hl e1 e24 e25 e26 e4 e5 he;have hn:∀j,qah s j ≠ .nils:=qap hnn;have he':l.any (qfz (qad c A))=false:=he;rw[qac hl];simp[L96_0,zcb,List.range,List.range.loop,e1,e4,e5,e24,e25,e26];exact⟨⟨by simp[qaq,hn],rfl,rfl,rfl,rfl,rfl⟩,by simpa using he'⟩
def z5e(c:Ct)(n:Int)(t:Nat)(st:St):Prop:=st.h=[⟨0,.box c.cells⟩]/\Keep116 c t st.s/\(1<=t->c.plus.any (qfz n)=false)/\(2<=t->c.minus.any (qfz n)=false)
def z0t(c:Ct)(n:Int)(r:R):Prop:=r.st.s.length=51/\((r.x=.exit 0/\c.plus.any (qfz n)=false/\c.minus.any (qfz n)=false)\/(r.x=.ret/\qah r.st.s 2=num 6/\(c.plus.any (qfz n)=true\/c.minus.any (qfz n)=true)))
theorem ztl{c:Ct}{A:Nat}(h:Mid c A)(hp:c.plus.length<=40)(hm:c.minus.length<=40)(st:St)(h0:z5e c (qad c A) 0 st):∃r,ev pg (.code (.going 1 L96_1) st)=some r/\z0t c (qad c A) r:=by
 refine qat (z5e c (qad c A)) 2 (z0t c (qad c A)) h0 ?_ ?_
 .rintro t ⟨s,hh⟩ ht ⟨rfl,⟨hnn,hl,e1,e24,e25,e26⟩,p1,p2⟩;simp only at hl e1 e24 e25 e26;have hn:∀j,qah s j ≠ .nils:=qap hnn;have ht2:(t:Int)<2:=by omega
  have wk:=qbc t;obtain⟨l,hlt,hl40,hcase⟩:∃l,([[qcr c.plus],[qcr c.minus]]:List (List V))[t]?=some [qcr l]/\l.length<=40/\((t=0/\l=c.plus)\/(t=1/\l=c.minus)):=by
   rcases (by omega:t=0\/t=1)with rfl | rfl
   .exact⟨c.plus,rfl,hp,.inl ⟨rfl,rfl⟩⟩
   .exact⟨c.minus,rfl,hm,.inr ⟨rfl,rfl⟩⟩
  rw[qac hl];simp[L96_1,List.range,List.range.loop,e1,e24,e25,e26,ht2,hlt,qai,hn];generalize hr:ev pg (.code (.going 1 L96_0) _)=o;obtain⟨r,rfl,hrl,hQ⟩:∃r,o=some r/\zcb c t (qad c A) l r:=by rw[<-hr];refine zoa h t l hl40 _ ⟨by simp,⟨by simp[qaq,hn],by simp,by simp,by simp,by simp,by simp⟩,by simp,by simp,rfl⟩
  rcases hQ with⟨hx,hh,⟨hnn2,gl,g1,g24,g25,g26⟩,hE⟩ | ⟨hx,h2,hE⟩
  .simp[hx,hh,gl,g26,wk];refine⟨rfl,⟨?_,?_,?_,?_,?_,?_⟩,fun _=>?_,fun h2=>?_⟩
   .apply qqc
    repeat (first | with_reducible exact hnn2 | with_reducible refine qei ?_ (by simp))
   .simp[gl]
   .simp[g1]
   .simp[g24]
   .simp[g25]
   .simp[gl]
   .rcases hcase with⟨rfl,rfl⟩ | ⟨rfl,rfl⟩
    .exact hE
    .exact p1 (jD _)
   .rcases hcase with⟨rfl,rfl⟩ | ⟨rfl,rfl⟩
    .omega
    .exact hE
  .simp[hx];refine⟨hrl,.inr ⟨hx,h2,?_⟩⟩;rcases hcase with⟨_,rfl⟩ | ⟨_,rfl⟩
   .exact .inl hE
   .exact .inr hE
 .rintro⟨s,hh⟩ ⟨rfl,⟨hnn,hl,e1,e24,e25,e26⟩,p1,p2⟩;simp only at hl e1 e24 e25 e26;have q1:=p1 (by omega);have q2:=p2 (jD _);rw[qac hl];simp[L96_1,z0t,List.range,List.range.loop,e1,e24,e25,e26];exact⟨by simpa using q1,by simpa using q2⟩
theorem ev96{c:Ct}{A:Nat}(h:Mid c A):ev pg (.call (fnq 96) [c.v] [])=some (rvq (num (zjt c A))):=by
 have hA:=h.act;have hA6:=h.hi;have b1:((c.plus.length:Int)=c.act)<->c.plus.length=A:=by omega
 have b2:((c.minus.length:Int)=c.act)<->c.minus.length=A:=by omega
 rw[qaa,pg96.1];by_cases h1:c.plus.length=A
 .have n1:((c.plus.length:Int) != c.act)=false:=by simp;omega
  by_cases h2:c.minus.length=A
  .have n2:((c.minus.length:Int) != c.act)=false:=by simp;omega
   have hp:zjt c A=if(c.plus.any (qfz (qad c A)))=true\/(c.minus.any (qfz (qad c A)))=true then 6 else 0:=by unfold zjt;rw[if_neg (by omega)]
   rw[hp];have hloop:=ztl h (by omega) (by omega);unfold z0t at hloop;generalize c.plus.any (qfz (qad c A))=P at *;generalize c.minus.any (qfz (qad c A))=M at *;simp[ir96,n1,n2,qai];generalize hr:ev pg (.code (.going 1 L96_1) _)=o;obtain⟨r,rfl,hl,hQ⟩:∃r,o=some r/\(r.st.s.length=51/\((r.x=.exit 0/\P=false/\M=false)\/(r.x=.ret/\qah r.st.s 2=num 6/\(P=true\/M=true)))):=by rw[<-hr];exact hloop _ ⟨by simp,⟨by simp[qaq],by simp,by simp,by simp,by simp,by simp⟩,fun h=>by omega,fun h=>by omega⟩
   rcases hQ with⟨hx,rfl,rfl⟩ | ⟨hx,h2',hPM⟩
   .simp[hx,hl]
   .simp[hx,h2',hPM]
  .have n2:((c.minus.length:Int) != c.act)=true:=by simp;omega
   have hp:zjt c A=8:=by unfold zjt;rw[if_pos (.inr h2)]
   rw[hp];simp[ir96,n1,n2]
 .have n1:((c.plus.length:Int) != c.act)=true:=by simp;omega
  have hp:zjt c A=8:=by unfold zjt;rw[if_pos (.inl h1)]
  rw[hp];simp[ir96,n1]
abbrev qzw(c:Ct)(A:Nat)(j:Nat):Int:=qes (qaw c A (2*A+j)) (qbj c A (2*A+j))
abbrev qvs(c:Ct)(A:Nat)(i:Nat):Int:=match c.signals[i]? with
 | some x=>q8v c A (qaw c A (qal c A+i)) i x
 | none=>0
def ctE(c:Ct)(A:Nat):Int :=
 if goE (qzw c A) 0 c.inputs.length=0 then(if goE (qvs c A) 0 c.signals.length=0 then zjt c A else goE (qvs c A) 0 c.signals.length)else goE (qzw c A) 0 c.inputs.length
def Ct.check(c:Ct):Int:=if c.act<1\/6<c.act then 2 else if 16<c.inputs.length\/64<c.signals.length then 5 else ctE c c.act.toNat
structure Keep69(c:Ct)(st:List V):Prop where
 nn:qaq st
 len:st.length=57
 t1:qah st 1=.bptr 0 0
def Ct.small(c:Ct):Bool:=decide (c.inputs.length<=32)&&decide (c.signals.length<=128)&&decide (c.plus.length<=40)&&decide (c.minus.length<=40)&&c.inputs.all q7v&&c.signals.all q2a
theorem zhi{c:Ct}(h:c.few=true):c.small=true:=by simp only[Ct.few,jE]at h;obtain⟨⟨⟨⟨⟨⟨h1,_⟩,h2⟩,h3⟩,h4⟩,h5⟩,h6⟩:=h;simp only[Ct.small,jE];exact⟨⟨⟨⟨⟨h1,h2⟩,h3⟩,h4⟩,h5⟩,h6⟩
theorem qcd{c:Ct}(h:c.small=true):c.inputs.length<=32/\c.signals.length<=128/\c.plus.length<=40/\c.minus.length<=40/\(∀s∈c.inputs,s.length<=200)/\(∀x∈c.signals,x.name.length<=200/\x.on.light=true/\x.off.light=true):=by
 simp only[Ct.small,jE,jW,jP,q7v,q2a]at h;obtain⟨⟨⟨⟨⟨h1,h2⟩,h3⟩,h4⟩,h5⟩,h6⟩:=h;exact⟨h1,h2,h3,h4,h5,fun x hx=>by
  obtain⟨⟨a,b⟩,d⟩:=h6 x hx;exact⟨a,b,d⟩⟩
theorem zdu{c:Ct}{A:Nat}(h:c.small=true)(k:Nat):(qbj c A k).length<2 ^ 62:=by
 obtain⟨_,_,_,_,h5,h6⟩:=qcd h;unfold qbj;split
 .simp
 .split
  .cases hg:c.inputs[k-2*A]? with
   | none=>simp
   | some s =>have:=h5 s (jR hg);simp only[Option.getD_some];omega
  .cases hg:c.signals[k-(2*A+c.inputs.length)]? with
   | none=>simp
   | some x =>have:=(h6 x (jR hg)).1;simp only[Option.map_some,Option.getD_some];omega
def z0o(c:Ct)(A k:Nat)(st:St):Prop:=st.h=[⟨0,.box c.cells⟩]/\Keep69 c st.s/\qah st.s 3=num k/\goE (qzw c A) 0 c.inputs.length=goE (qzw c A) k (c.inputs.length-k)
def zxg(c:Ct)(A:Nat)(r:R):Prop:=r.st.s.length=57/\((r.x=.exit 0/\r.st.h=[⟨0,.box c.cells⟩]/\Keep69 c r.st.s/\goE (qzw c A) 0 c.inputs.length=0)\/(r.x=.ret/\qah r.st.s 2=num (goE (qzw c A) 0 c.inputs.length)/\goE (qzw c A) 0 c.inputs.length≠0))
theorem ztz{c:Ct}{A:Nat}(h:Mid c A)(hfew:c.small=true)(st:St)(h0:z0o c A 0 st):∃r,ev pg (.code (.going 1 L61_0) st)=some r/\zxg c A r:=by
 refine qat (z0o c A) c.inputs.length (zxg c A) h0 ?_ ?_
 .rintro k ⟨s,hh⟩ hk ⟨rfl,⟨hnn,hl,e1⟩,e3,he⟩;simp only at hl e1 e3;have hn:∀j,qah s j ≠ .nils:=qap hnn;have hc:=ev94 h (2*A+k) (by unfold qad;omega) (zdu hfew _);obtain⟨hA,h1,h2,h3,h4⟩:=h;have hk':(k:Int)<c.inputs.length:=by omega
  have wk:=qbc k;have w1:=qam (n:=2*c.act) (by omega) (by omega);have hsum:2*c.act+(k:Int)=2*(A:Int)+(k:Int):=by omega
  have w2:=qam (n:=2*(A:Int)+(k:Int)) (by omega) (by omega);rw[zap hk]at he;have hF:qzw c A k=qes (qaw c A (2*A+k)) (qbj c A (2*A+k)):=rfl;rw[<-hF]at hc;generalize qzw c A k=f at *;simp at hc;rw[qac hl];by_cases b:f=0
  .rw[if_pos b]at he;simp[L61_0,List.range,List.range.loop,e1,e3,hk',w1,hsum,w2,hc,b,wk];exact⟨rfl,⟨by simp[qaq,hn],rfl,rfl⟩,rfl,he⟩
  .rw[if_neg b]at he;simp[L61_0,zxg,List.range,List.range.loop,e1,e3,hk',w1,hsum,w2,hc,b,he]
 .rintro⟨s,hh⟩ ⟨rfl,⟨hnn,hl,e1⟩,e3,he⟩;simp only[Nat.sub_self,goE]at hl e1 e3 he;have hn:∀j,qah s j ≠ .nils:=qap hnn;rw[qac hl];simp[L61_0,zxg,List.range,List.range.loop,e1,e3,he];exact⟨by simp[qaq,hn],rfl,rfl⟩
def z0p(c:Ct)(A k:Nat)(st:St):Prop:=st.h=[⟨0,.box c.cells⟩]/\Keep69 c st.s/\qah st.s 5=num k/\goE (qvs c A) 0 c.signals.length=goE (qvs c A) k (c.signals.length-k)
def zxh(c:Ct)(A:Nat)(r:R):Prop:=r.st.s.length=57/\((r.x=.exit 2/\r.st.h=[⟨0,.box c.cells⟩]/\Keep69 c r.st.s/\goE (qvs c A) 0 c.signals.length=0)\/(r.x=.ret/\qah r.st.s 2=num (goE (qvs c A) 0 c.signals.length)/\goE (qvs c A) 0 c.signals.length≠0))
theorem zua{c:Ct}{A:Nat}(h:Mid c A)(hfew:c.small=true)(st:St)(h0:z0p c A 0 st):∃r,ev pg (.code (.going 1 L61_1) st)=some r/\zxh c A r:=by
 refine qat (z0p c A) c.signals.length (zxh c A) h0 ?_ ?_
 .rintro k ⟨s,hh⟩ hk ⟨rfl,⟨hnn,hl,e1⟩,e5,he⟩;simp only at hl e1 e5;have hn:∀j,qah s j ≠ .nils:=qap hnn;have hc:=ev95 h k hk (by have:=((qcd hfew).2.2.2.2.2 _ (jH hk)).1;omega);obtain⟨hA,h1,h2,h3,h4⟩:=h;have hk':(k:Int)<c.signals.length:=by omega
  have wk:=qbc k;rw[zap hk]at he;have hF:qvs c A k=q8v c A (qaw c A (qal c A+k)) k c.signals[k]:=by unfold qvs;rw[jA hk]
  rw[<-hF]at hc;generalize qvs c A k=f at *;rw[qac hl];by_cases b:f=0
  .rw[if_pos b]at he;simp[L61_1,List.range,List.range.loop,e1,e5,hk',hc,b,wk];exact⟨rfl,⟨by simp[qaq,hn],rfl,rfl⟩,rfl,he⟩
  .rw[if_neg b]at he;simp[L61_1,zxh,List.range,List.range.loop,e1,e5,hk',hc,b,he]
 .rintro⟨s,hh⟩ ⟨rfl,⟨hnn,hl,e1⟩,e5,he⟩;simp only[Nat.sub_self,goE]at hl e1 e5 he;have hn:∀j,qah s j ≠ .nils:=qap hnn;rw[qac hl];simp[L61_1,zxh,List.range,List.range.loop,e1,e5,he];exact⟨by simp[qaq,hn],rfl,rfl⟩
theorem ev61(c:Ct)(hfew:c.small=true):ev pg (.call (fnq 61) [c.v] [])=some (rvq (num c.check)):=by
 obtain⟨f1,f2,_⟩:=qcd hfew;rw[qaa,pg61.1];unfold Ct.check;by_cases a1:c.act<1
 .rw[if_pos (.inl a1)];simp[ir61,a1]
 by_cases a2:6<c.act
 .rw[if_pos (.inr a2)];simp[ir61,a1,a2]
 rw[if_neg (by omega)];by_cases a3:16<c.inputs.length
 .have a3':(16:Int)<(c.inputs.length:Int):=by omega
  rw[if_pos (.inl a3)];simp[ir61,a1,a2,a3']
 have a3':¬((16:Int)<(c.inputs.length:Int)):=by omega
 by_cases a4:64<c.signals.length
 .have a4':(64:Int)<(c.signals.length:Int):=by omega
  rw[if_pos (.inr a4)];simp[ir61,a1,a2,a3',a4']
 have a4':¬((64:Int)<(c.signals.length:Int)):=by omega
 rw[if_neg (by omega)];have hM:Mid c c.act.toNat:=⟨by omega,by omega,by omega,f1,f2⟩
 have h116:=ev96 hM;have hla:=ztz hM hfew;have hlb:=zua hM hfew;generalize c.act.toNat=A at *;unfold ctE;unfold zxg at hla;unfold zxh at hlb;have hIa:∀st:St,z0o c A 0 st<->(st.h=[⟨0,.box c.cells⟩]/\Keep69 c st.s/\qah st.s 3=num 0):=fun st=>by unfold z0o;exact⟨fun h=>⟨h.1,h.2.1,h.2.2.1⟩,fun h=>⟨h.1,h.2.1,h.2.2,rfl⟩⟩
 have hIb:∀st:St,z0p c A 0 st<->(st.h=[⟨0,.box c.cells⟩]/\Keep69 c st.s/\qah st.s 5=num 0):=fun st=>by unfold z0p;exact⟨fun h=>⟨h.1,h.2.1,h.2.2.1⟩,fun h=>⟨h.1,h.2.1,h.2.2,rfl⟩⟩
 generalize goE (qzw c A) 0 c.inputs.length=ei at *;generalize goE (qvs c A) 0 c.signals.length=es at *;generalize zjt c A=ep at *;simp[ir61,a1,a2,a3',a4',qai];generalize hr:ev pg (.code (.going 1 L61_0) _)=o;obtain⟨r,rfl,hl,hQ⟩:∃r,o=some r/\_:=by rw[<-hr];exact hla _ ((hIa _).2 ⟨by simp,⟨by simp[qaq],by simp,by simp⟩,by simp⟩)
 rcases hQ with⟨hx,hh,⟨hnn,gl,g1⟩,rfl⟩ | ⟨hx,h2,hE⟩
 .have hns:qaq (qet r.st.s 5 (.int .i64 0)):=qei hnn (by simp);have had:∀h,qhn h (qet r.st.s 5 (.int .i64 0))=(qet r.st.s 5 (.int .i64 0),h):=fun h=>qeg h hns;simp[hx,had,hh];generalize hr2:ev pg (.code (.going 1 L61_1) _)=o2;obtain⟨r2,rfl,hl2,hQ2⟩:∃r,o2=some r/\_:=by
   rw[<-hr2];exact hlb _ ((hIb _).2 ⟨by simp,⟨hns,by simp[gl],by simp[g1]⟩,by simp[gl]⟩)
  rcases hQ2 with⟨hx2,hh2,⟨_,gl2,g12⟩,rfl⟩ | ⟨hx2,h22,hE2⟩
  .simp[hx2,hh2,gl2,g12,h116]
  .simp[hx2,h22,hE2]
 .simp[hx,h2,hE]
end Go.Proofs.YtggbaapfbgjaeaaGreatDoor
