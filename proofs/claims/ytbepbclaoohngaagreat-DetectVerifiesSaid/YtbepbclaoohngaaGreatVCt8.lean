/- Controls: errors, by the reference. -/
import Derived.Test.YtbepbclaoohngaaGreatVCt6
set_option linter.all false
namespace Go.Proofs.YtbepbclaoohngaaGreat
open Go Go.Am Go.Proofs
set_option maxRecDepth 100000
mutual
def Ex.occ(v:Int):Ex->Bool
 | .mk o i l=>if o=1 then i==v else q1u v l
def q1u(v:Int):List Ex->Bool
 | []=>false
 | x :: l=>x.occ v||q1u v l
end
theorem qzf(v:Int)(x:Ex):x.occ v=if x.op=1 then x.idx==v else q1u v x.args:=by cases x;rw[Ex.occ];rfl
theorem zvd{v:Int}{l:List Ex}{k:Nat}(hk:k<l.length):q1u v (l.drop k)=(l[k].occ v||q1u v (l.drop (k+1))):=by
 rw[jL hk,q1u]
def z9x(x:Ex)(v:Int)(k:Nat)(st:St):Prop:=st.h=[⟨0,.box x.cells⟩]/\st.s.length=27/\qai st.s 1=num v/\qai st.s 2=.bptr 0 0/\qai st.s 5=num k/\q1u v x.args=q1u v (x.args.drop k)
def zxk(x:Ex)(v:Int)(r:R):Prop:=r.st.s.length=27/\((r.x=.exit 0/\q1u v x.args=false)\/(r.x=.ret/\qai r.st.s 4=.bool true/\q1u v x.args=true))
theorem ztl(x:Ex)(v:Int)(hx:x.nodes<=256)(ih:∀y∈x.args,y.nodes<=256->ev pg (.call (.fn 243 [] []) [y.v,num v] [])=some { v:=.bool (y.occ v),st:=⟨[],[]⟩ })(st:St)(h0:z9x x v 0 st):∃r,ev pg (.code (.going 1 L243_0) st)=some r/\zxk x v r:=by
 have hfew:=qfi hx
 refine qau (z9x x v) x.args.length (zxk x v) h0 ?_ ?_
 .rintro k ⟨s,h⟩ hk ⟨rfl,hl,e1,e2,e5,he⟩
  simp only at hl e1 e2 e5
  have hk':(k:Int)<x.args.length:=by omega
  have wk:=qbb (k:=k) (by omega)
  have hmem:=jH hk
  have hc:=ih x.args[k] hmem (qev hx hmem)
  rw[zvd hk]at he
  rw[qad hl]
  cases hd:x.args[k].occ v with
  | true =>
   rw[hd,Bool.true_or]at he
   rw[hd]at hc
   simp[L243_0,zxk,List.range,List.range.loop,e1,e2,e5,hk,hk',hc,he]
  | false =>
   rw[hd,Bool.false_or]at he
   rw[hd]at hc
   simp[L243_0,z9x,List.range,List.range.loop,e1,e2,e5,hk,hk',hc,wk,he]
 .rintro⟨s,h⟩ ⟨rfl,hl,e1,e2,e5,he⟩
  simp only[List.drop_length]at hl e1 e2 e5 he
  rw[qad hl]
  simp[L243_0,zxk,List.range,List.range.loop,e1,e2,e5,he,q1u]
theorem ev243(v:Int):∀x:Ex,x.nodes<=256->ev pg (.call (.fn 243 [] []) [x.v,num v] [])=some { v:=.bool (x.occ v),st:=⟨[],[]⟩ }:=by
 refine Ex.ind fun x ih hx=>?_
 rw[qaa,pg243,qzf]
 by_cases h:x.op=1
 .have hb:(x.op==1)=true:=by simpa using h
  simp[ir243,h]
 .have hb:(x.op==1)=false:=by simpa using h
  simp[ir243,hb,h,qah]
  generalize hr:ev pg (.code (.going 1 L243_0) _)=o
  obtain⟨r,rfl,hl,hQ⟩:∃r,o=some r/\zxk x v r:=by
   rw[<-hr]
   exact ztl x v hx ih _ ⟨by simp,by simp,by simp,by simp,by simp,rfl⟩
  rcases hQ with⟨hx,hE⟩ | ⟨hx,h4,hE⟩
  .simp[hx,hl,hE]
  .simp[hx,h4,hE]
def Ex.zero(x:Ex):Bool:=decide (x.op=0)&&decide (x.idx=0)&&decide (x.args.length=0)
theorem ev200(x:Ex):ev pg (.call (.fn 200 [] []) [x.v] [])=some { v:=.bool x.zero,st:=⟨[],[]⟩ }:=by
 rw[qaa,pg200]
 by_cases h1:(x.op==0)=true
 .have h1':x.op=0:=by simpa using h1
  by_cases h2:(x.idx==0)=true
  .have h2':x.idx=0:=by simpa using h2
   by_cases h3:x.args.length=0
   .have h3':((x.args.length:Int)==0)=true:=by rw[h3];rfl
    simp[ir200,Ex.zero,h1',h2',h3]
   .have h3':((x.args.length:Int)==0)=false:=by simp;simpa using h3
    simp[ir200,Ex.zero,h1,h2,h3,h3']
  .have h2':¬x.idx=0:=by simpa using h2
   have h2b:(x.idx==0)=false:=by simpa using h2
   simp[ir200,Ex.zero,h1,h2b,h2']
 .have h1':¬x.op=0:=by simpa using h1
  have h1b:(x.op==0)=false:=by simpa using h1
  simp[ir200,Ex.zero,h1b,h1']
theorem ev248(x:Ex):ev pg (.call (.fn 248 [] []) [x.v] [])=some { v:=.bool x.zero,st:=⟨[],[]⟩ }:=by
 rw[qaa,pg248]
 by_cases h1:(x.op==0)=true
 .have h1':x.op=0:=by simpa using h1
  by_cases h2:(x.idx==0)=true
  .have h2':x.idx=0:=by simpa using h2
   by_cases h3:x.args.length=0
   .have h3':((x.args.length:Int)==0)=true:=by rw[h3];rfl
    simp[ir248,Ex.zero,h1',h2',h3]
   .have h3':((x.args.length:Int)==0)=false:=by simp;simpa using h3
    simp[ir248,Ex.zero,h1,h2,h3,h3']
  .have h2':¬x.idx=0:=by simpa using h2
   have h2b:(x.idx==0)=false:=by simpa using h2
   simp[ir248,Ex.zero,h1,h2b,h2']
 .have h1':¬x.op=0:=by simpa using h1
  have h1b:(x.op==0)=false:=by simpa using h1
  simp[ir248,Ex.zero,h1b,h1']
def qgu(on:Ex)(F:Nat):Nat->List Sg->Bool
 | _,[]=>false
 | k,x :: l=>(decide (x.kind=0)&&on.occ (F+k:Nat))||qgu on F (k+1) l
theorem zha{on:Ex}{F:Nat}{l:List Sg}{k:Nat}(hk:k<l.length):qgu on F k (l.drop k)=((decide (l[k].kind=0)&&on.occ (F+k:Nat))||qgu on F (k+1) (l.drop (k+1))):=by
 rw[jL hk,qgu]
def z9y(c:Ct)(F i:Nat)(on:Ex)(j:Nat)(st:St):Prop:=st.h=[⟨0,.box c.cells⟩]/\st.s.length=34/\qai st.s 1=num i/\qai st.s 2=.bptr 0 0/\qai st.s 5=num (i+j:Nat)/\qgu on F i (c.signals.drop i)=qgu on F (i+j) (c.signals.drop (i+j))
def zxl(c:Ct)(F i:Nat)(on:Ex)(r:R):Prop:=r.st.s.length=34/\((r.x=.exit 0/\qgu on F i (c.signals.drop i)=false)\/(r.x=.ret/\qai r.st.s 4=.bool true/\qgu on F i (c.signals.drop i)=true))
theorem ztn{c:Ct}{A:Nat}(h:Mid c A)(i:Nat)(hi:i<c.signals.length)(hon:c.signals[i].on.nodes<=256)(st:St)(h0:z9y c (qam c A) i c.signals[i].on 0 st):∃r,ev pg (.code (.going 1 L199_0) st)=some r/\zxl c (qam c A) i c.signals[i].on r:=by
 have hf:=ev197 h
 obtain⟨hA,h1,h2,h3,h4⟩:=h
 refine qau (z9y c (qam c A) i c.signals[i].on) (c.signals.length-i) (zxl c (qam c A) i c.signals[i].on) h0 ?_ ?_
 .rintro j ⟨s,hh⟩ hj ⟨rfl,hl,e1,e2,e5,he⟩
  simp only at hl e1 e2 e5
  obtain⟨k,hk⟩:∃k,k=i+j:=⟨_,rfl⟩
  have hkl:k<c.signals.length:=by omega
  have hk':(k:Int)<c.signals.length:=by omega
  have wk:=qbb (k:=k) (by omega)
  have wf:=qan (n:=2*(A:Int)+(c.inputs.length:Int)+(k:Int)) (by omega) (by omega)
  have ho:=ev243 (qam c A+k:Nat) c.signals[i].on hon
  rw[<-hk]at e5 he
  rw[zha hkl]at he
  have hk1:i+(j+1)=k+1:=by omega
  generalize hoc:c.signals[i].on.occ (qam c A+k:Nat)=oc at *
  rw[qad hl]
  unfold z9y
  rw[hk1]
  simp at ho
  by_cases hkind:c.signals[k].kind=0
  .have hkb:(c.signals[k].kind==0)=true:=by simpa using hkind
   rw[decide_eq_true hkind,Bool.true_and]at he
   cases oc with
   | true =>
    rw[Bool.true_or]at he
    simp[qab,exT,qal,L199_0,zxl,List.range,List.range.loop,e1,e2,e5,hkl,hk',hkb,hi,hf,wf,ho,he]
   | false =>
    rw[Bool.false_or]at he
    simp[qab,exT,qal,L199_0,List.range,List.range.loop,e1,e2,e5,hkl,hk',hkb,hi,hf,wf,ho,wk,he]
  .have hkb:(c.signals[k].kind==0)=false:=by simpa using hkind
   rw[decide_eq_false hkind,Bool.false_and,Bool.false_or]at he
   simp[qab,exT,qal,L199_0,List.range,List.range.loop,e1,e2,e5,hkl,hk',hkb,wk,he]
 .rintro⟨s,hh⟩ ⟨rfl,hl,e1,e2,e5,he⟩
  have hk:i+(c.signals.length-i)=c.signals.length:=by omega
  rw[hk]at e5 he
  simp only[List.drop_length]at hl e1 e2 e5 he
  rw[qad hl]
  simp[L199_0,zxl,List.range,List.range.loop,e1,e2,e5,he,qgu]
theorem ev199{c:Ct}{A:Nat}(h:Mid c A)(i:Nat)(hi:i<c.signals.length)(hon:c.signals[i].on.nodes<=256):ev pg (.call (.fn 199 [] []) [c.v,num i] [])=some { v:=.bool (qgu c.signals[i].on (qam c A) i (c.signals.drop i)),st:=⟨[],[]⟩ }:=by
 rw[qaa,pg199]
 simp[ir199,qah]
 generalize hr:ev pg (.code (.going 1 L199_0) _)=o
 obtain⟨r,rfl,hl,hQ⟩:∃r,o=some r/\zxl c (qam c A) i c.signals[i].on r:=by
  rw[<-hr]
  exact ztn h i hi hon _ ⟨by simp,by simp,by simp,by simp,by simp,rfl⟩
 rcases hQ with⟨hx,hE⟩ | ⟨hx,h4,hE⟩
 .simp[hx,hl,hE]
 .simp[hx,h4,hE]
def q7v(c:Ct)(A:Nat)(K:List Txt)(i:Nat)(x:Sg):Int :=
 if qep K x.name=0 then
  if x.kind<0\/3<=x.kind then 1
  else if x.on.check (qac c A)=0 then
   if x.kind=1/\x.off.check (qac c A)≠0 then x.off.check (qac c A)
   else if x.kind=0/\qgu x.on (qam c A) i (c.signals.drop i)=true then 9
   else if x.kind=2/\(x.delay<1\/1000000<x.delay)then 2
   else if(x.kind≠1/\(x.off.zero=false\/x.init=true))\/(x.kind≠2/\x.delay≠0)then 3 else 0
  else x.on.check (qac c A)
 else qep K x.name
theorem qse(c:Ct)(A i:Nat)(hi:i<c.signals.length):qbl c A (qam c A+i)=c.signals[i].name:=by
 unfold qbl
 rw[if_neg (by unfold qam;omega),if_neg (by unfold qam;omega)]
 rw[show qam c A+i-(2*A+c.inputs.length)=i by unfold qam;omega,jA hi]
 rfl
theorem q6n{x:Ex}{n:Int}(h:x.check n=0):x.light=true:=by
 unfold Ex.check at h
 split at h
 .cases h
 .split at h
  .assumption
  .cases h
set_option maxHeartbeats 4000000 in
theorem ev129{c:Ct}{A:Nat}(h:Mid c A)(i:Nat)(hi:i<c.signals.length)(hlen:c.signals[i].name.length<2 ^ 62):ev pg (.call (.fn 129 [] []) [c.v,num i] [])=some { v:=num (q7v c A (qax c A (qam c A+i)) i c.signals[i]),st:=⟨[],[]⟩ }:=by
 have hf:=ev197 h
 have hc:=ev186 h
 have hn:=ev128 h (qam c A+i) (by unfold qam qac;omega) (by rw[qse c A i hi];exact hlen)
 rw[qse c A i hi]at hn
 have hck:=ev198 c.signals[i].on (qac c A:Nat)
 have hcf:=ev198 c.signals[i].off (qac c A:Nat)
 have hl:=ev199 h i hi
 have hz:=ev200 c.signals[i].off
 obtain⟨hA,h1,h2,h3,h4⟩:=h
 have wf:=qan (n:=2*(A:Int)+(c.inputs.length:Int)+(i:Int)) (by omega) (by omega)
 unfold q7v
 generalize hK:qax c A (qam c A+i)=K at *
 generalize hne:qep K c.signals[i].name=ne at *
 generalize hoe:c.signals[i].on.check (qac c A:Nat)=oe at *
 generalize hfe:c.signals[i].off.check (qac c A:Nat)=fe at *
 generalize hle:qgu c.signals[i].on (qam c A) i (c.signals.drop i)=le at *
 generalize hze:c.signals[i].off.zero=ze at *
 simp at hn hck hcf
 rw[qaa,pg129]
 by_cases e1:ne=0
 .rw[if_pos e1]
  by_cases e2:c.signals[i].kind<0
  .rw[if_pos (.inl e2)]
   simp[qab,exT,qal,ir129,hf,hi,wf,hn,e1,e2]
  by_cases e3:3<=c.signals[i].kind
  .rw[if_pos (.inr e3)]
   simp[qab,exT,qal,ir129,hf,hi,wf,hn,e1,e2,e3]
  rw[if_neg (by omega)]
  by_cases e4:oe=0
  .rw[if_pos e4]
   have hl:=hl (qdr (q6n (by rw[hoe];exact e4))).1
   rcases (by omega:c.signals[i].kind=0\/c.signals[i].kind=1\/c.signals[i].kind=2)with k0 | k0 | k0
   .have b0:(c.signals[i].kind==0)=true:=by simpa using k0
    have b1:(c.signals[i].kind==1)=false:=by simp[k0]
    have b2:(c.signals[i].kind==2)=false:=by simp[k0]
    rw[if_neg (by omega)]
    cases le with
    | true =>
     rw[if_pos ⟨k0,rfl⟩]
     simp[qab,exT,qal,ir129,hf,hc,hi,wf,hn,hck,hl,e1,e2,e3,e4,b0,b1,b2]
    | false =>
     rw[if_neg (by simp),if_neg (by omega)]
     cases ze with
     | false =>
      rw[if_pos (.inl ⟨by omega,.inl rfl⟩)]
      simp[qab,exT,qal,ir129,hf,hc,hi,wf,hn,hck,hl,hz,e1,e2,e3,e4,b0,b1,b2]
     | true =>
      cases hin:c.signals[i].init with
      | true =>
       rw[if_pos (.inl ⟨by omega,.inr rfl⟩)]
       simp[qab,exT,qal,ir129,hf,hc,hi,wf,hn,hck,hl,hz,hin,e1,e2,e3,e4,b0,b1,b2]
      | false =>
       by_cases e5:c.signals[i].delay=0
       .rw[if_neg (by simp[e5])]
        simp[qab,exT,qal,ir129,hf,hc,hi,wf,hn,hck,hl,hz,hin,e1,e2,e3,e4,b0,b1,b2,e5]
       .rw[if_pos (.inr ⟨by omega,e5⟩)]
        simp[qab,exT,qal,ir129,hf,hc,hi,wf,hn,hck,hl,hz,hin,e1,e2,e3,e4,b0,b1,b2,e5]
   .have b0:(c.signals[i].kind==0)=false:=by simp[k0]
    have b1:(c.signals[i].kind==1)=true:=by simpa using k0
    have b2:(c.signals[i].kind==2)=false:=by simp[k0]
    by_cases e6:fe=0
    .rw[if_neg (by omega),if_neg (by omega),if_neg (by omega)]
     by_cases e5:c.signals[i].delay=0
     .rw[if_neg (by simp[e5,k0])]
      simp[qab,exT,qal,ir129,hf,hc,hi,wf,hn,hck,hcf,e1,e2,e3,e4,b0,b1,b2,e5,e6]
     .rw[if_pos (.inr ⟨by omega,e5⟩)]
      simp[qab,exT,qal,ir129,hf,hc,hi,wf,hn,hck,hcf,e1,e2,e3,e4,b0,b1,b2,e5,e6]
    .rw[if_pos ⟨k0,e6⟩]
     simp[qab,exT,qal,ir129,hf,hc,hi,wf,hn,hck,hcf,e1,e2,e3,e4,b1,b2,e6]
   .have b0:(c.signals[i].kind==0)=false:=by simp[k0]
    have b1:(c.signals[i].kind==1)=false:=by simp[k0]
    have b2:(c.signals[i].kind==2)=true:=by simpa using k0
    rw[if_neg (by omega),if_neg (by omega)]
    by_cases e7:c.signals[i].delay<1
    .rw[if_pos ⟨k0,.inl e7⟩]
     simp[qab,exT,qal,ir129,hf,hc,hi,wf,hn,hck,e1,e2,e3,e4,b0,b1,b2,e7]
    by_cases e8:1000000<c.signals[i].delay
    .rw[if_pos ⟨k0,.inr e8⟩]
     simp[qab,exT,qal,ir129,hf,hc,hi,wf,hn,hck,e1,e2,e3,e4,b0,b1,b2,e7,e8]
    rw[if_neg (by omega)]
    cases ze with
    | false =>
     rw[if_pos (.inl ⟨by omega,.inl rfl⟩)]
     simp[qab,exT,qal,ir129,hf,hc,hi,wf,hn,hck,hz,e1,e2,e3,e4,b0,b1,b2,e7,e8]
    | true =>
     cases hin:c.signals[i].init with
     | true =>
      rw[if_pos (.inl ⟨by omega,.inr rfl⟩)]
      simp[qab,exT,qal,ir129,hf,hc,hi,wf,hn,hck,hz,hin,e1,e2,e3,e4,b0,b1,b2,e7,e8]
     | false =>
      rw[if_neg (by simp[k0])]
      simp[qab,exT,qal,ir129,hf,hc,hi,wf,hn,hck,hz,hin,e1,e2,e3,e4,b0,b1,b2,e7,e8]
  .rw[if_neg e4]
   simp[qab,exT,qal,ir129,hf,hc,hi,wf,hn,hck,e1,e2,e3,e4]
 .rw[if_neg e1]
  simp[qab,exT,qal,ir129,hf,hi,wf,hn,e1]
end Go.Proofs.YtbepbclaoohngaaGreat
