/- Kinds of faults, by the program and by the reference. All faults, by the reference. All faults, by the program. Pilots, by the reference. Pilots, by the program. -/
import Derived.Test.YtddeacahiilikaaGreatCq3
set_option linter.all false
namespace Go.Proofs.YtddeacahiilikaaGreat
open Go Go.Am Go.Proofs
set_option maxRecDepth 100000
theorem ev177(a b:Int)(h:H):ev pg (.call (.fn 177 [] []) [num a,num b] h)=some { v:=.fn 178 [] [.bptr h.length 0,.bptr (h.length+1) 0],st:=⟨[],h++[⟨0,.box [num a]⟩,⟨0,.box [num b]⟩]⟩ }:=by
 rw[qac,pg177]
 simp[ir177]
abbrev kTa(t:H):H:=⟨0,.box [num 0]⟩ :: ⟨0,.box [num (-1)]⟩ :: ⟨0,.box [num (-1)]⟩ :: ⟨0,.box [num 0]⟩ :: ⟨0,.box [num 1]⟩ :: ⟨0,.box [num 0]⟩ :: ⟨0,.box [num 0]⟩ :: ⟨0,.box [num 1]⟩ :: t
abbrev t0t:Txt:=[32,115,116,117,99,107,32,105,110]
abbrev t1t:Txt:=[32,115,116,117,99,107,32,111,117,116]
abbrev t2t:Txt:=[32,116,114,117,101]
abbrev t3t:Txt:=[32,102,97,108,115,101]
abbrev t4t:Txt:=[32,118,97,108,118,101,32,116,114,117,101]
abbrev t5t:Txt:=[32,118,97,108,118,101,32,102,97,108,115,101]
abbrev kC(n:Nat):List V:=[.str t0t,.bool false,num 0,.fn 178 [] [.bptr (n+1) 0,.bptr (n+2) 0],.str t1t,.bool false,num 0,.fn 178 [] [.bptr (n+3) 0,.bptr (n+4) 0],.str t2t,.bool true,num 1,.nilfn,.str t3t,.bool true,num 0,.nilfn,.str t4t,.bool false,num 0,.fn 178 [] [.bptr (n+5) 0,.bptr (n+6) 0],.str t5t,.bool false,num 0,.fn 178 [] [.bptr (n+7) 0,.bptr (n+8) 0]]
theorem ev98(h:H):ev pg (.call (.fn 98 [] []) [] h)=some { v:=.agg (kC h.length),st:=⟨[],h++(⟨0,.box (kC h.length)⟩ :: kTa [])⟩ }:=by
 have h112:=ev177
 rw[qac,pg98]
 simp[ir98,h112]
theorem ev99{c:Ct}{A:Nat}(hM:Mid c A){h:H}(hcl:qce h)(t:Txt)(b:Bool)(n:Int)(w:V)(hw:∀h,qcb h [w]=([w],h)):ev pg (.call (.fn 99 [] []) [c.v,.agg [.str t,.bool b,num n,w]] h)=some { v:=num (if b=true then(qae c A:Int)else c.act),st:=⟨[],h⟩ }:=by
 have h73:=ev102 hM
 have hck:=qcx hcl [⟨0,.box c.cells⟩,⟨0,.box [.str t,.bool b,num n,w]⟩]
 generalize hn:h.length=N at *
 rw[qac,pg99]
 cases b with
 | true =>
  simp[-qap,ir99,hn,hw,h73,hck]
 | false =>
  simp[-qap,ir99,hn,hw,hck]
abbrev fv(k i:Int):V:=.agg [num k,num i]
def qqd(c:Ct)(A:Nat)(k i:Int):Int:=if k<0\/6<=k then 1 else if i<0\/(if k=2\/k=3 then(qae c A:Int)else c.act)<=i then 2 else 0
theorem ev104{c:Ct}{A:Nat}(hM:Mid c A)(k i:Int):ev pg (.call (.fn 104 [] []) [c.v,fv k i] [])=some { v:=num (qqd c A k i),st:=⟨[],[]⟩ }:=by
 have h67:=ev98 [⟨0,.box c.cells⟩,⟨0,.box [num k,num i]⟩]
 rw[qac,pg104]
 unfold qqd
 by_cases h1:k<0
 .simp[ir104,h67,h1]
 by_cases h2:6<=k
 .simp[ir104,h67,h1,h2]
 rw[if_neg (by omega)]
 by_cases h3:i<0
 .simp[qaa,exT,qaf,ir104,h67,h1,h2,h3]
 have hcl:∀k i:Int,qce (⟨0,.box c.cells⟩ :: ⟨0,.box [num k,num i]⟩ :: ⟨0,.box (kC 2)⟩ :: kTa [⟨0,.box (kC 2)⟩]):=fun k i=>by simp[qce,qbk]
 have hb:∀(w:V),w=.nilfn\/(∃caps,w=.fn 178 [] caps)->∀h,qcb h [w]=([w],h):=fun w hw h=>by
  rcases hw with rfl | ⟨caps,rfl⟩<;>rfl
 have h68:=fun(k:Int) t b n w hw=>ev99 hM (hcl k i) t b n w (hb w hw)
 have h68n:=fun t b n=>ev99 hM (h:=[]) rfl t b n .nilfn (hb .nilfn (.inl rfl))
 generalize qae c A=N at *
 rcases (by omega:k=0\/k=1\/k=2\/k=3\/k=4\/k=5)with rfl | rfl | rfl | rfl | rfl | rfl
 .have h68:=h68 0 t0t false 0 (.fn 178 [] [.bptr 3 0,.bptr 4 0]) (.inr ⟨_,rfl⟩)
  by_cases hi:c.act<=i
  .simp[qaa,exT,qaf,ir104,h67,h3,h68,hi]
  .simp[qaa,exT,qaf,ir104,h67,h3,h68,hi]
 .have h68:=h68 1 t1t false 0 (.fn 178 [] [.bptr 5 0,.bptr 6 0]) (.inr ⟨_,rfl⟩)
  by_cases hi:c.act<=i
  .simp[qaa,exT,qaf,ir104,h67,h3,h68,hi]
  .simp[qaa,exT,qaf,ir104,h67,h3,h68,hi]
 .have h68:=h68n t2t true 1
  by_cases hi:(N:Int)<=i
  .simp[qaa,exT,qaf,ir104,h67,h3,h68,hi]
  .simp[qaa,exT,qaf,ir104,h67,h3,h68,hi]
 .have h68:=h68n t3t true 0
  by_cases hi:(N:Int)<=i
  .simp[qaa,exT,qaf,ir104,h67,h3,h68,hi]
  .simp[qaa,exT,qaf,ir104,h67,h3,h68,hi]
 .have h68:=h68 4 t4t false 0 (.fn 178 [] [.bptr 7 0,.bptr 8 0]) (.inr ⟨_,rfl⟩)
  by_cases hi:c.act<=i
  .simp[qaa,exT,qaf,ir104,h67,h3,h68,hi]
  .simp[qaa,exT,qaf,ir104,h67,h3,h68,hi]
 .have h68:=h68 5 t5t false 0 (.fn 178 [] [.bptr 9 0,.bptr 10 0]) (.inr ⟨_,rfl⟩)
  by_cases hi:c.act<=i
  .simp[qaa,exT,qaf,ir104,h67,h3,h68,hi]
  .simp[qaa,exT,qaf,ir104,h67,h3,h68,hi]
theorem ev8(k:Int):ev pg (.call (.fn 8 [] []) [num k] [])=some { v:=.bool (decide (k=2\/k=3)),st:=⟨[],[]⟩ }:=by
 rw[qac,pg8]
 by_cases h2:k=2
 .simp[ir8,h2]
 .have h2b:(k==2)=false:=by simpa using h2
  by_cases h3:k=3
  .simp[ir8,h3]
  .have h3b:(k==3)=false:=by simpa using h3
   simp[ir8,h2,h2b,h3,h3b]
theorem ev176{c:Ct}{A:Nat}(hM:Mid c A)(k:Int):ev pg (.call (.fn 176 [] []) [c.v,num k] [])=some { v:=num (if k=2\/k=3 then(qae c A:Int)else c.act),st:=⟨[],[]⟩ }:=by
 have h37:=ev148 hM
 have h74:=ev8 k
 generalize qae c A=N at *
 rw[qac,pg176]
 by_cases h:k=2\/k=3
 .simp only[decide_eq_true h]at h74
  rw[if_pos h]
  simp[ir176,h74,h37]
 .simp only[decide_eq_false h]at h74
  rw[if_neg h]
  simp[ir176,h74]
theorem ev97{c:Ct}{A:Nat}(hM:Mid c A)(k i:Int):ev pg (.call (.fn 97 [] []) [c.v,fv k i] [])=some { v:=num (qqd c A k i),st:=⟨[],[]⟩ }:=by
 have h117:=ev176 hM k
 unfold qqd
 generalize (if k=2\/k=3 then(qae c A:Int)else c.act)=m at *
 rw[qac,pg97]
 by_cases h1:k<0
 .simp[ir97,h1]
 by_cases h2:6<=k
 .simp[ir97,h1,h2]
 rw[if_neg (by omega)]
 by_cases h3:i<0
 .simp[qaa,exT,qaf,ir97,h1,h2,h3]
 by_cases h4:m<=i
 .simp[qaa,exT,qaf,ir97,h117,h1,h2,h3,h4]
 .simp[qaa,exT,qaf,ir97,h117,h1,h2,h3,h4]
def qsi(c:Ct)(k i:Int):Int:=if c.check=0 then qqd c c.act.toNat k i else c.check
theorem qdo{c:Ct}(h:c.check=0)(hfew:c.small=true):Mid c c.act.toNat:=by
 obtain⟨f1,f2,_⟩:=qcf hfew
 unfold Ct.check at h
 split at h
 .cases h
 .exact⟨by omega,by omega,by omega,f1,f2⟩
theorem ev41(c:Ct)(hfew:c.small=true)(k i:Int):ev pg (.call (.fn 41 [] []) [c.v,fv k i] [])=some { v:=num (qsi c k i),st:=⟨[],[]⟩ }:=by
 have h29:=ev43 c hfew
 have hM:=fun h:c.check=0=>qdo h hfew
 unfold qsi
 generalize c.check=e at *
 rw[qac,pg41]
 by_cases he:e=0
 .have h79:=ev104 (hM he) k i
  generalize qqd c c.act.toNat k i=e2 at *
  simp[ir41,h29,h79,he]
 .simp[ir41,h29,he]
theorem ev35(c:Ct)(hfew:c.small=true)(k i:Int):ev pg (.call (.fn 35 [] []) [c.v,fv k i] [])=some { v:=num (qsi c k i),st:=⟨[],[]⟩ }:=by
 have h69:=ev58 c hfew
 have hM:=fun h:c.check=0=>qdo h hfew
 unfold qsi
 generalize c.check=e at *
 rw[qac,pg35]
 by_cases he:e=0
 .have h80:=ev97 (hM he) k i
  generalize qqd c c.act.toNat k i=e2 at *
  simp[ir35,h69,h80,he]
 .simp[ir35,h69,he]
def qqp(c:Ct)(A k:Nat):Nat:=if k=2\/k=3 then qae c A else A
def qla(k n:Nat):List (Int×Int):=(List.range n).map fun(i:Nat)=>((k:Int),(i:Int))
def qjc(c:Ct)(A k:Nat):List (Int×Int):=(List.range k).flatMap fun j=>qla j (qqp c A j)
abbrev jft(p:Int×Int):List V:=[num p.1,num p.2]
theorem zbd(k n:Nat):qla k (n+1)=qla k n++[((k:Int),(n:Int))]:=by
 unfold qla
 rw[List.range_succ,List.map_append]
 rfl
theorem q4f(k n:Nat):(qla k n).length=n:=by simp[qla]
theorem qwu(c:Ct)(A k:Nat):qjc c A (k+1)=qjc c A k++qla k (qqp c A k):=by
 unfold qjc
 rw[List.range_succ,List.flatMap_append]
 simp
theorem zac{c:Ct}{A:Nat}(h:Mid c A)(k:Nat):qqp c A k<=172:=by
 obtain⟨_,h1,h2,h3,h4⟩:=h
 unfold qqp qae
 split<;>omega
theorem qvx{c:Ct}{A:Nat}(h:Mid c A):∀k,(qjc c A k).length<=172*k
 | 0=>by simp[qjc]
 | k+1=>by
  rw[qwu,jF,q4f]
  have h1:=qvx h k
  have h2:=zac h k
  omega
theorem zsx{c:Ct}{A:Nat}(h:Mid c A)(k:Nat):(if(k:Int)=2\/(k:Int)=3 then(qae c A:Int)else c.act)=(qqp c A k:Nat):=by
 have hA:=h.act
 unfold qqp
 by_cases hk:k=2\/k=3
 .rw[if_pos (by omega),if_pos hk]
 .rw[if_neg (by omega),if_neg hk,hA]
abbrev qgx(l:List (Int×Int)):V:=.imm (l.map jft)
def q4r(c:Ct):List (Int×Int):=if c.check=0 then qjc c c.act.toNat 6 else []
abbrev hK(c:Ct)(g m:Nat)(l:List (Int×Int))(t:H):H:=⟨0,.box c.cells⟩ :: ⟨0,.box (kC 1)⟩ :: kTa (⟨0,.arr 0 []⟩ :: ⟨g,.arr m (l.map jft)⟩ :: t)
structure Keep15(k:Nat)(st:List V):Prop where
 nn:qat st
 len:st.length=34
 t1:qai st 1=.bptr 0 0
 t14:qai st 14=.agg (kC 1)
 t15:qai st 15=num k
def z9o(c:Ct)(o:Ob)(k M:Nat)(l:List (Int×Int))(n:Nat)(st:St):Prop:=∃g m,st.h=hK c g m (l++qla k n) [o]/\(m=2\/m=0)/\Keep15 k st.s/\qai st.s 5=.sl 11 g m 0 (l++qla k n).length/\qai st.s 6=num k/\qai st.s 21=num M/\qai st.s 22=num n
def z9y(c:Ct)(o:Ob)(k M:Nat)(l:List (Int×Int))(r:R):Prop:=r.x=.exit 2/\∃g m,r.st.h=hK c g m (l++qla k M) [o]/\(m=2\/m=0)/\Keep15 k r.st.s/\qai r.st.s 5=.sl 11 g m 0 (l++qla k M).length
theorem zpq(c:Ct)(cells:List V)(hc13:qfo 13 cells=true)(hs13:cells.map (qcj 13)=cells)(k M:Nat)(l:List (Int×Int))(hM:M<=172)(hl2:l.length<=1100)(st:St)(h0:z9o c ⟨0,.box cells⟩ k M l 0 st):∃r,ev pg (.code (.going 13 L37_0) st)=some r/\z9y c ⟨0,.box cells⟩ k M l r:=by
 refine qaq (z9o c ⟨0,.box cells⟩ k M l) M (z9y c ⟨0,.box cells⟩ k M l) h0 ?_ ?_
 .rintro n ⟨s,hh⟩ hn ⟨g,m,rfl,hm,⟨hnn,hl,e1,e14,e15⟩,e5,e6,e21,e22⟩
  simp only at hl e1 e5 e6 e14 e15 e21 e22
  have hnl:∀j,qai s j ≠ .nils:=qar hnn
  have wn:=qab (n:=(n:Int)+1) (by omega) (by omega)
  have hn':(n:Int)<(M:Int):=by omega
  have hfn:=q4f k n
  have happ:l++qla k (n+1)=(l++qla k n)++[((k:Int),(n:Int))]:=by rw[zbd,List.append_assoc]
  have hlen:(l++qla k n).length<=2000:=by rw[jF];omega
  unfold z9o
  rw[happ]
  generalize l++qla k n=l1 at *
  have h47:(l1.length+1)*16<=140737488355328:=by omega
  rw[qad hl]
  simp[L37_0,List.range,List.range.loop,e1,e5,e6,e14,e15,e21,e22,hn',wn,hm,h47,hc13,hs13]
  exact⟨_,_,⟨rfl,rfl⟩,.inl rfl,⟨by simp[qat,hnl],rfl,rfl,rfl,rfl⟩,rfl,rfl⟩
 .rintro⟨s,hh⟩ ⟨g,m,rfl,hm,⟨hnn,hl,e1,e14,e15⟩,e5,e6,e21,e22⟩
  simp only at hl e1 e5 e6 e14 e15 e21 e22
  have hnl:∀j,qai s j ≠ .nils:=qar hnn
  unfold z9y
  generalize l++qla k M=l1 at *
  rw[qad hl]
  simp[L37_0,List.range,List.range.loop,e1,e5,e6,e14,e15,e21,e22]
  exact⟨_,_,⟨rfl,rfl⟩,hm,⟨by simp[qat,hnl],rfl,rfl,rfl,rfl⟩,rfl,rfl⟩
def I15(c:Ct)(A:Nat)(k:Nat)(st:St):Prop:=∃g m,st.h=hK c g m (qjc c A k) []/\(m=2\/m=0)/\Keep15 k st.s/\qai st.s 5=.sl 11 g m 0 (qjc c A k).length
def Q15(c:Ct)(A:Nat)(r:R):Prop:=r.x=.exit 0/\∃g m,r.st.h=hK c g m (qjc c A 6) []/\r.st.s.length=34/\qai r.st.s 5=.sl 11 g m 0 (qjc c A 6).length
def z0t(w:V):Prop:=w=.nilfn\/∃p,p<9/\w=.fn 178 [] [.bptr (p+1) 0,.bptr (p+2) 0]
theorem zvj(c:Ct)(g m:Nat)(l:List (Int×Int))(t:Txt)(b:Bool)(n:Int)(w:V)(hw:z0t w):qce (hK c g m l [⟨0,.box [.str t,.bool b,num n,w]⟩]):=by
 rcases hw with rfl | ⟨p,hp,rfl⟩
 .simp[qce,qbk]
 .have h1:p+1<13:=by omega
  have h2:p+2<13:=by omega
  simp[qce,qbk,h1,h2]
theorem z2e{c:Ct}{A:Nat}(h:Mid c A)(st:St)(h0:I15 c A 0 st):∃r,ev pg (.code (.going 12 L37_1) st)=some r/\Q15 c A r:=by
 refine qaq (I15 c A) 6 (Q15 c A) h0 ?_ ?_
 .rintro k ⟨s,hh⟩ hk ⟨g,m,rfl,hm,⟨hnn,hl,e1,e14,e15⟩,e5⟩
  simp only at hl e1 e5 e14 e15
  have hnl:∀j,qai s j ≠ .nils:=qar hnn
  have wk:=qab (n:=(k:Int)+1) (by omega) (by omega)
  have hk':(k:Int)<6:=by omega
  obtain⟨t,b,n,w,hkc,hbk,hw⟩:∃t b n w,((kC 1).drop (k*4)).take 4=[.str t,.bool b,num n,w]/\b=decide (k=2\/k=3)/\z0t w:=by
   rcases (by omega:k=0\/k=1\/k=2\/k=3\/k=4\/k=5)with rfl | rfl | rfl | rfl | rfl | rfl
   .exact⟨_,_,_,_,rfl,rfl,.inr ⟨1,by omega,rfl⟩⟩
   .exact⟨_,_,_,_,rfl,rfl,.inr ⟨3,by omega,rfl⟩⟩
   .exact⟨_,_,_,_,rfl,rfl,.inl rfl⟩
   .exact⟨_,_,_,_,rfl,rfl,.inl rfl⟩
   .exact⟨_,_,_,_,rfl,rfl,.inr ⟨5,by omega,rfl⟩⟩
   .exact⟨_,_,_,_,rfl,rfl,.inr ⟨7,by omega,rfl⟩⟩
  have hk4:4<=24-k*4:=by omega
  have hb:∀h,qcb h [w]=([w],h):=fun h=>by
   rcases hw with rfl | ⟨p,hp,rfl⟩<;>rfl
  have hlow:w.low 13=true:=by
   rcases hw with rfl | ⟨p,hp,rfl⟩
   .rfl
   .have h1:p+1<13:=by omega
    have h2:p+2<13:=by omega
    simp[h1,h2]
  have hscr:qcj 13 w=w:=by
   unfold qcj
   rw[if_pos hlow]
  have h68a:=ev99 h (zvj c g m (qjc c A k) t b n w hw) t b n w hb
  have h68b:=ev99 h (h:=[]) rfl t b n w hb
  have hmost:(if b=true then(qae c A:Int)else c.act)=(qqp c A k:Nat):=by
   rw[<-zsx h k,hbk]
   by_cases h23:k=2\/k=3
   .rw[if_pos (by simpa using h23),if_pos (by omega)]
   .rw[if_neg (by simpa using h23),if_neg (by omega)]
  rw[hmost]at h68a h68b
  have hM172:=zac h k
  have hfl:=qvx h k
  have hsucc:=qwu c A k
  have hloop:=zpq c [.str t,.bool b,num n,w] (by simp[hlow]) (by simp only[List.map_cons,List.map_nil,hscr];rfl) k (qqp c A k) (qjc c A k) hM172 (by omega)
  have hI:∀st:St,(st.h=hK c g m (qjc c A k) [⟨0,.box [.str t,.bool b,num n,w]⟩]/\Keep15 k st.s/\qai st.s 5=.sl 11 g m 0 (qjc c A k).length/\qai st.s 6=num k/\qai st.s 21=num (qqp c A k:Nat)/\qai st.s 22=num 0)->z9o c ⟨0,.box [.str t,.bool b,num n,w]⟩ k (qqp c A k) (qjc c A k) 0 st:=fun st hst=>by
   refine⟨g,m,?_,hm,hst.2.1,?_,hst.2.2.2.1,hst.2.2.2.2.1,hst.2.2.2.2.2⟩
   .rw[hst.1];simp[qla]
   .rw[hst.2.2.1];simp[qla]
  unfold z9y at hloop
  rw[<-hsucc]at hloop
  unfold I15
  generalize qjc c A k=l at *
  generalize qjc c A (k+1)=l' at *
  generalize qqp c A k=M at *
  rw[qad hl]
  rcases hw with rfl | ⟨p,hp,rfl⟩
  .simp[L37_1,List.range,List.range.loop,e1,e5,e14,e15,hk,hk',hk4,hkc,h68b,qag,hnl]
   generalize hr:ev pg (.code (.going 13 L37_0) _)=o
   obtain⟨r,rfl,hx,g',m',hrh,hm',⟨hrn,hrl,r1,r14,r15⟩,r5⟩:∃r,o=some r/\_:=by
    rw[<-hr]
    exact hloop _ (hI _ ⟨rfl,⟨by simp[qat,hnl],rfl,rfl,rfl,rfl⟩,rfl,rfl,rfl,rfl⟩)
   simp[hx,hrh,hrl,r15,wk]
   refine⟨g',m',⟨rfl,rfl⟩,hm',⟨?_,?_,?_,?_,?_⟩,?_⟩
   .apply qkn
    repeat (first | with_reducible exact hrn | with_reducible refine qcw ?_ (by simp))
   .simp[hrl]
   .simp[r1]
   .simp[r14]
   .simp[hrl]
   .simp[r5]
  .simp[L37_1,List.range,List.range.loop,e1,e5,e14,e15,hk,hk',hk4,hkc,h68a,qag,hnl]
   generalize hr:ev pg (.code (.going 13 L37_0) _)=o
   obtain⟨r,rfl,hx,g',m',hrh,hm',⟨hrn,hrl,r1,r14,r15⟩,r5⟩:∃r,o=some r/\_:=by
    rw[<-hr]
    exact hloop _ (hI _ ⟨rfl,⟨by simp[qat,hnl],rfl,rfl,rfl,rfl⟩,rfl,rfl,rfl,rfl⟩)
   simp[hx,hrh,hrl,r15,wk]
   refine⟨g',m',⟨rfl,rfl⟩,hm',⟨?_,?_,?_,?_,?_⟩,?_⟩
   .apply qkn
    repeat (first | with_reducible exact hrn | with_reducible refine qcw ?_ (by simp))
   .simp[hrl]
   .simp[r1]
   .simp[r14]
   .simp[hrl]
   .simp[r5]
 .rintro⟨s,hh⟩ ⟨g,m,rfl,hm,⟨hnn,hl,e1,e14,e15⟩,e5⟩
  simp only at hl e1 e5 e14 e15
  unfold Q15
  generalize qjc c A 6=l at *
  rw[qad hl]
  simp[L37_1,List.range,List.range.loop,e1,e5,e14,e15]
theorem ev37(c:Ct)(hfew:c.small=true):ev pg (.call (.fn 37 [] []) [c.v] [])=some { v:=.tup [qgx (q4r c),num c.check],st:=⟨[],[]⟩ }:=by
 have h29:=ev43 c hfew
 have hM:=fun h:c.check=0=>qdo h hfew
 have h67:=ev98 [⟨0,.box c.cells⟩]
 unfold q4r
 generalize c.check=e at *
 rw[qac,pg37]
 by_cases he:e=0
 .have hloop:=z2e (hM he)
  have hI:∀st:St,(st.h=hK c 0 0 [] []/\Keep15 0 st.s/\qai st.s 5=.sl 11 0 0 0 0)->I15 c c.act.toNat 0 st:=fun st hst=>by
   refine⟨0,0,?_,.inr rfl,hst.2.1,?_⟩
   .rw[hst.1];rfl
   .rw[hst.2.2];rfl
  unfold Q15 at hloop
  generalize qjc c c.act.toNat 6=l at *
  rw[if_pos he]
  simp[ir37,h29,h67,he,qag]
  generalize hr:ev pg (.code (.going 12 L37_1) _)=o
  obtain⟨r,rfl,hx,g,m,hh,hl,h5⟩:∃r,o=some r/\_:=by
   rw[<-hr]
   exact hloop _ (hI _ ⟨by simp,⟨by simp[qat],by simp,by simp,by simp,by simp⟩,by simp⟩)
  simp[hx,hh,hl,h5]
 .simp[ir37,h29,he]
def qfx(k:Int):Int:=if k=2 then 1 else 0
def pil(c:Ct)(k i:Int)(j:Nat):Int×Int :=
 if k=2\/k=3 then(if c.plus.getD j 0=i then qfx k else -1,if c.minus.getD j 0=i then qfx k else -1)
 else if(j:Int)=i then(if k=0 then(0,-1)else if k=1 then(-1,0)else if k=4 then(1,0)else(0,1))else(-1,-1)
def qkk(c:Ct)(k i:Int)(n:Nat):List (Int×Int):=(List.range n).map (pil c k i)
theorem q2z(c:Ct)(k i:Int)(n:Nat):qkk c k i (n+1)=qkk c k i n++[pil c k i n]:=by
 unfold qkk
 rw[List.range_succ,List.map_append]
 rfl
theorem qtf(c:Ct)(k i:Int)(n:Nat):(qkk c k i n).length=n:=by simp[qkk]
theorem ev178{h:H}{a b:Nat}{x y:Int}(ha:h[a]?=some ⟨0,.box [num x]⟩)(hb:h[b]?=some ⟨0,.box [num y]⟩)(hcl:qce h):ev pg (.call (.fn 178 [] [.bptr a 0,.bptr b 0]) [] h)=some { v:=.agg [num x,num y],st:=⟨[],h⟩ }:=by
 have ha':=qgp [⟨0,.box [num 0,num 0]⟩] ha
 have hb':=qgp [⟨0,.box [num 0,num 0]⟩] hb
 have hck:=qcx hcl [⟨0,.box [num x,num y]⟩]
 generalize hn:h.length=N at *
 have a0:=jdm hn
 rw[qac,pg178]
 simp[-qap,-getElem?_pos,ir178,hn,a0,ha',hb',hck]
abbrev h72(c:Ct)(k i:Int)(cells:List V)(g m:Nat)(l:List (Int×Int))(t:H):H:=⟨0,.box c.cells⟩ :: ⟨0,.box [num k,num i]⟩ :: ⟨0,.box cells⟩ :: ⟨0,.box (kC 3)⟩ :: kTa (⟨0,.arr 0 []⟩ :: ⟨g,.arr m (l.map jft)⟩ :: t)
structure Keep72(c:Ct)(j:Nat)(st:List V):Prop where
 nn:qat st
 len:st.length=63
 t2:qai st 2=.bptr 0 0
 t3:qai st 3=.bptr 1 0
 t5:qai st 5=.bptr 2 0
 t14:qai st 14=num c.act
 t15:qai st 15=num j
def I72(c:Ct)(k i:Int)(cells:List V)(j:Nat)(st:St):Prop:=∃g m,st.h=h72 c k i cells g m (qkk c k i j) []/\(m=2\/m=0)/\Keep72 c j st.s/\qai st.s 6=.sl 13 g m 0 (qkk c k i j).length
def Q72(c:Ct)(A:Nat)(k i:Int)(cells:List V)(r:R):Prop:=r.x=.exit 0/\∃g m,r.st.h=h72 c k i cells g m (qkk c k i A) []/\r.st.s.length=63/\qai r.st.s 6=.sl 13 g m 0 (qkk c k i A).length
theorem zxz{c:Ct}{A:Nat}(h:Mid c A)(hp:c.plus.length=A)(hm:c.minus.length=A)(k i:Int)(hk:k=2\/k=3)(t:Txt)(st:St)(h0:I72 c k i [.str t,.bool true,num (qfx k),.nilfn] 0 st):∃r,ev pg (.code (.going 14 L101_0) st)=some r/\Q72 c A k i [.str t,.bool true,num (qfx k),.nilfn] r:=by
 have hA6:=h.hi
 have hA:=h.act
 refine qaq (I72 c k i [.str t,.bool true,num (qfx k),.nilfn]) A (Q72 c A k i [.str t,.bool true,num (qfx k),.nilfn]) h0 ?_ ?_
 .rintro j ⟨s,hh⟩ hj ⟨g,m,rfl,hm2,⟨hnn,hl,e2,e3,e5,e14,e15⟩,e6⟩
  simp only at hl e2 e3 e5 e6 e14 e15
  have hnl:∀j,qai s j ≠ .nils:=qar hnn
  have wj:=qab (n:=(j:Int)+1) (by omega) (by omega)
  have hj':(j:Int)<c.act:=by omega
  have hlen:=qtf c k i j
  have hp':j<c.plus.length:=by omega
  have hm':j<c.minus.length:=by omega
  have e0:∀p,pil c k i j=p->qkk c k i (j+1)=qkk c k i j++[p]:=fun p e=>by rw[q2z,e]
  unfold I72
  generalize qkk c k i j=l at *
  generalize qkk c k i (j+1)=l' at *
  have h47:(l.length+1)*16<=140737488355328:=by omega
  have pd:c.plus.getD j 0=c.plus[j]:=by simp[hp']
  have md:c.minus.getD j 0=c.minus[j]:=by simp[hm']
  unfold pil at e0
  rw[pd,md,if_pos hk]at e0
  generalize qfx k=v at *
  rw[qad hl]
  by_cases b1:c.plus[j]=i
  .by_cases b2:c.minus[j]=i
   .rw[if_pos b1,if_pos b2]at e0
    have e0:=e0 _ rfl
    simp[L101_0,List.range,List.range.loop,e2,e3,e5,e6,e14,e15,hj',hp',hm',wj,hm2,h47,b1,b2]
    exact⟨_,_,⟨rfl,rfl,by rw[e0];simp⟩,.inl rfl,⟨by simp[qat,hnl],rfl,rfl,rfl,rfl,rfl,rfl⟩,rfl,rfl,by rw[e0];simp⟩
   .have b2b:(c.minus[j]==i)=false:=by simpa using b2
    rw[if_pos b1,if_neg b2]at e0
    have e0:=e0 _ rfl
    simp[L101_0,List.range,List.range.loop,e2,e3,e5,e6,e14,e15,hj',hp',hm',wj,hm2,h47,b1,b2b]
    exact⟨_,_,⟨rfl,rfl,by rw[e0];simp⟩,.inl rfl,⟨by simp[qat,hnl],rfl,rfl,rfl,rfl,rfl,rfl⟩,rfl,rfl,by rw[e0];simp⟩
  .have b1b:(c.plus[j]==i)=false:=by simpa using b1
   by_cases b2:c.minus[j]=i
   .rw[if_neg b1,if_pos b2]at e0
    have e0:=e0 _ rfl
    simp[L101_0,List.range,List.range.loop,e2,e3,e5,e6,e14,e15,hj',hp',hm',wj,hm2,h47,b1b,b2]
    exact⟨_,_,⟨rfl,rfl,by rw[e0];simp⟩,.inl rfl,⟨by simp[qat,hnl],rfl,rfl,rfl,rfl,rfl,rfl⟩,rfl,rfl,by rw[e0];simp⟩
   .have b2b:(c.minus[j]==i)=false:=by simpa using b2
    rw[if_neg b1,if_neg b2]at e0
    have e0:=e0 _ rfl
    simp[L101_0,List.range,List.range.loop,e2,e3,e5,e6,e14,e15,hj',hp',hm',wj,hm2,h47,b1b,b2b]
    exact⟨_,_,⟨rfl,rfl,by rw[e0];simp⟩,.inl rfl,⟨by simp[qat,hnl],rfl,rfl,rfl,rfl,rfl,rfl⟩,rfl,rfl,by rw[e0];simp⟩
 .rintro⟨s,hh⟩ ⟨g,m,rfl,hm2,⟨hnn,hl,e2,e3,e5,e14,e15⟩,e6⟩
  simp only at hl e2 e3 e5 e6 e14 e15
  unfold Q72
  generalize qkk c k i A=l at *
  rw[qad hl]
  simp[L101_0,List.range,List.range.loop,e2,e3,e5,e6,e14,e15,hA]
def zrt(k:Int):Int×Int:=if k=0 then(0,-1)else if k=1 then(-1,0)else if k=4 then(1,0)else(0,1)
theorem zqa{c:Ct}{A:Nat}(h:Mid c A)(k i:Int)(hk:¬(k=2\/k=3))(t:Txt)(p q:Nat)(hpq:p<12/\q<12)(hpx:∀g m l z,(h72 c k i [.str t,.bool false,num 0,.fn 178 [] [.bptr p 0,.bptr q 0]] g m l z)[p]?=some ⟨0,.box [num (zrt k).1]⟩)(hqy:∀g m l z,(h72 c k i [.str t,.bool false,num 0,.fn 178 [] [.bptr p 0,.bptr q 0]] g m l z)[q]?=some ⟨0,.box [num (zrt k).2]⟩)(st:St)(h0:I72 c k i [.str t,.bool false,num 0,.fn 178 [] [.bptr p 0,.bptr q 0]] 0 st):∃r,ev pg (.code (.going 14 L101_0) st)=some r/\Q72 c A k i [.str t,.bool false,num 0,.fn 178 [] [.bptr p 0,.bptr q 0]] r:=by
 have hA6:=h.hi
 have hA:=h.act
 have hp14:p<14:=by omega
 have hq14:q<14:=by omega
 have hp15:p<15:=by omega
 have hq15:q<15:=by omega
 refine qaq (I72 c k i [.str t,.bool false,num 0,.fn 178 [] [.bptr p 0,.bptr q 0]]) A (Q72 c A k i [.str t,.bool false,num 0,.fn 178 [] [.bptr p 0,.bptr q 0]]) h0 ?_ ?_
 .rintro j ⟨s,hh⟩ hj ⟨g,m,rfl,hm2,⟨hnn,hl,e2,e3,e5,e14,e15⟩,e6⟩
  simp only at hl e2 e3 e5 e6 e14 e15
  have hnl:∀j,qai s j ≠ .nils:=qar hnn
  have wj:=qab (n:=(j:Int)+1) (by omega) (by omega)
  have hj':(j:Int)<c.act:=by omega
  have hlen:=qtf c k i j
  have e0:∀p,pil c k i j=p->qkk c k i (j+1)=qkk c k i j++[p]:=fun p e=>by rw[q2z,e]
  have h113:=ev178 (hpx g m (qkk c k i j) [⟨0,.box [num (-1),num (-1)]⟩]) (hqy g m (qkk c k i j) [⟨0,.box [num (-1),num (-1)]⟩]) (by simp[qce,qbk,hp15,hq15])
  unfold I72
  generalize qkk c k i j=l at *
  generalize qkk c k i (j+1)=l' at *
  have h47:(l.length+1)*16<=140737488355328:=by omega
  have hpil:pil c k i j=if(j:Int)=i then((zrt k).1,(zrt k).2)else(-1,-1):=by
   unfold pil zrt
   rw[if_neg hk]
  rw[hpil]at e0
  generalize (zrt k).1=x at *
  generalize (zrt k).2=y at *
  rw[qad hl]
  by_cases b1:(j:Int)=i
  .rw[if_pos b1]at e0
   subst b1
   have e0:=e0 _ rfl
   simp[L101_0,List.range,List.range.loop,e2,e3,e5,e6,e14,e15,hj',wj,hm2,h47,h113,hp14,hq14]
   exact⟨_,_,⟨rfl,rfl,by rw[e0];simp⟩,.inl rfl,⟨by simp[qat,hnl],rfl,rfl,rfl,rfl,rfl,rfl⟩,rfl,rfl,by rw[e0];simp⟩
  .have b1b:((j:Int)==i)=false:=by simpa using b1
   rw[if_neg b1]at e0
   have e0:=e0 _ rfl
   simp[L101_0,List.range,List.range.loop,e2,e3,e5,e6,e14,e15,hj',wj,hm2,h47,b1b,hp14,hq14]
   exact⟨_,_,⟨rfl,rfl,by rw[e0];simp⟩,.inl rfl,⟨by simp[qat,hnl],rfl,rfl,rfl,rfl,rfl,rfl⟩,rfl,rfl,by rw[e0];simp⟩
 .rintro⟨s,hh⟩ ⟨g,m,rfl,hm2,⟨hnn,hl,e2,e3,e5,e14,e15⟩,e6⟩
  simp only at hl e2 e3 e5 e6 e14 e15
  unfold Q72
  generalize qkk c k i A=l at *
  rw[qad hl]
  simp[L101_0,List.range,List.range.loop,e2,e3,e5,e6,e14,e15,hA]
theorem ev101L{c:Ct}{A:Nat}(h:Mid c A)(hp:c.plus.length=A)(hm:c.minus.length=A)(k i:Int)(hk:k=2\/k=3):ev pg (.call (.fn 101 [] []) [c.v,fv k i] [])=some { v:=qgx (qkk c k i A),st:=⟨[],[]⟩ }:=by
 have h67:=ev98 [⟨0,.box c.cells⟩,⟨0,.box [num k,num i]⟩,⟨0,.box [.str [],.bool false,.int .i64 0,.nilfn]⟩]
 have hloop:=fun t=>zxz h hp hm k i hk t
 have hI:∀cells,∀st:St,(st.h=h72 c k i cells 0 0 [] []/\Keep72 c 0 st.s/\qai st.s 6=.sl 13 0 0 0 0)->I72 c k i cells 0 st:=fun cells st hst=>by
  refine⟨0,0,?_,.inr rfl,hst.2.1,?_⟩
  .rw[hst.1];rfl
  .rw[hst.2.2];rfl
 unfold Q72 at hloop
 generalize qkk c k i A=l at *
 rw[qac,pg101]
 rcases hk with rfl | rfl
 .have hloop:=hloop t2t
  simp[qaa,exT,qaf,ir101,h67,qag]
  generalize hr:ev pg (.code (.going 14 L101_0) _)=o
  obtain⟨r,rfl,hx,g,m,hh,hl,h6⟩:∃r,o=some r/\_:=by
   rw[<-hr]
   exact hloop _ (hI _ _ ⟨by simp[qfx],⟨by simp[qat],by simp,by simp,by simp,by simp,by simp,by simp⟩,by simp⟩)
  simp[hx,hh,hl,h6]
 .have hloop:=hloop t3t
  simp[qaa,exT,qaf,ir101,h67,qag]
  generalize hr:ev pg (.code (.going 14 L101_0) _)=o
  obtain⟨r,rfl,hx,g,m,hh,hl,h6⟩:∃r,o=some r/\_:=by
   rw[<-hr]
   exact hloop _ (hI _ _ ⟨by simp[qfx],⟨by simp[qat],by simp,by simp,by simp,by simp,by simp,by simp⟩,by simp⟩)
  simp[hx,hh,hl,h6]
theorem ev101U{c:Ct}{A:Nat}(h:Mid c A)(k i:Int)(hk:k=0\/k=1\/k=4\/k=5):ev pg (.call (.fn 101 [] []) [c.v,fv k i] [])=some { v:=qgx (qkk c k i A),st:=⟨[],[]⟩ }:=by
 have h67:=ev98 [⟨0,.box c.cells⟩,⟨0,.box [num k,num i]⟩,⟨0,.box [.str [],.bool false,.int .i64 0,.nilfn]⟩]
 have hloop:=zqa h k i (by omega)
 have hI:∀cells,∀st:St,(st.h=h72 c k i cells 0 0 [] []/\Keep72 c 0 st.s/\qai st.s 6=.sl 13 0 0 0 0)->I72 c k i cells 0 st:=fun cells st hst=>by
  refine⟨0,0,?_,.inr rfl,hst.2.1,?_⟩
  .rw[hst.1];rfl
  .rw[hst.2.2];rfl
 unfold Q72 at hloop
 generalize qkk c k i A=l at *
 rw[qac,pg101]
 rcases hk with rfl | rfl | rfl | rfl
 .have hloop:=hloop t0t 4 5 (by omega) (fun _ _ _ _=>rfl) (fun _ _ _ _=>rfl)
  simp[qaa,exT,qaf,ir101,h67,qag]
  generalize hr:ev pg (.code (.going 14 L101_0) _)=o
  obtain⟨r,rfl,hx,g,m,hh,hl,h6⟩:∃r,o=some r/\_:=by
   rw[<-hr]
   exact hloop _ (hI _ _ ⟨by simp,⟨by simp[qat],by simp,by simp,by simp,by simp,by simp,by simp⟩,by simp⟩)
  simp[hx,hh,hl,h6]
 .have hloop:=hloop t1t 6 7 (by omega) (fun _ _ _ _=>rfl) (fun _ _ _ _=>rfl)
  simp[qaa,exT,qaf,ir101,h67,qag]
  generalize hr:ev pg (.code (.going 14 L101_0) _)=o
  obtain⟨r,rfl,hx,g,m,hh,hl,h6⟩:∃r,o=some r/\_:=by
   rw[<-hr]
   exact hloop _ (hI _ _ ⟨by simp,⟨by simp[qat],by simp,by simp,by simp,by simp,by simp,by simp⟩,by simp⟩)
  simp[hx,hh,hl,h6]
 .have hloop:=hloop t4t 8 9 (by omega) (fun _ _ _ _=>rfl) (fun _ _ _ _=>rfl)
  simp[qaa,exT,qaf,ir101,h67,qag]
  generalize hr:ev pg (.code (.going 14 L101_0) _)=o
  obtain⟨r,rfl,hx,g,m,hh,hl,h6⟩:∃r,o=some r/\_:=by
   rw[<-hr]
   exact hloop _ (hI _ _ ⟨by simp,⟨by simp[qat],by simp,by simp,by simp,by simp,by simp,by simp⟩,by simp⟩)
  simp[hx,hh,hl,h6]
 .have hloop:=hloop t5t 10 11 (by omega) (fun _ _ _ _=>rfl) (fun _ _ _ _=>rfl)
  simp[qaa,exT,qaf,ir101,h67,qag]
  generalize hr:ev pg (.code (.going 14 L101_0) _)=o
  obtain⟨r,rfl,hx,g,m,hh,hl,h6⟩:∃r,o=some r/\_:=by
   rw[<-hr]
   exact hloop _ (hI _ _ ⟨by simp,⟨by simp[qat],by simp,by simp,by simp,by simp,by simp,by simp⟩,by simp⟩)
  simp[hx,hh,hl,h6]
theorem ev101{c:Ct}{A:Nat}(h:Mid c A)(hp:c.plus.length=A)(hm:c.minus.length=A)(k i:Int)(hk:0<=k/\k<6):ev pg (.call (.fn 101 [] []) [c.v,fv k i] [])=some { v:=qgx (qkk c k i A),st:=⟨[],[]⟩ }:=by
 by_cases h23:k=2\/k=3
 .exact ev101L h hp hm k i h23
 .exact ev101U h k i (by omega)
end Go.Proofs.YtddeacahiilikaaGreat
