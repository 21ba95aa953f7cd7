/- Pilots, by. -/
import Derived.Test.YtggbaapfbgjaeaaGreatDoorFCq3
set_option linter.all false
namespace Go.Proofs.YtggbaapfbgjaeaaGreatDoor
open Go Go.Am Go.Proofs
set_option maxRecDepth 100000
theorem ev204(a b:Int)(h:H):ev pg (.call (fnq 204) [num a,num b] h)=some { v:=.fn 205 [] [.bptr h.length 0,.bptr (h.length+1) 0],st:=⟨[],h++[⟨0,.box [num a]⟩,⟨0,.box [num b]⟩]⟩ }:=by rw[qaa,pg204.1];simp[ir204]
abbrev kTa(t:H):H:=⟨0,.box [num 0]⟩ :: ⟨0,.box [num (-1)]⟩ :: ⟨0,.box [num (-1)]⟩ :: ⟨0,.box [num 0]⟩ :: ⟨0,.box [num 1]⟩ :: ⟨0,.box [num 0]⟩ :: ⟨0,.box [num 0]⟩ :: ⟨0,.box [num 1]⟩ :: t
abbrev t0t:Txt:=[32,115,116,117,99,107,32,105,110]
abbrev t1t:Txt:=[32,115,116,117,99,107,32,111,117,116]
abbrev t2t:Txt:=[32,116,114,117,101]
abbrev t3t:Txt:=[32,102,97,108,115,101]
abbrev t4t:Txt:=[32,118,97,108,118,101,32,116,114,117,101]
abbrev t5t:Txt:=[32,118,97,108,118,101,32,102,97,108,115,101]
abbrev kC(n:Nat):List V:=[.str t0t,.bool false,num 0,.fn 205 [] [.bptr (n+1) 0,.bptr (n+2) 0],.str t1t,.bool false,num 0,.fn 205 [] [.bptr (n+3) 0,.bptr (n+4) 0],.str t2t,.bool true,num 1,.nilfn,.str t3t,.bool true,num 0,.nilfn,.str t4t,.bool false,num 0,.fn 205 [] [.bptr (n+5) 0,.bptr (n+6) 0],.str t5t,.bool false,num 0,.fn 205 [] [.bptr (n+7) 0,.bptr (n+8) 0]]
theorem ev169(h:H):ev pg (.call (fnq 169) [] h)=some { v:=.agg (kC h.length),st:=⟨[],h++(⟨0,.box (kC h.length)⟩ :: kTa [])⟩ }:=by have h112:=ev204;rw[qaa,pg169.1];simp[ir169,h112]
theorem ev203{c:Ct}{A:Nat}(hM:Mid c A){h:H}(hcl:calm h)(t:Txt)(b:Bool)(n:Int)(w:V)(hw:∀h,qcb h [w]=([w],h)):ev pg (.call (fnq 203) [c.v,.agg [.str t,.bool b,num n,w]] h)=some { v:=num (if b=true then(qad c A:Int)else c.act),st:=⟨[],h⟩ }:=by
 have h73:=ev171 hM;have hck:=qef hcl [⟨0,.box c.cells⟩,⟨0,.box [.str t,.bool b,num n,w]⟩];generalize hn:h.length=N at *;rw[qaa,pg203.1];cases b with
 | true =>simp[-qde,ir203,hn,hw,h73,hck]
 | false =>simp[-qde,ir203,hn,hw,hck]
abbrev fv(k i:Int):V:=.agg [num k,num i]
def qum(c:Ct)(A:Nat)(k i:Int):Int:=if k<0\/6<=k then 1 else if i<0\/(if k=2\/k=3 then(qad c A:Int)else c.act)<=i then 2 else 0
theorem ev168{c:Ct}{A:Nat}(hM:Mid c A)(k i:Int):ev pg (.call (fnq 168) [c.v,fv k i] [])=some (rvq (num (qum c A k i))):=by
 have h67:=ev169 [⟨0,.box c.cells⟩,⟨0,.box [num k,num i]⟩];rw[qaa,pg168.1];unfold qum;by_cases h1:k<0
 .simp[ir168,h67,h1]
 by_cases h2:6<=k
 .simp[ir168,h67,h1,h2]
 rw[if_neg (by omega)];by_cases h3:i<0
 .simp[qab,exT,qag,ir168,h67,h1,h2,h3]
 have hcl:∀k i:Int,calm (⟨0,.box c.cells⟩ :: ⟨0,.box [num k,num i]⟩ :: ⟨0,.box (kC 2)⟩ :: kTa [⟨0,.box (kC 2)⟩]):=fun k i=>by simp[calm,qbx]
 have hb:∀(w:V),w=.nilfn\/(∃caps,w=.fn 205 [] caps)->∀h,qcb h [w]=([w],h):=fun w hw h=>by rcases hw with rfl | ⟨caps,rfl⟩<;>rfl
 have h68:=fun(k:Int) t b n w hw=>ev203 hM (hcl k i) t b n w (hb w hw);have h68n:=fun t b n=>ev203 hM (h:=[]) rfl t b n .nilfn (hb .nilfn (.inl rfl));generalize qad c A=N at *;rcases (by omega:k=0\/k=1\/k=2\/k=3\/k=4\/k=5)with rfl | rfl | rfl | rfl | rfl | rfl
 .have h68:=h68 0 t0t false 0 (.fn 205 [] [.bptr 3 0,.bptr 4 0]) (.inr ⟨_,rfl⟩);by_cases hi:c.act<=i
  .simp[qab,exT,qag,ir168,h67,h3,h68,hi]
  .simp[qab,exT,qag,ir168,h67,h3,h68,hi]
 .have h68:=h68 1 t1t false 0 (.fn 205 [] [.bptr 5 0,.bptr 6 0]) (.inr ⟨_,rfl⟩);by_cases hi:c.act<=i
  .simp[qab,exT,qag,ir168,h67,h3,h68,hi]
  .simp[qab,exT,qag,ir168,h67,h3,h68,hi]
 .have h68:=h68n t2t true 1;by_cases hi:(N:Int)<=i
  .simp[qab,exT,qag,ir168,h67,h3,h68,hi]
  .simp[qab,exT,qag,ir168,h67,h3,h68,hi]
 .have h68:=h68n t3t true 0;by_cases hi:(N:Int)<=i
  .simp[qab,exT,qag,ir168,h67,h3,h68,hi]
  .simp[qab,exT,qag,ir168,h67,h3,h68,hi]
 .have h68:=h68 4 t4t false 0 (.fn 205 [] [.bptr 7 0,.bptr 8 0]) (.inr ⟨_,rfl⟩);by_cases hi:c.act<=i
  .simp[qab,exT,qag,ir168,h67,h3,h68,hi]
  .simp[qab,exT,qag,ir168,h67,h3,h68,hi]
 .have h68:=h68 5 t5t false 0 (.fn 205 [] [.bptr 9 0,.bptr 10 0]) (.inr ⟨_,rfl⟩);by_cases hi:c.act<=i
  .simp[qab,exT,qag,ir168,h67,h3,h68,hi]
  .simp[qab,exT,qag,ir168,h67,h3,h68,hi]
theorem ev114(k:Int):ev pg (.call (fnq 114) [num k] [])=some (rvq (.bool (decide (k=2\/k=3)))):=by
 rw[qaa,pg114.1];by_cases h2:k=2
 .simp[ir114,h2]
 .have h2b:(k==2)=false:=by simpa using h2
  by_cases h3:k=3
  .simp[ir114,h3]
  .have h3b:(k==3)=false:=by simpa using h3
   simp[ir114,h2,h2b,h3,h3b]
theorem ev156{c:Ct}{A:Nat}(hM:Mid c A)(k:Int):ev pg (.call (fnq 156) [c.v,num k] [])=some (rvq (num (if k=2\/k=3 then(qad c A:Int)else c.act))):=by
 have h37:=ev116 hM;have h74:=ev114 k;generalize qad c A=N at *;rw[qaa,pg156.1];by_cases h:k=2\/k=3
 .simp only[decide_eq_true h]at h74;rw[if_pos h];simp[ir156,h74,h37]
 .simp only[decide_eq_false h]at h74;rw[if_neg h];simp[ir156,h74]
theorem ev113{c:Ct}{A:Nat}(hM:Mid c A)(k i:Int):ev pg (.call (fnq 113) [c.v,fv k i] [])=some (rvq (num (qum c A k i))):=by
 have h117:=ev156 hM k;unfold qum;generalize (if k=2\/k=3 then(qad c A:Int)else c.act)=m at *;rw[qaa,pg113.1];by_cases h1:k<0
 .simp[ir113,h1]
 by_cases h2:6<=k
 .simp[ir113,h1,h2]
 rw[if_neg (by omega)];by_cases h3:i<0
 .simp[qab,exT,qag,ir113,h1,h2,h3]
 by_cases h4:m<=i
 .simp[qab,exT,qag,ir113,h117,h1,h2,h3,h4]
 .simp[qab,exT,qag,ir113,h117,h1,h2,h3,h4]
def q2c(c:Ct)(k i:Int):Int:=if c.check=0 then qum c c.act.toNat k i else c.check
theorem qfx{c:Ct}(h:c.check=0)(hfew:c.small=true):Mid c c.act.toNat:=by
 obtain⟨f1,f2,_⟩:=qcd hfew;unfold Ct.check at h;split at h
 .cases h
 .exact⟨by omega,by omega,by omega,f1,f2⟩
theorem ev129(c:Ct)(hfew:c.small=true)(k i:Int):ev pg (.call (fnq 129) [c.v,fv k i] [])=some (rvq (num (q2c c k i))):=by
 have h29:=ev44 c hfew;have hM:=fun h:c.check=0=>qfx h hfew;unfold q2c;generalize c.check=e at *;rw[qaa,pg129.1];by_cases he:e=0
 .have h79:=ev168 (hM he) k i;generalize qum c c.act.toNat k i=e2 at *;simp[ir129,h29,h79,he]
 .simp[ir129,h29,he]
theorem ev73(c:Ct)(hfew:c.small=true)(k i:Int):ev pg (.call (fnq 73) [c.v,fv k i] [])=some (rvq (num (q2c c k i))):=by
 have h69:=ev61 c hfew;have hM:=fun h:c.check=0=>qfx h hfew;unfold q2c;generalize c.check=e at *;rw[qaa,pg73.1];by_cases he:e=0
 .have h80:=ev113 (hM he) k i;generalize qum c c.act.toNat k i=e2 at *;simp[ir73,h69,h80,he]
 .simp[ir73,h69,he]
abbrev zyf(p:Int×Int):List V:=[num p.1,num p.2]
abbrev h70(c:Ct)(g m:Nat)(l:List (Int×Int)):H:=[⟨0,.box c.cells⟩,⟨0,.arr 0 []⟩,⟨g,.arr m (l.map zyf)⟩]
abbrev qjp(l:List (Int×Int)):V:=.imm (l.map zyf)
abbrev hK(c:Ct)(g m:Nat)(l:List (Int×Int))(t:H):H:=⟨0,.box c.cells⟩ :: ⟨0,.box (kC 1)⟩ :: kTa (⟨0,.arr 0 []⟩ :: ⟨g,.arr m (l.map zyf)⟩ :: t)
def qcu(k:Int):Int:=if k=2 then 1 else 0
def pil(c:Ct)(k i:Int)(j:Nat):Int×Int :=
 if k=2\/k=3 then(if c.plus.getD j 0=i then qcu k else -1,if c.minus.getD j 0=i then qcu k else -1)
 else if(j:Int)=i then(if k=0 then(0,-1)else if k=1 then(-1,0)else if k=4 then(1,0)else(0,1))else(-1,-1)
def qgs(c:Ct)(k i:Int)(n:Nat):List (Int×Int):=(List.range n).map (pil c k i)
theorem qxs(c:Ct)(k i:Int)(n:Nat):qgs c k i (n+1)=qgs c k i n++[pil c k i n]:=by unfold qgs;rw[List.range_succ,List.map_append];rfl
theorem qou(c:Ct)(k i:Int)(n:Nat):(qgs c k i n).length=n:=by simp[qgs]
structure Keep78(j:Nat)(st:List V):Prop where
 nn:qaq st
 len:st.length=63
 t2:qah st 2=.bptr 0 0
 t3:qah st 3=.bptr 1 0
 t6:qah st 6=num j
abbrev h78(c:Ct)(k i:Int)(g m:Nat)(l:List (Int×Int)):H:=[⟨0,.box c.cells⟩,⟨0,.box [num k,num i]⟩,⟨0,.arr 0 []⟩,⟨g,.arr m (l.map zyf)⟩]
def I78(c:Ct)(k i:Int)(j:Nat)(st:St):Prop:=∃g m,st.h=h78 c k i g m (qgs c k i j)/\(m=2\/m=0)/\Keep78 j st.s/\qah st.s 5=.sl 3 g m 0 (qgs c k i j).length
def Q78(c:Ct)(A:Nat)(k i:Int)(r:R):Prop:=r.x=.exit 0/\∃g m,r.st.h=h78 c k i g m (qgs c k i A)/\r.st.s.length=63/\qah r.st.s 5=.sl 3 g m 0 (qgs c k i A).length
set_option maxHeartbeats 2000000 in
theorem zyz{c:Ct}{A:Nat}(h:Mid c A)(hp:c.plus.length=A)(hm:c.minus.length=A)(k i:Int)(hk:0<=k/\k<6)(st:St)(h0:I78 c k i 0 st):∃r,ev pg (.code (.going 4 L117_0) st)=some r/\Q78 c A k i r:=by
 have hA6:=h.hi;have hA:=h.act;refine qat (I78 c k i) A (Q78 c A k i) h0 ?_ ?_
 .rintro j ⟨s,hh⟩ hj ⟨g,m,rfl,hm2,⟨hnn,hl,e2,e3,e6⟩,e5⟩;simp only at hl e2 e3 e5 e6;have hnl:∀j,qah s j ≠ .nils:=qap hnn;have wj:=qbc j;have hj':(j:Int)<c.act:=by omega
  have hlen:=qou c k i j;have hp':j<c.plus.length:=by omega
  have hm':j<c.minus.length:=by omega
  have h74:=ev114 k;have e0:∀p,pil c k i j=p->qgs c k i (j+1)=qgs c k i j++[p]:=fun p e=>by rw[qxs,e]
  unfold I78;generalize qgs c k i j=l at *;generalize qgs c k i (j+1)=l' at *;have h47:(l.length+1)*16<=140737488355328:=by omega
  have pd:c.plus.getD j 0=c.plus[j]:=by simp[hp']
  have md:c.minus.getD j 0=c.minus[j]:=by simp[hm']
  unfold pil at e0;rw[pd,md]at e0;rw[qac hl];by_cases hlin:k=2\/k=3
  .rw[if_pos hlin]at e0;rw[decide_eq_true hlin]at h74;by_cases b1:c.plus[j]=i
   .by_cases b2:c.minus[j]=i
    .rw[if_pos b1,if_pos b2]at e0;have e0:=e0 _ rfl;rcases hlin with rfl | rfl
     .simp[L117_0,List.range,List.range.loop,e2,e3,e5,e6,hj',hp',hm',h74,wj,hm2,h47,b1,b2];exact⟨_,_,⟨rfl,rfl,by rw[e0];simp[qcu]⟩,.inl rfl,⟨by simp[qaq,hnl],rfl,rfl,rfl,rfl⟩,rfl,rfl,by rw[e0];simp⟩
     .simp[L117_0,List.range,List.range.loop,e2,e3,e5,e6,hj',hp',hm',h74,wj,hm2,h47,b1,b2];exact⟨_,_,⟨rfl,rfl,by rw[e0];simp[qcu]⟩,.inl rfl,⟨by simp[qaq,hnl],rfl,rfl,rfl,rfl⟩,rfl,rfl,by rw[e0];simp⟩
    .have b2b:(c.minus[j]==i)=false:=by simpa using b2
     rw[if_pos b1,if_neg b2]at e0;have e0:=e0 _ rfl;rcases hlin with rfl | rfl
     .simp[L117_0,List.range,List.range.loop,e2,e3,e5,e6,hj',hp',hm',h74,wj,hm2,h47,b1,b2b];exact⟨_,_,⟨rfl,rfl,by rw[e0];simp[qcu]⟩,.inl rfl,⟨by simp[qaq,hnl],rfl,rfl,rfl,rfl⟩,rfl,rfl,by rw[e0];simp⟩
     .simp[L117_0,List.range,List.range.loop,e2,e3,e5,e6,hj',hp',hm',h74,wj,hm2,h47,b1,b2b];exact⟨_,_,⟨rfl,rfl,by rw[e0];simp[qcu]⟩,.inl rfl,⟨by simp[qaq,hnl],rfl,rfl,rfl,rfl⟩,rfl,rfl,by rw[e0];simp⟩
   .have b1b:(c.plus[j]==i)=false:=by simpa using b1
    by_cases b2:c.minus[j]=i
    .rw[if_neg b1,if_pos b2]at e0;have e0:=e0 _ rfl;rcases hlin with rfl | rfl
     .simp[L117_0,List.range,List.range.loop,e2,e3,e5,e6,hj',hp',hm',h74,wj,hm2,h47,b1b,b2];exact⟨_,_,⟨rfl,rfl,by rw[e0];simp[qcu]⟩,.inl rfl,⟨by simp[qaq,hnl],rfl,rfl,rfl,rfl⟩,rfl,rfl,by rw[e0];simp⟩
     .simp[L117_0,List.range,List.range.loop,e2,e3,e5,e6,hj',hp',hm',h74,wj,hm2,h47,b1b,b2];exact⟨_,_,⟨rfl,rfl,by rw[e0];simp[qcu]⟩,.inl rfl,⟨by simp[qaq,hnl],rfl,rfl,rfl,rfl⟩,rfl,rfl,by rw[e0];simp⟩
    .have b2b:(c.minus[j]==i)=false:=by simpa using b2
     rw[if_neg b1,if_neg b2]at e0;have e0:=e0 _ rfl;rcases hlin with rfl | rfl
     .simp[L117_0,List.range,List.range.loop,e2,e3,e5,e6,hj',hp',hm',h74,wj,hm2,h47,b1b,b2b];exact⟨_,_,⟨rfl,rfl,by rw[e0];simp⟩,.inl rfl,⟨by simp[qaq,hnl],rfl,rfl,rfl,rfl⟩,rfl,rfl,by rw[e0];simp⟩
     .simp[L117_0,List.range,List.range.loop,e2,e3,e5,e6,hj',hp',hm',h74,wj,hm2,h47,b1b,b2b];exact⟨_,_,⟨rfl,rfl,by rw[e0];simp⟩,.inl rfl,⟨by simp[qaq,hnl],rfl,rfl,rfl,rfl⟩,rfl,rfl,by rw[e0];simp⟩
  .rw[if_neg hlin]at e0;rw[decide_eq_false hlin]at h74;by_cases b3:(j:Int)=i
   .rw[if_pos b3]at e0;subst b3;rcases (by omega:k=0\/k=1\/k=4\/k=5)with rfl | rfl | rfl | rfl
    .have e0:=e0 _ rfl;simp[L117_0,List.range,List.range.loop,e2,e3,e5,e6,hj',h74,wj,hm2,h47];exact⟨_,_,⟨rfl,rfl,by rw[e0];simp⟩,.inl rfl,⟨by simp[qaq,hnl],rfl,rfl,rfl,rfl⟩,rfl,rfl,by rw[e0];simp⟩
    .have e0:=e0 _ rfl;simp[L117_0,List.range,List.range.loop,e2,e3,e5,e6,hj',h74,wj,hm2,h47];exact⟨_,_,⟨rfl,rfl,by rw[e0];simp⟩,.inl rfl,⟨by simp[qaq,hnl],rfl,rfl,rfl,rfl⟩,rfl,rfl,by rw[e0];simp⟩
    .have e0:=e0 _ rfl;simp[L117_0,List.range,List.range.loop,e2,e3,e5,e6,hj',h74,wj,hm2,h47];exact⟨_,_,⟨rfl,rfl,by rw[e0];simp⟩,.inl rfl,⟨by simp[qaq,hnl],rfl,rfl,rfl,rfl⟩,rfl,rfl,by rw[e0];simp⟩
    .have e0:=e0 _ rfl;simp[L117_0,List.range,List.range.loop,e2,e3,e5,e6,hj',h74,wj,hm2,h47];exact⟨_,_,⟨rfl,rfl,by rw[e0];simp⟩,.inl rfl,⟨by simp[qaq,hnl],rfl,rfl,rfl,rfl⟩,rfl,rfl,by rw[e0];simp⟩
   .have b3b:((j:Int)==i)=false:=by simpa using b3
    rw[if_neg b3]at e0;have e0:=e0 _ rfl;simp[L117_0,List.range,List.range.loop,e2,e3,e5,e6,hj',h74,wj,hm2,h47,b3b];exact⟨_,_,⟨rfl,rfl,by rw[e0];simp⟩,.inl rfl,⟨by simp[qaq,hnl],rfl,rfl,rfl,rfl⟩,rfl,rfl,by rw[e0];simp⟩
 .rintro⟨s,hh⟩ ⟨g,m,rfl,hm2,⟨hnn,hl,e2,e3,e6⟩,e5⟩;simp only at hl e2 e3 e5 e6;unfold Q78;generalize qgs c k i A=l at *;rw[qac hl];simp[L117_0,List.range,List.range.loop,e2,e3,e5,e6,hA]
theorem ev117{c:Ct}{A:Nat}(h:Mid c A)(hp:c.plus.length=A)(hm:c.minus.length=A)(k i:Int)(hk:0<=k/\k<6):ev pg (.call (fnq 117) [c.v,fv k i] [])=some (rvq (qjp (qgs c k i A))):=by
 have hloop:=zyz h hp hm k i hk;have hI:∀st:St,(st.h=h78 c k i 0 0 []/\Keep78 0 st.s/\qah st.s 5=.sl 3 0 0 0 0)->I78 c k i 0 st:=fun st hst=>by
  refine⟨0,0,?_,.inr rfl,hst.2.1,?_⟩
  .rw[hst.1];rfl
  .rw[hst.2.2];rfl
 unfold Q78 at hloop;generalize qgs c k i A=l at *;rw[qaa,pg117.1];simp[ir117,qai];generalize hr:ev pg (.code (.going 4 L117_0) _)=o;obtain⟨r,rfl,hx,g,m,hh,hl,h5⟩:∃r,o=some r/\_:=by rw[<-hr];exact hloop _ (hI _ ⟨by simp,⟨by simp[qaq],by simp,by simp,by simp,by simp⟩,by simp⟩)
 simp[hx,hh,hl,h5]
theorem ev205{h:H}{a b:Nat}{x y:Int}(ha:h[a]?=some ⟨0,.box [num x]⟩)(hb:h[b]?=some ⟨0,.box [num y]⟩)(hcl:calm h):ev pg (.call (.fn 205 [] [.bptr a 0,.bptr b 0]) [] h)=some { v:=.agg [num x,num y],st:=⟨[],h⟩ }:=by have ha':=qgz [⟨0,.box [num 0,num 0]⟩] ha;have hb':=qgz [⟨0,.box [num 0,num 0]⟩] hb;have hck:=qef hcl [⟨0,.box [num x,num y]⟩];generalize hn:h.length=N at *;have a0:=z2q hn;rw[qaa,pg205.1];simp[-qde,-getElem?_pos,ir205,hn,a0,ha',hb',hck]
abbrev h72(c:Ct)(k i:Int)(cells:List V)(g m:Nat)(l:List (Int×Int))(t:H):H:=⟨0,.box c.cells⟩ :: ⟨0,.box [num k,num i]⟩ :: ⟨0,.box cells⟩ :: ⟨0,.box (kC 3)⟩ :: kTa (⟨0,.arr 0 []⟩ :: ⟨g,.arr m (l.map zyf)⟩ :: t)
structure Keep72(c:Ct)(j:Nat)(st:List V):Prop where
 nn:qaq st
 len:st.length=63
 t2:qah st 2=.bptr 0 0
 t3:qah st 3=.bptr 1 0
 t5:qah st 5=.bptr 2 0
 t14:qah st 14=num c.act
 t15:qah st 15=num j
def I72(c:Ct)(k i:Int)(cells:List V)(j:Nat)(st:St):Prop:=∃g m,st.h=h72 c k i cells g m (qgs c k i j) []/\(m=2\/m=0)/\Keep72 c j st.s/\qah st.s 6=.sl 13 g m 0 (qgs c k i j).length
def Q72(c:Ct)(A:Nat)(k i:Int)(cells:List V)(r:R):Prop:=r.x=.exit 0/\∃g m,r.st.h=h72 c k i cells g m (qgs c k i A) []/\r.st.s.length=63/\qah r.st.s 6=.sl 13 g m 0 (qgs c k i A).length
theorem zub{c:Ct}{A:Nat}(h:Mid c A)(hp:c.plus.length=A)(hm:c.minus.length=A)(k i:Int)(hk:k=2\/k=3)(t:Txt)(st:St)(h0:I72 c k i [.str t,.bool true,num (qcu k),.nilfn] 0 st):∃r,ev pg (.code (.going 14 L174_0) st)=some r/\Q72 c A k i [.str t,.bool true,num (qcu k),.nilfn] r:=by
 have hA6:=h.hi;have hA:=h.act;refine qat (I72 c k i [.str t,.bool true,num (qcu k),.nilfn]) A (Q72 c A k i [.str t,.bool true,num (qcu k),.nilfn]) h0 ?_ ?_
 .rintro j ⟨s,hh⟩ hj ⟨g,m,rfl,hm2,⟨hnn,hl,e2,e3,e5,e14,e15⟩,e6⟩;simp only at hl e2 e3 e5 e6 e14 e15;have hnl:∀j,qah s j ≠ .nils:=qap hnn;have wj:=qbc j;have hj':(j:Int)<c.act:=by omega
  have hlen:=qou c k i j;have hp':j<c.plus.length:=by omega
  have hm':j<c.minus.length:=by omega
  have e0:∀p,pil c k i j=p->qgs c k i (j+1)=qgs c k i j++[p]:=fun p e=>by rw[qxs,e]
  unfold I72;generalize qgs c k i j=l at *;generalize qgs c k i (j+1)=l' at *;have h47:(l.length+1)*16<=140737488355328:=by omega
  have pd:c.plus.getD j 0=c.plus[j]:=by simp[hp']
  have md:c.minus.getD j 0=c.minus[j]:=by simp[hm']
  unfold pil at e0;rw[pd,md,if_pos hk]at e0;generalize qcu k=v at *;rw[qac hl];by_cases b1:c.plus[j]=i
  .by_cases b2:c.minus[j]=i
   .rw[if_pos b1,if_pos b2]at e0;have e0:=e0 _ rfl;simp[L174_0,List.range,List.range.loop,e2,e3,e5,e6,e14,e15,hj',hp',hm',wj,hm2,h47,b1,b2];exact⟨_,_,⟨rfl,rfl,by rw[e0];simp⟩,.inl rfl,⟨by simp[qaq,hnl],rfl,rfl,rfl,rfl,rfl,rfl⟩,rfl,rfl,by rw[e0];simp⟩
   .have b2b:(c.minus[j]==i)=false:=by simpa using b2
    rw[if_pos b1,if_neg b2]at e0;have e0:=e0 _ rfl;simp[L174_0,List.range,List.range.loop,e2,e3,e5,e6,e14,e15,hj',hp',hm',wj,hm2,h47,b1,b2b];exact⟨_,_,⟨rfl,rfl,by rw[e0];simp⟩,.inl rfl,⟨by simp[qaq,hnl],rfl,rfl,rfl,rfl,rfl,rfl⟩,rfl,rfl,by rw[e0];simp⟩
  .have b1b:(c.plus[j]==i)=false:=by simpa using b1
   by_cases b2:c.minus[j]=i
   .rw[if_neg b1,if_pos b2]at e0;have e0:=e0 _ rfl;simp[L174_0,List.range,List.range.loop,e2,e3,e5,e6,e14,e15,hj',hp',hm',wj,hm2,h47,b1b,b2];exact⟨_,_,⟨rfl,rfl,by rw[e0];simp⟩,.inl rfl,⟨by simp[qaq,hnl],rfl,rfl,rfl,rfl,rfl,rfl⟩,rfl,rfl,by rw[e0];simp⟩
   .have b2b:(c.minus[j]==i)=false:=by simpa using b2
    rw[if_neg b1,if_neg b2]at e0;have e0:=e0 _ rfl;simp[L174_0,List.range,List.range.loop,e2,e3,e5,e6,e14,e15,hj',hp',hm',wj,hm2,h47,b1b,b2b];exact⟨_,_,⟨rfl,rfl,by rw[e0];simp⟩,.inl rfl,⟨by simp[qaq,hnl],rfl,rfl,rfl,rfl,rfl,rfl⟩,rfl,rfl,by rw[e0];simp⟩
 .rintro⟨s,hh⟩ ⟨g,m,rfl,hm2,⟨hnn,hl,e2,e3,e5,e14,e15⟩,e6⟩;simp only at hl e2 e3 e5 e6 e14 e15;unfold Q72;generalize qgs c k i A=l at *;rw[qac hl];simp[L174_0,List.range,List.range.loop,e2,e3,e5,e6,e14,e15,hA]
def zrn(k:Int):Int×Int:=if k=0 then(0,-1)else if k=1 then(-1,0)else if k=4 then(1,0)else(0,1)
theorem zuc{c:Ct}{A:Nat}(h:Mid c A)(k i:Int)(hk:¬(k=2\/k=3))(t:Txt)(p q:Nat)(hpq:p<12/\q<12)(hpx:∀g m l z,(h72 c k i [.str t,.bool false,num 0,.fn 205 [] [.bptr p 0,.bptr q 0]] g m l z)[p]?=some ⟨0,.box [num (zrn k).1]⟩)(hqy:∀g m l z,(h72 c k i [.str t,.bool false,num 0,.fn 205 [] [.bptr p 0,.bptr q 0]] g m l z)[q]?=some ⟨0,.box [num (zrn k).2]⟩)(st:St)(h0:I72 c k i [.str t,.bool false,num 0,.fn 205 [] [.bptr p 0,.bptr q 0]] 0 st):∃r,ev pg (.code (.going 14 L174_0) st)=some r/\Q72 c A k i [.str t,.bool false,num 0,.fn 205 [] [.bptr p 0,.bptr q 0]] r:=by
 have hA6:=h.hi;have hA:=h.act;have hp14:p<14:=by omega
 have hq14:q<14:=by omega
 have hp15:p<15:=by omega
 have hq15:q<15:=by omega
 refine qat (I72 c k i [.str t,.bool false,num 0,.fn 205 [] [.bptr p 0,.bptr q 0]]) A (Q72 c A k i [.str t,.bool false,num 0,.fn 205 [] [.bptr p 0,.bptr q 0]]) h0 ?_ ?_
 .rintro j ⟨s,hh⟩ hj ⟨g,m,rfl,hm2,⟨hnn,hl,e2,e3,e5,e14,e15⟩,e6⟩;simp only at hl e2 e3 e5 e6 e14 e15;have hnl:∀j,qah s j ≠ .nils:=qap hnn;have wj:=qbc j;have hj':(j:Int)<c.act:=by omega
  have hlen:=qou c k i j;have e0:∀p,pil c k i j=p->qgs c k i (j+1)=qgs c k i j++[p]:=fun p e=>by rw[qxs,e]
  have h113:=ev205 (hpx g m (qgs c k i j) [⟨0,.box [num (-1),num (-1)]⟩]) (hqy g m (qgs c k i j) [⟨0,.box [num (-1),num (-1)]⟩]) (by simp[calm,qbx,hp15,hq15]);unfold I72;generalize qgs c k i j=l at *;generalize qgs c k i (j+1)=l' at *;have h47:(l.length+1)*16<=140737488355328:=by omega
  have hpil:pil c k i j=if(j:Int)=i then((zrn k).1,(zrn k).2)else(-1,-1):=by unfold pil zrn;rw[if_neg hk]
  rw[hpil]at e0;generalize (zrn k).1=x at *;generalize (zrn k).2=y at *;rw[qac hl];by_cases b1:(j:Int)=i
  .rw[if_pos b1]at e0;subst b1;have e0:=e0 _ rfl;simp[L174_0,List.range,List.range.loop,e2,e3,e5,e6,e14,e15,hj',wj,hm2,h47,h113,hp14,hq14];exact⟨_,_,⟨rfl,rfl,by rw[e0];simp⟩,.inl rfl,⟨by simp[qaq,hnl],rfl,rfl,rfl,rfl,rfl,rfl⟩,rfl,rfl,by rw[e0];simp⟩
  .have b1b:((j:Int)==i)=false:=by simpa using b1
   rw[if_neg b1]at e0;have e0:=e0 _ rfl;simp[L174_0,List.range,List.range.loop,e2,e3,e5,e6,e14,e15,hj',wj,hm2,h47,b1b,hp14,hq14];exact⟨_,_,⟨rfl,rfl,by rw[e0];simp⟩,.inl rfl,⟨by simp[qaq,hnl],rfl,rfl,rfl,rfl,rfl,rfl⟩,rfl,rfl,by rw[e0];simp⟩
 .rintro⟨s,hh⟩ ⟨g,m,rfl,hm2,⟨hnn,hl,e2,e3,e5,e14,e15⟩,e6⟩;simp only at hl e2 e3 e5 e6 e14 e15;unfold Q72;generalize qgs c k i A=l at *;rw[qac hl];simp[L174_0,List.range,List.range.loop,e2,e3,e5,e6,e14,e15,hA]
theorem ev174L{c:Ct}{A:Nat}(h:Mid c A)(hp:c.plus.length=A)(hm:c.minus.length=A)(k i:Int)(hk:k=2\/k=3):ev pg (.call (fnq 174) [c.v,fv k i] [])=some (rvq (qjp (qgs c k i A))):=by
 have h67:=ev169 [⟨0,.box c.cells⟩,⟨0,.box [num k,num i]⟩,⟨0,.box [.str [],.bool false,.int .i64 0,.nilfn]⟩];have hloop:=fun t=>zub h hp hm k i hk t;have hI:∀cells,∀st:St,(st.h=h72 c k i cells 0 0 [] []/\Keep72 c 0 st.s/\qah st.s 6=.sl 13 0 0 0 0)->I72 c k i cells 0 st:=fun cells st hst=>by
  refine⟨0,0,?_,.inr rfl,hst.2.1,?_⟩
  .rw[hst.1];rfl
  .rw[hst.2.2];rfl
 unfold Q72 at hloop;generalize qgs c k i A=l at *;rw[qaa,pg174.1];rcases hk with rfl | rfl
 .have hloop:=hloop t2t;simp[qab,exT,qag,ir174,h67,qai];generalize hr:ev pg (.code (.going 14 L174_0) _)=o;obtain⟨r,rfl,hx,g,m,hh,hl,h6⟩:∃r,o=some r/\_:=by
   rw[<-hr];exact hloop _ (hI _ _ ⟨by simp[qcu],⟨by simp[qaq],by simp,by simp,by simp,by simp,by simp,by simp⟩,by simp⟩)
  simp[hx,hh,hl,h6]
 .have hloop:=hloop t3t;simp[qab,exT,qag,ir174,h67,qai];generalize hr:ev pg (.code (.going 14 L174_0) _)=o;obtain⟨r,rfl,hx,g,m,hh,hl,h6⟩:∃r,o=some r/\_:=by
   rw[<-hr];exact hloop _ (hI _ _ ⟨by simp[qcu],⟨by simp[qaq],by simp,by simp,by simp,by simp,by simp,by simp⟩,by simp⟩)
  simp[hx,hh,hl,h6]
theorem ev174U{c:Ct}{A:Nat}(h:Mid c A)(k i:Int)(hk:k=0\/k=1\/k=4\/k=5):ev pg (.call (fnq 174) [c.v,fv k i] [])=some (rvq (qjp (qgs c k i A))):=by
 have h67:=ev169 [⟨0,.box c.cells⟩,⟨0,.box [num k,num i]⟩,⟨0,.box [.str [],.bool false,.int .i64 0,.nilfn]⟩];have hloop:=zuc h k i (by omega);have hI:∀cells,∀st:St,(st.h=h72 c k i cells 0 0 [] []/\Keep72 c 0 st.s/\qah st.s 6=.sl 13 0 0 0 0)->I72 c k i cells 0 st:=fun cells st hst=>by
  refine⟨0,0,?_,.inr rfl,hst.2.1,?_⟩
  .rw[hst.1];rfl
  .rw[hst.2.2];rfl
 unfold Q72 at hloop;generalize qgs c k i A=l at *;rw[qaa,pg174.1];rcases hk with rfl | rfl | rfl | rfl
 .have hloop:=hloop t0t 4 5 (by omega) (fun _ _ _ _=>rfl) (fun _ _ _ _=>rfl);simp[qab,exT,qag,ir174,h67,qai];generalize hr:ev pg (.code (.going 14 L174_0) _)=o;obtain⟨r,rfl,hx,g,m,hh,hl,h6⟩:∃r,o=some r/\_:=by
   rw[<-hr];exact hloop _ (hI _ _ ⟨by simp,⟨by simp[qaq],by simp,by simp,by simp,by simp,by simp,by simp⟩,by simp⟩)
  simp[hx,hh,hl,h6]
 .have hloop:=hloop t1t 6 7 (by omega) (fun _ _ _ _=>rfl) (fun _ _ _ _=>rfl);simp[qab,exT,qag,ir174,h67,qai];generalize hr:ev pg (.code (.going 14 L174_0) _)=o;obtain⟨r,rfl,hx,g,m,hh,hl,h6⟩:∃r,o=some r/\_:=by
   rw[<-hr];exact hloop _ (hI _ _ ⟨by simp,⟨by simp[qaq],by simp,by simp,by simp,by simp,by simp,by simp⟩,by simp⟩)
  simp[hx,hh,hl,h6]
 .have hloop:=hloop t4t 8 9 (by omega) (fun _ _ _ _=>rfl) (fun _ _ _ _=>rfl);simp[qab,exT,qag,ir174,h67,qai];generalize hr:ev pg (.code (.going 14 L174_0) _)=o;obtain⟨r,rfl,hx,g,m,hh,hl,h6⟩:∃r,o=some r/\_:=by
   rw[<-hr];exact hloop _ (hI _ _ ⟨by simp,⟨by simp[qaq],by simp,by simp,by simp,by simp,by simp,by simp⟩,by simp⟩)
  simp[hx,hh,hl,h6]
 .have hloop:=hloop t5t 10 11 (by omega) (fun _ _ _ _=>rfl) (fun _ _ _ _=>rfl);simp[qab,exT,qag,ir174,h67,qai];generalize hr:ev pg (.code (.going 14 L174_0) _)=o;obtain⟨r,rfl,hx,g,m,hh,hl,h6⟩:∃r,o=some r/\_:=by
   rw[<-hr];exact hloop _ (hI _ _ ⟨by simp,⟨by simp[qaq],by simp,by simp,by simp,by simp,by simp,by simp⟩,by simp⟩)
  simp[hx,hh,hl,h6]
theorem ev174{c:Ct}{A:Nat}(h:Mid c A)(hp:c.plus.length=A)(hm:c.minus.length=A)(k i:Int)(hk:0<=k/\k<6):ev pg (.call (fnq 174) [c.v,fv k i] [])=some (rvq (qjp (qgs c k i A))):=by
 by_cases h23:k=2\/k=3
 .exact ev174L h hp hm k i h23
 .exact ev174U h k i (by omega)
end Go.Proofs.YtggbaapfbgjaeaaGreatDoor
