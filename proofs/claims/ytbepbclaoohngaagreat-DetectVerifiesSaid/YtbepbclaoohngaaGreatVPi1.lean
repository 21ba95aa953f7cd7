/- Pilots, by the reference. -/
import Derived.Test.YtbepbclaoohngaaGreatVCq3
set_option linter.all false
namespace Go.Proofs.YtbepbclaoohngaaGreat
open Go Go.Am Go.Proofs
set_option maxRecDepth 100000
theorem ev139(a b:Int)(h:H):ev pg (.call (.fn 139 [] []) [num a,num b] h)=some { v:=.fn 140 [] [.bptr h.length 0,.bptr (h.length+1) 0],st:=⟨[],h++[⟨0,.box [num a]⟩,⟨0,.box [num b]⟩]⟩ }:=by
 rw[qaa,pg139]
 simp[ir139]
abbrev kTa(t:H):H:=⟨0,.box [num 0]⟩ :: ⟨0,.box [num (-1)]⟩ :: ⟨0,.box [num (-1)]⟩ :: ⟨0,.box [num 0]⟩ :: ⟨0,.box [num 1]⟩ :: ⟨0,.box [num 0]⟩ :: ⟨0,.box [num 0]⟩ :: ⟨0,.box [num 1]⟩ :: t
abbrev t0t:Txt:=[32,115,116,117,99,107,32,105,110]
abbrev t1t:Txt:=[32,115,116,117,99,107,32,111,117,116]
abbrev t2t:Txt:=[32,116,114,117,101]
abbrev t3t:Txt:=[32,102,97,108,115,101]
abbrev t4t:Txt:=[32,118,97,108,118,101,32,116,114,117,101]
abbrev t5t:Txt:=[32,118,97,108,118,101,32,102,97,108,115,101]
abbrev kC(n:Nat):List V:=[.str t0t,.bool false,num 0,.fn 140 [] [.bptr (n+1) 0,.bptr (n+2) 0],.str t1t,.bool false,num 0,.fn 140 [] [.bptr (n+3) 0,.bptr (n+4) 0],.str t2t,.bool true,num 1,.nilfn,.str t3t,.bool true,num 0,.nilfn,.str t4t,.bool false,num 0,.fn 140 [] [.bptr (n+5) 0,.bptr (n+6) 0],.str t5t,.bool false,num 0,.fn 140 [] [.bptr (n+7) 0,.bptr (n+8) 0]]
theorem ev83(h:H):ev pg (.call (.fn 83 [] []) [] h)=some { v:=.agg (kC h.length),st:=⟨[],h++(⟨0,.box (kC h.length)⟩ :: kTa [])⟩ }:=by
 have h112:=ev139
 rw[qaa,pg83]
 simp[ir83,h112]
theorem ev204{c:Ct}{A:Nat}(hM:Mid c A){h:H}(hcl:calm h)(t:Txt)(b:Bool)(n:Int)(w:V)(hw:∀h,qcc h [w]=([w],h)):ev pg (.call (.fn 204 [] []) [c.v,.agg [.str t,.bool b,num n,w]] h)=some { v:=num (if b=true then(qac c A:Int)else c.act),st:=⟨[],h⟩ }:=by
 have h73:=ev85 hM
 have hck:=qfj hcl [⟨0,.box c.cells⟩,⟨0,.box [.str t,.bool b,num n,w]⟩]
 generalize hn:h.length=N at *
 rw[qaa,pg204]
 cases b with
 | true =>
  simp[-qef,ir204,hn,hw,h73,hck]
 | false =>
  simp[-qef,ir204,hn,hw,hck]
abbrev fv(k i:Int):V:=.agg [num k,num i]
def qtq(c:Ct)(A:Nat)(k i:Int):Int:=if k<0\/6<=k then 1 else if i<0\/(if k=2\/k=3 then(qac c A:Int)else c.act)<=i then 2 else 0
theorem ev137{c:Ct}{A:Nat}(hM:Mid c A)(k i:Int):ev pg (.call (.fn 137 [] []) [c.v,fv k i] [])=some { v:=num (qtq c A k i),st:=⟨[],[]⟩ }:=by
 have h67:=ev83 [⟨0,.box c.cells⟩,⟨0,.box [num k,num i]⟩]
 rw[qaa,pg137]
 unfold qtq
 by_cases h1:k<0
 .simp[ir137,h67,h1]
 by_cases h2:6<=k
 .simp[ir137,h67,h1,h2]
 rw[if_neg (by omega)]
 by_cases h3:i<0
 .simp[qab,exT,qal,ir137,h67,h1,h2,h3]
 have hcl:∀k i:Int,calm (⟨0,.box c.cells⟩ :: ⟨0,.box [num k,num i]⟩ :: ⟨0,.box (kC 2)⟩ :: kTa [⟨0,.box (kC 2)⟩]):=fun k i=>by simp[calm,qcf]
 have hb:∀(w:V),w=.nilfn\/(∃caps,w=.fn 140 [] caps)->∀h,qcc h [w]=([w],h):=fun w hw h=>by
  rcases hw with rfl | ⟨caps,rfl⟩<;>rfl
 have h68:=fun(k:Int) t b n w hw=>ev204 hM (hcl k i) t b n w (hb w hw)
 have h68n:=fun t b n=>ev204 hM (h:=[]) rfl t b n .nilfn (hb .nilfn (.inl rfl))
 generalize qac c A=N at *
 rcases (by omega:k=0\/k=1\/k=2\/k=3\/k=4\/k=5)with rfl | rfl | rfl | rfl | rfl | rfl
 .have h68:=h68 0 t0t false 0 (.fn 140 [] [.bptr 3 0,.bptr 4 0]) (.inr ⟨_,rfl⟩)
  by_cases hi:c.act<=i
  .simp[qab,exT,qal,ir137,h67,h3,h68,hi]
  .simp[qab,exT,qal,ir137,h67,h3,h68,hi]
 .have h68:=h68 1 t1t false 0 (.fn 140 [] [.bptr 5 0,.bptr 6 0]) (.inr ⟨_,rfl⟩)
  by_cases hi:c.act<=i
  .simp[qab,exT,qal,ir137,h67,h3,h68,hi]
  .simp[qab,exT,qal,ir137,h67,h3,h68,hi]
 .have h68:=h68n t2t true 1
  by_cases hi:(N:Int)<=i
  .simp[qab,exT,qal,ir137,h67,h3,h68,hi]
  .simp[qab,exT,qal,ir137,h67,h3,h68,hi]
 .have h68:=h68n t3t true 0
  by_cases hi:(N:Int)<=i
  .simp[qab,exT,qal,ir137,h67,h3,h68,hi]
  .simp[qab,exT,qal,ir137,h67,h3,h68,hi]
 .have h68:=h68 4 t4t false 0 (.fn 140 [] [.bptr 7 0,.bptr 8 0]) (.inr ⟨_,rfl⟩)
  by_cases hi:c.act<=i
  .simp[qab,exT,qal,ir137,h67,h3,h68,hi]
  .simp[qab,exT,qal,ir137,h67,h3,h68,hi]
 .have h68:=h68 5 t5t false 0 (.fn 140 [] [.bptr 9 0,.bptr 10 0]) (.inr ⟨_,rfl⟩)
  by_cases hi:c.act<=i
  .simp[qab,exT,qal,ir137,h67,h3,h68,hi]
  .simp[qab,exT,qal,ir137,h67,h3,h68,hi]
theorem ev184(k:Int):ev pg (.call (.fn 184 [] []) [num k] [])=some { v:=.bool (decide (k=2\/k=3)),st:=⟨[],[]⟩ }:=by
 rw[qaa,pg184]
 by_cases h2:k=2
 .simp[ir184,h2]
 .have h2b:(k==2)=false:=by simpa using h2
  by_cases h3:k=3
  .simp[ir184,h3]
  .have h3b:(k==3)=false:=by simpa using h3
   simp[ir184,h2,h2b,h3,h3b]
theorem ev234{c:Ct}{A:Nat}(hM:Mid c A)(k:Int):ev pg (.call (.fn 234 [] []) [c.v,num k] [])=some { v:=num (if k=2\/k=3 then(qac c A:Int)else c.act),st:=⟨[],[]⟩ }:=by
 have h37:=ev186 hM
 have h74:=ev184 k
 generalize qac c A=N at *
 rw[qaa,pg234]
 by_cases h:k=2\/k=3
 .simp only[decide_eq_true h]at h74
  rw[if_pos h]
  simp[ir234,h74,h37]
 .simp only[decide_eq_false h]at h74
  rw[if_neg h]
  simp[ir234,h74]
theorem ev183{c:Ct}{A:Nat}(hM:Mid c A)(k i:Int):ev pg (.call (.fn 183 [] []) [c.v,fv k i] [])=some { v:=num (qtq c A k i),st:=⟨[],[]⟩ }:=by
 have h117:=ev234 hM k
 unfold qtq
 generalize (if k=2\/k=3 then(qac c A:Int)else c.act)=m at *
 rw[qaa,pg183]
 by_cases h1:k<0
 .simp[ir183,h1]
 by_cases h2:6<=k
 .simp[ir183,h1,h2]
 rw[if_neg (by omega)]
 by_cases h3:i<0
 .simp[qab,exT,qal,ir183,h1,h2,h3]
 by_cases h4:m<=i
 .simp[qab,exT,qal,ir183,h117,h1,h2,h3,h4]
 .simp[qab,exT,qal,ir183,h117,h1,h2,h3,h4]
def q0z(c:Ct)(k i:Int):Int:=if c.check=0 then qtq c c.act.toNat k i else c.check
theorem qfr{c:Ct}(h:c.check=0)(hfew:c.small=true):Mid c c.act.toNat:=by
 obtain⟨f1,f2,_⟩:=qdp hfew
 unfold Ct.check at h
 split at h
 .cases h
 .exact⟨by omega,by omega,by omega,f1,f2⟩
theorem ev81(c:Ct)(hfew:c.small=true)(k i:Int):ev pg (.call (.fn 81 [] []) [c.v,fv k i] [])=some { v:=num (q0z c k i),st:=⟨[],[]⟩ }:=by
 have h29:=ev87 c hfew
 have hM:=fun h:c.check=0=>qfr h hfew
 unfold q0z
 generalize c.check=e at *
 rw[qaa,pg81]
 by_cases he:e=0
 .have h79:=ev137 (hM he) k i
  generalize qtq c c.act.toNat k i=e2 at *
  simp[ir81,h29,h79,he]
 .simp[ir81,h29,he]
theorem ev116(c:Ct)(hfew:c.small=true)(k i:Int):ev pg (.call (.fn 116 [] []) [c.v,fv k i] [])=some { v:=num (q0z c k i),st:=⟨[],[]⟩ }:=by
 have h69:=ev71 c hfew
 have hM:=fun h:c.check=0=>qfr h hfew
 unfold q0z
 generalize c.check=e at *
 rw[qaa,pg116]
 by_cases he:e=0
 .have h80:=ev183 (hM he) k i
  generalize qtq c c.act.toNat k i=e2 at *
  simp[ir116,h69,h80,he]
 .simp[ir116,h69,he]
abbrev zyt(p:Int×Int):List V:=[num p.1,num p.2]
abbrev h70(c:Ct)(g m:Nat)(l:List (Int×Int)):H:=[⟨0,.box c.cells⟩,⟨0,.arr 0 []⟩,⟨g,.arr m (l.map zyt)⟩]
abbrev qjj(l:List (Int×Int)):V:=.imm (l.map zyt)
abbrev hK(c:Ct)(g m:Nat)(l:List (Int×Int))(t:H):H:=⟨0,.box c.cells⟩ :: ⟨0,.box (kC 1)⟩ :: kTa (⟨0,.arr 0 []⟩ :: ⟨g,.arr m (l.map zyt)⟩ :: t)
def qcv(k:Int):Int:=if k=2 then 1 else 0
def pil(c:Ct)(k i:Int)(j:Nat):Int×Int :=
 if k=2\/k=3 then(if c.plus.getD j 0=i then qcv k else -1,if c.minus.getD j 0=i then qcv k else -1)
 else if(j:Int)=i then(if k=0 then(0,-1)else if k=1 then(-1,0)else if k=4 then(1,0)else(0,1))else(-1,-1)
def qgp(c:Ct)(k i:Int)(n:Nat):List (Int×Int):=(List.range n).map (pil c k i)
theorem qwr(c:Ct)(k i:Int)(n:Nat):qgp c k i (n+1)=qgp c k i n++[pil c k i n]:=by
 unfold qgp
 rw[List.range_succ,List.map_append]
 rfl
theorem qnu(c:Ct)(k i:Int)(n:Nat):(qgp c k i n).length=n:=by simp[qgp]
structure Keep78(j:Nat)(st:List V):Prop where
 nn:qas st
 len:st.length=63
 t2:qai st 2=.bptr 0 0
 t3:qai st 3=.bptr 1 0
 t6:qai st 6=num j
abbrev h78(c:Ct)(k i:Int)(g m:Nat)(l:List (Int×Int)):H:=[⟨0,.box c.cells⟩,⟨0,.box [num k,num i]⟩,⟨0,.arr 0 []⟩,⟨g,.arr m (l.map zyt)⟩]
def I78(c:Ct)(k i:Int)(j:Nat)(st:St):Prop:=∃g m,st.h=h78 c k i g m (qgp c k i j)/\(m=2\/m=0)/\Keep78 j st.s/\qai st.s 5=.sl 3 g m 0 (qgp c k i j).length
def Q78(c:Ct)(A:Nat)(k i:Int)(r:R):Prop:=r.x=.exit 0/\∃g m,r.st.h=h78 c k i g m (qgp c k i A)/\r.st.s.length=63/\qai r.st.s 5=.sl 3 g m 0 (qgp c k i A).length
set_option maxHeartbeats 2000000 in
theorem zzk{c:Ct}{A:Nat}(h:Mid c A)(hp:c.plus.length=A)(hm:c.minus.length=A)(k i:Int)(hk:0<=k/\k<6)(st:St)(h0:I78 c k i 0 st):∃r,ev pg (.code (.going 4 L187_0) st)=some r/\Q78 c A k i r:=by
 have hA6:=h.hi
 have hA:=h.act
 refine qau (I78 c k i) A (Q78 c A k i) h0 ?_ ?_
 .rintro j ⟨s,hh⟩ hj ⟨g,m,rfl,hm2,⟨hnn,hl,e2,e3,e6⟩,e5⟩
  simp only at hl e2 e3 e5 e6
  have hnl:∀j,qai s j ≠ .nils:=qar hnn
  have wj:=qbb (k:=j) (by omega)
  have hj':(j:Int)<c.act:=by omega
  have hlen:=qnu c k i j
  have hp':j<c.plus.length:=by omega
  have hm':j<c.minus.length:=by omega
  have h74:=ev184 k
  have e0:∀p,pil c k i j=p->qgp c k i (j+1)=qgp c k i j++[p]:=fun p e=>by rw[qwr,e]
  unfold I78
  generalize qgp c k i j=l at *
  generalize qgp c k i (j+1)=l' at *
  have h47:(l.length+1)*16<=140737488355328:=by omega
  have pd:c.plus.getD j 0=c.plus[j]:=by simp[hp']
  have md:c.minus.getD j 0=c.minus[j]:=by simp[hm']
  unfold pil at e0
  rw[pd,md]at e0
  rw[qad hl]
  by_cases hlin:k=2\/k=3
  .rw[if_pos hlin]at e0
   rw[decide_eq_true hlin]at h74
   by_cases b1:c.plus[j]=i
   .by_cases b2:c.minus[j]=i
    .rw[if_pos b1,if_pos b2]at e0
     have e0:=e0 _ rfl
     rcases hlin with rfl | rfl
     .simp[L187_0,List.range,List.range.loop,e2,e3,e5,e6,hj',hp',hm',h74,wj,hm2,h47,b1,b2]
      exact⟨_,_,⟨rfl,rfl,by rw[e0];simp[qcv]⟩,.inl rfl,⟨by simp[qas,hnl],rfl,rfl,rfl,rfl⟩,rfl,rfl,by rw[e0];simp⟩
     .simp[L187_0,List.range,List.range.loop,e2,e3,e5,e6,hj',hp',hm',h74,wj,hm2,h47,b1,b2]
      exact⟨_,_,⟨rfl,rfl,by rw[e0];simp[qcv]⟩,.inl rfl,⟨by simp[qas,hnl],rfl,rfl,rfl,rfl⟩,rfl,rfl,by rw[e0];simp⟩
    .have b2b:(c.minus[j]==i)=false:=by simpa using b2
     rw[if_pos b1,if_neg b2]at e0
     have e0:=e0 _ rfl
     rcases hlin with rfl | rfl
     .simp[L187_0,List.range,List.range.loop,e2,e3,e5,e6,hj',hp',hm',h74,wj,hm2,h47,b1,b2b]
      exact⟨_,_,⟨rfl,rfl,by rw[e0];simp[qcv]⟩,.inl rfl,⟨by simp[qas,hnl],rfl,rfl,rfl,rfl⟩,rfl,rfl,by rw[e0];simp⟩
     .simp[L187_0,List.range,List.range.loop,e2,e3,e5,e6,hj',hp',hm',h74,wj,hm2,h47,b1,b2b]
      exact⟨_,_,⟨rfl,rfl,by rw[e0];simp[qcv]⟩,.inl rfl,⟨by simp[qas,hnl],rfl,rfl,rfl,rfl⟩,rfl,rfl,by rw[e0];simp⟩
   .have b1b:(c.plus[j]==i)=false:=by simpa using b1
    by_cases b2:c.minus[j]=i
    .rw[if_neg b1,if_pos b2]at e0
     have e0:=e0 _ rfl
     rcases hlin with rfl | rfl
     .simp[L187_0,List.range,List.range.loop,e2,e3,e5,e6,hj',hp',hm',h74,wj,hm2,h47,b1b,b2]
      exact⟨_,_,⟨rfl,rfl,by rw[e0];simp[qcv]⟩,.inl rfl,⟨by simp[qas,hnl],rfl,rfl,rfl,rfl⟩,rfl,rfl,by rw[e0];simp⟩
     .simp[L187_0,List.range,List.range.loop,e2,e3,e5,e6,hj',hp',hm',h74,wj,hm2,h47,b1b,b2]
      exact⟨_,_,⟨rfl,rfl,by rw[e0];simp[qcv]⟩,.inl rfl,⟨by simp[qas,hnl],rfl,rfl,rfl,rfl⟩,rfl,rfl,by rw[e0];simp⟩
    .have b2b:(c.minus[j]==i)=false:=by simpa using b2
     rw[if_neg b1,if_neg b2]at e0
     have e0:=e0 _ rfl
     rcases hlin with rfl | rfl
     .simp[L187_0,List.range,List.range.loop,e2,e3,e5,e6,hj',hp',hm',h74,wj,hm2,h47,b1b,b2b]
      exact⟨_,_,⟨rfl,rfl,by rw[e0];simp⟩,.inl rfl,⟨by simp[qas,hnl],rfl,rfl,rfl,rfl⟩,rfl,rfl,by rw[e0];simp⟩
     .simp[L187_0,List.range,List.range.loop,e2,e3,e5,e6,hj',hp',hm',h74,wj,hm2,h47,b1b,b2b]
      exact⟨_,_,⟨rfl,rfl,by rw[e0];simp⟩,.inl rfl,⟨by simp[qas,hnl],rfl,rfl,rfl,rfl⟩,rfl,rfl,by rw[e0];simp⟩
  .rw[if_neg hlin]at e0
   rw[decide_eq_false hlin]at h74
   by_cases b3:(j:Int)=i
   .rw[if_pos b3]at e0
    subst b3
    rcases (by omega:k=0\/k=1\/k=4\/k=5)with rfl | rfl | rfl | rfl
    .have e0:=e0 _ rfl
     simp[L187_0,List.range,List.range.loop,e2,e3,e5,e6,hj',h74,wj,hm2,h47]
     exact⟨_,_,⟨rfl,rfl,by rw[e0];simp⟩,.inl rfl,⟨by simp[qas,hnl],rfl,rfl,rfl,rfl⟩,rfl,rfl,by rw[e0];simp⟩
    .have e0:=e0 _ rfl
     simp[L187_0,List.range,List.range.loop,e2,e3,e5,e6,hj',h74,wj,hm2,h47]
     exact⟨_,_,⟨rfl,rfl,by rw[e0];simp⟩,.inl rfl,⟨by simp[qas,hnl],rfl,rfl,rfl,rfl⟩,rfl,rfl,by rw[e0];simp⟩
    .have e0:=e0 _ rfl
     simp[L187_0,List.range,List.range.loop,e2,e3,e5,e6,hj',h74,wj,hm2,h47]
     exact⟨_,_,⟨rfl,rfl,by rw[e0];simp⟩,.inl rfl,⟨by simp[qas,hnl],rfl,rfl,rfl,rfl⟩,rfl,rfl,by rw[e0];simp⟩
    .have e0:=e0 _ rfl
     simp[L187_0,List.range,List.range.loop,e2,e3,e5,e6,hj',h74,wj,hm2,h47]
     exact⟨_,_,⟨rfl,rfl,by rw[e0];simp⟩,.inl rfl,⟨by simp[qas,hnl],rfl,rfl,rfl,rfl⟩,rfl,rfl,by rw[e0];simp⟩
   .have b3b:((j:Int)==i)=false:=by simpa using b3
    rw[if_neg b3]at e0
    have e0:=e0 _ rfl
    simp[L187_0,List.range,List.range.loop,e2,e3,e5,e6,hj',h74,wj,hm2,h47,b3b]
    exact⟨_,_,⟨rfl,rfl,by rw[e0];simp⟩,.inl rfl,⟨by simp[qas,hnl],rfl,rfl,rfl,rfl⟩,rfl,rfl,by rw[e0];simp⟩
 .rintro⟨s,hh⟩ ⟨g,m,rfl,hm2,⟨hnn,hl,e2,e3,e6⟩,e5⟩
  simp only at hl e2 e3 e5 e6
  unfold Q78
  generalize qgp c k i A=l at *
  rw[qad hl]
  simp[L187_0,List.range,List.range.loop,e2,e3,e5,e6,hA]
theorem ev187{c:Ct}{A:Nat}(h:Mid c A)(hp:c.plus.length=A)(hm:c.minus.length=A)(k i:Int)(hk:0<=k/\k<6):ev pg (.call (.fn 187 [] []) [c.v,fv k i] [])=some { v:=qjj (qgp c k i A),st:=⟨[],[]⟩ }:=by
 have hloop:=zzk h hp hm k i hk
 have hI:∀st:St,(st.h=h78 c k i 0 0 []/\Keep78 0 st.s/\qai st.s 5=.sl 3 0 0 0 0)->I78 c k i 0 st:=fun st hst=>by
  refine⟨0,0,?_,.inr rfl,hst.2.1,?_⟩
  .rw[hst.1];rfl
  .rw[hst.2.2];rfl
 unfold Q78 at hloop
 generalize qgp c k i A=l at *
 rw[qaa,pg187]
 simp[ir187,qah]
 generalize hr:ev pg (.code (.going 4 L187_0) _)=o
 obtain⟨r,rfl,hx,g,m,hh,hl,h5⟩:∃r,o=some r/\_:=by
  rw[<-hr]
  exact hloop _ (hI _ ⟨by simp,⟨by simp[qas],by simp,by simp,by simp,by simp⟩,by simp⟩)
 simp[hx,hh,hl,h5]
end Go.Proofs.YtbepbclaoohngaaGreat
