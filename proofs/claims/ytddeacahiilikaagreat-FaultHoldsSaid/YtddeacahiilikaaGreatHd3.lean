/- Behind a fault of an actuator: what it keeps, plainly. The law of lines that are stuck where they are holds of Am. The law FaultHolds, in Am: it returns true. The law FaultHolds, in Am: it returns true. -/
import Derived.Test.YtddeacahiilikaaGreatFh1
import Derived.Test.YtddeacahiilikaaGreatZ2
import Derived.Test.YtddeacahiilikaaGreatBg1
import Derived.Test.YtddeacahiilikaaGreatSt4
import Derived.Test.YtddeacahiilikaaGreatGa1
set_option linter.all false
namespace Go.Proofs.YtddeacahiilikaaGreat
open Go Go.Am Go.Proofs
set_option maxRecDepth 100000
set_option maxHeartbeats 4000000
structure Pins(d:Ct)(k:Int)(i:Nat):Prop where
 p0:k=0\/k=5->qsd d (qal d d.act.toNat) d.plus i 0
 m0:k=1\/k=4->qsd d (qal d d.act.toNat) d.minus i 0
 p1:k=4->qsd d (qal d d.act.toNat) d.plus i 1
theorem q5n{c:Ct}{k:Int}{i:Nat}(hs:c.small=true)(hf:qsi c k i=0)(hk:¬(k=2\/k=3))(hd:(qcp c k i).d.check=0):Pins (qcp c k i).d k i/\(qcp c k i).d.act=c.act/\(i:Int)<c.act:=by
 obtain⟨h1,h2,h3,h4,h5⟩:=qjo hf
 have hi:=h5 hk
 have hM:=qdo h1 hs
 have hA:=hM.act
 have hpl:=(qfe h1 hs).plus
 have hml:=(qfe h1 hs).minus
 have hj:i<c.act.toNat:=by omega
 have e1:(qcp c k i).d.act=c.act:=rfl
 have e2:qal (qcp c k i).d (qcp c k i).d.act.toNat=qal c c.act.toNat:=rfl
 obtain⟨q1,q2⟩:=q4a (c:=c) (k:=k) (i:=i) hj (by omega) (by omega)
 have hpil:pil c k i i=(if k=0 then(0,-1)else if k=1 then(-1,0)else if k=4 then(1,0)else(0,1)):=by
  unfold pil
  rw[if_neg hk,if_pos rfl]
 refine⟨⟨fun h=>?_,fun h=>?_,fun h=>?_⟩,e1,hi⟩
 .rw[e2]
  refine q1 0 (.inl rfl) ?_
  unfold qtd
  rw[hpil]
  rcases h with rfl | rfl<;>rfl
 .rw[e2]
  refine q2 0 (.inl rfl) ?_
  unfold qvo
  rw[hpil]
  rcases h with rfl | rfl<;>rfl
 .rw[e2]
  refine q1 1 (.inr rfl) ?_
  unfold qtd
  rw[hpil]
  subst h
  rfl
def qux(k:Int)(i:Nat)(s:Ste):Prop:=if k=0\/k=5 then qpc s i else qly s i
structure HoldI(d:Ct)(k:Int)(i:Nat)(s:Ste):Prop where
 lie:Lie d s
 keep:qux k i s
theorem qul{d:Ct}{k:Int}{i:Nat}(hP:Pins d k i)(hk:k=0\/k=1\/k=4\/k=5)(hsm:d.small=true)(s t:Ste)(a:List Int)(hs:stE d s=0)(h:qcy d s=some (t,a))(hq:qux k i s):qux k i t:=by
 unfold qux at hq ⊢
 by_cases h0:k=0\/k=5
 .rw[if_pos h0]at hq ⊢
  exact q3a hsm hs h (hP.p0 h0) hq
 .rw[if_neg h0]at hq ⊢
  exact q0t hsm hs h (hP.m0 (by omega)) hq
theorem zbi{k:Int}{i:Nat}(s:Ste)(x:Evn)(hm:qvj s x=true)(hq:qux k i s):qux k i (qes s x):=by
 unfold qux at hq ⊢
 split
 .rename_i h0
  rw[if_pos h0]at hq
  exact q5l hm hq
 .rename_i h0
  rw[if_neg h0]at hq
  exact q4n hm hq
theorem HoldI.step{d:Ct}{k:Int}{i:Nat}(hP:Pins d k i)(hk:k=0\/k=1\/k=4\/k=5){s:Ste}(h:HoldI d k i s){x:Evn}(he:(qbp d s x).2.2=0):HoldI d k i (qbp d s x).1:=by
 have hsm:=h.lie.rdy.few
 unfold qbp at he ⊢
 rw[if_pos h.lie.quE]at he ⊢
 refine⟨?_,zay (qul hP hk hsm) zbi h.lie.rdy.st h.keep he⟩
 unfold qay at he ⊢
 split at he
 .cases he
 .rename_i h1
  rw[if_neg h1]
  split at he
  .rename_i h2
   rw[if_pos h2]
   exact(qou ⟨hsm,qft h.lie.rdy.st h1 h2⟩ he).1
  .cases he
theorem HoldI.first{d:Ct}{k:Int}{i:Nat}(hP:Pins d k i)(hk:k=0\/k=1\/k=4\/k=5)(hsm:d.small=true)(hc:d.check=0)(hi:i<d.act.toNat)(he:(qbv d).2.2=0):HoldI d k i (qbv d).1:=by
 unfold qbv at he ⊢
 rw[if_pos hc]at he ⊢
 refine⟨(qou ⟨hsm,qep hc⟩ he).1,?_⟩
 have h0:qux k i (qif d):=by
  unfold qux
  split
  .exact qyg hi
  .exact zcf (qyg hi)
 unfold qjg at he ⊢
 cases e:qlg d (qif d)with
 | none=>rw[e]at he;cases he
 | some y =>
  simp only
  exact qvw (qul hP hk hsm) (qep hc) (show qgb d 65 (qif d) []=some (y.1,y.2)from e) h0
structure Seen(d:Ct)(k:Int)(i:Nat)(s:Ste):Prop where
 len:(s.ends.length:Int)=d.act
 lt:i<s.ends.length
 out:k=4->s.ends[i]?=some 1\/s.ends[i]?=some 2
 inn:k=0\/k=5->s.ends[i]?=some 0
theorem HoldI.seen{d:Ct}{k:Int}{i:Nat}(hP:Pins d k i){s:Ste}(h:HoldI d k i s)(hi:(i:Int)<d.act):Seen d k i s:=by
 have hS:=h.lie.rdy.shp
 have hl:=hS.e
 have hv:=hS.w
 have hlt:i<s.ends.length:=by omega
 have hlv:i<s.valves.length:=by omega
 refine⟨by omega,hlt,fun hk=>?_,fun hk=>?_⟩
 .obtain⟨a,ha⟩:=h.lie.still
  obtain⟨⟨m,hm⟩,-,-⟩:=qnz ha
  have l1:=qmw h.lie.rdy.few h.lie.rdy.st hm (hP.p1 hk)
  have l2:=qmw h.lie.rdy.few h.lie.rdy.st hm (hP.m0 (.inr hk))
  have e1:=q6e ha hlv (by rw[l1,l2];decide)
  have e2:=zha h.lie.rdy.st ha hlt hlv
  rw[e1,l1]at e2
  rw[jA hlt]
  have e3:(s.ends[i]==2||s.ends[i]==1)=true:=e2.symm
  rw[Bool.or_eq_true,beq_iff_eq,beq_iff_eq]at e3
  rcases e3 with e | e
  .exact .inr (by rw[e])
  .exact .inl (by rw[e])
 .have hq:=h.keep
  unfold qux at hq
  rw[if_pos hk]at hq
  exact hq.2
theorem HoldI.fresh{d:Ct}{k:Int}{i:Nat}{s t:Ste}(h:HoldI d k i t):∀y∈qpv s t,¬(y.1=i/\y.2=decide (k=0\/k=5)):=by
 intro y hy hn
 unfold qpv at hy
 split at hy
 .have hq:=h.keep
  unfold qux at hq
  split at hq
  .exact q2t hq y hy hn.1
  .rename_i h0
   have:=qzt hq y hy hn.1
   rw[this]at hn
   have h2:=hn.2
   simp[h0]at h2
 .cases hy
theorem ev7(c:Ct)(k i:Int):ev pg (.call (.fn 7 [] []) [c.v,fv k i] [])=some { v:=.bool (c.few&&decide (qsi c k i=0)),st:=⟨[],[]⟩ }:=by
 have h13:=ev30 c
 rw[qac,pg7]
 by_cases hfew:c.few=true
 .have h20:=ev35 c (qvv hfew) k i
  rw[hfew]at h13 ⊢
  generalize qsi c k i=e at *
  by_cases he:e=0
  .subst he
   simp[ir7,h13,h20]
  .have hb:(e==0)=false:=by simpa using he
   simp[ir7,h13,h20,hb,he]
 .have hb:c.few=false:=by simpa using hfew
  rw[hb]at h13 ⊢
  simp[ir7,h13]
theorem ev13(a b:Ste)(ha:a.small)(hb:b.small):ev pg (.call (.fn 13 [] []) [a.v,b.v] [])=some { v:=q4t (qpv a b),st:=⟨[],[]⟩ }:=by
 have e48:=ev48 a b ha hb
 rw[qac,pg13]
 by_cases h:begE a b=0
 .rw[h]at e48
  generalize qpv a b=l at *
  simp[ir13,e48]
 .have h2:qpv a b=[]:=by unfold qpv;rw[if_neg h]
  have hb2:(begE a b==0)=false:=by simpa using h
  rw[h2]at e48 ⊢
  generalize begE a b=e at *
  simp[ir13,e48,h,hb2]
abbrev yh3(c:Ct)(k i:Int)(d:Ct)(s:Ste)(r:H):H:=[⟨0,.box c.cells⟩,⟨0,.box [num k,num i]⟩,o0,o0,o0,o0,⟨0,.box d.cells⟩,o0,o0,o0,o0,o0,⟨0,.box s.cells⟩]++r
def yT3(X:V)(n j:Nat):Tm:=[none,none,none,some (.bptr 0 0),some (.bptr 1 0),none,some (.bool false),some (.bptr 6 0),none,some (.bptr 12 0)]++List.replicate 54 none++[some X,some (num n),some (num j)]++List.replicate 82 none
def q4s(X:V)(n j:Nat)(L:List (Int×Bool))(q:Nat):Tm:=[none,none,none,some (.bptr 0 0),some (.bptr 1 0),none,some (.bool false),some (.bptr 6 0),none,some (.bptr 12 0),none,none,none,some (.bptr 20 0)]++List.replicate 50 none++[some X,some (num n),some (num j)]++List.replicate 15 none++[some (q4t L),some (num L.length),some (num q)]++List.replicate 64 none
theorem zki(c:Ct)(k:Int)(hk:k=0\/k=1\/k=4\/k=5)(i:Int)(d:Ct)(s t:Ste)(E:List (List V))(x:Evn)(n j:Nat)(L:List (Int×Bool))(hL:L.length<=1000)(hno:∀y∈L,¬(y.1=i/\y.2=decide (k=0\/k=5))){st:St}(h0:At (q4s (.sl 13 0 3 0 n) n j L 0) (yh3 c k i d s [⟨0,.arr 3 E⟩,⟨0,.box x.row⟩,o0,o0,o0,o0,o0,⟨0,.box t.cells⟩]) st) :
  ∃r,ev pg (.code (.going 21 L3_0) st)=some r/\qam (.exit 2) (q4s (.sl 13 0 3 0 n) n j L L.length) (yh3 c k i d s [⟨0,.arr 3 E⟩,⟨0,.box x.row⟩,o0,o0,o0,o0,o0,⟨0,.box t.cells⟩]) r:=by
 refine qex L.length (q4s (.sl 13 0 3 0 n) n j L) (fun _=>yh3 c k i d s [⟨0,.arr 3 E⟩,⟨0,.box x.row⟩,o0,o0,o0,o0,o0,⟨0,.box t.cells⟩]) _ ?_ ?_ h0
 .intro q f hf hq
  have hq':(q:Int)<L.length:=by omega
  have wk:=qab (n:=(q:Int)+1) (by omega) (by omega)
  have hy:=hno _ (jH hq)
  refine(?_:∃st,ev pg (.code L3_0 ⟨fill f 0 (q4s (.sl 13 0 3 0 n) n j L q),yh3 c k i d s [⟨0,.arr 3 E⟩,⟨0,.box x.row⟩,o0,o0,o0,o0,o0,⟨0,.box t.cells⟩]⟩)=some { st:=st }/\At (q4s (.sl 13 0 3 0 n) n j L (q+1)) (yh3 c k i d s [⟨0,.arr 3 E⟩,⟨0,.box x.row⟩,o0,o0,o0,o0,o0,⟨0,.box t.cells⟩]) (qil 21 st)).elim fun st h=>⟨_,h.1,.inl ⟨rfl,h.2⟩⟩
  by_cases h1:L[q].1=i
  .have h2:L[q].2=!decide (k=0\/k=5):=by
    cases hb:L[q].2<;>cases hc:decide (k=0\/k=5)<;>first | rfl | exact absurd ⟨h1,by rw[hb,hc]⟩ hy
   rcases hk with rfl | rfl | rfl | rfl<;>(simp at h2;simp[q4s,L3_0,hq,hq',wk,h1,h2,hf.ne])
  .have h1b:(L[q].1==i)=false:=by simpa using h1
   simp[q4s,L3_0,hq,hq',wk,h1,h1b,hf.ne]
 .intro f hf
  simp[q4s,L3_0,hf.ne]
theorem jdj(c:Ct)(i:Nat)(d:Ct)(hact:d.act=c.act)(hi:(i:Int)<c.act)(hP:Pins d 0 i){s:Ste}(hH:HoldI d 0 i s)(E:List Evn)(hE:E.length<=100)(j:Nat)(hj:j<E.length)(f:Nat->V)(hf:Junk f)(he:(qbp d s E[j]).2.2=0):∃st u,HoldI d 0 i u/\ev pg (.code L3_1 ⟨fill f 0 (yT3 (.sl 13 0 3 0 E.length) E.length j),yh3 c 0 i d s [⟨0,.arr 3 (E.map Evn.row)⟩]⟩)=some { st:=st }/\At (yT3 (.sl 13 0 3 0 E.length) E.length (j+1)) (yh3 c 0 i d u [⟨0,.arr 3 (E.map Evn.row)⟩]) (qil 14 st):=by
  have hj':(j:Int)<E.length:=by omega
  have wk:=qab (n:=(j:Int)+1) (by omega) (by omega)
  have hsm:=hH.lie.rdy.few
  have e12:=ev12 d s hsm hH.lie.rdy.small E[j]
  have hN:=hH.step hP (.inl rfl) he
  have hsn:=hN.seen hP (by omega)
  have hfr:=hN.fresh (s:=s)
  have e13:=ev13 s (qbp d s E[j]).1 hH.lie.rdy.small hN.lie.rdy.small
  have hln:(qpv s (qbp d s E[j]).1).length<=1000:=by
   unfold qpv
   split
   .have a:=qjh s (qbp d s E[j]).1
    have b:=hH.lie.rdy.shp.e
    have c':=hH.lie.rdy.mid.hi
    have d':=hH.lie.rdy.mid.act
    omega
   .simp
  have hlp:=fun st=>zki c 0 (.inl rfl) i d s (qbp d s E[j]).1 (E.map Evn.row) E[j] E.length j (qpv s (qbp d s E[j]).1) hln hfr (st:=st)
  unfold q1h at e12
  rw[he]at e12
  generalize (qbp d s E[j]).1=u at *
  generalize (qbp d s E[j]).2.1=cf at *
  generalize qpv s u=L at *
  obtain⟨s1,s2,s3,s4⟩:=hsn
  rw[jA s2]at s3 s4
  have s1b:(u.ends.length:Int)=c.act:=by omega
  refine(?_:∃st,ev pg (.code L3_1 ⟨fill f 0 (yT3 (.sl 13 0 3 0 E.length) E.length j),yh3 c 0 i d s [⟨0,.arr 3 (E.map Evn.row)⟩]⟩)=some { st:=st }/\At (yT3 (.sl 13 0 3 0 E.length) E.length (j+1)) (yh3 c 0 i d u [⟨0,.arr 3 (E.map Evn.row)⟩]) (qil 14 st)).elim fun st h=>⟨st,u,hN,h⟩
  simp[yT3,L3_1,hj,hj',e12,e13,qag,hf.ne]
  generalize hr:ev pg (.code (.going _ L3_0) _)=o
  obtain⟨r,rfl,f2,hf2,rfl⟩:∃r,o=some r/\_:=by rw[<-hr];exact hlp _ (by simp[q4s,hf.ne])
  clear hr hlp e12 e13 hfr hN hP hH he
  have q:=s4 (.inl rfl)
  simp only[jC]at q
  simp[q4s,s1b,s2,q,wk,hf2.ne]
theorem jig(c:Ct)(i:Nat)(d:Ct)(hact:d.act=c.act)(hi:(i:Int)<c.act)(hP:Pins d 0 i){s:Ste}(hH:HoldI d 0 i s)(E:List Evn)(hE:E.length<=100)(j:Nat)(hj:j<E.length)(f:Nat->V)(hf:Junk f)(he:(qbp d s E[j]).2.2≠0):∃st u,HoldI d 0 i u/\ev pg (.code L3_1 ⟨fill f 0 (yT3 (.sl 13 0 3 0 E.length) E.length j),yh3 c 0 i d s [⟨0,.arr 3 (E.map Evn.row)⟩]⟩)=some { st:=st }/\At (yT3 (.sl 13 0 3 0 E.length) E.length (j+1)) (yh3 c 0 i d u [⟨0,.arr 3 (E.map Evn.row)⟩]) (qil 14 st):=by
  have hj':(j:Int)<E.length:=by omega
  have wk:=qab (n:=(j:Int)+1) (by omega) (by omega)
  have hsm:=hH.lie.rdy.few
  have e12:=ev12 d s hsm hH.lie.rdy.small E[j]
  have heb:((qbp d s E[j]).2.2==0)=false:=by simpa using he
  obtain⟨s1,s2,s3,s4⟩:=hH.seen hP (by omega)
  rw[jA s2]at s3 s4
  have s1b:(s.ends.length:Int)=c.act:=by omega
  unfold q1h at e12
  generalize qbp d s E[j]=z at *
  obtain⟨u,cf,e⟩:=z
  simp only at e12 he heb
  refine(?_:∃st,ev pg (.code L3_1 ⟨fill f 0 (yT3 (.sl 13 0 3 0 E.length) E.length j),yh3 c 0 i d s [⟨0,.arr 3 (E.map Evn.row)⟩]⟩)=some { st:=st }/\At (yT3 (.sl 13 0 3 0 E.length) E.length (j+1)) (yh3 c 0 i d s [⟨0,.arr 3 (E.map Evn.row)⟩]) (qil 14 st)).elim fun st h=>⟨st,s,hH,h⟩
  have q:=s4 (.inl rfl)
  simp only[jC]at q
  simp[yT3,L3_1,hj,hj',e12,he,heb,s1b,s2,q,wk,hf.ne]
theorem jfl(c:Ct)(i:Nat)(d:Ct)(hact:d.act=c.act)(hi:(i:Int)<c.act)(hP:Pins d 1 i){s:Ste}(hH:HoldI d 1 i s)(E:List Evn)(hE:E.length<=100)(j:Nat)(hj:j<E.length)(f:Nat->V)(hf:Junk f)(he:(qbp d s E[j]).2.2=0):∃st u,HoldI d 1 i u/\ev pg (.code L3_1 ⟨fill f 0 (yT3 (.sl 13 0 3 0 E.length) E.length j),yh3 c 1 i d s [⟨0,.arr 3 (E.map Evn.row)⟩]⟩)=some { st:=st }/\At (yT3 (.sl 13 0 3 0 E.length) E.length (j+1)) (yh3 c 1 i d u [⟨0,.arr 3 (E.map Evn.row)⟩]) (qil 14 st):=by
  have hj':(j:Int)<E.length:=by omega
  have wk:=qab (n:=(j:Int)+1) (by omega) (by omega)
  have hsm:=hH.lie.rdy.few
  have e12:=ev12 d s hsm hH.lie.rdy.small E[j]
  have hN:=hH.step hP (.inr (.inl rfl)) he
  have hsn:=hN.seen hP (by omega)
  have hfr:=hN.fresh (s:=s)
  have e13:=ev13 s (qbp d s E[j]).1 hH.lie.rdy.small hN.lie.rdy.small
  have hln:(qpv s (qbp d s E[j]).1).length<=1000:=by
   unfold qpv
   split
   .have a:=qjh s (qbp d s E[j]).1
    have b:=hH.lie.rdy.shp.e
    have c':=hH.lie.rdy.mid.hi
    have d':=hH.lie.rdy.mid.act
    omega
   .simp
  have hlp:=fun st=>zki c 1 (.inr (.inl rfl)) i d s (qbp d s E[j]).1 (E.map Evn.row) E[j] E.length j (qpv s (qbp d s E[j]).1) hln hfr (st:=st)
  unfold q1h at e12
  rw[he]at e12
  generalize (qbp d s E[j]).1=u at *
  generalize (qbp d s E[j]).2.1=cf at *
  generalize qpv s u=L at *
  obtain⟨s1,s2,s3,s4⟩:=hsn
  rw[jA s2]at s3 s4
  have s1b:(u.ends.length:Int)=c.act:=by omega
  refine(?_:∃st,ev pg (.code L3_1 ⟨fill f 0 (yT3 (.sl 13 0 3 0 E.length) E.length j),yh3 c 1 i d s [⟨0,.arr 3 (E.map Evn.row)⟩]⟩)=some { st:=st }/\At (yT3 (.sl 13 0 3 0 E.length) E.length (j+1)) (yh3 c 1 i d u [⟨0,.arr 3 (E.map Evn.row)⟩]) (qil 14 st)).elim fun st h=>⟨st,u,hN,h⟩
  simp[yT3,L3_1,hj,hj',e12,e13,qag,hf.ne]
  generalize hr:ev pg (.code (.going _ L3_0) _)=o
  obtain⟨r,rfl,f2,hf2,rfl⟩:∃r,o=some r/\_:=by rw[<-hr];exact hlp _ (by simp[q4s,hf.ne])
  clear hr hlp e12 e13 hfr hN hP hH he
  cases q2:(u.ends[i]==2)<;>cases q1:(u.ends[i]==1)<;>simp[q4s,s1b,s2,q1,q2,wk,hf2.ne]
theorem jfh(c:Ct)(i:Nat)(d:Ct)(hact:d.act=c.act)(hi:(i:Int)<c.act)(hP:Pins d 1 i){s:Ste}(hH:HoldI d 1 i s)(E:List Evn)(hE:E.length<=100)(j:Nat)(hj:j<E.length)(f:Nat->V)(hf:Junk f)(he:(qbp d s E[j]).2.2≠0):∃st u,HoldI d 1 i u/\ev pg (.code L3_1 ⟨fill f 0 (yT3 (.sl 13 0 3 0 E.length) E.length j),yh3 c 1 i d s [⟨0,.arr 3 (E.map Evn.row)⟩]⟩)=some { st:=st }/\At (yT3 (.sl 13 0 3 0 E.length) E.length (j+1)) (yh3 c 1 i d u [⟨0,.arr 3 (E.map Evn.row)⟩]) (qil 14 st):=by
  have hj':(j:Int)<E.length:=by omega
  have wk:=qab (n:=(j:Int)+1) (by omega) (by omega)
  have hsm:=hH.lie.rdy.few
  have e12:=ev12 d s hsm hH.lie.rdy.small E[j]
  have heb:((qbp d s E[j]).2.2==0)=false:=by simpa using he
  obtain⟨s1,s2,s3,s4⟩:=hH.seen hP (by omega)
  rw[jA s2]at s3 s4
  have s1b:(s.ends.length:Int)=c.act:=by omega
  unfold q1h at e12
  generalize qbp d s E[j]=z at *
  obtain⟨u,cf,e⟩:=z
  simp only at e12 he heb
  refine(?_:∃st,ev pg (.code L3_1 ⟨fill f 0 (yT3 (.sl 13 0 3 0 E.length) E.length j),yh3 c 1 i d s [⟨0,.arr 3 (E.map Evn.row)⟩]⟩)=some { st:=st }/\At (yT3 (.sl 13 0 3 0 E.length) E.length (j+1)) (yh3 c 1 i d s [⟨0,.arr 3 (E.map Evn.row)⟩]) (qil 14 st)).elim fun st h=>⟨st,s,hH,h⟩
  cases q2:(s.ends[i]==2)<;>cases q1:(s.ends[i]==1)<;>simp[yT3,L3_1,hj,hj',e12,he,heb,s1b,s2,q1,q2,wk,hf.ne]
theorem jdn(c:Ct)(i:Nat)(d:Ct)(hact:d.act=c.act)(hi:(i:Int)<c.act)(hP:Pins d 4 i){s:Ste}(hH:HoldI d 4 i s)(E:List Evn)(hE:E.length<=100)(j:Nat)(hj:j<E.length)(f:Nat->V)(hf:Junk f)(he:(qbp d s E[j]).2.2=0):∃st u,HoldI d 4 i u/\ev pg (.code L3_1 ⟨fill f 0 (yT3 (.sl 13 0 3 0 E.length) E.length j),yh3 c 4 i d s [⟨0,.arr 3 (E.map Evn.row)⟩]⟩)=some { st:=st }/\At (yT3 (.sl 13 0 3 0 E.length) E.length (j+1)) (yh3 c 4 i d u [⟨0,.arr 3 (E.map Evn.row)⟩]) (qil 14 st):=by
  have hj':(j:Int)<E.length:=by omega
  have wk:=qab (n:=(j:Int)+1) (by omega) (by omega)
  have hsm:=hH.lie.rdy.few
  have e12:=ev12 d s hsm hH.lie.rdy.small E[j]
  have hN:=hH.step hP (.inr (.inr (.inl rfl))) he
  have hsn:=hN.seen hP (by omega)
  have hfr:=hN.fresh (s:=s)
  have e13:=ev13 s (qbp d s E[j]).1 hH.lie.rdy.small hN.lie.rdy.small
  have hln:(qpv s (qbp d s E[j]).1).length<=1000:=by
   unfold qpv
   split
   .have a:=qjh s (qbp d s E[j]).1
    have b:=hH.lie.rdy.shp.e
    have c':=hH.lie.rdy.mid.hi
    have d':=hH.lie.rdy.mid.act
    omega
   .simp
  have hlp:=fun st=>zki c 4 (.inr (.inr (.inl rfl))) i d s (qbp d s E[j]).1 (E.map Evn.row) E[j] E.length j (qpv s (qbp d s E[j]).1) hln hfr (st:=st)
  unfold q1h at e12
  rw[he]at e12
  generalize (qbp d s E[j]).1=u at *
  generalize (qbp d s E[j]).2.1=cf at *
  generalize qpv s u=L at *
  obtain⟨s1,s2,s3,s4⟩:=hsn
  rw[jA s2]at s3 s4
  have s1b:(u.ends.length:Int)=c.act:=by omega
  refine(?_:∃st,ev pg (.code L3_1 ⟨fill f 0 (yT3 (.sl 13 0 3 0 E.length) E.length j),yh3 c 4 i d s [⟨0,.arr 3 (E.map Evn.row)⟩]⟩)=some { st:=st }/\At (yT3 (.sl 13 0 3 0 E.length) E.length (j+1)) (yh3 c 4 i d u [⟨0,.arr 3 (E.map Evn.row)⟩]) (qil 14 st)).elim fun st h=>⟨st,u,hN,h⟩
  simp[yT3,L3_1,hj,hj',e12,e13,qag,hf.ne]
  generalize hr:ev pg (.code (.going _ L3_0) _)=o
  obtain⟨r,rfl,f2,hf2,rfl⟩:∃r,o=some r/\_:=by rw[<-hr];exact hlp _ (by simp[q4s,hf.ne])
  clear hr hlp e12 e13 hfr hN hP hH he
  have q:=s3 rfl
  simp only[jC]at q
  rcases q with q | q<;>simp[q4s,s1b,s2,q,wk,hf2.ne]
theorem jhr(c:Ct)(i:Nat)(d:Ct)(hact:d.act=c.act)(hi:(i:Int)<c.act)(hP:Pins d 4 i){s:Ste}(hH:HoldI d 4 i s)(E:List Evn)(hE:E.length<=100)(j:Nat)(hj:j<E.length)(f:Nat->V)(hf:Junk f)(he:(qbp d s E[j]).2.2≠0):∃st u,HoldI d 4 i u/\ev pg (.code L3_1 ⟨fill f 0 (yT3 (.sl 13 0 3 0 E.length) E.length j),yh3 c 4 i d s [⟨0,.arr 3 (E.map Evn.row)⟩]⟩)=some { st:=st }/\At (yT3 (.sl 13 0 3 0 E.length) E.length (j+1)) (yh3 c 4 i d u [⟨0,.arr 3 (E.map Evn.row)⟩]) (qil 14 st):=by
  have hj':(j:Int)<E.length:=by omega
  have wk:=qab (n:=(j:Int)+1) (by omega) (by omega)
  have hsm:=hH.lie.rdy.few
  have e12:=ev12 d s hsm hH.lie.rdy.small E[j]
  have heb:((qbp d s E[j]).2.2==0)=false:=by simpa using he
  obtain⟨s1,s2,s3,s4⟩:=hH.seen hP (by omega)
  rw[jA s2]at s3 s4
  have s1b:(s.ends.length:Int)=c.act:=by omega
  unfold q1h at e12
  generalize qbp d s E[j]=z at *
  obtain⟨u,cf,e⟩:=z
  simp only at e12 he heb
  refine(?_:∃st,ev pg (.code L3_1 ⟨fill f 0 (yT3 (.sl 13 0 3 0 E.length) E.length j),yh3 c 4 i d s [⟨0,.arr 3 (E.map Evn.row)⟩]⟩)=some { st:=st }/\At (yT3 (.sl 13 0 3 0 E.length) E.length (j+1)) (yh3 c 4 i d s [⟨0,.arr 3 (E.map Evn.row)⟩]) (qil 14 st)).elim fun st h=>⟨st,s,hH,h⟩
  have q:=s3 rfl
  simp only[jC]at q
  rcases q with q | q<;>simp[yT3,L3_1,hj,hj',e12,he,heb,s1b,s2,q,wk,hf.ne]
theorem jdl(c:Ct)(i:Nat)(d:Ct)(hact:d.act=c.act)(hi:(i:Int)<c.act)(hP:Pins d 5 i){s:Ste}(hH:HoldI d 5 i s)(E:List Evn)(hE:E.length<=100)(j:Nat)(hj:j<E.length)(f:Nat->V)(hf:Junk f)(he:(qbp d s E[j]).2.2=0):∃st u,HoldI d 5 i u/\ev pg (.code L3_1 ⟨fill f 0 (yT3 (.sl 13 0 3 0 E.length) E.length j),yh3 c 5 i d s [⟨0,.arr 3 (E.map Evn.row)⟩]⟩)=some { st:=st }/\At (yT3 (.sl 13 0 3 0 E.length) E.length (j+1)) (yh3 c 5 i d u [⟨0,.arr 3 (E.map Evn.row)⟩]) (qil 14 st):=by
  have hj':(j:Int)<E.length:=by omega
  have wk:=qab (n:=(j:Int)+1) (by omega) (by omega)
  have hsm:=hH.lie.rdy.few
  have e12:=ev12 d s hsm hH.lie.rdy.small E[j]
  have hN:=hH.step hP (.inr (.inr (.inr rfl))) he
  have hsn:=hN.seen hP (by omega)
  have hfr:=hN.fresh (s:=s)
  have e13:=ev13 s (qbp d s E[j]).1 hH.lie.rdy.small hN.lie.rdy.small
  have hln:(qpv s (qbp d s E[j]).1).length<=1000:=by
   unfold qpv
   split
   .have a:=qjh s (qbp d s E[j]).1
    have b:=hH.lie.rdy.shp.e
    have c':=hH.lie.rdy.mid.hi
    have d':=hH.lie.rdy.mid.act
    omega
   .simp
  have hlp:=fun st=>zki c 5 (.inr (.inr (.inr rfl))) i d s (qbp d s E[j]).1 (E.map Evn.row) E[j] E.length j (qpv s (qbp d s E[j]).1) hln hfr (st:=st)
  unfold q1h at e12
  rw[he]at e12
  generalize (qbp d s E[j]).1=u at *
  generalize (qbp d s E[j]).2.1=cf at *
  generalize qpv s u=L at *
  obtain⟨s1,s2,s3,s4⟩:=hsn
  rw[jA s2]at s3 s4
  have s1b:(u.ends.length:Int)=c.act:=by omega
  refine(?_:∃st,ev pg (.code L3_1 ⟨fill f 0 (yT3 (.sl 13 0 3 0 E.length) E.length j),yh3 c 5 i d s [⟨0,.arr 3 (E.map Evn.row)⟩]⟩)=some { st:=st }/\At (yT3 (.sl 13 0 3 0 E.length) E.length (j+1)) (yh3 c 5 i d u [⟨0,.arr 3 (E.map Evn.row)⟩]) (qil 14 st)).elim fun st h=>⟨st,u,hN,h⟩
  simp[yT3,L3_1,hj,hj',e12,e13,qag,hf.ne]
  generalize hr:ev pg (.code (.going _ L3_0) _)=o
  obtain⟨r,rfl,f2,hf2,rfl⟩:∃r,o=some r/\_:=by rw[<-hr];exact hlp _ (by simp[q4s,hf.ne])
  clear hr hlp e12 e13 hfr hN hP hH he
  have q:=s4 (.inr rfl)
  simp only[jC]at q
  simp[q4s,s1b,s2,q,wk,hf2.ne]
theorem jec(c:Ct)(i:Nat)(d:Ct)(hact:d.act=c.act)(hi:(i:Int)<c.act)(hP:Pins d 5 i){s:Ste}(hH:HoldI d 5 i s)(E:List Evn)(hE:E.length<=100)(j:Nat)(hj:j<E.length)(f:Nat->V)(hf:Junk f)(he:(qbp d s E[j]).2.2≠0):∃st u,HoldI d 5 i u/\ev pg (.code L3_1 ⟨fill f 0 (yT3 (.sl 13 0 3 0 E.length) E.length j),yh3 c 5 i d s [⟨0,.arr 3 (E.map Evn.row)⟩]⟩)=some { st:=st }/\At (yT3 (.sl 13 0 3 0 E.length) E.length (j+1)) (yh3 c 5 i d u [⟨0,.arr 3 (E.map Evn.row)⟩]) (qil 14 st):=by
  have hj':(j:Int)<E.length:=by omega
  have wk:=qab (n:=(j:Int)+1) (by omega) (by omega)
  have hsm:=hH.lie.rdy.few
  have e12:=ev12 d s hsm hH.lie.rdy.small E[j]
  have heb:((qbp d s E[j]).2.2==0)=false:=by simpa using he
  obtain⟨s1,s2,s3,s4⟩:=hH.seen hP (by omega)
  rw[jA s2]at s3 s4
  have s1b:(s.ends.length:Int)=c.act:=by omega
  unfold q1h at e12
  generalize qbp d s E[j]=z at *
  obtain⟨u,cf,e⟩:=z
  simp only at e12 he heb
  refine(?_:∃st,ev pg (.code L3_1 ⟨fill f 0 (yT3 (.sl 13 0 3 0 E.length) E.length j),yh3 c 5 i d s [⟨0,.arr 3 (E.map Evn.row)⟩]⟩)=some { st:=st }/\At (yT3 (.sl 13 0 3 0 E.length) E.length (j+1)) (yh3 c 5 i d s [⟨0,.arr 3 (E.map Evn.row)⟩]) (qil 14 st)).elim fun st h=>⟨st,s,hH,h⟩
  have q:=s4 (.inr rfl)
  simp only[jC]at q
  simp[yT3,L3_1,hj,hj',e12,he,heb,s1b,s2,q,wk,hf.ne]
theorem z5b(c:Ct)(k:Int)(hk:k=0\/k=1\/k=4\/k=5)(i:Nat)(d:Ct)(hact:d.act=c.act)(hi:(i:Int)<c.act)(hP:Pins d k i){s:Ste}(hH:HoldI d k i s)(E:List Evn)(hE:E.length<=100)(j:Nat)(hj:j<E.length)(f:Nat->V)(hf:Junk f) :
  ∃st u,HoldI d k i u/\ev pg (.code L3_1 ⟨fill f 0 (yT3 (.sl 13 0 3 0 E.length) E.length j),yh3 c k i d s [⟨0,.arr 3 (E.map Evn.row)⟩]⟩)=some { st:=st }/\At (yT3 (.sl 13 0 3 0 E.length) E.length (j+1)) (yh3 c k i d u [⟨0,.arr 3 (E.map Evn.row)⟩]) (qil 14 st):=by
 by_cases he:(qbp d s E[j]).2.2=0
 .rcases hk with rfl | rfl | rfl | rfl
  .exact jdj c i d hact hi hP hH E hE j hj f hf he
  .exact jfl c i d hact hi hP hH E hE j hj f hf he
  .exact jdn c i d hact hi hP hH E hE j hj f hf he
  .exact jdl c i d hact hi hP hH E hE j hj f hf he
 .rcases hk with rfl | rfl | rfl | rfl
  .exact jig c i d hact hi hP hH E hE j hj f hf he
  .exact jfh c i d hact hi hP hH E hE j hj f hf he
  .exact jhr c i d hact hi hP hH E hE j hj f hf he
  .exact jec c i d hact hi hP hH E hE j hj f hf he
theorem jjt(c:Ct)(k:Int)(hk:k=0\/k=1\/k=4\/k=5)(i:Nat)(d:Ct)(hact:d.act=c.act)(hi:(i:Int)<c.act)(hP:Pins d k i){s:Ste}(hH:HoldI d k i s)(E:List Evn)(hE:E.length<=100){st:St}(h0:At (yT3 (.sl 13 0 3 0 E.length) E.length 0) (yh3 c k i d s [⟨0,.arr 3 (E.map Evn.row)⟩]) st) :
  ∃r,ev pg (.code (.going 14 L3_1) st)=some r/\∃u,qam (.exit 0) (yT3 (.sl 13 0 3 0 E.length) E.length E.length) (yh3 c k i d u [⟨0,.arr 3 (E.map Evn.row)⟩]) r:=by
 refine qcz (α:=Ste) E.length (fun j _=>yT3 (.sl 13 0 3 0 E.length) E.length j) (fun _ u=>yh3 c k i d u [⟨0,.arr 3 (E.map Evn.row)⟩]) (fun _ u=>HoldI d k i u) _ ?_ ?_ s hH h0
 .intro j u f hf hj hu
  obtain⟨st,w,h1,h2,h3⟩:=z5b c k hk i d hact hi hP hu E hE j hj f hf
  exact⟨_,h2,.inl ⟨rfl,w,h1,h3⟩⟩
 .intro u f hf hu
  refine(?_:∃r,ev pg (.code L3_1 ⟨fill f 0 (yT3 (.sl 13 0 3 0 E.length) E.length E.length),yh3 c k i d u [⟨0,.arr 3 (E.map Evn.row)⟩]⟩)=some r/\r.x ≠ .normal/\qam (.exit 0) (yT3 (.sl 13 0 3 0 E.length) E.length E.length) (yh3 c k i d u [⟨0,.arr 3 (E.map Evn.row)⟩]) r).imp fun r h=>⟨h.1,h.2.1,u,h.2.2⟩
  simp[yT3,L3_1,hf.ne]
theorem zyv(d:Ct)(s:Ste)(hl:Lie d s):(qbp d s ⟨2,-1,false⟩).2.2≠0:=by
 unfold qbp
 rw[if_pos hl.quE]
 unfold qay
 rw[if_neg (by decide)]
 have:qvj s ⟨2,-1,false⟩=false:=by
  unfold qvj
  simp
 rw[if_neg (by rw[this];decide)]
 decide
theorem ev3_nil(c d:Ct)(k:Int)(i:Nat)(hk:k=0\/k=1\/k=4\/k=5)(hact:d.act=c.act)(hi:(i:Int)<c.act)(hP:Pins d k i){s:Ste}{cf:List Int}(hF:HoldI d k i s)
  (e7:ev pg (.call (.fn 7 [] []) [c.v,fv k i] [])=some { v:=.bool true,st:=⟨[],[]⟩ }) (e8:ev pg (.call (.fn 8 [] []) [num k] [])=some { v:=.bool false,st:=⟨[],[]⟩ })
  (e10:ev pg (.call (.fn 10 [] []) [c.v,fv k i] [])=some { v:=.tup [d.v,num 0],st:=⟨[],[]⟩ }) (e11:ev pg (.call (.fn 11 [] []) [d.v] [])=some { v:=.tup [s.v,qcl cf,num 0],st:=⟨[],[]⟩ }) :
  ev pg (.call (.fn 3 [] []) [c.v,fv k i,evs []] [])=some { v:=.bool true,st:=⟨[],[]⟩ }:=by
 have e9:=ev9
 have w1:IntKind.i64.wrap 1=1:=by decide
 obtain⟨s1,s2,s3,s4⟩:=hF.seen hP (by omega)
 rw[jA s2]at s3 s4
 have s1b:(s.ends.length:Int)=c.act:=by omega
 have e12:=ev12 d s hF.lie.rdy.few hF.lie.rdy.small ⟨2,-1,false⟩
 have hne:=zyv d s hF.lie
 unfold q1h at e12
 generalize qbp d s ⟨2,-1,false⟩=z at *
 obtain⟨u,cf2,e⟩:=z
 simp only at e12 hne
 have hneb:(e==0)=false:=by simpa using hne
 have hloop:∀st,At (yT3 (.imm [[num 2,num (-1),.bool false]]) 1 0) (yh3 c k i d s []) st->∃r,ev pg (.code (.going 13 L3_1) st)=some r/\qam (.exit 0) (yT3 (.imm [[num 2,num (-1),.bool false]]) 1 1) (yh3 c k i d s []) r:=fun st h0=>by
  refine qex 1 (yT3 (.imm [[num 2,num (-1),.bool false]]) 1) (fun _=>yh3 c k i d s []) _ ?_ ?_ h0
  .intro j f hf hj
   obtain rfl:j=0:=by omega
   refine(?_:∃st,ev pg (.code L3_1 ⟨fill f 0 (yT3 (.imm [[num 2,num (-1),.bool false]]) 1 0),yh3 c k i d s []⟩)=some { st:=st }/\At (yT3 (.imm [[num 2,num (-1),.bool false]]) 1 (0+1)) (yh3 c k i d s []) (qil 13 st)).elim fun st h=>⟨_,h.1,.inl ⟨rfl,h.2⟩⟩
   rcases hk with rfl | rfl | rfl | rfl
   .have q:=s4 (.inl rfl)
    simp only[jC]at q
    simp[yT3,L3_1,e12,hne,hneb,s1b,s2,q,w1,hf.ne]
   .cases q2:(s.ends[i]==2)<;>cases q1:(s.ends[i]==1)<;>simp[yT3,L3_1,e12,hne,hneb,s1b,s2,q1,q2,w1,hf.ne]
   .have q:=s3 rfl
    simp only[jC]at q
    rcases q with q | q<;>simp[yT3,L3_1,e12,hne,hneb,s1b,s2,q,w1,hf.ne]
   .have q:=s4 (.inr rfl)
    simp only[jC]at q
    simp[yT3,L3_1,e12,hne,hneb,s1b,s2,q,w1,hf.ne]
  .intro f hf
   simp[yT3,L3_1,hf.ne]
 clear hP hF s3 s4 e12
 rw[qac,pg3]
 simp[ir3,e7,e8,e9,e10,e11,qag]
 generalize hr:ev pg (.code (.going _ L3_1) _)=o
 obtain⟨r,rfl,f,hf,rfl⟩:∃r,o=some r/\_:=by rw[<-hr];exact hloop _ (by simp[yT3])
 clear hr
 simp[yT3,e9]
theorem ev3_cons(c d:Ct)(k:Int)(i:Nat)(hk:k=0\/k=1\/k=4\/k=5)(hact:d.act=c.act)(hi:(i:Int)<c.act)(hP:Pins d k i){s:Ste}{cf:List Int}(hF:HoldI d k i s)
  (e7:ev pg (.call (.fn 7 [] []) [c.v,fv k i] [])=some { v:=.bool true,st:=⟨[],[]⟩ }) (e8:ev pg (.call (.fn 8 [] []) [num k] [])=some { v:=.bool false,st:=⟨[],[]⟩ })
  (e10:ev pg (.call (.fn 10 [] []) [c.v,fv k i] [])=some { v:=.tup [d.v,num 0],st:=⟨[],[]⟩ }) (e11:ev pg (.call (.fn 11 [] []) [d.v] [])=some { v:=.tup [s.v,qcl cf,num 0],st:=⟨[],[]⟩ }) (l:List Evn) (hl:l≠[]) (h12:l.length<=12) :
  ev pg (.call (.fn 3 [] []) [c.v,fv k i,evs l] [])=some { v:=.bool true,st:=⟨[],[]⟩ }:=by
 have e9:=ev9
 have h12':¬12<(l.length:Int):=by omega
 have hE:((⟨2,-1,false⟩:Evn) :: l).length<=100:=by simp only[List.length_cons];omega
 have hlp:=fun st=>jjt c k hk i d hact hi hP hF ((⟨2,-1,false⟩:Evn) :: l) hE (st:=st)
 have hn:((⟨2,-1,false⟩:Evn) :: l).length=1+l.length:=by simp only[List.length_cons];omega
 have hm:((⟨2,-1,false⟩:Evn) :: l).map Evn.row=[num 2,num (-1),.bool false] :: l.map Evn.row:=rfl
 rw[hn,hm]at hlp
 have hap:(1+l.length)*24<=140737488355328:=by omega
 have hsz:qhj 3 (l.map Evn.row)=true:=by simp[qhj]
 clear hP hF hn hm hE
 generalize hN:1+l.length=N at *
 rw[qac,pg3]
 simp[ir3,e7,e8,e9,e10,e11,h12',hl,hN,hap,hsz,qag]
 generalize hr:ev pg (.code (.going _ L3_1) _)=o
 obtain⟨r,rfl,u,f,hf,rfl⟩:∃r,o=some r/\_:=by rw[<-hr];exact hlp _ (by simp[yT3])
 clear hr
 simp[yT3,e9]
theorem ev3(c:Ct)(k i:Int)(l:List Evn):ev pg (.call (.fn 3 [] []) [c.v,fv k i,evs l] [])=some { v:=.bool true,st:=⟨[],[]⟩ }:=by
 have e7:=ev7 c k i
 have e8:=ev8 k
 have e9:=ev9
 cases hr:c.few&&decide (qsi c k i=0)with
 | false =>
  rw[hr]at e7
  rw[qac,pg3]
  simp[ir3,e7,e9]
 | true =>
  rw[hr]at e7
  rw[jE,jW]at hr
  obtain⟨hfew,hflt⟩:=hr
  have hs:=qvv hfew
  by_cases hln:k=2\/k=3
  .rw[decide_eq_true hln]at e8
   rw[qac,pg3]
   simp[ir3,e7,e8,e9]
  .rw[decide_eq_false hln]at e8
   by_cases h12:12<l.length
   .have h12':12<(l.length:Int):=by omega
    rw[qac,pg3]
    simp[ir3,e7,e8,e9,h12']
   .have h12':¬12<(l.length:Int):=by omega
    obtain⟨p1,p2,p3,p4,p5⟩:=qjo hflt
    have hk:k=0\/k=1\/k=4\/k=5:=by omega
    obtain⟨i,rfl⟩:∃n:Nat,i=n:=⟨i.toNat,by omega⟩
    have e10:=ev10 c hs k i
    by_cases hd:(qcp c k i).d.check=0
    .have he:q8z c k i=0:=by unfold q8z;rw[if_pos hflt,if_pos hd]
     obtain⟨hP,hact,hi⟩:=q5n hs hflt hln hd
     have hsd:=qse hs p1 k i
     have hD:zuf c k i=(qcp c k i).d:=by unfold zuf;rw[if_pos he]
     rw[hD,he]at e10
     generalize (qcp c k i).d=d at *
     have e11:=ev11 d hsd
     by_cases hst:(qbv d).2.2=0
     .have hM:=qdo hd hsd
      have hF:=HoldI.first hP hk hsd hd (by have:=hM.act;omega) hst
      unfold q1h at e11
      rw[hst]at e11
      generalize (qbv d).1=s at *
      generalize (qbv d).2.1=cf at *
      by_cases hl:l=[]
      .subst hl
       exact ev3_nil c d k i hk hact hi hP hF e7 e8 e10 e11
      .exact ev3_cons c d k i hk hact hi hP hF e7 e8 e10 e11 l hl (by omega)
     .have hb:=zcw hd hst
      unfold q1h at e11
      generalize qbv d=z at *
      obtain⟨u,cf,e⟩:=z
      simp only at e11 hb hst
      subst hb
      rw[qac,pg3]
      simp[ir3,e7,e8,e9,e10,e11,h12']
    .have he:q8z c k i=12:=by unfold q8z;rw[if_pos hflt,if_neg hd]
     rw[he]at e10
     generalize zuf c k i=D at *
     rw[qac,pg3]
     simp[ir3,e7,e8,e9,e10,h12']
end Go.Proofs.YtddeacahiilikaaGreat
