/- The law DetectEither, in Am: it returns true. -/
import Derived.Test.YtbepbclaoohngaaGreatDt23
import Derived.Test.YtbepbclaoohngaaGreatMa1
import Derived.KernelRfl
import Derived.Test.YtbepbclaoohngaaGreatDt19
import Derived.Test.YtbepbclaoohngaaGreatDt13
import Derived.Test.YtbepbclaoohngaaGreatDt6
set_option linter.all false
namespace Go.Proofs.YtbepbclaoohngaaGreat
open Go Go.Am Go.Proofs
set_option maxRecDepth 100000
set_option maxHeartbeats 8000000
theorem qzs{α γ:Type}(g:α->Evn->α×Option γ):∀(E:List Evn) (s:α),qfk (fun(a:α×Option γ) x=>(g a.1 x,(g a.1 x).2.isNone)) (s,none) E=(qck g s E,(qck g s E).2.isNone)
 | [],s=>rfl
 | x :: l,s=>by
  have ih:=fun s'=>qzs g l s'
  cases hy:g s x with
  | mk s' z =>
   cases z with
   | none=>simp[qfk,qck,hy,ih]
   | some z=>simp[qfk,qck,hy]
theorem z3b(c:Ct)(k i:Int)(l:List (Ste×Ste))(hl:l.length<=100000)(w:Ct×Ct)(hW:WS w)(p0 p:Ste×Ste)(hp:PS p)(j:Nat)(f:Nat->V)(hf:JunkL 39 f) :
  Rng w p (fun a:Bool×Option Int=>zfg c k i l w p0 p j f a.1 0 none) (fun _=>True) (fun a H=>∃b e E,a.2=some e/\H=zfg c k i l w p0 p j f b e (some .ret)++E) (fun a x=>(q7f w l p a.1 x,(q7f w l p a.1 x).2.isNone)) 36 37 38 39 where
 aN:=by omega
 bN:=by omega
 lN:=by omega
 len:=by rintro a -;rfl
 calm:=by
  rintro a -
  have hlo:∀n,39<=n->∀i,(f i).low n=true:=fun n hn i=>qeb hn _ (hf i).2
  simp[calm,qic,hlo]
 ha:=by rintro a -;rfl
 hb:=by rintro a -;rfl
 yld:=by
  rintro a x E-hx hE h1
  obtain⟨q1,-⟩:=z3s c k i l hl w hW p0 p hp j f hf a.1 x E hE
  exact⟨trivial,q1 (by simpa using h1)⟩
 stp:=by
  rintro a x E-hx hE h1
  obtain⟨-,q2⟩:=z3s c k i l hl w hW p0 p hp j f hf a.1 x E hE
  cases hz:(q7f w l p a.1 x).2 with
  | none=>simp[hz]at h1
  | some e=>exact⟨_,⟨_,e,E,rfl,rfl⟩,q2 e hz⟩
theorem z2z(c:Ct)(k i:Int)(l:List (Ste×Ste))(hl:l.length<=100000)(w:Ct×Ct)(hW:WS w)(p0 p:Ste×Ste)(hp:PS p)(j:Nat)(S:List V)(hS:qzr (qic l j) S)(hlS:qea 38 S=true)(b:Bool) :
  ∃r,ev pg (.code (.range (.t 64) [65] L32_0 L32_1) ⟨S,zpc c k i l w p0 p b 0⟩)=some r/\((qck (q7f w l p) b (qkm w p)).2=none->r={ st:=⟨S,zpc c k i l w p0 p (qck (q7f w l p) b (qkm w p)).1 0⟩ })/\(∀e,(qck (q7f w l p) b (qkm w p)).2=some e->∃b',r={ x:=.ret,st:=⟨S,zpc c k i l w p0 p b' e⟩ }):=by
 obtain⟨f,hf,rfl⟩:=qgz 0 hS (qch (show 38<=39 by omega) _ hlS)
 have R:=z3b c k i l hl w hW p0 p hp j f hf
 obtain⟨H',e,hE⟩:=ev136 R hW hp (b,none) trivial
 rw[qzs]at hE
 generalize qck (q7f w l p) b (qkm w p)=z at *
 obtain⟨b',z⟩:=z
 have hn:qaq (fill f 0 (qic l j)):=qoa hf.junk 0 (by unfold qic;intro o ho e;subst e;simp[List.mem_replicate]at ho)
 have had:∀h,qct ⟨fill f 0 (qic l j),h⟩=⟨fill f 0 (qic l j),h⟩:=fun h=>by unfold qct;simp only[qcz _ hn]
 have hc:∀b e,calm (zpc c k i l w p0 p b e):=fun b e=>by simp[calm]
 have hcut:=fun b e r=>qep (hc b e) r
 have ht:(A.t 64).ev (fill f 0 (qic l j))=.fn 136 [] [.bptr 36 0,.bptr 37 0]:=by simp[qic]
 rw[qga,had]
 have e':ev pg (.call (.fn 136 [] [.bptr 36 0,.bptr 37 0]) [.yld (zpc c k i l w p0 p b 0).length] (zpc c k i l w p0 p b 0++[⟨0,.loop (fill f 0 (qic l j)) [65] L32_0 L32_1 none⟩]))=some { v:=.tup [],st:=⟨[],H'⟩ }:=e
 simp only[ht,e']
 clear R had hn hS hlS e e'
 cases z with
 | none =>
  obtain⟨-,-,rfl⟩:_/\_/\H'=_:=by
   rcases hE with h | ⟨h,-⟩
   .exact h
   .simp at h
  have h38:(zfg c k i l w p0 p j f b' 0 none)[(zpc c k i l w p0 p b 0).length]?=some ⟨0,.loop (fill f 0 (qic l j)) [65] L32_0 L32_1 none⟩:=rfl
  refine⟨_,by rw[h38],?_,fun z hz=>by simp at hz⟩
  intro _
  have:=hcut b' 0 [⟨0,.loop (fill f 0 (qic l j)) [65] L32_0 L32_1 (some .normal)⟩]
  exact congrArg (fun h=>({ st:=⟨fill f 0 (qic l j),h⟩ }:R)) this
 | some y =>
  obtain⟨H,⟨b2,e2,E,hy,rfl⟩,rfl⟩:∃H,(∃b e E,some y=some e/\H=zfg c k i l w p0 p j f b e (some .ret)++E)/\H'=qds 39 H:=by
   rcases hE with⟨h,-⟩ | ⟨-,h⟩
   .simp at h
   .exact h
  cases hy
  have hlo:∀n,39<=n->∀i,(f i).low n=true:=fun n hn i=>qeb hn _ (hf i).2
  have hm:calm (zfg c k i l w p0 p j f b2 y (some .ret)):=by simp[calm,qic,hlo]
  have hcm:qds 39 (zfg c k i l w p0 p j f b2 y (some .ret)++E)=zfg c k i l w p0 p j f b2 y (some .ret):=qep hm E
  rw[hcm]
  have h38:(zfg c k i l w p0 p j f b2 y (some .ret))[(zpc c k i l w p0 p b 0).length]?=some ⟨0,.loop (fill f 0 (qic l j)) [65] L32_0 L32_1 (some .ret)⟩:=rfl
  refine⟨_,by rw[h38],fun h=>by simp at h,fun z hz=>⟨b2,?_⟩⟩
  cases hz
  have:=hcut b2 y [⟨0,.loop (fill f 0 (qic l j)) [65] L32_0 L32_1 (some .normal)⟩]
  exact congrArg (fun h=>({ x:=.ret,st:=⟨fill f 0 (qic l j),h⟩ }:R)) this
def zci(e:Int)(r:R):Prop:=r.x=.ret/\qag r.st.s 6=.bptr 3 0/\r.st.h[3]?=some ⟨0,.box [num e]⟩
def q4c(z:Option Int)(r:R):Prop:=∀e,z=some e->zci e r
theorem jdq(c:Ct)(k i:Int)(l:List (Ste×Ste))(hl:l.length<=100000)(w:Ct×Ct)(hW:WS w)(p0 p:Ste×Ste)(hp:PS p)(j:Nat)(hlj:l[j]?=some p)(f:Nat->V)(hf:JunkL 25 f)(b:Bool) :
  ∃r,ev pg (.code L32_2 ⟨fill f 0 (q4e l j),zqi c k i l w p0 b 0⟩)=some r/\((q3r w l b p).2=none->r.x=.normal/\At (q4e l (j+1)) (zqi c k i l w p0 (q3r w l b p).1 0) (qts 25 r.st)/\qea 25 (qts 25 r.st).s=true)/\q4c (q3r w l b p).2 r:=by
 obtain⟨hj,hpj⟩:=jG.1 hlj
 have hj':(j:Int)<l.length:=by omega
 have wj:=qbs (k:=j) (by omega)
 have e1:=e76 w p
 have e2:=ev65 w hW p hp
 have hlo:∀n,25<=n->∀i,(f i).low n=true:=fun n hn i=>qeb hn _ (hf i).2
 have hne:∀i,(f i=.nils)=False:=fun i=>by simp[(hf i).1]
 have hz:∀r,q4c none r:=fun r y hy=>by cases hy
 unfold q3r
 cases b with
 | true =>
  have q:=fun b S h1 h2=>z2z c k i l hl w hW p0 p hp j S h1 h2 b
  rw[Bool.true_and]
  cases hd:difP w p with
  | true =>
   rw[hd]at e2
   have q':=q false
   simp only[Bool.not_true]
   generalize qck (q7f w l p) false (qkm w p)=z at *
   obtain⟨b',z⟩:=z
   simp[q4e,L32_2,hj,hpj,hj',e1,e2]
   generalize hr:ev pg (.code (.range _ _ _ _) _)=o
   obtain⟨r,rfl,h1,h2⟩:∃r,o=some r/\_:=by rw[<-hr];exact q' _ (by simp[qic,hne]) (by simp[hlo])
   clear hr q q'
   cases z with
   | none =>
    rw[h1 rfl]
    simp[hlo,hne,hz,wj]
   | some e =>
    obtain⟨b2,rfl⟩:=h2 e rfl
    have hz2:∀r,zci e r->q4c (some e) r:=fun r h y hy=>by cases hy;exact h
    refine⟨_,by simp;rfl,fun h=>by simp at h,hz2 _ ⟨rfl,rfl,rfl⟩⟩
  | false =>
   rw[hd]at e2
   have q':=q true
   simp only[Bool.not_false]
   generalize qck (q7f w l p) true (qkm w p)=z at *
   obtain⟨b',z⟩:=z
   simp[q4e,L32_2,hj,hpj,hj',e1,e2]
   generalize hr:ev pg (.code (.range _ _ _ _) _)=o
   obtain⟨r,rfl,h1,h2⟩:∃r,o=some r/\_:=by rw[<-hr];exact q' _ (by simp[qic,hne]) (by simp[hlo])
   clear hr q q'
   cases z with
   | none =>
    rw[h1 rfl]
    simp[hlo,hne,hz,wj]
   | some e =>
    obtain⟨b2,rfl⟩:=h2 e rfl
    have hz2:∀r,zci e r->q4c (some e) r:=fun r h y hy=>by cases hy;exact h
    refine⟨_,by simp;rfl,fun h=>by simp at h,hz2 _ ⟨rfl,rfl,rfl⟩⟩
 | false =>
  have q':=fun S h1 h2=>z2z c k i l hl w hW p0 p hp j S h1 h2 false
  rw[Bool.false_and]
  generalize qck (q7f w l p) false (qkm w p)=z at *
  obtain⟨b',z⟩:=z
  simp[q4e,L32_2,hj,hpj,hj',e1]
  generalize hr:ev pg (.code (.range _ _ _ _) _)=o
  obtain⟨r,rfl,h1,h2⟩:∃r,o=some r/\_:=by rw[<-hr];exact q' _ (by simp[qic,hne]) (by simp[hlo])
  clear hr q'
  cases z with
  | none =>
   rw[h1 rfl]
   simp[hlo,hne,hz,wj]
  | some e =>
   obtain⟨b2,rfl⟩:=h2 e rfl
   have hz2:∀r,zci e r->q4c (some e) r:=fun r h y hy=>by cases hy;exact h
   refine⟨_,by simp;rfl,fun h=>by simp at h,hz2 _ ⟨rfl,rfl,rfl⟩⟩
theorem jdd(c:Ct)(k i:Int)(l:List (Ste×Ste))(hl:l.length<=100000)(hS:∀q∈l,PS q)(w:Ct×Ct)(hW:WS w)(p0:Ste×Ste)(b:Bool){st:St}(h0:At (q4e l 0) (zqi c k i l w p0 b 0) st)(hl0:qea 25 st.s=true) :
  ∃r,ev pg (.code (.going 25 L32_2) st)=some r/\((zpp w l b).2=none->qbn (.exit 0) (q4e l l.length) (zqi c k i l w p0 (zpp w l b).1 0) r)/\(∀e,(zpp w l b).2=some e->zci e r):=by
 refine q5o (q3r w l) (fun j b st=>At (q4e l j) (zqi c k i l w p0 b 0) st/\qea 25 st.s=true) zci (fun b r=>qbn (.exit 0) (q4e l l.length) (zqi c k i l w p0 b 0) r) l ?_ ?_ b ⟨h0,hl0⟩
 .rintro j b st p hx ⟨h,hlo⟩
  obtain⟨S,H⟩:=st
  obtain⟨f,hf,rfl⟩:=qgz 0 h.s hlo
  obtain rfl:H=_:=h.h
  obtain⟨r,e,h1,h2⟩:=jdq c k i l hl w hW p0 p (hS p (jR hx)) j hx f hf b
  refine⟨r,e,h1,fun e he=>⟨?_,h2 e he⟩⟩
  rw[(h2 e he).1]
  simp
 .rintro b st ⟨h,hlo⟩
  obtain⟨f,hf,rfl⟩:=h.eq
  refine(?_:∃r,ev pg (.code L32_2 ⟨fill f 0 (q4e l l.length),zqi c k i l w p0 b 0⟩)=some r/\_/\_)
  simp[q4e,L32_2,hf.ne]
theorem ev32_aux(c d:Ct)(hW:Wld (c,d))(k i:Int)(l:List (Ste×Ste))(hl:l.length<=100000)(hS:∀q∈l,PS q)(h0:qhs c k i=0)(hd:ofW c k i=(c,d)):ev pg (.call (.fn 32 [] []) [c.v,fv k i,prs l] [])=some { v:=num (zfh (c,d) l),st:=⟨[],[]⟩ }:=by
 have hc:c.small=true:=hW.g
 have e1:=ev47 c hc k i
 rw[h0,hd]at e1
 have e2:=ev74 (c,d) hW.toWS l hl hS
 have e3:=ev64 (c,d) hW.toWS
 have hps:=qni hW.toWS
 have e4:=fun q hq=>ev75 l hl q hq
 have hpl:=qsx l
 have q1:=fun p0 b st=>jdd c k i l hl hS (c,d) hW.toWS p0 b (st:=st)
 have hv:zfh (c,d) l=if zyc (c,d) l=0 then(if(qap (c,d)).2.2=0 then zsf (zpp (c,d) l ((qap (c,d)).2.1&&qzu l (qap (c,d)).1))else(qap (c,d)).2.2)else zyc (c,d) l:=by
  unfold zfh zyc
  by_cases hn:l=[]
  .simp[hn]
  .by_cases hg:16384<l.length
   .simp[hn,hg]
   .simp[hn,hg]
 rw[hv]
 rw[qab,pg32]
 generalize zyc (c,d) l=li at *
 by_cases hli:li=0
 .subst hli
  rw[if_pos rfl]
  unfold zru at e3
  generalize qap (c,d)=y at *
  obtain⟨p,b,e⟩:=y
  simp only at *
  have e5:=e4 p hps
  have hpp:=hpl p
  clear e4 hpl
  generalize qrf l p=pl at *
  by_cases he:e=0
  .subst he
   rw[if_pos rfl]
   cases b with
   | true =>
    rw[Bool.true_and]
    cases hh:qzu l p with
    | true =>
     rw[hh]at hpp
     have hp':0<=pl:=by simpa using hpp
     have q2:=q1 p true
     simp[ir32,qam,e1,e2,e3,e5,hp']
     generalize hr:ev pg (.code (.going _ L32_2) _)=o
     obtain⟨r,rfl,h1,h2⟩:∃r,o=some r/\_:=by rw[<-hr];exact q2 _ (by simp[q4e]) (by simp)
     clear hr q1 q2
     generalize zpp (c,d) l true=z at *
     obtain⟨b',z⟩:=z
     cases z with
     | none =>
      obtain⟨f',hf',rfl⟩:=h1 rfl
      cases b'<;>simp[q4e,zsf,zse]
     | some e =>
      obtain⟨hx,h6,h7⟩:=h2 e rfl
      obtain⟨rx,rv,S,H⟩:=r
      simp only at hx h6 h7
      subst hx
      simp[h6,h7,zsf]
    | false =>
     rw[hh]at hpp
     have hp':¬0<=pl:=by simpa using hpp
     have q2:=q1 p false
     simp[ir32,qam,e1,e2,e3,e5,hp']
     generalize hr:ev pg (.code (.going _ L32_2) _)=o
     obtain⟨r,rfl,h1,h2⟩:∃r,o=some r/\_:=by rw[<-hr];exact q2 _ (by simp[q4e]) (by simp)
     clear hr q1 q2
     generalize zpp (c,d) l false=z at *
     obtain⟨b',z⟩:=z
     cases z with
     | none =>
      obtain⟨f',hf',rfl⟩:=h1 rfl
      cases b'<;>simp[q4e,zsf,zse]
     | some e =>
      obtain⟨hx,h6,h7⟩:=h2 e rfl
      obtain⟨rx,rv,S,H⟩:=r
      simp only at hx h6 h7
      subst hx
      simp[h6,h7,zsf]
   | false =>
    rw[Bool.false_and]
    have q2:=q1 p false
    simp[ir32,qam,e1,e2,e3]
    generalize hr:ev pg (.code (.going _ L32_2) _)=o
    obtain⟨r,rfl,h1,h2⟩:∃r,o=some r/\_:=by rw[<-hr];exact q2 _ (by simp[q4e]) (by simp)
    clear hr q1 q2
    generalize zpp (c,d) l false=z at *
    obtain⟨b',z⟩:=z
    cases z with
    | none =>
     obtain⟨f',hf',rfl⟩:=h1 rfl
     cases b'<;>simp[q4e,zsf,zse]
    | some e =>
     obtain⟨hx,h6,h7⟩:=h2 e rfl
     obtain⟨rx,rv,S,H⟩:=r
     simp only at hx h6 h7
     subst hx
     simp[h6,h7,zsf]
  .have heb:(e==0)=false:=by simpa using he
   rw[if_neg he]
   simp[ir32,e1,e2,e3,he,heb]
 .have hb:(li==0)=false:=by simpa using hli
  rw[if_neg hli]
  simp[ir32,e1,e2,hli,hb]
theorem ev32(c:Ct)(hc:c.small=true)(k i:Int)(l:List (Ste×Ste))(hl:l.length<=100000)(hS:∀q∈l,PS q):ev pg (.call (.fn 32 [] []) [c.v,fv k i,prs l] [])=some { v:=num (qnm c k i l),st:=⟨[],[]⟩ }:=by
 unfold qnm
 by_cases h:qhs c k i=0
 .rw[if_pos h]
  exact ev32_aux c _ (qmr hc h).1 k i l hl hS h (qmr hc h).2
 .have e1:=ev47 c hc k i
  have hb:(qhs c k i==0)=false:=by simpa using h
  rw[if_neg h]
  rw[qab,pg32]
  generalize ofW c k i=w at *
  generalize qhs c k i=e at *
  simp[ir32,e1,h,hb]
set_option maxHeartbeats 4000000
abbrev h27(c:Ct)(k i:Int)(w:Ct×Ct)(p:Ste×Ste):H:=[⟨0,.box c.cells⟩,⟨0,.box [num k,num i]⟩,o0,o0,o0,o0,o0,o0,o0,o0,⟨0,.box (qfy w)⟩,o0,o0,o0,o0,o0,o0,o0,o0,o0,o0,⟨0,.box (qcj p)⟩]
def T27(l:List Evn)(j:Nat):Tm:=[none,none,some (evs l),bN 0,bN 1,none,nN 0,some (.bool false),nN 0,bN 10,none,bN 21]++zN 31++[some (evs l),nN l.length,nN j]++zN 27
def zzb(x:Int×Bool×Int):Tm:=[none,none,none,none,none,none,some (num x.1),some (.bool x.2.1),some (num x.2.2)]++zN 64
def qvo(l:List Evn)(z:Int×Bool×Int)(r:R):Prop:=zlo .ret (zzb z) r\/(z=((l.length:Int),false,0)/\zlo (.exit 0) (T27 l l.length) r)
theorem jfl(c:Ct)(k i:Int)(w:Ct×Ct)(hw:WS w)(l:List Evn)(hl:l.length<=4096)(p0:Ste×Ste)(hp0:PS p0){st:St}(h0:At (T27 l 0) (h27 c k i w p0) st) :
  ∃r,ev pg (.code (.going 22 L27_0) st)=some r/\qvo l (qfh w l p0 0) r:=by
 refine qev (α:=Ste×Ste) l.length (fun j _=>T27 l j) (fun _ p=>h27 c k i w p) (fun j p=>PS p/\qfh w l p0 0=qfh w (l.drop j) p j) _ ?_ ?_ p0 ⟨hp0,by simp⟩ h0
 .rintro j p f hf hj ⟨hp,hg⟩
  have hj':(j:Int)<l.length:=by omega
  have wk:=qbs (k:=j) (by omega)
  have e1:=ev66 w hw p hp l[j]
  have hs:=qsi hw (p:=p) (x:=l[j])
  have e2:=ev65 w hw _ hs
  rw[jL hj]at hg
  simp only[qfh]at hg
  rw[hg]
  unfold zru at e1
  generalize qfg w p l[j]=y at *
  obtain⟨q,b,e⟩:=y
  simp only at *
  refine(?_:∃r,ev pg (.code L27_0 ⟨fill f 0 (T27 l j),h27 c k i w p⟩)=some r/\((r.x=.normal/\∃a',(PS a'/\_=qfh w (l.drop (j+1)) a' (j+1))/\At (T27 l (j+1)) (h27 c k i w a') (qts 22 r.st))\/(r.x ≠ .normal/\qvo l _ r)))
  by_cases he:e=0
  .subst he
   cases b with
   | true =>
    cases hd:difP w q with
    | true =>
     rw[hd]at e2
     simp[qvo,T27,zzb,L27_0,hj,hj',e1,e2,wk,hf.ne]
    | false =>
     rw[hd]at e2
     simp[T27,L27_0,hj,hj',e1,e2,wk,hf.ne]
     exact⟨q.1,q.2,⟨hs,rfl⟩,by simp⟩
   | false=>simp[qvo,T27,zzb,L27_0,hj,hj',e1,e2,wk,hf.ne]
  .have heb:(e==0)=false:=by simpa using he
   simp[qvo,T27,zzb,L27_0,hj,hj',e1,he,heb,wk,hf.ne]
 .rintro p f hf ⟨hp,hg⟩
  rw[List.drop_length]at hg
  simp only[qfh]at hg
  rw[hg]
  refine(?_:∃r,ev pg (.code L27_0 ⟨fill f 0 (T27 l l.length),h27 c k i w p⟩)=some r/\r.x ≠ .normal/\qvo l _ r)
  simp[qvo,T27,L27_0,hf.ne]
theorem ev27(c:Ct)(hs:c.small=true)(k i:Int)(l:List Evn):ev pg (.call (.fn 27 [] []) [c.v,fv k i,evs l] [])=some { v:=.tup [num (q6r c k i l).1,.bool (q6r c k i l).2.1,num (q6r c k i l).2.2],st:=⟨[],[]⟩ }:=by
 have e1:=ev47 c hs k i
 unfold q6r
 by_cases hi:qhs c k i=0
 .obtain⟨hW,hof⟩:=qmr hs hi
  rw[hof,hi]at e1
  rw[if_pos hi]
  have hw:=hW.toWS
  generalize hwe:((c,qio c k i):Ct×Ct)=w at *
  have e2:=ev64 w hw
  have hps:=qni hw
  have e3:=ev65 w hw _ hps
  have hlp:=fun hl st=>jfl c k i w hw l hl _ hps (st:=st)
  unfold zru at e2
  generalize qap w=y at *
  obtain⟨q,b,e⟩:=y
  simp only at *
  rw[qab,pg27]
  by_cases he:e=0
  .subst he
   by_cases h4:4096<l.length
   .have h4':(4096:Int)<l.length:=by omega
    simp[ir27,e1,e2,h4,h4']
   .have h4':¬(4096:Int)<l.length:=by omega
    cases b with
    | true =>
     cases hd:difP w q with
     | true =>
      rw[hd]at e3
      simp[ir27,e1,e2,e3,h4,h4']
     | false =>
      rw[hd]at e3
      simp[ir27,e1,e2,e3,h4,h4',qam]
      generalize hr:ev pg (.code (.going _ L27_0) _)=o
      obtain⟨r,rfl,hQ⟩:∃r,o=some r/\_:=by rw[<-hr];exact hlp (by omega) _ (by simp[T27])
      clear hr hlp
      generalize qfh w l q 0=z at *
      rcases hQ with⟨f,H,hf,rfl⟩ | ⟨hz,f,H,hf,rfl⟩
      .simp[zzb]
      .simp[T27,hz]
    | false=>simp[ir27,e1,e2,h4,h4']
  .have heb:(e==0)=false:=by simpa using he
   simp[ir27,e1,e2,he,heb]
 .have hb:(qhs c k i==0)=false:=by simpa using hi
  rw[if_neg hi]
  generalize ofW c k i=w at *
  generalize qhs c k i=e at *
  rw[qab,pg27]
  simp[ir27,e1,hi,hb]
theorem ev30(c:Ct)(k i:Int):ev pg (.call (.fn 30 [] []) [c.v,fv k i] [])=some { v:=.bool (c.few&&decide (qhs c k i=0)),st:=⟨[],[]⟩ }:=by
 have e1:=ev26 c
 rw[qab,pg30]
 cases hf:c.few with
 | false =>
  rw[hf]at e1
  simp[ir30,e1]
 | true =>
  rw[hf]at e1
  have e2:=ev59 c (qqk hf) k i
  generalize qio c k i=d at *
  generalize qhs c k i=e at *
  by_cases h:e=0
  .simp[ir30,e1,e2,h]
  .have hb:(e==0)=false:=by simpa using h
   simp[ir30,e1,e2,h,hb]
theorem qki{c:Ct}{k i:Int}(hi:qhs c k i=0):qjh c k i 30=qdt (c,qio c k i) 30:=by
 unfold qjh
 rw[if_pos hi,if_neg (by omega)]
theorem ev9(c:Ct)(k i:Int):ev pg (.call (.fn 9 [] []) [c.v,fv k i] [])=some { v:=.bool true,st:=⟨[],[]⟩ }:=by
 have e1:=ev30 c k i
 have e12:=ev12
 rw[qab,pg9]
 cases hf:c.few with
 | false =>
  rw[hf]at e1
  simp only[Bool.false_and]at e1
  simp[ir9,e1,e12]
 | true =>
  rw[hf]at e1
  by_cases hi:qhs c k i=0
  .have hs:=qqk hf
   have hW:=(qmr hs hi).1
   have e2:=ev13 c hs k i 30
   have e3:=ev15 c hs k i 30
   have hv:∀l,qnm c k i l=zfh (c,qio c k i) l:=fun l=>by unfold qnm;rw[if_pos hi]
   rw[qki hi]at e2 e3
   simp only[hi,decide_true,Bool.and_true]at e1
   have hsp:=zet (c:=c) (k:=k) (i:=i) hi
   have hsg:=fun h0 h1 h2 l=>zkp (c:=c) (k:=k) (i:=i) hi h0 h1 h2 (l:=l)
   have e5:=ev27 c hs k i
   have e4:=ev32 c hs k i
   generalize hwd:(c,qio c k i)=w at *
   rcases q3j hW (most:=30) (by omega)with⟨h1,h2⟩ | ⟨h0,h1,h2⟩ | ⟨h0,h1,h2,hl,⟨s,h3,h4⟩ | ⟨run,h3,h4⟩⟩
   .generalize qdt w 30=x at *
    unfold zli at e2
    unfold zkd at e3
    rw[if_neg h1]at e2 e3
    rcases h2 with h2 | h2<;>rw[h2]at e2 e3<;>simp[ir9,e1,e2,e3,e12]
   .rw[h1]at e2 e3
    have e6:=e5 []
    rw[hsp h0 h2]at e6
    simp[zli]at e2
    simp[zkd]at e3
    simp at e6
    simp[ir9,e1,e2,e3,e6,e12]
   .rw[h3]at e2 e3
    have hlen:=h4.most
    have e6:=e4 s.D (by omega) (fun q hq=>(h4.lie q hq).small)
    rw[hv,q7h (by omega) h0 h1 h4]at e6
    simp[zli]at e2
    simp[zkd]at e3
    simp[ir9,e1,e2,e3,e6,e12]
   .rw[h3]at e2 e3
    obtain⟨-,h5⟩:=h4
    obtain⟨-,l,x,p,rfl,hp,he,hd⟩:=h5 rfl
    have hrl:((l++[x]).length:Int)<=30:=by
     have:=(zes hW.toWS (most:=30) (by omega)).2.2
     rw[h3]at this
     exact this
    simp only[jF,List.length_cons,List.length_nil]at hrl
    have s1:=hsg h0 h1 h2 (l++[x]) (by simp;omega)
    have s2:=hsg h0 h1 h2 l (by omega)
    rw[hp]at s1
    have hp0:=hp []
    rw[List.append_nil]at hp0
    rw[hp0]at s2
    simp only[qfh]at s1 s2
    rw[if_pos he,if_pos hd]at s1
    have e6:=e5 (l++[x])
    have e7:=e5 l
    rw[s1]at e6
    rw[s2]at e7
    simp[zli]at e2
    simp[zkd]at e3
    simp at e6
    have w1:=qan (n:=(l.length:Int)+1-1) (by omega) (by omega)
    have w2:=qan (n:=(l.length:Int)) (by omega) (by omega)
    have n0:¬((l.length:Int)+1=0):=by omega
    have n1:(((l.length:Int)+1)==0)=false:=by simpa using n0
    simp[ir9,e1,e2,e3,e6,e7,e12,w1,w2,n0,n1]
  .simp only[hi,decide_false,Bool.and_false]at e1
   simp[ir9,e1,e12]
end Go.Proofs.YtbepbclaoohngaaGreat
