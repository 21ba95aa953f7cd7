/- Values of the pieces of a run by the kernel. -/
import Derived.Test.YtbepbclaoohngaaGreatVDt20
import Derived.KernelRfl
import Derived.Test.YtbepbclaoohngaaGreatVDt7
import Derived.Test.YtbepbclaoohngaaGreatVDt18
import Derived.Test.YtbepbclaoohngaaGreatVPg7
set_option linter.all false
namespace Go.Proofs.YtbepbclaoohngaaGreat
open Go Go.Am Go.Proofs
set_option maxRecDepth 100000
set_option maxHeartbeats 8000000
theorem qyp{α γ:Type}(g:α->Evn->α×Option γ):∀(E:List Evn) (s:α),qgd (fun(a:α×Option γ) x=>(g a.1 x,(g a.1 x).2.isNone)) (s,none) E=(qdm g s E,(qdm g s E).2.isNone)
 | [],s=>rfl
 | x :: l,s=>by
  have ih:=fun s'=>qyp g l s'
  cases hy:g s x with
  | mk s' z =>
   cases z with
   | none=>simp[qgd,qdm,hy,ih]
   | some z=>simp[qgd,qdm,hy]
theorem z2b(c:Ct)(k i:Int)(l:List (Ste×Ste))(hl:l.length<=100000)(w:Ct×Ct)(hW:WS w)(p0 p:Ste×Ste)(hp:PS p)(j:Nat)(f:Nat->V)(hf:JunkL 39 f) :
  Rng w p (fun a:Bool×Option Int=>zdx c k i l w p0 p j f a.1 0 none) (fun _=>True) (fun a H=>∃b e E,a.2=some e/\H=zdx c k i l w p0 p j f b e (some .ret)++E) (fun a x=>(qlt w l p a.1 x,(qlt w l p a.1 x).2.isNone)) 36 37 38 39 where
 aN:=by omega
 bN:=by omega
 lN:=by omega
 len:=by rintro a -;rfl
 calm:=by
  rintro a -
  have hlo:∀n,39<=n->∀i,(f i).low n=true:=fun n hn i=>qgh hn _ (hf i).2
  simp[calm,qhw,hlo]
 ha:=by rintro a -;rfl
 hb:=by rintro a -;rfl
 yld:=by
  rintro a x E-hx hE h1
  obtain⟨q1,-⟩:=z2p c k i l hl w hW p0 p hp j f hf a.1 x E hE
  exact⟨trivial,q1 (by simpa using h1)⟩
 stp:=by
  rintro a x E-hx hE h1
  obtain⟨-,q2⟩:=z2p c k i l hl w hW p0 p hp j f hf a.1 x E hE
  cases hz:(qlt w l p a.1 x).2 with
  | none=>simp[hz]at h1
  | some e=>exact⟨_,⟨_,e,E,rfl,rfl⟩,q2 e hz⟩
theorem z2a(c:Ct)(k i:Int)(l:List (Ste×Ste))(hl:l.length<=100000)(w:Ct×Ct)(hW:WS w)(p0 p:Ste×Ste)(hp:PS p)(j:Nat)(S:List V)(hS:q2s (qhw l j) S)(hlS:qeo 38 S=true)(b:Bool) :
  ∃r,ev pg (.code (.range (.t 64) [65] L32_0 L32_1) ⟨S,znt c k i l w p0 p b 0⟩)=some r/\((qdm (qlt w l p) b (qqa w p)).2=none->r={ st:=⟨S,znt c k i l w p0 p (qdm (qlt w l p) b (qqa w p)).1 0⟩ })/\(∀e,(qdm (qlt w l p) b (qqa w p)).2=some e->∃b',r={ x:=.ret,st:=⟨S,znt c k i l w p0 p b' e⟩ }):=by
 obtain⟨f,hf,rfl⟩:=qnm 0 hS (qcm (show 38<=39 by omega) _ hlS)
 have R:=z2b c k i l hl w hW p0 p hp j f hf
 obtain⟨H',e,hE⟩:=ev136 R hW hp (b,none) trivial
 rw[qyp]at hE
 generalize qdm (qlt w l p) b (qqa w p)=z at *
 obtain⟨b',z⟩:=z
 have hn:qas (fill f 0 (qhw l j)):=qsf hf.junk 0 (by unfold qhw;intro o ho e;subst e;simp[List.mem_replicate]at ho)
 have had:∀h,qcy ⟨fill f 0 (qhw l j),h⟩=⟨fill f 0 (qhw l j),h⟩:=fun h=>by unfold qcy;simp only[qdx _ hn]
 have hc:∀b e,calm (znt c k i l w p0 p b e):=fun b e=>by simp[calm]
 have hcut:=fun b e r=>qfj (hc b e) r
 have ht:(A.t 64).ev (fill f 0 (qhw l j))=.fn 136 [] [.bptr 36 0,.bptr 37 0]:=by simp[qhw]
 rw[qgf,had]
 have e':ev pg (.call (.fn 136 [] [.bptr 36 0,.bptr 37 0]) [.yld (znt c k i l w p0 p b 0).length] (znt c k i l w p0 p b 0++[⟨0,.loop (fill f 0 (qhw l j)) [65] L32_0 L32_1 none⟩]))=some { v:=.tup [],st:=⟨[],H'⟩ }:=e
 simp only[ht,e']
 clear R had hn hS hlS e e'
 cases z with
 | none =>
  obtain⟨-,-,rfl⟩:_/\_/\H'=_:=by
   rcases hE with h | ⟨h,-⟩
   .exact h
   .simp at h
  have h38:(zdx c k i l w p0 p j f b' 0 none)[(znt c k i l w p0 p b 0).length]?=some ⟨0,.loop (fill f 0 (qhw l j)) [65] L32_0 L32_1 none⟩:=rfl
  refine⟨_,by rw[h38],?_,fun z hz=>by simp at hz⟩
  intro _
  have:=hcut b' 0 [⟨0,.loop (fill f 0 (qhw l j)) [65] L32_0 L32_1 (some .normal)⟩]
  exact congrArg (fun h=>({ st:=⟨fill f 0 (qhw l j),h⟩ }:R)) this
 | some y =>
  obtain⟨H,⟨b2,e2,E,hy,rfl⟩,rfl⟩:∃H,(∃b e E,some y=some e/\H=zdx c k i l w p0 p j f b e (some .ret)++E)/\H'=qef 39 H:=by
   rcases hE with⟨h,-⟩ | ⟨-,h⟩
   .simp at h
   .exact h
  cases hy
  have hlo:∀n,39<=n->∀i,(f i).low n=true:=fun n hn i=>qgh hn _ (hf i).2
  have hm:calm (zdx c k i l w p0 p j f b2 y (some .ret)):=by simp[calm,qhw,hlo]
  have hcm:qef 39 (zdx c k i l w p0 p j f b2 y (some .ret)++E)=zdx c k i l w p0 p j f b2 y (some .ret):=qfj hm E
  rw[hcm]
  have h38:(zdx c k i l w p0 p j f b2 y (some .ret))[(znt c k i l w p0 p b 0).length]?=some ⟨0,.loop (fill f 0 (qhw l j)) [65] L32_0 L32_1 (some .ret)⟩:=rfl
  refine⟨_,by rw[h38],fun h=>by simp at h,fun z hz=>⟨b2,?_⟩⟩
  cases hz
  have:=hcut b2 y [⟨0,.loop (fill f 0 (qhw l j)) [65] L32_0 L32_1 (some .normal)⟩]
  exact congrArg (fun h=>({ x:=.ret,st:=⟨fill f 0 (qhw l j),h⟩ }:R)) this
def zbb(e:Int)(r:R):Prop:=r.x=.ret/\qai r.st.s 6=.bptr 3 0/\r.st.h[3]?=some ⟨0,.box [num e]⟩
def q2z(z:Option Int)(r:R):Prop:=∀e,z=some e->zbb e r
theorem jeg(c:Ct)(k i:Int)(l:List (Ste×Ste))(hl:l.length<=100000)(w:Ct×Ct)(hW:WS w)(p0 p:Ste×Ste)(hp:PS p)(j:Nat)(hlj:l[j]?=some p)(f:Nat->V)(hf:JunkL 25 f)(b:Bool) :
  ∃r,ev pg (.code L32_2 ⟨fill f 0 (q3d l j),zpa c k i l w p0 b 0⟩)=some r/\((q5y w l b p).2=none->r.x=.normal/\At (q3d l (j+1)) (zpa c k i l w p0 (q5y w l b p).1 0) (qtc 25 r.st)/\qeo 25 (qtc 25 r.st).s=true)/\q2z (q5y w l b p).2 r:=by
 obtain⟨hj,hpj⟩:=jG.1 hlj
 have hj':(j:Int)<l.length:=by omega
 have wj:=qbb (k:=j) (by omega)
 have e1:=e76 w p
 have e2:=ev65 w hW p hp
 have hlo:∀n,25<=n->∀i,(f i).low n=true:=fun n hn i=>qgh hn _ (hf i).2
 have hne:∀i,(f i=.nils)=False:=fun i=>by simp[(hf i).1]
 have hz:∀r,q2z none r:=fun r y hy=>by cases hy
 unfold q5y
 cases b with
 | true =>
  have q:=fun b S h1 h2=>z2a c k i l hl w hW p0 p hp j S h1 h2 b
  rw[Bool.true_and]
  cases hd:zwn w p with
  | true =>
   rw[hd]at e2
   have q':=q false
   simp only[Bool.not_true]
   generalize qdm (qlt w l p) false (qqa w p)=z at *
   obtain⟨b',z⟩:=z
   simp[q3d,L32_2,hj,hpj,hj',e1,e2]
   generalize hr:ev pg (.code (.range _ _ _ _) _)=o
   obtain⟨r,rfl,h1,h2⟩:∃r,o=some r/\_:=by rw[<-hr];exact q' _ (by simp[qhw,hne]) (by simp[hlo])
   clear hr q q'
   cases z with
   | none =>
    rw[h1 rfl]
    simp[hlo,hne,hz,wj]
   | some e =>
    obtain⟨b2,rfl⟩:=h2 e rfl
    have hz2:∀r,zbb e r->q2z (some e) r:=fun r h y hy=>by cases hy;exact h
    refine⟨_,by simp;rfl,fun h=>by simp at h,hz2 _ ⟨rfl,rfl,rfl⟩⟩
  | false =>
   rw[hd]at e2
   have q':=q true
   simp only[Bool.not_false]
   generalize qdm (qlt w l p) true (qqa w p)=z at *
   obtain⟨b',z⟩:=z
   simp[q3d,L32_2,hj,hpj,hj',e1,e2]
   generalize hr:ev pg (.code (.range _ _ _ _) _)=o
   obtain⟨r,rfl,h1,h2⟩:∃r,o=some r/\_:=by rw[<-hr];exact q' _ (by simp[qhw,hne]) (by simp[hlo])
   clear hr q q'
   cases z with
   | none =>
    rw[h1 rfl]
    simp[hlo,hne,hz,wj]
   | some e =>
    obtain⟨b2,rfl⟩:=h2 e rfl
    have hz2:∀r,zbb e r->q2z (some e) r:=fun r h y hy=>by cases hy;exact h
    refine⟨_,by simp;rfl,fun h=>by simp at h,hz2 _ ⟨rfl,rfl,rfl⟩⟩
 | false =>
  have q':=fun S h1 h2=>z2a c k i l hl w hW p0 p hp j S h1 h2 false
  rw[Bool.false_and]
  generalize qdm (qlt w l p) false (qqa w p)=z at *
  obtain⟨b',z⟩:=z
  simp[q3d,L32_2,hj,hpj,hj',e1]
  generalize hr:ev pg (.code (.range _ _ _ _) _)=o
  obtain⟨r,rfl,h1,h2⟩:∃r,o=some r/\_:=by rw[<-hr];exact q' _ (by simp[qhw,hne]) (by simp[hlo])
  clear hr q'
  cases z with
  | none =>
   rw[h1 rfl]
   simp[hlo,hne,hz,wj]
  | some e =>
   obtain⟨b2,rfl⟩:=h2 e rfl
   have hz2:∀r,zbb e r->q2z (some e) r:=fun r h y hy=>by cases hy;exact h
   refine⟨_,by simp;rfl,fun h=>by simp at h,hz2 _ ⟨rfl,rfl,rfl⟩⟩
theorem jdm(c:Ct)(k i:Int)(l:List (Ste×Ste))(hl:l.length<=100000)(hS:∀q∈l,PS q)(w:Ct×Ct)(hW:WS w)(p0:Ste×Ste)(b:Bool){st:St}(h0:At (q3d l 0) (zpa c k i l w p0 b 0) st)(hl0:qeo 25 st.s=true) :
  ∃r,ev pg (.code (.going 25 L32_2) st)=some r/\((zba w l b).2=none->qaq (.exit 0) (q3d l l.length) (zpa c k i l w p0 (zba w l b).1 0) r)/\(∀e,(zba w l b).2=some e->zbb e r):=by
 refine qkj (q5y w l) (fun j b st=>At (q3d l j) (zpa c k i l w p0 b 0) st/\qeo 25 st.s=true) zbb (fun b r=>qaq (.exit 0) (q3d l l.length) (zpa c k i l w p0 b 0) r) l ?_ ?_ b ⟨h0,hl0⟩
 .rintro j b st p hx ⟨h,hlo⟩
  obtain⟨S,H⟩:=st
  obtain⟨f,hf,rfl⟩:=qnm 0 h.s hlo
  obtain rfl:H=_:=h.h
  obtain⟨r,e,h1,h2⟩:=jeg c k i l hl w hW p0 p (hS p (jR hx)) j hx f hf b
  refine⟨r,e,h1,fun e he=>⟨?_,h2 e he⟩⟩
  rw[(h2 e he).1]
  simp
 .rintro b st ⟨h,hlo⟩
  obtain⟨f,hf,rfl⟩:=h.eq
  refine(?_:∃r,ev pg (.code L32_2 ⟨fill f 0 (q3d l l.length),zpa c k i l w p0 b 0⟩)=some r/\_/\_)
  simp[q3d,L32_2,hf.ne]
set_option maxHeartbeats 4000000
theorem ev34_aux(c d:Ct)(hW:Wld (c,d))(k i:Int)(l:List (Ste×Ste))(hl:l.length<=100000)(hS:∀q∈l,PS q)(h0:qoi c k i=0)(hd:q6c c k i=d):ev pg (.call (.fn 34 [] []) [c.v,fv k i,prs l] [])=some { v:=num (zwz (c,d) l),st:=⟨[],[]⟩ }:=by
 have hc:c.small=true:=hW.g
 have e1:=ev59 c hc k i
 rw[h0,hd]at e1
 have q1:=fun st=>jdn c d hc hW.b k i l hl hS (st:=st)
 have hlo:=qwb (c,d) l
 have e2:=ev67 (c,d) hW.toWS
 have e3:=fun q=>ev78 l hl hS q
 have hli:=q4l hW.toWS (l:=l)
 rw[qaa,pg34]
 unfold zwz
 by_cases hn:l=[]
 .subst hn
  simp[ir34,e1]
 .have hn':¬(l.length:Int)=0:=by
   have:l.length≠0:=fun h=>hn (List.length_eq_zero_iff.1 h)
   omega
  have hnb:((l.length:Int)==0)=false:=by simpa using hn'
  rw[if_neg hn]
  by_cases hg:16384<l.length
  .have hg':(16384:Int)<l.length:=by omega
   rw[if_pos hg]
   simp[ir34,e1,hn,hn',hnb,hg']
  .have hg':¬(16384:Int)<l.length:=by omega
   rw[if_neg hg]
   simp[ir34,qah,e1,hn,hn',hnb,hg']
   generalize hr:ev pg (.code (.going _ L34_0) _)=o
   obtain⟨r,rfl,h1,h2⟩:∃r,o=some r/\_:=by rw[<-hr];exact q1 _ (by simp[q6h])
   clear hr q1
   by_cases hL:qwe (c,d) l=0
   .rw[if_pos hL]at hlo
    have hli':=hli hL
    obtain⟨f,hf,rfl⟩:=h1 hlo
    rw[if_pos hL]
    clear h1 h2 hlo hli
    unfold znm at e2
    have q2:=fun p0 b st=>jdp c d hW k i p0 l hl hli' b (st:=st)
    generalize qid (c,d)=y at *
    obtain⟨p,b,e⟩:=y
    simp only at *
    by_cases he:e=0
    .subst he
     have e4:=e3 p
     cases b with
     | true =>
      cases hh:q2t l p with
      | true =>
       rw[hh]at e4
       simp[q6h,qah,e2,e4,hf.ne]
       generalize hr:ev pg (.code (.going _ L34_2) _)=o
       obtain⟨r,rfl,h1,h2⟩:∃r,o=some r/\_:=by rw[<-hr];exact q2 p true _ (by simp[q0k,q6d,hf.ne])
       clear hr q2
       generalize zba (c,d) l true=z at *
       obtain⟨b',z⟩:=z
       cases z with
       | none =>
        obtain⟨f',hf',rfl⟩:=h1 rfl
        simp[q0k,q2k]
       | some e =>
        obtain⟨S,H,rfl,h3⟩:=h2 e rfl
        simp[h3,q2k]
      | false =>
       rw[hh]at e4
       simp[q6h,qah,e2,e4,hf.ne]
       generalize hr:ev pg (.code (.going _ L34_2) _)=o
       obtain⟨r,rfl,h1,h2⟩:∃r,o=some r/\_:=by rw[<-hr];exact q2 p false _ (by simp[q0k,q6d,hf.ne])
       clear hr q2
       generalize zba (c,d) l false=z at *
       obtain⟨b',z⟩:=z
       cases z with
       | none =>
        obtain⟨f',hf',rfl⟩:=h1 rfl
        simp[q0k,q2k]
       | some e =>
        obtain⟨S,H,rfl,h3⟩:=h2 e rfl
        simp[h3,q2k]
     | false =>
      simp[q6h,qah,e2,hf.ne]
      generalize hr:ev pg (.code (.going _ L34_2) _)=o
      obtain⟨r,rfl,h1,h2⟩:∃r,o=some r/\_:=by rw[<-hr];exact q2 p false _ (by simp[q0k,q6d,hf.ne])
      clear hr q2
      generalize zba (c,d) l false=z at *
      obtain⟨b',z⟩:=z
      cases z with
      | none =>
       obtain⟨f',hf',rfl⟩:=h1 rfl
       simp[q0k,q2k]
      | some e =>
       obtain⟨S,H,rfl,h3⟩:=h2 e rfl
       simp[h3,q2k]
    .have heb:(e==0)=false:=by simpa using he
     simp[q6h,e2,he,heb,hf.ne]
   .rw[if_neg hL]at hlo
    obtain⟨S,H,rfl,h3⟩:=h2 _ hlo
    rw[if_neg hL]
    simp[h3]
theorem ev34(c:Ct)(hc:c.small=true)(k i:Int)(l:List (Ste×Ste))(hl:l.length<=100000)(hS:∀q∈l,PS q):ev pg (.call (.fn 34 [] []) [c.v,fv k i,prs l] [])=some { v:=num (qxs c k i l),st:=⟨[],[]⟩ }:=by
 unfold qxs
 by_cases h:qoi c k i=0
 .rw[if_pos h]
  exact ev34_aux c _ (q7j hc h).1 k i l hl hS h rfl
 .have e1:=ev59 c hc k i
  have hb:(qoi c k i==0)=false:=by simpa using h
  rw[if_neg h]
  rw[qaa,pg34]
  generalize q6c c k i=d at *
  generalize qoi c k i=e at *
  simp[ir34,e1,h,hb]
abbrev jba(l:List (Ste×Ste))(a:Nat×Nat):H:=[o0,⟨a.1,.arr a.2 (l.map qbw)⟩]
def zrj(L:List (Ste×Ste))(k:Nat)(a:Nat×Nat):Tm:=[none,none,some (.sl 0 0 0 0 0),some (.sl 1 a.1 a.2 0 (L.take k).length),none,none,some (prs L),nN L.length,nN k]++zN 13
abbrev jax(a:Nat×Nat):Prop:=a.2=10\/a.2=0
theorem jdk(L:List (Ste×Ste))(hL:L.length<=100000){st:St}(a0:Nat×Nat)(g0:jax a0)(h0:At (zrj L 0 a0) (jba [] a0) st):∃r,ev pg (.code (.going 2 L19_0) st)=some r/\∃a,jax a/\qaq (.exit 0) (zrj L L.length a) (jba L a) r:=by
 have hT:L.take L.length=L:=List.take_length
 refine qdb L.length (zrj L) (fun k a=>jba (L.take k) a) (fun _ a=>jax a) _ ?_ ?_ a0 g0 (by simpa using h0)
 .rintro k ⟨g,m⟩ f hf hk hG
  have hk':(k:Int)<L.length:=by omega
  have wk:=qbb (k:=k) (by omega)
  have hsl:(L.take k).length<=k:=List.length_take_le _ _
  unfold zrj
  rw[jK hk]
  generalize L.take k=C at *
  have hb1:(C.length+1)*240<=140737488355328:=by omega
  have hmm:m=10\/m=0:=hG
  rcases hmm with rfl | rfl<;>simp[L19_0,hk,hk',wk,hb1,hf.ne]
 .rintro⟨g,m⟩ f hf hG
  rw[hT]
  unfold zrj
  rw[hT]
  have hmm:m=10\/m=0:=hG
  rcases hmm with rfl | rfl<;>simp[L19_0,hf.ne]
theorem ev33(L:List (Ste×Ste))(hL:L.length<=100000):ev pg (.call (.fn 33 [] []) [prs L] [])=some { v:=prs L,st:=⟨[],[]⟩ }:=by
 have q:=fun st=>jdk L hL (0,0) (.inr rfl) (st:=st)
 have hT:L.take L.length=L:=List.take_length
 have hc:L33_0=L19_0:=rfl
 rw[qaa,pg33]
 simp[ir33,qah,hc]
 generalize hr:ev pg (.code (.going _ L19_0) _)=o
 obtain⟨r,rfl,⟨g,m⟩,hm,f,hf,rfl⟩:∃r,o=some r/\_:=by rw[<-hr];exact q _ (by simp[zrj])
 clear hr
 unfold zrj
 rw[hT]
 have hmm:m=10\/m=0:=hm
 rcases hmm with rfl | rfl<;>simp
end Go.Proofs.YtbepbclaoohngaaGreat
namespace Go.Proofs.YtbepbclaoohngaaGreat
open Go Go.Am Go.Proofs
abbrev mai(n:Int):V:=.int .i64 n
abbrev z1n:V:=.imm [[mai 1,mai 2,.imm []]]
abbrev z9q:V:=.imm [[.str [117,112],mai 0,mai 1,mai 2,.imm [],mai 0,mai 0,.imm [],mai 0,.bool false],[.str [100,111,119,110],mai 0,mai 2,mai 0,z1n,mai 0,mai 0,.imm [],mai 0,.bool false]]
abbrev qxz:V:=.imm [[mai 3]]
abbrev zcu:V:=.imm [[.str [103,111]]]
abbrev zcv:V:=.imm [[mai 4]]
abbrev qub:V:=.agg [mai 1,zcu,z9q,qxz,zcv]
abbrev z1c:V:=.imm [[.str [117,112],mai 0,mai 1,mai 2,.imm [],mai 0,mai 0,.imm [],mai 0,.bool false],[.str [100,111,119,110],mai 0,mai 2,mai 0,z1n,mai 0,mai 0,.imm [],mai 0,.bool false],[.str [115,116,117,99,107,48],mai 0,mai 0,mai 0,.imm [],mai 0,mai 0,.imm [],mai 0,.bool false]]
abbrev zka:V:=.agg [mai 1,zcu,z1c,.imm [[mai 5]],zcv]
abbrev q1p:V:=.imm [[mai 0],[mai 0]]
abbrev zuv:V:=.imm [[mai 0],[mai 0],[mai (-1099511627776)]]
abbrev qql:V:=.imm [[.bool false]]
abbrev zqk:V:=.tup [.agg [.sl 0 0 1 0 1,.sl 1 0 1 0 1,.sl 2 0 1 0 1,.sl 3 0 1 0 2,.sl 4 0 1 0 2],.sl 5 0 1 0 0,mai 0]
abbrev qxy:V:=.imm [[.bool false],[.bool true]]
abbrev qlw:V:=.imm [[.bool true]]
abbrev q4q:V:=.imm [[.bool true],[.bool false]]
abbrev q1o:V:=.imm [[mai 0]]
abbrev zmy:V:=.imm [[mai 1]]
abbrev zmz:V:=.imm [[mai 2]]
abbrev jez:V:=.imm [[q1o,qql,qql,qxy,q1p,q1o,qql,qql,qxy,q1p],[zmy,qlw,qlw,q4q,q1p,zmy,qlw,qlw,q4q,q1p],[zmz,qlw,qlw,q4q,q1p,zmz,qlw,qlw,q4q,q1p],[qxz,qql,qql,qxy,q1p,qxz,qql,qql,qxy,q1p]]
abbrev z1j:V:=.imm [[mai 0],[mai 0],[mai 300]]
abbrev z1t:V:=.agg [mai 2,.imm [[zuv],[z1j],[.imm [[mai (-1099511627776)],[mai (-200)],[mai 0]]]]]
abbrev zmu:V:=.imm [[mai 0],[mai 0],[mai 0]]
abbrev z1g:V:=.imm [[.bool false],[.bool true],[.bool false]]
abbrev z1u:V:=.agg [q1o,qql,qql,z1g,zmu]
abbrev zus:V:=.imm [[mai (-1099511627776)],[mai (-1099511627776)],[mai 0]]
abbrev zut:V:=.agg [q1o,qql,qlw,.imm [[.bool true],[.bool false],[.bool false]],zmu]
abbrev zuu:V:=.tup [.agg [.sl 0 0 1 0 1,.sl 1 0 1 0 1,.sl 2 0 1 0 1,.sl 3 0 1 0 3,.sl 4 0 1 0 3],.sl 5 0 1 0 0,mai 0]
abbrev z1d:V:=.imm [[mai (-1099511627776)],[mai 0],[mai 0]]
abbrev z1e:V:=.imm [[mai 0],[mai (-1099511627776)],[mai (-1099511627776)]]
abbrev zmv:V:=.agg [zmy,qlw,qlw,q4q,q1p]
abbrev zmw:V:=.agg [zmz,qlw,qlw,q4q,q1p]
abbrev zhz:V:=.agg [q1o,qql,qql,qxy,q1p]
abbrev zct:V:=.tup [.bool true,mai 0]
abbrev zmx:V:=.agg [qxz,qql,qql,qxy,q1p]
abbrev z1f:V:=.agg [mai 2,.imm [[zuv],[z1j],[z1d]]]
abbrev z1h:V:=.imm [[mai 2,mai 0,.bool true],[mai 0,mai 0,.bool false]]
abbrev z1i:V:=.agg [.imm [[mai 200,mai 300,mai 200,mai 300]]]
abbrev z1k:V:=.agg [mai 2,.imm [[z1e],[zuv],[zus]]]
abbrev z1l:V:=.agg [mai 2,.imm [[zuv],[zuv],[zus]]]
abbrev z1m:V:=.agg [mai 2,.imm [[zuv],[zuv],[z1d]]]
abbrev z1o:V:=.agg [q1o,qql,qlw,z1g,zmu]
abbrev z1p:V:=.agg [q1o,qql,qlw,qxy,q1p]
abbrev z1q:V:=.agg [zmy,qlw,qql,q4q,q1p]
abbrev z1r:V:=.agg [zmz,qlw,qql,q4q,q1p]
abbrev z1s:V:=.agg [qxz,qql,qlw,qxy,q1p]
end Go.Proofs.YtbepbclaoohngaaGreat
