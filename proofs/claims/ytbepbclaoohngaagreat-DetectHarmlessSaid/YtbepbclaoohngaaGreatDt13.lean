/- The program's search: one event. -/
import Derived.Test.YtbepbclaoohngaaGreatDt6
import Derived.KernelRfl
import Derived.Test.YtbepbclaoohngaaGreatLo2
import Derived.Test.YtbepbclaoohngaaGreatSa1
set_option linter.all false
namespace Go.Proofs.YtbepbclaoohngaaGreat
open Go Go.Am Go.Proofs
set_option maxRecDepth 100000
set_option maxHeartbeats 4000000
def qfk{α:Type}(step:α->Evn->α×Bool):α->List Evn->α×Bool
 | s,[]=>(s,true)
 | s,x :: l=>if(step s x).2=true then qfk step (step s x).1 l else((step s x).1,false)
theorem qtw{α:Type}(step:α->Evn->α×Bool):∀(l m:List Evn) (s:α),qfk step s (l++m)=if(qfk step s l).2=true then qfk step (qfk step s l).1 m else qfk step s l
 | [],m,s=>by simp[qfk]
 | x :: l,m,s=>by
  simp only[List.cons_append,qfk]
  split
  .exact qtw step l m _
  .simp
def zew(s:Ste):List Evn:=(s.inputs.mapIdx fun i v=>⟨2,(i:Int),!v⟩)
def qkm(w:Ct×Ct)(p:Ste×Ste):List Evn:=qor w.1 p.1++zew p.1
def qup(E:List Evn)(a b l k:Nat):Tm:=[some (.yld l),some (.bptr a 0),some (.bptr b 0)]++zN 9++[some (evs E),nN E.length,nN k]++zN 25
def quq(B:List Bool)(a b l k:Nat):Tm:=[some (.yld l),some (.bptr a 0),some (.bptr b 0)]++zN 22++[some (qfi B),nN B.length,nN k]++zN 12
structure Rng{α:Type}(w:Ct×Ct)(p:Ste×Ste)(Mem:α->H)(G:α->Prop)(Z:α->H->Prop)(step:α->Evn->α×Bool)(a b l N:Nat):Prop where
 aN:a<N
 bN:b<N
 lN:l<N
 len:∀s,G s->(Mem s).length=N
 calm:∀s,G s->calm (Mem s)
 ha:∀s,G s->(Mem s)[a]?=some ⟨0,.box (qfy w)⟩
 hb:∀s,G s->(Mem s)[b]?=some ⟨0,.box (qcj p)⟩
 yld:∀s x E,G s->x∈qkm w p->(E=[]\/E=[⟨0,.box x.row⟩])->(step s x).2=true->G (step s x).1/\ev pg (.call (.yld l) [x.v] (Mem s++E))=some { v:=.bool true,st:=⟨[],Mem (step s x).1++E⟩ }
 stp:∀s x E,G s->x∈qkm w p->(E=[]\/E=[⟨0,.box x.row⟩])->(step s x).2=false->∃H,Z (step s x).1 H/\ev pg (.call (.yld l) [x.v] (Mem s++E))=some { v:=.bool false,st:=⟨[],H⟩ }
section
variable{α:Type}{w:Ct×Ct}{p:Ste×Ste}{Mem:α->H}{G:α->Prop}{Z:α->H->Prop}{step:α->Evn->α×Bool}{a b l N:Nat}
def zck(step:α->Evn->α×Bool)(Mem:α->H)(G:α->Prop)(Z:α->H->Prop)(s0:α)(E:List Evn)(T:Tm)(k:Nat)(r:R):Prop :=
 ((qfk step s0 E).2=false/\∃S H,Z (qfk step s0 E).1 H/\r={ x:=.ret,st:=⟨S,H⟩ })\/((qfk step s0 E).2=true/\G (qfk step s0 E).1/\qbn (.exit k) T (Mem (qfk step s0 E).1) r)
theorem z0v(h:Rng w p Mem G Z step a b l N)(E:List Evn)(hE:E.length<=100000)(hin:∀x∈E,x∈qkm w p)(s0:α)(g0:G s0){st:St}(h0:At (qup E a b l 0) (Mem s0) st) :
  ∃r,ev pg (.code (.going N L136_0) st)=some r/\zck step Mem G Z s0 E (qup E a b l E.length) 0 r:=by
 refine qev (α:=α) E.length (fun k _=>qup E a b l k) (fun _ s=>Mem s) (fun k s=>G s/\qfk step s0 E=qfk step s (E.drop k)) _ ?_ ?_ s0 ⟨g0,by simp⟩ h0
 .rintro k s f hf hk ⟨g,hg⟩
  have hk':(k:Int)<E.length:=by omega
  have wk:=qbs (k:=k) (by omega)
  have hy:=h.yld s E[k] _ g (hin _ (jH hk)) (.inr rfl)
  have hz:=h.stp s E[k] _ g (hin _ (jH hk)) (.inr rfl)
  have hl:=h.len s g
  rw[jL hk]at hg
  simp only[qfk]at hg
  have aN:=h.aN
  have bN:=h.bN
  have lN:=h.lN
  cases hs:(step s E[k]).2 with
  | true =>
   obtain⟨g',e1⟩:=hy hs
   have hcut:=fun r=>qqh (h.calm _ g') r
   rw[h.len _ g']at hcut
   rw[hs]at hg
   simp only[if_true]at hg
   clear hy hz hs
   generalize (step s E[k]).1=s' at *
   obtain⟨S,e,hS⟩:∃S,ev pg (.code L136_0 ⟨fill f 0 (qup E a b l k),Mem s⟩)=some { st:=⟨S,Mem s'++[⟨0,.box E[k].row⟩]⟩ }/\qzr (qup E a b l (k+1)) (S.map (qbq N)):=by
    simp[qup,L136_0,hk,hk',e1,wk,hf.ne,aN,bN,lN]
   refine⟨_,e,.inl ⟨rfl,s',⟨g',hg⟩,?_⟩⟩
   exact⟨hS,by show qjn N _=_;exact hcut _⟩
  | false =>
   obtain⟨H,hZ,e1⟩:=hz hs
   rw[hs]at hg
   simp only[Bool.false_eq_true,if_false]at hg
   obtain⟨S,e⟩:∃S,ev pg (.code L136_0 ⟨fill f 0 (qup E a b l k),Mem s⟩)=some { x:=.ret,st:=⟨S,H⟩ }:=by
    simp[qup,L136_0,hk,hk',e1,hf.ne]
   refine⟨_,e,.inr ⟨by simp,?_⟩⟩
   unfold zck
   rw[hg]
   exact .inl ⟨rfl,S,H,hZ,rfl⟩
 .rintro s f hf ⟨g,hg⟩
  rw[List.drop_length]at hg
  simp only[qfk]at hg
  unfold zck
  rw[hg]
  refine(?_:∃r,ev pg (.code L136_0 ⟨fill f 0 (qup E a b l E.length),Mem s⟩)=some r/\r.x ≠ .normal/\_)
  simp[qup,L136_0,g,hf.ne]
theorem z0w(h:Rng w p Mem G Z step a b l N)(hB:p.1.inputs.length<=100000)(s0:α)(g0:G s0){st:St}(h0:At (quq p.1.inputs a b l 0) (Mem s0) st) :
  ∃r,ev pg (.code (.going N L136_1) st)=some r/\zck step Mem G Z s0 (zew p.1) (quq p.1.inputs a b l p.1.inputs.length) 2 r:=by
 have htl:(zew p.1).length=p.1.inputs.length:=by simp[zew]
 refine qev (α:=α) p.1.inputs.length (fun k _=>quq p.1.inputs a b l k) (fun _ s=>Mem s) (fun k s=>G s/\qfk step s0 (zew p.1)=qfk step s ((zew p.1).drop k)) _ ?_ ?_ s0 ⟨g0,by simp⟩ h0
 .rintro k s f hf hk ⟨g,hg⟩
  have hk':(k:Int)<p.1.inputs.length:=by omega
  have wk:=qbs (k:=k) (by omega)
  have hkt:k<(zew p.1).length:=by omega
  have hx:(zew p.1)[k]=⟨2,(k:Int),!p.1.inputs[k]⟩:=by simp[zew]
  rw[jL hkt,hx]at hg
  have hy:=h.yld s ⟨2,(k:Int),!p.1.inputs[k]⟩ [] g (by rw[<-hx];exact List.mem_append_right _ (jH hkt)) (.inl rfl)
  have hz:=h.stp s ⟨2,(k:Int),!p.1.inputs[k]⟩ [] g (by rw[<-hx];exact List.mem_append_right _ (jH hkt)) (.inl rfl)
  simp only[List.append_nil]at hy hz
  simp only[qfk]at hg
  have aN:=h.aN
  have bN:=h.bN
  have lN:=h.lN
  cases hs:(step s ⟨2,(k:Int),!p.1.inputs[k]⟩).2 with
  | true =>
   obtain⟨g',e1⟩:=hy hs
   have hcut:=qqd (h.calm _ g')
   rw[h.len _ g']at hcut
   rw[hs]at hg
   simp only[if_true]at hg
   clear hy hz hs
   generalize (step s ⟨2,(k:Int),!p.1.inputs[k]⟩).1=s' at *
   obtain⟨S,e,hS⟩:∃S,ev pg (.code L136_1 ⟨fill f 0 (quq p.1.inputs a b l k),Mem s⟩)=some { st:=⟨S,Mem s'⟩ }/\qzr (quq p.1.inputs a b l (k+1)) (S.map (qbq N)):=by
    simp[quq,L136_1,hk,hk',e1,wk,hf.ne,aN,bN,lN]
   refine⟨_,e,.inl ⟨rfl,s',⟨g',hg⟩,?_⟩⟩
   exact⟨hS,by show qjn N _=_;exact hcut⟩
  | false =>
   obtain⟨H,hZ,e1⟩:=hz hs
   rw[hs]at hg
   simp only[Bool.false_eq_true,if_false]at hg
   obtain⟨S,e⟩:∃S,ev pg (.code L136_1 ⟨fill f 0 (quq p.1.inputs a b l k),Mem s⟩)=some { x:=.ret,st:=⟨S,H⟩ }:=by
    simp[quq,L136_1,hk,hk',e1,hf.ne]
   refine⟨_,e,.inr ⟨by simp,?_⟩⟩
   unfold zck
   rw[hg]
   exact .inl ⟨rfl,S,H,hZ,rfl⟩
 .rintro s f hf ⟨g,hg⟩
  rw[show(zew p.1).drop p.1.inputs.length=[]by rw[<-htl,List.drop_length]]at hg
  simp only[qfk]at hg
  unfold zck
  rw[hg]
  refine(?_:∃r,ev pg (.code L136_1 ⟨fill f 0 (quq p.1.inputs a b l p.1.inputs.length),Mem s⟩)=some r/\r.x ≠ .normal/\_)
  simp[quq,L136_1,g,hf.ne]
theorem ev136(h:Rng w p Mem G Z step a b l N)(hw:WS w)(hp:PS p)(s0:α)(g0:G s0) :
  ∃H',ev pg (.call (.fn 136 [] [.bptr a 0,.bptr b 0]) [.yld l] (Mem s0))=some { v:=.tup [],st:=⟨[],H'⟩ } /\
   (((qfk step s0 (qkm w p)).2=true/\G (qfk step s0 (qkm w p)).1/\H'=Mem (qfk step s0 (qkm w p)).1)\/((qfk step s0 (qkm w p)).2=false/\∃H,Z (qfk step s0 (qkm w p)).1 H/\H'=qds N H)):=by
 have e1:=ev126 w.1 p.1 hw.g hp.g
 have hE:(qor w.1 p.1).length<=100000:=by have:=q7b w.1 p.1 hp.g;omega
 have hB:p.1.inputs.length<=100000:=by have:=hp.g.i;omega
 have q1:=fun st=>z0v h (qor w.1 p.1) hE (fun x hx=>List.mem_append_left _ hx) s0 g0 (st:=st)
 have hl:=h.len s0 g0
 have ha:=h.ha s0 g0
 have hb:=h.hb s0 g0
 have hcut:=fun s g=>qgl (h.calm s g)
 rw[qab,pg136]
 unfold qkm
 rw[qtw]
 generalize qor w.1 p.1=E at *
 simp[-qds,-qpm,-qjm,ir136,qam,ha,hb,e1,hl]
 generalize hr:ev pg (.code (.going _ L136_0) _)=o
 obtain⟨r,rfl,hQ⟩:∃r,o=some r/\_:=by rw[<-hr];exact q1 _ (by simp[qup])
 clear hr q1
 rcases hQ with⟨hF,S,H,hZ,rfl⟩ | ⟨hF,g1,f,hf,rfl⟩
 .rw[hF]
  simp[-qds,-qpm,-qjm,hF]
  exact⟨H,hZ,rfl⟩
 .rw[hF]
  simp only[if_true]
  generalize (qfk step s0 E).1=s1 at *
  have q2:=fun st=>z0w h hB s1 g1 (st:=st)
  have hb1:=h.hb s1 g1
  have hl1:=h.len s1 g1
  simp[-qds,-qpm,-qjm,qup,hb1,hl1,qam,hf.ne]
  generalize hr:ev pg (.code (.going _ L136_1) _)=o
  obtain⟨r,rfl,hQ⟩:∃r,o=some r/\_:=by rw[<-hr];exact q2 _ (by simp[quq,hf.ne])
  clear hr q2
  rcases hQ with⟨hF,S,H,hZ,rfl⟩ | ⟨hF,g2,f,hf,rfl⟩
  .simp[-qds,-qpm,-qjm,hF]
   exact⟨H,hZ,rfl⟩
  .have hc:=hcut _ g2
   rw[h.len _ g2]at hc
   simp[-qds,-qpm,-qjm,hF,quq,hc,g2]
end
end Go.Proofs.YtbepbclaoohngaaGreat
namespace Go.Am
def qck{α β γ:Type}(step:α->β->α×Option γ):α->List β->α×Option γ
 | a,[]=>(a,none)
 | a,x :: l=>match step a x with
  | (a',none)=>qck step a' l
  | (a',some z)=>(a',some z)
theorem q5o{P:Prg}{nx:Nat}{c:C}{α β γ:Type}(step:α->β->α×Option γ)(I:Nat->α->St->Prop)(Z:γ->R->Prop)(Lq:α->R->Prop)(E:List β)
  (go:∀j a st x,E[j]?=some x->I j a st->∃r,ev P (.code c st)=some r/\((step a x).2=none->r.x=.normal/\I (j+1) (step a x).1 (qts nx r.st))/\(∀z,(step a x).2=some z->r.x ≠ .normal/\Z z r))
  (last:∀a st,I E.length a st->∃r,ev P (.code c st)=some r/\r.x ≠ .normal/\Lq a r) {st:St} (a:α) (h0:I 0 a st) :
  ∃r,ev P (.code (.going nx c) st)=some r/\((qck step a E).2=none->Lq (qck step a E).1 r)/\(∀z,(qck step a E).2=some z->Z z r):=by
 refine qat (fun j st=>∃a',I j a' st/\qck step a E=qck step a' (E.drop j)) E.length _ ⟨a,h0,by simp⟩ ?_ ?_
 .rintro j st hj ⟨a',hI,hf⟩
  obtain⟨r,e,h1,h2⟩:=go j a' st E[j] (jA hj) hI
  rw[jL hj]at hf
  simp only[qck]at hf
  refine⟨r,e,?_⟩
  generalize step a' E[j]=y at *
  obtain⟨b,z⟩:=y
  cases z with
  | none =>
   obtain⟨hx,hI'⟩:=h1 rfl
   exact .inl ⟨hx,b,hI',hf⟩
  | some z =>
   obtain⟨hx,hZ⟩:=h2 z rfl
   rw[hf]
   exact .inr ⟨hx,by simp,fun z' hz=>by cases hz;exact hZ⟩
 .rintro st ⟨a',hI,hf⟩
  rw[List.drop_length]at hf
  obtain⟨r,e,hx,hL⟩:=last a' st hI
  rw[hf]
  exact⟨r,e,hx,fun _=>hL,fun z hz=>by simp[qck]at hz⟩
end Go.Am
namespace Go.Proofs.YtbepbclaoohngaaGreat
open Go Go.Am Go.Proofs
set_option maxRecDepth 100000
structure Sr where
 D:List (Ste×Ste)
 N:List (List Evn)
abbrev q7j:=List Evn×Bool×Int
abbrev qyq:Ste×Ste:=(zeroS,zeroS)
def qhg(w:Ct×Ct)(most:Int)(k:Nat)(s:Sr)(x:Evn):Sr×Option q7j :=
 if(qfg w ((s.D[k]?).getD qyq) x).2.2=0 then
  (if(!(qfg w ((s.D[k]?).getD qyq) x).2.1||difP w (qfg w ((s.D[k]?).getD qyq) x).1)=true then(s,some ((s.N[k]?).getD []++[x],true,0))
    else if qzu s.D (qfg w ((s.D[k]?).getD qyq) x).1=true then(s,none)
    else if(s.D.length:Int)=most then(s,some ([],false,12))
    else(⟨s.D++[(qfg w ((s.D[k]?).getD qyq) x).1],s.N++[(s.N[k]?).getD []++[x]]⟩,none))
 else(s,some ([],false,(qfg w ((s.D[k]?).getD qyq) x).2.2))
def zeq(w:Ct×Ct)(most:Int)(k:Nat)(a:Sr×Option q7j)(x:Evn):(Sr×Option q7j)×Bool:=(qhg w most k a.1 x,(qhg w most k a.1 x).2.isNone)
def qde(w:Ct×Ct)(most:Int)(k:Nat)(s:Sr):Sr×Option q7j:=qck (qhg w most k) s (qkm w ((s.D[k]?).getD qyq))
def sGo(w:Ct×Ct)(most:Int):Nat->Nat->Sr->Sr×Option q7j
 | 0,_,s=>(s,none)
 | d+1,k,s=>if k<s.D.length then(match (qde w most k s).2 with | none=>sGo w most d (k+1) (qde w most k s).1 | some z=>((qde w most k s).1,some z))else(s,none)
def zyj(x:Sr×Option q7j):(List (Ste×Ste)×List (List Evn)×List Evn×Bool)×Int:=match x.2 with
 | none=>((x.1.D,x.1.N,[],false),0)
 | some z=>(([],[],z.1,z.2.1),z.2.2)
def qdt(w:Ct×Ct)(most:Int):(List (Ste×Ste)×List (List Evn)×List Evn×Bool)×Int :=
 if(qap w).2.2=0 then
  (if(!(qap w).2.1||difP w (qap w).1)=true then(([],[],[],true),0)
    else zyj (sGo w most (most.toNat+1) 0 ⟨[(qap w).1],[[]]⟩))
 else(([],[],[],false),(qap w).2.2)
structure SrOk(w:Ct×Ct)(most:Int)(s:Sr):Prop where
 lie:∀p∈s.D,LieP w p
 len:s.N.length=s.D.length
 most:(s.D.length:Int)<=most
 run:∀(j:Nat) (h:j<s.N.length),s.N[j].length<=j
theorem q3h{w:Ct×Ct}(hw:WS w){most:Int}{k:Nat}{s:Sr}(h:SrOk w most s)(hk:k<s.D.length)(x:Evn):SrOk w most (qhg w most k s x).1:=by
 unfold qhg
 split
 .rename_i h1
  split
  .exact h
  .rename_i h2
   split
   .exact h
   .split
    .exact h
    .rename_i h3 h4
     simp only[Bool.or_eq_true,Bool.not_eq_true',not_or,Bool.not_eq_false,Bool.not_eq_true]at h2
     refine⟨?_,?_,?_,?_⟩
     .intro p hp
      rcases jQ.1 hp with hp | hp
      .exact h.lie p hp
      .rw[List.mem_singleton.1 hp]
       exact q9p hw h1 h2.1
     .simp[h.len]
     .simp only[jF,List.length_cons,List.length_nil]
      have:=h.most
      omega
     .intro j hj
      simp only[jF,List.length_cons,List.length_nil]at hj
      by_cases hjk:j<s.N.length
      .rw[List.getElem_append_left hjk]
       exact h.run j hjk
      .rw[List.getElem_append_right (by omega)]
       have hj0:j-s.N.length=0:=by omega
       simp only[hj0,List.getElem_cons_zero,jF,List.length_cons,List.length_nil]
       have hk':k<s.N.length:=by have:=h.len;omega
       rw[jA hk']
       have:=h.run k hk'
       simp only[Option.getD_some]
       omega
 .exact h
theorem qvk(w:Ct×Ct)(most:Int)(k:Nat)(s:Sr)(x:Evn){j:Nat}(hj:j<s.D.length):(qhg w most k s x).1.D[j]?=s.D[j]?:=by
 unfold qhg
 repeat' split
 all_goals first | rfl | (show(s.D++_)[j]?=_;rw[jI hj])
theorem q3g(w:Ct×Ct)(most:Int)(k:Nat)(s:Sr)(x:Evn):s.D.length<=(qhg w most k s x).1.D.length:=by
 unfold qhg
 repeat' split
 all_goals first | exact jD _ | simp
theorem zho(w:Ct×Ct)(most:Int)(k:Nat):∀(E:List Evn) (s:Sr),qfk (zeq w most k) (s,none) E=(qck (qhg w most k) s E,(qck (qhg w most k) s E).2.isNone)
 | [],s=>rfl
 | x :: l,s=>by
  have ih:=fun s'=>zho w most k l s'
  cases hy:qhg w most k s x with
  | mk s' z =>
   cases z with
   | none=>simp[qfk,qck,zeq,hy,ih]
   | some z=>simp[qfk,qck,zeq,hy]
theorem zan{w:Ct×Ct}(hw:WS w){most:Int}{k:Nat}{p:Ste×Ste}:∀(l:List Evn) (s:Sr),SrOk w most s->s.D[k]?=some p->SrOk w most (qck (qhg w most k) s l).1/\(qck (qhg w most k) s l).1.D[k]?=some p
 | [],s,h,hp=>⟨h,hp⟩
 | x :: l,s,h,hp=>by
  have hk:k<s.D.length:=by
   rw[jG]at hp
   exact hp.1
  have h1:SrOk w most (qhg w most k s x).1:=q3h hw h hk x
  have h2:(qhg w most k s x).1.D[k]?=some p:=by rw[<-hp];exact qvk w most k s x hk
  simp only[qck]
  generalize qhg w most k s x=y at *
  obtain⟨s',z⟩:=y
  cases z with
  | none=>exact zan hw l s' h1 h2
  | some z=>exact⟨h1,h2⟩
theorem qqo(w:Ct×Ct)(most:Int)(k:Nat):∀(l:List Evn) (s:Sr),s.D.length<=(qck (qhg w most k) s l).1.D.length
 | [],s=>jD _
 | x :: l,s=>by
  have h1:=q3g w most k s x
  simp only[qck]
  generalize qhg w most k s x=y at *
  obtain⟨s',z⟩:=y
  cases z with
  | none=>exact Nat.le_trans h1 (qqo w most k l s')
  | some z=>exact h1
theorem qya{w:Ct×Ct}(hw:WS w){most:Int}{k:Nat}{s:Sr}(h:SrOk w most s)(hk:k<s.D.length):SrOk w most (qde w most k s).1:=by
 unfold qde
 exact(zan hw _ s h (jA hk)).1
end Go.Proofs.YtbepbclaoohngaaGreat
namespace Go.Am
def JunkL(n:Nat)(f:Nat->V):Prop:=∀i,f i ≠ .nils/\(f i).low n=true
theorem JunkL.junk{n:Nat}{f:Nat->V}(h:JunkL n f):Junk f:=fun i=>(h i).1
theorem qgz{m:Nat}:∀{t:Tm} {s:List V} (n:Nat),qzr t s->qea m s=true->∃f,JunkL m f/\s=fill f n t
 | [],[],_,_,_=>⟨fun _=>.undef,fun _=>by simp,rfl⟩
 | [],_ :: _,_,h,_=>by simp[qzr]at h
 | some _ :: _,[],_,h,_=>by simp[qzr]at h
 | none :: _,[],_,h,_=>by simp[qzr]at h
 | some v :: t,x :: s,n,h,hl=>by
  obtain⟨rfl,h2⟩:=h
  simp only[qea,jE]at hl
  obtain⟨f,hf,rfl⟩:=qgz (n+1) h2 hl.2
  exact⟨f,hf,rfl⟩
 | none :: t,x :: s,n,h,hl=>by
  obtain⟨hx,h2⟩:=h
  simp only[qea,jE]at hl
  obtain⟨f,hf,rfl⟩:=qgz (n+1) h2 hl.2
  refine⟨fun i=>if i=n then x else f i,fun i=>?_,?_⟩
  .simp only
   split
   .exact⟨hx,hl.1⟩
   .exact hf i
  .have:∀(t:Tm) (k:Nat),n<k->fill (fun i=>if i=n then x else f i) k t=fill f k t:=by
    intro t
    induction t with
    | nil=>intro k _;rfl
    | cons o t ih =>
     intro k hk
     cases o with
     | none=>simp only[fill,ih (k+1) (by omega)];rw[if_neg (by omega)]
     | some v=>simp only[fill,ih (k+1) (by omega)]
   simp only[fill,if_true]
   rw[this t (n+1) (by omega)]
theorem qiu{P:Prg}(l:Nat)(args:List V)(h:H):ev P (.call (.yld l) args h)=(match (h[l]?:Option Ob)with
  | some ⟨_,.loop sl params assign body none⟩ =>
   if args.length=params.length then
    match ev P (.code assign ⟨qfn sl params args,h⟩)with
    | some r=>match r.x with
     | .normal=>match r.st.h[l]? with
      | some ⟨g,.loop sl' ps' as' bd' none⟩ =>
       match ev P (.code body ⟨r.st.s,r.st.h.set l ⟨g,.loop sl' ps' as' bd' (some .normal)⟩⟩)with
       | some r2=>match (qds h.length r2.st.h)[l]? with
        | some ⟨g2,.loop sl2 ps2 as2 bd2 _⟩=>match r2.x with
         | .normal=>some { v:=.bool true,st:=⟨[],(qds h.length r2.st.h).set l ⟨g2,.loop sl2 ps2 as2 bd2 none⟩⟩ }
         | x=>some { v:=.bool false,st:=⟨[],(qds h.length r2.st.h).set l ⟨g2,.loop sl2 ps2 as2 bd2 (some x)⟩⟩ }
        | _=>none
       | none=>none
      | _=>none
     | _=>none
    | none=>none
   else none
  | _=>none):=by rw[qie];rfl
end Go.Am
namespace Go.Proofs.YtbepbclaoohngaaGreat
open Go Go.Am Go.Proofs
set_option maxRecDepth 100000
set_option maxHeartbeats 8000000
theorem ev95(l:List Evn)(hl:l.length<=100000):ev pg (.call (.fn 95 [] []) [evs l] [])=some { v:=.sl 0 0 3 0 l.length,st:=⟨[],[⟨0,.arr 3 (l.map Evn.row)⟩]⟩ }:=by
 rw[qab,pg95]
 cases l with
 | nil=>simp[ir95,qcm,qeo,qrc,qee]
 | cons x l =>
  have hb:(l.length+1)*24<=140737488355328:=by simp only[List.length_cons]at hl;omega
  simp[ir95,hb,qcm,qeo,qrc,qee]
abbrev jdt(N:List (List Evn)):List (List V):=N.map fun l=>[evs l]
abbrev zhz(w:Ct×Ct)(most:Int)(p0:Ste×Ste)(s:Sr)(g:Nat):H:=[⟨0,.box (qfy w)⟩,⟨0,.box [num most]⟩,o0,o0,⟨0,.box [.sl 2 0 0 0 0,.sl 3 0 0 0 0,.bool false]⟩,⟨0,.box [num 0]⟩,o0,o0,o0,o0,o0,o0,o0,o0,o0,o0,⟨0,.box (qcj p0)⟩,⟨g,.arr 10 (s.D.map qcj)⟩,o0,o0,⟨0,.box [.sl 17 g 10 0 s.D.length,.sl 21 0 0 0 0,.bool false]⟩,o0,⟨g,.arr 1 (jdt s.N)⟩,o0,⟨0,.box [.sl 22 g 1 0 s.N.length]⟩]
def q9m(q:Nat):Tm:=[none,none,bN 0,bN 1,bN 4,bN 5,none,none,none,bN 20,bN 24,some (.bptr q 0)]++zN 105
def qid(q:Nat):Tm:=[none,none,bN 0,bN 1,bN 4,bN 5,none,none,none,bN 20,bN 24,some (.bptr q 0)]++zN 47++[some (.fn 136 [] [.bptr (q+1) 0,.bptr (q+2) 0])]++zN 57
abbrev zye(w:Ct×Ct)(most:Int)(p0 p:Ste×Ste)(X:H)(k:Nat)(f:Nat->V)(s:Sr)(g:Nat):H:=zhz w most p0 s g++(X++[⟨0,.box [num k]⟩,⟨0,.box (qfy w)⟩,⟨0,.box (qcj p)⟩,⟨0,.loop (fill f 0 (qid (25+X.length))) [60] L48_0 L48_1 none⟩])
def qyv(l:Nat)(z:q7j)(h:H):Prop:=(match (h[4]?:Option Ob)with
 | some ⟨_,.box [.sl i g m o n,.sl i' g' m' o' n',c]⟩=>30<=i/\30<=i'/\qbm h (.sl i g m o n)=.imm []/\qbm h (.sl i' g' m' o' n')=evs z.1/\c=.bool z.2.1
 | _=>False)/\h[5]?=some ⟨0,.box [num z.2.2]⟩/\(match (h[l]?:Option Ob)with
 | some ⟨_,.loop _ _ _ _ (some .ret)⟩=>True
 | _=>False)
theorem z3t(w:Ct×Ct)(hW:WS w)(most:Int)(hm:most<=16384)(k:Nat)(p0 p:Ste×Ste)(X:H)(hX:X=[]\/X=[⟨0,.box [num 0]⟩])(f:Nat->V)(hf:JunkL (29+X.length) f)(s:Sr)(g:Nat)(hs:SrOk w most s)(hp:s.D[k]?=some p)(x:Evn)(E:H)(hE:E=[]\/E=[⟨0,.box x.row⟩]) :
  ((qhg w most k s x).2=none->∃g',(qhg w most k s x).1.D.length+g=s.D.length+g'/\ev pg (.call (.yld (28+X.length)) [x.v] (zye w most p0 p X k f s g++E))=some { v:=.bool true,st:=⟨[],zye w most p0 p X k f (qhg w most k s x).1 g'++E⟩ }) /\
  (∀z,(qhg w most k s x).2=some z->∃H,qyv (28+X.length) z H/\ev pg (.call (.yld (28+X.length)) [x.v] (zye w most p0 p X k f s g++E))=some { v:=.bool false,st:=⟨[],H⟩ }):=by
 have hmem:p∈s.D:=jR hp
 obtain⟨hk,hpk⟩:=jG.1 hp
 have hkN:k<s.N.length:=by rw[hs.len];exact hk
 have hk':(k:Int)<s.D.length:=by omega
 have hkN':(k:Int)<s.N.length:=by omega
 have hlen:=hs.len
 have hmost:=hs.most
 have hrun:=hs.run k hkN
 have hb1:(s.D.length+1)*240<=140737488355328:=by omega
 have hb2:(s.N.length+1)*24<=140737488355328:=by omega
 have hb3:(s.N[k].length+1)*24<=140737488355328:=by omega
 have hNk:(s.N[k]?).getD []=s.N[k]:=by rw[jA hkN];rfl
 have e1:=ev66 w hW p (hs.lie p hmem).small x
 have hq:=qsi hW (p:=p) (x:=x)
 have e4:=ev95 s.N[k] (by omega)
 unfold qhg
 rw[hp,hNk]
 simp only[Option.getD_some]
 unfold zru at e1
 generalize qfg w p x=y at *
 obtain⟨q,b,e⟩:=y
 simp only at *
 have e2:=ev65 w hW q hq
 have e3:=ev75 s.D (by omega) q hq
 have hpl:=qsx s.D q
 generalize qrf s.D q=pl at *
 have hlo:∀n,29+X.length<=n->∀i,(f i).low n=true:=fun n hn i=>qeb hn _ (hf i).2
 by_cases he:e=0
 .subst he
  cases b with
  | true =>
   cases hd:difP w q with
   | true =>
    rw[hd]at e2
    rcases hX with rfl | rfl<;>rcases hE with rfl | rfl<;>simp[qiu,qyv,qid,L48_0,L48_1,qaa,exT,qak,hpk,hk,hk',hkN,hkN',hb3,e1,e2,e4,hlo]
   | false =>
    rw[hd]at e2
    cases hh:qzu s.D q with
    | true =>
     rw[hh]at hpl
     have hpl':0<=pl:=by simpa using hpl
     rcases hX with rfl | rfl<;>rcases hE with rfl | rfl<;>simp[qiu,qyv,qid,L48_0,L48_1,qaa,exT,qak,hpk,hk,hk',hkN,hkN',hb3,e1,e2,e3,e4,hpl',hlo]
    | false =>
     rw[hh]at hpl
     have hpl':¬0<=pl:=by simpa using hpl
     by_cases hM:(s.D.length:Int)=most
     .rcases hX with rfl | rfl<;>rcases hE with rfl | rfl<;>simp[qiu,qyv,qid,L48_0,L48_1,qaa,exT,qak,hpk,hk,hk',hkN,hkN',hb3,e1,e2,e3,e4,hpl',hM,hlo]
     .have hMb:((s.D.length:Int)==most)=false:=by simpa using hM
      rcases hX with rfl | rfl<;>rcases hE with rfl | rfl<;>simp[qiu,qyv,qid,L48_0,L48_1,qaa,exT,qak,hpk,hk,hk',hkN,hkN',hb1,hb2,hb3,e1,e2,e3,e4,hpl',hM,hMb,hlo]<;>omega
  | false =>
   rcases hX with rfl | rfl<;>rcases hE with rfl | rfl<;>simp[qiu,qyv,qid,L48_0,L48_1,qaa,exT,qak,hpk,hk,hk',hkN,hkN',hb3,e1,e4,hlo]
 .have heb:(e==0)=false:=by simpa using he
  rcases hX with rfl | rfl<;>rcases hE with rfl | rfl<;>simp[qiu,qyv,qid,L48_0,L48_1,qaa,exT,qak,hpk,hk,hk',e1,he,heb,hlo]
end Go.Proofs.YtbepbclaoohngaaGreat
