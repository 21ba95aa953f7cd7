/- The program's search: one event. -/
import Derived.Test.YtbepbclaoohngaaGreatCMk1
import Derived.KernelRfl
import Derived.Test.YtbepbclaoohngaaGreatCDt1
import Derived.Test.YtbepbclaoohngaaGreatCSa1
set_option linter.all false
namespace Go.Proofs.YtbepbclaoohngaaGreat
open Go Go.Am Go.Proofs
set_option maxRecDepth 100000
set_option maxHeartbeats 4000000
def qgi{α:Type}(step:α->Evn->α×Bool):α->List Evn->α×Bool
 | s,[]=>(s,true)
 | s,x :: l=>if(step s x).2=true then qgi step (step s x).1 l else((step s x).1,false)
theorem qtt{α:Type}(step:α->Evn->α×Bool):∀(l m:List Evn) (s:α),qgi step s (l++m)=if(qgi step s l).2=true then qgi step (qgi step s l).1 m else qgi step s l
 | [],m,s=>by simp[qgi]
 | x :: l,m,s=>by
  simp only[List.cons_append,qgi]
  split
  .exact qtt step l m _
  .simp
def qqa(s:Ste):List Evn:=(s.inputs.mapIdx fun i v=>⟨2,(i:Int),!v⟩)
def qze(w:Ct×Ct)(p:Ste×Ste):List Evn:=qoq w.1 p.1++qqa p.1
def qum(E:List Evn)(a b l k:Nat):Tm:=[some (.yld l),some (.bptr a 0),some (.bptr b 0)]++zN 9++[some (evs E),nN E.length,nN k]++zN 25
def qun(B:List Bool)(a b l k:Nat):Tm:=[some (.yld l),some (.bptr a 0),some (.bptr b 0)]++zN 22++[some (qdy B),nN B.length,nN k]++zN 12
structure Rng{α:Type}(w:Ct×Ct)(p:Ste×Ste)(Mem:α->H)(G:α->Prop)(Z:α->H->Prop)(step:α->Evn->α×Bool)(a b l N:Nat):Prop where
 aN:a<N
 bN:b<N
 lN:l<N
 len:∀s,G s->(Mem s).length=N
 calm:∀s,G s->calm (Mem s)
 ha:∀s,G s->(Mem s)[a]?=some ⟨0,.box (qlz w)⟩
 hb:∀s,G s->(Mem s)[b]?=some ⟨0,.box (qbw p)⟩
 yld:∀s x E,G s->x∈qze w p->(E=[]\/E=[⟨0,.box x.row⟩])->(step s x).2=true->G (step s x).1/\ev pg (.call (.yld l) [x.v] (Mem s++E))=some { v:=.bool true,st:=⟨[],Mem (step s x).1++E⟩ }
 stp:∀s x E,G s->x∈qze w p->(E=[]\/E=[⟨0,.box x.row⟩])->(step s x).2=false->∃H,Z (step s x).1 H/\ev pg (.call (.yld l) [x.v] (Mem s++E))=some { v:=.bool false,st:=⟨[],H⟩ }
section
variable{α:Type}{w:Ct×Ct}{p:Ste×Ste}{Mem:α->H}{G:α->Prop}{Z:α->H->Prop}{step:α->Evn->α×Bool}{a b l N:Nat}
def zbu(step:α->Evn->α×Bool)(Mem:α->H)(G:α->Prop)(Z:α->H->Prop)(s0:α)(E:List Evn)(T:Tm)(k:Nat)(r:R):Prop :=
 ((qgi step s0 E).2=false/\∃S H,Z (qgi step s0 E).1 H/\r={ x:=.ret,st:=⟨S,H⟩ })\/((qgi step s0 E).2=true/\G (qgi step s0 E).1/\qas (.exit k) T (Mem (qgi step s0 E).1) r)
theorem z0p(h:Rng w p Mem G Z step a b l N)(E:List Evn)(hE:E.length<=100000)(hin:∀x∈E,x∈qze w p)(s0:α)(g0:G s0){st:St}(h0:At (qum E a b l 0) (Mem s0) st) :
  ∃r,ev pg (.code (.going N L136_0) st)=some r/\zbu step Mem G Z s0 E (qum E a b l E.length) 0 r:=by
 refine qct (α:=α) E.length (fun k _=>qum E a b l k) (fun _ s=>Mem s) (fun k s=>G s/\qgi step s0 E=qgi step s (E.drop k)) _ ?_ ?_ s0 ⟨g0,by simp⟩ h0
 .rintro k s f hf hk ⟨g,hg⟩
  have hk':(k:Int)<E.length:=by omega
  have wk:=qbb (k:=k) (by omega)
  have hy:=h.yld s E[k] _ g (hin _ (jH hk)) (.inr rfl)
  have hz:=h.stp s E[k] _ g (hin _ (jH hk)) (.inr rfl)
  have hl:=h.len s g
  rw[jL hk]at hg
  simp only[qgi]at hg
  have aN:=h.aN
  have bN:=h.bN
  have lN:=h.lN
  cases hs:(step s E[k]).2 with
  | true =>
   obtain⟨g',e1⟩:=hy hs
   have hcut:=fun r=>qqh (h.calm _ g') r
   rw[h.len _ g']at hcut
   rw[hs]at hg
   simp only[if_true]at hg
   clear hy hz hs
   generalize (step s E[k]).1=s' at *
   obtain⟨S,e,hS⟩:∃S,ev pg (.code L136_0 ⟨fill f 0 (qum E a b l k),Mem s⟩)=some { st:=⟨S,Mem s'++[⟨0,.box E[k].row⟩]⟩ }/\q1w (qum E a b l (k+1)) (S.map (qbs N)):=by
    simp[qum,L136_0,hk,hk',e1,wk,hf.ne,aN,bN,lN]
   refine⟨_,e,.inl ⟨rfl,s',⟨g',hg⟩,?_⟩⟩
   exact⟨hS,by show qjj N _=_;exact hcut _⟩
  | false =>
   obtain⟨H,hZ,e1⟩:=hz hs
   rw[hs]at hg
   simp only[Bool.false_eq_true,if_false]at hg
   obtain⟨S,e⟩:∃S,ev pg (.code L136_0 ⟨fill f 0 (qum E a b l k),Mem s⟩)=some { x:=.ret,st:=⟨S,H⟩ }:=by
    simp[qum,L136_0,hk,hk',e1,hf.ne]
   refine⟨_,e,.inr ⟨by simp,?_⟩⟩
   unfold zbu
   rw[hg]
   exact .inl ⟨rfl,S,H,hZ,rfl⟩
 .rintro s f hf ⟨g,hg⟩
  rw[List.drop_length]at hg
  simp only[qgi]at hg
  unfold zbu
  rw[hg]
  refine(?_:∃r,ev pg (.code L136_0 ⟨fill f 0 (qum E a b l E.length),Mem s⟩)=some r/\r.x ≠ .normal/\_)
  simp[qum,L136_0,g,hf.ne]
theorem z0q(h:Rng w p Mem G Z step a b l N)(hB:p.1.inputs.length<=100000)(s0:α)(g0:G s0){st:St}(h0:At (qun p.1.inputs a b l 0) (Mem s0) st) :
  ∃r,ev pg (.code (.going N L136_1) st)=some r/\zbu step Mem G Z s0 (qqa p.1) (qun p.1.inputs a b l p.1.inputs.length) 2 r:=by
 have htl:(qqa p.1).length=p.1.inputs.length:=by simp[qqa]
 refine qct (α:=α) p.1.inputs.length (fun k _=>qun p.1.inputs a b l k) (fun _ s=>Mem s) (fun k s=>G s/\qgi step s0 (qqa p.1)=qgi step s ((qqa p.1).drop k)) _ ?_ ?_ s0 ⟨g0,by simp⟩ h0
 .rintro k s f hf hk ⟨g,hg⟩
  have hk':(k:Int)<p.1.inputs.length:=by omega
  have wk:=qbb (k:=k) (by omega)
  have hkt:k<(qqa p.1).length:=by omega
  have hx:(qqa p.1)[k]=⟨2,(k:Int),!p.1.inputs[k]⟩:=by simp[qqa]
  rw[jL hkt,hx]at hg
  have hy:=h.yld s ⟨2,(k:Int),!p.1.inputs[k]⟩ [] g (by rw[<-hx];exact List.mem_append_right _ (jH hkt)) (.inl rfl)
  have hz:=h.stp s ⟨2,(k:Int),!p.1.inputs[k]⟩ [] g (by rw[<-hx];exact List.mem_append_right _ (jH hkt)) (.inl rfl)
  simp only[List.append_nil]at hy hz
  simp only[qgi]at hg
  have aN:=h.aN
  have bN:=h.bN
  have lN:=h.lN
  cases hs:(step s ⟨2,(k:Int),!p.1.inputs[k]⟩).2 with
  | true =>
   obtain⟨g',e1⟩:=hy hs
   have hcut:=qqe (h.calm _ g')
   rw[h.len _ g']at hcut
   rw[hs]at hg
   simp only[if_true]at hg
   clear hy hz hs
   generalize (step s ⟨2,(k:Int),!p.1.inputs[k]⟩).1=s' at *
   obtain⟨S,e,hS⟩:∃S,ev pg (.code L136_1 ⟨fill f 0 (qun p.1.inputs a b l k),Mem s⟩)=some { st:=⟨S,Mem s'⟩ }/\q1w (qun p.1.inputs a b l (k+1)) (S.map (qbs N)):=by
    simp[qun,L136_1,hk,hk',e1,wk,hf.ne,aN,bN,lN]
   refine⟨_,e,.inl ⟨rfl,s',⟨g',hg⟩,?_⟩⟩
   exact⟨hS,by show qjj N _=_;exact hcut⟩
  | false =>
   obtain⟨H,hZ,e1⟩:=hz hs
   rw[hs]at hg
   simp only[Bool.false_eq_true,if_false]at hg
   obtain⟨S,e⟩:∃S,ev pg (.code L136_1 ⟨fill f 0 (qun p.1.inputs a b l k),Mem s⟩)=some { x:=.ret,st:=⟨S,H⟩ }:=by
    simp[qun,L136_1,hk,hk',e1,hf.ne]
   refine⟨_,e,.inr ⟨by simp,?_⟩⟩
   unfold zbu
   rw[hg]
   exact .inl ⟨rfl,S,H,hZ,rfl⟩
 .rintro s f hf ⟨g,hg⟩
  rw[show(qqa p.1).drop p.1.inputs.length=[]by rw[<-htl,List.drop_length]]at hg
  simp only[qgi]at hg
  unfold zbu
  rw[hg]
  refine(?_:∃r,ev pg (.code L136_1 ⟨fill f 0 (qun p.1.inputs a b l p.1.inputs.length),Mem s⟩)=some r/\r.x ≠ .normal/\_)
  simp[qun,L136_1,g,hf.ne]
theorem ev136(h:Rng w p Mem G Z step a b l N)(hw:WS w)(hp:PS p)(s0:α)(g0:G s0) :
  ∃H',ev pg (.call (.fn 136 [] [.bptr a 0,.bptr b 0]) [.yld l] (Mem s0))=some { v:=.tup [],st:=⟨[],H'⟩ } /\
   (((qgi step s0 (qze w p)).2=true/\G (qgi step s0 (qze w p)).1/\H'=Mem (qgi step s0 (qze w p)).1)\/((qgi step s0 (qze w p)).2=false/\∃H,Z (qgi step s0 (qze w p)).1 H/\H'=qea N H)):=by
 have e1:=ev126 w.1 p.1 hw.g hp.g
 have hE:(qoq w.1 p.1).length<=100000:=by have:=qyh w.1 p.1 hp.g;omega
 have hB:p.1.inputs.length<=100000:=by have:=hp.g.i;omega
 have q1:=fun st=>z0p h (qoq w.1 p.1) hE (fun x hx=>List.mem_append_left _ hx) s0 g0 (st:=st)
 have hl:=h.len s0 g0
 have ha:=h.ha s0 g0
 have hb:=h.hb s0 g0
 have hcut:=fun s g=>qgk (h.calm s g)
 rw[qaa,pg136]
 unfold qze
 rw[qtt]
 generalize qoq w.1 p.1=E at *
 simp[-qea,-qpp,-qji,ir136,qah,ha,hb,e1,hl]
 generalize hr:ev pg (.code (.going _ L136_0) _)=o
 obtain⟨r,rfl,hQ⟩:∃r,o=some r/\_:=by rw[<-hr];exact q1 _ (by simp[qum])
 clear hr q1
 rcases hQ with⟨hF,S,H,hZ,rfl⟩ | ⟨hF,g1,f,hf,rfl⟩
 .rw[hF]
  simp[-qea,-qpp,-qji,hF]
  exact⟨H,hZ,rfl⟩
 .rw[hF]
  simp only[if_true]
  generalize (qgi step s0 E).1=s1 at *
  have q2:=fun st=>z0q h hB s1 g1 (st:=st)
  have hb1:=h.hb s1 g1
  have hl1:=h.len s1 g1
  simp[-qea,-qpp,-qji,qum,hb1,hl1,qah,hf.ne]
  generalize hr:ev pg (.code (.going _ L136_1) _)=o
  obtain⟨r,rfl,hQ⟩:∃r,o=some r/\_:=by rw[<-hr];exact q2 _ (by simp[qun,hf.ne])
  clear hr q2
  rcases hQ with⟨hF,S,H,hZ,rfl⟩ | ⟨hF,g2,f,hf,rfl⟩
  .simp[-qea,-qpp,-qji,hF]
   exact⟨H,hZ,rfl⟩
  .have hc:=hcut _ g2
   rw[h.len _ g2]at hc
   simp[-qea,-qpp,-qji,hF,qun,hc,g2]
end
end Go.Proofs.YtbepbclaoohngaaGreat
namespace Go.Am
def qhq{α β γ:Type}(step:α->β->α×Option γ):α->List β->α×Option γ
 | a,[]=>(a,none)
 | a,x :: l=>match step a x with
  | (a',none)=>qhq step a' l
  | (a',some z)=>(a',some z)
theorem zif{P:Prg}{nx:Nat}{c:C}{α β γ:Type}(step:α->β->α×Option γ)(I:Nat->α->St->Prop)(Z:γ->R->Prop)(Lq:α->R->Prop)(E:List β)
  (go:∀j a st x,E[j]?=some x->I j a st->∃r,ev P (.code c st)=some r/\((step a x).2=none->r.x=.normal/\I (j+1) (step a x).1 (qsf nx r.st))/\(∀z,(step a x).2=some z->r.x ≠ .normal/\Z z r))
  (last:∀a st,I E.length a st->∃r,ev P (.code c st)=some r/\r.x ≠ .normal/\Lq a r) {st:St} (a:α) (h0:I 0 a st) :
  ∃r,ev P (.code (.going nx c) st)=some r/\((qhq step a E).2=none->Lq (qhq step a E).1 r)/\(∀z,(qhq step a E).2=some z->Z z r):=by
 refine qau (fun j st=>∃a',I j a' st/\qhq step a E=qhq step a' (E.drop j)) E.length _ ⟨a,h0,by simp⟩ ?_ ?_
 .rintro j st hj ⟨a',hI,hf⟩
  obtain⟨r,e,h1,h2⟩:=go j a' st E[j] (jA hj) hI
  rw[jL hj]at hf
  simp only[qhq]at hf
  refine⟨r,e,?_⟩
  generalize step a' E[j]=y at *
  obtain⟨b,z⟩:=y
  cases z with
  | none =>
   obtain⟨hx,hI'⟩:=h1 rfl
   exact .inl ⟨hx,b,hI',hf⟩
  | some z =>
   obtain⟨hx,hZ⟩:=h2 z rfl
   rw[hf]
   exact .inr ⟨hx,by simp,fun z' hz=>by cases hz;exact hZ⟩
 .rintro st ⟨a',hI,hf⟩
  rw[List.drop_length]at hf
  obtain⟨r,e,hx,hL⟩:=last a' st hI
  rw[hf]
  exact⟨r,e,hx,fun _=>hL,fun z hz=>by simp[qhq]at hz⟩
end Go.Am
namespace Go.Proofs.YtbepbclaoohngaaGreat
open Go Go.Am Go.Proofs
set_option maxRecDepth 100000
structure Sr where
 D:List (Ste×Ste)
 N:List (List Evn)
abbrev q3u:=List Evn×Bool×Int
abbrev q3t:Ste×Ste:=(zeroS,zeroS)
def qki(w:Ct×Ct)(most:Int)(k:Nat)(s:Sr)(x:Evn):Sr×Option q3u :=
 if(qsc w ((s.D[k]?).getD q3t) x).2.2=0 then
  (if(!(qsc w ((s.D[k]?).getD q3t) x).2.1||difP w (qsc w ((s.D[k]?).getD q3t) x).1)=true then(s,some ((s.N[k]?).getD []++[x],true,0))
    else if zhn s.D (qsc w ((s.D[k]?).getD q3t) x).1=true then(s,none)
    else if(s.D.length:Int)=most then(s,some ([],false,12))
    else(⟨s.D++[(qsc w ((s.D[k]?).getD q3t) x).1],s.N++[(s.N[k]?).getD []++[x]]⟩,none))
 else(s,some ([],false,(qsc w ((s.D[k]?).getD q3t) x).2.2))
def zee(w:Ct×Ct)(most:Int)(k:Nat)(a:Sr×Option q3u)(x:Evn):(Sr×Option q3u)×Bool:=(qki w most k a.1 x,(qki w most k a.1 x).2.isNone)
def qdu(w:Ct×Ct)(most:Int)(k:Nat)(s:Sr):Sr×Option q3u:=qhq (qki w most k) s (qze w ((s.D[k]?).getD q3t))
def sGo(w:Ct×Ct)(most:Int):Nat->Nat->Sr->Sr×Option q3u
 | 0,_,s=>(s,none)
 | d+1,k,s=>if k<s.D.length then(match (qdu w most k s).2 with | none=>sGo w most d (k+1) (qdu w most k s).1 | some z=>((qdu w most k s).1,some z))else(s,none)
def zrr(x:Sr×Option q3u):(List (Ste×Ste)×List (List Evn)×List Evn×Bool)×Int:=match x.2 with
 | none=>((x.1.D,x.1.N,[],false),0)
 | some z=>(([],[],z.1,z.2.1),z.2.2)
def qie(w:Ct×Ct)(most:Int):(List (Ste×Ste)×List (List Evn)×List Evn×Bool)×Int :=
 if(qcn w).2.2=0 then
  (if(!(qcn w).2.1||difP w (qcn w).1)=true then(([],[],[],true),0)
    else zrr (sGo w most (most.toNat+1) 0 ⟨[(qcn w).1],[[]]⟩))
 else(([],[],[],false),(qcn w).2.2)
structure SrOk(w:Ct×Ct)(most:Int)(s:Sr):Prop where
 lie:∀p∈s.D,LieP w p
 len:s.N.length=s.D.length
 most:(s.D.length:Int)<=most
 run:∀(j:Nat) (h:j<s.N.length),s.N[j].length<=j
theorem q3d{w:Ct×Ct}(hw:WS w){most:Int}{k:Nat}{s:Sr}(h:SrOk w most s)(hk:k<s.D.length)(x:Evn):SrOk w most (qki w most k s x).1:=by
 unfold qki
 split
 .rename_i h1
  split
  .exact h
  .rename_i h2
   split
   .exact h
   .split
    .exact h
    .rename_i h3 h4
     simp only[Bool.or_eq_true,Bool.not_eq_true',not_or,Bool.not_eq_false,Bool.not_eq_true]at h2
     refine⟨?_,?_,?_,?_⟩
     .intro p hp
      rcases jQ.1 hp with hp | hp
      .exact h.lie p hp
      .rw[List.mem_singleton.1 hp]
       exact q1n hw h1 h2.1
     .simp[h.len]
     .simp only[jF,List.length_cons,List.length_nil]
      have:=h.most
      omega
     .intro j hj
      simp only[jF,List.length_cons,List.length_nil]at hj
      by_cases hjk:j<s.N.length
      .rw[List.getElem_append_left hjk]
       exact h.run j hjk
      .rw[List.getElem_append_right (by omega)]
       have hj0:j-s.N.length=0:=by omega
       simp only[hj0,List.getElem_cons_zero,jF,List.length_cons,List.length_nil]
       have hk':k<s.N.length:=by have:=h.len;omega
       rw[jA hk']
       have:=h.run k hk'
       simp only[Option.getD_some]
       omega
 .exact h
theorem q3e(w:Ct×Ct)(most:Int)(k:Nat)(s:Sr)(x:Evn){j:Nat}(hj:j<s.D.length):(qki w most k s x).1.D[j]?=s.D[j]?:=by
 unfold qki
 repeat' split
 all_goals first | rfl | (show(s.D++_)[j]?=_;rw[jI hj])
theorem q3c(w:Ct×Ct)(most:Int)(k:Nat)(s:Sr)(x:Evn):s.D.length<=(qki w most k s x).1.D.length:=by
 unfold qki
 repeat' split
 all_goals first | exact jD _ | simp
theorem zgz(w:Ct×Ct)(most:Int)(k:Nat):∀(E:List Evn) (s:Sr),qgi (zee w most k) (s,none) E=(qhq (qki w most k) s E,(qhq (qki w most k) s E).2.isNone)
 | [],s=>rfl
 | x :: l,s=>by
  have ih:=fun s'=>zgz w most k l s'
  cases hy:qki w most k s x with
  | mk s' z =>
   cases z with
   | none=>simp[qgi,qhq,zee,hy,ih]
   | some z=>simp[qgi,qhq,zee,hy]
theorem q9x{w:Ct×Ct}(hw:WS w){most:Int}{k:Nat}{p:Ste×Ste}:∀(l:List Evn) (s:Sr),SrOk w most s->s.D[k]?=some p->SrOk w most (qhq (qki w most k) s l).1/\(qhq (qki w most k) s l).1.D[k]?=some p
 | [],s,h,hp=>⟨h,hp⟩
 | x :: l,s,h,hp=>by
  have hk:k<s.D.length:=by
   rw[jG]at hp
   exact hp.1
  have h1:SrOk w most (qki w most k s x).1:=q3d hw h hk x
  have h2:(qki w most k s x).1.D[k]?=some p:=by rw[<-hp];exact q3e w most k s x hk
  simp only[qhq]
  generalize qki w most k s x=y at *
  obtain⟨s',z⟩:=y
  cases z with
  | none=>exact q9x hw l s' h1 h2
  | some z=>exact⟨h1,h2⟩
theorem qqn(w:Ct×Ct)(most:Int)(k:Nat):∀(l:List Evn) (s:Sr),s.D.length<=(qhq (qki w most k) s l).1.D.length
 | [],s=>jD _
 | x :: l,s=>by
  have h1:=q3c w most k s x
  simp only[qhq]
  generalize qki w most k s x=y at *
  obtain⟨s',z⟩:=y
  cases z with
  | none=>exact Nat.le_trans h1 (qqn w most k l s')
  | some z=>exact h1
theorem qrm{w:Ct×Ct}(hw:WS w){most:Int}{k:Nat}{s:Sr}(h:SrOk w most s)(hk:k<s.D.length):SrOk w most (qdu w most k s).1:=by
 unfold qdu
 exact(q9x hw _ s h (jA hk)).1
end Go.Proofs.YtbepbclaoohngaaGreat
namespace Go.Am
def JunkL(n:Nat)(f:Nat->V):Prop:=∀i,f i ≠ .nils/\(f i).low n=true
theorem JunkL.junk{n:Nat}{f:Nat->V}(h:JunkL n f):Junk f:=fun i=>(h i).1
theorem qkl{m:Nat}:∀{t:Tm} {s:List V} (n:Nat),q1w t s->qem m s=true->∃f,JunkL m f/\s=fill f n t
 | [],[],_,_,_=>⟨fun _=>.undef,fun _=>by simp,rfl⟩
 | [],_ :: _,_,h,_=>by simp[q1w]at h
 | some _ :: _,[],_,h,_=>by simp[q1w]at h
 | none :: _,[],_,h,_=>by simp[q1w]at h
 | some v :: t,x :: s,n,h,hl=>by
  obtain⟨rfl,h2⟩:=h
  simp only[qem,jE]at hl
  obtain⟨f,hf,rfl⟩:=qkl (n+1) h2 hl.2
  exact⟨f,hf,rfl⟩
 | none :: t,x :: s,n,h,hl=>by
  obtain⟨hx,h2⟩:=h
  simp only[qem,jE]at hl
  obtain⟨f,hf,rfl⟩:=qkl (n+1) h2 hl.2
  refine⟨fun i=>if i=n then x else f i,fun i=>?_,?_⟩
  .simp only
   split
   .exact⟨hx,hl.1⟩
   .exact hf i
  .have:∀(t:Tm) (k:Nat),n<k->fill (fun i=>if i=n then x else f i) k t=fill f k t:=by
    intro t
    induction t with
    | nil=>intro k _;rfl
    | cons o t ih =>
     intro k hk
     cases o with
     | none=>simp only[fill,ih (k+1) (by omega)];rw[if_neg (by omega)]
     | some v=>simp only[fill,ih (k+1) (by omega)]
   simp only[fill,if_true]
   rw[this t (n+1) (by omega)]
theorem qsi{P:Prg}(l:Nat)(args:List V)(h:H):ev P (.call (.yld l) args h)=(match (h[l]?:Option Ob)with
  | some ⟨_,.loop sl params assign body none⟩ =>
   if args.length=params.length then
    match ev P (.code assign ⟨qfo sl params args,h⟩)with
    | some r=>match r.x with
     | .normal=>match r.st.h[l]? with
      | some ⟨g,.loop sl' ps' as' bd' none⟩ =>
       match ev P (.code body ⟨r.st.s,r.st.h.set l ⟨g,.loop sl' ps' as' bd' (some .normal)⟩⟩)with
       | some r2=>match (qea h.length r2.st.h)[l]? with
        | some ⟨g2,.loop sl2 ps2 as2 bd2 _⟩=>match r2.x with
         | .normal=>some { v:=.bool true,st:=⟨[],(qea h.length r2.st.h).set l ⟨g2,.loop sl2 ps2 as2 bd2 none⟩⟩ }
         | x=>some { v:=.bool false,st:=⟨[],(qea h.length r2.st.h).set l ⟨g2,.loop sl2 ps2 as2 bd2 (some x)⟩⟩ }
        | _=>none
       | none=>none
      | _=>none
     | _=>none
    | none=>none
   else none
  | _=>none):=by rw[qia];rfl
end Go.Am
namespace Go.Proofs.YtbepbclaoohngaaGreat
open Go Go.Am Go.Proofs
set_option maxRecDepth 100000
set_option maxHeartbeats 8000000
theorem ev95(l:List Evn)(hl:l.length<=100000):ev pg (.call (.fn 95 [] []) [evs l] [])=some { v:=.sl 0 0 3 0 l.length,st:=⟨[],[⟨0,.arr 3 (l.map Evn.row)⟩]⟩ }:=by
 rw[qaa,pg95]
 cases l with
 | nil=>simp[ir95,qcl,qep,qqy,qee]
 | cons x l =>
  have hb:(l.length+1)*24<=140737488355328:=by simp only[List.length_cons]at hl;omega
  simp[ir95,hb,qcl,qep,qqy,qee]
abbrev jfj(N:List (List Evn)):List (List V):=N.map fun l=>[evs l]
abbrev zhk(w:Ct×Ct)(most:Int)(p0:Ste×Ste)(s:Sr)(g:Nat):H:=[⟨0,.box (qlz w)⟩,⟨0,.box [num most]⟩,o0,o0,⟨0,.box [.sl 2 0 0 0 0,.sl 3 0 0 0 0,.bool false]⟩,⟨0,.box [num 0]⟩,o0,o0,o0,o0,o0,o0,o0,o0,o0,o0,⟨0,.box (qbw p0)⟩,⟨g,.arr 10 (s.D.map qbw)⟩,o0,o0,⟨0,.box [.sl 17 g 10 0 s.D.length,.sl 21 0 0 0 0,.bool false]⟩,o0,⟨g,.arr 1 (jfj s.N)⟩,o0,⟨0,.box [.sl 22 g 1 0 s.N.length]⟩]
def q9a(q:Nat):Tm:=[none,none,bN 0,bN 1,bN 4,bN 5,none,none,none,bN 20,bN 24,some (.bptr q 0)]++zN 105
def qhz(q:Nat):Tm:=[none,none,bN 0,bN 1,bN 4,bN 5,none,none,none,bN 20,bN 24,some (.bptr q 0)]++zN 47++[some (.fn 136 [] [.bptr (q+1) 0,.bptr (q+2) 0])]++zN 57
abbrev zxs(w:Ct×Ct)(most:Int)(p0 p:Ste×Ste)(X:H)(k:Nat)(f:Nat->V)(s:Sr)(g:Nat):H:=zhk w most p0 s g++(X++[⟨0,.box [num k]⟩,⟨0,.box (qlz w)⟩,⟨0,.box (qbw p)⟩,⟨0,.loop (fill f 0 (qhz (25+X.length))) [60] L48_0 L48_1 none⟩])
def qyo(l:Nat)(z:q3u)(h:H):Prop:=(match (h[4]?:Option Ob)with
 | some ⟨_,.box [.sl i g m o n,.sl i' g' m' o' n',c]⟩=>30<=i/\30<=i'/\qbm h (.sl i g m o n)=.imm []/\qbm h (.sl i' g' m' o' n')=evs z.1/\c=.bool z.2.1
 | _=>False)/\h[5]?=some ⟨0,.box [num z.2.2]⟩/\(match (h[l]?:Option Ob)with
 | some ⟨_,.loop _ _ _ _ (some .ret)⟩=>True
 | _=>False)
theorem z3n(w:Ct×Ct)(hW:WS w)(most:Int)(hm:most<=16384)(k:Nat)(p0 p:Ste×Ste)(X:H)(hX:X=[]\/X=[⟨0,.box [num 0]⟩])(f:Nat->V)(hf:JunkL (29+X.length) f)(s:Sr)(g:Nat)(hs:SrOk w most s)(hp:s.D[k]?=some p)(x:Evn)(E:H)(hE:E=[]\/E=[⟨0,.box x.row⟩]) :
  ((qki w most k s x).2=none->∃g',(qki w most k s x).1.D.length+g=s.D.length+g'/\ev pg (.call (.yld (28+X.length)) [x.v] (zxs w most p0 p X k f s g++E))=some { v:=.bool true,st:=⟨[],zxs w most p0 p X k f (qki w most k s x).1 g'++E⟩ }) /\
  (∀z,(qki w most k s x).2=some z->∃H,qyo (28+X.length) z H/\ev pg (.call (.yld (28+X.length)) [x.v] (zxs w most p0 p X k f s g++E))=some { v:=.bool false,st:=⟨[],H⟩ }):=by
 have hmem:p∈s.D:=jR hp
 obtain⟨hk,hpk⟩:=jG.1 hp
 have hkN:k<s.N.length:=by rw[hs.len];exact hk
 have hk':(k:Int)<s.D.length:=by omega
 have hkN':(k:Int)<s.N.length:=by omega
 have hlen:=hs.len
 have hmost:=hs.most
 have hrun:=hs.run k hkN
 have hb1:(s.D.length+1)*240<=140737488355328:=by omega
 have hb2:(s.N.length+1)*24<=140737488355328:=by omega
 have hb3:(s.N[k].length+1)*24<=140737488355328:=by omega
 have hNk:(s.N[k]?).getD []=s.N[k]:=by rw[jA hkN];rfl
 have e1:=ev66 w hW p (hs.lie p hmem).small x
 have hq:=qyz hW (p:=p) (x:=x)
 have e4:=ev95 s.N[k] (by omega)
 unfold qki
 rw[hp,hNk]
 simp only[Option.getD_some]
 unfold zdu at e1
 generalize qsc w p x=y at *
 obtain⟨q,b,e⟩:=y
 simp only at *
 have e2:=ev65 w hW q hq
 have e3:=ev75 s.D (by omega) q hq
 have hpl:=zdw s.D q
 generalize qxf s.D q=pl at *
 have hlo:∀n,29+X.length<=n->∀i,(f i).low n=true:=fun n hn i=>qfz hn _ (hf i).2
 by_cases he:e=0
 .subst he
  cases b with
  | true =>
   cases hd:difP w q with
   | true =>
    rw[hd]at e2
    rcases hX with rfl | rfl<;>rcases hE with rfl | rfl<;>simp[qsi,qyo,qhz,L48_0,L48_1,qab,exT,qak,hpk,hk,hk',hkN,hkN',hb3,e1,e2,e4,hlo]
   | false =>
    rw[hd]at e2
    cases hh:zhn s.D q with
    | true =>
     rw[hh]at hpl
     have hpl':0<=pl:=by simpa using hpl
     rcases hX with rfl | rfl<;>rcases hE with rfl | rfl<;>simp[qsi,qyo,qhz,L48_0,L48_1,qab,exT,qak,hpk,hk,hk',hkN,hkN',hb3,e1,e2,e3,e4,hpl',hlo]
    | false =>
     rw[hh]at hpl
     have hpl':¬0<=pl:=by simpa using hpl
     by_cases hM:(s.D.length:Int)=most
     .rcases hX with rfl | rfl<;>rcases hE with rfl | rfl<;>simp[qsi,qyo,qhz,L48_0,L48_1,qab,exT,qak,hpk,hk,hk',hkN,hkN',hb3,e1,e2,e3,e4,hpl',hM,hlo]
     .have hMb:((s.D.length:Int)==most)=false:=by simpa using hM
      rcases hX with rfl | rfl<;>rcases hE with rfl | rfl<;>simp[qsi,qyo,qhz,L48_0,L48_1,qab,exT,qak,hpk,hk,hk',hkN,hkN',hb1,hb2,hb3,e1,e2,e3,e4,hpl',hM,hMb,hlo]<;>omega
  | false =>
   rcases hX with rfl | rfl<;>rcases hE with rfl | rfl<;>simp[qsi,qyo,qhz,L48_0,L48_1,qab,exT,qak,hpk,hk,hk',hkN,hkN',hb3,e1,e4,hlo]
 .have heb:(e==0)=false:=by simpa using he
  rcases hX with rfl | rfl<;>rcases hE with rfl | rfl<;>simp[qsi,qyo,qhz,L48_0,L48_1,qab,exT,qak,hpk,hk,hk',e1,he,heb,hlo]
end Go.Proofs.YtbepbclaoohngaaGreat
