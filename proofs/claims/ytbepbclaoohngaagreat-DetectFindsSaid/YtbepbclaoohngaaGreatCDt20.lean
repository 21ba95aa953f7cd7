/- The program's search. -/
import Derived.Test.YtbepbclaoohngaaGreatCDt10
import Derived.KernelRfl
set_option linter.all false
namespace Go.Proofs.YtbepbclaoohngaaGreat
open Go Go.Am Go.Proofs
set_option maxRecDepth 100000
set_option maxHeartbeats 4000000
theorem z0w(w:Ct×Ct)(hW:Wld w)(most:Int)(hm:most<=16384)(k:Nat)(p0 p:Ste×Ste)(E:List Evn)(hE:E.length<=100000)(Y:H)(hY:Y=[]\/Y=[o0])(v:V)(s:Sr)(g:Nat)(hs:SrOk w most s)(hp:s.D[k]?=some p){st:St}(h0:At (qlb most k E v 0) (zaf w p0 s g++Y) st) :
  ∃r,ev pg (.code (.going (24+Y.length) L96_0) st)=some r/\((qhq (qki w most k) s E).2=none->∃g' v',qas (.exit 2) (qlb most k E v' E.length) (zaf w p0 (qhq (qki w most k) s E).1 g'++Y) r)/\(∀z,(qhq (qki w most k) s E).2=some z->q1g z r):=by
 refine zif (qki w most k) (fun j s st=>SrOk w most s/\s.D[k]?=some p/\∃g v,At (qlb most k E v j) (zaf w p0 s g++Y) st) q1g (fun s r=>∃g' v',qas (.exit 2) (qlb most k E v' E.length) (zaf w p0 s g'++Y) r) E ?_ ?_ s ⟨hs,hp,g,v,h0⟩
 .rintro j s st x hx ⟨hs,hp,g,v,h⟩
  obtain⟨f,hf,rfl⟩:=h.eq
  obtain⟨r,e,h1,h2⟩:=jfi w hW most hm k p0 p E hE j s g hs hp x hx v Y hY f hf
  have hk:k<s.D.length:=(jG.1 hp).1
  refine⟨r,e,fun hn=>?_,h2⟩
  obtain⟨hx',g',v',ha⟩:=h1 hn
  exact⟨hx',q3d hW.toWS hs hk x,by rw[q3e w most k s x hk];exact hp,g',v',ha⟩
 .rintro s st ⟨hs,hp,g,v,h⟩
  obtain⟨f,hf,rfl⟩:=h.eq
  refine(?_:∃r,ev pg (.code L96_0 ⟨fill f 0 (qlb most k E v E.length),zaf w p0 s g++Y⟩)=some r/\r.x ≠ .normal/\∃g' v',qas (.exit 2) (qlb most k E v' E.length) (zaf w p0 s g'++Y) r)
  rcases hY with rfl | rfl<;>simp[qlb,L96_0,hf.ne]<;>exact⟨g,rfl,rfl⟩
theorem zms{w:Ct×Ct}{p:Ste×Ste}(h:LieP w p):qze w p=qdn p.1++qqa p.1:=by
 unfold qze qoq
 rw[h.g.events]
theorem zmr{w:Ct×Ct}{p:Ste×Ste}(h:PS p):(qze w p).length<=100000:=by
 unfold qze
 rw[jF]
 have:=qyh w.1 p.1 h.g
 have:(qqa p.1).length=p.1.inputs.length:=by simp[qqa]
 have:=h.g.i
 omega
def zxy(w:Ct×Ct)(most:Int)(p0:Ste×Ste)(x:Sr×Option q3u)(r:R):Prop:=(x.2=none->∃k g v,qas (.exit 0) (zcb most k v) (zaf w p0 x.1 g) r)/\(∀z,x.2=some z->q1g z r)
def zev(z:Option q3u)(r:R):Prop:=∀y,z=some y->q1g y r
theorem z0x(w:Ct×Ct)(hW:Wld w)(most:Int)(hm:most<=16384)(p0:Ste×Ste):∀(d k:Nat) (s:Sr) (g:Nat) (v:V) (st:St),SrOk w most s->k<=s.D.length->most<(k:Int)+d->At (zcb most k v) (zaf w p0 s g) st ->
  ∃r,ev pg (.code (.going 24 L96_1) st)=some r/\zxy w most p0 (sGo w most d k s) r
 | 0,k,s,g,v,st,hs,hk,hd,h=>by
  have:=hs.most
  omega
 | d+1,k,s,g,v,st,hs,hk,hd,h=>by
  obtain⟨f,hf,rfl⟩:=h.eq
  have hlen:=hs.len
  have hmost:=hs.most
  rw[qdx]
  simp only[sGo]
  by_cases hkd:k<s.D.length
  .have hk':(k:Int)<s.D.length:=by omega
   have hmem:s.D[k]∈s.D:=jH hkd
   have hl:=hs.lie _ hmem
   have hp:s.D[k]?=some s.D[k]:=jA hkd
   have e1:=ev79 s.D[k].1 hl.small.g
   have wk:=qbb (k:=k) (by omega)
   rw[<-zms hl]at e1
   have q:=fun Y hY v st=>z0w w hW most hm k p0 s.D[k] (qze w s.D[k]) (zmr hl.small) Y hY v s g hs hp (st:=st)
   have hR:qdu w most k s=qhq (qki w most k) s (qze w s.D[k]):=by unfold qdu;rw[hp];rfl
   have hok:=qrm hW.toWS hs hkd
   have hln:s.D.length<=(qdu w most k s).1.D.length:=by
    rw[hR]
    exact qqn w most k _ s
   rw[if_pos hkd]
   rw[<-hR]at q
   generalize qze w s.D[k]=E at *
   generalize hz:qdu w most k s=z at *
   obtain⟨s',z⟩:=z
   obtain⟨r,e,hr⟩:∃r,ev pg (.code L96_1 ⟨fill f 0 (zcb most k v),zaf w p0 s g⟩)=some r/\(z=none->r.x=.normal/\∃g' v',At (zcb most (k+1) v') (zaf w p0 s' g') (qsf 24 r.st))/\zev z r:=by
    by_cases hv:v=.nils
    .subst hv
     simp[zcb,L96_1,qah,hkd,hk',e1,hf.ne]
     generalize hr:ev pg (.code (.going _ L96_0) _)=o
     obtain⟨r,rfl,h1,h2⟩:∃r,o=some r/\_:=by rw[<-hr];exact q [o0] (.inr rfl) (.sl 24 0 0 0 0) _ (by simp[qlb,hf.ne])
     clear hr q
     cases z with
     | none =>
      obtain⟨g',v',f',hf',rfl⟩:=h1 rfl
      have hz:∀r,zev none r:=fun r y hy=>by cases hy
      simp[qlb,zcb,wk,hf'.ne,hz]
     | some y =>
      have h3:=h2 y rfl
      refine⟨r,?_,fun h=>by simp at h,fun y' hy=>by cases hy;exact h3⟩
      simp[h3.1]
    .simp[zcb,L96_1,qah,hkd,hk',e1,hv,hf.ne]
     generalize hr:ev pg (.code (.going _ L96_0) _)=o
     obtain⟨r,rfl,h1,h2⟩:∃r,o=some r/\_:=by rw[<-hr];exact q [] (.inl rfl) v _ (by simp[qlb,hf.ne])
     clear hr q
     cases z with
     | none =>
      obtain⟨g',v',f',hf',rfl⟩:=h1 rfl
      have hz:∀r,zev none r:=fun r y hy=>by cases hy
      simp[qlb,zcb,wk,hf'.ne,hz]
     | some y =>
      have h3:=h2 y rfl
      refine⟨r,?_,fun h=>by simp at h,fun y' hy=>by cases hy;exact h3⟩
      simp[h3.1]
   rw[e]
   obtain⟨h1,h2⟩:=hr
   cases z with
   | none =>
    obtain⟨hx,g',v',ha⟩:=h1 rfl
    simp only[hx]
    exact z0x w hW most hm p0 d (k+1) s' g' v' _ hok (by simp only at hln;omega) (by omega) ha
   | some y =>
    have h3:=h2 y rfl
    simp only[h3.1]
    refine⟨r,rfl,fun h=>by simp at h,fun z hz=>?_⟩
    cases hz
    exact h3
  .have hk':¬(k:Int)<s.D.length:=by omega
   rw[if_neg hkd]
   obtain⟨r,e,hr⟩:∃r,ev pg (.code L96_1 ⟨fill f 0 (zcb most k v),zaf w p0 s g⟩)=some r/\qas (.exit 0) (zcb most k v) (zaf w p0 s g) r:=by
    simp[zcb,L96_1,hkd,hk',hf.ne]
   rw[e]
   obtain⟨f',hf',rfl⟩:=hr
   exact⟨_,rfl,fun _=>⟨k,g,v,f',hf',rfl⟩,fun z hz=>by simp at hz⟩
abbrev srV(x:(List (Ste×Ste)×List (List Evn)×List Evn×Bool)×Int):V:=.tup [.agg [prs x.1.1,.imm (jap x.1.2.1),evs x.1.2.2.1,.bool x.1.2.2.2],num x.2]
theorem ev96(w:Ct×Ct)(hW:Wld w)(most:Int)(h1:1<=most)(hm:most<=16384):ev pg (.call (.fn 96 [] []) [w.1.v,w.2.v,num most] [])=some { v:=srV (qie w most),st:=⟨[],[]⟩ }:=by
 have e1:=ev67 w hW.toWS
 have hlie:=qon hW.toWS
 have e2:=fun h1 h2=>ev68 _ (hlie h1 h2).small ((hlie h1 h2).lens hW).1 ((hlie h1 h2).lens hW).2
 have hdd:=fun h1 h2=>(hlie h1 h2).dif
 have q:=fun hl st=>z0x w hW most hm (qcn w).1 (most.toNat+1) 0 ⟨[(qcn w).1],[[]]⟩ 0 .undef st ⟨by simpa using hl,rfl,by simpa using h1,by simp⟩ (by simp) (by omega)
 rw[qaa,pg96]
 unfold qie
 unfold zdu at e1
 generalize sGo w most (most.toNat+1) 0 ⟨[(qcn w).1],[[]]⟩=z at *
 generalize qcn w=y at *
 obtain⟨p,b,e⟩:=y
 simp only at *
 by_cases he:e=0
 .subst he
  cases b with
  | true =>
   have e3:=e2 rfl rfl
   rw[hdd rfl rfl]
   have q':=q (hlie rfl rfl)
   clear e2 hlie hdd q
   cases hd:zps p with
   | true =>
    rw[hd]at e3
    simp[ir96,e1,e3,srV]
   | false =>
    rw[hd]at e3
    simp[ir96,qah,e1,e3]
    generalize hr:ev pg (.code (.going _ L96_1) _)=o
    obtain⟨r,rfl,h2,h3⟩:∃r,o=some r/\_:=by rw[<-hr];exact q' _ (by simp[zcb])
    clear hr q'
    obtain⟨s',z⟩:=z
    cases z with
    | none =>
     obtain⟨k,g,v,f,hf,rfl⟩:=h2 rfl
     simp[zcb,zrr]
    | some y =>
     obtain⟨hx,h6,h7,h5⟩:=h3 y rfl
     obtain⟨rx,rv,S,H⟩:=r
     simp only at hx h6 h7 h5
     subst hx
     split at h5
     .rename_i a b c d h5'
      obtain⟨ha,hb,hc,rfl⟩:=h5
      have rb:∀t,qan H (.bool t)=.bool t:=fun _=>rfl
      have rn:∀t,qan H (num t)=num t:=fun _=>rfl
      simp[-qan,-qyl,h6,h7,h5',zrr,ha,hb,hc,rb,rn]
     .exact h5.elim
  | false =>
   simp[ir96,e1,srV]
 .have heb:(e==0)=false:=by simpa using he
  simp[ir96,e1,he,heb,srV]
abbrev Fnd:=(List (Ste×Ste)×List (List Evn)×List Evn×Bool)×Int
def qbz(c:Ct)(k i most:Int):Fnd:=if qkh c k i=0 then(if most<1\/16384<most then(([],[],[],false),2)else qie (c,qpi c k i) most)else(([],[],[],false),qkh c k i)
theorem ev49(c:Ct)(hs:c.small=true)(k i most:Int):ev pg (.call (.fn 49 [] []) [c.v,fv k i,num most] [])=some { v:=srV (qbz c k i most),st:=⟨[],[]⟩ }:=by
 have e1:=ev59 c hs k i
 unfold qbz
 rw[qaa,pg49]
 by_cases h:qkh c k i=0
 .have hw:=(qsv hs h).1
  rw[if_pos h]
  rw[h]at e1
  by_cases h1:most<1
  .rw[if_pos (.inl h1)]
   generalize qpi c k i=d at *
   simp[ir49,e1,h1,srV]
  .by_cases h2:16384<most
   .rw[if_pos (.inr h2)]
    generalize qpi c k i=d at *
    simp[ir49,e1,h1,h2,srV]
   .rw[if_neg (by omega)]
    have e2:=ev96 _ hw most (by omega) (by omega)
    generalize qie (c,qpi c k i) most=x at *
    generalize qpi c k i=d at *
    simp only at e2
    simp[ir49,e1,e2,h1,h2,srV]
 .have hb:(qkh c k i==0)=false:=by simpa using h
  rw[if_neg h]
  generalize qpi c k i=d at *
  generalize qkh c k i=e at *
  simp[ir49,e1,h,hb,srV]
def ztg(x:Fnd):List Evn×Bool×Int:=if x.2=0 then(x.1.2.2.1,x.1.2.2.2,0)else([],false,x.2)
def zkw(x:Fnd):List (Ste×Ste)×Int:=if x.2=0 then(if x.1.2.2.2=true then([],14)else(x.1.1,0))else([],x.2)
abbrev jfw(y:List Evn×Bool×Int):V:=.tup [evs y.1,.bool y.2.1,num y.2.2]
theorem ev14(c:Ct)(hs:c.small=true)(k i most:Int):ev pg (.call (.fn 14 [] []) [c.v,fv k i,num most] [])=some { v:=jfw (ztg (qbz c k i most)),st:=⟨[],[]⟩ }:=by
 have e1:=ev49 c hs k i most
 unfold ztg
 rw[qaa,pg14]
 generalize qbz c k i most=x at *
 obtain⟨⟨D,N,run,en⟩,e⟩:=x
 by_cases h:e=0
 .subst h
  simp[ir14,e1]
 .have hb:(e==0)=false:=by simpa using h
  simp[ir14,e1,h,hb]
theorem ev16(c:Ct)(hs:c.small=true)(k i most:Int):ev pg (.call (.fn 16 [] []) [c.v,fv k i,num most] [])=some { v:=.tup [prs (zkw (qbz c k i most)).1,num (zkw (qbz c k i most)).2],st:=⟨[],[]⟩ }:=by
 have e1:=ev49 c hs k i most
 unfold zkw
 rw[qaa,pg16]
 generalize qbz c k i most=x at *
 obtain⟨⟨D,N,run,en⟩,e⟩:=x
 by_cases h:e=0
 .subst h
  cases en<;>simp[ir16,e1]
 .have hb:(e==0)=false:=by simpa using h
  simp[ir16,e1,h,hb]
set_option maxHeartbeats 8000000
theorem e76(w:Ct×Ct)(p:Ste×Ste)(h:H):ev pg (.call (.fn 76 [] []) [.agg (qlz w),.agg (qbw p)] h)=some { v:=.fn 136 [] [.bptr h.length 0,.bptr (h.length+1) 0],st:=⟨[],h++[⟨0,.box (qlz w)⟩,⟨0,.box (qbw p)⟩]⟩ }:=by
 rw[qaa,pg76]
 simp[ir76]
theorem zvl(v:V):V.low 27 (if V.low 26 v=true then v else .undef)=true:=by
 split
 .rename_i h;exact qfz (by omega) _ h
 .rfl
def jas(z:q3u)(r:R):Prop:=r.x=.ret/\qai r.st.s 4=.bptr 4 0/\qai r.st.s 5=.bptr 5 0/\qyn z r.st.h
def q4a(z:Option q3u)(r:R):Prop:=∀y,z=some y->jas y r
def zpg(w:Ct×Ct)(most:Int)(p0:Ste×Ste)(x:Sr×Option q3u)(r:R):Prop:=(x.2=none->∃q f E,Junk f/\r={ x:=.exit 0,st:=⟨fill f 0 (q9a q),zhk w most p0 x.1 (x.1.D.length-1)++E⟩ })/\q4a x.2 r
theorem jfg(w:Ct×Ct)(hW:WS w)(most:Int)(hm:most<=16384)(p0:Ste×Ste)(s:Sr)(f:Nat->V)(hf:JunkL 26 f)(hs:SrOk w most s)(hk:0<s.D.length) :
  ∃r,ev pg (.code L48_2 ⟨fill f 0 (q9a 25),zhk w most p0 s (s.D.length-1)++[⟨0,.box [num 0]⟩]⟩)=some r/\((qdu w most 0 s).2=none->r.x=.normal/\At (q9a 26) (zhk w most p0 (qdu w most 0 s).1 ((qdu w most 0 s).1.D.length-1)++[⟨0,.box [num 0]⟩,⟨0,.box [num 1]⟩]) (zep 26 11 r.st)/\qem 27 (zep 26 11 r.st).s=true)/\q4a (qdu w most 0 s).2 r:=by
 have hk':(0:Int)<s.D.length:=by omega
 have hp:s.D[0]?=some s.D[0]:=jA hk
 have e1:=e76 w s.D[0]
 have q:=fun S h1 h2=>z2y w hW most hm 0 p0 s.D[0] [] (.inl rfl) S h1 h2 s hs hp
 have hlo:∀n,26<=n->∀i,(f i).low n=true:=fun n hn i=>qfz hn _ (hf i).2
 have hne:∀i,(f i=.nils)=False:=fun i=>by simp[(hf i).1]
 generalize qdu w most 0 s=z at *
 obtain⟨s',z⟩:=z
 simp only at q ⊢
 generalize hD:s.D[0]=p at *
 simp[q9a,L48_2,hk,hk',hD,e1]
 generalize hr:ev pg (.code (.range _ _ _ _) _)=o
 obtain⟨r,rfl,h1,h2⟩:∃r,o=some r/\_:=by rw[<-hr];exact q _ (by simp[qhz,hne]) (by simp[hlo])
 clear hr q
 cases z with
 | none =>
  rw[h1 rfl]
  have hz:∀r,q4a none r:=fun r y hy=>by cases hy
  have w1:IntKind.i64.wrap 1=1:=by decide
  simp[hlo,hne,hz,w1]
 | some y =>
  obtain⟨hx,hS,hB⟩:=h2 y rfl
  refine⟨r,by simp[hx],fun h=>by simp at h,fun y' hy=>?_⟩
  cases hy
  exact⟨hx,by rw[hS];rfl,by rw[hS];rfl,hB⟩
theorem jfh(w:Ct×Ct)(hW:WS w)(most:Int)(hm:most<=16384)(p0:Ste×Ste)(s:Sr)(k:Nat)(f:Nat->V)(hf:JunkL 27 f)(hs:SrOk w most s)(hk:k<s.D.length) :
  ∃r,ev pg (.code L48_2 ⟨fill f 0 (q9a 26),zhk w most p0 s (s.D.length-1)++[⟨0,.box [num 0]⟩,⟨0,.box [num k]⟩]⟩)=some r/\((qdu w most k s).2=none->r.x=.normal/\At (q9a 26) (zhk w most p0 (qdu w most k s).1 ((qdu w most k s).1.D.length-1)++[⟨0,.box [num 0]⟩,⟨0,.box [num (k+1:Nat)]⟩]) (zep 26 11 r.st)/\qem 27 (zep 26 11 r.st).s=true)/\q4a (qdu w most k s).2 r:=by
 have hk':(k:Int)<s.D.length:=by omega
 have hmost:=hs.most
 have wk:=qbb (k:=k) (by omega)
 have hp:s.D[k]?=some s.D[k]:=jA hk
 have e1:=e76 w s.D[k]
 have q:=fun S h1 h2=>z2y w hW most hm k p0 s.D[k] [⟨0,.box [num 0]⟩] (.inr rfl) S h1 h2 s hs hp
 have hlo:∀n,27<=n->∀i,(f i).low n=true:=fun n hn i=>qfz hn _ (hf i).2
 have hne:∀i,(f i=.nils)=False:=fun i=>by simp[(hf i).1]
 generalize qdu w most k s=z at *
 obtain⟨s',z⟩:=z
 simp only at q ⊢
 generalize hD:s.D[k]=p at *
 simp[q9a,L48_2,hk,hk',hD,e1]
 generalize hr:ev pg (.code (.range _ _ _ _) _)=o
 obtain⟨r,rfl,h1,h2⟩:∃r,o=some r/\_:=by rw[<-hr];exact q _ (by simp[qhz,hne]) (by simp[hlo])
 clear hr q
 cases z with
 | none =>
  rw[h1 rfl]
  have hz:∀r,q4a none r:=fun r y hy=>by cases hy
  simp[hlo,hne,hz,wk,zvl]
 | some y =>
  obtain⟨hx,hS,hB⟩:=h2 y rfl
  refine⟨r,by simp[hx],fun h=>by simp at h,fun y' hy=>?_⟩
  cases hy
  exact⟨hx,by rw[hS];rfl,by rw[hS];rfl,hB⟩
theorem z0t(w:Ct×Ct)(hW:WS w)(most:Int)(hm:most<=16384)(p0:Ste×Ste):∀(d k:Nat) (s:Sr) (st:St),SrOk w most s->k<=s.D.length->most<(k:Int)+d->At (q9a 26) (zhk w most p0 s (s.D.length-1)++[⟨0,.box [num 0]⟩,⟨0,.box [num k]⟩]) st->qem 27 st.s=true ->
  ∃r,ev pg (.code (.goingK 26 11 L48_2) st)=some r/\zpg w most p0 (sGo w most d k s) r
 | 0,k,s,st,hs,hk,hd,h,hl=>by
  have:=hs.most
  omega
 | d+1,k,s,st,hs,hk,hd,h,hl=>by
  obtain⟨S,H⟩:=st
  obtain⟨f,hf,rfl⟩:=qkl 0 h.s hl
  obtain rfl:H=_:=h.h
  rw[q4s]
  simp only[sGo]
  by_cases hkd:k<s.D.length
  .obtain⟨r,e,h1,h2⟩:=jfh w hW most hm p0 s k f hf hs hkd
   have hok:=qrm hW hs hkd
   have hln:s.D.length<=(qdu w most k s).1.D.length:=qqn w most k _ s
   rw[if_pos hkd,e]
   generalize qdu w most k s=z at *
   obtain⟨s',z⟩:=z
   cases z with
   | none =>
    obtain⟨hx,ha,hl'⟩:=h1 rfl
    simp only[hx]
    exact z0t w hW most hm p0 d (k+1) s' _ hok (by simp only at hln;omega) (by omega) ha hl'
   | some y =>
    have h3:=h2 y rfl
    simp only[h3.1]
    exact⟨r,rfl,fun h=>by simp at h,h2⟩
  .have hk':¬(k:Int)<s.D.length:=by omega
   have hne:∀i,(f i=.nils)=False:=fun i=>by simp[(hf i).1]
   rw[if_neg hkd]
   obtain⟨r,e,hr⟩:∃r,ev pg (.code L48_2 ⟨fill f 0 (q9a 26),zhk w most p0 s (s.D.length-1)++[⟨0,.box [num 0]⟩,⟨0,.box [num k]⟩]⟩)=some r/\qas (.exit 0) (q9a 26) (zhk w most p0 s (s.D.length-1)++[⟨0,.box [num 0]⟩,⟨0,.box [num k]⟩]) r:=by
    simp[q9a,L48_2,hkd,hk',hne]
   rw[e]
   obtain⟨f',hf',rfl⟩:=hr
   exact⟨_,rfl,fun _=>⟨26,f',_,hf',rfl⟩,fun z hz=>by simp at hz⟩
theorem jeu(w:Ct×Ct)(hW:WS w)(most:Int)(h1m:1<=most)(hm:most<=16384)(p0:Ste×Ste)(s:Sr)(hs:SrOk w most s)(hk:0<s.D.length){st:St}(h:At (q9a 25) (zhk w most p0 s (s.D.length-1)++[⟨0,.box [num 0]⟩]) st)(hl:qem 26 st.s=true) :
  ∃r,ev pg (.code (.goingK 26 11 L48_2) st)=some r/\zpg w most p0 (sGo w most (most.toNat+1) 0 s) r:=by
 obtain⟨S,H⟩:=st
 obtain⟨f,hf,rfl⟩:=qkl 0 h.s hl
 obtain rfl:H=_:=h.h
 rw[q4s]
 simp only[sGo]
 obtain⟨r,e,h1,h2⟩:=jfg w hW most hm p0 s f hf hs hk
 have hok:=qrm hW hs hk
 have hln:s.D.length<=(qdu w most 0 s).1.D.length:=qqn w most 0 _ s
 rw[if_pos hk,e]
 generalize qdu w most 0 s=z at *
 obtain⟨s',z⟩:=z
 cases z with
 | none =>
  obtain⟨hx,ha,hl'⟩:=h1 rfl
  simp only[hx]
  exact z0t w hW most hm p0 most.toNat 1 s' _ hok (by simp only at hln;omega) (by omega) ha hl'
 | some y =>
  have h3:=h2 y rfl
  simp only[h3.1]
  exact⟨r,rfl,fun h=>by simp at h,h2⟩
abbrev psV(x:Fnd):V:=.tup [.agg [prs x.1.1,evs x.1.2.2.1,.bool x.1.2.2.2],num x.2]
def q3f(w:Ct×Ct)(most:Int):Fnd:=if most<1\/16384<most then(([],[],[],false),2)else qie w most
theorem ev48(w:Ct×Ct)(hW:Wld w)(most:Int):ev pg (.call (.fn 48 [] []) [.agg (qlz w),num most] [])=some { v:=psV (q3f w most),st:=⟨[],[]⟩ }:=by
 have e1:=ev64 w hW.toWS
 have hlie:=qon hW.toWS
 have e2:=ev65 w hW.toWS (qcn w).1 (quj hW.toWS)
 unfold q3f
 rw[qaa,pg48]
 by_cases h1:most<1
 .rw[if_pos (.inl h1)]
  simp[ir48,h1]
 .by_cases h2:16384<most
  .rw[if_pos (.inr h2)]
   simp[ir48,h1,h2]
  .rw[if_neg (by omega)]
   have q:=fun(hl:LieP w (qcn w).1) st=>jeu w hW.toWS most (by omega) (by omega) (qcn w).1 ⟨[(qcn w).1],[[]]⟩ ⟨by simpa using hl,rfl,by simp;omega,by simp⟩ (by simp) (st:=st)
   unfold qie
   unfold zdu at e1
   generalize sGo w most (most.toNat+1) 0 ⟨[(qcn w).1],[[]]⟩=z at *
   generalize qcn w=y at *
   obtain⟨p,b,e⟩:=y
   simp only at *
   by_cases he:e=0
   .subst he
    cases b with
    | true =>
     have q':=q (hlie rfl rfl)
     clear hlie q
     cases hd:difP w p with
     | true =>
      rw[hd]at e2
      simp[ir48,h1,h2,e1,e2]
     | false =>
      rw[hd]at e2
      simp[ir48,zmq,h1,h2,e1,e2]
      generalize hr:ev pg (.code (.goingK _ _ L48_2) _)=o
      obtain⟨r,rfl,h3,h4⟩:∃r,o=some r/\_:=by rw[<-hr];exact q' _ (by simp[q9a]) (by simp)
      clear hr q'
      obtain⟨s',z⟩:=z
      cases z with
      | none =>
       obtain⟨q,f,E,hf,rfl⟩:=h3 rfl
       simp[q9a,zrr]
      | some y =>
       obtain⟨hx,h6,h7,h5,h8⟩:=h4 y rfl
       obtain⟨rx,rv,S,H⟩:=r
       simp only at hx h6 h7 h5 h8
       subst hx
       split at h5
       .rename_i h5'
        obtain⟨-,-,ha,hb,rfl⟩:=h5
        have ha':=zjr ha
        have hb':=zjr hb
        have rb:∀t,qan H (.bool t)=.bool t:=fun _=>rfl
        have rn:∀t,qan H (num t)=num t:=fun _=>rfl
        simp[-qan,-qyl,h6,h7,h5',h8,zrr,ha',hb',rb,rn]
       .exact h5.elim
    | false =>
     simp[ir48,h1,h2,e1]
   .have heb:(e==0)=false:=by simpa using he
    simp[ir48,h1,h2,e1,he,heb]
theorem ev13(c:Ct)(hs:c.small=true)(k i most:Int):ev pg (.call (.fn 13 [] []) [c.v,fv k i,num most] [])=some { v:=jfw (ztg (qbz c k i most)),st:=⟨[],[]⟩ }:=by
 have e1:=ev47 c hs k i
 unfold ztg qbz
 rw[qaa,pg13]
 unfold ofW at e1
 by_cases h:qkh c k i=0
 .have e2:=ev48 _ (qsv hs h).1 most
  rw[if_pos h]
  rw[if_pos h,h]at e1
  unfold q3f at e2
  generalize qpi c k i=d at *
  generalize (if most<1\/16384<most then((([],[],[],false),2):Fnd)else qie (c,d) most)=x at *
  obtain⟨⟨D,N,run,en⟩,e⟩:=x
  by_cases h:e=0
  .subst h
   simp[ir13,e1,e2]
  .have hb:(e==0)=false:=by simpa using h
   simp[ir13,e1,e2,h,hb]
 .have hb:(qkh c k i==0)=false:=by simpa using h
  rw[if_neg h]
  rw[if_neg h]at e1
  generalize qkh c k i=e at *
  simp[ir13,e1,h,hb,qyx]
theorem ev15(c:Ct)(hs:c.small=true)(k i most:Int):ev pg (.call (.fn 15 [] []) [c.v,fv k i,num most] [])=some { v:=.tup [prs (zkw (qbz c k i most)).1,num (zkw (qbz c k i most)).2],st:=⟨[],[]⟩ }:=by
 have e1:=ev47 c hs k i
 unfold zkw qbz
 rw[qaa,pg15]
 unfold ofW at e1
 by_cases h:qkh c k i=0
 .have e2:=ev48 _ (qsv hs h).1 most
  rw[if_pos h]
  rw[if_pos h,h]at e1
  unfold q3f at e2
  generalize qpi c k i=d at *
  generalize (if most<1\/16384<most then((([],[],[],false),2):Fnd)else qie (c,d) most)=x at *
  obtain⟨⟨D,N,run,en⟩,e⟩:=x
  by_cases h:e=0
  .subst h
   cases en<;>simp[ir15,e1,e2]
  .have hb:(e==0)=false:=by simpa using h
   simp[ir15,e1,e2,h,hb]
 .have hb:(qkh c k i==0)=false:=by simpa using h
  rw[if_neg h]
  rw[if_neg h]at e1
  generalize qkh c k i=e at *
  simp[ir15,e1,h,hb,qyx]
end Go.Proofs.YtbepbclaoohngaaGreat
