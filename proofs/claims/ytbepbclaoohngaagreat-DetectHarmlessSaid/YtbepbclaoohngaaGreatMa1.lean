/- Pieces of a run by the kernel, printed by a program. -/
import Derived.Test.YtbepbclaoohngaaGreatDt15
import Derived.KernelRfl
import Derived.Test.YtbepbclaoohngaaGreatPg7
import Derived.Test.YtbepbclaoohngaaGreatEn6
set_option linter.all false
namespace Go.Proofs.YtbepbclaoohngaaGreat
open Go Go.Am Go.Proofs
set_option maxRecDepth 100000
set_option maxHeartbeats 8000000
theorem e76(w:Ct×Ct)(p:Ste×Ste)(h:H):ev pg (.call (.fn 76 [] []) [.agg (qfy w),.agg (qcj p)] h)=some { v:=.fn 136 [] [.bptr h.length 0,.bptr (h.length+1) 0],st:=⟨[],h++[⟨0,.box (qfy w)⟩,⟨0,.box (qcj p)⟩]⟩ }:=by
 rw[qab,pg76]
 simp[ir76]
theorem zvt(v:V):V.low 27 (if V.low 26 v=true then v else .undef)=true:=by
 split
 .rename_i h;exact qeb (by omega) _ h
 .rfl
def jaa(z:q7j)(r:R):Prop:=r.x=.ret/\qag r.st.s 4=.bptr 4 0/\qag r.st.s 5=.bptr 5 0/\qyu z r.st.h
def q4b(z:Option q7j)(r:R):Prop:=∀y,z=some y->jaa y r
def zpw(w:Ct×Ct)(most:Int)(p0:Ste×Ste)(x:Sr×Option q7j)(r:R):Prop:=(x.2=none->∃q f E,Junk f/\r={ x:=.exit 0,st:=⟨fill f 0 (q9m q),zhz w most p0 x.1 (x.1.D.length-1)++E⟩ })/\q4b x.2 r
theorem jdr(w:Ct×Ct)(hW:WS w)(most:Int)(hm:most<=16384)(p0:Ste×Ste)(s:Sr)(f:Nat->V)(hf:JunkL 26 f)(hs:SrOk w most s)(hk:0<s.D.length) :
  ∃r,ev pg (.code L48_2 ⟨fill f 0 (q9m 25),zhz w most p0 s (s.D.length-1)++[⟨0,.box [num 0]⟩]⟩)=some r/\((qde w most 0 s).2=none->r.x=.normal/\At (q9m 26) (zhz w most p0 (qde w most 0 s).1 ((qde w most 0 s).1.D.length-1)++[⟨0,.box [num 0]⟩,⟨0,.box [num 1]⟩]) (zfe 26 11 r.st)/\qea 27 (zfe 26 11 r.st).s=true)/\q4b (qde w most 0 s).2 r:=by
 have hk':(0:Int)<s.D.length:=by omega
 have hp:s.D[0]?=some s.D[0]:=jA hk
 have e1:=e76 w s.D[0]
 have q:=fun S h1 h2=>z3a w hW most hm 0 p0 s.D[0] [] (.inl rfl) S h1 h2 s hs hp
 have hlo:∀n,26<=n->∀i,(f i).low n=true:=fun n hn i=>qeb hn _ (hf i).2
 have hne:∀i,(f i=.nils)=False:=fun i=>by simp[(hf i).1]
 generalize qde w most 0 s=z at *
 obtain⟨s',z⟩:=z
 simp only at q ⊢
 generalize hD:s.D[0]=p at *
 simp[q9m,L48_2,hk,hk',hD,e1]
 generalize hr:ev pg (.code (.range _ _ _ _) _)=o
 obtain⟨r,rfl,h1,h2⟩:∃r,o=some r/\_:=by rw[<-hr];exact q _ (by simp[qid,hne]) (by simp[hlo])
 clear hr q
 cases z with
 | none =>
  rw[h1 rfl]
  have hz:∀r,q4b none r:=fun r y hy=>by cases hy
  have w1:IntKind.i64.wrap 1=1:=by decide
  simp[hlo,hne,hz,w1]
 | some y =>
  obtain⟨hx,hS,hB⟩:=h2 y rfl
  refine⟨r,by simp[hx],fun h=>by simp at h,fun y' hy=>?_⟩
  cases hy
  exact⟨hx,by rw[hS];rfl,by rw[hS];rfl,hB⟩
theorem jds(w:Ct×Ct)(hW:WS w)(most:Int)(hm:most<=16384)(p0:Ste×Ste)(s:Sr)(k:Nat)(f:Nat->V)(hf:JunkL 27 f)(hs:SrOk w most s)(hk:k<s.D.length) :
  ∃r,ev pg (.code L48_2 ⟨fill f 0 (q9m 26),zhz w most p0 s (s.D.length-1)++[⟨0,.box [num 0]⟩,⟨0,.box [num k]⟩]⟩)=some r/\((qde w most k s).2=none->r.x=.normal/\At (q9m 26) (zhz w most p0 (qde w most k s).1 ((qde w most k s).1.D.length-1)++[⟨0,.box [num 0]⟩,⟨0,.box [num (k+1:Nat)]⟩]) (zfe 26 11 r.st)/\qea 27 (zfe 26 11 r.st).s=true)/\q4b (qde w most k s).2 r:=by
 have hk':(k:Int)<s.D.length:=by omega
 have hmost:=hs.most
 have wk:=qbs (k:=k) (by omega)
 have hp:s.D[k]?=some s.D[k]:=jA hk
 have e1:=e76 w s.D[k]
 have q:=fun S h1 h2=>z3a w hW most hm k p0 s.D[k] [⟨0,.box [num 0]⟩] (.inr rfl) S h1 h2 s hs hp
 have hlo:∀n,27<=n->∀i,(f i).low n=true:=fun n hn i=>qeb hn _ (hf i).2
 have hne:∀i,(f i=.nils)=False:=fun i=>by simp[(hf i).1]
 generalize qde w most k s=z at *
 obtain⟨s',z⟩:=z
 simp only at q ⊢
 generalize hD:s.D[k]=p at *
 simp[q9m,L48_2,hk,hk',hD,e1]
 generalize hr:ev pg (.code (.range _ _ _ _) _)=o
 obtain⟨r,rfl,h1,h2⟩:∃r,o=some r/\_:=by rw[<-hr];exact q _ (by simp[qid,hne]) (by simp[hlo])
 clear hr q
 cases z with
 | none =>
  rw[h1 rfl]
  have hz:∀r,q4b none r:=fun r y hy=>by cases hy
  simp[hlo,hne,hz,wk,zvt]
 | some y =>
  obtain⟨hx,hS,hB⟩:=h2 y rfl
  refine⟨r,by simp[hx],fun h=>by simp at h,fun y' hy=>?_⟩
  cases hy
  exact⟨hx,by rw[hS];rfl,by rw[hS];rfl,hB⟩
theorem z0x(w:Ct×Ct)(hW:WS w)(most:Int)(hm:most<=16384)(p0:Ste×Ste):∀(d k:Nat) (s:Sr) (st:St),SrOk w most s->k<=s.D.length->most<(k:Int)+d->At (q9m 26) (zhz w most p0 s (s.D.length-1)++[⟨0,.box [num 0]⟩,⟨0,.box [num k]⟩]) st->qea 27 st.s=true ->
  ∃r,ev pg (.code (.goingK 26 11 L48_2) st)=some r/\zpw w most p0 (sGo w most d k s) r
 | 0,k,s,st,hs,hk,hd,h,hl=>by
  have:=hs.most
  omega
 | d+1,k,s,st,hs,hk,hd,h,hl=>by
  obtain⟨S,H⟩:=st
  obtain⟨f,hf,rfl⟩:=qgz 0 h.s hl
  obtain rfl:H=_:=h.h
  rw[q4u]
  simp only[sGo]
  by_cases hkd:k<s.D.length
  .obtain⟨r,e,h1,h2⟩:=jds w hW most hm p0 s k f hf hs hkd
   have hok:=qya hW hs hkd
   have hln:s.D.length<=(qde w most k s).1.D.length:=qqo w most k _ s
   rw[if_pos hkd,e]
   generalize qde w most k s=z at *
   obtain⟨s',z⟩:=z
   cases z with
   | none =>
    obtain⟨hx,ha,hl'⟩:=h1 rfl
    simp only[hx]
    exact z0x w hW most hm p0 d (k+1) s' _ hok (by simp only at hln;omega) (by omega) ha hl'
   | some y =>
    have h3:=h2 y rfl
    simp only[h3.1]
    exact⟨r,rfl,fun h=>by simp at h,h2⟩
  .have hk':¬(k:Int)<s.D.length:=by omega
   have hne:∀i,(f i=.nils)=False:=fun i=>by simp[(hf i).1]
   rw[if_neg hkd]
   obtain⟨r,e,hr⟩:∃r,ev pg (.code L48_2 ⟨fill f 0 (q9m 26),zhz w most p0 s (s.D.length-1)++[⟨0,.box [num 0]⟩,⟨0,.box [num k]⟩]⟩)=some r/\qbn (.exit 0) (q9m 26) (zhz w most p0 s (s.D.length-1)++[⟨0,.box [num 0]⟩,⟨0,.box [num k]⟩]) r:=by
    simp[q9m,L48_2,hkd,hk',hne]
   rw[e]
   obtain⟨f',hf',rfl⟩:=hr
   exact⟨_,rfl,fun _=>⟨26,f',_,hf',rfl⟩,fun z hz=>by simp at hz⟩
theorem jdi(w:Ct×Ct)(hW:WS w)(most:Int)(h1m:1<=most)(hm:most<=16384)(p0:Ste×Ste)(s:Sr)(hs:SrOk w most s)(hk:0<s.D.length){st:St}(h:At (q9m 25) (zhz w most p0 s (s.D.length-1)++[⟨0,.box [num 0]⟩]) st)(hl:qea 26 st.s=true) :
  ∃r,ev pg (.code (.goingK 26 11 L48_2) st)=some r/\zpw w most p0 (sGo w most (most.toNat+1) 0 s) r:=by
 obtain⟨S,H⟩:=st
 obtain⟨f,hf,rfl⟩:=qgz 0 h.s hl
 obtain rfl:H=_:=h.h
 rw[q4u]
 simp only[sGo]
 obtain⟨r,e,h1,h2⟩:=jdr w hW most hm p0 s f hf hs hk
 have hok:=qya hW hs hk
 have hln:s.D.length<=(qde w most 0 s).1.D.length:=qqo w most 0 _ s
 rw[if_pos hk,e]
 generalize qde w most 0 s=z at *
 obtain⟨s',z⟩:=z
 cases z with
 | none =>
  obtain⟨hx,ha,hl'⟩:=h1 rfl
  simp only[hx]
  exact z0x w hW most hm p0 most.toNat 1 s' _ hok (by simp only at hln;omega) (by omega) ha hl'
 | some y =>
  have h3:=h2 y rfl
  simp only[h3.1]
  exact⟨r,rfl,fun h=>by simp at h,h2⟩
abbrev psV(x:Fnd):V:=.tup [.agg [prs x.1.1,evs x.1.2.2.1,.bool x.1.2.2.2],num x.2]
def q3i(w:Ct×Ct)(most:Int):Fnd:=if most<1\/16384<most then(([],[],[],false),2)else qdt w most
theorem ev48(w:Ct×Ct)(hW:Wld w)(most:Int):ev pg (.call (.fn 48 [] []) [.agg (qfy w),num most] [])=some { v:=psV (q3i w most),st:=⟨[],[]⟩ }:=by
 have e1:=ev64 w hW.toWS
 have hlie:=qtk hW.toWS
 have e2:=ev65 w hW.toWS (qap w).1 (qni hW.toWS)
 unfold q3i
 rw[qab,pg48]
 by_cases h1:most<1
 .rw[if_pos (.inl h1)]
  simp[ir48,h1]
 .by_cases h2:16384<most
  .rw[if_pos (.inr h2)]
   simp[ir48,h1,h2]
  .rw[if_neg (by omega)]
   have q:=fun(hl:LieP w (qap w).1) st=>jdi w hW.toWS most (by omega) (by omega) (qap w).1 ⟨[(qap w).1],[[]]⟩ ⟨by simpa using hl,rfl,by simp;omega,by simp⟩ (by simp) (st:=st)
   unfold qdt
   unfold zru at e1
   generalize sGo w most (most.toNat+1) 0 ⟨[(qap w).1],[[]]⟩=z at *
   generalize qap w=y at *
   obtain⟨p,b,e⟩:=y
   simp only at *
   by_cases he:e=0
   .subst he
    cases b with
    | true =>
     have q':=q (hlie rfl rfl)
     clear hlie q
     cases hd:difP w p with
     | true =>
      rw[hd]at e2
      simp[ir48,h1,h2,e1,e2]
     | false =>
      rw[hd]at e2
      simp[ir48,zne,h1,h2,e1,e2]
      generalize hr:ev pg (.code (.goingK _ _ L48_2) _)=o
      obtain⟨r,rfl,h3,h4⟩:∃r,o=some r/\_:=by rw[<-hr];exact q' _ (by simp[q9m]) (by simp)
      clear hr q'
      obtain⟨s',z⟩:=z
      cases z with
      | none =>
       obtain⟨q,f,E,hf,rfl⟩:=h3 rfl
       simp[q9m,zyj]
      | some y =>
       obtain⟨hx,h6,h7,h5,h8⟩:=h4 y rfl
       obtain⟨rx,rv,S,H⟩:=r
       simp only at hx h6 h7 h5 h8
       subst hx
       split at h5
       .rename_i h5'
        obtain⟨-,-,ha,hb,rfl⟩:=h5
        have ha':=zkc ha
        have hb':=zkc hb
        have rb:∀t,qao H (.bool t)=.bool t:=fun _=>rfl
        have rn:∀t,qao H (num t)=num t:=fun _=>rfl
        simp[-qao,-qyw,h6,h7,h5',h8,zyj,ha',hb',rb,rn]
       .exact h5.elim
    | false =>
     simp[ir48,h1,h2,e1]
   .have heb:(e==0)=false:=by simpa using he
    simp[ir48,h1,h2,e1,he,heb]
theorem ev13(c:Ct)(hs:c.small=true)(k i most:Int):ev pg (.call (.fn 13 [] []) [c.v,fv k i,num most] [])=some { v:=jew (zli (qjh c k i most)),st:=⟨[],[]⟩ }:=by
 have e1:=ev47 c hs k i
 unfold zli qjh
 rw[qab,pg13]
 unfold ofW at e1
 by_cases h:qhs c k i=0
 .have e2:=ev48 _ (qmr hs h).1 most
  rw[if_pos h]
  rw[if_pos h,h]at e1
  unfold q3i at e2
  generalize qio c k i=d at *
  generalize (if most<1\/16384<most then((([],[],[],false),2):Fnd)else qdt (c,d) most)=x at *
  obtain⟨⟨D,N,run,en⟩,e⟩:=x
  by_cases h:e=0
  .subst h
   simp[ir13,e1,e2]
  .have hb:(e==0)=false:=by simpa using h
   simp[ir13,e1,e2,h,hb]
 .have hb:(qhs c k i==0)=false:=by simpa using h
  rw[if_neg h]
  rw[if_neg h]at e1
  generalize qhs c k i=e at *
  simp[ir13,e1,h,hb,qzj]
theorem ev15(c:Ct)(hs:c.small=true)(k i most:Int):ev pg (.call (.fn 15 [] []) [c.v,fv k i,num most] [])=some { v:=.tup [prs (zkd (qjh c k i most)).1,num (zkd (qjh c k i most)).2],st:=⟨[],[]⟩ }:=by
 have e1:=ev47 c hs k i
 unfold zkd qjh
 rw[qab,pg15]
 unfold ofW at e1
 by_cases h:qhs c k i=0
 .have e2:=ev48 _ (qmr hs h).1 most
  rw[if_pos h]
  rw[if_pos h,h]at e1
  unfold q3i at e2
  generalize qio c k i=d at *
  generalize (if most<1\/16384<most then((([],[],[],false),2):Fnd)else qdt (c,d) most)=x at *
  obtain⟨⟨D,N,run,en⟩,e⟩:=x
  by_cases h:e=0
  .subst h
   cases en<;>simp[ir15,e1,e2]
  .have hb:(e==0)=false:=by simpa using h
   simp[ir15,e1,e2,h,hb]
 .have hb:(qhs c k i==0)=false:=by simpa using h
  rw[if_neg h]
  rw[if_neg h]at e1
  generalize qhs c k i=e at *
  simp[ir15,e1,h,hb,qzj]
end Go.Proofs.YtbepbclaoohngaaGreat
namespace Go.Proofs.YtbepbclaoohngaaGreat
open Go Go.Am Go.Proofs
abbrev mai(n:Int):V:=.int .i64 n
abbrev z2l:V:=.imm [[mai 1,mai 2,.imm []]]
abbrev z9u:V:=.imm [[.str [117,112],mai 0,mai 1,mai 2,.imm [],mai 0,mai 0,.imm [],mai 0,.bool false],[.str [100,111,119,110],mai 0,mai 2,mai 0,z2l,mai 0,mai 0,.imm [],mai 0,.bool false]]
abbrev qzc:V:=.imm [[mai 3]]
abbrev zdw:V:=.imm [[.str [103,111]]]
abbrev zdx:V:=.imm [[mai 4]]
abbrev quu:V:=.agg [mai 1,zdw,z9u,qzc,zdx]
abbrev z2a:V:=.imm [[.str [117,112],mai 0,mai 1,mai 2,.imm [],mai 0,mai 0,.imm [],mai 0,.bool false],[.str [100,111,119,110],mai 0,mai 2,mai 0,z2l,mai 0,mai 0,.imm [],mai 0,.bool false],[.str [115,116,117,99,107,48],mai 0,mai 0,mai 0,.imm [],mai 0,mai 0,.imm [],mai 0,.bool false]]
abbrev zlm:V:=.agg [mai 1,zdw,z2a,.imm [[mai 5]],zdx]
abbrev q2t:V:=.imm [[mai 0],[mai 0]]
abbrev zwf:V:=.imm [[mai 0],[mai 0],[mai (-1099511627776)]]
abbrev qqx:V:=.imm [[.bool false]]
abbrev zrs:V:=.tup [.agg [.sl 0 0 1 0 1,.sl 1 0 1 0 1,.sl 2 0 1 0 1,.sl 3 0 1 0 2,.sl 4 0 1 0 2],.sl 5 0 1 0 0,mai 0]
abbrev qzb:V:=.imm [[.bool false],[.bool true]]
abbrev qmb:V:=.imm [[.bool true]]
abbrev q5s:V:=.imm [[.bool true],[.bool false]]
abbrev q2s:V:=.imm [[mai 0]]
abbrev zok:V:=.imm [[mai 1]]
abbrev zol:V:=.imm [[mai 2]]
abbrev jem:V:=.imm [[q2s,qqx,qqx,qzb,q2t,q2s,qqx,qqx,qzb,q2t],[zok,qmb,qmb,q5s,q2t,zok,qmb,qmb,q5s,q2t],[zol,qmb,qmb,q5s,q2t,zol,qmb,qmb,q5s,q2t],[qzc,qqx,qqx,qzb,q2t,qzc,qqx,qqx,qzb,q2t]]
abbrev z2h:V:=.imm [[mai 0],[mai 0],[mai 300]]
abbrev z2r:V:=.agg [mai 2,.imm [[zwf],[z2h],[.imm [[mai (-1099511627776)],[mai (-200)],[mai 0]]]]]
abbrev zog:V:=.imm [[mai 0],[mai 0],[mai 0]]
abbrev z2e:V:=.imm [[.bool false],[.bool true],[.bool false]]
abbrev z2s:V:=.agg [q2s,qqx,qqx,z2e,zog]
abbrev zwc:V:=.imm [[mai (-1099511627776)],[mai (-1099511627776)],[mai 0]]
abbrev zwd:V:=.agg [q2s,qqx,qmb,.imm [[.bool true],[.bool false],[.bool false]],zog]
abbrev zwe:V:=.tup [.agg [.sl 0 0 1 0 1,.sl 1 0 1 0 1,.sl 2 0 1 0 1,.sl 3 0 1 0 3,.sl 4 0 1 0 3],.sl 5 0 1 0 0,mai 0]
abbrev z2b:V:=.imm [[mai (-1099511627776)],[mai 0],[mai 0]]
abbrev z2c:V:=.imm [[mai 0],[mai (-1099511627776)],[mai (-1099511627776)]]
abbrev zoh:V:=.agg [zok,qmb,qmb,q5s,q2t]
abbrev zoi:V:=.agg [zol,qmb,qmb,q5s,q2t]
abbrev zjg:V:=.agg [q2s,qqx,qqx,qzb,q2t]
abbrev zdv:V:=.tup [.bool true,mai 0]
abbrev zoj:V:=.agg [qzc,qqx,qqx,qzb,q2t]
abbrev z2d:V:=.agg [mai 2,.imm [[zwf],[z2h],[z2b]]]
abbrev z2f:V:=.imm [[mai 2,mai 0,.bool true],[mai 0,mai 0,.bool false]]
abbrev z2g:V:=.agg [.imm [[mai 200,mai 300,mai 200,mai 300]]]
abbrev z2i:V:=.agg [mai 2,.imm [[z2c],[zwf],[zwc]]]
abbrev z2j:V:=.agg [mai 2,.imm [[zwf],[zwf],[zwc]]]
abbrev z2k:V:=.agg [mai 2,.imm [[zwf],[zwf],[z2b]]]
abbrev z2m:V:=.agg [q2s,qqx,qmb,z2e,zog]
abbrev z2n:V:=.agg [q2s,qqx,qmb,qzb,q2t]
abbrev z2o:V:=.agg [zok,qmb,qqx,q5s,q2t]
abbrev z2p:V:=.agg [zol,qmb,qqx,q5s,q2t]
abbrev z2q:V:=.agg [qzc,qqx,qmb,qzb,q2t]
end Go.Proofs.YtbepbclaoohngaaGreat
namespace Go.Am
abbrev qcl:=Nat×List V×R
def zdt:List qcl->Nat->List V->Option R
 | [],_,_=>none
 | c :: l,g,bs=>match Nat.beq c.1 g with
  | true=>match qzl c.2.1 bs with
   | true=>some c.2.2
   | false=>zdt l g bs
  | false=>zdt l g bs
def zup(m:List qcl):Q->Option R
 | .call (.fn f [] []) az []=>zdt m f az
 | _=>none
def evM(P:Prg)(m:List qcl):Nat->Q->Option R
 | 0,_=>none
 | n+1,q=>match zup m q with
  | some r=>some r
  | none=>qce P (evM P m n) q
def Okc(P:Prg)(c:qcl):Prop:=ev P (.call (.fn c.1 [] []) c.2.1 [])=some c.2.2
theorem q2p{P:Prg}:∀{m:List qcl} {f:Nat} {az:List V} {r:R},(∀c∈m,Okc P c)->zdt m f az=some r->ev P (.call (.fn f [] []) az [])=some r
 | [],_,_,_,_,h=>by simp[zdt]at h
 | c :: l,f,az,r,hm,h=>by
  simp only[zdt]at h
  split at h
  .rename_i e1
   split at h
   .rename_i e2
    have:=hm c List.mem_cons_self
    unfold Okc at this
    rw[Nat.eq_of_beq_eq_true e1,qkf e2]at this
    rw[this];exact h
   .exact q2p (fun c hc=>hm c (List.mem_cons_of_mem _ hc)) h
  .exact q2p (fun c hc=>hm c (List.mem_cons_of_mem _ hc)) h
theorem zob{P:Prg}{m:List qcl}{q:Q}{r:R}(hm:∀c∈m,Okc P c)(h:zup m q=some r):ev P q=some r:=by
 unfold zup at h
 split at h
 .exact q2p hm h
 .cases h
theorem zqe{P:Prg}{m:List qcl}(hm:∀c∈m,Okc P c):∀(n:Nat) (q:Q) (r:R),evM P m n q=some r->ev P q=some r
 | 0,_,_,h=>by simp[evM]at h
 | n+1,q,r,h=>by
  simp only[evM]at h
  split at h
  .rename_i r' e
   rw[zob hm e];exact h
  .rw[qie]
   exact qym (fun q r h=>zqe hm n q r h) q r h
theorem qbf{P:Prg}{c:qcl}(m:List qcl)(n:Nat)(hm:∀c∈m,Okc P c)(h:evM P m n (.call (.fn c.1 [] []) c.2.1 [])=some c.2.2):Okc P c:=zqe hm _ _ _ h
theorem qbg{P:Prg}:∀c∈([]:List qcl),Okc P c:=fun _ h=>by cases h
theorem qae{P:Prg}{c:qcl}{m:List qcl}(h:Okc P c)(hm:∀c∈m,Okc P c):∀d∈c :: m,Okc P d:=by
 intro d hd
 cases hd with
 | head=>exact h
 | tail _ hd=>exact hm d hd
end Go.Am
namespace Go.Proofs.YtbepbclaoohngaaGreat
open Go Go.Am Go.Proofs
set_option maxRecDepth 1000000
def qht:qcl:=(87,[quu],{ v:=mai 0,st:=⟨[],[]⟩ })
theorem qif:Okc pg qht:=qbf [] 600 (qbg) (by kernel_rfl)
def zvu:qcl:=(86,[quu,.agg [mai 0,mai 0]],{ v:=.tup [zlm,qqx],st:=⟨[],[]⟩ })
theorem z0y:Okc pg zvu:=qbf [qht] 600 (qae qif (qbg)) (by kernel_rfl)
def qwx:qcl:=(87,[zlm],{ v:=mai 0,st:=⟨[],[]⟩ })
theorem qza:Okc pg qwx:=qbf [] 600 (qbg) (by kernel_rfl)
def zod:qcl:=(146,[quu,.agg [q2s,qqx,qqx,.imm [[.bool false],[.bool false]],q2t]],{ v:=zjg,st:=⟨[],[]⟩ })
theorem zvz:Okc pg zod:=qbf [] 600 (qbg) (by kernel_rfl)
def zvv:qcl:=(219,[quu,zjg],{ v:=zrs,st:=⟨[],[⟨0,.arr 1 [[mai 0]]⟩,⟨0,.arr 1 [[.bool false]]⟩,⟨0,.arr 1 [[.bool false]]⟩,⟨0,.arr 1 [[.bool false],[.bool true]]⟩,⟨0,.arr 1 [[mai 0],[mai 0]]⟩,⟨0,.arr 1 []⟩]⟩ })
theorem z1s:Okc pg zvv:=qbf [qht] 600 (qae qif (qbg)) (by kernel_rfl)
def zoe:qcl:=(89,[quu,zjg],{ v:=.tup [zjg,.imm [],mai 0],st:=⟨[],[]⟩ })
theorem zwa:Okc pg zoe:=qbf [qht,zvv] 600 (qae qif (qae z1s (qbg))) (by kernel_rfl)
def zvw:qcl:=(146,[zlm,.agg [q2s,qqx,qqx,.imm [[.bool false],[.bool false],[.bool false]],zog]],{ v:=z2s,st:=⟨[],[]⟩ })
theorem z1x:Okc pg zvw:=qbf [] 600 (qbg) (by kernel_rfl)
def zvx:qcl:=(219,[zlm,z2s],{ v:=zwe,st:=⟨[],[⟨0,.arr 1 [[mai 0]]⟩,⟨0,.arr 1 [[.bool false]]⟩,⟨0,.arr 1 [[.bool false]]⟩,⟨0,.arr 1 [[.bool false],[.bool true],[.bool false]]⟩,⟨0,.arr 1 [[mai 0],[mai 0],[mai 0]]⟩,⟨0,.arr 1 []⟩]⟩ })
theorem z1y:Okc pg zvx:=qbf [qwx] 600 (qae qza (qbg)) (by kernel_rfl)
def zvy:qcl:=(89,[zlm,z2s],{ v:=.tup [z2s,.imm [],mai 0],st:=⟨[],[]⟩ })
theorem z1z:Okc pg zvy:=qbf [qwx,zvx] 600 (qae qza (qae z1y (qbg))) (by kernel_rfl)
def zof:qcl:=(150,[quu,zjg],{ v:=zdv,st:=⟨[],[]⟩ })
theorem zwb:Okc pg zof:=qbf [qht,zvv] 600 (qae qif (qae z1s (qbg))) (by kernel_rfl)
def zit:qcl:=(150,[zlm,z2s],{ v:=zdv,st:=⟨[],[]⟩ })
theorem zrk:Okc pg zit:=qbf [qwx,zvx] 600 (qae qza (qae z1y (qbg))) (by kernel_rfl)
end Go.Proofs.YtbepbclaoohngaaGreat
