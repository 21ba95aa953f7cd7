/- Differ and Relation, by the reference. -/
import Derived.Test.YtbepbclaoohngaaGreatDt13
import Derived.KernelRfl
set_option linter.all false
namespace Go.Proofs.YtbepbclaoohngaaGreat
open Go Go.Am Go.Proofs
set_option maxRecDepth 100000
set_option maxHeartbeats 8000000
theorem qoa{f:Nat->V}(hf:Junk f):∀{T:Tm} (n:Nat),(∀o∈T,o≠some .nils)->qaq (fill f n T)
 | [],_,_=>fun v hv=>by simp[fill]at hv
 | some v :: T,n,h=>fun w hw=>by
  simp only[fill,List.mem_cons]at hw
  rcases hw with rfl | hw
  .intro e;exact h (some w) (by simp) (by rw[e])
  .exact qoa hf (n+1) (fun o ho=>h o (by simp[ho])) w hw
 | none :: T,n,h=>fun w hw=>by
  simp only[fill,List.mem_cons]at hw
  rcases hw with rfl | hw
  .exact hf n
  .exact qoa hf (n+1) (fun o ho=>h o (by simp[ho])) w hw
theorem z3c(w:Ct×Ct)(hW:WS w)(most:Int)(hm:most<=16384)(k:Nat)(p0 p:Ste×Ste)(X:H)(hX:X=[]\/X=[⟨0,.box [num 0]⟩])(f:Nat->V)(hf:JunkL (29+X.length) f) :
  Rng w p (fun a:Sr×Option q7j=>zye w most p0 p X k f a.1 (a.1.D.length-1)) (fun a=>SrOk w most a.1/\a.1.D[k]?=some p) (fun a H=>∃z,a.2=some z/\qyv (28+X.length) z H) (zeq w most k) (26+X.length) (27+X.length) (28+X.length) (29+X.length) where
 aN:=by omega
 bN:=by omega
 lN:=by omega
 len:=by rintro a -;rcases hX with rfl | rfl<;>rfl
 calm:=by
  rintro a -
  have hlo:∀n,29+X.length<=n->∀i,(f i).low n=true:=fun n hn i=>qeb hn _ (hf i).2
  rcases hX with rfl | rfl<;>simp[calm,qid,hlo]
 ha:=by rintro a -;rcases hX with rfl | rfl<;>rfl
 hb:=by rintro a -;rcases hX with rfl | rfl<;>rfl
 yld:=by
  rintro a x E ⟨hs,hp⟩ hx hE h1
  obtain⟨q1,-⟩:=z3t w hW most hm k p0 p X hX f hf a.1 (a.1.D.length-1) hs hp x E hE
  obtain⟨g',hg,e⟩:=q1 (by simpa[zeq]using h1)
  have hk:k<a.1.D.length:=(jG.1 hp).1
  have hl:=q3g w most k a.1 x
  have hg':g'=(qhg w most k a.1 x).1.D.length-1:=by omega
  rw[hg']at e
  exact⟨⟨q3h hW hs hk x,by show(qhg w most k a.1 x).1.D[k]?=_;rw[qvk w most k a.1 x hk];exact hp⟩,e⟩
 stp:=by
  rintro a x E ⟨hs,hp⟩ hx hE h1
  obtain⟨-,q2⟩:=z3t w hW most hm k p0 p X hX f hf a.1 (a.1.D.length-1) hs hp x E hE
  cases hz:(qhg w most k a.1 x).2 with
  | none=>simp[zeq,hz]at h1
  | some z =>
   obtain⟨H,hF,e⟩:=q2 z hz
   exact⟨H,⟨z,hz,hF⟩,e⟩
def qyu(z:q7j)(h:H):Prop:=(match (h[4]?:Option Ob)with
 | some ⟨_,.box [.sl i g m o n,.sl i' g' m' o' n',c]⟩=>30<=i/\30<=i'/\qbm h (.sl i g m o n)=.imm []/\qbm h (.sl i' g' m' o' n')=evs z.1/\c=.bool z.2.1
 | _=>False)/\h[5]?=some ⟨0,.box [num z.2.2]⟩
theorem zga{z:q7j}{h:H}(hb:qyu z h){n:Nat}(h4:4<n)(hn:n<=30):qpm n h=false:=by
 obtain⟨h1,-⟩:=hb
 split at h1
 .rename_i gg i g m o k i' g' m' o' k' c he
  obtain⟨hi,-⟩:=h1
  unfold qpm
  rw[List.all_eq_false]
  refine⟨⟨gg,.box [.sl i g m o k,.sl i' g' m' o' k',c]⟩,?_,?_⟩
  .rw[List.mem_iff_getElem?]
   exact⟨4,by rw[List.getElem?_take_of_lt h4];exact he⟩
  .have:¬i<n:=by omega
   simp[this]
 .exact h1.elim
theorem qva{z:q7j}{h:H}(hb:qyu z h){n:Nat}(h4:4<n)(hn:n<=30):qds n h=h:=by
 unfold qds
 rw[zga hb h4 hn]
 simp
theorem zkk{h:H}{l:Nat}{x:Ob}{i g:Nat}(hi:i≠l):qfm (h.set l x) i g=qfm h i g:=by
 unfold qfm
 rw[jO (Ne.symm hi)]
theorem q0o{h:H}{l:Nat}{x:Ob}{i g m o n:Nat}(hi:i≠l):qbm (h.set l x) (.sl i g m o n)=qbm h (.sl i g m o n):=by
 unfold qbm
 simp only[zkk hi]
theorem zgb{z:q7j}{h:H}(hb:qyu z h){l:Nat}(h4:5<l)(hn:l<30)(x:Ob):qyu z (h.set l x):=by
 obtain⟨h1,h2⟩:=hb
 refine⟨?_,by rw[jO (by omega)];exact h2⟩
 rw[jO (by omega)]
 split at h1
 .rename_i he
  simp only[he]
  obtain⟨a,b,c,d,e⟩:=h1
  exact⟨a,b,by rw[q0o (by omega)];exact c,by rw[q0o (by omega)];exact d,e⟩
 .exact h1.elim
theorem zkc{h:H}{i g m o n:Nat}{l:List (List V)}(e:qbm h (.sl i g m o n)=.imm l):qao h (.sl i g m o n)=.imm l:=by
 have e':(match qfm h i g with
  | some els=>match qij els o n with
   | some l=>V.imm l
   | none=>.undef
  | none=>.undef)=.imm l:=e
 show(match qfm h i g with
  | some els=>match qij els o n with
   | some l=>V.imm l
   | none=>.undef
  | none=>match qna h i g with
   | some els=>match qij els o n with
    | some l=>V.imm l
    | none=>.undef
   | none=>.undef)=.imm l
 cases hr:qfm h i g with
 | some els =>
  simp only[hr]at e' ⊢
  exact e'
 | none =>
  simp only[hr]at e'
  cases e'
abbrev zel(w:Ct×Ct)(most:Int)(p0 p:Ste×Ste)(X:H)(k:Nat)(s:Sr):H:=zhz w most p0 s (s.D.length-1)++(X++[⟨0,.box [num k]⟩,⟨0,.box (qfy w)⟩,⟨0,.box (qcj p)⟩])
theorem z3a(w:Ct×Ct)(hW:WS w)(most:Int)(hm:most<=16384)(k:Nat)(p0 p:Ste×Ste)(X:H)(hX:X=[]\/X=[⟨0,.box [num 0]⟩])(S:List V)(hS:qzr (qid (25+X.length)) S)(hl:qea (28+X.length) S=true)(s:Sr)(hs:SrOk w most s)(hp:s.D[k]?=some p) :
  ∃r,ev pg (.code (.range (.t 59) [60] L48_0 L48_1) ⟨S,zel w most p0 p X k s⟩)=some r/\((qde w most k s).2=none->r={ st:=⟨S,zel w most p0 p X k (qde w most k s).1⟩ })/\(∀z,(qde w most k s).2=some z->r.x=.ret/\r.st.s=S/\qyu z r.st.h):=by
 obtain⟨f,hf,rfl⟩:=qgz 0 hS (qch (show 28+X.length<=29+X.length by omega) _ hl)
 have hps:PS p:=(hs.lie p (jR hp)).small
 have R:=z3c w hW most hm k p0 p X hX f hf
 obtain⟨H',e,hE⟩:=ev136 R hW hps (s,none) ⟨hs,hp⟩
 have hR:qde w most k s=qck (qhg w most k) s (qkm w p):=by unfold qde;rw[hp];rfl
 rw[zho,<-hR]at hE
 generalize qde w most k s=z at *
 obtain⟨s',z⟩:=z
 have hn:qaq (fill f 0 (qid (25+X.length))):=qoa hf.junk 0 (by unfold qid;intro o ho e;subst e;simp[List.mem_replicate]at ho)
 have had:qct ⟨fill f 0 (qid (25+X.length)),zel w most p0 p X k s⟩=⟨fill f 0 (qid (25+X.length)),zel w most p0 p X k s⟩:=by unfold qct;simp only[qcz _ hn]
 have hc:calm (zel w most p0 p X k s'):=by rcases hX with rfl | rfl<;>simp[calm]
 have hcut:=fun r=>qep hc r
 rw[qga,had]
 clear R had hn hS hl
 have ht:(A.t 59).ev (fill f 0 (qid (25+X.length)))=.fn 136 [] [.bptr (25+X.length+1) 0,.bptr (25+X.length+2) 0]:=by simp[qid]
 rcases hX with rfl | rfl
 .have e':ev pg (.call (.fn 136 [] [.bptr (25+0+1) 0,.bptr (25+0+2) 0]) [.yld (zel w most p0 p [] k s).length] (zel w most p0 p [] k s++[⟨0,.loop (fill f 0 (qid (25+0))) [60] L48_0 L48_1 none⟩]))=some { v:=.tup [],st:=⟨[],H'⟩ }:=e
  simp only[List.length_nil]at ht hcut ⊢
  simp only[ht,e']
  cases z with
  | none =>
   obtain⟨-,-,rfl⟩:_/\_/\H'=_:=by
    rcases hE with h | ⟨h,-⟩
    .exact h
    .simp at h
   have h28:(zye w most p0 p [] k f s' (s'.D.length-1))[(zel w most p0 p [] k s).length]?=some ⟨0,.loop (fill f 0 (qid (25+0))) [60] L48_0 L48_1 none⟩:=rfl
   refine⟨_,by rw[h28],?_,fun z hz=>by simp at hz⟩
   intro _
   have:=hcut [⟨0,.loop (fill f 0 (qid (25+0))) [60] L48_0 L48_1 (some .normal)⟩]
   exact congrArg (fun h=>({ st:=⟨fill f 0 (qid (25+0)),h⟩ }:R)) this
  | some y =>
   obtain⟨H,⟨y',hy,hF⟩,rfl⟩:∃H,(∃y',some y=some y'/\qyv 28 y' H)/\H'=qds 29 H:=by
    rcases hE with⟨h,-⟩ | ⟨-,h⟩
    .simp at h
    .exact h
   cases hy
   have hB:qyu y H:=⟨hF.1,hF.2.1⟩
   have hL:=hF.2.2
   rw[qva hB (by omega) (by omega)]
   split at hL
   .rename_i g sl ps a b hL'
    have h28:H[(zel w most p0 p [] k s).length]?=some ⟨g,.loop sl ps a b (some .ret)⟩:=hL'
    simp only[h28]
    refine⟨_,rfl,fun h=>by simp at h,fun z hz=>?_⟩
    cases hz
    refine⟨rfl,rfl,?_⟩
    have hb2:=zgb hB (l:=28) (by omega) (by omega) ⟨g,.loop sl ps a b (some .normal)⟩
    have:=qva hb2 (n:=28) (by omega) (by omega)
    show qyu y (qds 28 (H.set 28 _))
    rw[this]
    exact hb2
   .exact hL.elim
 .have e':ev pg (.call (.fn 136 [] [.bptr (25+1+1) 0,.bptr (25+1+2) 0]) [.yld (zel w most p0 p [⟨0,.box [num 0]⟩] k s).length] (zel w most p0 p [⟨0,.box [num 0]⟩] k s++[⟨0,.loop (fill f 0 (qid (25+1))) [60] L48_0 L48_1 none⟩]))=some { v:=.tup [],st:=⟨[],H'⟩ }:=e
  simp only[List.length_cons,List.length_nil,Nat.zero_add]at ht hcut ⊢
  simp only[ht,e']
  cases z with
  | none =>
   obtain⟨-,-,rfl⟩:_/\_/\H'=_:=by
    rcases hE with h | ⟨h,-⟩
    .exact h
    .simp at h
   have h28:(zye w most p0 p [⟨0,.box [num 0]⟩] k f s' (s'.D.length-1))[(zel w most p0 p [⟨0,.box [num 0]⟩] k s).length]?=some ⟨0,.loop (fill f 0 (qid (25+1))) [60] L48_0 L48_1 none⟩:=rfl
   refine⟨_,by rw[h28],?_,fun z hz=>by simp at hz⟩
   intro _
   have:=hcut [⟨0,.loop (fill f 0 (qid (25+1))) [60] L48_0 L48_1 (some .normal)⟩]
   exact congrArg (fun h=>({ st:=⟨fill f 0 (qid (25+1)),h⟩ }:R)) this
  | some y =>
   obtain⟨H,⟨y',hy,hF⟩,rfl⟩:∃H,(∃y',some y=some y'/\qyv 29 y' H)/\H'=qds 30 H:=by
    rcases hE with⟨h,-⟩ | ⟨-,h⟩
    .simp at h
    .exact h
   cases hy
   have hB:qyu y H:=⟨hF.1,hF.2.1⟩
   have hL:=hF.2.2
   rw[qva hB (by omega) (by omega)]
   split at hL
   .rename_i g sl ps a b hL'
    have h28:H[(zel w most p0 p [⟨0,.box [num 0]⟩] k s).length]?=some ⟨g,.loop sl ps a b (some .ret)⟩:=hL'
    simp only[h28]
    refine⟨_,rfl,fun h=>by simp at h,fun z hz=>?_⟩
    cases hz
    refine⟨rfl,rfl,?_⟩
    have hb2:=zgb hB (l:=29) (by omega) (by omega) ⟨g,.loop sl ps a b (some .normal)⟩
    have:=qva hb2 (n:=29) (by omega) (by omega)
    show qyu y (qds 29 (H.set 29 _))
    rw[this]
    exact hb2
   .exact hL.elim
set_option maxHeartbeats 4000000
theorem zag{w:Ct×Ct}{p:Ste×Ste}(h:LieP w p):qkm w p=qop p.1++zew p.1:=by
 unfold qkm qor
 rw[h.g.events]
abbrev Fnd:=(List (Ste×Ste)×List (List Evn)×List Evn×Bool)×Int
def qjh(c:Ct)(k i most:Int):Fnd:=if qhs c k i=0 then(if most<1\/16384<most then(([],[],[],false),2)else qdt (c,qio c k i) most)else(([],[],[],false),qhs c k i)
def zli(x:Fnd):List Evn×Bool×Int:=if x.2=0 then(x.1.2.2.1,x.1.2.2.2,0)else([],false,x.2)
def zkd(x:Fnd):List (Ste×Ste)×Int:=if x.2=0 then(if x.1.2.2.2=true then([],14)else(x.1.1,0))else([],x.2)
abbrev jew(y:List Evn×Bool×Int):V:=.tup [evs y.1,.bool y.2.1,num y.2.2]
end Go.Proofs.YtbepbclaoohngaaGreat
