/- The reference's search: a round. -/
import Derived.Test.YtbepbclaoohngaaGreatCDt13
import Derived.KernelRfl
set_option linter.all false
namespace Go.Proofs.YtbepbclaoohngaaGreat
open Go Go.Am Go.Proofs
set_option maxRecDepth 100000
set_option maxHeartbeats 8000000
theorem qst{f:Nat->V}(hf:Junk f):∀{T:Tm} (n:Nat),(∀o∈T,o≠some .nils)->qar (fill f n T)
 | [],_,_=>fun v hv=>by simp[fill]at hv
 | some v :: T,n,h=>fun w hw=>by
  simp only[fill,List.mem_cons]at hw
  rcases hw with rfl | hw
  .intro e;exact h (some w) (by simp) (by rw[e])
  .exact qst hf (n+1) (fun o ho=>h o (by simp[ho])) w hw
 | none :: T,n,h=>fun w hw=>by
  simp only[fill,List.mem_cons]at hw
  rcases hw with rfl | hw
  .exact hf n
  .exact qst hf (n+1) (fun o ho=>h o (by simp[ho])) w hw
theorem z2z(w:Ct×Ct)(hW:WS w)(most:Int)(hm:most<=16384)(k:Nat)(p0 p:Ste×Ste)(X:H)(hX:X=[]\/X=[⟨0,.box [num 0]⟩])(f:Nat->V)(hf:JunkL (29+X.length) f) :
  Rng w p (fun a:Sr×Option q3u=>zxs w most p0 p X k f a.1 (a.1.D.length-1)) (fun a=>SrOk w most a.1/\a.1.D[k]?=some p) (fun a H=>∃z,a.2=some z/\qyo (28+X.length) z H) (zee w most k) (26+X.length) (27+X.length) (28+X.length) (29+X.length) where
 aN:=by omega
 bN:=by omega
 lN:=by omega
 len:=by rintro a -;rcases hX with rfl | rfl<;>rfl
 calm:=by
  rintro a -
  have hlo:∀n,29+X.length<=n->∀i,(f i).low n=true:=fun n hn i=>qfz hn _ (hf i).2
  rcases hX with rfl | rfl<;>simp[calm,qhz,hlo]
 ha:=by rintro a -;rcases hX with rfl | rfl<;>rfl
 hb:=by rintro a -;rcases hX with rfl | rfl<;>rfl
 yld:=by
  rintro a x E ⟨hs,hp⟩ hx hE h1
  obtain⟨q1,-⟩:=z3n w hW most hm k p0 p X hX f hf a.1 (a.1.D.length-1) hs hp x E hE
  obtain⟨g',hg,e⟩:=q1 (by simpa[zee]using h1)
  have hk:k<a.1.D.length:=(jG.1 hp).1
  have hl:=q3c w most k a.1 x
  have hg':g'=(qki w most k a.1 x).1.D.length-1:=by omega
  rw[hg']at e
  exact⟨⟨q3d hW hs hk x,by show(qki w most k a.1 x).1.D[k]?=_;rw[q3e w most k a.1 x hk];exact hp⟩,e⟩
 stp:=by
  rintro a x E ⟨hs,hp⟩ hx hE h1
  obtain⟨-,q2⟩:=z3n w hW most hm k p0 p X hX f hf a.1 (a.1.D.length-1) hs hp x E hE
  cases hz:(qki w most k a.1 x).2 with
  | none=>simp[zee,hz]at h1
  | some z =>
   obtain⟨H,hF,e⟩:=q2 z hz
   exact⟨H,⟨z,hz,hF⟩,e⟩
def qyn(z:q3u)(h:H):Prop:=(match (h[4]?:Option Ob)with
 | some ⟨_,.box [.sl i g m o n,.sl i' g' m' o' n',c]⟩=>30<=i/\30<=i'/\qbm h (.sl i g m o n)=.imm []/\qbm h (.sl i' g' m' o' n')=evs z.1/\c=.bool z.2.1
 | _=>False)/\h[5]?=some ⟨0,.box [num z.2.2]⟩
theorem zfm{z:q3u}{h:H}(hb:qyn z h){n:Nat}(h4:4<n)(hn:n<=30):qpp n h=false:=by
 obtain⟨h1,-⟩:=hb
 split at h1
 .rename_i gg i g m o k i' g' m' o' k' c he
  obtain⟨hi,-⟩:=h1
  unfold qpp
  rw[List.all_eq_false]
  refine⟨⟨gg,.box [.sl i g m o k,.sl i' g' m' o' k',c]⟩,?_,?_⟩
  .rw[List.mem_iff_getElem?]
   exact⟨4,by rw[List.getElem?_take_of_lt h4];exact he⟩
  .have:¬i<n:=by omega
   simp[this]
 .exact h1.elim
theorem quy{z:q3u}{h:H}(hb:qyn z h){n:Nat}(h4:4<n)(hn:n<=30):qea n h=h:=by
 unfold qea
 rw[zfm hb h4 hn]
 simp
theorem zjz{h:H}{l:Nat}{x:Ob}{i g:Nat}(hi:i≠l):qfn (h.set l x) i g=qfn h i g:=by
 unfold qfn
 rw[jO (Ne.symm hi)]
theorem q0g{h:H}{l:Nat}{x:Ob}{i g m o n:Nat}(hi:i≠l):qbm (h.set l x) (.sl i g m o n)=qbm h (.sl i g m o n):=by
 unfold qbm
 simp only[zjz hi]
theorem zfn{z:q3u}{h:H}(hb:qyn z h){l:Nat}(h4:5<l)(hn:l<30)(x:Ob):qyn z (h.set l x):=by
 obtain⟨h1,h2⟩:=hb
 refine⟨?_,by rw[jO (by omega)];exact h2⟩
 rw[jO (by omega)]
 split at h1
 .rename_i he
  simp only[he]
  obtain⟨a,b,c,d,e⟩:=h1
  exact⟨a,b,by rw[q0g (by omega)];exact c,by rw[q0g (by omega)];exact d,e⟩
 .exact h1.elim
theorem zjr{h:H}{i g m o n:Nat}{l:List (List V)}(e:qbm h (.sl i g m o n)=.imm l):qan h (.sl i g m o n)=.imm l:=by
 have e':(match qfn h i g with
  | some els=>match qih els o n with
   | some l=>V.imm l
   | none=>.undef
  | none=>.undef)=.imm l:=e
 show(match qfn h i g with
  | some els=>match qih els o n with
   | some l=>V.imm l
   | none=>.undef
  | none=>match qna h i g with
   | some els=>match qih els o n with
    | some l=>V.imm l
    | none=>.undef
   | none=>.undef)=.imm l
 cases hr:qfn h i g with
 | some els =>
  simp only[hr]at e' ⊢
  exact e'
 | none =>
  simp only[hr]at e'
  cases e'
abbrev zdy(w:Ct×Ct)(most:Int)(p0 p:Ste×Ste)(X:H)(k:Nat)(s:Sr):H:=zhk w most p0 s (s.D.length-1)++(X++[⟨0,.box [num k]⟩,⟨0,.box (qlz w)⟩,⟨0,.box (qbw p)⟩])
theorem z2y(w:Ct×Ct)(hW:WS w)(most:Int)(hm:most<=16384)(k:Nat)(p0 p:Ste×Ste)(X:H)(hX:X=[]\/X=[⟨0,.box [num 0]⟩])(S:List V)(hS:q1w (qhz (25+X.length)) S)(hl:qem (28+X.length) S=true)(s:Sr)(hs:SrOk w most s)(hp:s.D[k]?=some p) :
  ∃r,ev pg (.code (.range (.t 59) [60] L48_0 L48_1) ⟨S,zdy w most p0 p X k s⟩)=some r/\((qdu w most k s).2=none->r={ st:=⟨S,zdy w most p0 p X k (qdu w most k s).1⟩ })/\(∀z,(qdu w most k s).2=some z->r.x=.ret/\r.st.s=S/\qyn z r.st.h):=by
 obtain⟨f,hf,rfl⟩:=qkl 0 hS (qcp (show 28+X.length<=29+X.length by omega) _ hl)
 have hps:PS p:=(hs.lie p (jR hp)).small
 have R:=z2z w hW most hm k p0 p X hX f hf
 obtain⟨H',e,hE⟩:=ev136 R hW hps (s,none) ⟨hs,hp⟩
 have hR:qdu w most k s=qhq (qki w most k) s (qze w p):=by unfold qdu;rw[hp];rfl
 rw[zgz,<-hR]at hE
 generalize qdu w most k s=z at *
 obtain⟨s',z⟩:=z
 have hn:qar (fill f 0 (qhz (25+X.length))):=qst hf.junk 0 (by unfold qhz;intro o ho e;subst e;simp[List.mem_replicate]at ho)
 have had:qda ⟨fill f 0 (qhz (25+X.length)),zdy w most p0 p X k s⟩=⟨fill f 0 (qhz (25+X.length)),zdy w most p0 p X k s⟩:=by unfold qda;simp only[qdz _ hn]
 have hc:calm (zdy w most p0 p X k s'):=by rcases hX with rfl | rfl<;>simp[calm]
 have hcut:=fun r=>qfx hc r
 rw[qgl,had]
 clear R had hn hS hl
 have ht:(A.t 59).ev (fill f 0 (qhz (25+X.length)))=.fn 136 [] [.bptr (25+X.length+1) 0,.bptr (25+X.length+2) 0]:=by simp[qhz]
 rcases hX with rfl | rfl
 .have e':ev pg (.call (.fn 136 [] [.bptr (25+0+1) 0,.bptr (25+0+2) 0]) [.yld (zdy w most p0 p [] k s).length] (zdy w most p0 p [] k s++[⟨0,.loop (fill f 0 (qhz (25+0))) [60] L48_0 L48_1 none⟩]))=some { v:=.tup [],st:=⟨[],H'⟩ }:=e
  simp only[List.length_nil]at ht hcut ⊢
  simp only[ht,e']
  cases z with
  | none =>
   obtain⟨-,-,rfl⟩:_/\_/\H'=_:=by
    rcases hE with h | ⟨h,-⟩
    .exact h
    .simp at h
   have h28:(zxs w most p0 p [] k f s' (s'.D.length-1))[(zdy w most p0 p [] k s).length]?=some ⟨0,.loop (fill f 0 (qhz (25+0))) [60] L48_0 L48_1 none⟩:=rfl
   refine⟨_,by rw[h28],?_,fun z hz=>by simp at hz⟩
   intro _
   have:=hcut [⟨0,.loop (fill f 0 (qhz (25+0))) [60] L48_0 L48_1 (some .normal)⟩]
   exact congrArg (fun h=>({ st:=⟨fill f 0 (qhz (25+0)),h⟩ }:R)) this
  | some y =>
   obtain⟨H,⟨y',hy,hF⟩,rfl⟩:∃H,(∃y',some y=some y'/\qyo 28 y' H)/\H'=qea 29 H:=by
    rcases hE with⟨h,-⟩ | ⟨-,h⟩
    .simp at h
    .exact h
   cases hy
   have hB:qyn y H:=⟨hF.1,hF.2.1⟩
   have hL:=hF.2.2
   rw[quy hB (by omega) (by omega)]
   split at hL
   .rename_i g sl ps a b hL'
    have h28:H[(zdy w most p0 p [] k s).length]?=some ⟨g,.loop sl ps a b (some .ret)⟩:=hL'
    simp only[h28]
    refine⟨_,rfl,fun h=>by simp at h,fun z hz=>?_⟩
    cases hz
    refine⟨rfl,rfl,?_⟩
    have hb2:=zfn hB (l:=28) (by omega) (by omega) ⟨g,.loop sl ps a b (some .normal)⟩
    have:=quy hb2 (n:=28) (by omega) (by omega)
    show qyn y (qea 28 (H.set 28 _))
    rw[this]
    exact hb2
   .exact hL.elim
 .have e':ev pg (.call (.fn 136 [] [.bptr (25+1+1) 0,.bptr (25+1+2) 0]) [.yld (zdy w most p0 p [⟨0,.box [num 0]⟩] k s).length] (zdy w most p0 p [⟨0,.box [num 0]⟩] k s++[⟨0,.loop (fill f 0 (qhz (25+1))) [60] L48_0 L48_1 none⟩]))=some { v:=.tup [],st:=⟨[],H'⟩ }:=e
  simp only[List.length_cons,List.length_nil,Nat.zero_add]at ht hcut ⊢
  simp only[ht,e']
  cases z with
  | none =>
   obtain⟨-,-,rfl⟩:_/\_/\H'=_:=by
    rcases hE with h | ⟨h,-⟩
    .exact h
    .simp at h
   have h28:(zxs w most p0 p [⟨0,.box [num 0]⟩] k f s' (s'.D.length-1))[(zdy w most p0 p [⟨0,.box [num 0]⟩] k s).length]?=some ⟨0,.loop (fill f 0 (qhz (25+1))) [60] L48_0 L48_1 none⟩:=rfl
   refine⟨_,by rw[h28],?_,fun z hz=>by simp at hz⟩
   intro _
   have:=hcut [⟨0,.loop (fill f 0 (qhz (25+1))) [60] L48_0 L48_1 (some .normal)⟩]
   exact congrArg (fun h=>({ st:=⟨fill f 0 (qhz (25+1)),h⟩ }:R)) this
  | some y =>
   obtain⟨H,⟨y',hy,hF⟩,rfl⟩:∃H,(∃y',some y=some y'/\qyo 29 y' H)/\H'=qea 30 H:=by
    rcases hE with⟨h,-⟩ | ⟨-,h⟩
    .simp at h
    .exact h
   cases hy
   have hB:qyn y H:=⟨hF.1,hF.2.1⟩
   have hL:=hF.2.2
   rw[quy hB (by omega) (by omega)]
   split at hL
   .rename_i g sl ps a b hL'
    have h28:H[(zdy w most p0 p [⟨0,.box [num 0]⟩] k s).length]?=some ⟨g,.loop sl ps a b (some .ret)⟩:=hL'
    simp only[h28]
    refine⟨_,rfl,fun h=>by simp at h,fun z hz=>?_⟩
    cases hz
    refine⟨rfl,rfl,?_⟩
    have hb2:=zfn hB (l:=29) (by omega) (by omega) ⟨g,.loop sl ps a b (some .normal)⟩
    have:=quy hb2 (n:=29) (by omega) (by omega)
    show qyn y (qea 29 (H.set 29 _))
    rw[this]
    exact hb2
   .exact hL.elim
set_option maxHeartbeats 4000000
theorem ev500120(s:Ste)(hs:s.small):∃m,(m=3\/m=0)/\ev pg (.call (.fn 500120 [] []) [s.v] [])=some { v:=.sl 0 0 m 0 (qdn s).length,st:=⟨[],[⟨0,.arr m ((qdn s).map Evn.row)⟩]⟩ }:=by
 have hl1:=@z0u s hs
 have hl2:=@z0v s hs
 have z:qik 1 (qbn s 1) 0=[]:=rfl
 have z0:qik 0 (qbn s 0) 0=[]:=rfl
 unfold zsm at hl2
 unfold zsl at hl1
 rw[z,List.append_nil,<-qju]at hl2
 rw[z0]at hl1
 generalize qik 0 (qbn s 0) s.ends.length=B0 at *
 generalize qdn s=B at *
 have c0:L500120_0=L120_0:=rfl
 have c1:L500120_1=L120_1:=rfl
 simp only[qaa,pg500120]
 simp[ir500120,qah,c0,c1]
 generalize hr:ev pg (.code (.going _ L120_0) _)=o
 obtain⟨r,rfl,⟨g,m⟩,hm,f,hf,rfl⟩:∃r,o=some r/\_:=by rw[<-hr];exact hl1 (0,0) (.inr rfl) (by simp)
 clear hr
 have hmm:m=3\/m=0:=hm
 rcases hmm with rfl | rfl<;>simp[hf.ne]
 .generalize hr:ev pg (.code (.going _ L120_1) _)=o
  obtain⟨r,rfl,⟨g2,m2⟩,hm2,f2,hf2,rfl⟩:∃r,o=some r/\_:=by rw[<-hr];exact hl2 (g,3) (.inl rfl) (by simp[hf.ne])
  clear hr
  have hmm2:m2=3\/m2=0:=hm2
  rcases hmm2 with rfl | rfl<;>simp[qcl,qep,qee,qqy]
 .generalize hr:ev pg (.code (.going _ L120_1) _)=o
  obtain⟨r,rfl,⟨g2,m2⟩,hm2,f2,hf2,rfl⟩:∃r,o=some r/\_:=by rw[<-hr];exact hl2 (g,0) (.inr rfl) (by simp[hf.ne])
  clear hr
  have hmm2:m2=3\/m2=0:=hm2
  rcases hmm2 with rfl | rfl<;>simp[qcl,qep,qee,qqy]
abbrev jbx(s:Ste)(l:List Evn)(a:Nat×Nat):H:=[⟨0,.box s.cells⟩,⟨a.1,.arr a.2 (l.map Evn.row)⟩,o0]
def zsn(k n:Nat)(a:Nat×Nat):Tm:=[none,some (.bool true),bN 0,none,some (.sl 2 0 0 0 0),some (.sl 1 a.1 a.2 0 n),nN k]++zN 24
theorem zpa{s:Ste}{k:Nat}(hk:k<s.inputs.length):(qqa s).take (k+1)=(qqa s).take k++[⟨2,(k:Int),!s.inputs[k]⟩]:=by
 have h:k<(qqa s).length:=by simp[qqa,hk]
 rw[jK h]
 simp[qqa]
theorem jey(s:Ste)(hs:s.small)(B:List Evn)(hB:B.length<=8192){st:St}(a0:Nat×Nat)(g0:gm3 a0)(h0:At (zsn 0 B.length a0) (jbx s B a0) st) :
  ∃r,ev pg (.code (.going 3 L79_0) st)=some r/\∃a,gm3 a/\qas (.exit 0) (zsn s.inputs.length (B++qqa s).length a) (jbx s (B++qqa s) a) r:=by
 have hi:=hs.i
 have hT:(qqa s).take s.inputs.length=qqa s:=kB (by simp[qqa])
 refine qct s.inputs.length (fun k a=>zsn k (B++(qqa s).take k).length a) (fun k a=>jbx s (B++(qqa s).take k) a) (fun _ a=>gm3 a) _ ?_ ?_ a0 g0 (by simpa using h0)
 .rintro k ⟨g,m⟩ f hf hk hG
  have hk':(k:Int)<s.inputs.length:=by omega
  have wk:=qbb (k:=k) (by omega)
  have hsl:((qqa s).take k).length<=k:=List.length_take_le _ _
  unfold zsn
  rw[zpa hk]
  generalize (qqa s).take k=C at *
  have hb1:(B.length+(C.length+1))*24<=140737488355328:=by omega
  have hb2:(B.length+C.length+1)*24<=140737488355328:=by omega
  have hmm:m=3\/m=0:=hG
  rcases hmm with rfl | rfl<;>simp[L79_0,hk,hk',wk,hb1,hb2,hf.ne,Nat.add_assoc]
 .rintro⟨g,m⟩ f hf hG
  rw[hT]
  unfold zsn
  generalize qqa s=C at *
  have hmm:m=3\/m=0:=hG
  rcases hmm with rfl | rfl<;>simp[L79_0,hf.ne]
theorem ev79(s:Ste)(hs:s.small):ev pg (.call (.fn 79 [] []) [s.v,.bool true] [])=some { v:=evs (qdn s++qqa s),st:=⟨[],[]⟩ }:=by
 obtain⟨m,hm,e1⟩:=ev500120 s hs
 have hlen:(qdn s).length<=8192:=by
  rw[qju,jF]
  have:=qfa 0 (qbn s 0) s.ends.length
  have:=qfa 1 (qbn s 1) s.timers.length
  have:=hs.e
  have:=hs.t
  omega
 have q:=fun st=>jey s hs (qdn s) hlen (0,m) hm (st:=st)
 generalize qdn s=B at *
 generalize qqa s=C at *
 rw[qaa,pg79]
 simp[ir79,qah,e1]
 generalize hr:ev pg (.code (.going _ L79_0) _)=o
 obtain⟨r,rfl,⟨g,m2⟩,hm2,f,hf,rfl⟩:∃r,o=some r/\_:=by rw[<-hr];exact q _ (by simp[zsn])
 clear hr
 have hmm:m2=3\/m2=0:=hm2
 rcases hmm with rfl | rfl<;>simp[zsn]
abbrev jap(N:List (List Evn)):List (List V):=N.map fun l=>[evs l]
abbrev zaf(w:Ct×Ct)(p0:Ste×Ste)(s:Sr)(g:Nat):H:=[⟨0,.box w.1.cells⟩,⟨0,.box w.2.cells⟩,o0,o0,o0,⟨0,.box [.sl 2 0 0 0 0,.sl 3 0 0 0 0,.sl 4 0 0 0 0,.bool false]⟩,o0,o0,o0,o0,o0,o0,o0,o0,o0,o0,⟨0,.box (qbw p0)⟩,⟨g,.arr 10 (s.D.map qbw)⟩,⟨g,.arr 1 (jap s.N)⟩,o0,o0,o0,⟨0,.box [.sl 17 g 10 0 s.D.length,.sl 18 g 1 0 s.N.length,.sl 23 0 0 0 0,.bool false]⟩,o0]
def zcb(most:Int)(k:Nat)(v:V):Tm:=[none,none,nN most,bN 0,bN 1,none,bN 5,nN 0,none,none,none,bN 22,nN k]++zN 47++[some v]++zN 59
def qlb(most:Int)(k:Nat)(E:List Evn)(v:V)(j:Nat):Tm:=[none,none,nN most,bN 0,bN 1,none,bN 5,nN 0,none,none,none,bN 22,nN k]++zN 41++[some (evs E),nN E.length,nN j,none,none,none,some v]++zN 59
def q1g(z:q3u)(r:R):Prop:=r.x=.ret/\qai r.st.s 6=.bptr 5 0/\qai r.st.s 7=num z.2.2/\match (r.st.h[5]?:Option Ob)with
 | some ⟨_,.box [a,b,c,d]⟩=>qan r.st.h a=.imm []/\qan r.st.h b=.imm []/\qan r.st.h c=evs z.1/\d=.bool z.2.1
 | _=>False
theorem jfi(w:Ct×Ct)(hW:Wld w)(most:Int)(hm:most<=16384)(k:Nat)(p0 p:Ste×Ste)(E:List Evn)(hE:E.length<=100000)(j:Nat)(s:Sr)(g:Nat)(hs:SrOk w most s)(hp:s.D[k]?=some p)(x:Evn)(hx:E[j]?=some x)(v:V)(Y:H)(hY:Y=[]\/Y=[o0])(f:Nat->V)(hf:Junk f) :
  ∃r,ev pg (.code L96_0 ⟨fill f 0 (qlb most k E v j),zaf w p0 s g++Y⟩)=some r/\((qki w most k s x).2=none->r.x=.normal/\∃g' v',At (qlb most k E v' (j+1)) (zaf w p0 (qki w most k s x).1 g'++Y) (qsf (24+Y.length) r.st))/\(∀z,(qki w most k s x).2=some z->r.x ≠ .normal/\q1g z r):=by
 have hmem:p∈s.D:=jR hp
 obtain⟨hk,hpk⟩:=jG.1 hp
 obtain⟨hj,hxj⟩:=jG.1 hx
 have hkN:k<s.N.length:=by rw[hs.len];exact hk
 have hk':(k:Int)<s.D.length:=by omega
 have hkN':(k:Int)<s.N.length:=by omega
 have hj':(j:Int)<E.length:=by omega
 have wj:=qbb (k:=j) (by omega)
 have hlen:=hs.len
 have hmost:=hs.most
 have hrun:=hs.run k hkN
 have hb1:(s.D.length+1)*240<=140737488355328:=by omega
 have hb2:(s.N.length+1)*24<=140737488355328:=by omega
 have hb3:(s.N[k].length+1)*24<=140737488355328:=by omega
 have hb4:s.N[k].length*24<=140737488355328:=by omega
 have hNk:(s.N[k]?).getD []=s.N[k]:=by rw[jA hkN];rfl
 have e1:=ev70 w p (hs.lie p hmem) x
 have hlie:=q1n hW.toWS (p:=p) (x:=x)
 have e2:=fun h1 h2=>ev68 _ (hlie h1 h2).small ((hlie h1 h2).lens hW).1 ((hlie h1 h2).lens hW).2
 have hdd:=fun h1 h2=>(hlie h1 h2).dif
 have e4:=fun q=>ev78 s.D (by omega) (fun q hq=>(hs.lie q hq).small) q
 unfold qki
 rw[hp,hNk]
 simp only[Option.getD_some]
 unfold zdu at e1
 generalize qsc w p x=y at *
 obtain⟨q,b,e⟩:=y
 simp only at *
 by_cases he:e=0
 .subst he
  cases b with
  | true =>
   have e3:=e2 rfl rfl
   rw[hdd rfl rfl]
   have e5:=e4 q
   clear e2 hlie hdd e4
   cases hd:zps q with
   | true =>
    rw[hd]at e3
    rcases hY with rfl | rfl<;>simp[q1g,qlb,L96_0,qab,exT,qak,hj,hxj,hj',hk,hpk,hk',hkN,hkN',hb3,hb4,e1,e3,hf.ne]
   | false =>
    rw[hd]at e3
    cases hh:zhn s.D q with
    | true =>
     rw[hh]at e5
     have hgt:¬most<(s.D.length:Int):=by omega
     rcases hY with rfl | rfl<;>simp[qlb,L96_0,qab,exT,qak,hj,hxj,hj',hk,hpk,hk',hkN,hkN',hb3,hb4,e1,e3,e5,hgt,wj,hf.ne]
    | false =>
     rw[hh]at e5
     by_cases hM:(s.D.length:Int)=most
     .have hgt:most<most+1:=by omega
      rcases hY with rfl | rfl<;>simp[q1g,qlb,L96_0,qab,exT,qak,hj,hxj,hj',hk,hpk,hk',hkN,hkN',hb1,hb2,hb3,hb4,e1,e3,e5,hgt,hM,hf.ne]
     .have hgt:¬most<(s.D.length:Int)+1:=by omega
      rcases hY with rfl | rfl<;>simp[qlb,L96_0,qab,exT,qak,hj,hxj,hj',hk,hpk,hk',hkN,hkN',hb1,hb2,hb3,hb4,e1,e3,e5,hgt,hM,wj,hf.ne]
  | false =>
   rcases hY with rfl | rfl<;>simp[q1g,qlb,L96_0,qab,exT,qak,hj,hxj,hj',hk,hpk,hk',hkN,hkN',hb3,hb4,e1,hf.ne]
 .have heb:(e==0)=false:=by simpa using he
  rcases hY with rfl | rfl<;>simp[q1g,qlb,L96_0,qab,exT,qak,hj,hxj,hj',hk,hpk,hk',hkN,hkN',hb3,hb4,e1,he,heb,hf.ne]
end Go.Proofs.YtbepbclaoohngaaGreat
