/- Quiet, by the program. -/
import Derived.Test.YtbepbclaoohngaaGreatCBe2
import Derived.KernelRfl
set_option linter.all false
namespace Go.Proofs.YtbepbclaoohngaaGreat
open Go Go.Am Go.Proofs
set_option maxRecDepth 100000
def qul(c:Ct)(s:Ste):Bool:=((qch c s).map fun x=>qhh s x.1).getD false
theorem ev194{c:Ct}{s:Ste}(h:Rdy c s):ev pg (.call (.fn 194 [] []) [c.v,s.v] [])=some { v:=.bool (qul c s),st:=⟨[],[]⟩ }:=by
 have h83:=ev237 h
 unfold qul
 rw[qaa,pg194]
 cases hZ:qch c s with
 | none =>
  rw[hZ]at h83
  simp[qym]at h83
  simp[ir194,h83]
 | some x =>
  obtain⟨t,m⟩:=x
  have h20:=ev97 s t h.small
  rw[hZ]at h83
  simp[qym]at h83
  simp[ir194,h83,h20]
def zbb(c:Ct)(s:Ste):Bool×Int:=if stE c s=0 then(qul c s,0)else(false,stE c s)
def quE(c:Ct)(s:Ste):Int:=if stE c s=0 then(if qul c s=true then 0 else 14)else stE c s
theorem ev127(c:Ct)(s:Ste)(hfew:c.small=true)(hs:s.small):ev pg (.call (.fn 127 [] []) [c.v,s.v] [])=some { v:=num (quE c s),st:=⟨[],[]⟩ }:=by
 have h27:=ev193' c s hfew hs
 unfold quE
 rw[qaa,pg127]
 by_cases h:stE c s=0
 .have h48:=ev194 ⟨hfew,h⟩
  rw[if_pos h]
  rw[h]at h27
  cases hb:qul c s<;>rw[hb]at h48<;>simp[ir127,h27,h48]
 .rw[if_neg h]
  have hb:(stE c s==0)=false:=by simpa using h
  generalize stE c s=e at *
  simp[ir127,h27,h,hb]
abbrev evs(l:List Evn):V:=.imm (l.map Evn.row)
def qik(kd:Int)(p:Nat->Bool)(k:Nat):List Evn:=((List.range k).filter p).map fun(i:Nat)=>⟨kd,i,false⟩
theorem qro(kd:Int)(p:Nat->Bool)(k:Nat):qik kd p (k+1)=if p k=true then qik kd p k++[⟨kd,k,false⟩]else qik kd p k:=by
 unfold qik
 rw[List.range_succ,List.filter_append,List.map_append]
 cases h:p k<;>simp[h]
theorem qfa(kd:Int)(p:Nat->Bool)(k:Nat):(qik kd p k).length<=k:=by
 unfold qik
 rw[List.length_map]
 exact Nat.le_trans (List.length_filter_le _ _) (by simp)
theorem qju(s:Ste):qdn s=qik 0 (qbn s 0) s.ends.length++qik 1 (qbn s 1) s.timers.length:=rfl
abbrev h53(s:Ste)(l:List Evn)(a:Nat×Nat):H:=[⟨0,.box s.cells⟩,o0,⟨a.1,.arr a.2 (l.map Evn.row)⟩]
def zsl(s:Ste)(k:Nat)(a:Nat×Nat):Tm:=[none,bN 0,some (.sl 1 0 0 0 0),some (.sl 2 a.1 a.2 0 (qik 0 (qbn s 0) k).length),nN k]++zN 46
def zsm(s:Ste)(k:Nat)(a:Nat×Nat):Tm:=[none,bN 0,some (.sl 1 0 0 0 0),some (.sl 2 a.1 a.2 0 (qik 0 (qbn s 0) s.ends.length++qik 1 (qbn s 1) k).length),none,nN k]++zN 45
abbrev gm3(a:Nat×Nat):Prop:=a.2=3\/a.2=0
theorem z0u(s:Ste)(hs:s.small){st:St}(a0:Nat×Nat)(g0:gm3 a0)(h0:At (zsl s 0 a0) (h53 s (qik 0 (qbn s 0) 0) a0) st):∃r,ev pg (.code (.going 3 L120_0) st)=some r/\∃a,gm3 a/\qas (.exit 0) (zsl s s.ends.length a) (h53 s (qik 0 (qbn s 0) s.ends.length) a) r:=by
 have hse:=hs.e
 refine qct s.ends.length (zsl s) (fun k a=>h53 s (qik 0 (qbn s 0) k) a) (fun _ a=>gm3 a) _ ?_ ?_ a0 g0 h0
 .rintro k ⟨g,m⟩ f hf hk hG
  have hk':(k:Int)<s.ends.length:=by omega
  have wk:=qbb (k:=k) (by omega)
  have hsl:=qfa 0 (qbn s 0) k
  have hp:qbn s 0 k=(s.ends[k]==1||s.ends[k]==3):=by
   unfold qbn;rw[if_pos rfl,jA hk];rfl
  unfold zsl h53
  rw[qro,hp]
  generalize qik 0 (qbn s 0) k=B at *
  have hb1:(B.length+1)*24<=140737488355328:=by omega
  have hmm:m=3\/m=0:=hG
  by_cases h1:s.ends[k]=1
  .rcases hmm with rfl | rfl<;>simp[L120_0,hk,hk',wk,h1,hb1,hf.ne]
  .have h1b:(s.ends[k]==1)=false:=by simpa using h1
   by_cases h3:s.ends[k]=3
   .rcases hmm with rfl | rfl<;>simp[L120_0,hk,hk',wk,h3,hb1,hf.ne]
   .have h3b:(s.ends[k]==3)=false:=by simpa using h3
    rcases hmm with rfl | rfl<;>simp[L120_0,hk,hk',wk,h1,h1b,h3,h3b,hf.ne]
 .rintro⟨g,m⟩ f hf hG
  unfold zsl h53
  generalize qik 0 (qbn s 0) s.ends.length=B at *
  have hmm:m=3\/m=0:=hG
  rcases hmm with rfl | rfl<;>simp[L120_0,hf.ne]
theorem z0v(s:Ste)(hs:s.small){st:St}(a0:Nat×Nat)(g0:gm3 a0)(h0:At (zsm s 0 a0) (h53 s (qik 0 (qbn s 0) s.ends.length++qik 1 (qbn s 1) 0) a0) st):∃r,ev pg (.code (.going 3 L120_1) st)=some r/\∃a,gm3 a/\qas (.exit 2) (zsm s s.timers.length a) (h53 s (qdn s) a) r:=by
 have hse:=hs.e
 have hst:=hs.t
 rw[qju]
 refine qct s.timers.length (zsm s) (fun k a=>h53 s (qik 0 (qbn s 0) s.ends.length++qik 1 (qbn s 1) k) a) (fun _ a=>gm3 a) _ ?_ ?_ a0 g0 h0
 .rintro k ⟨g,m⟩ f hf hk hG
  have hk':(k:Int)<s.timers.length:=by omega
  have wk:=qbb (k:=k) (by omega)
  have hsl:=qfa 1 (qbn s 1) k
  have hsl0:=qfa 0 (qbn s 0) s.ends.length
  have hp:qbn s 1 k=(s.timers[k]==1):=by
   unfold qbn;rw[if_neg (by omega),jA hk];rfl
  unfold zsm h53
  rw[qro,hp]
  generalize qik 0 (qbn s 0) s.ends.length=B0 at *
  generalize qik 1 (qbn s 1) k=B at *
  have hb1:(B0.length+(B.length+1))*24<=140737488355328:=by omega
  have hmm:m=3\/m=0:=hG
  by_cases h1:s.timers[k]=1
  .rcases hmm with rfl | rfl<;>simp[L120_1,hk,hk',wk,h1,hb1,hf.ne,Nat.add_assoc]
  .have h1b:(s.timers[k]==1)=false:=by simpa using h1
   rcases hmm with rfl | rfl<;>simp[L120_1,hk,hk',wk,h1,h1b,hf.ne]
 .rintro⟨g,m⟩ f hf hG
  unfold zsm h53
  generalize qik 0 (qbn s 0) s.ends.length++qik 1 (qbn s 1) s.timers.length=B at *
  have hmm:m=3\/m=0:=hG
  rcases hmm with rfl | rfl<;>simp[L120_1,hf.ne]
theorem ev120(s:Ste)(hs:s.small):ev pg (.call (.fn 120 [] []) [s.v] [])=some { v:=evs (qdn s),st:=⟨[],[]⟩ }:=by
 have hl1:=@z0u s hs
 have hl2:=@z0v s hs
 have z:qik 1 (qbn s 1) 0=[]:=rfl
 have z0:qik 0 (qbn s 0) 0=[]:=rfl
 unfold zsm at hl2
 unfold zsl at hl1
 rw[z,List.append_nil,<-qju]at hl2
 rw[z0]at hl1
 generalize qik 0 (qbn s 0) s.ends.length=B0 at *
 generalize qdn s=B at *
 rw[qaa,pg120]
 simp[ir120,qah]
 generalize hr:ev pg (.code (.going _ L120_0) _)=o
 obtain⟨r,rfl,⟨g,m⟩,hm,f,hf,rfl⟩:∃r,o=some r/\_:=by rw[<-hr];exact hl1 (0,0) (.inr rfl) (by simp)
 clear hr
 have hmm:m=3\/m=0:=hm
 rcases hmm with rfl | rfl<;>simp[hf.ne]
 .generalize hr:ev pg (.code (.going _ L120_1) _)=o
  obtain⟨r,rfl,⟨g2,m2⟩,hm2,f2,hf2,rfl⟩:∃r,o=some r/\_:=by rw[<-hr];exact hl2 (g,3) (.inl rfl) (by simp[hf.ne])
  clear hr
  have hmm2:m2=3\/m2=0:=hm2
  rcases hmm2 with rfl | rfl<;>simp
 .generalize hr:ev pg (.code (.going _ L120_1) _)=o
  obtain⟨r,rfl,⟨g2,m2⟩,hm2,f2,hf2,rfl⟩:∃r,o=some r/\_:=by rw[<-hr];exact hl2 (g,0) (.inr rfl) (by simp[hf.ne])
  clear hr
  have hmm2:m2=3\/m2=0:=hm2
  rcases hmm2 with rfl | rfl<;>simp
def qmm(c:Ct)(s:Ste):List Evn×Int:=if quE c s=0 then(qdn s,0)else([],quE c s)
theorem zdr{N:Nat}{l m:List Int}:norm N (l++norm N m)=norm N (l++m) :=
 qzw fun x h1 h2=>by rw[jQ,jQ,qll];exact⟨fun a=>a.elim .inl (fun b=>.inr b.1),fun a=>a.elim .inl (fun b=>.inr ⟨b,h1,h2⟩)⟩
theorem qxs{c:Ct}{s:Ste}:qch c s=none<->qca c s=none:=by
 unfold qch
 cases qca c s<;>simp
abbrev h16(c:Ct)(k:Nat)(a:Ste×List Int):H:=[⟨0,.box c.cells⟩,⟨0,.box a.1.cells⟩,o0,o0,o0,o0,o0,⟨0,.box (q3v 2)⟩,o0,ob0 k]
def T16(k:Nat)(a:Ste×List Int):Tm:=[none,none,bN 0,bN 1,bN 7,some (.sl 8 0 0 0 0),nN 0,none,some (sl0 k a.2),none,none,none,none,none,none,none,none,none,none,nN k]++zN 23
def z4j(m:List Int):Tm:=[none,none,none,none,bN 7,some (qeh m),nN 0]++zN 36
abbrev jgx(c:Ct)(k:Nat)(s t:Ste):H:=[⟨0,.box c.cells⟩,⟨0,.box s.cells⟩,o0,o0,o0,o0,o0,⟨0,.box (q3v 16)⟩,o0,ob0 k,o0,o0,o0,o0,o0,⟨0,.box t.cells⟩,o0,o0,o0,o0,o0]
def jbc:Tm:=[none,none,none,none,bN 7,some .nils,nN 21]++zN 36
def zsa(c:Ct)(Z:Option (Ste×List Int))(r:R):Prop:=match Z with
 | some (t,m)=>qas .ret (z4j m) (jfy c t) r
 | none=>(∃k s t,qas .ret jbc (jgx c k s t) r)\/∃a,qas (.exit 0) (T16 65 a) (h16 c 65 a) r
theorem zlw{c:Ct}{t:Ste}{m:List Int}(hm:Lin (qac c c.act.toNat) m):∀x∈m++qml c t,0<=x/\x<(qpb c:Nat):=by
 intro x hx
 rcases jQ.1 hx with h | h
 .exact(hm.mono (by unfold qpb;omega)).b x h
 .exact(qvv c t).b x h
set_option maxHeartbeats 1000000 in
theorem jhb{c:Ct}{s:Ste}(hs:Rdy c s){st:St}(h0:At (T16 0 (s,[])) (h16 c 0 (s,[])) st):∃r,ev pg (.code (.going 10 L89_0) st)=some r/\zsa c (qid c s) r:=by
 generalize hR:qid c s=Z
 refine qct 65 T16 (h16 c) (G86 c Z) _ ?_ ?_ (s,[]) ⟨hR,hs,Lin.nil _,fun _=>rfl⟩ h0
 .rintro k ⟨t,l⟩ f hf hk hG
  have hgo:=hG.go
  have hrd:=hG.rdy
  have hl:=hG.lin
  have hn:=hG.nil
  simp only at hgo hrd hl hn
  have hk':(k:Int)<65:=by omega
  have wk:=qbb (k:=k) (by omega)
  have w1:IntKind.i64.wrap 1=1:=by decide
  have hN:=qvn hrd.mid
  rw[show 65-k=(64-k)+1 by omega,qfu]at hgo
  cases hZ:qca c t with
  | none =>
   have e46:=ev148_none hrd hZ
   rw[qxs.2 hZ]at hgo
   simp only at hgo
   subst hgo
   simp[T16,L89_0,hk',e46,hf.ne]
   exact .inl ⟨k,t,zeroS,by simp[jbc,hf.ne,zeroS,zrt]⟩
  | some x =>
   obtain⟨v,m⟩:=x
   have e46:=ev148_some hrd hZ
   have hrv:qch c t=some (qkb (qgs c v),norm (qpb c) (m++qml c v)):=by unfold qch;rw[hZ];rfl
   rw[hrv]at hgo
   simp only at hgo
   have hru:=hrd.round hrv
   have hml:=qpu hZ
   have hin:=zlw (t:=v) hml
   have hmn:=hml.len
   have hcn:=(qvv c v).len
   have hln:=hl.len
   have e54:=ev94 (qpb c) l (m++qml c v) (by omega) (by simp;unfold qpb at hN hcn;omega) (fun x hx=>(jQ.1 hx).elim (hl.b x) (hin x))
   rw[zdr]at hgo
   have hl':Lin (qpb c) (norm (qpb c) (l++(m++qml c v))):=Lin.norm _ _
   have e47:=ev149 (qkb (qgs c v)) t hru.small
   rw[qku]at e47
   generalize norm (qpb c) (l++(m++qml c v))=p at *
   generalize m++qml c v=q at *
   generalize qkb (qgs c v)=u at *
   by_cases hst:qhh t u=true
   .rw[if_pos hst]at hgo
    rw[hst]at e47
    subst hgo
    obtain rfl:=qgr.1 hst
    unfold T16 sl0 h16 ob0
    by_cases hk0:k=0
    .subst hk0
     rw[hn rfl]at e54
     have e54':ev pg (.call (.fn 94 [] []) [.imm [],qeh q] [])=_:=e54
     simp[L89_0,e46,e54',e47,hf.ne]
     simp[zsa,z4j,hf.ne]
    .simp[L89_0,hk0,hk',e46,e54,e47,hf.ne]
     simp[zsa,z4j,hf.ne]
   .have hsf:qhh t u=false:=by simpa using hst
    rw[if_neg hst]at hgo
    rw[hsf]at e47
    have hG':G86 c Z (k+1) (u,p):=⟨by rw[<-hgo,show 65-(k+1)=64-k by omega],hru,hl',by omega⟩
    unfold T16 sl0 h16 ob0
    by_cases hk0:k=0
    .subst hk0
     rw[hn rfl]at e54
     have e54':ev pg (.call (.fn 94 [] []) [.imm [],qeh q] [])=_:=e54
     simp[L89_0,e46,e54',e47,w1,hf.ne]
     exact⟨u,p,hG',by simp⟩
    .simp[L89_0,hk0,hk',wk,e46,e54,e47,hf.ne]
     exact⟨u,p,hG',by simp⟩
 .rintro⟨t,l⟩ f hf hG
  have hgo:=hG.go
  simp only[Nat.sub_self,qfu]at hgo
  subst hgo
  simp[T16,L89_0]
  exact .inr ⟨(t,l),by simp[T16,hf.ne]⟩
theorem ev89(c:Ct)(s:Ste)(hfew:c.small=true)(hs:s.small):ev pg (.call (.fn 89 [] []) [c.v,s.v] [])=some { v:=q7b (qpq c s),st:=⟨[],[]⟩ }:=by
 have e45:=ev147 c s hfew hs
 unfold qpq
 rw[qaa,pg89]
 by_cases h:stE c s=0
 .have hl:=@jhb c s ⟨hfew,h⟩
  rw[if_pos h]
  rw[h]at e45
  unfold qhg
  generalize qid c s=Z at *
  simp[ir89,e45,qah]
  generalize hr:ev pg (.code (.going _ L89_0) _)=o
  obtain⟨r,rfl,hQ⟩:∃r,o=some r/\_:=by rw[<-hr];exact hl (by simp[T16,sl0,ob0])
  clear hr
  cases Z with
  | none =>
   rcases hQ with⟨k,s,t,f,hf,rfl⟩ | ⟨⟨s,l⟩,f,hf,rfl⟩
   .simp[jbc,zeroS]
   .simp[T16,zeroS,ob0]
  | some p =>
   obtain⟨t,m⟩:=p
   obtain⟨f,hf,rfl⟩:=hQ
   simp[z4j]
 .rw[if_neg h]
  have hb:(stE c s==0)=false:=by simpa using h
  generalize stE c s=e at *
  simp[ir89,e45,h,hb,zeroS]
theorem ev150(c:Ct)(s:Ste)(hfew:c.small=true)(hs:s.small):ev pg (.call (.fn 150 [] []) [c.v,s.v] [])=some { v:=.tup [.bool (zbb c s).1,num (zbb c s).2],st:=⟨[],[]⟩ }:=by
 have e45:=ev147 c s hfew hs
 unfold zbb
 rw[qaa,pg150]
 by_cases h:stE c s=0
 .have hR:Rdy c s:=⟨hfew,h⟩
  rw[if_pos h]
  rw[h]at e45
  unfold qul
  cases hZ:qca c s with
  | none =>
   have e46:=ev148_none hR hZ
   rw[qxs.2 hZ]
   simp[ir150,e45,e46,zeroS]
  | some x =>
   obtain⟨v,m⟩:=x
   have e46:=ev148_some hR hZ
   have hrv:qch c s=some (qkb (qgs c v),norm (qpb c) (m++qml c v)):=by unfold qch;rw[hZ];rfl
   have e47:=ev149 (qkb (qgs c v)) s (hR.round hrv).small
   rw[qku]at e47
   rw[hrv]
   simp only[Option.map_some,Option.getD_some]
   generalize qhh s (qkb (qgs c v))=b at *
   generalize qkb (qgs c v)=u at *
   simp[ir150,e45,e46,e47]
 .rw[if_neg h]
  have hb:(stE c s==0)=false:=by simpa using h
  generalize stE c s=e at *
  simp[ir150,e45,h,hb]
theorem ev90(c:Ct)(s:Ste)(hfew:c.small=true)(hs:s.small):ev pg (.call (.fn 90 [] []) [c.v,s.v] [])=some { v:=num (quE c s),st:=⟨[],[]⟩ }:=by
 have e11:=ev150 c s hfew hs
 unfold zbb at e11
 unfold quE
 rw[qaa,pg90]
 by_cases h:stE c s=0
 .rw[if_pos h]at e11 ⊢
  simp only at e11
  cases hb:qul c s<;>rw[hb]at e11<;>simp[ir90,e11]
 .rw[if_neg h]at e11 ⊢
  simp only at e11
  have hb:(stE c s==0)=false:=by simpa using h
  generalize stE c s=e at *
  simp[ir90,e11,h,hb]
abbrev jgi:List V:=[.sl 5 0 0 0 0,.fn 245 [] [.bptr 2 0],.bptr 4 0,.undef,.sl 6 0 0 0 0,.undef,.fn 245 [] [.bptr 2 0],.undef,.undef,.undef,.undef,.undef,.undef]
abbrev Mp(c:Ct)(s:Ste)(l:List Evn)(a:Nat×Nat):H:=[⟨0,.box c.cells⟩,⟨0,.box s.cells⟩,⟨0,.box s.cells⟩,⟨a.1,.arr a.2 (l.map Evn.row)⟩,⟨0,.box [.sl 3 a.1 a.2 0 l.length]⟩,o0,o0,⟨0,.loop jgi [7] L244_0 L244_1 none⟩]
theorem z3q(c:Ct)(s:Ste)(l:List Evn)(a:Nat×Nat)(ha:gm3 a)(hl:l.length<=100000)(x:Evn):ev pg (.call (.yld 7) [.agg x.row] (Mp c s l a))=some { v:=.bool true,st:=⟨[],Mp c s (l++[x]) (a.1+1,3)⟩ }:=by
 obtain⟨g,m⟩:=a
 have hb:(l.length+1)*24<=140737488355328:=by omega
 have hmm:m=3\/m=0:=ha
 rw[qia]
 rcases hmm with rfl | rfl<;>simp[qci,L244_0,L244_1,hb]
def zsr(s:Ste)(k:Nat):Tm:=[some (.yld 7),bN 2,none,none,none,none,none,none,some (qeh s.ends),some (num s.ends.length),nN k]++zN 36
def zld(s:Ste)(k:Nat):Tm:=[some (.yld 7),bN 2]++zN 28++[some (qeh s.timers),some (num s.timers.length),nN k]++zN 14
theorem jez(c:Ct)(s:Ste)(hs:s.small){st:St}(a0:Nat×Nat)(g0:gm3 a0)(h0:At (zsr s 0) (Mp c s (qik 0 (qbn s 0) 0) a0) st):∃r,ev pg (.code (.going 8 L245_0) st)=some r/\∃a,gm3 a/\qas (.exit 0) (zsr s s.ends.length) (Mp c s (qik 0 (qbn s 0) s.ends.length) a) r:=by
 have hse:=hs.e
 refine qct s.ends.length (fun k _=>zsr s k) (fun k a=>Mp c s (qik 0 (qbn s 0) k) a) (fun _ a=>gm3 a) _ ?_ ?_ a0 g0 h0
 .rintro k a f hf hk hG
  have hk':(k:Int)<s.ends.length:=by omega
  have wk:=qbb (k:=k) (by omega)
  have hsl:=qfa 0 (qbn s 0) k
  have hp:qbn s 0 k=(s.ends[k]==1||s.ends[k]==3):=by
   unfold qbn;rw[if_pos rfl,jA hk];rfl
  have hy:=z3q c s (qik 0 (qbn s 0) k) a hG (by omega) ⟨0,k,false⟩
  have hG':gm3 (a.1+1,3):=.inl rfl
  have hGa:gm3 a:=hG
  rw[qro,hp]
  generalize qik 0 (qbn s 0) k=B at *
  unfold zsr
  obtain⟨g,m⟩:=a
  have hmm:m=3\/m=0:=hGa
  by_cases h1:s.ends[k]=1
  .rcases hmm with rfl | rfl<;>simp[L245_0,hk,hk',wk,h1,hy,hf.ne]
  .have h1b:(s.ends[k]==1)=false:=by simpa using h1
   by_cases h3:s.ends[k]=3
   .rcases hmm with rfl | rfl<;>simp[L245_0,hk,hk',wk,h3,hy,hf.ne]
   .have h3b:(s.ends[k]==3)=false:=by simpa using h3
    rcases hmm with rfl | rfl<;>simp[L245_0,hk,hk',wk,h1,h1b,h3,h3b,hf.ne]
 .rintro⟨g,m⟩ f hf hG
  unfold zsr
  generalize qik 0 (qbn s 0) s.ends.length=B at *
  have hmm:m=3\/m=0:=hG
  rcases hmm with rfl | rfl<;>simp[L245_0,hf.ne]
theorem jfa(c:Ct)(s:Ste)(hs:s.small){st:St}(a0:Nat×Nat)(g0:gm3 a0)(h0:At (zld s 0) (Mp c s (qik 0 (qbn s 0) s.ends.length++qik 1 (qbn s 1) 0) a0) st):∃r,ev pg (.code (.going 8 L245_1) st)=some r/\∃a,gm3 a/\qas (.exit 2) (zld s s.timers.length) (Mp c s (qdn s) a) r:=by
 have hse:=hs.e
 have hst:=hs.t
 rw[qju]
 refine qct s.timers.length (fun k _=>zld s k) (fun k a=>Mp c s (qik 0 (qbn s 0) s.ends.length++qik 1 (qbn s 1) k) a) (fun _ a=>gm3 a) _ ?_ ?_ a0 g0 h0
 .rintro k a f hf hk hG
  have hk':(k:Int)<s.timers.length:=by omega
  have wk:=qbb (k:=k) (by omega)
  have hsl:=qfa 1 (qbn s 1) k
  have hsl0:=qfa 0 (qbn s 0) s.ends.length
  have hp:qbn s 1 k=(s.timers[k]==1):=by
   unfold qbn;rw[if_neg (by omega),jA hk];rfl
  have hy:=z3q c s (qik 0 (qbn s 0) s.ends.length++qik 1 (qbn s 1) k) a hG (by simp;omega) ⟨1,k,false⟩
  have hGa:gm3 a:=hG
  rw[qro,hp]
  generalize qik 0 (qbn s 0) s.ends.length=B0 at *
  generalize qik 1 (qbn s 1) k=B at *
  unfold zld
  obtain⟨g,m⟩:=a
  have hmm:m=3\/m=0:=hGa
  by_cases h1:s.timers[k]=1
  .rcases hmm with rfl | rfl<;>simp[L245_1,hk,hk',wk,h1,hy,Nat.add_assoc,hf.ne]
  .have h1b:(s.timers[k]==1)=false:=by simpa using h1
   rcases hmm with rfl | rfl<;>simp[L245_1,hk,hk',wk,h1,h1b,hf.ne]
 .rintro⟨g,m⟩ f hf hG
  unfold zld
  generalize qik 0 (qbn s 0) s.ends.length++qik 1 (qbn s 1) s.timers.length=B at *
  have hmm:m=3\/m=0:=hG
  rcases hmm with rfl | rfl<;>simp[L245_1,hf.ne]
theorem ev245(c:Ct)(s:Ste)(hs:s.small):∃a,gm3 a/\ev pg (.call (.fn 245 [] [.bptr 2 0]) [.yld 7] (Mp c s [] (0,0)))=some { v:=.tup [],st:=⟨[],Mp c s (qdn s) a⟩ }:=by
 have hl1:=@jez c s hs
 have hl2:=@jfa c s hs
 have z:qik 1 (qbn s 1) 0=[]:=rfl
 have z0:qik 0 (qbn s 0) 0=[]:=rfl
 rw[z,List.append_nil]at hl2
 rw[z0]at hl1
 generalize qik 0 (qbn s 0) s.ends.length=B0 at *
 generalize qdn s=B at *
 have key:∃r a,ev pg (.call (.fn 245 [] [.bptr 2 0]) [.yld 7] (Mp c s [] (0,0)))=some r/\gm3 a/\r={ v:=.tup [],st:=⟨[],Mp c s B a⟩ }:=by
  rw[qaa,pg245]
  simp[ir245,qah]
  generalize hr:ev pg (.code (.going _ L245_0) _)=o
  obtain⟨r,rfl,⟨g,m⟩,hm,f,hf,rfl⟩:∃r,o=some r/\_:=by rw[<-hr];exact hl1 (0,0) (.inr rfl) (by simp[zsr])
  clear hr
  have hmm:m=3\/m=0:=hm
  rcases hmm with rfl | rfl<;>simp[zsr,hf.ne]
  .generalize hr:ev pg (.code (.going _ L245_1) _)=o
   obtain⟨r,rfl,⟨g2,m2⟩,hm2,f2,hf2,rfl⟩:∃r,o=some r/\_:=by rw[<-hr];exact hl2 (g,3) (.inl rfl) (by simp[zld,hf.ne])
   clear hr
   have hmm2:m2=3\/m2=0:=hm2
   rcases hmm2 with rfl | rfl<;>simp[zld]
   all_goals first | exact⟨g2,3,.inl rfl,by simp⟩ | exact⟨g2,0,.inr rfl,by simp⟩
  .generalize hr:ev pg (.code (.going _ L245_1) _)=o
   obtain⟨r,rfl,⟨g2,m2⟩,hm2,f2,hf2,rfl⟩:∃r,o=some r/\_:=by rw[<-hr];exact hl2 (g,0) (.inr rfl) (by simp[zld,hf.ne])
   clear hr
   have hmm2:m2=3\/m2=0:=hm2
   rcases hmm2 with rfl | rfl<;>simp[zld]
   all_goals first | exact⟨g2,3,.inl rfl,by simp⟩ | exact⟨g2,0,.inr rfl,by simp⟩
 obtain⟨r,a,e,ha,rfl⟩:=key
 exact⟨a,ha,e⟩
theorem ev244(c:Ct)(s:Ste)(hs:s.small):ev pg (.call (.fn 244 [] []) [.nils,.fn 245 [] [.bptr 2 0]] [⟨0,.box c.cells⟩,⟨0,.box s.cells⟩,⟨0,.box s.cells⟩])=some { v:=evs (qdn s),st:=⟨[],[⟨0,.box c.cells⟩,⟨0,.box s.cells⟩,⟨0,.box s.cells⟩]⟩ }:=by
 obtain⟨⟨g,m⟩,hm,e85⟩:=ev245 c s hs
 generalize qdn s=B at *
 have hmm:m=3\/m=0:=hm
 have e85':ev pg (.call (.fn 245 [] [.bptr 2 0]) [.yld 7] [⟨0,.box c.cells⟩,⟨0,.box s.cells⟩,⟨0,.box s.cells⟩,o0,⟨0,.box [.sl 3 0 0 0 0]⟩,o0,o0,⟨0,.loop jgi [7] L244_0 L244_1 none⟩])=_:=e85
 rw[qaa,pg244]
 rcases hmm with rfl | rfl<;>simp[ir244,qgl,e85']
theorem ev202(c:Ct)(s:Ste)(hs:s.small):ev pg (.call (.fn 202 [] []) [.fn 245 [] [.bptr 2 0]] [⟨0,.box c.cells⟩,⟨0,.box s.cells⟩,⟨0,.box s.cells⟩])=some { v:=evs (qdn s),st:=⟨[],[⟨0,.box c.cells⟩,⟨0,.box s.cells⟩,⟨0,.box s.cells⟩]⟩ }:=by
 have e84:=ev244 c s hs
 generalize qdn s=B at *
 rw[qaa,pg202]
 simp[ir202,e84]
theorem ev203(c:Ct)(s:Ste):ev pg (.call (.fn 203 [] []) [s.v] [⟨0,.box c.cells⟩,⟨0,.box s.cells⟩])=some { v:=.fn 245 [] [.bptr 2 0],st:=⟨[],[⟨0,.box c.cells⟩,⟨0,.box s.cells⟩,⟨0,.box s.cells⟩]⟩ }:=by
 rw[qaa,pg203]
 simp[ir203]
theorem ev132(c:Ct)(s:Ste)(hfew:c.small=true)(hs:s.small):ev pg (.call (.fn 132 [] []) [c.v,s.v] [])=some { v:=.tup [evs (qmm c s).1,num (qmm c s).2],st:=⟨[],[]⟩ }:=by
 have e49:=ev90 c s hfew hs
 have e50:=ev202 c s hs
 have e51:=ev203 c s
 unfold qmm
 rw[qaa,pg132]
 by_cases h:quE c s=0
 .rw[if_pos h]
  rw[h]at e49
  generalize qdn s=p at *
  simp[ir132,e49,e50,e51]
 .rw[if_neg h]
  have hb:(quE c s==0)=false:=by simpa using h
  generalize quE c s=e at *
  simp[ir132,e49,h,hb]
end Go.Proofs.YtbepbclaoohngaaGreat
