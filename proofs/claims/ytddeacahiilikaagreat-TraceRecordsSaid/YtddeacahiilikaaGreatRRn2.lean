/- Strokes that are begun, and a run, by the reference. -/
import Derived.Test.YtddeacahiilikaaGreatRAf1
import Derived.KernelRfl
set_option linter.all false
namespace Go.Proofs.YtddeacahiilikaaGreat
open Go Go.Am Go.Proofs
set_option maxRecDepth 100000
abbrev qth(p:Int×Bool):List V:=[num p.1,.bool p.2]
abbrev zon(l:List (Int×Bool)):V:=.imm (l.map qth)
def qek(a b:Ste)(k:Nat):List (Int×Bool):=(List.range k).filterMap (qpj a b)
theorem qpk(a b:Ste)(k:Nat):qek a b (k+1)=qek a b k++(match qpj a b k with | some p=>[p] | none=>[]):=by
 unfold qek
 rw[List.range_succ,List.filterMap_append]
 cases h:qpj a b k<;>simp[h]
theorem qmb(a b:Ste)(k:Nat):(qek a b k).length<=k:=by
 unfold qek
 exact Nat.le_trans (List.length_filterMap_le _ _) (by simp)
theorem qxy(a b:Ste):qdm a b=qek a b a.ends.length:=rfl
abbrev gm2(a:Nat×Nat):Prop:=a.2=2\/a.2=0
abbrev h64(x y:Ste)(k:Nat)(a:Nat×Nat):H:=[⟨0,.box x.cells⟩,⟨0,.box y.cells⟩,o0,⟨a.1,.arr a.2 ((qek x y k).map qth)⟩]
def T64(x y:Ste)(k:Nat)(a:Nat×Nat):Tm:=[none,none,some (.bptr 0 0),some (.bptr 1 0),some (.sl 2 0 0 0 0),some (.sl 3 a.1 a.2 0 (qek x y k).length),some (num k)]++List.replicate 46 none
set_option maxHeartbeats 1000000 in
theorem z3u(x y:Ste)(hs:x.small)(he:y.ends.length=x.ends.length){st:St}(a0:Nat×Nat)(g0:gm2 a0)(h0:At (T64 x y 0 a0) (h64 x y 0 a0) st):∃r,ev pg (.code (.going 4 L94_0) st)=some r/\∃a,gm2 a/\qaj (.exit 0) (T64 x y x.ends.length a) (h64 x y x.ends.length a) r:=by
 have hse:=hs.e
 refine qci x.ends.length (T64 x y) (h64 x y) (fun _ a=>gm2 a) _ ?_ ?_ a0 g0 h0
 .rintro k ⟨g,m⟩ f hf hk hG
  have hk':(k:Int)<x.ends.length:=by omega
  have hk2:k<y.ends.length:=by omega
  have wk:=qab (n:=(k:Int)+1) (by omega) (by omega)
  have hsl:=qmb x y k
  have hp:qpj x y k=if(y.ends[k]=1\/y.ends[k]=3)/\x.ends[k]≠y.ends[k]then some ((k:Int),y.ends[k]==1)else none:=by
   unfold qpj
   rw[jA hk,jA hk2]
  unfold T64 h64
  rw[qpk,hp]
  generalize qek x y k=B at *
  have hb1:(B.length+1)*16<=140737488355328:=by omega
  have hmm:m=2\/m=0:=hG
  by_cases h1:y.ends[k]=1
  .by_cases h2:x.ends[k]=1
   .rcases hmm with rfl | rfl<;>simp[qaa,exT,qae,L94_0,hk,hk',hk2,wk,h1,h2,hb1,hf.ne]
   .have h2b:(x.ends[k]==1)=false:=by simpa using h2
    rcases hmm with rfl | rfl<;>simp[qaa,exT,qae,L94_0,hk,hk',hk2,wk,h1,h2,h2b,hb1,hf.ne]
  .have h1b:(y.ends[k]==1)=false:=by simpa using h1
   by_cases h3:y.ends[k]=3
   .by_cases h2:x.ends[k]=3
    .rcases hmm with rfl | rfl<;>simp[qaa,exT,qae,L94_0,hk,hk',hk2,wk,h3,h2,hb1,hf.ne]
    .have h2b:(x.ends[k]==3)=false:=by simpa using h2
     rcases hmm with rfl | rfl<;>simp[qaa,exT,qae,L94_0,hk,hk',hk2,wk,h3,h2,h2b,hb1,hf.ne]
   .have h3b:(y.ends[k]==3)=false:=by simpa using h3
    rcases hmm with rfl | rfl<;>simp[qaa,exT,qae,L94_0,hk,hk',hk2,wk,h1,h1b,h3,h3b,hf.ne]
 .rintro⟨g,m⟩ f hf hG
  unfold T64 h64
  generalize qek x y x.ends.length=B at *
  have hmm:m=2\/m=0:=hG
  rcases hmm with rfl | rfl<;>simp[L94_0,hf.ne]
theorem ev94(x y:Ste)(hs:x.small)(he:y.ends.length=x.ends.length):∃w,(w=2\/w=0)/\ev pg (.call (.fn 94 [] []) [x.v,y.v] [])=some { v:=.sl 0 0 w 0 (qdm x y).length,st:=⟨[],[⟨0,.arr w ((qdm x y).map qth)⟩]⟩ }:=by
 have hl:=@z3u x y hs he
 have z0:qek x y 0=[]:=rfl
 unfold h64 T64 at hl
 rw[z0,<-qxy]at hl
 generalize qdm x y=B at *
 rw[qac,pg94]
 simp[ir94,qaf]
 generalize hr:ev pg (.code (.going _ L94_0) _)=o
 obtain⟨r,rfl,⟨g,m⟩,hm,f,hf,rfl⟩:∃r,o=some r/\_:=by rw[<-hr];exact hl (0,0) (.inr rfl) (by simp)
 clear hr
 have hmm:m=2\/m=0:=hm
 rcases hmm with rfl | rfl
 .left;simp[qbv,qdq,qhy,qdl]
 .right;simp[qbv,qdq,qhy,qdl]
theorem quq{c:Ct}:∀{d:Nat} {s:Ste} {l:List Int} {t:Ste} {m:List Int},qha c d s l=some (t,m)->Lin (qhn c) m
 | 0,_,_,_,_,h=>by cases h
 | d+1,s,l,t,m,h=>by
  rw[qha]at h
  cases e:qcw c s with
  | none=>rw[e]at h;cases h
  | some x =>
   rw[e]at h
   simp only at h
   split at h
   .cases h;exact Lin.norm _ _
   .exact quq h
theorem zad(c:Ct)(s:Ste):Lin (qhn c) (qkg c s).2.1:=by
 unfold qkg
 cases e:qjs c s with
 | none=>exact Lin.nil _
 | some x=>exact quq (show qha c 65 s []=some (x.1,x.2)from e)
theorem qti(c:Ct)(s:Ste)(x:Evn):Lin (qhn c) (qbr c s x).2.1:=by
 unfold qbr
 split
 .exact Lin.nil _
 .split
  .exact zad _ _
  .exact Lin.nil _
abbrev zay(l:List (Int×Bool)):List V:=[zon l]
abbrev Crs.v(r:Crs):V:=.agg (r.st.cells++[.imm (r.strokes.map zay),qel r.conf])
abbrev gm1(a:Nat×Nat):Prop:=a.2=1\/a.2=0
def cf0(k:Nat)(l:List Int):V:=if k=0 then .sl 19 0 0 0 0 else qel l
def cf1(k:Nat):Ob:=if k=0 then o0 else⟨0,.frz 0 []⟩
abbrev cr7(b:Nat):List V:=[.sl b 0 0 0 0,.sl (b+1) 0 0 0 0,.sl (b+2) 0 0 0 0,.sl (b+3) 0 0 0 0,.sl (b+4) 0 0 0 0,.sl (b+5) 0 0 0 0,.sl (b+6) 0 0 0 0]
abbrev h23(c:Ct)(s:Ste)(k:Nat)(a:Crs×Nat×Nat):H:=[⟨0,.box c.cells⟩,⟨0,.box s.cells⟩,o0,o0,o0,o0,o0,o0,o0,⟨0,.box (cr7 2)⟩,o0,o0,o0,o0,o0,o0,o0,⟨0,.box (a.1.st.cells++[.sl 18 a.2.1 a.2.2 0 a.1.strokes.length,cf0 k a.1.conf])⟩,⟨a.2.1,.arr a.2.2 (a.1.strokes.map zay)⟩,cf1 k]
def T23(l:List Evn)(k:Nat):Tm:=[none,none,some (evs l),some (.bptr 0 0),some (.bptr 1 0),none,some (.bptr 9 0),some (num 0),some (num 0),none,some (.bptr 17 0),some (num k)]++List.replicate 54 none
abbrev z3d(c:Ct)(s:Ste)(k:Nat)(a:Crs×Nat×Nat):H:=[⟨0,.box c.cells⟩,⟨0,.box s.cells⟩,o0,o0,o0,o0,o0,o0,o0,⟨0,.box (cr7 26)⟩,o0,o0,o0,o0,o0,o0,o0,⟨0,.box (a.1.st.cells++[.sl 18 a.2.1 a.2.2 0 a.1.strokes.length,cf0 k a.1.conf])⟩,⟨a.2.1,.arr a.2.2 (a.1.strokes.map zay)⟩,cf1 k,o0,o0,o0,o0,o0]
def ztm(i e:Int):Tm:=[none,none,none,none,none,none,some (.bptr 9 0),some (num i),some (num e)]++List.replicate 57 none
structure G23(c:Ct)(l:List Evn)(Z:Crs×Int×Int)(k:Nat)(a:Crs×Nat×Nat):Prop where
 go:qii c (l.drop k) k a.1=Z
 rdy:Rdy c a.1.st
 lin:Lin (qhn c) a.1.conf
 nil:k=0->a.1.conf=[]
 len:a.1.strokes.length=k
 gm:gm1 a.2
def zba(c:Ct)(s:Ste)(l:List Evn)(Z:Crs×Int×Int)(r:R):Prop :=
 if Z.2.2=0 then Z.2.1=0/\∃k a,a.1=Z.1/\gm1 a.2/\(k=0->a.1.conf=[])/\qaj (.exit 0) (T23 l l.length) (h23 c s k a) r
 else Z.1=zeroCrs/\∃k a u,qaj .ret (ztm Z.2.1 Z.2.2) (z3d c s k a++[⟨0,.box u⟩,o0,o0,o0,o0,o0,o0,o0]) r
theorem qzc{c:Ct}{x:Evn}{l:List Evn}{i:Nat}{r:Crs}(h:¬(qbr c r.st x).2.2=0):qii c (x :: l) i r=(zeroCrs,(i:Int),(qbr c r.st x).2.2):=by
 rw[qii,if_neg h]
set_option maxHeartbeats 2000000 in
theorem z3k{c:Ct}{s:Ste}(hs:Rdy c s)(l:List Evn)(hn:l.length<=4096){st:St}(h0:At (T23 l 0) (h23 c s 0 (⟨s,[],[]⟩,0,0)) st):∃r,ev pg (.code (.going 20 L96_0) st)=some r/\zba c s l (qii c l 0 ⟨s,[],[]⟩) r:=by
 generalize hR:qii c l 0 ⟨s,[],[]⟩=Z
 refine qci l.length (fun k _=>T23 l k) (h23 c s) (G23 c l Z) _ ?_ ?_ (⟨s,[],[]⟩,0,0) ⟨hR,hs,Lin.nil _,fun _=>rfl,rfl,.inr rfl⟩ h0
 .rintro k ⟨⟨t,S,C⟩,g,m⟩ f hf hk hG
  have hgo:=hG.go
  have hrd:=hG.rdy
  have hlin:=hG.lin
  have hnil:=hG.nil
  have hlen:=hG.len
  have hmm:m=1\/m=0:=hG.gm
  simp only at hgo hrd hlin hnil hlen
  have hk':(k:Int)<l.length:=by omega
  have wk:=qab (n:=(k:Int)+1) (by omega) (by omega)
  have h63:=ev174 hrd l[k]
  have hN:=qlx hrd.mid
  rw[jL hk]at hgo
  by_cases hz:(qbr c t l[k]).2.2=0
  .rw[qii,if_pos hz]at hgo
   have hru:Rdy c (qbr c t l[k]).1:=⟨hrd.few,qjv hrd.st hz⟩
   have hee:(qbr c t l[k]).1.ends.length=t.ends.length:=by
    have h1:=hru.shp.e
    have h2:=hrd.shp.e
    omega
   obtain⟨wf,hwf,h64⟩:=ev94 t (qbr c t l[k]).1 hrd.small hee
   have hm:Lin (qhn c) (qbr c t l[k]).2.1:=qti _ _ _
   have e65:=ev175 C (qbr c t l[k]).2.1 (by have:=hlin.len;omega) (by have:=hm.len;omega)
   rw[hlin.mrg hm]at e65
   have hl':Lin (qhn c) (norm (qhn c) (C++(qbr c t l[k]).2.1)):=Lin.norm _ _
   generalize norm (qhn c) (C++(qbr c t l[k]).2.1)=p at *
   generalize qdm t (qbr c t l[k]).1=fr at *
   generalize qbr c t l[k]=z at *
   obtain⟨u,q,e⟩:=z
   simp only at hz hgo hru e65 h64 h63
   subst hz
   have hb1:(S.length+1)*24<=140737488355328:=by omega
   have hG':G23 c l Z (k+1) (⟨u,S++[fr],p⟩,g+1,1):=⟨hgo,hru,hl',by omega,by simp[hlen],.inl rfl⟩
   unfold T23 h23 cf0 cf1
   by_cases hk0:k=0
   .subst hk0
    rw[hnil rfl]at e65
    have e65':ev pg (.call (.fn 175 [] []) [.imm [],qel q] [])=_:=e65
    rcases hwf with rfl | rfl<;>rcases hmm with rfl | rfl<;>simp[qaa,exT,qae,L96_0,hk,hk',h63,h64,e65',hb1,show IntKind.i64.wrap 1=1 by decide,hf.ne]
    all_goals exact⟨_,_,_,hG',by simp⟩
   .rcases hwf with rfl | rfl<;>rcases hmm with rfl | rfl<;>simp[qaa,exT,qae,L96_0,hk,hk',hk0,wk,h63,h64,e65,hb1,hf.ne]
    all_goals exact⟨_,_,_,hG',by simp⟩
  .rw[qzc hz]at hgo
   subst hgo
   generalize qbr c t l[k]=z at *
   obtain⟨u,q,e⟩:=z
   simp only at hz h63
   have hzb:(e==0)=false:=by simpa using hz
   unfold T23 h23
   generalize hcf0:cf0 k C=cf at *
   generalize hcf1:cf1 k=co at *
   rcases hmm with rfl | rfl<;>simp[qaa,exT,qae,L96_0,hk,hk',h63,hz,hzb,hf.ne]
   .unfold zba
    simp only[hz,if_false]
    refine⟨trivial,k,(⟨t,S,C⟩,g,1),u.cells,?_⟩
    simp[ztm,hcf0,hcf1,hf.ne]
   .unfold zba
    simp only[hz,if_false]
    refine⟨trivial,k,(⟨t,S,C⟩,g,0),u.cells,?_⟩
    simp[ztm,hcf0,hcf1,hf.ne]
 .rintro⟨⟨t,S,C⟩,g,m⟩ f hf hG
  have hgo:=hG.go
  have hnil:=hG.nil
  have hgm:=hG.gm
  simp only[List.drop_length,qii]at hgo hnil hgm
  subst hgo
  unfold T23 h23
  generalize hcf0:cf0 l.length C=cf at *
  generalize hcf1:cf1 l.length=co at *
  have hmm:m=1\/m=0:=hG.gm
  rcases hmm with rfl | rfl<;>simp[L96_0,hf.ne]
  .exact⟨rfl,l.length,(⟨t,S,C⟩,g,1),rfl,.inl rfl,hnil,by simp[T23,hcf0,hcf1,hf.ne]⟩
  .exact⟨rfl,l.length,(⟨t,S,C⟩,g,0),rfl,.inr rfl,hnil,by simp[T23,hcf0,hcf1,hf.ne]⟩
def qln(c:Ct)(s:Ste)(l:List Evn):Crs×Int×Int:=if quE c s=0 then(if 4096<l.length then(zeroCrs,0,5)else qii c l 0 ⟨s,[],[]⟩)else(zeroCrs,0,quE c s)
theorem q0x{c:Ct}{s:Ste}(hfew:c.small=true)(h:quE c s=0):Rdy c s:=by
 unfold quE at h
 split at h
 .exact⟨hfew,by assumption⟩
 .rename_i h2;exact absurd h h2
theorem ev96(c:Ct)(s:Ste)(hfew:c.small=true)(hs:s.small)(l:List Evn)(hl:l.length<=100000):ev pg (.call (.fn 96 [] []) [c.v,s.v,evs l] [])=some { v:=.tup [(qln c s l).1.v,num (qln c s l).2.1,num (qln c s l).2.2],st:=⟨[],[]⟩ }:=by
 have h52:=ev173 c s hfew hs
 unfold qln
 rw[qac,pg96]
 by_cases h:quE c s=0
 .rw[if_pos h]
  rw[h]at h52
  by_cases hn:4096<l.length
  .rw[if_pos hn]
   have hn':(4096:Int)<l.length:=by omega
   simp[ir96,h52,hn',zeroCrs,zeroS]
  .rw[if_neg hn]
   have hn':¬(4096:Int)<l.length:=by omega
   have hlp:=@z3k c s (q0x hfew h) l (by omega)
   generalize qii c l 0 ⟨s,[],[]⟩=Z at *
   simp[ir96,h52,hn',qaf]
   generalize hr:ev pg (.code (.going _ L96_0) _)=o
   obtain⟨r,rfl,hQ⟩:∃r,o=some r/\_:=by rw[<-hr];exact hlp (by simp[T23,cf0,cf1])
   clear hr
   unfold zba at hQ
   obtain⟨z1,z2,z3⟩:=Z
   by_cases hz:z3=0
   .rw[if_pos hz]at hQ
    obtain⟨hz2,k,⟨⟨t,S,C⟩,g,m⟩,ha,hgm,hnil,f,hf,rfl⟩:=hQ
    simp only at ha hz2 hz hgm hnil
    subst ha hz2 hz
    have hmm:m=1\/m=0:=hgm
    by_cases hk0:k=0
    .obtain rfl:=hnil hk0
     rcases hmm with rfl | rfl<;>simp[T23,cf0,cf1,hk0]
    .rcases hmm with rfl | rfl<;>simp[T23,cf0,cf1,hk0]
   .rw[if_neg hz]at hQ
    obtain⟨hz1,k,⟨⟨t,S,C⟩,g,m⟩,u,f,hf,rfl⟩:=hQ
    simp only at hz1
    subst hz1
    simp[ztm,zeroCrs,zeroS]
 .rw[if_neg h]
  have hb:(quE c s==0)=false:=by simpa using h
  generalize quE c s=e at *
  simp[ir96,h52,h,hb,zeroCrs,zeroS]
end Go.Proofs.YtddeacahiilikaaGreat
