/- What follows an event, by the program: the functions; strokes that are begun. A run, by the program. Courses that are the same, by the reference. The examples of the law of plant. The law PlantRuns, in Am: it returns true. Strokes begun, with the check of the ends: by the program and by the reference. The law PlantStills, in Am: it returns true. A run goes on: what a run of all events, and of the first and of the other ones, come to. -/
import Derived.Test.YtddeacahiilikaaGreatRAf1
import Derived.Test.YtddeacahiilikaaGreatRRn2
import Derived.KernelRfl
import Derived.Test.YtddeacahiilikaaGreatRSv1
set_option linter.all false
namespace Go.Proofs.YtddeacahiilikaaGreat
open Go Go.Am Go.Proofs
set_option maxRecDepth 100000
theorem zdc{c:Ct}{s:Ste}(hS:Shp c s)(x:Evn):(qfa s x).ends.length=s.ends.length/\(qfa s x).valves.length=s.valves.length/\(qfa s x).inputs.length=s.inputs.length/\(qfa s x).values.length=s.values.length/\(qfa s x).timers.length=s.timers.length:=by
 unfold qfa
 split
 .simp
 .split
  .simp
  .simp
set_option maxHeartbeats 1000000 in
theorem ev47{c:Ct}{s:Ste}(h:Rdy c s)(x:Evn):ev pg (.call (.fn 47 [] []) [c.v,s.v,x.v] [])=some { v:=q5u (qbr c s x),st:=⟨[],[]⟩ }:=by
 have e60:=ev116 s h.small
 obtain⟨kd,id,vl⟩:=x
 obtain⟨l1,l2,l3,l4,l5⟩:=zdc h.shp ⟨kd,id,vl⟩
 unfold qbr
 rw[qac,pg47]
 by_cases hlo:kd<0
 .rw[if_pos (.inl hlo)]
  simp[ir47,e60,hlo,zeroS]
 .by_cases hhi:2<kd
  .rw[if_pos (.inr hhi)]
   have hhi':(3:Int)<=kd:=by omega
   simp[ir47,e60,hlo,hhi',zeroS]
  .have hk:¬(kd<0\/2<kd):=by omega
   rw[if_neg hk]
   have e91:=ev117 h.shp id vl
   have e92:=ev118 h.shp id vl
   have e93:=ev119 h.shp id vl
   have hkd:kd=0\/kd=1\/kd=2:=by omega
   rcases hkd with rfl | rfl | rfl
   .cases hm:qqi s ⟨0,id,vl⟩with
    | false =>
     rw[hm]at e91
     simp only[Bool.false_eq_true,if_false]at e91
     simp at e91
     simp[qaa,exT,qae,ir47,e60,e91,zeroS]
    | true =>
     rw[hm]at e91
     simp only[if_true]at e91
     have hR:Rdy c (qfa s ⟨0,id,vl⟩):=⟨h.few,qid h.st hk hm⟩
     have e16:=ev45 c (qfa s ⟨0,id,vl⟩) h.few hR.small
     unfold qqk at e16
     rw[if_pos hR.st]at e16
     generalize qfa s ⟨0,id,vl⟩=u at *
     generalize qkg c u=z at *
     simp[l1,l2,l3,l4,l5]at e91
     simp[qaa,exT,qae,ir47,e60,e91,e16,l1,l2,l3,l4,l5]
   .cases hm:qqi s ⟨1,id,vl⟩with
    | false =>
     rw[hm]at e92
     simp only[Bool.false_eq_true,if_false]at e92
     simp at e92
     simp[qaa,exT,qae,ir47,e60,e92,zeroS]
    | true =>
     rw[hm]at e92
     simp only[if_true]at e92
     have hR:Rdy c (qfa s ⟨1,id,vl⟩):=⟨h.few,qid h.st hk hm⟩
     have e16:=ev45 c (qfa s ⟨1,id,vl⟩) h.few hR.small
     unfold qqk at e16
     rw[if_pos hR.st]at e16
     generalize qfa s ⟨1,id,vl⟩=u at *
     generalize qkg c u=z at *
     simp[l1,l2,l3,l4,l5]at e92
     simp[qaa,exT,qae,ir47,e60,e92,e16,l1,l2,l3,l4,l5]
   .cases hm:qqi s ⟨2,id,vl⟩with
    | false =>
     rw[hm]at e93
     simp only[Bool.false_eq_true,if_false]at e93
     simp at e93
     simp[qaa,exT,qae,ir47,e60,e93,zeroS]
    | true =>
     rw[hm]at e93
     simp only[if_true]at e93
     have hR:Rdy c (qfa s ⟨2,id,vl⟩):=⟨h.few,qid h.st hk hm⟩
     have e16:=ev45 c (qfa s ⟨2,id,vl⟩) h.few hR.small
     unfold qqk at e16
     rw[if_pos hR.st]at e16
     generalize qfa s ⟨2,id,vl⟩=u at *
     generalize qkg c u=z at *
     simp[l1,l2,l3,l4,l5]at e93
     simp[qaa,exT,qae,ir47,e60,e93,e16,l1,l2,l3,l4,l5]
def T62(x y:Ste)(k:Nat)(a:Nat×Nat):Tm:=[none,none,some (.bptr 0 0),some (.bptr 1 0),some (.sl 2 0 0 0 0),some (.sl 3 a.1 a.2 0 (qek x y k).length),none,none,none,some (qel y.ends),some (num y.ends.length),some (num k)]++List.replicate 28 none
set_option maxHeartbeats 1000000 in
theorem z3t(x y:Ste)(hs:x.small)(he:y.ends.length=x.ends.length){st:St}(a0:Nat×Nat)(g0:gm2 a0)(h0:At (T62 x y 0 a0) (h64 x y 0 a0) st):∃r,ev pg (.code (.going 4 L121_0) st)=some r/\∃a,gm2 a/\qaj (.exit 0) (T62 x y y.ends.length a) (h64 x y y.ends.length a) r:=by
 have hse:=hs.e
 refine qci y.ends.length (T62 x y) (h64 x y) (fun _ a=>gm2 a) _ ?_ ?_ a0 g0 h0
 .rintro k ⟨g,m⟩ f hf hk2 hG
  have hk':(k:Int)<y.ends.length:=by omega
  have hk:k<x.ends.length:=by omega
  have wk:=qab (n:=(k:Int)+1) (by omega) (by omega)
  have hsl:=qmb x y k
  have hp:qpj x y k=if(y.ends[k]=1\/y.ends[k]=3)/\x.ends[k]≠y.ends[k]then some ((k:Int),y.ends[k]==1)else none:=by
   unfold qpj
   rw[jA hk,jA hk2]
  unfold T62 h64
  rw[qpk,hp]
  generalize qek x y k=B at *
  have hb1:(B.length+1)*16<=140737488355328:=by omega
  have hmm:m=2\/m=0:=hG
  by_cases h2:y.ends[k]=x.ends[k]
  .have h2s:¬x.ends[k]≠y.ends[k]:=fun h=>h h2.symm
   rw[if_neg (fun h=>h2s h.2)]
   rcases hmm with rfl | rfl<;>simp[L121_0,hk,hk',hk2,wk,h2,hf.ne]
  .have h2b:(y.ends[k]==x.ends[k])=false:=by simpa using h2
   have h2n:(y.ends[k] != x.ends[k])=true:=by simpa using h2
   have h2s:x.ends[k]≠y.ends[k]:=fun h=>h2 h.symm
   by_cases h1:y.ends[k]=1
   .rw[if_pos ⟨.inl h1,h2s⟩]
    rw[h1]at h2 h2b h2n
    rcases hmm with rfl | rfl<;>simp[L121_0,hk,hk',hk2,wk,h1,h2,h2b,h2n,hb1,hf.ne]
   .have h1b:(y.ends[k]==1)=false:=by simpa using h1
    by_cases h3:y.ends[k]=3
    .rw[if_pos ⟨.inr h3,h2s⟩]
     rw[h3]at h2 h2b h2n
     rcases hmm with rfl | rfl<;>simp[L121_0,hk,hk',hk2,wk,h3,h2,h2b,h2n,hb1,hf.ne]
    .have h3b:(y.ends[k]==3)=false:=by simpa using h3
     rw[if_neg (fun h=>h.1.elim h1 h3)]
     rcases hmm with rfl | rfl<;>simp[L121_0,hk,hk',hk2,wk,h1,h1b,h2,h2b,h2n,h3,h3b,hf.ne]
 .rintro⟨g,m⟩ f hf hG
  unfold T62 h64
  generalize qek x y y.ends.length=B at *
  have hmm:m=2\/m=0:=hG
  rcases hmm with rfl | rfl<;>simp[L121_0,hf.ne]
theorem ev121(x y:Ste)(hs:x.small)(he:y.ends.length=x.ends.length):∃w,(w=2\/w=0)/\ev pg (.call (.fn 121 [] []) [x.v,y.v] [])=some { v:=.sl 0 0 w 0 (qdm x y).length,st:=⟨[],[⟨0,.arr w ((qdm x y).map qth)⟩]⟩ }:=by
 have hl:=@z3t x y hs he
 have z0:qek x y 0=[]:=rfl
 have z1:qek x y y.ends.length=qdm x y:=by rw[he];rfl
 unfold h64 T62 at hl
 rw[z0,z1]at hl
 generalize qdm x y=B at *
 rw[qac,pg121]
 simp[ir121,qaf]
 generalize hr:ev pg (.code (.going _ L121_0) _)=o
 obtain⟨r,rfl,⟨g,m⟩,hm,f,hf,rfl⟩:∃r,o=some r/\_:=by rw[<-hr];exact hl (0,0) (.inr rfl) (by simp)
 clear hr
 have hmm:m=2\/m=0:=hm
 rcases hmm with rfl | rfl
 .left;simp[qbv,qdq,qhy,qdl]
 .right;simp[qbv,qdq,qhy,qdl]
abbrev fz5(u:Ste):H:=[⟨0,.frz 1 (u.ends.map qdw)⟩,⟨0,.frz 1 (u.valves.map qen)⟩,⟨0,.frz 1 (u.inputs.map qen)⟩,⟨0,.frz 1 (u.values.map qen)⟩,⟨0,.frz 1 (u.timers.map qdw)⟩]
def h22(c:Ct)(s:Ste)(k:Nat)(a:Crs×Nat×Nat):H:=if k=0 then [⟨0,.box c.cells⟩,⟨0,.box s.cells⟩,o0,o0,o0,o0,o0,o0,o0,⟨0,.box (cr7 2)⟩]++ar5 s++[o0,o0,o0,o0,o0,o0,o0,⟨0,.box (sl5 10 s++[.sl 23 0 0 0 0,.sl 24 0 0 0 0])⟩,o0,o0]
 else [⟨0,.box c.cells⟩,⟨0,.box s.cells⟩,o0,o0,o0,o0,o0,o0,o0,⟨0,.box (cr7 2)⟩]++fz5 s++[o0,o0,o0,o0,o0,o0,o0,⟨0,.box (a.1.st.cells++[.sl 23 a.2.1 a.2.2 0 a.1.strokes.length,qel a.1.conf])⟩,⟨a.2.1,.arr a.2.2 (a.1.strokes.map zay)⟩,⟨0,.frz 0 []⟩]
def T22(l:List Evn)(k:Nat):Tm:=[none,none,none,some (.bptr 0 0),some (.bptr 1 0),none,some (.bptr 9 0),some (num 0),some (num 0),none,some (.bptr 22 0)]++List.replicate 19 none++[some (evs l),some (num l.length),some (num k)]++List.replicate 34 none
def zpc(i e:Int):Tm:=[none,none,none,none,none,none,some (.bptr 9 0),some (num i),some (num e)]++List.replicate 58 none
structure G22(c:Ct)(s:Ste)(l:List Evn)(Z:Crs×Int×Int)(k:Nat)(a:Crs×Nat×Nat):Prop where
 go:qii c (l.drop k) k a.1=Z
 rdy:Rdy c a.1.st
 lin:Lin (qhn c) a.1.conf
 nil:k=0->a.1=⟨s,[],[]⟩
 len:a.1.strokes.length=k
 gm:k≠0->a.2.2=1
inductive Out22 (c:Ct) (s:Ste) (l:List Evn) (Z:Crs×Int×Int) (r:R):Prop where
 | ok (k:Nat) (a:Crs×Nat×Nat) (hz:Z=(a.1,0,0)) (hn:k=0->a.1=⟨s,[],[]⟩) (hg:k≠0->a.2.2=1) (he:qaj (.exit 0) (T22 l l.length) (h22 c s k a) r)
 | bad0 (e:Int) (hz:Z=(zeroCrs,0,e)) (x:List V) (u:Ste) (he:qaj .ret (zpc 0 e) ([⟨0,.box c.cells⟩,⟨0,.box s.cells⟩,o0,o0,o0,o0,o0,o0,o0,⟨0,.box (cr7 32)⟩]++fz5 s++[o0,o0,o0,o0,o0,o0,o0,⟨0,.box (sl5 10 s++[.sl 23 0 0 0 0,.sl 24 0 0 0 0])⟩,o0,o0,⟨0,.box x⟩,o0,o0,o0,o0,o0,⟨0,.box u.cells⟩,o0,o0,o0,o0,o0,o0,o0]) r)
 | bad1 (i e:Int) (hz:Z=(zeroCrs,i,e)) (a:Crs×Nat×Nat) (x:List V) (u:Ste) (he:qaj .ret (zpc i e) ([⟨0,.box c.cells⟩,⟨0,.box s.cells⟩,o0,o0,o0,o0,o0,o0,o0,⟨0,.box (cr7 32)⟩]++fz5 s++[o0,o0,o0,o0,o0,o0,o0,⟨0,.box (a.1.st.cells++[.sl 23 a.2.1 a.2.2 0 a.1.strokes.length,qel a.1.conf])⟩,⟨a.2.1,.arr a.2.2 (a.1.strokes.map zay)⟩,⟨0,.frz 0 []⟩,⟨0,.box x⟩,o0,o0,o0,o0,o0,⟨0,.box u.cells⟩,o0,o0,o0,o0,o0,o0,o0]) r)
set_option maxHeartbeats 4000000 in
theorem z3j{c:Ct}{s:Ste}(hs:Rdy c s)(l:List Evn)(hn:l.length<=4096){st:St}(h0:At (T22 l 0) (h22 c s 0 (⟨s,[],[]⟩,0,0)) st):∃r,ev pg (.code (.going 25 L92_0) st)=some r/\Out22 c s l (qii c l 0 ⟨s,[],[]⟩) r:=by
 generalize hR:qii c l 0 ⟨s,[],[]⟩=Z
 refine qci l.length (fun k _=>T22 l k) (h22 c s) (G22 c s l Z) _ ?_ ?_ (⟨s,[],[]⟩,0,0) ⟨hR,hs,Lin.nil _,fun _=>rfl,rfl,fun h=>absurd rfl h⟩ h0
 .rintro k ⟨⟨t,S,C⟩,g,m⟩ f hf hk hG
  have hgo:=hG.go
  have hrd:=hG.rdy
  have hlin:=hG.lin
  have hnil:=hG.nil
  have hlen:=hG.len
  have hgm:=hG.gm
  simp only at hgo hrd hlin hnil hlen hgm
  have hk':(k:Int)<l.length:=by omega
  have wk:=qab (n:=(k:Int)+1) (by omega) (by omega)
  have w1:IntKind.i64.wrap 1=1:=by decide
  have e61:=ev47 hrd l[k]
  have hN:=qlx hrd.mid
  rw[jL hk]at hgo
  by_cases hz:(qbr c t l[k]).2.2=0
  .rw[qii,if_pos hz]at hgo
   have hru:Rdy c (qbr c t l[k]).1:=⟨hrd.few,qjv hrd.st hz⟩
   have hee:(qbr c t l[k]).1.ends.length=t.ends.length:=by
    have h1:=hru.shp.e
    have h2:=hrd.shp.e
    omega
   obtain⟨wf,hwf,e62⟩:=ev121 t (qbr c t l[k]).1 hrd.small hee
   have hm:Lin (qhn c) (qbr c t l[k]).2.1:=qti _ _ _
   have hlc:=hlin.len
   have hlm:=hm.len
   have e54:=ev113 (qhn c) C (qbr c t l[k]).2.1 (by omega) (by omega) (fun x hx=>(jQ.1 hx).elim (hlin.b x) (hm.b x))
   have hl':Lin (qhn c) (norm (qhn c) (C++(qbr c t l[k]).2.1)):=Lin.norm _ _
   generalize norm (qhn c) (C++(qbr c t l[k]).2.1)=p at *
   generalize qdm t (qbr c t l[k]).1=fr at *
   generalize qbr c t l[k]=z at *
   obtain⟨u,q,e⟩:=z
   simp only at hz hgo hru e54 e62 e61
   subst hz
   have hb1:(S.length+1)*24<=140737488355328:=by omega
   by_cases hk0:k=0
   .subst hk0
    have hc:=hnil rfl
    obtain⟨rfl,rfl,rfl⟩:=Crs.mk.inj hc
    have hG':G22 c t l Z (0+1) (⟨u,[fr],p⟩,1,1):=⟨hgo,hru,hl',fun h=>absurd h (by omega),rfl,fun _=>rfl⟩
    have e54':ev pg (.call (.fn 113 [] []) [.imm [],qel q] [])=some { v:=qel p,st:=⟨[],[]⟩ }:=e54
    unfold T22 h22
    rcases hwf with rfl | rfl<;>simp[qaa,exT,qae,L92_0,hk,e61,e62,e54',w1,hf.ne]
    all_goals exact⟨_,_,_,hG',by simp⟩
   .have hm1:m=1:=hgm hk0
    subst hm1
    have hG':G22 c s l Z (k+1) (⟨u,S++[fr],p⟩,g+1,1):=⟨hgo,hru,hl',fun h=>absurd h (by omega),by simp[hlen],fun _=>rfl⟩
    unfold T22 h22
    rcases hwf with rfl | rfl<;>simp[qaa,exT,qae,L92_0,hk,hk',hk0,wk,e61,e62,e54,hb1,hf.ne]
    all_goals exact⟨_,_,_,hG',by simp⟩
  .rw[qzc hz]at hgo
   subst hgo
   generalize qbr c t l[k]=z at *
   obtain⟨u,q,e⟩:=z
   simp only at hz e61
   have hzb:(e==0)=false:=by simpa using hz
   by_cases hk0:k=0
   .subst hk0
    have hc:=hnil rfl
    obtain⟨rfl,rfl,rfl⟩:=Crs.mk.inj hc
    unfold T22 h22
    simp[qaa,exT,qae,L92_0,hk,e61,hz,hzb,hf.ne]
    exact .bad0 e rfl l[0].row u (by simp[zpc,hf.ne])
   .have hm1:m=1:=hgm hk0
    subst hm1
    unfold T22 h22
    simp[qaa,exT,qae,L92_0,hk,hk',hk0,e61,hz,hzb,hf.ne]
    exact .bad1 k e rfl (⟨t,S,C⟩,g,1) l[k].row u (by simp[zpc,hf.ne])
 .rintro⟨⟨t,S,C⟩,g,m⟩ f hf hG
  have hgo:=hG.go
  have hnil:=hG.nil
  have hgm:=hG.gm
  simp only[List.drop_length,qii]at hgo hnil hgm
  have hlen:=hG.len
  simp only at hlen
  by_cases hk0:l.length=0
  .have hc:=hnil hk0
   obtain⟨rfl,rfl,rfl⟩:=Crs.mk.inj hc
   unfold T22 h22
   simp[L92_0,hk0,hf.ne]
   exact .ok 0 (⟨t,[],[]⟩,g,m) hgo.symm (fun _=>rfl) (fun h=>absurd rfl h) (by simp[T22,h22,hk0,hf.ne])
  .have hm1:m=1:=hgm hk0
   subst hm1
   unfold T22 h22
   simp[L92_0,hk0,hf.ne]
   exact .ok l.length (⟨t,S,C⟩,g,1) hgo.symm hnil hgm (by simp[T22,h22,hk0,hf.ne])
theorem ev92(c:Ct)(s:Ste)(hfew:c.small=true)(hs:s.small)(l:List Evn)(hl:l.length<=100000):ev pg (.call (.fn 92 [] []) [c.v,s.v,evs l] [])=some { v:=.tup [(qln c s l).1.v,num (qln c s l).2.1,num (qln c s l).2.2],st:=⟨[],[]⟩ }:=by
 have e49:=ev46 c s hfew hs
 have e60:=ev116 s hs
 unfold qln
 rw[qac,pg92]
 by_cases h:quE c s=0
 .rw[if_pos h]
  rw[h]at e49
  by_cases hn:4096<l.length
  .rw[if_pos hn]
   have hn':(4096:Int)<l.length:=by omega
   simp[ir92,e49,hn',zeroCrs,zeroS]
  .rw[if_neg hn]
   have hn':¬(4096:Int)<l.length:=by omega
   have hlp:=@z3j c s (q0x hfew h) l (by omega)
   generalize qii c l 0 ⟨s,[],[]⟩=Z at *
   simp[ir92,e49,e60,hn',qaf]
   generalize hr:ev pg (.code (.going _ L92_0) _)=o
   obtain⟨r,rfl,hQ⟩:∃r,o=some r/\_:=by rw[<-hr];exact hlp (by simp[T22,h22])
   clear hr
   cases hQ with
   | ok k a hz hn0 hg he =>
    obtain⟨⟨t,S,C⟩,g,m⟩:=a
    obtain⟨f,hf,rfl⟩:=he
    subst hz
    by_cases hk0:k=0
    .have hc:=hn0 hk0
     simp only at hc
     obtain⟨rfl,rfl,rfl⟩:=Crs.mk.inj hc
     simp[T22,h22,hk0]
    .have hm1:m=1:=hg hk0
     subst hm1
     simp[T22,h22,hk0]
   | bad0 e hz x u he =>
    obtain⟨f,hf,rfl⟩:=he
    subst hz
    simp[zpc,zeroCrs,zeroS]
   | bad1 i e hz a x u he =>
    obtain⟨f,hf,rfl⟩:=he
    subst hz
    simp[zpc,zeroCrs,zeroS]
 .rw[if_neg h]
  have hb:(quE c s==0)=false:=by simpa using h
  generalize quE c s=e at *
  simp[ir92,e49,h,hb,zeroCrs,zeroS]
structure Crs.small(r:Crs):Prop where
 st:r.st.small
 len:r.strokes.length<=100000
 each:∀l∈r.strokes,l.length<=100000
 conf:r.conf.length<=4096
theorem q1k:zeroS.small:=⟨by simp[zeroS],by simp[zeroS],by simp[zeroS],by simp[zeroS],by simp[zeroS]⟩
theorem qjk:zeroCrs.small:=⟨q1k,by simp[zeroCrs],by simp[zeroCrs],by simp[zeroCrs]⟩
theorem qkw(a b:Ste):(qdm a b).length<=a.ends.length:=by rw[qxy];exact qmb _ _ _
theorem qsh{c:Ct}:∀{l:List Evn} {i:Nat} {r:Crs},Rdy c r.st->r.conf.length<=4096->r.strokes.length+l.length<=100000->(∀x∈r.strokes,x.length<=100000)->(qii c l i r).1.small
 | [],_,r,h,h2,h3,h4=>⟨h.small,by simpa[qii]using h3,h4,h2⟩
 | x :: l,i,r,h,h2,h3,h4=>by
  rw[qii]
  by_cases hz:(qbr c r.st x).2.2=0
  .rw[if_pos hz]
   have hN:=qlx h.mid
   refine qsh ⟨h.few,qjv h.st hz⟩ ?_ ?_ ?_
   .have:=q9o (qhn c) (r.conf++(qbr c r.st x).2.1)
    simp only
    omega
   .simp only[jF,List.length_cons,List.length_nil]at h3 ⊢
    omega
   .intro y hy
    simp only[jQ,List.mem_singleton]at hy
    rcases hy with hy | rfl
    .exact h4 y hy
    .have h5:=qkw r.st (qbr c r.st x).1
     have h6:=h.small.e
     omega
  .rw[if_neg hz]
   exact qjk
theorem qoz{c:Ct}(hc:c.small=true)(s:Ste)(l:List Evn)(hl:l.length<=100000):(qln c s l).1.small:=by
 unfold qln
 split
 .rename_i h
  split
  .exact qjk
  .exact qsh (q0x hc h) (by simp) (by simpa using hl) (by simp)
 .exact qjk
theorem zak(c:Ct)(hc:c.check=0):qap c=qqk c (qca c):=by
 unfold qap qqk
 rw[if_pos hc,if_pos (qcz hc)]
end Go.Proofs.YtddeacahiilikaaGreat
namespace Go.Proofs.YtddeacahiilikaaGreat
open Go Go.Am Go.Proofs
set_option maxRecDepth 1000000
def one:Ct:=⟨1,[[115,116,97,114,116]],[⟨[109],1,.mk 3 0 [.mk 1 2 [],.mk 1 0 []],.mk 1 1 [],0,false⟩,⟨[103],0,.mk 2 0 [.mk 1 3 []],.mk 0 0 [],0,false⟩],[3],[4]⟩
@[simp] theorem zqj(l:List (List (Int×Bool))):qtj (l.map zay) (l.map zay)=true:=qho (fun x=>by simp[qho (row:=qth)]) l
def zpg(a b:Ste):Int:=if a.ends.length≠b.ends.length\/6<a.ends.length then 8 else if(a.ends++b.ends).any (qdz 4)=true then 1 else 0
def T38(n k:Nat):Tm:=[none,none,some (.bptr 0 0),some (.bptr 1 0),none,some (num 0)]++List.replicate 20 none++[some (.sl 2 0 1 0 n),some (num n),some (num k)]++List.replicate 13 none
def zzo:Tm:=[none,none,none,none,some .nils,some (num 1)]++List.replicate 36 none
abbrev h38(a b:Ste)(l:List Int):H:=[⟨0,.box a.cells⟩,⟨0,.box b.cells⟩,⟨0,.arr 1 (l.map qdw)⟩,o0]
theorem z3n(a b:Ste)(l:List Int)(hl:l.length<=100000){st:St}(h0:At (T38 l.length 0) (h38 a b l) st):∃r,ev pg (.code (.going 4 L48_0) st)=some r/\qmo l.length (fun k=>qdz 4 ((l[k]?).getD 0)) (fun _=>qaj .ret zzo (h38 a b l)) (qaj (.exit 0) (T38 l.length l.length) (h38 a b l)) r:=by
 refine qcx _ _ (T38 l.length) (h38 a b l) _ _ ?_ ?_ ?_ h0
 .intro k f hf hk hp
  have hk':(k:Int)<l.length:=by omega
  have wk:=qab (n:=(k:Int)+1) (by omega) (by omega)
  have hp':¬l[k]<0/\¬4<=l[k]:=by simpa[qdz,hk]using hp
  simp[T38,L48_0,hk,hk',wk,hp',hf.ne]
 .intro k f hf hk hp
  have hk':(k:Int)<l.length:=by omega
  have hp':l[k]<0\/4<=l[k]:=by simpa[qdz,hk]using hp
  by_cases h1:l[k]<0
  .simp[T38,zzo,L48_0,hk,hk',h1,hf.ne]
  .have h2:4<=l[k]:=by omega
   simp[T38,zzo,L48_0,hk,hk',h1,h2,hf.ne]
 .intro f hf
  simp[T38,L48_0,hf.ne]
theorem q8e{l:List Int}{X:Nat->R->Prop}{Y:R->Prop}{r:R}(h:qmo l.length (fun k=>qdz 4 ((l[k]?).getD 0)) X Y r):(l.any (qdz 4)=true/\∃k,X k r)\/(l.any (qdz 4)=false/\Y r):=by
 rcases h with⟨k,hk,hp,-,hX⟩ | ⟨hp,hY⟩
 .refine .inl ⟨List.any_eq_true.2 ⟨l[k],jH hk,by simpa[hk]using hp⟩,k,hX⟩
 .refine .inr ⟨?_,hY⟩
  rw[List.any_eq_false]
  intro x hx
  obtain⟨k,hk,rfl⟩:=List.getElem_of_mem hx
  have:=hp k hk
  simpa[hk]using this
theorem q6o{a b:Ste}(h:a.ends.length≠b.ends.length\/6<a.ends.length):zpg a b=8:=by unfold zpg;rw[if_pos h]
theorem q6n{a b:Ste}(h1:a.ends.length=b.ends.length)(h2:¬6<a.ends.length):zpg a b=if(a.ends++b.ends).any (qdz 4)=true then 1 else 0:=by unfold zpg;rw[if_neg (by omega)]
theorem ev48(a b:Ste)(ha:a.small)(hb:b.small)(h0:zpg a b=0):∃w,(w=2\/w=0)/\ev pg (.call (.fn 48 [] []) [a.v,b.v] [])=some { v:=.tup [.sl 0 0 w 0 (qdm a b).length,num 0],st:=⟨[],[⟨0,.arr w ((qdm a b).map qth)⟩]⟩ }:=by
 have h1:a.ends.length=b.ends.length:=by
  apply Classical.byContradiction
  intro h
  rw[q6o (.inl h)]at h0
  cases h0
 have h2:¬6<a.ends.length:=by
  intro h
  rw[q6o (.inr h)]at h0
  cases h0
 have h1':(a.ends.length:Int)=b.ends.length:=by omega
 rw[q6n h1 h2]at h0
 have h2b:¬(6:Int)<b.ends.length:=by omega
 obtain⟨wf,hwf,e62⟩:=ev121 a b ha h1.symm
 have e32:=ev120c [a.ends,b.ends] (by simp) (by simp) (by simp;have:=ha.e;have:=hb.e;omega)
 have hl:=@z3n a b (a.ends++b.ends) (by simp;have:=ha.e;have:=hb.e;omega)
 simp only[q8x,List.map_cons,List.map_nil,List.flatten_cons,List.flatten_nil,List.append_nil]at e32
 have hB:(a.ends++b.ends).any (qdz 4)=false:=by
  cases h:(a.ends++b.ends).any (qdz 4)with
  | false=>rfl
  | true=>rw[h]at h0;cases h0
 generalize a.ends++b.ends=l at *
 generalize qdm a b=F at *
 refine⟨wf,hwf,?_⟩
 rw[qac,pg48]
 simp[ir48,h1',h2b,e32,qaf,qbv,qdq,qhy,qdl]
 generalize hr:ev pg (.code (.going _ L48_0) _)=o
 obtain⟨r,rfl,hQ⟩:∃r,o=some r/\_:=by rw[<-hr];exact hl (by simp[T38])
 clear hr
 have hfa:=q8e hQ
 rw[hB]at hfa
 clear hQ
 rcases hfa with⟨hx,-⟩ | ⟨-,f,hf,rfl⟩
 .cases hx
 .rcases hwf with rfl | rfl<;>simp[T38,e62,qbv,qdq,qhy,qdl]
structure Lie(c:Ct)(t:Ste):Prop where
 rdy:Rdy c t
 still:∃a,qcw c t=some (t,a)
theorem Lie.rest{c:Ct}{t:Ste}(h:Lie c t):(qqk c t).1=t/\(qqk c t).2.2=0:=by
 obtain⟨a,ha⟩:=h.still
 unfold qqk qkg
 rw[if_pos h.rdy.st,q5q ha]
 exact⟨rfl,rfl⟩
theorem Lie.quE{c:Ct}{t:Ste}(h:Lie c t):quE c t=0:=by
 obtain⟨a,ha⟩:=h.still
 unfold Proofs.YtddeacahiilikaaGreat.quE qqd
 rw[if_pos h.rdy.st,ha]
 simp[qur]
theorem Lie.run{c:Ct}{t:Ste}(h:Lie c t){l:List Evn}(hl:l.length<=4096):qln c t l=qii c l 0 ⟨t,[],[]⟩:=by
 unfold qln
 rw[if_pos h.quE,if_neg (by omega)]
theorem qlk{c:Ct}(hs:c.small=true)(hc:c.check=0)(he:(qap c).2.2=0):Lie c (qap c).1:=by
 rw[zak c hc]at he ⊢
 unfold qqk qkg at *
 rw[if_pos (qcz hc)]at *
 cases hZ:qjs c (qca c)with
 | none=>rw[hZ]at he;simp at he
 | some x =>
  obtain⟨t,m⟩:=x
  exact⟨⟨hs,qse (qcz hc) hZ⟩,q0z hZ⟩
end Go.Proofs.YtddeacahiilikaaGreat
