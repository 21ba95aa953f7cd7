/- A round of the signals, by settle. A round of the signals, by settle: the function. Sorting in place: own slices of numbers in a memory. Sorting in place: two numbers, the median. Sorting in place: insertion, reversing, the heap. -/
import Derived.Test.YtddeacahiilikaaGreatRu2
import Derived.Test.YtddeacahiilikaaGreatEv1
import Derived.Test.YtddeacahiilikaaGreatVs3
import Derived.Test.YtddeacahiilikaaGreatCt2
import Derived.Sort.AssemblyPlain
import Derived.Test.YtddeacahiilikaaGreatPg6
set_option linter.all false
namespace Go.Proofs.YtddeacahiilikaaGreat
open Go Go.Am Go.Proofs
set_option maxRecDepth 100000
theorem ev277(s:Ste)(hs:s.small):ev pg (.call (.fn 277 [] []) [s.v] [])=some { v:=ztl s,st:=⟨[],jgt s⟩ }:=by
 have e1:=ev106 s.ends hs.e
 have e2:=ev190 s.valves hs.w
 have e3:=ev190 s.inputs hs.i
 have e4:=ev190 s.values hs.v
 have e5:=ev106 s.timers hs.t
 rw[qac,pg277]
 simp[qaa,exT,qaf,ir277,e1,e2,e3,e4,e5,qct,qel,qmk,qek]
theorem ev116(s:Ste)(hs:s.small):ev pg (.call (.fn 116 [] []) [s.v] [])=some { v:=ztl s,st:=⟨[],jgt s⟩ }:=by
 have e1:=ev106 s.ends hs.e
 have e2:=ev190 s.valves hs.w
 have e3:=ev190 s.inputs hs.i
 have e4:=ev190 s.values hs.v
 have e5:=ev106 s.timers hs.t
 rw[qac,pg116]
 simp[qaa,exT,qaf,ir116,e1,e2,e3,e4,e5,qct,qel,qmk,qek]
def zxl(k:Int):V:=if k=0 then .fn 308 [] []else if k=1 then .fn 309 [] []else .fn 310 [] []
theorem zqu(x:Sg)(L:List Bool)(v:Bool)(t:Int)(hk:x.kind=0\/x.kind=1\/x.kind=2):ev pg (.call (zxl x.kind) [chg v t false,.bool (x.on.holds L),.bool (zar x L)] [])=some { v:=chg (qop x L v t).1 (qop x L v t).2 (x.on.holds L&&zar x L),st:=⟨[],[]⟩ }:=by
 have hoff:x.kind≠1->zar x L=false:=fun h=>by unfold zar;simp[h]
 have hoff1:x.kind=1->zar x L=x.off.holds L:=fun h=>by unfold zar;simp[h]
 unfold zxl qop
 rcases hk with h | h | h
 .rw[if_pos h,hoff (by omega),ev308,if_neg (by omega),if_neg (by omega)]
  simp
 .rw[if_neg (by omega),if_pos h,hoff1 h,ev309,if_pos h]
  cases x.on.holds L<;>cases x.off.holds L<;>simp
 .have e:=ev310 v t false (x.on.holds L) false
  rw[hoff (by omega)]
  simp only[h]
  simp
  rw[e]
  cases x.on.holds L
  .simp
  .by_cases h0:t=0<;>simp[h0]
abbrev z0g(c:Ct)(s g b:Ste)(gq wq:Nat)(L:List Int)(k:Nat)(a:Nat×Nat):H:=zoc c s ⟨g.ends,g.valves,g.inputs,tv c g k,tt c g k⟩ b (qan g) gq wq L++[⟨0,.arr 1 ((qah g).map qht)⟩,⟨0,.box [.fn 308 [] [],.fn 309 [] [],.fn 310 [] []]⟩,o0,⟨a.1,.arr a.2 ((bdL c g (qan g) k).map qcc)⟩]
def zzz(c:Ct)(g:Ste)(k:Nat)(a:Nat×Nat):Tm:=[some (.bptr 15 0),none,some (.bool false),some (.sl 31 0 0 0 0),some (.bptr 28 0),some (.sl 29 0 1 0 (qah g).length),some (.bptr 30 0),some (.sl 32 a.1 a.2 0 (bdL c g (qan g) k).length)]++List.replicate 17 none++[some (.imm (c.signals.map Sg.row)),some (num c.signals.length),some (num k)]++List.replicate 77 none
set_option maxHeartbeats 4000000 in
theorem jhu(c:Ct)(s g b:Ste)(gq wq:Nat)(L:List Int)(hs:g.small)(hS:Shp c g)(hn:c.signals.length<=128)(hF:qan g<=10000)(hok:∀x∈c.signals,SigOk (qah g).length x)(hkd:∀x∈c.signals,x.kind=0\/x.kind=1\/x.kind=2){st:St}(a0:Nat×Nat)(g0:a0.2=1\/a0.2=0)(h0:At (zzz c g 0 a0) (z0g c s g b gq wq L 0 a0) st):∃r,ev pg (.code (.going 33 L278_0) st)=some r/\∃a:Nat×Nat,(a.2=1\/a.2=0)/\qam (.exit 0) (zzz c g c.signals.length a) (z0g c s g b gq wq L c.signals.length a) r:=by
 refine qcz c.signals.length (zzz c g) (z0g c s g b gq wq L) (fun _ a=>a.2=1\/a.2=0) _ ?_ ?_ a0 g0 h0
 .rintro k ⟨gn,m⟩ f hf hk hG
  have hk':(k:Int)<c.signals.length:=by omega
  have wk:=qab (n:=(k:Int)+1) (by omega) (by omega)
  have hkv:k<g.values.length:=by rw[hS.v];exact hk
  have hkt:k<g.timers.length:=by rw[hS.t];exact hk
  have hx:=hok _ (jH hk)
  have hrule:=zqu c.signals[k] (qah g) g.values[k] g.timers[k] (hkd _ (jH hk))
  have e1:=ev302 (qah g) c.signals[k].on hx.on.1 hx.on.2
  have hlen:(qgj c g).length=c.signals.length:=qpq _ hS.v hS.t
  have hkl:k<(qgj c g).length:=by omega
  have hget':(qgj c g)[k]=qop c.signals[k] (qah g) g.values[k] g.timers[k]:=by
   have:(qgj c g)[k]?=some (qop c.signals[k] (qah g) g.values[k] g.timers[k]):=qpp _ (jA hk) (jA hkv) (jA hkt)
   rw[jA hkl]at this
   exact Option.some.inj this
  have l1:((qgj c g).map Prod.fst).length=g.values.length:=by rw[List.length_map,hlen,hS.v]
  have l2:((qgj c g).map Prod.snd).length=g.timers.length:=by rw[List.length_map,hlen,hS.t]
  have f1:=qtn (A:=(qgj c g).map Prod.fst) (B:=g.values) l1 (k:=k) (by rw[List.length_map];exact hkl)
  have f2:=qtn (A:=(qgj c g).map Prod.snd) (B:=g.timers) l2 (k:=k) (by rw[List.length_map];exact hkl)
  rw[List.getElem_map,hget']at f1 f2
  have m1:=qvf (A:=(qgj c g).map Prod.fst) (B:=g.values) l1 (k:=k) (by rw[List.length_map];omega)
  have m2:=qvf (A:=(qgj c g).map Prod.snd) (B:=g.timers) l2 (k:=k) (by rw[List.length_map];omega)
  rw[l1]at m1
  rw[l2]at m2
  have n1:=qyy (A:=(qgj c g).map Prod.fst) (B:=g.values) l1 (k:=k) (by rw[List.length_map];exact hkl)
  have n2:=qyy (A:=(qgj c g).map Prod.snd) (B:=g.timers) l2 (k:=k) (by rw[List.length_map];exact hkl)
  rw[jA hkv]at n1
  rw[jA hkt]at n2
  have f3:=qpf (zjv c (qah g)) (qan g:Nat) k
  have hb:zjv c (qah g) k=(c.signals[k].on.holds (qah g)&&zar c.signals[k] (qah g)):=by
   unfold zjv;rw[jA hk];rfl
  rw[hb]at f3
  have hsl:=qke (zjv c (qah g)) (qan g:Nat) k
  unfold zzz z0g tv tt bdL
  rw[<-f1,<-f2,f3]
  have e2:c.signals[k].kind=1->ev pg (.call (.fn 302 [] []) [c.signals[k].off.v,qfd (qah g)] [])=some { v:=.bool (zar c.signals[k] (qah g)),st:=⟨[],[]⟩ }:=fun h=>by
   rw[ev302 (qah g) c.signals[k].off (hx.off h).1 (hx.off h).2]
   unfold zar
   simp[h]
  have hoff:c.signals[k].kind≠1->zar c.signals[k] (qah g)=false:=fun h=>by unfold zar;simp[h]
  generalize hv0:g.values[k]=v0 at *
  generalize ht0:g.timers[k]=t0 at *
  generalize mix ((qgj c g).map Prod.fst) g.values k=VV at *
  generalize mix ((qgj c g).map Prod.snd) g.timers k=TT at *
  generalize qib (zjv c (qah g)) (qan g:Nat) k=BB at *
  generalize qop c.signals[k] (qah g) v0 t0=p at *
  generalize qan g=F at *
  generalize hon:c.signals[k].on.holds (qah g)=on at *
  generalize zar c.signals[k] (qah g)=off at *
  generalize qah g=LL at *
  have hkV:k<VV.length:=by omega
  have hkT:k<TT.length:=by omega
  have v1:VV[k]=v0:=by
   rw[jA hkV]at n1
   exact Option.some.inj n1
  have t1:TT[k]=t0:=by
   rw[jA hkT]at n2
   exact Option.some.inj n2
  have hb1:(BB.length+1)*8<=140737488355328:=by omega
  have wF:=qab (n:=(F:Int)+k) (by omega) (by omega)
  have hmm:m=1\/m=0:=hG
  obtain⟨p1,p2⟩:=p
  unfold zxl at hrule
  rcases hkd _ (jH hk)with h0 | h0 | h0
  .have h0b:(c.signals[k].kind==1)=false:=by rw[h0];rfl
   obtain rfl:=hoff (by omega)
   rw[if_pos h0,Bool.and_false]at hrule
   rcases hmm with rfl | rfl<;>simp[qaa,exT,qaf,L278_0,hk,hk',wk,h0,e1,hrule,hkV,hkT,v1,t1,hf.ne]
  .rw[if_neg (by omega),if_pos h0]at hrule
   have e2':=e2 h0
   generalize hcf:(on&&off)=cf at *
   rcases hmm with rfl | rfl<;>cases cf<;>simp[qaa,exT,qaf,L278_0,hk,hk',wk,h0,e1,e2',hrule,hkV,hkT,v1,t1,wF,hb1,hf.ne]
  .have h0b:(c.signals[k].kind==1)=false:=by rw[h0];rfl
   obtain rfl:=hoff (by omega)
   rw[if_neg (by omega),if_neg (by omega),Bool.and_false]at hrule
   rcases hmm with rfl | rfl<;>simp[qaa,exT,qaf,L278_0,hk,hk',wk,h0,e1,hrule,hkV,hkT,v1,t1,hf.ne]
 .rintro⟨gn,m⟩ f hf hG
  unfold zzz z0g
  generalize bdL c g (qan g) c.signals.length=BB at *
  have hmm:m=1\/m=0:=hG
  rcases hmm with rfl | rfl<;>simp[L278_0,hf.ne]
theorem zxc{c:Ct}(hc:c.check=0){x:Sg}(hx:x∈c.signals):x.kind=0\/x.kind=1\/x.kind=2:=by
 obtain⟨i,hi,rfl⟩:=List.getElem_of_mem hx
 have hz:=qtc hc i _ (jA hi)
 unfold q4v at hz
 split at hz
 .split at hz
  .cases hz
  .omega
 .rename_i h4;exact absurd hz h4
set_option maxHeartbeats 2000000 in
theorem ev278{c:Ct}{u:Ste}(s:Ste)(h:Rdy c u)(gq wq:Nat)(L:List Int):ev pg (.call (.fn 278 [] []) [.bptr 15 0] (hM c s u (qan u)++hQ gq wq L))=some { v:=.tup [.bool (!qln u (qli c u)),qcl (zcy c u)],st:=⟨[],hM c s (qli c u) (qan u)++hQ gq wq L⟩ }:=by
 have hs:=h.small
 have hS:=h.shp
 have hM':=h.mid
 have hn:=hM'.sig
 have e1:1<=u.ends.length:=by have:=hS.e;have:=hM'.lo;have:=hM'.act;omega
 have hF:qan u<=10000:=by have:=hS.e;have:=hS.i;have:=hM'.inp;have:=hM'.hi;have:=hM'.act;unfold qan;omega
 have e149:=ev277 u hs
 have e162:=ev299 c s u u gq wq L hs hS hn hF e1 (fun x hx=>(h.sig x hx).on)
 have hR:=qkc h.st
 have hG:Rdy c (qfb c u):=⟨h.few,hR⟩
 have hgl:=qvb (c:=c) u
 have hfs:qan (qfb c u)=qan u:=rfl
 have e163:=ev300 c s (qfb c u) u (qan u) gq wq L hG.small e1
 have hl:=@jhu c s (qfb c u) u gq wq L hG.small hG.shp hn hF hG.sig (fun x hx=>zxc h.chk hx)
 have e47:=ev114 u (qli c u) hs
 unfold qli at e47 ⊢
 unfold zcy
 have q1:(qfb c u).ends=u.ends:=rfl
 have q2:(qfb c u).valves=u.valves:=rfl
 have q3:(qfb c u).inputs=u.inputs:=rfl
 have q4:(qfb c u).timers=u.timers:=rfl
 have hGv:=hG.shp.v
 have hGt:=hG.shp.t
 clear hR hG hfs
 generalize qfb c u=g at *
 obtain⟨ge,gw,gi,gv,gt⟩:=g
 simp only at q1 q2 q3 q4 hGv hGt hgl
 subst q1 q2 q3 q4
 generalize hg:(⟨u.ends,u.valves,u.inputs,gv,u.timers⟩:Ste)=g at *
 have hlen:(qgj c g).length=c.signals.length:=qpq _ (by rw[<-hg];exact hGv) (by rw[<-hg];exact hGt)
 have l1:((qgj c g).map Prod.fst).length=g.values.length:=by rw[List.length_map,hlen,<-hGv,<-hg]
 have l2:((qgj c g).map Prod.snd).length=g.timers.length:=by rw[List.length_map,hlen,<-hGt,<-hg]
 have z1:tv c g 0=g.values:=qpx _ _
 have z2:tt c g 0=g.timers:=qpx _ _
 have f1:tv c g c.signals.length=(qgj c g).map Prod.fst:=by
  have:=qtp l1
  rwa [List.length_map,hlen]at this
 have f2:tt c g c.signals.length=(qgj c g).map Prod.snd:=by
  have:=qtp l2
  rwa [List.length_map,hlen]at this
 have z3:bdL c g (qan g) 0=[]:=rfl
 have hFF:qan g=qan u:=by rw[<-hg]
 unfold z0g zzz at hl
 rw[z3,z1,z2,f1,f2]at hl
 rw[hFF]at hl
 unfold qwj at e47 ⊢
 rw[show qib (zjv c (qah g)) (qan u:Nat) c.signals.length=bdL c g (qan u) c.signals.length from rfl]
 have hgc:g.ends=u.ends/\g.valves=u.valves/\g.inputs=u.inputs/\g.values=gv/\g.timers=u.timers:=by rw[<-hg];exact⟨rfl,rfl,rfl,rfl,rfl⟩
 obtain⟨k1,k2,k3,k4,k5⟩:=hgc
 rw[k1,k2,k3]at hl e47 ⊢
 rw[k4,k5]at hl
 rw[k4,hgl]at l1
 rw[k5]at l2
 rw[<-hg]at e162
 generalize bdL c g (qan u) c.signals.length=BB at *
 generalize (qgj c g).map Prod.fst=VV at *
 generalize (qgj c g).map Prod.snd=TT at *
 generalize qah g=LL at *
 generalize qan u=F at *
 generalize qln u _=same at *
 rw[<-hg]at e163
 simp at e162 e163
 rw[qac,pg278]
 simp[ir278,e149,e162,e163,ev301,qag]
 generalize hr:ev pg (.code (.going _ L278_0) _)=o
 obtain⟨r,rfl,⟨gn,m⟩,hm,f,hf,rfl⟩:∃r,o=some r/\_:=by rw[<-hr];exact hl (0,0) (.inr rfl) (by simp)
 clear hr
 have hmm:m=1\/m=0:=hm
 rcases hmm with rfl | rfl<;>simp[qaa,exT,qaf,e47,l1.symm,l2.symm]
def qhg(d:Array Int):List (List V):=d.toList.map qcc
def put(h:H)(i g:Nat)(d:Array Int):H:=h.set i ⟨g,.arr 1 (qhg d)⟩
@[simp] theorem z3w(d:Array Int):(qhg d).length=d.size:=by simp[qhg]
@[simp] theorem qks(h:H)(i g:Nat)(d:Array Int):(put h i g d).length=h.length:=by simp[put]
theorem q5i{h:H}{i:Nat}(hi:i<h.length)(g:Nat)(d:Array Int):(put h i g d)[i]?=some ⟨g,.arr 1 (qhg d)⟩:=by
 unfold put
 rw[jN hi]
theorem zek{d:Array Int}{k:Nat}(hk:k<d.size):(qhg d)[k]?=some [num d[k]!]:=by
 unfold qhg
 rw[List.getElem?_map,Array.getElem?_toList,Array.getElem?_eq_getElem hk,Option.map_some,getElem!_pos d k hk]
theorem qbw(d:Array Int)(k:Nat)(v:Int):(qhg d).set k [num v]=qhg (d.setIfInBounds k v):=by
 unfold qhg
 rw[Array.toList_setIfInBounds,List.map_set]
theorem zef(h:H)(i g:Nat)(d:Array Int)(d':Array Int):(put h i g d).set i ⟨g,.arr 1 (qhg d')⟩=put h i g d':=by
 unfold put
 rw[List.set_set]
theorem qnf{h:H}(hc:qce h)(i g:Nat)(d:Array Int):qce (put h i g d):=by
 rw[qiz]at hc ⊢
 intro o ho
 rw[qks]
 unfold put at ho
 rcases jT ho with h1 | h1
 .exact hc o h1
 .rw[h1];rfl
theorem zyu{h:H}(hc:qce h)(i g:Nat)(d:Array Int):qap h.length (put h i g d)=put h i g d:=by
 have:=qdz (qnf hc i g d)
 rwa [qks]at this
theorem zkr{h:H}(hc:qce h)(i g:Nat)(d:Array Int):qbb h.length (put h i g d)=put h i g d:=by
 have:=qgz (qnf hc i g d)
 rwa [qks]at this
theorem q9u{h:H}{i g:Nat}{d:Array Int}(hi:h[i]?=some ⟨g,.arr 1 (qhg d)⟩):put h i g d=h:=by
 unfold put
 obtain⟨hl,e⟩:=jG.1 hi
 rw[<-e,List.set_getElem_self]
abbrev ltI:Int->Int->Bool:=Go.Sort.ltInt
theorem ev285(x:Int):ev pg (.call (.fn 285 [] []) [num x] [])=some { v:=.bool false,st:=⟨[],[]⟩ }:=by
 rw[qac,pg285]
 simp[ir285]
theorem ev249(x y:Int):ev pg (.call (.fn 249 [] []) [num x,num y] [])=some { v:=.bool (ltI x y),st:=⟨[],[]⟩ }:=by
 have h1:=ev285 x
 rw[qac,pg249]
 unfold ltI Go.Sort.ltInt
 simp[ir249,h1]
theorem qao{d:Array Int}{k:Nat}(hk:k<d.size):∀h,(qhg d)[k]'h=[num d[k]!]:=by
 intro h
 have:=zek hk
 rw[jA h]at this
 exact Option.some.inj this
abbrev zsh(h:H)(i g:Nat)(d:Array Int)(s:Int):H:=put h i g d++[⟨0,.box [num s]⟩]
theorem zie{h:H}(hc:qce h)(i g:Nat)(d:Array Int)(s:Int):qce (zsh h i g d s):=by
 refine qdp (qnf hc i g d) ?_
 intro o ho
 rw[List.mem_singleton.1 ho]
 rfl
theorem qqa{h:H}(hc:qce h)(i g:Nat)(d:Array Int)(s:Int):qap (h.length+1) (put h i g d++[⟨0,.box [num s]⟩])=put h i g d++[⟨0,.box [num s]⟩]:=by
 have:=qdz (zie hc i g d s)
 simpa using this
theorem zno{h:H}{i:Nat}(hi:i<h.length)(g:Nat)(d:Array Int)(s:Int):(put h i g d++[⟨0,.box [num s]⟩])[i]?=some ⟨g,.arr 1 (qhg d)⟩:=by
 rw[jI (by simpa using hi),q5i hi]
theorem q8i(h:H)(i g:Nat)(d:Array Int)(s:Int):(put h i g d++[⟨0,.box [num s]⟩])[h.length]?=some ⟨0,.box [num s]⟩:=by
 rw[jJ (by simp),qks,Nat.sub_self]
 rfl
theorem zmg(h:H)(i g:Nat)(d:Array Int)(s t:Int):(put h i g d++[(⟨0,.box [num s]⟩:Ob)]).set h.length ⟨0,.box [num t]⟩=put h i g d++[⟨0,.box [num t]⟩]:=by
 rw[List.set_append_right _ _ (by simp),qks,Nat.sub_self]
 rfl
theorem ev303{h:H}{i:Nat}(hi:i<h.length)(hc:qce h)(g:Nat)(d:Array Int)(a b:Nat)(s:Nat)(ha:a<d.size)(hb:b<d.size)(hs:s<=100000):ev pg (.call (.fn 303 [] []) [.sl i g 1 0 d.size,num a,num b,.bptr h.length 0] (zsh h i g d s))=some { v:=.tup [num (Go.Sort.order2 ltI d a b s).1,num (Go.Sort.order2 ltI d a b s).2.1],st:=⟨[],zsh h i g d (Go.Sort.order2 ltI d a b s).2.2⟩ }:=by
 have g1:=zno hi g d s
 have g2:=q8i h i g d s
 have g3:=zmg h i g d s (s+1)
 have g4:=qqa hc i g d s
 have g5:=qqa hc i g d (s+1)
 have r1:=qao ha
 have r2:=qao hb
 have h111:=ev249 d[b]! d[a]!
 have ws:=qab (n:=(s:Int)+1) (by omega) (by omega)
 rw[qac,pg303]
 unfold Go.Sort.order2
 generalize d[a]! = x at *
 generalize d[b]! = y at *
 cases hl:ltI y x<;>rw[hl]at h111<;>simp[-qap,qaa,exT,qaf,ir303,g1,g2,g3,g4,g5,r1,r2,h111,ws,ha,hb]
theorem qjj{n:Nat}{d:Array Int}{a b s:Nat}(ha:a<n)(hb:b<n):(Go.Sort.order2 ltI d a b s).1<n/\(Go.Sort.order2 ltI d a b s).2.1<n/\(Go.Sort.order2 ltI d a b s).2.2<=s+1:=by
 unfold Go.Sort.order2
 split
 .exact⟨hb,ha,jD _⟩
 .exact⟨ha,hb,by simp⟩
theorem qvh{n:Nat}{d:Array Int}{a b c s:Nat}(ha:a<n)(hb:b<n)(hc:c<n):(Go.Sort.median ltI d a b c s).1<n/\(Go.Sort.median ltI d a b c s).2<=s+3:=by
 unfold Go.Sort.median
 obtain⟨h1,h2,h3⟩:=qjj (d:=d) (s:=s) ha hb
 generalize Go.Sort.order2 ltI d a b s=r1 at *
 obtain⟨h4,h5,h6⟩:=qjj (d:=d) (s:=r1.2.2) h2 hc
 simp only
 generalize Go.Sort.order2 ltI d r1.2.1 c r1.2.2=r2 at *
 obtain⟨h7,h8,h9⟩:=qjj (d:=d) (s:=r2.2.2) h1 h4
 exact⟨h8,by omega⟩
theorem ev284{h:H}{i:Nat}(hi:i<h.length)(hc:qce h)(g:Nat)(d:Array Int)(a b c:Nat)(s:Nat)(ha:a<d.size)(hb:b<d.size)(hcc:c<d.size)(hs:s<=90000):ev pg (.call (.fn 284 [] []) [.sl i g 1 0 d.size,num a,num b,num c,.bptr h.length 0] (zsh h i g d s))=some { v:=num (Go.Sort.median ltI d a b c s).1,st:=⟨[],zsh h i g d (Go.Sort.median ltI d a b c s).2⟩ }:=by
 have g4:=fun s=>qqa hc i g d s
 have e1:=ev303 hi hc g d a b s ha hb (by omega)
 unfold Go.Sort.median
 obtain⟨h1,h2,h3⟩:=qjj (d:=d) (s:=s) ha hb
 generalize Go.Sort.order2 ltI d a b s=r1 at *
 have e2:=ev303 hi hc g d r1.2.1 c r1.2.2 h2 hcc (by omega)
 obtain⟨h4,h5,h6⟩:=qjj (d:=d) (s:=r1.2.2) h2 hcc
 simp only
 generalize Go.Sort.order2 ltI d r1.2.1 c r1.2.2=r2 at *
 have e3:=ev303 hi hc g d r1.1 r2.1 r2.2.2 h1 h4 (by omega)
 obtain⟨h7,h8,h9⟩:=qjj (d:=d) (s:=r2.2.2) h1 h4
 generalize Go.Sort.order2 ltI d r1.1 r2.1 r2.2.2=r3 at *
 rw[qac,pg284]
 simp[-qap,ir284,e1,e2,e3,g4]
theorem ev283{h:H}{i:Nat}(hi:i<h.length)(hc:qce h)(g:Nat)(d:Array Int)(a:Nat)(s:Nat)(h1:1<=a)(ha:a+1<d.size)(hn:d.size<=1000000)(hs:s<=90000):ev pg (.call (.fn 283 [] []) [.sl i g 1 0 d.size,num a,.bptr h.length 0] (zsh h i g d s))=some { v:=num (Go.Sort.medianAdjacent ltI d a s).1,st:=⟨[],zsh h i g d (Go.Sort.medianAdjacent ltI d a s).2⟩ }:=by
 have g4:=fun s=>qqa hc i g d s
 have e1:=ev284 hi hc g d (a-1) a (a+1) s (by omega) (by omega) ha hs
 unfold Go.Sort.medianAdjacent
 have w1:=qab (n:=(a:Int)-1) (by omega) (by omega)
 have w2:=qab (n:=(a:Int)+1) (by omega) (by omega)
 generalize Go.Sort.median ltI d (a-1) a (a+1) s=r at *
 rw[show(((a-1:Nat)):Int)=(a:Int)-1 by omega,show(((a+1:Nat)):Int)=(a:Int)+1 by omega]at e1
 rw[qac,pg283]
 simp[-qap,ir283,e1,g4,w1,w2]
def qwo:Go.Sort.Hint->Int
 | .unknown=>0
 | .increasing=>1
 | .decreasing=>2
theorem ev246{h:H}{i:Nat}(hi:i<h.length)(hc:qce h)(g:Nat)(d:Array Int)(a l:Nat)(hb:a+l<=d.size)(h8:8<=l)(hn:d.size<=1000000):ev pg (.call (.fn 246 [] []) [.sl i g 1 0 d.size,num a,num (a+l:Nat)] (put h i g d))=some { v:=.tup [num (Go.Sort.choosePivot ltI d a (a+l)).1,num (qwo (Go.Sort.choosePivot ltI d a (a+l)).2)],st:=⟨[],put h i g d⟩ }:=by
 have g4:=fun s=>qqa hc i g d s
 have g2:=fun s=>q8i h i g d s
 have g5:∀s,qap h.length (put h i g d++[⟨0,.box [num s]⟩])=put h i g d:=fun s=>by
  have:=qcx (qnf hc i g d) [⟨0,.box [num s]⟩]
  rwa [qks]at this
 unfold Go.Sort.choosePivot
 simp only[Nat.add_sub_cancel_left,Nat.mul_one,ge_iff_le,h8,if_true]
 have hq:Int.tdiv (l:Int) 4=((l / 4:Nat):Int):=by
  rw[show(4:Int)=((4:Nat):Int)by rfl,<-Int.ofNat_tdiv]
 have q1:4*(l / 4)<=l:=by omega
 have q2:2<=l / 4:=by omega
 generalize l / 4=q at *
 have h8':(8:Int)<=l:=by omega
 have wl:IntKind.i64.wrap ((a:Int)+l-a)=(l:Int):=by
  rw[qab (by omega) (by omega)]
  omega
 have wq:=qab (n:=(q:Int)) (by omega) (by omega)
 have wq2:=qab (n:=(q:Int)*2) (by omega) (by omega)
 have wq3:=qab (n:=(q:Int)*3) (by omega) (by omega)
 have wi:=qab (n:=(a:Int)+q) (by omega) (by omega)
 have wj:=qab (n:=(a:Int)+q*2) (by omega) (by omega)
 have wk:=qab (n:=(a:Int)+q*3) (by omega) (by omega)
 by_cases h50:50<=l
 .have h50':(50:Int)<=l:=by omega
  simp only[h50,if_true]
  have e1:=ev283 hi hc g d (a+q) 0 (by omega) (by omega) hn (by omega)
  have b1:=qvh (d:=d) (s:=0) (a:=a+q-1) (b:=a+q) (c:=a+q+1) (n:=d.size) (by omega) (by omega) (by omega)
  change (Go.Sort.medianAdjacent ltI d (a+q) 0).1<d.size/\(Go.Sort.medianAdjacent ltI d (a+q) 0).2<=0+3 at b1
  generalize Go.Sort.medianAdjacent ltI d (a+q) 0=r1 at *
  have e2:=ev283 hi hc g d (a+q*2) r1.2 (by omega) (by omega) hn (by omega)
  have b2:=qvh (d:=d) (s:=r1.2) (a:=a+q*2-1) (b:=a+q*2) (c:=a+q*2+1) (n:=d.size) (by omega) (by omega) (by omega)
  change (Go.Sort.medianAdjacent ltI d (a+q*2) r1.2).1<d.size/\(Go.Sort.medianAdjacent ltI d (a+q*2) r1.2).2<=r1.2+3 at b2
  generalize Go.Sort.medianAdjacent ltI d (a+q*2) r1.2=r2 at *
  have e3:=ev283 hi hc g d (a+q*3) r2.2 (by omega) (by omega) hn (by omega)
  have b3:=qvh (d:=d) (s:=r2.2) (a:=a+q*3-1) (b:=a+q*3) (c:=a+q*3+1) (n:=d.size) (by omega) (by omega) (by omega)
  change (Go.Sort.medianAdjacent ltI d (a+q*3) r2.2).1<d.size/\(Go.Sort.medianAdjacent ltI d (a+q*3) r2.2).2<=r2.2+3 at b3
  generalize Go.Sort.medianAdjacent ltI d (a+q*3) r2.2=r3 at *
  have e4:=ev284 hi hc g d r1.1 r2.1 r3.1 r3.2 b1.1 b2.1 b3.1 (by omega)
  generalize Go.Sort.median ltI d r1.1 r2.1 r3.1 r3.2=r at *
  obtain⟨m,t⟩:=r
  rw[qac,pg246]
  simp at e1 e2 e3 e4
  by_cases t0:t=0
  .subst t0
   simp[-qap,ir246,h8',h50',hq,wl,wq,wq2,wq3,wi,wj,wk,e1,e2,e3,e4,g4,g2,g5,qwo]
  .have t0':((t:Int)==0)=false:=by simp;omega
   by_cases t1:t=12
   .subst t1
    simp[-qap,ir246,h8',h50',hq,wl,wq,wq2,wq3,wi,wj,wk,e1,e2,e3,e4,g4,g2,g5,qwo]
   .have t1':((t:Int)==12)=false:=by simp;omega
    simp[-qap,ir246,h8',h50',hq,wl,wq,wq2,wq3,wi,wj,wk,e1,e2,e3,e4,g4,g2,g5,qwo,t0,t0',t1,t1']
 .have h50':¬(50:Int)<=l:=by omega
  simp only[h50,if_false]
  have e4:=ev284 hi hc g d (a+q) (a+q*2) (a+q*3) 0 (by omega) (by omega) (by omega) (by omega)
  generalize Go.Sort.median ltI d (a+q) (a+q*2) (a+q*3) 0=r at *
  obtain⟨m,t⟩:=r
  rw[qac,pg246]
  simp at e4
  by_cases t0:t=0
  .subst t0
   simp[-qap,ir246,h8',h50',hq,wl,wq,wq2,wq3,wi,wj,wk,e4,g4,g2,g5,qwo]
  .have t0':((t:Int)==0)=false:=by simp;omega
   by_cases t1:t=12
   .subst t1
    simp[-qap,ir246,h8',h50',hq,wl,wq,wq2,wq3,wi,wj,wk,e4,g4,g2,g5,qwo]
   .have t1':((t:Int)==12)=false:=by simp;omega
    simp[-qap,ir246,h8',h50',hq,wl,wq,wq2,wq3,wi,wj,wk,e4,g4,g2,g5,qwo,t0,t0',t1,t1']
theorem qgw{P:Prg}{nx:Nat}{c:C}{T T':Tm}{h h':H}{Q:R->Prop}
  (step:∀f,Junk f->∃r,ev P (.code c ⟨fill f 0 T,h⟩)=some r/\((r.x=.normal/\At T' h' (qil nx r.st))\/(r.x ≠ .normal/\Q r)))
  (next:∀st,At T' h' st->∃r,ev P (.code (.going nx c) st)=some r/\Q r) {st:St} (h0:At T h st):∃r,ev P (.code (.going nx c) st)=some r/\Q r:=by
 obtain⟨f,hf,rfl⟩:=h0.eq
 obtain⟨r,e,hr⟩:=step f hf
 rw[qdt,e]
 rcases hr with⟨hx,ha⟩ | ⟨hx,hq⟩
 .obtain⟨r',e',hq⟩:=next _ ha
  refine⟨r',?_,hq⟩
  simp only[hx]
  exact e'
 .refine⟨r,?_,hq⟩
  simp only
theorem qbf{P:Prg}{nx:Nat}{c:C}{T:Tm}{h:H}{Q:R->Prop}
  (step:∀f,Junk f->∃r,ev P (.code c ⟨fill f 0 T,h⟩)=some r/\r.x ≠ .normal/\Q r) {st:St} (h0:At T h st):∃r,ev P (.code (.going nx c) st)=some r/\Q r:=by
 obtain⟨f,hf,rfl⟩:=h0.eq
 obtain⟨r,e,hx,hq⟩:=step f hf
 rw[qdt,e]
 refine⟨r,?_,hq⟩
 simp only
theorem qci(e:Array Int)(k:Nat):∃z,∀h,(qhg e)[k]'h=[num z]:=⟨e[k]!,fun h=>qao (by simpa using h) h⟩
structure Mem(h:H)(i g:Nat):Prop where
 lt:i<h.length
 get:∀d hh,(put h i g d)[i]'hh=⟨g,.arr 1 (qhg d)⟩
 set:∀d d',(put h i g d).set i ⟨g,.arr 1 (qhg d')⟩=put h i g d'
 cl:∀d,qbb h.length (put h i g d)=put h i g d
 ck:∀d,qap h.length (put h i g d)=put h i g d
theorem qhz{h:H}{i:Nat}(hi:i<h.length)(hc:qce h)(g:Nat):Mem h i g :=
 ⟨hi,fun d hh=>by
  have:=q5i hi g d
  rw[jA hh]at this
  exact Option.some.inj this,zef h i g,zkr hc i g,zyu hc i g⟩
abbrev swI:Array Int->Nat->Nat->Array Int:=Go.Sort.swp
theorem qcv(d:Array Int)(a b:Nat):(swI d a b).size=d.size:=by simp[swI,Go.Sort.swp]
def zzt(i g n:Nat)(a b k j:Nat):Tm:=[some (.sl i g 1 0 n),some (num a),some (num b),none,none,none,some (num k),some (num j)]++List.replicate 41 none
def zeh(i g n:Nat)(a b k:Nat):Tm:=[some (.sl i g 1 0 n),some (num a),some (num b),none,none,none,some (num k),none]++List.replicate 41 none
theorem zou{h:H}{i g:Nat}(hm:Mem h i g)(n a b k:Nat)(hn:n<=1000000):∀(j:Nat) (d:Array Int),d.size=n->j<n->∀{st:St},At (zzt i g n a b k j) (put h i g d) st->∃r,ev pg (.code (.going h.length L243_0) st)=some r/\qam (.exit 2) (zeh i g n a b k) (put h i g (Go.Sort.insInner ltI a j d)) r/\(Go.Sort.insInner ltI a j d).size=n
 | 0,d,hd,hj,st,h0=>by
  rw[Go.Sort.insInner]
  refine qbf (fun f hf=>?_) h0
  have ha:¬((a:Int)<0):=by omega
  simp[-qap,-qbb,qaa,exT,qaf,L243_0,zzt,zeh,ha,hd,hf.ne]
 | j+1,d,hd,hj,st,h0=>by
  rw[Go.Sort.insInner]
  have m1:=hm.lt
  have m2:=hm.set
  have m3:=hm.get
  have r1:=qao (d:=d) (k:=j+1) (by omega)
  have r2:=qao (d:=d) (k:=j) (by omega)
  have h111:=ev249 d[j+1]! d[j]!
  have hjn:j<d.size:=by omega
  have p1:(0:Int)<=(j:Int)+1:=by omega
  have hjn2:j+1<d.size:=by omega
  have w1:=qab (n:=(j:Int)) (by omega) (by omega)
  by_cases ha:a<j+1
  .have ha':(a:Int)<(j:Int)+1:=by omega
   by_cases hl:ltI d[j+1]! d[j]! = true
   .rw[if_pos (by simp[ha,hl])]
    rw[hl]at h111
    have hsw:(d.setIfInBounds (j+1) d[j]!).setIfInBounds j d[j+1]! = swI d (j+1) j:=rfl
    have ih:=fun st=>@zou h i g hm n a b k hn j (swI d (j+1) j) (by rw[qcv];exact hd) (by omega) st
    refine qgw (T':=zzt i g n a b k j) (h':=put h i g (swI d (j+1) j)) (fun f hf=>?_) ih h0
    have m4:=hm.cl (swI d (j+1) j)
    generalize d[j+1]! = x at *
    generalize d[j]! = y at *
    generalize swI d (j+1) j=d' at *
    obtain⟨z,r3⟩:=qci (d.setIfInBounds (j+1) y) j
    simp[hm.lt,r3,-qap,-qbb,qaa,exT,qaf,L243_0,zzt,ha',m1,m2,m3,m4,r1,r2,h111,hjn,hjn2,p1,w1,qbw,hsw,hd.symm,hf.ne]
   .have hl':ltI d[j+1]! d[j]! = false:=by simpa using hl
    rw[if_neg (by simp[hl])]
    rw[hl']at h111
    refine qbf (fun f hf=>?_) h0
    generalize d[j+1]! = x at *
    generalize d[j]! = y at *
    simp[-qap,-qbb,qaa,exT,qaf,L243_0,zzt,ha',m1,m3,r1,r2,h111,hjn,hjn2,p1,w1,hd.symm,zeh,hf.ne]
  .have ha':¬(a:Int)<(j:Int)+1:=by omega
   rw[if_neg (by simp[ha])]
   refine qbf (fun f hf=>?_) h0
   simp[-qap,-qbb,qaa,exT,qaf,L243_0,zzt,zeh,ha',hd,hf.ne]
theorem qxj(lt:Int->Int->Bool)(a:Nat):∀(j:Nat) (d:Array Int),(Go.Sort.insInner lt a j d).size=d.size
 | 0,d=>rfl
 | j+1,d=>by
  rw[Go.Sort.insInner]
  split
  .rw[qxj lt a j];exact qcv _ _ _
  .rfl
def zfy(i g n:Nat)(a b k:Nat):Tm:=[some (.sl i g 1 0 n),some (num a),some (num b),none,none,none,some (num k)]++List.replicate 42 none
def zpo:Tm:=List.replicate 49 none
theorem zpj{h:H}{i g:Nat}(hm:Mem h i g)(n a b:Nat)(hn:n<=1000000)(hb:b<=n):∀(m k:Nat) (d:Array Int),d.size=n->b-k=m->∀{st:St},At (zfy i g n a b k) (put h i g d) st->∃r,ev pg (.code (.going h.length L243_1) st)=some r/\qam (.exit 0) zpo (put h i g (Go.Sort.insOuter ltI a b k d)) r/\(Go.Sort.insOuter ltI a b k d).size=n
 | 0,k,d,hd,hk,st,h0=>by
  rw[Go.Sort.insOuter,if_neg (by omega)]
  refine qbf (fun f hf=>?_) h0
  have hk':¬((k:Int)<b):=by omega
  simp[-qap,-qbb,L243_1,zfy,zpo,hk',hd,hf.ne]
 | m+1,k,d,hd,hk,st,h0=>by
  rw[Go.Sort.insOuter,if_pos (by omega)]
  have hk':(k:Int)<b:=by omega
  have hla:=@zou h i g hm n a b k hn k d hd (by omega)
  have wk:=qab (n:=(k:Int)+1) (by omega) (by omega)
  have m4:=hm.cl
  have hsz:(Go.Sort.insInner ltI a k d).size=n:=by
   have e:=qxj ltI a k d
   omega
  have ih:=fun st=>@zpj h i g hm n a b hn hb m (k+1) (Go.Sort.insInner ltI a k d) hsz (by omega) st
  refine qgw (T':=zfy i g n a b (k+1)) (h':=put h i g (Go.Sort.insInner ltI a k d)) (fun f hf=>?_) ih h0
  generalize Go.Sort.insInner ltI a k d=d' at *
  simp[-qap,-qbb,L243_1,zfy,hk',m4,qag,hf.ne]
  generalize hr:ev pg (.code (.going _ L243_0) _)=o
  obtain⟨r,rfl,⟨f2,hf2,rfl⟩,-⟩:∃r,o=some r/\_:=by rw[<-hr];exact hla (by simp[zzt,hf.ne])
  clear hr
  simp[-qap,-qbb,zeh,wk,m4,hm.lt,hf2.ne]
theorem ev243{h:H}{i:Nat}(hi:i<h.length)(hc:qce h)(g:Nat)(d:Array Int)(a b:Nat)(hb:b<=d.size)(hab:a<=b)(hn:d.size<=1000000):ev pg (.call (.fn 243 [] []) [.sl i g 1 0 d.size,num a,num b] (put h i g d))=some { v:=.tup [],st:=⟨[],put h i g (Go.Sort.insertionSort ltI d a b)⟩ }:=by
 have hm:=qhz hi hc g
 have m4:=hm.ck
 have hl:=@zpj h i g hm d.size a b hn hb _ (a+1) d rfl rfl
 have wa:=qab (n:=(a:Int)+1) (by omega) (by omega)
 unfold Go.Sort.insertionSort
 generalize Go.Sort.insOuter ltI a b (a+1) d=d' at *
 rw[qac,pg243]
 simp[-qap,-qbb,ir243,wa,qag]
 generalize hr:ev pg (.code (.going _ L243_1) _)=o
 obtain⟨r,rfl,⟨f2,hf2,rfl⟩,-⟩:∃r,o=some r/\_:=by rw[<-hr];exact hl (by simp[zfy])
 clear hr
 simp[-qap,-qbb,zpo,m4,hm.lt]
end Go.Proofs.YtddeacahiilikaaGreat
