/- A round of the signals, by settle. A round of the signals, by settle: the function. Sorting in place: own slices of numbers in a memory. Sorting in place: two numbers, the median. Sorting in place: insertion, reversing, the heap. -/
import Derived.Test.YtlhciedghbmjjaaGreatRu2
import Derived.KernelRfl
import Derived.Test.YtlhciedghbmjjaaGreatLo1
import Derived.Test.YtlhciedghbmjjaaGreatVs3
import Derived.Test.YtlhciedghbmjjaaGreatCt3
import Derived.Sort.AssemblyPlain
import Derived.Test.YtlhciedghbmjjaaGreatPg5
set_option linter.all false
namespace Go.Proofs.YtlhciedghbmjjaaGreat
open Go Go.Am Go.Proofs
set_option maxRecDepth 100000
theorem ev181(s:Ste)(hs:s.small):ev pg (.call (.fn 181 [] []) [s.v] [])=some { v:=zgz s,st:=⟨[],z5g s⟩ }:=by
 have e1:=ev92 s.ends hs.e
 have e2:=ev93 s.valves hs.w
 have e3:=ev93 s.inputs hs.i
 have e4:=ev93 s.values hs.v
 have e5:=ev92 s.timers hs.t
 rw[qac,pg181]
 simp[qaa,exT,qae,ir181,e1,e2,e3,e4,e5,qcr,qeo,qks,qem]
theorem ev56(s:Ste)(hs:s.small):ev pg (.call (.fn 56 [] []) [s.v] [])=some { v:=zgz s,st:=⟨[],z5g s⟩ }:=by
 have e1:=ev92 s.ends hs.e
 have e2:=ev93 s.valves hs.w
 have e3:=ev93 s.inputs hs.i
 have e4:=ev93 s.values hs.v
 have e5:=ev92 s.timers hs.t
 rw[qac,pg56]
 simp[qaa,exT,qae,ir56,e1,e2,e3,e4,e5,qcr,qeo,qks,qem]
def zts(k:Int):V:=if k=0 then .fn 197 [] []else if k=1 then .fn 198 [] []else .fn 199 [] []
theorem zqo(x:Sg)(L:List Bool)(v:Bool)(t:Int)(hk:x.kind=0\/x.kind=1\/x.kind=2):ev pg (.call (zts x.kind) [chg v t false,.bool (x.on.holds L),.bool (q0i x L)] [])=some { v:=chg (qkv x L v t).1 (qkv x L v t).2 (x.on.holds L&&q0i x L),st:=⟨[],[]⟩ }:=by
 have hoff:x.kind≠1->q0i x L=false:=fun h=>by unfold q0i;simp[h]
 have hoff1:x.kind=1->q0i x L=x.off.holds L:=fun h=>by unfold q0i;simp[h]
 unfold zts qkv
 rcases hk with h | h | h
 .rw[if_pos h,hoff (by omega),ev197,if_neg (by omega),if_neg (by omega)]
  simp
 .rw[if_neg (by omega),if_pos h,hoff1 h,ev198,if_pos h]
  cases x.on.holds L<;>cases x.off.holds L<;>simp
 .have e:=ev199 v t false (x.on.holds L) false
  rw[hoff (by omega)]
  simp only[h]
  simp
  rw[e]
  cases x.on.holds L
  .simp
  .by_cases h0:t=0<;>simp[h0]
abbrev zvr(c:Ct)(s g b:Ste)(gq wq:Nat)(L:List Int)(k:Nat)(a:Nat×Nat):H:=zmj c s ⟨g.ends,g.valves,g.inputs,tv c g k,tt c g k⟩ b (qao g) gq wq L++[⟨0,.arr 1 ((qad g).map qfi)⟩,⟨0,.box [.fn 197 [] [],.fn 198 [] [],.fn 199 [] []]⟩,o0,⟨a.1,.arr a.2 ((bdL c g (qao g) k).map qdc)⟩]
def zvs(c:Ct)(g:Ste)(k:Nat)(a:Nat×Nat):Tm:=[some (.bptr 15 0),none,some (.bool false),some (.sl 31 0 0 0 0),some (.bptr 28 0),some (.sl 29 0 1 0 (qad g).length),some (.bptr 30 0),some (.sl 32 a.1 a.2 0 (bdL c g (qao g) k).length)]++List.replicate 17 none++[some (.imm (c.signals.map Sg.row)),some (num c.signals.length),some (num k)]++List.replicate 77 none
set_option maxHeartbeats 4000000 in
theorem jbg(c:Ct)(s g b:Ste)(gq wq:Nat)(L:List Int)(hs:g.small)(hS:Shp c g)(hn:c.signals.length<=128)(hF:qao g<=10000)(hok:∀x∈c.signals,SigOk (qad g).length x)(hkd:∀x∈c.signals,x.kind=0\/x.kind=1\/x.kind=2){st:St}(a0:Nat×Nat)(g0:a0.2=1\/a0.2=0)(h0:At (zvs c g 0 a0) (zvr c s g b gq wq L 0 a0) st):∃r,ev pg (.code (.going 33 L182_0) st)=some r/\∃a:Nat×Nat,(a.2=1\/a.2=0)/\qag (.exit 0) (zvs c g c.signals.length a) (zvr c s g b gq wq L c.signals.length a) r:=by
 refine qbn c.signals.length (zvs c g) (zvr c s g b gq wq L) (fun _ a=>a.2=1\/a.2=0) _ ?_ ?_ a0 g0 h0
 .rintro k ⟨gn,m⟩ f hf hk hG
  have hk':(k:Int)<c.signals.length:=by omega
  have wk:=qab (n:=(k:Int)+1) (by omega) (by omega)
  have hkv:k<g.values.length:=by rw[hS.v];exact hk
  have hkt:k<g.timers.length:=by rw[hS.t];exact hk
  have hx:=hok _ (jH hk)
  have hrule:=zqo c.signals[k] (qad g) g.values[k] g.timers[k] (hkd _ (jH hk))
  have e1:=ev193 (qad g) c.signals[k].on hx.on.1 hx.on.2
  have hlen:(qde c g).length=c.signals.length:=qig _ hS.v hS.t
  have hkl:k<(qde c g).length:=by omega
  have hget':(qde c g)[k]=qkv c.signals[k] (qad g) g.values[k] g.timers[k]:=by
   have:(qde c g)[k]?=some (qkv c.signals[k] (qad g) g.values[k] g.timers[k]):=qoy _ (jA hk) (jA hkv) (jA hkt)
   rw[jA hkl]at this
   exact Option.some.inj this
  have l1:((qde c g).map Prod.fst).length=g.values.length:=by rw[List.length_map,hlen,hS.v]
  have l2:((qde c g).map Prod.snd).length=g.timers.length:=by rw[List.length_map,hlen,hS.t]
  have f1:=qjb (A:=(qde c g).map Prod.fst) (B:=g.values) l1 (k:=k) (by rw[List.length_map];exact hkl)
  have f2:=qjb (A:=(qde c g).map Prod.snd) (B:=g.timers) l2 (k:=k) (by rw[List.length_map];exact hkl)
  rw[List.getElem_map,hget']at f1 f2
  have m1:=qjy (A:=(qde c g).map Prod.fst) (B:=g.values) l1 (k:=k) (by rw[List.length_map];omega)
  have m2:=qjy (A:=(qde c g).map Prod.snd) (B:=g.timers) l2 (k:=k) (by rw[List.length_map];omega)
  rw[l1]at m1
  rw[l2]at m2
  have n1:=qqj (A:=(qde c g).map Prod.fst) (B:=g.values) l1 (k:=k) (by rw[List.length_map];exact hkl)
  have n2:=qqj (A:=(qde c g).map Prod.snd) (B:=g.timers) l2 (k:=k) (by rw[List.length_map];exact hkl)
  rw[jA hkv]at n1
  rw[jA hkt]at n2
  have f3:=qlt (q3s c (qad g)) (qao g:Nat) k
  have hb:q3s c (qad g) k=(c.signals[k].on.holds (qad g)&&q0i c.signals[k] (qad g)):=by
   unfold q3s;rw[jA hk];rfl
  rw[hb]at f3
  have hsl:=qhi (q3s c (qad g)) (qao g:Nat) k
  unfold zvs zvr tv tt bdL
  rw[<-f1,<-f2,f3]
  have e2:c.signals[k].kind=1->ev pg (.call (.fn 193 [] []) [c.signals[k].off.v,qcy (qad g)] [])=some { v:=.bool (q0i c.signals[k] (qad g)),st:=⟨[],[]⟩ }:=fun h=>by
   rw[ev193 (qad g) c.signals[k].off (hx.off h).1 (hx.off h).2]
   unfold q0i
   simp[h]
  have hoff:c.signals[k].kind≠1->q0i c.signals[k] (qad g)=false:=fun h=>by unfold q0i;simp[h]
  generalize hv0:g.values[k]=v0 at *
  generalize ht0:g.timers[k]=t0 at *
  generalize mix ((qde c g).map Prod.fst) g.values k=VV at *
  generalize mix ((qde c g).map Prod.snd) g.timers k=TT at *
  generalize qps (q3s c (qad g)) (qao g:Nat) k=BB at *
  generalize qkv c.signals[k] (qad g) v0 t0=p at *
  generalize qao g=F at *
  generalize hon:c.signals[k].on.holds (qad g)=on at *
  generalize q0i c.signals[k] (qad g)=off at *
  generalize qad g=LL at *
  have hkV:k<VV.length:=by omega
  have hkT:k<TT.length:=by omega
  have v1:VV[k]=v0:=by
   rw[jA hkV]at n1
   exact Option.some.inj n1
  have t1:TT[k]=t0:=by
   rw[jA hkT]at n2
   exact Option.some.inj n2
  have hb1:(BB.length+1)*8<=140737488355328:=by omega
  have wF:=qab (n:=(F:Int)+k) (by omega) (by omega)
  have hmm:m=1\/m=0:=hG
  obtain⟨p1,p2⟩:=p
  unfold zts at hrule
  rcases hkd _ (jH hk)with h0 | h0 | h0
  .have h0b:(c.signals[k].kind==1)=false:=by rw[h0];rfl
   obtain rfl:=hoff (by omega)
   rw[if_pos h0,Bool.and_false]at hrule
   rcases hmm with rfl | rfl<;>simp[qaa,exT,qae,L182_0,hk,hk',wk,h0,e1,hrule,hkV,hkT,v1,t1,hf.ne]
  .rw[if_neg (by omega),if_pos h0]at hrule
   have e2':=e2 h0
   generalize hcf:(on&&off)=cf at *
   rcases hmm with rfl | rfl<;>cases cf<;>simp[qaa,exT,qae,L182_0,hk,hk',wk,h0,e1,e2',hrule,hkV,hkT,v1,t1,wF,hb1,hf.ne]
  .have h0b:(c.signals[k].kind==1)=false:=by rw[h0];rfl
   obtain rfl:=hoff (by omega)
   rw[if_neg (by omega),if_neg (by omega),Bool.and_false]at hrule
   rcases hmm with rfl | rfl<;>simp[qaa,exT,qae,L182_0,hk,hk',wk,h0,e1,hrule,hkV,hkT,v1,t1,hf.ne]
 .rintro⟨gn,m⟩ f hf hG
  unfold zvs zvr
  generalize bdL c g (qao g) c.signals.length=BB at *
  have hmm:m=1\/m=0:=hG
  rcases hmm with rfl | rfl<;>simp[L182_0,hf.ne]
theorem zqe{c:Ct}(hc:c.check=0){x:Sg}(hx:x∈c.signals):x.kind=0\/x.kind=1\/x.kind=2:=by
 obtain⟨i,hi,rfl⟩:=List.getElem_of_mem hx
 have hz:=qsm hc i _ (jA hi)
 unfold q3r at hz
 split at hz
 .split at hz
  .cases hz
  .omega
 .rename_i h4;exact absurd hz h4
set_option maxHeartbeats 2000000 in
theorem ev182{c:Ct}{u:Ste}(s:Ste)(h:Rdy c u)(gq wq:Nat)(L:List Int):ev pg (.call (.fn 182 [] []) [.bptr 15 0] (hM c s u (qao u)++hQ gq wq L))=some { v:=.tup [.bool (!qic u (qgp c u)),qbx (qsh c u)],st:=⟨[],hM c s (qgp c u) (qao u)++hQ gq wq L⟩ }:=by
 have hs:=h.small
 have hS:=h.shp
 have hM':=h.mid
 have hn:=hM'.sig
 have e1:1<=u.ends.length:=by have:=hS.e;have:=hM'.lo;have:=hM'.act;omega
 have hF:qao u<=10000:=by have:=hS.e;have:=hS.i;have:=hM'.inp;have:=hM'.hi;have:=hM'.act;unfold qao;omega
 have e149:=ev181 u hs
 have e162:=ev190 c s u u gq wq L hs hS hn hF e1 (fun x hx=>(h.sig x hx).on)
 have hR:=qnk h.st
 have hG:Rdy c (qds c u):=⟨h.few,hR⟩
 have hgl:=qjc (c:=c) u
 have hfs:qao (qds c u)=qao u:=rfl
 have e163:=ev191 c s (qds c u) u (qao u) gq wq L hG.small e1
 have hl:=@jbg c s (qds c u) u gq wq L hG.small hG.shp hn hF hG.sig (fun x hx=>zqe h.chk hx)
 have e47:=ev90 u (qgp c u) hs
 unfold qgp at e47 ⊢
 unfold qsh
 have q1:(qds c u).ends=u.ends:=rfl
 have q2:(qds c u).valves=u.valves:=rfl
 have q3:(qds c u).inputs=u.inputs:=rfl
 have q4:(qds c u).timers=u.timers:=rfl
 have hGv:=hG.shp.v
 have hGt:=hG.shp.t
 clear hR hG hfs
 generalize qds c u=g at *
 obtain⟨ge,gw,gi,gv,gt⟩:=g
 simp only at q1 q2 q3 q4 hGv hGt hgl
 subst q1 q2 q3 q4
 generalize hg:(⟨u.ends,u.valves,u.inputs,gv,u.timers⟩:Ste)=g at *
 have hlen:(qde c g).length=c.signals.length:=qig _ (by rw[<-hg];exact hGv) (by rw[<-hg];exact hGt)
 have l1:((qde c g).map Prod.fst).length=g.values.length:=by rw[List.length_map,hlen,<-hGv,<-hg]
 have l2:((qde c g).map Prod.snd).length=g.timers.length:=by rw[List.length_map,hlen,<-hGt,<-hg]
 have z1:tv c g 0=g.values:=qgl _ _
 have z2:tt c g 0=g.timers:=qgl _ _
 have f1:tv c g c.signals.length=(qde c g).map Prod.fst:=by
  have:=qiz l1
  rwa [List.length_map,hlen]at this
 have f2:tt c g c.signals.length=(qde c g).map Prod.snd:=by
  have:=qiz l2
  rwa [List.length_map,hlen]at this
 have z3:bdL c g (qao g) 0=[]:=rfl
 have hFF:qao g=qao u:=by rw[<-hg]
 unfold zvr zvs at hl
 rw[z3,z1,z2,f1,f2]at hl
 rw[hFF]at hl
 unfold qzg at e47 ⊢
 rw[show qps (q3s c (qad g)) (qao u:Nat) c.signals.length=bdL c g (qao u) c.signals.length from rfl]
 have hgc:g.ends=u.ends/\g.valves=u.valves/\g.inputs=u.inputs/\g.values=gv/\g.timers=u.timers:=by rw[<-hg];exact⟨rfl,rfl,rfl,rfl,rfl⟩
 obtain⟨k1,k2,k3,k4,k5⟩:=hgc
 rw[k1,k2,k3]at hl e47 ⊢
 rw[k4,k5]at hl
 rw[k4,hgl]at l1
 rw[k5]at l2
 rw[<-hg]at e162
 generalize bdL c g (qao u) c.signals.length=BB at *
 generalize (qde c g).map Prod.fst=VV at *
 generalize (qde c g).map Prod.snd=TT at *
 generalize qad g=LL at *
 generalize qao u=F at *
 generalize qic u _=same at *
 rw[<-hg]at e163
 simp at e162 e163
 rw[qac,pg182]
 simp[ir182,e149,e162,e163,ev192,qaf]
 generalize hr:ev pg (.code (.going _ L182_0) _)=o
 obtain⟨r,rfl,⟨gn,m⟩,hm,f,hf,rfl⟩:∃r,o=some r/\_:=by rw[<-hr];exact hl (0,0) (.inr rfl) (by simp)
 clear hr
 have hmm:m=1\/m=0:=hm
 rcases hmm with rfl | rfl<;>simp[qaa,exT,qae,e47,l1.symm,l2.symm]
def qhb(d:Array Int):List (List V):=d.toList.map qdc
def put(h:H)(i g:Nat)(d:Array Int):H:=h.set i ⟨g,.arr 1 (qhb d)⟩
@[simp] theorem zwf(d:Array Int):(qhb d).length=d.size:=by simp[qhb]
@[simp] theorem qkf(h:H)(i g:Nat)(d:Array Int):(put h i g d).length=h.length:=by simp[put]
theorem q4m{h:H}{i:Nat}(hi:i<h.length)(g:Nat)(d:Array Int):(put h i g d)[i]?=some ⟨g,.arr 1 (qhb d)⟩:=by
 unfold put
 rw[jN hi]
theorem zdm{d:Array Int}{k:Nat}(hk:k<d.size):(qhb d)[k]?=some [num d[k]!]:=by
 unfold qhb
 rw[List.getElem?_map,Array.getElem?_toList,Array.getElem?_eq_getElem hk,Option.map_some,getElem!_pos d k hk]
theorem qbu(d:Array Int)(k:Nat)(v:Int):(qhb d).set k [num v]=qhb (d.setIfInBounds k v):=by
 unfold qhb
 rw[Array.toList_setIfInBounds,List.map_set]
theorem zej(h:H)(i g:Nat)(d:Array Int)(d':Array Int):(put h i g d).set i ⟨g,.arr 1 (qhb d')⟩=put h i g d':=by
 unfold put
 rw[List.set_set]
theorem qmo{h:H}(hc:qck h)(i g:Nat)(d:Array Int):qck (put h i g d):=by
 rw[qgk]at hc ⊢
 intro o ho
 rw[qkf]
 unfold put at ho
 rcases jT ho with h1 | h1
 .exact hc o h1
 .rw[h1];rfl
theorem zns{h:H}(hc:qck h)(i g:Nat)(d:Array Int):qaq h.length (put h i g d)=put h i g d:=by
 have:=qeb (qmo hc i g d)
 rwa [qkf]at this
theorem zgu{h:H}(hc:qck h)(i g:Nat)(d:Array Int):qav h.length (put h i g d)=put h i g d:=by
 have:=qej (qmo hc i g d)
 rwa [qkf]at this
theorem q7k{h:H}{i g:Nat}{d:Array Int}(hi:h[i]?=some ⟨g,.arr 1 (qhb d)⟩):put h i g d=h:=by
 unfold put
 obtain⟨hl,e⟩:=jG.1 hi
 rw[<-e,List.set_getElem_self]
abbrev ltI:Int->Int->Bool:=Go.Sort.ltInt
theorem ev167(x:Int):ev pg (.call (.fn 167 [] []) [num x] [])=some { v:=.bool false,st:=⟨[],[]⟩ }:=by
 rw[qac,pg167]
 simp[ir167]
theorem ev139(x y:Int):ev pg (.call (.fn 139 [] []) [num x,num y] [])=some { v:=.bool (ltI x y),st:=⟨[],[]⟩ }:=by
 have h1:=ev167 x
 rw[qac,pg139]
 unfold ltI Go.Sort.ltInt
 simp[ir139,h1]
theorem qan{d:Array Int}{k:Nat}(hk:k<d.size):∀h,(qhb d)[k]'h=[num d[k]!]:=by
 intro h
 have:=zdm hk
 rw[jA h]at this
 exact Option.some.inj this
abbrev zou(h:H)(i g:Nat)(d:Array Int)(s:Int):H:=put h i g d++[⟨0,.box [num s]⟩]
theorem zcy{h:H}(hc:qck h)(i g:Nat)(d:Array Int)(s:Int):qck (zou h i g d s):=by
 refine qcl (qmo hc i g d) ?_
 intro o ho
 rw[List.mem_singleton.1 ho]
 rfl
theorem qol{h:H}(hc:qck h)(i g:Nat)(d:Array Int)(s:Int):qaq (h.length+1) (put h i g d++[⟨0,.box [num s]⟩])=put h i g d++[⟨0,.box [num s]⟩]:=by
 have:=qeb (zcy hc i g d s)
 simpa using this
theorem zjw{h:H}{i:Nat}(hi:i<h.length)(g:Nat)(d:Array Int)(s:Int):(put h i g d++[⟨0,.box [num s]⟩])[i]?=some ⟨g,.arr 1 (qhb d)⟩:=by
 rw[jI (by simpa using hi),q4m hi]
theorem q6f(h:H)(i g:Nat)(d:Array Int)(s:Int):(put h i g d++[⟨0,.box [num s]⟩])[h.length]?=some ⟨0,.box [num s]⟩:=by
 rw[jJ (by simp),qkf,Nat.sub_self]
 rfl
theorem zij(h:H)(i g:Nat)(d:Array Int)(s t:Int):(put h i g d++[(⟨0,.box [num s]⟩:Ob)]).set h.length ⟨0,.box [num t]⟩=put h i g d++[⟨0,.box [num t]⟩]:=by
 rw[List.set_append_right _ _ (by simp),qkf,Nat.sub_self]
 rfl
theorem ev183{h:H}{i:Nat}(hi:i<h.length)(hc:qck h)(g:Nat)(d:Array Int)(a b:Nat)(s:Nat)(ha:a<d.size)(hb:b<d.size)(hs:s<=100000):ev pg (.call (.fn 183 [] []) [.sl i g 1 0 d.size,num a,num b,.bptr h.length 0] (zou h i g d s))=some { v:=.tup [num (Go.Sort.order2 ltI d a b s).1,num (Go.Sort.order2 ltI d a b s).2.1],st:=⟨[],zou h i g d (Go.Sort.order2 ltI d a b s).2.2⟩ }:=by
 have g1:=zjw hi g d s
 have g2:=q6f h i g d s
 have g3:=zij h i g d s (s+1)
 have g4:=qol hc i g d s
 have g5:=qol hc i g d (s+1)
 have r1:=qan ha
 have r2:=qan hb
 have h111:=ev139 d[b]! d[a]!
 have ws:=qab (n:=(s:Int)+1) (by omega) (by omega)
 rw[qac,pg183]
 unfold Go.Sort.order2
 generalize d[a]! = x at *
 generalize d[b]! = y at *
 cases hl:ltI y x<;>rw[hl]at h111<;>simp[-qaq,qaa,exT,qae,ir183,g1,g2,g3,g4,g5,r1,r2,h111,ws,ha,hb]
theorem qjd{n:Nat}{d:Array Int}{a b s:Nat}(ha:a<n)(hb:b<n):(Go.Sort.order2 ltI d a b s).1<n/\(Go.Sort.order2 ltI d a b s).2.1<n/\(Go.Sort.order2 ltI d a b s).2.2<=s+1:=by
 unfold Go.Sort.order2
 split
 .exact⟨hb,ha,jD _⟩
 .exact⟨ha,hb,by simp⟩
theorem qvd{n:Nat}{d:Array Int}{a b c s:Nat}(ha:a<n)(hb:b<n)(hc:c<n):(Go.Sort.median ltI d a b c s).1<n/\(Go.Sort.median ltI d a b c s).2<=s+3:=by
 unfold Go.Sort.median
 obtain⟨h1,h2,h3⟩:=qjd (d:=d) (s:=s) ha hb
 generalize Go.Sort.order2 ltI d a b s=r1 at *
 obtain⟨h4,h5,h6⟩:=qjd (d:=d) (s:=r1.2.2) h2 hc
 simp only
 generalize Go.Sort.order2 ltI d r1.2.1 c r1.2.2=r2 at *
 obtain⟨h7,h8,h9⟩:=qjd (d:=d) (s:=r2.2.2) h1 h4
 exact⟨h8,by omega⟩
theorem ev166{h:H}{i:Nat}(hi:i<h.length)(hc:qck h)(g:Nat)(d:Array Int)(a b c:Nat)(s:Nat)(ha:a<d.size)(hb:b<d.size)(hcc:c<d.size)(hs:s<=90000):ev pg (.call (.fn 166 [] []) [.sl i g 1 0 d.size,num a,num b,num c,.bptr h.length 0] (zou h i g d s))=some { v:=num (Go.Sort.median ltI d a b c s).1,st:=⟨[],zou h i g d (Go.Sort.median ltI d a b c s).2⟩ }:=by
 have g4:=fun s=>qol hc i g d s
 have e1:=ev183 hi hc g d a b s ha hb (by omega)
 unfold Go.Sort.median
 obtain⟨h1,h2,h3⟩:=qjd (d:=d) (s:=s) ha hb
 generalize Go.Sort.order2 ltI d a b s=r1 at *
 have e2:=ev183 hi hc g d r1.2.1 c r1.2.2 h2 hcc (by omega)
 obtain⟨h4,h5,h6⟩:=qjd (d:=d) (s:=r1.2.2) h2 hcc
 simp only
 generalize Go.Sort.order2 ltI d r1.2.1 c r1.2.2=r2 at *
 have e3:=ev183 hi hc g d r1.1 r2.1 r2.2.2 h1 h4 (by omega)
 obtain⟨h7,h8,h9⟩:=qjd (d:=d) (s:=r2.2.2) h1 h4
 generalize Go.Sort.order2 ltI d r1.1 r2.1 r2.2.2=r3 at *
 rw[qac,pg166]
 simp[-qaq,ir166,e1,e2,e3,g4]
theorem ev165{h:H}{i:Nat}(hi:i<h.length)(hc:qck h)(g:Nat)(d:Array Int)(a:Nat)(s:Nat)(h1:1<=a)(ha:a+1<d.size)(hn:d.size<=1000000)(hs:s<=90000):ev pg (.call (.fn 165 [] []) [.sl i g 1 0 d.size,num a,.bptr h.length 0] (zou h i g d s))=some { v:=num (Go.Sort.medianAdjacent ltI d a s).1,st:=⟨[],zou h i g d (Go.Sort.medianAdjacent ltI d a s).2⟩ }:=by
 have g4:=fun s=>qol hc i g d s
 have e1:=ev166 hi hc g d (a-1) a (a+1) s (by omega) (by omega) ha hs
 unfold Go.Sort.medianAdjacent
 have w1:=qab (n:=(a:Int)-1) (by omega) (by omega)
 have w2:=qab (n:=(a:Int)+1) (by omega) (by omega)
 generalize Go.Sort.median ltI d (a-1) a (a+1) s=r at *
 rw[show(((a-1:Nat)):Int)=(a:Int)-1 by omega,show(((a+1:Nat)):Int)=(a:Int)+1 by omega]at e1
 rw[qac,pg165]
 simp[-qaq,ir165,e1,g4,w1,w2]
def qvw:Go.Sort.Hint->Int
 | .unknown=>0
 | .increasing=>1
 | .decreasing=>2
theorem ev136{h:H}{i:Nat}(hi:i<h.length)(hc:qck h)(g:Nat)(d:Array Int)(a l:Nat)(hb:a+l<=d.size)(h8:8<=l)(hn:d.size<=1000000):ev pg (.call (.fn 136 [] []) [.sl i g 1 0 d.size,num a,num (a+l:Nat)] (put h i g d))=some { v:=.tup [num (Go.Sort.choosePivot ltI d a (a+l)).1,num (qvw (Go.Sort.choosePivot ltI d a (a+l)).2)],st:=⟨[],put h i g d⟩ }:=by
 have g4:=fun s=>qol hc i g d s
 have g2:=fun s=>q6f h i g d s
 have g5:∀s,qaq h.length (put h i g d++[⟨0,.box [num s]⟩])=put h i g d:=fun s=>by
  have:=qdd (qmo hc i g d) [⟨0,.box [num s]⟩]
  rwa [qkf]at this
 unfold Go.Sort.choosePivot
 simp only[Nat.add_sub_cancel_left,Nat.mul_one,ge_iff_le,h8,if_true]
 have hq:Int.tdiv (l:Int) 4=((l / 4:Nat):Int):=by
  rw[show(4:Int)=((4:Nat):Int)by rfl,<-Int.ofNat_tdiv]
 have q1:4*(l / 4)<=l:=by omega
 have q2:2<=l / 4:=by omega
 generalize l / 4=q at *
 have h8':(8:Int)<=l:=by omega
 have wl:IntKind.i64.wrap ((a:Int)+l-a)=(l:Int):=by
  rw[qab (by omega) (by omega)]
  omega
 have wq:=qab (n:=(q:Int)) (by omega) (by omega)
 have wq2:=qab (n:=(q:Int)*2) (by omega) (by omega)
 have wq3:=qab (n:=(q:Int)*3) (by omega) (by omega)
 have wi:=qab (n:=(a:Int)+q) (by omega) (by omega)
 have wj:=qab (n:=(a:Int)+q*2) (by omega) (by omega)
 have wk:=qab (n:=(a:Int)+q*3) (by omega) (by omega)
 by_cases h50:50<=l
 .have h50':(50:Int)<=l:=by omega
  simp only[h50,if_true]
  have e1:=ev165 hi hc g d (a+q) 0 (by omega) (by omega) hn (by omega)
  have b1:=qvd (d:=d) (s:=0) (a:=a+q-1) (b:=a+q) (c:=a+q+1) (n:=d.size) (by omega) (by omega) (by omega)
  change (Go.Sort.medianAdjacent ltI d (a+q) 0).1<d.size/\(Go.Sort.medianAdjacent ltI d (a+q) 0).2<=0+3 at b1
  generalize Go.Sort.medianAdjacent ltI d (a+q) 0=r1 at *
  have e2:=ev165 hi hc g d (a+q*2) r1.2 (by omega) (by omega) hn (by omega)
  have b2:=qvd (d:=d) (s:=r1.2) (a:=a+q*2-1) (b:=a+q*2) (c:=a+q*2+1) (n:=d.size) (by omega) (by omega) (by omega)
  change (Go.Sort.medianAdjacent ltI d (a+q*2) r1.2).1<d.size/\(Go.Sort.medianAdjacent ltI d (a+q*2) r1.2).2<=r1.2+3 at b2
  generalize Go.Sort.medianAdjacent ltI d (a+q*2) r1.2=r2 at *
  have e3:=ev165 hi hc g d (a+q*3) r2.2 (by omega) (by omega) hn (by omega)
  have b3:=qvd (d:=d) (s:=r2.2) (a:=a+q*3-1) (b:=a+q*3) (c:=a+q*3+1) (n:=d.size) (by omega) (by omega) (by omega)
  change (Go.Sort.medianAdjacent ltI d (a+q*3) r2.2).1<d.size/\(Go.Sort.medianAdjacent ltI d (a+q*3) r2.2).2<=r2.2+3 at b3
  generalize Go.Sort.medianAdjacent ltI d (a+q*3) r2.2=r3 at *
  have e4:=ev166 hi hc g d r1.1 r2.1 r3.1 r3.2 b1.1 b2.1 b3.1 (by omega)
  generalize Go.Sort.median ltI d r1.1 r2.1 r3.1 r3.2=r at *
  obtain⟨m,t⟩:=r
  rw[qac,pg136]
  simp at e1 e2 e3 e4
  by_cases t0:t=0
  .subst t0
   simp[-qaq,ir136,h8',h50',hq,wl,wq,wq2,wq3,wi,wj,wk,e1,e2,e3,e4,g4,g2,g5,qvw]
  .have t0':((t:Int)==0)=false:=by simp;omega
   by_cases t1:t=12
   .subst t1
    simp[-qaq,ir136,h8',h50',hq,wl,wq,wq2,wq3,wi,wj,wk,e1,e2,e3,e4,g4,g2,g5,qvw]
   .have t1':((t:Int)==12)=false:=by simp;omega
    simp[-qaq,ir136,h8',h50',hq,wl,wq,wq2,wq3,wi,wj,wk,e1,e2,e3,e4,g4,g2,g5,qvw,t0,t0',t1,t1']
 .have h50':¬(50:Int)<=l:=by omega
  simp only[h50,if_false]
  have e4:=ev166 hi hc g d (a+q) (a+q*2) (a+q*3) 0 (by omega) (by omega) (by omega) (by omega)
  generalize Go.Sort.median ltI d (a+q) (a+q*2) (a+q*3) 0=r at *
  obtain⟨m,t⟩:=r
  rw[qac,pg136]
  simp at e4
  by_cases t0:t=0
  .subst t0
   simp[-qaq,ir136,h8',h50',hq,wl,wq,wq2,wq3,wi,wj,wk,e4,g4,g2,g5,qvw]
  .have t0':((t:Int)==0)=false:=by simp;omega
   by_cases t1:t=12
   .subst t1
    simp[-qaq,ir136,h8',h50',hq,wl,wq,wq2,wq3,wi,wj,wk,e4,g4,g2,g5,qvw]
   .have t1':((t:Int)==12)=false:=by simp;omega
    simp[-qaq,ir136,h8',h50',hq,wl,wq,wq2,wq3,wi,wj,wk,e4,g4,g2,g5,qvw,t0,t0',t1,t1']
theorem qgs{P:Prg}{nx:Nat}{c:C}{T T':Tm}{h h':H}{Q:R->Prop}
  (step:∀f,Junk f->∃r,ev P (.code c ⟨fill f 0 T,h⟩)=some r/\((r.x=.normal/\At T' h' (qkh nx r.st))\/(r.x ≠ .normal/\Q r)))
  (next:∀st,At T' h' st->∃r,ev P (.code (.going nx c) st)=some r/\Q r) {st:St} (h0:At T h st):∃r,ev P (.code (.going nx c) st)=some r/\Q r:=by
 obtain⟨f,hf,rfl⟩:=h0.eq
 obtain⟨r,e,hr⟩:=step f hf
 rw[qen,e]
 rcases hr with⟨hx,ha⟩ | ⟨hx,hq⟩
 .obtain⟨r',e',hq⟩:=next _ ha
  refine⟨r',?_,hq⟩
  simp only[hx]
  exact e'
 .refine⟨r,?_,hq⟩
  simp only
theorem qbe{P:Prg}{nx:Nat}{c:C}{T:Tm}{h:H}{Q:R->Prop}
  (step:∀f,Junk f->∃r,ev P (.code c ⟨fill f 0 T,h⟩)=some r/\r.x ≠ .normal/\Q r) {st:St} (h0:At T h st):∃r,ev P (.code (.going nx c) st)=some r/\Q r:=by
 obtain⟨f,hf,rfl⟩:=h0.eq
 obtain⟨r,e,hx,hq⟩:=step f hf
 rw[qen,e]
 refine⟨r,?_,hq⟩
 simp only
theorem qch(e:Array Int)(k:Nat):∃z,∀h,(qhb e)[k]'h=[num z]:=⟨e[k]!,fun h=>qan (by simpa using h) h⟩
structure Mem(h:H)(i g:Nat):Prop where
 lt:i<h.length
 get:∀d hh,(put h i g d)[i]'hh=⟨g,.arr 1 (qhb d)⟩
 set:∀d d',(put h i g d).set i ⟨g,.arr 1 (qhb d')⟩=put h i g d'
 cl:∀d,qav h.length (put h i g d)=put h i g d
 ck:∀d,qaq h.length (put h i g d)=put h i g d
theorem qii{h:H}{i:Nat}(hi:i<h.length)(hc:qck h)(g:Nat):Mem h i g :=
 ⟨hi,fun d hh=>by
  have:=q4m hi g d
  rw[jA hh]at this
  exact Option.some.inj this,zej h i g,zgu hc i g,zns hc i g⟩
abbrev swI:Array Int->Nat->Nat->Array Int:=Go.Sort.swp
theorem qcs(d:Array Int)(a b:Nat):(swI d a b).size=d.size:=by simp[swI,Go.Sort.swp]
def zrl(i g n:Nat)(a b k j:Nat):Tm:=[some (.sl i g 1 0 n),some (num a),some (num b),none,none,none,some (num k),some (num j)]++List.replicate 41 none
def zbp(i g n:Nat)(a b k:Nat):Tm:=[some (.sl i g 1 0 n),some (num a),some (num b),none,none,none,some (num k),none]++List.replicate 41 none
theorem zli{h:H}{i g:Nat}(hm:Mem h i g)(n a b k:Nat)(hn:n<=1000000):∀(j:Nat) (d:Array Int),d.size=n->j<n->∀{st:St},At (zrl i g n a b k j) (put h i g d) st->∃r,ev pg (.code (.going h.length L133_0) st)=some r/\qag (.exit 2) (zbp i g n a b k) (put h i g (Go.Sort.insInner ltI a j d)) r/\(Go.Sort.insInner ltI a j d).size=n
 | 0,d,hd,hj,st,h0=>by
  rw[Go.Sort.insInner]
  refine qbe (fun f hf=>?_) h0
  have ha:¬((a:Int)<0):=by omega
  simp[-qaq,-qav,qaa,exT,qae,L133_0,zrl,zbp,ha,hd,hf.ne]
 | j+1,d,hd,hj,st,h0=>by
  rw[Go.Sort.insInner]
  have m1:=hm.lt
  have m2:=hm.set
  have m3:=hm.get
  have r1:=qan (d:=d) (k:=j+1) (by omega)
  have r2:=qan (d:=d) (k:=j) (by omega)
  have h111:=ev139 d[j+1]! d[j]!
  have hjn:j<d.size:=by omega
  have p1:(0:Int)<=(j:Int)+1:=by omega
  have hjn2:j+1<d.size:=by omega
  have w1:=qab (n:=(j:Int)) (by omega) (by omega)
  by_cases ha:a<j+1
  .have ha':(a:Int)<(j:Int)+1:=by omega
   by_cases hl:ltI d[j+1]! d[j]! = true
   .rw[if_pos (by simp[ha,hl])]
    rw[hl]at h111
    have hsw:(d.setIfInBounds (j+1) d[j]!).setIfInBounds j d[j+1]! = swI d (j+1) j:=rfl
    have ih:=fun st=>@zli h i g hm n a b k hn j (swI d (j+1) j) (by rw[qcs];exact hd) (by omega) st
    refine qgs (T':=zrl i g n a b k j) (h':=put h i g (swI d (j+1) j)) (fun f hf=>?_) ih h0
    have m4:=hm.cl (swI d (j+1) j)
    generalize d[j+1]! = x at *
    generalize d[j]! = y at *
    generalize swI d (j+1) j=d' at *
    obtain⟨z,r3⟩:=qch (d.setIfInBounds (j+1) y) j
    simp[hm.lt,r3,-qaq,-qav,qaa,exT,qae,L133_0,zrl,ha',m1,m2,m3,m4,r1,r2,h111,hjn,hjn2,p1,w1,qbu,hsw,hd.symm,hf.ne]
   .have hl':ltI d[j+1]! d[j]! = false:=by simpa using hl
    rw[if_neg (by simp[hl])]
    rw[hl']at h111
    refine qbe (fun f hf=>?_) h0
    generalize d[j+1]! = x at *
    generalize d[j]! = y at *
    simp[-qaq,-qav,qaa,exT,qae,L133_0,zrl,ha',m1,m3,r1,r2,h111,hjn,hjn2,p1,w1,hd.symm,zbp,hf.ne]
  .have ha':¬(a:Int)<(j:Int)+1:=by omega
   rw[if_neg (by simp[ha])]
   refine qbe (fun f hf=>?_) h0
   simp[-qaq,-qav,qaa,exT,qae,L133_0,zrl,zbp,ha',hd,hf.ne]
theorem qxp(lt:Int->Int->Bool)(a:Nat):∀(j:Nat) (d:Array Int),(Go.Sort.insInner lt a j d).size=d.size
 | 0,d=>rfl
 | j+1,d=>by
  rw[Go.Sort.insInner]
  split
  .rw[qxp lt a j];exact qcs _ _ _
  .rfl
def zbk(i g n:Nat)(a b k:Nat):Tm:=[some (.sl i g 1 0 n),some (num a),some (num b),none,none,none,some (num k)]++List.replicate 42 none
def zsc:Tm:=List.replicate 49 none
theorem zlg{h:H}{i g:Nat}(hm:Mem h i g)(n a b:Nat)(hn:n<=1000000)(hb:b<=n):∀(m k:Nat) (d:Array Int),d.size=n->b-k=m->∀{st:St},At (zbk i g n a b k) (put h i g d) st->∃r,ev pg (.code (.going h.length L133_1) st)=some r/\qag (.exit 0) zsc (put h i g (Go.Sort.insOuter ltI a b k d)) r/\(Go.Sort.insOuter ltI a b k d).size=n
 | 0,k,d,hd,hk,st,h0=>by
  rw[Go.Sort.insOuter,if_neg (by omega)]
  refine qbe (fun f hf=>?_) h0
  have hk':¬((k:Int)<b):=by omega
  simp[-qaq,-qav,L133_1,zbk,zsc,hk',hd,hf.ne]
 | m+1,k,d,hd,hk,st,h0=>by
  rw[Go.Sort.insOuter,if_pos (by omega)]
  have hk':(k:Int)<b:=by omega
  have hla:=@zli h i g hm n a b k hn k d hd (by omega)
  have wk:=qab (n:=(k:Int)+1) (by omega) (by omega)
  have m4:=hm.cl
  have hsz:(Go.Sort.insInner ltI a k d).size=n:=by
   have e:=qxp ltI a k d
   omega
  have ih:=fun st=>@zlg h i g hm n a b hn hb m (k+1) (Go.Sort.insInner ltI a k d) hsz (by omega) st
  refine qgs (T':=zbk i g n a b (k+1)) (h':=put h i g (Go.Sort.insInner ltI a k d)) (fun f hf=>?_) ih h0
  generalize Go.Sort.insInner ltI a k d=d' at *
  simp[-qaq,-qav,L133_1,zbk,hk',m4,qaf,hf.ne]
  generalize hr:ev pg (.code (.going _ L133_0) _)=o
  obtain⟨r,rfl,⟨f2,hf2,rfl⟩,-⟩:∃r,o=some r/\_:=by rw[<-hr];exact hla (by simp[zrl,hf.ne])
  clear hr
  simp[-qaq,-qav,zbp,wk,m4,hm.lt,hf2.ne]
theorem ev133{h:H}{i:Nat}(hi:i<h.length)(hc:qck h)(g:Nat)(d:Array Int)(a b:Nat)(hb:b<=d.size)(hab:a<=b)(hn:d.size<=1000000):ev pg (.call (.fn 133 [] []) [.sl i g 1 0 d.size,num a,num b] (put h i g d))=some { v:=.tup [],st:=⟨[],put h i g (Go.Sort.insertionSort ltI d a b)⟩ }:=by
 have hm:=qii hi hc g
 have m4:=hm.ck
 have hl:=@zlg h i g hm d.size a b hn hb _ (a+1) d rfl rfl
 have wa:=qab (n:=(a:Int)+1) (by omega) (by omega)
 unfold Go.Sort.insertionSort
 generalize Go.Sort.insOuter ltI a b (a+1) d=d' at *
 rw[qac,pg133]
 simp[-qaq,-qav,ir133,wa,qaf]
 generalize hr:ev pg (.code (.going _ L133_1) _)=o
 obtain⟨r,rfl,⟨f2,hf2,rfl⟩,-⟩:∃r,o=some r/\_:=by rw[<-hr];exact hl (by simp[zbk])
 clear hr
 simp[-qaq,-qav,zsc,m4,hm.lt]
end Go.Proofs.YtlhciedghbmjjaaGreat
