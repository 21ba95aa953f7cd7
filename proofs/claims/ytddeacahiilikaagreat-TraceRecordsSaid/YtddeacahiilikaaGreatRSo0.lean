/- A round of the signals, by settle. A round of the signals, by settle: the function. Sorting in place: own slices of numbers in a memory. -/
import Derived.Test.YtddeacahiilikaaGreatRGt1
import Derived.Test.YtddeacahiilikaaGreatRRu2
import Derived.KernelRfl
import Derived.Test.YtddeacahiilikaaGreatRSa1
import Derived.Test.YtddeacahiilikaaGreatRVs1
import Derived.Test.YtddeacahiilikaaGreatRCt2
import Derived.Sort.AssemblyPlain
set_option linter.all false
namespace Go.Proofs.YtddeacahiilikaaGreat
open Go Go.Am Go.Proofs
set_option maxRecDepth 100000
theorem ev277(s:Ste)(hs:s.small):ev pg (.call (.fn 277 [] []) [s.v] [])=some { v:=zcu s,st:=⟨[],ztu s⟩ }:=by
 have e1:=ev106 s.ends hs.e
 have e2:=ev190 s.valves hs.w
 have e3:=ev190 s.inputs hs.i
 have e4:=ev190 s.values hs.v
 have e5:=ev106 s.timers hs.t
 rw[qac,pg277]
 simp[qaa,exT,qae,ir277,e1,e2,e3,e4,e5,qbv,qdq,qhy,qdl]
theorem ev116(s:Ste)(hs:s.small):ev pg (.call (.fn 116 [] []) [s.v] [])=some { v:=zcu s,st:=⟨[],ztu s⟩ }:=by
 have e1:=ev106 s.ends hs.e
 have e2:=ev190 s.valves hs.w
 have e3:=ev190 s.inputs hs.i
 have e4:=ev190 s.values hs.v
 have e5:=ev106 s.timers hs.t
 rw[qac,pg116]
 simp[qaa,exT,qae,ir116,e1,e2,e3,e4,e5,qbv,qdq,qhy,qdl]
def zoj(k:Int):V:=if k=0 then .fn 308 [] []else if k=1 then .fn 309 [] []else .fn 310 [] []
theorem zok(x:Sg)(L:List Bool)(v:Bool)(t:Int)(hk:x.kind=0\/x.kind=1\/x.kind=2):ev pg (.call (zoj x.kind) [chg v t false,.bool (x.on.holds L),.bool (qwy x L)] [])=some { v:=chg (qju x L v t).1 (qju x L v t).2 (x.on.holds L&&qwy x L),st:=⟨[],[]⟩ }:=by
 have hoff:x.kind≠1->qwy x L=false:=fun h=>by unfold qwy;simp[h]
 have hoff1:x.kind=1->qwy x L=x.off.holds L:=fun h=>by unfold qwy;simp[h]
 unfold zoj qju
 rcases hk with h | h | h
 .rw[if_pos h,hoff (by omega),ev308,if_neg (by omega),if_neg (by omega)]
  simp
 .rw[if_neg (by omega),if_pos h,hoff1 h,ev309,if_pos h]
  cases x.on.holds L<;>cases x.off.holds L<;>simp
 .have e:=ev310 v t false (x.on.holds L) false
  rw[hoff (by omega)]
  simp only[h]
  simp
  rw[e]
  cases x.on.holds L
  .simp
  .by_cases h0:t=0<;>simp[h0]
abbrev zpj(c:Ct)(s g b:Ste)(gq wq:Nat)(L:List Int)(k:Nat)(a:Nat×Nat):H:=zfd c s ⟨g.ends,g.valves,g.inputs,tv c g k,tt c g k⟩ b (qam g) gq wq L++[⟨0,.arr 1 ((qad g).map qen)⟩,⟨0,.box [.fn 308 [] [],.fn 309 [] [],.fn 310 [] []]⟩,o0,⟨a.1,.arr a.2 ((bdL c g (qam g) k).map qdw)⟩]
def zpa(c:Ct)(g:Ste)(k:Nat)(a:Nat×Nat):Tm:=[some (.bptr 15 0),none,some (.bool false),some (.sl 31 0 0 0 0),some (.bptr 28 0),some (.sl 29 0 1 0 (qad g).length),some (.bptr 30 0),some (.sl 32 a.1 a.2 0 (bdL c g (qam g) k).length)]++List.replicate 17 none++[some (.imm (c.signals.map Sg.row)),some (num c.signals.length),some (num k)]++List.replicate 77 none
set_option maxHeartbeats 4000000 in
theorem z1l(c:Ct)(s g b:Ste)(gq wq:Nat)(L:List Int)(hs:g.small)(hS:Shp c g)(hn:c.signals.length<=128)(hF:qam g<=10000)(hok:∀x∈c.signals,SigOk (qad g).length x)(hkd:∀x∈c.signals,x.kind=0\/x.kind=1\/x.kind=2){st:St}(a0:Nat×Nat)(g0:a0.2=1\/a0.2=0)(h0:At (zpa c g 0 a0) (zpj c s g b gq wq L 0 a0) st):∃r,ev pg (.code (.going 33 L278_0) st)=some r/\∃a:Nat×Nat,(a.2=1\/a.2=0)/\qaj (.exit 0) (zpa c g c.signals.length a) (zpj c s g b gq wq L c.signals.length a) r:=by
 refine qci c.signals.length (zpa c g) (zpj c s g b gq wq L) (fun _ a=>a.2=1\/a.2=0) _ ?_ ?_ a0 g0 h0
 .rintro k ⟨gn,m⟩ f hf hk hG
  have hk':(k:Int)<c.signals.length:=by omega
  have wk:=qab (n:=(k:Int)+1) (by omega) (by omega)
  have hkv:k<g.values.length:=by rw[hS.v];exact hk
  have hkt:k<g.timers.length:=by rw[hS.t];exact hk
  have hx:=hok _ (jH hk)
  have hrule:=zok c.signals[k] (qad g) g.values[k] g.timers[k] (hkd _ (jH hk))
  have e1:=ev302 (qad g) c.signals[k].on hx.on.1 hx.on.2
  have hlen:(qcm c g).length=c.signals.length:=qhg _ hS.v hS.t
  have hkl:k<(qcm c g).length:=by omega
  have hget':(qcm c g)[k]=qju c.signals[k] (qad g) g.values[k] g.timers[k]:=by
   have:(qcm c g)[k]?=some (qju c.signals[k] (qad g) g.values[k] g.timers[k]):=qoc _ (jA hk) (jA hkv) (jA hkt)
   rw[jA hkl]at this
   exact Option.some.inj this
  have l1:((qcm c g).map Prod.fst).length=g.values.length:=by rw[List.length_map,hlen,hS.v]
  have l2:((qcm c g).map Prod.snd).length=g.timers.length:=by rw[List.length_map,hlen,hS.t]
  have f1:=qhx (A:=(qcm c g).map Prod.fst) (B:=g.values) l1 (k:=k) (by rw[List.length_map];exact hkl)
  have f2:=qhx (A:=(qcm c g).map Prod.snd) (B:=g.timers) l2 (k:=k) (by rw[List.length_map];exact hkl)
  rw[List.getElem_map,hget']at f1 f2
  have m1:=qiz (A:=(qcm c g).map Prod.fst) (B:=g.values) l1 (k:=k) (by rw[List.length_map];omega)
  have m2:=qiz (A:=(qcm c g).map Prod.snd) (B:=g.timers) l2 (k:=k) (by rw[List.length_map];omega)
  rw[l1]at m1
  rw[l2]at m2
  have n1:=qop (A:=(qcm c g).map Prod.fst) (B:=g.values) l1 (k:=k) (by rw[List.length_map];exact hkl)
  have n2:=qop (A:=(qcm c g).map Prod.snd) (B:=g.timers) l2 (k:=k) (by rw[List.length_map];exact hkl)
  rw[jA hkv]at n1
  rw[jA hkt]at n2
  have f3:=qkj (qzp c (qad g)) (qam g:Nat) k
  have hb:qzp c (qad g) k=(c.signals[k].on.holds (qad g)&&qwy c.signals[k] (qad g)):=by
   unfold qzp;rw[jA hk];rfl
  rw[hb]at f3
  have hsl:=qgj (qzp c (qad g)) (qam g:Nat) k
  unfold zpa zpj tv tt bdL
  rw[<-f1,<-f2,f3]
  have e2:c.signals[k].kind=1->ev pg (.call (.fn 302 [] []) [c.signals[k].off.v,qdt (qad g)] [])=some { v:=.bool (qwy c.signals[k] (qad g)),st:=⟨[],[]⟩ }:=fun h=>by
   rw[ev302 (qad g) c.signals[k].off (hx.off h).1 (hx.off h).2]
   unfold qwy
   simp[h]
  have hoff:c.signals[k].kind≠1->qwy c.signals[k] (qad g)=false:=fun h=>by unfold qwy;simp[h]
  generalize hv0:g.values[k]=v0 at *
  generalize ht0:g.timers[k]=t0 at *
  generalize mix ((qcm c g).map Prod.fst) g.values k=VV at *
  generalize mix ((qcm c g).map Prod.snd) g.timers k=TT at *
  generalize qoe (qzp c (qad g)) (qam g:Nat) k=BB at *
  generalize qju c.signals[k] (qad g) v0 t0=p at *
  generalize qam g=F at *
  generalize hon:c.signals[k].on.holds (qad g)=on at *
  generalize qwy c.signals[k] (qad g)=off at *
  generalize qad g=LL at *
  have hkV:k<VV.length:=by omega
  have hkT:k<TT.length:=by omega
  have v1:VV[k]=v0:=by
   rw[jA hkV]at n1
   exact Option.some.inj n1
  have t1:TT[k]=t0:=by
   rw[jA hkT]at n2
   exact Option.some.inj n2
  have hb1:(BB.length+1)*8<=140737488355328:=by omega
  have wF:=qab (n:=(F:Int)+k) (by omega) (by omega)
  have hmm:m=1\/m=0:=hG
  obtain⟨p1,p2⟩:=p
  unfold zoj at hrule
  rcases hkd _ (jH hk)with h0 | h0 | h0
  .have h0b:(c.signals[k].kind==1)=false:=by rw[h0];rfl
   obtain rfl:=hoff (by omega)
   rw[if_pos h0,Bool.and_false]at hrule
   rcases hmm with rfl | rfl<;>simp[qaa,exT,qae,L278_0,hk,hk',wk,h0,e1,hrule,hkV,hkT,v1,t1,hf.ne]
  .rw[if_neg (by omega),if_pos h0]at hrule
   have e2':=e2 h0
   generalize hcf:(on&&off)=cf at *
   rcases hmm with rfl | rfl<;>cases cf<;>simp[qaa,exT,qae,L278_0,hk,hk',wk,h0,e1,e2',hrule,hkV,hkT,v1,t1,wF,hb1,hf.ne]
  .have h0b:(c.signals[k].kind==1)=false:=by rw[h0];rfl
   obtain rfl:=hoff (by omega)
   rw[if_neg (by omega),if_neg (by omega),Bool.and_false]at hrule
   rcases hmm with rfl | rfl<;>simp[qaa,exT,qae,L278_0,hk,hk',wk,h0,e1,hrule,hkV,hkT,v1,t1,hf.ne]
 .rintro⟨gn,m⟩ f hf hG
  unfold zpa zpj
  generalize bdL c g (qam g) c.signals.length=BB at *
  have hmm:m=1\/m=0:=hG
  rcases hmm with rfl | rfl<;>simp[L278_0,hf.ne]
theorem zmv{c:Ct}(hc:c.check=0){x:Sg}(hx:x∈c.signals):x.kind=0\/x.kind=1\/x.kind=2:=by
 obtain⟨i,hi,rfl⟩:=List.getElem_of_mem hx
 have hz:=q3n hc i _ (jA hi)
 unfold q3m at hz
 split at hz
 .split at hz
  .cases hz
  .omega
 .rename_i h4;exact absurd hz h4
set_option maxHeartbeats 2000000 in
theorem ev278{c:Ct}{u:Ste}(s:Ste)(h:Rdy c u)(gq wq:Nat)(L:List Int):ev pg (.call (.fn 278 [] []) [.bptr 15 0] (hM c s u (qam u)++hQ gq wq L))=some { v:=.tup [.bool (!qhd u (qga c u)),qel (qqg c u)],st:=⟨[],hM c s (qga c u) (qam u)++hQ gq wq L⟩ }:=by
 have hs:=h.small
 have hS:=h.shp
 have hM':=h.mid
 have hn:=hM'.sig
 have e1:1<=u.ends.length:=by have:=hS.e;have:=hM'.lo;have:=hM'.act;omega
 have hF:qam u<=10000:=by have:=hS.e;have:=hS.i;have:=hM'.inp;have:=hM'.hi;have:=hM'.act;unfold qam;omega
 have e149:=ev277 u hs
 have e162:=ev299 c s u u gq wq L hs hS hn hF e1 (fun x hx=>(h.sig x hx).on)
 have hR:=qmc h.st
 have hG:Rdy c (qdc c u):=⟨h.few,hR⟩
 have hgl:=qic (c:=c) u
 have hfs:qam (qdc c u)=qam u:=rfl
 have e163:=ev300 c s (qdc c u) u (qam u) gq wq L hG.small e1
 have hl:=@z1l c s (qdc c u) u gq wq L hG.small hG.shp hn hF hG.sig (fun x hx=>zmv h.chk hx)
 have e47:=ev114 u (qga c u) hs
 unfold qga at e47 ⊢
 unfold qqg
 have q1:(qdc c u).ends=u.ends:=rfl
 have q2:(qdc c u).valves=u.valves:=rfl
 have q3:(qdc c u).inputs=u.inputs:=rfl
 have q4:(qdc c u).timers=u.timers:=rfl
 have hGv:=hG.shp.v
 have hGt:=hG.shp.t
 clear hR hG hfs
 generalize qdc c u=g at *
 obtain⟨ge,gw,gi,gv,gt⟩:=g
 simp only at q1 q2 q3 q4 hGv hGt hgl
 subst q1 q2 q3 q4
 generalize hg:(⟨u.ends,u.valves,u.inputs,gv,u.timers⟩:Ste)=g at *
 have hlen:(qcm c g).length=c.signals.length:=qhg _ (by rw[<-hg];exact hGv) (by rw[<-hg];exact hGt)
 have l1:((qcm c g).map Prod.fst).length=g.values.length:=by rw[List.length_map,hlen,<-hGv,<-hg]
 have l2:((qcm c g).map Prod.snd).length=g.timers.length:=by rw[List.length_map,hlen,<-hGt,<-hg]
 have z1:tv c g 0=g.values:=qft _ _
 have z2:tt c g 0=g.timers:=qft _ _
 have f1:tv c g c.signals.length=(qcm c g).map Prod.fst:=by
  have:=qhw l1
  rwa [List.length_map,hlen]at this
 have f2:tt c g c.signals.length=(qcm c g).map Prod.snd:=by
  have:=qhw l2
  rwa [List.length_map,hlen]at this
 have z3:bdL c g (qam g) 0=[]:=rfl
 have hFF:qam g=qam u:=by rw[<-hg]
 unfold zpj zpa at hl
 rw[z3,z1,z2,f1,f2]at hl
 rw[hFF]at hl
 unfold qwe at e47 ⊢
 rw[show qoe (qzp c (qad g)) (qam u:Nat) c.signals.length=bdL c g (qam u) c.signals.length from rfl]
 have hgc:g.ends=u.ends/\g.valves=u.valves/\g.inputs=u.inputs/\g.values=gv/\g.timers=u.timers:=by rw[<-hg];exact⟨rfl,rfl,rfl,rfl,rfl⟩
 obtain⟨k1,k2,k3,k4,k5⟩:=hgc
 rw[k1,k2,k3]at hl e47 ⊢
 rw[k4,k5]at hl
 rw[k4,hgl]at l1
 rw[k5]at l2
 rw[<-hg]at e162
 generalize bdL c g (qam u) c.signals.length=BB at *
 generalize (qcm c g).map Prod.fst=VV at *
 generalize (qcm c g).map Prod.snd=TT at *
 generalize qad g=LL at *
 generalize qam u=F at *
 generalize qhd u _=same at *
 rw[<-hg]at e163
 simp at e162 e163
 rw[qac,pg278]
 simp[ir278,e149,e162,e163,ev301,qaf]
 generalize hr:ev pg (.code (.going _ L278_0) _)=o
 obtain⟨r,rfl,⟨gn,m⟩,hm,f,hf,rfl⟩:∃r,o=some r/\_:=by rw[<-hr];exact hl (0,0) (.inr rfl) (by simp)
 clear hr
 have hmm:m=1\/m=0:=hm
 rcases hmm with rfl | rfl<;>simp[qaa,exT,qae,e47,l1.symm,l2.symm]
def qgc(d:Array Int):List (List V):=d.toList.map qdw
def put(h:H)(i g:Nat)(d:Array Int):H:=h.set i ⟨g,.arr 1 (qgc d)⟩
@[simp] theorem zso(d:Array Int):(qgc d).length=d.size:=by simp[qgc]
@[simp] theorem qjd(h:H)(i g:Nat)(d:Array Int):(put h i g d).length=h.length:=by simp[put]
theorem q0w{h:H}{i:Nat}(hi:i<h.length)(g:Nat)(d:Array Int):(put h i g d)[i]?=some ⟨g,.arr 1 (qgc d)⟩:=by
 unfold put
 rw[jN hi]
theorem zae{d:Array Int}{k:Nat}(hk:k<d.size):(qgc d)[k]?=some [num d[k]!]:=by
 unfold qgc
 rw[List.getElem?_map,Array.getElem?_toList,Array.getElem?_eq_getElem hk,Option.map_some,getElem!_pos d k hk]
theorem qbm(d:Array Int)(k:Nat)(v:Int):(qgc d).set k [num v]=qgc (d.setIfInBounds k v):=by
 unfold qgc
 rw[Array.toList_setIfInBounds,List.map_set]
theorem q9z(h:H)(i g:Nat)(d:Array Int)(d':Array Int):(put h i g d).set i ⟨g,.arr 1 (qgc d')⟩=put h i g d':=by
 unfold put
 rw[List.set_set]
theorem qku{h:H}(hc:qdb h)(i g:Nat)(d:Array Int):qdb (put h i g d):=by
 rw[qms]at hc ⊢
 intro o ho
 rw[qjd]
 unfold put at ho
 rcases jT ho with h1 | h1
 .exact hc o h1
 .rw[h1];rfl
theorem zof{h:H}(hc:qdb h)(i g:Nat)(d:Array Int):qaq h.length (put h i g d)=put h i g d:=by
 have:=qeo (qku hc i g d)
 rwa [qjd]at this
theorem zec{h:H}(hc:qdb h)(i g:Nat)(d:Array Int):qbc h.length (put h i g d)=put h i g d:=by
 have:=qmr (qku hc i g d)
 rwa [qjd]at this
theorem q3d{h:H}{i g:Nat}{d:Array Int}(hi:h[i]?=some ⟨g,.arr 1 (qgc d)⟩):put h i g d=h:=by
 unfold put
 obtain⟨hl,e⟩:=jG.1 hi
 rw[<-e,List.set_getElem_self]
end Go.Proofs.YtddeacahiilikaaGreat
