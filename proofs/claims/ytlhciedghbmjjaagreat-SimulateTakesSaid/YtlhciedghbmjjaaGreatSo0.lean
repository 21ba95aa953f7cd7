/- A round of the signals, by settle. A round of the signals, by settle: the function. Sorting in place: own slices of numbers in a memory. -/
import Derived.Test.YtlhciedghbmjjaaGreatRu2
import Derived.KernelRfl
import Derived.Test.YtlhciedghbmjjaaGreatLo1
import Derived.Test.YtlhciedghbmjjaaGreatVs1
import Derived.Test.YtlhciedghbmjjaaGreatCt2
import Derived.Sort.AssemblyPlain
set_option linter.all false
namespace Go.Proofs.YtlhciedghbmjjaaGreat
open Go Go.Am Go.Proofs
set_option maxRecDepth 100000
theorem ev181 (s:Ste) (hs:s.small):ev pg (.call (.fn 181 [] []) [s.v] [])=some { v:=zpg s,st:=⟨[],z2j s⟩ }:=by
 have e1:=ev92 s.ends hs.e
 have e2:=ev93 s.valves hs.w
 have e3:=ev93 s.inputs hs.i
 have e4:=ev93 s.values hs.v
 have e5:=ev92 s.timers hs.t
 rw [qac,pg181]
 simp [qaa,exT,qad,ir181,e1,e2,e3,e4,e5,qcj,qee,qkj,qdy]
theorem ev56 (s:Ste) (hs:s.small):ev pg (.call (.fn 56 [] []) [s.v] [])=some { v:=zpg s,st:=⟨[],z2j s⟩ }:=by
 have e1:=ev92 s.ends hs.e
 have e2:=ev93 s.valves hs.w
 have e3:=ev93 s.inputs hs.i
 have e4:=ev93 s.values hs.v
 have e5:=ev92 s.timers hs.t
 rw [qac,pg56]
 simp [qaa,exT,qad,ir56,e1,e2,e3,e4,e5,qcj,qee,qkj,qdy]
def zlv (k:Int):V:=if k=0 then .fn 197 [] [] else if k=1 then .fn 198 [] [] else .fn 199 [] []
theorem zqr (x:Sg) (L:List Bool) (v:Bool) (t:Int) (hk:x.kind=0∨x.kind=1∨x.kind=2):ev pg (.call (zlv x.kind) [chg v t false,.bool (x.on.holds L),.bool (q8f x L)] [])=some { v:=chg (qoo x L v t).1 (qoo x L v t).2 (x.on.holds L && q8f x L),st:=⟨[],[]⟩ }:=by
 have hoff:x.kind ≠ 1→q8f x L=false:=fun h=>by unfold q8f; simp [h]
 have hoff1:x.kind=1→q8f x L=x.off.holds L:=fun h=>by unfold q8f; simp [h]
 unfold zlv qoo
 rcases hk with h | h | h
 ·rw [if_pos h,hoff (by omega),ev197,if_neg (by omega),if_neg (by omega)]
  simp
 ·rw [if_neg (by omega),if_pos h,hoff1 h,ev198,if_pos h]
  cases x.on.holds L <;> cases x.off.holds L <;> simp
 ·have e:=ev199 v t false (x.on.holds L) false
  rw [hoff (by omega)]
  simp only [h]
  simp
  rw [e]
  cases x.on.holds L
  ·simp
  ·by_cases h0:t=0 <;> simp [h0]
abbrev zrq (c:Ct) (s g b:Ste) (gq wq:Nat) (L:List Int) (k:Nat) (a:Nat × Nat):H:=zjm c s ⟨g.ends,g.valves,g.inputs,tv c g k,tt c g k⟩ b (qal g) gq wq L++[⟨0,.arr 1 ((qae g).map qic)⟩,⟨0,.box [.fn 197 [] [],.fn 198 [] [],.fn 199 [] []]⟩,o0,⟨a.1,.arr a.2 ((bdL c g (qal g) k).map qfb)⟩]
def zrm (c:Ct) (g:Ste) (k:Nat) (a:Nat × Nat):Tm:=[some (.bptr 15 0),none,some (.bool false),some (.sl 31 0 0 0 0),some (.bptr 28 0),some (.sl 29 0 1 0 (qae g).length),some (.bptr 30 0),some (.sl 32 a.1 a.2 0 (bdL c g (qal g) k).length)]++List.replicate 17 none++[some (.imm (c.signals.map Sg.row)),some (num c.signals.length),some (num k)]++List.replicate 77 none
set_option maxHeartbeats 4000000 in
theorem z2r (c:Ct) (s g b:Ste) (gq wq:Nat) (L:List Int) (hs:g.small) (hS:Shp c g) (hn:c.signals.length≤128) (hF:qal g≤10000) (hok:∀ x ∈ c.signals,SigOk (qae g).length x) (hkd:∀ x ∈ c.signals,x.kind=0∨x.kind=1∨x.kind=2) {st:St} (a0:Nat × Nat) (g0:a0.2=1∨a0.2=0) (h0:At (zrm c g 0 a0) (zrq c s g b gq wq L 0 a0) st):∃ r,ev pg (.code (.going 33 L182_0) st)=some r∧∃ a:Nat × Nat,(a.2=1∨a.2=0)∧qaj (.exit 0) (zrm c g c.signals.length a) (zrq c s g b gq wq L c.signals.length a) r:=by
 refine qdp c.signals.length (zrm c g) (zrq c s g b gq wq L) (fun _ a=>a.2=1∨a.2=0) _ ?_ ?_ a0 g0 h0
 ·rintro k ⟨gn,m⟩ f hf hk hG
  have hk':(k:Int) < c.signals.length:=by omega
  have wk:=qab (n:=(k:Int) + 1) (by omega) (by omega)
  have hkv:k < g.values.length:=by rw [hS.v]; exact hk
  have hkt:k < g.timers.length:=by rw [hS.t]; exact hk
  have hx:=hok _ (List.getElem_mem hk)
  have hrule:=zqr c.signals[k] (qae g) g.values[k] g.timers[k] (hkd _ (List.getElem_mem hk))
  have e1:=ev193 (qae g) c.signals[k].on hx.on.1 hx.on.2
  have hlen:(qfr c g).length=c.signals.length:=qnc _ hS.v hS.t
  have hkl:k < (qfr c g).length:=by omega
  have hget':(qfr c g)[k]=qoo c.signals[k] (qae g) g.values[k] g.timers[k]:=by
   have:(qfr c g)[k]?=some (qoo c.signals[k] (qae g) g.values[k] g.timers[k]):=qrw _ (List.getElem?_eq_getElem hk) (List.getElem?_eq_getElem hkv) (List.getElem?_eq_getElem hkt)
   rw [List.getElem?_eq_getElem hkl] at this
   exact Option.some.inj this
  have l1:((qfr c g).map Prod.fst).length=g.values.length:=by rw [List.length_map,hlen,hS.v]
  have l2:((qfr c g).map Prod.snd).length=g.timers.length:=by rw [List.length_map,hlen,hS.t]
  have f1:=qtn (A:=(qfr c g).map Prod.fst) (B:=g.values) l1 (k:=k) (by rw [List.length_map]; exact hkl)
  have f2:=qtn (A:=(qfr c g).map Prod.snd) (B:=g.timers) l2 (k:=k) (by rw [List.length_map]; exact hkl)
  rw [List.getElem_map,hget'] at f1 f2
  have m1:=qte (A:=(qfr c g).map Prod.fst) (B:=g.values) l1 (k:=k) (by rw [List.length_map]; omega)
  have m2:=qte (A:=(qfr c g).map Prod.snd) (B:=g.timers) l2 (k:=k) (by rw [List.length_map]; omega)
  rw [l1] at m1
  rw [l2] at m2
  have n1:=qyr (A:=(qfr c g).map Prod.fst) (B:=g.values) l1 (k:=k) (by rw [List.length_map]; exact hkl)
  have n2:=qyr (A:=(qfr c g).map Prod.snd) (B:=g.timers) l2 (k:=k) (by rw [List.length_map]; exact hkl)
  rw [List.getElem?_eq_getElem hkv] at n1
  rw [List.getElem?_eq_getElem hkt] at n2
  have f3:=qza (zhz c (qae g)) (qal g:Nat) k
  have hb:zhz c (qae g) k=(c.signals[k].on.holds (qae g) && q8f c.signals[k] (qae g)):=by
   unfold zhz; rw [List.getElem?_eq_getElem hk]; rfl
  rw [hb] at f3
  have hsl:=qri (zhz c (qae g)) (qal g:Nat) k
  unfold zrm zrq tv tt bdL
  rw [← f1,← f2,f3]
  have e2:c.signals[k].kind=1→ev pg (.call (.fn 193 [] []) [c.signals[k].off.v,qeo (qae g)] [])=some { v:=.bool (q8f c.signals[k] (qae g)),st:=⟨[],[]⟩ }:=fun h=>by
   rw [ev193 (qae g) c.signals[k].off (hx.off h).1 (hx.off h).2]
   unfold q8f
   simp [h]
  have hoff:c.signals[k].kind ≠ 1→q8f c.signals[k] (qae g)=false:=fun h=>by unfold q8f; simp [h]
  generalize hv0:g.values[k]=v0 at *
  generalize ht0:g.timers[k]=t0 at *
  generalize mix ((qfr c g).map Prod.fst) g.values k=VV at *
  generalize mix ((qfr c g).map Prod.snd) g.timers k=TT at *
  generalize qyp (zhz c (qae g)) (qal g:Nat) k=BB at *
  generalize qoo c.signals[k] (qae g) v0 t0=p at *
  generalize qal g=F at *
  generalize hon:c.signals[k].on.holds (qae g)=on at *
  generalize q8f c.signals[k] (qae g)=off at *
  generalize qae g=LL at *
  have hkV:k < VV.length:=by omega
  have hkT:k < TT.length:=by omega
  have v1:VV[k]=v0:=by
   rw [List.getElem?_eq_getElem hkV] at n1
   exact Option.some.inj n1
  have t1:TT[k]=t0:=by
   rw [List.getElem?_eq_getElem hkT] at n2
   exact Option.some.inj n2
  have hb1:(BB.length + 1) * 8≤140737488355328:=by omega
  have wF:=qab (n:=(F:Int) + k) (by omega) (by omega)
  have hmm:m=1∨m=0:=hG
  obtain ⟨p1,p2⟩:=p
  unfold zlv at hrule
  rcases hkd _ (List.getElem_mem hk) with h0 | h0 | h0
  ·have h0b:(c.signals[k].kind == 1)=false:=by rw [h0]; rfl
   obtain rfl:=hoff (by omega)
   rw [if_pos h0,Bool.and_false] at hrule
   rcases hmm with rfl | rfl <;> simp [qaa,exT,qad,L182_0,hk,hk',wk,h0,e1,hrule,hkV,hkT,v1,t1,hf.ne]
  ·rw [if_neg (by omega),if_pos h0] at hrule
   have e2':=e2 h0
   generalize hcf:(on && off)=cf at *
   rcases hmm with rfl | rfl <;> cases cf <;> simp [qaa,exT,qad,L182_0,hk,hk',wk,h0,e1,e2',hrule,hkV,hkT,v1,t1,wF,hb1,hf.ne]
  ·have h0b:(c.signals[k].kind == 1)=false:=by rw [h0]; rfl
   obtain rfl:=hoff (by omega)
   rw [if_neg (by omega),if_neg (by omega),Bool.and_false] at hrule
   rcases hmm with rfl | rfl <;> simp [qaa,exT,qad,L182_0,hk,hk',wk,h0,e1,hrule,hkV,hkT,v1,t1,hf.ne]
 ·rintro ⟨gn,m⟩ f hf hG
  unfold zrm zrq
  generalize bdL c g (qal g) c.signals.length=BB at *
  have hmm:m=1∨m=0:=hG
  rcases hmm with rfl | rfl <;> simp [L182_0,hf.ne]
theorem zqu {c:Ct} (hc:c.check=0) {x:Sg} (hx:x ∈ c.signals):x.kind=0∨x.kind=1∨x.kind=2:=by
 obtain ⟨i,hi,rfl⟩:=List.getElem_of_mem hx
 have hz:=qrf hc i _ (List.getElem?_eq_getElem hi)
 unfold q1v at hz
 split at hz
 ·split at hz
  ·cases hz
  ·omega
 ·rename_i h4; exact absurd hz h4
set_option maxHeartbeats 2000000 in
theorem ev182 {c:Ct} {u:Ste} (s:Ste) (h:Rdy c u) (gq wq:Nat) (L:List Int):ev pg (.call (.fn 182 [] []) [.bptr 15 0] (hM c s u (qal u)++hQ gq wq L))=some { v:=.tup [.bool (!qkp u (qmh c u)),qck (q8x c u)],st:=⟨[],hM c s (qmh c u) (qal u)++hQ gq wq L⟩ }:=by
 have hs:=h.small
 have hS:=h.shp
 have hM':=h.mid
 have hn:=hM'.sig
 have e1:1≤u.ends.length:=by have:=hS.e; have:=hM'.lo; have:=hM'.act; omega
 have hF:qal u≤10000:=by have:=hS.e; have:=hS.i; have:=hM'.inp; have:=hM'.hi; have:=hM'.act; unfold qal; omega
 have e149:=ev181 u hs
 have e162:=ev190 c s u u gq wq L hs hS hn hF e1 (fun x hx=>(h.sig x hx).on)
 have hR:=qmo h.st
 have hG:Rdy c (qfg c u):=⟨h.few,hR⟩
 have hgl:=qsg (c:=c) u
 have hfs:qal (qfg c u)=qal u:=rfl
 have e163:=ev191 c s (qfg c u) u (qal u) gq wq L hG.small e1
 have hl:=@z2r c s (qfg c u) u gq wq L hG.small hG.shp hn hF hG.sig (fun x hx=>zqu h.chk hx)
 have e47:=ev90 u (qmh c u) hs
 unfold qmh at e47 ⊢
 unfold q8x
 have q1:(qfg c u).ends=u.ends:=rfl
 have q2:(qfg c u).valves=u.valves:=rfl
 have q3:(qfg c u).inputs=u.inputs:=rfl
 have q4:(qfg c u).timers=u.timers:=rfl
 have hGv:=hG.shp.v
 have hGt:=hG.shp.t
 clear hR hG hfs
 generalize qfg c u=g at *
 obtain ⟨ge,gw,gi,gv,gt⟩:=g
 simp only at q1 q2 q3 q4 hGv hGt hgl
 subst q1 q2 q3 q4
 generalize hg:(⟨u.ends,u.valves,u.inputs,gv,u.timers⟩:Ste)=g at *
 have hlen:(qfr c g).length=c.signals.length:=qnc _ (by rw [← hg]; exact hGv) (by rw [← hg]; exact hGt)
 have l1:((qfr c g).map Prod.fst).length=g.values.length:=by rw [List.length_map,hlen,← hGv,← hg]
 have l2:((qfr c g).map Prod.snd).length=g.timers.length:=by rw [List.length_map,hlen,← hGt,← hg]
 have z1:tv c g 0=g.values:=qna _ _
 have z2:tt c g 0=g.timers:=qna _ _
 have f1:tv c g c.signals.length=(qfr c g).map Prod.fst:=by
  have:=qtr l1
  rwa [List.length_map,hlen] at this
 have f2:tt c g c.signals.length=(qfr c g).map Prod.snd:=by
  have:=qtr l2
  rwa [List.length_map,hlen] at this
 have z3:bdL c g (qal g) 0=[]:=rfl
 have hFF:qal g=qal u:=by rw [← hg]
 unfold zrq zrm at hl
 rw [z3,z1,z2,f1,f2] at hl
 rw [hFF] at hl
 unfold q1h at e47 ⊢
 rw [show qyp (zhz c (qae g)) (qal u:Nat) c.signals.length=bdL c g (qal u) c.signals.length from rfl]
 have hgc:g.ends=u.ends∧g.valves=u.valves∧g.inputs=u.inputs∧g.values=gv∧g.timers=u.timers:=by rw [← hg]; exact ⟨rfl,rfl,rfl,rfl,rfl⟩
 obtain ⟨k1,k2,k3,k4,k5⟩:=hgc
 rw [k1,k2,k3] at hl e47 ⊢
 rw [k4,k5] at hl
 rw [k4,hgl] at l1
 rw [k5] at l2
 rw [← hg] at e162
 generalize bdL c g (qal u) c.signals.length=BB at *
 generalize (qfr c g).map Prod.fst=VV at *
 generalize (qfr c g).map Prod.snd=TT at *
 generalize qae g=LL at *
 generalize qal u=F at *
 generalize qkp u _=same at *
 rw [← hg] at e163
 simp at e162 e163
 rw [qac,pg182]
 simp [ir182,e149,e162,e163,ev192,qag]
 generalize hr:ev pg (.code (.going _ L182_0) _)=o
 obtain ⟨r,rfl,⟨gn,m⟩,hm,f,hf,rfl⟩:∃ r,o=some r∧_:=by rw [← hr]; exact hl (0,0) (.inr rfl) (by simp)
 clear hr
 have hmm:m=1∨m=0:=hm
 rcases hmm with rfl | rfl <;> simp [qaa,exT,qad,e47,l1.symm,l2.symm]
def qgl (d:Array Int):List (List V):=d.toList.map qfb
def put (h:H) (i g:Nat) (d:Array Int):H:=h.set i ⟨g,.arr 1 (qgl d)⟩
@[simp] theorem zwu (d:Array Int):(qgl d).length=d.size:=by simp [qgl]
@[simp] theorem qjg (h:H) (i g:Nat) (d:Array Int):(put h i g d).length=h.length:=by simp [put]
theorem q2t {h:H} {i:Nat} (hi:i < h.length) (g:Nat) (d:Array Int):(put h i g d)[i]?=some ⟨g,.arr 1 (qgl d)⟩:=by
 unfold put
 rw [List.getElem?_set_self hi]
theorem zdi {d:Array Int} {k:Nat} (hk:k < d.size):(qgl d)[k]?=some [num d[k]!]:=by
 unfold qgl
 rw [List.getElem?_map,Array.getElem?_toList,Array.getElem?_eq_getElem hk,Option.map_some,getElem!_pos d k hk]
theorem qbn (d:Array Int) (k:Nat) (v:Int):(qgl d).set k [num v]=qgl (d.setIfInBounds k v):=by
 unfold qgl
 rw [Array.toList_setIfInBounds,List.map_set]
theorem zel (h:H) (i g:Nat) (d:Array Int) (d':Array Int):(put h i g d).set i ⟨g,.arr 1 (qgl d')⟩=put h i g d':=by
 unfold put
 rw [List.set_set]
theorem qkx {h:H} (hc:qci h) (i g:Nat) (d:Array Int):qci (put h i g d):=by
 rw [qhs] at hc ⊢
 intro o ho
 rw [qjg]
 unfold put at ho
 rcases List.mem_or_eq_of_mem_set ho with h1 | h1
 ·exact hc o h1
 ·rw [h1]; rfl
theorem zos {h:H} (hc:qci h) (i g:Nat) (d:Array Int):qam h.length (put h i g d)=put h i g d:=by
 have:=qdg (qkx hc i g d)
 rwa [qjg] at this
theorem zgv {h:H} (hc:qci h) (i g:Nat) (d:Array Int):qay h.length (put h i g d)=put h i g d:=by
 have:=qge (qkx hc i g d)
 rwa [qjg] at this
theorem q4l {h:H} {i g:Nat} {d:Array Int} (hi:h[i]?=some ⟨g,.arr 1 (qgl d)⟩):put h i g d=h:=by
 unfold put
 obtain ⟨hl,e⟩:=List.getElem?_eq_some_iff.1 hi
 rw [← e,List.set_getElem_self]
end Go.Proofs.YtlhciedghbmjjaaGreat
