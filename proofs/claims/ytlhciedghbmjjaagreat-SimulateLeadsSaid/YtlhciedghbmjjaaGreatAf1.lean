/- Gates are computed, by control; the first state. What may happen, and what happens, by the reference. Strokes that are begun, and a run, by the reference. Are lists of strokes, and of events, equal, by the program. What follows an event, by the program. -/
import Derived.Test.YtlhciedghbmjjaaGreatQu3
import Derived.KernelRfl
import Derived.Test.YtlhciedghbmjjaaGreatSv1
set_option linter.all false
namespace Go.Proofs.YtlhciedghbmjjaaGreat
open Go Go.Am Go.Proofs
set_option maxRecDepth 100000
theorem z9k {c:Ct} {A:Nat} (hM:Mid c A) (s:Ste) (hs:s.small) (hS:Shp c s) (hok:q3n c (qaj c A)) {st:St} (h0:At (T50 c s 0) (h50 c s (qbh c (qal s) 0 (qag s))) st):∃ r,ev pg (.code (.going 20 L87_0) st)=some r∧qai (.exit 0) (T50 c s c.signals.length) (h50 c s (qvs c s)) r:=by
 refine qdv c.signals.length (T50 c s) (fun k=>h50 c s (qbh c (qal s) k (qag s))) _ ?_ ?_ h0
 ·intro k f hf hk
  have hsig:=hM.sig
  have hk':(k:Int) < c.signals.length:=by omega
  have wk:=qab (n:=(k:Int) + 1) (by omega) (by omega)
  have h84:=ev125 hM
  have hlen:=qex s
  have hgl:=qft c (qal s) (qag s) k
  have hA:s.ends.length=A:=by have:=hS.e; have:=hM.act; omega
  have hF:qal s=qao c A:=by unfold qao; rw [qal,hA,hS.i]
  have hN:(qag s).length=qaj c A:=by rw [hlen,hA,hS.i,hS.v]
  obtain ⟨hli,hch⟩:=hok _ (List.getElem_mem hk)
  have hc256:qaj c A≤256:=by
   have:=hM.hi; have:=hM.inp; have:=hM.sig
   unfold qaj; omega
  have h83:=ev124 c.signals[k].on (qbh c (qal s) k (qag s)) hli (by omega) (by rw [hgl,hN]; exact hch)
  have hval:s.values.length=c.signals.length:=hS.v
  have hkF:qao c A + k < qaj c A:=by unfold qao qaj; omega
  have w2:=qab (n:=(qao c A:Int) + (k:Int)) (by omega) (by omega)
  have hnn:(0:Int)≤(qao c A:Int) + (k:Int):=by omega
  have htn:((qao c A:Int) + (k:Int)).toNat=qao c A + k:=by omega
  have hst:qbh c (qal s) (k + 1) (qag s)=if c.signals[k].kind=0 then (qbh c (qal s) k (qag s)).set (qal s + k) (c.signals[k].on.holds (qbh c (qal s) k (qag s))) else qbh c (qal s) k (qag s):=by
   rw [qbh,qfx,List.getElem?_eq_getElem hk]
  have hdr:(qbh c (qal s) k (qag s)).length - qao c A=s.values.length:=by rw [hgl,hN,hval]; unfold qaj qao; omega
  unfold h50
  rw [hst]
  by_cases h0:c.signals[k].kind=0
  ·rw [if_pos h0,← List.set_drop,hF]
   rw [hF] at hgl h83 hdr
   generalize hW:qbh c (qao c A) k (qag s)=W at *
   generalize c.signals[k].on.holds W=b at *
   have hb1:k < (W.drop (qao c A)).length:=by rw [List.length_drop]; omega
   have hb2:qao c A + k < W.length:=by omega
   have hd1:((W.drop (qao c A)).set k b).map qho=((W.drop (qao c A)).map qho).set k [.bool b]:=by rw [List.map_set]
   have hd2:(W.set (qao c A + k) b).map qho=(W.map qho).set (qao c A + k) [.bool b]:=by rw [List.map_set]
   rw [hd1,hd2]
   have hb3:k < W.length - qao c A:=by omega
   unfold qdf at h83
   have hk4:k < s.values.length:=by omega
   have hk5:(k:Int) < s.values.length:=by omega
   have hk6:(qao c A:Int) + (k:Int) < (qag s).length:=by omega
   have hk7:qao c A + k < (qag s).length:=by omega
   generalize qao c A=F at *
   simp [qaa,exT,qad,T50,L87_0,hk,hk',wk,h0,h83,h84,w2,hnn,htn,hb2,hb3,hk4,hk7,hgl,hdr,hf.ne]
  ·have h0b:(c.signals[k].kind == 0)=false:=by simpa using h0
   rw [if_neg h0]
   generalize qbh c (qal s) k (qag s)=W at *
   simp [T50,L87_0,hk,hk',wk,h0b,hf.ne]
 ·intro f hf
  unfold h50 qvs
  generalize qbh c (qal s) c.signals.length (qag s)=W at *
  simp [T50,L87_0,hf.ne]
theorem ev87 {c:Ct} {A:Nat} (hM:Mid c A) (s:Ste) (hs:s.small) (hS:Shp c s) (hok:q3n c (qaj c A)):ev pg (.call (.fn 87 [] []) [c.v,s.v] [])=some { v:=(qfc c s).v,st:=⟨[],[]⟩ }:=by
 have hl:=@z9k c A hM s hs hS hok
 have h52:=ev123 s hs
 have hlen:=qsg (c:=c) s
 have hd:=qmr s
 obtain ⟨g1,g2,g3,g4,g5⟩:=hs
 have c1:=ev92 s.ends g1
 have c2:=ev93 s.valves g2
 have c3:=ev93 s.inputs g3
 have c4:=ev93 s.values g4
 have c5:=ev92 s.timers g5
 unfold qfc at hlen ⊢
 simp only at hlen
 unfold h50 at hl
 rw [qbh,hd] at hl
 generalize (qvs c s).drop (qal s)=W at *
 rw [qac,pg87]
 simp [qaa,exT,qad,ir87,qae,c1,c2,c3,c4,c5,h52]
 generalize hr:ev pg (.code (.going _ L87_0) _)=o
 obtain ⟨r,rfl,f,hf,rfl⟩:∃ r,o=some r∧_:=by rw [← hr]; exact hl (by simp [T50])
 clear hr
 simp [T50,hlen]
abbrev h56 (c:Ct) (A:Nat) (k:Nat):H:=[⟨0,.box c.cells⟩,o0,o0,o0,o0,o0,⟨0,.box (zhw 1)⟩,⟨1,.arr 1 (List.replicate A [num 0])⟩,⟨1,.arr 1 (List.replicate A [.bool false])⟩,⟨1,.arr 1 (List.replicate c.inputs.length [.bool false])⟩,⟨1,.arr 1 ((ini c k).map qho)⟩,⟨1,.arr 1 (List.replicate c.signals.length [num 0])⟩,o0,o0,o0,o0,o0,⟨0,.box [.sl 7 1 1 0 A,.sl 8 1 1 0 A,.sl 9 1 1 0 c.inputs.length,.sl 10 1 1 0 c.signals.length,.sl 11 1 1 0 c.signals.length]⟩]
def T56 (c:Ct) (k:Nat):Tm:=[none,some (.bptr 0 0),some (.bptr 6 0),some (num 0),none,none,some (.bptr 17 0)]++List.replicate 27 none++[some (.imm (c.signals.map Sg.row)),some (num c.signals.length),some (num k)]++List.replicate 14 none
theorem z8x (c:Ct) (A:Nat) (hn:c.signals.length≤128) {st:St} (h0:At (T56 c 0) (h56 c A 0) st):∃ r,ev pg (.code (.going 18 L53_0) st)=some r∧qai (.exit 0) (T56 c c.signals.length) (h56 c A c.signals.length) r:=by
 refine qdv c.signals.length (T56 c) (h56 c A) _ ?_ ?_ h0
 ·intro k f hf hk
  have hk':(k:Int) < c.signals.length:=by omega
  have wk:=qab (n:=(k:Int) + 1) (by omega) (by omega)
  have hl:=zqj c (k:=k) (by omega)
  have e:=qtf (A:=c.signals.map Sg.init) (B:=List.replicate c.signals.length false) (by simp) (k:=k) (by simpa using hk)
  rw [List.getElem_map] at e
  unfold h56 T56 ini
  rw [← e]
  unfold ini at hl
  generalize mix (c.signals.map Sg.init) (List.replicate c.signals.length false) k=W at *
  have hkW:k < W.length:=by omega
  simp [qaa,exT,qad,L53_0,hk,hk',wk,hkW,hf.ne]
 ·intro f hf
  unfold h56 T56 ini
  generalize mix (c.signals.map Sg.init) (List.replicate c.signals.length false) c.signals.length=W at *
  simp [L53_0,hf.ne]
def q5f (c:Ct):Ste × Int:=if c.check=0 then (qnv c,0) else (zeroS,c.check)
theorem ev53 (c:Ct) (hfew:c.small=true):ev pg (.call (.fn 53 [] []) [c.v] [])=some { v:=.tup [(q5f c).1.v,num (q5f c).2],st:=⟨[],[]⟩ }:=by
 have e79:=ev44 c hfew
 unfold q5f
 by_cases hc:c.check=0
 ·have hF:=q7s hfew hc
  have hM:=hF.mid
  have e87:=ev87 hM (qir c) hF.small hF.shp (q7r hc hfew)
  have hl:=@z8x c c.act.toNat hM.sig
  have hact:=hM.act
  have hhi:=hM.hi
  have hinp:=hM.inp
  have hsig:=hM.sig
  rw [if_pos hc]
  rw [hc] at e79
  unfold qnv
  generalize qfc c (qir c)=u at *
  have z0:ini c 0=List.replicate c.signals.length false:=qnn _ _
  have z1:ini c c.signals.length=c.signals.map Sg.init:=by
   have:=qsj (A:=c.signals.map Sg.init) (B:=List.replicate c.signals.length false) (by simp)
   rwa [List.length_map] at this
  unfold h56 at hl
  rw [z0,z1] at hl
  unfold qir at e87
  generalize c.act.toNat=A at *
  have e87':ev pg (.call (.fn 87 [] []) [.agg [num c.act,.imm (c.inputs.map q6l),.imm (c.signals.map Sg.row),qbw c.plus,qbw c.minus],.agg [.imm (List.replicate A [num 0]),.imm (List.replicate A [.bool false]),.imm (List.replicate c.inputs.length [.bool false]),.imm (c.signals.map (qho ∘ Sg.init)),.imm (List.replicate c.signals.length [num 0])]] [])=some { v:=u.v,st:=⟨[],[]⟩ }:=by
   rw [← e87]
   simp only [Ste.v,Ste.cells,qbw,qdf,List.map_replicate,List.map_map]
  rw [hact] at e87'
  have e79':ev pg (.call (.fn 44 [] []) [.agg [num (A:Int),.imm (c.inputs.map q6l),.imm (c.signals.map Sg.row),qbw c.plus,qbw c.minus]] [])=some { v:=num 0,st:=⟨[],[]⟩ }:=by rw [← hact]; exact e79
  have a1:A * 8≤140737488355328:=by omega
  have a2:A≤4611686018427387904:=by omega
  have a3:A≤140737488355328:=by omega
  have i2:c.inputs.length≤4611686018427387904:=by omega
  have i3:c.inputs.length≤140737488355328:=by omega
  have s1:c.signals.length * 8≤140737488355328:=by omega
  have s2:c.signals.length≤4611686018427387904:=by omega
  have s3:c.signals.length≤140737488355328:=by omega
  rw [qac,pg53]
  simp [qaa,exT,qad,ir53,e79',hact,a1,a2,a3,i2,i3,s1,s2,s3,qae]
  generalize hr:ev pg (.code (.going _ L53_0) _)=o
  obtain ⟨r,rfl,f,hf,rfl⟩:∃ r,o=some r∧_:=by rw [← hr]; exact hl (by simp [T56,hact])
  simp [T56,hact,e87']
 ·rw [if_neg hc]
  have hb:(c.check == 0)=false:=by simpa using hc
  rw [qac,pg53]
  generalize c.check=e at *
  simp [ir53,e79,hc,hb,zeroS]
theorem ev29 (c:Ct) (hfew:c.small=true):ev pg (.call (.fn 29 [] []) [c.v] [])=some { v:=zjy (qbb c),st:=⟨[],[]⟩ }:=by
 have e56:=ev53 c hfew
 unfold q5f at e56
 unfold qbb
 rw [qac,pg29]
 by_cases h:c.check=0
 ·have hR:=qhx h
  have e16:=ev54 c (qnv c) hfew (Rdy.small ⟨hfew,hR⟩)
  unfold qml at e16
  rw [if_pos hR] at e16
  rw [if_pos h] at e56 ⊢
  simp only at e56
  generalize qjn c (qnv c)=x at *
  generalize qnv c=b at *
  simp [ir29,e56,e16]
 ·rw [if_neg h] at e56 ⊢
  simp only at e56
  have hb:(c.check == 0)=false:=by simpa using h
  generalize c.check=e at *
  simp [ir29,e56,h,hb,zeroS]
abbrev Evn.v (x:Evn):V:=.agg x.row
abbrev zvb (p:Int × Bool):List V:=[num p.1,.bool p.2]
abbrev qub (l:List (Int × Bool)):V:=.imm (l.map zvb)
def qgh (a b:Ste) (k:Nat):List (Int × Bool):=(List.range k).filterMap (qvw a b)
theorem qza (a b:Ste) (k:Nat):qgh a b (k + 1)=qgh a b k++(match qvw a b k with | some p=>[p] | none=>[]):=by
 unfold qgh
 rw [List.range_succ,List.filterMap_append]
 cases h:qvw a b k <;> simp [h]
theorem qss (a b:Ste) (k:Nat):(qgh a b k).length≤k:=by
 unfold qgh
 exact Nat.le_trans (List.length_filterMap_le _ _) (by simp)
theorem zbi (a b:Ste):qew a b=qgh a b a.ends.length:=rfl
abbrev gm2 (a:Nat × Nat):Prop:=a.2=2∨a.2=0
abbrev h64 (x y:Ste) (k:Nat) (a:Nat × Nat):H:=[⟨0,.box x.cells⟩,⟨0,.box y.cells⟩,o0,⟨a.1,.arr a.2 ((qgh x y k).map zvb)⟩]
theorem qun {c:Ct}:∀ {d:Nat} {s:Ste} {l:List Int} {t:Ste} {m:List Int},qgz c d s l=some (t,m)→Lin (qgr c) m
 | 0,_,_,_,_,h=>by cases h
 | d + 1,s,l,t,m,h=>by
  rw [qgz] at h
  cases e:qdu c s with
  | none=>rw [e] at h; cases h
  | some x =>
   rw [e] at h
   simp only at h
   split at h
   ·cases h; exact Lin.norm _ _
   ·exact qun h
theorem qti (c:Ct) (s:Ste):Lin (qgr c) (qjn c s).2.1:=by
 unfold qjn
 cases e:qkq c s with
 | none=>exact Lin.nil _
 | some x=>exact qun (show qgz c 65 s []=some (x.1,x.2) from e)
theorem qpj (c:Ct) (s:Ste) (x:Evn):Lin (qgr c) (qam c s x).2.1:=by
 unfold qam
 split
 ·exact Lin.nil _
 ·split
  ·exact qti _ _
  ·exact Lin.nil _
abbrev zun (l:List (Int × Bool)):List V:=[qub l]
abbrev Crs.v (r:Crs):V:=.agg (r.st.cells++[.imm (r.strokes.map zun),qbw r.conf])
abbrev cr7 (b:Nat):List V:=[.sl b 0 0 0 0,.sl (b + 1) 0 0 0 0,.sl (b + 2) 0 0 0 0,.sl (b + 3) 0 0 0 0,.sl (b + 4) 0 0 0 0,.sl (b + 5) 0 0 0 0,.sl (b + 6) 0 0 0 0]
theorem zaa {c:Ct} {x:Evn} {l:List Evn} {i:Nat} {r:Crs} (h:¬ (qam c r.st x).2.2=0):qka c (x :: l) i r=(zeroCrs,(i:Int),(qam c r.st x).2.2):=by
 rw [qka,if_neg h]
def zgc (c:Ct) (s:Ste) (l:List Evn):Crs × Int × Int:=if quE c s=0 then (if 4096 < l.length then (zeroCrs,0,5) else qka c l 0 ⟨s,[],[]⟩) else (zeroCrs,0,quE c s)
theorem qwu {c:Ct} {s:Ste} (hfew:c.small=true) (h:quE c s=0):Rdy c s:=by
 unfold quE at h
 split at h
 ·exact ⟨hfew,by assumption⟩
 ·rename_i h2; exact absurd h h2
def T42 (a b:List (Int × Bool)) (k:Nat):Tm:=[some (qub a),some (qub b),none,none,none,none,none,none,none,none,none,none,some (num a.length),some (num k)]++List.replicate 12 none
def zug:Tm:=[none,none,none,none,some (.bool false)]++List.replicate 21 none
theorem z8v (a b:List (Int × Bool)) (hab:b.length=a.length) (ha:a.length≤100000) {st:St} (h0:At (T42 a b 0) [] st):∃ r,ev pg (.code (.going 0 L32_0) st)=some r∧qku a.length (fun k=>decide (a[k]? ≠ b[k]?)) (fun _=>qai .ret zug []) (qai (.exit 0) (T42 a b a.length) []) r:=by
 refine qcq _ _ (T42 a b) [] _ _ ?_ ?_ ?_ h0
 ·intro k f hf hk hp
  have hk':(k:Int) < a.length:=by omega
  have hkb:k < b.length:=by omega
  have wk:=qab (n:=(k:Int) + 1) (by omega) (by omega)
  have hb:a[k]=b[k]:=by simpa [hk,hkb] using hp
  simp [qaa,exT,qad,T42,L32_0,hk,hk',hkb,hb,wk,hf.ne]
 ·intro k f hf hk hp
  have hk':(k:Int) < a.length:=by omega
  have hkb:k < b.length:=by omega
  have hb:a[k] ≠ b[k]:=by simpa [hk,hkb] using hp
  by_cases h2:a[k].2=b[k].2
  ·have h1:¬ a[k].1=b[k].1:=fun h=>hb (Prod.ext h h2)
   have h1b:(a[k].1 == b[k].1)=false:=by simpa using h1
   simp [qaa,exT,qad,T42,zug,L32_0,hk,hk',hkb,h2,h1,h1b,hf.ne]
  ·have h2b:(a[k].2 == b[k].2)=false:=by simpa using h2
   by_cases h1:a[k].1=b[k].1
   ·simp [qaa,exT,qad,T42,zug,L32_0,hk,hk',hkb,h1,h2,h2b,hf.ne]
   ·have h1b:(a[k].1 == b[k].1)=false:=by simpa using h1
    simp [qaa,exT,qad,T42,zug,L32_0,hk,hk',hkb,h1,h1b,h2,h2b,hf.ne]
 ·intro f hf
  simp [T42,L32_0,hf.ne]
theorem ev32 (a b:List (Int × Bool)) (ha:a.length≤100000):ev pg (.call (.fn 32 [] []) [qub a,qub b] [])=some { v:=.bool (decide (a=b)),st:=⟨[],[]⟩ }:=by
 rw [qac,pg32]
 by_cases hab:b.length=a.length
 ·have hloop:=@z8v a b hab ha
  have hab':(b.length:Int)=a.length:=by omega
  simp [ir32,qae,hab']
  generalize hr:ev pg (.code (.going _ L32_0) _)=o
  obtain ⟨r,rfl,hQ⟩:∃ r,o=some r∧_:=by rw [← hr]; exact hloop (by simp [T42])
  rcases hQ with ⟨k,hk,hp,-,f,hf,rfl⟩ | ⟨hp,f,hf,rfl⟩
  ·have:a ≠ b:=by rintro rfl; simp at hp
   simp [zug,this]
  ·have:a=b:=by
    refine List.ext_getElem hab.symm fun k h1 h2=>?_
    have:=hp k h1
    simpa [h1,h2] using this
   simp [T42,this]
 ·have hne:((a.length:Int) != (b.length:Int))=true:=by rw [bne_iff_ne]; omega
  have:a ≠ b:=fun e=>hab (by rw [e])
  simp [ir32,hne,this]
theorem Evn.ext' {x y:Evn} (h1:x.kind=y.kind) (h2:x.idx=y.idx) (h3:x.val=y.val):x=y:=by
 cases x; cases y
 simp only at h1 h2 h3
 subst h1 h2 h3
 rfl
instance (x y:Evn):Decidable (x=y) :=
 if h:x.kind=y.kind∧x.idx=y.idx∧x.val=y.val then .isTrue (Evn.ext' h.1 h.2.1 h.2.2)
 else .isFalse fun e=>h (by rw [e]; exact ⟨rfl,rfl,rfl⟩)
instance:DecidableEq Evn:=fun x y=>inferInstance
abbrev z6l:List V:=[.fn 94 [.bptr 14 0] [],.fn 95 [.bptr 14 0] [],.fn 96 [.bptr 14 0] []]
abbrev hF (c:Ct) (s:Ste) (x:List V) (t:Ste):H:=[⟨0,.box c.cells⟩,⟨0,.box s.cells⟩,⟨0,.box x⟩,o0,o0,o0,o0,o0,⟨0,.box (zhw 3)⟩]++ar5 t++[⟨0,.box (sl5 9 t)⟩,⟨0,.box z6l⟩]
set_option maxHeartbeats 1000000 in
set_option maxHeartbeats 1000000 in
theorem ev94 {c:Ct} {s:Ste} (hS:Shp c s) (id:Int) (vl:Bool):ev pg (.call (.fn 94 [.bptr 14 0] []) [.agg [num 0,num id,.bool vl]] (hF c s [num 0,num id,.bool vl] s))=some { v:=.bool (q2p s ⟨0,id,vl⟩),st:=⟨[],hF c s [num 0,num id,.bool vl] (if q2p s ⟨0,id,vl⟩=true then qfk s ⟨0,id,vl⟩ else s)⟩ }:=by
 have hvt:s.values.length=s.timers.length:=by rw [hS.v,hS.t]
 unfold q2p qfk
 simp only
 rw [qac,pg94]
 by_cases hi:id < 0
 ·simp [qaa,exT,qad,ir94,hi]
 ·obtain ⟨n,rfl⟩:∃ n:Nat,id=n:=⟨id.toNat,by omega⟩
  have hi':¬ (n:Int) < 0:=by omega
  by_cases hl:s.ends.length≤n
  ·have hn:¬ n < s.ends.length:=by omega
   have hl':(s.ends.length:Int)≤n:=by omega
   simp [qaa,exT,qad,ir94,hi',hl,hl',hn,qtp]
  ·have hn:n < s.ends.length:=by omega
   have hl':¬ (s.ends.length:Int)≤n:=by omega
   by_cases h1:s.ends[n]=1
   ·simp [qaa,exT,qad,ir94,hl,hl',hi',hn,h1,qtp]
   ·have h1b:(s.ends[n] == 1)=false:=by simpa using h1
    by_cases h3:s.ends[n]=3
    ·simp [qaa,exT,qad,ir94,hl,hl',hi',hn,h3,qtp]
    ·have h3b:(s.ends[n] == 3)=false:=by simpa using h3
     simp [qaa,exT,qad,ir94,hl,hl',hi',hn,h1,h1b,h3,h3b,qtp]
set_option maxHeartbeats 1000000 in
theorem ev95 {c:Ct} {s:Ste} (hS:Shp c s) (id:Int) (vl:Bool):ev pg (.call (.fn 95 [.bptr 14 0] []) [.agg [num 1,num id,.bool vl]] (hF c s [num 1,num id,.bool vl] s))=some { v:=.bool (q2p s ⟨1,id,vl⟩),st:=⟨[],hF c s [num 1,num id,.bool vl] (if q2p s ⟨1,id,vl⟩=true then qfk s ⟨1,id,vl⟩ else s)⟩ }:=by
 have hvt:s.values.length=s.timers.length:=by rw [hS.v,hS.t]
 unfold q2p qfk
 simp only
 rw [qac,pg95]
 by_cases hi:id < 0
 ·simp [qaa,exT,qad,ir95,hi]
 ·obtain ⟨n,rfl⟩:∃ n:Nat,id=n:=⟨id.toNat,by omega⟩
  have hi':¬ (n:Int) < 0:=by omega
  by_cases hl:s.timers.length≤n
  ·have hn:¬ n < s.timers.length:=by omega
   have hl':(s.timers.length:Int)≤n:=by omega
   simp [qaa,exT,qad,ir95,hi',hl,hl',hn,qtp]
  ·have hn:n < s.timers.length:=by omega
   have hl':¬ (s.timers.length:Int)≤n:=by omega
   have hn2:n < s.values.length:=by omega
   by_cases h1:s.timers[n]=1
   ·simp [qaa,exT,qad,ir95,hl,hl',hi',hn,hn2,h1,qtp]
   ·have h1b:(s.timers[n] == 1)=false:=by simpa using h1
    simp [qaa,exT,qad,ir95,hl,hl',hi',hn,h1,h1b,qtp]
set_option maxHeartbeats 1000000 in
theorem ev96 {c:Ct} {s:Ste} (hS:Shp c s) (id:Int) (vl:Bool):ev pg (.call (.fn 96 [.bptr 14 0] []) [.agg [num 2,num id,.bool vl]] (hF c s [num 2,num id,.bool vl] s))=some { v:=.bool (q2p s ⟨2,id,vl⟩),st:=⟨[],hF c s [num 2,num id,.bool vl] (if q2p s ⟨2,id,vl⟩=true then qfk s ⟨2,id,vl⟩ else s)⟩ }:=by
 have hvt:s.values.length=s.timers.length:=by rw [hS.v,hS.t]
 unfold q2p qfk
 simp only
 rw [qac,pg96]
 by_cases hi:id < 0
 ·simp [qaa,exT,qad,ir96,hi]
 ·obtain ⟨n,rfl⟩:∃ n:Nat,id=n:=⟨id.toNat,by omega⟩
  have hi':¬ (n:Int) < 0:=by omega
  by_cases hl:s.inputs.length≤n
  ·have hn:¬ n < s.inputs.length:=by omega
   have hl':(s.inputs.length:Int)≤n:=by omega
   simp [qaa,exT,qad,ir96,hi',hl,hl',hn,qtp]
  ·have hn:n < s.inputs.length:=by omega
   have hl':¬ (s.inputs.length:Int)≤n:=by omega
   generalize hb:s.inputs[n]=b
   cases b <;> cases vl <;> simp [qaa,exT,qad,ir96,hl,hl',hi',hn,hb]
end Go.Proofs.YtlhciedghbmjjaaGreat
