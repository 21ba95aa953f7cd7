/- Gates are computed, by control; the first state. What may happen, and what happens, by the reference. Strokes that are begun, and a run, by the reference. What follows an event, by the program. -/
import Derived.Test.YtlhciedghbmjjaaGreatQu3
import Derived.KernelRfl
set_option linter.all false
namespace Go.Proofs.YtlhciedghbmjjaaGreat
open Go Go.Am Go.Proofs
set_option maxRecDepth 100000
theorem z7x {c:Ct} {A:Nat} (hM:Mid c A) (s:Ste) (hs:s.small) (hS:Shp c s) (hok:q2s c (qai c A)) {st:St} (h0:At (T50 c s 0) (h50 c s (qbg c (qal s) 0 (qae s))) st):∃ r,ev pg (.code (.going 20 L87_0) st)=some r∧qaj (.exit 0) (T50 c s c.signals.length) (h50 c s (qvf c s)) r:=by
 refine qfi c.signals.length (T50 c s) (fun k=>h50 c s (qbg c (qal s) k (qae s))) _ ?_ ?_ h0
 ·intro k f hf hk
  have hsig:=hM.sig
  have hk':(k:Int) < c.signals.length:=by omega
  have wk:=qab (n:=(k:Int) + 1) (by omega) (by omega)
  have h84:=ev125 hM
  have hlen:=qew s
  have hgl:=qfn c (qal s) (qae s) k
  have hA:s.ends.length=A:=by have:=hS.e; have:=hM.act; omega
  have hF:qal s=qan c A:=by unfold qan; rw [qal,hA,hS.i]
  have hN:(qae s).length=qai c A:=by rw [hlen,hA,hS.i,hS.v]
  obtain ⟨hli,hch⟩:=hok _ (List.getElem_mem hk)
  have hc256:qai c A≤256:=by
   have:=hM.hi; have:=hM.inp; have:=hM.sig
   unfold qai; omega
  have h83:=ev124 c.signals[k].on (qbg c (qal s) k (qae s)) hli (by omega) (by rw [hgl,hN]; exact hch)
  have hval:s.values.length=c.signals.length:=hS.v
  have hkF:qan c A + k < qai c A:=by unfold qan qai; omega
  have w2:=qab (n:=(qan c A:Int) + (k:Int)) (by omega) (by omega)
  have hnn:(0:Int)≤(qan c A:Int) + (k:Int):=by omega
  have htn:((qan c A:Int) + (k:Int)).toNat=qan c A + k:=by omega
  have hst:qbg c (qal s) (k + 1) (qae s)=if c.signals[k].kind=0 then (qbg c (qal s) k (qae s)).set (qal s + k) (c.signals[k].on.holds (qbg c (qal s) k (qae s))) else qbg c (qal s) k (qae s):=by
   rw [qbg,qfy,List.getElem?_eq_getElem hk]
  have hdr:(qbg c (qal s) k (qae s)).length - qan c A=s.values.length:=by rw [hgl,hN,hval]; unfold qai qan; omega
  unfold h50
  rw [hst]
  by_cases h0:c.signals[k].kind=0
  ·rw [if_pos h0,← List.set_drop,hF]
   rw [hF] at hgl h83 hdr
   generalize hW:qbg c (qan c A) k (qae s)=W at *
   generalize c.signals[k].on.holds W=b at *
   have hb1:k < (W.drop (qan c A)).length:=by rw [List.length_drop]; omega
   have hb2:qan c A + k < W.length:=by omega
   have hd1:((W.drop (qan c A)).set k b).map qic=((W.drop (qan c A)).map qic).set k [.bool b]:=by rw [List.map_set]
   have hd2:(W.set (qan c A + k) b).map qic=(W.map qic).set (qan c A + k) [.bool b]:=by rw [List.map_set]
   rw [hd1,hd2]
   have hb3:k < W.length - qan c A:=by omega
   unfold qeo at h83
   have hk4:k < s.values.length:=by omega
   have hk5:(k:Int) < s.values.length:=by omega
   have hk6:(qan c A:Int) + (k:Int) < (qae s).length:=by omega
   have hk7:qan c A + k < (qae s).length:=by omega
   generalize qan c A=F at *
   simp [qaa,exT,qad,T50,L87_0,hk,hk',wk,h0,h83,h84,w2,hnn,htn,hb2,hb3,hk4,hk7,hgl,hdr,hf.ne]
  ·have h0b:(c.signals[k].kind == 0)=false:=by simpa using h0
   rw [if_neg h0]
   generalize qbg c (qal s) k (qae s)=W at *
   simp [T50,L87_0,hk,hk',wk,h0b,hf.ne]
 ·intro f hf
  unfold h50 qvf
  generalize qbg c (qal s) c.signals.length (qae s)=W at *
  simp [T50,L87_0,hf.ne]
theorem ev87 {c:Ct} {A:Nat} (hM:Mid c A) (s:Ste) (hs:s.small) (hS:Shp c s) (hok:q2s c (qai c A)):ev pg (.call (.fn 87 [] []) [c.v,s.v] [])=some { v:=(qfg c s).v,st:=⟨[],[]⟩ }:=by
 have hl:=@z7x c A hM s hs hS hok
 have h52:=ev123 s hs
 have hlen:=qsg (c:=c) s
 have hd:=qmi s
 obtain ⟨g1,g2,g3,g4,g5⟩:=hs
 have c1:=ev92 s.ends g1
 have c2:=ev93 s.valves g2
 have c3:=ev93 s.inputs g3
 have c4:=ev93 s.values g4
 have c5:=ev92 s.timers g5
 unfold qfg at hlen ⊢
 simp only at hlen
 unfold h50 at hl
 rw [qbg,hd] at hl
 generalize (qvf c s).drop (qal s)=W at *
 rw [qac,pg87]
 simp [qaa,exT,qad,ir87,qag,c1,c2,c3,c4,c5,h52]
 generalize hr:ev pg (.code (.going _ L87_0) _)=o
 obtain ⟨r,rfl,f,hf,rfl⟩:∃ r,o=some r∧_:=by rw [← hr]; exact hl (by simp [T50])
 clear hr
 simp [T50,hlen]
abbrev h56 (c:Ct) (A:Nat) (k:Nat):H:=[⟨0,.box c.cells⟩,o0,o0,o0,o0,o0,⟨0,.box (zfe 1)⟩,⟨1,.arr 1 (List.replicate A [num 0])⟩,⟨1,.arr 1 (List.replicate A [.bool false])⟩,⟨1,.arr 1 (List.replicate c.inputs.length [.bool false])⟩,⟨1,.arr 1 ((ini c k).map qic)⟩,⟨1,.arr 1 (List.replicate c.signals.length [num 0])⟩,o0,o0,o0,o0,o0,⟨0,.box [.sl 7 1 1 0 A,.sl 8 1 1 0 A,.sl 9 1 1 0 c.inputs.length,.sl 10 1 1 0 c.signals.length,.sl 11 1 1 0 c.signals.length]⟩]
def T56 (c:Ct) (k:Nat):Tm:=[none,some (.bptr 0 0),some (.bptr 6 0),some (num 0),none,none,some (.bptr 17 0)]++List.replicate 27 none++[some (.imm (c.signals.map Sg.row)),some (num c.signals.length),some (num k)]++List.replicate 14 none
theorem z8b (c:Ct) (A:Nat) (hn:c.signals.length≤128) {st:St} (h0:At (T56 c 0) (h56 c A 0) st):∃ r,ev pg (.code (.going 18 L53_0) st)=some r∧qaj (.exit 0) (T56 c c.signals.length) (h56 c A c.signals.length) r:=by
 refine qfi c.signals.length (T56 c) (h56 c A) _ ?_ ?_ h0
 ·intro k f hf hk
  have hk':(k:Int) < c.signals.length:=by omega
  have wk:=qab (n:=(k:Int) + 1) (by omega) (by omega)
  have hl:=zrd c (k:=k) (by omega)
  have e:=qtn (A:=c.signals.map Sg.init) (B:=List.replicate c.signals.length false) (by simp) (k:=k) (by simpa using hk)
  rw [List.getElem_map] at e
  unfold h56 T56 ini
  rw [← e]
  unfold ini at hl
  generalize mix (c.signals.map Sg.init) (List.replicate c.signals.length false) k=W at *
  have hkW:k < W.length:=by omega
  simp [qaa,exT,qad,L53_0,hk,hk',wk,hkW,hf.ne]
 ·intro f hf
  unfold h56 T56 ini
  generalize mix (c.signals.map Sg.init) (List.replicate c.signals.length false) c.signals.length=W at *
  simp [L53_0,hf.ne]
def q4s (c:Ct):Ste × Int:=if c.check=0 then (qnw c,0) else (zeroS,c.check)
theorem ev53 (c:Ct) (hfew:c.small=true):ev pg (.call (.fn 53 [] []) [c.v] [])=some { v:=.tup [(q4s c).1.v,num (q4s c).2],st:=⟨[],[]⟩ }:=by
 have e79:=ev44 c hfew
 unfold q4s
 by_cases hc:c.check=0
 ·have hF:=q8p hfew hc
  have hM:=hF.mid
  have e87:=ev87 hM (qil c) hF.small hF.shp (q6x hc hfew)
  have hl:=@z8b c c.act.toNat hM.sig
  have hact:=hM.act
  have hhi:=hM.hi
  have hinp:=hM.inp
  have hsig:=hM.sig
  rw [if_pos hc]
  rw [hc] at e79
  unfold qnw
  generalize qfg c (qil c)=u at *
  have z0:ini c 0=List.replicate c.signals.length false:=qna _ _
  have z1:ini c c.signals.length=c.signals.map Sg.init:=by
   have:=qtr (A:=c.signals.map Sg.init) (B:=List.replicate c.signals.length false) (by simp)
   rwa [List.length_map] at this
  unfold h56 at hl
  rw [z0,z1] at hl
  unfold qil at e87
  generalize c.act.toNat=A at *
  have e87':ev pg (.call (.fn 87 [] []) [.agg [num c.act,.imm (c.inputs.map q4o),.imm (c.signals.map Sg.row),qck c.plus,qck c.minus],.agg [.imm (List.replicate A [num 0]),.imm (List.replicate A [.bool false]),.imm (List.replicate c.inputs.length [.bool false]),.imm (c.signals.map (qic ∘ Sg.init)),.imm (List.replicate c.signals.length [num 0])]] [])=some { v:=u.v,st:=⟨[],[]⟩ }:=by
   rw [← e87]
   simp only [Ste.v,Ste.cells,qck,qeo,List.map_replicate,List.map_map]
  rw [hact] at e87'
  have e79':ev pg (.call (.fn 44 [] []) [.agg [num (A:Int),.imm (c.inputs.map q4o),.imm (c.signals.map Sg.row),qck c.plus,qck c.minus]] [])=some { v:=num 0,st:=⟨[],[]⟩ }:=by rw [← hact]; exact e79
  have a1:A * 8≤140737488355328:=by omega
  have a2:A≤4611686018427387904:=by omega
  have a3:A≤140737488355328:=by omega
  have i2:c.inputs.length≤4611686018427387904:=by omega
  have i3:c.inputs.length≤140737488355328:=by omega
  have s1:c.signals.length * 8≤140737488355328:=by omega
  have s2:c.signals.length≤4611686018427387904:=by omega
  have s3:c.signals.length≤140737488355328:=by omega
  rw [qac,pg53]
  simp [qaa,exT,qad,ir53,e79',hact,a1,a2,a3,i2,i3,s1,s2,s3,qag]
  generalize hr:ev pg (.code (.going _ L53_0) _)=o
  obtain ⟨r,rfl,f,hf,rfl⟩:∃ r,o=some r∧_:=by rw [← hr]; exact hl (by simp [T56,hact])
  simp [T56,hact,e87']
 ·rw [if_neg hc]
  have hb:(c.check == 0)=false:=by simpa using hc
  rw [qac,pg53]
  generalize c.check=e at *
  simp [ir53,e79,hc,hb,zeroS]
theorem ev29 (c:Ct) (hfew:c.small=true):ev pg (.call (.fn 29 [] []) [c.v] [])=some { v:=znc (qbk c),st:=⟨[],[]⟩ }:=by
 have e56:=ev53 c hfew
 unfold q4s at e56
 unfold qbk
 rw [qac,pg29]
 by_cases h:c.check=0
 ·have hR:=qht h
  have e16:=ev54 c (qnw c) hfew (Rdy.small ⟨hfew,hR⟩)
  unfold qqx at e16
  rw [if_pos hR] at e16
  rw [if_pos h] at e56 ⊢
  simp only at e56
  generalize qji c (qnw c)=x at *
  generalize qnw c=b at *
  simp [ir29,e56,e16]
 ·rw [if_neg h] at e56 ⊢
  simp only at e56
  have hb:(c.check == 0)=false:=by simpa using h
  generalize c.check=e at *
  simp [ir29,e56,h,hb,zeroS]
abbrev Evn.v (x:Evn):V:=.agg x.row
abbrev zse (p:Int × Bool):List V:=[num p.1,.bool p.2]
abbrev q6j (l:List (Int × Bool)):V:=.imm (l.map zse)
def qgn (a b:Ste) (k:Nat):List (Int × Bool):=(List.range k).filterMap (qma a b)
theorem qze (a b:Ste) (k:Nat):qgn a b (k + 1)=qgn a b k++(match qma a b k with | some p=>[p] | none=>[]):=by
 unfold qgn
 rw [List.range_succ,List.filterMap_append]
 cases h:qma a b k <;> simp [h]
theorem qsv (a b:Ste) (k:Nat):(qgn a b k).length≤k:=by
 unfold qgn
 exact Nat.le_trans (List.length_filterMap_le _ _) (by simp)
theorem q9x (a b:Ste):qcv a b=qgn a b a.ends.length:=rfl
abbrev gm2 (a:Nat × Nat):Prop:=a.2=2∨a.2=0
abbrev h64 (x y:Ste) (k:Nat) (a:Nat × Nat):H:=[⟨0,.box x.cells⟩,⟨0,.box y.cells⟩,o0,⟨a.1,.arr a.2 ((qgn x y k).map zse)⟩]
theorem qva {c:Ct}:∀ {d:Nat} {s:Ste} {l:List Int} {t:Ste} {m:List Int},qfl c d s l=some (t,m)→Lin (qie c) m
 | 0,_,_,_,_,h=>by cases h
 | d + 1,s,l,t,m,h=>by
  rw [qfl] at h
  cases e:qdj c s with
  | none=>rw [e] at h; cases h
  | some x =>
   rw [e] at h
   simp only at h
   split at h
   ·cases h; exact Lin.norm _ _
   ·exact qva h
theorem qzf (c:Ct) (s:Ste):Lin (qie c) (qji c s).2.1:=by
 unfold qji
 cases e:qlr c s with
 | none=>exact Lin.nil _
 | some x=>exact qva (show qfl c 65 s []=some (x.1,x.2) from e)
theorem qur (c:Ct) (s:Ste) (x:Evn):Lin (qie c) (qap c s x).2.1:=by
 unfold qap
 split
 ·exact Lin.nil _
 ·split
  ·exact qzf _ _
  ·exact Lin.nil _
abbrev z8g (l:List (Int × Bool)):List V:=[q6j l]
abbrev Crs.v (r:Crs):V:=.agg (r.st.cells++[.imm (r.strokes.map z8g),qck r.conf])
def z6s (c:Ct) (s:Ste) (l:List Evn):Crs × Int × Int:=if quE c s=0 then (if 4096 < l.length then (q3q,0,5) else q2q c l 0 ⟨s,[],[]⟩) else (q3q,0,quE c s)
theorem zad {c:Ct} {s:Ste} (hfew:c.small=true) (h:quE c s=0):Rdy c s:=by
 unfold quE at h
 split at h
 ·exact ⟨hfew,by assumption⟩
 ·rename_i h2; exact absurd h h2
abbrev z2w:List V:=[.fn 94 [.bptr 14 0] [],.fn 95 [.bptr 14 0] [],.fn 96 [.bptr 14 0] []]
abbrev hF (c:Ct) (s:Ste) (x:List V) (t:Ste):H:=[⟨0,.box c.cells⟩,⟨0,.box s.cells⟩,⟨0,.box x⟩,o0,o0,o0,o0,o0,⟨0,.box (zfe 3)⟩]++ar5 t++[⟨0,.box (sl5 9 t)⟩,⟨0,.box z2w⟩]
set_option maxHeartbeats 1000000 in
set_option maxHeartbeats 1000000 in
theorem ev94 {c:Ct} {s:Ste} (hS:Shp c s) (id:Int) (vl:Bool):ev pg (.call (.fn 94 [.bptr 14 0] []) [.agg [num 0,num id,.bool vl]] (hF c s [num 0,num id,.bool vl] s))=some { v:=.bool (q1x s ⟨0,id,vl⟩),st:=⟨[],hF c s [num 0,num id,.bool vl] (if q1x s ⟨0,id,vl⟩=true then qff s ⟨0,id,vl⟩ else s)⟩ }:=by
 have hvt:s.values.length=s.timers.length:=by rw [hS.v,hS.t]
 unfold q1x qff
 simp only
 rw [qac,pg94]
 by_cases hi:id < 0
 ·simp [qaa,exT,qad,ir94,hi]
 ·obtain ⟨n,rfl⟩:∃ n:Nat,id=n:=⟨id.toNat,by omega⟩
  have hi':¬ (n:Int) < 0:=by omega
  by_cases hl:s.ends.length≤n
  ·have hn:¬ n < s.ends.length:=by omega
   have hl':(s.ends.length:Int)≤n:=by omega
   simp [qaa,exT,qad,ir94,hi',hl,hl',hn,qsp]
  ·have hn:n < s.ends.length:=by omega
   have hl':¬ (s.ends.length:Int)≤n:=by omega
   by_cases h1:s.ends[n]=1
   ·simp [qaa,exT,qad,ir94,hl,hl',hi',hn,h1,qsp]
   ·have h1b:(s.ends[n] == 1)=false:=by simpa using h1
    by_cases h3:s.ends[n]=3
    ·simp [qaa,exT,qad,ir94,hl,hl',hi',hn,h3,qsp]
    ·have h3b:(s.ends[n] == 3)=false:=by simpa using h3
     simp [qaa,exT,qad,ir94,hl,hl',hi',hn,h1,h1b,h3,h3b,qsp]
set_option maxHeartbeats 1000000 in
theorem ev95 {c:Ct} {s:Ste} (hS:Shp c s) (id:Int) (vl:Bool):ev pg (.call (.fn 95 [.bptr 14 0] []) [.agg [num 1,num id,.bool vl]] (hF c s [num 1,num id,.bool vl] s))=some { v:=.bool (q1x s ⟨1,id,vl⟩),st:=⟨[],hF c s [num 1,num id,.bool vl] (if q1x s ⟨1,id,vl⟩=true then qff s ⟨1,id,vl⟩ else s)⟩ }:=by
 have hvt:s.values.length=s.timers.length:=by rw [hS.v,hS.t]
 unfold q1x qff
 simp only
 rw [qac,pg95]
 by_cases hi:id < 0
 ·simp [qaa,exT,qad,ir95,hi]
 ·obtain ⟨n,rfl⟩:∃ n:Nat,id=n:=⟨id.toNat,by omega⟩
  have hi':¬ (n:Int) < 0:=by omega
  by_cases hl:s.timers.length≤n
  ·have hn:¬ n < s.timers.length:=by omega
   have hl':(s.timers.length:Int)≤n:=by omega
   simp [qaa,exT,qad,ir95,hi',hl,hl',hn,qsp]
  ·have hn:n < s.timers.length:=by omega
   have hl':¬ (s.timers.length:Int)≤n:=by omega
   have hn2:n < s.values.length:=by omega
   by_cases h1:s.timers[n]=1
   ·simp [qaa,exT,qad,ir95,hl,hl',hi',hn,hn2,h1,qsp]
   ·have h1b:(s.timers[n] == 1)=false:=by simpa using h1
    simp [qaa,exT,qad,ir95,hl,hl',hi',hn,h1,h1b,qsp]
set_option maxHeartbeats 1000000 in
theorem ev96 {c:Ct} {s:Ste} (hS:Shp c s) (id:Int) (vl:Bool):ev pg (.call (.fn 96 [.bptr 14 0] []) [.agg [num 2,num id,.bool vl]] (hF c s [num 2,num id,.bool vl] s))=some { v:=.bool (q1x s ⟨2,id,vl⟩),st:=⟨[],hF c s [num 2,num id,.bool vl] (if q1x s ⟨2,id,vl⟩=true then qff s ⟨2,id,vl⟩ else s)⟩ }:=by
 have hvt:s.values.length=s.timers.length:=by rw [hS.v,hS.t]
 unfold q1x qff
 simp only
 rw [qac,pg96]
 by_cases hi:id < 0
 ·simp [qaa,exT,qad,ir96,hi]
 ·obtain ⟨n,rfl⟩:∃ n:Nat,id=n:=⟨id.toNat,by omega⟩
  have hi':¬ (n:Int) < 0:=by omega
  by_cases hl:s.inputs.length≤n
  ·have hn:¬ n < s.inputs.length:=by omega
   have hl':(s.inputs.length:Int)≤n:=by omega
   simp [qaa,exT,qad,ir96,hi',hl,hl',hn,qsp]
  ·have hn:n < s.inputs.length:=by omega
   have hl':¬ (s.inputs.length:Int)≤n:=by omega
   generalize hb:s.inputs[n]=b
   cases b <;> cases vl <;> simp [qaa,exT,qad,ir96,hl,hl',hi',hn,hb]
end Go.Proofs.YtlhciedghbmjjaaGreat
