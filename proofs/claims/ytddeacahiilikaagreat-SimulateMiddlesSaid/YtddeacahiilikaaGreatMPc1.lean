/- Quiet, by the program. Gates are computed, by control; the first state. What may happen, and what happens, by the reference. What follows an event, by the program. Strokes that are begun, and a run, by the reference. What follows an event, by the program: the functions; strokes that are begun. Courses that are the same, by the reference. A plant's check, by the program and by the reference. -/
import Derived.Test.YtddeacahiilikaaGreatMRe1
import Derived.KernelRfl
set_option linter.all false
namespace Go.Proofs.YtddeacahiilikaaGreat
open Go Go.Am Go.Proofs
set_option maxRecDepth 100000
theorem ev115(c:Ct)(s:Ste)(hfew:c.small=true)(hs:s.small):ev pg (.call (.fn 115 [] []) [c.v,s.v] [])=some { v:=.tup [.bool (q5i c s).1,num (q5i c s).2],st:=⟨[],[]⟩ }:=by
 have e45:=ev111 c s hfew hs
 unfold q5i
 rw[qac,pg115]
 by_cases h:stE c s=0
 .have hR:Rdy c s:=⟨hfew,h⟩
  rw[if_pos h]
  rw[h]at e45
  unfold q0v
  cases hZ:qde c s with
  | none =>
   have e46:=ev112_none hR hZ
   rw[qsp.2 hZ]
   simp[ir115,e45,e46,zeroS]
  | some x =>
   obtain⟨v,m⟩:=x
   have e46:=ev112_some hR hZ
   have hrv:qdv c s=some (qmz (qpi c v),norm (qjv c) (m++qly c v)):=by unfold qdv;rw[hZ];rfl
   have e47:=ev114 (qmz (qpi c v)) s (hR.round hrv).small
   rw[qpc]at e47
   rw[hrv]
   simp only[Option.map_some,Option.getD_some]
   generalize qkm s (qmz (qpi c v))=b at *
   generalize qmz (qpi c v)=u at *
   simp[ir115,e45,e46,e47]
 .rw[if_neg h]
  have hb:(stE c s==0)=false:=by simpa using h
  generalize stE c s=e at *
  simp[ir115,e45,h,hb]
theorem ev46(c:Ct)(s:Ste)(hfew:c.small=true)(hs:s.small):ev pg (.call (.fn 46 [] []) [c.v,s.v] [])=some { v:=num (quE c s),st:=⟨[],[]⟩ }:=by
 have e11:=ev115 c s hfew hs
 unfold q5i at e11
 unfold quE
 rw[qac,pg46]
 by_cases h:stE c s=0
 .rw[if_pos h]at e11 ⊢
  simp only at e11
  cases hb:q0v c s<;>rw[hb]at e11<;>simp[ir46,e11]
 .rw[if_neg h]at e11 ⊢
  simp only at e11
  have hb:(stE c s==0)=false:=by simpa using h
  generalize stE c s=e at *
  simp[ir46,e11,h,hb]
abbrev h56(c:Ct)(A:Nat)(k:Nat):H:=[⟨0,.box c.cells⟩,o0,o0,o0,o0,o0,⟨0,.box (zhh 1)⟩,⟨1,.arr 1 (List.replicate A [num 0])⟩,⟨1,.arr 1 (List.replicate A [.bool false])⟩,⟨1,.arr 1 (List.replicate c.inputs.length [.bool false])⟩,⟨1,.arr 1 ((ini c k).map qia)⟩,⟨1,.arr 1 (List.replicate c.signals.length [num 0])⟩,o0,o0,o0,o0,o0,⟨0,.box [.sl 7 1 1 0 A,.sl 8 1 1 0 A,.sl 9 1 1 0 c.inputs.length,.sl 10 1 1 0 c.signals.length,.sl 11 1 1 0 c.signals.length]⟩]
def T56(c:Ct)(k:Nat):Tm:=[none,some (.bptr 0 0),some (.bptr 6 0),some (num 0),none,none,some (.bptr 17 0)]++List.replicate 27 none++[some (.imm (c.signals.map Sg.row)),some (num c.signals.length),some (num k)]++List.replicate 14 none
theorem z9o(c:Ct)(A:Nat)(hn:c.signals.length<=128){st:St}(h0:At (T56 c 0) (h56 c A 0) st):∃r,ev pg (.code (.going 18 L44_0) st)=some r/\qai (.exit 0) (T56 c c.signals.length) (h56 c A c.signals.length) r:=by
 refine qfd c.signals.length (T56 c) (h56 c A) _ ?_ ?_ h0
 .intro k f hf hk
  have hk':(k:Int)<c.signals.length:=by omega
  have wk:=qab (n:=(k:Int)+1) (by omega) (by omega)
  have hl:=zqr c (k:=k) (by omega)
  have e:=qsa (A:=c.signals.map Sg.init) (B:=List.replicate c.signals.length false) (by simp) (k:=k) (by simpa using hk)
  rw[List.getElem_map]at e
  unfold h56 T56 ini
  rw[<-e]
  unfold ini at hl
  generalize mix (c.signals.map Sg.init) (List.replicate c.signals.length false) k=W at *
  have hkW:k<W.length:=by omega
  simp[qaa,exT,qad,L44_0,hk,hk',wk,hkW,hf.ne]
 .intro f hf
  unfold h56 T56 ini
  generalize mix (c.signals.map Sg.init) (List.replicate c.signals.length false) c.signals.length=W at *
  simp[L44_0,hf.ne]
def q4n(c:Ct):Ste×Int:=if c.check=0 then(qmp c,0)else(zeroS,c.check)
theorem ev44(c:Ct)(hfew:c.small=true):ev pg (.call (.fn 44 [] []) [c.v] [])=some { v:=.tup [(q4n c).1.v,num (q4n c).2],st:=⟨[],[]⟩ }:=by
 have e79:=ev43 c hfew
 unfold q4n
 by_cases hc:c.check=0
 .have hF:=q6u hfew hc
  have hM:=hF.mid
  have e87:=ev110 hM (qie c) hF.small hF.shp (q6z hc hfew)
  have hl:=@z9o c c.act.toNat hM.sig
  have hact:=hM.act
  have hhi:=hM.hi
  have hinp:=hM.inp
  have hsig:=hM.sig
  rw[if_pos hc]
  rw[hc]at e79
  unfold qmp
  generalize qfc c (qie c)=u at *
  have z0:ini c 0=List.replicate c.signals.length false:=qng _ _
  have z1:ini c c.signals.length=c.signals.map Sg.init:=by
   have:=qry (A:=c.signals.map Sg.init) (B:=List.replicate c.signals.length false) (by simp)
   rwa [List.length_map]at this
  unfold h56 at hl
  rw[z0,z1]at hl
  unfold qie at e87
  generalize c.act.toNat=A at *
  have e87':ev pg (.call (.fn 110 [] []) [.agg [num c.act,.imm (c.inputs.map qqm),.imm (c.signals.map Sg.row),qck c.plus,qck c.minus],.agg [.imm (List.replicate A [num 0]),.imm (List.replicate A [.bool false]),.imm (List.replicate c.inputs.length [.bool false]),.imm (c.signals.map (qia∘Sg.init)),.imm (List.replicate c.signals.length [num 0])]] [])=some { v:=u.v,st:=⟨[],[]⟩ }:=by
   rw[<-e87]
   simp only[Ste.v,Ste.cells,qck,qem,List.map_replicate,List.map_map]
  rw[hact]at e87'
  have e79':ev pg (.call (.fn 43 [] []) [.agg [num (A:Int),.imm (c.inputs.map qqm),.imm (c.signals.map Sg.row),qck c.plus,qck c.minus]] [])=some { v:=num 0,st:=⟨[],[]⟩ }:=by rw[<-hact];exact e79
  have a1:A*8<=140737488355328:=by omega
  have a2:A<=4611686018427387904:=by omega
  have a3:A<=140737488355328:=by omega
  have i2:c.inputs.length<=4611686018427387904:=by omega
  have i3:c.inputs.length<=140737488355328:=by omega
  have s1:c.signals.length*8<=140737488355328:=by omega
  have s2:c.signals.length<=4611686018427387904:=by omega
  have s3:c.signals.length<=140737488355328:=by omega
  rw[qac,pg44]
  simp[qaa,exT,qad,ir44,e79',hact,a1,a2,a3,i2,i3,s1,s2,s3,qaf]
  generalize hr:ev pg (.code (.going _ L44_0) _)=o
  obtain⟨r,rfl,f,hf,rfl⟩:∃r,o=some r/\_:=by rw[<-hr];exact hl (by simp[T56,hact])
  simp[T56,hact,e87']
 .rw[if_neg hc]
  have hb:(c.check==0)=false:=by simpa using hc
  rw[qac,pg44]
  generalize c.check=e at *
  simp[ir44,e79,hc,hb,zeroS]
theorem ev11(c:Ct)(hfew:c.small=true):ev pg (.call (.fn 11 [] []) [c.v] [])=some { v:=zsa (qcg c),st:=⟨[],[]⟩ }:=by
 have e56:=ev44 c hfew
 unfold q4n at e56
 unfold qcg
 rw[qac,pg11]
 by_cases h:c.check=0
 .have hR:=qhr h
  have e16:=ev45 c (qmp c) hfew (Rdy.small ⟨hfew,hR⟩)
  unfold qql at e16
  rw[if_pos hR]at e16
  rw[if_pos h]at e56 ⊢
  simp only at e56
  generalize qjt c (qmp c)=x at *
  generalize qmp c=b at *
  simp[ir11,e56,e16]
 .rw[if_neg h]at e56 ⊢
  simp only at e56
  have hb:(c.check==0)=false:=by simpa using h
  generalize c.check=e at *
  simp[ir11,e56,h,hb,zeroS]
abbrev Evn.v(x:Evn):V:=.agg x.row
abbrev z4n:List V:=[.fn 117 [.bptr 14 0] [],.fn 118 [.bptr 14 0] [],.fn 119 [.bptr 14 0] []]
abbrev hF(c:Ct)(s:Ste)(x:List V)(t:Ste):H:=[⟨0,.box c.cells⟩,⟨0,.box s.cells⟩,⟨0,.box x⟩,o0,o0,o0,o0,o0,⟨0,.box (zhh 3)⟩]++ar5 t++[⟨0,.box (sl5 9 t)⟩,⟨0,.box z4n⟩]
set_option maxHeartbeats 1000000 in
set_option maxHeartbeats 1000000 in
theorem ev117{c:Ct}{s:Ste}(hS:Shp c s)(id:Int)(vl:Bool):ev pg (.call (.fn 117 [.bptr 14 0] []) [.agg [num 0,num id,.bool vl]] (hF c s [num 0,num id,.bool vl] s))=some { v:=.bool (q2h s ⟨0,id,vl⟩),st:=⟨[],hF c s [num 0,num id,.bool vl] (if q2h s ⟨0,id,vl⟩=true then qfm s ⟨0,id,vl⟩else s)⟩ }:=by
 have hvt:s.values.length=s.timers.length:=by rw[hS.v,hS.t]
 unfold q2h qfm
 simp only
 rw[qac,pg117]
 by_cases hi:id<0
 .simp[qaa,exT,qad,ir117,hi]
 .obtain⟨n,rfl⟩:∃n:Nat,id=n:=⟨id.toNat,by omega⟩
  have hi':¬(n:Int)<0:=by omega
  by_cases hl:s.ends.length<=n
  .have hn:¬n<s.ends.length:=by omega
   have hl':(s.ends.length:Int)<=n:=by omega
   simp[qaa,exT,qad,ir117,hi',hl,hl',hn,qsj]
  .have hn:n<s.ends.length:=by omega
   have hl':¬(s.ends.length:Int)<=n:=by omega
   by_cases h1:s.ends[n]=1
   .simp[qaa,exT,qad,ir117,hl,hl',hi',hn,h1,qsj]
   .have h1b:(s.ends[n]==1)=false:=by simpa using h1
    by_cases h3:s.ends[n]=3
    .simp[qaa,exT,qad,ir117,hl,hl',hi',hn,h3,qsj]
    .have h3b:(s.ends[n]==3)=false:=by simpa using h3
     simp[qaa,exT,qad,ir117,hl,hl',hi',hn,h1,h1b,h3,h3b,qsj]
set_option maxHeartbeats 1000000 in
theorem ev118{c:Ct}{s:Ste}(hS:Shp c s)(id:Int)(vl:Bool):ev pg (.call (.fn 118 [.bptr 14 0] []) [.agg [num 1,num id,.bool vl]] (hF c s [num 1,num id,.bool vl] s))=some { v:=.bool (q2h s ⟨1,id,vl⟩),st:=⟨[],hF c s [num 1,num id,.bool vl] (if q2h s ⟨1,id,vl⟩=true then qfm s ⟨1,id,vl⟩else s)⟩ }:=by
 have hvt:s.values.length=s.timers.length:=by rw[hS.v,hS.t]
 unfold q2h qfm
 simp only
 rw[qac,pg118]
 by_cases hi:id<0
 .simp[qaa,exT,qad,ir118,hi]
 .obtain⟨n,rfl⟩:∃n:Nat,id=n:=⟨id.toNat,by omega⟩
  have hi':¬(n:Int)<0:=by omega
  by_cases hl:s.timers.length<=n
  .have hn:¬n<s.timers.length:=by omega
   have hl':(s.timers.length:Int)<=n:=by omega
   simp[qaa,exT,qad,ir118,hi',hl,hl',hn,qsj]
  .have hn:n<s.timers.length:=by omega
   have hl':¬(s.timers.length:Int)<=n:=by omega
   have hn2:n<s.values.length:=by omega
   by_cases h1:s.timers[n]=1
   .simp[qaa,exT,qad,ir118,hl,hl',hi',hn,hn2,h1,qsj]
   .have h1b:(s.timers[n]==1)=false:=by simpa using h1
    simp[qaa,exT,qad,ir118,hl,hl',hi',hn,h1,h1b,qsj]
set_option maxHeartbeats 1000000 in
theorem ev119{c:Ct}{s:Ste}(hS:Shp c s)(id:Int)(vl:Bool):ev pg (.call (.fn 119 [.bptr 14 0] []) [.agg [num 2,num id,.bool vl]] (hF c s [num 2,num id,.bool vl] s))=some { v:=.bool (q2h s ⟨2,id,vl⟩),st:=⟨[],hF c s [num 2,num id,.bool vl] (if q2h s ⟨2,id,vl⟩=true then qfm s ⟨2,id,vl⟩else s)⟩ }:=by
 have hvt:s.values.length=s.timers.length:=by rw[hS.v,hS.t]
 unfold q2h qfm
 simp only
 rw[qac,pg119]
 by_cases hi:id<0
 .simp[qaa,exT,qad,ir119,hi]
 .obtain⟨n,rfl⟩:∃n:Nat,id=n:=⟨id.toNat,by omega⟩
  have hi':¬(n:Int)<0:=by omega
  by_cases hl:s.inputs.length<=n
  .have hn:¬n<s.inputs.length:=by omega
   have hl':(s.inputs.length:Int)<=n:=by omega
   simp[qaa,exT,qad,ir119,hi',hl,hl',hn,qsj]
  .have hn:n<s.inputs.length:=by omega
   have hl':¬(s.inputs.length:Int)<=n:=by omega
   generalize hb:s.inputs[n]=b
   cases b<;>cases vl<;>simp[qaa,exT,qad,ir119,hl,hl',hi',hn,hb]
abbrev zst(p:Int×Bool):List V:=[num p.1,.bool p.2]
abbrev q5r(l:List (Int×Bool)):V:=.imm (l.map zst)
def qgf(a b:Ste)(k:Nat):List (Int×Bool):=(List.range k).filterMap (qug a b)
theorem qzf(a b:Ste)(k:Nat):qgf a b (k+1)=qgf a b k++(match qug a b k with | some p=>[p] | none=>[]):=by
 unfold qgf
 rw[List.range_succ,List.filterMap_append]
 cases h:qug a b k<;>simp[h]
theorem qrn(a b:Ste)(k:Nat):(qgf a b k).length<=k:=by
 unfold qgf
 exact Nat.le_trans (List.length_filterMap_le _ _) (by simp)
theorem zbc(a b:Ste):qgb a b=qgf a b a.ends.length:=rfl
abbrev gm2(a:Nat×Nat):Prop:=a.2=2\/a.2=0
abbrev h64(x y:Ste)(k:Nat)(a:Nat×Nat):H:=[⟨0,.box x.cells⟩,⟨0,.box y.cells⟩,o0,⟨a.1,.arr a.2 ((qgf x y k).map zst)⟩]
theorem qvi{c:Ct}:∀{d:Nat} {s:Ste} {l:List Int} {t:Ste} {m:List Int},qhg c d s l=some (t,m)->Lin (qjv c) m
 | 0,_,_,_,_,h=>by cases h
 | d+1,s,l,t,m,h=>by
  rw[qhg]at h
  cases e:qdv c s with
  | none=>rw[e]at h;cases h
  | some x =>
   rw[e]at h
   simp only at h
   split at h
   .cases h;exact Lin.norm _ _
   .exact qvi h
theorem q0g(c:Ct)(s:Ste):Lin (qjv c) (qjt c s).2.1:=by
 unfold qjt
 cases e:qmh c s with
 | none=>exact Lin.nil _
 | some x=>exact qvi (show qhg c 65 s []=some (x.1,x.2)from e)
theorem qtz(c:Ct)(s:Ste)(x:Evn):Lin (qjv c) (qax c s x).2.1:=by
 unfold qax
 split
 .exact Lin.nil _
 .split
  .exact q0g _ _
  .exact Lin.nil _
abbrev z7k(l:List (Int×Bool)):List V:=[q5r l]
abbrev Crs.v(r:Crs):V:=.agg (r.st.cells++[.imm (r.strokes.map z7k),qck r.conf])
def z8s(c:Ct)(s:Ste)(l:List Evn):Crs×Int×Int:=if quE c s=0 then(if 4096<l.length then(q3k,0,5)else zsl c l 0 ⟨s,[],[]⟩)else(q3k,0,quE c s)
theorem zcy{c:Ct}{s:Ste}(hfew:c.small=true)(h:quE c s=0):Rdy c s:=by
 unfold quE at h
 split at h
 .exact⟨hfew,by assumption⟩
 .rename_i h2;exact absurd h h2
theorem zgs{c:Ct}{s:Ste}(hS:Shp c s)(x:Evn):(qfm s x).ends.length=s.ends.length/\(qfm s x).valves.length=s.valves.length/\(qfm s x).inputs.length=s.inputs.length/\(qfm s x).values.length=s.values.length/\(qfm s x).timers.length=s.timers.length:=by
 unfold qfm
 split
 .simp
 .split
  .simp
  .simp
set_option maxHeartbeats 1000000 in
theorem ev47{c:Ct}{s:Ste}(h:Rdy c s)(x:Evn):ev pg (.call (.fn 47 [] []) [c.v,s.v,x.v] [])=some { v:=zsa (qax c s x),st:=⟨[],[]⟩ }:=by
 have e60:=ev116 s h.small
 obtain⟨kd,id,vl⟩:=x
 obtain⟨l1,l2,l3,l4,l5⟩:=zgs h.shp ⟨kd,id,vl⟩
 unfold qax
 rw[qac,pg47]
 by_cases hlo:kd<0
 .rw[if_pos (.inl hlo)]
  simp[ir47,e60,hlo,zeroS]
 .by_cases hhi:2<kd
  .rw[if_pos (.inr hhi)]
   have hhi':(3:Int)<=kd:=by omega
   simp[ir47,e60,hlo,hhi',zeroS]
  .have hk:¬(kd<0\/2<kd):=by omega
   rw[if_neg hk]
   have e91:=ev117 h.shp id vl
   have e92:=ev118 h.shp id vl
   have e93:=ev119 h.shp id vl
   have hkd:kd=0\/kd=1\/kd=2:=by omega
   rcases hkd with rfl | rfl | rfl
   .cases hm:q2h s ⟨0,id,vl⟩with
    | false =>
     rw[hm]at e91
     simp only[Bool.false_eq_true,if_false]at e91
     simp at e91
     simp[qaa,exT,qad,ir47,e60,e91,zeroS]
    | true =>
     rw[hm]at e91
     simp only[if_true]at e91
     have hR:Rdy c (qfm s ⟨0,id,vl⟩):=⟨h.few,qgq h.st hk hm⟩
     have e16:=ev45 c (qfm s ⟨0,id,vl⟩) h.few hR.small
     unfold qql at e16
     rw[if_pos hR.st]at e16
     generalize qfm s ⟨0,id,vl⟩=u at *
     generalize qjt c u=z at *
     simp[l1,l2,l3,l4,l5]at e91
     simp[qaa,exT,qad,ir47,e60,e91,e16,l1,l2,l3,l4,l5]
   .cases hm:q2h s ⟨1,id,vl⟩with
    | false =>
     rw[hm]at e92
     simp only[Bool.false_eq_true,if_false]at e92
     simp at e92
     simp[qaa,exT,qad,ir47,e60,e92,zeroS]
    | true =>
     rw[hm]at e92
     simp only[if_true]at e92
     have hR:Rdy c (qfm s ⟨1,id,vl⟩):=⟨h.few,qgq h.st hk hm⟩
     have e16:=ev45 c (qfm s ⟨1,id,vl⟩) h.few hR.small
     unfold qql at e16
     rw[if_pos hR.st]at e16
     generalize qfm s ⟨1,id,vl⟩=u at *
     generalize qjt c u=z at *
     simp[l1,l2,l3,l4,l5]at e92
     simp[qaa,exT,qad,ir47,e60,e92,e16,l1,l2,l3,l4,l5]
   .cases hm:q2h s ⟨2,id,vl⟩with
    | false =>
     rw[hm]at e93
     simp only[Bool.false_eq_true,if_false]at e93
     simp at e93
     simp[qaa,exT,qad,ir47,e60,e93,zeroS]
    | true =>
     rw[hm]at e93
     simp only[if_true]at e93
     have hR:Rdy c (qfm s ⟨2,id,vl⟩):=⟨h.few,qgq h.st hk hm⟩
     have e16:=ev45 c (qfm s ⟨2,id,vl⟩) h.few hR.small
     unfold qql at e16
     rw[if_pos hR.st]at e16
     generalize qfm s ⟨2,id,vl⟩=u at *
     generalize qjt c u=z at *
     simp[l1,l2,l3,l4,l5]at e93
     simp[qaa,exT,qad,ir47,e60,e93,e16,l1,l2,l3,l4,l5]
def qhm(c:Ct)(s:Ste)(x:Evn):Ste×List Int×Int:=if quE c s=0 then qax c s x else(zeroS,[],quE c s)
theorem ev12(c:Ct)(s:Ste)(hfew:c.small=true)(hs:s.small)(x:Evn):ev pg (.call (.fn 12 [] []) [c.v,s.v,x.v] [])=some { v:=zsa (qhm c s x),st:=⟨[],[]⟩ }:=by
 have e49:=ev46 c s hfew hs
 unfold qhm
 rw[qac,pg12]
 by_cases h:quE c s=0
 .have e61:=ev47 (zcy hfew h) x
  rw[if_pos h]
  rw[h]at e49
  generalize qax c s x=z at *
  simp[ir12,e49,e61]
 .rw[if_neg h]
  have hb:(quE c s==0)=false:=by simpa using h
  generalize quE c s=e at *
  simp[ir12,e49,h,hb,zeroS]
def T62(x y:Ste)(k:Nat)(a:Nat×Nat):Tm:=[none,none,some (.bptr 0 0),some (.bptr 1 0),some (.sl 2 0 0 0 0),some (.sl 3 a.1 a.2 0 (qgf x y k).length),none,none,none,some (qck y.ends),some (num y.ends.length),some (num k)]++List.replicate 28 none
set_option maxHeartbeats 1000000 in
theorem z9p(x y:Ste)(hs:x.small)(he:y.ends.length=x.ends.length){st:St}(a0:Nat×Nat)(g0:gm2 a0)(h0:At (T62 x y 0 a0) (h64 x y 0 a0) st):∃r,ev pg (.code (.going 4 L121_0) st)=some r/\∃a,gm2 a/\qai (.exit 0) (T62 x y y.ends.length a) (h64 x y y.ends.length a) r:=by
 have hse:=hs.e
 refine qco y.ends.length (T62 x y) (h64 x y) (fun _ a=>gm2 a) _ ?_ ?_ a0 g0 h0
 .rintro k ⟨g,m⟩ f hf hk2 hG
  have hk':(k:Int)<y.ends.length:=by omega
  have hk:k<x.ends.length:=by omega
  have wk:=qab (n:=(k:Int)+1) (by omega) (by omega)
  have hsl:=qrn x y k
  have hp:qug x y k=if(y.ends[k]=1\/y.ends[k]=3)/\x.ends[k]≠y.ends[k]then some ((k:Int),y.ends[k]==1)else none:=by
   unfold qug
   rw[jA hk,jA hk2]
  unfold T62 h64
  rw[qzf,hp]
  generalize qgf x y k=B at *
  have hb1:(B.length+1)*16<=140737488355328:=by omega
  have hmm:m=2\/m=0:=hG
  by_cases h2:y.ends[k]=x.ends[k]
  .have h2s:¬x.ends[k]≠y.ends[k]:=fun h=>h h2.symm
   rw[if_neg (fun h=>h2s h.2)]
   rcases hmm with rfl | rfl<;>simp[L121_0,hk,hk',hk2,wk,h2,hf.ne]
  .have h2b:(y.ends[k]==x.ends[k])=false:=by simpa using h2
   have h2n:(y.ends[k] != x.ends[k])=true:=by simpa using h2
   have h2s:x.ends[k]≠y.ends[k]:=fun h=>h2 h.symm
   by_cases h1:y.ends[k]=1
   .rw[if_pos ⟨.inl h1,h2s⟩]
    rw[h1]at h2 h2b h2n
    rcases hmm with rfl | rfl<;>simp[L121_0,hk,hk',hk2,wk,h1,h2,h2b,h2n,hb1,hf.ne]
   .have h1b:(y.ends[k]==1)=false:=by simpa using h1
    by_cases h3:y.ends[k]=3
    .rw[if_pos ⟨.inr h3,h2s⟩]
     rw[h3]at h2 h2b h2n
     rcases hmm with rfl | rfl<;>simp[L121_0,hk,hk',hk2,wk,h3,h2,h2b,h2n,hb1,hf.ne]
    .have h3b:(y.ends[k]==3)=false:=by simpa using h3
     rw[if_neg (fun h=>h.1.elim h1 h3)]
     rcases hmm with rfl | rfl<;>simp[L121_0,hk,hk',hk2,wk,h1,h1b,h2,h2b,h2n,h3,h3b,hf.ne]
 .rintro⟨g,m⟩ f hf hG
  unfold T62 h64
  generalize qgf x y y.ends.length=B at *
  have hmm:m=2\/m=0:=hG
  rcases hmm with rfl | rfl<;>simp[L121_0,hf.ne]
theorem ev121(x y:Ste)(hs:x.small)(he:y.ends.length=x.ends.length):ev pg (.call (.fn 121 [] []) [x.v,y.v] [])=some { v:=q5r (qgb x y),st:=⟨[],[]⟩ }:=by
 have hl:=@z9p x y hs he
 have z0:qgf x y 0=[]:=rfl
 have z1:qgf x y y.ends.length=qgb x y:=by rw[he];rfl
 unfold h64 T62 at hl
 rw[z0,z1]at hl
 generalize qgb x y=B at *
 rw[qac,pg121]
 simp[ir121,qaf]
 generalize hr:ev pg (.code (.going _ L121_0) _)=o
 obtain⟨r,rfl,⟨g,m⟩,hm,f,hf,rfl⟩:∃r,o=some r/\_:=by rw[<-hr];exact hl (0,0) (.inr rfl) (by simp)
 clear hr
 have hmm:m=2\/m=0:=hm
 rcases hmm with rfl | rfl<;>simp
structure Crs.small(r:Crs):Prop where
 st:r.st.small
 len:r.strokes.length<=100000
 each:∀l∈r.strokes,l.length<=100000
 conf:r.conf.length<=4096
theorem qjm:zeroS.small:=⟨by simp[zeroS],by simp[zeroS],by simp[zeroS],by simp[zeroS],by simp[zeroS]⟩
theorem q6w(a b:Ste):(qgb a b).length<=a.ends.length:=by rw[zbc];exact qrn _ _ _
theorem zdm(c:Ct)(hc:c.check=0):qcg c=qql c (qmp c):=by
 unfold qcg qql
 rw[if_pos hc,if_pos (qhr hc)]
theorem qyi{c:Ct}{s:Ste}(h:Rdy c s)(x:Evn):(qax c s x).1.small:=by
 by_cases hz:(qax c s x).2.2=0
 .exact Rdy.small ⟨h.few,qyh h.st hz⟩
 .unfold qax at hz ⊢
  split
  .exact qjm
  .rename_i h1
   rw[if_neg h1]at hz
   split
   .rename_i h2
    rw[if_pos h2]at hz
    unfold qjt at hz ⊢
    cases e:qmh c (qfm s x)with
    | none=>exact qjm
    | some y=>rw[e]at hz;exact absurd rfl hz
   .exact qjm
theorem q2j{c:Ct}(hc:c.small=true)(s:Ste)(x:Evn):(qhm c s x).1.small:=by
 unfold qhm
 split
 .rename_i h
  exact qyi (zcy hc h) x
 .exact qjm
structure Trv where
 a:Int
 b:Int
 c:Int
 d:Int
abbrev Trv.row(x:Trv):List V:=[num x.a,num x.b,num x.c,num x.d]
abbrev q0x(l:List Trv):V:=.imm (l.map Trv.row)
def qtg(n:Int):Bool:=decide (0<=n)&&decide (n<=1000000)
def qjk(a b:Int):Int:=if(qtg a&&qtg b)=true then(if b<a then 9 else 0)else 2
def qiy(a b:Int):Int:=if qjk a b=0 then(if a<1 then 2 else 0)else qjk a b
def Trv.bad(x:Trv):Int:=if qiy x.a x.b=0 then qiy x.c x.d else qiy x.a x.b
def qln:List Trv->Int
 | []=>0
 | x :: l=>if x.bad=0 then qln l else x.bad
def qda(l:List Trv):Int:=if l.length<1\/6<l.length then 2 else qln l
theorem ev198(n:Int):ev pg (.call (.fn 198 [] []) [num n] [])=some { v:=.bool (qtg n),st:=⟨[],[]⟩ }:=by
 rw[qac,pg198]
 unfold qtg
 by_cases h:0<=n<;>simp[ir198,h]
theorem ev199(n:Int):ev pg (.call (.fn 199 [] []) [num n] [])=some { v:=.bool (qtg n),st:=⟨[],[]⟩ }:=by
 rw[qac,pg199]
 unfold qtg
 by_cases h:0<=n<;>simp[ir199,h]
theorem ev126(a b:Int):ev pg (.call (.fn 126 [] []) [.agg [num a,num b]] [])=some { v:=num (qjk a b),st:=⟨[],[]⟩ }:=by
 have h1:=ev198 a
 have h2:=ev198 b
 rw[qac,pg126]
 unfold qjk
 cases ha:qtg a<;>rw[ha]at h1
 .simp[ir126,h1]
 .cases hb:qtg b<;>rw[hb]at h2
  .simp[ir126,h1,h2]
  .by_cases h:b<a<;>simp[ir126,h1,h2,h]
theorem ev127(a b:Int):ev pg (.call (.fn 127 [] []) [.agg [num a,num b]] [])=some { v:=num (qjk a b),st:=⟨[],[]⟩ }:=by
 have h1:=ev199 a
 have h2:=ev199 b
 rw[qac,pg127]
 unfold qjk
 cases ha:qtg a<;>rw[ha]at h1
 .simp[ir127,h1]
 .cases hb:qtg b<;>rw[hb]at h2
  .simp[ir127,h1,h2]
  .by_cases h:b<a<;>simp[ir127,h1,h2,h]
inductive Res (x0:X) (T:Tm) (h:H) (Tr:Int->Tm) (e:Int) (r:R):Prop
 | no (he:e=0) (h1:qai x0 T h r)
 | yes (he:e≠0) (h':H) (h1:qai .ret (Tr e) h' r)
abbrev zhm(l:List Trv):H:=[⟨0,.box [q0x l]⟩]
def q6g(l:List Trv)(k:Nat)(x:Trv)(i:Nat):Tm:=[none,some (.bptr 0 0),some (num 0)]++List.replicate 16 none++[some (q0x l),some (num l.length),some (num k)]++List.replicate 7 none++[some (.agg x.row),some (num i)]++List.replicate 12 none
def zes(e:Int):Tm:=[none,none,some (num e)]++List.replicate 40 none
abbrev h40(l:List Trv)(x:Trv):H:=[⟨0,.box [q0x l]⟩,⟨0,.box x.row⟩]
theorem z7g(l:List Trv)(k:Nat)(x:Trv){st:St}(h0:At (q6g l k x 0) (h40 l x) st):∃r,ev pg (.code (.going 2 L52_0) st)=some r/\Res (.exit 2) (q6g l k x 2) (h40 l x) zes x.bad r:=by
 refine qco (α:=Unit) 2 (fun i _=>q6g l k x i) (fun _ _=>h40 l x) (fun i _=>(i=1->qiy x.a x.b=0)/\(i=2->x.bad=0)) _ ?_ ?_ () ⟨by simp,by simp⟩ h0
 .rintro i-f hf hi ⟨hG,-⟩
  have w1:IntKind.i64.wrap 1=1:=by decide
  have w2:IntKind.i64.wrap 2=2:=by decide
  have hi2:i=0\/i=1:=by omega
  rcases hi2 with rfl | rfl
  .have e76:=ev126 x.a x.b
   have hh:qiy x.a x.b=if qjk x.a x.b=0 then(if x.a<1 then 2 else 0)else qjk x.a x.b:=rfl
   unfold Trv.bad
   generalize qjk x.a x.b=e at *
   generalize qiy x.a x.b=g at *
   generalize qiy x.c x.d=m at *
   by_cases he:e=0
   .rw[if_pos he]at hh
    subst he
    by_cases h1:x.a<1
    .rw[if_pos h1]at hh
     subst hh
     simp[q6g,L52_0,e76,h1,hf.ne]
     exact .yes (by omega) _ (by simp[zes,hf.ne];rfl)
    .rw[if_neg h1]at hh
     subst hh
     simp[q6g,L52_0,e76,h1,w1,hf.ne]
   .rw[if_neg he]at hh
    subst hh
    have hb:(g==0)=false:=by simpa using he
    simp[q6g,L52_0,e76,he,hb,hf.ne]
    exact .yes he _ (by simp[zes,hf.ne];rfl)
  .have e76:=ev126 x.c x.d
   have hh:qiy x.c x.d=if qjk x.c x.d=0 then(if x.c<1 then 2 else 0)else qjk x.c x.d:=rfl
   have hG:=hG rfl
   unfold Trv.bad
   rw[if_pos hG]
   generalize qjk x.c x.d=e at *
   generalize qiy x.a x.b=g at *
   generalize qiy x.c x.d=m at *
   by_cases he:e=0
   .rw[if_pos he]at hh
    subst he
    by_cases h1:x.c<1
    .rw[if_pos h1]at hh
     subst hh
     simp[q6g,L52_0,e76,h1,hf.ne]
     exact .yes (by omega) _ (by simp[zes,hf.ne];rfl)
    .rw[if_neg h1]at hh
     subst hh
     simp[q6g,L52_0,e76,h1,w2,hf.ne]
   .rw[if_neg he]at hh
    subst hh
    have hb:(m==0)=false:=by simpa using he
    simp[q6g,L52_0,e76,he,hb,hf.ne]
    exact .yes he _ (by simp[zes,hf.ne];rfl)
 .rintro-f hf ⟨-,hG⟩
  have hG:=hG rfl
  simp[q6g,L52_0,hf.ne]
  exact .no hG (by simp[q6g,hf.ne])
end Go.Proofs.YtddeacahiilikaaGreat
