/- Quiet, by the program. Gates are computed, by control; the first state. What may happen, and what happens, by the reference. Strokes that are begun, and a run, by the reference. What follows an event, by the program. What follows an event, by the program: the functions; strokes that are begun. Courses that are the same, by the reference. The examples of the law of plant. The law PlantRuns, in Am: it returns true. The law PlantStills, in Am: it returns true. A run goes on: what a run of all events, and of the first and of the other ones, come to. Strokes begun, with the check of the ends: by the program and by the reference. -/
import Derived.Test.YtddeacahiilikaaGreatRe1
import Derived.Test.YtddeacahiilikaaGreatRu2
set_option linter.all false
namespace Go.Proofs.YtddeacahiilikaaGreat
open Go Go.Am Go.Proofs
set_option maxRecDepth 100000
theorem ev115(c:Ct)(s:Ste)(hfew:c.small=true)(hs:s.small):ev pg (.call (.fn 115 [] []) [c.v,s.v] [])=some { v:=.tup [.bool (q7y c s).1,num (q7y c s).2],st:=⟨[],[]⟩ }:=by
 have e45:=ev111 c s hfew hs
 unfold q7y
 rw[qac,pg115]
 by_cases h:stE c s=0
 .have hR:Rdy c s:=⟨hfew,h⟩
  rw[if_pos h]
  rw[h]at e45
  unfold q3h
  cases hZ:qdd c s with
  | none =>
   have e46:=ev112_none hR hZ
   rw[qty.2 hZ]
   simp[ir115,e45,e46,zeroS]
  | some x =>
   obtain⟨v,m⟩:=x
   have e46:=ev112_some hR hZ
   have hrv:qcy c s=some (qkb (qgr c v),norm (qlq c) (m++qny c v)):=by unfold qcy;rw[hZ];rfl
   have e47:=ev114 (qkb (qgr c v)) s (hR.round hrv).small
   rw[qrf]at e47
   rw[hrv]
   simp only[Option.map_some,Option.getD_some]
   generalize qln s (qkb (qgr c v))=b at *
   generalize qkb (qgr c v)=u at *
   simp[ir115,e45,e46,e47]
 .rw[if_neg h]
  have hb:(stE c s==0)=false:=by simpa using h
  generalize stE c s=e at *
  simp[ir115,e45,h,hb]
theorem ev46(c:Ct)(s:Ste)(hfew:c.small=true)(hs:s.small):ev pg (.call (.fn 46 [] []) [c.v,s.v] [])=some { v:=num (quE c s),st:=⟨[],[]⟩ }:=by
 have e11:=ev115 c s hfew hs
 unfold q7y at e11
 unfold quE
 rw[qac,pg46]
 by_cases h:stE c s=0
 .rw[if_pos h]at e11 ⊢
  simp only at e11
  cases hb:q3h c s<;>rw[hb]at e11<;>simp[ir46,e11]
 .rw[if_neg h]at e11 ⊢
  simp only at e11
  have hb:(stE c s==0)=false:=by simpa using h
  generalize stE c s=e at *
  simp[ir46,e11,h,hb]
abbrev h56(c:Ct)(A:Nat)(k:Nat):H:=[⟨0,.box c.cells⟩,o0,o0,o0,o0,o0,⟨0,.box (znb 1)⟩,⟨1,.arr 1 (List.replicate A [num 0])⟩,⟨1,.arr 1 (List.replicate A [.bool false])⟩,⟨1,.arr 1 (List.replicate c.inputs.length [.bool false])⟩,⟨1,.arr 1 ((ini c k).map qht)⟩,⟨1,.arr 1 (List.replicate c.signals.length [num 0])⟩,o0,o0,o0,o0,o0,⟨0,.box [.sl 7 1 1 0 A,.sl 8 1 1 0 A,.sl 9 1 1 0 c.inputs.length,.sl 10 1 1 0 c.signals.length,.sl 11 1 1 0 c.signals.length]⟩]
def T56(c:Ct)(k:Nat):Tm:=[none,some (.bptr 0 0),some (.bptr 6 0),some (num 0),none,none,some (.bptr 17 0)]++List.replicate 27 none++[some (.imm (c.signals.map Sg.row)),some (num c.signals.length),some (num k)]++List.replicate 14 none
theorem jke(c:Ct)(A:Nat)(hn:c.signals.length<=128){st:St}(h0:At (T56 c 0) (h56 c A 0) st):∃r,ev pg (.code (.going 18 L44_0) st)=some r/\qam (.exit 0) (T56 c c.signals.length) (h56 c A c.signals.length) r:=by
 refine qex c.signals.length (T56 c) (h56 c A) _ ?_ ?_ h0
 .intro k f hf hk
  have hk':(k:Int)<c.signals.length:=by omega
  have wk:=qab (n:=(k:Int)+1) (by omega) (by omega)
  have hl:=zuz c (k:=k) (by omega)
  have e:=qtn (A:=c.signals.map Sg.init) (B:=List.replicate c.signals.length false) (by simp) (k:=k) (by simpa using hk)
  rw[List.getElem_map]at e
  unfold h56 T56 ini
  rw[<-e]
  unfold ini at hl
  generalize mix (c.signals.map Sg.init) (List.replicate c.signals.length false) k=W at *
  have hkW:k<W.length:=by omega
  simp[qaa,exT,qaf,L44_0,hk,hk',wk,hkW,hf.ne]
 .intro f hf
  unfold h56 T56 ini
  generalize mix (c.signals.map Sg.init) (List.replicate c.signals.length false) c.signals.length=W at *
  simp[L44_0,hf.ne]
def q9z(c:Ct):Ste×Int:=if c.check=0 then(qif c,0)else(zeroS,c.check)
theorem ev44(c:Ct)(hfew:c.small=true):ev pg (.call (.fn 44 [] []) [c.v] [])=some { v:=.tup [(q9z c).1.v,num (q9z c).2],st:=⟨[],[]⟩ }:=by
 have e79:=ev43 c hfew
 unfold q9z
 by_cases hc:c.check=0
 .have hF:=zcu hfew hc
  have hM:=hF.mid
  have e87:=ev110 hM (qja c) hF.small hF.shp (zcj hc hfew)
  have hl:=@jke c c.act.toNat hM.sig
  have hact:=hM.act
  have hhi:=hM.hi
  have hinp:=hM.inp
  have hsig:=hM.sig
  rw[if_pos hc]
  rw[hc]at e79
  unfold qif
  generalize qfb c (qja c)=u at *
  have z0:ini c 0=List.replicate c.signals.length false:=qpx _ _
  have z1:ini c c.signals.length=c.signals.map Sg.init:=by
   have:=qtp (A:=c.signals.map Sg.init) (B:=List.replicate c.signals.length false) (by simp)
   rwa [List.length_map]at this
  unfold h56 at hl
  rw[z0,z1]at hl
  unfold qja at e87
  generalize c.act.toNat=A at *
  have e87':ev pg (.call (.fn 110 [] []) [.agg [num c.act,.imm (c.inputs.map qld),.imm (c.signals.map Sg.row),qcl c.plus,qcl c.minus],.agg [.imm (List.replicate A [num 0]),.imm (List.replicate A [.bool false]),.imm (List.replicate c.inputs.length [.bool false]),.imm (c.signals.map (qht∘Sg.init)),.imm (List.replicate c.signals.length [num 0])]] [])=some { v:=u.v,st:=⟨[],[]⟩ }:=by
   rw[<-e87]
   simp only[Ste.v,Ste.cells,qcl,qfd,List.map_replicate,List.map_map]
  rw[hact]at e87'
  have e79':ev pg (.call (.fn 43 [] []) [.agg [num (A:Int),.imm (c.inputs.map qld),.imm (c.signals.map Sg.row),qcl c.plus,qcl c.minus]] [])=some { v:=num 0,st:=⟨[],[]⟩ }:=by rw[<-hact];exact e79
  have a1:A*8<=140737488355328:=by omega
  have a2:A<=4611686018427387904:=by omega
  have a3:A<=140737488355328:=by omega
  have i2:c.inputs.length<=4611686018427387904:=by omega
  have i3:c.inputs.length<=140737488355328:=by omega
  have s1:c.signals.length*8<=140737488355328:=by omega
  have s2:c.signals.length<=4611686018427387904:=by omega
  have s3:c.signals.length<=140737488355328:=by omega
  rw[qac,pg44]
  simp[qaa,exT,qaf,ir44,e79',hact,a1,a2,a3,i2,i3,s1,s2,s3,qag]
  generalize hr:ev pg (.code (.going _ L44_0) _)=o
  obtain⟨r,rfl,f,hf,rfl⟩:∃r,o=some r/\_:=by rw[<-hr];exact hl (by simp[T56,hact])
  simp[T56,hact,e87']
 .rw[if_neg hc]
  have hb:(c.check==0)=false:=by simpa using hc
  rw[qac,pg44]
  generalize c.check=e at *
  simp[ir44,e79,hc,hb,zeroS]
theorem ev11(c:Ct)(hfew:c.small=true):ev pg (.call (.fn 11 [] []) [c.v] [])=some { v:=q1h (qbv c),st:=⟨[],[]⟩ }:=by
 have e56:=ev44 c hfew
 unfold q9z at e56
 unfold qbv
 rw[qac,pg11]
 by_cases h:c.check=0
 .have hR:=qep h
  have e16:=ev45 c (qif c) hfew (Rdy.small ⟨hfew,hR⟩)
  unfold qqw at e16
  rw[if_pos hR]at e16
  rw[if_pos h]at e56 ⊢
  simp only at e56
  generalize qjg c (qif c)=x at *
  generalize qif c=b at *
  simp[ir11,e56,e16]
 .rw[if_neg h]at e56 ⊢
  simp only at e56
  have hb:(c.check==0)=false:=by simpa using h
  generalize c.check=e at *
  simp[ir11,e56,h,hb,zeroS]
abbrev Evn.v(x:Evn):V:=.agg x.row
abbrev zsm(p:Int×Bool):List V:=[num p.1,.bool p.2]
abbrev q4t(l:List (Int×Bool)):V:=.imm (l.map zsm)
def qhf(a b:Ste)(k:Nat):List (Int×Bool):=(List.range k).filterMap (qrq a b)
theorem q1u(a b:Ste)(k:Nat):qhf a b (k+1)=qhf a b k++(match qrq a b k with | some p=>[p] | none=>[]):=by
 unfold qhf
 rw[List.range_succ,List.filterMap_append]
 cases h:qrq a b k<;>simp[h]
theorem quf(a b:Ste)(k:Nat):(qhf a b k).length<=k:=by
 unfold qhf
 exact Nat.le_trans (List.length_filterMap_le _ _) (by simp)
theorem zej(a b:Ste):qfh a b=qhf a b a.ends.length:=rfl
abbrev gm2(a:Nat×Nat):Prop:=a.2=2\/a.2=0
abbrev h64(x y:Ste)(k:Nat)(a:Nat×Nat):H:=[⟨0,.box x.cells⟩,⟨0,.box y.cells⟩,o0,⟨a.1,.arr a.2 ((qhf x y k).map zsm)⟩]
theorem qxc{c:Ct}:∀{d:Nat} {s:Ste} {l:List Int} {t:Ste} {m:List Int},qgb c d s l=some (t,m)->Lin (qlq c) m
 | 0,_,_,_,_,h=>by cases h
 | d+1,s,l,t,m,h=>by
  rw[qgb]at h
  cases e:qcy c s with
  | none=>rw[e]at h;cases h
  | some x =>
   rw[e]at h
   simp only at h
   split at h
   .cases h;exact Lin.norm _ _
   .exact qxc h
theorem q2h(c:Ct)(s:Ste):Lin (qlq c) (qjg c s).2.1:=by
 unfold qjg
 cases e:qlg c s with
 | none=>exact Lin.nil _
 | some x=>exact qxc (show qgb c 65 s []=some (x.1,x.2)from e)
theorem qyv(c:Ct)(s:Ste)(x:Evn):Lin (qlq c) (qay c s x).2.1:=by
 unfold qay
 split
 .exact Lin.nil _
 .split
  .exact q2h _ _
  .exact Lin.nil _
abbrev jdk(l:List (Int×Bool)):List V:=[q4t l]
abbrev Crs.v(r:Crs):V:=.agg (r.st.cells++[.imm (r.strokes.map jdk),qcl r.conf])
def jiu(c:Ct)(s:Ste)(l:List Evn):Crs×Int×Int:=if quE c s=0 then(if 4096<l.length then(q7f,0,5)else zta c l 0 ⟨s,[],[]⟩)else(q7f,0,quE c s)
theorem zeb{c:Ct}{s:Ste}(hfew:c.small=true)(h:quE c s=0):Rdy c s:=by
 unfold quE at h
 split at h
 .exact⟨hfew,by assumption⟩
 .rename_i h2;exact absurd h h2
abbrev jcy:List V:=[.fn 117 [.bptr 14 0] [],.fn 118 [.bptr 14 0] [],.fn 119 [.bptr 14 0] []]
abbrev hF(c:Ct)(s:Ste)(x:List V)(t:Ste):H:=[⟨0,.box c.cells⟩,⟨0,.box s.cells⟩,⟨0,.box x⟩,o0,o0,o0,o0,o0,⟨0,.box (znb 3)⟩]++ar5 t++[⟨0,.box (sl5 9 t)⟩,⟨0,.box jcy⟩]
set_option maxHeartbeats 1000000 in
set_option maxHeartbeats 1000000 in
theorem ev117{c:Ct}{s:Ste}(hS:Shp c s)(id:Int)(vl:Bool):ev pg (.call (.fn 117 [.bptr 14 0] []) [.agg [num 0,num id,.bool vl]] (hF c s [num 0,num id,.bool vl] s))=some { v:=.bool (qvj s ⟨0,id,vl⟩),st:=⟨[],hF c s [num 0,num id,.bool vl] (if qvj s ⟨0,id,vl⟩=true then qes s ⟨0,id,vl⟩else s)⟩ }:=by
 have hvt:s.values.length=s.timers.length:=by rw[hS.v,hS.t]
 unfold qvj qes
 simp only
 rw[qac,pg117]
 by_cases hi:id<0
 .simp[qaa,exT,qaf,ir117,hi]
 .obtain⟨n,rfl⟩:∃n:Nat,id=n:=⟨id.toNat,by omega⟩
  have hi':¬(n:Int)<0:=by omega
  by_cases hl:s.ends.length<=n
  .have hn:¬n<s.ends.length:=by omega
   have hl':(s.ends.length:Int)<=n:=by omega
   simp[qaa,exT,qaf,ir117,hi',hl,hl',hn,qqs]
  .have hn:n<s.ends.length:=by omega
   have hl':¬(s.ends.length:Int)<=n:=by omega
   by_cases h1:s.ends[n]=1
   .simp[qaa,exT,qaf,ir117,hl,hl',hi',hn,h1,qqs]
   .have h1b:(s.ends[n]==1)=false:=by simpa using h1
    by_cases h3:s.ends[n]=3
    .simp[qaa,exT,qaf,ir117,hl,hl',hi',hn,h3,qqs]
    .have h3b:(s.ends[n]==3)=false:=by simpa using h3
     simp[qaa,exT,qaf,ir117,hl,hl',hi',hn,h1,h1b,h3,h3b,qqs]
set_option maxHeartbeats 1000000 in
theorem ev118{c:Ct}{s:Ste}(hS:Shp c s)(id:Int)(vl:Bool):ev pg (.call (.fn 118 [.bptr 14 0] []) [.agg [num 1,num id,.bool vl]] (hF c s [num 1,num id,.bool vl] s))=some { v:=.bool (qvj s ⟨1,id,vl⟩),st:=⟨[],hF c s [num 1,num id,.bool vl] (if qvj s ⟨1,id,vl⟩=true then qes s ⟨1,id,vl⟩else s)⟩ }:=by
 have hvt:s.values.length=s.timers.length:=by rw[hS.v,hS.t]
 unfold qvj qes
 simp only
 rw[qac,pg118]
 by_cases hi:id<0
 .simp[qaa,exT,qaf,ir118,hi]
 .obtain⟨n,rfl⟩:∃n:Nat,id=n:=⟨id.toNat,by omega⟩
  have hi':¬(n:Int)<0:=by omega
  by_cases hl:s.timers.length<=n
  .have hn:¬n<s.timers.length:=by omega
   have hl':(s.timers.length:Int)<=n:=by omega
   simp[qaa,exT,qaf,ir118,hi',hl,hl',hn,qqs]
  .have hn:n<s.timers.length:=by omega
   have hl':¬(s.timers.length:Int)<=n:=by omega
   have hn2:n<s.values.length:=by omega
   by_cases h1:s.timers[n]=1
   .simp[qaa,exT,qaf,ir118,hl,hl',hi',hn,hn2,h1,qqs]
   .have h1b:(s.timers[n]==1)=false:=by simpa using h1
    simp[qaa,exT,qaf,ir118,hl,hl',hi',hn,h1,h1b,qqs]
set_option maxHeartbeats 1000000 in
theorem ev119{c:Ct}{s:Ste}(hS:Shp c s)(id:Int)(vl:Bool):ev pg (.call (.fn 119 [.bptr 14 0] []) [.agg [num 2,num id,.bool vl]] (hF c s [num 2,num id,.bool vl] s))=some { v:=.bool (qvj s ⟨2,id,vl⟩),st:=⟨[],hF c s [num 2,num id,.bool vl] (if qvj s ⟨2,id,vl⟩=true then qes s ⟨2,id,vl⟩else s)⟩ }:=by
 have hvt:s.values.length=s.timers.length:=by rw[hS.v,hS.t]
 unfold qvj qes
 simp only
 rw[qac,pg119]
 by_cases hi:id<0
 .simp[qaa,exT,qaf,ir119,hi]
 .obtain⟨n,rfl⟩:∃n:Nat,id=n:=⟨id.toNat,by omega⟩
  have hi':¬(n:Int)<0:=by omega
  by_cases hl:s.inputs.length<=n
  .have hn:¬n<s.inputs.length:=by omega
   have hl':(s.inputs.length:Int)<=n:=by omega
   simp[qaa,exT,qaf,ir119,hi',hl,hl',hn,qqs]
  .have hn:n<s.inputs.length:=by omega
   have hl':¬(s.inputs.length:Int)<=n:=by omega
   generalize hb:s.inputs[n]=b
   cases b<;>cases vl<;>simp[qaa,exT,qaf,ir119,hl,hl',hi',hn,hb]
theorem zkh{c:Ct}{s:Ste}(hS:Shp c s)(x:Evn):(qes s x).ends.length=s.ends.length/\(qes s x).valves.length=s.valves.length/\(qes s x).inputs.length=s.inputs.length/\(qes s x).values.length=s.values.length/\(qes s x).timers.length=s.timers.length:=by
 unfold qes
 split
 .simp
 .split
  .simp
  .simp
set_option maxHeartbeats 1000000 in
theorem ev47{c:Ct}{s:Ste}(h:Rdy c s)(x:Evn):ev pg (.call (.fn 47 [] []) [c.v,s.v,x.v] [])=some { v:=q1h (qay c s x),st:=⟨[],[]⟩ }:=by
 have e60:=ev116 s h.small
 obtain⟨kd,id,vl⟩:=x
 obtain⟨l1,l2,l3,l4,l5⟩:=zkh h.shp ⟨kd,id,vl⟩
 unfold qay
 rw[qac,pg47]
 by_cases hlo:kd<0
 .rw[if_pos (.inl hlo)]
  simp[ir47,e60,hlo,zeroS]
 .by_cases hhi:2<kd
  .rw[if_pos (.inr hhi)]
   have hhi':(3:Int)<=kd:=by omega
   simp[ir47,e60,hlo,hhi',zeroS]
  .have hk:¬(kd<0\/2<kd):=by omega
   rw[if_neg hk]
   have e91:=ev117 h.shp id vl
   have e92:=ev118 h.shp id vl
   have e93:=ev119 h.shp id vl
   have hkd:kd=0\/kd=1\/kd=2:=by omega
   rcases hkd with rfl | rfl | rfl
   .cases hm:qvj s ⟨0,id,vl⟩with
    | false =>
     rw[hm]at e91
     simp only[Bool.false_eq_true,if_false]at e91
     simp at e91
     simp[qaa,exT,qaf,ir47,e60,e91,zeroS]
    | true =>
     rw[hm]at e91
     simp only[if_true]at e91
     have hR:Rdy c (qes s ⟨0,id,vl⟩):=⟨h.few,qft h.st hk hm⟩
     have e16:=ev45 c (qes s ⟨0,id,vl⟩) h.few hR.small
     unfold qqw at e16
     rw[if_pos hR.st]at e16
     generalize qes s ⟨0,id,vl⟩=u at *
     generalize qjg c u=z at *
     simp[l1,l2,l3,l4,l5]at e91
     simp[qaa,exT,qaf,ir47,e60,e91,e16,l1,l2,l3,l4,l5]
   .cases hm:qvj s ⟨1,id,vl⟩with
    | false =>
     rw[hm]at e92
     simp only[Bool.false_eq_true,if_false]at e92
     simp at e92
     simp[qaa,exT,qaf,ir47,e60,e92,zeroS]
    | true =>
     rw[hm]at e92
     simp only[if_true]at e92
     have hR:Rdy c (qes s ⟨1,id,vl⟩):=⟨h.few,qft h.st hk hm⟩
     have e16:=ev45 c (qes s ⟨1,id,vl⟩) h.few hR.small
     unfold qqw at e16
     rw[if_pos hR.st]at e16
     generalize qes s ⟨1,id,vl⟩=u at *
     generalize qjg c u=z at *
     simp[l1,l2,l3,l4,l5]at e92
     simp[qaa,exT,qaf,ir47,e60,e92,e16,l1,l2,l3,l4,l5]
   .cases hm:qvj s ⟨2,id,vl⟩with
    | false =>
     rw[hm]at e93
     simp only[Bool.false_eq_true,if_false]at e93
     simp at e93
     simp[qaa,exT,qaf,ir47,e60,e93,zeroS]
    | true =>
     rw[hm]at e93
     simp only[if_true]at e93
     have hR:Rdy c (qes s ⟨2,id,vl⟩):=⟨h.few,qft h.st hk hm⟩
     have e16:=ev45 c (qes s ⟨2,id,vl⟩) h.few hR.small
     unfold qqw at e16
     rw[if_pos hR.st]at e16
     generalize qes s ⟨2,id,vl⟩=u at *
     generalize qjg c u=z at *
     simp[l1,l2,l3,l4,l5]at e93
     simp[qaa,exT,qaf,ir47,e60,e93,e16,l1,l2,l3,l4,l5]
def qbp(c:Ct)(s:Ste)(x:Evn):Ste×List Int×Int:=if quE c s=0 then qay c s x else(zeroS,[],quE c s)
theorem ev12(c:Ct)(s:Ste)(hfew:c.small=true)(hs:s.small)(x:Evn):ev pg (.call (.fn 12 [] []) [c.v,s.v,x.v] [])=some { v:=q1h (qbp c s x),st:=⟨[],[]⟩ }:=by
 have e49:=ev46 c s hfew hs
 unfold qbp
 rw[qac,pg12]
 by_cases h:quE c s=0
 .have e61:=ev47 (zeb hfew h) x
  rw[if_pos h]
  rw[h]at e49
  generalize qay c s x=z at *
  simp[ir12,e49,e61]
 .rw[if_neg h]
  have hb:(quE c s==0)=false:=by simpa using h
  generalize quE c s=e at *
  simp[ir12,e49,h,hb,zeroS]
def T62(x y:Ste)(k:Nat)(a:Nat×Nat):Tm:=[none,none,some (.bptr 0 0),some (.bptr 1 0),some (.sl 2 0 0 0 0),some (.sl 3 a.1 a.2 0 (qhf x y k).length),none,none,none,some (qcl y.ends),some (num y.ends.length),some (num k)]++List.replicate 28 none
set_option maxHeartbeats 1000000 in
theorem jjg(x y:Ste)(hs:x.small)(he:y.ends.length=x.ends.length){st:St}(a0:Nat×Nat)(g0:gm2 a0)(h0:At (T62 x y 0 a0) (h64 x y 0 a0) st):∃r,ev pg (.code (.going 4 L121_0) st)=some r/\∃a,gm2 a/\qam (.exit 0) (T62 x y y.ends.length a) (h64 x y y.ends.length a) r:=by
 have hse:=hs.e
 refine qcz y.ends.length (T62 x y) (h64 x y) (fun _ a=>gm2 a) _ ?_ ?_ a0 g0 h0
 .rintro k ⟨g,m⟩ f hf hk2 hG
  have hk':(k:Int)<y.ends.length:=by omega
  have hk:k<x.ends.length:=by omega
  have wk:=qab (n:=(k:Int)+1) (by omega) (by omega)
  have hsl:=quf x y k
  have hp:qrq x y k=if(y.ends[k]=1\/y.ends[k]=3)/\x.ends[k]≠y.ends[k]then some ((k:Int),y.ends[k]==1)else none:=by
   unfold qrq
   rw[jA hk,jA hk2]
  unfold T62 h64
  rw[q1u,hp]
  generalize qhf x y k=B at *
  have hb1:(B.length+1)*16<=140737488355328:=by omega
  have hmm:m=2\/m=0:=hG
  by_cases h2:y.ends[k]=x.ends[k]
  .have h2s:¬x.ends[k]≠y.ends[k]:=fun h=>h h2.symm
   rw[if_neg (fun h=>h2s h.2)]
   rcases hmm with rfl | rfl<;>simp[L121_0,hk,hk',hk2,wk,h2,hf.ne]
  .have h2b:(y.ends[k]==x.ends[k])=false:=by simpa using h2
   have h2n:(y.ends[k] != x.ends[k])=true:=by simpa using h2
   have h2s:x.ends[k]≠y.ends[k]:=fun h=>h2 h.symm
   by_cases h1:y.ends[k]=1
   .rw[if_pos ⟨.inl h1,h2s⟩]
    rw[h1]at h2 h2b h2n
    rcases hmm with rfl | rfl<;>simp[L121_0,hk,hk',hk2,wk,h1,h2,h2b,h2n,hb1,hf.ne]
   .have h1b:(y.ends[k]==1)=false:=by simpa using h1
    by_cases h3:y.ends[k]=3
    .rw[if_pos ⟨.inr h3,h2s⟩]
     rw[h3]at h2 h2b h2n
     rcases hmm with rfl | rfl<;>simp[L121_0,hk,hk',hk2,wk,h3,h2,h2b,h2n,hb1,hf.ne]
    .have h3b:(y.ends[k]==3)=false:=by simpa using h3
     rw[if_neg (fun h=>h.1.elim h1 h3)]
     rcases hmm with rfl | rfl<;>simp[L121_0,hk,hk',hk2,wk,h1,h1b,h2,h2b,h2n,h3,h3b,hf.ne]
 .rintro⟨g,m⟩ f hf hG
  unfold T62 h64
  generalize qhf x y y.ends.length=B at *
  have hmm:m=2\/m=0:=hG
  rcases hmm with rfl | rfl<;>simp[L121_0,hf.ne]
theorem ev121(x y:Ste)(hs:x.small)(he:y.ends.length=x.ends.length):ev pg (.call (.fn 121 [] []) [x.v,y.v] [])=some { v:=q4t (qfh x y),st:=⟨[],[]⟩ }:=by
 have hl:=@jjg x y hs he
 have z0:qhf x y 0=[]:=rfl
 have z1:qhf x y y.ends.length=qfh x y:=by rw[he];rfl
 unfold h64 T62 at hl
 rw[z0,z1]at hl
 generalize qfh x y=B at *
 rw[qac,pg121]
 simp[ir121,qag]
 generalize hr:ev pg (.code (.going _ L121_0) _)=o
 obtain⟨r,rfl,⟨g,m⟩,hm,f,hf,rfl⟩:∃r,o=some r/\_:=by rw[<-hr];exact hl (0,0) (.inr rfl) (by simp)
 clear hr
 have hmm:m=2\/m=0:=hm
 rcases hmm with rfl | rfl<;>simp
structure Crs.small(r:Crs):Prop where
 st:r.st.small
 len:r.strokes.length<=100000
 each:∀l∈r.strokes,l.length<=100000
 conf:r.conf.length<=4096
theorem qko:zeroS.small:=⟨by simp[zeroS],by simp[zeroS],by simp[zeroS],by simp[zeroS],by simp[zeroS]⟩
theorem qjh(a b:Ste):(qfh a b).length<=a.ends.length:=by rw[zej];exact quf _ _ _
theorem q1n(c:Ct)(hc:c.check=0):qbv c=qqw c (qif c):=by
 unfold qbv qqw
 rw[if_pos hc,if_pos (qep hc)]
theorem q3i{c:Ct}{s:Ste}(h:Rdy c s)(x:Evn):(qay c s x).1.small:=by
 by_cases hz:(qay c s x).2.2=0
 .exact Rdy.small ⟨h.few,q1p h.st hz⟩
 .unfold qay at hz ⊢
  split
  .exact qko
  .rename_i h1
   rw[if_neg h1]at hz
   split
   .rename_i h2
    rw[if_pos h2]at hz
    unfold qjg at hz ⊢
    cases e:qlg c (qes s x)with
    | none=>exact qko
    | some y=>rw[e]at hz;exact absurd rfl hz
   .exact qko
theorem q6g{c:Ct}(hc:c.small=true)(s:Ste)(x:Evn):(qbp c s x).1.small:=by
 unfold qbp
 split
 .rename_i h
  exact q3i (zeb hc h) x
 .exact qko
end Go.Proofs.YtddeacahiilikaaGreat
namespace Go.Proofs.YtddeacahiilikaaGreat
open Go Go.Am Go.Proofs
set_option maxRecDepth 1000000
def one:Ct:=⟨1,[[115,116,97,114,116]],[⟨[109],1,.mk 3 0 [.mk 1 2 [],.mk 1 0 []],.mk 1 1 [],0,false⟩,⟨[103],0,.mk 2 0 [.mk 1 3 []],.mk 0 0 [],0,false⟩],[3],[4]⟩
theorem zym:one.small=true:=by kernel_rfl
@[simp] theorem z4l(l:List (List (Int×Bool))):qwh (l.map jdk) (l.map jdk)=true:=qgt (fun x=>by simp[qgt (row:=zsm)]) l
structure Lie(c:Ct)(t:Ste):Prop where
 rdy:Rdy c t
 still:∃a,qcy c t=some (t,a)
theorem qou{c:Ct}{s:Ste}(h:Rdy c s)(he:(qjg c s).2.2=0):Lie c (qjg c s).1/\(qjg c s).1.inputs=s.inputs:=by
 unfold qjg at he ⊢
 cases hZ:qlg c s with
 | none=>rw[hZ]at he;simp at he
 | some x =>
  obtain⟨t,m⟩:=x
  exact⟨⟨⟨h.few,qod h.st hZ⟩,qtq hZ⟩,q2m hZ⟩
theorem Lie.rest{c:Ct}{t:Ste}(h:Lie c t):(qqw c t).1=t/\(qqw c t).2.2=0:=by
 obtain⟨a,ha⟩:=h.still
 unfold qqw qjg
 rw[if_pos h.rdy.st,zcq ha]
 exact⟨rfl,rfl⟩
def h6(c:Ct)(s t:Ste):H:=[⟨0,.box c.cells⟩,⟨0,.box s.cells⟩,o0,o0,o0,o0,o0,⟨0,.box t.cells⟩,o0,o0,o0,o0,o0,⟨0,.box t.cells⟩,⟨0,.arr 1 ((qah t).map qht)⟩]
theorem Lie.quE{c:Ct}{t:Ste}(h:Lie c t):quE c t=0:=by
 obtain⟨a,ha⟩:=h.still
 unfold Proofs.YtddeacahiilikaaGreat.quE q3h
 rw[if_pos h.rdy.st,ha]
 simp[qyn]
theorem Lie.run{c:Ct}{t:Ste}(h:Lie c t){l:List Evn}(hl:l.length<=4096):jiu c t l=zta c l 0 ⟨t,[],[]⟩:=by
 unfold jiu
 rw[if_pos h.quE,if_neg (by omega)]
theorem zcw{c:Ct}(hc:c.check=0)(he:(qbv c).2.2≠0):(qbv c).2.2=21:=by
 rw[q1n c hc]at he ⊢
 unfold qqw qjg at *
 rw[if_pos (qep hc)]at *
 cases hZ:qlg c (qif c)with
 | none=>rfl
 | some x=>rw[hZ]at he;exact absurd rfl he
theorem zav{c:Ct}(hs:c.small=true)(hc:c.check=0)(he:(qbv c).2.2=0):Lie c (qbv c).1:=by
 rw[q1n c hc]at he ⊢
 unfold qqw qjg at *
 rw[if_pos (qep hc)]at *
 cases hZ:qlg c (qif c)with
 | none=>rw[hZ]at he;simp at he
 | some x =>
  obtain⟨t,m⟩:=x
  exact⟨⟨hs,qod (qep hc) hZ⟩,qtq hZ⟩
def begE(a b:Ste):Int:=if a.ends.length≠b.ends.length\/6<a.ends.length then 8 else if(a.ends++b.ends).any (qfj 4)=true then 1 else 0
def qpv(a b:Ste):List (Int×Bool):=if begE a b=0 then qfh a b else []
def T38(n k:Nat):Tm:=[none,none,some (.bptr 0 0),some (.bptr 1 0),none,some (num 0)]++List.replicate 20 none++[some (.sl 2 0 1 0 n),some (num n),some (num k)]++List.replicate 13 none
def z8v:Tm:=[none,none,none,none,some .nils,some (num 1)]++List.replicate 36 none
abbrev h38(a b:Ste)(l:List Int):H:=[⟨0,.box a.cells⟩,⟨0,.box b.cells⟩,⟨0,.arr 1 (l.map qcc)⟩,o0]
theorem jjm(a b:Ste)(l:List Int)(hl:l.length<=100000){st:St}(h0:At (T38 l.length 0) (h38 a b l) st):∃r,ev pg (.code (.going 4 L48_0) st)=some r/\qlx l.length (fun k=>qfj 4 ((l[k]?).getD 0)) (fun _=>qam .ret z8v (h38 a b l)) (qam (.exit 0) (T38 l.length l.length) (h38 a b l)) r:=by
 refine qdn _ _ (T38 l.length) (h38 a b l) _ _ ?_ ?_ ?_ h0
 .intro k f hf hk hp
  have hk':(k:Int)<l.length:=by omega
  have wk:=qab (n:=(k:Int)+1) (by omega) (by omega)
  have hp':¬l[k]<0/\¬4<=l[k]:=by simpa[qfj,hk]using hp
  simp[T38,L48_0,hk,hk',wk,hp',hf.ne]
 .intro k f hf hk hp
  have hk':(k:Int)<l.length:=by omega
  have hp':l[k]<0\/4<=l[k]:=by simpa[qfj,hk]using hp
  by_cases h1:l[k]<0
  .simp[T38,z8v,L48_0,hk,hk',h1,hf.ne]
  .have h2:4<=l[k]:=by omega
   simp[T38,z8v,L48_0,hk,hk',h1,h2,hf.ne]
 .intro f hf
  simp[T38,L48_0,hf.ne]
theorem zid{l:List Int}{X:Nat->R->Prop}{Y:R->Prop}{r:R}(h:qlx l.length (fun k=>qfj 4 ((l[k]?).getD 0)) X Y r):(l.any (qfj 4)=true/\∃k,X k r)\/(l.any (qfj 4)=false/\Y r):=by
 rcases h with⟨k,hk,hp,-,hX⟩ | ⟨hp,hY⟩
 .refine .inl ⟨List.any_eq_true.2 ⟨l[k],jH hk,by simpa[hk]using hp⟩,k,hX⟩
 .refine .inr ⟨?_,hY⟩
  rw[List.any_eq_false]
  intro x hx
  obtain⟨k,hk,rfl⟩:=List.getElem_of_mem hx
  have:=hp k hk
  simpa[hk]using this
theorem zgw{a b:Ste}(h:a.ends.length≠b.ends.length\/6<a.ends.length):begE a b=8:=by unfold begE;rw[if_pos h]
theorem zhi{a b:Ste}(h1:a.ends.length=b.ends.length)(h2:¬6<a.ends.length):begE a b=if(a.ends++b.ends).any (qfj 4)=true then 1 else 0:=by unfold begE;rw[if_neg (by omega)]
theorem ev48(a b:Ste)(ha:a.small)(hb:b.small):ev pg (.call (.fn 48 [] []) [a.v,b.v] [])=some { v:=.tup [q4t (qpv a b),num (begE a b)],st:=⟨[],[]⟩ }:=by
 unfold qpv
 rw[qac,pg48]
 by_cases h1:a.ends.length=b.ends.length
 .have h1':(a.ends.length:Int)=b.ends.length:=by omega
  by_cases h2:6<a.ends.length
  .rw[zgw (.inr h2)]
   have h2b:(6:Int)<b.ends.length:=by omega
   simp[ir48,h1',h2b]
  .rw[zhi h1 h2]
   have h2b:¬(6:Int)<b.ends.length:=by omega
   have e62:=ev121 a b ha h1.symm
   have e32:=ev120c [a.ends,b.ends] (by simp) (by simp) (by simp;have:=ha.e;have:=hb.e;omega)
   have hl:=@jjm a b (a.ends++b.ends) (by simp;have:=ha.e;have:=hb.e;omega)
   simp only[zgb,List.map_cons,List.map_nil,List.flatten_cons,List.flatten_nil,List.append_nil]at e32
   generalize a.ends++b.ends=l at *
   generalize qfh a b=F at *
   generalize hB:l.any (qfj 4)=B
   simp[ir48,h1',h2b,e32,qag,qct,qel,qmk,qek]
   generalize hr:ev pg (.code (.going _ L48_0) _)=o
   obtain⟨r,rfl,hQ⟩:∃r,o=some r/\_:=by rw[<-hr];exact hl (by simp[T38])
   clear hr
   have hfa:=zid hQ
   rw[hB]at hfa
   clear hQ
   rcases hfa with⟨rfl,k,f,hf,rfl⟩ | ⟨rfl,f,hf,rfl⟩
   .simp[z8v,qct,qel,qmk,qek]
   .simp[T38,e62,qct,qel,qmk,qek]
 .rw[zgw (.inl h1)]
  have h1':¬(a.ends.length:Int)=b.ends.length:=by omega
  have hne:((a.ends.length:Int) != (b.ends.length:Int))=true:=by rw[bne_iff_ne];exact h1'
  simp[ir48,h1',hne]
end Go.Proofs.YtddeacahiilikaaGreat
