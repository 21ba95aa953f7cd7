/- Faults of actuators: what a fault forbids does not happen. -/
import Derived.Test.YtbepbclaoohngaaGreatCMy2
import Derived.KernelRfl
import Derived.Test.YtbepbclaoohngaaGreatCSv1
import Derived.Test.YtbepbclaoohngaaGreatCRn1
import Derived.Test.YtbepbclaoohngaaGreatCSa1
set_option linter.all false
namespace Go.Proofs.YtbepbclaoohngaaGreat
open Go Go.Am Go.Proofs
set_option maxRecDepth 100000
abbrev jbj:List V:=[.fn 152 [.bptr 14 0] [],.fn 153 [.bptr 14 0] [],.fn 154 [.bptr 14 0] []]
abbrev hF(c:Ct)(s:Ste)(x:List V)(t:Ste):H:=[⟨0,.box c.cells⟩,⟨0,.box s.cells⟩,⟨0,.box x⟩,o0,o0,o0,o0,o0,⟨0,.box (q3v 3)⟩]++ar5 t++[⟨0,.box (sl5 9 t)⟩,⟨0,.box jbj⟩]
set_option maxHeartbeats 1000000 in
set_option maxHeartbeats 1000000 in
theorem ev152{c:Ct}{s:Ste}(hS:Shp c s)(id:Int)(vl:Bool):ev pg (.call (.fn 152 [.bptr 14 0] []) [.agg [num 0,num id,.bool vl]] (hF c s [num 0,num id,.bool vl] s))=some { v:=.bool (qpk s ⟨0,id,vl⟩),st:=⟨[],hF c s [num 0,num id,.bool vl] (if qpk s ⟨0,id,vl⟩=true then qeo s ⟨0,id,vl⟩else s)⟩ }:=by
 have hvt:s.values.length=s.timers.length:=by rw[hS.v,hS.t]
 unfold qpk qeo
 simp only
 rw[qaa,pg152]
 by_cases hi:id<0
 .simp[qab,exT,qak,ir152,hi]
 .obtain⟨n,rfl⟩:∃n:Nat,id=n:=⟨id.toNat,by omega⟩
  have hi':¬(n:Int)<0:=by omega
  by_cases hl:s.ends.length<=n
  .have hn:¬n<s.ends.length:=by omega
   have hl':(s.ends.length:Int)<=n:=by omega
   simp[qab,exT,qak,ir152,hi',hl,hl',hn,qbn]
  .have hn:n<s.ends.length:=by omega
   have hl':¬(s.ends.length:Int)<=n:=by omega
   by_cases h1:s.ends[n]=1
   .simp[qab,exT,qak,ir152,hl,hl',hi',hn,h1,qbn]
   .have h1b:(s.ends[n]==1)=false:=by simpa using h1
    by_cases h3:s.ends[n]=3
    .simp[qab,exT,qak,ir152,hl,hl',hi',hn,h3,qbn]
    .have h3b:(s.ends[n]==3)=false:=by simpa using h3
     simp[qab,exT,qak,ir152,hl,hl',hi',hn,h1,h1b,h3,h3b,qbn]
set_option maxHeartbeats 1000000 in
theorem ev153{c:Ct}{s:Ste}(hS:Shp c s)(id:Int)(vl:Bool):ev pg (.call (.fn 153 [.bptr 14 0] []) [.agg [num 1,num id,.bool vl]] (hF c s [num 1,num id,.bool vl] s))=some { v:=.bool (qpk s ⟨1,id,vl⟩),st:=⟨[],hF c s [num 1,num id,.bool vl] (if qpk s ⟨1,id,vl⟩=true then qeo s ⟨1,id,vl⟩else s)⟩ }:=by
 have hvt:s.values.length=s.timers.length:=by rw[hS.v,hS.t]
 unfold qpk qeo
 simp only
 rw[qaa,pg153]
 by_cases hi:id<0
 .simp[qab,exT,qak,ir153,hi]
 .obtain⟨n,rfl⟩:∃n:Nat,id=n:=⟨id.toNat,by omega⟩
  have hi':¬(n:Int)<0:=by omega
  by_cases hl:s.timers.length<=n
  .have hn:¬n<s.timers.length:=by omega
   have hl':(s.timers.length:Int)<=n:=by omega
   simp[qab,exT,qak,ir153,hi',hl,hl',hn,qbn]
  .have hn:n<s.timers.length:=by omega
   have hl':¬(s.timers.length:Int)<=n:=by omega
   have hn2:n<s.values.length:=by omega
   by_cases h1:s.timers[n]=1
   .simp[qab,exT,qak,ir153,hl,hl',hi',hn,hn2,h1,qbn]
   .have h1b:(s.timers[n]==1)=false:=by simpa using h1
    simp[qab,exT,qak,ir153,hl,hl',hi',hn,h1,h1b,qbn]
set_option maxHeartbeats 1000000 in
theorem ev154{c:Ct}{s:Ste}(hS:Shp c s)(id:Int)(vl:Bool):ev pg (.call (.fn 154 [.bptr 14 0] []) [.agg [num 2,num id,.bool vl]] (hF c s [num 2,num id,.bool vl] s))=some { v:=.bool (qpk s ⟨2,id,vl⟩),st:=⟨[],hF c s [num 2,num id,.bool vl] (if qpk s ⟨2,id,vl⟩=true then qeo s ⟨2,id,vl⟩else s)⟩ }:=by
 have hvt:s.values.length=s.timers.length:=by rw[hS.v,hS.t]
 unfold qpk qeo
 simp only
 rw[qaa,pg154]
 by_cases hi:id<0
 .simp[qab,exT,qak,ir154,hi]
 .obtain⟨n,rfl⟩:∃n:Nat,id=n:=⟨id.toNat,by omega⟩
  have hi':¬(n:Int)<0:=by omega
  by_cases hl:s.inputs.length<=n
  .have hn:¬n<s.inputs.length:=by omega
   have hl':(s.inputs.length:Int)<=n:=by omega
   simp[qab,exT,qak,ir154,hi',hl,hl',hn,qbn]
  .have hn:n<s.inputs.length:=by omega
   have hl':¬(s.inputs.length:Int)<=n:=by omega
   generalize hb:s.inputs[n]=b
   cases b<;>cases vl<;>simp[qab,exT,qak,ir154,hl,hl',hi',hn,hb]
abbrev z3g(p:Int×Bool):List V:=[num p.1,.bool p.2]
abbrev jht(l:List (Int×Bool)):V:=.imm (l.map z3g)
theorem q0p{c:Ct}:∀{d:Nat} {s:Ste} {l:List Int} {t:Ste} {m:List Int},qfu c d s l=some (t,m)->Lin (qpb c) m
 | 0,_,_,_,_,h=>by cases h
 | d+1,s,l,t,m,h=>by
  rw[qfu]at h
  cases e:qch c s with
  | none=>rw[e]at h;cases h
  | some x =>
   rw[e]at h
   simp only at h
   split at h
   .cases h;exact Lin.norm _ _
   .exact q0p h
theorem zjt(c:Ct)(s:Ste):Lin (qpb c) (qhg c s).2.1:=by
 unfold qhg
 cases e:qid c s with
 | none=>exact Lin.nil _
 | some x=>exact q0p (show qfu c 65 s []=some (x.1,x.2)from e)
abbrev jfb(l:List (Int×Bool)):List V:=[jht l]
abbrev Crs.v(r:Crs):V:=.agg (r.st.cells++[.imm (r.strokes.map jfb),qeh r.conf])
def jgh(c:Ct)(s:Ste)(l:List Evn):Crs×Int×Int:=if quE c s=0 then(if 4096<l.length then(q8y,0,5)else zwu c l 0 ⟨s,[],[]⟩)else(q8y,0,quE c s)
theorem q2w{c:Ct}{s:Ste}(hfew:c.small=true)(h:quE c s=0):Rdy c s:=by
 unfold quE at h
 split at h
 .exact⟨hfew,by assumption⟩
 .rename_i h2;exact absurd h h2
theorem zng{c:Ct}{s:Ste}(hS:Shp c s)(x:Evn):(qeo s x).ends.length=s.ends.length/\(qeo s x).valves.length=s.valves.length/\(qeo s x).inputs.length=s.inputs.length/\(qeo s x).values.length=s.values.length/\(qeo s x).timers.length=s.timers.length:=by
 unfold qeo
 split
 .simp
 .split
  .simp
  .simp
set_option maxHeartbeats 1000000 in
theorem ev92{c:Ct}{s:Ste}(h:Rdy c s)(x:Evn):ev pg (.call (.fn 92 [] []) [c.v,s.v,x.v] [])=some { v:=q7b (qeb c s x),st:=⟨[],[]⟩ }:=by
 have e60:=ev91 s h.small
 obtain⟨kd,id,vl⟩:=x
 obtain⟨l1,l2,l3,l4,l5⟩:=zng h.shp ⟨kd,id,vl⟩
 unfold qeb
 rw[qaa,pg92]
 by_cases hlo:kd<0
 .rw[if_pos (.inl hlo)]
  simp[ir92,e60,hlo,zeroS]
 .by_cases hhi:2<kd
  .rw[if_pos (.inr hhi)]
   have hhi':(3:Int)<=kd:=by omega
   simp[ir92,e60,hlo,hhi',zeroS]
  .have hk:¬(kd<0\/2<kd):=by omega
   rw[if_neg hk]
   have e91:=ev152 h.shp id vl
   have e92:=ev153 h.shp id vl
   have e93:=ev154 h.shp id vl
   have hkd:kd=0\/kd=1\/kd=2:=by omega
   rcases hkd with rfl | rfl | rfl
   .cases hm:qpk s ⟨0,id,vl⟩with
    | false =>
     rw[hm]at e91
     simp only[Bool.false_eq_true,if_false]at e91
     simp at e91
     simp[qab,exT,qak,ir92,e60,e91,zeroS]
    | true =>
     rw[hm]at e91
     simp only[if_true]at e91
     have hR:Rdy c (qeo s ⟨0,id,vl⟩):=⟨h.few,qge h.st hk hm⟩
     have e16:=ev89 c (qeo s ⟨0,id,vl⟩) h.few hR.small
     unfold qpq at e16
     rw[if_pos hR.st]at e16
     generalize qeo s ⟨0,id,vl⟩=u at *
     generalize qhg c u=z at *
     simp[l1,l2,l3,l4,l5]at e91
     simp[qab,exT,qak,ir92,e60,e91,e16,l1,l2,l3,l4,l5]
   .cases hm:qpk s ⟨1,id,vl⟩with
    | false =>
     rw[hm]at e92
     simp only[Bool.false_eq_true,if_false]at e92
     simp at e92
     simp[qab,exT,qak,ir92,e60,e92,zeroS]
    | true =>
     rw[hm]at e92
     simp only[if_true]at e92
     have hR:Rdy c (qeo s ⟨1,id,vl⟩):=⟨h.few,qge h.st hk hm⟩
     have e16:=ev89 c (qeo s ⟨1,id,vl⟩) h.few hR.small
     unfold qpq at e16
     rw[if_pos hR.st]at e16
     generalize qeo s ⟨1,id,vl⟩=u at *
     generalize qhg c u=z at *
     simp[l1,l2,l3,l4,l5]at e92
     simp[qab,exT,qak,ir92,e60,e92,e16,l1,l2,l3,l4,l5]
   .cases hm:qpk s ⟨2,id,vl⟩with
    | false =>
     rw[hm]at e93
     simp only[Bool.false_eq_true,if_false]at e93
     simp at e93
     simp[qab,exT,qak,ir92,e60,e93,zeroS]
    | true =>
     rw[hm]at e93
     simp only[if_true]at e93
     have hR:Rdy c (qeo s ⟨2,id,vl⟩):=⟨h.few,qge h.st hk hm⟩
     have e16:=ev89 c (qeo s ⟨2,id,vl⟩) h.few hR.small
     unfold qpq at e16
     rw[if_pos hR.st]at e16
     generalize qeo s ⟨2,id,vl⟩=u at *
     generalize qhg c u=z at *
     simp[l1,l2,l3,l4,l5]at e93
     simp[qab,exT,qak,ir92,e60,e93,e16,l1,l2,l3,l4,l5]
def qhs(c:Ct)(s:Ste)(x:Evn):Ste×List Int×Int:=if quE c s=0 then qeb c s x else(zeroS,[],quE c s)
theorem ev57(c:Ct)(s:Ste)(hfew:c.small=true)(hs:s.small)(x:Evn):ev pg (.call (.fn 57 [] []) [c.v,s.v,x.v] [])=some { v:=q7b (qhs c s x),st:=⟨[],[]⟩ }:=by
 have e49:=ev90 c s hfew hs
 unfold qhs
 rw[qaa,pg57]
 by_cases h:quE c s=0
 .have e61:=ev92 (q2w hfew h) x
  rw[if_pos h]
  rw[h]at e49
  generalize qeb c s x=z at *
  simp[ir57,e49,e61]
 .rw[if_neg h]
  have hb:(quE c s==0)=false:=by simpa using h
  generalize quE c s=e at *
  simp[ir57,e49,h,hb,zeroS]
def zla:Tm:=[none,none,none,none,some (.bool false)]++zN 21
theorem Evn.ext'{x y:Evn}(h1:x.kind=y.kind)(h2:x.idx=y.idx)(h3:x.val=y.val):x=y:=by
 cases x;cases y
 simp only at h1 h2 h3
 subst h1 h2 h3
 rfl
instance(x y:Evn):Decidable (x=y) :=
 if h:x.kind=y.kind/\x.idx=y.idx/\x.val=y.val then .isTrue (Evn.ext' h.1 h.2.1 h.2.2)
 else .isFalse fun e=>h (by rw[e];exact⟨rfl,rfl,rfl⟩)
instance:DecidableEq Evn:=fun x y=>inferInstance
def qyy(d:Ct)(F:Nat)(p:List Int)(i:Nat)(v:Int):Prop:=∃(g:Nat) (x:Sg),d.signals[g]?=some x/\x.kind=0/\x.on=.mk 0 v []/\p[i]?=some ((F+g:Nat):Int)
theorem quh{c:Ct}{N:Nat}:∀{d:Nat} {s:Ste} {l:List Int} {t:Ste} {m:List Int},qdb c N d s l=some (t,m)->qgo c t=t
 | 0,_,_,_,_,h=>by cases h
 | d+1,s,l,t,m,h=>by
  rw[qdb]at h
  split at h
  .rename_i hs
   cases h;exact qgr.1 hs
  .exact quh h
theorem q8n{c:Ct}{s t:Ste}{m:List Int}(h:qca c s=some (t,m)):qgo c t=t:=quh h
theorem q7k{d:Ct}(hsm:d.small=true){s:Ste}(hs:stE d s=0){g:Nat}{x:Sg}{v:Int}(hg:d.signals[g]?=some x)(hk:x.kind=0)(ho:x.on=.mk 0 v []):(qdq d s).values[g]?=some (v==1):=by
 obtain⟨hc,hS⟩:=qim hs
 have hgl:g<d.signals.length:=by
  rcases Nat.lt_or_ge g d.signals.length with h | h
  .exact h
  .rw[jY h]at hg;cases hg
 have hF:=q6t hS
 have hf:=zhf (L:=qae s) (F:=qap s) (by rw[hF];exact zcs hc hsm) hg hk (by rw[qyc hS,hF];unfold qam qac;omega)
 unfold qdq
 simp only
 rw[List.getElem?_drop,qwj,hf,ho,qnv]
 simp[Ex.op,Ex.idx]
theorem zdt{d:Ct}{s:Ste}(hS:Shp d s){g:Nat}{x:Sg}(hg:d.signals[g]?=some x)(hk:x.kind=0){b:Bool}(hv:s.values[g]?=some b):(qxa d s).values[g]?=some b:=by
 have hgl:g<d.signals.length:=by
  rcases Nat.lt_or_ge g d.signals.length with h | h
  .exact h
  .rw[jY h]at hg;cases hg
 have ht:g<s.timers.length:=by rw[hS.t];exact hgl
 unfold qxa
 simp only
 rw[List.getElem?_map,qno (qae s) hg hv (jA ht)]
 simp[qlw,hk]
theorem q8b{s:Ste}{g:Nat}:(qae s)[qap s+g]?=s.values[g]?:=by
 have:=qli s
 rw[<-this,List.getElem?_drop]
theorem qzb{d:Ct}(hsm:d.small=true){s t:Ste}{m:List Int}(hs:stE d s=0)(h:qca d s=some (t,m)){p:List Int}{i:Nat}{v:Int}(hp:qyy d (qam d d.act.toNat) p i v):qbq (qae t) p i=(v==1):=by
 obtain⟨g,x,hg,hk,ho,hpi⟩:=hp
 have ht:=qlu hs h
 obtain⟨hc,hS⟩:=qim ht
 have hfix:=q8n h
 have h1:=q7k hsm ht hg hk ho
 have hS':Shp d (qdq d t):=(qim (qle ht)).2
 have h2:=zdt hS' hg hk h1
 have h3:(qgo d t).values[g]?=some (v==1):=h2
 rw[hfix]at h3
 unfold qbq
 rw[hpi]
 simp only[Option.map_some,Option.getD_some,Int.toNat_natCast]
 rw[<-q6t hS,q8b,h3]
 rfl
def qto(s:Ste)(i:Nat):Prop:=s.valves[i]?=some false/\s.ends[i]?=some 0
def qoy(s:Ste)(i:Nat):Prop:=(s.valves[i]?=some false/\s.ends[i]?=some 0)\/(s.valves[i]?=some true/\(s.ends[i]?=some 0\/s.ends[i]?=some 1\/s.ends[i]?=some 2))
theorem q3o{d:Ct}{s:Ste}{i:Nat}{b:Bool}(h:s.valves[i]?=some b):(qgs d s).valves[i]?=some (qjh d (qae s) i b):=by
 unfold qgs
 simp only
 rw[List.getElem?_mapIdx,h]
 rfl
theorem qqq{s:Ste}{i:Nat}{b:Bool}{e:Int}(h:s.valves[i]?=some b)(h2:s.ends[i]?=some e):(qkb s).ends[i]?=some (qko b e):=by
 unfold qkb
 simp only
 rw[List.getElem?_zipWith,h,h2]
theorem q5h{d:Ct}(hsm:d.small=true){s t:Ste}{a:List Int}(hs:stE d s=0)(h:qch d s=some (t,a)){i:Nat}(hp:qyy d (qam d d.act.toNat) d.plus i 0)(hk:qto s i):qto t i:=by
 obtain⟨u,m,hu,rfl,_⟩:=qjw h
 obtain⟨e1,e2,_⟩:=qni hu
 have hl:=qzb hsm hs hu hp
 obtain⟨k1,k2⟩:=hk
 rw[<-e2]at k1
 rw[<-e1]at k2
 have v1:=q3o (d:=d) k1
 have hv:qjh d (qae u) i false=false:=by
  unfold qjh
  rw[hl]
  split<;>rfl
 rw[hv]at v1
 have g1:=qqq (s:=qgs d u) v1 k2
 exact⟨v1,g1⟩
theorem q2i{d:Ct}(hsm:d.small=true){s t:Ste}{a:List Int}(hs:stE d s=0)(h:qch d s=some (t,a)){i:Nat}(hp:qyy d (qam d d.act.toNat) d.minus i 0)(hk:qoy s i):qoy t i:=by
 obtain⟨u,m,hu,rfl,_⟩:=qjw h
 obtain⟨e1,e2,_⟩:=qni hu
 have hl:=qzb hsm hs hu hp
 have hl0:qbq (qae u) d.minus i=false:=hl
 have hval:∀b,qjh d (qae u) i b=true\/(b=false/\qjh d (qae u) i b=false):=by
  intro b
  unfold qjh
  rw[hl0]
  cases hb:qbq (qae u) d.plus i<;>cases b<;>simp
 rcases hk with⟨k1,k2⟩ | ⟨k1,k2⟩
 .rw[<-e2]at k1
  rw[<-e1]at k2
  have v1:=q3o (d:=d) k1
  have g1:=qqq (s:=qgs d u) v1 k2
  rcases hval false with hb | ⟨_,hb⟩
  .rw[hb]at v1 g1
   exact .inr ⟨v1,.inr (.inl g1)⟩
  .rw[hb]at v1 g1
   exact .inl ⟨v1,g1⟩
 .rw[<-e2]at k1
  rw[<-e1]at k2
  have v1:=q3o (d:=d) k1
  have hb:qjh d (qae u) i true=true:=by
   rcases hval true with hb | ⟨h,_⟩
   .exact hb
   .cases h
  rw[hb]at v1
  rcases k2 with k2 | k2 | k2
  .exact .inr ⟨v1,.inr (.inl (qqq (s:=qgs d u) v1 k2))⟩
  .exact .inr ⟨v1,.inr (.inl (qqq (s:=qgs d u) v1 k2))⟩
  .exact .inr ⟨v1,.inr (.inr (qqq (s:=qgs d u) v1 k2))⟩
theorem qwp{d:Ct}{K:Ste->Prop}(hK:∀s t a,stE d s=0->qch d s=some (t,a)->K s->K t):∀{n:Nat} {s:Ste} {l:List Int} {t:Ste} {m:List Int},stE d s=0->qfu d n s l=some (t,m)->K s->K t
 | 0,_,_,_,_,_,h,_=>by cases h
 | n+1,s,l,t,m,hs,h,hk=>by
  rw[qfu]at h
  cases e:qch d s with
  | none=>rw[e]at h;cases h
  | some x =>
   rw[e]at h
   simp only at h
   split at h
   .cases h;exact hk
   .have e':qch d s=some (x.1,x.2):=e
    exact qwp hK (qmz hs e') h (hK _ _ _ hs e' hk)
theorem q8a{s:Ste}{x:Evn}{i:Nat}(hm:qpk s x=true)(hk:qto s i):qto (qeo s x) i:=by
 unfold qeo
 unfold qpk at hm
 split at hm
 .cases hm
 .split
  .rename_i h0
   refine⟨hk.1,?_⟩
   rw[if_neg (by omega),h0]at hm
   obtain⟨hi,he⟩:=qvh hm
   have hne:x.idx.toNat≠i:=by
    intro e
    have:=hk.2
    rw[<-e,jA hi,jC]at this
    omega
   simp only
   rw[jO hne]
   exact hk.2
  .split
   .exact hk
   .exact hk
theorem q5i{s:Ste}{x:Evn}{i:Nat}(hm:qpk s x=true)(hk:qoy s i):qoy (qeo s x) i:=by
 unfold qeo
 unfold qpk at hm
 split at hm
 .cases hm
 .split
  .rename_i h0
   rw[if_neg (by omega),h0]at hm
   obtain⟨hi,he⟩:=qvh hm
   by_cases hne:x.idx.toNat=i
   .subst hne
    have hg:=jA hi
    rcases hk with⟨_,k2⟩ | ⟨k1,k2⟩
    .rw[hg,jC]at k2
     omega
    .have h1:s.ends[x.idx.toNat]?=some 1:=by
      rw[hg]at k2 ⊢
      rw[jC]at k2 ⊢
      rw[jC,jC]at k2
      omega
     refine .inr ⟨k1,.inr (.inr ?_)⟩
     simp only
     rw[jN hi,if_pos h1]
   .unfold qoy
    simp only
    rw[jO hne]
    exact hk
  .split
   .exact hk
   .exact hk
theorem zdg{d:Ct}{K:Ste->Prop}(hK:∀s t a,stE d s=0->qch d s=some (t,a)->K s->K t)(hH:∀s x,qpk s x=true->K s->K (qeo s x)){s:Ste}{x:Evn}(hs:stE d s=0)(hk:K s)(h:(qeb d s x).2.2=0):K (qeb d s x).1:=by
 unfold qeb at h ⊢
 split at h
 .cases h
 .rename_i h1
  rw[if_neg h1]
  split at h
  .rename_i h2
   rw[if_pos h2]
   unfold qhg at h ⊢
   cases e:qid d (qeo s x)with
   | none=>rw[e]at h;cases h
   | some y =>
    simp only
    exact qwp hK (qge hs h1 h2) (show qfu d 65 (qeo s x) []=some (y.1,y.2)from e) (hH s x h2 hk)
  .cases h
theorem qzh{c:Ct}{i:Nat}(hi:i<c.act.toNat):qto (qgj c) i:=by
 unfold qto qgj qdq qhp
 simp only
 rw[List.getElem?_replicate,if_pos hi,List.getElem?_replicate,if_pos hi]
 exact⟨rfl,rfl⟩
theorem zde{s:Ste}{i:Nat}(h:qto s i):qoy s i:=.inl h
end Go.Proofs.YtbepbclaoohngaaGreat
