/- Behind a fault of an actuator: what it keeps, plainly. -/
import Derived.Test.YtbepbclaoohngaaGreatVMy2
import Derived.KernelRfl
import Derived.Test.YtbepbclaoohngaaGreatVSv1
import Derived.Test.YtbepbclaoohngaaGreatVRn1
import Derived.Test.YtbepbclaoohngaaGreatVSa1
import Derived.Test.YtbepbclaoohngaaGreatVFy5
set_option linter.all false
namespace Go.Proofs.YtbepbclaoohngaaGreat
open Go Go.Am Go.Proofs
set_option maxRecDepth 100000
abbrev jal:List V:=[.fn 152 [.bptr 14 0] [],.fn 153 [.bptr 14 0] [],.fn 154 [.bptr 14 0] []]
abbrev hF(c:Ct)(s:Ste)(x:List V)(t:Ste):H:=[⟨0,.box c.cells⟩,⟨0,.box s.cells⟩,⟨0,.box x⟩,o0,o0,o0,o0,o0,⟨0,.box (q2u 3)⟩]++ar5 t++[⟨0,.box (sl5 9 t)⟩,⟨0,.box jal⟩]
set_option maxHeartbeats 1000000 in
set_option maxHeartbeats 1000000 in
theorem ev152{c:Ct}{s:Ste}(hS:Shp c s)(id:Int)(vl:Bool):ev pg (.call (.fn 152 [.bptr 14 0] []) [.agg [num 0,num id,.bool vl]] (hF c s [num 0,num id,.bool vl] s))=some { v:=.bool (qpc s ⟨0,id,vl⟩),st:=⟨[],hF c s [num 0,num id,.bool vl] (if qpc s ⟨0,id,vl⟩=true then qen s ⟨0,id,vl⟩else s)⟩ }:=by
 have hvt:s.values.length=s.timers.length:=by rw[hS.v,hS.t]
 unfold qpc qen
 simp only
 rw[qaa,pg152]
 by_cases hi:id<0
 .simp[qab,exT,qal,ir152,hi]
 .obtain⟨n,rfl⟩:∃n:Nat,id=n:=⟨id.toNat,by omega⟩
  have hi':¬(n:Int)<0:=by omega
  by_cases hl:s.ends.length<=n
  .have hn:¬n<s.ends.length:=by omega
   have hl':(s.ends.length:Int)<=n:=by omega
   simp[qab,exT,qal,ir152,hi',hl,hl',hn,qbm]
  .have hn:n<s.ends.length:=by omega
   have hl':¬(s.ends.length:Int)<=n:=by omega
   by_cases h1:s.ends[n]=1
   .simp[qab,exT,qal,ir152,hl,hl',hi',hn,h1,qbm]
   .have h1b:(s.ends[n]==1)=false:=by simpa using h1
    by_cases h3:s.ends[n]=3
    .simp[qab,exT,qal,ir152,hl,hl',hi',hn,h3,qbm]
    .have h3b:(s.ends[n]==3)=false:=by simpa using h3
     simp[qab,exT,qal,ir152,hl,hl',hi',hn,h1,h1b,h3,h3b,qbm]
set_option maxHeartbeats 1000000 in
theorem ev153{c:Ct}{s:Ste}(hS:Shp c s)(id:Int)(vl:Bool):ev pg (.call (.fn 153 [.bptr 14 0] []) [.agg [num 1,num id,.bool vl]] (hF c s [num 1,num id,.bool vl] s))=some { v:=.bool (qpc s ⟨1,id,vl⟩),st:=⟨[],hF c s [num 1,num id,.bool vl] (if qpc s ⟨1,id,vl⟩=true then qen s ⟨1,id,vl⟩else s)⟩ }:=by
 have hvt:s.values.length=s.timers.length:=by rw[hS.v,hS.t]
 unfold qpc qen
 simp only
 rw[qaa,pg153]
 by_cases hi:id<0
 .simp[qab,exT,qal,ir153,hi]
 .obtain⟨n,rfl⟩:∃n:Nat,id=n:=⟨id.toNat,by omega⟩
  have hi':¬(n:Int)<0:=by omega
  by_cases hl:s.timers.length<=n
  .have hn:¬n<s.timers.length:=by omega
   have hl':(s.timers.length:Int)<=n:=by omega
   simp[qab,exT,qal,ir153,hi',hl,hl',hn,qbm]
  .have hn:n<s.timers.length:=by omega
   have hl':¬(s.timers.length:Int)<=n:=by omega
   have hn2:n<s.values.length:=by omega
   by_cases h1:s.timers[n]=1
   .simp[qab,exT,qal,ir153,hl,hl',hi',hn,hn2,h1,qbm]
   .have h1b:(s.timers[n]==1)=false:=by simpa using h1
    simp[qab,exT,qal,ir153,hl,hl',hi',hn,h1,h1b,qbm]
set_option maxHeartbeats 1000000 in
theorem ev154{c:Ct}{s:Ste}(hS:Shp c s)(id:Int)(vl:Bool):ev pg (.call (.fn 154 [.bptr 14 0] []) [.agg [num 2,num id,.bool vl]] (hF c s [num 2,num id,.bool vl] s))=some { v:=.bool (qpc s ⟨2,id,vl⟩),st:=⟨[],hF c s [num 2,num id,.bool vl] (if qpc s ⟨2,id,vl⟩=true then qen s ⟨2,id,vl⟩else s)⟩ }:=by
 have hvt:s.values.length=s.timers.length:=by rw[hS.v,hS.t]
 unfold qpc qen
 simp only
 rw[qaa,pg154]
 by_cases hi:id<0
 .simp[qab,exT,qal,ir154,hi]
 .obtain⟨n,rfl⟩:∃n:Nat,id=n:=⟨id.toNat,by omega⟩
  have hi':¬(n:Int)<0:=by omega
  by_cases hl:s.inputs.length<=n
  .have hn:¬n<s.inputs.length:=by omega
   have hl':(s.inputs.length:Int)<=n:=by omega
   simp[qab,exT,qal,ir154,hi',hl,hl',hn,qbm]
  .have hn:n<s.inputs.length:=by omega
   have hl':¬(s.inputs.length:Int)<=n:=by omega
   generalize hb:s.inputs[n]=b
   cases b<;>cases vl<;>simp[qab,exT,qal,ir154,hl,hl',hi',hn,hb]
abbrev z2i(p:Int×Bool):List V:=[num p.1,.bool p.2]
abbrev jgn(l:List (Int×Bool)):V:=.imm (l.map z2i)
theorem qzv{c:Ct}:∀{d:Nat} {s:Ste} {l:List Int} {t:Ste} {m:List Int},qft c d s l=some (t,m)->Lin (qou c) m
 | 0,_,_,_,_,h=>by cases h
 | d+1,s,l,t,m,h=>by
  rw[qft]at h
  cases e:qce c s with
  | none=>rw[e]at h;cases h
  | some x =>
   rw[e]at h
   simp only at h
   split at h
   .cases h;exact Lin.norm _ _
   .exact qzv h
theorem ziy(c:Ct)(s:Ste):Lin (qou c) (qhd c s).2.1:=by
 unfold qhd
 cases e:qif c s with
 | none=>exact Lin.nil _
 | some x=>exact qzv (show qft c 65 s []=some (x.1,x.2)from e)
abbrev jeb(l:List (Int×Bool)):List V:=[jgn l]
abbrev Crs.v(r:Crs):V:=.agg (r.st.cells++[.imm (r.strokes.map jeb),qeg r.conf])
def jfc(c:Ct)(s:Ste)(l:List Evn):Crs×Int×Int:=if quE c s=0 then(if 4096<l.length then(q8g,0,5)else zvs c l 0 ⟨s,[],[]⟩)else(q8g,0,quE c s)
theorem q7n{c:Ct}{s:Ste}(hfew:c.small=true)(h:quE c s=0):Rdy c s:=by
 unfold quE at h
 split at h
 .exact⟨hfew,by assumption⟩
 .rename_i h2;exact absurd h h2
theorem zmg{c:Ct}{s:Ste}(hS:Shp c s)(x:Evn):(qen s x).ends.length=s.ends.length/\(qen s x).valves.length=s.valves.length/\(qen s x).inputs.length=s.inputs.length/\(qen s x).values.length=s.values.length/\(qen s x).timers.length=s.timers.length:=by
 unfold qen
 split
 .simp
 .split
  .simp
  .simp
set_option maxHeartbeats 1000000 in
theorem ev92{c:Ct}{s:Ste}(h:Rdy c s)(x:Evn):ev pg (.call (.fn 92 [] []) [c.v,s.v,x.v] [])=some { v:=zag (qdy c s x),st:=⟨[],[]⟩ }:=by
 have e60:=ev91 s h.small
 obtain⟨kd,id,vl⟩:=x
 obtain⟨l1,l2,l3,l4,l5⟩:=zmg h.shp ⟨kd,id,vl⟩
 unfold qdy
 rw[qaa,pg92]
 by_cases hlo:kd<0
 .rw[if_pos (.inl hlo)]
  simp[ir92,e60,hlo,zeroS]
 .by_cases hhi:2<kd
  .rw[if_pos (.inr hhi)]
   have hhi':(3:Int)<=kd:=by omega
   simp[ir92,e60,hlo,hhi',zeroS]
  .have hk:¬(kd<0\/2<kd):=by omega
   rw[if_neg hk]
   have e91:=ev152 h.shp id vl
   have e92:=ev153 h.shp id vl
   have e93:=ev154 h.shp id vl
   have hkd:kd=0\/kd=1\/kd=2:=by omega
   rcases hkd with rfl | rfl | rfl
   .cases hm:qpc s ⟨0,id,vl⟩with
    | false =>
     rw[hm]at e91
     simp only[Bool.false_eq_true,if_false]at e91
     simp at e91
     simp[qab,exT,qal,ir92,e60,e91,zeroS]
    | true =>
     rw[hm]at e91
     simp only[if_true]at e91
     have hR:Rdy c (qen s ⟨0,id,vl⟩):=⟨h.few,qgy h.st hk hm⟩
     have e16:=ev89 c (qen s ⟨0,id,vl⟩) h.few hR.small
     unfold qqz at e16
     rw[if_pos hR.st]at e16
     generalize qen s ⟨0,id,vl⟩=u at *
     generalize qhd c u=z at *
     simp[l1,l2,l3,l4,l5]at e91
     simp[qab,exT,qal,ir92,e60,e91,e16,l1,l2,l3,l4,l5]
   .cases hm:qpc s ⟨1,id,vl⟩with
    | false =>
     rw[hm]at e92
     simp only[Bool.false_eq_true,if_false]at e92
     simp at e92
     simp[qab,exT,qal,ir92,e60,e92,zeroS]
    | true =>
     rw[hm]at e92
     simp only[if_true]at e92
     have hR:Rdy c (qen s ⟨1,id,vl⟩):=⟨h.few,qgy h.st hk hm⟩
     have e16:=ev89 c (qen s ⟨1,id,vl⟩) h.few hR.small
     unfold qqz at e16
     rw[if_pos hR.st]at e16
     generalize qen s ⟨1,id,vl⟩=u at *
     generalize qhd c u=z at *
     simp[l1,l2,l3,l4,l5]at e92
     simp[qab,exT,qal,ir92,e60,e92,e16,l1,l2,l3,l4,l5]
   .cases hm:qpc s ⟨2,id,vl⟩with
    | false =>
     rw[hm]at e93
     simp only[Bool.false_eq_true,if_false]at e93
     simp at e93
     simp[qab,exT,qal,ir92,e60,e93,zeroS]
    | true =>
     rw[hm]at e93
     simp only[if_true]at e93
     have hR:Rdy c (qen s ⟨2,id,vl⟩):=⟨h.few,qgy h.st hk hm⟩
     have e16:=ev89 c (qen s ⟨2,id,vl⟩) h.few hR.small
     unfold qqz at e16
     rw[if_pos hR.st]at e16
     generalize qen s ⟨2,id,vl⟩=u at *
     generalize qhd c u=z at *
     simp[l1,l2,l3,l4,l5]at e93
     simp[qab,exT,qal,ir92,e60,e93,e16,l1,l2,l3,l4,l5]
def qlg(c:Ct)(s:Ste)(x:Evn):Ste×List Int×Int:=if quE c s=0 then qdy c s x else(zeroS,[],quE c s)
theorem ev57(c:Ct)(s:Ste)(hfew:c.small=true)(hs:s.small)(x:Evn):ev pg (.call (.fn 57 [] []) [c.v,s.v,x.v] [])=some { v:=zag (qlg c s x),st:=⟨[],[]⟩ }:=by
 have e49:=ev90 c s hfew hs
 unfold qlg
 rw[qaa,pg57]
 by_cases h:quE c s=0
 .have e61:=ev92 (q7n hfew h) x
  rw[if_pos h]
  rw[h]at e49
  generalize qdy c s x=z at *
  simp[ir57,e49,e61]
 .rw[if_neg h]
  have hb:(quE c s==0)=false:=by simpa using h
  generalize quE c s=e at *
  simp[ir57,e49,h,hb,zeroS]
def zke:Tm:=[none,none,none,none,some (.bool false)]++zN 21
theorem Evn.ext'{x y:Evn}(h1:x.kind=y.kind)(h2:x.idx=y.idx)(h3:x.val=y.val):x=y:=by
 cases x;cases y
 simp only at h1 h2 h3
 subst h1 h2 h3
 rfl
instance(x y:Evn):Decidable (x=y) :=
 if h:x.kind=y.kind/\x.idx=y.idx/\x.val=y.val then .isTrue (Evn.ext' h.1 h.2.1 h.2.2)
 else .isFalse fun e=>h (by rw[e];exact⟨rfl,rfl,rfl⟩)
instance:DecidableEq Evn:=fun x y=>inferInstance
def qyg(d:Ct)(F:Nat)(p:List Int)(i:Nat)(v:Int):Prop:=∃(g:Nat) (x:Sg),d.signals[g]?=some x/\x.kind=0/\x.on=.mk 0 v []/\p[i]?=some ((F+g:Nat):Int)
theorem qtu{c:Ct}{N:Nat}:∀{d:Nat} {s:Ste} {l:List Int} {t:Ste} {m:List Int},qcz c N d s l=some (t,m)->qgj c t=t
 | 0,_,_,_,_,h=>by cases h
 | d+1,s,l,t,m,h=>by
  rw[qcz]at h
  split at h
  .rename_i hs
   cases h;exact qgm.1 hs
  .exact qtu h
theorem q7u{c:Ct}{s t:Ste}{m:List Int}(h:qca c s=some (t,m)):qgj c t=t:=qtu h
theorem q6o{d:Ct}(hsm:d.small=true){s:Ste}(hs:stE d s=0){g:Nat}{x:Sg}{v:Int}(hg:d.signals[g]?=some x)(hk:x.kind=0)(ho:x.on=.mk 0 v []):(qdq d s).values[g]?=some (v==1):=by
 obtain⟨hc,hS⟩:=qii hs
 have hgl:g<d.signals.length:=by
  rcases Nat.lt_or_ge g d.signals.length with h | h
  .exact h
  .rw[jY h]at hg;cases hg
 have hF:=q5r hS
 have hf:=zgm (L:=qae s) (F:=qao s) (by rw[hF];exact zcc hc hsm) hg hk (by rw[qxm hS,hF];unfold qam qac;omega)
 unfold qdq
 simp only
 rw[List.getElem?_drop,qvu,hf,ho,qnn]
 simp[Ex.op,Ex.idx]
theorem zdd{d:Ct}{s:Ste}(hS:Shp d s){g:Nat}{x:Sg}(hg:d.signals[g]?=some x)(hk:x.kind=0){b:Bool}(hv:s.values[g]?=some b):(qwn d s).values[g]?=some b:=by
 have hgl:g<d.signals.length:=by
  rcases Nat.lt_or_ge g d.signals.length with h | h
  .exact h
  .rw[jY h]at hg;cases hg
 have ht:g<s.timers.length:=by rw[hS.t];exact hgl
 unfold qwn
 simp only
 rw[List.getElem?_map,qnf (qae s) hg hv (jA ht)]
 simp[qlp,hk]
theorem q7f{s:Ste}{g:Nat}:(qae s)[qao s+g]?=s.values[g]?:=by
 have:=qlb s
 rw[<-this,List.getElem?_drop]
theorem qyi{d:Ct}(hsm:d.small=true){s t:Ste}{m:List Int}(hs:stE d s=0)(h:qca d s=some (t,m)){p:List Int}{i:Nat}{v:Int}(hp:qyg d (qam d d.act.toNat) p i v):qbp (qae t) p i=(v==1):=by
 obtain⟨g,x,hg,hk,ho,hpi⟩:=hp
 have ht:=qln hs h
 obtain⟨hc,hS⟩:=qii ht
 have hfix:=q7u h
 have h1:=q6o hsm ht hg hk ho
 have hS':Shp d (qdq d t):=(qii (qkx ht)).2
 have h2:=zdd hS' hg hk h1
 have h3:(qgj d t).values[g]?=some (v==1):=h2
 rw[hfix]at h3
 unfold qbp
 rw[hpi]
 simp only[Option.map_some,Option.getD_some,Int.toNat_natCast]
 rw[<-q5r hS,q7f,h3]
 rfl
def qsz(s:Ste)(i:Nat):Prop:=s.valves[i]?=some false/\s.ends[i]?=some 0
def qos(s:Ste)(i:Nat):Prop:=(s.valves[i]?=some false/\s.ends[i]?=some 0)\/(s.valves[i]?=some true/\(s.ends[i]?=some 0\/s.ends[i]?=some 1\/s.ends[i]?=some 2))
theorem q2m{d:Ct}{s:Ste}{i:Nat}{b:Bool}(h:s.valves[i]?=some b):(qgn d s).valves[i]?=some (qjc d (qae s) i b):=by
 unfold qgn
 simp only
 rw[List.getElem?_mapIdx,h]
 rfl
theorem qqg{s:Ste}{i:Nat}{b:Bool}{e:Int}(h:s.valves[i]?=some b)(h2:s.ends[i]?=some e):(qjw s).ends[i]?=some (qkg b e):=by
 unfold qjw
 simp only
 rw[List.getElem?_zipWith,h,h2]
theorem q4f{d:Ct}(hsm:d.small=true){s t:Ste}{a:List Int}(hs:stE d s=0)(h:qce d s=some (t,a)){i:Nat}(hp:qyg d (qam d d.act.toNat) d.plus i 0)(hk:qsz s i):qsz t i:=by
 obtain⟨u,m,hu,rfl,_⟩:=qjr h
 obtain⟨e1,e2,_⟩:=qmz hu
 have hl:=qyi hsm hs hu hp
 obtain⟨k1,k2⟩:=hk
 rw[<-e2]at k1
 rw[<-e1]at k2
 have v1:=q2m (d:=d) k1
 have hv:qjc d (qae u) i false=false:=by
  unfold qjc
  rw[hl]
  split<;>rfl
 rw[hv]at v1
 have g1:=qqg (s:=qgn d u) v1 k2
 exact⟨v1,g1⟩
theorem q1k{d:Ct}(hsm:d.small=true){s t:Ste}{a:List Int}(hs:stE d s=0)(h:qce d s=some (t,a)){i:Nat}(hp:qyg d (qam d d.act.toNat) d.minus i 0)(hk:qos s i):qos t i:=by
 obtain⟨u,m,hu,rfl,_⟩:=qjr h
 obtain⟨e1,e2,_⟩:=qmz hu
 have hl:=qyi hsm hs hu hp
 have hl0:qbp (qae u) d.minus i=false:=hl
 have hval:∀b,qjc d (qae u) i b=true\/(b=false/\qjc d (qae u) i b=false):=by
  intro b
  unfold qjc
  rw[hl0]
  cases hb:qbp (qae u) d.plus i<;>cases b<;>simp
 rcases hk with⟨k1,k2⟩ | ⟨k1,k2⟩
 .rw[<-e2]at k1
  rw[<-e1]at k2
  have v1:=q2m (d:=d) k1
  have g1:=qqg (s:=qgn d u) v1 k2
  rcases hval false with hb | ⟨_,hb⟩
  .rw[hb]at v1 g1
   exact .inr ⟨v1,.inr (.inl g1)⟩
  .rw[hb]at v1 g1
   exact .inl ⟨v1,g1⟩
 .rw[<-e2]at k1
  rw[<-e1]at k2
  have v1:=q2m (d:=d) k1
  have hb:qjc d (qae u) i true=true:=by
   rcases hval true with hb | ⟨h,_⟩
   .exact hb
   .cases h
  rw[hb]at v1
  rcases k2 with k2 | k2 | k2
  .exact .inr ⟨v1,.inr (.inl (qqg (s:=qgn d u) v1 k2))⟩
  .exact .inr ⟨v1,.inr (.inl (qqg (s:=qgn d u) v1 k2))⟩
  .exact .inr ⟨v1,.inr (.inr (qqg (s:=qgn d u) v1 k2))⟩
theorem qwa{d:Ct}{K:Ste->Prop}(hK:∀s t a,stE d s=0->qce d s=some (t,a)->K s->K t):∀{n:Nat} {s:Ste} {l:List Int} {t:Ste} {m:List Int},stE d s=0->qft d n s l=some (t,m)->K s->K t
 | 0,_,_,_,_,_,h,_=>by cases h
 | n+1,s,l,t,m,hs,h,hk=>by
  rw[qft]at h
  cases e:qce d s with
  | none=>rw[e]at h;cases h
  | some x =>
   rw[e]at h
   simp only at h
   split at h
   .cases h;exact hk
   .have e':qce d s=some (x.1,x.2):=e
    exact qwa hK (qmr hs e') h (hK _ _ _ hs e' hk)
theorem q7e{s:Ste}{x:Evn}{i:Nat}(hm:qpc s x=true)(hk:qsz s i):qsz (qen s x) i:=by
 unfold qen
 unfold qpc at hm
 split at hm
 .cases hm
 .split
  .rename_i h0
   refine⟨hk.1,?_⟩
   rw[if_neg (by omega),h0]at hm
   obtain⟨hi,he⟩:=qus hm
   have hne:x.idx.toNat≠i:=by
    intro e
    have:=hk.2
    rw[<-e,jA hi,jC]at this
    omega
   simp only
   rw[jO hne]
   exact hk.2
  .split
   .exact hk
   .exact hk
theorem q4g{s:Ste}{x:Evn}{i:Nat}(hm:qpc s x=true)(hk:qos s i):qos (qen s x) i:=by
 unfold qen
 unfold qpc at hm
 split at hm
 .cases hm
 .split
  .rename_i h0
   rw[if_neg (by omega),h0]at hm
   obtain⟨hi,he⟩:=qus hm
   by_cases hne:x.idx.toNat=i
   .subst hne
    have hg:=jA hi
    rcases hk with⟨_,k2⟩ | ⟨k1,k2⟩
    .rw[hg,jC]at k2
     omega
    .have h1:s.ends[x.idx.toNat]?=some 1:=by
      rw[hg]at k2 ⊢
      rw[jC]at k2 ⊢
      rw[jC,jC]at k2
      omega
     refine .inr ⟨k1,.inr (.inr ?_)⟩
     simp only
     rw[jN hi,if_pos h1]
   .unfold qos
    simp only
    rw[jO hne]
    exact hk
  .split
   .exact hk
   .exact hk
theorem zcq{d:Ct}{K:Ste->Prop}(hK:∀s t a,stE d s=0->qce d s=some (t,a)->K s->K t)(hH:∀s x,qpc s x=true->K s->K (qen s x)){s:Ste}{x:Evn}(hs:stE d s=0)(hk:K s)(h:(qdy d s x).2.2=0):K (qdy d s x).1:=by
 unfold qdy at h ⊢
 split at h
 .cases h
 .rename_i h1
  rw[if_neg h1]
  split at h
  .rename_i h2
   rw[if_pos h2]
   unfold qhd at h ⊢
   cases e:qif d (qen s x)with
   | none=>rw[e]at h;cases h
   | some y =>
    simp only
    exact qwa hK (qgy hs h1 h2) (show qft d 65 (qen s x) []=some (y.1,y.2)from e) (hH s x h2 hk)
  .cases h
theorem qyo{c:Ct}{i:Nat}(hi:i<c.act.toNat):qsz (qgs c) i:=by
 unfold qsz qgs qdq qho
 simp only
 rw[List.getElem?_replicate,if_pos hi,List.getElem?_replicate,if_pos hi]
 exact⟨rfl,rfl⟩
theorem zco{s:Ste}{i:Nat}(h:qsz s i):qos s i:=.inl h
structure Crs.small(r:Crs):Prop where
 st:r.st.small
 len:r.strokes.length<=100000
 each:∀l∈r.strokes,l.length<=100000
 conf:r.conf.length<=4096
theorem qlr:zeroS.small:=⟨by simp[zeroS],by simp[zeroS],by simp[zeroS],by simp[zeroS],by simp[zeroS]⟩
theorem q7p(c:Ct){s:Ste}(hc:c.small=true):(qqz c s).1.small/\(qqz c s).2.1.length<=4096:=by
 unfold qqz
 by_cases h:stE c s=0
 .rw[if_pos h]
  have hlin:=ziy c s
  have hN:=qux (Rdy.mid ⟨hc,h⟩)
  refine⟨?_,by have:=hlin.len;omega⟩
  unfold qhd
  cases e:qif c s with
  | none=>exact⟨by simp[zeroS],by simp[zeroS],by simp[zeroS],by simp[zeroS],by simp[zeroS]⟩
  | some x=>exact Rdy.small ⟨hc,qph h (show qif c s=some (x.1,x.2)from e)⟩
 .rw[if_neg h]
  exact⟨⟨by simp[zeroS],by simp[zeroS],by simp[zeroS],by simp[zeroS],by simp[zeroS]⟩,by simp⟩
theorem zji(c:Ct)(hc:c.check=0):qde c=qqz c (qgs c):=by
 unfold qde qqz
 rw[if_pos hc,if_pos (qhm hc)]
theorem qtw(c:Ct)(hc:c.small=true):(qde c).1.small/\(qde c).2.1.length<=4096:=by
 by_cases h:c.check=0
 .rw[zji c h]
  exact q7p c hc
 .unfold qde
  rw[if_neg h]
  exact⟨⟨by simp[zeroS],by simp[zeroS],by simp[zeroS],by simp[zeroS],by simp[zeroS]⟩,by simp⟩
theorem q3g{c:Ct}{s:Ste}(h:Rdy c s)(x:Evn):(qdy c s x).1.small:=by
 by_cases hz:(qdy c s x).2.2=0
 .exact Rdy.small ⟨h.few,q3f h.st hz⟩
 .unfold qdy at hz ⊢
  split
  .exact qlr
  .rename_i h1
   rw[if_neg h1]at hz
   split
   .rename_i h2
    rw[if_pos h2]at hz
    unfold qhd at hz ⊢
    cases e:qif c (qen s x)with
    | none=>exact qlr
    | some y=>rw[e]at hz;exact absurd rfl hz
   .exact qlr
theorem qwl{c:Ct}(hc:c.small=true)(s:Ste)(x:Evn):(qlg c s x).1.small:=by
 unfold qlg
 split
 .rename_i h
  exact q3g (q7n hc h) x
 .exact qlr
end Go.Proofs.YtbepbclaoohngaaGreat
namespace Go.Proofs.YtbepbclaoohngaaGreat
open Go Go.Am Go.Proofs
set_option maxRecDepth 1000000
def one:Ct:=⟨1,[[115,116,97,114,116]],[⟨[109],1,.mk 3 0 [.mk 1 2 [],.mk 1 0 []],.mk 1 1 [],0,false⟩,⟨[103],0,.mk 2 0 [.mk 1 3 []],.mk 0 0 [],0,false⟩],[3],[4]⟩
@[simp] theorem zxw(l:List (List (Int×Bool))):qyh (l.map jeb) (l.map jeb)=true:=qji (fun x=>by simp[qji (row:=z2i)]) l
structure Lie(c:Ct)(t:Ste):Prop where
 rdy:Rdy c t
 still:∃a,qce c t=some (t,a)
theorem q5i{c:Ct}{s:Ste}(h:Rdy c s)(he:(qhd c s).2.2=0):Lie c (qhd c s).1/\(qhd c s).1.inputs=s.inputs:=by
 unfold qhd at he ⊢
 cases hZ:qif c s with
 | none=>rw[hZ]at he;simp at he
 | some x =>
  obtain⟨t,m⟩:=x
  exact⟨⟨⟨h.few,qph h.st hZ⟩,q7q hZ⟩,q5j hZ⟩
theorem Lie.rest{c:Ct}{t:Ste}(h:Lie c t):(qqz c t).1=t/\(qqz c t).2.2=0:=by
 obtain⟨a,ha⟩:=h.still
 unfold qqz qhd
 rw[if_pos h.rdy.st,zdo ha]
 exact⟨rfl,rfl⟩
def h6(c:Ct)(s t:Ste):H:=[⟨0,.box c.cells⟩,⟨0,.box s.cells⟩,o0,o0,o0,o0,o0,⟨0,.box t.cells⟩,o0,o0,o0,o0,o0,⟨0,.box t.cells⟩,⟨0,.arr 1 ((qae t).map qfa)⟩]
theorem Lie.quE{c:Ct}{t:Ste}(h:Lie c t):quE c t=0:=by
 obtain⟨a,ha⟩:=h.still
 unfold Proofs.YtbepbclaoohngaaGreat.quE qrh
 rw[if_pos h.rdy.st,ha]
 simp[qzy]
theorem Lie.run{c:Ct}{t:Ste}(h:Lie c t){l:List Evn}(hl:l.length<=4096):jfc c t l=zvs c l 0 ⟨t,[],[]⟩:=by
 unfold jfc
 rw[if_pos h.quE,if_neg (by omega)]
abbrev h38(a b:Ste)(l:List Int):H:=[⟨0,.box a.cells⟩,⟨0,.box b.cells⟩,⟨0,.arr 1 (l.map qbj)⟩,o0]
set_option maxHeartbeats 4000000
structure Pins(d:Ct)(k:Int)(i:Nat):Prop where
 p0:k=0\/k=5->qyg d (qam d d.act.toNat) d.plus i 0
 m0:k=1\/k=4->qyg d (qam d d.act.toNat) d.minus i 0
 p1:k=4->qyg d (qam d d.act.toNat) d.plus i 1
def q1j(k:Int)(i:Nat)(s:Ste):Prop:=if k=0\/k=5 then qsz s i else qos s i
structure HoldI(d:Ct)(k:Int)(i:Nat)(s:Ste):Prop where
 lie:Lie d s
 keep:q1j k i s
theorem qvz{d:Ct}{k:Int}{i:Nat}(hP:Pins d k i)(hk:k=0\/k=1\/k=4\/k=5)(hsm:d.small=true)(s t:Ste)(a:List Int)(hs:stE d s=0)(h:qce d s=some (t,a))(hq:q1j k i s):q1j k i t:=by
 unfold q1j at hq ⊢
 by_cases h0:k=0\/k=5
 .rw[if_pos h0]at hq ⊢
  exact q4f hsm hs h (hP.p0 h0) hq
 .rw[if_neg h0]at hq ⊢
  exact q1k hsm hs h (hP.m0 (by omega)) hq
theorem zcp{k:Int}{i:Nat}(s:Ste)(x:Evn)(hm:qpc s x=true)(hq:q1j k i s):q1j k i (qen s x):=by
 unfold q1j at hq ⊢
 split
 .rename_i h0
  rw[if_pos h0]at hq
  exact q7e hm hq
 .rename_i h0
  rw[if_neg h0]at hq
  exact q4g hm hq
theorem HoldI.step{d:Ct}{k:Int}{i:Nat}(hP:Pins d k i)(hk:k=0\/k=1\/k=4\/k=5){s:Ste}(h:HoldI d k i s){x:Evn}(he:(qlg d s x).2.2=0):HoldI d k i (qlg d s x).1:=by
 have hsm:=h.lie.rdy.few
 unfold qlg at he ⊢
 rw[if_pos h.lie.quE]at he ⊢
 refine⟨?_,zcq (qvz hP hk hsm) zcp h.lie.rdy.st h.keep he⟩
 unfold qdy at he ⊢
 split at he
 .cases he
 .rename_i h1
  rw[if_neg h1]
  split at he
  .rename_i h2
   rw[if_pos h2]
   exact(q5i ⟨hsm,qgy h.lie.rdy.st h1 h2⟩ he).1
  .cases he
theorem HoldI.first{d:Ct}{k:Int}{i:Nat}(hP:Pins d k i)(hk:k=0\/k=1\/k=4\/k=5)(hsm:d.small=true)(hc:d.check=0)(hi:i<d.act.toNat)(he:(qde d).2.2=0):HoldI d k i (qde d).1:=by
 unfold qde at he ⊢
 rw[if_pos hc]at he ⊢
 refine⟨(q5i ⟨hsm,qhm hc⟩ he).1,?_⟩
 have h0:q1j k i (qgs d):=by
  unfold q1j
  split
  .exact qyo hi
  .exact zco (qyo hi)
 unfold qhd at he ⊢
 cases e:qif d (qgs d)with
 | none=>rw[e]at he;cases he
 | some y =>
  simp only
  exact qwa (qvz hP hk hsm) (qhm hc) (show qft d 65 (qgs d) []=some (y.1,y.2)from e) h0
end Go.Proofs.YtbepbclaoohngaaGreat
