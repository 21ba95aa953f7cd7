/- Pairs of. -/
import Derived.Test.YtggbaapfbgjaeaaGreatDoorFBg1
import Derived.Test.YtggbaapfbgjaeaaGreatDoorFQu3
import Derived.Test.YtggbaapfbgjaeaaGreatDoorFAf1
import Derived.Test.YtggbaapfbgjaeaaGreatDoorFRn1
import Derived.Test.YtggbaapfbgjaeaaGreatDoorFSa1
import Derived.Test.YtggbaapfbgjaeaaGreatDoorFFy5
import Derived.Test.YtggbaapfbgjaeaaGreatDoorFSv1
import Derived.Test.YtggbaapfbgjaeaaGreatDoorFZ7
set_option linter.all false
namespace Go.Proofs.YtggbaapfbgjaeaaGreatDoor
open Go Go.Am Go.Proofs
set_option maxRecDepth 100000
set_option maxHeartbeats 4000000
abbrev mcs(c:Ct)(s:Ste)(w:V)(r:Bool):List V:=c.cells++s.cells++[w,.bool r]
theorem qof{m:H}(hc:calm m){o:Ob}(ho:qbx m.length o=o)(k:Nat):calm (m.set k o):=by
 rw[qod]at hc ⊢;intro x hx;rw[jU];rcases jT hx with hx | rfl
 .exact hc x hx
 .exact ho
theorem qoe{h:H}(hc:calm h){m gm:Nat}{c:Ct}{s:Ste}{w:V}{r:Bool}(hw:w.low h.length=true):calm (h.set m ⟨gm,.box (mcs c s w r)⟩):=by refine qof hc ?_ m;simp[qbx,qbf,hw,V.low]
theorem ev86{h:H}(hc:calm h){m w gm g n:Nat}{c:Ct}{s t:Ste}{l:List (Int×Bool)}(hm:h[m]?=some ⟨gm,.box (mcs c s (.sl w g n 0 l.length) false)⟩)(hw:h[w]?=some ⟨g,.arr n (l.map qfb)⟩)(hn:n=2\/n=0)(hs:s.small)(ht:t.small)(hl:l.length<=100000)(he:zcm s t=0) :
  ev pg (.call (fnq 86) [.bptr m 0,t.v] h)=some { v:=.tup [],st:=⟨[],(h.set w ⟨g+1,.arr 2 ((l++qlf s t).map qfb)⟩).set m ⟨gm,.box (mcs c t (.sl w (g+1) 2 0 (l++qlf s t).length) false)⟩⟩ }:=by
 obtain⟨hml,hm'⟩:=jG.1 hm;obtain⟨hwl,hw'⟩:=jG.1 hw;have hne:w≠m:=by rintro rfl;rw[hm]at hw;simp at hw
 have e1:=ev133 s t hs ht;rw[he]at e1;have hb:(qlf s t).length<=4096:=by unfold qlf;rw[if_pos he,qmx];exact Nat.le_trans (qhb _ _ _) hs.e
 generalize qlf s t=B at *;have hcut:∀r:H,qde h.length ((h.set w ⟨g+1,.arr 2 (l.map qfb++B.map qfb)⟩).set m ⟨gm,.box (mcs c t (.sl w (g+1) 2 0 (l.length+B.length)) false)⟩++r)=(h.set w ⟨g+1,.arr 2 (l.map qfb++B.map qfb)⟩).set m ⟨gm,.box (mcs c t (.sl w (g+1) 2 0 (l.length+B.length)) false)⟩:=by intro r;have h1:=qof hc (o:=⟨g+1,.arr 2 (l.map qfb++B.map qfb)⟩) rfl w;have h2:=qoe (m:=m) (gm:=gm) (c:=c) (s:=t) (w:=.sl w (g+1) 2 0 (l.length+B.length)) (r:=false) h1 (by simpa[V.low]using hwl);have h3:=qef h2 r;simp only[jU]at h3;exact h3
 have hfit:(l.length+B.length)*16<=140737488355328:=by omega
 rw[qaa,pg86.1];simp[-qde,ir86,e1,hn,hfit,hml,hwl,hm',hw',hne,hne.symm,jI,List.set_append_left,qab,exT,qag];exact hcut _
theorem zgf{h r:H}{m gm:Nat}{cells:List V}(hm:m<h.length)(hlo:qeq h.length cells=false):qde h.length (h.set m ⟨gm,.box cells⟩++r)=h.set m ⟨gm,.box cells⟩++r:=by unfold qde;rw[if_neg];intro e;unfold quy at e;rw[List.take_append_of_le_length (by simp),kB (by simp),jP]at e;have:=e ⟨gm,.box cells⟩ (jR (jN hm));simp only[hlo]at this;cases this
theorem ev86n{h:H}{m gm:Nat}{c:Ct}{s t:Ste}(hm:h[m]?=some ⟨gm,.box (mcs c s .nilx false)⟩)(hs:s.small)(ht:t.small)(he:zcm s t=0) :
  ev pg (.call (fnq 86) [.bptr m 0,t.v] h)=some { v:=.tup [],st:=⟨[],h.set m ⟨gm,.box (mcs c t (.sl (h.length+1) 0 2 0 (qlf s t).length) false)⟩++[⟨0,.box t.cells⟩,⟨0,.arr 2 ((qlf s t).map qfb)⟩]⟩ }:=by
 obtain⟨hml,hm'⟩:=jG.1 hm;have e1:=ev133 s t hs ht;rw[he]at e1;have hb:(qlf s t).length<=4096:=by unfold qlf;rw[if_pos he,qmx];exact Nat.le_trans (qhb _ _ _) hs.e
 generalize qlf s t=B at *;have hcut:=zgf (h:=h) (gm:=gm) (cells:=mcs c t (.sl (h.length+1) 0 2 0 B.length) false) (r:=[⟨0,.box t.cells⟩,⟨0,.arr 2 (B.map qfb)⟩]) hml (by simp[qeq,V.low]);have hfit:B.length*16<=140737488355328:=by omega
 rw[qaa,pg86.1];simp[-qde,ir86,e1,hfit,hml,hm',jI,List.set_append_left,qab,exT,qag];exact hcut
theorem ev88e{h:H}(hc:calm h){m gm:Nat}{c:Ct}{s:Ste}{w:V}(hw:w.low h.length=true)(hm:h[m]?=some ⟨gm,.box (mcs c s w false)⟩)(hfew:c.small=true)(hs:s.small)(x:Evn)(hx:(qcx c s x).2.2≠0) :
  ev pg (.call (fnq 88) [.bptr m 0,x.v] h)=some { v:=.tup [],st:=⟨[],h.set m ⟨gm,.box (mcs c s w true)⟩⟩ }:=by
 obtain⟨hml,hm'⟩:=jG.1 hm;have e1:=ev135 c s hfew hs x;unfold zec at e1;have hxb:((qcx c s x).2.2==0)=false:=by simpa using hx
 generalize qcx c s x=y at *;obtain⟨t,l,e⟩:=y;simp only at hx hxb;have hcut:∀r:H,qde h.length (h.set m ⟨gm,.box (mcs c s w true)⟩++r)=h.set m ⟨gm,.box (mcs c s w true)⟩:=by intro r;have h2:=qoe (m:=m) (gm:=gm) (c:=c) (s:=s) (w:=w) (r:=true) hc hw;have h3:=qef h2 r;simp only[jU]at h3;exact h3
 rw[qaa,pg88.1];simp[-qde,ir88,e1,hx,hxb,hml,hm',jI,List.set_append_left,qay,exT,qag];exact hcut _
abbrev d88(x:Evn)(t:Ste):H:=[⟨0,.box x.row⟩,⟨0,.arr 0 []⟩,⟨0,.arr 0 []⟩,⟨0,.arr 0 []⟩,⟨0,.arr 0 []⟩,⟨0,.arr 0 []⟩,⟨0,.box t.cells⟩]
theorem zme{h:H}(hc:calm h)(x:Evn)(t:Ste):calm (h++d88 x t):=by refine qga hc ?_;intro o ho;simp only[List.mem_cons,List.not_mem_nil,or_false]at ho;rcases ho with rfl | rfl | rfl | rfl | rfl | rfl | rfl<;>simp
theorem ev88{h:H}(hc:calm h){m w gm g n:Nat}{c:Ct}{s:Ste}{l:List (Int×Bool)}(hm:h[m]?=some ⟨gm,.box (mcs c s (.sl w g n 0 l.length) false)⟩)(hw:h[w]?=some ⟨g,.arr n (l.map qfb)⟩)(hn:n=2\/n=0)(hfew:c.small=true)(hs:s.small)(x:Evn)(hl:l.length<=100000)(hx:(qcx c s x).2.2=0)(ht:(qcx c s x).1.small)(he:zcm s (qcx c s x).1=0) :
  ev pg (.call (fnq 88) [.bptr m 0,x.v] h)=some { v:=.tup [],st:=⟨[],(h.set w ⟨g+1,.arr 2 ((l++qlf s (qcx c s x).1).map qfb)⟩).set m ⟨gm,.box (mcs c (qcx c s x).1 (.sl w (g+1) 2 0 (l++qlf s (qcx c s x).1).length) false)⟩⟩ }:=by
 obtain⟨hml,hm'⟩:=jG.1 hm;obtain⟨hwl,hw'⟩:=jG.1 hw;have e1:=ev135 c s hfew hs x;unfold zec at e1;rw[hx]at e1;generalize qcx c s x=y at *;obtain⟨t,j,e⟩:=y;simp only at e1 ht he hx ⊢;have e2:=ev86 (zme hc x t) (m:=m) (w:=w) (by rw[jI hml,hm]) (by rw[jI hwl,hw]) hn hs ht hl he;rw[List.set_append_left _ _ hwl,List.set_append_left _ _ (by simpa using hml)]at e2;generalize qlf s t=B at *;have hcut:∀r:H,qde h.length ((h.set w ⟨g+1,.arr 2 ((l++B).map qfb)⟩).set m ⟨gm,.box (mcs c t (.sl w (g+1) 2 0 (l++B).length) false)⟩++r)=(h.set w ⟨g+1,.arr 2 ((l++B).map qfb)⟩).set m ⟨gm,.box (mcs c t (.sl w (g+1) 2 0 (l++B).length) false)⟩:=by intro r;have h1:=qof hc (o:=⟨g+1,.arr 2 ((l++B).map qfb)⟩) rfl w;have h2:=qoe (m:=m) (gm:=gm) (c:=c) (s:=t) (w:=.sl w (g+1) 2 0 (l++B).length) (r:=false) h1 (by simpa[V.low]using hwl);have h3:=qef h2 r;simp only[jU]at h3;exact h3
 generalize hM:(h.set w ⟨g+1,.arr 2 ((l++B).map qfb)⟩).set m ⟨gm,.box (mcs c t (.sl w (g+1) 2 0 (l++B).length) false)⟩=M at *;rw[qaa,pg88.1];simp[-qde,ir88,e1,e2,hcut,hml,hm',jI,qay,exT,qag]
theorem ev88n{h:H}(hc:calm h){m gm:Nat}{c:Ct}{s:Ste}(hm:h[m]?=some ⟨gm,.box (mcs c s .nilx false)⟩)(hfew:c.small=true)(hs:s.small)(x:Evn)(hx:(qcx c s x).2.2=0)(ht:(qcx c s x).1.small)(he:zcm s (qcx c s x).1=0) :
  ev pg (.call (fnq 88) [.bptr m 0,x.v] h)=some { v:=.tup [],st:=⟨[],h.set m ⟨gm,.box (mcs c (qcx c s x).1 (.sl (h.length+8) 0 2 0 (qlf s (qcx c s x).1).length) false)⟩++(d88 x (qcx c s x).1++[⟨0,.box (qcx c s x).1.cells⟩,⟨0,.arr 2 ((qlf s (qcx c s x).1).map qfb)⟩])⟩ }:=by
 obtain⟨hml,hm'⟩:=jG.1 hm;have e1:=ev135 c s hfew hs x;unfold zec at e1;rw[hx]at e1;generalize qcx c s x=y at *;obtain⟨t,j,e⟩:=y;simp only at e1 ht he hx ⊢;have e2:=ev86n (h:=h++d88 x t) (m:=m) (by rw[jI hml,hm]) hs ht he;rw[List.set_append_left _ _ hml,List.append_assoc,show(h++d88 x t).length+1=h.length+8 by simp]at e2;generalize qlf s t=B at *;have hcut:=zgf (h:=h) (gm:=gm) (cells:=mcs c t (.sl (h.length+8) 0 2 0 B.length) false) (r:=d88 x t++[⟨0,.box t.cells⟩,⟨0,.arr 2 (B.map qfb)⟩]) hml (by simp[qeq,V.low]);generalize hM:h.set m ⟨gm,.box (mcs c t (.sl (h.length+8) 0 2 0 B.length) false)⟩++(d88 x t++[⟨0,.box t.cells⟩,⟨0,.arr 2 (B.map qfb)⟩])=M at *;rw[qaa,pg88.1];simp[-qde,ir88,e1,e2,hcut,hml,hm',jI,qay,exT,qag]
def qzi(d:Ct)(F:Nat)(p:List Int)(i:Nat)(v:Int):Prop:=∃(g:Nat) (x:Sg),d.signals[g]?=some x/\x.kind=0/\x.on=.mk 0 v []/\p[i]?=some ((F+g:Nat):Int)
theorem qur{c:Ct}{N:Nat}:∀{d:Nat} {s:Ste} {l:List Int} {t:Ste} {m:List Int},qcy c N d s l=some (t,m)->qgo c t=t
 | 0,_,_,_,_,h=>by cases h
 | d+1,s,l,t,m,h=>by
  rw[qcy]at h;split at h
  .rename_i hs;cases h;exact qhv.1 hs
  .exact qur h
theorem q8u{c:Ct}{s t:Ste}{m:List Int}(h:qby c s=some (t,m)):qgo c t=t:=qur h
theorem q7n{d:Ct}(hsm:d.small=true){s:Ste}(hs:stE d s=0){g:Nat}{x:Sg}{v:Int}(hg:d.signals[g]?=some x)(hk:x.kind=0)(ho:x.on=.mk 0 v []):(qdp d s).values[g]?=some (v==1):=by
 obtain⟨hc,hS⟩:=qih hs;have hgl:g<d.signals.length:=by
  rcases Nat.lt_or_ge g d.signals.length with h | h
  .exact h
  .rw[jY h]at hg;cases hg
 have hF:=q6r hS;have hf:=zhu (L:=qae s) (F:=qao s) (by rw[hF];exact zdc hc hsm) hg hk (by rw[qyq hS,hF];unfold qal qad;omega);unfold qdp;simp only;rw[List.getElem?_drop,qwv,hf,ho,qom];simp[Ex.op,Ex.idx]
theorem zeb{d:Ct}{s:Ste}(hS:Shp d s){g:Nat}{x:Sg}(hg:d.signals[g]?=some x)(hk:x.kind=0){b:Bool}(hv:s.values[g]?=some b):(qxn d s).values[g]?=some b:=by
 have hgl:g<d.signals.length:=by
  rcases Nat.lt_or_ge g d.signals.length with h | h
  .exact h
  .rw[jY h]at hg;cases hg
 have ht:g<s.timers.length:=by rw[hS.t];exact hgl
 unfold qxn;simp only;rw[List.getElem?_map,qnx (qae s) hg hv (jA ht)];simp[qma,hk]
theorem q8i{s:Ste}{g:Nat}:(qae s)[qao s+g]?=s.values[g]?:=by have:=qlm s;rw[<-this,List.getElem?_drop]
theorem qzl{d:Ct}(hsm:d.small=true){s t:Ste}{m:List Int}(hs:stE d s=0)(h:qby d s=some (t,m)){p:List Int}{i:Nat}{v:Int}(hp:qzi d (qal d d.act.toNat) p i v):qbp (qae t) p i=(v==1):=by obtain⟨g,x,hg,hk,ho,hpi⟩:=hp;have ht:=qly hs h;obtain⟨hc,hS⟩:=qih ht;have hfix:=q8u h;have h1:=q7n hsm ht hg hk ho;have hS':Shp d (qdp d t):=(qih (qli ht)).2;have h2:=zeb hS' hg hk h1;have h3:(qgo d t).values[g]?=some (v==1):=h2;rw[hfix]at h3;unfold qbp;rw[hpi];simp only[Option.map_some,Option.getD_some,Int.toNat_natCast];rw[<-q6r hS,q8i,h3];rfl
def qty(s:Ste)(i:Nat):Prop:=s.valves[i]?=some false/\s.ends[i]?=some 0
def qpr(s:Ste)(i:Nat):Prop:=(s.valves[i]?=some false/\s.ends[i]?=some 0)\/(s.valves[i]?=some true/\(s.ends[i]?=some 0\/s.ends[i]?=some 1\/s.ends[i]?=some 2))
theorem q3n{d:Ct}{s:Ste}{i:Nat}{b:Bool}(h:s.valves[i]?=some b):(qgq d s).valves[i]?=some (qjg d (qae s) i b):=by unfold qgq;simp only;rw[List.getElem?_mapIdx,h];rfl
theorem qre{s:Ste}{i:Nat}{b:Bool}{e:Int}(h:s.valves[i]?=some b)(h2:s.ends[i]?=some e):(qkf s).ends[i]?=some (qkr b e):=by unfold qkf;simp only;rw[List.getElem?_zipWith,h,h2]
theorem q5h{d:Ct}(hsm:d.small=true){s t:Ste}{a:List Int}(hs:stE d s=0)(h:qcf d s=some (t,a)){i:Nat}(hp:qzi d (qal d d.act.toNat) d.plus i 0)(hk:qty s i):qty t i:=by
 obtain⟨u,m,hu,rfl,_⟩:=qjx h;obtain⟨e1,e2,_⟩:=qnr hu;have hl:=qzl hsm hs hu hp;obtain⟨k1,k2⟩:=hk;rw[<-e2]at k1;rw[<-e1]at k2;have v1:=q3n (d:=d) k1;have hv:qjg d (qae u) i false=false:=by unfold qjg;rw[hl];split<;>rfl
 rw[hv]at v1;have g1:=qre (s:=qgq d u) v1 k2;exact⟨v1,g1⟩
theorem q2n{d:Ct}(hsm:d.small=true){s t:Ste}{a:List Int}(hs:stE d s=0)(h:qcf d s=some (t,a)){i:Nat}(hp:qzi d (qal d d.act.toNat) d.minus i 0)(hk:qpr s i):qpr t i:=by
 obtain⟨u,m,hu,rfl,_⟩:=qjx h;obtain⟨e1,e2,_⟩:=qnr hu;have hl:=qzl hsm hs hu hp;have hl0:qbp (qae u) d.minus i=false:=hl;have hval:∀b,qjg d (qae u) i b=true\/(b=false/\qjg d (qae u) i b=false):=by intro b;unfold qjg;rw[hl0];cases hb:qbp (qae u) d.plus i<;>cases b<;>simp
 rcases hk with⟨k1,k2⟩ | ⟨k1,k2⟩
 .rw[<-e2]at k1;rw[<-e1]at k2;have v1:=q3n (d:=d) k1;have g1:=qre (s:=qgq d u) v1 k2;rcases hval false with hb | ⟨_,hb⟩
  .rw[hb]at v1 g1;exact .inr ⟨v1,.inr (.inl g1)⟩
  .rw[hb]at v1 g1;exact .inl ⟨v1,g1⟩
 .rw[<-e2]at k1;rw[<-e1]at k2;have v1:=q3n (d:=d) k1;have hb:qjg d (qae u) i true=true:=by
   rcases hval true with hb | ⟨h,_⟩
   .exact hb
   .cases h
  rw[hb]at v1;rcases k2 with k2 | k2 | k2
  .exact .inr ⟨v1,.inr (.inl (qre (s:=qgq d u) v1 k2))⟩
  .exact .inr ⟨v1,.inr (.inl (qre (s:=qgq d u) v1 k2))⟩
  .exact .inr ⟨v1,.inr (.inr (qre (s:=qgq d u) v1 k2))⟩
theorem qxd{d:Ct}{K:Ste->Prop}(hK:∀s t a,stE d s=0->qcf d s=some (t,a)->K s->K t):∀{n:Nat} {s:Ste} {l:List Int} {t:Ste} {m:List Int},stE d s=0->qgx d n s l=some (t,m)->K s->K t
 | 0,_,_,_,_,_,h,_=>by cases h
 | n+1,s,l,t,m,hs,h,hk=>by
  rw[qgx]at h;cases e:qcf d s with
  | none=>rw[e]at h;cases h
  | some x =>
   rw[e]at h;simp only at h;split at h
   .cases h;exact hk
   .have e':qcf d s=some (x.1,x.2):=e;exact qxd hK (qnj hs e') h (hK _ _ _ hs e' hk)
theorem q8g{s:Ste}{x:Evn}{i:Nat}(hm:qpz s x=true)(hk:qty s i):qty (qek s x) i:=by
 unfold qek;unfold qpz at hm;split at hm
 .cases hm
 .split
  .rename_i h0;refine⟨hk.1,?_⟩;rw[if_neg (by omega),h0]at hm;obtain⟨hi,he⟩:=qvq hm;have hne:x.idx.toNat≠i:=by
    intro e;have:=hk.2;rw[<-e,jA hi,jC]at this;omega
   simp only;rw[jO hne];exact hk.2
  .split
   .exact hk
   .exact hk
theorem q5i{s:Ste}{x:Evn}{i:Nat}(hm:qpz s x=true)(hk:qpr s i):qpr (qek s x) i:=by
 unfold qek;unfold qpz at hm;split at hm
 .cases hm
 .split
  .rename_i h0;rw[if_neg (by omega),h0]at hm;obtain⟨hi,he⟩:=qvq hm;by_cases hne:x.idx.toNat=i
   .subst hne;have hg:=jA hi;rcases hk with⟨_,k2⟩ | ⟨k1,k2⟩
    .rw[hg,jC]at k2;omega
    .have h1:s.ends[x.idx.toNat]?=some 1:=by
      rw[hg]at k2 ⊢;rw[jC]at k2 ⊢;rw[jC,jC]at k2;omega
     refine .inr ⟨k1,.inr (.inr ?_)⟩;simp only;rw[jN hi,if_pos h1]
   .unfold qpr;simp only;rw[jO hne];exact hk
  .split
   .exact hk
   .exact hk
theorem zdq{d:Ct}{K:Ste->Prop}(hK:∀s t a,stE d s=0->qcf d s=some (t,a)->K s->K t)(hH:∀s x,qpz s x=true->K s->K (qek s x)){s:Ste}{x:Evn}(hs:stE d s=0)(hk:K s)(h:(qee d s x).2.2=0):K (qee d s x).1:=by
 unfold qee at h ⊢;split at h
 .cases h
 .rename_i h1;rw[if_neg h1];split at h
  .rename_i h2;rw[if_pos h2];unfold qjn at h ⊢;cases e:qiy d (qek s x)with
   | none=>rw[e]at h;cases h
   | some y =>simp only;exact qxd hK (qgh hs h1 h2) (show qgx d 65 (qek s x) []=some (y.1,y.2)from e) (hH s x h2 hk)
  .cases h
theorem qzr{c:Ct}{i:Nat}(hi:i<c.act.toNat):qty (qeh c) i:=by unfold qty qeh qdp qhq;simp only;rw[List.getElem?_replicate,if_pos hi,List.getElem?_replicate,if_pos hi];exact⟨rfl,rfl⟩
theorem zdo{s:Ste}{i:Nat}(h:qty s i):qpr s i:=.inl h
structure Lie(c:Ct)(t:Ste):Prop where
 rdy:Rdy c t
 still:∃a,qcf c t=some (t,a)
theorem qyd{c:Ct}{s:Ste}(h:Rdy c s)(he:(qjn c s).2.2=0):Lie c (qjn c s).1/\(qjn c s).1.inputs=s.inputs:=by
 unfold qjn at he ⊢;cases hZ:qiy c s with
 | none=>rw[hZ]at he;simp at he
 | some x =>obtain⟨t,m⟩:=x;exact⟨⟨⟨h.few,qqd h.st hZ⟩,qqe hZ⟩,q6j hZ⟩
theorem Lie.rest{c:Ct}{t:Ste}(h:Lie c t):(quz c t).1=t/\(quz c t).2.2=0:=by obtain⟨a,ha⟩:=h.still;unfold quz qjn;rw[if_pos h.rdy.st,zem ha];exact⟨rfl,rfl⟩
def h6(c:Ct)(s t:Ste):H:=[⟨0,.box c.cells⟩,⟨0,.box s.cells⟩,o0,o0,o0,o0,o0,⟨0,.box t.cells⟩,o0,o0,o0,o0,o0,⟨0,.box t.cells⟩,⟨0,.arr 1 ((qae t).map qfj)⟩]
theorem Lie.quE{c:Ct}{t:Ste}(h:Lie c t):quE c t=0:=by obtain⟨a,ha⟩:=h.still;unfold Proofs.YtggbaapfbgjaeaaGreatDoor.quE q6t;rw[if_pos h.rdy.st,ha];simp[q0x]
theorem Lie.run{c:Ct}{t:Ste}(h:Lie c t){l:List Evn}(hl:l.length<=4096):z5s c t l=qva c l 0 ⟨t,[],[]⟩:=by unfold z5s;rw[if_pos h.quE,if_neg (by omega)]
theorem Lie.next{c:Ct}{t:Ste}(h:Lie c t){l:List Evn}(he:(qva c l 0 ⟨t,[],[]⟩).2.2=0):Lie c (qva c l 0 ⟨t,[],[]⟩).1.st :=
 ⟨⟨h.rdy.few,qyg h.rdy.st he⟩,qyh h.still he⟩
theorem qtt{c:Ct}(hs:c.small=true)(hc:c.check=0)(he:(qbz c).2.2=0):Lie c (qbz c).1:=by
 rw[zkk c hc]at he ⊢;unfold quz qjn at *;rw[if_pos (qdi hc)]at *;cases hZ:qiy c (qeh c)with
 | none=>rw[hZ]at he;simp at he
 | some x =>obtain⟨t,m⟩:=x;exact⟨⟨hs,qqd (qdi hc) hZ⟩,qqe hZ⟩
structure Pins(d:Ct)(k:Int)(i:Nat):Prop where
 p0:k=0\/k=5->qzi d (qal d d.act.toNat) d.plus i 0
 m0:k=1\/k=4->qzi d (qal d d.act.toNat) d.minus i 0
 p1:k=4->qzi d (qal d d.act.toNat) d.plus i 1
def q2m(k:Int)(i:Nat)(s:Ste):Prop:=if k=0\/k=5 then qty s i else qpr s i
structure HoldI(d:Ct)(k:Int)(i:Nat)(s:Ste):Prop where
 lie:Lie d s
 keep:q2m k i s
theorem qxc{d:Ct}{k:Int}{i:Nat}(hP:Pins d k i)(hk:k=0\/k=1\/k=4\/k=5)(hsm:d.small=true)(s t:Ste)(a:List Int)(hs:stE d s=0)(h:qcf d s=some (t,a))(hq:q2m k i s):q2m k i t:=by
 unfold q2m at hq ⊢;by_cases h0:k=0\/k=5
 .rw[if_pos h0]at hq ⊢;exact q5h hsm hs h (hP.p0 h0) hq
 .rw[if_neg h0]at hq ⊢;exact q2n hsm hs h (hP.m0 (by omega)) hq
theorem zdp{k:Int}{i:Nat}(s:Ste)(x:Evn)(hm:qpz s x=true)(hq:q2m k i s):q2m k i (qek s x):=by
 unfold q2m at hq ⊢;split
 .rename_i h0;rw[if_pos h0]at hq;exact q8g hm hq
 .rename_i h0;rw[if_neg h0]at hq;exact q5i hm hq
theorem HoldI.step{d:Ct}{k:Int}{i:Nat}(hP:Pins d k i)(hk:k=0\/k=1\/k=4\/k=5){s:Ste}(h:HoldI d k i s){x:Evn}(he:(qcx d s x).2.2=0):HoldI d k i (qcx d s x).1:=by
 have hsm:=h.lie.rdy.few;unfold qcx at he ⊢;rw[if_pos h.lie.quE]at he ⊢;refine⟨?_,zdq (qxc hP hk hsm) zdp h.lie.rdy.st h.keep he⟩;unfold qee at he ⊢;split at he
 .cases he
 .rename_i h1;rw[if_neg h1];split at he
  .rename_i h2;rw[if_pos h2];exact(qyd ⟨hsm,qgh h.lie.rdy.st h1 h2⟩ he).1
  .cases he
theorem HoldI.first{d:Ct}{k:Int}{i:Nat}(hP:Pins d k i)(hk:k=0\/k=1\/k=4\/k=5)(hsm:d.small=true)(hc:d.check=0)(hi:i<d.act.toNat)(he:(qbz d).2.2=0):HoldI d k i (qbz d).1:=by
 unfold qbz at he ⊢;rw[if_pos hc]at he ⊢;refine⟨(qyd ⟨hsm,qdi hc⟩ he).1,?_⟩;have h0:q2m k i (qeh d):=by
  unfold q2m;split
  .exact qzr hi
  .exact zdo (qzr hi)
 unfold qjn at he ⊢;cases e:qiy d (qeh d)with
 | none=>rw[e]at he;cases he
 | some y =>simp only;exact qxd (qxc hP hk hsm) (qdi hc) (show qgx d 65 (qeh d) []=some (y.1,y.2)from e) h0
end Go.Proofs.YtggbaapfbgjaeaaGreatDoor
namespace Go.Am
mutual
@[simp] theorem zlz:∀v:V,v.beq v=true
 | .undef | .ub | .nils | .nilx | .nilfn | .nilp=>rfl
 | .bool _=>by simp[V.beq]
 | .int k n=>by simp[V.beq]
 | .str _=>by simp[V.beq]
 | .imm a=>by simp only[V.beq];exact qvy a
 | .immc a=>by simp only[V.beq];exact qvy a
 | .iptr a=>by simp only[V.beq];exact qho a
 | .bptr _ _=>by simp[V.beq]
 | .ptr _ _ _ _=>by simp[V.beq]
 | .bsl _ _ _ _=>by simp[V.beq]
 | .sl _ _ _ _ _=>by simp[V.beq]
 | .agg a=>by simp only[V.beq];exact qho a
 | .tup a=>by simp only[V.beq];exact qho a
 | .fn f a b=>by simp only[V.beq,qho a,qho b];simp
 | .map _=>by simp[V.beq]
 | .sit _=>by simp[V.beq]
 | .yld _=>by simp[V.beq]
 | .view p a=>by simp only[V.beq,qho a];simp
@[simp] theorem qho:∀l:List V,qzj l l=true
 | []=>rfl
 | v :: l=>by simp only[qzj,zlz v,qho l];rfl
@[simp] theorem qvy:∀l:List (List V),qyw l l=true
 | []=>rfl
 | v :: l=>by simp only[qyw,qho v,qvy l];rfl
end
def zez(x:X)(T:Tm)(r:R):Prop:=∃f H,Junk f/\r={ x:=x,st:=⟨fill f 0 T,H⟩ }
@[simp] theorem qwj{x x':X}{T:Tm}{st:St}:zez x T { x:=x',v:=.undef,st:=st }<->x'=x/\qft T st.s:=by
 constructor
 .rintro⟨f,H,hf,e⟩;have:=(qbo (x:=x) (x':=x') (T:=T) (h:=H) (st:=st)).1 ⟨f,hf,e⟩;exact⟨this.1,this.2.s⟩
 .rintro⟨rfl,h⟩;obtain⟨f,hf,e⟩:=qra 0 h;exact⟨f,st.h,hf,by rw[<-e]⟩
theorem q0b{P:Prg}{nx:Nat}{ks:List Nat}{c:C}(I:Nat->St->Prop)(N:Nat)(Q:R->Prop)
  (step:∀k st,k<N->I k st->∃r,ev P (.code c st)=some r/\((r.x=.normal/\I (k+1) (qjh nx ks r.st))\/(r.x ≠ .normal/\Q r)))
  (last:∀st,I N st->∃r,ev P (.code c st)=some r/\r.x ≠ .normal/\Q r):∀(d k:Nat) (st:St),k+d=N->I k st->∃r,ev P (.code (.goingF nx ks c) st)=some r/\Q r
 | 0,k,st,hk,hI=>by
  have:k=N:=by omega
  subst this;obtain⟨r,h1,h2,h3⟩:=last st hI;refine⟨r,?_,h3⟩;rw[qwl,h1];cases hx:r.x with
  | normal=>exact absurd hx h2
  | exit id=>simp only[hx]
  | ret=>simp only[hx]
 | d+1,k,st,hk,hI=>by
  obtain⟨r,h1,h2⟩:=step k st (by omega) hI;rcases h2 with⟨h2,h3⟩ | ⟨h2,h3⟩
  .obtain⟨r',h4,h5⟩:=q0b I N Q step last d (k+1) (qjh nx ks r.st) (by omega) h3;refine⟨r',?_,h5⟩;rw[qwl,h1];simp only[h2];exact h4
  .refine⟨r,?_,h3⟩;rw[qwl,h1];cases hx:r.x with
   | normal=>exact absurd hx h2
   | exit id=>simp only[hx]
   | ret=>simp only[hx]
theorem qrj{P:Prg}{nx:Nat}{ks:List Nat}{c:C}{α:Type}(N:Nat)(T:Nat->α->Tm)(Hp:Nat->α->H)(G:Nat->α->Prop)(Q:R->Prop)
  (step:∀k a f,Junk f->k<N->G k a->∃r,ev P (.code c ⟨fill f 0 (T k a),Hp k a⟩)=some r/\((r.x=.normal/\∃a',G (k+1) a'/\At (T (k+1) a') (Hp (k+1) a') (qjh nx ks r.st))\/(r.x ≠ .normal/\Q r)))
  (last:∀a f,Junk f->G N a->∃r,ev P (.code c ⟨fill f 0 (T N a),Hp N a⟩)=some r/\r.x ≠ .normal/\Q r)
  {st:St} (a0:α) (g0:G 0 a0) (h0:At (T 0 a0) (Hp 0 a0) st):∃r,ev P (.code (.goingF nx ks c) st)=some r/\Q r:=by
 refine q0b (fun k st=>∃a,G k a/\At (T k a) (Hp k a) st) N Q ?_ ?_ N 0 st (by omega) ⟨a0,g0,h0⟩
 .rintro k st hk ⟨a,g,h⟩;obtain⟨f,hf,rfl⟩:=h.eq;exact step k a f hf hk g
 .rintro st ⟨a,g,h⟩;obtain⟨f,hf,rfl⟩:=h.eq;exact last a f hf g
end Go.Am
namespace Go.Proofs.YtggbaapfbgjaeaaGreatDoor
open Go Go.Am Go.Proofs
set_option maxRecDepth 100000
set_option maxHeartbeats 4000000
structure WS(w:Ct×Ct):Prop where
 g:w.1.small=true
 b:w.2.small=true
structure PS(p:Ste×Ste):Prop where
 g:p.1.small
 b:p.2.small
def ofW(c:Ct)(k i:Int):Ct×Ct:=if qwz c k i=0 then(c,q8f c k i)else(q9e,q9e)
theorem zcj{c:Ct}{s:Ste}{x:Evn}(hr:Rdy c s)(h:(qee c s x).2.2=0):Lie c (qee c s x).1:=by
 unfold qee at h ⊢;split at h
 .cases h
 .rename_i h1;rw[if_neg h1];split at h
  .rename_i h2;rw[if_pos h2];exact(qyd ⟨hr.few,qgh hr.st h1 h2⟩ h).1
  .cases h
theorem qnc{c:Ct}{s:Ste}{x:Evn}(hc:c.small=true)(h:(qcx c s x).2.2=0):Lie c (qcx c s x).1:=by
 unfold qcx at h ⊢;split at h
 .rename_i hq;rw[if_pos hq];exact zcj (zjz hc hq) h
 .rename_i hq;exact absurd h hq
theorem q1c{c:Ct}(h:(qbz c).2.2=0):c.check=0:=by
 unfold qbz at h;split at h
 .assumption
 .exact h
theorem Lie.next1{c:Ct}{s:Ste}(h:Lie c s)(x:Evn):qcx c s x=qee c s x:=by unfold qcx;rw[if_pos h.quE]
theorem Lie.events{c:Ct}{s:Ste}(h:Lie c s):qke c s=(qjk s,0):=by unfold qke;rw[if_pos h.quE]
structure Wld(w:Ct×Ct):Prop extends WS w where
 cg:w.1.check=0
 cb:w.2.check=0
 act:w.2.act=w.1.act
 inp:w.2.inputs=w.1.inputs
theorem zur{c:Ct}(hs:c.small=true){k i:Int}(h:qwz c k i=0):Wld (c,q8f c k i)/\ofW c k i=(c,q8f c k i):=by
 refine⟨?_,by unfold ofW;rw[if_pos h]⟩;have h0:=h;unfold qwz at h;split at h
 .rename_i hf;split at h
  .rename_i hd;have hD:q8f c k i=(qcz c k i).d:=by unfold q8f;rw[if_pos h0]
   obtain⟨a,b⟩:=q7u c k i;refine⟨⟨hs,zih hs k i⟩,?_,by rw[hD];exact hd,by rw[hD];exact a,by rw[hD];exact b⟩;have:=hf;unfold q2c at this;split at this
   .assumption
   .exact this
  .cases h
 .rename_i hf;exact absurd h hf
structure LieP(w:Ct×Ct)(p:Ste×Ste):Prop where
 g:Lie w.1 p.1
 b:Lie w.2 p.2
theorem LieP.small{w:Ct×Ct}{p:Ste×Ste}(h:LieP w p):PS p:=⟨h.g.rdy.small,h.b.rdy.small⟩
end Go.Proofs.YtggbaapfbgjaeaaGreatDoor
