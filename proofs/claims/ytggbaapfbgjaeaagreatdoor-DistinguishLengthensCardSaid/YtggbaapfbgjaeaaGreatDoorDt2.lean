/- Pairs of. -/
import Derived.Test.YtggbaapfbgjaeaaGreatDoorBg1
import Derived.Test.YtggbaapfbgjaeaaGreatDoorQu3
import Derived.Test.YtggbaapfbgjaeaaGreatDoorMy2
import Derived.Test.YtggbaapfbgjaeaaGreatDoorRn1
import Derived.Test.YtggbaapfbgjaeaaGreatDoorSa1
import Derived.Test.YtggbaapfbgjaeaaGreatDoorFy5
import Derived.Test.YtggbaapfbgjaeaaGreatDoorZ7
set_option linter.all false
namespace Go.Proofs.YtggbaapfbgjaeaaGreatDoor
open Go Go.Am Go.Proofs
set_option maxRecDepth 100000
set_option maxHeartbeats 4000000
abbrev mcs(c:Ct)(s:Ste)(w:V)(r:Bool):List V:=c.cells++s.cells++[w,.bool r]
theorem qoc{m:H}(hc:qcp m){o:Ob}(ho:qbw m.length o=o)(k:Nat):qcp (m.set k o):=by
 rw[qoa]at hc ⊢;intro x hx;rw[jU];rcases jT hx with hx | rfl
 .exact hc x hx
 .exact ho
theorem qob{h:H}(hc:qcp h){m gm:Nat}{c:Ct}{s:Ste}{w:V}{r:Bool}(hw:w.low h.length=true):qcp (h.set m ⟨gm,.box (mcs c s w r)⟩):=by refine qoc hc ?_ m;simp[qbw,qbl,hw,V.low]
theorem ev86{h:H}(hc:qcp h){m w gm g n:Nat}{c:Ct}{s t:Ste}{l:List (Int×Bool)}(hm:h[m]?=some ⟨gm,.box (mcs c s (.sl w g n 0 l.length) false)⟩)(hw:h[w]?=some ⟨g,.arr n (l.map qfa)⟩)(hn:n=2\/n=0)(hs:s.small)(ht:t.small)(hl:l.length<=100000)(he:zcb s t=0) :
  ev pg (.call (fnq 86) [.bptr m 0,t.v] h)=some { v:=.tup [],st:=⟨[],(h.set w ⟨g+1,.arr 2 ((l++qle s t).map qfa)⟩).set m ⟨gm,.box (mcs c t (.sl w (g+1) 2 0 (l++qle s t).length) false)⟩⟩ }:=by
 obtain⟨hml,hm'⟩:=jG.1 hm;obtain⟨hwl,hw'⟩:=jG.1 hw;have hne:w≠m:=by rintro rfl;rw[hm]at hw;simp at hw
 have e1:=ev133 s t hs ht;rw[he]at e1;have hb:(qle s t).length<=4096:=by unfold qle;rw[if_pos he,qms];exact Nat.le_trans (qha _ _ _) hs.e
 generalize qle s t=B at *;have hcut:∀r:H,qdw h.length ((h.set w ⟨g+1,.arr 2 (l.map qfa++B.map qfa)⟩).set m ⟨gm,.box (mcs c t (.sl w (g+1) 2 0 (l.length+B.length)) false)⟩++r)=(h.set w ⟨g+1,.arr 2 (l.map qfa++B.map qfa)⟩).set m ⟨gm,.box (mcs c t (.sl w (g+1) 2 0 (l.length+B.length)) false)⟩:=by intro r;have h1:=qoc hc (o:=⟨g+1,.arr 2 (l.map qfa++B.map qfa)⟩) rfl w;have h2:=qob (m:=m) (gm:=gm) (c:=c) (s:=t) (w:=.sl w (g+1) 2 0 (l.length+B.length)) (r:=false) h1 (by simpa[V.low]using hwl);have h3:=qey h2 r;simp only[jU]at h3;exact h3
 have hfit:(l.length+B.length)*16<=140737488355328:=by omega
 rw[qab,pg86.1];simp[-qdw,ir86,e1,hn,hfit,hml,hwl,hm',hw',hne,hne.symm,jI,List.set_append_left,qaa,exT,qag];exact hcut _
theorem zfp{h r:H}{m gm:Nat}{cells:List V}(hm:m<h.length)(hlo:qek h.length cells=false):qdw h.length (h.set m ⟨gm,.box cells⟩++r)=h.set m ⟨gm,.box cells⟩++r:=by unfold qdw;rw[if_neg];intro e;unfold q2m at e;rw[List.take_append_of_le_length (by simp),kB (by simp),jP]at e;have:=e ⟨gm,.box cells⟩ (jR (jN hm));simp only[hlo]at this;cases this
theorem ev86n{h:H}{m gm:Nat}{c:Ct}{s t:Ste}(hm:h[m]?=some ⟨gm,.box (mcs c s .nilx false)⟩)(hs:s.small)(ht:t.small)(he:zcb s t=0) :
  ev pg (.call (fnq 86) [.bptr m 0,t.v] h)=some { v:=.tup [],st:=⟨[],h.set m ⟨gm,.box (mcs c t (.sl (h.length+1) 0 2 0 (qle s t).length) false)⟩++[⟨0,.box t.cells⟩,⟨0,.arr 2 ((qle s t).map qfa)⟩]⟩ }:=by
 obtain⟨hml,hm'⟩:=jG.1 hm;have e1:=ev133 s t hs ht;rw[he]at e1;have hb:(qle s t).length<=4096:=by unfold qle;rw[if_pos he,qms];exact Nat.le_trans (qha _ _ _) hs.e
 generalize qle s t=B at *;have hcut:=zfp (h:=h) (gm:=gm) (cells:=mcs c t (.sl (h.length+1) 0 2 0 B.length) false) (r:=[⟨0,.box t.cells⟩,⟨0,.arr 2 (B.map qfa)⟩]) hml (by simp[qek,V.low]);have hfit:B.length*16<=140737488355328:=by omega
 rw[qab,pg86.1];simp[-qdw,ir86,e1,hfit,hml,hm',jI,List.set_append_left,qaa,exT,qag];exact hcut
theorem ev88e{h:H}(hc:qcp h){m gm:Nat}{c:Ct}{s:Ste}{w:V}(hw:w.low h.length=true)(hm:h[m]?=some ⟨gm,.box (mcs c s w false)⟩)(hfew:c.small=true)(hs:s.small)(x:Evn)(hx:(qcv c s x).2.2≠0) :
  ev pg (.call (fnq 88) [.bptr m 0,x.v] h)=some { v:=.tup [],st:=⟨[],h.set m ⟨gm,.box (mcs c s w true)⟩⟩ }:=by
 obtain⟨hml,hm'⟩:=jG.1 hm;have e1:=ev135 c s hfew hs x;unfold zdo at e1;have hxb:((qcv c s x).2.2==0)=false:=by simpa using hx
 generalize qcv c s x=y at *;obtain⟨t,l,e⟩:=y;simp only at hx hxb;have hcut:∀r:H,qdw h.length (h.set m ⟨gm,.box (mcs c s w true)⟩++r)=h.set m ⟨gm,.box (mcs c s w true)⟩:=by intro r;have h2:=qob (m:=m) (gm:=gm) (c:=c) (s:=s) (w:=w) (r:=true) hc hw;have h3:=qey h2 r;simp only[jU]at h3;exact h3
 rw[qab,pg88.1];simp[-qdw,ir88,e1,hx,hxb,hml,hm',jI,List.set_append_left,qaq,exT,qag];exact hcut _
abbrev d88(x:Evn)(t:Ste):H:=[⟨0,.box x.row⟩,⟨0,.arr 0 []⟩,⟨0,.arr 0 []⟩,⟨0,.arr 0 []⟩,⟨0,.arr 0 []⟩,⟨0,.arr 0 []⟩,⟨0,.box t.cells⟩]
theorem zlj{h:H}(hc:qcp h)(x:Evn)(t:Ste):qcp (h++d88 x t):=by refine qgg hc ?_;intro o ho;simp only[List.mem_cons,List.not_mem_nil,or_false]at ho;rcases ho with rfl | rfl | rfl | rfl | rfl | rfl | rfl<;>simp
theorem ev88{h:H}(hc:qcp h){m w gm g n:Nat}{c:Ct}{s:Ste}{l:List (Int×Bool)}(hm:h[m]?=some ⟨gm,.box (mcs c s (.sl w g n 0 l.length) false)⟩)(hw:h[w]?=some ⟨g,.arr n (l.map qfa)⟩)(hn:n=2\/n=0)(hfew:c.small=true)(hs:s.small)(x:Evn)(hl:l.length<=100000)(hx:(qcv c s x).2.2=0)(ht:(qcv c s x).1.small)(he:zcb s (qcv c s x).1=0) :
  ev pg (.call (fnq 88) [.bptr m 0,x.v] h)=some { v:=.tup [],st:=⟨[],(h.set w ⟨g+1,.arr 2 ((l++qle s (qcv c s x).1).map qfa)⟩).set m ⟨gm,.box (mcs c (qcv c s x).1 (.sl w (g+1) 2 0 (l++qle s (qcv c s x).1).length) false)⟩⟩ }:=by
 obtain⟨hml,hm'⟩:=jG.1 hm;obtain⟨hwl,hw'⟩:=jG.1 hw;have e1:=ev135 c s hfew hs x;unfold zdo at e1;rw[hx]at e1;generalize qcv c s x=y at *;obtain⟨t,j,e⟩:=y;simp only at e1 ht he hx ⊢;have e2:=ev86 (zlj hc x t) (m:=m) (w:=w) (by rw[jI hml,hm]) (by rw[jI hwl,hw]) hn hs ht hl he;rw[List.set_append_left _ _ hwl,List.set_append_left _ _ (by simpa using hml)]at e2;generalize qle s t=B at *;have hcut:∀r:H,qdw h.length ((h.set w ⟨g+1,.arr 2 ((l++B).map qfa)⟩).set m ⟨gm,.box (mcs c t (.sl w (g+1) 2 0 (l++B).length) false)⟩++r)=(h.set w ⟨g+1,.arr 2 ((l++B).map qfa)⟩).set m ⟨gm,.box (mcs c t (.sl w (g+1) 2 0 (l++B).length) false)⟩:=by intro r;have h1:=qoc hc (o:=⟨g+1,.arr 2 ((l++B).map qfa)⟩) rfl w;have h2:=qob (m:=m) (gm:=gm) (c:=c) (s:=t) (w:=.sl w (g+1) 2 0 (l++B).length) (r:=false) h1 (by simpa[V.low]using hwl);have h3:=qey h2 r;simp only[jU]at h3;exact h3
 generalize hM:(h.set w ⟨g+1,.arr 2 ((l++B).map qfa)⟩).set m ⟨gm,.box (mcs c t (.sl w (g+1) 2 0 (l++B).length) false)⟩=M at *;rw[qab,pg88.1];simp[-qdw,ir88,e1,e2,hcut,hml,hm',jI,qaq,exT,qag]
theorem ev88n{h:H}(hc:qcp h){m gm:Nat}{c:Ct}{s:Ste}(hm:h[m]?=some ⟨gm,.box (mcs c s .nilx false)⟩)(hfew:c.small=true)(hs:s.small)(x:Evn)(hx:(qcv c s x).2.2=0)(ht:(qcv c s x).1.small)(he:zcb s (qcv c s x).1=0) :
  ev pg (.call (fnq 88) [.bptr m 0,x.v] h)=some { v:=.tup [],st:=⟨[],h.set m ⟨gm,.box (mcs c (qcv c s x).1 (.sl (h.length+8) 0 2 0 (qle s (qcv c s x).1).length) false)⟩++(d88 x (qcv c s x).1++[⟨0,.box (qcv c s x).1.cells⟩,⟨0,.arr 2 ((qle s (qcv c s x).1).map qfa)⟩])⟩ }:=by
 obtain⟨hml,hm'⟩:=jG.1 hm;have e1:=ev135 c s hfew hs x;unfold zdo at e1;rw[hx]at e1;generalize qcv c s x=y at *;obtain⟨t,j,e⟩:=y;simp only at e1 ht he hx ⊢;have e2:=ev86n (h:=h++d88 x t) (m:=m) (by rw[jI hml,hm]) hs ht he;rw[List.set_append_left _ _ hml,List.append_assoc,show(h++d88 x t).length+1=h.length+8 by simp]at e2;generalize qle s t=B at *;have hcut:=zfp (h:=h) (gm:=gm) (cells:=mcs c t (.sl (h.length+8) 0 2 0 B.length) false) (r:=d88 x t++[⟨0,.box t.cells⟩,⟨0,.arr 2 (B.map qfa)⟩]) hml (by simp[qek,V.low]);generalize hM:h.set m ⟨gm,.box (mcs c t (.sl (h.length+8) 0 2 0 B.length) false)⟩++(d88 x t++[⟨0,.box t.cells⟩,⟨0,.arr 2 (B.map qfa)⟩])=M at *;rw[qab,pg88.1];simp[-qdw,ir88,e1,e2,hcut,hml,hm',jI,qaq,exT,qag]
def qyw(d:Ct)(F:Nat)(p:List Int)(i:Nat)(v:Int):Prop:=∃(g:Nat) (x:Sg),d.signals[g]?=some x/\x.kind=0/\x.on=.mk 0 v []/\p[i]?=some ((F+g:Nat):Int)
theorem qug{c:Ct}{N:Nat}:∀{d:Nat} {s:Ste} {l:List Int} {t:Ste} {m:List Int},qcx c N d s l=some (t,m)->qgl c t=t
 | 0,_,_,_,_,h=>by cases h
 | d+1,s,l,t,m,h=>by
  rw[qcx]at h;split at h
  .rename_i hs;cases h;exact qhx.1 hs
  .exact qug h
theorem q8j{c:Ct}{s t:Ste}{m:List Int}(h:qbx c s=some (t,m)):qgl c t=t:=qug h
theorem q7b{d:Ct}(hsm:d.small=true){s:Ste}(hs:stE d s=0){g:Nat}{x:Sg}{v:Int}(hg:d.signals[g]?=some x)(hk:x.kind=0)(ho:x.on=.mk 0 v []):(qdo d s).values[g]?=some (v==1):=by
 obtain⟨hc,hS⟩:=qig hs;have hgl:g<d.signals.length:=by
  rcases Nat.lt_or_ge g d.signals.length with h | h
  .exact h
  .rw[jY h]at hg;cases hg
 have hF:=q6g hS;have hf:=zhc (L:=qae s) (F:=qao s) (by rw[hF];exact zco hc hsm) hg hk (by rw[qyd hS,hF];unfold qal qac;omega);unfold qdo;simp only;rw[List.getElem?_drop,qwi,hf,ho,qog];simp[Ex.op,Ex.idx]
theorem zdn{d:Ct}{s:Ste}(hS:Shp d s){g:Nat}{x:Sg}(hg:d.signals[g]?=some x)(hk:x.kind=0){b:Bool}(hv:s.values[g]?=some b):(qwz d s).values[g]?=some b:=by
 have hgl:g<d.signals.length:=by
  rcases Nat.lt_or_ge g d.signals.length with h | h
  .exact h
  .rw[jY h]at hg;cases hg
 have ht:g<s.timers.length:=by rw[hS.t];exact hgl
 unfold qwz;simp only;rw[List.getElem?_map,qnu (qae s) hg hv (jA ht)];simp[qlz,hk]
theorem q7w{s:Ste}{g:Nat}:(qae s)[qao s+g]?=s.values[g]?:=by have:=qlk s;rw[<-this,List.getElem?_drop]
theorem qyz{d:Ct}(hsm:d.small=true){s t:Ste}{m:List Int}(hs:stE d s=0)(h:qbx d s=some (t,m)){p:List Int}{i:Nat}{v:Int}(hp:qyw d (qal d d.act.toNat) p i v):qbo (qae t) p i=(v==1):=by obtain⟨g,x,hg,hk,ho,hpi⟩:=hp;have ht:=qlx hs h;obtain⟨hc,hS⟩:=qig ht;have hfix:=q8j h;have h1:=q7b hsm ht hg hk ho;have hS':Shp d (qdo d t):=(qig (qlg ht)).2;have h2:=zdn hS' hg hk h1;have h3:(qgl d t).values[g]?=some (v==1):=h2;rw[hfix]at h3;unfold qbo;rw[hpi];simp only[Option.map_some,Option.getD_some,Int.toNat_natCast];rw[<-q6g hS,q7w,h3];rfl
def qto(s:Ste)(i:Nat):Prop:=s.valves[i]?=some false/\s.ends[i]?=some 0
def qpl(s:Ste)(i:Nat):Prop:=(s.valves[i]?=some false/\s.ends[i]?=some 0)\/(s.valves[i]?=some true/\(s.ends[i]?=some 0\/s.ends[i]?=some 1\/s.ends[i]?=some 2))
theorem q3d{d:Ct}{s:Ste}{i:Nat}{b:Bool}(h:s.valves[i]?=some b):(qgo d s).valves[i]?=some (qjg d (qae s) i b):=by unfold qgo;simp only;rw[List.getElem?_mapIdx,h];rfl
theorem qqx{s:Ste}{i:Nat}{b:Bool}{e:Int}(h:s.valves[i]?=some b)(h2:s.ends[i]?=some e):(qkd s).ends[i]?=some (qkq b e):=by unfold qkd;simp only;rw[List.getElem?_zipWith,h,h2]
theorem q4v{d:Ct}(hsm:d.small=true){s t:Ste}{a:List Int}(hs:stE d s=0)(h:qcd d s=some (t,a)){i:Nat}(hp:qyw d (qal d d.act.toNat) d.plus i 0)(hk:qto s i):qto t i:=by
 obtain⟨u,m,hu,rfl,_⟩:=qjw h;obtain⟨e1,e2,_⟩:=qnn hu;have hl:=qyz hsm hs hu hp;obtain⟨k1,k2⟩:=hk;rw[<-e2]at k1;rw[<-e1]at k2;have v1:=q3d (d:=d) k1;have hv:qjg d (qae u) i false=false:=by unfold qjg;rw[hl];split<;>rfl
 rw[hv]at v1;have g1:=qqx (s:=qgo d u) v1 k2;exact⟨v1,g1⟩
theorem q2e{d:Ct}(hsm:d.small=true){s t:Ste}{a:List Int}(hs:stE d s=0)(h:qcd d s=some (t,a)){i:Nat}(hp:qyw d (qal d d.act.toNat) d.minus i 0)(hk:qpl s i):qpl t i:=by
 obtain⟨u,m,hu,rfl,_⟩:=qjw h;obtain⟨e1,e2,_⟩:=qnn hu;have hl:=qyz hsm hs hu hp;have hl0:qbo (qae u) d.minus i=false:=hl;have hval:∀b,qjg d (qae u) i b=true\/(b=false/\qjg d (qae u) i b=false):=by intro b;unfold qjg;rw[hl0];cases hb:qbo (qae u) d.plus i<;>cases b<;>simp
 rcases hk with⟨k1,k2⟩ | ⟨k1,k2⟩
 .rw[<-e2]at k1;rw[<-e1]at k2;have v1:=q3d (d:=d) k1;have g1:=qqx (s:=qgo d u) v1 k2;rcases hval false with hb | ⟨_,hb⟩
  .rw[hb]at v1 g1;exact .inr ⟨v1,.inr (.inl g1)⟩
  .rw[hb]at v1 g1;exact .inl ⟨v1,g1⟩
 .rw[<-e2]at k1;rw[<-e1]at k2;have v1:=q3d (d:=d) k1;have hb:qjg d (qae u) i true=true:=by
   rcases hval true with hb | ⟨h,_⟩
   .exact hb
   .cases h
  rw[hb]at v1;rcases k2 with k2 | k2 | k2
  .exact .inr ⟨v1,.inr (.inl (qqx (s:=qgo d u) v1 k2))⟩
  .exact .inr ⟨v1,.inr (.inl (qqx (s:=qgo d u) v1 k2))⟩
  .exact .inr ⟨v1,.inr (.inr (qqx (s:=qgo d u) v1 k2))⟩
theorem qwq{d:Ct}{K:Ste->Prop}(hK:∀s t a,stE d s=0->qcd d s=some (t,a)->K s->K t):∀{n:Nat} {s:Ste} {l:List Int} {t:Ste} {m:List Int},stE d s=0->qgw d n s l=some (t,m)->K s->K t
 | 0,_,_,_,_,_,h,_=>by cases h
 | n+1,s,l,t,m,hs,h,hk=>by
  rw[qgw]at h;cases e:qcd d s with
  | none=>rw[e]at h;cases h
  | some x =>
   rw[e]at h;simp only at h;split at h
   .cases h;exact hk
   .have e':qcd d s=some (x.1,x.2):=e;exact qwq hK (qnf hs e') h (hK _ _ _ hs e' hk)
theorem q7u{s:Ste}{x:Evn}{i:Nat}(hm:qpu s x=true)(hk:qto s i):qto (qei s x) i:=by
 unfold qei;unfold qpu at hm;split at hm
 .cases hm
 .split
  .rename_i h0;refine⟨hk.1,?_⟩;rw[if_neg (by omega),h0]at hm;obtain⟨hi,he⟩:=qvb hm;have hne:x.idx.toNat≠i:=by
    intro e;have:=hk.2;rw[<-e,jA hi,jC]at this;omega
   simp only;rw[jO hne];exact hk.2
  .split
   .exact hk
   .exact hk
theorem q4w{s:Ste}{x:Evn}{i:Nat}(hm:qpu s x=true)(hk:qpl s i):qpl (qei s x) i:=by
 unfold qei;unfold qpu at hm;split at hm
 .cases hm
 .split
  .rename_i h0;rw[if_neg (by omega),h0]at hm;obtain⟨hi,he⟩:=qvb hm;by_cases hne:x.idx.toNat=i
   .subst hne;have hg:=jA hi;rcases hk with⟨_,k2⟩ | ⟨k1,k2⟩
    .rw[hg,jC]at k2;omega
    .have h1:s.ends[x.idx.toNat]?=some 1:=by
      rw[hg]at k2 ⊢;rw[jC]at k2 ⊢;rw[jC,jC]at k2;omega
     refine .inr ⟨k1,.inr (.inr ?_)⟩;simp only;rw[jN hi,if_pos h1]
   .unfold qpl;simp only;rw[jO hne];exact hk
  .split
   .exact hk
   .exact hk
theorem zdc{d:Ct}{K:Ste->Prop}(hK:∀s t a,stE d s=0->qcd d s=some (t,a)->K s->K t)(hH:∀s x,qpu s x=true->K s->K (qei s x)){s:Ste}{x:Evn}(hs:stE d s=0)(hk:K s)(h:(qec d s x).2.2=0):K (qec d s x).1:=by
 unfold qec at h ⊢;split at h
 .cases h
 .rename_i h1;rw[if_neg h1];split at h
  .rename_i h2;rw[if_pos h2];unfold qjm at h ⊢;cases e:qix d (qei s x)with
   | none=>rw[e]at h;cases h
   | some y =>simp only;exact qwq hK (qgd hs h1 h2) (show qgw d 65 (qei s x) []=some (y.1,y.2)from e) (hH s x h2 hk)
  .cases h
theorem qzg{c:Ct}{i:Nat}(hi:i<c.act.toNat):qto (qef c) i:=by unfold qto qef qdo qhq;simp only;rw[List.getElem?_replicate,if_pos hi,List.getElem?_replicate,if_pos hi];exact⟨rfl,rfl⟩
theorem zda{s:Ste}{i:Nat}(h:qto s i):qpl s i:=.inl h
structure Lie(c:Ct)(t:Ste):Prop where
 rdy:Rdy c t
 still:∃a,qcd c t=some (t,a)
theorem qxq{c:Ct}{s:Ste}(h:Rdy c s)(he:(qjm c s).2.2=0):Lie c (qjm c s).1/\(qjm c s).1.inputs=s.inputs:=by
 unfold qjm at he ⊢;cases hZ:qix c s with
 | none=>rw[hZ]at he;simp at he
 | some x =>obtain⟨t,m⟩:=x;exact⟨⟨⟨h.few,qpy h.st hZ⟩,qpz hZ⟩,q5y hZ⟩
theorem Lie.rest{c:Ct}{t:Ste}(h:Lie c t):(qul c t).1=t/\(qul c t).2.2=0:=by obtain⟨a,ha⟩:=h.still;unfold qul qjm;rw[if_pos h.rdy.st,zdz ha];exact⟨rfl,rfl⟩
def h6(c:Ct)(s t:Ste):H:=[⟨0,.box c.cells⟩,⟨0,.box s.cells⟩,o0,o0,o0,o0,o0,⟨0,.box t.cells⟩,o0,o0,o0,o0,o0,⟨0,.box t.cells⟩,⟨0,.arr 1 ((qae t).map qfi)⟩]
theorem Lie.quE{c:Ct}{t:Ste}(h:Lie c t):quE c t=0:=by obtain⟨a,ha⟩:=h.still;unfold Proofs.YtggbaapfbgjaeaaGreatDoor.quE q6i;rw[if_pos h.rdy.st,ha];simp[q0n]
theorem Lie.run{c:Ct}{t:Ste}(h:Lie c t){l:List Evn}(hl:l.length<=4096):z3z c t l=qum c l 0 ⟨t,[],[]⟩:=by unfold z3z;rw[if_pos h.quE,if_neg (by omega)]
theorem Lie.next{c:Ct}{t:Ste}(h:Lie c t){l:List Evn}(he:(qum c l 0 ⟨t,[],[]⟩).2.2=0):Lie c (qum c l 0 ⟨t,[],[]⟩).1.st :=
 ⟨⟨h.rdy.few,qxt h.rdy.st he⟩,qxu h.still he⟩
theorem qti{c:Ct}(hs:c.small=true)(hc:c.check=0)(he:(qby c).2.2=0):Lie c (qby c).1:=by
 rw[zjq c hc]at he ⊢;unfold qul qjm at *;rw[if_pos (qdg hc)]at *;cases hZ:qix c (qef c)with
 | none=>rw[hZ]at he;simp at he
 | some x =>obtain⟨t,m⟩:=x;exact⟨⟨hs,qpy (qdg hc) hZ⟩,qpz hZ⟩
structure Pins(d:Ct)(k:Int)(i:Nat):Prop where
 p0:k=0\/k=5->qyw d (qal d d.act.toNat) d.plus i 0
 m0:k=1\/k=4->qyw d (qal d d.act.toNat) d.minus i 0
 p1:k=4->qyw d (qal d d.act.toNat) d.plus i 1
def q2d(k:Int)(i:Nat)(s:Ste):Prop:=if k=0\/k=5 then qto s i else qpl s i
structure HoldI(d:Ct)(k:Int)(i:Nat)(s:Ste):Prop where
 lie:Lie d s
 keep:q2d k i s
theorem qwp{d:Ct}{k:Int}{i:Nat}(hP:Pins d k i)(hk:k=0\/k=1\/k=4\/k=5)(hsm:d.small=true)(s t:Ste)(a:List Int)(hs:stE d s=0)(h:qcd d s=some (t,a))(hq:q2d k i s):q2d k i t:=by
 unfold q2d at hq ⊢;by_cases h0:k=0\/k=5
 .rw[if_pos h0]at hq ⊢;exact q4v hsm hs h (hP.p0 h0) hq
 .rw[if_neg h0]at hq ⊢;exact q2e hsm hs h (hP.m0 (by omega)) hq
theorem zdb{k:Int}{i:Nat}(s:Ste)(x:Evn)(hm:qpu s x=true)(hq:q2d k i s):q2d k i (qei s x):=by
 unfold q2d at hq ⊢;split
 .rename_i h0;rw[if_pos h0]at hq;exact q7u hm hq
 .rename_i h0;rw[if_neg h0]at hq;exact q4w hm hq
theorem HoldI.step{d:Ct}{k:Int}{i:Nat}(hP:Pins d k i)(hk:k=0\/k=1\/k=4\/k=5){s:Ste}(h:HoldI d k i s){x:Evn}(he:(qcv d s x).2.2=0):HoldI d k i (qcv d s x).1:=by
 have hsm:=h.lie.rdy.few;unfold qcv at he ⊢;rw[if_pos h.lie.quE]at he ⊢;refine⟨?_,zdc (qwp hP hk hsm) zdb h.lie.rdy.st h.keep he⟩;unfold qec at he ⊢;split at he
 .cases he
 .rename_i h1;rw[if_neg h1];split at he
  .rename_i h2;rw[if_pos h2];exact(qxq ⟨hsm,qgd h.lie.rdy.st h1 h2⟩ he).1
  .cases he
theorem HoldI.first{d:Ct}{k:Int}{i:Nat}(hP:Pins d k i)(hk:k=0\/k=1\/k=4\/k=5)(hsm:d.small=true)(hc:d.check=0)(hi:i<d.act.toNat)(he:(qby d).2.2=0):HoldI d k i (qby d).1:=by
 unfold qby at he ⊢;rw[if_pos hc]at he ⊢;refine⟨(qxq ⟨hsm,qdg hc⟩ he).1,?_⟩;have h0:q2d k i (qef d):=by
  unfold q2d;split
  .exact qzg hi
  .exact zda (qzg hi)
 unfold qjm at he ⊢;cases e:qix d (qef d)with
 | none=>rw[e]at he;cases he
 | some y =>simp only;exact qwq (qwp hP hk hsm) (qdg hc) (show qgw d 65 (qef d) []=some (y.1,y.2)from e) h0
end Go.Proofs.YtggbaapfbgjaeaaGreatDoor
namespace Go.Am
mutual
@[simp] theorem zle:∀v:V,v.beq v=true
 | .undef | .ub | .nils | .nilx | .nilfn | .nilp=>rfl
 | .bool _=>by simp[V.beq]
 | .int k n=>by simp[V.beq]
 | .str _=>by simp[V.beq]
 | .imm a=>by simp only[V.beq];exact qvj a
 | .immc a=>by simp only[V.beq];exact qvj a
 | .iptr a=>by simp only[V.beq];exact qho a
 | .bptr _ _=>by simp[V.beq]
 | .ptr _ _ _ _=>by simp[V.beq]
 | .bsl _ _ _ _=>by simp[V.beq]
 | .sl _ _ _ _ _=>by simp[V.beq]
 | .agg a=>by simp only[V.beq];exact qho a
 | .tup a=>by simp only[V.beq];exact qho a
 | .fn f a b=>by simp only[V.beq,qho a,qho b];simp
 | .map _=>by simp[V.beq]
 | .sit _=>by simp[V.beq]
 | .yld _=>by simp[V.beq]
 | .view p a=>by simp only[V.beq,qho a];simp
@[simp] theorem qho:∀l:List V,qyx l l=true
 | []=>rfl
 | v :: l=>by simp only[qyx,zle v,qho l];rfl
@[simp] theorem qvj:∀l:List (List V),qyk l l=true
 | []=>rfl
 | v :: l=>by simp only[qyk,qho v,qvj l];rfl
end
def zek(x:X)(T:Tm)(r:R):Prop:=∃f H,Junk f/\r={ x:=x,st:=⟨fill f 0 T,H⟩ }
@[simp] theorem qvw{x x':X}{T:Tm}{st:St}:zek x T { x:=x',v:=.undef,st:=st }<->x'=x/\qmg T st.s:=by
 constructor
 .rintro⟨f,H,hf,e⟩;have:=(qez (x:=x) (x':=x') (T:=T) (h:=H) (st:=st)).1 ⟨f,hf,e⟩;exact⟨this.1,this.2.s⟩
 .rintro⟨rfl,h⟩;obtain⟨f,hf,e⟩:=qqt 0 h;exact⟨f,st.h,hf,by rw[<-e]⟩
theorem qzp{P:Prg}{nx:Nat}{ks:List Nat}{c:C}(I:Nat->St->Prop)(N:Nat)(Q:R->Prop)
  (step:∀k st,k<N->I k st->∃r,ev P (.code c st)=some r/\((r.x=.normal/\I (k+1) (zln nx ks r.st))\/(r.x ≠ .normal/\Q r)))
  (last:∀st,I N st->∃r,ev P (.code c st)=some r/\r.x ≠ .normal/\Q r):∀(d k:Nat) (st:St),k+d=N->I k st->∃r,ev P (.code (.goingF nx ks c) st)=some r/\Q r
 | 0,k,st,hk,hI=>by
  have:k=N:=by omega
  subst this;obtain⟨r,h1,h2,h3⟩:=last st hI;refine⟨r,?_,h3⟩;rw[qvz,h1];cases hx:r.x with
  | normal=>exact absurd hx h2
  | exit id=>simp only[hx]
  | ret=>simp only[hx]
 | d+1,k,st,hk,hI=>by
  obtain⟨r,h1,h2⟩:=step k st (by omega) hI;rcases h2 with⟨h2,h3⟩ | ⟨h2,h3⟩
  .obtain⟨r',h4,h5⟩:=qzp I N Q step last d (k+1) (zln nx ks r.st) (by omega) h3;refine⟨r',?_,h5⟩;rw[qvz,h1];simp only[h2];exact h4
  .refine⟨r,?_,h3⟩;rw[qvz,h1];cases hx:r.x with
   | normal=>exact absurd hx h2
   | exit id=>simp only[hx]
   | ret=>simp only[hx]
end Go.Am
namespace Go.Proofs.YtggbaapfbgjaeaaGreatDoor
open Go Go.Am Go.Proofs
set_option maxRecDepth 100000
set_option maxHeartbeats 4000000
structure WS(w:Ct×Ct):Prop where
 g:w.1.small=true
 b:w.2.small=true
structure PS(p:Ste×Ste):Prop where
 g:p.1.small
 b:p.2.small
def ofW(c:Ct)(k i:Int):Ct×Ct:=if qwm c k i=0 then(c,q7t c k i)else(q8t,q8t)
theorem zby{c:Ct}{s:Ste}{x:Evn}(hr:Rdy c s)(h:(qec c s x).2.2=0):Lie c (qec c s x).1:=by
 unfold qec at h ⊢;split at h
 .cases h
 .rename_i h1;rw[if_neg h1];split at h
  .rename_i h2;rw[if_pos h2];exact(qxq ⟨hr.few,qgd hr.st h1 h2⟩ h).1
  .cases h
theorem qmx{c:Ct}{s:Ste}{x:Evn}(hc:c.small=true)(h:(qcv c s x).2.2=0):Lie c (qcv c s x).1:=by
 unfold qcv at h ⊢;split at h
 .rename_i hq;rw[if_pos hq];exact zby (zjf hc hq) h
 .rename_i hq;exact absurd h hq
theorem q0s{c:Ct}(h:(qby c).2.2=0):c.check=0:=by
 unfold qby at h;split at h
 .assumption
 .exact h
theorem Lie.next1{c:Ct}{s:Ste}(h:Lie c s)(x:Evn):qcv c s x=qec c s x:=by unfold qcv;rw[if_pos h.quE]
theorem Lie.events{c:Ct}{s:Ste}(h:Lie c s):qkc c s=(qjj s,0):=by unfold qkc;rw[if_pos h.quE]
structure Wld(w:Ct×Ct):Prop extends WS w where
 cg:w.1.check=0
 cb:w.2.check=0
 act:w.2.act=w.1.act
 inp:w.2.inputs=w.1.inputs
theorem ztl{c:Ct}(hs:c.small=true){k i:Int}(h:qwm c k i=0):Wld (c,q7t c k i)/\ofW c k i=(c,q7t c k i):=by
 refine⟨?_,by unfold ofW;rw[if_pos h]⟩;have h0:=h;unfold qwm at h;split at h
 .rename_i hf;split at h
  .rename_i hd;have hD:q7t c k i=(qcy c k i).d:=by unfold q7t;rw[if_pos h0]
   obtain⟨a,b⟩:=q7i c k i;refine⟨⟨hs,zhp hs k i⟩,?_,by rw[hD];exact hd,by rw[hD];exact a,by rw[hD];exact b⟩;have:=hf;unfold q1t at this;split at this
   .assumption
   .exact this
  .cases h
 .rename_i hf;exact absurd h hf
structure LieP(w:Ct×Ct)(p:Ste×Ste):Prop where
 g:Lie w.1 p.1
 b:Lie w.2 p.2
theorem LieP.small{w:Ct×Ct}{p:Ste×Ste}(h:LieP w p):PS p:=⟨h.g.rdy.small,h.b.rdy.small⟩
end Go.Proofs.YtggbaapfbgjaeaaGreatDoor
