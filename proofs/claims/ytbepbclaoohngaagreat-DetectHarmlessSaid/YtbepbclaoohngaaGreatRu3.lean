/- A run, by the program. -/
import Derived.Test.YtbepbclaoohngaaGreatRn2
import Derived.KernelRfl
import Derived.Test.YtbepbclaoohngaaGreatSv1
import Derived.Test.YtbepbclaoohngaaGreatRn1
import Derived.Test.YtbepbclaoohngaaGreatDe3
set_option linter.all false
namespace Go.Proofs.YtbepbclaoohngaaGreat
open Go Go.Am Go.Proofs
set_option maxRecDepth 100000
theorem znt{c:Ct}{s:Ste}(hS:Shp c s)(x:Evn):(qer s x).ends.length=s.ends.length/\(qer s x).valves.length=s.valves.length/\(qer s x).inputs.length=s.inputs.length/\(qer s x).values.length=s.values.length/\(qer s x).timers.length=s.timers.length:=by
 unfold qer
 split
 .simp
 .split
  .simp
  .simp
set_option maxHeartbeats 1000000 in
theorem ev92{c:Ct}{s:Ste}(h:Rdy c s)(x:Evn):ev pg (.call (.fn 92 [] []) [c.v,s.v,x.v] [])=some { v:=zwq (qbk c s x),st:=⟨[],[]⟩ }:=by
 have e60:=ev91 s h.small
 obtain⟨kd,id,vl⟩:=x
 obtain⟨l1,l2,l3,l4,l5⟩:=znt h.shp ⟨kd,id,vl⟩
 unfold qbk
 rw[qab,pg92]
 by_cases hlo:kd<0
 .rw[if_pos (.inl hlo)]
  simp[ir92,e60,hlo,zeroS]
 .by_cases hhi:2<kd
  .rw[if_pos (.inr hhi)]
   have hhi':(3:Int)<=kd:=by omega
   simp[ir92,e60,hlo,hhi',zeroS]
  .have hk:¬(kd<0\/2<kd):=by omega
   rw[if_neg hk]
   have e91:=ev152 h.shp id vl
   have e92:=ev153 h.shp id vl
   have e93:=ev154 h.shp id vl
   have hkd:kd=0\/kd=1\/kd=2:=by omega
   rcases hkd with rfl | rfl | rfl
   .cases hm:qow s ⟨0,id,vl⟩with
    | false =>
     rw[hm]at e91
     simp only[Bool.false_eq_true,if_false]at e91
     simp at e91
     simp[qaa,exT,qak,ir92,e60,e91,zeroS]
    | true =>
     rw[hm]at e91
     simp only[if_true]at e91
     have hR:Rdy c (qer s ⟨0,id,vl⟩):=⟨h.few,qhb h.st hk hm⟩
     have e16:=ev89 c (qer s ⟨0,id,vl⟩) h.few hR.small
     unfold qpn at e16
     rw[if_pos hR.st]at e16
     generalize qer s ⟨0,id,vl⟩=u at *
     generalize qjf c u=z at *
     simp[l1,l2,l3,l4,l5]at e91
     simp[qaa,exT,qak,ir92,e60,e91,e16,l1,l2,l3,l4,l5]
   .cases hm:qow s ⟨1,id,vl⟩with
    | false =>
     rw[hm]at e92
     simp only[Bool.false_eq_true,if_false]at e92
     simp at e92
     simp[qaa,exT,qak,ir92,e60,e92,zeroS]
    | true =>
     rw[hm]at e92
     simp only[if_true]at e92
     have hR:Rdy c (qer s ⟨1,id,vl⟩):=⟨h.few,qhb h.st hk hm⟩
     have e16:=ev89 c (qer s ⟨1,id,vl⟩) h.few hR.small
     unfold qpn at e16
     rw[if_pos hR.st]at e16
     generalize qer s ⟨1,id,vl⟩=u at *
     generalize qjf c u=z at *
     simp[l1,l2,l3,l4,l5]at e92
     simp[qaa,exT,qak,ir92,e60,e92,e16,l1,l2,l3,l4,l5]
   .cases hm:qow s ⟨2,id,vl⟩with
    | false =>
     rw[hm]at e93
     simp only[Bool.false_eq_true,if_false]at e93
     simp at e93
     simp[qaa,exT,qak,ir92,e60,e93,zeroS]
    | true =>
     rw[hm]at e93
     simp only[if_true]at e93
     have hR:Rdy c (qer s ⟨2,id,vl⟩):=⟨h.few,qhb h.st hk hm⟩
     have e16:=ev89 c (qer s ⟨2,id,vl⟩) h.few hR.small
     unfold qpn at e16
     rw[if_pos hR.st]at e16
     generalize qer s ⟨2,id,vl⟩=u at *
     generalize qjf c u=z at *
     simp[l1,l2,l3,l4,l5]at e93
     simp[qaa,exT,qak,ir92,e60,e93,e16,l1,l2,l3,l4,l5]
def qjp(c:Ct)(s:Ste)(x:Evn):Ste×List Int×Int:=if quE c s=0 then qbk c s x else(zeroS,[],quE c s)
theorem ev57(c:Ct)(s:Ste)(hfew:c.small=true)(hs:s.small)(x:Evn):ev pg (.call (.fn 57 [] []) [c.v,s.v,x.v] [])=some { v:=zwq (qjp c s x),st:=⟨[],[]⟩ }:=by
 have e49:=ev90 c s hfew hs
 unfold qjp
 rw[qab,pg57]
 by_cases h:quE c s=0
 .have e61:=ev92 (q3a hfew h) x
  rw[if_pos h]
  rw[h]at e49
  generalize qbk c s x=z at *
  simp[ir57,e49,e61]
 .rw[if_neg h]
  have hb:(quE c s==0)=false:=by simpa using h
  generalize quE c s=e at *
  simp[ir57,e49,h,hb,zeroS]
def T62(x y:Ste)(k:Nat)(a:Nat×Nat):Tm:=[none,none,bN 0,bN 1,some (.sl 2 0 0 0 0),some (.sl 3 a.1 a.2 0 (qiv x y k).length),none,none,none,some (qes y.ends),some (num y.ends.length),nN k]++zN 28
set_option maxHeartbeats 1000000 in
theorem jfs(x y:Ste)(hs:x.small)(he:y.ends.length=x.ends.length){st:St}(a0:Nat×Nat)(g0:gm2 a0)(h0:At (T62 x y 0 a0) (h64 x y 0 a0) st):∃r,ev pg (.code (.going 4 L93_0) st)=some r/\∃a,gm2 a/\qbn (.exit 0) (T62 x y y.ends.length a) (h64 x y y.ends.length a) r:=by
 have hse:=hs.e
 refine qev y.ends.length (T62 x y) (h64 x y) (fun _ a=>gm2 a) _ ?_ ?_ a0 g0 h0
 .rintro k ⟨g,m⟩ f hf hk2 hG
  have hk':(k:Int)<y.ends.length:=by omega
  have hk:k<x.ends.length:=by omega
  have wk:=qbs (k:=k) (by omega)
  have hsl:=q8b x y k
  have hp:qwd x y k=if(y.ends[k]=1\/y.ends[k]=3)/\x.ends[k]≠y.ends[k]then some ((k:Int),y.ends[k]==1)else none:=by
   unfold qwd
   rw[jA hk,jA hk2]
  unfold T62 h64
  rw[q4y,hp]
  generalize qiv x y k=B at *
  have hb1:(B.length+1)*16<=140737488355328:=by omega
  have hmm:m=2\/m=0:=hG
  by_cases h2:y.ends[k]=x.ends[k]
  .have h2s:¬x.ends[k]≠y.ends[k]:=fun h=>h h2.symm
   rw[if_neg (fun h=>h2s h.2)]
   rcases hmm with rfl | rfl<;>simp[L93_0,hk,hk',hk2,wk,h2,hf.ne]
  .have h2b:(y.ends[k]==x.ends[k])=false:=by simpa using h2
   have h2n:(y.ends[k] != x.ends[k])=true:=by simpa using h2
   have h2s:x.ends[k]≠y.ends[k]:=fun h=>h2 h.symm
   by_cases h1:y.ends[k]=1
   .rw[if_pos ⟨.inl h1,h2s⟩]
    rw[h1]at h2 h2b h2n
    rcases hmm with rfl | rfl<;>simp[L93_0,hk,hk',hk2,wk,h1,h2,h2b,h2n,hb1,hf.ne]
   .have h1b:(y.ends[k]==1)=false:=by simpa using h1
    by_cases h3:y.ends[k]=3
    .rw[if_pos ⟨.inr h3,h2s⟩]
     rw[h3]at h2 h2b h2n
     rcases hmm with rfl | rfl<;>simp[L93_0,hk,hk',hk2,wk,h3,h2,h2b,h2n,hb1,hf.ne]
    .have h3b:(y.ends[k]==3)=false:=by simpa using h3
     rw[if_neg (fun h=>h.1.elim h1 h3)]
     rcases hmm with rfl | rfl<;>simp[L93_0,hk,hk',hk2,wk,h1,h1b,h2,h2b,h2n,h3,h3b,hf.ne]
 .rintro⟨g,m⟩ f hf hG
  unfold T62 h64
  generalize qiv x y y.ends.length=B at *
  have hmm:m=2\/m=0:=hG
  rcases hmm with rfl | rfl<;>simp[L93_0,hf.ne]
theorem ev93(x y:Ste)(hs:x.small)(he:y.ends.length=x.ends.length):ev pg (.call (.fn 93 [] []) [x.v,y.v] [])=some { v:=zsd (qjv x y),st:=⟨[],[]⟩ }:=by
 have hl:=@jfs x y hs he
 have z0:qiv x y 0=[]:=rfl
 have z1:qiv x y y.ends.length=qjv x y:=by rw[he];rfl
 unfold h64 T62 at hl
 rw[z0,z1]at hl
 generalize qjv x y=B at *
 rw[qab,pg93]
 simp[ir93,qam]
 generalize hr:ev pg (.code (.going _ L93_0) _)=o
 obtain⟨r,rfl,⟨g,m⟩,hm,f,hf,rfl⟩:∃r,o=some r/\_:=by rw[<-hr];exact hl (0,0) (.inr rfl) (by simp)
 clear hr
 have hmm:m=2\/m=0:=hm
 rcases hmm with rfl | rfl<;>simp
def T42(a b:List (Int×Bool))(k:Nat):Tm:=[some (zsd a),some (zsd b),none,none,none,none,none,none,none,none,none,none,nN a.length,nN k]++zN 12
def q9k:Tm:=[none,none,none,none,some (.bool false)]++zN 21
theorem jfn(a b:List (Int×Bool))(hab:b.length=a.length)(ha:a.length<=100000){st:St}(h0:At (T42 a b 0) [] st):∃r,ev pg (.code (.going 0 L43_0) st)=some r/\qvn a.length (fun k=>decide (a[k]?≠b[k]?)) (fun _=>qbn .ret q9k []) (qbn (.exit 0) (T42 a b a.length) []) r:=by
 refine qem _ _ (T42 a b) [] _ _ ?_ ?_ ?_ h0
 .intro k f hf hk hp
  have hk':(k:Int)<a.length:=by omega
  have hkb:k<b.length:=by omega
  have wk:=qbs (k:=k) (by omega)
  have hb:a[k]=b[k]:=by simpa[hk,hkb]using hp
  simp[qaa,exT,qak,T42,L43_0,hk,hk',hkb,hb,wk,hf.ne]
 .intro k f hf hk hp
  have hk':(k:Int)<a.length:=by omega
  have hkb:k<b.length:=by omega
  have hb:a[k]≠b[k]:=by simpa[hk,hkb]using hp
  by_cases h2:a[k].2=b[k].2
  .have h1:¬a[k].1=b[k].1:=fun h=>hb (Prod.ext h h2)
   have h1b:(a[k].1==b[k].1)=false:=by simpa using h1
   simp[qaa,exT,qak,T42,q9k,L43_0,hk,hk',hkb,h2,h1,h1b,hf.ne]
  .have h2b:(a[k].2==b[k].2)=false:=by simpa using h2
   by_cases h1:a[k].1=b[k].1
   .simp[qaa,exT,qak,T42,q9k,L43_0,hk,hk',hkb,h1,h2,h2b,hf.ne]
   .have h1b:(a[k].1==b[k].1)=false:=by simpa using h1
    simp[qaa,exT,qak,T42,q9k,L43_0,hk,hk',hkb,h1,h1b,h2,h2b,hf.ne]
 .intro f hf
  simp[T42,L43_0,hf.ne]
theorem ev43(a b:List (Int×Bool))(ha:a.length<=100000):ev pg (.call (.fn 43 [] []) [zsd a,zsd b] [])=some { v:=.bool (decide (a=b)),st:=⟨[],[]⟩ }:=by
 rw[qab,pg43]
 by_cases hab:b.length=a.length
 .have hloop:=@jfn a b hab ha
  have hab':(b.length:Int)=a.length:=by omega
  simp[ir43,qam,hab']
  generalize hr:ev pg (.code (.going _ L43_0) _)=o
  obtain⟨r,rfl,hQ⟩:∃r,o=some r/\_:=by rw[<-hr];exact hloop (by simp[T42])
  rcases hQ with⟨k,hk,hp,-,f,hf,rfl⟩ | ⟨hp,f,hf,rfl⟩
  .have:a≠b:=by rintro rfl;simp at hp
   simp[q9k,this]
  .have:a=b:=by
    refine List.ext_getElem hab.symm fun k h1 h2=>?_
    have:=hp k h1
    simpa[h1,h2]using this
   simp[T42,this]
 .have hne:((a.length:Int) != (b.length:Int))=true:=by rw[bne_iff_ne];omega
  have:a≠b:=fun e=>hab (by rw[e])
  simp[ir43,hne,this]
theorem Evn.ext'{x y:Evn}(h1:x.kind=y.kind)(h2:x.idx=y.idx)(h3:x.val=y.val):x=y:=by
 cases x;cases y
 simp only at h1 h2 h3
 subst h1 h2 h3
 rfl
instance(x y:Evn):Decidable (x=y) :=
 if h:x.kind=y.kind/\x.idx=y.idx/\x.val=y.val then .isTrue (Evn.ext' h.1 h.2.1 h.2.2)
 else .isFalse fun e=>h (by rw[e];exact⟨rfl,rfl,rfl⟩)
instance:DecidableEq Evn:=fun x y=>inferInstance
def qzk(d:Ct)(F:Nat)(p:List Int)(i:Nat)(v:Int):Prop:=∃(g:Nat) (x:Sg),d.signals[g]?=some x/\x.kind=0/\x.on=.mk 0 v []/\p[i]?=some ((F+g:Nat):Int)
theorem quk{c:Ct}{N:Nat}:∀{d:Nat} {s:Ste} {l:List Int} {t:Ste} {m:List Int},qff c N d s l=some (t,m)->qmc c t=t
 | 0,_,_,_,_,h=>by cases h
 | d+1,s,l,t,m,h=>by
  rw[qff]at h
  split at h
  .rename_i hs
   cases h;exact qhz.1 hs
  .exact quk h
theorem q8y{c:Ct}{s t:Ste}{m:List Int}(h:qdh c s=some (t,m)):qmc c t=t:=quk h
theorem q7s{d:Ct}(hsm:d.small=true){s:Ste}(hs:stE d s=0){g:Nat}{x:Sg}{v:Int}(hg:d.signals[g]?=some x)(hk:x.kind=0)(ho:x.on=.mk 0 v []):(qfl d s).values[g]?=some (v==1):=by
 obtain⟨hc,hS⟩:=qin hs
 have hgl:g<d.signals.length:=by
  rcases Nat.lt_or_ge g d.signals.length with h | h
  .exact h
  .rw[jY h]at hg;cases hg
 have hF:=q6v hS
 have hf:=zhw (L:=qah s) (F:=qar s) (by rw[hF];exact zdf hc hsm) hg hk (by rw[qyj hS,hF];unfold qal qad;omega)
 unfold qfl
 simp only
 rw[List.getElem?_drop,qwl,hf,ho,qqs]
 simp[Ex.op,Ex.idx]
theorem zeh{d:Ct}{s:Ste}(hS:Shp d s){g:Nat}{x:Sg}(hg:d.signals[g]?=some x)(hk:x.kind=0){b:Bool}(hv:s.values[g]?=some b):(qzd d s).values[g]?=some b:=by
 have hgl:g<d.signals.length:=by
  rcases Nat.lt_or_ge g d.signals.length with h | h
  .exact h
  .rw[jY h]at hg;cases hg
 have ht:g<s.timers.length:=by rw[hS.t];exact hgl
 unfold qzd
 simp only
 rw[List.getElem?_map,qrz (qah s) hg hv (jA ht)]
 simp[qsb,hk]
theorem q8k{s:Ste}{g:Nat}:(qah s)[qar s+g]?=s.values[g]?:=by
 have:=qlh s
 rw[<-this,List.getElem?_drop]
theorem qnr{d:Ct}(hsm:d.small=true){s t:Ste}{m:List Int}(hs:stE d s=0)(h:qdh d s=some (t,m)){p:List Int}{i:Nat}{v:Int}(hp:qzk d (qal d d.act.toNat) p i v):qdv (qah t) p i=(v==1):=by
 obtain⟨g,x,hg,hk,ho,hpi⟩:=hp
 have ht:=qlv hs h
 obtain⟨hc,hS⟩:=qin ht
 have hfix:=q8y h
 have h1:=q7s hsm ht hg hk ho
 have hS':Shp d (qfl d t):=(qin (qlc ht)).2
 have h2:=zeh hS' hg hk h1
 have h3:(qmc d t).values[g]?=some (v==1):=h2
 rw[hfix]at h3
 unfold qdv
 rw[hpi]
 simp only[Option.map_some,Option.getD_some,Int.toNat_natCast]
 rw[<-q6v hS,q8k,h3]
 rfl
def qto(s:Ste)(i:Nat):Prop:=s.valves[i]?=some false/\s.ends[i]?=some 0
def qpb(s:Ste)(i:Nat):Prop:=(s.valves[i]?=some false/\s.ends[i]?=some 0)\/(s.valves[i]?=some true/\(s.ends[i]?=some 0\/s.ends[i]?=some 1\/s.ends[i]?=some 2))
theorem q3t{d:Ct}{s:Ste}{i:Nat}{b:Bool}(h:s.valves[i]?=some b):(qhj d s).valves[i]?=some (qsc d (qah s) i b):=by
 unfold qhj
 simp only
 rw[List.getElem?_mapIdx,h]
 rfl
theorem qqr{s:Ste}{i:Nat}{b:Bool}{e:Int}(h:s.valves[i]?=some b)(h2:s.ends[i]?=some e):(qlf s).ends[i]?=some (qut b e):=by
 unfold qlf
 simp only
 rw[List.getElem?_zipWith,h,h2]
theorem q5g{d:Ct}(hsm:d.small=true){s t:Ste}{a:List Int}(hs:stE d s=0)(h:qda d s=some (t,a)){i:Nat}(hp:qzk d (qal d d.act.toNat) d.plus i 0)(hk:qto s i):qto t i:=by
 obtain⟨u,m,hu,rfl,_⟩:=qka h
 obtain⟨e1,e2,_⟩:=qkc hu
 have hl:=qnr hsm hs hu hp
 obtain⟨k1,k2⟩:=hk
 rw[<-e2]at k1
 rw[<-e1]at k2
 have v1:=q3t (d:=d) k1
 have hv:qsc d (qah u) i false=false:=by
  unfold qsc
  rw[hl]
  split<;>rfl
 rw[hv]at v1
 have g1:=qqr (s:=qhj d u) v1 k2
 exact⟨v1,g1⟩
theorem q2o{d:Ct}(hsm:d.small=true){s t:Ste}{a:List Int}(hs:stE d s=0)(h:qda d s=some (t,a)){i:Nat}(hp:qzk d (qal d d.act.toNat) d.minus i 0)(hk:qpb s i):qpb t i:=by
 obtain⟨u,m,hu,rfl,_⟩:=qka h
 obtain⟨e1,e2,_⟩:=qkc hu
 have hl:=qnr hsm hs hu hp
 have hl0:qdv (qah u) d.minus i=false:=hl
 have hval:∀b,qsc d (qah u) i b=true\/(b=false/\qsc d (qah u) i b=false):=by
  intro b
  unfold qsc
  rw[hl0]
  cases hb:qdv (qah u) d.plus i<;>cases b<;>simp
 rcases hk with⟨k1,k2⟩ | ⟨k1,k2⟩
 .rw[<-e2]at k1
  rw[<-e1]at k2
  have v1:=q3t (d:=d) k1
  have g1:=qqr (s:=qhj d u) v1 k2
  rcases hval false with hb | ⟨_,hb⟩
  .rw[hb]at v1 g1
   exact .inr ⟨v1,.inr (.inl g1)⟩
  .rw[hb]at v1 g1
   exact .inl ⟨v1,g1⟩
 .rw[<-e2]at k1
  rw[<-e1]at k2
  have v1:=q3t (d:=d) k1
  have hb:qsc d (qah u) i true=true:=by
   rcases hval true with hb | ⟨h,_⟩
   .exact hb
   .cases h
  rw[hb]at v1
  rcases k2 with k2 | k2 | k2
  .exact .inr ⟨v1,.inr (.inl (qqr (s:=qhj d u) v1 k2))⟩
  .exact .inr ⟨v1,.inr (.inl (qqr (s:=qhj d u) v1 k2))⟩
  .exact .inr ⟨v1,.inr (.inr (qqr (s:=qhj d u) v1 k2))⟩
theorem qwt{d:Ct}{K:Ste->Prop}(hK:∀s t a,stE d s=0->qda d s=some (t,a)->K s->K t):∀{n:Nat} {s:Ste} {l:List Int} {t:Ste} {m:List Int},stE d s=0->qgp d n s l=some (t,m)->K s->K t
 | 0,_,_,_,_,_,h,_=>by cases h
 | n+1,s,l,t,m,hs,h,hk=>by
  rw[qgp]at h
  cases e:qda d s with
  | none=>rw[e]at h;cases h
  | some x =>
   rw[e]at h
   simp only at h
   split at h
   .cases h;exact hk
   .have e':qda d s=some (x.1,x.2):=e
    exact qwt hK (qmz hs e') h (hK _ _ _ hs e' hk)
theorem q8j{s:Ste}{x:Evn}{i:Nat}(hm:qow s x=true)(hk:qto s i):qto (qer s x) i:=by
 unfold qer
 unfold qow at hm
 split at hm
 .cases hm
 .split
  .rename_i h0
   refine⟨hk.1,?_⟩
   rw[if_neg (by omega),h0]at hm
   obtain⟨hi,he⟩:=zbr hm
   have hne:x.idx.toNat≠i:=by
    intro e
    have:=hk.2
    rw[<-e,jA hi,jC]at this
    omega
   simp only
   rw[jO hne]
   exact hk.2
  .split
   .exact hk
   .exact hk
theorem q5h{s:Ste}{x:Evn}{i:Nat}(hm:qow s x=true)(hk:qpb s i):qpb (qer s x) i:=by
 unfold qer
 unfold qow at hm
 split at hm
 .cases hm
 .split
  .rename_i h0
   rw[if_neg (by omega),h0]at hm
   obtain⟨hi,he⟩:=zbr hm
   by_cases hne:x.idx.toNat=i
   .subst hne
    have hg:=jA hi
    rcases hk with⟨_,k2⟩ | ⟨k1,k2⟩
    .rw[hg,jC]at k2
     omega
    .have h1:s.ends[x.idx.toNat]?=some 1:=by
      rw[hg]at k2 ⊢
      rw[jC]at k2 ⊢
      rw[jC,jC]at k2
      omega
     refine .inr ⟨k1,.inr (.inr ?_)⟩
     simp only
     rw[jN hi,if_pos h1]
   .unfold qpb
    simp only
    rw[jO hne]
    exact hk
  .split
   .exact hk
   .exact hk
theorem zds{d:Ct}{K:Ste->Prop}(hK:∀s t a,stE d s=0->qda d s=some (t,a)->K s->K t)(hH:∀s x,qow s x=true->K s->K (qer s x)){s:Ste}{x:Evn}(hs:stE d s=0)(hk:K s)(h:(qbk d s x).2.2=0):K (qbk d s x).1:=by
 unfold qbk at h ⊢
 split at h
 .cases h
 .rename_i h1
  rw[if_neg h1]
  split at h
  .rename_i h2
   rw[if_pos h2]
   unfold qjf at h ⊢
   cases e:qlq d (qer s x)with
   | none=>rw[e]at h;cases h
   | some y =>
    simp only
    exact qwt hK (qhb hs h1 h2) (show qgp d 65 (qer s x) []=some (y.1,y.2)from e) (hH s x h2 hk)
  .cases h
theorem qzq{c:Ct}{i:Nat}(hi:i<c.act.toNat):qto (qjr c) i:=by
 unfold qto qjr qfl qjt
 simp only
 rw[List.getElem?_replicate,if_pos hi,List.getElem?_replicate,if_pos hi]
 exact⟨rfl,rfl⟩
theorem zdq{s:Ste}{i:Nat}(h:qto s i):qpb s i:=.inl h
abbrev fz5(u:Ste):H:=[⟨0,.frz 1 (u.ends.map qbo)⟩,⟨0,.frz 1 (u.valves.map qhq)⟩,⟨0,.frz 1 (u.inputs.map qhq)⟩,⟨0,.frz 1 (u.values.map qhq)⟩,⟨0,.frz 1 (u.timers.map qbo)⟩]
def h22(c:Ct)(s:Ste)(k:Nat)(a:Crs×Nat×Nat):H:=if k=0 then [⟨0,.box c.cells⟩,⟨0,.box s.cells⟩,o0,o0,o0,o0,o0,o0,o0,⟨0,.box (cr7 2)⟩]++ar5 s++[o0,o0,o0,o0,o0,o0,o0,⟨0,.box (sl5 10 s++[.sl 23 0 0 0 0,.sl 24 0 0 0 0])⟩,o0,o0]
 else [⟨0,.box c.cells⟩,⟨0,.box s.cells⟩,o0,o0,o0,o0,o0,o0,o0,⟨0,.box (cr7 2)⟩]++fz5 s++[o0,o0,o0,o0,o0,o0,o0,⟨0,.box (a.1.st.cells++[.sl 23 a.2.1 a.2.2 0 a.1.strokes.length,qes a.1.conf])⟩,⟨a.2.1,.arr a.2.2 (a.1.strokes.map zyd)⟩,⟨0,.frz 0 []⟩]
def T22(l:List Evn)(k:Nat):Tm:=[none,none,none,bN 0,bN 1,none,bN 9,nN 0,nN 0,none,bN 22]++zN 19++[some (evs l),nN l.length,nN k]++zN 34
def zxs(i e:Int):Tm:=[none,none,none,none,none,none,bN 9,nN i,nN e]++zN 58
structure G22(c:Ct)(s:Ste)(l:List Evn)(Z:Crs×Int×Int)(k:Nat)(a:Crs×Nat×Nat):Prop where
 go:qjg c (l.drop k) k a.1=Z
 rdy:Rdy c a.1.st
 lin:Lin (qos c) a.1.conf
 nil:k=0->a.1=⟨s,[],[]⟩
 len:a.1.strokes.length=k
 gm:k≠0->a.2.2=1
inductive Out22 (c:Ct) (s:Ste) (l:List Evn) (Z:Crs×Int×Int) (r:R):Prop where
 | ok (k:Nat) (a:Crs×Nat×Nat) (hz:Z=(a.1,0,0)) (hn:k=0->a.1=⟨s,[],[]⟩) (hg:k≠0->a.2.2=1) (he:qbn (.exit 0) (T22 l l.length) (h22 c s k a) r)
 | bad0 (e:Int) (hz:Z=(qkj,0,e)) (x:List V) (u:Ste) (he:qbn .ret (zxs 0 e) ([⟨0,.box c.cells⟩,⟨0,.box s.cells⟩,o0,o0,o0,o0,o0,o0,o0,⟨0,.box (cr7 32)⟩]++fz5 s++[o0,o0,o0,o0,o0,o0,o0,⟨0,.box (sl5 10 s++[.sl 23 0 0 0 0,.sl 24 0 0 0 0])⟩,o0,o0,⟨0,.box x⟩,o0,o0,o0,o0,o0,⟨0,.box u.cells⟩,o0,o0,o0,o0,o0,o0,o0]) r)
 | bad1 (i e:Int) (hz:Z=(qkj,i,e)) (a:Crs×Nat×Nat) (x:List V) (u:Ste) (he:qbn .ret (zxs i e) ([⟨0,.box c.cells⟩,⟨0,.box s.cells⟩,o0,o0,o0,o0,o0,o0,o0,⟨0,.box (cr7 32)⟩]++fz5 s++[o0,o0,o0,o0,o0,o0,o0,⟨0,.box (a.1.st.cells++[.sl 23 a.2.1 a.2.2 0 a.1.strokes.length,qes a.1.conf])⟩,⟨a.2.1,.arr a.2.2 (a.1.strokes.map zyd)⟩,⟨0,.frz 0 []⟩,⟨0,.box x⟩,o0,o0,o0,o0,o0,⟨0,.box u.cells⟩,o0,o0,o0,o0,o0,o0,o0]) r)
set_option maxHeartbeats 4000000 in
theorem jfk{c:Ct}{s:Ste}(hs:Rdy c s)(l:List Evn)(hn:l.length<=4096){st:St}(h0:At (T22 l 0) (h22 c s 0 (⟨s,[],[]⟩,0,0)) st):∃r,ev pg (.code (.going 25 L40_0) st)=some r/\Out22 c s l (qjg c l 0 ⟨s,[],[]⟩) r:=by
 generalize hR:qjg c l 0 ⟨s,[],[]⟩=Z
 refine qev l.length (fun k _=>T22 l k) (h22 c s) (G22 c s l Z) _ ?_ ?_ (⟨s,[],[]⟩,0,0) ⟨hR,hs,Lin.nil _,fun _=>rfl,rfl,fun h=>absurd rfl h⟩ h0
 .rintro k ⟨⟨t,S,C⟩,g,m⟩ f hf hk hG
  have hgo:=hG.go
  have hrd:=hG.rdy
  have hlin:=hG.lin
  have hnil:=hG.nil
  have hlen:=hG.len
  have hgm:=hG.gm
  simp only at hgo hrd hlin hnil hlen hgm
  have hk':(k:Int)<l.length:=by omega
  have wk:=qbs (k:=k) (by omega)
  have w1:IntKind.i64.wrap 1=1:=by decide
  have e61:=ev92 hrd l[k]
  have hN:=q1r hrd.mid
  rw[jL hk]at hgo
  by_cases hz:(qbk c t l[k]).2.2=0
  .rw[qjg,if_pos hz]at hgo
   have hru:Rdy c (qbk c t l[k]).1:=⟨hrd.few,qtp hrd.st hz⟩
   have hee:(qbk c t l[k]).1.ends.length=t.ends.length:=by
    have h1:=hru.shp.e
    have h2:=hrd.shp.e
    omega
   have e62:=ev93 t (qbk c t l[k]).1 hrd.small hee
   have hm:Lin (qos c) (qbk c t l[k]).2.1:=zcq _ _ _
   have hlc:=hlin.len
   have hlm:=hm.len
   have e54:=ev94 (qos c) C (qbk c t l[k]).2.1 (by omega) (by omega) (fun x hx=>(jQ.1 hx).elim (hlin.b x) (hm.b x))
   have hl':Lin (qos c) (norm (qos c) (C++(qbk c t l[k]).2.1)):=Lin.norm _ _
   generalize norm (qos c) (C++(qbk c t l[k]).2.1)=p at *
   generalize qjv t (qbk c t l[k]).1=fr at *
   generalize qbk c t l[k]=z at *
   obtain⟨u,q,e⟩:=z
   simp only at hz hgo hru e54 e62 e61
   subst hz
   have hb1:(S.length+1)*24<=140737488355328:=by omega
   by_cases hk0:k=0
   .subst hk0
    have hc:=hnil rfl
    obtain⟨rfl,rfl,rfl⟩:=Crs.mk.inj hc
    have hG':G22 c t l Z (0+1) (⟨u,[fr],p⟩,1,1):=⟨hgo,hru,hl',fun h=>absurd h (by omega),rfl,fun _=>rfl⟩
    have e54':ev pg (.call (.fn 94 [] []) [.imm [],qes q] [])=some { v:=qes p,st:=⟨[],[]⟩ }:=e54
    unfold T22 h22
    simp[qaa,exT,qak,L40_0,hk,e61,e62,e54',w1,hf.ne]
    exact⟨_,_,_,hG',by simp⟩
   .have hm1:m=1:=hgm hk0
    subst hm1
    have hG':G22 c s l Z (k+1) (⟨u,S++[fr],p⟩,g+1,1):=⟨hgo,hru,hl',fun h=>absurd h (by omega),by simp[hlen],fun _=>rfl⟩
    unfold T22 h22
    simp[qaa,exT,qak,L40_0,hk,hk',hk0,wk,e61,e62,e54,hb1,hf.ne]
    exact⟨_,_,_,hG',by simp⟩
  .rw[zkl hz]at hgo
   subst hgo
   generalize qbk c t l[k]=z at *
   obtain⟨u,q,e⟩:=z
   simp only at hz e61
   have hzb:(e==0)=false:=by simpa using hz
   by_cases hk0:k=0
   .subst hk0
    have hc:=hnil rfl
    obtain⟨rfl,rfl,rfl⟩:=Crs.mk.inj hc
    unfold T22 h22
    simp[qaa,exT,qak,L40_0,hk,e61,hz,hzb,hf.ne]
    exact .bad0 e rfl l[0].row u (by simp[zxs,hf.ne])
   .have hm1:m=1:=hgm hk0
    subst hm1
    unfold T22 h22
    simp[qaa,exT,qak,L40_0,hk,hk',hk0,e61,hz,hzb,hf.ne]
    exact .bad1 k e rfl (⟨t,S,C⟩,g,1) l[k].row u (by simp[zxs,hf.ne])
 .rintro⟨⟨t,S,C⟩,g,m⟩ f hf hG
  have hgo:=hG.go
  have hnil:=hG.nil
  have hgm:=hG.gm
  simp only[List.drop_length,qjg]at hgo hnil hgm
  have hlen:=hG.len
  simp only at hlen
  by_cases hk0:l.length=0
  .have hc:=hnil hk0
   obtain⟨rfl,rfl,rfl⟩:=Crs.mk.inj hc
   unfold T22 h22
   simp[L40_0,hk0,hf.ne]
   exact .ok 0 (⟨t,[],[]⟩,g,m) hgo.symm (fun _=>rfl) (fun h=>absurd rfl h) (by simp[T22,h22,hk0,hf.ne])
  .have hm1:m=1:=hgm hk0
   subst hm1
   unfold T22 h22
   simp[L40_0,hk0,hf.ne]
   exact .ok l.length (⟨t,S,C⟩,g,1) hgo.symm hnil hgm (by simp[T22,h22,hk0,hf.ne])
theorem ev40(c:Ct)(s:Ste)(hfew:c.small=true)(hs:s.small)(l:List Evn)(hl:l.length<=100000):ev pg (.call (.fn 40 [] []) [c.v,s.v,evs l] [])=some { v:=.tup [(zln c s l).1.v,num (zln c s l).2.1,num (zln c s l).2.2],st:=⟨[],[]⟩ }:=by
 have e49:=ev90 c s hfew hs
 have e60:=ev91 s hs
 unfold zln
 rw[qab,pg40]
 by_cases h:quE c s=0
 .rw[if_pos h]
  rw[h]at e49
  by_cases hn:4096<l.length
  .rw[if_pos hn]
   have hn':(4096:Int)<l.length:=by omega
   simp[ir40,e49,hn',qkj,zeroS]
  .rw[if_neg hn]
   have hn':¬(4096:Int)<l.length:=by omega
   have hlp:=@jfk c s (q3a hfew h) l (by omega)
   generalize qjg c l 0 ⟨s,[],[]⟩=Z at *
   simp[ir40,e49,e60,hn',qam]
   generalize hr:ev pg (.code (.going _ L40_0) _)=o
   obtain⟨r,rfl,hQ⟩:∃r,o=some r/\_:=by rw[<-hr];exact hlp (by simp[T22,h22])
   clear hr
   cases hQ with
   | ok k a hz hn0 hg he =>
    obtain⟨⟨t,S,C⟩,g,m⟩:=a
    obtain⟨f,hf,rfl⟩:=he
    subst hz
    by_cases hk0:k=0
    .have hc:=hn0 hk0
     simp only at hc
     obtain⟨rfl,rfl,rfl⟩:=Crs.mk.inj hc
     simp[T22,h22,hk0]
    .have hm1:m=1:=hg hk0
     subst hm1
     simp[T22,h22,hk0]
   | bad0 e hz x u he =>
    obtain⟨f,hf,rfl⟩:=he
    subst hz
    simp[zxs,qkj,zeroS]
   | bad1 i e hz a x u he =>
    obtain⟨f,hf,rfl⟩:=he
    subst hz
    simp[zxs,qkj,zeroS]
 .rw[if_neg h]
  have hb:(quE c s==0)=false:=by simpa using h
  generalize quE c s=e at *
  simp[ir40,e49,h,hb,qkj,zeroS]
end Go.Proofs.YtbepbclaoohngaaGreat
