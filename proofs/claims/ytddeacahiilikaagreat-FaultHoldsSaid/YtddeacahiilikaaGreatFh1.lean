/- Faults of actuators: what a fault forbids does not happen. -/
import Derived.Test.YtddeacahiilikaaGreatSt4
import Derived.Test.YtddeacahiilikaaGreatZ2
set_option linter.all false
namespace Go.Proofs.YtddeacahiilikaaGreat
open Go Go.Am Go.Proofs
set_option maxRecDepth 100000
def qsd(d:Ct)(F:Nat)(p:List Int)(i:Nat)(v:Int):Prop:=∃(g:Nat) (x:Sg),d.signals[g]?=some x/\x.kind=0/\x.on=.mk 0 v []/\p[i]?=some ((F+g:Nat):Int)
theorem zex{c:Ct}{k i v:Int}{A j:Nat}(hj:j<A)(h:qtd c k i v j=true\/qvo c k i v j=true):qhv c k i v A=true:=by
 cases hb:qhv c k i v A with
 | true=>rfl
 | false =>
  unfold qhv at hb
  have:=qww.1 hb j hj
  simp only[Bool.or_eq_false_iff]at this
  rcases h with h | h
  .rw[h]at this;exact absurd this.1 (by simp)
  .rw[h]at this;exact absurd this.2 (by simp)
theorem q4a{c:Ct}{k i:Int}{j:Nat}(hj:j<c.act.toNat)(hp:j<c.plus.length)(hm:j<c.minus.length) :
  (∀v,(v=0\/v=1)->qtd c k i v j=true->qsd (qcp c k i).d (qal c c.act.toNat) (qcp c k i).d.plus j v)/\(∀v,(v=0\/v=1)->qvo c k i v j=true->qsd (qcp c k i).d (qal c c.act.toNat) (qcp c k i).d.minus j v):=by
 generalize hA:c.act.toNat=A at *
 have hF:(qcp c k i)=qbo c k i A 1 (qbo c k i A 0 (qcs c k i A)):=by unfold qcp;rw[hA]
 rw[hF]
 obtain⟨s0,hs0⟩:∃s0,s0=qcs c k i A:=⟨_,rfl⟩
 obtain⟨s1,hs1⟩:∃s1,s1=qbo c k i A 0 s0:=⟨_,rfl⟩
 rw[<-hs0,<-hs1]
 have p0:s0.d.plus=c.plus:=by rw[hs0];rfl
 have m0:s0.d.minus=c.minus:=by rw[hs0];rfl
 have i0:s0.d.inputs=c.inputs:=by rw[hs0];rfl
 have i1:s1.d.inputs=c.inputs:=by rw[hs1,<-i0];rfl
 have c0:∀s:Fs,s.d.inputs=c.inputs->(qae s.d A:Int)=((qal c A+s.d.signals.length:Nat):Int):=fun s h=>by unfold qae qal;rw[h]
 have lp1:s1.d.plus=qeh (qtd c k i 0) (qae s0.d A) A c.plus:=by rw[hs1,<-p0];rfl
 have lm1:s1.d.minus=qeh (qvo c k i 0) (qae s0.d A) A c.minus:=by rw[hs1,<-m0];rfl
 have hpl1:j<s1.d.plus.length:=by rw[lp1,qef];exact hp
 have hml1:j<s1.d.minus.length:=by rw[lm1,qef];exact hm
 have P1:s1.d.plus[j]?=some (if qtd c k i 0 j=true then(qae s0.d A:Int)else c.plus[j]):=by rw[lp1];exact qng hp hj
 have M1:s1.d.minus[j]?=some (if qvo c k i 0 j=true then(qae s0.d A:Int)else c.minus[j]):=by rw[lm1];exact qng hm hj
 have P2:(qbo c k i A 1 s1).d.plus[j]?=some (if qtd c k i 1 j=true then(qae s1.d A:Int)else s1.d.plus[j]):=qng hpl1 hj
 have M2:(qbo c k i A 1 s1).d.minus[j]?=some (if qvo c k i 1 j=true then(qae s1.d A:Int)else s1.d.minus[j]):=qng hml1 hj
 -- the gates that are added
 have G0:qhv c k i 0 A=true->s1.d.signals[s0.d.signals.length]?=some (qsj (qfz s0.K (qby 0)) 0):=fun h=>by
  rw[hs1,qmg h]
  simp
 have G1:qhv c k i 1 A=true->(qbo c k i A 1 s1).d.signals[s1.d.signals.length]?=some (qsj (qfz s1.K (qby 1)) 1):=fun h=>by
  rw[qmg h]
  simp
 have L0:qhv c k i 0 A=true->s0.d.signals.length<s1.d.signals.length:=fun h=>by
  rw[hs1,qmg h]
  simp
 have G0':qhv c k i 0 A=true->(qbo c k i A 1 s1).d.signals[s0.d.signals.length]?=some (qsj (qfz s0.K (qby 0)) 0):=fun h=>by
  rw[zsk (L0 h),G0 h]
 constructor
 .intro v hv hs
  have hn:=zex hj (.inl hs)
  rcases hv with rfl | rfl
  .refine⟨s0.d.signals.length,_,G0' hn,rfl,rfl,?_⟩
   have h1:qtd c k i 1 j=false:=by
    simp only[qtd,beq_iff_eq]at hs ⊢
    rw[hs];rfl
   rw[P2,h1,if_neg (by simp)]
   rw[jA hpl1,if_pos hs,jC]at P1
   rw[P1,c0 s0 i0]
  .refine⟨s1.d.signals.length,_,G1 hn,rfl,rfl,?_⟩
   rw[P2,if_pos hs,c0 s1 i1]
 .intro v hv hs
  have hn:=zex hj (.inr hs)
  rcases hv with rfl | rfl
  .refine⟨s0.d.signals.length,_,G0' hn,rfl,rfl,?_⟩
   have h1:qvo c k i 1 j=false:=by
    simp only[qvo,beq_iff_eq]at hs ⊢
    rw[hs];rfl
   rw[M2,h1,if_neg (by simp)]
   rw[jA hml1,if_pos hs,jC]at M1
   rw[M1,c0 s0 i0]
  .refine⟨s1.d.signals.length,_,G1 hn,rfl,rfl,?_⟩
   rw[M2,if_pos hs,c0 s1 i1]
theorem qsm{c:Ct}{N:Nat}:∀{d:Nat} {s:Ste} {l:List Int} {t:Ste} {m:List Int},qev c N d s l=some (t,m)->qli c t=t
 | 0,_,_,_,_,h=>by cases h
 | d+1,s,l,t,m,h=>by
  rw[qev]at h
  split at h
  .rename_i hs
   cases h;exact qik.1 hs
  .exact qsm h
theorem q5m{c:Ct}{s t:Ste}{m:List Int}(h:qdd c s=some (t,m)):qli c t=t:=qsm h
theorem q6i{d:Ct}(hsm:d.small=true){s:Ste}(hs:stE d s=0){g:Nat}{x:Sg}{v:Int}(hg:d.signals[g]?=some x)(hk:x.kind=0)(ho:x.on=.mk 0 v []):(qfb d s).values[g]?=some (v==1):=by
 obtain⟨hc,hS⟩:=qhm hs
 have hgl:g<d.signals.length:=by
  rcases Nat.lt_or_ge g d.signals.length with h | h
  .exact h
  .rw[jX h]at hg;cases hg
 have hF:=q3c hS
 have hf:=zit (L:=qah s) (F:=qan s) (by rw[hF];exact zae hc hsm) hg hk (by rw[qtj hS,hF];unfold qal qae;omega)
 unfold qfb
 simp only
 rw[List.getElem?_drop,qvt,hf,ho,qol]
 simp[Ex.op,Ex.idx]
theorem zbz{d:Ct}{s:Ste}(hS:Shp d s){g:Nat}{x:Sg}(hg:d.signals[g]?=some x)(hk:x.kind=0){b:Bool}(hv:s.values[g]?=some b):(qwj d s).values[g]?=some b:=by
 have hgl:g<d.signals.length:=by
  rcases Nat.lt_or_ge g d.signals.length with h | h
  .exact h
  .rw[jX h]at hg;cases hg
 have ht:g<s.timers.length:=by rw[hS.t];exact hgl
 unfold qwj
 simp only
 rw[List.getElem?_map,qpp (qah s) hg hv (jA ht)]
 simp[qop,hk]
theorem q6v{s:Ste}{g:Nat}:(qah s)[qan s+g]?=s.values[g]?:=by
 have:=qkr s
 rw[<-this,List.getElem?_drop]
theorem qmw{d:Ct}(hsm:d.small=true){s t:Ste}{m:List Int}(hs:stE d s=0)(h:qdd d s=some (t,m)){p:List Int}{i:Nat}{v:Int}(hp:qsd d (qal d d.act.toNat) p i v):qdq (qah t) p i=(v==1):=by
 obtain⟨g,x,hg,hk,ho,hpi⟩:=hp
 have ht:=qkw hs h
 obtain⟨hc,hS⟩:=qhm ht
 have hfix:=q5m h
 have h1:=q6i hsm ht hg hk ho
 have hS':Shp d (qfb d t):=(qhm (qkc ht)).2
 have h2:=zbz hS' hg hk h1
 have h3:(qli d t).values[g]?=some (v==1):=h2
 rw[hfix]at h3
 unfold qdq
 rw[hpi]
 simp only[Option.map_some,Option.getD_some,Int.toNat_natCast]
 rw[<-q3c hS,q6v,h3]
 rfl
def qpc(s:Ste)(i:Nat):Prop:=s.valves[i]?=some false/\s.ends[i]?=some 0
def qly(s:Ste)(i:Nat):Prop:=(s.valves[i]?=some false/\s.ends[i]?=some 0)\/(s.valves[i]?=some true/\(s.ends[i]?=some 0\/s.ends[i]?=some 1\/s.ends[i]?=some 2))
theorem q0i{d:Ct}{s:Ste}{i:Nat}{b:Bool}(h:s.valves[i]?=some b):(qgr d s).valves[i]?=some (qpi d (qah s) i b):=by
 unfold qgr
 simp only
 rw[List.getElem?_mapIdx,h]
 rfl
theorem qow{s:Ste}{i:Nat}{b:Bool}{e:Int}(h:s.valves[i]?=some b)(h2:s.ends[i]?=some e):(qkb s).ends[i]?=some (qsq b e):=by
 unfold qkb
 simp only
 rw[List.getElem?_zipWith,h,h2]
theorem q3a{d:Ct}(hsm:d.small=true){s t:Ste}{a:List Int}(hs:stE d s=0)(h:qcy d s=some (t,a)){i:Nat}(hp:qsd d (qal d d.act.toNat) d.plus i 0)(hk:qpc s i):qpc t i:=by
 obtain⟨u,m,hu,rfl,_⟩:=qix h
 obtain⟨e1,e2,_⟩:=qiq hu
 have hl:=qmw hsm hs hu hp
 obtain⟨k1,k2⟩:=hk
 rw[<-e2]at k1
 rw[<-e1]at k2
 have v1:=q0i (d:=d) k1
 have hv:qpi d (qah u) i false=false:=by
  unfold qpi
  rw[hl]
  split<;>rfl
 rw[hv]at v1
 have g1:=qow (s:=qgr d u) v1 k2
 exact⟨v1,g1⟩
theorem q0t{d:Ct}(hsm:d.small=true){s t:Ste}{a:List Int}(hs:stE d s=0)(h:qcy d s=some (t,a)){i:Nat}(hp:qsd d (qal d d.act.toNat) d.minus i 0)(hk:qly s i):qly t i:=by
 obtain⟨u,m,hu,rfl,_⟩:=qix h
 obtain⟨e1,e2,_⟩:=qiq hu
 have hl:=qmw hsm hs hu hp
 have hl0:qdq (qah u) d.minus i=false:=hl
 have hval:∀b,qpi d (qah u) i b=true\/(b=false/\qpi d (qah u) i b=false):=by
  intro b
  unfold qpi
  rw[hl0]
  cases hb:qdq (qah u) d.plus i<;>cases b<;>simp
 rcases hk with⟨k1,k2⟩ | ⟨k1,k2⟩
 .rw[<-e2]at k1
  rw[<-e1]at k2
  have v1:=q0i (d:=d) k1
  have g1:=qow (s:=qgr d u) v1 k2
  rcases hval false with hb | ⟨_,hb⟩
  .rw[hb]at v1 g1
   exact .inr ⟨v1,.inr (.inl g1)⟩
  .rw[hb]at v1 g1
   exact .inl ⟨v1,g1⟩
 .rw[<-e2]at k1
  rw[<-e1]at k2
  have v1:=q0i (d:=d) k1
  have hb:qpi d (qah u) i true=true:=by
   rcases hval true with hb | ⟨h,_⟩
   .exact hb
   .cases h
  rw[hb]at v1
  rcases k2 with k2 | k2 | k2
  .exact .inr ⟨v1,.inr (.inl (qow (s:=qgr d u) v1 k2))⟩
  .exact .inr ⟨v1,.inr (.inl (qow (s:=qgr d u) v1 k2))⟩
  .exact .inr ⟨v1,.inr (.inr (qow (s:=qgr d u) v1 k2))⟩
theorem qvw{d:Ct}{K:Ste->Prop}(hK:∀s t a,stE d s=0->qcy d s=some (t,a)->K s->K t):∀{n:Nat} {s:Ste} {l:List Int} {t:Ste} {m:List Int},stE d s=0->qgb d n s l=some (t,m)->K s->K t
 | 0,_,_,_,_,_,h,_=>by cases h
 | n+1,s,l,t,m,hs,h,hk=>by
  rw[qgb]at h
  cases e:qcy d s with
  | none=>rw[e]at h;cases h
  | some x =>
   rw[e]at h
   simp only at h
   split at h
   .cases h;exact hk
   .have e':qcy d s=some (x.1,x.2):=e
    exact qvw hK (qlo hs e') h (hK _ _ _ hs e' hk)
theorem q5l{s:Ste}{x:Evn}{i:Nat}(hm:qvj s x=true)(hk:qpc s i):qpc (qes s x) i:=by
 unfold qes
 unfold qvj at hm
 split at hm
 .cases hm
 .split
  .rename_i h0
   refine⟨hk.1,?_⟩
   rw[if_neg (by omega),h0]at hm
   obtain⟨hi,he⟩:=q8c hm
   have hne:x.idx.toNat≠i:=by
    intro e
    have:=hk.2
    rw[<-e,jA hi,jC]at this
    omega
   simp only
   rw[jO hne]
   exact hk.2
  .split
   .exact hk
   .exact hk
theorem q4n{s:Ste}{x:Evn}{i:Nat}(hm:qvj s x=true)(hk:qly s i):qly (qes s x) i:=by
 unfold qes
 unfold qvj at hm
 split at hm
 .cases hm
 .split
  .rename_i h0
   rw[if_neg (by omega),h0]at hm
   obtain⟨hi,he⟩:=q8c hm
   by_cases hne:x.idx.toNat=i
   .subst hne
    have hg:=jA hi
    rcases hk with⟨_,k2⟩ | ⟨k1,k2⟩
    .rw[hg,jC]at k2
     omega
    .have h1:s.ends[x.idx.toNat]?=some 1:=by
      rw[hg]at k2 ⊢
      rw[jC]at k2 ⊢
      rw[jC,jC]at k2
      omega
     refine .inr ⟨k1,.inr (.inr ?_)⟩
     simp only
     rw[jN hi,if_pos h1]
   .unfold qly
    simp only
    rw[jO hne]
    exact hk
  .split
   .exact hk
   .exact hk
theorem zay{d:Ct}{K:Ste->Prop}(hK:∀s t a,stE d s=0->qcy d s=some (t,a)->K s->K t)(hH:∀s x,qvj s x=true->K s->K (qes s x)){s:Ste}{x:Evn}(hs:stE d s=0)(hk:K s)(h:(qay d s x).2.2=0):K (qay d s x).1:=by
 unfold qay at h ⊢
 split at h
 .cases h
 .rename_i h1
  rw[if_neg h1]
  split at h
  .rename_i h2
   rw[if_pos h2]
   unfold qjg at h ⊢
   cases e:qlg d (qes s x)with
   | none=>rw[e]at h;cases h
   | some y =>
    simp only
    exact qvw hK (qft hs h1 h2) (show qgb d 65 (qes s x) []=some (y.1,y.2)from e) (hH s x h2 hk)
  .cases h
theorem qyg{c:Ct}{i:Nat}(hi:i<c.act.toNat):qpc (qif c) i:=by
 unfold qpc qif qfb qja
 simp only
 rw[List.getElem?_replicate,if_pos hi,List.getElem?_replicate,if_pos hi]
 exact⟨rfl,rfl⟩
theorem zcf{s:Ste}{i:Nat}(h:qpc s i):qly s i:=.inl h
theorem q2t{s t:Ste}{i:Nat}(h:qpc t i):∀y∈qfh s t,y.1≠i:=by
 intro y hy he
 unfold qfh at hy
 rw[List.mem_filterMap]at hy
 obtain⟨j,_,hj⟩:=hy
 unfold qrq at hj
 split at hj
 .rename_i a b h1 h2
  split at hj
  .rename_i hc
   cases hj
   simp only at he
   have:j=i:=by omega
   subst this
   rw[h.2]at h2
   cases h2
   omega
  .cases hj
 .cases hj
theorem qzt{s t:Ste}{i:Nat}(h:qly t i):∀y∈qfh s t,y.1=i->y.2=true:=by
 intro y hy he
 unfold qfh at hy
 rw[List.mem_filterMap]at hy
 obtain⟨j,_,hj⟩:=hy
 unfold qrq at hj
 split at hj
 .rename_i a b h1 h2
  split at hj
  .rename_i hc
   cases hj
   simp only at he ⊢
   have:j=i:=by omega
   subst this
   rcases h with⟨_,h⟩ | ⟨_,h | h | h⟩<;>(rw[h]at h2;cases h2;first | rfl | omega)
  .cases hj
 .cases hj
end Go.Proofs.YtddeacahiilikaaGreat
