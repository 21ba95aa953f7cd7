/- Short courses, by the reference. Courses in time, plainly: they end, times do not go back, and a shorter course begins a longer one. Moves take their time, plainly. Moves, by the reference: plainly the same. What is next in a course, by the reference: the strokes. What is next in a course, by the reference: the timers. What is next in a course, by the reference: the first one. -/
import Derived.Test.YtlhciedghbmjjaaGreatSi19
import Derived.KernelRfl
import Derived.Test.YtlhciedghbmjjaaGreatSi12
import Derived.Test.YtlhciedghbmjjaaGreatSi8
set_option linter.all false
namespace Go.Proofs.YtlhciedghbmjjaaGreat
open Go Go.Am Go.Proofs
set_option maxRecDepth 100000
set_option maxHeartbeats 4000000
def tT(u:Int)(x:Int×Int):Int:=u.tdiv x.1+u.tdiv x.2+2
def tG(u:Int)(g:Sg):Int:=if g.kind=2 then u.tdiv g.delay+1 else 0
def sT(u:Int)(l:List (Int×Int)):Int:=(l.map (tT u)).sum
def sG(u:Int)(l:List Sg):Int:=(l.map (tG u)).sum
theorem zrd(u:Int)(l:List (Int×Int))(x:Int×Int):sT u (l++[x])=sT u l+tT u x:=by simp[sT]
theorem zpg(u:Int)(l:List Sg)(x:Sg):sG u (l++[x])=sG u l+tG u x:=by simp[sG]
theorem qxy{u a:Int}(hu:0<=u/\u<=1000000)(ha:1<=a):0<=u.tdiv a/\u.tdiv a<=1000000:=by
 have h1:=Int.tdiv_nonneg hu.1 (by omega:0<=a)
 have h2:=Int.tdiv_le_self a hu.1
 omega
theorem zjq{u:Int}(hu:0<=u/\u<=1000000):∀{l:List (Int×Int)},l.any qvz=false->0<=sT u l/\sT u l<=2000002*l.length
 | [],_=>by simp[sT]
 | x :: r,h=>by
  rw[List.any_cons,Bool.or_eq_false_iff]at h
  have ih:=zjq hu h.2
  obtain⟨p1,-,p3,-⟩:=qti h.1
  have q1:=qxy hu p1
  have q2:=qxy hu p3
  have e:sT u (x :: r)=tT u x+sT u r:=by simp[sT]
  rw[e]
  unfold tT
  rw[List.length_cons]
  omega
theorem z1r{u:Int}(hu:0<=u/\u<=1000000):∀{l:List Sg},(∀g∈l,g.kind=2->1<=g.delay)->0<=sG u l/\sG u l<=1000001*l.length
 | [],_=>by simp[sG]
 | x :: r,h=>by
  have ih:=z1r hu (fun g hg=>h g (List.mem_cons_of_mem _ hg))
  have e:sG u (x :: r)=tG u x+sG u r:=by simp[sG]
  rw[e]
  unfold tG
  rw[List.length_cons]
  split
  .rename_i hk
   have q1:=qxy hu (h x (by simp) hk)
   omega
  .omega
theorem z4y{c:Ct}(h:c.check=0):∀g∈c.signals,g.kind=2->1<=g.delay:=by
 intro g hg hk
 obtain⟨i,hi,rfl⟩:=List.getElem_of_mem hg
 have hz:=qsm h i c.signals[i] (jA hi)
 unfold q3r at hz
 split at hz
 .split at hz
  .omega
  .split at hz
   .split at hz
    .rename_i h1 h2 h3;exact absurd hz h3.2
    .split at hz
     .omega
     .split at hz
      .omega
      .rename_i h5
       have:¬(c.signals[i].delay<1\/1000000<c.signals[i].delay):=fun hh=>h5 ⟨hk,hh⟩
       omega
   .rename_i h1 h2 h3;exact absurd hz h3
 .rename_i h1;exact absurd hz h1
theorem q9r{m:Mch}(h:qft m=0):m.c.check=0/\m.ts.any qvz=false/\(m.ts.length:Int)=m.c.act:=by
 unfold qft at h
 split at h
 .rename_i h1
  unfold quc at h
  split at h
  .cases h
  .rename_i h2
   split at h
   .cases h
   .rename_i h3
    exact⟨h1,by simpa using h3,by omega⟩
 .rename_i h1;exact absurd h h1
def yT9(u n:Int)(k:Nat):Tm:=[none,none,some (num u),some (.bptr 0 0),none,none,some (.bool false),some (num n),some (num k),none]++List.replicate 80 none
theorem jej(m:Mch){u:Int}(hu:0<=u/\u<=1000000)(ht:m.ts.any qvz=false)(hl:m.ts.length<=40){st:St}(h0:At (yT9 u 0 0) (qsa m) st):∃r,ev pg (.code (.going 1 L9_0) st)=some r/\qag (.exit 0) (yT9 u (sT u m.ts) m.ts.length) (qsa m) r:=by
 refine qbn (α:=Int) m.ts.length (fun k n=>yT9 u n k) (fun _ _=>qsa m) (fun k n=>n=sT u (m.ts.take k)) _ ?_ ?_ 0 (by simp[sT]) h0
 .rintro k n f hf hk hn
  have hk':(k:Int)<m.ts.length:=by omega
  have wk:=qab (n:=(k:Int)+1) (by omega) (by omega)
  have hb:∀j≤m.ts.length,(m.ts.take j).any qvz=false:=fun j _=>by
   rw[List.any_eq_false]at ht ⊢
   exact fun x hx=>ht x (List.mem_of_mem_take hx)
  have hin:=zjq hu (hb k (by omega))
  have hbx:=qti (show qvz m.ts[k]=false by
   rw[List.any_eq_false]at ht
   simpa using ht _ (jH hk))
  have hst:=zrd u (m.ts.take k) m.ts[k]
  rw[<-quh hk,<-hn]at hst
  rw[<-hn]at hin
  rw[List.length_take]at hin
  have q1:=qxy hu hbx.1
  have q2:=qxy hu hbx.2.2.1
  have z1:¬m.ts[k].1=0:=by omega
  have z2:¬m.ts[k].2=0:=by omega
  have w1:=qab (n:=u.tdiv m.ts[k].1) (by omega) (by omega)
  have w2:=qab (n:=u.tdiv m.ts[k].2) (by omega) (by omega)
  have w3:=qab (n:=u.tdiv m.ts[k].1+u.tdiv m.ts[k].2) (by omega) (by omega)
  have w4:=qab (n:=u.tdiv m.ts[k].1+u.tdiv m.ts[k].2+2) (by omega) (by omega)
  have w5:=qab (n:=n+(u.tdiv m.ts[k].1+u.tdiv m.ts[k].2+2)) (by omega) (by omega)
  have hst':n+(u.tdiv m.ts[k].1+u.tdiv m.ts[k].2+2)=sT u (m.ts.take (k+1)):=hst.symm
  refine(?_:∃st,ev pg (.code L9_0 ⟨fill f 0 (yT9 u n k),qsa m⟩)=some { st:=st }/\At (yT9 u (n+(u.tdiv m.ts[k].1+u.tdiv m.ts[k].2+2)) (k+1)) (qsa m) (qkh 1 st)).elim fun st h=>⟨_,h.1,.inl ⟨rfl,_,hst',h.2⟩⟩
  clear hst' hst hin hb
  simp[yT9,L9_0,hk,hk',wk,z1,z2,w1,w2,w3,w4,w5,hf.ne]
 .rintro n f hf hn
  rw[List.take_length]at hn
  subst hn
  simp[yT9,L9_0,hf.ne]
def z8w(u n:Int)(k:Nat):Tm:=[none,none,some (num u),some (.bptr 0 0),none,none,some (.bool false),some (num n),none,some (num k)]++List.replicate 80 none
theorem jeo(m:Mch){u a:Int}(hu:0<=u/\u<=1000000)(ha:0<=a/\a<=100000000)(ht:∀g∈m.c.signals,g.kind=2->1<=g.delay)(hl:m.c.signals.length<=128){st:St}(h0:At (z8w u a 0) (qsa m) st):∃r,ev pg (.code (.going 1 L9_1) st)=some r/\qag (.exit 2) (z8w u (a+sG u m.c.signals) m.c.signals.length) (qsa m) r:=by
 refine qbn (α:=Int) m.c.signals.length (fun k n=>z8w u n k) (fun _ _=>qsa m) (fun k n=>n=a+sG u (m.c.signals.take k)) _ ?_ ?_ a (by simp[sG]) h0
 .rintro k n f hf hk hn
  have hk':(k:Int)<m.c.signals.length:=by omega
  have wk:=qab (n:=(k:Int)+1) (by omega) (by omega)
  have hin:=z1r hu (fun g hg=>ht g (List.mem_of_mem_take (i:=k) hg))
  have hst:=zpg u (m.c.signals.take k) m.c.signals[k]
  rw[<-quh hk]at hst
  rw[List.length_take]at hin
  have hbx:=ht _ (jH hk)
  have hn':n+tG u m.c.signals[k]=a+sG u (m.c.signals.take (k+1)):=by omega
  refine(?_:∃st,ev pg (.code L9_1 ⟨fill f 0 (z8w u n k),qsa m⟩)=some { st:=st }/\At (z8w u (n+tG u m.c.signals[k]) (k+1)) (qsa m) (qkh 1 st)).elim fun st h=>⟨_,h.1,.inl ⟨rfl,_,hn',h.2⟩⟩
  clear hst hn'
  unfold tG
  by_cases hkd:m.c.signals[k].kind=2
  .rw[if_pos hkd]
   have hd:=hbx hkd
   have q1:=qxy hu hd
   have z1:¬m.c.signals[k].delay=0:=by omega
   have w1:=qab (n:=u.tdiv m.c.signals[k].delay) (by omega) (by omega)
   have w4:=qab (n:=u.tdiv m.c.signals[k].delay+1) (by omega) (by omega)
   have w5:=qab (n:=n+(u.tdiv m.c.signals[k].delay+1)) (by omega) (by omega)
   clear hin hbx
   simp[z8w,L9_1,hk,hk',wk,hkd,z1,w1,w4,w5,hf.ne]
  .rw[if_neg hkd,Int.add_zero]
   clear hin hbx
   simp[z8w,L9_1,hk,hk',wk,hkd,hf.ne]
 .rintro n f hf hn
  rw[List.take_length]at hn
  subst hn
  simp[z8w,L9_1,hf.ne]
def qwy(m:Mch)(l:List Prs)(u:Int):Bool :=
 if(!m.few||(decide (12<l.length)&&decide (l.length<=256))||decide (512<l.length))=true then false
 else if qer m l u≠0 then true else decide (sT u m.ts+sG u m.c.signals<=60)
theorem qwi{m:Mch}(h:m.few=true):m.c.small=true/\m.ts.length<=40:=by
 unfold Mch.few at h
 rw[jE,jW]at h
 exact⟨zbj h.1,h.2⟩
theorem ev9(m:Mch)(l:List Prs)(u:Int):ev pg (.call (.fn 9 [] []) [m.v,prs l,num u] [])=some { v:=.bool (qwy m l u),st:=⟨[],[]⟩ }:=by
 have e35:=ev35 m
 rw[qac,pg9]
 unfold qwy
 by_cases h1:m.few=true
 .have hsm:=qwi h1
  rw[h1]at e35
  by_cases h2:(decide (12<l.length)&&decide (l.length<=256))=true
  .rw[if_pos (by simp only[h2,Bool.or_true,Bool.true_or])]
   simp only[jE,jW]at h2
   have a1:(12:Int)<l.length:=by omega
   have a2:(l.length:Int)<=256:=by omega
   simp[ir9,e35,a1,a2]
  .by_cases h3:512<l.length
   .rw[if_pos (by simp[h3])]
    have a1:(12:Int)<l.length:=by omega
    have a2:¬(l.length:Int)<=256:=by omega
    have a3:(512:Int)<l.length:=by omega
    simp[ir9,e35,a1,a2,a3]
   .have h2:=eq_false_of_ne_true h2
    rw[if_neg (by simp[h1,h2,h3])]
    have e36:=ev36 m hsm.1 (by omega) l (by omega) u
    have a3:¬(512:Int)<l.length:=by omega
    by_cases h4:qer m l u=0
    .rw[if_neg (by simp[h4])]
     rw[h4]at e36
     obtain⟨g1,g2,-,g4,g5⟩:=qhm h4
     obtain⟨t1,t2,t3⟩:=q9r g1
     have hsg:m.c.signals.length<=128:=by
      have:=hsm.1
      simp only[Ct.small,jE,jW]at this
      omega
     have hin:=zjq ⟨g4,g5⟩ t2
     have hla:=@jej m u ⟨g4,g5⟩ t2 hsm.2
     have hlb:=@jeo m u (sT u m.ts) ⟨g4,g5⟩ ⟨hin.1,by omega⟩ (z4y t1) hsg
     by_cases b1:12<l.length
     .simp only[b1,decide_true,Bool.true_and,decide_eq_false_iff_not]at h2
      omega
     .have a1:¬(12:Int)<l.length:=by omega
      simp[ir9,e35,e36,a1,a3,qaf]
      generalize hr:ev pg (.code (.going _ L9_0) _)=o
      obtain⟨r,rfl,f,hf,rfl⟩:∃r,o=some r/\_:=by rw[<-hr];exact hla (by simp[yT9])
      clear hr
      simp[yT9,qaf,hf.ne]
      generalize hr:ev pg (.code (.going _ L9_1) _)=o
      obtain⟨r,rfl,f2,hf2,rfl⟩:∃r,o=some r/\_:=by rw[<-hr];exact hlb (by simp[z8w,hf.ne])
      clear hr
      simp[z8w,hf2.ne]
    .rw[if_pos h4]
     have hb:(qer m l u==0)=false:=by simpa using h4
     generalize qer m l u=e at *
     by_cases b1:12<l.length
     .have a1:(12:Int)<l.length:=by omega
      have a2:¬(l.length:Int)<=256:=by
       intro hh
       simp only[b1,decide_true,Bool.true_and,decide_eq_false_iff_not]at h2
       omega
      simp[ir9,e35,e36,a1,a2,a3,h4,hb]
     .have a1:¬(12:Int)<l.length:=by omega
      simp[ir9,e35,e36,a1,a3,h4,hb]
 .have h1:=eq_false_of_ne_true h1
  rw[h1]at e35
  rw[if_pos (by simp[h1])]
  simp[ir9,e35]
theorem q0e{m:Mch}{l:List Prs}{u:Int}(h:qwy m l u=true):m.c.small=true/\m.ts.length<=40/\l.length<=512:=by
 unfold qwy at h
 split at h
 .cases h
 .rename_i h1
  simp only[Bool.or_eq_true,Bool.not_eq_true',jW,not_or,Bool.not_eq_false]at h1
  have:=qwi h1.1.1
  exact⟨this.1,this.2,by omega⟩
theorem z9b{m:Mch}{s:Ste}{e t:List Int}{l:List Prs}{x:Due}(h:x∈qpr m s e t l):x∈qga l\/(∃i,i<s.ends.length/\qfz m s e i=some x)\/∃i,i<s.timers.length/\qgw m s t i=some x:=by
 rcases jQ.1 h with h | h
 .exact .inl h
 .rcases jQ.1 h with h | h<;>(unfold upD at h;rw[List.mem_filterMap]at h;obtain⟨i,hi,h⟩:=h)
  .exact .inr (.inl ⟨i,List.mem_range.1 hi,h⟩)
  .exact .inr (.inr ⟨i,List.mem_range.1 hi,h⟩)
theorem qqm{l:List Int}{now:Int}{p:Nat->Bool}{i:Nat}(hi:i<l.length):((qbc l now p)[i]?).getD 0=if p i=false then now else(l[i]?).getD 0:=by
 unfold qbc qkz
 rw[List.getElem?_map,List.getElem?_range hi,Option.map_some,Option.getD_some]
 simp only[hi,true_and]
def SortP(l:List Prs):Prop:=l.Pairwise fun a b=>a.t<=b.t
theorem SortP.tail{l:List Prs}(h:SortP l):SortP l.tail:=List.Pairwise.sublist (List.tail_sublist l) h
def q7z(m:Mch)(v:Mov):Int:=if v.o=true then((m.ts[v.a.toNat]?).getD (0,0)).1 else((m.ts[v.a.toNat]?).getD (0,0)).2
def zcl(m:Mch)(out:List Mov)(k:Nat)(v:Mov):Prop:=∃j w,k<j/\out[j]?=some w/\w.a=v.a/\w.f<=v.f+q7z m v
structure MvI(m:Mch)(c:Cst)(out:List Mov)(L:List (Int×Nat)):Prop where
 act:∀v∈out,0<=v.a/\v.a<c.s.ends.length
 don:∀v∈out,v.t≠noT->v.t=v.f+q7z m v
 lat:∀a k,qub L a=some k->∃v,out[k]?=some v/\v.a=a
 las:∀(j:Nat) v,out[j]?=some v->∃k,qub L v.a=some k/\j<=k
 run:∀(k:Nat) v,out[k]?=some v->v.t=noT->zcl m out k v\/(qub L v.a=some k/\c.s.ends[v.a.toNat]?=some (if v.o=true then 1 else 3)/\c.e[v.a.toNat]?=some v.f)
theorem MvI.due{m:Mch}{c:Cst}{v:Mov}(h1:c.s.ends[v.a.toNat]?=some (if v.o=true then 1 else 3))(h2:c.e[v.a.toNat]?=some v.f):qfz m c.s c.e v.a.toNat=some ⟨v.f+q7z m v,⟨0,v.a.toNat,false⟩⟩:=by
 unfold qfz q7z
 rw[h1,h2]
 cases v.o<;>simp
theorem MvI.mid{m:Mch}{c:Cst}{out:List Mov}{L:List (Int×Nat)}(h:MvI m c out L)(hok:Cok m c){d:Due}(hd:nxD m c=some d)(F:List (Int×Bool)) :
  (∀v∈qlx out L ⟨d.t,d.e,F⟩,0<=v.a/\v.a<c.s.ends.length)/\(∀v∈qlx out L ⟨d.t,d.e,F⟩,v.t≠noT->v.t=v.f+q7z m v) /\
  (∀(k:Nat) v,(qlx out L ⟨d.t,d.e,F⟩)[k]?=some v->∃w,out[k]?=some w/\w.a=v.a)/\(∀(k:Nat) w,out[k]?=some w->∃v,(qlx out L ⟨d.t,d.e,F⟩)[k]?=some v/\v.a=w.a/\v.f=w.f) /\
  (∀(k:Nat) v,(qlx out L ⟨d.t,d.e,F⟩)[k]?=some v->v.t=noT->zcl m (qlx out L ⟨d.t,d.e,F⟩) k v\/(qub L v.a=some k/\c.s.ends[v.a.toNat]?=some (if v.o=true then 1 else 3)/\c.e[v.a.toNat]?=some v.f/\¬(d.e.kind=0/\d.e.idx=v.a))):=by
 have h0:=(hok.due d (qhv hd)).1.1
 by_cases hq:d.e.kind=0/\∃j q,qub L d.e.idx=some j/\out[j]?=some q/\q.t=noT
 .obtain⟨hk,j,q,hj,hqj,hqt⟩:=hq
  have hO:qlx out L ⟨d.t,d.e,F⟩=out.set j ⟨q.a,q.o,q.f,d.t⟩:=by
   unfold qlx
   simp only
   rw[if_pos hk,hj]
   simp only
   rw[hqj]
   simp only
   rw[if_pos hqt]
  rw[hO]
  obtain⟨q',hq1,hqa⟩:=h.lat _ _ hj
  rw[hqj]at hq1
  cases hq1
  have hqm:q∈out:=jR hqj
  have hjl:=(jG.1 hqj).1
  -- it takes its time
  have htime:d.t=q.f+q7z m q:=by
   rcases h.run j q hqj hqt with⟨j',w,g1,g2,g3,-⟩ | ⟨-,g1,g2⟩
   .obtain⟨k',g4,g5⟩:=h.las _ _ g2
    rw[g3,hqa,hj]at g4
    cases g4
    omega
   .have hdue:=MvI.due (m:=m) g1 g2
    rcases z9b (qhv hd)with hp | ⟨i,hi,hp⟩ | ⟨i,hi,hp⟩
    .cases hl:c.l with
     | nil=>rw[hl]at hp;cases hp
     | cons p r =>
      rw[hl]at hp
      simp only[qga,List.mem_singleton]at hp
      rw[hp]at hk
      cases hk
    .have hi2:i=q.a.toNat:=by
      have:d.e.idx=i:=by
       unfold qfz at hp
       split at hp
       .cases hp;rfl
       .split at hp
        .cases hp;rfl
        .cases hp
      omega
     rw[hi2,hdue]at hp
     cases hp
     rfl
    .unfold qgw at hp
     split at hp
     .cases hp;cases hk
     .cases hp
  have get:∀k:Nat,(out.set j ⟨q.a,q.o,q.f,d.t⟩)[k]?=if k=j then some ⟨q.a,q.o,q.f,d.t⟩else out[k]?:=by
   intro k
   by_cases hkj:k=j
   .subst hkj;rw[if_pos rfl,jN hjl]
   .rw[if_neg hkj,jO (fun e=>hkj e.symm)]
  refine⟨?_,?_,?_,?_,?_⟩
  .intro v hv
   rcases jT hv with hv | rfl
   .exact h.act v hv
   .exact h.act q hqm
  .intro v hv hvt
   rcases jT hv with hv | rfl
   .exact h.don v hv hvt
   .exact htime
  .intro k v hv
   rw[get]at hv
   split at hv
   .rename_i e;cases hv;exact⟨q,by rw[e];exact hqj,rfl⟩
   .exact⟨v,hv,rfl⟩
  .intro k w hw
   rw[get]
   split
   .rename_i e
    rw[e,hqj]at hw
    cases hw
    exact⟨_,rfl,rfl,rfl⟩
   .exact⟨w,hw,rfl,rfl⟩
  .intro k v hv hvt
   rw[get]at hv
   split at hv
   .cases hv
    simp only at hvt
    unfold noT at hvt
    omega
   .rename_i hkj
    rcases h.run k v hv hvt with⟨j',w,g1,g2,g3,g4⟩ | ⟨g1,g2,g3⟩
    .left
     by_cases hj':j'=j
     .rw[hj',hqj]at g2
      cases g2
      exact⟨j',⟨q.a,q.o,q.f,d.t⟩,g1,by rw[get,if_pos hj'],g3,g4⟩
     .exact⟨j',w,g1,by rw[get,if_neg hj'];exact g2,g3,g4⟩
    .refine .inr ⟨g1,g2,g3,fun hh=>?_⟩
     rw[<-hh.2,hj]at g1
     cases g1
     exact hkj rfl
 .have hO:qlx out L ⟨d.t,d.e,F⟩=out:=by
   unfold qlx
   simp only
   split
   .rename_i j hj
    split at hj
    .rename_i hk
     split
     .rename_i q hqj
      split
      .rename_i hqt
       exact absurd ⟨hk,j,q,hj,hqj,hqt⟩ hq
      .rfl
     .rfl
    .cases hj
   .rfl
  rw[hO]
  refine⟨h.act,h.don,fun k v hv=>⟨v,hv,rfl⟩,fun k w hw=>⟨w,hw,rfl,rfl⟩,fun k v hv hvt=>?_⟩
  rcases h.run k v hv hvt with g | ⟨g1,g2,g3⟩
  .exact .inl g
  .exact .inr ⟨g1,g2,g3,fun hh=>hq ⟨hh.1,k,v,by rw[hh.2];exact g1,hv,hvt⟩⟩
structure LatI(z:List Mov×List (Int×Nat)):Prop where
 lat:∀a k,qub z.2 a=some k->∃v,z.1[k]?=some v/\v.a=a
 las:∀(j:Nat) v,z.1[j]?=some v->∃k,qub z.2 v.a=some k/\j<=k
theorem LatI.begS{z:List Mov×List (Int×Nat)}(h:LatI z)(t:Int)(s:Int×Bool):LatI (begS t z s):=by
 refine⟨fun a k hk=>?_,fun j v hv=>?_⟩
 .simp only[Proofs.YtlhciedghbmjjaaGreat.begS]at hk ⊢
  rw[zbu]at hk
  split at hk
  .rename_i e
   cases hk
   exact⟨⟨s.1,s.2,t,noT⟩,by simp,e.symm⟩
  .obtain⟨v,h1,h2⟩:=h.lat a k hk
   exact⟨v,by rw[jI (jG.1 h1).1];exact h1,h2⟩
 .simp only[Proofs.YtlhciedghbmjjaaGreat.begS]at hv ⊢
  rw[zbu]
  by_cases hj:j<z.1.length
  .rw[jI hj]at hv
   split
   .exact⟨_,rfl,by omega⟩
   .exact h.las j v hv
  .rw[jJ (by omega)]at hv
   have h0:j-z.1.length=0:=by
    have:=(jG.1 hv).1
    simp at this
    omega
   rw[h0]at hv
   simp only[List.getElem?_cons_zero,jC]at hv
   subst hv
   rw[if_pos rfl]
   exact⟨_,rfl,by omega⟩
theorem LatI.begM{t:Int}:∀(s:List (Int×Bool)) {z:List Mov×List (Int×Nat)},LatI z->LatI (begM t s z)
 | [],_,h=>h
 | a :: r,_,h=>LatI.begM r (h.begS t a)
theorem jdt{out:List Mov}{j:Nat}{q:Mov}{t:Int}(hq:out[j]?=some q)(k:Nat):((out.set j ⟨q.a,q.o,q.f,t⟩)[k]?).map Mov.a=(out[k]?).map Mov.a:=by
 by_cases h:k=j
 .subst h
  rw[jN (jG.1 hq).1,hq]
  rfl
 .rw[jO (fun e=>h e.symm)]
theorem zlk(out:List Mov)(L:List (Int×Nat))(x:Ent)(k:Nat):((qlx out L x)[k]?).map Mov.a=(out[k]?).map Mov.a:=by
 unfold qlx
 split
 .split
  .rename_i q hq
   split
   .exact jdt hq k
   .rfl
  .rfl
 .rfl
theorem LatI.same{z:List Mov×List (Int×Nat)}(h:LatI z){out:List Mov}(ha:∀k:Nat,(out[k]?).map Mov.a=(z.1[k]?).map Mov.a):LatI (out,z.2):=by
 refine⟨fun a k hk=>?_,fun j v hv=>?_⟩
 .obtain⟨v,h1,h2⟩:=h.lat a k hk
  have:=ha k
  rw[h1]at this
  simp only[Option.map_some,jM]at this
  obtain⟨w,h3,h4⟩:=this
  exact⟨w,h3,by rw[h4,h2]⟩
 .have:=ha j
  rw[hv]at this
  simp only[Option.map_some]at this
  obtain⟨w,h3,h4⟩:=jM.1 this.symm
  obtain⟨k,h5,h6⟩:=h.las j w h3
  exact⟨k,by rw[<-h4];exact h5,h6⟩
theorem LatI.step{z:List Mov×List (Int×Nat)}(h:LatI z)(x:Ent):LatI (qnt z x):=LatI.begM _ (h.same (zlk z.1 z.2 x))
theorem q8q(en:List Ent):LatI (qdx en):=by
 have key:∀(en:List Ent) (z:List Mov×List (Int×Nat)),LatI z->LatI (en.foldl qnt z):=by
  intro en
  induction en with
  | nil=>intro z h;exact h
  | cons a r ih=>intro z h;exact ih _ (h.step a)
 exact key en _ ⟨fun a k h=>(by cases h),fun j v h=>(by simp at h)⟩
def q4i(out:List Mov)(k:Nat):Bool:=!((out.drop (k+1)).any fun w=>decide (w.a=((out[k]?).map Mov.a).getD 0))
theorem quw{z:List Mov×List (Int×Nat)}(h:LatI z){k:Nat}{v:Mov}(hv:z.1[k]?=some v):q4i z.1 k=true<->qub z.2 v.a=some k:=by
 unfold q4i
 rw[hv,Option.map_some,Option.getD_some,Bool.not_eq_true',List.any_eq_false]
 constructor
 .intro hn
  obtain⟨j,h1,h2⟩:=h.las k v hv
  by_cases e:j=k
  .rw[<-e];exact h1
  .obtain⟨w,h3,h4⟩:=h.lat _ _ h1
   refine absurd h4 ?_
   have:=hn w (List.mem_iff_getElem?.2 ⟨j-(k+1),by rw[List.getElem?_drop,show k+1+(j-(k+1))=j by omega];exact h3⟩)
   simpa using this
 .intro hl w hw
  obtain⟨i,hi⟩:=List.mem_iff_getElem?.1 hw
  rw[List.getElem?_drop]at hi
  simp only[jW]
  intro e
  obtain⟨j,h1,h2⟩:=h.las _ w hi
  rw[e,hl]at h1
  cases h1
  omega
def zkg(x:Ent)(out:List Mov)(k:Nat):List Mov :=
 match out[k]? with
 | some q=>if x.e.kind=0/\x.e.idx=q.a/\q.t=noT/\q4i out k=true then out.set k ⟨q.a,q.o,q.f,x.t⟩else out
 | none=>out
def zcf(x:Ent)(out:List Mov)(k:Nat):List Mov:=(List.range k).foldl (zkg x) out
theorem qtt(x:Ent)(out:List Mov)(k:Nat):zcf x out (k+1)=zkg x (zcf x out k) k:=by
 unfold zcf
 rw[List.range_succ,List.foldl_append]
 rfl
open Classical in
theorem zlm{z:List Mov×List (Int×Nat)}(h:LatI z)(x:Ent)(k:Nat):zcf x z.1 k=if(∃j,x.e.kind=0/\qub z.2 x.e.idx=some j/\j<k)then qlx z.1 z.2 x else z.1:=by
 induction k with
 | zero=>rw[if_neg (by rintro⟨j,-,-,hj⟩;omega)];rfl
 | succ k ih =>
  rw[qtt,ih]
  by_cases h1:∃j,x.e.kind=0/\qub z.2 x.e.idx=some j/\j<k
  .rw[if_pos h1,if_pos (h1.imp fun j g=>⟨g.1,g.2.1,by omega⟩)]
   obtain⟨j,g1,g2,g3⟩:=h1
   have hI:=h.same (zlk z.1 z.2 x)
   unfold zkg
   split
   .rename_i q hq
    split
    .rename_i hc
     have:=(quw hI hq).1 hc.2.2.2
     rw[<-hc.2.1,g2]at this
     cases this
     omega
    .rfl
   .rfl
  .rw[if_neg h1]
   unfold zkg
   split
   .rename_i q hq
    split
    .rename_i hc
     have hl:=(quw h hq).1 hc.2.2.2
     rw[<-hc.2.1]at hl
     rw[if_pos ⟨k,hc.1,hl,by omega⟩]
     unfold qlx
     rw[if_pos hc.1,hl]
     simp only
     rw[hq]
     simp only
     rw[if_pos hc.2.2.1]
    .rename_i hc
     by_cases h2:∃j,x.e.kind=0/\qub z.2 x.e.idx=some j/\j<k+1
     .rw[if_pos h2]
      obtain⟨j,g1,g2,g3⟩:=h2
      have hjk:j=k:=by
       apply Classical.byContradiction
       intro hne
       exact h1 ⟨j,g1,g2,by omega⟩
      subst hjk
      unfold qlx
      rw[if_pos g1,g2]
      simp only
      rw[hq]
      simp only
      obtain⟨v,g4,g5⟩:=h.lat _ _ g2
      rw[hq]at g4
      cases g4
      rw[if_neg fun hn=>hc ⟨g1,g5.symm,hn,(quw h hq).2 (by rw[g5];exact g2)⟩]
     .rw[if_neg h2]
   .rename_i hq
    by_cases h2:∃j,x.e.kind=0/\qub z.2 x.e.idx=some j/\j<k+1
    .exfalso
     obtain⟨j,g1,g2,g3⟩:=h2
     have hjk:j=k:=by
      apply Classical.byContradiction
      intro hne
      exact h1 ⟨j,g1,g2,by omega⟩
     subst hjk
     obtain⟨v,g4,-⟩:=h.lat _ _ g2
     rw[hq]at g4
     cases g4
    .rw[if_neg h2]
theorem z9r{z:List Mov×List (Int×Nat)}(h:LatI z)(x:Ent):zcf x z.1 z.1.length=qlx z.1 z.2 x:=by
 rw[zlm h x]
 split
 .rfl
 .rename_i hn
  unfold qlx
  split
  .rename_i j hj
   split at hj
   .rename_i hk
    obtain⟨v,g,-⟩:=h.lat _ _ hj
    exact absurd ⟨j,hk,hj,(jG.1 g).1⟩ hn
   .cases hj
  .rfl
def rkE(k:Int):Int:=if k=2 then 0 else if k=0 then 1 else 2
@[simp] theorem jgb:rkE 0=1:=by decide
@[simp] theorem jfy:rkE 1=2:=by decide
@[simp] theorem jfz:rkE 2=0:=by decide
abbrev Due.row5(d:Due):List V:=[num d.t,num (rkE d.e.kind),num d.e.kind,num d.e.idx,.bool d.e.val]
def BN(B:H):Prop:=B=[]\/B=[⟨0,.arr 0 []⟩]
abbrev qwt(h:H)(B:H)(D:List Due)(g w:Nat):H:=h++(⟨g,.arr w (D.map Due.row5)⟩ :: B)
theorem zrk{h B:H}(hc:qck h)(hB:BN B)(g w:Nat)(rows:List (List V)):qav (h.length+(B.length+1)) (h++(⟨g,.arr w rows⟩ :: B))=h++(⟨g,.arr w rows⟩ :: B):=by
 have:=qej (h:=h++(⟨g,.arr w rows⟩ :: B)) (qcl hc (by
  rcases hB with rfl | rfl<;>simp[qbg]))
 rwa [show(h++(⟨g,.arr w rows⟩ :: B):H).length=h.length+(B.length+1)by simp]at this
def qjr(x z n:Nat)(D:List Due)(g w k:Nat):Tm:=[some (.bptr x 0),none,none,none,some (.bptr z 0),some (.bool false),some (.sl n g w 0 D.length),none,some (num k)]++List.replicate 176 none
theorem zmc{h B:H}{x z ie it ge gt:Nat}{m:Mch}{s:Ste}{e t:List Int}{k0:Nat}(c:Crf h x ie it ge gt m s e t k0)(hB:BN B)(hz:z<h.length)(hT:Tim m s e t)(P:List Due)(hP:P.length<=10){g0 w0:Nat}(hw0:w0=5\/w0=0/\P=[]){st:St}(h0:At (qjr x z h.length P g0 w0 0) (qwt h B P g0 w0) st) :
  ∃r,ev pg (.code (.going (h.length+(B.length+1)) L76_0) st)=some r/\∃g w,(w=5\/w=0/\P++upD (qfz m s e) s.ends.length=[])/\qag (.exit 0) (qjr x z h.length (P++upD (qfz m s e) s.ends.length) g w s.ends.length) (qwt h B (P++upD (qfz m s e) s.ends.length) g w) r:=by
 have hxr:=fun r=>qbj (r:=r) c.hx
 have hir:=fun r=>qbj (r:=r) c.he
 have hlt:=qar c.hx
 have hne:=Nat.ne_of_lt hlt
 have hlti:=qar c.he
 have hnei:=Nat.ne_of_lt hlti
 have hnez:=Nat.ne_of_lt hz
 refine qbn (α:=Nat×Nat) s.ends.length (fun k a=>qjr x z h.length (P++upD (qfz m s e) k) a.1 a.2 k) (fun k a=>qwt h B (P++upD (qfz m s e) k) a.1 a.2) (fun k a=>a.2=5\/a.2=0/\P++upD (qfz m s e) k=[]) _ ?_ ?_ (g0,w0) (by simpa[upD]using hw0) (by simpa[upD]using h0)
 .rintro k ⟨g,w⟩ f hf hk hw
  have hk':(k:Int)<s.ends.length:=by omega
  have hke:k<e.length:=by have:=hT.le;omega
  have hkm:k<m.ts.length:=by have:=hT.lm;omega
  have hn:=hT.ne
  have wk:=qab (n:=(k:Int)+1) (by omega) (by omega)
  have b1:=hT.be _ (jH hke)
  have b2:=hT.bm _ (jH hkm)
  have w1:=qab (n:=e[k]+m.ts[k].1) (by omega) (by omega)
  have w2:=qab (n:=e[k]+m.ts[k].2) (by omega) (by omega)
  have hD:=qsp (qfz m s e) k
  have hle:=qgx (qfz m s e) k
  have e103:=ev103 s hk
  have hap:((P++upD (qfz m s e) k).length+1)*40<=140737488355328:=by rw[jF];omega
  have hdk:qfz m s e k=if s.ends[k]=1 then some ⟨e[k]+m.ts[k].1,⟨0,k,false⟩⟩else if s.ends[k]=3 then some ⟨e[k]+m.ts[k].2,⟨0,k,false⟩⟩else none:=by simp[qfz,hk,hke,hkm]
  have hD2:P++upD (qfz m s e) (k+1)=(P++upD (qfz m s e) k)++(qfz m s e k).toList:=by rw[hD,List.append_assoc]
  generalize P++upD (qfz m s e) (k+1)=D' at *
  generalize P++upD (qfz m s e) k=D at *
  generalize qfz m s e k=dk at *
  clear hD
  subst hD2
  have hcl:=fun(g2 w2:Nat) (rows:List (List V))=>zrk c.cm hB g2 w2 rows
  by_cases h1:s.ends[k]=1
  .rw[if_pos h1]at hdk
   subst hdk
   rw[h1]at e103
   simp only[Option.toList_some]
   refine(?_:∃st,ev pg (.code L76_0 ⟨fill f 0 (qjr x z h.length D g w k),qwt h B D g w⟩)=some { st:=st }/\At (qjr x z h.length (D++[⟨e[k]+m.ts[k].1,⟨0,k,false⟩⟩]) (g+1) 5 (k+1)) (qwt h B (D++[⟨e[k]+m.ts[k].1,⟨0,k,false⟩⟩]) (g+1) 5) (qkh (h.length+(B.length+1)) st)).elim fun st h=>⟨_,h.1,.inl ⟨rfl,(g+1,5),.inl rfl,h.2⟩⟩
   rcases hB with rfl | rfl<;>(simp only[List.length_nil,List.length_singleton,Nat.zero_add]at hcl)<;>rcases hw with rfl | ⟨rfl,rfl⟩<;>(simp[-qav,qjr,L76_0,hk,hk',hke,hkm,h1,e103,w1,w2,wk,hxr,hir,qap,qal,hap,hf.ne];rw[hcl];simp;try exact⟨by omega,by omega⟩)
  .rw[if_neg h1]at hdk
   have h1b:(s.ends[k]==1)=false:=by simpa using h1
   by_cases h3:s.ends[k]=3
   .rw[if_pos h3]at hdk
    subst hdk
    rw[h3]at e103
    simp only[Option.toList_some]
    refine(?_:∃st,ev pg (.code L76_0 ⟨fill f 0 (qjr x z h.length D g w k),qwt h B D g w⟩)=some { st:=st }/\At (qjr x z h.length (D++[⟨e[k]+m.ts[k].2,⟨0,k,false⟩⟩]) (g+1) 5 (k+1)) (qwt h B (D++[⟨e[k]+m.ts[k].2,⟨0,k,false⟩⟩]) (g+1) 5) (qkh (h.length+(B.length+1)) st)).elim fun st h=>⟨_,h.1,.inl ⟨rfl,(g+1,5),.inl rfl,h.2⟩⟩
    rcases hB with rfl | rfl<;>(simp only[List.length_nil,List.length_singleton,Nat.zero_add]at hcl)<;>rcases hw with rfl | ⟨rfl,rfl⟩<;>(simp[-qav,qjr,L76_0,hk,hk',hke,hkm,h3,e103,w1,w2,wk,hxr,hir,qap,qal,hap,hf.ne];rw[hcl];simp;try exact⟨by omega,by omega⟩)
   .rw[if_neg h3]at hdk
    subst hdk
    simp only[Option.toList_none,List.append_nil]
    have e103':ev pg (.call (.fn 103 [] []) [s.v,num k] [])=some { v:=.bool false,st:=⟨[],[]⟩ }:=by rw[e103];simp[h1,h3]
    refine(?_:∃st,ev pg (.code L76_0 ⟨fill f 0 (qjr x z h.length D g w k),qwt h B D g w⟩)=some { st:=st }/\At (qjr x z h.length D g w (k+1)) (qwt h B D g w) (qkh (h.length+(B.length+1)) st)).elim fun st h=>⟨_,h.1,.inl ⟨rfl,(g,w),hw,h.2⟩⟩
    rcases hB with rfl | rfl<;>(simp only[List.length_nil,List.length_singleton,Nat.zero_add]at hcl)<;>(simp[-qav,qjr,L76_0,hk,hk',e103',wk,hxr,hir,qap,qal,hf.ne];rw[hcl];exact⟨⟨by omega,by omega⟩,rfl⟩)
 .rintro⟨g,w⟩ f hf hw
  refine(?_:∃r,ev pg (.code L76_0 ⟨fill f 0 (qjr x z h.length (P++upD (qfz m s e) s.ends.length) g w s.ends.length),qwt h B (P++upD (qfz m s e) s.ends.length) g w⟩)=some r/\r.x ≠ .normal/\qag (.exit 0) (qjr x z h.length (P++upD (qfz m s e) s.ends.length) g w s.ends.length) (qwt h B (P++upD (qfz m s e) s.ends.length) g w) r).imp fun r h=>⟨h.1,h.2.1,g,w,hw,h.2.2⟩
  simp[-qav,qjr,L76_0,hxr,hf.ne]
def qku(x z n:Nat)(D:List Due)(g w k:Nat):Tm:=[some (.bptr x 0),none,none,none,some (.bptr z 0),some (.bool false),some (.sl n g w 0 D.length),none,none,none,some (num k)]++List.replicate 174 none
theorem zgv{h B:H}{x z ie it ge gt:Nat}{m:Mch}{s:Ste}{e t:List Int}{k0:Nat}(c:Crf h x ie it ge gt m s e t k0)(hB:BN B)(hz:z<h.length)(hT:Tim m s e t)(P:List Due)(hP:P.length<=5000){g0 w0:Nat}(hw0:w0=5\/w0=0/\P=[]){st:St}(h0:At (qku x z h.length P g0 w0 0) (qwt h B P g0 w0) st) :
  ∃r,ev pg (.code (.going (h.length+(B.length+1)) L76_1) st)=some r/\∃g w,(w=5\/w=0/\P++upD (qgw m s t) s.timers.length=[])/\qag (.exit 2) (qku x z h.length (P++upD (qgw m s t) s.timers.length) g w s.timers.length) (qwt h B (P++upD (qgw m s t) s.timers.length) g w) r:=by
 have hxr:=fun r=>qbj (r:=r) c.hx
 have hir:=fun r=>qbj (r:=r) c.ht
 have hlt:=qar c.hx
 have hne:=Nat.ne_of_lt hlt
 have hlti:=qar c.ht
 have hnei:=Nat.ne_of_lt hlti
 have hnez:=Nat.ne_of_lt hz
 refine qbn (α:=Nat×Nat) s.timers.length (fun k a=>qku x z h.length (P++upD (qgw m s t) k) a.1 a.2 k) (fun k a=>qwt h B (P++upD (qgw m s t) k) a.1 a.2) (fun k a=>a.2=5\/a.2=0/\P++upD (qgw m s t) k=[]) _ ?_ ?_ (g0,w0) (by simpa[upD]using hw0) (by simpa[upD]using h0)
 .rintro k ⟨g,w⟩ f hf hk hw
  have hk':(k:Int)<s.timers.length:=by omega
  have hke:k<t.length:=by have:=hT.lt;omega
  have hkm:k<m.c.signals.length:=by have:=hT.ls;omega
  have hn:=hT.nt
  have wk:=qab (n:=(k:Int)+1) (by omega) (by omega)
  have b1:=hT.bt _ (jH hke)
  have b2:=hT.bd _ (jH hkm)
  have w1:=qab (n:=t[k]+m.c.signals[k].delay) (by omega) (by omega)
  have hD:=qsp (qgw m s t) k
  have hle:=qgx (qgw m s t) k
  have hap:((P++upD (qgw m s t) k).length+1)*40<=140737488355328:=by rw[jF];omega
  have hdk:qgw m s t k=if s.timers[k]=1 then some ⟨t[k]+m.c.signals[k].delay,⟨1,k,false⟩⟩else none:=by simp[qgw,hk,hke,hkm]
  have hD2:P++upD (qgw m s t) (k+1)=(P++upD (qgw m s t) k)++(qgw m s t k).toList:=by rw[hD,List.append_assoc]
  generalize P++upD (qgw m s t) (k+1)=D' at *
  generalize P++upD (qgw m s t) k=D at *
  generalize qgw m s t k=dk at *
  clear hD
  subst hD2
  have hcl:=fun(g2 w2:Nat) (rows:List (List V))=>zrk c.cm hB g2 w2 rows
  by_cases h1:s.timers[k]=1
  .rw[if_pos h1]at hdk
   subst hdk
   simp only[Option.toList_some]
   refine(?_:∃st,ev pg (.code L76_1 ⟨fill f 0 (qku x z h.length D g w k),qwt h B D g w⟩)=some { st:=st }/\At (qku x z h.length (D++[⟨t[k]+m.c.signals[k].delay,⟨1,k,false⟩⟩]) (g+1) 5 (k+1)) (qwt h B (D++[⟨t[k]+m.c.signals[k].delay,⟨1,k,false⟩⟩]) (g+1) 5) (qkh (h.length+(B.length+1)) st)).elim fun st h=>⟨_,h.1,.inl ⟨rfl,(g+1,5),.inl rfl,h.2⟩⟩
   rcases hB with rfl | rfl<;>(simp only[List.length_nil,List.length_singleton,Nat.zero_add]at hcl)<;>rcases hw with rfl | ⟨rfl,rfl⟩<;>(simp[-qav,qaa,exT,qae,qku,L76_1,hk,hk',hke,hkm,h1,w1,wk,hxr,hir,qap,qal,hap,hf.ne];rw[hcl];simp;try exact⟨by omega,by omega⟩)
  .rw[if_neg h1]at hdk
   subst hdk
   have h1b:(s.timers[k]==1)=false:=by simpa using h1
   simp only[Option.toList_none,List.append_nil]
   refine(?_:∃st,ev pg (.code L76_1 ⟨fill f 0 (qku x z h.length D g w k),qwt h B D g w⟩)=some { st:=st }/\At (qku x z h.length D g w (k+1)) (qwt h B D g w) (qkh (h.length+(B.length+1)) st)).elim fun st h=>⟨_,h.1,.inl ⟨rfl,(g,w),hw,h.2⟩⟩
   rcases hB with rfl | rfl<;>(simp only[List.length_nil,List.length_singleton,Nat.zero_add]at hcl)<;>(simp[-qav,qku,L76_1,hk,hk',h1,h1b,wk,hxr,hir,qap,qal,hf.ne];rw[hcl];exact⟨⟨by omega,by omega⟩,rfl⟩)
 .rintro⟨g,w⟩ f hf hw
  refine(?_:∃r,ev pg (.code L76_1 ⟨fill f 0 (qku x z h.length (P++upD (qgw m s t) s.timers.length) g w s.timers.length),qwt h B (P++upD (qgw m s t) s.timers.length) g w⟩)=some r/\r.x ≠ .normal/\qag (.exit 2) (qku x z h.length (P++upD (qgw m s t) s.timers.length) g w s.timers.length) (qwt h B (P++upD (qgw m s t) s.timers.length) g w) r).imp fun r h=>⟨h.1,h.2.1,g,w,hw,h.2.2⟩
  simp[-qav,qku,L76_1,hxr,hf.ne]
def zkz(l:List Due):Prop:=l.Pairwise fun a b=>rkE a.e.kind<=rkE b.e.kind
theorem zkn{d:Due}{r:List Due}(h:zkz (d :: r)){k:Nat}(hk:k<r.length):rkE (qtz d (r.take k)).e.kind<=rkE r[k].e.kind:=by
 have hm:=qyf (d:=d) (r:=r.take k)
 unfold zkz at h
 have h2:=List.pairwise_cons.1 h
 rcases List.mem_cons.1 hm with hm | hm
 .rw[hm]
  exact h2.1 _ (jH hk)
 .obtain⟨j,hj,e⟩:=List.getElem_of_mem hm
  rw[<-e,List.getElem_take]
  rw[List.length_take]at hj
  exact List.pairwise_iff_getElem.1 h2.2 j k (by omega) hk (by omega)
def qtx(x z b n N:Nat)(g k:Nat):Tm:=[none,none,none,none,some (.bptr z 0),some (.bool false),some (.sl n g 5 0 N),none,none,none,none,some (.bptr b 0),some (num ((k:Int)+1))]++List.replicate 172 none
abbrev zid(h B:H)(D:List Due)(g:Nat)(c:Due):H:=h++(⟨g,.arr 5 (D.map Due.row5)⟩ :: (B++[⟨0,.box c.row5⟩]))
theorem zfv{h B:H}(hc:qck h)(hB:BN B){x z:Nat}(hz:z<h.length){d:Due}{r:List Due}{g:Nat}(hr:zkz (d :: r))(hl:r.length<=100000){st:St}(h0:At (qtx x z (h.length+(B.length+1)) h.length (r.length+1) g 0) (zid h B (d :: r) g d) st) :
  ∃q,ev pg (.code (.going (h.length+(B.length+2)) L76_2) st)=some q/\qag (.exit 4) (qtx x z (h.length+(B.length+1)) h.length (r.length+1) g r.length) (zid h B (d :: r) g (qtz d r)) q:=by
 have hnez:=Nat.ne_of_lt hz
 have hcl:∀(rows:List (List V)) (c:Due),qav (h.length+(B.length+2)) (h++(⟨g,.arr 5 rows⟩ :: (B++[⟨0,.box c.row5⟩])))=h++(⟨g,.arr 5 rows⟩ :: (B++[⟨0,.box c.row5⟩])):=fun rows c=>by
  have:=qej (h:=h++(⟨g,.arr 5 rows⟩ :: (B++[⟨0,.box c.row5⟩]))) (qcl hc (by
   rcases hB with rfl | rfl<;>simp[qbg]))
  rwa [show(h++(⟨g,.arr 5 rows⟩ :: (B++[⟨0,.box c.row5⟩])):H).length=h.length+(B.length+2)by simp]at this
 refine qcd r.length (fun k=>qtx x z (h.length+(B.length+1)) h.length (r.length+1) g k) (fun k=>zid h B (d :: r) g (qtz d (r.take k))) _ ?_ ?_ h0
 .intro k f hf hk
  have hk':(k:Int)<r.length:=by omega
  have wk:=qab (n:=(k:Int)+1+1) (by omega) (by omega)
  have hs:=q1o (d:=d) hk
  have hrk:=zkn hr hk
  generalize qtz d (r.take k)=M at *
  generalize qtz d (r.take (k+1))=M' at *
  subst hs
  have hk00:(0:Int)<=(k:Int)+1:=by omega
  have hq:¬rkE r[k].e.kind<rkE M.e.kind:=by omega
  by_cases h1:r[k].t<M.t
  .rw[if_pos h1]
   rcases hB with rfl | rfl<;>(simp only[List.length_nil,List.length_singleton,Nat.zero_add]at hcl)<;>(simp[-qav,qaa,exT,qae,qtx,L76_2,hk,hk',hk00,h1,wk,qap,qal,qdk,qcv,hf.ne];exact⟨by omega,hcl _ _⟩)
  .rw[if_neg h1]
   by_cases h2:r[k].t=M.t
   .rcases hB with rfl | rfl<;>(simp only[List.length_nil,List.length_singleton,Nat.zero_add]at hcl)<;>(simp[-qav,qaa,exT,qae,qtx,L76_2,hk,hk',hk00,h1,h2,hq,wk,qap,qal,qdk,qcv,hf.ne];exact⟨by omega,hcl _ _⟩)
   .have h2b:(r[k].t==M.t)=false:=by simpa using h2
    rcases hB with rfl | rfl<;>(simp only[List.length_nil,List.length_singleton,Nat.zero_add]at hcl)<;>(simp[-qav,qaa,exT,qae,qtx,L76_2,hk,hk',hk00,h1,h2,h2b,wk,qap,qal,qdk,qcv,hf.ne];exact⟨by omega,hcl _ _⟩)
 .intro f hf
  rw[List.take_length]
  simp[-qav,qtx,L76_2,hf.ne]
end Go.Proofs.YtlhciedghbmjjaaGreat
