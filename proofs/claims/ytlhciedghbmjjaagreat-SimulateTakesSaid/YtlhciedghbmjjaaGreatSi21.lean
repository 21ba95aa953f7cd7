/- Short courses, by the reference. Courses in time, plainly: they end, times do not go back, and a shorter course begins a longer one. -/
import Derived.Test.YtlhciedghbmjjaaGreatSi14
import Derived.Test.YtlhciedghbmjjaaGreatSi19
import Derived.KernelRfl
set_option linter.all false
namespace Go.Proofs.YtlhciedghbmjjaaGreat
open Go Go.Am Go.Proofs
set_option maxRecDepth 100000
set_option maxHeartbeats 4000000
def tT (u:Int) (x:Int × Int):Int:=u.tdiv x.1 + u.tdiv x.2 + 2
def tG (u:Int) (g:Sg):Int:=if g.kind=2 then u.tdiv g.delay + 1 else 0
def sT (u:Int) (l:List (Int × Int)):Int:=(l.map (tT u)).sum
def sG (u:Int) (l:List Sg):Int:=(l.map (tG u)).sum
theorem ztx (u:Int) (l:List (Int × Int)) (x:Int × Int):sT u (l++[x])=sT u l + tT u x:=by simp [sT]
theorem ztq (u:Int) (l:List Sg) (x:Sg):sG u (l++[x])=sG u l + tG u x:=by simp [sG]
theorem qvi {u a:Int} (hu:0≤u∧u≤1000000) (ha:1≤a):0≤u.tdiv a∧u.tdiv a≤1000000:=by
 have h1:=Int.tdiv_nonneg hu.1 (by omega:0≤a)
 have h2:=Int.tdiv_le_self a hu.1
 omega
theorem zll {u:Int} (hu:0≤u∧u≤1000000):∀ {l:List (Int × Int)},l.any qul=false→0≤sT u l∧sT u l≤2000002 * l.length
 | [],_=>by simp [sT]
 | x :: r,h=>by
  rw [List.any_cons,Bool.or_eq_false_iff] at h
  have ih:=zll hu h.2
  obtain ⟨p1,-,p3,-⟩:=qpg h.1
  have q1:=qvi hu p1
  have q2:=qvi hu p3
  have e:sT u (x :: r)=tT u x + sT u r:=by simp [sT]
  rw [e]
  unfold tT
  rw [List.length_cons]
  omega
theorem zuo {u:Int} (hu:0≤u∧u≤1000000):∀ {l:List Sg},(∀ g ∈ l,g.kind=2→1≤g.delay)→0≤sG u l∧sG u l≤1000001 * l.length
 | [],_=>by simp [sG]
 | x :: r,h=>by
  have ih:=zuo hu (fun g hg=>h g (List.mem_cons_of_mem _ hg))
  have e:sG u (x :: r)=tG u x + sG u r:=by simp [sG]
  rw [e]
  unfold tG
  rw [List.length_cons]
  split
  ·rename_i hk
   have q1:=qvi hu (h x (by simp) hk)
   omega
  ·omega
theorem zdu {c:Ct} (h:c.check=0):∀ g ∈ c.signals,g.kind=2→1≤g.delay:=by
 intro g hg hk
 obtain ⟨i,hi,rfl⟩:=List.getElem_of_mem hg
 have hz:=qrf h i c.signals[i] (List.getElem?_eq_getElem hi)
 unfold q1v at hz
 split at hz
 ·split at hz
  ·omega
  ·split at hz
   ·split at hz
    ·rename_i h1 h2 h3; exact absurd hz h3.2
    ·split at hz
     ·omega
     ·split at hz
      ·omega
      ·rename_i h5
       have:¬ (c.signals[i].delay < 1∨1000000 < c.signals[i].delay):=fun hh=>h5 ⟨hk,hh⟩
       omega
   ·rename_i h1 h2 h3; exact absurd hz h3
 ·rename_i h1; exact absurd hz h1
theorem qwj {m:Mch} (h:qej m=0):m.c.check=0∧m.ts.any qul=false∧(m.ts.length:Int)=m.c.act:=by
 unfold qej at h
 split at h
 ·rename_i h1
  unfold quc at h
  split at h
  ·cases h
  ·rename_i h2
   split at h
   ·cases h
   ·rename_i h3
    exact ⟨h1,by simpa using h3,by omega⟩
 ·rename_i h1; exact absurd h h1
def yT9 (u n:Int) (k:Nat):Tm:=[none,none,some (num u),some (.bptr 0 0),none,none,some (.bool false),some (num n),some (num k),none]++List.replicate 80 none
theorem z4p (m:Mch) {u:Int} (hu:0≤u∧u≤1000000) (ht:m.ts.any qul=false) (hl:m.ts.length≤40) {st:St} (h0:At (yT9 u 0 0) (qql m) st):∃ r,ev pg (.code (.going 1 L9_0) st)=some r∧qaj (.exit 0) (yT9 u (sT u m.ts) m.ts.length) (qql m) r:=by
 refine qdp (α:=Int) m.ts.length (fun k n=>yT9 u n k) (fun _ _=>qql m) (fun k n=>n=sT u (m.ts.take k)) _ ?_ ?_ 0 (by simp [sT]) h0
 ·rintro k n f hf hk hn
  have hk':(k:Int) < m.ts.length:=by omega
  have wk:=qab (n:=(k:Int) + 1) (by omega) (by omega)
  have hb:∀ j≤m.ts.length,(m.ts.take j).any qul=false:=fun j _=>by
   rw [List.any_eq_false] at ht ⊢
   exact fun x hx=>ht x (List.mem_of_mem_take hx)
  have hin:=zll hu (hb k (by omega))
  have hbx:=qpg (show qul m.ts[k]=false by
   rw [List.any_eq_false] at ht
   simpa using ht _ (List.getElem_mem hk))
  have hst:=ztx u (m.ts.take k) m.ts[k]
  rw [← qya hk,← hn] at hst
  rw [← hn] at hin
  rw [List.length_take] at hin
  have q1:=qvi hu hbx.1
  have q2:=qvi hu hbx.2.2.1
  have z1:¬ m.ts[k].1=0:=by omega
  have z2:¬ m.ts[k].2=0:=by omega
  have w1:=qab (n:=u.tdiv m.ts[k].1) (by omega) (by omega)
  have w2:=qab (n:=u.tdiv m.ts[k].2) (by omega) (by omega)
  have w3:=qab (n:=u.tdiv m.ts[k].1 + u.tdiv m.ts[k].2) (by omega) (by omega)
  have w4:=qab (n:=u.tdiv m.ts[k].1 + u.tdiv m.ts[k].2 + 2) (by omega) (by omega)
  have w5:=qab (n:=n + (u.tdiv m.ts[k].1 + u.tdiv m.ts[k].2 + 2)) (by omega) (by omega)
  have hst':n + (u.tdiv m.ts[k].1 + u.tdiv m.ts[k].2 + 2)=sT u (m.ts.take (k + 1)):=hst.symm
  refine (?_:∃ st,ev pg (.code L9_0 ⟨fill f 0 (yT9 u n k),qql m⟩)=some { st:=st }∧At (yT9 u (n + (u.tdiv m.ts[k].1 + u.tdiv m.ts[k].2 + 2)) (k + 1)) (qql m) (qos 1 st)).elim fun st h=>⟨_,h.1,.inl ⟨rfl,_,hst',h.2⟩⟩
  clear hst' hst hin hb
  simp [yT9,L9_0,hk,hk',wk,z1,z2,w1,w2,w3,w4,w5,hf.ne]
 ·rintro n f hf hn
  rw [List.take_length] at hn
  subst hn
  simp [yT9,L9_0,hf.ne]
def zer (u n:Int) (k:Nat):Tm:=[none,none,some (num u),some (.bptr 0 0),none,none,some (.bool false),some (num n),none,some (num k)]++List.replicate 80 none
theorem z2d (m:Mch) {u a:Int} (hu:0≤u∧u≤1000000) (ha:0≤a∧a≤100000000) (ht:∀ g ∈ m.c.signals,g.kind=2→1≤g.delay) (hl:m.c.signals.length≤128) {st:St} (h0:At (zer u a 0) (qql m) st):∃ r,ev pg (.code (.going 1 L9_1) st)=some r∧qaj (.exit 2) (zer u (a + sG u m.c.signals) m.c.signals.length) (qql m) r:=by
 refine qdp (α:=Int) m.c.signals.length (fun k n=>zer u n k) (fun _ _=>qql m) (fun k n=>n=a + sG u (m.c.signals.take k)) _ ?_ ?_ a (by simp [sG]) h0
 ·rintro k n f hf hk hn
  have hk':(k:Int) < m.c.signals.length:=by omega
  have wk:=qab (n:=(k:Int) + 1) (by omega) (by omega)
  have hin:=zuo hu (fun g hg=>ht g (List.mem_of_mem_take (i:=k) hg))
  have hst:=ztq u (m.c.signals.take k) m.c.signals[k]
  rw [← qya hk] at hst
  rw [List.length_take] at hin
  have hbx:=ht _ (List.getElem_mem hk)
  have hn':n + tG u m.c.signals[k]=a + sG u (m.c.signals.take (k + 1)):=by omega
  refine (?_:∃ st,ev pg (.code L9_1 ⟨fill f 0 (zer u n k),qql m⟩)=some { st:=st }∧At (zer u (n + tG u m.c.signals[k]) (k + 1)) (qql m) (qos 1 st)).elim fun st h=>⟨_,h.1,.inl ⟨rfl,_,hn',h.2⟩⟩
  clear hst hn'
  unfold tG
  by_cases hkd:m.c.signals[k].kind=2
  ·rw [if_pos hkd]
   have hd:=hbx hkd
   have q1:=qvi hu hd
   have z1:¬ m.c.signals[k].delay=0:=by omega
   have w1:=qab (n:=u.tdiv m.c.signals[k].delay) (by omega) (by omega)
   have w4:=qab (n:=u.tdiv m.c.signals[k].delay + 1) (by omega) (by omega)
   have w5:=qab (n:=n + (u.tdiv m.c.signals[k].delay + 1)) (by omega) (by omega)
   clear hin hbx
   simp [zer,L9_1,hk,hk',wk,hkd,z1,w1,w4,w5,hf.ne]
  ·rw [if_neg hkd,Int.add_zero]
   clear hin hbx
   simp [zer,L9_1,hk,hk',wk,hkd,hf.ne]
 ·rintro n f hf hn
  rw [List.take_length] at hn
  subst hn
  simp [zer,L9_1,hf.ne]
def qyz (m:Mch) (l:List Prs) (u:Int):Bool :=
 if (!m.few || (decide (12 < l.length) && decide (l.length≤256)) || decide (512 < l.length))=true then false
 else if qez m l u ≠ 0 then true else decide (sT u m.ts + sG u m.c.signals≤60)
theorem qun {m:Mch} (h:m.few=true):m.c.small=true∧m.ts.length≤40:=by
 unfold Mch.few at h
 rw [Bool.and_eq_true,decide_eq_true_eq] at h
 exact ⟨zcf h.1,h.2⟩
theorem ev9 (m:Mch) (l:List Prs) (u:Int):ev pg (.call (.fn 9 [] []) [m.v,prs l,num u] [])=some { v:=.bool (qyz m l u),st:=⟨[],[]⟩ }:=by
 have e35:=ev35 m
 rw [qac,pg9]
 unfold qyz
 by_cases h1:m.few=true
 ·have hsm:=qun h1
  rw [h1] at e35
  by_cases h2:(decide (12 < l.length) && decide (l.length≤256))=true
  ·rw [if_pos (by simp only [h2,Bool.or_true,Bool.true_or])]
   simp only [Bool.and_eq_true,decide_eq_true_eq] at h2
   have a1:(12:Int) < l.length:=by omega
   have a2:(l.length:Int)≤256:=by omega
   simp [ir9,e35,a1,a2]
  ·by_cases h3:512 < l.length
   ·rw [if_pos (by simp [h3])]
    have a1:(12:Int) < l.length:=by omega
    have a2:¬ (l.length:Int)≤256:=by omega
    have a3:(512:Int) < l.length:=by omega
    simp [ir9,e35,a1,a2,a3]
   ·have h2:=eq_false_of_ne_true h2
    rw [if_neg (by simp [h1,h2,h3])]
    have e36:=ev36 m hsm.1 (by omega) l (by omega) u
    have a3:¬ (512:Int) < l.length:=by omega
    by_cases h4:qez m l u=0
    ·rw [if_neg (by simp [h4])]
     rw [h4] at e36
     obtain ⟨g1,g2,-,g4,g5⟩:=qey h4
     obtain ⟨t1,t2,t3⟩:=qwj g1
     have hsg:m.c.signals.length≤128:=by
      have:=hsm.1
      simp only [Ct.small,Bool.and_eq_true,decide_eq_true_eq] at this
      omega
     have hin:=zll ⟨g4,g5⟩ t2
     have hla:=@z4p m u ⟨g4,g5⟩ t2 hsm.2
     have hlb:=@z2d m u (sT u m.ts) ⟨g4,g5⟩ ⟨hin.1,by omega⟩ (zdu t1) hsg
     by_cases b1:12 < l.length
     ·simp only [b1,decide_true,Bool.true_and,decide_eq_false_iff_not] at h2
      omega
     ·have a1:¬ (12:Int) < l.length:=by omega
      simp [ir9,e35,e36,a1,a3,qag]
      generalize hr:ev pg (.code (.going _ L9_0) _)=o
      obtain ⟨r,rfl,f,hf,rfl⟩:∃ r,o=some r∧_:=by rw [← hr]; exact hla (by simp [yT9])
      clear hr
      simp [yT9,qag,hf.ne]
      generalize hr:ev pg (.code (.going _ L9_1) _)=o
      obtain ⟨r,rfl,f2,hf2,rfl⟩:∃ r,o=some r∧_:=by rw [← hr]; exact hlb (by simp [zer,hf.ne])
      clear hr
      simp [zer,hf2.ne]
    ·rw [if_pos h4]
     have hb:(qez m l u == 0)=false:=by simpa using h4
     generalize qez m l u=e at *
     by_cases b1:12 < l.length
     ·have a1:(12:Int) < l.length:=by omega
      have a2:¬ (l.length:Int)≤256:=by
       intro hh
       simp only [b1,decide_true,Bool.true_and,decide_eq_false_iff_not] at h2
       omega
      simp [ir9,e35,e36,a1,a2,a3,h4,hb]
     ·have a1:¬ (12:Int) < l.length:=by omega
      simp [ir9,e35,e36,a1,a3,h4,hb]
 ·have h1:=eq_false_of_ne_true h1
  rw [h1] at e35
  rw [if_pos (by simp [h1])]
  simp [ir9,e35]
theorem q9m {m:Mch} {l:List Prs} {u:Int} (h:qyz m l u=true):m.c.small=true∧m.ts.length≤40∧l.length≤512:=by
 unfold qyz at h
 split at h
 ·cases h
 ·rename_i h1
  simp only [Bool.or_eq_true,Bool.not_eq_true',decide_eq_true_eq,not_or,Bool.not_eq_false] at h1
  have:=qun h1.1.1
  exact ⟨this.1,this.2,by omega⟩
theorem qws {m:Mch} {u:Int}:∀ (f:Nat) (c:Cst) (En:List Ent) (C:List Int),En.length≤4096→4096 - En.length + c.l.length < f→∃ z,goS m u f c En C=some z∧∀ e,z=.inl e→e ≠ 0
 | 0,_,_,_,_,h=>by omega
 | f + 1,c,En,C,hn,h=>by
  unfold goS
  split
  ·exact ⟨_,rfl,fun e he=>by cases he⟩
  ·rename_i d hd
   split
   ·exact ⟨_,rfl,fun e he=>by cases he⟩
   ·split
    ·rename_i hk
     obtain ⟨p,r,hl⟩:=qrv (qgf hd) hk.1
     refine qws f _ _ _ hn ?_
     rw [hl] at h ⊢
     simp only [List.length_cons,List.tail_cons] at h ⊢
     omega
    ·split
     ·exact ⟨_,rfl,fun e he=>by cases he; decide⟩
     ·rename_i h4
      split
      ·refine qws f _ _ _ (by rw [List.length_append]; simp; omega) ?_
       have:(goC m c d).l.length≤c.l.length:=by
        simp only [goC,qxm]
        split
        ·simp
        ·exact Nat.le_refl _
       rw [List.length_append,List.length_singleton]
       omega
      ·rename_i he
       exact ⟨_,rfl,fun e h=>by cases h; exact he⟩
theorem qyd:∀ {r:List Due} {d:Due},∀ x ∈ d :: r,(quh d r).t≤x.t
 | [],d,x,hx=>by
  rw [List.mem_singleton] at hx
  rw [hx]
  exact Int.le_refl _
 | y :: r,d,x,hx=>by
  have e:quh d (y :: r)=quh (if y.t < d.t then y else d) r:=rfl
  rw [e]
  rcases List.mem_cons.1 hx with rfl | hx
  ·have:=qyd (r:=r) (d:=if y.t < x.t then y else x) _ (List.mem_cons_self ..)
   split at this <;> rename_i h
   ·rw [if_pos h]; omega
   ·rw [if_neg h]; exact this
  ·rcases List.mem_cons.1 hx with rfl | hx
   ·have:=qyd (r:=r) (d:=if x.t < d.t then x else d) _ (List.mem_cons_self ..)
    split at this <;> rename_i h
    ·rw [if_pos h]; exact this
    ·rw [if_neg h]; omega
   ·exact qyd x (List.mem_cons_of_mem _ hx)
theorem qjk {l:List Due} {d:Due} (h:qqy l=some d):∀ x ∈ l,d.t≤x.t:=by
 cases l with
 | nil=>cases h
 | cons a r =>
  simp only [qqy,Option.some.injEq] at h
  subst h
  exact qyd
theorem qrc {m:Mch} {s:Ste} {e t:List Int} {l:List Prs} {x:Due} (h:x ∈ qrn m s e t l):x ∈ qfe l∨(∃ i,i < s.ends.length∧qmj m s e i=some x)∨∃ i,i < s.timers.length∧qpe m s t i=some x:=by
 rcases List.mem_append.1 h with h | h
 ·exact .inl h
 ·rcases List.mem_append.1 h with h | h <;> (unfold upD at h; rw [List.mem_filterMap] at h; obtain ⟨i,hi,h⟩:=h)
  ·exact .inr (.inl ⟨i,List.mem_range.1 hi,h⟩)
  ·exact .inr (.inr ⟨i,List.mem_range.1 hi,h⟩)
theorem ztc {m:Mch} {s:Ste} {e t:List Int} {l:List Prs} {x:Due} (h:x ∈ qfe l):x ∈ qrn m s e t l:=List.mem_append.2 (.inl h)
theorem q5a {m:Mch} {s:Ste} {e t:List Int} {l:List Prs} {x:Due} {i:Nat} (hi:i < s.ends.length) (h:qmj m s e i=some x):x ∈ qrn m s e t l :=
 List.mem_append.2 (.inr (List.mem_append.2 (.inl (List.mem_filterMap.2 ⟨i,List.mem_range.2 hi,h⟩))))
theorem zix {m:Mch} {s:Ste} {e t:List Int} {l:List Prs} {x:Due} {i:Nat} (hi:i < s.timers.length) (h:qpe m s t i=some x):x ∈ qrn m s e t l :=
 List.mem_append.2 (.inr (List.mem_append.2 (.inr (List.mem_filterMap.2 ⟨i,List.mem_range.2 hi,h⟩))))
theorem qpc {l:List Int} {now:Int} {p:Nat→Bool} {i:Nat} (hi:i < l.length):((qgg l now p)[i]?).getD 0=if p i=false then now else (l[i]?).getD 0:=by
 unfold qgg qsc
 rw [List.getElem?_map,List.getElem?_range hi,Option.map_some,Option.getD_some]
 simp only [hi,true_and]
def SortP (l:List Prs):Prop:=l.Pairwise fun a b=>a.t≤b.t
def z5o (m:Mch) (c:Cst) (b:Int):Prop:=∀ x ∈ qrn m c.s c.e c.t c.l,b≤x.t
theorem SortP.tail {l:List Prs} (h:SortP l):SortP l.tail:=List.Pairwise.sublist (List.tail_sublist l) h
theorem zax {m:Mch} {c:Cst} {d:Due} (hd:d ∈ qrn m c.s c.e c.t c.l) (hk:d.e.kind=2):∃ p r,c.l=p :: r∧d=⟨p.t,⟨2,p.i,p.b⟩⟩:=by
 rcases qrc hd with h | ⟨i,_,h⟩ | ⟨i,_,h⟩
 ·cases hl:c.l with
  | nil=>rw [hl] at h; cases h
  | cons p r =>
   rw [hl] at h
   exact ⟨p,r,rfl,List.mem_singleton.1 h⟩
 ·unfold qmj at h
  split at h
  ·cases h; cases hk
  ·split at h
   ·cases h; cases hk
   ·cases h
 ·unfold qpe at h
  split at h
  ·cases h; cases hk
  ·cases h
theorem q4b {m:Mch} {c:Cst} {d:Due} (hd:nxD m c=some d) (hk:d.e.kind=2) (hs:SortP c.l):∀ x ∈ qfe c.l.tail,d.t≤x.t:=by
 obtain ⟨p,r,hl,rfl⟩:=zax (qgf hd) hk
 rw [hl] at hs ⊢
 intro x hx
 cases r with
 | nil=>cases hx
 | cons q r =>
  rw [List.tail_cons] at hx
  rw [List.mem_singleton.1 hx]
  exact (List.pairwise_cons.1 hs).1 q (List.mem_cons_self ..)
theorem zez {m:Mch} {c:Cst} {d:Due} (hd:nxD m c=some d) (hk:d.e.kind=2) (hs:SortP c.l):z5o m { c with l:=c.l.tail } d.t:=by
 intro x hx
 rcases qrc hx with h | ⟨i,hi,h⟩ | ⟨i,hi,h⟩
 ·exact q4b hd hk hs x h
 ·exact qjk hd x (q5a hi h)
 ·exact qjk hd x (zix hi h)
theorem zwm {m:Mch} {c:Cst} {d:Due} (hok:Cok m c) (hd:nxD m c=some d) (hs:SortP c.l) (hu:d.t≤1000000) (he:(qap m.c c.s d.e).2.2=0):z5o m (goC m c d) d.t:=by
 have hgo:=hok.go hd hu he
 have hT:=hgo.tim
 have hT0:=hok.tim
 intro x hx
 have hle:c.e.length=(goC m c d).s.ends.length:=by have:=hT.le; simp only [goC] at this ⊢; rw [qin] at this; exact this
 have hlt:c.t.length=(goC m c d).s.timers.length:=by have:=hT.lt; simp only [goC] at this ⊢; rw [qin] at this; exact this
 rcases qrc hx with h | ⟨i,hi,h⟩ | ⟨i,hi,h⟩
 ·simp only [goC,qxm] at h
  split at h
  ·rename_i hk; exact q4b hd hk hs x h
  ·exact qjk hd x (ztc h)
 ·have him:i < m.ts.length:=by have:=hT.lm; omega
  have hb:=hT.bm _ (List.getElem_mem him)
  have hg:((goC m c d).e[i]?).getD 0=if onE c.s (goC m c d).s d i=false then d.t else (c.e[i]?).getD 0:=qpc (by omega)
  cases ho:onE c.s (goC m c d).s d i with
  | false =>
   rw [ho,if_pos rfl] at hg
   unfold qmj at h
   rw [hg,List.getElem?_eq_getElem him,Option.getD_some] at h
   split at h
   ·cases h; simp only; omega
   ·split at h
    ·cases h; simp only; omega
    ·cases h
  | true =>
   rw [ho,if_neg (by decide)] at hg
   unfold onE at ho
   simp only [Bool.and_eq_true,decide_eq_true_eq] at ho
   refine qjk hd x (q5a (i:=i) (by have:=hT0.le; omega) ?_)
   unfold qmj at h ⊢
   rw [hg,ho.1] at h
   exact h
 ·have him:i < m.c.signals.length:=by have:=hT.ls; omega
  have hb:=hT.bd _ (List.getElem_mem him)
  have hg:((goC m c d).t[i]?).getD 0=if onT c.s (goC m c d).s d i=false then d.t else (c.t[i]?).getD 0:=qpc (by omega)
  cases ho:onT c.s (goC m c d).s d i with
  | false =>
   rw [ho,if_pos rfl] at hg
   unfold qpe at h
   rw [hg,List.getElem?_eq_getElem him,Option.map_some,Option.getD_some] at h
   split at h
   ·cases h; simp only; omega
   ·cases h
  | true =>
   rw [ho,if_neg (by decide)] at hg
   unfold onT at ho
   simp only [Bool.and_eq_true,decide_eq_true_eq] at ho
   refine qjk hd x (zix (i:=i) (by have:=hT0.lt; omega) ?_)
   unfold qpe at h ⊢
   rw [hg,ho.1] at h
   exact h
theorem zqz {m:Mch} {c:Cst} {d:Due} (hs:SortP c.l):SortP (goC m c d).l:=by
 simp only [goC,qxm]
 split
 ·exact hs.tail
 ·exact hs
theorem q3u {m:Mch} {u:Int} (hu:u≤1000000):∀ (f:Nat) (c:Cst) (En:List Ent) (C:List Int) (y:Lg) (b:Int),Cok m c→SortP c.l→z5o m c b→goS m u f c En C=some (.inr y) →
  ∃ R,y.en=En++R∧(∀ r ∈ R,b≤r.t∧r.t≤u)∧R.Pairwise fun p q=>p.t≤q.t
 | 0,_,_,_,_,_,_,_,_,h=>by cases h
 | f + 1,c,En,C,y,b,hok,hs,hb,h=>by
  unfold goS at h
  split at h
  ·cases h
   exact ⟨[],by simp,(fun r hr=>by cases hr),List.Pairwise.nil⟩
  ·rename_i d hd
   have hbd:=hb d (qgf hd)
   split at h
   ·cases h
    exact ⟨[],by simp,(fun r hr=>by cases hr),List.Pairwise.nil⟩
   ·rename_i hut
    split at h
    ·rename_i hk
     obtain ⟨R,e1,e2,e3⟩:=q3u hu f _ _ _ _ _ hok.drop hs.tail (zez hd hk.1 hs) h
     exact ⟨R,e1,fun r hr=>by have:=e2 r hr; omega,e3⟩
    ·split at h
     ·cases h
     ·split at h
      ·rename_i he
       obtain ⟨R,e1,e2,e3⟩:=q3u hu f _ _ _ _ _ (hok.go hd (by omega) he) (zqz hs) (zwm hok hd hs (by omega) he) h
       refine ⟨_ :: R,by rw [e1,List.append_assoc]; rfl,fun r hr=>?_,List.pairwise_cons.2 ⟨fun r hr=>(e2 r hr).1,e3⟩⟩
       rcases List.mem_cons.1 hr with rfl | hr
       ·simp only; omega
       ·have:=e2 r hr; omega
      ·cases h
theorem q7g {m:Mch} {l:List Prs} {u:Int} (h:qez m l u=0):SortP l:=by
 obtain ⟨-,-,hp,-,-⟩:=qey h
 have hz:=q1e hp
 generalize m.c.inputs.length=n at *
 have step:∀ k,(hk:k + 1 < l.length)→l[k].t≤l[k + 1].t:=by
  intro k hk
  have:=hz (k + 1) hk
  rw [qpj hk] at this
  have hk':k < l.length:=by omega
  simp only [qpk,List.getElem?_eq_getElem hk',Option.map_some,Option.getD_some] at this
  split at this
  ·cases this
  ·split at this
   ·cases this
   ·split at this
    ·cases this
    ·omega
 have far:∀ j k,(hj:j < l.length)→(hk:k < l.length)→j≤k→l[j].t≤l[k].t:=by
  intro j k hj hk hjk
  induction k with
  | zero =>
   have:j=0:=by omega
   subst this
   exact Int.le_refl _
  | succ k ih =>
   by_cases e:j=k + 1
   ·subst e; exact Int.le_refl _
   ·have:=ih (by omega) (by omega)
    have:=step k hk
    omega
 unfold SortP
 rw [List.pairwise_iff_getElem]
 intro i j hi hj hij
 exact far i j hi hj (by omega)
theorem q2l {m:Mch} (hs:m.c.small=true) {l:List Prs} {u:Int} (h:(qlz m l u).2=0) :
  qez m l u=0∧(qbk m.c).2.2=0∧Cok m (qhd m l)∧SortP l∧goS m u (4097 + l.length) (qhd m l) [] (qbk m.c).2.1=some (.inr (qlz m l u).1):=by
 obtain ⟨lg,h1,hg,h2,hc⟩:=zgw hs h
 refine ⟨hg,h2,qxs hs hg h2,q7g hg,?_⟩
 rw [h1]
 obtain ⟨z,hz,hne⟩:=qws (m:=m) (u:=u) (4097 + l.length) (qhd m l) [] (qbk m.c).2.1 (by simp) (by simp [qhd])
 unfold qkm at hc
 rcases hc with hc | ⟨hc,-⟩ | ⟨hc,-⟩
 ·exact hc
 ·rw [hz] at hc; cases hc
 ·rw [hz] at hc
  cases hc
  exact absurd rfl (hne 0 rfl)
end Go.Proofs.YtlhciedghbmjjaaGreat
