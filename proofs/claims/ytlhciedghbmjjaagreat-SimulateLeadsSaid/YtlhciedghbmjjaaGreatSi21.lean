/- Short courses, by the reference. Courses in time, plainly: they end, times do not go back, and a shorter course begins a longer one. -/
import Derived.Test.YtlhciedghbmjjaaGreatSi14
import Derived.Test.YtlhciedghbmjjaaGreatSi19
import Derived.KernelRfl
set_option linter.all false
namespace Go.Proofs.YtlhciedghbmjjaaGreat
open Go Go.Am Go.Proofs
set_option maxRecDepth 100000
set_option maxHeartbeats 4000000
def tT (u:Int) (x:Int × Int):Int:=u.tdiv x.1 + u.tdiv x.2 + 2
def tG (u:Int) (g:Sg):Int:=if g.kind=2 then u.tdiv g.delay + 1 else 0
def sT (u:Int) (l:List (Int × Int)):Int:=(l.map (tT u)).sum
def sG (u:Int) (l:List Sg):Int:=(l.map (tG u)).sum
theorem zva (u:Int) (l:List (Int × Int)) (x:Int × Int):sT u (l++[x])=sT u l + tT u x:=by simp [sT]
theorem zyg (u:Int) (l:List Sg) (x:Sg):sG u (l++[x])=sG u l + tG u x:=by simp [sG]
theorem qux {u a:Int} (hu:0≤u∧u≤1000000) (ha:1≤a):0≤u.tdiv a∧u.tdiv a≤1000000:=by
 have h1:=Int.tdiv_nonneg hu.1 (by omega:0≤a)
 have h2:=Int.tdiv_le_self a hu.1
 omega
theorem zrk {u:Int} (hu:0≤u∧u≤1000000):∀ {l:List (Int × Int)},l.any qui=false→0≤sT u l∧sT u l≤2000002 * l.length
 | [],_=>by simp [sT]
 | x :: r,h=>by
  rw [List.any_cons,Bool.or_eq_false_iff] at h
  have ih:=zrk hu h.2
  obtain ⟨p1,-,p3,-⟩:=qtt h.1
  have q1:=qux hu p1
  have q2:=qux hu p3
  have e:sT u (x :: r)=tT u x + sT u r:=by simp [sT]
  rw [e]
  unfold tT
  rw [List.length_cons]
  omega
theorem zxl {u:Int} (hu:0≤u∧u≤1000000):∀ {l:List Sg},(∀ g ∈ l,g.kind=2→1≤g.delay)→0≤sG u l∧sG u l≤1000001 * l.length
 | [],_=>by simp [sG]
 | x :: r,h=>by
  have ih:=zxl hu (fun g hg=>h g (List.mem_cons_of_mem _ hg))
  have e:sG u (x :: r)=tG u x + sG u r:=by simp [sG]
  rw [e]
  unfold tG
  rw [List.length_cons]
  split
  ·rename_i hk
   have q1:=qux hu (h x (by simp) hk)
   omega
  ·omega
theorem q9q {c:Ct} (h:c.check=0):∀ g ∈ c.signals,g.kind=2→1≤g.delay:=by
 intro g hg hk
 obtain ⟨i,hi,rfl⟩:=List.getElem_of_mem hg
 have hz:=qqt h i c.signals[i] (List.getElem?_eq_getElem hi)
 unfold q1z at hz
 split at hz
 ·split at hz
  ·omega
  ·split at hz
   ·split at hz
    ·rename_i h1 h2 h3; exact absurd hz h3.2
    ·split at hz
     ·omega
     ·split at hz
      ·omega
      ·rename_i h5
       have:¬ (c.signals[i].delay < 1∨1000000 < c.signals[i].delay):=fun hh=>h5 ⟨hk,hh⟩
       omega
   ·rename_i h1 h2 h3; exact absurd hz h3
 ·rename_i h1; exact absurd hz h1
theorem q7e {m:Mch} (h:qfi m=0):m.c.check=0∧m.ts.any qui=false∧(m.ts.length:Int)=m.c.act:=by
 unfold qfi at h
 split at h
 ·rename_i h1
  unfold qry at h
  split at h
  ·cases h
  ·rename_i h2
   split at h
   ·cases h
   ·rename_i h3
    exact ⟨h1,by simpa using h3,by omega⟩
 ·rename_i h1; exact absurd h h1
def yT9 (u n:Int) (k:Nat):Tm:=[none,none,some (num u),some (.bptr 0 0),none,none,some (.bool false),some (num n),some (num k),none]++List.replicate 80 none
theorem z6u (m:Mch) {u:Int} (hu:0≤u∧u≤1000000) (ht:m.ts.any qui=false) (hl:m.ts.length≤40) {st:St} (h0:At (yT9 u 0 0) (qqd m) st):∃ r,ev pg (.code (.going 1 L9_0) st)=some r∧qai (.exit 0) (yT9 u (sT u m.ts) m.ts.length) (qqd m) r:=by
 refine qco (α:=Int) m.ts.length (fun k n=>yT9 u n k) (fun _ _=>qqd m) (fun k n=>n=sT u (m.ts.take k)) _ ?_ ?_ 0 (by simp [sT]) h0
 ·rintro k n f hf hk hn
  have hk':(k:Int) < m.ts.length:=by omega
  have wk:=qab (n:=(k:Int) + 1) (by omega) (by omega)
  have hb:∀ j≤m.ts.length,(m.ts.take j).any qui=false:=fun j _=>by
   rw [List.any_eq_false] at ht ⊢
   exact fun x hx=>ht x (List.mem_of_mem_take hx)
  have hin:=zrk hu (hb k (by omega))
  have hbx:=qtt (show qui m.ts[k]=false by
   rw [List.any_eq_false] at ht
   simpa using ht _ (List.getElem_mem hk))
  have hst:=zva u (m.ts.take k) m.ts[k]
  rw [← qyd hk,← hn] at hst
  rw [← hn] at hin
  rw [List.length_take] at hin
  have q1:=qux hu hbx.1
  have q2:=qux hu hbx.2.2.1
  have z1:¬ m.ts[k].1=0:=by omega
  have z2:¬ m.ts[k].2=0:=by omega
  have w1:=qab (n:=u.tdiv m.ts[k].1) (by omega) (by omega)
  have w2:=qab (n:=u.tdiv m.ts[k].2) (by omega) (by omega)
  have w3:=qab (n:=u.tdiv m.ts[k].1 + u.tdiv m.ts[k].2) (by omega) (by omega)
  have w4:=qab (n:=u.tdiv m.ts[k].1 + u.tdiv m.ts[k].2 + 2) (by omega) (by omega)
  have w5:=qab (n:=n + (u.tdiv m.ts[k].1 + u.tdiv m.ts[k].2 + 2)) (by omega) (by omega)
  have hst':n + (u.tdiv m.ts[k].1 + u.tdiv m.ts[k].2 + 2)=sT u (m.ts.take (k + 1)):=hst.symm
  refine (?_:∃ st,ev pg (.code L9_0 ⟨fill f 0 (yT9 u n k),qqd m⟩)=some { st:=st }∧At (yT9 u (n + (u.tdiv m.ts[k].1 + u.tdiv m.ts[k].2 + 2)) (k + 1)) (qqd m) (qok 1 st)).elim fun st h=>⟨_,h.1,.inl ⟨rfl,_,hst',h.2⟩⟩
  clear hst' hst hin hb
  simp [yT9,L9_0,hk,hk',wk,z1,z2,w1,w2,w3,w4,w5,hf.ne]
 ·rintro n f hf hn
  rw [List.take_length] at hn
  subst hn
  simp [yT9,L9_0,hf.ne]
def zeo (u n:Int) (k:Nat):Tm:=[none,none,some (num u),some (.bptr 0 0),none,none,some (.bool false),some (num n),none,some (num k)]++List.replicate 80 none
theorem z6r (m:Mch) {u a:Int} (hu:0≤u∧u≤1000000) (ha:0≤a∧a≤100000000) (ht:∀ g ∈ m.c.signals,g.kind=2→1≤g.delay) (hl:m.c.signals.length≤128) {st:St} (h0:At (zeo u a 0) (qqd m) st):∃ r,ev pg (.code (.going 1 L9_1) st)=some r∧qai (.exit 2) (zeo u (a + sG u m.c.signals) m.c.signals.length) (qqd m) r:=by
 refine qco (α:=Int) m.c.signals.length (fun k n=>zeo u n k) (fun _ _=>qqd m) (fun k n=>n=a + sG u (m.c.signals.take k)) _ ?_ ?_ a (by simp [sG]) h0
 ·rintro k n f hf hk hn
  have hk':(k:Int) < m.c.signals.length:=by omega
  have wk:=qab (n:=(k:Int) + 1) (by omega) (by omega)
  have hin:=zxl hu (fun g hg=>ht g (List.mem_of_mem_take (i:=k) hg))
  have hst:=zyg u (m.c.signals.take k) m.c.signals[k]
  rw [← qyd hk] at hst
  rw [List.length_take] at hin
  have hbx:=ht _ (List.getElem_mem hk)
  have hn':n + tG u m.c.signals[k]=a + sG u (m.c.signals.take (k + 1)):=by omega
  refine (?_:∃ st,ev pg (.code L9_1 ⟨fill f 0 (zeo u n k),qqd m⟩)=some { st:=st }∧At (zeo u (n + tG u m.c.signals[k]) (k + 1)) (qqd m) (qok 1 st)).elim fun st h=>⟨_,h.1,.inl ⟨rfl,_,hn',h.2⟩⟩
  clear hst hn'
  unfold tG
  by_cases hkd:m.c.signals[k].kind=2
  ·rw [if_pos hkd]
   have hd:=hbx hkd
   have q1:=qux hu hd
   have z1:¬ m.c.signals[k].delay=0:=by omega
   have w1:=qab (n:=u.tdiv m.c.signals[k].delay) (by omega) (by omega)
   have w4:=qab (n:=u.tdiv m.c.signals[k].delay + 1) (by omega) (by omega)
   have w5:=qab (n:=n + (u.tdiv m.c.signals[k].delay + 1)) (by omega) (by omega)
   clear hin hbx
   simp [zeo,L9_1,hk,hk',wk,hkd,z1,w1,w4,w5,hf.ne]
  ·rw [if_neg hkd,Int.add_zero]
   clear hin hbx
   simp [zeo,L9_1,hk,hk',wk,hkd,hf.ne]
 ·rintro n f hf hn
  rw [List.take_length] at hn
  subst hn
  simp [zeo,L9_1,hf.ne]
def qwn (m:Mch) (l:List Prs) (u:Int):Bool :=
 if (!m.few || (decide (12 < l.length) && decide (l.length≤256)) || decide (512 < l.length))=true then false
 else if qds m l u ≠ 0 then true else decide (sT u m.ts + sG u m.c.signals≤60)
theorem qvt {m:Mch} (h:m.few=true):m.c.small=true∧m.ts.length≤40:=by
 unfold Mch.few at h
 rw [Bool.and_eq_true,decide_eq_true_eq] at h
 exact ⟨zat h.1,h.2⟩
theorem ev9 (m:Mch) (l:List Prs) (u:Int):ev pg (.call (.fn 9 [] []) [m.v,prs l,num u] [])=some { v:=.bool (qwn m l u),st:=⟨[],[]⟩ }:=by
 have e35:=ev35 m
 rw [qac,pg9]
 unfold qwn
 by_cases h1:m.few=true
 ·have hsm:=qvt h1
  rw [h1] at e35
  by_cases h2:(decide (12 < l.length) && decide (l.length≤256))=true
  ·rw [if_pos (by simp only [h2,Bool.or_true,Bool.true_or])]
   simp only [Bool.and_eq_true,decide_eq_true_eq] at h2
   have a1:(12:Int) < l.length:=by omega
   have a2:(l.length:Int)≤256:=by omega
   simp [ir9,e35,a1,a2]
  ·by_cases h3:512 < l.length
   ·rw [if_pos (by simp [h3])]
    have a1:(12:Int) < l.length:=by omega
    have a2:¬ (l.length:Int)≤256:=by omega
    have a3:(512:Int) < l.length:=by omega
    simp [ir9,e35,a1,a2,a3]
   ·have h2:=eq_false_of_ne_true h2
    rw [if_neg (by simp [h1,h2,h3])]
    have e36:=ev36 m hsm.1 (by omega) l (by omega) u
    have a3:¬ (512:Int) < l.length:=by omega
    by_cases h4:qds m l u=0
    ·rw [if_neg (by simp [h4])]
     rw [h4] at e36
     obtain ⟨g1,g2,-,g4,g5⟩:=qey h4
     obtain ⟨t1,t2,t3⟩:=q7e g1
     have hsg:m.c.signals.length≤128:=by
      have:=hsm.1
      simp only [Ct.small,Bool.and_eq_true,decide_eq_true_eq] at this
      omega
     have hin:=zrk ⟨g4,g5⟩ t2
     have hla:=@z6u m u ⟨g4,g5⟩ t2 hsm.2
     have hlb:=@z6r m u (sT u m.ts) ⟨g4,g5⟩ ⟨hin.1,by omega⟩ (q9q t1) hsg
     by_cases b1:12 < l.length
     ·simp only [b1,decide_true,Bool.true_and,decide_eq_false_iff_not] at h2
      omega
     ·have a1:¬ (12:Int) < l.length:=by omega
      simp [ir9,e35,e36,a1,a3,qae]
      generalize hr:ev pg (.code (.going _ L9_0) _)=o
      obtain ⟨r,rfl,f,hf,rfl⟩:∃ r,o=some r∧_:=by rw [← hr]; exact hla (by simp [yT9])
      clear hr
      simp [yT9,qae,hf.ne]
      generalize hr:ev pg (.code (.going _ L9_1) _)=o
      obtain ⟨r,rfl,f2,hf2,rfl⟩:∃ r,o=some r∧_:=by rw [← hr]; exact hlb (by simp [zeo,hf.ne])
      clear hr
      simp [zeo,hf2.ne]
    ·rw [if_pos h4]
     have hb:(qds m l u == 0)=false:=by simpa using h4
     generalize qds m l u=e at *
     by_cases b1:12 < l.length
     ·have a1:(12:Int) < l.length:=by omega
      have a2:¬ (l.length:Int)≤256:=by
       intro hh
       simp only [b1,decide_true,Bool.true_and,decide_eq_false_iff_not] at h2
       omega
      simp [ir9,e35,e36,a1,a2,a3,h4,hb]
     ·have a1:¬ (12:Int) < l.length:=by omega
      simp [ir9,e35,e36,a1,a3,h4,hb]
 ·have h1:=eq_false_of_ne_true h1
  rw [h1] at e35
  rw [if_pos (by simp [h1])]
  simp [ir9,e35]
theorem qzk {m:Mch} {l:List Prs} {u:Int} (h:qwn m l u=true):m.c.small=true∧m.ts.length≤40∧l.length≤512:=by
 unfold qwn at h
 split at h
 ·cases h
 ·rename_i h1
  simp only [Bool.or_eq_true,Bool.not_eq_true',decide_eq_true_eq,not_or,Bool.not_eq_false] at h1
  have:=qvt h1.1.1
  exact ⟨this.1,this.2,by omega⟩
theorem qxc {m:Mch} {u:Int}:∀ (f:Nat) (c:Cst) (En:List Ent) (C:List Int),En.length≤4096→4096 - En.length + c.l.length < f→∃ z,goS m u f c En C=some z∧∀ e,z=.inl e→e ≠ 0
 | 0,_,_,_,_,h=>by omega
 | f + 1,c,En,C,hn,h=>by
  unfold goS
  split
  ·exact ⟨_,rfl,fun e he=>by cases he⟩
  ·rename_i d hd
   split
   ·exact ⟨_,rfl,fun e he=>by cases he⟩
   ·split
    ·rename_i hk
     obtain ⟨p,r,hl⟩:=qrz (qih hd) hk.1
     refine qxc f _ _ _ hn ?_
     rw [hl] at h ⊢
     simp only [List.length_cons,List.tail_cons] at h ⊢
     omega
    ·split
     ·exact ⟨_,rfl,fun e he=>by cases he; decide⟩
     ·rename_i h4
      split
      ·refine qxc f _ _ _ (by rw [List.length_append]; simp; omega) ?_
       have:(goC m c d).l.length≤c.l.length:=by
        simp only [goC,qxb]
        split
        ·simp
        ·exact Nat.le_refl _
       rw [List.length_append,List.length_singleton]
       omega
      ·rename_i he
       exact ⟨_,rfl,fun e h=>by cases h; exact he⟩
theorem qxp:∀ {r:List Due} {d:Due},∀ x ∈ d :: r,(quh d r).t≤x.t
 | [],d,x,hx=>by
  rw [List.mem_singleton] at hx
  rw [hx]
  exact Int.le_refl _
 | y :: r,d,x,hx=>by
  have e:quh d (y :: r)=quh (if y.t < d.t then y else d) r:=rfl
  rw [e]
  rcases List.mem_cons.1 hx with rfl | hx
  ·have:=qxp (r:=r) (d:=if y.t < x.t then y else x) _ (List.mem_cons_self ..)
   split at this <;> rename_i h
   ·rw [if_pos h]; omega
   ·rw [if_neg h]; exact this
  ·rcases List.mem_cons.1 hx with rfl | hx
   ·have:=qxp (r:=r) (d:=if x.t < d.t then x else d) _ (List.mem_cons_self ..)
    split at this <;> rename_i h
    ·rw [if_pos h]; exact this
    ·rw [if_neg h]; omega
   ·exact qxp x (List.mem_cons_of_mem _ hx)
theorem qlr {l:List Due} {d:Due} (h:qrn l=some d):∀ x ∈ l,d.t≤x.t:=by
 cases l with
 | nil=>cases h
 | cons a r =>
  simp only [qrn,Option.some.injEq] at h
  subst h
  exact qxp
theorem qyh {m:Mch} {s:Ste} {e t:List Int} {l:List Prs} {x:Due} (h:x ∈ qth m s e t l):x ∈ qfh l∨(∃ i,i < s.ends.length∧qoj m s e i=some x)∨∃ i,i < s.timers.length∧qpy m s t i=some x:=by
 rcases List.mem_append.1 h with h | h
 ·exact .inl h
 ·rcases List.mem_append.1 h with h | h <;> (unfold upD at h; rw [List.mem_filterMap] at h; obtain ⟨i,hi,h⟩:=h)
  ·exact .inr (.inl ⟨i,List.mem_range.1 hi,h⟩)
  ·exact .inr (.inr ⟨i,List.mem_range.1 hi,h⟩)
theorem zxs {m:Mch} {s:Ste} {e t:List Int} {l:List Prs} {x:Due} (h:x ∈ qfh l):x ∈ qth m s e t l:=List.mem_append.2 (.inl h)
theorem zjk {m:Mch} {s:Ste} {e t:List Int} {l:List Prs} {x:Due} {i:Nat} (hi:i < s.ends.length) (h:qoj m s e i=some x):x ∈ qth m s e t l :=
 List.mem_append.2 (.inr (List.mem_append.2 (.inl (List.mem_filterMap.2 ⟨i,List.mem_range.2 hi,h⟩))))
theorem zjb {m:Mch} {s:Ste} {e t:List Int} {l:List Prs} {x:Due} {i:Nat} (hi:i < s.timers.length) (h:qpy m s t i=some x):x ∈ qth m s e t l :=
 List.mem_append.2 (.inr (List.mem_append.2 (.inr (List.mem_filterMap.2 ⟨i,List.mem_range.2 hi,h⟩))))
theorem qwh {l:List Int} {now:Int} {p:Nat→Bool} {i:Nat} (hi:i < l.length):((qgb l now p)[i]?).getD 0=if p i=false then now else (l[i]?).getD 0:=by
 unfold qgb qsd
 rw [List.getElem?_map,List.getElem?_range hi,Option.map_some,Option.getD_some]
 simp only [hi,true_and]
def SortP (l:List Prs):Prop:=l.Pairwise fun a b=>a.t≤b.t
def z5d (m:Mch) (c:Cst) (b:Int):Prop:=∀ x ∈ qth m c.s c.e c.t c.l,b≤x.t
theorem SortP.tail {l:List Prs} (h:SortP l):SortP l.tail:=List.Pairwise.sublist (List.tail_sublist l) h
theorem zed {m:Mch} {c:Cst} {d:Due} (hd:d ∈ qth m c.s c.e c.t c.l) (hk:d.e.kind=2):∃ p r,c.l=p :: r∧d=⟨p.t,⟨2,p.i,p.b⟩⟩:=by
 rcases qyh hd with h | ⟨i,_,h⟩ | ⟨i,_,h⟩
 ·cases hl:c.l with
  | nil=>rw [hl] at h; cases h
  | cons p r =>
   rw [hl] at h
   exact ⟨p,r,rfl,List.mem_singleton.1 h⟩
 ·unfold qoj at h
  split at h
  ·cases h; cases hk
  ·split at h
   ·cases h; cases hk
   ·cases h
 ·unfold qpy at h
  split at h
  ·cases h; cases hk
  ·cases h
theorem q4j {m:Mch} {c:Cst} {d:Due} (hd:nxD m c=some d) (hk:d.e.kind=2) (hs:SortP c.l):∀ x ∈ qfh c.l.tail,d.t≤x.t:=by
 obtain ⟨p,r,hl,rfl⟩:=zed (qih hd) hk
 rw [hl] at hs ⊢
 intro x hx
 cases r with
 | nil=>cases hx
 | cons q r =>
  rw [List.tail_cons] at hx
  rw [List.mem_singleton.1 hx]
  exact (List.pairwise_cons.1 hs).1 q (List.mem_cons_self ..)
theorem zhq {m:Mch} {c:Cst} {d:Due} (hd:nxD m c=some d) (hk:d.e.kind=2) (hs:SortP c.l):z5d m { c with l:=c.l.tail } d.t:=by
 intro x hx
 rcases qyh hx with h | ⟨i,hi,h⟩ | ⟨i,hi,h⟩
 ·exact q4j hd hk hs x h
 ·exact qlr hd x (zjk hi h)
 ·exact qlr hd x (zjb hi h)
theorem zwp {m:Mch} {c:Cst} {d:Due} (hok:Cok m c) (hd:nxD m c=some d) (hs:SortP c.l) (hu:d.t≤1000000) (he:(qam m.c c.s d.e).2.2=0):z5d m (goC m c d) d.t:=by
 have hgo:=hok.go hd hu he
 have hT:=hgo.tim
 have hT0:=hok.tim
 intro x hx
 have hle:c.e.length=(goC m c d).s.ends.length:=by have:=hT.le; simp only [goC] at this ⊢; rw [qls] at this; exact this
 have hlt:c.t.length=(goC m c d).s.timers.length:=by have:=hT.lt; simp only [goC] at this ⊢; rw [qls] at this; exact this
 rcases qyh hx with h | ⟨i,hi,h⟩ | ⟨i,hi,h⟩
 ·simp only [goC,qxb] at h
  split at h
  ·rename_i hk; exact q4j hd hk hs x h
  ·exact qlr hd x (zxs h)
 ·have him:i < m.ts.length:=by have:=hT.lm; omega
  have hb:=hT.bm _ (List.getElem_mem him)
  have hg:((goC m c d).e[i]?).getD 0=if onE c.s (goC m c d).s d i=false then d.t else (c.e[i]?).getD 0:=qwh (by omega)
  cases ho:onE c.s (goC m c d).s d i with
  | false =>
   rw [ho,if_pos rfl] at hg
   unfold qoj at h
   rw [hg,List.getElem?_eq_getElem him,Option.getD_some] at h
   split at h
   ·cases h; simp only; omega
   ·split at h
    ·cases h; simp only; omega
    ·cases h
  | true =>
   rw [ho,if_neg (by decide)] at hg
   unfold onE at ho
   simp only [Bool.and_eq_true,decide_eq_true_eq] at ho
   refine qlr hd x (zjk (i:=i) (by have:=hT0.le; omega) ?_)
   unfold qoj at h ⊢
   rw [hg,ho.1] at h
   exact h
 ·have him:i < m.c.signals.length:=by have:=hT.ls; omega
  have hb:=hT.bd _ (List.getElem_mem him)
  have hg:((goC m c d).t[i]?).getD 0=if onT c.s (goC m c d).s d i=false then d.t else (c.t[i]?).getD 0:=qwh (by omega)
  cases ho:onT c.s (goC m c d).s d i with
  | false =>
   rw [ho,if_pos rfl] at hg
   unfold qpy at h
   rw [hg,List.getElem?_eq_getElem him,Option.map_some,Option.getD_some] at h
   split at h
   ·cases h; simp only; omega
   ·cases h
  | true =>
   rw [ho,if_neg (by decide)] at hg
   unfold onT at ho
   simp only [Bool.and_eq_true,decide_eq_true_eq] at ho
   refine qlr hd x (zjb (i:=i) (by have:=hT0.lt; omega) ?_)
   unfold qpy at h ⊢
   rw [hg,ho.1] at h
   exact h
theorem zec {m:Mch} {c:Cst} {d:Due} (hs:SortP c.l):SortP (goC m c d).l:=by
 simp only [goC,qxb]
 split
 ·exact hs.tail
 ·exact hs
theorem qxh {m:Mch} {u:Int} (hu:u≤1000000):∀ (f:Nat) (c:Cst) (En:List Ent) (C:List Int) (y:Lg) (b:Int),Cok m c→SortP c.l→z5d m c b→goS m u f c En C=some (.inr y) →
  ∃ R,y.en=En++R∧(∀ r ∈ R,b≤r.t∧r.t≤u)∧R.Pairwise fun p q=>p.t≤q.t
 | 0,_,_,_,_,_,_,_,_,h=>by cases h
 | f + 1,c,En,C,y,b,hok,hs,hb,h=>by
  unfold goS at h
  split at h
  ·cases h
   exact ⟨[],by simp,(fun r hr=>by cases hr),List.Pairwise.nil⟩
  ·rename_i d hd
   have hbd:=hb d (qih hd)
   split at h
   ·cases h
    exact ⟨[],by simp,(fun r hr=>by cases hr),List.Pairwise.nil⟩
   ·rename_i hut
    split at h
    ·rename_i hk
     obtain ⟨R,e1,e2,e3⟩:=qxh hu f _ _ _ _ _ hok.drop hs.tail (zhq hd hk.1 hs) h
     exact ⟨R,e1,fun r hr=>by have:=e2 r hr; omega,e3⟩
    ·split at h
     ·cases h
     ·split at h
      ·rename_i he
       obtain ⟨R,e1,e2,e3⟩:=qxh hu f _ _ _ _ _ (hok.go hd (by omega) he) (zec hs) (zwp hok hd hs (by omega) he) h
       refine ⟨_ :: R,by rw [e1,List.append_assoc]; rfl,fun r hr=>?_,List.pairwise_cons.2 ⟨fun r hr=>(e2 r hr).1,e3⟩⟩
       rcases List.mem_cons.1 hr with rfl | hr
       ·simp only; omega
       ·have:=e2 r hr; omega
      ·cases h
theorem q3r {m:Mch} {u U:Int} (hU:U≤1000000) (huU:u≤U):∀ (f:Nat) (c:Cst) (En:List Ent) (C:List Int) (y:Lg),Cok m c→SortP c.l→goS m U f c En C=some (.inr y) →
  ∃ x R,goS m u f c En C=some (.inr x)∧y.en=x.en++R∧∀ r ∈ R,u < r.t
 | 0,_,_,_,_,_,_,h=>by cases h
 | f + 1,c,En,C,y,hok,hs,h=>by
  by_cases hq:∃ d,nxD m c=some d∧u < d.t
  ·obtain ⟨d,hd,hlt⟩:=hq
   obtain ⟨R,e1,e2,-⟩:=qxh hU (f + 1) c En C y d.t hok hs (qlr hd) h
   refine ⟨⟨En,C,c.s⟩,R,?_,e1,fun r hr=>by have:=e2 r hr; omega⟩
   unfold goS
   rw [hd]
   simp only
   rw [if_pos hlt]
  ·unfold goS at h ⊢
   split at h
   ·rename_i hd
    cases h
    exact ⟨_,[],rfl,by simp,fun r hr=>by cases hr⟩
   ·rename_i d hd
    have hn:¬ u < d.t:=fun hh=>hq ⟨d,hd,hh⟩
    rw [if_neg hn]
    rw [if_neg (by omega)] at h
    split at h
    ·rename_i hk
     rw [if_pos hk]
     exact q3r hU huU f _ _ _ _ hok.drop hs.tail h
    ·rename_i hk
     rw [if_neg hk]
     split at h
     ·cases h
     ·rename_i h4
      rw [if_neg h4]
      split at h
      ·rename_i he
       rw [if_pos he]
       exact q3r hU huU f _ _ _ _ (hok.go hd (by omega) he) (zec hs) h
      ·cases h
theorem q8a {m:Mch} {l:List Prs} {u:Int} (h:qds m l u=0):SortP l:=by
 obtain ⟨-,-,hp,-,-⟩:=qey h
 have hz:=q1q hp
 generalize m.c.inputs.length=n at *
 have step:∀ k,(hk:k + 1 < l.length)→l[k].t≤l[k + 1].t:=by
  intro k hk
  have:=hz (k + 1) hk
  rw [qph hk] at this
  have hk':k < l.length:=by omega
  simp only [qpc,List.getElem?_eq_getElem hk',Option.map_some,Option.getD_some] at this
  split at this
  ·cases this
  ·split at this
   ·cases this
   ·split at this
    ·cases this
    ·omega
 have far:∀ j k,(hj:j < l.length)→(hk:k < l.length)→j≤k→l[j].t≤l[k].t:=by
  intro j k hj hk hjk
  induction k with
  | zero =>
   have:j=0:=by omega
   subst this
   exact Int.le_refl _
  | succ k ih =>
   by_cases e:j=k + 1
   ·subst e; exact Int.le_refl _
   ·have:=ih (by omega) (by omega)
    have:=step k hk
    omega
 unfold SortP
 rw [List.pairwise_iff_getElem]
 intro i j hi hj hij
 exact far i j hi hj (by omega)
theorem zbs {m:Mch} (hs:m.c.small=true) {l:List Prs} {u:Int} (h:(qik m l u).2=0) :
  qds m l u=0∧(qbb m.c).2.2=0∧Cok m (qgn m l)∧SortP l∧goS m u (4097 + l.length) (qgn m l) [] (qbb m.c).2.1=some (.inr (qik m l u).1):=by
 obtain ⟨lg,h1,hg,h2,hc⟩:=zet hs h
 refine ⟨hg,h2,qxy hs hg h2,q8a hg,?_⟩
 rw [h1]
 obtain ⟨z,hz,hne⟩:=qxc (m:=m) (u:=u) (4097 + l.length) (qgn m l) [] (qbb m.c).2.1 (by simp) (by simp [qgn])
 unfold qjs at hc
 rcases hc with hc | ⟨hc,-⟩ | ⟨hc,-⟩
 ·exact hc
 ·rw [hz] at hc; cases hc
 ·rw [hz] at hc
  cases hc
  exact absurd rfl (hne 0 rfl)
theorem znu {m:Mch} {l:List Prs} {u:Int} {x:Lg} (hg:qds m l u=0) (h2:(qbb m.c).2.2=0) (h:goS m u (4097 + l.length) (qgn m l) [] (qbb m.c).2.1=some (.inr x)):qik m l u=(x,0):=by
 unfold qik qjs
 rw [if_neg (by simp [hg]),if_neg (by simp [h2]),h]
 rfl
theorem q8s {m:Mch} {l:List Prs} {u U:Int} (h:qds m l U=0) (h0:0≤u) (h1:u≤U):qds m l u=0:=by
 obtain ⟨g1,g2,g3,g4,g5⟩:=qey h
 unfold qds
 rw [if_neg (by simp [g1]),if_neg (by omega),if_neg (by simp [g3]),if_neg (by omega)]
theorem q6s {m:Mch} (hs:m.c.small=true) {l:List Prs} {u U:Int} (h:(qik m l U).2=0) (h0:0≤u) (h1:u≤U) :
  (qik m l u).2=0∧∃ R,(qik m l U).1.en=(qik m l u).1.en++R∧∀ r ∈ R,u < r.t:=by
 obtain ⟨hg,h2,hok,hso,hgo⟩:=zbs hs h
 obtain ⟨-,-,-,-,g5⟩:=qey hg
 obtain ⟨x,R,e1,e2,e3⟩:=q3r g5 h1 _ _ _ _ _ hok hso hgo
 have:=znu (q8s hg h0 h1) h2 e1
 rw [this]
 exact ⟨rfl,R,e2,e3⟩
end Go.Proofs.YtlhciedghbmjjaaGreat
