/- An event happens in a course, by the program. A course goes on to another state, by the reference. The law PlantStills, in Am: it returns true. A run goes on: what a run of all events, and of the first and of the other ones, come to. Courses in time, plainly. -/
import Derived.Test.YtlhciedghbmjjaaGreatSi6
import Derived.Test.YtlhciedghbmjjaaGreatBg1
import Derived.KernelRfl
import Derived.Test.YtlhciedghbmjjaaGreatAf1
import Derived.Test.YtlhciedghbmjjaaGreatLn1
import Derived.Test.YtlhciedghbmjjaaGreatSt2
set_option linter.all false
namespace Go.Proofs.YtlhciedghbmjjaaGreat
open Go Go.Am Go.Proofs
set_option maxRecDepth 100000
theorem q4z {h:H} (hc:qci h) {x:Nat} {o:Ob} (ho:qbl h.length o=o):qci (h.set x o):=by
 rw [qhs] at hc ⊢
 intro q hq
 rw [List.length_set]
 rcases List.mem_or_eq_of_mem_set hq with h1 | rfl
 ·exact hc q h1
 ·exact ho
theorem Sl.set {h:H} {l:List Int} {v:V} (hv:Sl h l v) {x:Nat} {o:Ob} {cs:List V} (hx:h[x]?=some ⟨0,.box cs⟩):Sl (h.set x o) l v:=by
 rcases hv with _ | ⟨i,g,hi⟩
 ·exact .imm
 ·refine .own i g ?_
  have hne:x ≠ i:=by
   rintro rfl
   rw [hx] at hi
   cases hi
  rw [List.getElem?_set_ne hne]
  exact hi
abbrev o0s:Ob:=⟨0,.arr 0 []⟩
abbrev zsf (x k:Nat) (d:Due) (n:List V):H:=[⟨0,.box [.bptr x 0]⟩,⟨0,.box d.row⟩,o0s,o0s,o0s,o0s,o0s,⟨0,.box n⟩,⟨0,.box [.fn 68 [] [.bptr (k + 1) 0]]⟩]
theorem zif {h:H} {x:Nat} {m:Mch} {s n:Ste} {ve vt:V} {l:List Prs} {d:Due} (hx:h[x]?=some ⟨0,.box (qkg m s ve vt l)⟩) (hc:qci h) {k:Nat} (hk:k=h.length) (r:H) (hr:∀ o ∈ r,∃ w rows,o=(⟨0,.arr w rows⟩:Ob)) :
  Hap (h++(zsf x k d n.cells++r)) x (k + 7) k (k + 8) (k + 1) m s n ve vt l d:=by
 subst hk
 have hlt:=qce hx
 refine ⟨qdo hc ?_,qcy hx,?_,?_,?_,?_⟩
 ·intro o ho
  rcases List.mem_append.1 ho with ho | ho
  ·have h9:(zsf x h.length d n.cells++r).length=9 + r.length:=by simp; omega
   rw [h9]
   simp only [zsf,List.mem_cons,List.not_mem_nil,or_false] at ho
   rcases ho with rfl | rfl | rfl | rfl | rfl | rfl | rfl | rfl | rfl <;> simp [qbl] <;> omega
  ·obtain ⟨w,rows,rfl⟩:=hr o ho
   rfl
 ·rw [qbd]; rfl
 ·rw [qbc]; rfl
 ·rw [qbd]; rfl
 ·rw [qbd]; rfl
def z2p (h:H) (x:Nat) (m:Mch) (s:Ste) (e t:List Int) (l:List Prs) (d:Due):R :=
 if (qhp m.c s d.e).2.2=0 then
  if begE s (qhp m.c s d.e).1=0 then { v:=.tup [q6j (zqo s (qhp m.c s d.e).1),qck (qhp m.c s d.e).2.1,num 0],st:=⟨[],h.set x ⟨0,.box (qkg m (qhp m.c s d.e).1 (qck (qgg e d.t (onE s (qhp m.c s d.e).1 d))) (qck (qgg t d.t (onT s (qhp m.c s d.e).1 d))) l)⟩⟩ }
  else { v:=.tup [q6j [],qck [],num (begE s (qhp m.c s d.e).1)],st:=⟨[],h⟩ }
 else { v:=.tup [q6j [],qck [],num (qhp m.c s d.e).2.2],st:=⟨[],h⟩ }
theorem ev41 {h:H} {x:Nat} {m:Mch} {s:Ste} {e t:List Int} {ve vt:V} {l:List Prs} (hx:h[x]?=some ⟨0,.box (qkg m s ve vt l)⟩) (hc:qci h) (hve:Sl h e ve) (hvt:Sl h t vt) (hT:Tim m s e t) (hs:s.small) (hfew:m.c.small=true) (d:Due)
  (hn:(qhp m.c s d.e).1.small) (hl1:(qhp m.c s d.e).2.2=0→(qhp m.c s d.e).1.ends.length=s.ends.length) (hl2:(qhp m.c s d.e).2.2=0→(qhp m.c s d.e).1.timers.length=s.timers.length) :
  ev pg (.call (.fn 41 [] []) [.bptr x 0,d.v] h)=some (z2p h x m s e t l d):=by
 have hck:=qde hc
 have hlt:=qce hx
 have hxr:=fun r=>qcy (r:=r) hx
 have e66:=ev66 m.c s hfew hs d.e
 have e67:=ev67 s (qhp m.c s d.e).1 hs hn
 unfold z2p
 generalize hZ:qhp m.c s d.e=Z at *
 obtain ⟨n,cf,er⟩:=Z
 simp only at *
 simp only [znc] at e66
 by_cases h1:er=0
 ·subst h1
  by_cases h2:begE s n=0
  ·have hl1:=hl1 rfl
   have hl2:=hl2 rfl
   have le:=hT.le
   have lt:=hT.lt
   have ne:=hT.ne
   have nt:=hT.nt
   have slm:∀ {a:List Int} {v:V} {h:H} (r:H),Sl h a v→Sl (h++r) a v:=fun r hv=>by
    rcases hv with _ | ⟨i,g,hi⟩
    ·exact .imm
    ·exact .own i g (qcy hi)
   have arrs:∀ rows:List (List V),∀ o ∈ ([⟨0,.arr 1 rows⟩,⟨0,.arr 0 []⟩]:H),∃ w rows,o=(⟨0,.arr w rows⟩:Ob):=fun rows o ho=>by
    simp only [List.mem_cons,List.not_mem_nil,or_false] at ho
    rcases ho with rfl | rfl
    ·exact ⟨1,rows,rfl⟩
    ·exact ⟨0,[],rfl⟩
   have hlow:∀ a b c:Nat,qeu 0 [.bptr a 0,.bptr b 0,.bptr c 0]=false:=fun a b c=>by simp
   -- the first list
   have hA:=zif (n:=n) (d:=d) hx hc (k:=h.length) rfl [] (fun o ho=>by cases ho)
   rw [List.append_nil] at hA
   have e69a:=ev69 (f:=70) (caps:=[.bptr (h.length + 7) 0,.bptr h.length 0,.bptr (h.length + 8) 0]) (h:=h++zsf x h.length d n.cells) (l:=e) (ve:=ve) d.t (p:=onE s n d) (slm _ hve) (by omega) (hlow _ _ _) (by simp) hA.cm
    (fun rows i hi=>by
     have hB:=zif (n:=n) (d:=d) hx hc (k:=h.length) rfl [⟨0,.arr 1 rows⟩,⟨0,.arr 0 []⟩] (arrs rows)
     rw [← List.append_assoc] at hB
     exact ev70 hB (by omega) (by omega))
   generalize hE:qgg e d.t (onE s n d)=E at *
   -- the second list
   have hx2:(h.set x ⟨0,.box (qkg m s (qck E) vt l)⟩)[x]?=some ⟨0,.box (qkg m s (qck E) vt l)⟩:=List.getElem?_set_self hlt
   have hvt2:Sl (h.set x ⟨0,.box (qkg m s (qck E) vt l)⟩) t vt:=hvt.set hx
   have hlow2:vt.low h.length=true:=by
    rcases hvt with _ | ⟨i,g,hi⟩
    ·rfl
    ·simp [qce hi]
   have hc2:qci (h.set x ⟨0,.box (qkg m s (qck E) vt l)⟩):=q4z hc (by simp [qbl,qcm,hlow2])
   have hlen2:h.length=(h.set x ⟨0,.box (qkg m s (qck E) vt l)⟩).length:=by simp
   have hA2:=zif (n:=n) (d:=d) hx2 hc2 (k:=h.length) hlen2 [] (fun o ho=>by cases ho)
   rw [List.append_nil] at hA2
   have e69b:=ev69 (f:=71) (caps:=[.bptr (h.length + 7) 0,.bptr h.length 0,.bptr (h.length + 8) 0]) (h:=h.set x ⟨0,.box (qkg m s (qck E) vt l)⟩++zsf x h.length d n.cells) (l:=t) (ve:=vt) d.t (p:=onT s n d) (slm _ hvt2) (by omega) (hlow _ _ _) (by simp) hA2.cm
    (fun rows i hi=>by
     have hB:=zif (n:=n) (d:=d) hx2 hc2 (k:=h.length) hlen2 [⟨0,.arr 1 rows⟩,⟨0,.arr 0 []⟩] (arrs rows)
     rw [← List.append_assoc] at hB
     exact ev71 hB (by omega) (by omega))
   generalize hT':qgg t d.t (onT s n d)=T at *
   have hck3:∀ r,qam h.length (h.set x ⟨0,.box (qkg m n (qck E) (qck T) l)⟩++r)=h.set x ⟨0,.box (qkg m n (qck E) (qck T) l)⟩:=fun r=>by
    have:=qde (h:=h.set x ⟨0,.box (qkg m n (qck E) (qck T) l)⟩) (q4z hc (by simp [qbl])) r
    rwa [List.length_set] at this
   have setl:∀ (o:Ob) (r:H),(h++r).set x o=h.set x o++r:=fun o r=>List.set_append_left _ _ hlt
   have setl2:∀ (o o':Ob) (r:H),(h.set x o++r).set x o'=h.set x o'++r:=fun o o' r=>by rw [List.set_append_left _ _ (by rw [List.length_set]; exact hlt),List.set_set]
   have gx:∀ (o:Ob) (r:H),(h.set x o++r)[x]?=some o:=fun o r=>qcy (List.getElem?_set_self hlt)
   have gr:∀ (o:Ob) (r:H) (k:Nat),(h.set x o++r)[h.length + k]?=r[k]?:=fun o r k=>by
    have:=qbd (h:=h.set x o) (r:=r) (k:=k)
    rwa [List.length_set] at this
   have gr0:∀ (o:Ob) (r:H),(h.set x o++r)[h.length]?=r[0]?:=fun o r=>gr o r 0
   generalize zqo s n=F at *
   rw [qac,pg41]
   simp [-qam,qaa,exT,qad,ir41,hck,hxr,e66,e67,h2,qbd,qbc,qio,qii,e69a,e69b,setl,setl2,gx,gr,gr0,hck3]
  ·generalize zqo s n=F at *
   generalize begE s n=q at *
   have h2b:(q == 0)=false:=by simpa using h2
   rw [qac,pg41]
   simp [-qam,qaa,exT,qad,ir41,hck,hxr,e66,e67,h2,h2b,qbd,qbc,qio,qii]
 ·have h1b:(er == 0)=false:=by simpa using h1
  rw [qac,pg41]
  simp [-qam,qaa,exT,qad,ir41,hck,hxr,e66,h1,h1b,qbd,qbc,qio,qii]
theorem qin (l:List Int) (now:Int) (p:Nat→Bool):(qgg l now p).length=l.length:=qwy _ _ _ _
structure Lie (c:Ct) (t:Ste):Prop where
 rdy:Rdy c t
 still:∃ a,qdj c t=some (t,a)
theorem q0z {c:Ct} {s:Ste} (h:Rdy c s) (he:(qji c s).2.2=0):Lie c (qji c s).1∧(qji c s).1.inputs=s.inputs:=by
 unfold qji at he ⊢
 cases hZ:qlr c s with
 | none=>rw [hZ] at he; simp at he
 | some x =>
  obtain ⟨t,m⟩:=x
  exact ⟨⟨⟨h.few,qmm h.st hZ⟩,qsm hZ⟩,q0e hZ⟩
theorem Lie.rest {c:Ct} {t:Ste} (h:Lie c t):(qqx c t).1=t∧(qqx c t).2.2=0:=by
 obtain ⟨a,ha⟩:=h.still
 unfold qqx qji
 rw [if_pos h.rdy.st,q7p ha]
 exact ⟨rfl,rfl⟩
def h6 (c:Ct) (s t:Ste):H:=[⟨0,.box c.cells⟩,⟨0,.box s.cells⟩,o0,o0,o0,o0,o0,⟨0,.box t.cells⟩,o0,o0,o0,o0,o0,⟨0,.box t.cells⟩,⟨0,.arr 1 ((qae t).map qic)⟩]
theorem Lie.quE {c:Ct} {t:Ste} (h:Lie c t):quE c t=0:=by
 obtain ⟨a,ha⟩:=h.still
 unfold Proofs.YtlhciedghbmjjaaGreat.quE qzt
 rw [if_pos h.rdy.st,ha]
 simp [qwc]
theorem Lie.run {c:Ct} {t:Ste} (h:Lie c t) {l:List Evn} (hl:l.length≤4096):z6s c t l=q2q c l 0 ⟨t,[],[]⟩:=by
 unfold z6s
 rw [if_pos h.quE,if_neg (by omega)]
theorem qvl {c:Ct} (hs:c.small=true) (hc:c.check=0) (he:(qbk c).2.2=0):Lie c (qbk c).1:=by
 rw [q9t c hc] at he ⊢
 unfold qqx qji at *
 rw [if_pos (qht hc)] at *
 cases hZ:qlr c (qnw c) with
 | none=>rw [hZ] at he; simp at he
 | some x =>
  obtain ⟨t,m⟩:=x
  exact ⟨⟨hs,qmm (qht hc) hZ⟩,qsm hZ⟩
structure Ent where
 t:Int
 e:Evn
 s:List (Int × Bool)
abbrev Ent.row (x:Ent):List V:=[num x.t,num x.e.kind,num x.e.idx,.bool x.e.val,q6j x.s]
abbrev z3h (l:List Ent):V:=.imm (l.map Ent.row)
structure Lg where
 en:List Ent
 cf:List Int
 st:Ste
structure Cst where
 s:Ste
 e:List Int
 t:List Int
 l:List Prs
def nxD (m:Mch) (c:Cst):Option Due:=qqy (qrn m c.s c.e c.t c.l)
def zqp (c:Cst) (d:Due):Bool:=decide ((c.s.inputs[d.e.idx.toNat]?).getD false=d.e.val)
def qxm (c:Cst) (d:Due):List Prs:=if d.e.kind=2 then c.l.tail else c.l
def goC (m:Mch) (c:Cst) (d:Due):Cst :=
 ⟨(qap m.c c.s d.e).1,qgg c.e d.t (onE c.s (qap m.c c.s d.e).1 d),qgg c.t d.t (onT c.s (qap m.c c.s d.e).1 d),qxm c d⟩
def goS (m:Mch) (u:Int):Nat→Cst→List Ent→List Int→Option (Int ⊕ Lg)
 | 0,_,_,_=>none
 | f + 1,c,En,C =>
  match nxD m c with
  | none=>some (.inr ⟨En,C,c.s⟩)
  | some d =>
   if u < d.t then some (.inr ⟨En,C,c.s⟩)
   else if d.e.kind=2∧zqp c d=true then goS m u f { c with l:=c.l.tail } En C
   else if En.length=4096 then some (.inl 12)
   else if (qap m.c c.s d.e).2.2=0 then goS m u f (goC m c d) (En++[⟨d.t,d.e,qcv c.s (qap m.c c.s d.e).1⟩]) (norm (qie m.c) (C++(qap m.c c.s d.e).2.1))
   else some (.inl (qap m.c c.s d.e).2.2)
structure Cok (m:Mch) (c:Cst):Prop where
 lie:Lie m.c c.s
 tim:Tim m c.s c.e c.t
 prs:∀ p ∈ c.l,0≤p.t∧p.t≤1000000∧0≤p.i∧p.i < m.c.inputs.length
theorem zhc {c:Ct} (h:c.check=0):∀ g ∈ c.signals,0≤g.delay∧g.delay≤1000000:=by
 intro g hg
 obtain ⟨i,hi,rfl⟩:=List.getElem_of_mem hg
 have hz:=qrf h i c.signals[i] (List.getElem?_eq_getElem hi)
 unfold q1v at hz
 split at hz
 ·split at hz
  ·omega
  ·split at hz
   ·split at hz
    ·rename_i h1 h2 h3; exact absurd hz h3.2
    ·split at hz
     ·omega
     ·split at hz
      ·omega
      ·rename_i h5
       split at hz
       ·omega
       ·rename_i h6
        by_cases hk:c.signals[i].kind=2
        ·have:¬ (c.signals[i].delay < 1∨1000000 < c.signals[i].delay):=fun hh=>h5 ⟨hk,hh⟩
         omega
        ·have:c.signals[i].delay=0:=by
          apply Classical.byContradiction
          intro hd
          exact h6 (.inr ⟨hk,hd⟩)
         omega
   ·rename_i h1 h2 h3; exact absurd hz h3
 ·rename_i h1; exact absurd hz h1
theorem qwd {l:List Int} {now:Int} {p:Nat→Bool} {x:Int} (h:x ∈ qgg l now p):x=now∨x ∈ l:=by
 unfold qgg qsc at h
 rw [List.mem_map] at h
 obtain ⟨i,hi,rfl⟩:=h
 have hi:=List.mem_range.1 hi
 split
 ·exact .inl rfl
 ·right
  rw [List.getElem?_eq_getElem hi]
  exact List.getElem_mem hi
theorem Cok.due {m:Mch} {c:Cst} (h:Cok m c):∀ d ∈ qrn m c.s c.e c.t c.l,(0≤d.t∧d.t≤11000000)∧((d.e.kind=2∧0≤d.e.idx∧d.e.idx < m.c.inputs.length)∨(d.e.kind=0∧∃ i:Nat,d.e.idx=i∧i < c.s.ends.length)∨(d.e.kind=1∧∃ i:Nat,d.e.idx=i∧i < c.s.timers.length)):=by
 intro d hd
 have hT:=h.tim
 rcases List.mem_append.1 hd with hd | hd
 ·cases hl:c.l with
  | nil=>rw [hl] at hd; cases hd
  | cons p r =>
   rw [hl] at hd
   simp only [qfe,List.mem_singleton] at hd
   subst hd
   obtain ⟨h1,h2,h3,h4⟩:=h.prs p (by rw [hl]; simp)
   exact ⟨⟨h1,by simp only; omega⟩,.inl ⟨rfl,h3,h4⟩⟩
 ·rcases List.mem_append.1 hd with hd | hd
  ·unfold upD at hd
   rw [List.mem_filterMap] at hd
   obtain ⟨i,hi,hd⟩:=hd
   have hi:=List.mem_range.1 hi
   have hie:i < c.e.length:=by have:=hT.le; omega
   have him:i < m.ts.length:=by have:=hT.lm; omega
   have b1:=hT.be _ (List.getElem_mem hie)
   have b2:=hT.bm _ (List.getElem_mem him)
   unfold qmj at hd
   simp only [List.getElem?_eq_getElem hi,List.getElem?_eq_getElem hie,List.getElem?_eq_getElem him,Option.getD_some] at hd
   split at hd
   ·cases hd
    exact ⟨⟨by simp only; omega,by simp only; omega⟩,.inr (.inl ⟨rfl,i,rfl,hi⟩)⟩
   ·split at hd
    ·cases hd
     exact ⟨⟨by simp only; omega,by simp only; omega⟩,.inr (.inl ⟨rfl,i,rfl,hi⟩)⟩
    ·cases hd
  ·unfold upD at hd
   rw [List.mem_filterMap] at hd
   obtain ⟨i,hi,hd⟩:=hd
   have hi:=List.mem_range.1 hi
   have hie:i < c.t.length:=by have:=hT.lt; omega
   have him:i < m.c.signals.length:=by have:=hT.ls; omega
   have b1:=hT.bt _ (List.getElem_mem hie)
   have b2:=hT.bd _ (List.getElem_mem him)
   unfold qpe at hd
   simp only [List.getElem?_eq_getElem hi,List.getElem?_eq_getElem hie,List.getElem?_eq_getElem him,Option.getD_some,Option.map_some] at hd
   split at hd
   ·cases hd
    exact ⟨⟨by simp only; omega,by simp only; omega⟩,.inr (.inr ⟨rfl,i,rfl,hi⟩)⟩
   ·cases hd
theorem q4c:∀ {r:List Due} {d:Due},quh d r ∈ d :: r
 | [],d=>by simp [quh]
 | x :: r,d=>by
  unfold quh
  rw [List.foldl_cons]
  have:=q4c (r:=r) (d:=if x.t < d.t then x else d)
  unfold quh at this
  rcases List.mem_cons.1 this with h | h
  ·rw [h]
   split <;> simp
  ·exact List.mem_cons_of_mem _ (List.mem_cons_of_mem _ h)
theorem qgf {l:List Due} {d:Due} (h:qqy l=some d):d ∈ l:=by
 cases l with
 | nil=>cases h
 | cons x r =>
  simp only [qqy,Option.some.injEq] at h
  rw [← h]
  exact q4c
theorem Cok.drop {m:Mch} {c:Cst} (h:Cok m c):Cok m { c with l:=c.l.tail }:=⟨h.lie,h.tim,fun p hp=>h.prs p (List.mem_of_mem_tail hp)⟩
theorem Cok.go {m:Mch} {c:Cst} (h:Cok m c) {d:Due} (hd:nxD m c=some d) (hu:d.t≤1000000) (he:(qap m.c c.s d.e).2.2=0):Cok m (goC m c d):=by
 have hr:=h.lie.rdy
 have hdue:=h.due d (qgf hd)
 have hlie:Lie m.c (qap m.c c.s d.e).1:=by
  unfold qap at he ⊢
  split at he
  ·cases he
  ·rename_i hk
   rw [if_neg hk]
   split at he
   ·rename_i hm
    rw [if_pos hm]
    exact (q0z ⟨hr.few,qgt hr.st hk hm⟩ he).1
   ·cases he
 have s1:=hlie.rdy.shp
 have s0:=hr.shp
 have hT:=h.tim
 refine ⟨hlie,⟨?_,?_,?_,?_,?_,?_,?_,?_,hT.bm,hT.bd⟩,fun p hp=>?_⟩
 ·show (qgg _ _ _).length=_
  have:=hT.le; have a:=s1.e; have b:=s0.e
  rw [qin]; simp only [goC]; omega
 ·show (qgg _ _ _).length=_
  have:=hT.lt; have a:=s1.t; have b:=s0.t
  rw [qin]; simp only [goC]; omega
 ·have:=hT.lm; have a:=s1.e; have b:=s0.e
  simp only [goC]; omega
 ·have:=hT.ls; have a:=s1.t; have b:=s0.t
  simp only [goC]; omega
 ·have:=hT.ne; have a:=s1.e; have b:=s0.e
  simp only [goC]; omega
 ·have:=hT.nt; have a:=s1.t; have b:=s0.t
  simp only [goC]; omega
 ·intro x hx
  rcases qwd hx with rfl | hx
  ·omega
  ·exact hT.be x hx
 ·intro x hx
  rcases qwd hx with rfl | hx
  ·omega
  ·exact hT.bt x hx
 ·have:p ∈ c.l:=by
   simp only [goC,qxm] at hp
   split at hp
   ·exact List.mem_of_mem_tail hp
   ·exact hp
  exact h.prs p this
theorem Lie.ends {c:Ct} {s:Ste} (h:Lie c s):s.ends.length≤6∧s.ends.any (qer 4)=false:=by
 have a:=h.rdy.mid
 have b:=h.rdy.shp.e
 refine ⟨by have:=a.hi; have:=a.act; omega,?_⟩
 have:=h.rdy.st
 unfold stE at this
 rw [if_pos h.rdy.chk] at this
 unfold zep at this
 rw [if_pos h.rdy.shp] at this
 split at this
 ·omega
 ·rename_i hn
  cases e:s.ends.any (qer 4) with
  | false=>rfl
  | true=>exact absurd (.inl e) hn
theorem Lie.begE {c:Ct} {s t:Ste} (hs:Lie c s) (ht:Lie c t):begE s t=0∧zqo s t=qcv s t:=by
 obtain ⟨a1,a2⟩:=hs.ends
 obtain ⟨b1,b2⟩:=ht.ends
 have e1:=hs.rdy.shp.e
 have e2:=ht.rdy.shp.e
 have h:Proofs.YtlhciedghbmjjaaGreat.begE s t=0:=by
  rw [zdt (by omega) (by omega),List.any_append,a2,b2]
  rfl
 exact ⟨h,by unfold zqo; rw [if_pos h]⟩
end Go.Proofs.YtlhciedghbmjjaaGreat
