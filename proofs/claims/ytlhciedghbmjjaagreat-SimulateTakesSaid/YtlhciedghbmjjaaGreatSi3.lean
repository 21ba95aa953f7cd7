/- What is due in a course, by the program. -/
import Derived.Test.YtlhciedghbmjjaaGreatSi2
import Derived.Test.YtlhciedghbmjjaaGreatSt2
import Derived.KernelRfl
set_option linter.all false
namespace Go.Proofs.YtlhciedghbmjjaaGreat
open Go Go.Am Go.Proofs
set_option maxRecDepth 100000
structure Due where
 t:Int
 e:Evn
abbrev Due.row (d:Due):List V:=[num d.t,num d.e.kind,num d.e.idx,.bool d.e.val]
abbrev Due.v (d:Due):V:=.agg d.row
abbrev zss (l:List Due):V:=.imm (l.map Due.row)
inductive Sl (h:H) (l:List Int):V→Prop
 | imm:Sl h l (qck l)
 | own (i g:Nat) (hi:h[i]?=some ⟨g,.arr 1 (l.map qfb)⟩):Sl h l (.sl i g 1 0 l.length)
abbrev qkg (m:Mch) (s:Ste) (ve vt:V) (l:List Prs):List V:=[num m.c.act,.imm (m.c.inputs.map q4o),.imm (m.c.signals.map Sg.row),qck m.c.plus,qck m.c.minus,tms m.ts,qck s.ends,qeo s.valves,qeo s.inputs,qeo s.values,qck s.timers,ve,vt,prs l]
def qfe:List Prs→List Due
 | []=>[]
 | p :: _=>[⟨p.t,⟨2,p.i,p.b⟩⟩]
theorem qce {h:H} {i:Nat} {o:Ob} (e:h[i]?=some o):i < h.length:=(List.getElem?_eq_some_iff.1 e).1
theorem qcy {h r:H} {i:Nat} {o:Ob} (e:h[i]?=some o):(h++r)[i]?=some o:=by rw [List.getElem?_append_left (qce e)]; exact e
theorem qbd {h r:H} {k:Nat}:(h++r)[h.length + k]?=r[k]?:=by rw [List.getElem?_append_right (by omega),Nat.add_sub_cancel_left]
theorem qbc {h r:H}:(h++r)[h.length]?=r[0]?:=qbd (k:=0)
theorem ev223 {h:H} {x:Nat} {m:Mch} {s:Ste} {ve vt:V} {l:List Prs} (hx:h[x]?=some ⟨0,.box (qkg m s ve vt l)⟩) (hc:qci h):ev pg (.call (.fn 223 [.agg [.bptr x 0]] []) [] h)=some { v:=zss (qfe l),st:=⟨[],h⟩ }:=by
 have hck:=qde hc
 have hxr:=fun r=>qcy (r:=r) hx
 have hne:=Nat.ne_of_lt (qce hx)
 rw [qac,pg223]
 cases l with
 | nil=>simp [-qam,ir223,hck,hxr,qbd,qbc,qfe]
 | cons p l =>
  have hz:¬ ((l.length:Int) + 1=0):=by omega
  simp [-qam,hz,ir223,hck,hxr,qbd,qbc,qfe]
def qmj (m:Mch) (s:Ste) (e:List Int) (i:Nat):Option Due :=
 if (s.ends[i]?).getD 0=1 then some ⟨(e[i]?).getD 0 + ((m.ts[i]?).getD (0,0)).1,⟨0,i,false⟩⟩
 else if (s.ends[i]?).getD 0=3 then some ⟨(e[i]?).getD 0 + ((m.ts[i]?).getD (0,0)).2,⟨0,i,false⟩⟩ else none
def upD (f:Nat→Option Due) (k:Nat):List Due:=(List.range k).filterMap f
theorem q6i (f:Nat→Option Due) (k:Nat):upD f (k + 1)=upD f k++(f k).toList:=by
 unfold upD
 rw [List.range_succ,List.filterMap_append]
 cases h:f k <;> simp [h]
theorem qpl (f:Nat→Option Due) (k:Nat):(upD f k).length≤k:=by
 unfold upD
 have:=List.length_filterMap_le f (List.range k)
 simpa using this
structure Tim (m:Mch) (s:Ste) (e t:List Int):Prop where
 le:e.length=s.ends.length
 lt:t.length=s.timers.length
 lm:m.ts.length=s.ends.length
 ls:m.c.signals.length=s.timers.length
 ne:s.ends.length≤4096
 nt:s.timers.length≤4096
 be:∀ u ∈ e,0≤u∧u≤10000000
 bt:∀ u ∈ t,0≤u∧u≤10000000
 bm:∀ q ∈ m.ts,1≤q.1∧q.1≤1000000∧1≤q.2∧q.2≤1000000
 bd:∀ g ∈ m.c.signals,0≤g.delay∧g.delay≤1000000
def qty (n:Nat) (s:Ste) (D:List Due) (g w k:Nat):Tm:=[none,some (.bptr n 0),none,some (.sl (n + 2) g w 0 D.length)]++List.replicate 8 none++[some (qck s.ends),some (num s.ends.length),some (num k)]++List.replicate 47 none
abbrev q7v (h:H) (x:Nat) (D:List Due) (g w:Nat):H:=h++[⟨0,.box [.bptr x 0]⟩,⟨0,.arr 0 []⟩,⟨g,.arr w (D.map Due.row)⟩]
theorem zww {h:H} {x:Nat} {m:Mch} {s:Ste} {e t:List Int} {ve vt:V} {l:List Prs} (hx:h[x]?=some ⟨0,.box (qkg m s ve vt l)⟩) (hc:qci h) (hve:Sl h e ve) (hT:Tim m s e t) {st:St} (h0:At (qty h.length s [] 0 0 0) (q7v h x [] 0 0) st) :
  ∃ r,ev pg (.code (.going (h.length + 3) L224_0) st)=some r∧∃ g w,qaj (.exit 0) (qty h.length s (upD (qmj m s e) s.ends.length) g w s.ends.length) (q7v h x (upD (qmj m s e) s.ends.length) g w) r:=by
 have hxr:=fun r=>qcy (r:=r) hx
 have hne:=Nat.ne_of_lt (qce hx)
 have hlt:=qce hx
 refine qdp (α:=Nat × Nat) s.ends.length (fun k a=>qty h.length s (upD (qmj m s e) k) a.1 a.2 k) (fun k a=>q7v h x (upD (qmj m s e) k) a.1 a.2) (fun _ a=>a.2=4∨a.2=0) _ ?_ ?_ (0,0) (.inr rfl) h0
 ·rintro k ⟨g,w⟩ f hf hk hw
  have hk':(k:Int) < s.ends.length:=by omega
  have hke:k < e.length:=by have:=hT.le; omega
  have hkm:k < m.ts.length:=by have:=hT.lm; omega
  have hn:=hT.ne
  have wk:=qab (n:=(k:Int) + 1) (by omega) (by omega)
  have b1:=hT.be _ (List.getElem_mem hke)
  have b2:=hT.bm _ (List.getElem_mem hkm)
  have w1:=qab (n:=e[k] + m.ts[k].1) (by omega) (by omega)
  have w2:=qab (n:=e[k] + m.ts[k].2) (by omega) (by omega)
  have hD:=q6i (qmj m s e) k
  have hle:=qpl (qmj m s e) k
  have hap:((upD (qmj m s e) k).length + 1) * 32≤140737488355328:=by omega
  have hdk:qmj m s e k=if s.ends[k]=1 then some ⟨e[k] + m.ts[k].1,⟨0,k,false⟩⟩ else if s.ends[k]=3 then some ⟨e[k] + m.ts[k].2,⟨0,k,false⟩⟩ else none:=by simp [qmj,hk,hke,hkm]
  generalize upD (qmj m s e) k=D at *
  generalize upD (qmj m s e) (k + 1)=D' at *
  generalize qmj m s e k=dk at *
  have hcl:∀ (rows:List (List V)) (g2 w2:Nat),qay (h.length + 3) (h++[⟨0,.box [.bptr x 0]⟩,⟨0,.arr 0 []⟩,⟨g2,.arr w2 rows⟩])=h++[⟨0,.box [.bptr x 0]⟩,⟨0,.arr 0 []⟩,⟨g2,.arr w2 rows⟩]:=fun rows g2 w2=>by
   have:=qge (h:=h++[⟨0,.box [.bptr x 0]⟩,⟨0,.arr 0 []⟩,⟨g2,.arr w2 rows⟩]) (qdo hc (by simp [qbl]; omega))
   rwa [show (h++[⟨0,.box [.bptr x 0]⟩,⟨0,.arr 0 []⟩,⟨g2,.arr w2 rows⟩]:H).length=h.length + 3 by simp] at this
  by_cases h1:s.ends[k]=1
  ·rw [if_pos h1] at hdk
   subst hdk
   simp only [Option.toList_some] at hD
   subst hD
   rcases hve with _ | ⟨i,gi,hi⟩
   ·rcases hw with rfl | rfl <;> (simp [-qay,qty,L224_0,hk,hk',hke,hkm,h1,w1,wk,hxr,qbd,qbc,hap,hf.ne]; rw [hcl]; simp)
   ·have hir:=fun r=>qcy (r:=r) hi
    rcases hw with rfl | rfl <;> (simp [-qay,qty,L224_0,hk,hk',hke,hkm,h1,w1,wk,hxr,hir,qbd,qbc,hap,hf.ne]; rw [hcl]; simp)
  ·rw [if_neg h1] at hdk
   have h1b:(s.ends[k] == 1)=false:=by simpa using h1
   by_cases h3:s.ends[k]=3
   ·rw [if_pos h3] at hdk
    subst hdk
    simp only [Option.toList_some] at hD
    subst hD
    rcases hve with _ | ⟨i,gi,hi⟩
    ·rcases hw with rfl | rfl <;> (simp [-qay,qty,L224_0,hk,hk',hke,hkm,h3,w2,wk,hxr,qbd,qbc,hap,hf.ne]; rw [hcl]; simp)
    ·have hir:=fun r=>qcy (r:=r) hi
     rcases hw with rfl | rfl <;> (simp [-qay,qty,L224_0,hk,hk',hke,hkm,h3,w2,wk,hxr,hir,qbd,qbc,hap,hf.ne]; rw [hcl]; simp)
   ·rw [if_neg h3] at hdk
    subst hdk
    simp only [Option.toList_none,List.append_nil] at hD
    subst hD
    have h3b:(s.ends[k] == 3)=false:=by simpa using h3
    rcases hw with rfl | rfl <;> simp [-qay,qty,L224_0,hk,hk',h1,h3,h1b,h3b,wk,hf.ne,hcl]
 ·rintro ⟨g,w⟩ f hf hw
  simp [-qay,qty,L224_0,hf.ne]
theorem ev224 {h:H} {x:Nat} {m:Mch} {s:Ste} {e t:List Int} {ve vt:V} {l:List Prs} (hx:h[x]?=some ⟨0,.box (qkg m s ve vt l)⟩) (hc:qci h) (hve:Sl h e ve) (hT:Tim m s e t):ev pg (.call (.fn 224 [.agg [.bptr x 0]] []) [] h)=some { v:=zss (upD (qmj m s e) s.ends.length),st:=⟨[],h⟩ }:=by
 have hck:=qde hc
 have hxr:=fun r=>qcy (r:=r) hx
 have hne:=Nat.ne_of_lt (qce hx)
 have hlp:=@zww h x m s e t ve vt l hx hc hve hT
 generalize upD (qmj m s e) s.ends.length=D at *
 rw [qac,pg224]
 simp [-qam,ir224,hck,hxr,qbd,qbc,qag]
 generalize hr:ev pg (.code (.going _ L224_0) _)=o
 obtain ⟨r,rfl,g,w,f,hf,rfl⟩:∃ r,o=some r∧_:=by rw [← hr]; exact hlp (by simp [qty])
 clear hr
 simp [-qam,qty,hck,qbd,qbc]
def qpe (m:Mch) (s:Ste) (t:List Int) (i:Nat):Option Due :=
 if (s.timers[i]?).getD 0=1 then some ⟨(t[i]?).getD 0 + ((m.c.signals[i]?).map Sg.delay).getD 0,⟨1,i,false⟩⟩ else none
def qxq (n:Nat) (s:Ste) (D:List Due) (g w k:Nat):Tm:=[none,some (.bptr n 0),none,some (.sl (n + 2) g w 0 D.length)]++List.replicate 7 none++[some (qck s.timers),some (num s.timers.length),some (num k)]++List.replicate 34 none
theorem zsm {h:H} {x:Nat} {m:Mch} {s:Ste} {e t:List Int} {ve vt:V} {l:List Prs} (hx:h[x]?=some ⟨0,.box (qkg m s ve vt l)⟩) (hc:qci h) (hvt:Sl h t vt) (hT:Tim m s e t) {st:St} (h0:At (qxq h.length s [] 0 0 0) (q7v h x [] 0 0) st) :
  ∃ r,ev pg (.code (.going (h.length + 3) L225_0) st)=some r∧∃ g w,qaj (.exit 0) (qxq h.length s (upD (qpe m s t) s.timers.length) g w s.timers.length) (q7v h x (upD (qpe m s t) s.timers.length) g w) r:=by
 have hxr:=fun r=>qcy (r:=r) hx
 have hne:=Nat.ne_of_lt (qce hx)
 have hlt:=qce hx
 refine qdp (α:=Nat × Nat) s.timers.length (fun k a=>qxq h.length s (upD (qpe m s t) k) a.1 a.2 k) (fun k a=>q7v h x (upD (qpe m s t) k) a.1 a.2) (fun _ a=>a.2=4∨a.2=0) _ ?_ ?_ (0,0) (.inr rfl) h0
 ·rintro k ⟨g,w⟩ f hf hk hw
  have hk':(k:Int) < s.timers.length:=by omega
  have hke:k < t.length:=by have:=hT.lt; omega
  have hkm:k < m.c.signals.length:=by have:=hT.ls; omega
  have hn:=hT.nt
  have wk:=qab (n:=(k:Int) + 1) (by omega) (by omega)
  have b1:=hT.bt _ (List.getElem_mem hke)
  have b2:=hT.bd _ (List.getElem_mem hkm)
  have w1:=qab (n:=t[k] + m.c.signals[k].delay) (by omega) (by omega)
  have hD:=q6i (qpe m s t) k
  have hle:=qpl (qpe m s t) k
  have hap:((upD (qpe m s t) k).length + 1) * 32≤140737488355328:=by omega
  have hdk:qpe m s t k=if s.timers[k]=1 then some ⟨t[k] + m.c.signals[k].delay,⟨1,k,false⟩⟩ else none:=by simp [qpe,hk,hke,hkm]
  generalize upD (qpe m s t) k=D at *
  generalize upD (qpe m s t) (k + 1)=D' at *
  generalize qpe m s t k=dk at *
  have hcl:∀ (rows:List (List V)) (g2 w2:Nat),qay (h.length + 3) (h++[⟨0,.box [.bptr x 0]⟩,⟨0,.arr 0 []⟩,⟨g2,.arr w2 rows⟩])=h++[⟨0,.box [.bptr x 0]⟩,⟨0,.arr 0 []⟩,⟨g2,.arr w2 rows⟩]:=fun rows g2 w2=>by
   have:=qge (h:=h++[⟨0,.box [.bptr x 0]⟩,⟨0,.arr 0 []⟩,⟨g2,.arr w2 rows⟩]) (qdo hc (by simp [qbl]; omega))
   rwa [show (h++[⟨0,.box [.bptr x 0]⟩,⟨0,.arr 0 []⟩,⟨g2,.arr w2 rows⟩]:H).length=h.length + 3 by simp] at this
  by_cases h1:s.timers[k]=1
  ·rw [if_pos h1] at hdk
   subst hdk
   simp only [Option.toList_some] at hD
   subst hD
   rcases hvt with _ | ⟨i,gi,hi⟩
   ·rcases hw with rfl | rfl <;> (simp [-qay,qaa,exT,qad,qxq,L225_0,hk,hk',hke,hkm,h1,w1,wk,hxr,qbd,qbc,hap,hf.ne]; rw [hcl]; simp)
   ·have hir:=fun r=>qcy (r:=r) hi
    rcases hw with rfl | rfl <;> (simp [-qay,qaa,exT,qad,qxq,L225_0,hk,hk',hke,hkm,h1,w1,wk,hxr,hir,qbd,qbc,hap,hf.ne]; rw [hcl]; simp)
  ·rw [if_neg h1] at hdk
   have h1b:(s.timers[k] == 1)=false:=by simpa using h1
   subst hdk
   simp only [Option.toList_none,List.append_nil] at hD
   subst hD
   rcases hw with rfl | rfl <;> simp [-qay,qxq,L225_0,hk,hk',h1,h1b,wk,hf.ne,hcl]
 ·rintro ⟨g,w⟩ f hf hw
  simp [-qay,qxq,L225_0,hf.ne]
theorem ev225 {h:H} {x:Nat} {m:Mch} {s:Ste} {e t:List Int} {ve vt:V} {l:List Prs} (hx:h[x]?=some ⟨0,.box (qkg m s ve vt l)⟩) (hc:qci h) (hvt:Sl h t vt) (hT:Tim m s e t):ev pg (.call (.fn 225 [.agg [.bptr x 0]] []) [] h)=some { v:=zss (upD (qpe m s t) s.timers.length),st:=⟨[],h⟩ }:=by
 have hck:=qde hc
 have hxr:=fun r=>qcy (r:=r) hx
 have hne:=Nat.ne_of_lt (qce hx)
 have hlp:=@zsm h x m s e t ve vt l hx hc hvt hT
 generalize upD (qpe m s t) s.timers.length=D at *
 rw [qac,pg225]
 simp [-qam,ir225,hck,hxr,qbd,qbc,qag]
 generalize hr:ev pg (.code (.going _ L225_0) _)=o
 obtain ⟨r,rfl,g,w,f,hf,rfl⟩:∃ r,o=some r∧_:=by rw [← hr]; exact hlp (by simp [qxq])
 clear hr
 simp [-qam,qxq,hck,qbd,qbc]
end Go.Proofs.YtlhciedghbmjjaaGreat
