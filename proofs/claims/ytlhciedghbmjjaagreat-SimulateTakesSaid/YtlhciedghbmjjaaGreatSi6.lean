/- What is next in a course, by the program. What is next in a course, by the program. Since when something goes on, by the program. -/
import Derived.Test.YtlhciedghbmjjaaGreatSi3
import Derived.KernelRfl
import Derived.Test.YtlhciedghbmjjaaGreatSa1
set_option linter.all false
namespace Go.Proofs.YtlhciedghbmjjaaGreat
open Go Go.Am Go.Proofs
set_option maxRecDepth 100000
def quh (d:Due) (r:List Due):Due:=r.foldl (fun m x=>if x.t < m.t then x else m) d
def Due.ok (d:Due):Prop:=-100000000≤d.t∧d.t≤100000000
theorem zej:∀ {r:List Due} {d:Due},d.ok→(∀ x ∈ r,x.ok)→(quh d r).ok
 | [],d,h,_=>h
 | x :: r,d,h,hr=>by
  unfold quh
  rw [List.foldl_cons]
  refine zej (r:=r) ?_ fun y hy=>hr y (by simp [hy])
  split
  ·exact hr x (by simp)
  ·exact h
theorem zaf {d:Due} {r:List Due} {k:Nat} (hk:k < r.length):quh d (r.take (k + 1))=if r[k].t < (quh d (r.take k)).t then r[k] else quh d (r.take k):=by
 unfold quh
 rw [List.take_succ_eq_append_getElem hk,List.foldl_append]
 rfl
theorem ev65 {a b:Due} (ha:a.ok) (hb:b.ok):ev pg (.call (.fn 65 [] []) [a.v,b.v] [])=some { v:=num (a.t - b.t),st:=⟨[],[]⟩ }:=by
 obtain ⟨a1,a2⟩:=ha
 obtain ⟨b1,b2⟩:=hb
 have w:=qab (n:=a.t - b.t) (by omega) (by omega)
 rw [qac,pg65]
 simp [ir65,w]
abbrev zD:List V:=[num 0,num 0,num 0,.bool false]
def zjv (d:Due) (r:List Due) (k:Nat):Tm:=[some (zss (d :: r)),some (.fn 65 [] []),none,none,some (.bptr 0 0),some (.bptr 1 0),some (num ((k:Int) + 1))]++List.replicate 26 none
abbrev z2c (x:Due):H:=[⟨0,.box zD⟩,⟨0,.box x.row⟩]
theorem z4l {d:Due} {r:List Due} (hd:d.ok) (hr:∀ x ∈ r,x.ok) (hl:r.length≤100000) {st:St} (h0:At (zjv d r 0) (z2c d) st):∃ q,ev pg (.code (.going 2 L64_0) st)=some q∧qaj (.exit 0) (zjv d r r.length) (z2c (quh d r)) q:=by
 refine qfi r.length (zjv d r) (fun k=>z2c (quh d (r.take k))) _ ?_ ?_ h0
 ·intro k f hf hk
  have hk':(k:Int) < r.length:=by omega
  have wk:=qab (n:=(k:Int) + 1 + 1) (by omega) (by omega)
  have hs:=zaf (d:=d) hk
  have hm:(quh d (r.take k)).ok:=zej hd fun x hx=>hr x (List.mem_of_mem_take hx)
  have hx:=hr _ (List.getElem_mem hk)
  have h65:=ev65 hx hm
  generalize quh d (r.take k)=M at *
  generalize quh d (r.take (k + 1))=M' at *
  subst hs
  have hk00:(0:Int)≤(k:Int) + 1:=by omega
  by_cases h1:r[k].t < M.t
  ·have h2:r[k].t - M.t < 0:=by omega
   simp [qaa,exT,qad,zjv,L64_0,hk,hk',hk00,h65,h1,h2,wk,hf.ne]
  ·have h2:¬ r[k].t - M.t < 0:=by omega
   simp [qaa,exT,qad,zjv,L64_0,hk,hk',hk00,h65,h1,h2,wk,hf.ne]
 ·intro f hf
  rw [List.take_length]
  simp [zjv,L64_0,hf.ne]
theorem ev64 {d:Due} {r:List Due} (hd:d.ok) (hr:∀ x ∈ r,x.ok) (hl:r.length≤100000):ev pg (.call (.fn 64 [] []) [zss (d :: r),.fn 65 [] []] [])=some { v:=(quh d r).v,st:=⟨[],[]⟩ }:=by
 have hlp:=@z4l d r hd hr hl
 generalize quh d r=M at *
 have h1:¬ ((r.length:Int) + 1 < 1):=by omega
 rw [qac,pg64]
 simp [ir64,h1,qag]
 generalize hq:ev pg (.code (.going _ L64_0) _)=o
 obtain ⟨q,rfl,f,hf,rfl⟩:∃ q,o=some q∧_:=by rw [← hq]; exact hlp (by simp [zjv])
 clear hq
 simp [zjv]
def qrn (m:Mch) (s:Ste) (e t:List Int) (l:List Prs):List Due:=qfe l++(upD (qmj m s e) s.ends.length++upD (qpe m s t) s.timers.length)
def qqy:List Due→Option Due
 | []=>none
 | d :: r=>some (quh d r)
def q8l:Due:=⟨0,⟨0,0,false⟩⟩
theorem qor (l:List Due):qgr 4 (l.map Due.row)=true:=by simp [qgr]
theorem qtb (l:List Due):qcd (l.map Due.row)=true:=by simp [qcd]
def zrv (m:Mch) (s:Ste) (e t:List Int) (l:List Prs):Nat→List Due
 | 0=>[]
 | 1=>qfe l
 | 2=>qfe l++upD (qmj m s e) s.ends.length
 | _=>qrn m s e t l
abbrev ifc (t x:Nat):V:=.fn t [.agg [.bptr x 0]] []
def zeo (x n:Nat) (D:List Due) (g w k:Nat):Tm:=[some (.bptr x 0),none,some (.bptr n 0),some (.bool false),some (.sl (n + 1) g w 0 D.length)]++List.replicate 11 none++[some (.agg [ifc 1000145 x,ifc 1000146 x,ifc 1000147 x]),some (num k)]++List.replicate 13 none
abbrev z3q (h:H) (D:List Due) (g w:Nat):H:=h++[⟨0,.box zD⟩,⟨g,.arr w (D.map Due.row)⟩]
theorem z1y {h:H} {x:Nat} {m:Mch} {s:Ste} {e t:List Int} {ve vt:V} {l:List Prs} (hx:h[x]?=some ⟨0,.box (qkg m s ve vt l)⟩) (hc:qci h) (hve:Sl h e ve) (hvt:Sl h t vt) (hT:Tim m s e t) {st:St} (h0:At (zeo x h.length [] 0 0 0) (z3q h [] 0 0) st) :
  ∃ r,ev pg (.code (.going (h.length + 2) L40_0) st)=some r∧qaj (.exit 0) (zeo x h.length (qrn m s e t l) 3 4 3) (z3q h (qrn m s e t l) 3 4) r:=by
 have hlt:=qce hx
 have hne:=Nat.ne_of_lt hlt
 have hcl:∀ (rows:List (List V)) (g w:Nat),qci (h++[⟨0,.box zD⟩,⟨g,.arr w rows⟩]):=fun rows g w=>qdo hc (by simp [qbl])
 have hcut:∀ (rows:List (List V)) (g w:Nat),qay (h.length + 2) (h++[⟨0,.box zD⟩,⟨g,.arr w rows⟩])=h++[⟨0,.box zD⟩,⟨g,.arr w rows⟩]:=fun rows g w=>by
  have:=qge (hcl rows g w)
  rwa [show (h++[⟨0,.box zD⟩,⟨g,.arr w rows⟩]:H).length=h.length + 2 by simp] at this
 have slm:∀ {a:List Int} {v:V} (r:H),Sl h a v→Sl (h++r) a v:=fun r hv=>by
  rcases hv with _ | ⟨i,g,hi⟩
  ·exact .imm
  ·exact .own i g (qcy hi)
 have e1:∀ (rows:List (List V)) (g w:Nat),_:=fun rows g w=>ev223 (h:=h++[⟨0,.box zD⟩,⟨g,.arr w rows⟩]) (x:=x) (qcy hx) (hcl rows g w)
 have e2:∀ (rows:List (List V)) (g w:Nat),_:=fun rows g w=>ev224 (h:=h++[⟨0,.box zD⟩,⟨g,.arr w rows⟩]) (x:=x) (qcy hx) (hcl rows g w) (slm _ hve) hT
 have e3:∀ (rows:List (List V)) (g w:Nat),_:=fun rows g w=>ev225 (h:=h++[⟨0,.box zD⟩,⟨g,.arr w rows⟩]) (x:=x) (qcy hx) (hcl rows g w) (slm _ hvt) hT
 have n1:(qfe l).length≤1:=by cases l <;> simp [qfe]
 have n2:=qpl (qmj m s e) s.ends.length
 have n3:=qpl (qpe m s t) s.timers.length
 have n4:=hT.ne
 have n5:=hT.nt
 have hall:qrn m s e t l=qfe l++(upD (qmj m s e) s.ends.length++upD (qpe m s t) s.timers.length):=rfl
 have s1:zrv m s e t l 1=qfe l:=rfl
 have s2:zrv m s e t l 2=qfe l++upD (qmj m s e) s.ends.length:=rfl
 have s3:zrv m s e t l 3=qrn m s e t l:=rfl
 have s0:zrv m s e t l 0=[]:=rfl
 generalize qrn m s e t l=Z at *
 generalize qfe l=A at *
 generalize upD (qmj m s e) s.ends.length=B at *
 generalize upD (qpe m s t) s.timers.length=C at *
 subst hall
 have z1:=qor A
 have z2:=qor B
 have z3:=qor C
 have p1:=qtb A
 have p2:=qtb B
 have p3:=qtb C
 have a1:A.length * 32≤140737488355328:=by omega
 have a2:(A.length + B.length) * 32≤140737488355328:=by omega
 have a3:(A.length + B.length + C.length) * 32≤140737488355328:=by omega
 refine qfi 3 (fun k=>zeo x h.length (zrv m s e t l k) k (if k=0 then 0 else 4) k) (fun k=>z3q h (zrv m s e t l k) k (if k=0 then 0 else 4)) _ ?_ ?_ (by rw [s0]; exact h0)
 ·intro k f hf hk
  have hk3:k=0∨k=1∨k=2:=by omega
  have hx2:x < h.length + 2:=by omega
  have w1:IntKind.i64.wrap 1=1:=by decide
  have w2:IntKind.i64.wrap 2=2:=by decide
  have w3:IntKind.i64.wrap 3=3:=by decide
  rcases hk3 with rfl | rfl | rfl
  ·simp [-qay,-qgr,-qcd,zeo,L40_0,s0,s1,e1,z1,p1,a1,hx2,w1,qbd,qbc,hf.ne]
   exact hcut _ _ _
  ·simp [-qay,-qgr,-qcd,zeo,L40_0,s1,s2,e2,z2,p2,a2,hx2,w2,qbd,qbc,hf.ne]
   rw [hcut]
   simp
  ·simp [-qay,-qgr,-qcd,zeo,L40_0,s2,s3,e3,z3,p3,a3,hx2,w3,qbd,qbc,hf.ne]
   refine ⟨by omega,?_⟩
   rw [hcut]
   simp
 ·intro f hf
  simp [-qay,zeo,L40_0,s3,hf.ne]
theorem qio {h r:H} {k:Nat} {o:Ob}:(h++r).set (h.length + k) o=h++r.set k o:=by rw [List.set_append_right _ _ (by omega),Nat.add_sub_cancel_left]
theorem qii {h r:H} {o:Ob}:(h++r).set h.length o=h++r.set 0 o:=qio (k:=0)
theorem ev40 {h:H} {x:Nat} {m:Mch} {s:Ste} {e t:List Int} {ve vt:V} {l:List Prs} (hx:h[x]?=some ⟨0,.box (qkg m s ve vt l)⟩) (hc:qci h) (hve:Sl h e ve) (hvt:Sl h t vt) (hT:Tim m s e t) (hok:∀ d ∈ qrn m s e t l,d.ok) :
  ev pg (.call (.fn 40 [.bptr x 0] []) [] h)=some { v:=.tup [((qqy (qrn m s e t l)).getD q8l).v,.bool (qqy (qrn m s e t l)).isSome],st:=⟨[],h⟩ }:=by
 have hck:=qde hc
 have hlp:=@z1y h x m s e t ve vt l hx hc hve hvt hT
 have n1:(qfe l).length≤1:=by cases l <;> simp [qfe]
 have n2:=qpl (qmj m s e) s.ends.length
 have n3:=qpl (qpe m s t) s.timers.length
 have n4:=hT.ne
 have n5:=hT.nt
 have hlen:(qrn m s e t l).length≤10000:=by simp [qrn]; omega
 generalize qrn m s e t l=Z at *
 rw [qac,pg40]
 simp [-qam,ir40,hck,qag]
 generalize hr:ev pg (.code (.going _ L40_0) _)=o
 obtain ⟨r,rfl,f,hf,rfl⟩:∃ r,o=some r∧_:=by rw [← hr]; exact hlp (by simp [zeo])
 clear hr
 cases Z with
 | nil=>simp [-qam,zeo,qqy,hck,qbd,qbc,qio,qii,q8l]
 | cons d Z =>
  have e64:ev pg (.call (.fn 64 [] []) [.imm (d.row :: Z.map Due.row),.fn 65 [] []] [])=_:=ev64 (d:=d) (r:=Z) (hok d (by simp)) (fun x hx=>hok x (by simp [hx])) (by simp at hlen; omega)
  have h1:¬ ((Z.length:Int) + 1=0):=by omega
  simp [-qam,zeo,qqy,hck,e64,h1,qbd,qbc,qio,qii]
def zgl (d:Due) (kd i:Int):Bool:=decide (d.e.kind=kd) && decide (d.e.idx=i)
theorem ev68 {h:H} {b:Nat} {d:Due} (hb:h[b]?=some ⟨0,.box d.row⟩) (hc:qci h) (kd i:Int):ev pg (.call (.fn 68 [] [.bptr b 0]) [num kd,num i] h)=some { v:=.bool (zgl d kd i),st:=⟨[],h⟩ }:=by
 have hck:=qdg hc
 rw [qac,pg68]
 unfold zgl
 by_cases h1:d.e.kind=kd
 ·by_cases h2:d.e.idx=i
  ·simp [-qam,ir68,hb,hck,h1,h2]
  ·have h2b:(d.e.idx == i)=false:=by simpa using h2
   simp [-qam,ir68,hb,hck,h1,h2,h2b]
 ·have h1b:(d.e.kind == kd)=false:=by simpa using h1
  simp [-qam,ir68,hb,hck,h1,h1b]
structure Hap (h:H) (x nb pb ob db:Nat) (m:Mch) (s n:Ste) (ve vt:V) (l:List Prs) (d:Due):Prop where
 cm:qci h
 hx:h[x]?=some ⟨0,.box (qkg m s ve vt l)⟩
 hn:h[nb]?=some ⟨0,.box n.cells⟩
 hp:h[pb]?=some ⟨0,.box [.bptr x 0]⟩
 ho:h[ob]?=some ⟨0,.box [.fn 68 [] [.bptr db 0]]⟩
 hd:h[db]?=some ⟨0,.box d.row⟩
def onE (s n:Ste) (d:Due) (i:Nat):Bool:=decide ((n.ends[i]?).getD 0=(s.ends[i]?).getD 0) && !zgl d 0 i
def onT (s n:Ste) (d:Due) (i:Nat):Bool:=decide ((n.timers[i]?).getD 0=(s.timers[i]?).getD 0) && !zgl d 1 i
theorem ev70 {h:H} {x nb pb ob db:Nat} {m:Mch} {s n:Ste} {ve vt:V} {l:List Prs} {d:Due} (hh:Hap h x nb pb ob db m s n ve vt l d) {i:Nat} (h1:i < s.ends.length) (h2:i < n.ends.length) :
  ev pg (.call (.fn 70 [] [.bptr nb 0,.bptr pb 0,.bptr ob 0]) [num i] h)=some { v:=.bool (onE s n d i),st:=⟨[],h⟩ }:=by
 have hck:=qdg hh.cm
 have hx:=hh.hx
 have hn:=hh.hn
 have hp:=hh.hp
 have ho:=hh.ho
 have e68:=ev68 hh.hd hh.cm 0 i
 have hlt:=qce hh.hd
 have hg:onE s n d i=(decide (n.ends[i]=s.ends[i]) && !zgl d 0 i):=by simp [onE,h1,h2]
 rw [hg]
 clear hg
 generalize zgl d 0 i=B at *
 rw [qac,pg70]
 by_cases h3:n.ends[i]=s.ends[i]
 ·cases B <;> simp [-qam,qaa,exT,qad,ir70,hx,hn,hp,ho,e68,hck,h1,h2,h3,hlt]
 ·have h3b:(n.ends[i] == s.ends[i])=false:=by simpa using h3
  simp [-qam,qaa,exT,qad,ir70,hx,hn,hp,ho,e68,hck,h1,h2,h3,h3b,hlt]
theorem ev71 {h:H} {x nb pb ob db:Nat} {m:Mch} {s n:Ste} {ve vt:V} {l:List Prs} {d:Due} (hh:Hap h x nb pb ob db m s n ve vt l d) {i:Nat} (h1:i < s.timers.length) (h2:i < n.timers.length) :
  ev pg (.call (.fn 71 [] [.bptr nb 0,.bptr pb 0,.bptr ob 0]) [num i] h)=some { v:=.bool (onT s n d i),st:=⟨[],h⟩ }:=by
 have hck:=qdg hh.cm
 have hx:=hh.hx
 have hn:=hh.hn
 have hp:=hh.hp
 have ho:=hh.ho
 have e68:=ev68 hh.hd hh.cm 1 i
 have hlt:=qce hh.hd
 have hg:onT s n d i=(decide (n.timers[i]=s.timers[i]) && !zgl d 1 i):=by simp [onT,h1,h2]
 rw [hg]
 clear hg
 generalize zgl d 1 i=B at *
 rw [qac,pg71]
 by_cases h3:n.timers[i]=s.timers[i]
 ·cases B <;> simp [-qam,qaa,exT,qad,ir71,hx,hn,hp,ho,e68,hck,h1,h2,h3,hlt]
 ·have h3b:(n.timers[i] == s.timers[i])=false:=by simpa using h3
  simp [-qam,qaa,exT,qad,ir71,hx,hn,hp,ho,e68,hck,h1,h2,h3,h3b,hlt]
def qsc (l:List Int) (now:Int) (p:Nat→Bool) (k:Nat):List Int:=(List.range l.length).map fun i=>if i < k∧p i=false then now else (l[i]?).getD 0
theorem qwy (l:List Int) (now:Int) (p:Nat→Bool) (k:Nat):(qsc l now p k).length=l.length:=by simp [qsc]
theorem zcp (l:List Int) (now:Int) (p:Nat→Bool):qsc l now p 0=l:=by
 apply List.ext_getElem
 ·simp [qsc]
 ·intro i h1 h2
  simp [qsc,h2]
theorem zgf {l:List Int} {now:Int} {p:Nat→Bool} {k:Nat} (hp:p k=true):qsc l now p (k + 1)=qsc l now p k:=by
 unfold qsc
 apply List.map_congr_left
 intro i hi
 by_cases h:i=k
 ·subst h; simp [hp]
 ·have:i < k + 1 ↔ i < k:=by omega
  simp [this]
theorem zmu {l:List Int} {now:Int} {p:Nat→Bool} {k:Nat} (hp:p k=false):qsc l now p (k + 1)=(qsc l now p k).set k now:=by
 apply List.ext_getElem
 ·simp [qsc]
 ·intro i h1 h2
  simp only [qsc,List.getElem_set,List.getElem_map,List.getElem_range]
  by_cases h:k=i
  ·subst h; simp [hp]
  ·have:i < k + 1 ↔ i < k:=by omega
   simp [this,h]
def zet (f:Nat) (caps:List V) (n:Nat) (now:Int) (N k:Nat):Tm:=[none,some (num now),some (.fn f [] caps),none,none,none,none,some (.sl n 0 1 0 N)]++List.replicate 4 none++[some (num N),some (num k)]++List.replicate 12 none
theorem z3v {f:Nat} {caps:List V} {h:H} {l:List Int} {now:Int} {p:Nat→Bool} (hl:l.length≤4096) (hlow:qeu 0 caps=false) (hcap:qeu (h.length + 2) caps=true) (hc:qci h)
  (hcl:∀ (rows:List (List V)) (i:Nat),i < l.length→ev pg (.call (.fn f [] caps) [num i] (h++[⟨0,.arr 1 rows⟩,⟨0,.arr 0 []⟩]))=some { v:=.bool (p i),st:=⟨[],h++[⟨0,.arr 1 rows⟩,⟨0,.arr 0 []⟩]⟩ }) {st:St} (h0:At (zet f caps h.length now l.length 0) (h++[⟨0,.arr 1 (l.map qfb)⟩,⟨0,.arr 0 []⟩]) st) :
  ∃ r,ev pg (.code (.going (h.length + 2) L69_0) st)=some r∧qaj (.exit 0) (zet f caps h.length now l.length l.length) (h++[⟨0,.arr 1 ((qsc l now p l.length).map qfb)⟩,⟨0,.arr 0 []⟩]) r:=by
 have hcut:∀ (rows:List (List V)),qay (h.length + 2) (h++[⟨0,.arr 1 rows⟩,⟨0,.arr 0 []⟩])=h++[⟨0,.arr 1 rows⟩,⟨0,.arr 0 []⟩]:=fun rows=>by
  have:=qge (h:=h++[⟨0,.arr 1 rows⟩,⟨0,.arr 0 []⟩]) (qdo hc (by simp [qbl]))
  rwa [show (h++[⟨0,.arr 1 rows⟩,⟨0,.arr 0 []⟩]:H).length=h.length + 2 by simp] at this
 refine qfi l.length (zet f caps h.length now l.length) (fun k=>h++[⟨0,.arr 1 ((qsc l now p k).map qfb)⟩,⟨0,.arr 0 []⟩]) _ ?_ ?_ (by rw [zcp]; exact h0)
 ·intro k g hg hk
  have hk':(k:Int) < l.length:=by omega
  have wk:=qab (n:=(k:Int) + 1) (by omega) (by omega)
  have e:=hcl ((qsc l now p k).map qfb) k hk
  have hln:=qwy l now p k
  cases hp:p k with
  | true =>
   rw [hp] at e
   have hs:=zgf (l:=l) (now:=now) hp
   generalize qsc l now p (k + 1)=M' at *
   generalize qsc l now p k=M at *
   subst hs
   simp [-qay,zet,L69_0,hk,hk',wk,e,hlow,hcap,hg.ne]
   exact hcut _
  | false =>
   rw [hp] at e
   have hs:=zmu (l:=l) (now:=now) hp
   generalize qsc l now p (k + 1)=M' at *
   generalize qsc l now p k=M at *
   subst hs
   simp [-qay,zet,L69_0,hk,hk',wk,e,hlow,hcap,hln,qbd,qbc,hg.ne]
   exact hcut _
 ·intro g hg
  simp [-qay,zet,L69_0,hg.ne]
def qgg (l:List Int) (now:Int) (p:Nat→Bool):List Int:=qsc l now p l.length
theorem ev69 {f:Nat} {caps:List V} {h:H} {l:List Int} {ve:V} (now:Int) {p:Nat→Bool} (hve:Sl h l ve) (hl:l.length≤4096) (hlow:qeu 0 caps=false) (hcap:qeu h.length caps=true) (hc:qci h)
  (hcl:∀ (rows:List (List V)) (i:Nat),i < l.length→ev pg (.call (.fn f [] caps) [num i] (h++[⟨0,.arr 1 rows⟩,⟨0,.arr 0 []⟩]))=some { v:=.bool (p i),st:=⟨[],h++[⟨0,.arr 1 rows⟩,⟨0,.arr 0 []⟩]⟩ }) :
  ev pg (.call (.fn 69 [] []) [ve,num now,.fn f [] caps] h)=some { v:=qck (qgg l now p),st:=⟨[],h⟩ }:=by
 have hck:=qde hc
 have hcap1:qeu (h.length + 2) caps=true:=qct (Nat.le_add_right _ 2) _ hcap
 have e92:=ev92 l hl
 have hlp:=@z3v f caps h l now p hl hlow hcap1 hc hcl
 have hln:=qwy l now p l.length
 unfold qgg
 generalize qsc l now p l.length=M at *
 rw [qac,pg69]
 rcases hve with _ | ⟨i,g,hi⟩
 ·simp [-qam,ir69,hck,e92,qag]
  generalize hr:ev pg (.code (.going _ L69_0) _)=o
  obtain ⟨r,rfl,q,hq,rfl⟩:∃ r,o=some r∧_:=by rw [← hr]; exact hlp (by simp [zet])
  clear hr
  simp [-qam,zet,hck,qbd,qbc,hln]
 ·have hir:=fun r=>qcy (r:=r) hi
  have hlt:=qce hi
  simp [-qam,ir69,hck,e92,hi,hir,qag]
  generalize hr:ev pg (.code (.going _ L69_0) _)=o
  obtain ⟨r,rfl,q,hq,rfl⟩:∃ r,o=some r∧_:=by rw [← hr]; exact hlp (by simp [zet])
  clear hr
  simp [-qam,zet,hck,qbd,qbc,hln]
end Go.Proofs.YtlhciedghbmjjaaGreat
