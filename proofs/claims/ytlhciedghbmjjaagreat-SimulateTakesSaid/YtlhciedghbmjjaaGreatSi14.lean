/- Run, by the program. Moves of a log, by the program. -/
import Derived.Test.YtlhciedghbmjjaaGreatSi12
import Derived.KernelRfl
set_option linter.all false
namespace Go.Proofs.YtlhciedghbmjjaaGreat
open Go Go.Am Go.Proofs
set_option maxRecDepth 100000
set_option maxHeartbeats 4000000
abbrev Lg.cells (x:Lg):List V:=[z3h x.en,qck x.cf,qck x.st.ends,qeo x.st.valves,qeo x.st.inputs,qeo x.st.values,qck x.st.timers]
abbrev Lg.v (x:Lg):V:=.agg x.cells
def zLg:Lg:=⟨[],[],zeroS⟩
def qhd (m:Mch) (l:List Prs):Cst:=⟨(qbk m.c).1,List.replicate (qbk m.c).1.ends.length 0,List.replicate (qbk m.c).1.timers.length 0,l⟩
def qkm (m:Mch) (l:List Prs) (u:Int):Option (Int ⊕ Lg):=goS m u (4097 + l.length) (qhd m l) [] (qbk m.c).2.1
def zsd (z:Option (Int ⊕ Lg)):Lg × Int :=
 match z with
 | some (.inr x)=>(x,0)
 | some (.inl e)=>(zLg,e)
 | none=>(zLg,0)
def qlz (m:Mch) (l:List Prs) (u:Int):Lg × Int :=
 if qez m l u ≠ 0 then (zLg,qez m l u) else if (qbk m.c).2.2 ≠ 0 then (zLg,(qbk m.c).2.2) else zsd (qkm m l u)
theorem qey {m:Mch} {l:List Prs} {u:Int} (h:qez m l u=0):qej m=0∧l.length≤256∧qyb m.c.inputs.length l=0∧0≤u∧u≤1000000:=by
 unfold qez at h
 split at h
 ·rename_i h1; exact absurd h h1
 ·rename_i h1
  split at h
  ·cases h
  ·rename_i h2
   split at h
   ·rename_i h3; exact absurd h h3
   ·rename_i h3
    split at h
    ·cases h
    ·rename_i h4
     exact ⟨by simpa using h1,by omega,by simpa using h3,by omega,by omega⟩
theorem q1e {n:Nat} {l:List Prs} (h:qyb n l=0):∀ k,k < l.length→qyu n l k=0:=by
 intro k hk
 unfold qyb at h
 cases hf:(List.range l.length).find? (fun k=>qyu n l k != 0) with
 | none =>
  rw [List.find?_eq_none] at hf
  have:=hf k (List.mem_range.2 hk)
  simpa using this
 | some j =>
  rw [hf] at h
  have:=List.find?_some hf
  simp only [Option.map_some,Option.getD_some] at h
  rw [h] at this
  simp at this
theorem qxs {m:Mch} {l:List Prs} {u:Int} (hs:m.c.small=true) (hg:qez m l u=0) (he:(qbk m.c).2.2=0):Cok m (qhd m l):=by
 obtain ⟨h1,h2,h3,h4,h5⟩:=qey hg
 have hc:m.c.check=0:=by
  unfold qej at h1
  split at h1
  ·assumption
  ·rename_i hn; exact absurd h1 hn
 have ht:quc m=0:=by
  unfold qej at h1
  rwa [if_pos hc] at h1
 have hlie:=qvl hs hc he
 have shp:=hlie.rdy.shp
 have mid:=hlie.rdy.mid
 have hm:(m.ts.length:Int)=m.c.act∧∀ q ∈ m.ts,qul q=false:=by
  unfold quc at ht
  split at ht
  ·cases ht
  ·rename_i hl
   split at ht
   ·cases ht
   ·rename_i hb
    refine ⟨by omega,fun q hq=>?_⟩
    cases hq2:qul q with
    | false=>rfl
    | true=>exact absurd (List.any_eq_true.2 ⟨q,hq,hq2⟩) hb
 refine ⟨hlie,⟨by simp [qhd],by simp [qhd],?_,?_,?_,?_,?_,?_,?_,zhc hc⟩,fun p hp=>?_⟩
 ·have a:=shp.e; have b:=hm.1; simp only [qhd]; omega
 ·have a:=shp.t; simp only [qhd]; omega
 ·have a:=shp.e; have b:=mid.hi; have d:=mid.act; simp only [qhd]; omega
 ·have a:=shp.t; have b:=mid.sig; simp only [qhd]; omega
 ·intro x hx
  rw [List.eq_of_mem_replicate hx]
  omega
 ·intro x hx
  rw [List.eq_of_mem_replicate hx]
  omega
 ·intro q hq
  obtain ⟨a,b,c,d⟩:=qpg (hm.2 q hq)
  exact ⟨a,b,c,d⟩
 ·obtain ⟨k,hk,rfl⟩:=List.getElem_of_mem hp
  have hk':k < l.length:=hk
  have hz:=q1e h3 k hk'
  rw [qpj hk'] at hz
  split at hz
  ·cases hz
  ·rename_i a
   split at hz
   ·cases hz
   ·rename_i b
    show 0≤l[k].t∧l[k].t≤1000000∧0≤l[k].i∧l[k].i < (m.c.inputs.length:Int)
    omega
theorem qpn (c:Ct):Lin (qie c) (qbk c).2.1:=by
 unfold qbk
 split
 ·exact qzf _ _
 ·exact Lin.nil _
theorem zug {m:Mch} {s0:Ste} {X:List V} {C:List Int} (hX:qeu 32 X=true):qci [⟨0,.box m.cells⟩,o0s,o0s,o0s,o0s,o0s,o0s,o0s,⟨0,.box [.sl 1 0 0 0 0,.sl 2 0 0 0 0,.sl 3 0 0 0 0,.sl 4 0 0 0 0,.sl 5 0 0 0 0,.sl 6 0 0 0 0,.sl 7 0 0 0 0]⟩,o0s,o0s,o0s,o0s,o0s,⟨0,.box s0.cells⟩,
   ⟨1,.arr 1 (List.replicate s0.ends.length [num 0])⟩,⟨1,.arr 1 (List.replicate s0.timers.length [num 0])⟩,⟨0,.box X⟩,o0s,o0s,o0s,o0s,o0s,o0s,o0s,
   ⟨0,.box [.sl 26 0 0 0 0,qck C,.sl 27 0 0 0 0,.sl 28 0 0 0 0,.sl 29 0 0 0 0,.sl 30 0 0 0 0,.sl 31 0 0 0 0]⟩,o0s,o0s,o0s,o0s,o0s,o0s]:=by
 rw [qhs]
 intro o ho
 simp only [List.mem_cons,List.not_mem_nil,or_false] at ho
 rcases ho with rfl | rfl | rfl | rfl | rfl | rfl | rfl | rfl | rfl | rfl | rfl | rfl | rfl | rfl | rfl | rfl | rfl | rfl | rfl | rfl | rfl | rfl | rfl | rfl | rfl | rfl | rfl | rfl | rfl | rfl | rfl | rfl <;> (try rfl) <;> simp [qbl]
 exact qik hX
theorem ev13 {m:Mch} (hs:m.c.small=true) (ht:m.ts.length≤100000) {l:List Prs} (hl:l.length≤100000) (u:Int):ev pg (.call (.fn 13 [] []) [m.v,prs l,num u] [])=some { v:=.tup [(qlz m l u).1.v,num (qlz m l u).2],st:=⟨[],[]⟩ }:=by
 have e39:=ev39 m hs ht l hl u
 have e29:=ev29 m.c hs
 rw [qac,pg13]
 unfold qlz
 by_cases h1:qez m l u=0
 ·rw [if_neg (by simp [h1])]
  rw [h1] at e39
  by_cases h2:(qbk m.c).2.2=0
  ·rw [if_neg (by simp [h2])]
   have hok:=qxs hs h1 h2
   obtain ⟨g1,g2,g3,g4,g5⟩:=qey h1
   have hlin:=qpn m.c
   have e40:=ev40 (x:=17) (m:=m) (s:=(qbk m.c).1) (ve:=.sl 15 1 1 0 (qbk m.c).1.ends.length) (vt:=.sl 16 1 1 0 (qbk m.c).1.timers.length) (e:=List.replicate (qbk m.c).1.ends.length 0) (t:=List.replicate (qbk m.c).1.timers.length 0) (l:=l) rfl (zug (m:=m) (s0:=(qbk m.c).1) (C:=(qbk m.c).2.1) (by simp))
    (VE.sl (i:=15) (n:=(qbk m.c).1.ends.length) (.inr ⟨rfl,rfl⟩) rfl) (VE.sl (i:=16) (n:=(qbk m.c).1.timers.length) (.inr ⟨rfl,rfl⟩) rfl) hok.tim (fun d hd=>by
     have:=(hok.due d hd).1
     exact ⟨by omega,by omega⟩)
   have hlp:=fun (st:St)=>z6o (m:=m) (s0:=(qbk m.c).1) (u:=u) g5 (Z:=qkm m l u) (L:=l.length) (by omega) (st:=st) ⟨qhd m l,[],(qbk m.c).2.1,.sl 15 1 1 0 (qbk m.c).1.ends.length,.sl 16 1 1 0 (qbk m.c).1.timers.length,0,0,true,q8l⟩
    ⟨hok,.inr ⟨rfl,rfl⟩,.inr ⟨rfl,rfl⟩,.inr rfl,hlin,rfl,by simp [qhd],by simp⟩
   have n1:(qbk m.c).1.ends.length≤4096:=hok.tim.ne
   have n2:(qbk m.c).1.timers.length≤4096:=hok.tim.nt
   simp only [G13.T,G13.H,G13.d,G13.X,nxD,qhd,List.map_nil,List.length_nil] at hlp
   generalize hZ:qkm m l u=Z at *
   simp only [znc] at e29
   rw [h2] at e29
   generalize (qbk m.c).1=s0 at *
   generalize (qbk m.c).2.1=C0 at *
   generalize (qqy (qrn m s0 (List.replicate s0.ends.length 0) (List.replicate s0.timers.length 0) l)).isSome=SM at *
   generalize (qqy (qrn m s0 (List.replicate s0.ends.length 0) (List.replicate s0.timers.length 0) l)).getD q8l=ND at *
   have n3:s0.ends.length * 8≤140737488355328:=by omega
   have n4:s0.timers.length * 8≤140737488355328:=by omega
   have n5:s0.ends.length≤4611686018427387904:=by omega
   have n6:s0.timers.length≤4611686018427387904:=by omega
   clear hok hZ
   simp [ir13,e39,e29,e40,n3,n4,n5,n6,qaa,exT,qad,zia]
   generalize hr:ev pg (.code (.goingK _ _ L13_0) _)=o
   obtain ⟨r,rfl,hQ⟩:∃ r,o=some r∧_:=by rw [← hr]; exact hlp _ (by simp [qqr])
   clear hr
   cases hQ with
   | ok a hz hw he =>
    obtain ⟨c,En,C,ve,vt,g,w,b,d0⟩:=a
    obtain ⟨f,hf,rfl⟩:=he
    simp only at hz hw
    subst hz
    simp only [G13.T,G13.H,G13.X,G13.d,zsd]
    generalize (nxD m c).isSome=SM' at *
    generalize (nxD m c).getD q8l=ND' at *
    cases b with
    | true=>rcases hw with rfl | rfl <;> simp [qqr]
    | false=>rcases hw with rfl | rfl <;> simp [qqr]
   | bad e hz h q hh he =>
    obtain ⟨f,hf,rfl⟩:=he
    subst hz
    obtain ⟨b,e0,e1,e2,e3,e4,e5,e6⟩:=hh
    simp [qtw,zsd,zLg,zeroS,b,e0,e1,e2,e3,e4,e5,e6]
  ·rw [if_pos h2]
   simp only [znc] at e29
   have hb:((qbk m.c).2.2 == 0)=false:=by simpa using h2
   generalize (qbk m.c).2.2=er at *
   simp [ir13,e39,e29,h2,hb,zLg,zeroS]
 ·rw [if_pos h1]
  have hb:(qez m l u == 0)=false:=by simpa using h1
  generalize qez m l u=e at *
  simp [ir13,e39,h1,hb,zLg,zeroS]
set_option maxHeartbeats 4000000
structure Mov where
 a:Int
 o:Bool
 f:Int
 t:Int
abbrev Mov.row (x:Mov):List V:=[num x.a,.bool x.o,num x.f,num x.t]
abbrev mvs (l:List Mov):V:=.imm (l.map Mov.row)
abbrev noT:Int:=-1099511627776
def zff (L:List (Int × Nat)):List (V × V):=L.map fun p=>(num p.1,num p.2)
def qyq:List (Int × Nat)→Int→Option Nat
 | [],_=>none
 | (a,b) :: r,k=>if k=a then some b else qyq r k
def zjl:List (Int × Nat)→Int→Nat→List (Int × Nat)
 | [],k,v=>[(k,v)]
 | (a,b) :: r,k,v=>if k=a then (k,v) :: r else (a,b) :: zjl r k v
theorem q4r (k:Int):∀ L:List (Int × Nat),qnu (zff L) (num k)=some ((qyq L k).map fun n=>num n)
 | []=>rfl
 | (a,b) :: r=>by
  have ih:=q4r k r
  unfold zff at ih ⊢
  simp only [List.map_cons,qnu,eqS,qyq]
  by_cases h:k=a
  ·subst h; simp
  ·have hb:(k == a)=false:=by simpa using h
   simp [h,hb,ih]
theorem q2m (k:Int) (v:Nat):∀ L:List (Int × Nat),qyt (zff L) (num k) (num v)=some (zff (zjl L k v))
 | []=>rfl
 | (a,b) :: r=>by
  have ih:=q2m k v r
  unfold zff at ih ⊢
  simp only [List.map_cons,qyt,eqS,zjl]
  by_cases h:k=a
  ·subst h; simp
  ·have hb:(k == a)=false:=by simpa using h
   simp [h,hb,ih]
def qrj (out:List Mov) (L:List (Int × Nat)) (x:Ent):List Mov :=
 match (if x.e.kind=0 then qyq L x.e.idx else none) with
 | some j=>match out[j]? with
  | some q=>if q.t=noT then out.set j ⟨q.a,q.o,q.f,x.t⟩ else out
  | none=>out
 | none=>out
def q0k (t:Int) (z:List Mov × List (Int × Nat)) (s:Int × Bool):List Mov × List (Int × Nat):=(z.1++[⟨s.1,s.2,t,noT⟩],zjl z.2 s.1 z.1.length)
def qqz (t:Int) (s:List (Int × Bool)) (z:List Mov × List (Int × Nat)):List Mov × List (Int × Nat):=s.foldl (q0k t) z
def qje (z:List Mov × List (Int × Nat)) (x:Ent):List Mov × List (Int × Nat):=qqz x.t x.s (qrj z.1 z.2 x,z.2)
def qdw (en:List Ent):List Mov × List (Int × Nat):=en.foldl qje ([],[])
def qjt (en:List Ent):List Mov:=(qdw en).1
theorem qog (out:List Mov) (L:List (Int × Nat)) (x:Ent):(qrj out L x).length=out.length:=by
 unfold qrj
 split
 ·split
  ·split <;> simp
  ·rfl
 ·rfl
theorem qxn (t:Int):∀ (s:List (Int × Bool)) (z:List Mov × List (Int × Nat)),(qqz t s z).1.length=z.1.length + s.length
 | [],z=>rfl
 | a :: r,z=>by
  have:=qxn t r (q0k t z a)
  unfold qqz at this ⊢
  rw [List.foldl_cons,this]
  simp only [q0k,List.length_append,List.length_cons,List.length_nil]
  omega
def q1b (z:List Mov × List (Int × Nat)):Prop:=∀ k j,qyq z.2 k=some j→j < z.1.length
theorem zam (L:List (Int × Nat)) (k q:Int) (v:Nat):qyq (zjl L k v) q=if q=k then some v else qyq L q:=by
 induction L with
 | nil=>simp [zjl,qyq]
 | cons p r ih =>
  obtain ⟨a,b⟩:=p
  simp only [zjl]
  by_cases h:k=a
  ·subst h
   simp only [if_true,qyq]
   by_cases h2:q=k
   ·simp [h2]
   ·simp [h2]
  ·simp only [if_neg h,qyq,ih]
   by_cases h2:q=a
   ·subst h2
    have:¬ q=k:=fun e=>h e.symm
    simp [this]
   ·simp [h2]
theorem zbq (t:Int):∀ (s:List (Int × Bool)) (z:List Mov × List (Int × Nat)),q1b z→q1b (qqz t s z)
 | [],z,h=>h
 | a :: r,z,h=>zbq t r (q0k t z a) (by
   intro k j hj
   simp only [q0k] at hj ⊢
   rw [zam] at hj
   rw [List.length_append]
   split at hj
   ·cases hj; simp
   ·have:=h k j hj; simp; omega)
theorem zhk {z:List Mov × List (Int × Nat)} (h:q1b z) (x:Ent):q1b (qje z x):=zbq _ _ _ (fun k j hj=>by
 have:=h k j hj
 simp only [qog]
 exact this)
theorem q3c {en:List Ent} {k:Nat} (hk:k < en.length):qdw (en.take (k + 1))=qje (qdw (en.take k)) en[k]:=by
 unfold qdw
 rw [List.take_succ_eq_append_getElem hk,List.foldl_append]
 rfl
abbrev q6a (m:Mch) (x:Lg) (out:List Mov) (L:List (Int × Nat)) (g w:Nat):H :=
 [⟨0,.box m.cells⟩,o0s,o0s,o0s,o0s,o0s,o0s,o0s,⟨0,.box x.cells⟩,⟨g,.arr w (out.map Mov.row)⟩,⟨0,.box [.sl 9 g w 0 out.length]⟩,⟨0,.map (zff L)⟩,⟨0,.box [.map 11]⟩,⟨0,.box [.fn 47 [] [.bptr 12 0,.bptr 10 0],.fn 48 [] [],.fn 49 [] []]⟩,o0s]
theorem ev47 (m:Mch) (x:Lg) (out:List Mov) (L:List (Int × Nat)) (g w:Nat) (hw:w=4∨(w=0∧out=[])) (hL:q1b (out,L)) (y:Ent) (hk:y.e.kind=0) :
  ev pg (.call (.fn 47 [] [.bptr 12 0,.bptr 10 0]) [.agg y.row] (q6a m x out L g w++[o0s,⟨0,.box y.row⟩]))=some { v:=.tup [],st:=⟨[],q6a m x (qrj out L y) L g w++[o0s,⟨0,.box y.row⟩]⟩ }:=by
 have hf:=q4r y.e.idx L
 unfold qrj
 rw [if_pos hk]
 rw [qac,pg47]
 cases hg:qyq L y.e.idx with
 | none =>
  rw [hg] at hf
  simp [ir47,hf]
 | some j =>
  have hj:=hL _ _ hg
  simp only at hj
  rcases hw with rfl | ⟨_,rfl⟩
  ·rw [hg] at hf
   simp only [List.getElem?_eq_getElem hj]
   by_cases h1:out[j].t=noT
   ·rw [if_pos h1]
    simp [ir47,hf,hj,h1]
   ·rw [if_neg h1]
    have h1b:(out[j].t == noT)=false:=by simpa using h1
    simp [ir47,hf,hj,h1,h1b]
  ·simp at hj
theorem zcw {t:Int} {s:List (Int × Bool)} {z:List Mov × List (Int × Nat)} {k:Nat} (hk:k < s.length):qqz t (s.take (k + 1)) z=q0k t (qqz t (s.take k) z) s[k]:=by
 unfold qqz
 rw [List.take_succ_eq_append_getElem hk,List.foldl_append]
 rfl
def q3r (en:List Ent) (i:Nat):Tm:=[none,none,none,none,none,none,some (.sl 14 0 0 0 0),some (num 0),some (.bptr 8 0),none,some (.bptr 10 0),some (.bptr 12 0),some (.bptr 13 0)]++List.replicate 18 none++[some (z3h en),some (num en.length),some (num i)]++List.replicate 32 none
def qlq (en:List Ent) (i:Nat) (s:List (Int × Bool)) (k:Nat):Tm:=[none,none,none,none,none,none,some (.sl 14 0 0 0 0),some (num 0),some (.bptr 8 0),none,some (.bptr 10 0),some (.bptr 12 0),some (.bptr 13 0),none,some (.bptr 16 0)]++List.replicate 16 none++[some (z3h en),some (num en.length),some (num i)]++List.replicate 11 none++[some (q6j s),some (num s.length),some (num k)]++List.replicate 18 none
theorem zun (m:Mch) (x:Lg) (i:Nat) (y:Ent) (z:List Mov × List (Int × Nat)) (hs:y.s.length≤1000) (hz:z.1.length≤10000000) (g w:Nat) (hw:w=4∨(w=0∧z.1=[])) {st:St} (h0:At (qlq x.en i y.s 0) (q6a m x z.1 z.2 g w++[o0s,⟨0,.box y.row⟩]) st) :
  ∃ r,ev pg (.code (.going 17 L19_0) st)=some r∧∃ g' w',(w'=4∨(w'=0∧(qqz y.t y.s z).1=[]))∧qaj (.exit 2) (qlq x.en i y.s y.s.length) (q6a m x (qqz y.t y.s z).1 (qqz y.t y.s z).2 g' w'++[o0s,⟨0,.box y.row⟩]) r:=by
 have hend:qqz y.t y.s z=qqz y.t (y.s.take y.s.length) z:=by rw [List.take_length]
 rw [hend]
 refine qdp (α:=Nat × Nat) y.s.length (fun k _=>qlq x.en i y.s k) (fun k a=>q6a m x (qqz y.t (y.s.take k) z).1 (qqz y.t (y.s.take k) z).2 a.1 a.2++[o0s,⟨0,.box y.row⟩]) (fun k a=>a.2=4∨(a.2=0∧(qqz y.t (y.s.take k) z).1=[])) _ ?_ ?_ (g,w) hw h0
 ·rintro k ⟨g,w⟩ f hf hk hw
  simp only at hw
  have hk':(k:Int) < y.s.length:=by omega
  have wk:=qab (n:=(k:Int) + 1) (by omega) (by omega)
  have hst:=zcw (t:=y.t) (z:=z) hk
  have hln:=qxn y.t (y.s.take k) z
  have hln2:(y.s.take k).length≤1000:=by simp; omega
  generalize qqz y.t (y.s.take (k + 1)) z=z2 at *
  generalize qqz y.t (y.s.take k) z=z1 at *
  subst hst
  have hup:=q2m y.s[k].1 z1.1.length z1.2
  have hap:(z1.1.length + 1) * 32≤140737488355328:=by omega
  refine (?_:∃ st,ev pg (.code L19_0 ⟨fill f 0 (qlq x.en i y.s k),q6a m x z1.1 z1.2 g w++[o0s,⟨0,.box y.row⟩]⟩)=some { st:=st }∧At (qlq x.en i y.s (k + 1)) (q6a m x (q0k y.t z1 y.s[k]).1 (q0k y.t z1 y.s[k]).2 (g + 1) 4++[o0s,⟨0,.box y.row⟩]) (qos 17 st)).elim fun st h=>⟨_,h.1,.inl ⟨rfl,(g + 1,4),.inl rfl,h.2⟩⟩
  rcases hw with rfl | ⟨rfl,hw⟩
  ·simp [qlq,L19_0,hk,hk',wk,hup,hap,q0k,hf.ne]
  ·obtain ⟨o1,l1⟩:=z1
   simp only at hw hup hap ⊢
   subst hw
   have hup0:qyt (zff l1) (num y.s[k].1) (.int .i64 0)=some (zff (zjl l1 y.s[k].1 0)):=q2m _ 0 l1
   simp [qlq,L19_0,hk,hk',wk,q0k,hup0,hf.ne]
 ·rintro ⟨g,w⟩ f hf hw
  simp [qlq,L19_0,hf.ne]
  simp only [List.take_length] at hw
  rcases hw with h | h
  ·exact ⟨g,.inl ⟨rfl,h⟩⟩
  ·exact ⟨g,.inr ⟨h,rfl⟩⟩
theorem ev48 (y:Ent):ev pg (.call (.fn 48 [] []) [.agg y.row] [])=some { v:=.tup [],st:=⟨[],[]⟩ }:=by
 rw [qac,pg48]
 simp [ir48]
theorem ev49 (y:Ent):ev pg (.call (.fn 49 [] []) [.agg y.row] [])=some { v:=.tup [],st:=⟨[],[]⟩ }:=by
 rw [qac,pg49]
 simp [ir49]
structure Lg.ok (x:Lg):Prop where
 len:x.en.length≤4096
 each:∀ y ∈ x.en,(y.e.kind=0∨y.e.kind=1∨y.e.kind=2)∧y.s.length≤1000
theorem zeb (en:List Ent):q1b (qdw en):=by
 have key:∀ (en:List Ent) (z:List Mov × List (Int × Nat)),q1b z→q1b (en.foldl qje z):=by
  intro en
  induction en with
  | nil=>intro z h; exact h
  | cons a r ih=>intro z h; exact ih _ (zhk h a)
 exact key en _ (fun k j h=>by cases h)
theorem quu {en:List Ent} (h:∀ y ∈ en,y.s.length≤1000):(qdw en).1.length≤1000 * en.length:=by
 have key:∀ (en:List Ent) (z:List Mov × List (Int × Nat)),(∀ y ∈ en,y.s.length≤1000)→(en.foldl qje z).1.length≤z.1.length + 1000 * en.length:=by
  intro en
  induction en with
  | nil=>intro z _; simp
  | cons a r ih =>
   intro z h
   have h1:=ih (qje z a) (fun y hy=>h y (by simp [hy]))
   have h2:=h a (by simp)
   have h3:(qje z a).1.length=z.1.length + a.s.length:=by
    unfold qje
    rw [qxn,qog]
   rw [List.foldl_cons,List.length_cons]
   omega
 have:=key en ([],[]) h
 unfold qdw
 simpa using this
theorem z2t (m:Mch) (x:Lg) (hx:x.ok) {st:St} (h0:At (q3r x.en 0) (q6a m x [] [] 0 0) st) :
  ∃ r,ev pg (.code (.going 15 L19_1) st)=some r∧∃ g' w',(w'=4∨(w'=0∧qjt x.en=[]))∧qaj (.exit 0) (q3r x.en x.en.length) (q6a m x (qjt x.en) (qdw x.en).2 g' w') r:=by
 have hend:qdw x.en=qdw (x.en.take x.en.length):=by rw [List.take_length]
 unfold qjt
 rw [hend]
 refine qdp (α:=Nat × Nat) x.en.length (fun k _=>q3r x.en k) (fun k a=>q6a m x (qdw (x.en.take k)).1 (qdw (x.en.take k)).2 a.1 a.2) (fun k a=>a.2=4∨(a.2=0∧(qdw (x.en.take k)).1=[])) _ ?_ ?_ (0,0) (.inr ⟨rfl,rfl⟩) h0
 ·rintro k ⟨g,w⟩ f hf hk hw
  simp only at hw
  have hk':(k:Int) < x.en.length:=by omega
  have hl:=hx.len
  have wk:=qab (n:=(k:Int) + 1) (by omega) (by omega)
  have hst:=q3c hk
  have hok:=zeb (x.en.take k)
  have hln:=quu (en:=x.en.take k) (fun y hy=>(hx.each y (List.mem_of_mem_take hy)).2)
  rw [List.length_take,Nat.min_eq_left (by omega)] at hln
  obtain ⟨hkd,hys⟩:=hx.each _ (List.getElem_mem hk)
  generalize qdw (x.en.take (k + 1))=z2 at *
  generalize qdw (x.en.take k)=z1 at *
  subst hst
  obtain ⟨o1,l1⟩:=z1
  simp only at hln hw
  have hmid:qrj o1 l1 x.en[k]=if x.en[k].e.kind=0 then qrj o1 l1 x.en[k] else o1:=by
   split
   ·rfl
   ·rename_i h; unfold qrj; rw [if_neg h]
  have hwm:w=4∨(w=0∧qrj o1 l1 x.en[k]=[]):=by
   rcases hw with h | ⟨h1,h2⟩
   ·exact .inl h
   ·exact .inr ⟨h1,List.eq_nil_of_length_eq_zero (by rw [qog,h2]; rfl)⟩
  have hlp:=fun st=>zun m x k x.en[k] (qrj o1 l1 x.en[k],l1) hys (by simp only [qog]; omega) g w hwm (st:=st)
  have e47:=fun (h0:x.en[k].e.kind=0)=>ev47 m x o1 l1 g w hw hok x.en[k] h0
  have e48:=ev48 x.en[k]
  have e49:=ev49 x.en[k]
  have fin:∀ st:St,At (qlq x.en k x.en[k].s 0) (q6a m x (qrj o1 l1 x.en[k]) l1 g w++[o0s,⟨0,.box x.en[k].row⟩]) st→∃ r,ev pg (.code (.going 17 L19_0) st)=some r∧∃ g' w',(w'=4∨(w'=0∧(qje (o1,l1) x.en[k]).1=[]))∧qaj (.exit 2) (qlq x.en k x.en[k].s x.en[k].s.length) (q6a m x (qje (o1,l1) x.en[k]).1 (qje (o1,l1) x.en[k]).2 g' w'++[o0s,⟨0,.box x.en[k].row⟩]) r:=fun st h=>hlp st h
  clear hlp
  generalize qje (o1,l1) x.en[k]=z3 at *
  obtain ⟨Tl,hTl⟩:∃ Tl:St→Prop,∀ st,Tl st ↔ ∃ g' w',(w'=4∨(w'=0∧z3.1=[]))∧At (q3r x.en (k + 1)) (q6a m x z3.1 z3.2 g' w') st:=⟨_,fun _=>Iff.rfl⟩
  refine (?_:∃ st,ev pg (.code L19_1 ⟨fill f 0 (q3r x.en k),q6a m x o1 l1 g w⟩)=some { st:=st }∧Tl (qos 15 st)).elim fun st h=>⟨_,h.1,.inl ⟨rfl,by
   obtain ⟨g',w',h1,h2⟩:=(hTl _).1 h.2
   exact ⟨(g',w'),h1,h2⟩⟩⟩
  generalize hy:x.en[k]=y at *
  obtain ⟨yt,⟨kd,ix,vl⟩,ss⟩:=y
  simp only at hkd hys hmid e47 fin
  rcases hkd with rfl | rfl | rfl
  ·have e:=e47 rfl
   rw [if_pos rfl] at hmid
   generalize qrj o1 l1 ⟨yt,⟨0,ix,vl⟩,ss⟩=O at *
   simp only [List.cons_append,List.nil_append] at e
   simp [q3r,L19_1,hk,hk',hy,e,qag,hf.ne]
   generalize hr:ev pg (.code (.going _ L19_0) _)=o
   obtain ⟨r,rfl,g',w',hw',f2,hf2,rfl⟩:∃ r,o=some r∧_:=by rw [← hr]; exact fin _ (by simp [qlq,hf.ne])
   clear hr
   simp [qlq,wk]
   exact (hTl _).2 ⟨g',w',hw',by simp [q3r,hf2.ne]⟩
  ·rw [if_neg (by decide)] at hmid
   rw [hmid] at fin
   simp [q3r,L19_1,hk,hk',hy,e48,qag,hf.ne]
   generalize hr:ev pg (.code (.going _ L19_0) _)=o
   obtain ⟨r,rfl,g',w',hw',f2,hf2,rfl⟩:∃ r,o=some r∧_:=by rw [← hr]; exact fin _ (by simp [qlq,hf.ne])
   clear hr
   simp [qlq,wk]
   exact (hTl _).2 ⟨g',w',hw',by simp [q3r,hf2.ne]⟩
  ·rw [if_neg (by decide)] at hmid
   rw [hmid] at fin
   simp [q3r,L19_1,hk,hk',hy,e49,qag,hf.ne]
   generalize hr:ev pg (.code (.going _ L19_0) _)=o
   obtain ⟨r,rfl,g',w',hw',f2,hf2,rfl⟩:∃ r,o=some r∧_:=by rw [← hr]; exact fin _ (by simp [qlq,hf.ne])
   clear hr
   simp [qlq,wk]
   exact (hTl _).2 ⟨g',w',hw',by simp [q3r,hf2.ne]⟩
 ·rintro ⟨g,w⟩ f hf hw
  simp [q3r,L19_1,hf.ne]
  simp only [List.take_length] at hw
  rcases hw with h | h
  ·exact ⟨g,.inl ⟨rfl,h⟩⟩
  ·exact ⟨g,.inr ⟨h,rfl⟩⟩
end Go.Proofs.YtlhciedghbmjjaaGreat
