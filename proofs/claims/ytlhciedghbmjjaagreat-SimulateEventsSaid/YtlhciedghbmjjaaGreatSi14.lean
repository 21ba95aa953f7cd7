/- Moves of a log, by the program. -/
import Derived.Test.YtlhciedghbmjjaaGreatSi13
import Derived.KernelRfl
set_option linter.all false
namespace Go.Proofs.YtlhciedghbmjjaaGreat
open Go Go.Am Go.Proofs
set_option maxRecDepth 100000
set_option maxHeartbeats 4000000
structure Mov where
 a:Int
 o:Bool
 f:Int
 t:Int
abbrev Mov.row (x:Mov):List V:=[num x.a,.bool x.o,num x.f,num x.t]
abbrev mvs (l:List Mov):V:=.imm (l.map Mov.row)
abbrev noT:Int:=-1099511627776
def latE (L:List (Int × Nat)):List (V × V):=L.map fun p=>(num p.1,num p.2)
def latG:List (Int × Nat)→Int→Option Nat
 | [],_=>none
 | (a,b) :: r,k=>if k=a then some b else latG r k
def latU:List (Int × Nat)→Int→Nat→List (Int × Nat)
 | [],k,v=>[(k,v)]
 | (a,b) :: r,k,v=>if k=a then (k,v) :: r else (a,b) :: latU r k v
theorem find_lat (k:Int):∀ L:List (Int × Nat),findE (latE L) (num k)=some ((latG L k).map fun n=>num n)
 | []=>rfl
 | (a,b) :: r=>by
  have ih:=find_lat k r
  unfold latE at ih ⊢
  simp only [List.map_cons,findE,eqS,latG]
  by_cases h:k=a
  ·subst h; simp
  ·have hb:(k == a)=false:=by simpa using h
   simp [h,hb,ih]
theorem upd_lat (k:Int) (v:Nat):∀ L:List (Int × Nat),updL (latE L) (num k) (num v)=some (latE (latU L k v))
 | []=>rfl
 | (a,b) :: r=>by
  have ih:=upd_lat k v r
  unfold latE at ih ⊢
  simp only [List.map_cons,updL,eqS,latU]
  by_cases h:k=a
  ·subst h; simp
  ·have hb:(k == a)=false:=by simpa using h
   simp [h,hb,ih]
def endM (out:List Mov) (L:List (Int × Nat)) (x:Ent):List Mov :=
 match (if x.e.kind=0 then latG L x.e.idx else none) with
 | some j=>match out[j]? with
  | some q=>if q.t=noT then out.set j ⟨q.a,q.o,q.f,x.t⟩ else out
  | none=>out
 | none=>out
def begS (t:Int) (z:List Mov × List (Int × Nat)) (s:Int × Bool):List Mov × List (Int × Nat):=(z.1++[⟨s.1,s.2,t,noT⟩],latU z.2 s.1 z.1.length)
def begM (t:Int) (s:List (Int × Bool)) (z:List Mov × List (Int × Nat)):List Mov × List (Int × Nat):=s.foldl (begS t) z
def stepM (z:List Mov × List (Int × Nat)) (x:Ent):List Mov × List (Int × Nat):=begM x.t x.s (endM z.1 z.2 x,z.2)
def movesZ (en:List Ent):List Mov × List (Int × Nat):=en.foldl stepM ([],[])
def movesL (en:List Ent):List Mov:=(movesZ en).1
theorem endM_len (out:List Mov) (L:List (Int × Nat)) (x:Ent):(endM out L x).length=out.length:=by
 unfold endM
 split
 ·split
  ·split <;> simp
  ·rfl
 ·rfl
theorem begM_len (t:Int):∀ (s:List (Int × Bool)) (z:List Mov × List (Int × Nat)),(begM t s z).1.length=z.1.length + s.length
 | [],z=>rfl
 | a :: r,z=>by
  have:=begM_len t r (begS t z a)
  unfold begM at this ⊢
  rw [List.foldl_cons,this]
  simp only [begS,List.length_append,List.length_cons,List.length_nil]
  omega
def LatOk (z:List Mov × List (Int × Nat)):Prop:=∀ k j,latG z.2 k=some j→j < z.1.length
theorem latG_U (L:List (Int × Nat)) (k q:Int) (v:Nat):latG (latU L k v) q=if q=k then some v else latG L q:=by
 induction L with
 | nil=>simp [latU,latG]
 | cons p r ih =>
  obtain ⟨a,b⟩:=p
  simp only [latU]
  by_cases h:k=a
  ·subst h
   simp only [if_true,latG]
   by_cases h2:q=k
   ·simp [h2]
   ·simp [h2]
  ·simp only [if_neg h,latG,ih]
   by_cases h2:q=a
   ·subst h2
    have:¬ q=k:=fun e=>h e.symm
    simp [this]
   ·simp [h2]
theorem begM_ok (t:Int):∀ (s:List (Int × Bool)) (z:List Mov × List (Int × Nat)),LatOk z→LatOk (begM t s z)
 | [],z,h=>h
 | a :: r,z,h=>begM_ok t r (begS t z a) (by
   intro k j hj
   simp only [begS] at hj ⊢
   rw [latG_U] at hj
   rw [List.length_append]
   split at hj
   ·cases hj; simp
   ·have:=h k j hj; simp; omega)
theorem stepM_ok {z:List Mov × List (Int × Nat)} (h:LatOk z) (x:Ent):LatOk (stepM z x):=begM_ok _ _ _ (fun k j hj=>by
 have:=h k j hj
 simp only [endM_len]
 exact this)
theorem movesZ_take {en:List Ent} {k:Nat} (hk:k < en.length):movesZ (en.take (k + 1))=stepM (movesZ (en.take k)) en[k]:=by
 unfold movesZ
 rw [List.take_succ_eq_append_getElem hk,List.foldl_append]
 rfl
abbrev yB19 (m:Mch) (x:Lg) (out:List Mov) (L:List (Int × Nat)) (g w:Nat):H :=
 [⟨0,.box m.cells⟩,o0s,o0s,o0s,o0s,o0s,o0s,o0s,⟨0,.box x.cells⟩,⟨g,.arr w (out.map Mov.row)⟩,⟨0,.box [.sl 9 g w 0 out.length]⟩,⟨0,.map (latE L)⟩,⟨0,.box [.map 11]⟩,⟨0,.box [.fn 47 [] [.bptr 12 0,.bptr 10 0],.fn 48 [] [],.fn 49 [] []]⟩,o0s]
theorem ev47 (m:Mch) (x:Lg) (out:List Mov) (L:List (Int × Nat)) (g w:Nat) (hw:w=4∨(w=0∧out=[])) (hL:LatOk (out,L)) (y:Ent) (hk:y.e.kind=0) :
  ev pg (.call (.fn 47 [] [.bptr 12 0,.bptr 10 0]) [.agg y.row] (yB19 m x out L g w++[o0s,⟨0,.box y.row⟩]))=some { v:=.tup [],st:=⟨[],yB19 m x (endM out L y) L g w++[o0s,⟨0,.box y.row⟩]⟩ }:=by
 have hf:=find_lat y.e.idx L
 unfold endM
 rw [if_pos hk]
 rw [ev_call,pg47]
 cases hg:latG L y.e.idx with
 | none =>
  rw [hg] at hf
  simp [ir47,hf]
 | some j =>
  have hj:=hL _ _ hg
  simp only at hj
  rcases hw with rfl | ⟨_,rfl⟩
  ·rw [hg] at hf
   simp only [List.getElem?_eq_getElem hj]
   by_cases h1:out[j].t=noT
   ·rw [if_pos h1]
    simp [ir47,hf,hj,h1]
   ·rw [if_neg h1]
    have h1b:(out[j].t == noT)=false:=by simpa using h1
    simp [ir47,hf,hj,h1,h1b]
  ·simp at hj
theorem begM_take {t:Int} {s:List (Int × Bool)} {z:List Mov × List (Int × Nat)} {k:Nat} (hk:k < s.length):begM t (s.take (k + 1)) z=begS t (begM t (s.take k) z) s[k]:=by
 unfold begM
 rw [List.take_succ_eq_append_getElem hk,List.foldl_append]
 rfl
def yT19 (en:List Ent) (i:Nat):Tm:=[none,none,none,none,none,none,some (.sl 14 0 0 0 0),some (num 0),some (.bptr 8 0),none,some (.bptr 10 0),some (.bptr 12 0),some (.bptr 13 0)]++List.replicate 18 none++[some (ents en),some (num en.length),some (num i)]++List.replicate 32 none
def yT19i (en:List Ent) (i:Nat) (s:List (Int × Bool)) (k:Nat):Tm:=[none,none,none,none,none,none,some (.sl 14 0 0 0 0),some (num 0),some (.bptr 8 0),none,some (.bptr 10 0),some (.bptr 12 0),some (.bptr 13 0),none,some (.bptr 16 0)]++List.replicate 16 none++[some (ents en),some (num en.length),some (num i)]++List.replicate 11 none++[some (strs s),some (num s.length),some (num k)]++List.replicate 18 none
theorem ylp19i (m:Mch) (x:Lg) (i:Nat) (y:Ent) (z:List Mov × List (Int × Nat)) (hs:y.s.length≤1000) (hz:z.1.length≤10000000) (g w:Nat) (hw:w=4∨(w=0∧z.1=[])) {st:St} (h0:At (yT19i x.en i y.s 0) (yB19 m x z.1 z.2 g w++[o0s,⟨0,.box y.row⟩]) st) :
  ∃ r,ev pg (.code (.going 17 L19_0) st)=some r∧∃ g' w',(w'=4∨(w'=0∧(begM y.t y.s z).1=[]))∧EndsAs (.exit 2) (yT19i x.en i y.s y.s.length) (yB19 m x (begM y.t y.s z).1 (begM y.t y.s z).2 g' w'++[o0s,⟨0,.box y.row⟩]) r:=by
 have hend:begM y.t y.s z=begM y.t (y.s.take y.s.length) z:=by rw [List.take_length]
 rw [hend]
 refine loop_at (α:=Nat × Nat) y.s.length (fun k _=>yT19i x.en i y.s k) (fun k a=>yB19 m x (begM y.t (y.s.take k) z).1 (begM y.t (y.s.take k) z).2 a.1 a.2++[o0s,⟨0,.box y.row⟩]) (fun k a=>a.2=4∨(a.2=0∧(begM y.t (y.s.take k) z).1=[])) _ ?_ ?_ (g,w) hw h0
 ·rintro k ⟨g,w⟩ f hf hk hw
  simp only at hw
  have hk':(k:Int) < y.s.length:=by omega
  have wk:=wrap_id (n:=(k:Int) + 1) (by omega) (by omega)
  have hst:=begM_take (t:=y.t) (z:=z) hk
  have hln:=begM_len y.t (y.s.take k) z
  have hln2:(y.s.take k).length≤1000:=by simp; omega
  generalize begM y.t (y.s.take (k + 1)) z=z2 at *
  generalize begM y.t (y.s.take k) z=z1 at *
  subst hst
  have hup:=upd_lat y.s[k].1 z1.1.length z1.2
  have hap:(z1.1.length + 1) * 32≤140737488355328:=by omega
  refine (?_:∃ st,ev pg (.code L19_0 ⟨fill f 0 (yT19i x.en i y.s k),yB19 m x z1.1 z1.2 g w++[o0s,⟨0,.box y.row⟩]⟩)=some { st:=st }∧At (yT19i x.en i y.s (k + 1)) (yB19 m x (begS y.t z1 y.s[k]).1 (begS y.t z1 y.s[k]).2 (g + 1) 4++[o0s,⟨0,.box y.row⟩]) (cutS 17 st)).elim fun st h=>⟨_,h.1,.inl ⟨rfl,(g + 1,4),.inl rfl,h.2⟩⟩
  rcases hw with rfl | ⟨rfl,hw⟩
  ·simp [yT19i,L19_0,hk,hk',wk,hup,hap,begS,hf.ne]
  ·obtain ⟨o1,l1⟩:=z1
   simp only at hw hup hap ⊢
   subst hw
   have hup0:updL (latE l1) (num y.s[k].1) (.int .i64 0)=some (latE (latU l1 y.s[k].1 0)):=upd_lat _ 0 l1
   simp [yT19i,L19_0,hk,hk',wk,begS,hup0,hf.ne]
 ·rintro ⟨g,w⟩ f hf hw
  simp [yT19i,L19_0,hf.ne]
  simp only [List.take_length] at hw
  rcases hw with h | h
  ·exact ⟨g,.inl ⟨rfl,h⟩⟩
  ·exact ⟨g,.inr ⟨h,rfl⟩⟩
theorem ev48 (y:Ent):ev pg (.call (.fn 48 [] []) [.agg y.row] [])=some { v:=.tup [],st:=⟨[],[]⟩ }:=by
 rw [ev_call,pg48]
 simp [ir48]
theorem ev49 (y:Ent):ev pg (.call (.fn 49 [] []) [.agg y.row] [])=some { v:=.tup [],st:=⟨[],[]⟩ }:=by
 rw [ev_call,pg49]
 simp [ir49]
structure Lg.ok (x:Lg):Prop where
 len:x.en.length≤4096
 each:∀ y ∈ x.en,(y.e.kind=0∨y.e.kind=1∨y.e.kind=2)∧y.s.length≤1000
theorem movesZ_ok (en:List Ent):LatOk (movesZ en):=by
 have key:∀ (en:List Ent) (z:List Mov × List (Int × Nat)),LatOk z→LatOk (en.foldl stepM z):=by
  intro en
  induction en with
  | nil=>intro z h; exact h
  | cons a r ih=>intro z h; exact ih _ (stepM_ok h a)
 exact key en _ (fun k j h=>by cases h)
theorem movesZ_len {en:List Ent} (h:∀ y ∈ en,y.s.length≤1000):(movesZ en).1.length≤1000 * en.length:=by
 have key:∀ (en:List Ent) (z:List Mov × List (Int × Nat)),(∀ y ∈ en,y.s.length≤1000)→(en.foldl stepM z).1.length≤z.1.length + 1000 * en.length:=by
  intro en
  induction en with
  | nil=>intro z _; simp
  | cons a r ih =>
   intro z h
   have h1:=ih (stepM z a) (fun y hy=>h y (by simp [hy]))
   have h2:=h a (by simp)
   have h3:(stepM z a).1.length=z.1.length + a.s.length:=by
    unfold stepM
    rw [begM_len,endM_len]
   rw [List.foldl_cons,List.length_cons]
   omega
 have:=key en ([],[]) h
 unfold movesZ
 simpa using this
theorem ylp19 (m:Mch) (x:Lg) (hx:x.ok) {st:St} (h0:At (yT19 x.en 0) (yB19 m x [] [] 0 0) st) :
  ∃ r,ev pg (.code (.going 15 L19_1) st)=some r∧∃ g' w',(w'=4∨(w'=0∧movesL x.en=[]))∧EndsAs (.exit 0) (yT19 x.en x.en.length) (yB19 m x (movesL x.en) (movesZ x.en).2 g' w') r:=by
 have hend:movesZ x.en=movesZ (x.en.take x.en.length):=by rw [List.take_length]
 unfold movesL
 rw [hend]
 refine loop_at (α:=Nat × Nat) x.en.length (fun k _=>yT19 x.en k) (fun k a=>yB19 m x (movesZ (x.en.take k)).1 (movesZ (x.en.take k)).2 a.1 a.2) (fun k a=>a.2=4∨(a.2=0∧(movesZ (x.en.take k)).1=[])) _ ?_ ?_ (0,0) (.inr ⟨rfl,rfl⟩) h0
 ·rintro k ⟨g,w⟩ f hf hk hw
  simp only at hw
  have hk':(k:Int) < x.en.length:=by omega
  have hl:=hx.len
  have wk:=wrap_id (n:=(k:Int) + 1) (by omega) (by omega)
  have hst:=movesZ_take hk
  have hok:=movesZ_ok (x.en.take k)
  have hln:=movesZ_len (en:=x.en.take k) (fun y hy=>(hx.each y (List.mem_of_mem_take hy)).2)
  rw [List.length_take,Nat.min_eq_left (by omega)] at hln
  obtain ⟨hkd,hys⟩:=hx.each _ (List.getElem_mem hk)
  generalize movesZ (x.en.take (k + 1))=z2 at *
  generalize movesZ (x.en.take k)=z1 at *
  subst hst
  obtain ⟨o1,l1⟩:=z1
  simp only at hln hw
  have hmid:endM o1 l1 x.en[k]=if x.en[k].e.kind=0 then endM o1 l1 x.en[k] else o1:=by
   split
   ·rfl
   ·rename_i h; unfold endM; rw [if_neg h]
  have hwm:w=4∨(w=0∧endM o1 l1 x.en[k]=[]):=by
   rcases hw with h | ⟨h1,h2⟩
   ·exact .inl h
   ·exact .inr ⟨h1,List.eq_nil_of_length_eq_zero (by rw [endM_len,h2]; rfl)⟩
  have hlp:=fun st=>ylp19i m x k x.en[k] (endM o1 l1 x.en[k],l1) hys (by simp only [endM_len]; omega) g w hwm (st:=st)
  have e47:=fun (h0:x.en[k].e.kind=0)=>ev47 m x o1 l1 g w hw hok x.en[k] h0
  have e48:=ev48 x.en[k]
  have e49:=ev49 x.en[k]
  have fin:∀ st:St,At (yT19i x.en k x.en[k].s 0) (yB19 m x (endM o1 l1 x.en[k]) l1 g w++[o0s,⟨0,.box x.en[k].row⟩]) st→∃ r,ev pg (.code (.going 17 L19_0) st)=some r∧∃ g' w',(w'=4∨(w'=0∧(stepM (o1,l1) x.en[k]).1=[]))∧EndsAs (.exit 2) (yT19i x.en k x.en[k].s x.en[k].s.length) (yB19 m x (stepM (o1,l1) x.en[k]).1 (stepM (o1,l1) x.en[k]).2 g' w'++[o0s,⟨0,.box x.en[k].row⟩]) r:=fun st h=>hlp st h
  clear hlp
  generalize stepM (o1,l1) x.en[k]=z3 at *
  obtain ⟨Tl,hTl⟩:∃ Tl:St→Prop,∀ st,Tl st ↔ ∃ g' w',(w'=4∨(w'=0∧z3.1=[]))∧At (yT19 x.en (k + 1)) (yB19 m x z3.1 z3.2 g' w') st:=⟨_,fun _=>Iff.rfl⟩
  refine (?_:∃ st,ev pg (.code L19_1 ⟨fill f 0 (yT19 x.en k),yB19 m x o1 l1 g w⟩)=some { st:=st }∧Tl (cutS 15 st)).elim fun st h=>⟨_,h.1,.inl ⟨rfl,by
   obtain ⟨g',w',h1,h2⟩:=(hTl _).1 h.2
   exact ⟨(g',w'),h1,h2⟩⟩⟩
  generalize hy:x.en[k]=y at *
  obtain ⟨yt,⟨kd,ix,vl⟩,ss⟩:=y
  simp only at hkd hys hmid e47 fin
  rcases hkd with rfl | rfl | rfl
  ·have e:=e47 rfl
   rw [if_pos rfl] at hmid
   generalize endM o1 l1 ⟨yt,⟨0,ix,vl⟩,ss⟩=O at *
   simp only [List.cons_append,List.nil_append] at e
   simp [yT19,L19_1,hk,hk',hy,e,ev_loop,hf.ne]
   generalize hr:ev pg (.code (.going _ L19_0) _)=o
   obtain ⟨r,rfl,g',w',hw',f2,hf2,rfl⟩:∃ r,o=some r∧_:=by rw [← hr]; exact fin _ (by simp [yT19i,hf.ne])
   clear hr
   simp [yT19i,wk]
   exact (hTl _).2 ⟨g',w',hw',by simp [yT19,hf2.ne]⟩
  ·rw [if_neg (by decide)] at hmid
   rw [hmid] at fin
   simp [yT19,L19_1,hk,hk',hy,e48,ev_loop,hf.ne]
   generalize hr:ev pg (.code (.going _ L19_0) _)=o
   obtain ⟨r,rfl,g',w',hw',f2,hf2,rfl⟩:∃ r,o=some r∧_:=by rw [← hr]; exact fin _ (by simp [yT19i,hf.ne])
   clear hr
   simp [yT19i,wk]
   exact (hTl _).2 ⟨g',w',hw',by simp [yT19,hf2.ne]⟩
  ·rw [if_neg (by decide)] at hmid
   rw [hmid] at fin
   simp [yT19,L19_1,hk,hk',hy,e49,ev_loop,hf.ne]
   generalize hr:ev pg (.code (.going _ L19_0) _)=o
   obtain ⟨r,rfl,g',w',hw',f2,hf2,rfl⟩:∃ r,o=some r∧_:=by rw [← hr]; exact fin _ (by simp [yT19i,hf.ne])
   clear hr
   simp [yT19i,wk]
   exact (hTl _).2 ⟨g',w',hw',by simp [yT19,hf2.ne]⟩
 ·rintro ⟨g,w⟩ f hf hw
  simp [yT19,L19_1,hf.ne]
  simp only [List.take_length] at hw
  rcases hw with h | h
  ·exact ⟨g,.inl ⟨rfl,h⟩⟩
  ·exact ⟨g,.inr ⟨h,rfl⟩⟩
end Go.Proofs.YtlhciedghbmjjaaGreat
