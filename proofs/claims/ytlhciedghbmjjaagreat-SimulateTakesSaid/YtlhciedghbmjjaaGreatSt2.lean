/- The values of all lines, by the program. A line that is stuck where it is: what the law says, with no program in sight. A line that is stuck where it is: controls and states. How the signals of a control come to rest, and its actuators: what is defined; right states stay right. What is at rest. -/
import Derived.Test.YtlhciedghbmjjaaGreatEv1
import Derived.Test.YtlhciedghbmjjaaGreatCa1
import Derived.Test.YtlhciedghbmjjaaGreatSa1
import Derived.KernelRfl
set_option linter.all false
namespace Go.Proofs.YtlhciedghbmjjaaGreat
open Go Go.Am Go.Proofs
set_option maxRecDepth 100000
def qem:List Int→List Bool
 | []=>[]
 | e :: l=>(e == 0) :: (e == 2) :: qem l
theorem zde (l m:List Int):qem (l++m)=qem l++qem m:=by
 induction l with
 | nil=>rfl
 | cons e l ih=>simp [qem,ih]
theorem qen (l:List Int):(qem l).length=2 * l.length:=by
 induction l with
 | nil=>rfl
 | cons e l ih=>simp [qem,ih]; omega
theorem qux {l:List Int} {k:Nat} (hk:k < l.length):qem (l.take (k + 1))=qem (l.take k)++[l[k] == 0,l[k] == 2]:=by
 rw [List.take_succ_eq_append_getElem hk,zde]; rfl
def qae (s:Ste):List Bool:=qem s.ends++s.inputs++s.values
theorem qew (s:Ste):(qae s).length=2 * s.ends.length + s.inputs.length + s.values.length:=by
 unfold qae
 rw [List.length_append,List.length_append,qen]
abbrev h52 (s:Ste) (k:Nat) (a:Nat × Nat):H:=[⟨0,.box s.cells⟩,⟨0,.arr 0 []⟩,⟨a.1,.arr a.2 ((qem (s.ends.take k)).map qic)⟩]
def T52 (s:Ste) (k:Nat) (a:Nat × Nat):Tm:=[none,some (.bptr 0 0),some (.sl 1 0 0 0 0),some (.sl 2 a.1 a.2 0 (2 * k)),none,none,none,some (qck s.ends),some (num s.ends.length),some (num k)]++List.replicate 18 none
theorem z7n (s:Ste) (hs:s.small) {st:St} (a0:Nat × Nat) (g0:a0.2=1∨a0.2=0) (h0:At (T52 s 0 a0) (h52 s 0 a0) st):∃ r,ev pg (.code (.going 3 L123_0) st)=some r∧∃ a:Nat × Nat,(a.2=1∨a.2=0)∧qaj (.exit 0) (T52 s s.ends.length a) (h52 s s.ends.length a) r:=by
 have hse:=hs.e
 refine qdp s.ends.length (T52 s) (h52 s) (fun _ a=>a.2=1∨a.2=0) _ ?_ ?_ a0 g0 h0
 ·rintro k ⟨g,m⟩ f hf hk hG
  have hk':(k:Int) < s.ends.length:=by omega
  have wk:=qab (n:=(k:Int) + 1) (by omega) (by omega)
  have hlen:(qem (s.ends.take k)).length=2 * k:=by rw [qen,List.length_take]; omega
  have hb:2 * k + 2≤140737488355328:=by omega
  have h2:2 * (k + 1)=2 * k + 2:=by omega
  unfold T52 h52
  rw [qux hk,h2]
  generalize qem (s.ends.take k)=W at *
  have hmm:m=1∨m=0:=hG
  rcases hmm with rfl | rfl <;> simp [L123_0,hk,hk',wk,hb,hlen,hf.ne]
 ·rintro ⟨g,m⟩ f hf hG
  unfold T52 h52
  generalize qem (s.ends.take s.ends.length)=W at *
  generalize 2 * s.ends.length=N at *
  have hmm:m=1∨m=0:=hG
  rcases hmm with rfl | rfl <;> simp [L123_0,hf.ne]
theorem ev123 (s:Ste) (hs:s.small):ev pg (.call (.fn 123 [] []) [s.v] [])=some { v:=.sl 0 0 1 0 (qae s).length,st:=⟨[],[⟨0,.arr 1 ((qae s).map qic)⟩]⟩ }:=by
 have hl:=@z7n s hs
 obtain ⟨h1,h2,h3,h4,h5⟩:=hs
 have hlen:=qew s
 unfold qae at hlen ⊢
 have he:=qen s.ends
 have q1:2 * s.ends.length + s.inputs.length≤140737488355328:=by omega
 have q2:2 * s.ends.length + s.inputs.length + s.values.length≤140737488355328:=by omega
 rw [hlen]
 simp only [List.map_append]
 have hW:((qem s.ends).map qic).length=2 * s.ends.length:=by rw [List.length_map,he]
 unfold h52 at hl
 rw [List.take_length,List.take_zero,qem] at hl
 generalize (qem s.ends).map qic=W at *
 rw [qac,pg123]
 simp [ir123,qag]
 generalize hr:ev pg (.code (.going _ L123_0) _)=o
 obtain ⟨r,rfl,⟨g,m⟩,hm,f,hf,rfl⟩:∃ r,o=some r∧_:=by rw [← hr]; exact hl (0,0) (.inr rfl) (by simp [T52])
 clear hr
 have hmm:m=1∨m=0:=hm
 rcases hmm with rfl | rfl <;> simp [qaa,exT,qad,T52,hW,q1,q2,qcj,qee,qdy] <;> simp [Nat.add_assoc]
def qfy (c:Ct) (F i:Nat) (L:List Bool):List Bool:=match c.signals[i]? with
 | some x=>if x.kind=0 then L.set (F + i) (x.on.holds L) else L
 | none=>L
def qbg (c:Ct) (F:Nat):Nat→List Bool→List Bool
 | 0,L=>L
 | k + 1,L=>qfy c F k (qbg c F k L)
theorem qzn (c:Ct) (F i:Nat) (L:List Bool):(qfy c F i L).length=L.length:=by
 unfold qfy
 split
 ·split
  ·rw [List.length_set]
  ·rfl
 ·rfl
theorem qfn (c:Ct) (F:Nat) (L:List Bool):∀ k,(qbg c F k L).length=L.length
 | 0=>rfl
 | k + 1=>by rw [qbg,qzn,qfn c F L k]
abbrev qal (s:Ste):Nat:=2 * s.ends.length + s.inputs.length
def qvf (c:Ct) (s:Ste):List Bool:=qbg c (qal s) c.signals.length (qae s)
def qfg (c:Ct) (s:Ste):Ste:=⟨s.ends,s.valves,s.inputs,(qvf c s).drop (qal s),s.timers⟩
theorem qmi (s:Ste):(qae s).drop (qal s)=s.values:=by
 unfold qae
 rw [List.drop_left' (by rw [List.length_append,qen])]
def q2s (c:Ct) (N:Nat):Prop:=∀ x ∈ c.signals,x.on.light=true∧x.on.check N=0
abbrev h50 (c:Ct) (s:Ste) (L:List Bool):H:=[⟨0,.box c.cells⟩,⟨0,.box s.cells⟩,o0,o0,o0,o0,o0,⟨0,.box (zfe 2)⟩,o0,o0,o0,o0,o0,⟨0,.box [.sl 14 0 1 0 s.ends.length,.sl 15 0 1 0 s.valves.length,.sl 16 0 1 0 s.inputs.length,.sl 17 0 1 0 s.values.length,.sl 18 0 1 0 s.timers.length]⟩,⟨0,.arr 1 (s.ends.map qfb)⟩,⟨0,.arr 1 (s.valves.map qic)⟩,⟨0,.arr 1 (s.inputs.map qic)⟩,⟨0,.arr 1 ((L.drop (qal s)).map qic)⟩,⟨0,.arr 1 (s.timers.map qfb)⟩,⟨0,.arr 1 (L.map qic)⟩]
def T50 (c:Ct) (s:Ste) (k:Nat):Tm:=[none,none,some (.bptr 0 0),some (.bptr 1 0),some (.bptr 7 0),some (.bptr 13 0),some (.sl 19 0 1 0 (qae s).length)]++List.replicate 23 none++[some (.imm (c.signals.map Sg.row)),some (num c.signals.length),some (num k)]++List.replicate 28 none
theorem qsg {c:Ct} (s:Ste):(qfg c s).values.length=s.values.length:=by
 unfold qfg
 simp only [List.length_drop]
 rw [qvf,qfn,qew]
 unfold qal
 omega
theorem q6x {c:Ct} (h:c.check=0) (hfew:c.small=true):q2s c (qai c c.act.toNat):=by
 have hR:=qsd h hfew
 intro x hx
 have hl:=(qgc hfew).2.2.2.2.2 x hx
 refine ⟨hl.2.1,?_⟩
 have he:=hR.on x hx
 have hm:=hR.mid
 have h1:=hm.hi
 have h2:=hm.inp
 have h3:=hm.sig
 unfold Ex.check
 rw [if_neg (by unfold qai; omega),if_pos hl.2.1]
 exact he
theorem zhu {c:Ct} {s:Ste} (h:zep c s=0):Shp c s:=by
 unfold zep at h
 by_cases hS:Shp c s
 ·exact hS
 ·rw [if_neg hS] at h; cases h
theorem qlc {c:Ct} {s:Ste} (h:stE c s=0):c.check=0∧Shp c s:=by
 unfold stE at h
 by_cases hc:c.check=0
 ·rw [if_pos hc] at h
  exact ⟨hc,zhu h⟩
 ·rw [if_neg hc] at h; exact absurd h hc
theorem q3l {c:Ct} {F i v:Nat} {L:List Bool} (h:v ≠ F + i∨(∀ x,c.signals[i]?=some x→x.kind ≠ 0)):(qfy c F i L)[v]?=L[v]?:=by
 unfold qfy
 split
 ·rename_i x hx
  split
  ·rename_i h0
   rcases h with h | h
   ·rw [List.getElem?_set_ne (by omega)]
   ·exact absurd h0 (h x hx)
  ·rfl
 ·rfl
theorem qqb {c:Ct} {F v k:Nat} {L:List Bool} (h:∀ j,k≤j→v ≠ F + j∨(∀ x,c.signals[j]?=some x→x.kind ≠ 0)):∀ d,(qbg c F (k + d) L)[v]?=(qbg c F k L)[v]?
 | 0=>rfl
 | d + 1=>by rw [← Nat.add_assoc,qbg,q3l (h (k + d) (by omega)),qqb h d]
theorem qrf {c:Ct} (h:c.check=0):∀ i x,c.signals[i]?=some x→q1v c c.act.toNat (qdh c c.act.toNat (qan c c.act.toNat + i)) i x=0:=by
 have h2:ctE c c.act.toNat=0:=by
  unfold Ct.check at h
  split at h
  ·cases h
  ·split at h
   ·cases h
   ·exact h
 unfold ctE at h2
 split at h2
 ·split at h2
  ·rename_i hs
   intro i x hx
   have hil:i < c.signals.length:=by
    rcases Nat.lt_or_ge i c.signals.length with h | h
    ·exact h
    ·rw [List.getElem?_eq_none h] at hx; cases hx
   have h3:=qom hs i (by omega) (by omega)
   unfold qrm at h3
   rw [hx] at h3
   exact h3
  ·rename_i h4; exact absurd h2 h4
 ·rename_i h4; exact absurd h2 h4
theorem qzb {c:Ct} {s:Ste} (hS:Shp c s):(qae s).length=qai c c.act.toNat:=by
 have h1:=hS.e
 have h2:=hS.i
 have h3:=hS.v
 rw [qew]
 unfold qai
 omega
theorem qmo {c:Ct} {s:Ste} (h:stE c s=0):stE c (qfg c s)=0:=by
 obtain ⟨hc,hS⟩:=qlc h
 have hlen:=qsg (c:=c) s
 have hS':Shp c (qfg c s):=⟨hS.e,hS.w,hS.i,by rw [hlen]; exact hS.v,hS.t⟩
 unfold stE at h ⊢
 rw [if_pos hc] at h ⊢
 unfold zep at h ⊢
 rw [if_pos hS] at h
 rw [if_pos hS']
 have e1:(qfg c s).ends=s.ends:=rfl
 have e2:(qfg c s).timers=s.timers:=rfl
 rw [e1,e2]
 by_cases hb:s.ends.any (qer 4)=true∨s.timers.any (qer 3)=true
 ·rw [if_pos hb] at h; cases h
 ·rw [if_neg hb] at h ⊢
  by_cases ha:zlr (tmF c s) s.timers.length=true
  ·rw [if_pos ha] at h; cases h
  ·have hno:∀ k,k < s.timers.length→tmF c s k=false:=fun k hk=>by
    cases hq:tmF c s k with
    | false=>rfl
    | true=>exact absurd (q2k hk hq) ha
   rw [if_neg]
   rw [qxf fun k hk=>?_]
   ·simp
   ·have hq:=hno k hk
    unfold tmF at hq ⊢
    rw [e2]
    have hkc:k < c.signals.length:=by have:=hS.t; omega
    rw [List.getElem?_eq_getElem hkc] at hq ⊢
    simp only [Option.map_some,Option.getD_some] at hq ⊢
    by_cases hk2:c.signals[k].kind=2
    ·have hv:(qfg c s).values[k]?=s.values[k]?:=by
      unfold qfg
      simp only
      rw [List.getElem?_drop,qvf]
      have:=qqb (c:=c) (F:=qal s) (v:=qal s + k) (k:=0) (L:=qae s) (fun j _=>by
       by_cases hjk:j=k
       ·refine .inr fun x hx=>?_
        rw [hjk,List.getElem?_eq_getElem hkc] at hx
        cases hx
        omega
       ·exact .inl (by omega)) c.signals.length
      rw [Nat.zero_add] at this
      rw [this,qbg,← List.getElem?_drop,qmi]
     rw [hv]
     exact hq
    ·unfold tmB at hq ⊢
     simp [hk2] at hq ⊢
     exact hq
theorem zwp {c:Ct} {s:Ste} (hc:c.check=0) (hS:Shp c s) (h1:s.ends.any (qer 4)=false) (h2:s.timers.any (qer 3)=false) (h3:∀ k,k < s.timers.length→tmF c s k=false):stE c s=0:=by
 unfold stE zep
 rw [if_pos hc,if_pos hS,h1,h2,qxf h3]
 simp
theorem zbl {c:Ct} {s:Ste} (h:stE c s=0):s.ends.any (qer 4)=false∧s.timers.any (qer 3)=false∧∀ k,k < s.timers.length→tmF c s k=false:=by
 obtain ⟨hc,hS⟩:=qlc h
 unfold stE zep at h
 rw [if_pos hc,if_pos hS] at h
 by_cases hb:s.ends.any (qer 4)=true∨s.timers.any (qer 3)=true
 ·rw [if_pos hb] at h; cases h
 ·rw [if_neg hb] at h
  refine ⟨by simpa using fun e=>hb (.inl e),by simpa using fun e=>hb (.inr e),fun k hk=>?_⟩
  cases hq:tmF c s k with
  | false=>rfl
  | true=>rw [if_pos (q2k hk hq)] at h; cases h
def mix {α:Type} (A B:List α) (k:Nat):List α:=A.take k++B.drop k
theorem qna {α:Type} (A B:List α):mix A B 0=B:=by simp [mix]
theorem qtr {α:Type} {A B:List α} (h:A.length=B.length):mix A B A.length=A:=by
 unfold mix
 rw [List.take_length,List.drop_eq_nil_of_le (by omega),List.append_nil]
theorem qte {α:Type} {A B:List α} (h:A.length=B.length) {k:Nat} (hk:k≤A.length):(mix A B k).length=A.length:=by
 unfold mix
 rw [List.length_append,List.length_take,List.length_drop]
 omega
theorem qyr {α:Type} {A B:List α} (h:A.length=B.length) {k:Nat} (hk:k < A.length):(mix A B k)[k]?=B[k]?:=by
 unfold mix
 rw [List.getElem?_append_right (by rw [List.length_take]; omega),List.length_take,List.getElem?_drop]
 congr 1
 omega
theorem qtn {α:Type} {A B:List α} (h:A.length=B.length) {k:Nat} (hk:k < A.length):(mix A B k).set k A[k]=mix A B (k + 1):=by
 have hkB:k < B.length:=by omega
 unfold mix
 rw [List.take_succ_eq_append_getElem hk,List.drop_eq_getElem_cons hkB]
 have hl:(A.take k).length=k:=by rw [List.length_take]; omega
 rw [List.set_append_right k _ (by omega),hl,Nat.sub_self,List.set_cons_zero,List.append_assoc]
 rfl
abbrev q8f (x:Sg) (L:List Bool):Bool:=decide (x.kind=1) && x.off.holds L
def qoo (x:Sg) (L:List Bool) (v:Bool) (t:Int):Bool × Int :=
 if x.kind=1 then (if x.on.holds L != x.off.holds L then (x.on.holds L,t) else (v,t))
 else if x.kind=2 then (if x.on.holds L=true then (if t=0 then (v,1) else (v,t)) else (false,0))
 else (v,t)
def q2v (L:List Bool):List Sg→List Bool→List Int→List (Bool × Int)
 | x :: l,v :: w,t :: u=>qoo x L v t :: q2v L l w u
 | _,_,_=>[]
theorem qnc (L:List Bool):∀ {l:List Sg} {w:List Bool} {u:List Int},w.length=l.length→u.length=l.length→(q2v L l w u).length=l.length
 | [],_,_,_,_=>by simp [q2v]
 | x :: l,[],_,h,_=>by simp at h
 | x :: l,v :: w,[],_,h=>by simp at h
 | x :: l,v :: w,t :: u,h1,h2=>by
  simp only [List.length_cons] at h1 h2
  rw [q2v,List.length_cons,qnc L (by omega) (by omega),List.length_cons]
theorem qrw (L:List Bool):∀ {l:List Sg} {w:List Bool} {u:List Int} {k:Nat} {x:Sg} {v:Bool} {t:Int},l[k]?=some x→w[k]?=some v→u[k]?=some t→(q2v L l w u)[k]?=some (qoo x L v t)
 | [],_,_,_,_,_,_,h,_,_=>by simp at h
 | x :: l,[],_,_,_,_,_,_,h,_=>by simp at h
 | x :: l,v :: w,[],_,_,_,_,_,_,h=>by simp at h
 | x :: l,v :: w,t :: u,0,_,_,_,h1,h2,h3=>by
  simp at h1 h2 h3
  subst h1 h2 h3
  rfl
 | x :: l,v :: w,t :: u,k + 1,_,_,_,h1,h2,h3=>by
  simp at h1 h2 h3
  rw [q2v,List.getElem?_cons_succ]
  exact qrw L h1 h2 h3
abbrev qfr (c:Ct) (g:Ste):List (Bool × Int):=q2v (qae g) c.signals g.values g.timers
def q1h (c:Ct) (g:Ste):Ste:=⟨g.ends,g.valves,g.inputs,(qfr c g).map Prod.fst,(qfr c g).map Prod.snd⟩
def qmh (c:Ct) (s:Ste):Ste:=q1h c (qfg c s)
def zhz (c:Ct) (L:List Bool) (i:Nat):Bool:=((c.signals[i]?).map fun x=>x.on.holds L && q8f x L).getD false
def q8x (c:Ct) (s:Ste):List Int:=qyp (zhz c (qae (qfg c s))) (qal s) c.signals.length
def qfh (c:Ct) (N:Nat):Nat→Ste→List Int→Option (Ste × List Int)
 | 0,_,_=>none
 | d + 1,s,l=>if qkp (qmh c s) s=true then some (s,norm N (l++q8x c s)) else qfh c N d (qmh c s) (l++q8x c s)
def qcw (c:Ct) (s:Ste):Option (Ste × List Int):=qfh c (qai c c.act.toNat) 65 s []
abbrev qeg (L:List Bool) (p:List Int) (i:Nat):Bool:=((p[i]?).map fun j=>(L[j.toNat]?).getD false).getD false
def q8i (c:Ct) (L:List Bool) (i:Nat) (v:Bool):Bool:=if qeg L c.plus i != qeg L c.minus i then qeg L c.plus i else v
def qpm (c:Ct) (s:Ste):Ste:=⟨s.ends,s.valves.mapIdx (q8i c (qae s)),s.inputs,s.values,s.timers⟩
def qmu (c:Ct) (s:Ste):List Int:=qyp (fun i=>qeg (qae s) c.plus i && qeg (qae s) c.minus i) (qai c c.act.toNat) c.act.toNat
def qsk (v:Bool) (e:Int):Int:=if v=true∧(e=0∨e=3) then 1 else if v=false∧(e=2∨e=1) then 3 else e
def qlp (s:Ste):Ste:=⟨List.zipWith qsk s.valves s.ends,s.valves,s.inputs,s.values,s.timers⟩
abbrev qie (c:Ct):Nat:=qai c c.act.toNat + c.act.toNat
def qdj (c:Ct) (s:Ste):Option (Ste × List Int):=(qcw c s).map fun x=>(qlp (qpm c x.1),norm (qie c) (x.2++qmu c x.1))
def qfl (c:Ct):Nat→Ste→List Int→Option (Ste × List Int)
 | 0,_,_=>none
 | d + 1,s,l=>match qdj c s with
  | none=>none
  | some x=>if qkp s x.1=true then some (s,norm (qie c) (l++x.2)) else qfl c d x.1 (norm (qie c) (l++x.2))
def qlr (c:Ct) (s:Ste):Option (Ste × List Int):=qfl c 65 s []
theorem qgk {c:Ct} {s:Ste}:stE c s=0 ↔ c.check=0∧Shp c s∧s.ends.any (qer 4)=false∧s.timers.any (qer 3)=false∧∀ k,k < s.timers.length→tmF c s k=false :=
 ⟨fun h=>⟨(qlc h).1,(qlc h).2,zbl h⟩,fun h=>zwp h.1 h.2.1 h.2.2.1 h.2.2.2.1 h.2.2.2.2⟩
theorem qfv {n:Int} {l:List Int}:l.any (qer n)=false ↔ ∀ x ∈ l,0≤x∧x < n:=by
 rw [List.any_eq_false]
 constructor
 ·intro h x hx
  have:=h x hx
  simp only [qer,Bool.or_eq_true,decide_eq_true_eq,not_or] at this
  omega
 ·intro h x hx
  have:=h x hx
  simp only [qer,Bool.or_eq_true,decide_eq_true_eq,not_or]
  omega
theorem qwg {c:Ct} {s:Ste} (hS:Shp c s) {k:Nat} (hk:k < c.signals.length):tmF c s k=tmB c.signals[k].kind (s.values[k]'(by rw [hS.v]; exact hk)) (s.timers[k]'(by rw [hS.t]; exact hk)):=by
 unfold tmF
 rw [List.getElem?_eq_getElem hk,List.getElem?_eq_getElem (by rw [hS.v]; exact hk),List.getElem?_eq_getElem (by rw [hS.t]; exact hk)]
 rfl
theorem q2h {x:Sg} {L:List Bool} {v:Bool} {t:Int} (h:tmB x.kind v t=false) (ht:0≤t∧t < 3):tmB x.kind (qoo x L v t).1 (qoo x L v t).2=false∧0≤(qoo x L v t).2∧(qoo x L v t).2 < 3:=by
 unfold qoo
 by_cases h1:x.kind=1
 ·rw [if_pos h1]
  rw [h1] at h ⊢
  simp [tmB] at h ⊢
  split <;> exact ⟨h,ht⟩
 ·rw [if_neg h1]
  by_cases h2:x.kind=2
  ·rw [if_pos h2]
   rw [h2] at h ⊢
   simp [tmB] at h
   split
   ·split
    ·rename_i h0
     subst h0
     subst h
     exact ⟨by decide,by simp⟩
    ·refine ⟨?_,ht⟩
     simp [tmB,h]
   ·exact ⟨by decide,by simp⟩
  ·rw [if_neg h2]
   exact ⟨h,ht⟩
theorem q8n {c:Ct} {g:Ste} (h:stE c g=0):stE c (q1h c g)=0:=by
 obtain ⟨hc,hS,h1,h2,h3⟩:=qgk.1 h
 have hlen:(qfr c g).length=c.signals.length:=qnc _ hS.v hS.t
 have hS':Shp c (q1h c g):=⟨hS.e,hS.w,hS.i,by unfold q1h; rw [List.length_map,hlen],by unfold q1h; rw [List.length_map,hlen]⟩
 have hall:∀ k (hk:k < c.signals.length),∃ v t,(qfr c g)[k]?=some (v,t)∧tmB c.signals[k].kind v t=false∧0≤t∧t < 3:=by
  intro k hk
  have hkv:k < g.values.length:=by rw [hS.v]; exact hk
  have hkt:k < g.timers.length:=by rw [hS.t]; exact hk
  have hg:=qrw (qae g) (List.getElem?_eq_getElem hk) (List.getElem?_eq_getElem hkv) (List.getElem?_eq_getElem hkt)
  have ht:=(qfv.1 h2) _ (List.getElem_mem hkt)
  have hq:=h3 k hkt
  rw [qwg hS hk] at hq
  have:=q2h (L:=qae g) hq ht
  exact ⟨_,_,hg,this.1,this.2⟩
 refine qgk.2 ⟨hc,hS',h1,qfv.2 fun x hx=>?_,fun k hk=>?_⟩
 ·unfold q1h at hx
  obtain ⟨k,hk,rfl⟩:=List.getElem_of_mem hx
  rw [List.getElem_map]
  rw [List.length_map,hlen] at hk
  obtain ⟨v,t,e,_,hr⟩:=hall k hk
  rw [List.getElem?_eq_getElem (by rw [hlen]; exact hk)] at e
  rw [Option.some.inj e]
  exact hr
 ·have hk':k < c.signals.length:=by rw [← hS'.t]; exact hk
  rw [qwg hS' hk']
  obtain ⟨v,t,e,hr,_⟩:=hall k hk'
  unfold q1h
  simp only [List.getElem_map]
  rw [List.getElem?_eq_getElem (by rw [hlen]; exact hk')] at e
  rw [Option.some.inj e]
  exact hr
theorem qtq {c:Ct} {s:Ste} (h:stE c s=0):stE c (qmh c s)=0:=q8n (qmo h)
theorem q3m {c:Ct} {s:Ste} (h:stE c s=0):stE c (qpm c s)=0:=by
 obtain ⟨hc,hS,h1,h2,h3⟩:=qgk.1 h
 exact qgk.2 ⟨hc,⟨hS.e,by unfold qpm; rw [List.length_mapIdx]; exact hS.w,hS.i,hS.v,hS.t⟩,h1,h2,h3⟩
theorem zie {v:Bool} {e:Int} (h:0≤e∧e < 4):0≤qsk v e∧qsk v e < 4:=by
 unfold qsk
 split
 ·omega
 ·split
  ·omega
  ·exact h
theorem q3z {c:Ct} {s:Ste} (h:stE c s=0):stE c (qlp s)=0:=by
 obtain ⟨hc,hS,h1,h2,h3⟩:=qgk.1 h
 have hl:(List.zipWith qsk s.valves s.ends).length=s.ends.length:=by
  have:=hS.e
  have:=hS.w
  rw [List.length_zipWith]
  omega
 refine qgk.2 ⟨hc,⟨by unfold qlp; rw [hl]; exact hS.e,hS.w,hS.i,hS.v,hS.t⟩,qfv.2 fun x hx=>?_,h2,h3⟩
 unfold qlp at hx
 obtain ⟨k,hk,rfl⟩:=List.getElem_of_mem hx
 rw [List.getElem_zipWith]
 exact zie ((qfv.1 h1) _ (List.getElem_mem _))
theorem qly {c:Ct} {N:Nat}:∀ {d:Nat} {s:Ste} {l:List Int} {t:Ste} {m:List Int},stE c s=0→qfh c N d s l=some (t,m)→stE c t=0
 | 0,_,_,_,_,_,h=>by cases h
 | d + 1,s,l,t,m,hs,h=>by
  rw [qfh] at h
  split at h
  ·cases h; exact hs
  ·exact qly (qtq hs) h
theorem qol {c:Ct} {s t:Ste} {m:List Int} (hs:stE c s=0) (h:qcw c s=some (t,m)):stE c t=0:=qly hs h
theorem qpu {c:Ct} {s t:Ste} {m:List Int} (hs:stE c s=0) (h:qdj c s=some (t,m)):stE c t=0:=by
 unfold qdj at h
 cases e:qcw c s with
 | none=>rw [e] at h; cases h
 | some x =>
  rw [e] at h
  cases h
  exact q3z (q3m (qol hs e))
theorem qqe {c:Ct}:∀ {d:Nat} {s:Ste} {l:List Int} {t:Ste} {m:List Int},stE c s=0→qfl c d s l=some (t,m)→stE c t=0
 | 0,_,_,_,_,_,h=>by cases h
 | d + 1,s,l,t,m,hs,h=>by
  rw [qfl] at h
  cases e:qdj c s with
  | none=>rw [e] at h; cases h
  | some x =>
   rw [e] at h
   simp only at h
   split at h
   ·cases h; exact hs
   ·exact qqe (qpu hs (show qdj c s=some (x.1,x.2) from e)) h
theorem qmm {c:Ct} {s t:Ste} {m:List Int} (hs:stE c s=0) (h:qlr c s=some (t,m)):stE c t=0:=qqe hs h
theorem qwc (s:Ste):qkp s s=true:=qip.2 rfl
theorem qqp {c:Ct}:∀ {d:Nat} {s:Ste} {l:List Int} {t:Ste} {m:List Int},qfl c d s l=some (t,m)→∃ a,qdj c t=some (t,a)
 | 0,_,_,_,_,h=>by cases h
 | d + 1,s,l,t,m,h=>by
  rw [qfl] at h
  cases e:qdj c s with
  | none=>rw [e] at h; cases h
  | some x =>
   rw [e] at h
   simp only at h
   split at h
   ·rename_i hs
    cases h
    have:=qip.1 hs
    exact ⟨x.2,by rw [e,this]⟩
   ·exact qqp h
theorem qsm {c:Ct} {s t:Ste} {m:List Int} (h:qlr c s=some (t,m)):∃ a,qdj c t=some (t,a):=qqp h
theorem q7p {c:Ct} {t:Ste} {a:List Int} (h:qdj c t=some (t,a)):qlr c t=some (t,norm (qie c) a):=by
 unfold qlr
 rw [qfl,h]
 simp only [qwc,if_true,List.nil_append]
theorem qnv {c:Ct} {N:Nat}:∀ {d:Nat} {s:Ste} {l:List Int} {t:Ste} {m:List Int},qfh c N d s l=some (t,m)→t.ends=s.ends∧t.valves=s.valves∧t.inputs=s.inputs
 | 0,_,_,_,_,h=>by cases h
 | d + 1,s,l,t,m,h=>by
  rw [qfh] at h
  split at h
  ·cases h; exact ⟨rfl,rfl,rfl⟩
  ·exact qnv (s:=qmh c s) h
theorem qpz {c:Ct} {s t:Ste} {m:List Int} (h:qcw c s=some (t,m)):t.ends=s.ends∧t.valves=s.valves∧t.inputs=s.inputs:=qnv h
theorem q1a {c:Ct} {s t:Ste} {a:List Int} (h:qdj c s=some (t,a)):∃ u m,qcw c s=some (u,m)∧t=qlp (qpm c u)∧a=norm (qie c) (m++qmu c u):=by
 unfold qdj at h
 cases e:qcw c s with
 | none=>rw [e] at h; cases h
 | some x =>
  rw [e] at h
  cases h
  exact ⟨x.1,x.2,rfl,rfl,rfl⟩
theorem qxo {c:Ct} {s t:Ste} {a:List Int} (h:qdj c s=some (t,a)):t.inputs=s.inputs:=by
 obtain ⟨u,m,hu,rfl,_⟩:=q1a h
 exact (qpz hu).2.2
theorem qnq {c:Ct}:∀ {d:Nat} {s:Ste} {l:List Int} {t:Ste} {m:List Int},qfl c d s l=some (t,m)→t.inputs=s.inputs
 | 0,_,_,_,_,h=>by cases h
 | d + 1,s,l,t,m,h=>by
  rw [qfl] at h
  cases e:qdj c s with
  | none=>rw [e] at h; cases h
  | some x =>
   rw [e] at h
   simp only at h
   split at h
   ·cases h; rfl
   ·rw [qnq h,qxo (show qdj c s=some (x.1,x.2) from e)]
theorem q0e {c:Ct} {s t:Ste} {m:List Int} (h:qlr c s=some (t,m)):t.inputs=s.inputs:=qnq h
structure Evn where
 kind:Int
 idx:Int
 val:Bool
abbrev Evn.row (x:Evn):List V:=[num x.kind,num x.idx,.bool x.val]
def qma (a b:Ste) (i:Nat):Option (Int × Bool):=match a.ends[i]?,b.ends[i]? with
 | some x,some y=>if (y=1∨y=3)∧x ≠ y then some (i,y == 1) else none
 | _,_=>none
def qcv (a b:Ste):List (Int × Bool):=(List.range a.ends.length).filterMap (qma a b)
def qsp (s:Ste) (k:Int) (i:Nat):Bool:=if k=0 then ((s.ends[i]?).map fun e=>e == 1 || e == 3).getD false else ((s.timers[i]?).map fun t=>t == 1).getD false
def q1x (s:Ste) (x:Evn):Bool :=
 if x.idx < 0 then false
 else if x.kind=2 then ((s.inputs[x.idx.toNat]?).map fun v=>v != x.val).getD false
 else qsp s x.kind x.idx.toNat
def qff (s:Ste) (x:Evn):Ste :=
 if x.kind=0 then ⟨s.ends.set x.idx.toNat (if s.ends[x.idx.toNat]?=some 1 then 2 else 0),s.valves,s.inputs,s.values,s.timers⟩
 else if x.kind=1 then ⟨s.ends,s.valves,s.inputs,s.values.set x.idx.toNat true,s.timers.set x.idx.toNat 2⟩
 else ⟨s.ends,s.valves,s.inputs.set x.idx.toNat x.val,s.values,s.timers⟩
def qji (c:Ct) (s:Ste):Ste × List Int × Int:=match qlr c s with
 | some x=>(x.1,x.2,0)
 | none=>(zeroS,[],21)
def qap (c:Ct) (s:Ste) (x:Evn):Ste × List Int × Int :=
 if x.kind < 0∨2 < x.kind then (zeroS,[],1) else if q1x s x=true then qji c (qff s x) else (zeroS,[],14)
structure Crs where
 st:Ste
 strokes:List (List (Int × Bool))
 conf:List Int
def q3q:Crs:=⟨zeroS,[],[]⟩
def q2q (c:Ct):List Evn→Nat→Crs→Crs × Int × Int
 | [],_,r=>(r,0,0)
 | x :: l,i,r=>if (qap c r.st x).2.2=0 then q2q c l (i + 1) ⟨(qap c r.st x).1,r.strokes++[qcv r.st (qap c r.st x).1],norm (qie c) (r.conf++(qap c r.st x).2.1)⟩ else (q3q,i,(qap c r.st x).2.2)
end Go.Proofs.YtlhciedghbmjjaaGreat
