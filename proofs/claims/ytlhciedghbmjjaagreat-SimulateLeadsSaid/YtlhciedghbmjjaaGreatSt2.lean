/- The values of all lines, by the program. A line that is stuck where it is: what the law says, with no program in sight. A line that is stuck where it is: controls and states. How the signals of a control come to rest, and its actuators: what is defined; right states stay right. What is at rest. -/
import Derived.Test.YtlhciedghbmjjaaGreatEv1
import Derived.Test.YtlhciedghbmjjaaGreatCa1
import Derived.Test.YtlhciedghbmjjaaGreatSa1
import Derived.KernelRfl
set_option linter.all false
namespace Go.Proofs.YtlhciedghbmjjaaGreat
open Go Go.Am Go.Proofs
set_option maxRecDepth 100000
def qen:List Int→List Bool
 | []=>[]
 | e :: l=>(e == 0) :: (e == 2) :: qen l
theorem zag (l m:List Int):qen (l++m)=qen l++qen m:=by
 induction l with
 | nil=>rfl
 | cons e l ih=>simp [qen,ih]
theorem qel (l:List Int):(qen l).length=2 * l.length:=by
 induction l with
 | nil=>rfl
 | cons e l ih=>simp [qen,ih]; omega
theorem qwm {l:List Int} {k:Nat} (hk:k < l.length):qen (l.take (k + 1))=qen (l.take k)++[l[k] == 0,l[k] == 2]:=by
 rw [List.take_succ_eq_append_getElem hk,zag]; rfl
def qag (s:Ste):List Bool:=qen s.ends++s.inputs++s.values
theorem qex (s:Ste):(qag s).length=2 * s.ends.length + s.inputs.length + s.values.length:=by
 unfold qag
 rw [List.length_append,List.length_append,qel]
abbrev h52 (s:Ste) (k:Nat) (a:Nat × Nat):H:=[⟨0,.box s.cells⟩,⟨0,.arr 0 []⟩,⟨a.1,.arr a.2 ((qen (s.ends.take k)).map qho)⟩]
def T52 (s:Ste) (k:Nat) (a:Nat × Nat):Tm:=[none,some (.bptr 0 0),some (.sl 1 0 0 0 0),some (.sl 2 a.1 a.2 0 (2 * k)),none,none,none,some (qbw s.ends),some (num s.ends.length),some (num k)]++List.replicate 18 none
theorem z9l (s:Ste) (hs:s.small) {st:St} (a0:Nat × Nat) (g0:a0.2=1∨a0.2=0) (h0:At (T52 s 0 a0) (h52 s 0 a0) st):∃ r,ev pg (.code (.going 3 L123_0) st)=some r∧∃ a:Nat × Nat,(a.2=1∨a.2=0)∧qai (.exit 0) (T52 s s.ends.length a) (h52 s s.ends.length a) r:=by
 have hse:=hs.e
 refine qco s.ends.length (T52 s) (h52 s) (fun _ a=>a.2=1∨a.2=0) _ ?_ ?_ a0 g0 h0
 ·rintro k ⟨g,m⟩ f hf hk hG
  have hk':(k:Int) < s.ends.length:=by omega
  have wk:=qab (n:=(k:Int) + 1) (by omega) (by omega)
  have hlen:(qen (s.ends.take k)).length=2 * k:=by rw [qel,List.length_take]; omega
  have hb:2 * k + 2≤140737488355328:=by omega
  have h2:2 * (k + 1)=2 * k + 2:=by omega
  unfold T52 h52
  rw [qwm hk,h2]
  generalize qen (s.ends.take k)=W at *
  have hmm:m=1∨m=0:=hG
  rcases hmm with rfl | rfl <;> simp [L123_0,hk,hk',wk,hb,hlen,hf.ne]
 ·rintro ⟨g,m⟩ f hf hG
  unfold T52 h52
  generalize qen (s.ends.take s.ends.length)=W at *
  generalize 2 * s.ends.length=N at *
  have hmm:m=1∨m=0:=hG
  rcases hmm with rfl | rfl <;> simp [L123_0,hf.ne]
theorem ev123 (s:Ste) (hs:s.small):ev pg (.call (.fn 123 [] []) [s.v] [])=some { v:=.sl 0 0 1 0 (qag s).length,st:=⟨[],[⟨0,.arr 1 ((qag s).map qho)⟩]⟩ }:=by
 have hl:=@z9l s hs
 obtain ⟨h1,h2,h3,h4,h5⟩:=hs
 have hlen:=qex s
 unfold qag at hlen ⊢
 have he:=qel s.ends
 have q1:2 * s.ends.length + s.inputs.length≤140737488355328:=by omega
 have q2:2 * s.ends.length + s.inputs.length + s.values.length≤140737488355328:=by omega
 rw [hlen]
 simp only [List.map_append]
 have hW:((qen s.ends).map qho).length=2 * s.ends.length:=by rw [List.length_map,he]
 unfold h52 at hl
 rw [List.take_length,List.take_zero,qen] at hl
 generalize (qen s.ends).map qho=W at *
 rw [qac,pg123]
 simp [ir123,qae]
 generalize hr:ev pg (.code (.going _ L123_0) _)=o
 obtain ⟨r,rfl,⟨g,m⟩,hm,f,hf,rfl⟩:∃ r,o=some r∧_:=by rw [← hr]; exact hl (0,0) (.inr rfl) (by simp [T52])
 clear hr
 have hmm:m=1∨m=0:=hm
 rcases hmm with rfl | rfl <;> simp [qaa,exT,qad,T52,hW,q1,q2,qck,qef,qdy] <;> simp [Nat.add_assoc]
def qfx (c:Ct) (F i:Nat) (L:List Bool):List Bool:=match c.signals[i]? with
 | some x=>if x.kind=0 then L.set (F + i) (x.on.holds L) else L
 | none=>L
def qbh (c:Ct) (F:Nat):Nat→List Bool→List Bool
 | 0,L=>L
 | k + 1,L=>qfx c F k (qbh c F k L)
theorem qzx (c:Ct) (F i:Nat) (L:List Bool):(qfx c F i L).length=L.length:=by
 unfold qfx
 split
 ·split
  ·rw [List.length_set]
  ·rfl
 ·rfl
theorem qft (c:Ct) (F:Nat) (L:List Bool):∀ k,(qbh c F k L).length=L.length
 | 0=>rfl
 | k + 1=>by rw [qbh,qzx,qft c F L k]
abbrev qal (s:Ste):Nat:=2 * s.ends.length + s.inputs.length
def qvs (c:Ct) (s:Ste):List Bool:=qbh c (qal s) c.signals.length (qag s)
def qfc (c:Ct) (s:Ste):Ste:=⟨s.ends,s.valves,s.inputs,(qvs c s).drop (qal s),s.timers⟩
theorem qmr (s:Ste):(qag s).drop (qal s)=s.values:=by
 unfold qag
 rw [List.drop_left' (by rw [List.length_append,qel])]
def q3n (c:Ct) (N:Nat):Prop:=∀ x ∈ c.signals,x.on.light=true∧x.on.check N=0
abbrev h50 (c:Ct) (s:Ste) (L:List Bool):H:=[⟨0,.box c.cells⟩,⟨0,.box s.cells⟩,o0,o0,o0,o0,o0,⟨0,.box (zhw 2)⟩,o0,o0,o0,o0,o0,⟨0,.box [.sl 14 0 1 0 s.ends.length,.sl 15 0 1 0 s.valves.length,.sl 16 0 1 0 s.inputs.length,.sl 17 0 1 0 s.values.length,.sl 18 0 1 0 s.timers.length]⟩,⟨0,.arr 1 (s.ends.map qee)⟩,⟨0,.arr 1 (s.valves.map qho)⟩,⟨0,.arr 1 (s.inputs.map qho)⟩,⟨0,.arr 1 ((L.drop (qal s)).map qho)⟩,⟨0,.arr 1 (s.timers.map qee)⟩,⟨0,.arr 1 (L.map qho)⟩]
def T50 (c:Ct) (s:Ste) (k:Nat):Tm:=[none,none,some (.bptr 0 0),some (.bptr 1 0),some (.bptr 7 0),some (.bptr 13 0),some (.sl 19 0 1 0 (qag s).length)]++List.replicate 23 none++[some (.imm (c.signals.map Sg.row)),some (num c.signals.length),some (num k)]++List.replicate 28 none
theorem qsg {c:Ct} (s:Ste):(qfc c s).values.length=s.values.length:=by
 unfold qfc
 simp only [List.length_drop]
 rw [qvs,qft,qex]
 unfold qal
 omega
theorem q7r {c:Ct} (h:c.check=0) (hfew:c.small=true):q3n c (qaj c c.act.toNat):=by
 have hR:=qsr h hfew
 intro x hx
 have hl:=(qfz hfew).2.2.2.2.2 x hx
 refine ⟨hl.2.1,?_⟩
 have he:=hR.on x hx
 have hm:=hR.mid
 have h1:=hm.hi
 have h2:=hm.inp
 have h3:=hm.sig
 unfold Ex.check
 rw [if_neg (by unfold qaj; omega),if_pos hl.2.1]
 exact he
theorem zge {c:Ct} {s:Ste} (h:zel c s=0):Shp c s:=by
 unfold zel at h
 by_cases hS:Shp c s
 ·exact hS
 ·rw [if_neg hS] at h; cases h
theorem qlo {c:Ct} {s:Ste} (h:stE c s=0):c.check=0∧Shp c s:=by
 unfold stE at h
 by_cases hc:c.check=0
 ·rw [if_pos hc] at h
  exact ⟨hc,zge h⟩
 ·rw [if_neg hc] at h; exact absurd h hc
theorem q2l {c:Ct} {F i v:Nat} {L:List Bool} (h:v ≠ F + i∨(∀ x,c.signals[i]?=some x→x.kind ≠ 0)):(qfx c F i L)[v]?=L[v]?:=by
 unfold qfx
 split
 ·rename_i x hx
  split
  ·rename_i h0
   rcases h with h | h
   ·rw [List.getElem?_set_ne (by omega)]
   ·exact absurd h0 (h x hx)
  ·rfl
 ·rfl
theorem qqb {c:Ct} {F v k:Nat} {L:List Bool} (h:∀ j,k≤j→v ≠ F + j∨(∀ x,c.signals[j]?=some x→x.kind ≠ 0)):∀ d,(qbh c F (k + d) L)[v]?=(qbh c F k L)[v]?
 | 0=>rfl
 | d + 1=>by rw [← Nat.add_assoc,qbh,q2l (h (k + d) (by omega)),qqb h d]
theorem qqt {c:Ct} (h:c.check=0):∀ i x,c.signals[i]?=some x→q1z c c.act.toNat (qdi c c.act.toNat (qao c c.act.toNat + i)) i x=0:=by
 have h2:ctE c c.act.toNat=0:=by
  unfold Ct.check at h
  split at h
  ·cases h
  ·split at h
   ·cases h
   ·exact h
 unfold ctE at h2
 split at h2
 ·split at h2
  ·rename_i hs
   intro i x hx
   have hil:i < c.signals.length:=by
    rcases Nat.lt_or_ge i c.signals.length with h | h
    ·exact h
    ·rw [List.getElem?_eq_none h] at hx; cases hx
   have h3:=qoe hs i (by omega) (by omega)
   unfold qqv at h3
   rw [hx] at h3
   exact h3
  ·rename_i h4; exact absurd h2 h4
 ·rename_i h4; exact absurd h2 h4
theorem q0t {c:Ct} {s:Ste} (hS:Shp c s):(qag s).length=qaj c c.act.toNat:=by
 have h1:=hS.e
 have h2:=hS.i
 have h3:=hS.v
 rw [qex]
 unfold qaj
 omega
theorem qmo {c:Ct} {s:Ste} (h:stE c s=0):stE c (qfc c s)=0:=by
 obtain ⟨hc,hS⟩:=qlo h
 have hlen:=qsg (c:=c) s
 have hS':Shp c (qfc c s):=⟨hS.e,hS.w,hS.i,by rw [hlen]; exact hS.v,hS.t⟩
 unfold stE at h ⊢
 rw [if_pos hc] at h ⊢
 unfold zel at h ⊢
 rw [if_pos hS] at h
 rw [if_pos hS']
 have e1:(qfc c s).ends=s.ends:=rfl
 have e2:(qfc c s).timers=s.timers:=rfl
 rw [e1,e2]
 by_cases hb:s.ends.any (qes 4)=true∨s.timers.any (qes 3)=true
 ·rw [if_pos hb] at h; cases h
 ·rw [if_neg hb] at h ⊢
  by_cases ha:zqv (tmF c s) s.timers.length=true
  ·rw [if_pos ha] at h; cases h
  ·have hno:∀ k,k < s.timers.length→tmF c s k=false:=fun k hk=>by
    cases hq:tmF c s k with
    | false=>rfl
    | true=>exact absurd (q2v hk hq) ha
   rw [if_neg]
   rw [qyk fun k hk=>?_]
   ·simp
   ·have hq:=hno k hk
    unfold tmF at hq ⊢
    rw [e2]
    have hkc:k < c.signals.length:=by have:=hS.t; omega
    rw [List.getElem?_eq_getElem hkc] at hq ⊢
    simp only [Option.map_some,Option.getD_some] at hq ⊢
    by_cases hk2:c.signals[k].kind=2
    ·have hv:(qfc c s).values[k]?=s.values[k]?:=by
      unfold qfc
      simp only
      rw [List.getElem?_drop,qvs]
      have:=qqb (c:=c) (F:=qal s) (v:=qal s + k) (k:=0) (L:=qag s) (fun j _=>by
       by_cases hjk:j=k
       ·refine .inr fun x hx=>?_
        rw [hjk,List.getElem?_eq_getElem hkc] at hx
        cases hx
        omega
       ·exact .inl (by omega)) c.signals.length
      rw [Nat.zero_add] at this
      rw [this,qbh,← List.getElem?_drop,qmr]
     rw [hv]
     exact hq
    ·unfold tmB at hq ⊢
     simp [hk2] at hq ⊢
     exact hq
theorem ztt {c:Ct} {s:Ste} (hc:c.check=0) (hS:Shp c s) (h1:s.ends.any (qes 4)=false) (h2:s.timers.any (qes 3)=false) (h3:∀ k,k < s.timers.length→tmF c s k=false):stE c s=0:=by
 unfold stE zel
 rw [if_pos hc,if_pos hS,h1,h2,qyk h3]
 simp
theorem q9l {c:Ct} {s:Ste} (h:stE c s=0):s.ends.any (qes 4)=false∧s.timers.any (qes 3)=false∧∀ k,k < s.timers.length→tmF c s k=false:=by
 obtain ⟨hc,hS⟩:=qlo h
 unfold stE zel at h
 rw [if_pos hc,if_pos hS] at h
 by_cases hb:s.ends.any (qes 4)=true∨s.timers.any (qes 3)=true
 ·rw [if_pos hb] at h; cases h
 ·rw [if_neg hb] at h
  refine ⟨by simpa using fun e=>hb (.inl e),by simpa using fun e=>hb (.inr e),fun k hk=>?_⟩
  cases hq:tmF c s k with
  | false=>rfl
  | true=>rw [if_pos (q2v hk hq)] at h; cases h
def mix {α:Type} (A B:List α) (k:Nat):List α:=A.take k++B.drop k
theorem qnn {α:Type} (A B:List α):mix A B 0=B:=by simp [mix]
theorem qsj {α:Type} {A B:List α} (h:A.length=B.length):mix A B A.length=A:=by
 unfold mix
 rw [List.take_length,List.drop_eq_nil_of_le (by omega),List.append_nil]
theorem qts {α:Type} {A B:List α} (h:A.length=B.length) {k:Nat} (hk:k≤A.length):(mix A B k).length=A.length:=by
 unfold mix
 rw [List.length_append,List.length_take,List.length_drop]
 omega
theorem qyr {α:Type} {A B:List α} (h:A.length=B.length) {k:Nat} (hk:k < A.length):(mix A B k)[k]?=B[k]?:=by
 unfold mix
 rw [List.getElem?_append_right (by rw [List.length_take]; omega),List.length_take,List.getElem?_drop]
 congr 1
 omega
theorem qtf {α:Type} {A B:List α} (h:A.length=B.length) {k:Nat} (hk:k < A.length):(mix A B k).set k A[k]=mix A B (k + 1):=by
 have hkB:k < B.length:=by omega
 unfold mix
 rw [List.take_succ_eq_append_getElem hk,List.drop_eq_getElem_cons hkB]
 have hl:(A.take k).length=k:=by rw [List.length_take]; omega
 rw [List.set_append_right k _ (by omega),hl,Nat.sub_self,List.set_cons_zero,List.append_assoc]
 rfl
abbrev q8i (x:Sg) (L:List Bool):Bool:=decide (x.kind=1) && x.off.holds L
def qpd (x:Sg) (L:List Bool) (v:Bool) (t:Int):Bool × Int :=
 if x.kind=1 then (if x.on.holds L != x.off.holds L then (x.on.holds L,t) else (v,t))
 else if x.kind=2 then (if x.on.holds L=true then (if t=0 then (v,1) else (v,t)) else (false,0))
 else (v,t)
def q4b (L:List Bool):List Sg→List Bool→List Int→List (Bool × Int)
 | x :: l,v :: w,t :: u=>qpd x L v t :: q4b L l w u
 | _,_,_=>[]
theorem qmt (L:List Bool):∀ {l:List Sg} {w:List Bool} {u:List Int},w.length=l.length→u.length=l.length→(q4b L l w u).length=l.length
 | [],_,_,_,_=>by simp [q4b]
 | x :: l,[],_,h,_=>by simp at h
 | x :: l,v :: w,[],_,h=>by simp at h
 | x :: l,v :: w,t :: u,h1,h2=>by
  simp only [List.length_cons] at h1 h2
  rw [q4b,List.length_cons,qmt L (by omega) (by omega),List.length_cons]
theorem qrr (L:List Bool):∀ {l:List Sg} {w:List Bool} {u:List Int} {k:Nat} {x:Sg} {v:Bool} {t:Int},l[k]?=some x→w[k]?=some v→u[k]?=some t→(q4b L l w u)[k]?=some (qpd x L v t)
 | [],_,_,_,_,_,_,h,_,_=>by simp at h
 | x :: l,[],_,_,_,_,_,_,h,_=>by simp at h
 | x :: l,v :: w,[],_,_,_,_,_,_,h=>by simp at h
 | x :: l,v :: w,t :: u,0,_,_,_,h1,h2,h3=>by
  simp at h1 h2 h3
  subst h1 h2 h3
  rfl
 | x :: l,v :: w,t :: u,k + 1,_,_,_,h1,h2,h3=>by
  simp at h1 h2 h3
  rw [q4b,List.getElem?_cons_succ]
  exact qrr L h1 h2 h3
abbrev qfr (c:Ct) (g:Ste):List (Bool × Int):=q4b (qag g) c.signals g.values g.timers
def q0q (c:Ct) (g:Ste):Ste:=⟨g.ends,g.valves,g.inputs,(qfr c g).map Prod.fst,(qfr c g).map Prod.snd⟩
def qme (c:Ct) (s:Ste):Ste:=q0q c (qfc c s)
def zir (c:Ct) (L:List Bool) (i:Nat):Bool:=((c.signals[i]?).map fun x=>x.on.holds L && q8i x L).getD false
def q8z (c:Ct) (s:Ste):List Int:=qyl (zir c (qag (qfc c s))) (qal s) c.signals.length
def qfd (c:Ct) (N:Nat):Nat→Ste→List Int→Option (Ste × List Int)
 | 0,_,_=>none
 | d + 1,s,l=>if qjj (qme c s) s=true then some (s,norm N (l++q8z c s)) else qfd c N d (qme c s) (l++q8z c s)
def qdb (c:Ct) (s:Ste):Option (Ste × List Int):=qfd c (qaj c c.act.toNat) 65 s []
abbrev qei (L:List Bool) (p:List Int) (i:Nat):Bool:=((p[i]?).map fun j=>(L[j.toNat]?).getD false).getD false
def q7i (c:Ct) (L:List Bool) (i:Nat) (v:Bool):Bool:=if qei L c.plus i != qei L c.minus i then qei L c.plus i else v
def qox (c:Ct) (s:Ste):Ste:=⟨s.ends,s.valves.mapIdx (q7i c (qag s)),s.inputs,s.values,s.timers⟩
def qmh (c:Ct) (s:Ste):List Int:=qyl (fun i=>qei (qag s) c.plus i && qei (qag s) c.minus i) (qaj c c.act.toNat) c.act.toNat
def qud (v:Bool) (e:Int):Int:=if v=true∧(e=0∨e=3) then 1 else if v=false∧(e=2∨e=1) then 3 else e
def qnh (s:Ste):Ste:=⟨List.zipWith qud s.valves s.ends,s.valves,s.inputs,s.values,s.timers⟩
abbrev qgr (c:Ct):Nat:=qaj c c.act.toNat + c.act.toNat
def qdu (c:Ct) (s:Ste):Option (Ste × List Int):=(qdb c s).map fun x=>(qnh (qox c x.1),norm (qgr c) (x.2++qmh c x.1))
def qgz (c:Ct):Nat→Ste→List Int→Option (Ste × List Int)
 | 0,_,_=>none
 | d + 1,s,l=>match qdu c s with
  | none=>none
  | some x=>if qjj s x.1=true then some (s,norm (qgr c) (l++x.2)) else qgz c d x.1 (norm (qgr c) (l++x.2))
def qkq (c:Ct) (s:Ste):Option (Ste × List Int):=qgz c 65 s []
theorem qgj {c:Ct} {s:Ste}:stE c s=0 ↔ c.check=0∧Shp c s∧s.ends.any (qes 4)=false∧s.timers.any (qes 3)=false∧∀ k,k < s.timers.length→tmF c s k=false :=
 ⟨fun h=>⟨(qlo h).1,(qlo h).2,q9l h⟩,fun h=>ztt h.1 h.2.1 h.2.2.1 h.2.2.2.1 h.2.2.2.2⟩
theorem qfj {n:Int} {l:List Int}:l.any (qes n)=false ↔ ∀ x ∈ l,0≤x∧x < n:=by
 rw [List.any_eq_false]
 constructor
 ·intro h x hx
  have:=h x hx
  simp only [qes,Bool.or_eq_true,decide_eq_true_eq,not_or] at this
  omega
 ·intro h x hx
  have:=h x hx
  simp only [qes,Bool.or_eq_true,decide_eq_true_eq,not_or]
  omega
theorem qwc {c:Ct} {s:Ste} (hS:Shp c s) {k:Nat} (hk:k < c.signals.length):tmF c s k=tmB c.signals[k].kind (s.values[k]'(by rw [hS.v]; exact hk)) (s.timers[k]'(by rw [hS.t]; exact hk)):=by
 unfold tmF
 rw [List.getElem?_eq_getElem hk,List.getElem?_eq_getElem (by rw [hS.v]; exact hk),List.getElem?_eq_getElem (by rw [hS.t]; exact hk)]
 rfl
theorem q2m {x:Sg} {L:List Bool} {v:Bool} {t:Int} (h:tmB x.kind v t=false) (ht:0≤t∧t < 3):tmB x.kind (qpd x L v t).1 (qpd x L v t).2=false∧0≤(qpd x L v t).2∧(qpd x L v t).2 < 3:=by
 unfold qpd
 by_cases h1:x.kind=1
 ·rw [if_pos h1]
  rw [h1] at h ⊢
  simp [tmB] at h ⊢
  split <;> exact ⟨h,ht⟩
 ·rw [if_neg h1]
  by_cases h2:x.kind=2
  ·rw [if_pos h2]
   rw [h2] at h ⊢
   simp [tmB] at h
   split
   ·split
    ·rename_i h0
     subst h0
     subst h
     exact ⟨by decide,by simp⟩
    ·refine ⟨?_,ht⟩
     simp [tmB,h]
   ·exact ⟨by decide,by simp⟩
  ·rw [if_neg h2]
   exact ⟨h,ht⟩
theorem q7k {c:Ct} {g:Ste} (h:stE c g=0):stE c (q0q c g)=0:=by
 obtain ⟨hc,hS,h1,h2,h3⟩:=qgj.1 h
 have hlen:(qfr c g).length=c.signals.length:=qmt _ hS.v hS.t
 have hS':Shp c (q0q c g):=⟨hS.e,hS.w,hS.i,by unfold q0q; rw [List.length_map,hlen],by unfold q0q; rw [List.length_map,hlen]⟩
 have hall:∀ k (hk:k < c.signals.length),∃ v t,(qfr c g)[k]?=some (v,t)∧tmB c.signals[k].kind v t=false∧0≤t∧t < 3:=by
  intro k hk
  have hkv:k < g.values.length:=by rw [hS.v]; exact hk
  have hkt:k < g.timers.length:=by rw [hS.t]; exact hk
  have hg:=qrr (qag g) (List.getElem?_eq_getElem hk) (List.getElem?_eq_getElem hkv) (List.getElem?_eq_getElem hkt)
  have ht:=(qfj.1 h2) _ (List.getElem_mem hkt)
  have hq:=h3 k hkt
  rw [qwc hS hk] at hq
  have:=q2m (L:=qag g) hq ht
  exact ⟨_,_,hg,this.1,this.2⟩
 refine qgj.2 ⟨hc,hS',h1,qfj.2 fun x hx=>?_,fun k hk=>?_⟩
 ·unfold q0q at hx
  obtain ⟨k,hk,rfl⟩:=List.getElem_of_mem hx
  rw [List.getElem_map]
  rw [List.length_map,hlen] at hk
  obtain ⟨v,t,e,_,hr⟩:=hall k hk
  rw [List.getElem?_eq_getElem (by rw [hlen]; exact hk)] at e
  rw [Option.some.inj e]
  exact hr
 ·have hk':k < c.signals.length:=by rw [← hS'.t]; exact hk
  rw [qwc hS' hk']
  obtain ⟨v,t,e,hr,_⟩:=hall k hk'
  unfold q0q
  simp only [List.getElem_map]
  rw [List.getElem?_eq_getElem (by rw [hlen]; exact hk')] at e
  rw [Option.some.inj e]
  exact hr
theorem qsh {c:Ct} {s:Ste} (h:stE c s=0):stE c (qme c s)=0:=q7k (qmo h)
theorem q2u {c:Ct} {s:Ste} (h:stE c s=0):stE c (qox c s)=0:=by
 obtain ⟨hc,hS,h1,h2,h3⟩:=qgj.1 h
 exact qgj.2 ⟨hc,⟨hS.e,by unfold qox; rw [List.length_mapIdx]; exact hS.w,hS.i,hS.v,hS.t⟩,h1,h2,h3⟩
theorem zgh {v:Bool} {e:Int} (h:0≤e∧e < 4):0≤qud v e∧qud v e < 4:=by
 unfold qud
 split
 ·omega
 ·split
  ·omega
  ·exact h
theorem q3k {c:Ct} {s:Ste} (h:stE c s=0):stE c (qnh s)=0:=by
 obtain ⟨hc,hS,h1,h2,h3⟩:=qgj.1 h
 have hl:(List.zipWith qud s.valves s.ends).length=s.ends.length:=by
  have:=hS.e
  have:=hS.w
  rw [List.length_zipWith]
  omega
 refine qgj.2 ⟨hc,⟨by unfold qnh; rw [hl]; exact hS.e,hS.w,hS.i,hS.v,hS.t⟩,qfj.2 fun x hx=>?_,h2,h3⟩
 unfold qnh at hx
 obtain ⟨k,hk,rfl⟩:=List.getElem_of_mem hx
 rw [List.getElem_zipWith]
 exact zgh ((qfj.1 h1) _ (List.getElem_mem _))
theorem qlx {c:Ct} {N:Nat}:∀ {d:Nat} {s:Ste} {l:List Int} {t:Ste} {m:List Int},stE c s=0→qfd c N d s l=some (t,m)→stE c t=0
 | 0,_,_,_,_,_,h=>by cases h
 | d + 1,s,l,t,m,hs,h=>by
  rw [qfd] at h
  split at h
  ·cases h; exact hs
  ·exact qlx (qsh hs) h
theorem qoa {c:Ct} {s t:Ste} {m:List Int} (hs:stE c s=0) (h:qdb c s=some (t,m)):stE c t=0:=qlx hs h
theorem qpu {c:Ct} {s t:Ste} {m:List Int} (hs:stE c s=0) (h:qdu c s=some (t,m)):stE c t=0:=by
 unfold qdu at h
 cases e:qdb c s with
 | none=>rw [e] at h; cases h
 | some x =>
  rw [e] at h
  cases h
  exact q3k (q2u (qoa hs e))
theorem qps {c:Ct}:∀ {d:Nat} {s:Ste} {l:List Int} {t:Ste} {m:List Int},stE c s=0→qgz c d s l=some (t,m)→stE c t=0
 | 0,_,_,_,_,_,h=>by cases h
 | d + 1,s,l,t,m,hs,h=>by
  rw [qgz] at h
  cases e:qdu c s with
  | none=>rw [e] at h; cases h
  | some x =>
   rw [e] at h
   simp only at h
   split at h
   ·cases h; exact hs
   ·exact qps (qpu hs (show qdu c s=some (x.1,x.2) from e)) h
theorem qjr {c:Ct} {s t:Ste} {m:List Int} (hs:stE c s=0) (h:qkq c s=some (t,m)):stE c t=0:=qps hs h
theorem qov (s:Ste):qjj s s=true:=qij.2 rfl
theorem qql {c:Ct}:∀ {d:Nat} {s:Ste} {l:List Int} {t:Ste} {m:List Int},qgz c d s l=some (t,m)→∃ a,qdu c t=some (t,a)
 | 0,_,_,_,_,h=>by cases h
 | d + 1,s,l,t,m,h=>by
  rw [qgz] at h
  cases e:qdu c s with
  | none=>rw [e] at h; cases h
  | some x =>
   rw [e] at h
   simp only at h
   split at h
   ·rename_i hs
    cases h
    have:=qij.1 hs
    exact ⟨x.2,by rw [e,this]⟩
   ·exact qql h
theorem qtd {c:Ct} {s t:Ste} {m:List Int} (h:qkq c s=some (t,m)):∃ a,qdu c t=some (t,a):=qql h
theorem q6t {c:Ct} {t:Ste} {a:List Int} (h:qdu c t=some (t,a)):qkq c t=some (t,norm (qgr c) a):=by
 unfold qkq
 rw [qgz,h]
 simp only [qov,if_true,List.nil_append]
theorem qni {c:Ct} {N:Nat}:∀ {d:Nat} {s:Ste} {l:List Int} {t:Ste} {m:List Int},qfd c N d s l=some (t,m)→t.ends=s.ends∧t.valves=s.valves∧t.inputs=s.inputs
 | 0,_,_,_,_,h=>by cases h
 | d + 1,s,l,t,m,h=>by
  rw [qfd] at h
  split at h
  ·cases h; exact ⟨rfl,rfl,rfl⟩
  ·exact qni (s:=qme c s) h
theorem q0j {c:Ct} {s t:Ste} {m:List Int} (h:qdb c s=some (t,m)):t.ends=s.ends∧t.valves=s.valves∧t.inputs=s.inputs:=qni h
theorem q1u {c:Ct} {s t:Ste} {a:List Int} (h:qdu c s=some (t,a)):∃ u m,qdb c s=some (u,m)∧t=qnh (qox c u)∧a=norm (qgr c) (m++qmh c u):=by
 unfold qdu at h
 cases e:qdb c s with
 | none=>rw [e] at h; cases h
 | some x =>
  rw [e] at h
  cases h
  exact ⟨x.1,x.2,rfl,rfl,rfl⟩
theorem qwt {c:Ct} {s t:Ste} {a:List Int} (h:qdu c s=some (t,a)):t.inputs=s.inputs:=by
 obtain ⟨u,m,hu,rfl,_⟩:=q1u h
 exact (q0j hu).2.2
theorem qne {c:Ct}:∀ {d:Nat} {s:Ste} {l:List Int} {t:Ste} {m:List Int},qgz c d s l=some (t,m)→t.inputs=s.inputs
 | 0,_,_,_,_,h=>by cases h
 | d + 1,s,l,t,m,h=>by
  rw [qgz] at h
  cases e:qdu c s with
  | none=>rw [e] at h; cases h
  | some x =>
   rw [e] at h
   simp only at h
   split at h
   ·cases h; rfl
   ·rw [qne h,qwt (show qdu c s=some (x.1,x.2) from e)]
theorem q1t {c:Ct} {s t:Ste} {m:List Int} (h:qkq c s=some (t,m)):t.inputs=s.inputs:=qne h
structure Evn where
 kind:Int
 idx:Int
 val:Bool
abbrev Evn.row (x:Evn):List V:=[num x.kind,num x.idx,.bool x.val]
def qvw (a b:Ste) (i:Nat):Option (Int × Bool):=match a.ends[i]?,b.ends[i]? with
 | some x,some y=>if (y=1∨y=3)∧x ≠ y then some (i,y == 1) else none
 | _,_=>none
def qew (a b:Ste):List (Int × Bool):=(List.range a.ends.length).filterMap (qvw a b)
def qtp (s:Ste) (k:Int) (i:Nat):Bool:=if k=0 then ((s.ends[i]?).map fun e=>e == 1 || e == 3).getD false else ((s.timers[i]?).map fun t=>t == 1).getD false
def q2p (s:Ste) (x:Evn):Bool :=
 if x.idx < 0 then false
 else if x.kind=2 then ((s.inputs[x.idx.toNat]?).map fun v=>v != x.val).getD false
 else qtp s x.kind x.idx.toNat
def qfk (s:Ste) (x:Evn):Ste :=
 if x.kind=0 then ⟨s.ends.set x.idx.toNat (if s.ends[x.idx.toNat]?=some 1 then 2 else 0),s.valves,s.inputs,s.values,s.timers⟩
 else if x.kind=1 then ⟨s.ends,s.valves,s.inputs,s.values.set x.idx.toNat true,s.timers.set x.idx.toNat 2⟩
 else ⟨s.ends,s.valves,s.inputs.set x.idx.toNat x.val,s.values,s.timers⟩
def qjn (c:Ct) (s:Ste):Ste × List Int × Int:=match qkq c s with
 | some x=>(x.1,x.2,0)
 | none=>(zeroS,[],21)
def qam (c:Ct) (s:Ste) (x:Evn):Ste × List Int × Int :=
 if x.kind < 0∨2 < x.kind then (zeroS,[],1) else if q2p s x=true then qjn c (qfk s x) else (zeroS,[],14)
structure Crs where
 st:Ste
 strokes:List (List (Int × Bool))
 conf:List Int
def zeroCrs:Crs:=⟨zeroS,[],[]⟩
def qka (c:Ct):List Evn→Nat→Crs→Crs × Int × Int
 | [],_,r=>(r,0,0)
 | x :: l,i,r=>if (qam c r.st x).2.2=0 then qka c l (i + 1) ⟨(qam c r.st x).1,r.strokes++[qew r.st (qam c r.st x).1],norm (qgr c) (r.conf++(qam c r.st x).2.1)⟩ else (zeroCrs,i,(qam c r.st x).2.2)
end Go.Proofs.YtlhciedghbmjjaaGreat
