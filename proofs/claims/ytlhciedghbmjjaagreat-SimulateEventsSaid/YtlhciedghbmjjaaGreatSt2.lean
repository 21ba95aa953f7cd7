/- How the signals of a control come to rest, and its actuators: what is defined; right states stay right. What is at rest. -/
import Derived.Test.YtlhciedghbmjjaaGreatLi1
import Derived.Test.YtlhciedghbmjjaaGreatGb2
import Derived.KernelRfl
set_option linter.all false
namespace Go.Proofs.YtlhciedghbmjjaaGreat
open Go Go.Am Go.Proofs
set_option maxRecDepth 100000
def mix {α:Type} (A B:List α) (k:Nat):List α:=A.take k++B.drop k
theorem mix_zero {α:Type} (A B:List α):mix A B 0=B:=by simp [mix]
theorem mix_all {α:Type} {A B:List α} (h:A.length=B.length):mix A B A.length=A:=by
 unfold mix
 rw [List.take_length,List.drop_eq_nil_of_le (by omega),List.append_nil]
theorem mix_len {α:Type} {A B:List α} (h:A.length=B.length) {k:Nat} (hk:k≤A.length):(mix A B k).length=A.length:=by
 unfold mix
 rw [List.length_append,List.length_take,List.length_drop]
 omega
theorem mix_get {α:Type} {A B:List α} (h:A.length=B.length) {k:Nat} (hk:k < A.length):(mix A B k)[k]?=B[k]?:=by
 unfold mix
 rw [List.getElem?_append_right (by rw [List.length_take]; omega),List.length_take,List.getElem?_drop]
 congr 1
 omega
theorem mix_set {α:Type} {A B:List α} (h:A.length=B.length) {k:Nat} (hk:k < A.length):(mix A B k).set k A[k]=mix A B (k + 1):=by
 have hkB:k < B.length:=by omega
 unfold mix
 rw [List.take_succ_eq_append_getElem hk,List.drop_eq_getElem_cons hkB]
 have hl:(A.take k).length=k:=by rw [List.length_take]; omega
 rw [List.set_append_right k _ (by omega),hl,Nat.sub_self,List.set_cons_zero,List.append_assoc]
 rfl
abbrev offV (x:Sg) (L:List Bool):Bool:=decide (x.kind=1) && x.off.holds L
def turnV (x:Sg) (L:List Bool) (v:Bool) (t:Int):Bool × Int :=
 if x.kind=1 then (if x.on.holds L != x.off.holds L then (x.on.holds L,t) else (v,t))
 else if x.kind=2 then (if x.on.holds L=true then (if t=0 then (v,1) else (v,t)) else (false,0))
 else (v,t)
def turnL (L:List Bool):List Sg→List Bool→List Int→List (Bool × Int)
 | x :: l,v :: w,t :: u=>turnV x L v t :: turnL L l w u
 | _,_,_=>[]
theorem turnL_len (L:List Bool):∀ {l:List Sg} {w:List Bool} {u:List Int},w.length=l.length→u.length=l.length→(turnL L l w u).length=l.length
 | [],_,_,_,_=>by simp [turnL]
 | x :: l,[],_,h,_=>by simp at h
 | x :: l,v :: w,[],_,h=>by simp at h
 | x :: l,v :: w,t :: u,h1,h2=>by
  simp only [List.length_cons] at h1 h2
  rw [turnL,List.length_cons,turnL_len L (by omega) (by omega),List.length_cons]
theorem turnL_get (L:List Bool):∀ {l:List Sg} {w:List Bool} {u:List Int} {k:Nat} {x:Sg} {v:Bool} {t:Int},l[k]?=some x→w[k]?=some v→u[k]?=some t→(turnL L l w u)[k]?=some (turnV x L v t)
 | [],_,_,_,_,_,_,h,_,_=>by simp at h
 | x :: l,[],_,_,_,_,_,_,h,_=>by simp at h
 | x :: l,v :: w,[],_,_,_,_,_,_,h=>by simp at h
 | x :: l,v :: w,t :: u,0,_,_,_,h1,h2,h3=>by
  simp at h1 h2 h3
  subst h1 h2 h3
  rfl
 | x :: l,v :: w,t :: u,k + 1,_,_,_,h1,h2,h3=>by
  simp at h1 h2 h3
  rw [turnL,List.getElem?_cons_succ]
  exact turnL_get L h1 h2 h3
abbrev turns (c:Ct) (g:Ste):List (Bool × Int):=turnL (linesV g) c.signals g.values g.timers
def onceG (c:Ct) (g:Ste):Ste:=⟨g.ends,g.valves,g.inputs,(turns c g).map Prod.fst,(turns c g).map Prod.snd⟩
def onceV (c:Ct) (s:Ste):Ste:=onceG c (gated c s)
def badF (c:Ct) (L:List Bool) (i:Nat):Bool:=((c.signals[i]?).map fun x=>x.on.holds L && offV x L).getD false
def badS (c:Ct) (s:Ste):List Int:=selL (badF c (linesV (gated c s))) (firstS s) c.signals.length
def settleGo (c:Ct) (N:Nat):Nat→Ste→List Int→Option (Ste × List Int)
 | 0,_,_=>none
 | d + 1,s,l=>if sameT (onceV c s) s=true then some (s,norm N (l++badS c s)) else settleGo c N d (onceV c s) (l++badS c s)
def settleV (c:Ct) (s:Ste):Option (Ste × List Int):=settleGo c (countN c c.act.toNat) 65 s []
abbrev lineV' (L:List Bool) (p:List Int) (i:Nat):Bool:=((p[i]?).map fun j=>(L[j.toNat]?).getD false).getD false
def valvF (c:Ct) (L:List Bool) (i:Nat) (v:Bool):Bool:=if lineV' L c.plus i != lineV' L c.minus i then lineV' L c.plus i else v
def valvS (c:Ct) (s:Ste):Ste:=⟨s.ends,s.valves.mapIdx (valvF c (linesV s)),s.inputs,s.values,s.timers⟩
def confS (c:Ct) (s:Ste):List Int:=selL (fun i=>lineV' (linesV s) c.plus i && lineV' (linesV s) c.minus i) (countN c c.act.toNat) c.act.toNat
def goesE (v:Bool) (e:Int):Int:=if v=true∧(e=0∨e=3) then 1 else if v=false∧(e=2∨e=1) then 3 else e
def goesS (s:Ste):Ste:=⟨List.zipWith goesE s.valves s.ends,s.valves,s.inputs,s.values,s.timers⟩
abbrev allN (c:Ct):Nat:=countN c c.act.toNat + c.act.toNat
def roundV (c:Ct) (s:Ste):Option (Ste × List Int):=(settleV c s).map fun x=>(goesS (valvS c x.1),norm (allN c) (x.2++confS c x.1))
def restGo (c:Ct):Nat→Ste→List Int→Option (Ste × List Int)
 | 0,_,_=>none
 | d + 1,s,l=>match roundV c s with
  | none=>none
  | some x=>if sameT s x.1=true then some (s,norm (allN c) (l++x.2)) else restGo c d x.1 (norm (allN c) (l++x.2))
def restV (c:Ct) (s:Ste):Option (Ste × List Int):=restGo c 65 s []
theorem stE_iff {c:Ct} {s:Ste}:stE c s=0 ↔ c.check=0∧Shp c s∧s.ends.any (badL 4)=false∧s.timers.any (badL 3)=false∧∀ k,k < s.timers.length→tmF c s k=false :=
 ⟨fun h=>⟨(stE_zero h).1,(stE_zero h).2,stE_parts h⟩,fun h=>stE_of h.1 h.2.1 h.2.2.1 h.2.2.2.1 h.2.2.2.2⟩
theorem any_bad {n:Int} {l:List Int}:l.any (badL n)=false ↔ ∀ x ∈ l,0≤x∧x < n:=by
 rw [List.any_eq_false]
 constructor
 ·intro h x hx
  have:=h x hx
  simp only [badL,Bool.or_eq_true,decide_eq_true_eq,not_or] at this
  omega
 ·intro h x hx
  have:=h x hx
  simp only [badL,Bool.or_eq_true,decide_eq_true_eq,not_or]
  omega
theorem tm_get {c:Ct} {s:Ste} (hS:Shp c s) {k:Nat} (hk:k < c.signals.length):tmF c s k=tmB c.signals[k].kind (s.values[k]'(by rw [hS.v]; exact hk)) (s.timers[k]'(by rw [hS.t]; exact hk)):=by
 unfold tmF
 rw [List.getElem?_eq_getElem hk,List.getElem?_eq_getElem (by rw [hS.v]; exact hk),List.getElem?_eq_getElem (by rw [hS.t]; exact hk)]
 rfl
theorem turnV_right {x:Sg} {L:List Bool} {v:Bool} {t:Int} (h:tmB x.kind v t=false) (ht:0≤t∧t < 3):tmB x.kind (turnV x L v t).1 (turnV x L v t).2=false∧0≤(turnV x L v t).2∧(turnV x L v t).2 < 3:=by
 unfold turnV
 by_cases h1:x.kind=1
 ·rw [if_pos h1]
  rw [h1] at h ⊢
  simp [tmB] at h ⊢
  split <;> exact ⟨h,ht⟩
 ·rw [if_neg h1]
  by_cases h2:x.kind=2
  ·rw [if_pos h2]
   rw [h2] at h ⊢
   simp [tmB] at h
   split
   ·split
    ·rename_i h0
     subst h0
     subst h
     exact ⟨by decide,by simp⟩
    ·refine ⟨?_,ht⟩
     simp [tmB,h]
   ·exact ⟨by decide,by simp⟩
  ·rw [if_neg h2]
   exact ⟨h,ht⟩
theorem once_right {c:Ct} {g:Ste} (h:stE c g=0):stE c (onceG c g)=0:=by
 obtain ⟨hc,hS,h1,h2,h3⟩:=stE_iff.1 h
 have hlen:(turns c g).length=c.signals.length:=turnL_len _ hS.v hS.t
 have hS':Shp c (onceG c g):=⟨hS.e,hS.w,hS.i,by unfold onceG; rw [List.length_map,hlen],by unfold onceG; rw [List.length_map,hlen]⟩
 have hall:∀ k (hk:k < c.signals.length),∃ v t,(turns c g)[k]?=some (v,t)∧tmB c.signals[k].kind v t=false∧0≤t∧t < 3:=by
  intro k hk
  have hkv:k < g.values.length:=by rw [hS.v]; exact hk
  have hkt:k < g.timers.length:=by rw [hS.t]; exact hk
  have hg:=turnL_get (linesV g) (List.getElem?_eq_getElem hk) (List.getElem?_eq_getElem hkv) (List.getElem?_eq_getElem hkt)
  have ht:=(any_bad.1 h2) _ (List.getElem_mem hkt)
  have hq:=h3 k hkt
  rw [tm_get hS hk] at hq
  have:=turnV_right (L:=linesV g) hq ht
  exact ⟨_,_,hg,this.1,this.2⟩
 refine stE_iff.2 ⟨hc,hS',h1,any_bad.2 fun x hx=>?_,fun k hk=>?_⟩
 ·unfold onceG at hx
  obtain ⟨k,hk,rfl⟩:=List.getElem_of_mem hx
  rw [List.getElem_map]
  rw [List.length_map,hlen] at hk
  obtain ⟨v,t,e,_,hr⟩:=hall k hk
  rw [List.getElem?_eq_getElem (by rw [hlen]; exact hk)] at e
  rw [Option.some.inj e]
  exact hr
 ·have hk':k < c.signals.length:=by rw [← hS'.t]; exact hk
  rw [tm_get hS' hk']
  obtain ⟨v,t,e,hr,_⟩:=hall k hk'
  unfold onceG
  simp only [List.getElem_map]
  rw [List.getElem?_eq_getElem (by rw [hlen]; exact hk')] at e
  rw [Option.some.inj e]
  exact hr
theorem onceV_right {c:Ct} {s:Ste} (h:stE c s=0):stE c (onceV c s)=0:=once_right (gated_right h)
theorem valvS_right {c:Ct} {s:Ste} (h:stE c s=0):stE c (valvS c s)=0:=by
 obtain ⟨hc,hS,h1,h2,h3⟩:=stE_iff.1 h
 exact stE_iff.2 ⟨hc,⟨hS.e,by unfold valvS; rw [List.length_mapIdx]; exact hS.w,hS.i,hS.v,hS.t⟩,h1,h2,h3⟩
theorem goesE_lt {v:Bool} {e:Int} (h:0≤e∧e < 4):0≤goesE v e∧goesE v e < 4:=by
 unfold goesE
 split
 ·omega
 ·split
  ·omega
  ·exact h
theorem goesS_right {c:Ct} {s:Ste} (h:stE c s=0):stE c (goesS s)=0:=by
 obtain ⟨hc,hS,h1,h2,h3⟩:=stE_iff.1 h
 have hl:(List.zipWith goesE s.valves s.ends).length=s.ends.length:=by
  have:=hS.e
  have:=hS.w
  rw [List.length_zipWith]
  omega
 refine stE_iff.2 ⟨hc,⟨by unfold goesS; rw [hl]; exact hS.e,hS.w,hS.i,hS.v,hS.t⟩,any_bad.2 fun x hx=>?_,h2,h3⟩
 unfold goesS at hx
 obtain ⟨k,hk,rfl⟩:=List.getElem_of_mem hx
 rw [List.getElem_zipWith]
 exact goesE_lt ((any_bad.1 h1) _ (List.getElem_mem _))
theorem settleGo_right {c:Ct} {N:Nat}:∀ {d:Nat} {s:Ste} {l:List Int} {t:Ste} {m:List Int},stE c s=0→settleGo c N d s l=some (t,m)→stE c t=0
 | 0,_,_,_,_,_,h=>by cases h
 | d + 1,s,l,t,m,hs,h=>by
  rw [settleGo] at h
  split at h
  ·cases h; exact hs
  ·exact settleGo_right (onceV_right hs) h
theorem settleV_right {c:Ct} {s t:Ste} {m:List Int} (hs:stE c s=0) (h:settleV c s=some (t,m)):stE c t=0:=settleGo_right hs h
theorem roundV_right {c:Ct} {s t:Ste} {m:List Int} (hs:stE c s=0) (h:roundV c s=some (t,m)):stE c t=0:=by
 unfold roundV at h
 cases e:settleV c s with
 | none=>rw [e] at h; cases h
 | some x =>
  rw [e] at h
  cases h
  exact goesS_right (valvS_right (settleV_right hs e))
theorem restGo_right {c:Ct}:∀ {d:Nat} {s:Ste} {l:List Int} {t:Ste} {m:List Int},stE c s=0→restGo c d s l=some (t,m)→stE c t=0
 | 0,_,_,_,_,_,h=>by cases h
 | d + 1,s,l,t,m,hs,h=>by
  rw [restGo] at h
  cases e:roundV c s with
  | none=>rw [e] at h; cases h
  | some x =>
   rw [e] at h
   simp only at h
   split at h
   ·cases h; exact hs
   ·exact restGo_right (roundV_right hs (show roundV c s=some (x.1,x.2) from e)) h
theorem restV_right {c:Ct} {s t:Ste} {m:List Int} (hs:stE c s=0) (h:restV c s=some (t,m)):stE c t=0:=restGo_right hs h
theorem sameT_self (s:Ste):sameT s s=true:=sameT_iff.2 rfl
theorem restGo_still {c:Ct}:∀ {d:Nat} {s:Ste} {l:List Int} {t:Ste} {m:List Int},restGo c d s l=some (t,m)→∃ a,roundV c t=some (t,a)
 | 0,_,_,_,_,h=>by cases h
 | d + 1,s,l,t,m,h=>by
  rw [restGo] at h
  cases e:roundV c s with
  | none=>rw [e] at h; cases h
  | some x =>
   rw [e] at h
   simp only at h
   split at h
   ·rename_i hs
    cases h
    have:=sameT_iff.1 hs
    exact ⟨x.2,by rw [e,this]⟩
   ·exact restGo_still h
theorem restV_still {c:Ct} {s t:Ste} {m:List Int} (h:restV c s=some (t,m)):∃ a,roundV c t=some (t,a):=restGo_still h
theorem still_rest {c:Ct} {t:Ste} {a:List Int} (h:roundV c t=some (t,a)):restV c t=some (t,norm (allN c) a):=by
 unfold restV
 rw [restGo,h]
 simp only [sameT_self,if_true,List.nil_append]
theorem settleGo_same {c:Ct} {N:Nat}:∀ {d:Nat} {s:Ste} {l:List Int} {t:Ste} {m:List Int},settleGo c N d s l=some (t,m)→t.ends=s.ends∧t.valves=s.valves∧t.inputs=s.inputs
 | 0,_,_,_,_,h=>by cases h
 | d + 1,s,l,t,m,h=>by
  rw [settleGo] at h
  split at h
  ·cases h; exact ⟨rfl,rfl,rfl⟩
  ·exact settleGo_same (s:=onceV c s) h
theorem settleV_same {c:Ct} {s t:Ste} {m:List Int} (h:settleV c s=some (t,m)):t.ends=s.ends∧t.valves=s.valves∧t.inputs=s.inputs:=settleGo_same h
theorem roundV_parts {c:Ct} {s t:Ste} {a:List Int} (h:roundV c s=some (t,a)):∃ u m,settleV c s=some (u,m)∧t=goesS (valvS c u)∧a=norm (allN c) (m++confS c u):=by
 unfold roundV at h
 cases e:settleV c s with
 | none=>rw [e] at h; cases h
 | some x =>
  rw [e] at h
  cases h
  exact ⟨x.1,x.2,rfl,rfl,rfl⟩
theorem roundV_inputs {c:Ct} {s t:Ste} {a:List Int} (h:roundV c s=some (t,a)):t.inputs=s.inputs:=by
 obtain ⟨u,m,hu,rfl,_⟩:=roundV_parts h
 exact (settleV_same hu).2.2
theorem restGo_inputs {c:Ct}:∀ {d:Nat} {s:Ste} {l:List Int} {t:Ste} {m:List Int},restGo c d s l=some (t,m)→t.inputs=s.inputs
 | 0,_,_,_,_,h=>by cases h
 | d + 1,s,l,t,m,h=>by
  rw [restGo] at h
  cases e:roundV c s with
  | none=>rw [e] at h; cases h
  | some x =>
   rw [e] at h
   simp only at h
   split at h
   ·cases h; rfl
   ·rw [restGo_inputs h,roundV_inputs (show roundV c s=some (x.1,x.2) from e)]
theorem restV_inputs {c:Ct} {s t:Ste} {m:List Int} (h:restV c s=some (t,m)):t.inputs=s.inputs:=restGo_inputs h
structure Evn where
 kind:Int
 idx:Int
 val:Bool
abbrev Evn.row (x:Evn):List V:=[num x.kind,num x.idx,.bool x.val]
def freshF (a b:Ste) (i:Nat):Option (Int × Bool):=match a.ends[i]?,b.ends[i]? with
 | some x,some y=>if (y=1∨y=3)∧x ≠ y then some (i,y == 1) else none
 | _,_=>none
def freshV (a b:Ste):List (Int × Bool):=(List.range a.ends.length).filterMap (freshF a b)
def pendB (s:Ste) (k:Int) (i:Nat):Bool:=if k=0 then ((s.ends[i]?).map fun e=>e == 1 || e == 3).getD false else ((s.timers[i]?).map fun t=>t == 1).getD false
def mayV (s:Ste) (x:Evn):Bool :=
 if x.idx < 0 then false
 else if x.kind=2 then ((s.inputs[x.idx.toNat]?).map fun v=>v != x.val).getD false
 else pendB s x.kind x.idx.toNat
def happV (s:Ste) (x:Evn):Ste :=
 if x.kind=0 then ⟨s.ends.set x.idx.toNat (if s.ends[x.idx.toNat]?=some 1 then 2 else 0),s.valves,s.inputs,s.values,s.timers⟩
 else if x.kind=1 then ⟨s.ends,s.valves,s.inputs,s.values.set x.idx.toNat true,s.timers.set x.idx.toNat 2⟩
 else ⟨s.ends,s.valves,s.inputs.set x.idx.toNat x.val,s.values,s.timers⟩
def restE (c:Ct) (s:Ste):Ste × List Int × Int:=match restV c s with
 | some x=>(x.1,x.2,0)
 | none=>(zeroS,[],21)
def afterV (c:Ct) (s:Ste) (x:Evn):Ste × List Int × Int :=
 if x.kind < 0∨2 < x.kind then (zeroS,[],1) else if mayV s x=true then restE c (happV s x) else (zeroS,[],14)
structure Crs where
 st:Ste
 strokes:List (List (Int × Bool))
 conf:List Int
def zeroCrs:Crs:=⟨zeroS,[],[]⟩
def runGo (c:Ct):List Evn→Nat→Crs→Crs × Int × Int
 | [],_,r=>(r,0,0)
 | x :: l,i,r=>if (afterV c r.st x).2.2=0 then runGo c l (i + 1) ⟨(afterV c r.st x).1,r.strokes++[freshV r.st (afterV c r.st x).1],norm (allN c) (r.conf++(afterV c r.st x).2.1)⟩ else (zeroCrs,i,(afterV c r.st x).2.2)
end Go.Proofs.YtlhciedghbmjjaaGreat
