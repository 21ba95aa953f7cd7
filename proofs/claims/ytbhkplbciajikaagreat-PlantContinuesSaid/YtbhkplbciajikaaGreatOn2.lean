/- How the signals of a control come to rest, and its actuators: what is defined; right states stay right. What a signal wants, by the reference. A round of the signals, by the reference. -/
import Derived.Test.YtbhkplbciajikaaGreatGb2
import Derived.KernelRfl
set_option linter.all false
namespace Go.Proofs.YtbhkplbciajikaaGreat
open Go Go.Am Go.Proofs
set_option maxRecDepth 100000
def mix {α:Type} (A B:List α) (k:Nat):List α:=A.take k++B.drop k
theorem mix_zero {α:Type} (A B:List α):mix A B 0=B:=by simp [mix]
theorem mix_all {α:Type} {A B:List α} (h:A.length=B.length):mix A B A.length=A:=by
 unfold mix
 rw [List.take_length,List.drop_eq_nil_of_le (by omega),List.append_nil]
theorem mix_len {α:Type} {A B:List α} (h:A.length=B.length) {k:Nat} (hk:k≤A.length):(mix A B k).length=A.length:=by
 unfold mix
 rw [List.length_append,List.length_take,List.length_drop]
 omega
theorem mix_get {α:Type} {A B:List α} (h:A.length=B.length) {k:Nat} (hk:k < A.length):(mix A B k)[k]?=B[k]?:=by
 unfold mix
 rw [List.getElem?_append_right (by rw [List.length_take]; omega),List.length_take,List.getElem?_drop]
 congr 1
 omega
theorem mix_set {α:Type} {A B:List α} (h:A.length=B.length) {k:Nat} (hk:k < A.length):(mix A B k).set k A[k]=mix A B (k + 1):=by
 have hkB:k < B.length:=by omega
 unfold mix
 rw [List.take_succ_eq_append_getElem hk,List.drop_eq_getElem_cons hkB]
 have hl:(A.take k).length=k:=by rw [List.length_take]; omega
 rw [List.set_append_right k _ (by omega),hl,Nat.sub_self,List.set_cons_zero,List.append_assoc]
 rfl
abbrev offV (x:Sg) (L:List Bool):Bool:=decide (x.kind=1) && x.off.holds L
def turnV (x:Sg) (L:List Bool) (v:Bool) (t:Int):Bool × Int :=
 if x.kind=1 then (if x.on.holds L != x.off.holds L then (x.on.holds L,t) else (v,t))
 else if x.kind=2 then (if x.on.holds L=true then (if t=0 then (v,1) else (v,t)) else (false,0))
 else (v,t)
def turnL (L:List Bool):List Sg→List Bool→List Int→List (Bool × Int)
 | x :: l,v :: w,t :: u=>turnV x L v t :: turnL L l w u
 | _,_,_=>[]
theorem turnL_len (L:List Bool):∀ {l:List Sg} {w:List Bool} {u:List Int},w.length=l.length→u.length=l.length→(turnL L l w u).length=l.length
 | [],_,_,_,_=>by simp [turnL]
 | x :: l,[],_,h,_=>by simp at h
 | x :: l,v :: w,[],_,h=>by simp at h
 | x :: l,v :: w,t :: u,h1,h2=>by
  simp only [List.length_cons] at h1 h2
  rw [turnL,List.length_cons,turnL_len L (by omega) (by omega),List.length_cons]
theorem turnL_get (L:List Bool):∀ {l:List Sg} {w:List Bool} {u:List Int} {k:Nat} {x:Sg} {v:Bool} {t:Int},l[k]?=some x→w[k]?=some v→u[k]?=some t→(turnL L l w u)[k]?=some (turnV x L v t)
 | [],_,_,_,_,_,_,h,_,_=>by simp at h
 | x :: l,[],_,_,_,_,_,_,h,_=>by simp at h
 | x :: l,v :: w,[],_,_,_,_,_,_,h=>by simp at h
 | x :: l,v :: w,t :: u,0,_,_,_,h1,h2,h3=>by
  simp at h1 h2 h3
  subst h1 h2 h3
  rfl
 | x :: l,v :: w,t :: u,k + 1,_,_,_,h1,h2,h3=>by
  simp at h1 h2 h3
  rw [turnL,List.getElem?_cons_succ]
  exact turnL_get L h1 h2 h3
abbrev turns (c:Ct) (g:Ste):List (Bool × Int):=turnL (linesV g) c.signals g.values g.timers
def onceG (c:Ct) (g:Ste):Ste:=⟨g.ends,g.valves,g.inputs,(turns c g).map Prod.fst,(turns c g).map Prod.snd⟩
def onceV (c:Ct) (s:Ste):Ste:=onceG c (gated c s)
def badF (c:Ct) (L:List Bool) (i:Nat):Bool:=((c.signals[i]?).map fun x=>x.on.holds L && offV x L).getD false
def badS (c:Ct) (s:Ste):List Int:=selL (badF c (linesV (gated c s))) (firstS s) c.signals.length
def settleGo (c:Ct) (N:Nat):Nat→Ste→List Int→Option (Ste × List Int)
 | 0,_,_=>none
 | d + 1,s,l=>if sameT (onceV c s) s=true then some (s,norm N (l++badS c s)) else settleGo c N d (onceV c s) (l++badS c s)
def settleV (c:Ct) (s:Ste):Option (Ste × List Int):=settleGo c (countN c c.act.toNat) 65 s []
abbrev lineV' (L:List Bool) (p:List Int) (i:Nat):Bool:=((p[i]?).map fun j=>(L[j.toNat]?).getD false).getD false
def valvF (c:Ct) (L:List Bool) (i:Nat) (v:Bool):Bool:=if lineV' L c.plus i != lineV' L c.minus i then lineV' L c.plus i else v
def valvS (c:Ct) (s:Ste):Ste:=⟨s.ends,s.valves.mapIdx (valvF c (linesV s)),s.inputs,s.values,s.timers⟩
def confS (c:Ct) (s:Ste):List Int:=selL (fun i=>lineV' (linesV s) c.plus i && lineV' (linesV s) c.minus i) (countN c c.act.toNat) c.act.toNat
def goesE (v:Bool) (e:Int):Int:=if v=true∧(e=0∨e=3) then 1 else if v=false∧(e=2∨e=1) then 3 else e
def goesS (s:Ste):Ste:=⟨List.zipWith goesE s.valves s.ends,s.valves,s.inputs,s.values,s.timers⟩
abbrev allN (c:Ct):Nat:=countN c c.act.toNat + c.act.toNat
def roundV (c:Ct) (s:Ste):Option (Ste × List Int):=(settleV c s).map fun x=>(goesS (valvS c x.1),norm (allN c) (x.2++confS c x.1))
def restGo (c:Ct):Nat→Ste→List Int→Option (Ste × List Int)
 | 0,_,_=>none
 | d + 1,s,l=>match roundV c s with
  | none=>none
  | some x=>if sameT s x.1=true then some (s,norm (allN c) (l++x.2)) else restGo c d x.1 (norm (allN c) (l++x.2))
def restV (c:Ct) (s:Ste):Option (Ste × List Int):=restGo c 65 s []
theorem stE_iff {c:Ct} {s:Ste}:stE c s=0 ↔ c.check=0∧Shp c s∧s.ends.any (badL 4)=false∧s.timers.any (badL 3)=false∧∀ k,k < s.timers.length→tmF c s k=false :=
 ⟨fun h=>⟨(stE_zero h).1,(stE_zero h).2,stE_parts h⟩,fun h=>stE_of h.1 h.2.1 h.2.2.1 h.2.2.2.1 h.2.2.2.2⟩
theorem any_bad {n:Int} {l:List Int}:l.any (badL n)=false ↔ ∀ x ∈ l,0≤x∧x < n:=by
 rw [List.any_eq_false]
 constructor
 ·intro h x hx
  have:=h x hx
  simp only [badL,Bool.or_eq_true,decide_eq_true_eq,not_or] at this
  omega
 ·intro h x hx
  have:=h x hx
  simp only [badL,Bool.or_eq_true,decide_eq_true_eq,not_or]
  omega
theorem tm_get {c:Ct} {s:Ste} (hS:Shp c s) {k:Nat} (hk:k < c.signals.length):tmF c s k=tmB c.signals[k].kind (s.values[k]'(by rw [hS.v]; exact hk)) (s.timers[k]'(by rw [hS.t]; exact hk)):=by
 unfold tmF
 rw [List.getElem?_eq_getElem hk,List.getElem?_eq_getElem (by rw [hS.v]; exact hk),List.getElem?_eq_getElem (by rw [hS.t]; exact hk)]
 rfl
theorem turnV_right {x:Sg} {L:List Bool} {v:Bool} {t:Int} (h:tmB x.kind v t=false) (ht:0≤t∧t < 3):tmB x.kind (turnV x L v t).1 (turnV x L v t).2=false∧0≤(turnV x L v t).2∧(turnV x L v t).2 < 3:=by
 unfold turnV
 by_cases h1:x.kind=1
 ·rw [if_pos h1]
  rw [h1] at h ⊢
  simp [tmB] at h ⊢
  split <;> exact ⟨h,ht⟩
 ·rw [if_neg h1]
  by_cases h2:x.kind=2
  ·rw [if_pos h2]
   rw [h2] at h ⊢
   simp [tmB] at h
   split
   ·split
    ·rename_i h0
     subst h0
     subst h
     exact ⟨by decide,by simp⟩
    ·refine ⟨?_,ht⟩
     simp [tmB,h]
   ·exact ⟨by decide,by simp⟩
  ·rw [if_neg h2]
   exact ⟨h,ht⟩
theorem once_right {c:Ct} {g:Ste} (h:stE c g=0):stE c (onceG c g)=0:=by
 obtain ⟨hc,hS,h1,h2,h3⟩:=stE_iff.1 h
 have hlen:(turns c g).length=c.signals.length:=turnL_len _ hS.v hS.t
 have hS':Shp c (onceG c g):=⟨hS.e,hS.w,hS.i,by unfold onceG; rw [List.length_map,hlen],by unfold onceG; rw [List.length_map,hlen]⟩
 have hall:∀ k (hk:k < c.signals.length),∃ v t,(turns c g)[k]?=some (v,t)∧tmB c.signals[k].kind v t=false∧0≤t∧t < 3:=by
  intro k hk
  have hkv:k < g.values.length:=by rw [hS.v]; exact hk
  have hkt:k < g.timers.length:=by rw [hS.t]; exact hk
  have hg:=turnL_get (linesV g) (List.getElem?_eq_getElem hk) (List.getElem?_eq_getElem hkv) (List.getElem?_eq_getElem hkt)
  have ht:=(any_bad.1 h2) _ (List.getElem_mem hkt)
  have hq:=h3 k hkt
  rw [tm_get hS hk] at hq
  have:=turnV_right (L:=linesV g) hq ht
  exact ⟨_,_,hg,this.1,this.2⟩
 refine stE_iff.2 ⟨hc,hS',h1,any_bad.2 fun x hx=>?_,fun k hk=>?_⟩
 ·unfold onceG at hx
  obtain ⟨k,hk,rfl⟩:=List.getElem_of_mem hx
  rw [List.getElem_map]
  rw [List.length_map,hlen] at hk
  obtain ⟨v,t,e,_,hr⟩:=hall k hk
  rw [List.getElem?_eq_getElem (by rw [hlen]; exact hk)] at e
  rw [Option.some.inj e]
  exact hr
 ·have hk':k < c.signals.length:=by rw [← hS'.t]; exact hk
  rw [tm_get hS' hk']
  obtain ⟨v,t,e,hr,_⟩:=hall k hk'
  unfold onceG
  simp only [List.getElem_map]
  rw [List.getElem?_eq_getElem (by rw [hlen]; exact hk')] at e
  rw [Option.some.inj e]
  exact hr
theorem onceV_right {c:Ct} {s:Ste} (h:stE c s=0):stE c (onceV c s)=0:=once_right (gated_right h)
theorem valvS_right {c:Ct} {s:Ste} (h:stE c s=0):stE c (valvS c s)=0:=by
 obtain ⟨hc,hS,h1,h2,h3⟩:=stE_iff.1 h
 exact stE_iff.2 ⟨hc,⟨hS.e,by unfold valvS; rw [List.length_mapIdx]; exact hS.w,hS.i,hS.v,hS.t⟩,h1,h2,h3⟩
theorem goesE_lt {v:Bool} {e:Int} (h:0≤e∧e < 4):0≤goesE v e∧goesE v e < 4:=by
 unfold goesE
 split
 ·omega
 ·split
  ·omega
  ·exact h
theorem goesS_right {c:Ct} {s:Ste} (h:stE c s=0):stE c (goesS s)=0:=by
 obtain ⟨hc,hS,h1,h2,h3⟩:=stE_iff.1 h
 have hl:(List.zipWith goesE s.valves s.ends).length=s.ends.length:=by
  have:=hS.e
  have:=hS.w
  rw [List.length_zipWith]
  omega
 refine stE_iff.2 ⟨hc,⟨by unfold goesS; rw [hl]; exact hS.e,hS.w,hS.i,hS.v,hS.t⟩,any_bad.2 fun x hx=>?_,h2,h3⟩
 unfold goesS at hx
 obtain ⟨k,hk,rfl⟩:=List.getElem_of_mem hx
 rw [List.getElem_zipWith]
 exact goesE_lt ((any_bad.1 h1) _ (List.getElem_mem _))
theorem settleGo_right {c:Ct} {N:Nat}:∀ {d:Nat} {s:Ste} {l:List Int} {t:Ste} {m:List Int},stE c s=0→settleGo c N d s l=some (t,m)→stE c t=0
 | 0,_,_,_,_,_,h=>by cases h
 | d + 1,s,l,t,m,hs,h=>by
  rw [settleGo] at h
  split at h
  ·cases h; exact hs
  ·exact settleGo_right (onceV_right hs) h
theorem settleV_right {c:Ct} {s t:Ste} {m:List Int} (hs:stE c s=0) (h:settleV c s=some (t,m)):stE c t=0:=settleGo_right hs h
theorem roundV_right {c:Ct} {s t:Ste} {m:List Int} (hs:stE c s=0) (h:roundV c s=some (t,m)):stE c t=0:=by
 unfold roundV at h
 cases e:settleV c s with
 | none=>rw [e] at h; cases h
 | some x =>
  rw [e] at h
  cases h
  exact goesS_right (valvS_right (settleV_right hs e))
theorem restGo_right {c:Ct}:∀ {d:Nat} {s:Ste} {l:List Int} {t:Ste} {m:List Int},stE c s=0→restGo c d s l=some (t,m)→stE c t=0
 | 0,_,_,_,_,_,h=>by cases h
 | d + 1,s,l,t,m,hs,h=>by
  rw [restGo] at h
  cases e:roundV c s with
  | none=>rw [e] at h; cases h
  | some x =>
   rw [e] at h
   simp only at h
   split at h
   ·cases h; exact hs
   ·exact restGo_right (roundV_right hs (show roundV c s=some (x.1,x.2) from e)) h
theorem restV_right {c:Ct} {s t:Ste} {m:List Int} (hs:stE c s=0) (h:restV c s=some (t,m)):stE c t=0:=restGo_right hs h
structure SigOk (n:Nat) (x:Sg):Prop where
 on:x.on.nodes≤256∧x.on.err n=0
 off:x.kind=1→x.off.nodes≤256∧x.off.err n=0
theorem ev182 (x:Sg) (L:List Bool) (h:SigOk L.length x):ev pg (.call (.fn 182 [] []) [.agg x.row,bools L] [])=some { v:=.tup [.bool (x.on.holds L),.bool (offV x L)],st:=⟨[],[]⟩ }:=by
 have h1:=ev131 L x.on h.on.1 h.on.2
 rw [ev_call,pg182]
 unfold offV
 by_cases hk:x.kind=1
 ·have h2:=ev131 L x.off (h.off hk).1 (h.off hk).2
  simp [ev_draw1,exT,chkOk,ir182,h1,h2,hk]
 ·have hkb:(x.kind == 1)=false:=by simpa using hk
  simp [ev_draw1,exT,chkOk,ir182,h1,hk,hkb]
abbrev turnS (s:Ste) (i:Nat) (p:Bool × Int):Ste:=⟨s.ends,s.valves,s.inputs,s.values.set i p.1,s.timers.set i p.2⟩
set_option maxHeartbeats 2000000 in
theorem ev181 (c:Ct) (s:Ste) (i:Nat) (hs:s.small) (hS:Shp c s) (hi:i < c.signals.length) (hok:SigOk (linesV s).length c.signals[i]) (hv:i < s.values.length) (ht:i < s.timers.length):∃ b,ev pg (.call (.fn 181 [] []) [c.v,s.v,num i] [])=some { v:=.tup [(turnS s i (turnV c.signals[i] (linesV s) s.values[i] s.timers[i])).v,.bool b],st:=⟨[],[]⟩ }:=by
 have h28:=ev28 c s hs hS.e
 have h130:=ev130 s hs
 have h182:=ev182 c.signals[i] (linesV s) hok
 have hi':(i:Int) < c.signals.length:=by omega
 generalize linesV s=L at *
 unfold turnV offV at *
 generalize hon:c.signals[i].on.holds L=on at *
 generalize hof:c.signals[i].off.holds L=off at *
 rw [ev_call,pg181]
 by_cases k1:c.signals[i].kind=1
 ·simp [Sg.row,k1] at h182
  cases on <;> cases off <;> simp [ev_draw1,exT,chkOk,ir181,h28,h130,h182,k1,hi,hi',hv,ht]
 ·have kb1:(c.signals[i].kind == 1)=false:=by simpa using k1
  by_cases k2:c.signals[i].kind=2
  ·simp [Sg.row,k2] at h182
   by_cases t0:s.timers[i]=0
   ·cases on <;> simp [ev_draw1,exT,chkOk,ir181,h28,h130,h182,k2,hi,hi',hv,ht,t0]
   ·have tb:(s.timers[i] == 0)=false:=by simpa using t0
    cases on <;> simp [ev_draw1,exT,chkOk,ir181,h28,h130,h182,k2,hi,hi',hv,ht,t0,tb]
  ·have kb2:(c.signals[i].kind == 2)=false:=by simpa using k2
   simp [k1] at h182
   simp [ev_draw1,exT,chkOk,ir181,h28,h130,h182,k1,k2,kb1,kb2,hi,hi',hv,ht]
theorem ev183 {c:Ct} {A:Nat} (h:Mid c A) (k:Nat) (hk:k≤128):ev pg (.call (.fn 183 [] []) [c.v,num k] [])=some { v:=num ((firstN c A:Nat) + (k:Int)),st:=⟨[],[]⟩ }:=by
 have h1:=ev100 h
 have a1:=h.hi
 have a2:=h.inp
 have hb:firstN c A≤44:=by unfold firstN; omega
 generalize firstN c A=F at *
 have w:=wrap_id (n:=(F:Int) + (k:Int)) (by omega) (by omega)
 rw [ev_call,pg183]
 simp [ir183,h1,w]
abbrev tv (c:Ct) (g:Ste) (k:Nat):List Bool:=mix ((turns c g).map Prod.fst) g.values k
abbrev tt (c:Ct) (g:Ste) (k:Nat):List Int:=mix ((turns c g).map Prod.snd) g.timers k
abbrev bdL (c:Ct) (g:Ste) (F:Nat) (k:Nat):List Int:=selL (badF c (linesV g)) F k
abbrev h166 (c:Ct) (g:Ste) (F:Nat) (k:Nat) (a:Nat × Nat):H:=[⟨0,.box c.cells⟩,⟨0,.box g.cells⟩,o0,o0,o0,o0,o0,⟨0,.box (nil5 2)⟩,⟨0,.arr 1 (g.ends.map nrow)⟩,⟨0,.arr 1 (g.valves.map brow)⟩,⟨0,.arr 1 (g.inputs.map brow)⟩,⟨0,.arr 1 ((tv c g k).map brow)⟩,⟨0,.arr 1 ((tt c g k).map nrow)⟩,o0,o0,o0,o0,o0,⟨0,.box [.sl 8 0 1 0 g.ends.length,.sl 9 0 1 0 g.valves.length,.sl 10 0 1 0 g.inputs.length,.sl 11 0 1 0 g.values.length,.sl 12 0 1 0 g.timers.length]⟩,o0,⟨a.1,.arr a.2 ((bdL c g F k).map nrow)⟩]
def T166 (c:Ct) (g:Ste) (F:Nat) (k:Nat) (a:Nat × Nat):Tm:=[none,none,some (.bptr 0 0),some (.bptr 1 0),some (.bptr 7 0),some (.sl 19 0 0 0 0),some (.bptr 18 0),some (.sl 20 a.1 a.2 0 (bdL c g F k).length),some (num k)]++List.replicate 65 none
set_option maxHeartbeats 2000000 in
theorem lp166 (c:Ct) (g:Ste) {A:Nat} (hM:Mid c A) (hs:g.small) (hS:Shp c g) (hok:∀ x ∈ c.signals,SigOk (linesV g).length x) {st:St} (a0:Nat × Nat) (g0:a0.2=1∨a0.2=0) (h0:At (T166 c g (firstN c A) 0 a0) (h166 c g (firstN c A) 0 a0) st):∃ r,ev pg (.code (.going 21 L166_0) st)=some r∧∃ a:Nat × Nat,(a.2=1∨a.2=0)∧EndsAs (.exit 0) (T166 c g (firstN c A) c.signals.length a) (h166 c g (firstN c A) c.signals.length a) r:=by
 have hn:=hM.sig
 refine loop_at c.signals.length (T166 c g (firstN c A)) (h166 c g (firstN c A)) (fun _ a=>a.2=1∨a.2=0) _ ?_ ?_ a0 g0 h0
 ·rintro k ⟨gn,m⟩ f hf hk hG
  have hk':(k:Int) < c.signals.length:=by omega
  have wk:=wrap_id (n:=(k:Int) + 1) (by omega) (by omega)
  have hkv:k < g.values.length:=by rw [hS.v]; exact hk
  have hkt:k < g.timers.length:=by rw [hS.t]; exact hk
  obtain ⟨b,h181⟩:=ev181 c g k hs hS hk (hok _ (List.getElem_mem hk)) hkv hkt
  have h28:=ev28 c g hs hS.e
  have h182:=ev182 c.signals[k] (linesV g) (hok _ (List.getElem_mem hk))
  have h183:=ev183 hM k (by omega)
  have hget:(turns c g)[k]?=some (turnV c.signals[k] (linesV g) g.values[k] g.timers[k]):=turnL_get _ (List.getElem?_eq_getElem hk) (List.getElem?_eq_getElem hkv) (List.getElem?_eq_getElem hkt)
  have hlen:(turns c g).length=c.signals.length:=turnL_len _ hS.v hS.t
  have hkl:k < (turns c g).length:=by omega
  have hget':(turns c g)[k]=turnV c.signals[k] (linesV g) g.values[k] g.timers[k]:=by
   have:=hget
   rw [List.getElem?_eq_getElem hkl] at this
   exact Option.some.inj this
  have l1:((turns c g).map Prod.fst).length=g.values.length:=by rw [List.length_map,hlen,hS.v]
  have l2:((turns c g).map Prod.snd).length=g.timers.length:=by rw [List.length_map,hlen,hS.t]
  have e1:=mix_set (A:=(turns c g).map Prod.fst) (B:=g.values) l1 (k:=k) (by rw [List.length_map]; exact hkl)
  have e2:=mix_set (A:=(turns c g).map Prod.snd) (B:=g.timers) l2 (k:=k) (by rw [List.length_map]; exact hkl)
  rw [List.getElem_map,hget'] at e1 e2
  have m1:=mix_len (A:=(turns c g).map Prod.fst) (B:=g.values) l1 (k:=k) (by rw [List.length_map]; omega)
  have m2:=mix_len (A:=(turns c g).map Prod.snd) (B:=g.timers) l2 (k:=k) (by rw [List.length_map]; omega)
  rw [l1] at m1
  rw [l2] at m2
  have e3:=selL_succ (badF c (linesV g)) (firstN c A:Nat) k
  have hb:badF c (linesV g) k=(c.signals[k].on.holds (linesV g) && offV c.signals[k] (linesV g)):=by
   unfold badF; rw [List.getElem?_eq_getElem hk]; rfl
  rw [hb] at e3
  have hsl:=selL_len (badF c (linesV g)) (firstN c A:Nat) k
  unfold T166 h166 tv tt bdL
  rw [← e1,← e2,e3]
  generalize mix ((turns c g).map Prod.fst) g.values k=VV at *
  generalize mix ((turns c g).map Prod.snd) g.timers k=TT at *
  generalize selL (badF c (linesV g)) (firstN c A:Nat) k=BB at *
  generalize turnV c.signals[k] (linesV g) g.values[k] g.timers[k]=p at *
  generalize firstN c A=F at *
  generalize c.signals[k].on.holds (linesV g)=on at *
  generalize offV c.signals[k] (linesV g)=off at *
  generalize linesV g=L at *
  have hkV:k < VV.length:=by omega
  have hkT:k < TT.length:=by omega
  have hb1:(BB.length + 1) * 8≤140737488355328:=by omega
  have hmm:m=1∨m=0:=hG
  obtain ⟨p1,p2⟩:=p
  rcases hmm with rfl | rfl <;> cases on <;> cases off <;> simp [ev_draw1,exT,chkOk,L166_0,hk,hk',wk,h181,h28,h182,h183,hkv,hkt,hkV,hkT,m1.symm,m2.symm,hb1,hf.ne]
 ·rintro ⟨gn,m⟩ f hf hG
  unfold T166 h166
  generalize bdL c g (firstN c A) c.signals.length=BB at *
  have hmm:m=1∨m=0:=hG
  rcases hmm with rfl | rfl <;> simp [L166_0,hf.ne]
theorem firstS_eq {c:Ct} {s:Ste} {A:Nat} (hM:Mid c A) (hS:Shp c s):firstS s=firstN c A:=by
 have h1:=hS.e
 have h2:=hM.act
 have h3:=hS.i
 unfold firstS firstN
 omega
theorem ev166 (c:Ct) (s:Ste) {A:Nat} (hM:Mid c A) (hs:s.small) (hS:Shp c s) (hok:∀ x ∈ c.signals,SigOk (linesV s).length x):ev pg (.call (.fn 166 [] []) [c.v,s.v] [])=some { v:=.tup [(onceV c s).v,ints (badS c s)],st:=⟨[],[]⟩ }:=by
 have h88:=ev88 c s hs hS hM.sig (fun x hx=>(hok x hx).on)
 have hgl:=gated_len (c:=c) s
 have hSg:Shp c (gated c s):=⟨hS.e,hS.w,hS.i,by rw [hgl]; exact hS.v,hS.t⟩
 have hsg:(gated c s).small:=⟨hs.e,hs.w,hs.i,by rw [hgl]; exact hs.v,hs.t⟩
 have hLl:(linesV (gated c s)).length=(linesV s).length:=by rw [linesV_len,linesV_len,hgl]; rfl
 have hl:=@lp166 c (gated c s) A hM hsg hSg (fun x hx=>by rw [hLl]; exact hok x hx)
 have hF:=firstS_eq hM hS
 unfold onceV badS
 rw [hF]
 generalize gated c s=g at *
 have h130:=ev130 g hsg
 have hlen:(turns c g).length=c.signals.length:=turnL_len _ hSg.v hSg.t
 have l1:((turns c g).map Prod.fst).length=g.values.length:=by rw [List.length_map,hlen,hSg.v]
 have l2:((turns c g).map Prod.snd).length=g.timers.length:=by rw [List.length_map,hlen,hSg.t]
 have z1:tv c g 0=g.values:=mix_zero _ _
 have z2:tt c g 0=g.timers:=mix_zero _ _
 have f1:tv c g c.signals.length=(turns c g).map Prod.fst:=by
  have:=mix_all l1
  rwa [List.length_map,hlen] at this
 have f2:tt c g c.signals.length=(turns c g).map Prod.snd:=by
  have:=mix_all l2
  rwa [List.length_map,hlen] at this
 have z3:bdL c g (firstN c A) 0=[]:=rfl
 unfold T166 h166 at hl
 rw [z1,z2,z3,f1,f2] at hl
 unfold onceG
 generalize (turns c g).map Prod.fst=VV at *
 generalize (turns c g).map Prod.snd=TT at *
 rw [show selL (badF c (linesV g)) (firstN c A:Nat) c.signals.length=bdL c g (firstN c A) c.signals.length from rfl]
 generalize bdL c g (firstN c A) c.signals.length=BB at *
 rw [ev_call,pg166]
 simp [ir166,h88,h130,ev_loop]
 generalize hr:ev pg (.code (.going _ L166_0) _)=o
 obtain ⟨r,rfl,⟨gn,m⟩,hm,f,hf,rfl⟩:∃ r,o=some r∧_:=by rw [← hr]; exact hl (0,0) (.inr rfl) (by simp)
 clear hr
 have hmm:m=1∨m=0:=hm
 rcases hmm with rfl | rfl <;> simp [l1.symm,l2.symm]
end Go.Proofs.YtbhkplbciajikaaGreat
