/- A run in two parts is one run. Behind events states are right; the first state. A round of the plant, by the reference: all that is needed of a right state of a small control. A round of the signals, by settle. A round of the signals, by settle: the function. Sorting in place: own slices of numbers in a memory. -/
import Derived.Test.YtbhkplbciajikaaGreatSt2
import Derived.KernelRfl
import Derived.Test.YtbhkplbciajikaaGreatSv1
import Derived.Test.YtbhkplbciajikaaGreatSa1
import Derived.Test.YtbhkplbciajikaaGreatVs3
import Derived.Test.YtbhkplbciajikaaGreatCt2
import Derived.Sort.AssemblyPlain
set_option linter.all false
namespace Go.Proofs.YtbhkplbciajikaaGreat
open Go Go.Am Go.Proofs
set_option maxRecDepth 100000
theorem norm_shift {N:Nat} {a b m:List Int}:norm N (norm N (a++b)++m)=norm N (a++norm N (b++m)) :=
 norm_congr fun x h1 h2=>by
  simp only [List.mem_append,mem_norm]
  constructor
  ·rintro (⟨h | h,_⟩ | h)
   ·exact .inl h
   ·exact .inr ⟨.inl h,h1,h2⟩
   ·exact .inr ⟨.inr h,h1,h2⟩
  ·rintro (h | ⟨h | h,_⟩)
   ·exact .inl ⟨.inl h,h1,h2⟩
   ·exact .inl ⟨.inr h,h1,h2⟩
   ·exact .inr h
theorem runGo_app (c:Ct):∀ (l m:List Evn) (i:Nat) (r:Crs),runGo c (l++m) i r=if (runGo c l i r).2.2=0 then runGo c m (i + l.length) (runGo c l i r).1 else runGo c l i r
 | [],m,i,r=>by simp [runGo]
 | x :: l,m,i,r=>by
  rw [List.cons_append,runGo,runGo]
  by_cases h:(afterV c r.st x).2.2=0
  ·rw [if_pos h,if_pos h,runGo_app c l m,List.length_cons,show i + (l.length + 1)=i + 1 + l.length by omega]
  ·rw [if_neg h,if_neg h,if_neg h]
theorem runGo_rel (c:Ct) (S0:List (List (Int × Bool))) (a:List Int) (i:Nat):∀ (l:List Evn) (j:Nat) (s:Ste) (S:List (List (Int × Bool))) (C:List Int),
  runGo c l (j + i) ⟨s,S0++S,norm (allN c) (a++C)⟩=if (runGo c l j ⟨s,S,C⟩).2.2=0 then (⟨(runGo c l j ⟨s,S,C⟩).1.st,S0++(runGo c l j ⟨s,S,C⟩).1.strokes,norm (allN c) (a++(runGo c l j ⟨s,S,C⟩).1.conf)⟩,0,0) else (zeroCrs,(runGo c l j ⟨s,S,C⟩).2.1 + i,(runGo c l j ⟨s,S,C⟩).2.2)
 | [],j,s,S,C=>by simp [runGo]
 | x :: l,j,s,S,C=>by
  rw [runGo,runGo]
  simp only
  by_cases h:(afterV c s x).2.2=0
  ·rw [if_pos h,if_pos h,List.append_assoc,norm_shift,show j + i + 1=j + 1 + i by omega]
   exact runGo_rel c S0 a i l (j + 1) _ _ _
  ·rw [if_neg h,if_neg h,if_neg h]
   simp
theorem afterV_still {c:Ct} {s:Ste} {x:Evn} (h:(afterV c s x).2.2=0):∃ a,roundV c (afterV c s x).1=some ((afterV c s x).1,a):=by
 unfold afterV at h ⊢
 split at h
 ·cases h
 ·rename_i h1
  rw [if_neg h1]
  split at h
  ·rename_i h2
   rw [if_pos h2]
   unfold restE at h ⊢
   cases e:restV c (happV s x) with
   | none=>rw [e] at h; cases h
   | some y =>
    simp only
    exact restV_still (show restV c (happV s x)=some (y.1,y.2) from e)
  ·cases h
theorem runGo_still {c:Ct}:∀ {l:List Evn} {i:Nat} {r:Crs},(∃ a,roundV c r.st=some (r.st,a))→(runGo c l i r).2.2=0→∃ a,roundV c (runGo c l i r).1.st=some ((runGo c l i r).1.st,a)
 | [],_,_,h,_=>h
 | x :: l,i,r,_,h=>by
  rw [runGo] at h ⊢
  by_cases h0:(afterV c r.st x).2.2=0
  ·rw [if_pos h0] at h ⊢
   exact runGo_still (afterV_still h0) h
  ·rw [if_neg h0] at h
   exact absurd h h0
theorem pend_end {s:Ste} {i:Nat} (h:pendB s 0 i=true):∃ hi:i < s.ends.length,s.ends[i]=1∨s.ends[i]=3:=by
 unfold pendB at h
 rw [if_pos rfl] at h
 by_cases hi:i < s.ends.length
 ·rw [List.getElem?_eq_getElem hi] at h
  simp at h
  exact ⟨hi,h⟩
 ·rw [List.getElem?_eq_none (by omega)] at h
  simp at h
theorem pend_timer {s:Ste} {i:Nat} (h:pendB s 1 i=true):∃ hi:i < s.timers.length,s.timers[i]=1:=by
 unfold pendB at h
 rw [if_neg (by omega)] at h
 by_cases hi:i < s.timers.length
 ·rw [List.getElem?_eq_getElem hi] at h
  simp at h
  exact ⟨hi,h⟩
 ·rw [List.getElem?_eq_none (by omega)] at h
  simp at h
theorem happ_right {c:Ct} {s:Ste} {x:Evn} (hs:stE c s=0) (hk:¬ (x.kind < 0∨2 < x.kind)) (hm:mayV s x=true):stE c (happV s x)=0:=by
 obtain ⟨hc,hS,h1,h2,h3⟩:=stE_iff.1 hs
 unfold mayV at hm
 split at hm
 ·cases hm
 ·unfold happV
  by_cases hk0:x.kind=0
  ·rw [if_pos hk0]
   refine stE_iff.2 ⟨hc,⟨by simp only [List.length_set]; exact hS.e,hS.w,hS.i,hS.v,hS.t⟩,any_bad.2 fun y hy=>?_,h2,h3⟩
   rcases List.mem_or_eq_of_mem_set hy with h | h
   ·exact any_bad.1 h1 y h
   ·rw [h]; split <;> omega
  ·rw [if_neg hk0]
   by_cases hk1:x.kind=1
   ·rw [if_pos hk1]
    rw [if_neg (by omega),hk1] at hm
    obtain ⟨hi,ht⟩:=pend_timer hm
    generalize x.idx.toNat=n at *
    have hnc:n < c.signals.length:=by rw [← hS.t]; exact hi
    have hS':Shp c ⟨s.ends,s.valves,s.inputs,s.values.set n true,s.timers.set n 2⟩:=⟨hS.e,hS.w,hS.i,by simp only [List.length_set]; exact hS.v,by simp only [List.length_set]; exact hS.t⟩
    refine stE_iff.2 ⟨hc,hS',h1,any_bad.2 fun y hy=>?_,fun k hk=>?_⟩
    ·rcases List.mem_or_eq_of_mem_set hy with h | h
     ·exact any_bad.1 h2 y h
     ·rw [h]; omega
    ·simp only [List.length_set] at hk
     have hkc:k < c.signals.length:=by rw [← hS.t]; exact hk
     rw [tm_get hS' hkc]
     simp only [List.getElem_set]
     by_cases hkn:n=k
     ·subst hkn
      have hq:=h3 n hi
      rw [tm_get hS hkc,ht] at hq
      simp only [if_true]
      have hkind:c.signals[n].kind=2:=by
       simp [tmB] at hq
       exact hq.1
      rw [hkind]
      rfl
     ·rw [if_neg hkn,if_neg hkn,← tm_get hS hkc]
      exact h3 k hk
   ·rw [if_neg hk1]
    exact stE_iff.2 ⟨hc,⟨hS.e,hS.w,by simp only [List.length_set]; exact hS.i,hS.v,hS.t⟩,h1,h2,h3⟩
theorem afterV_right {c:Ct} {s:Ste} {x:Evn} (hs:stE c s=0) (h:(afterV c s x).2.2=0):stE c (afterV c s x).1=0:=by
 unfold afterV at h ⊢
 split at h
 ·cases h
 ·rename_i h1
  rw [if_neg h1]
  split at h
  ·rename_i h2
   rw [if_pos h2]
   unfold restE at h ⊢
   cases e:restV c (happV s x) with
   | none=>rw [e] at h; cases h
   | some y =>
    simp only
    exact restV_right (happ_right hs h1 h2) (show restV c (happV s x)=some (y.1,y.2) from e)
  ·cases h
theorem runGo_right {c:Ct}:∀ {l:List Evn} {i:Nat} {r:Crs},stE c r.st=0→(runGo c l i r).2.2=0→stE c (runGo c l i r).1.st=0
 | [],_,_,h,_=>h
 | x :: l,i,r,hs,h=>by
  rw [runGo] at h ⊢
  by_cases h0:(afterV c r.st x).2.2=0
  ·rw [if_pos h0] at h ⊢
   exact runGo_right (afterV_right hs h0) h
  ·rw [if_neg h0] at h
   exact absurd h h0
def firstG (c:Ct):Ste:=⟨List.replicate c.act.toNat 0,List.replicate c.act.toNat false,List.replicate c.inputs.length false,c.signals.map Sg.init,List.replicate c.signals.length 0⟩
def beginV (c:Ct):Ste:=gated c (firstG c)
theorem firstG_right {c:Ct} (hc:c.check=0):stE c (firstG c)=0:=by
 have hact:1≤c.act:=by
  unfold Ct.check at hc
  split at hc
  ·cases hc
  ·omega
 have hS:Shp c (firstG c):=⟨by unfold firstG; rw [List.length_replicate]; omega,by unfold firstG; rw [List.length_replicate]; omega,by unfold firstG; rw [List.length_replicate],by unfold firstG; rw [List.length_map],by unfold firstG; rw [List.length_replicate]⟩
 refine stE_iff.2 ⟨hc,hS,any_bad.2 fun y hy=>?_,any_bad.2 fun y hy=>?_,fun k hk=>?_⟩
 ·rw [(List.mem_replicate.1 hy).2]; omega
 ·rw [(List.mem_replicate.1 hy).2]; omega
 ·have hkc:k < c.signals.length:=by rw [← hS.t]; exact hk
  rw [tm_get hS hkc]
  unfold firstG
  simp only [List.getElem_map,List.getElem_replicate]
  have hz:=sig_zero hc k _ (List.getElem?_eq_getElem hkc)
  generalize c.signals[k]=x at *
  by_cases h2:x.kind=2
  ·have hi:x.init=false:=by
    cases hb:x.init with
    | false=>rfl
    | true =>
     exfalso
     unfold sigE at hz
     split at hz
     ·split at hz
      ·cases hz
      ·split at hz
       ·split at hz
        ·rename_i h4; exact h4.2 hz
        ·split at hz
         ·cases hz
         ·split at hz
          ·cases hz
          ·rw [if_pos (.inl ⟨by omega,.inr hb⟩)] at hz
           cases hz
       ·rename_i h4; exact h4 hz
     ·rename_i h4; exact h4 hz
   rw [h2,hi]
   rfl
  ·simp [tmB,h2]
theorem beginV_right {c:Ct} (hc:c.check=0):stE c (beginV c)=0:=gated_right (firstG_right hc)
structure Rdy (c:Ct) (s:Ste):Prop where
 few:c.small=true
 st:stE c s=0
theorem Rdy.chk {c:Ct} {s:Ste} (h:Rdy c s):c.check=0:=(stE_zero h.st).1
theorem Rdy.mid {c:Ct} {s:Ste} (h:Rdy c s):Mid c c.act.toNat:=mid_check h.chk h.few
theorem Rdy.shp {c:Ct} {s:Ste} (h:Rdy c s):Shp c s:=(stE_zero h.st).2
theorem Rdy.small {c:Ct} {s:Ste} (h:Rdy c s):s.small:=by
 obtain ⟨h1,h2,h3,h4,h5⟩:=h.shp
 have a1:=h.mid.hi
 have a2:=h.mid.inp
 have a3:=h.mid.sig
 have a4:=h.mid.act
 exact ⟨by omega,by omega,by omega,by omega,by omega⟩
theorem Rdy.sig {c:Ct} {s:Ste} (h:Rdy c s):∀ x ∈ c.signals,SigOk (linesV s).length x:=by
 intro x hx
 rw [shp_lines h.shp]
 have:=sg_ok h.chk h.few hx
 exact ⟨⟨this.non,this.on⟩,fun _=>⟨this.noff,this.off⟩⟩
theorem Rdy.pil {c:Ct} {s:Ste} (h:Rdy c s):Pil c c.act.toNat (linesV s).length:=by
 rw [shp_lines h.shp]
 have:=rgt_check h.chk h.few
 exact ⟨this.plus,this.minus,any_bad.1 this.pp,any_bad.1 this.mm⟩
theorem Rdy.settle {c:Ct} {s t:Ste} {m:List Int} (h:Rdy c s) (hz:settleV c s=some (t,m)):Rdy c t:=⟨h.few,settleV_right h.st hz⟩
theorem Rdy.round {c:Ct} {s t:Ste} {m:List Int} (h:Rdy c s) (hz:roundV c s=some (t,m)):Rdy c t:=⟨h.few,roundV_right h.st hz⟩
structure Lin (N:Nat) (l:List Int):Prop where
 asc:Asc l
 b:∀ x ∈ l,0≤x∧x < (N:Int)
theorem Lin.norm (N:Nat) (l:List Int):Lin N (norm N l):=⟨norm_asc N l,fun _ hx=>(mem_norm.1 hx).2⟩
theorem Lin.self {N:Nat} {l:List Int} (h:Lin N l):Proofs.YtbhkplbciajikaaGreat.norm N l=l:=norm_self h.asc h.b
theorem norm_le (N:Nat) (l:List Int):(norm N l).length≤N:=selL_len _ _ _
theorem Lin.len {N:Nat} {l:List Int} (h:Lin N l):l.length≤N:=by
 have:=norm_le N l
 rwa [h.self] at this
theorem Lin.mono {M N:Nat} {l:List Int} (h:Lin M l) (hMN:M≤N):Lin N l:=⟨h.asc,fun x hx=>by have:=h.b x hx; omega⟩
theorem Lin.mrg {N:Nat} {l m:List Int} (hl:Lin N l) (hm:Lin N m):mrg l m=Proofs.YtbhkplbciajikaaGreat.norm N (l++m):=mrg_norm hl.asc hm.asc hl.b hm.b
theorem Lin.nil (N:Nat):Lin N []:=⟨List.Pairwise.nil,by simp⟩
theorem settleGo_lin {c:Ct} {N:Nat}:∀ {d:Nat} {s:Ste} {l:List Int} {t:Ste} {m:List Int},settleGo c N d s l=some (t,m)→Lin N m
 | 0,_,_,_,_,h=>by cases h
 | d + 1,s,l,t,m,h=>by
  rw [settleGo] at h
  split at h
  ·cases h; exact Lin.norm _ _
  ·exact settleGo_lin h
theorem settleV_lin {c:Ct} {s t:Ste} {m:List Int} (h:settleV c s=some (t,m)):Lin (countN c c.act.toNat) m:=settleGo_lin h
theorem confS_lin (c:Ct) (s:Ste):Lin (allN c) (confS c s):=by
 refine ⟨?_,fun x hx=>?_⟩
 ·unfold confS selL Asc
  rw [List.pairwise_map]
  refine List.Pairwise.imp ?_ ((List.pairwise_lt_range (n:=c.act.toNat)).filter _)
  intro a b h
  omega
 ·unfold confS at hx
  obtain ⟨j,h1,_,rfl⟩:=(selL_mem _ _ _ _).1 hx
  unfold allN
  omega
theorem allN_le {c:Ct} (h:Mid c c.act.toNat):allN c≤200:=by
 have:=h.hi
 have:=h.inp
 have:=h.sig
 unfold allN countN
 omega
theorem roundV_lin {c:Ct} {s t:Ste} {m:List Int} (h:roundV c s=some (t,m)):Lin (allN c) m:=by
 obtain ⟨u,k,_,_,rfl⟩:=roundV_parts h
 exact Lin.norm _ _
theorem ev83 {c:Ct} {s:Ste} (h:Rdy c s):ev pg (.call (.fn 83 [] []) [c.v,s.v] [])=some { v:=.tup (setV (roundV c s)++[.bool (roundV c s).isSome]),st:=⟨[],[]⟩ }:=by
 cases hZ:settleV c s with
 | none =>
  have h124:=ev124 c h.mid s h.small h.shp h.sig
  have hr:roundV c s=none:=by unfold roundV; rw [hZ]; rfl
  rw [hr]
  rw [hZ] at h124
  simp [setV] at h124
  rw [ev_call,pg83]
  simp [ir83,h124,setV,zeroS]
 | some x =>
  obtain ⟨t,m⟩:=x
  have ht:=h.settle hZ
  have hm:=settleV_lin hZ
  have hN:=allN_le h.mid
  have h83:=ev83_some c h.mid s h.small h.shp h.sig hZ ht.small ht.shp ht.pil (by have:=hm.len; unfold allN at hN; omega)
  have hr:roundV c s=some (goesS (valvS c t),norm (allN c) (m++confS c t)):=by unfold roundV; rw [hZ]; rfl
  rw [hr,h83]
  have e:mrg m (cfA c t c.act.toNat)=norm (allN c) (m++confS c t):=Lin.mrg (hm.mono (by unfold allN; omega)) (confS_lin c t)
  rw [e]
  rfl
theorem ev149 (s:Ste) (hs:s.small):ev pg (.call (.fn 149 [] []) [s.v] [])=some { v:=fiveV s,st:=⟨[],five s⟩ }:=by
 have e1:=ev89 s.ends hs.e
 have e2:=ev90 s.valves hs.w
 have e3:=ev90 s.inputs hs.i
 have e4:=ev90 s.values hs.v
 have e5:=ev89 s.timers hs.t
 rw [ev_call,pg149]
 simp [ev_draw1,exT,chkOk,ir149,e1,e2,e3,e4,e5,moveVs,moveV,moveL,move1]
theorem ev60 (s:Ste) (hs:s.small):ev pg (.call (.fn 60 [] []) [s.v] [])=some { v:=fiveV s,st:=⟨[],five s⟩ }:=by
 have e1:=ev89 s.ends hs.e
 have e2:=ev90 s.valves hs.w
 have e3:=ev90 s.inputs hs.i
 have e4:=ev90 s.values hs.v
 have e5:=ev89 s.timers hs.t
 rw [ev_call,pg60]
 simp [ev_draw1,exT,chkOk,ir60,e1,e2,e3,e4,e5,moveVs,moveV,moveL,move1]
def ruleF (k:Int):V:=if k=0 then .fn 175 [] [] else if k=1 then .fn 176 [] [] else .fn 177 [] []
theorem rule_at (x:Sg) (L:List Bool) (v:Bool) (t:Int) (hk:x.kind=0∨x.kind=1∨x.kind=2):ev pg (.call (ruleF x.kind) [chg v t false,.bool (x.on.holds L),.bool (offV x L)] [])=some { v:=chg (turnV x L v t).1 (turnV x L v t).2 (x.on.holds L && offV x L),st:=⟨[],[]⟩ }:=by
 have hoff:x.kind ≠ 1→offV x L=false:=fun h=>by unfold offV; simp [h]
 have hoff1:x.kind=1→offV x L=x.off.holds L:=fun h=>by unfold offV; simp [h]
 unfold ruleF turnV
 rcases hk with h | h | h
 ·rw [if_pos h,hoff (by omega),ev175,if_neg (by omega),if_neg (by omega)]
  simp
 ·rw [if_neg (by omega),if_pos h,hoff1 h,ev176,if_pos h]
  cases x.on.holds L <;> cases x.off.holds L <;> simp
 ·have e:=ev177 v t false (x.on.holds L) false
  rw [hoff (by omega)]
  simp only [h]
  simp
  rw [e]
  cases x.on.holds L
  ·simp
  ·by_cases h0:t=0 <;> simp [h0]
abbrev h150 (c:Ct) (s g b:Ste) (gq wq:Nat) (L:List Int) (k:Nat) (a:Nat × Nat):H:=h163 c s ⟨g.ends,g.valves,g.inputs,tv c g k,tt c g k⟩ b (firstS g) gq wq L++[⟨0,.arr 1 ((linesV g).map brow)⟩,⟨0,.box [.fn 175 [] [],.fn 176 [] [],.fn 177 [] []]⟩,o0,⟨a.1,.arr a.2 ((bdL c g (firstS g) k).map nrow)⟩]
def T150 (c:Ct) (g:Ste) (k:Nat) (a:Nat × Nat):Tm:=[some (.bptr 15 0),none,some (.bool false),some (.sl 31 0 0 0 0),some (.bptr 28 0),some (.sl 29 0 1 0 (linesV g).length),some (.bptr 30 0),some (.sl 32 a.1 a.2 0 (bdL c g (firstS g) k).length)]++List.replicate 17 none++[some (.imm (c.signals.map Sg.row)),some (num c.signals.length),some (num k)]++List.replicate 77 none
set_option maxHeartbeats 4000000 in
theorem lp150 (c:Ct) (s g b:Ste) (gq wq:Nat) (L:List Int) (hs:g.small) (hS:Shp c g) (hn:c.signals.length≤128) (hF:firstS g≤10000) (hok:∀ x ∈ c.signals,SigOk (linesV g).length x) (hkd:∀ x ∈ c.signals,x.kind=0∨x.kind=1∨x.kind=2) {st:St} (a0:Nat × Nat) (g0:a0.2=1∨a0.2=0) (h0:At (T150 c g 0 a0) (h150 c s g b gq wq L 0 a0) st):∃ r,ev pg (.code (.going 33 L150_0) st)=some r∧∃ a:Nat × Nat,(a.2=1∨a.2=0)∧EndsAs (.exit 0) (T150 c g c.signals.length a) (h150 c s g b gq wq L c.signals.length a) r:=by
 refine loop_at c.signals.length (T150 c g) (h150 c s g b gq wq L) (fun _ a=>a.2=1∨a.2=0) _ ?_ ?_ a0 g0 h0
 ·rintro k ⟨gn,m⟩ f hf hk hG
  have hk':(k:Int) < c.signals.length:=by omega
  have wk:=wrap_id (n:=(k:Int) + 1) (by omega) (by omega)
  have hkv:k < g.values.length:=by rw [hS.v]; exact hk
  have hkt:k < g.timers.length:=by rw [hS.t]; exact hk
  have hx:=hok _ (List.getElem_mem hk)
  have hrule:=rule_at c.signals[k] (linesV g) g.values[k] g.timers[k] (hkd _ (List.getElem_mem hk))
  have e1:=ev165 (linesV g) c.signals[k].on hx.on.1 hx.on.2
  have hlen:(turns c g).length=c.signals.length:=turnL_len _ hS.v hS.t
  have hkl:k < (turns c g).length:=by omega
  have hget':(turns c g)[k]=turnV c.signals[k] (linesV g) g.values[k] g.timers[k]:=by
   have:(turns c g)[k]?=some (turnV c.signals[k] (linesV g) g.values[k] g.timers[k]):=turnL_get _ (List.getElem?_eq_getElem hk) (List.getElem?_eq_getElem hkv) (List.getElem?_eq_getElem hkt)
   rw [List.getElem?_eq_getElem hkl] at this
   exact Option.some.inj this
  have l1:((turns c g).map Prod.fst).length=g.values.length:=by rw [List.length_map,hlen,hS.v]
  have l2:((turns c g).map Prod.snd).length=g.timers.length:=by rw [List.length_map,hlen,hS.t]
  have f1:=mix_set (A:=(turns c g).map Prod.fst) (B:=g.values) l1 (k:=k) (by rw [List.length_map]; exact hkl)
  have f2:=mix_set (A:=(turns c g).map Prod.snd) (B:=g.timers) l2 (k:=k) (by rw [List.length_map]; exact hkl)
  rw [List.getElem_map,hget'] at f1 f2
  have m1:=mix_len (A:=(turns c g).map Prod.fst) (B:=g.values) l1 (k:=k) (by rw [List.length_map]; omega)
  have m2:=mix_len (A:=(turns c g).map Prod.snd) (B:=g.timers) l2 (k:=k) (by rw [List.length_map]; omega)
  rw [l1] at m1
  rw [l2] at m2
  have n1:=mix_get (A:=(turns c g).map Prod.fst) (B:=g.values) l1 (k:=k) (by rw [List.length_map]; exact hkl)
  have n2:=mix_get (A:=(turns c g).map Prod.snd) (B:=g.timers) l2 (k:=k) (by rw [List.length_map]; exact hkl)
  rw [List.getElem?_eq_getElem hkv] at n1
  rw [List.getElem?_eq_getElem hkt] at n2
  have f3:=selL_succ (badF c (linesV g)) (firstS g:Nat) k
  have hb:badF c (linesV g) k=(c.signals[k].on.holds (linesV g) && offV c.signals[k] (linesV g)):=by
   unfold badF; rw [List.getElem?_eq_getElem hk]; rfl
  rw [hb] at f3
  have hsl:=selL_len (badF c (linesV g)) (firstS g:Nat) k
  unfold T150 h150 tv tt bdL
  rw [← f1,← f2,f3]
  have e2:c.signals[k].kind=1→ev pg (.call (.fn 165 [] []) [c.signals[k].off.v,bools (linesV g)] [])=some { v:=.bool (offV c.signals[k] (linesV g)),st:=⟨[],[]⟩ }:=fun h=>by
   rw [ev165 (linesV g) c.signals[k].off (hx.off h).1 (hx.off h).2]
   unfold offV
   simp [h]
  have hoff:c.signals[k].kind ≠ 1→offV c.signals[k] (linesV g)=false:=fun h=>by unfold offV; simp [h]
  generalize hv0:g.values[k]=v0 at *
  generalize ht0:g.timers[k]=t0 at *
  generalize mix ((turns c g).map Prod.fst) g.values k=VV at *
  generalize mix ((turns c g).map Prod.snd) g.timers k=TT at *
  generalize selL (badF c (linesV g)) (firstS g:Nat) k=BB at *
  generalize turnV c.signals[k] (linesV g) v0 t0=p at *
  generalize firstS g=F at *
  generalize hon:c.signals[k].on.holds (linesV g)=on at *
  generalize offV c.signals[k] (linesV g)=off at *
  generalize linesV g=LL at *
  have hkV:k < VV.length:=by omega
  have hkT:k < TT.length:=by omega
  have v1:VV[k]=v0:=by
   rw [List.getElem?_eq_getElem hkV] at n1
   exact Option.some.inj n1
  have t1:TT[k]=t0:=by
   rw [List.getElem?_eq_getElem hkT] at n2
   exact Option.some.inj n2
  have hb1:(BB.length + 1) * 8≤140737488355328:=by omega
  have wF:=wrap_id (n:=(F:Int) + k) (by omega) (by omega)
  have hmm:m=1∨m=0:=hG
  obtain ⟨p1,p2⟩:=p
  unfold ruleF at hrule
  rcases hkd _ (List.getElem_mem hk) with h0 | h0 | h0
  ·have h0b:(c.signals[k].kind == 1)=false:=by rw [h0]; rfl
   obtain rfl:=hoff (by omega)
   rw [if_pos h0,Bool.and_false] at hrule
   rcases hmm with rfl | rfl <;> simp [ev_draw1,exT,chkOk,L150_0,hk,hk',wk,h0,e1,hrule,hkV,hkT,v1,t1,hf.ne]
  ·rw [if_neg (by omega),if_pos h0] at hrule
   have e2':=e2 h0
   generalize hcf:(on && off)=cf at *
   rcases hmm with rfl | rfl <;> cases cf <;> simp [ev_draw1,exT,chkOk,L150_0,hk,hk',wk,h0,e1,e2',hrule,hkV,hkT,v1,t1,wF,hb1,hf.ne]
  ·have h0b:(c.signals[k].kind == 1)=false:=by rw [h0]; rfl
   obtain rfl:=hoff (by omega)
   rw [if_neg (by omega),if_neg (by omega),Bool.and_false] at hrule
   rcases hmm with rfl | rfl <;> simp [ev_draw1,exT,chkOk,L150_0,hk,hk',wk,h0,e1,hrule,hkV,hkT,v1,t1,hf.ne]
 ·rintro ⟨gn,m⟩ f hf hG
  unfold T150 h150
  generalize bdL c g (firstS g) c.signals.length=BB at *
  have hmm:m=1∨m=0:=hG
  rcases hmm with rfl | rfl <;> simp [L150_0,hf.ne]
theorem kind_in {c:Ct} (hc:c.check=0) {x:Sg} (hx:x ∈ c.signals):x.kind=0∨x.kind=1∨x.kind=2:=by
 obtain ⟨i,hi,rfl⟩:=List.getElem_of_mem hx
 have hz:=sig_zero hc i _ (List.getElem?_eq_getElem hi)
 unfold sigE at hz
 split at hz
 ·split at hz
  ·cases hz
  ·omega
 ·rename_i h4; exact absurd hz h4
set_option maxHeartbeats 2000000 in
theorem ev150 {c:Ct} {u:Ste} (s:Ste) (h:Rdy c u) (gq wq:Nat) (L:List Int):ev pg (.call (.fn 150 [] []) [.bptr 15 0] (hM c s u (firstS u)++hQ gq wq L))=some { v:=.tup [.bool (!sameT u (onceV c u)),ints (badS c u)],st:=⟨[],hM c s (onceV c u) (firstS u)++hQ gq wq L⟩ }:=by
 have hs:=h.small
 have hS:=h.shp
 have hM':=h.mid
 have hn:=hM'.sig
 have e1:1≤u.ends.length:=by have:=hS.e; have:=hM'.lo; have:=hM'.act; omega
 have hF:firstS u≤10000:=by have:=hS.e; have:=hS.i; have:=hM'.inp; have:=hM'.hi; have:=hM'.act; unfold firstS; omega
 have e149:=ev149 u hs
 have e162:=ev162 c s u u gq wq L hs hS hn hF e1 (fun x hx=>(h.sig x hx).on)
 have hR:=gated_right h.st
 have hG:Rdy c (gated c u):=⟨h.few,hR⟩
 have hgl:=gated_len (c:=c) u
 have hfs:firstS (gated c u)=firstS u:=rfl
 have e163:=ev163 c s (gated c u) u (firstS u) gq wq L hG.small e1
 have hl:=@lp150 c s (gated c u) u gq wq L hG.small hG.shp hn hF hG.sig (fun x hx=>kind_in h.chk hx)
 have e47:=ev47 u (onceV c u) hs
 unfold onceV at e47 ⊢
 unfold badS
 have q1:(gated c u).ends=u.ends:=rfl
 have q2:(gated c u).valves=u.valves:=rfl
 have q3:(gated c u).inputs=u.inputs:=rfl
 have q4:(gated c u).timers=u.timers:=rfl
 have hGv:=hG.shp.v
 have hGt:=hG.shp.t
 clear hR hG hfs
 generalize gated c u=g at *
 obtain ⟨ge,gw,gi,gv,gt⟩:=g
 simp only at q1 q2 q3 q4 hGv hGt hgl
 subst q1 q2 q3 q4
 generalize hg:(⟨u.ends,u.valves,u.inputs,gv,u.timers⟩:Ste)=g at *
 have hlen:(turns c g).length=c.signals.length:=turnL_len _ (by rw [← hg]; exact hGv) (by rw [← hg]; exact hGt)
 have l1:((turns c g).map Prod.fst).length=g.values.length:=by rw [List.length_map,hlen,← hGv,← hg]
 have l2:((turns c g).map Prod.snd).length=g.timers.length:=by rw [List.length_map,hlen,← hGt,← hg]
 have z1:tv c g 0=g.values:=mix_zero _ _
 have z2:tt c g 0=g.timers:=mix_zero _ _
 have f1:tv c g c.signals.length=(turns c g).map Prod.fst:=by
  have:=mix_all l1
  rwa [List.length_map,hlen] at this
 have f2:tt c g c.signals.length=(turns c g).map Prod.snd:=by
  have:=mix_all l2
  rwa [List.length_map,hlen] at this
 have z3:bdL c g (firstS g) 0=[]:=rfl
 have hFF:firstS g=firstS u:=by rw [← hg]
 unfold h150 T150 at hl
 rw [z3,z1,z2,f1,f2] at hl
 rw [hFF] at hl
 unfold onceG at e47 ⊢
 rw [show selL (badF c (linesV g)) (firstS u:Nat) c.signals.length=bdL c g (firstS u) c.signals.length from rfl]
 have hgc:g.ends=u.ends∧g.valves=u.valves∧g.inputs=u.inputs∧g.values=gv∧g.timers=u.timers:=by rw [← hg]; exact ⟨rfl,rfl,rfl,rfl,rfl⟩
 obtain ⟨k1,k2,k3,k4,k5⟩:=hgc
 rw [k1,k2,k3] at hl e47 ⊢
 rw [k4,k5] at hl
 rw [k4,hgl] at l1
 rw [k5] at l2
 rw [← hg] at e162
 generalize bdL c g (firstS u) c.signals.length=BB at *
 generalize (turns c g).map Prod.fst=VV at *
 generalize (turns c g).map Prod.snd=TT at *
 generalize linesV g=LL at *
 generalize firstS u=F at *
 generalize sameT u _=same at *
 rw [← hg] at e163
 simp at e162 e163
 rw [ev_call,pg150]
 simp [ir150,e149,e162,e163,ev164,ev_loop]
 generalize hr:ev pg (.code (.going _ L150_0) _)=o
 obtain ⟨r,rfl,⟨gn,m⟩,hm,f,hf,rfl⟩:∃ r,o=some r∧_:=by rw [← hr]; exact hl (0,0) (.inr rfl) (by simp)
 clear hr
 have hmm:m=1∨m=0:=hm
 rcases hmm with rfl | rfl <;> simp [ev_draw1,exT,chkOk,e47,l1.symm,l2.symm]
def rowsA (d:Array Int):List (List V):=d.toList.map nrow
def put (h:H) (i g:Nat) (d:Array Int):H:=h.set i ⟨g,.arr 1 (rowsA d)⟩
@[simp] theorem rowsA_len (d:Array Int):(rowsA d).length=d.size:=by simp [rowsA]
@[simp] theorem put_len (h:H) (i g:Nat) (d:Array Int):(put h i g d).length=h.length:=by simp [put]
theorem put_get {h:H} {i:Nat} (hi:i < h.length) (g:Nat) (d:Array Int):(put h i g d)[i]?=some ⟨g,.arr 1 (rowsA d)⟩:=by
 unfold put
 rw [List.getElem?_set_self hi]
theorem rowsA_get {d:Array Int} {k:Nat} (hk:k < d.size):(rowsA d)[k]?=some [num d[k]!]:=by
 unfold rowsA
 rw [List.getElem?_map,Array.getElem?_toList,Array.getElem?_eq_getElem hk,Option.map_some,getElem!_pos d k hk]
theorem rowsA_set (d:Array Int) (k:Nat) (v:Int):(rowsA d).set k [num v]=rowsA (d.setIfInBounds k v):=by
 unfold rowsA
 rw [Array.toList_setIfInBounds,List.map_set]
theorem put_set (h:H) (i g:Nat) (d:Array Int) (d':Array Int):(put h i g d).set i ⟨g,.arr 1 (rowsA d')⟩=put h i g d':=by
 unfold put
 rw [List.set_set]
theorem calm_put {h:H} (hc:calm h) (i g:Nat) (d:Array Int):calm (put h i g d):=by
 rw [calm_iff] at hc ⊢
 intro o ho
 rw [put_len]
 unfold put at ho
 rcases List.mem_or_eq_of_mem_set ho with h1 | h1
 ·exact hc o h1
 ·rw [h1]; rfl
theorem put_cut {h:H} (hc:calm h) (i g:Nat) (d:Array Int):cutK h.length (put h i g d)=put h i g d:=by
 have:=calm_cutK (calm_put hc i g d)
 rwa [put_len] at this
theorem put_cutL {h:H} (hc:calm h) (i g:Nat) (d:Array Int):cutL h.length (put h i g d)=put h i g d:=by
 have:=calm_cutL (calm_put hc i g d)
 rwa [put_len] at this
theorem put_self {h:H} {i g:Nat} {d:Array Int} (hi:h[i]?=some ⟨g,.arr 1 (rowsA d)⟩):put h i g d=h:=by
 unfold put
 obtain ⟨hl,e⟩:=List.getElem?_eq_some_iff.1 hi
 rw [← e,List.set_getElem_self]
end Go.Proofs.YtbhkplbciajikaaGreat
