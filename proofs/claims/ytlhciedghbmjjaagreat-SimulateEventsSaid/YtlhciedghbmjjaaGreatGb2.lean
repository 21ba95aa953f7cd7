/- The values of all lines, by the program. A line that is stuck where it is: what the law says, with no program in sight. A line that is stuck where it is: controls and states. -/
import Derived.Test.YtlhciedghbmjjaaGreatEv1
import Derived.Test.YtlhciedghbmjjaaGreatSa3
import Derived.Test.YtlhciedghbmjjaaGreatCa1
import Derived.Test.YtlhciedghbmjjaaGreatSa1
import Derived.KernelRfl
set_option linter.all false
namespace Go.Proofs.YtlhciedghbmjjaaGreat
open Go Go.Am Go.Proofs
set_option maxRecDepth 100000
def endsB:List Int→List Bool
 | []=>[]
 | e :: l=>(e == 0) :: (e == 2) :: endsB l
theorem endsB_app (l m:List Int):endsB (l++m)=endsB l++endsB m:=by
 induction l with
 | nil=>rfl
 | cons e l ih=>simp [endsB,ih]
theorem endsB_len (l:List Int):(endsB l).length=2 * l.length:=by
 induction l with
 | nil=>rfl
 | cons e l ih=>simp [endsB,ih]; omega
theorem endsB_succ {l:List Int} {k:Nat} (hk:k < l.length):endsB (l.take (k + 1))=endsB (l.take k)++[l[k] == 0,l[k] == 2]:=by
 rw [List.take_succ_eq_append_getElem hk,endsB_app]; rfl
def linesV (s:Ste):List Bool:=endsB s.ends++s.inputs++s.values
theorem linesV_len (s:Ste):(linesV s).length=2 * s.ends.length + s.inputs.length + s.values.length:=by
 unfold linesV
 rw [List.length_append,List.length_append,endsB_len]
abbrev h52 (s:Ste) (k:Nat) (a:Nat × Nat):H:=[⟨0,.box s.cells⟩,⟨0,.arr 0 []⟩,⟨a.1,.arr a.2 ((endsB (s.ends.take k)).map brow)⟩]
def T52 (s:Ste) (k:Nat) (a:Nat × Nat):Tm:=[none,some (.bptr 0 0),some (.sl 1 0 0 0 0),some (.sl 2 a.1 a.2 0 (2 * k)),none,none,none,some (ints s.ends),some (num s.ends.length),some (num k)]++List.replicate 18 none
theorem lp52 (s:Ste) (hs:s.small) {st:St} (a0:Nat × Nat) (g0:a0.2=1∨a0.2=0) (h0:At (T52 s 0 a0) (h52 s 0 a0) st):∃ r,ev pg (.code (.going 3 L123_0) st)=some r∧∃ a:Nat × Nat,(a.2=1∨a.2=0)∧EndsAs (.exit 0) (T52 s s.ends.length a) (h52 s s.ends.length a) r:=by
 have hse:=hs.e
 refine loop_at s.ends.length (T52 s) (h52 s) (fun _ a=>a.2=1∨a.2=0) _ ?_ ?_ a0 g0 h0
 ·rintro k ⟨g,m⟩ f hf hk hG
  have hk':(k:Int) < s.ends.length:=by omega
  have wk:=wrap_id (n:=(k:Int) + 1) (by omega) (by omega)
  have hlen:(endsB (s.ends.take k)).length=2 * k:=by rw [endsB_len,List.length_take]; omega
  have hb:2 * k + 2≤140737488355328:=by omega
  have h2:2 * (k + 1)=2 * k + 2:=by omega
  unfold T52 h52
  rw [endsB_succ hk,h2]
  generalize endsB (s.ends.take k)=W at *
  have hmm:m=1∨m=0:=hG
  rcases hmm with rfl | rfl <;> simp [L123_0,hk,hk',wk,hb,hlen,hf.ne]
 ·rintro ⟨g,m⟩ f hf hG
  unfold T52 h52
  generalize endsB (s.ends.take s.ends.length)=W at *
  generalize 2 * s.ends.length=N at *
  have hmm:m=1∨m=0:=hG
  rcases hmm with rfl | rfl <;> simp [L123_0,hf.ne]
theorem ev123 (s:Ste) (hs:s.small):ev pg (.call (.fn 123 [] []) [s.v] [])=some { v:=.sl 0 0 1 0 (linesV s).length,st:=⟨[],[⟨0,.arr 1 ((linesV s).map brow)⟩]⟩ }:=by
 have hl:=@lp52 s hs
 obtain ⟨h1,h2,h3,h4,h5⟩:=hs
 have hlen:=linesV_len s
 unfold linesV at hlen ⊢
 have he:=endsB_len s.ends
 have q1:2 * s.ends.length + s.inputs.length≤140737488355328:=by omega
 have q2:2 * s.ends.length + s.inputs.length + s.values.length≤140737488355328:=by omega
 rw [hlen]
 simp only [List.map_append]
 have hW:((endsB s.ends).map brow).length=2 * s.ends.length:=by rw [List.length_map,he]
 unfold h52 at hl
 rw [List.take_length,List.take_zero,endsB] at hl
 generalize (endsB s.ends).map brow=W at *
 rw [ev_call,pg123]
 simp [ir123,ev_loop]
 generalize hr:ev pg (.code (.going _ L123_0) _)=o
 obtain ⟨r,rfl,⟨g,m⟩,hm,f,hf,rfl⟩:∃ r,o=some r∧_:=by rw [← hr]; exact hl (0,0) (.inr rfl) (by simp [T52])
 clear hr
 have hmm:m=1∨m=0:=hm
 rcases hmm with rfl | rfl <;> simp [ev_draw1,exT,chkOk,T52,hW,q1,q2,moveVs,moveV,move1] <;> simp [Nat.add_assoc]
def gateStep (c:Ct) (F i:Nat) (L:List Bool):List Bool:=match c.signals[i]? with
 | some x=>if x.kind=0 then L.set (F + i) (x.on.holds L) else L
 | none=>L
def gatesTo (c:Ct) (F:Nat):Nat→List Bool→List Bool
 | 0,L=>L
 | k + 1,L=>gateStep c F k (gatesTo c F k L)
theorem gateStep_len (c:Ct) (F i:Nat) (L:List Bool):(gateStep c F i L).length=L.length:=by
 unfold gateStep
 split
 ·split
  ·rw [List.length_set]
  ·rfl
 ·rfl
theorem gatesTo_len (c:Ct) (F:Nat) (L:List Bool):∀ k,(gatesTo c F k L).length=L.length
 | 0=>rfl
 | k + 1=>by rw [gatesTo,gateStep_len,gatesTo_len c F L k]
abbrev firstS (s:Ste):Nat:=2 * s.ends.length + s.inputs.length
def gatesL (c:Ct) (s:Ste):List Bool:=gatesTo c (firstS s) c.signals.length (linesV s)
def gated (c:Ct) (s:Ste):Ste:=⟨s.ends,s.valves,s.inputs,(gatesL c s).drop (firstS s),s.timers⟩
theorem linesV_drop (s:Ste):(linesV s).drop (firstS s)=s.values:=by
 unfold linesV
 rw [List.drop_left' (by rw [List.length_append,endsB_len])]
def GatesOk (c:Ct) (N:Nat):Prop:=∀ x ∈ c.signals,x.on.light=true∧x.on.check N=0
abbrev h50 (c:Ct) (s:Ste) (L:List Bool):H:=[⟨0,.box c.cells⟩,⟨0,.box s.cells⟩,o0,o0,o0,o0,o0,⟨0,.box (nil5 2)⟩,o0,o0,o0,o0,o0,⟨0,.box [.sl 14 0 1 0 s.ends.length,.sl 15 0 1 0 s.valves.length,.sl 16 0 1 0 s.inputs.length,.sl 17 0 1 0 s.values.length,.sl 18 0 1 0 s.timers.length]⟩,⟨0,.arr 1 (s.ends.map nrow)⟩,⟨0,.arr 1 (s.valves.map brow)⟩,⟨0,.arr 1 (s.inputs.map brow)⟩,⟨0,.arr 1 ((L.drop (firstS s)).map brow)⟩,⟨0,.arr 1 (s.timers.map nrow)⟩,⟨0,.arr 1 (L.map brow)⟩]
def T50 (c:Ct) (s:Ste) (k:Nat):Tm:=[none,none,some (.bptr 0 0),some (.bptr 1 0),some (.bptr 7 0),some (.bptr 13 0),some (.sl 19 0 1 0 (linesV s).length)]++List.replicate 23 none++[some (.imm (c.signals.map Sg.row)),some (num c.signals.length),some (num k)]++List.replicate 28 none
theorem gated_len {c:Ct} (s:Ste):(gated c s).values.length=s.values.length:=by
 unfold gated
 simp only [List.length_drop]
 rw [gatesL,gatesTo_len,linesV_len]
 unfold firstS
 omega
theorem gatesOk_of {c:Ct} (h:c.check=0) (hfew:c.small=true):GatesOk c (countN c c.act.toNat):=by
 have hR:=rgt_check h hfew
 intro x hx
 have hl:=(few_parts hfew).2.2.2.2.2 x hx
 refine ⟨hl.2.1,?_⟩
 have he:=hR.on x hx
 have hm:=hR.mid
 have h1:=hm.hi
 have h2:=hm.inp
 have h3:=hm.sig
 unfold Ex.check
 rw [if_neg (by unfold countN; omega),if_pos hl.2.1]
 exact he
theorem fitE_shp {c:Ct} {s:Ste} (h:fitE c s=0):Shp c s:=by
 unfold fitE at h
 by_cases hS:Shp c s
 ·exact hS
 ·rw [if_neg hS] at h; cases h
theorem stE_zero {c:Ct} {s:Ste} (h:stE c s=0):c.check=0∧Shp c s:=by
 unfold stE at h
 by_cases hc:c.check=0
 ·rw [if_pos hc] at h
  exact ⟨hc,fitE_shp h⟩
 ·rw [if_neg hc] at h; exact absurd h hc
theorem gateStep_no {c:Ct} {F i v:Nat} {L:List Bool} (h:v ≠ F + i∨(∀ x,c.signals[i]?=some x→x.kind ≠ 0)):(gateStep c F i L)[v]?=L[v]?:=by
 unfold gateStep
 split
 ·rename_i x hx
  split
  ·rename_i h0
   rcases h with h | h
   ·rw [List.getElem?_set_ne (by omega)]
   ·exact absurd h0 (h x hx)
  ·rfl
 ·rfl
theorem gatesTo_keep {c:Ct} {F v k:Nat} {L:List Bool} (h:∀ j,k≤j→v ≠ F + j∨(∀ x,c.signals[j]?=some x→x.kind ≠ 0)):∀ d,(gatesTo c F (k + d) L)[v]?=(gatesTo c F k L)[v]?
 | 0=>rfl
 | d + 1=>by rw [← Nat.add_assoc,gatesTo,gateStep_no (h (k + d) (by omega)),gatesTo_keep h d]
theorem sig_zero {c:Ct} (h:c.check=0):∀ i x,c.signals[i]?=some x→sigE c c.act.toNat (namesTo c c.act.toNat (firstN c c.act.toNat + i)) i x=0:=by
 have h2:ctE c c.act.toNat=0:=by
  unfold Ct.check at h
  split at h
  ·cases h
  ·split at h
   ·cases h
   ·exact h
 unfold ctE at h2
 split at h2
 ·split at h2
  ·rename_i hs
   intro i x hx
   have hil:i < c.signals.length:=by
    rcases Nat.lt_or_ge i c.signals.length with h | h
    ·exact h
    ·rw [List.getElem?_eq_none h] at hx; cases hx
   have h3:=goE_zero hs i (by omega) (by omega)
   unfold sigF at h3
   rw [hx] at h3
   exact h3
  ·rename_i h4; exact absurd h2 h4
 ·rename_i h4; exact absurd h2 h4
theorem shp_lines {c:Ct} {s:Ste} (hS:Shp c s):(linesV s).length=countN c c.act.toNat:=by
 have h1:=hS.e
 have h2:=hS.i
 have h3:=hS.v
 rw [linesV_len]
 unfold countN
 omega
theorem gated_right {c:Ct} {s:Ste} (h:stE c s=0):stE c (gated c s)=0:=by
 obtain ⟨hc,hS⟩:=stE_zero h
 have hlen:=gated_len (c:=c) s
 have hS':Shp c (gated c s):=⟨hS.e,hS.w,hS.i,by rw [hlen]; exact hS.v,hS.t⟩
 unfold stE at h ⊢
 rw [if_pos hc] at h ⊢
 unfold fitE at h ⊢
 rw [if_pos hS] at h
 rw [if_pos hS']
 have e1:(gated c s).ends=s.ends:=rfl
 have e2:(gated c s).timers=s.timers:=rfl
 rw [e1,e2]
 by_cases hb:s.ends.any (badL 4)=true∨s.timers.any (badL 3)=true
 ·rw [if_pos hb] at h; cases h
 ·rw [if_neg hb] at h ⊢
  by_cases ha:anyF (tmF c s) s.timers.length=true
  ·rw [if_pos ha] at h; cases h
  ·have hno:∀ k,k < s.timers.length→tmF c s k=false:=fun k hk=>by
    cases hq:tmF c s k with
    | false=>rfl
    | true=>exact absurd (anyF_of hk hq) ha
   rw [if_neg]
   rw [anyF_not fun k hk=>?_]
   ·simp
   ·have hq:=hno k hk
    unfold tmF at hq ⊢
    rw [e2]
    have hkc:k < c.signals.length:=by have:=hS.t; omega
    rw [List.getElem?_eq_getElem hkc] at hq ⊢
    simp only [Option.map_some,Option.getD_some] at hq ⊢
    by_cases hk2:c.signals[k].kind=2
    ·have hv:(gated c s).values[k]?=s.values[k]?:=by
      unfold gated
      simp only
      rw [List.getElem?_drop,gatesL]
      have:=gatesTo_keep (c:=c) (F:=firstS s) (v:=firstS s + k) (k:=0) (L:=linesV s) (fun j _=>by
       by_cases hjk:j=k
       ·refine .inr fun x hx=>?_
        rw [hjk,List.getElem?_eq_getElem hkc] at hx
        cases hx
        omega
       ·exact .inl (by omega)) c.signals.length
      rw [Nat.zero_add] at this
      rw [this,gatesTo,← List.getElem?_drop,linesV_drop]
     rw [hv]
     exact hq
    ·unfold tmB at hq ⊢
     simp [hk2] at hq ⊢
     exact hq
theorem stE_of {c:Ct} {s:Ste} (hc:c.check=0) (hS:Shp c s) (h1:s.ends.any (badL 4)=false) (h2:s.timers.any (badL 3)=false) (h3:∀ k,k < s.timers.length→tmF c s k=false):stE c s=0:=by
 unfold stE fitE
 rw [if_pos hc,if_pos hS,h1,h2,anyF_not h3]
 simp
theorem stE_parts {c:Ct} {s:Ste} (h:stE c s=0):s.ends.any (badL 4)=false∧s.timers.any (badL 3)=false∧∀ k,k < s.timers.length→tmF c s k=false:=by
 obtain ⟨hc,hS⟩:=stE_zero h
 unfold stE fitE at h
 rw [if_pos hc,if_pos hS] at h
 by_cases hb:s.ends.any (badL 4)=true∨s.timers.any (badL 3)=true
 ·rw [if_pos hb] at h; cases h
 ·rw [if_neg hb] at h
  refine ⟨by simpa using fun e=>hb (.inl e),by simpa using fun e=>hb (.inr e),fun k hk=>?_⟩
  cases hq:tmF c s k with
  | false=>rfl
  | true=>rw [if_pos (anyF_of hk hq)] at h; cases h
end Go.Proofs.YtlhciedghbmjjaaGreat
