/- The values of all lines, by the reference. The value of an expression, by the reference. Gates are computed, by the reference. Ascending lists of numbers. A line that is stuck where it is: what the law says, with no program in sight. A line that is stuck where it is: controls and states. -/
import Derived.Test.YtbhkplbciajikaaGreatGa1
import Derived.KernelRfl
import Derived.Test.YtbhkplbciajikaaGreatSa2
import Derived.Test.YtbhkplbciajikaaGreatCt6
import Derived.Test.YtbhkplbciajikaaGreatEq1
set_option linter.all false
namespace Go.Proofs.YtbhkplbciajikaaGreat
open Go Go.Am Go.Proofs
set_option maxRecDepth 100000
theorem len_brow (l:List Bool):∀ x,x ∈ List.map brow l→x.length=1:=by
 intro x hx
 obtain ⟨b,-,rfl⟩:=List.mem_map.1 hx
 rfl
theorem pc_brow (l:List Bool):∀ x,x ∈ List.map brow l→∀ y,y ∈ x→V.pcell y=true:=by
 intro x hx y hy
 obtain ⟨b,-,rfl⟩:=List.mem_map.1 hx
 rw [List.mem_singleton.1 hy]
 rfl
abbrev h28 (c:Ct) (s:Ste) (k:Nat) (a:Nat × Nat):H:=[⟨0,.box c.cells⟩,⟨0,.box s.cells⟩,⟨0,.arr 0 []⟩,⟨a.1,.arr a.2 ((endsB (s.ends.take k)).map brow)⟩]
def T28 (k:Nat) (a:Nat × Nat):Tm:=[none,none,some (.bptr 0 0),some (.bptr 1 0),some (.sl 2 0 0 0 0),some (.sl 3 a.1 a.2 0 (2 * k)),some (num k)]++List.replicate 29 none
theorem lp28 (c:Ct) (s:Ste) (hs:s.small) (hce:(s.ends.length:Int)=c.act) {st:St} (a0:Nat × Nat) (g0:a0.2=1∨a0.2=0) (h0:At (T28 0 a0) (h28 c s 0 a0) st):∃ r,ev pg (.code (.going 4 L28_0) st)=some r∧∃ a:Nat × Nat,(a.2=1∨a.2=0)∧EndsAs (.exit 0) (T28 s.ends.length a) (h28 c s s.ends.length a) r:=by
 have hse:=hs.e
 refine loop_at s.ends.length T28 (h28 c s) (fun _ a=>a.2=1∨a.2=0) _ ?_ ?_ a0 g0 h0
 ·rintro k ⟨g,m⟩ f hf hk hG
  have hk':(k:Int) < c.act:=by omega
  have wk:=wrap_id (n:=(k:Int) + 1) (by omega) (by omega)
  have hlen:(endsB (s.ends.take k)).length=2 * k:=by rw [endsB_len,List.length_take]; omega
  have hb:2 * k + 2≤140737488355328:=by omega
  have h2:2 * (k + 1)=2 * k + 2:=by omega
  unfold T28 h28
  rw [endsB_succ hk,h2]
  generalize endsB (s.ends.take k)=W at *
  have hmm:m=1∨m=0:=hG
  rcases hmm with rfl | rfl <;> simp [L28_0,hk,hk',wk,hb,hlen,hf.ne]
 ·rintro ⟨g,m⟩ f hf hG
  have hk':¬ ((s.ends.length:Int) < c.act):=by omega
  unfold T28 h28
  generalize endsB (s.ends.take s.ends.length)=W at *
  generalize 2 * s.ends.length=N at *
  have hmm:m=1∨m=0:=hG
  rcases hmm with rfl | rfl <;> simp [L28_0,hk',hf.ne]
theorem ev28 (c:Ct) (s:Ste) (hs:s.small) (hce:(s.ends.length:Int)=c.act):ev pg (.call (.fn 28 [] []) [c.v,s.v] [])=some { v:=.sl 0 0 1 0 (linesV s).length,st:=⟨[],[⟨0,.arr 1 ((linesV s).map brow)⟩]⟩ }:=by
 have hl:=@lp28 c s hs hce
 obtain ⟨h1,h2,h3,h4,h5⟩:=hs
 have hlen:=linesV_len s
 unfold linesV at hlen ⊢
 have he:=endsB_len s.ends
 have q1:2 * s.ends.length + s.inputs.length≤140737488355328:=by omega
 have q2:2 * s.ends.length + s.inputs.length + s.values.length≤140737488355328:=by omega
 rw [hlen]
 simp only [List.map_append]
 have hW:((endsB s.ends).map brow).length=2 * s.ends.length:=by rw [List.length_map,he]
 unfold h28 at hl
 rw [List.take_length,List.take_zero,endsB] at hl
 generalize (endsB s.ends).map brow=W at *
 rw [ev_call,pg28]
 simp [ir28,ev_loop]
 generalize hr:ev pg (.code (.going _ L28_0) _)=o
 obtain ⟨r,rfl,⟨g,m⟩,hm,f,hf,rfl⟩:∃ r,o=some r∧_:=by rw [← hr]; exact hl (0,0) (.inr rfl) (by simp [T28])
 clear hr
 have hmm:m=1∨m=0:=hm
 rcases hmm with rfl | rfl
 all_goals
  simp [T28,hW,q1,q2]
  rw [if_pos ⟨len_brow _,pc_brow _⟩]
  simp [hW,q2]
  rw [if_pos ⟨len_brow _,pc_brow _⟩]
  simp [hW,moveVs,moveV,move1,Nat.add_assoc]
theorem node_not {o i n:Int} {k:Nat} (h:nodeE o i k n=0) (ho:o=2):k=1:=by
 subst ho
 unfold nodeE at h
 by_cases hk:k=1
 ·exact hk
 ·rw [if_neg (by omega),if_pos (by omega)] at h
  omega
def allH (vs:List Bool) (x:Ex) (k:Nat):Bool:=(x.args.take k).all (Ex.holds vs)
def anyH (vs:List Bool) (x:Ex) (k:Nat):Bool:=(x.args.take k).any (Ex.holds vs)
abbrev h131 (x:Ex):H:=[⟨0,.box x.cells⟩]
def T131 (vs:List Bool) (x:Ex) (k:Nat):Tm:=[none,some (bools vs),some (.bptr 0 0),none,none,some (.bool (allH vs x k)),some (.bool (anyH vs x k)),some (num k)]++List.replicate 60 none
theorem lp131 (x:Ex) (vs:List Bool) (hx:x.nodes≤256) (ih:∀ y ∈ x.args,ev pg (.call (.fn 131 [] []) [y.v,bools vs] [])=some { v:=.bool (y.holds vs),st:=⟨[],[]⟩ }) {st:St} (h0:At (T131 vs x 0) (h131 x) st):∃ r,ev pg (.code (.going 1 L131_0) st)=some r∧EndsAs (.exit 1) (T131 vs x x.args.length) (h131 x) r:=by
 have hfew:=args_few hx
 refine loop_pic x.args.length (T131 vs x) (fun _=>h131 x) _ ?_ ?_ h0
 ·intro k f hf hk
  have hk':(k:Int) < x.args.length:=by omega
  have wk:=wrap_id (n:=(k:Int) + 1) (by omega) (by omega)
  have hi:=ih _ (List.getElem_mem hk)
  have e1:allH vs x (k + 1)=(allH vs x k && x.args[k].holds vs):=by
   unfold allH
   rw [List.take_succ_eq_append_getElem hk,List.all_append]
   simp
  have e2:anyH vs x (k + 1)=(anyH vs x k || x.args[k].holds vs):=by
   unfold anyH
   rw [List.take_succ_eq_append_getElem hk,List.any_append]
   simp
  unfold T131
  rw [e1,e2]
  generalize allH vs x k=a at *
  generalize anyH vs x k=b at *
  generalize x.args[k].holds vs=v at *
  cases a <;> cases b <;> simp [L131_0,hk,hk',wk,hi,hf.ne]
 ·intro f hf
  unfold T131
  simp [L131_0,hf.ne]
theorem ev131 (vs:List Bool):∀ x:Ex,x.nodes≤256→x.err vs.length=0→ev pg (.call (.fn 131 [] []) [x.v,bools vs] [])=some { v:=.bool (x.holds vs),st:=⟨[],[]⟩ }:=by
 refine Ex.ind fun x ih hx he=>?_
 obtain ⟨hn,hargs⟩:=err_zero he
 have ih':∀ y ∈ x.args,ev pg (.call (.fn 131 [] []) [y.v,bools vs] [])=some { v:=.bool (y.holds vs),st:=⟨[],[]⟩ }:=fun y hy=>ih y hy (by have:=args_nodes hx hy; omega) (hargs y hy)
 have hop:x.op=0∨x.op=1∨x.op=2∨x.op=3∨x.op=4:=by
  unfold nodeE at hn
  by_cases h:x.op < 0∨5≤x.op
  ·rw [if_pos h] at hn; omega
  ·omega
 have hl:=@lp131 x vs hx ih'
 have e1:(x.args.map (Ex.holds vs)).all id=allH vs x x.args.length:=by
  unfold allH; rw [List.all_map,List.take_length]; rfl
 have e2:(x.args.map (Ex.holds vs)).any id=anyH vs x x.args.length:=by
  unfold anyH; rw [List.any_map,List.take_length]; rfl
 have z1:allH vs x 0=true:=rfl
 have z2:anyH vs x 0=false:=rfl
 unfold T131 at hl
 rw [z1,z2] at hl
 rw [holds_eq,e1,e2,ev_call,pg131]
 generalize allH vs x x.args.length=a at *
 generalize anyH vs x x.args.length=b at *
 rcases hop with h | h | h | h | h
 ·simp [ir131,h]
 ·obtain ⟨hi0,hi1⟩:=node_var hn h
  have hin:x.idx.toNat < vs.length:=by omega
  simp [ir131,h,hi0,hin]
 ·have h1:=node_not hn h
  obtain ⟨y,hy⟩:∃ y,x.args=[y]:=by
   match hq:x.args,h1 with
   | [y],_=>exact ⟨y,rfl⟩
  have hiy:=ih' y (by rw [hy]; exact List.mem_cons_self)
  simp [ir131,h,hy,hiy]
 ·simp [ir131,h,ev_loop]
  generalize hr:ev pg (.code (.going _ L131_0) _)=o
  obtain ⟨r,rfl,f,hf,rfl⟩:∃ r,o=some r∧_:=by rw [← hr]; exact hl (by simp [h])
  cases a <;> simp [h]
 ·simp [ir131,h,ev_loop]
  generalize hr:ev pg (.code (.going _ L131_0) _)=o
  obtain ⟨r,rfl,f,hf,rfl⟩:∃ r,o=some r∧_:=by rw [← hr]; exact hl (by simp [h])
  cases b <;> simp [h]
theorem gateStep_take (c:Ct) (F i:Nat) (L:List Bool):(gateStep c F i L).take F=L.take F:=by
 unfold gateStep
 split
 ·split
  ·rw [List.take_set]
   rw [List.set_eq_of_length_le (by rw [List.length_take]; omega)]
  ·rfl
 ·rfl
theorem gatesTo_take (c:Ct) (F:Nat) (L:List Bool):∀ k,(gatesTo c F k L).take F=L.take F
 | 0=>rfl
 | k + 1=>by rw [gatesTo,gateStep_take,gatesTo_take c F L k]
def stK (c:Ct) (s:Ste) (k:Nat):Ste:=⟨s.ends,s.valves,s.inputs,(gatesTo c (firstS s) k (linesV s)).drop (firstS s),s.timers⟩
theorem stK_zero (c:Ct) (s:Ste):stK c s 0=s:=by
 unfold stK gatesTo
 rw [linesV_drop]
theorem stK_all (c:Ct) (s:Ste):stK c s c.signals.length=gated c s:=rfl
theorem stK_len (c:Ct) (s:Ste) (k:Nat):(stK c s k).values.length=s.values.length:=by
 unfold stK
 simp only [List.length_drop]
 rw [gatesTo_len,linesV_len]
 unfold firstS
 omega
theorem lines_stK (c:Ct) (s:Ste) (k:Nat):linesV (stK c s k)=gatesTo c (firstS s) k (linesV s):=by
 have h1:=gatesTo_take c (firstS s) (linesV s) k
 have h2:(linesV s).take (firstS s)=endsB s.ends++s.inputs:=by
  unfold linesV
  rw [List.take_left' (by rw [List.length_append,endsB_len])]
 rw [h2] at h1
 have e:=List.take_append_drop (firstS s) (gatesTo c (firstS s) k (linesV s))
 rw [h1] at e
 exact e
theorem stK_succ (c:Ct) (s:Ste) (k:Nat) (hk:k < c.signals.length):(stK c s (k + 1)).values=if c.signals[k].kind=0 then (stK c s k).values.set k (c.signals[k].on.holds (linesV (stK c s k))) else (stK c s k).values:=by
 have e:c.signals[k]?=some c.signals[k]:=List.getElem?_eq_getElem hk
 rw [lines_stK]
 unfold stK
 simp only [gatesTo]
 rw [gateStep,e]
 simp only
 split
 ·rw [List.drop_set,if_neg (by omega),Nat.add_sub_cancel_left]
 ·rfl
abbrev h88 (c:Ct) (s:Ste) (k:Nat):H:=[⟨0,.box c.cells⟩,⟨0,.box s.cells⟩,o0,o0,o0,o0,o0,⟨0,.box (nil5 2)⟩,⟨0,.arr 1 (s.ends.map nrow)⟩,⟨0,.arr 1 (s.valves.map brow)⟩,⟨0,.arr 1 (s.inputs.map brow)⟩,⟨0,.arr 1 ((stK c s k).values.map brow)⟩,⟨0,.arr 1 (s.timers.map nrow)⟩,o0,o0,o0,o0,o0,⟨0,.box [.sl 8 0 1 0 s.ends.length,.sl 9 0 1 0 s.valves.length,.sl 10 0 1 0 s.inputs.length,.sl 11 0 1 0 s.values.length,.sl 12 0 1 0 s.timers.length]⟩]
def T88 (k:Nat):Tm:=[none,none,some (.bptr 0 0),some (.bptr 1 0),some (.bptr 7 0),some (.bptr 18 0),some (num k)]++List.replicate 31 none
theorem lp88 (c:Ct) (s:Ste) (hs:s.small) (hS:Shp c s) (hn:c.signals.length≤128) (hok:∀ x ∈ c.signals,x.on.nodes≤256∧x.on.err (linesV s).length=0) {st:St} (h0:At (T88 0) (h88 c s 0) st):∃ r,ev pg (.code (.going 19 L88_0) st)=some r∧EndsAs (.exit 0) (T88 c.signals.length) (h88 c s c.signals.length) r:=by
 refine loop_pic c.signals.length T88 (h88 c s) _ ?_ ?_ h0
 ·intro k f hf hk
  have hk':(k:Int) < c.signals.length:=by omega
  have wk:=wrap_id (n:=(k:Int) + 1) (by omega) (by omega)
  have hsc:=stK_succ c s k hk
  obtain ⟨g1,g2⟩:=hok _ (List.getElem_mem hk)
  have hsm:(stK c s k).small:=⟨hs.e,hs.w,hs.i,by rw [stK_len]; exact hs.v,hs.t⟩
  have h28:=ev28 c (stK c s k) hsm hS.e
  have hLl:(linesV (stK c s k)).length=(linesV s).length:=by rw [lines_stK,gatesTo_len]
  have h131:=ev131 (linesV (stK c s k)) c.signals[k].on g1 (by rw [hLl]; exact g2)
  have hvl:=stK_len c s k
  have hkv:k < s.values.length:=by rw [hS.v]; exact hk
  unfold h88 T88
  rw [hsc]
  have hst:stK c s k=⟨s.ends,s.valves,s.inputs,(stK c s k).values,s.timers⟩:=rfl
  generalize hL:linesV (stK c s k)=L at *
  generalize c.signals[k].on.holds L=v at *
  rw [hst] at h28
  generalize (stK c s k).values=W at *
  by_cases h0:c.signals[k].kind=0
  ·have hkW:k < W.length:=by omega
   simp [ev_draw1,exT,chkOk,L88_0,hk,hk',wk,h0,h28,h131,hvl.symm,hkW,hf.ne]
  ·simp [L88_0,hk,hk',wk,h0,hf.ne]
 ·intro f hf
  unfold T88 h88
  simp [L88_0,hf.ne]
theorem ev88 (c:Ct) (s:Ste) (hs:s.small) (hS:Shp c s) (hn:c.signals.length≤128) (hok:∀ x ∈ c.signals,x.on.nodes≤256∧x.on.err (linesV s).length=0):ev pg (.call (.fn 88 [] []) [c.v,s.v] [])=some { v:=(gated c s).v,st:=⟨[],[]⟩ }:=by
 have hl:=@lp88 c s hs hS hn hok
 have h130:=ev130 s hs
 have hgl:=gated_len (c:=c) s
 have hst:gated c s=⟨s.ends,s.valves,s.inputs,(gated c s).values,s.timers⟩:=rfl
 unfold h88 at hl
 rw [stK_zero,stK_all] at hl
 rw [hst]
 generalize (gated c s).values=W at *
 rw [ev_call,pg88]
 simp [ir88,h130,ev_loop]
 generalize hr:ev pg (.code (.going _ L88_0) _)=o
 obtain ⟨r,rfl,f,hf,rfl⟩:∃ r,o=some r∧_:=by rw [← hr]; exact hl (by simp [T88])
 simp [T88,hgl.symm]
def Asc (l:List Int):Prop:=l.Pairwise (· < ·)
theorem asc_ext:∀ {l m:List Int},Asc l→Asc m→(∀ x,x ∈ l ↔ x ∈ m)→l=m
 | [],[],_,_,_=>rfl
 | [],y :: m,_,_,h=>absurd ((h y).2 (by simp)) (by simp)
 | x :: l,[],_,_,h=>absurd ((h x).1 (by simp)) (by simp)
 | x :: l,y :: m,hl,hm,h=>by
  have hl':=List.pairwise_cons.1 hl
  have hm':=List.pairwise_cons.1 hm
  have hxy:x=y:=by
   rcases List.mem_cons.1 ((h x).1 (by simp)) with e | e
   ·exact e
   ·rcases List.mem_cons.1 ((h y).2 (by simp)) with e2 | e2
    ·exact e2.symm
    ·have h1:=hm'.1 x e
     have h2:=hl'.1 y e2
     omega
  subst hxy
  congr 1
  refine asc_ext hl'.2 hm'.2 fun z=>⟨fun hz=>?_,fun hz=>?_⟩
  ·rcases List.mem_cons.1 ((h z).1 (by simp [hz])) with e | e
   ·have:=hl'.1 z hz; omega
   ·exact e
  ·rcases List.mem_cons.1 ((h z).2 (by simp [hz])) with e | e
   ·have:=hm'.1 z hz; omega
   ·exact e
def norm (N:Nat) (l:List Int):List Int:=selL (fun k=>l.contains (k:Int)) 0 N
theorem norm_asc (N:Nat) (l:List Int):Asc (norm N l):=by
 unfold norm selL Asc
 rw [List.pairwise_map]
 refine List.Pairwise.imp ?_ ((List.pairwise_lt_range (n:=N)).filter _)
 intro a b h
 omega
theorem mem_norm {N:Nat} {l:List Int} {x:Int}:x ∈ norm N l ↔ x ∈ l∧0≤x∧x < N:=by
 unfold norm selL
 simp only [List.mem_map,List.mem_filter,List.mem_range,List.contains_iff_mem]
 constructor
 ·rintro ⟨k,⟨h1,h2⟩,rfl⟩
  simp only [Int.zero_add]
  exact ⟨h2,by omega,by omega⟩
 ·rintro ⟨h1,h2,h3⟩
  exact ⟨x.toNat,⟨by omega,by rw [Int.toNat_of_nonneg h2]; exact h1⟩,by omega⟩
theorem norm_self {N:Nat} {l:List Int} (hl:Asc l) (h:∀ x ∈ l,0≤x∧x < (N:Int)):norm N l=l :=
 asc_ext (norm_asc N l) hl fun x=>by rw [mem_norm]; exact ⟨fun a=>a.1,fun a=>⟨a,h x a⟩⟩
theorem norm_congr {N:Nat} {l m:List Int} (h:∀ x:Int,0≤x→x < N→(x ∈ l ↔ x ∈ m)):norm N l=norm N m :=
 asc_ext (norm_asc N l) (norm_asc N m) fun x=>by
  rw [mem_norm,mem_norm]
  exact ⟨fun a=>⟨(h x a.2.1 a.2.2).1 a.1,a.2⟩,fun a=>⟨(h x a.2.1 a.2.2).2 a.1,a.2⟩⟩
def mrg:List Int→List Int→List Int
 | [],m=>m
 | x :: l,[]=>x :: l
 | x :: l,y :: m=>if x < y then x :: mrg l (y :: m) else if y < x then y :: mrg (x :: l) m else x :: mrg l m
termination_by l m=>l.length + m.length
theorem mem_mrg:∀ {l m:List Int} {z:Int},z ∈ mrg l m ↔ z ∈ l∨z ∈ m
 | [],m,z=>by rw [mrg]; simp
 | x :: l,[],z=>by rw [mrg]; simp
 | x :: l,y :: m,z=>by
  rw [mrg]
  split
  ·rw [List.mem_cons,mem_mrg (l:=l) (m:=y :: m),List.mem_cons (a:=z) (b:=x),or_assoc]
  ·split
   ·rw [List.mem_cons,mem_mrg (l:=x :: l) (m:=m),List.mem_cons (a:=z) (b:=y) (l:=m)]
    exact ⟨fun h=>h.elim (fun h=>.inr (.inl h)) fun h=>h.elim .inl fun h=>.inr (.inr h),fun h=>h.elim (fun h=>.inr (.inl h)) fun h=>h.elim .inl fun h=>.inr (.inr h)⟩
   ·rename_i h1 h2
    have:x=y:=by omega
    subst this
    rw [List.mem_cons,mem_mrg (l:=l) (m:=m),List.mem_cons,List.mem_cons]
    exact ⟨fun h=>h.elim (fun h=>.inl (.inl h)) fun h=>h.elim (fun h=>.inl (.inr h)) fun h=>.inr (.inr h),fun h=>h.elim (fun h=>h.elim .inl fun h=>.inr (.inl h)) fun h=>h.elim .inl fun h=>.inr (.inr h)⟩
termination_by l m=>l.length + m.length
theorem mrg_asc:∀ {l m:List Int},Asc l→Asc m→Asc (mrg l m)
 | [],m,_,hm=>by rw [mrg]; exact hm
 | x :: l,[],hl,_=>by rw [mrg]; exact hl
 | x :: l,y :: m,hl,hm=>by
  have hl':=List.pairwise_cons.1 hl
  have hm':=List.pairwise_cons.1 hm
  rw [mrg]
  split
  ·refine List.pairwise_cons.2 ⟨fun z hz=>?_,mrg_asc hl'.2 hm⟩
   rcases mem_mrg.1 hz with h | h
   ·exact hl'.1 z h
   ·rcases List.mem_cons.1 h with h | h
    ·omega
    ·have:=hm'.1 z h; omega
  ·split
   ·refine List.pairwise_cons.2 ⟨fun z hz=>?_,mrg_asc hl hm'.2⟩
    rcases mem_mrg.1 hz with h | h
    ·rcases List.mem_cons.1 h with h | h
     ·omega
     ·have:=hl'.1 z h; omega
    ·exact hm'.1 z h
   ·refine List.pairwise_cons.2 ⟨fun z hz=>?_,mrg_asc hl'.2 hm'.2⟩
    rcases mem_mrg.1 hz with h | h
    ·exact hl'.1 z h
    ·have:=hm'.1 z h; omega
termination_by l m=>l.length + m.length
theorem mrg_norm {N:Nat} {l m:List Int} (hl:Asc l) (hm:Asc m) (h1:∀ x ∈ l,0≤x∧x < (N:Int)) (h2:∀ x ∈ m,0≤x∧x < (N:Int)):mrg l m=norm N (l++m) :=
 asc_ext (mrg_asc hl hm) (norm_asc _ _) fun x=>by
  rw [mem_mrg,mem_norm,List.mem_append]
  exact ⟨fun h=>⟨h,h.elim (h1 x) (h2 x)⟩,fun h=>h.1⟩
def compactL:List Int→List Int
 | []=>[]
 | [x]=>[x]
 | x :: y :: l=>if x=y then compactL (y :: l) else x :: compactL (y :: l)
theorem mem_compact:∀ {l:List Int} {z:Int},z ∈ compactL l ↔ z ∈ l
 | [],z=>by simp [compactL]
 | [x],z=>by simp [compactL]
 | x :: y :: l,z=>by
  rw [compactL]
  split
  ·rename_i h
   rw [mem_compact (l:=y :: l)]
   subst h
   simp
  ·rw [List.mem_cons,mem_compact (l:=y :: l),List.mem_cons (a:=z) (b:=x)]
theorem compact_asc:∀ {l:List Int},l.Pairwise (·≤·)→Asc (compactL l)
 | [],_=>by rw [compactL]; exact List.Pairwise.nil
 | [x],_=>by rw [compactL]; exact List.pairwise_singleton ..
 | x :: y :: l,h=>by
  have h':=List.pairwise_cons.1 h
  have hy:=List.pairwise_cons.1 h'.2
  rw [compactL]
  split
  ·exact compact_asc h'.2
  ·rename_i hne
   refine List.pairwise_cons.2 ⟨fun z hz=>?_,compact_asc h'.2⟩
   rw [mem_compact] at hz
   have h1:=h'.1 y (by simp)
   rcases List.mem_cons.1 hz with e | e
   ·omega
   ·have:=hy.1 z e; omega
theorem compact_norm {N:Nat} {l m:List Int} (hs:m.Pairwise (·≤·)) (hp:∀ x,x ∈ m ↔ x ∈ l) (h:∀ x ∈ l,0≤x∧x < (N:Int)):compactL m=norm N l :=
 asc_ext (compact_asc hs) (norm_asc _ _) fun x=>by
  rw [mem_compact,hp,mem_norm]
  exact ⟨fun a=>⟨a,h x a⟩,fun a=>a.1⟩
theorem gateStep_no {c:Ct} {F i v:Nat} {L:List Bool} (h:v ≠ F + i∨(∀ x,c.signals[i]?=some x→x.kind ≠ 0)):(gateStep c F i L)[v]?=L[v]?:=by
 unfold gateStep
 split
 ·rename_i x hx
  split
  ·rename_i h0
   rcases h with h | h
   ·rw [List.getElem?_set_ne (by omega)]
   ·exact absurd h0 (h x hx)
  ·rfl
 ·rfl
theorem gatesTo_keep {c:Ct} {F v k:Nat} {L:List Bool} (h:∀ j,k≤j→v ≠ F + j∨(∀ x,c.signals[j]?=some x→x.kind ≠ 0)):∀ d,(gatesTo c F (k + d) L)[v]?=(gatesTo c F k L)[v]?
 | 0=>rfl
 | d + 1=>by rw [← Nat.add_assoc,gatesTo,gateStep_no (h (k + d) (by omega)),gatesTo_keep h d]
theorem sig_zero {c:Ct} (h:c.check=0):∀ i x,c.signals[i]?=some x→sigE c c.act.toNat (namesTo c c.act.toNat (firstN c c.act.toNat + i)) i x=0:=by
 have h2:ctE c c.act.toNat=0:=by
  unfold Ct.check at h
  split at h
  ·cases h
  ·split at h
   ·cases h
   ·exact h
 unfold ctE at h2
 split at h2
 ·split at h2
  ·rename_i hs
   intro i x hx
   have hil:i < c.signals.length:=by
    rcases Nat.lt_or_ge i c.signals.length with h | h
    ·exact h
    ·rw [List.getElem?_eq_none h] at hx; cases hx
   have h3:=goE_zero hs i (by omega) (by omega)
   unfold sigF at h3
   rw [hx] at h3
   exact h3
  ·rename_i h4; exact absurd h2 h4
 ·rename_i h4; exact absurd h2 h4
theorem shp_lines {c:Ct} {s:Ste} (hS:Shp c s):(linesV s).length=countN c c.act.toNat:=by
 have h1:=hS.e
 have h2:=hS.i
 have h3:=hS.v
 rw [linesV_len]
 unfold countN
 omega
theorem gated_right {c:Ct} {s:Ste} (h:stE c s=0):stE c (gated c s)=0:=by
 obtain ⟨hc,hS⟩:=stE_zero h
 have hlen:=gated_len (c:=c) s
 have hS':Shp c (gated c s):=⟨hS.e,hS.w,hS.i,by rw [hlen]; exact hS.v,hS.t⟩
 unfold stE at h ⊢
 rw [if_pos hc] at h ⊢
 unfold fitE at h ⊢
 rw [if_pos hS] at h
 rw [if_pos hS']
 have e1:(gated c s).ends=s.ends:=rfl
 have e2:(gated c s).timers=s.timers:=rfl
 rw [e1,e2]
 by_cases hb:s.ends.any (badL 4)=true∨s.timers.any (badL 3)=true
 ·rw [if_pos hb] at h; cases h
 ·rw [if_neg hb] at h ⊢
  by_cases ha:anyF (tmF c s) s.timers.length=true
  ·rw [if_pos ha] at h; cases h
  ·have hno:∀ k,k < s.timers.length→tmF c s k=false:=fun k hk=>by
    cases hq:tmF c s k with
    | false=>rfl
    | true=>exact absurd (anyF_of hk hq) ha
   rw [if_neg]
   rw [anyF_not fun k hk=>?_]
   ·simp
   ·have hq:=hno k hk
    unfold tmF at hq ⊢
    rw [e2]
    have hkc:k < c.signals.length:=by have:=hS.t; omega
    rw [List.getElem?_eq_getElem hkc] at hq ⊢
    simp only [Option.map_some,Option.getD_some] at hq ⊢
    by_cases hk2:c.signals[k].kind=2
    ·have hv:(gated c s).values[k]?=s.values[k]?:=by
      unfold gated
      simp only
      rw [List.getElem?_drop,gatesL]
      have:=gatesTo_keep (c:=c) (F:=firstS s) (v:=firstS s + k) (k:=0) (L:=linesV s) (fun j _=>by
       by_cases hjk:j=k
       ·refine .inr fun x hx=>?_
        rw [hjk,List.getElem?_eq_getElem hkc] at hx
        cases hx
        omega
       ·exact .inl (by omega)) c.signals.length
      rw [Nat.zero_add] at this
      rw [this,gatesTo,← List.getElem?_drop,linesV_drop]
     rw [hv]
     exact hq
    ·unfold tmB at hq ⊢
     simp [hk2] at hq ⊢
     exact hq
theorem stE_of {c:Ct} {s:Ste} (hc:c.check=0) (hS:Shp c s) (h1:s.ends.any (badL 4)=false) (h2:s.timers.any (badL 3)=false) (h3:∀ k,k < s.timers.length→tmF c s k=false):stE c s=0:=by
 unfold stE fitE
 rw [if_pos hc,if_pos hS,h1,h2,anyF_not h3]
 simp
theorem stE_parts {c:Ct} {s:Ste} (h:stE c s=0):s.ends.any (badL 4)=false∧s.timers.any (badL 3)=false∧∀ k,k < s.timers.length→tmF c s k=false:=by
 obtain ⟨hc,hS⟩:=stE_zero h
 unfold stE fitE at h
 rw [if_pos hc,if_pos hS] at h
 by_cases hb:s.ends.any (badL 4)=true∨s.timers.any (badL 3)=true
 ·rw [if_pos hb] at h; cases h
 ·rw [if_neg hb] at h
  refine ⟨by simpa using fun e=>hb (.inl e),by simpa using fun e=>hb (.inr e),fun k hk=>?_⟩
  cases hq:tmF c s k with
  | false=>rfl
  | true=>rw [if_pos (anyF_of hk hq)] at h; cases h
end Go.Proofs.YtbhkplbciajikaaGreat
