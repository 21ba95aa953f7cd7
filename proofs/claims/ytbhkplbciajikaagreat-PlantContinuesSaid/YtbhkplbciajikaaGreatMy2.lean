/- Gates are computed, by control; the first state. What may happen, and what happens, by the reference. -/
import Derived.Test.YtbhkplbciajikaaGreatQu3
import Derived.KernelRfl
set_option linter.all false
namespace Go.Proofs.YtbhkplbciajikaaGreat
open Go Go.Am Go.Proofs
set_option maxRecDepth 100000
theorem lp87 {c:Ct} {A:Nat} (hM:Mid c A) (s:Ste) (hs:s.small) (hS:Shp c s) (hok:GatesOk c (countN c A)) {st:St} (h0:At (T50 c s 0) (h50 c s (gatesTo c (firstS s) 0 (linesV s))) st):∃ r,ev pg (.code (.going 20 L87_0) st)=some r∧EndsAs (.exit 0) (T50 c s c.signals.length) (h50 c s (gatesL c s)) r:=by
 refine loop_pic c.signals.length (T50 c s) (fun k=>h50 c s (gatesTo c (firstS s) k (linesV s))) _ ?_ ?_ h0
 ·intro k f hf hk
  have hsig:=hM.sig
  have hk':(k:Int) < c.signals.length:=by omega
  have wk:=wrap_id (n:=(k:Int) + 1) (by omega) (by omega)
  have h84:=ev129 hM
  have hlen:=linesV_len s
  have hgl:=gatesTo_len c (firstS s) (linesV s) k
  have hA:s.ends.length=A:=by have:=hS.e; have:=hM.act; omega
  have hF:firstS s=firstN c A:=by unfold firstN; rw [firstS,hA,hS.i]
  have hN:(linesV s).length=countN c A:=by rw [hlen,hA,hS.i,hS.v]
  obtain ⟨hli,hch⟩:=hok _ (List.getElem_mem hk)
  have hc256:countN c A≤256:=by
   have:=hM.hi; have:=hM.inp; have:=hM.sig
   unfold countN; omega
  have h83:=ev128 c.signals[k].on (gatesTo c (firstS s) k (linesV s)) hli (by omega) (by rw [hgl,hN]; exact hch)
  have hval:s.values.length=c.signals.length:=hS.v
  have hkF:firstN c A + k < countN c A:=by unfold firstN countN; omega
  have w2:=wrap_id (n:=(firstN c A:Int) + (k:Int)) (by omega) (by omega)
  have hnn:(0:Int)≤(firstN c A:Int) + (k:Int):=by omega
  have htn:((firstN c A:Int) + (k:Int)).toNat=firstN c A + k:=by omega
  have hst:gatesTo c (firstS s) (k + 1) (linesV s)=if c.signals[k].kind=0 then (gatesTo c (firstS s) k (linesV s)).set (firstS s + k) (c.signals[k].on.holds (gatesTo c (firstS s) k (linesV s))) else gatesTo c (firstS s) k (linesV s):=by
   rw [gatesTo,gateStep,List.getElem?_eq_getElem hk]
  have hdr:(gatesTo c (firstS s) k (linesV s)).length - firstN c A=s.values.length:=by rw [hgl,hN,hval]; unfold countN firstN; omega
  unfold h50
  rw [hst]
  by_cases h0:c.signals[k].kind=0
  ·rw [if_pos h0,← List.set_drop,hF]
   rw [hF] at hgl h83 hdr
   generalize hW:gatesTo c (firstN c A) k (linesV s)=W at *
   generalize c.signals[k].on.holds W=b at *
   have hb1:k < (W.drop (firstN c A)).length:=by rw [List.length_drop]; omega
   have hb2:firstN c A + k < W.length:=by omega
   have hd1:((W.drop (firstN c A)).set k b).map brow=((W.drop (firstN c A)).map brow).set k [.bool b]:=by rw [List.map_set]
   have hd2:(W.set (firstN c A + k) b).map brow=(W.map brow).set (firstN c A + k) [.bool b]:=by rw [List.map_set]
   rw [hd1,hd2]
   have hb3:k < W.length - firstN c A:=by omega
   unfold bools at h83
   have hk4:k < s.values.length:=by omega
   have hk5:(k:Int) < s.values.length:=by omega
   have hk6:(firstN c A:Int) + (k:Int) < (linesV s).length:=by omega
   have hk7:firstN c A + k < (linesV s).length:=by omega
   generalize firstN c A=F at *
   simp [ev_draw1,exT,chkOk,T50,L87_0,hk,hk',wk,h0,h83,h84,w2,hnn,htn,hb2,hb3,hk4,hk7,hgl,hdr,hf.ne]
  ·have h0b:(c.signals[k].kind == 0)=false:=by simpa using h0
   rw [if_neg h0]
   generalize gatesTo c (firstS s) k (linesV s)=W at *
   simp [T50,L87_0,hk,hk',wk,h0b,hf.ne]
 ·intro f hf
  unfold h50 gatesL
  generalize gatesTo c (firstS s) c.signals.length (linesV s)=W at *
  simp [T50,L87_0,hf.ne]
theorem ev87 {c:Ct} {A:Nat} (hM:Mid c A) (s:Ste) (hs:s.small) (hS:Shp c s) (hok:GatesOk c (countN c A)):ev pg (.call (.fn 87 [] []) [c.v,s.v] [])=some { v:=(gated c s).v,st:=⟨[],[]⟩ }:=by
 have hl:=@lp87 c A hM s hs hS hok
 have h52:=ev127 s hs
 have hlen:=gated_len (c:=c) s
 have hd:=linesV_drop s
 obtain ⟨g1,g2,g3,g4,g5⟩:=hs
 have c1:=ev89 s.ends g1
 have c2:=ev90 s.valves g2
 have c3:=ev90 s.inputs g3
 have c4:=ev90 s.values g4
 have c5:=ev89 s.timers g5
 unfold gated at hlen ⊢
 simp only at hlen
 unfold h50 at hl
 rw [gatesTo,hd] at hl
 generalize (gatesL c s).drop (firstS s)=W at *
 rw [ev_call,pg87]
 simp [ev_draw1,exT,chkOk,ir87,ev_loop,c1,c2,c3,c4,c5,h52]
 generalize hr:ev pg (.code (.going _ L87_0) _)=o
 obtain ⟨r,rfl,f,hf,rfl⟩:∃ r,o=some r∧_:=by rw [← hr]; exact hl (by simp [T50])
 clear hr
 simp [T50,hlen]
abbrev h56 (c:Ct) (A:Nat) (k:Nat):H:=[⟨0,.box c.cells⟩,o0,o0,o0,o0,o0,⟨0,.box (nil5 1)⟩,⟨1,.arr 1 (List.replicate A [num 0])⟩,⟨1,.arr 1 (List.replicate A [.bool false])⟩,⟨1,.arr 1 (List.replicate c.inputs.length [.bool false])⟩,⟨1,.arr 1 ((ini c k).map brow)⟩,⟨1,.arr 1 (List.replicate c.signals.length [num 0])⟩,o0,o0,o0,o0,o0,⟨0,.box [.sl 7 1 1 0 A,.sl 8 1 1 0 A,.sl 9 1 1 0 c.inputs.length,.sl 10 1 1 0 c.signals.length,.sl 11 1 1 0 c.signals.length]⟩]
def T56 (c:Ct) (k:Nat):Tm:=[none,some (.bptr 0 0),some (.bptr 6 0),some (num 0),none,none,some (.bptr 17 0)]++List.replicate 27 none++[some (.imm (c.signals.map Sg.row)),some (num c.signals.length),some (num k)]++List.replicate 14 none
theorem lp56 (c:Ct) (A:Nat) (hn:c.signals.length≤128) {st:St} (h0:At (T56 c 0) (h56 c A 0) st):∃ r,ev pg (.code (.going 18 L56_0) st)=some r∧EndsAs (.exit 0) (T56 c c.signals.length) (h56 c A c.signals.length) r:=by
 refine loop_pic c.signals.length (T56 c) (h56 c A) _ ?_ ?_ h0
 ·intro k f hf hk
  have hk':(k:Int) < c.signals.length:=by omega
  have wk:=wrap_id (n:=(k:Int) + 1) (by omega) (by omega)
  have hl:=ini_len c (k:=k) (by omega)
  have e:=mix_set (A:=c.signals.map Sg.init) (B:=List.replicate c.signals.length false) (by simp) (k:=k) (by simpa using hk)
  rw [List.getElem_map] at e
  unfold h56 T56 ini
  rw [← e]
  unfold ini at hl
  generalize mix (c.signals.map Sg.init) (List.replicate c.signals.length false) k=W at *
  have hkW:k < W.length:=by omega
  simp [ev_draw1,exT,chkOk,L56_0,hk,hk',wk,hkW,hf.ne]
 ·intro f hf
  unfold h56 T56 ini
  generalize mix (c.signals.map Sg.init) (List.replicate c.signals.length false) c.signals.length=W at *
  simp [L56_0,hf.ne]
def firstR (c:Ct):Ste × Int:=if c.check=0 then (beginV c,0) else (zeroS,c.check)
theorem ev56 (c:Ct) (hfew:c.small=true):ev pg (.call (.fn 56 [] []) [c.v] [])=some { v:=.tup [(firstR c).1.v,num (firstR c).2],st:=⟨[],[]⟩ }:=by
 have e79:=ev79 c hfew
 unfold firstR
 by_cases hc:c.check=0
 ·have hF:=firstG_rdy hfew hc
  have hM:=hF.mid
  have e87:=ev87 hM (firstG c) hF.small hF.shp (gatesOk_of hc hfew)
  have hl:=@lp56 c c.act.toNat hM.sig
  have hact:=hM.act
  have hhi:=hM.hi
  have hinp:=hM.inp
  have hsig:=hM.sig
  rw [if_pos hc]
  rw [hc] at e79
  unfold beginV
  generalize gated c (firstG c)=u at *
  have z0:ini c 0=List.replicate c.signals.length false:=mix_zero _ _
  have z1:ini c c.signals.length=c.signals.map Sg.init:=by
   have:=mix_all (A:=c.signals.map Sg.init) (B:=List.replicate c.signals.length false) (by simp)
   rwa [List.length_map] at this
  unfold h56 at hl
  rw [z0,z1] at hl
  unfold firstG at e87
  generalize c.act.toNat=A at *
  have e87':ev pg (.call (.fn 87 [] []) [.agg [num c.act,.imm (c.inputs.map srow),.imm (c.signals.map Sg.row),ints c.plus,ints c.minus],.agg [.imm (List.replicate A [num 0]),.imm (List.replicate A [.bool false]),.imm (List.replicate c.inputs.length [.bool false]),.imm (c.signals.map (brow ∘ Sg.init)),.imm (List.replicate c.signals.length [num 0])]] [])=some { v:=u.v,st:=⟨[],[]⟩ }:=by
   rw [← e87]
   simp only [Ste.v,Ste.cells,ints,bools,List.map_replicate,List.map_map]
  rw [hact] at e87'
  have e79':ev pg (.call (.fn 79 [] []) [.agg [num (A:Int),.imm (c.inputs.map srow),.imm (c.signals.map Sg.row),ints c.plus,ints c.minus]] [])=some { v:=num 0,st:=⟨[],[]⟩ }:=by rw [← hact]; exact e79
  have a1:A * 8≤140737488355328:=by omega
  have a2:A≤4611686018427387904:=by omega
  have a3:A≤140737488355328:=by omega
  have i2:c.inputs.length≤4611686018427387904:=by omega
  have i3:c.inputs.length≤140737488355328:=by omega
  have s1:c.signals.length * 8≤140737488355328:=by omega
  have s2:c.signals.length≤4611686018427387904:=by omega
  have s3:c.signals.length≤140737488355328:=by omega
  rw [ev_call,pg56]
  simp [ev_draw1,exT,chkOk,ir56,e79',hact,a1,a2,a3,i2,i3,s1,s2,s3,ev_loop]
  generalize hr:ev pg (.code (.going _ L56_0) _)=o
  obtain ⟨r,rfl,f,hf,rfl⟩:∃ r,o=some r∧_:=by rw [← hr]; exact hl (by simp [T56,hact])
  simp [T56,hact,e87']
 ·rw [if_neg hc]
  have hb:(c.check == 0)=false:=by simpa using hc
  rw [ev_call,pg56]
  generalize c.check=e at *
  simp [ir56,e79,hc,hb,zeroS]
theorem ev18 (c:Ct) (hfew:c.small=true):ev pg (.call (.fn 18 [] []) [c.v] [])=some { v:=outV (startR c),st:=⟨[],[]⟩ }:=by
 have e56:=ev56 c hfew
 unfold firstR at e56
 unfold startR
 rw [ev_call,pg18]
 by_cases h:c.check=0
 ·have hR:=beginV_right h
  have e16:=ev16 c (beginV c) hfew (Rdy.small ⟨hfew,hR⟩)
  unfold restR at e16
  rw [if_pos hR] at e16
  rw [if_pos h] at e56 ⊢
  simp only at e56
  generalize restE c (beginV c)=x at *
  generalize beginV c=b at *
  simp [ir18,e56,e16]
 ·rw [if_neg h] at e56 ⊢
  simp only at e56
  have hb:(c.check == 0)=false:=by simpa using h
  generalize c.check=e at *
  simp [ir18,e56,h,hb,zeroS]
abbrev Evn.v (x:Evn):V:=.agg x.row
def matB (x y:Evn):Bool:=y.kind == x.kind && y.idx == x.idx
abbrev h94 (s:Ste) (x:Evn):H:=[⟨0,.box s.cells⟩,⟨0,.box x.row⟩]
def T94 (l:List Evn) (k:Nat):Tm:=[none,none,some (.bptr 0 0),some (.bptr 1 0),some (.bool false),some (evs l),some (num k)]++List.replicate 51 none
def T94r:Tm:=[none,none,none,none,some (.bool true)]++List.replicate 53 none
theorem lp94 (s:Ste) (x:Evn) (l:List Evn) (hn:l.length≤100000) {st:St} (h0:At (T94 l 0) (h94 s x) st):∃ r,ev pg (.code (.going 2 L94_0) st)=some r∧Finds l.length (fun k=>((l[k]?).map (matB x)).getD false) (fun _=>EndsAs .ret T94r (h94 s x)) (EndsAs (.exit 0) (T94 l l.length) (h94 s x)) r:=by
 refine loop_first _ _ (T94 l) (h94 s x) _ _ ?_ ?_ ?_ h0
 ·intro k f hf hk hp
  have hk':(k:Int) < l.length:=by omega
  have wk:=wrap_id (n:=(k:Int) + 1) (by omega) (by omega)
  simp only [List.getElem?_eq_getElem hk,Option.map_some,Option.getD_some,matB] at hp
  unfold T94
  by_cases h1:l[k].kind=x.kind
  ·have h1b:(l[k].kind == x.kind)=true:=by simpa using h1
   rw [h1b,Bool.true_and] at hp
   have h2:¬ l[k].idx=x.idx:=by simpa using hp
   simp [ev_draw1,exT,chkOk,L94_0,hk,hk',wk,h1,hp,hf.ne]
  ·have h1b:(l[k].kind == x.kind)=false:=by simpa using h1
   simp [ev_draw1,exT,chkOk,L94_0,hk,hk',wk,h1,h1b,hf.ne]
 ·intro k f hf hk hp
  have hk':(k:Int) < l.length:=by omega
  simp only [List.getElem?_eq_getElem hk,Option.map_some,Option.getD_some,matB,Bool.and_eq_true,beq_iff_eq] at hp
  obtain ⟨h1,h2⟩:=hp
  unfold T94
  simp [ev_draw1,exT,chkOk,L94_0,hk,hk',h1,h2,hf.ne]
  simp [T94r,hf.ne]
 ·intro f hf
  unfold T94
  simp [L94_0,hf.ne]
theorem pend_mem {s:Ste} {y:Evn}:y ∈ pendV s ↔ (∃ i,i < s.ends.length∧pendB s 0 i=true∧y=⟨0,(i:Nat),false⟩)∨∃ i,i < s.timers.length∧pendB s 1 i=true∧y=⟨1,(i:Nat),false⟩:=by
 unfold pendV
 simp only [List.mem_append,List.mem_map,List.mem_filter,List.mem_range]
 constructor
 ·rintro (⟨i,⟨h1,h2⟩,rfl⟩ | ⟨i,⟨h1,h2⟩,rfl⟩)
  ·exact .inl ⟨i,h1,h2,rfl⟩
  ·exact .inr ⟨i,h1,h2,rfl⟩
 ·rintro (⟨i,h1,h2,rfl⟩ | ⟨i,h1,h2,rfl⟩)
  ·exact .inl ⟨i,⟨h1,h2⟩,rfl⟩
  ·exact .inr ⟨i,⟨h1,h2⟩,rfl⟩
theorem may_pend {s:Ste} {x:Evn} (hk:x.kind=0∨x.kind=1):mayV s x=(pendV s).any (matB x):=by
 rw [Bool.eq_iff_iff,List.any_eq_true]
 unfold mayV
 constructor
 ·intro h
  by_cases hi:x.idx < 0
  ·rw [if_pos hi] at h; cases h
  ·rw [if_neg hi,if_neg (by omega)] at h
   have hx:((x.idx.toNat:Nat):Int)=x.idx:=by omega
   rcases hk with h0 | h0
   ·rw [h0] at h
    obtain ⟨hi2,_⟩:=pend_end h
    refine ⟨⟨0,(x.idx.toNat:Nat),false⟩,pend_mem.2 (.inl ⟨_,hi2,h,rfl⟩),?_⟩
    simp only [matB,h0,hx,beq_self_eq_true,Bool.and_self]
   ·rw [h0] at h
    obtain ⟨hi2,_⟩:=pend_timer h
    refine ⟨⟨1,(x.idx.toNat:Nat),false⟩,pend_mem.2 (.inr ⟨_,hi2,h,rfl⟩),?_⟩
    simp only [matB,h0,hx,beq_self_eq_true,Bool.and_self]
 ·rintro ⟨y,hy,hm⟩
  simp only [matB,Bool.and_eq_true,beq_iff_eq] at hm
  obtain ⟨m1,m2⟩:=hm
  rcases pend_mem.1 hy with ⟨i,h1,h2,rfl⟩ | ⟨i,h1,h2,rfl⟩
  ·simp only at m1 m2
   rw [if_neg (by omega),if_neg (by omega),← m1,← m2]
   exact h2
  ·simp only at m1 m2
   rw [if_neg (by omega),if_neg (by omega),← m1,← m2]
   exact h2
theorem may_input {s:Ste} {x:Evn} (hk:x.kind=2):mayV s x=if x.idx < 0 then false else ((s.inputs[x.idx.toNat]?).map fun v=>v != x.val).getD false:=by
 unfold mayV
 rw [if_pos hk]
theorem pend_len (s:Ste) (hs:s.small):(pendV s).length≤100000:=by
 have h1:=selE_len 0 (pendB s 0) s.ends.length
 have h2:=selE_len 1 (pendB s 1) s.timers.length
 have:=hs.e
 have:=hs.t
 rw [pendV_eq,List.length_append]
 omega
theorem ev94 (s:Ste) (hs:s.small) (x:Evn) (hk:¬ (x.kind < 0∨2 < x.kind)):ev pg (.call (.fn 94 [] []) [s.v,x.v] [])=some { v:=.bool (mayV s x),st:=⟨[],[]⟩ }:=by
 rw [ev_call,pg94]
 by_cases h2:x.kind=2
 ·rw [may_input h2]
  by_cases hi:x.idx < 0
  ·have hi':¬ 0≤x.idx:=by omega
   simp [ev_draw1,exT,chkOk,ir94,h2,hi,hi']
  ·have hi':0≤x.idx:=by omega
   by_cases hl:x.idx < s.inputs.length
   ·have hn:x.idx.toNat < s.inputs.length:=by omega
    simp [ev_draw1,exT,chkOk,ir94,h2,hi,hi',hl,hn]
    cases s.inputs[x.idx.toNat] <;> cases x.val <;> rfl
   ·have hn:¬ x.idx.toNat < s.inputs.length:=by omega
    simp [ev_draw1,exT,chkOk,ir94,h2,hi,hi',hl,hn]
 ·have hb:(x.kind == 2)=false:=by simpa using h2
  rw [may_pend (by omega)]
  have h53:=ev53 s hs
  have hl:=@lp94 s x (pendV s) (pend_len s hs)
  generalize pendV s=l at *
  simp [ir94,hb,h2,h53,ev_loop]
  generalize hr:ev pg (.code (.going _ L94_0) _)=o
  obtain ⟨r,rfl,hQ⟩:∃ r,o=some r∧_:=by rw [← hr]; exact hl (by simp [T94])
  clear hr
  rcases hQ with ⟨k,hk,hp,-,f,hf,rfl⟩ | ⟨hp,f,hf,rfl⟩
  ·have:l.any (matB x)=true:=by
    rw [List.any_eq_true]
    exact ⟨l[k],List.getElem_mem hk,by simpa [hk] using hp⟩
   rw [this]
   simp [T94r]
  ·have:l.any (matB x)=false:=by
    rw [List.any_eq_false]
    intro y hy
    obtain ⟨j,hj,rfl⟩:=List.getElem_of_mem hy
    have:=hp j hj
    simp [hj] at this
    rw [this]
    simp
   rw [this]
   simp [T94]
theorem may_idx {s:Ste} {x:Evn} (h:mayV s x=true):0≤x.idx:=by
 unfold mayV at h
 split at h
 ·cases h
 ·omega
set_option maxHeartbeats 1000000 in
theorem ev95 {c:Ct} {s:Ste} (hS:Shp c s) (hs:s.small) (x:Evn) (hk:¬ (x.kind < 0∨2 < x.kind)) (hm:mayV s x=true):ev pg (.call (.fn 95 [] []) [s.v,x.v] [])=some { v:=(happV s x).v,st:=⟨[],[]⟩ }:=by
 have h130:=ev130 s hs
 have hi:=may_idx hm
 unfold mayV at hm
 rw [if_neg (by omega)] at hm
 rw [ev_call,pg95]
 unfold happV
 by_cases h0:x.kind=0
 ·rw [if_neg (by omega),h0] at hm
  obtain ⟨hi2,he⟩:=pend_end hm
  rw [if_pos h0]
  have hl:s.ends[x.idx.toNat]?=some s.ends[x.idx.toNat]:=List.getElem?_eq_getElem hi2
  rcases he with he | he <;> simp [ir95,h130,h0,hi,hi2,hl,he]
 ·have h0b:(x.kind == 0)=false:=by simpa using h0
  rw [if_neg h0]
  by_cases h1:x.kind=1
  ·rw [if_neg (by omega),h1] at hm
   obtain ⟨hi2,he⟩:=pend_timer hm
   have hi3:x.idx.toNat < s.values.length:=by rw [hS.v,← hS.t]; exact hi2
   rw [if_pos h1]
   simp [ev_draw1,exT,chkOk,ir95,h130,h0,h1,hi,hi2,hi3]
  ·have h1b:(x.kind == 1)=false:=by simpa using h1
   rw [if_neg h1]
   have h2:x.kind=2:=by omega
   rw [if_pos h2] at hm
   have hi2:x.idx.toNat < s.inputs.length:=by
    rcases Nat.lt_or_ge x.idx.toNat s.inputs.length with h | h
    ·exact h
    ·rw [List.getElem?_eq_none h] at hm; simp at hm
   simp [ir95,h130,h2,hi,hi2]
theorem ev63 {c:Ct} {s:Ste} (h:Rdy c s) (x:Evn):ev pg (.call (.fn 63 [] []) [c.v,s.v,x.v] [])=some { v:=outV (afterV c s x),st:=⟨[],[]⟩ }:=by
 unfold afterV
 rw [ev_call,pg63]
 by_cases hlo:x.kind < 0
 ·rw [if_pos (.inl hlo)]
  simp [ir63,hlo,zeroS]
 ·by_cases hhi:2 < x.kind
  ·rw [if_pos (.inr hhi)]
   simp [ir63,hlo,hhi,zeroS]
  ·have hk:¬ (x.kind < 0∨2 < x.kind):=by omega
   rw [if_neg hk]
   have h94:=ev94 s h.small x hk
   cases hm:mayV s x with
   | false =>
    rw [hm] at h94
    simp [ir63,hlo,hhi,h94,zeroS]
   | true =>
    rw [hm] at h94
    have h95:=ev95 h.shp h.small x hk hm
    have h55:=ev55 (c:=c) (s:=happV s x) ⟨h.few,happ_right h.st hk hm⟩
    generalize happV s x=u at *
    generalize restE c u=z at *
    simp [ev_draw1,exT,chkOk,ir63,hlo,hhi,h94,h95,h55]
end Go.Proofs.YtbhkplbciajikaaGreat
