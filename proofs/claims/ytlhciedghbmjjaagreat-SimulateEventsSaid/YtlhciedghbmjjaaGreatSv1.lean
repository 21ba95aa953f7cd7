/- The value of an expression, by the reference. Gates are computed, by the reference. What a signal wants, by the reference. A round of the signals, by the reference. Actuators begin to go, by the reference. The valves take their pilots, by the reference. Are lists equal, and states, by the program. The value of an expression, by settle. -/
import Derived.Test.YtlhciedghbmjjaaGreatEv1
import Derived.Test.YtlhciedghbmjjaaGreatCt6
import Derived.Test.YtlhciedghbmjjaaGreatGb2
import Derived.KernelRfl
import Derived.Test.YtlhciedghbmjjaaGreatSt2
set_option linter.all false
namespace Go.Proofs.YtlhciedghbmjjaaGreat
open Go Go.Am Go.Proofs
set_option maxRecDepth 100000
theorem node_not {o i n:Int} {k:Nat} (h:nodeE o i k n=0) (ho:o=2):k=1:=by
 subst ho
 unfold nodeE at h
 by_cases hk:k=1
 ·exact hk
 ·rw [if_neg (by omega),if_pos (by omega)] at h
  omega
theorem gateStep_take (c:Ct) (F i:Nat) (L:List Bool):(gateStep c F i L).take F=L.take F:=by
 unfold gateStep
 split
 ·split
  ·rw [List.take_set]
   rw [List.set_eq_of_length_le (by rw [List.length_take]; omega)]
  ·rfl
 ·rfl
theorem gatesTo_take (c:Ct) (F:Nat) (L:List Bool):∀ k,(gatesTo c F k L).take F=L.take F
 | 0=>rfl
 | k + 1=>by rw [gatesTo,gateStep_take,gatesTo_take c F L k]
def stK (c:Ct) (s:Ste) (k:Nat):Ste:=⟨s.ends,s.valves,s.inputs,(gatesTo c (firstS s) k (linesV s)).drop (firstS s),s.timers⟩
theorem stK_zero (c:Ct) (s:Ste):stK c s 0=s:=by
 unfold stK gatesTo
 rw [linesV_drop]
theorem stK_all (c:Ct) (s:Ste):stK c s c.signals.length=gated c s:=rfl
theorem stK_len (c:Ct) (s:Ste) (k:Nat):(stK c s k).values.length=s.values.length:=by
 unfold stK
 simp only [List.length_drop]
 rw [gatesTo_len,linesV_len]
 unfold firstS
 omega
theorem lines_stK (c:Ct) (s:Ste) (k:Nat):linesV (stK c s k)=gatesTo c (firstS s) k (linesV s):=by
 have h1:=gatesTo_take c (firstS s) (linesV s) k
 have h2:(linesV s).take (firstS s)=endsB s.ends++s.inputs:=by
  unfold linesV
  rw [List.take_left' (by rw [List.length_append,endsB_len])]
 rw [h2] at h1
 have e:=List.take_append_drop (firstS s) (gatesTo c (firstS s) k (linesV s))
 rw [h1] at e
 exact e
theorem stK_succ (c:Ct) (s:Ste) (k:Nat) (hk:k < c.signals.length):(stK c s (k + 1)).values=if c.signals[k].kind=0 then (stK c s k).values.set k (c.signals[k].on.holds (linesV (stK c s k))) else (stK c s k).values:=by
 have e:c.signals[k]?=some c.signals[k]:=List.getElem?_eq_getElem hk
 rw [lines_stK]
 unfold stK
 simp only [gatesTo]
 rw [gateStep,e]
 simp only
 split
 ·rw [List.drop_set,if_neg (by omega),Nat.add_sub_cancel_left]
 ·rfl
structure SigOk (n:Nat) (x:Sg):Prop where
 on:x.on.nodes≤256∧x.on.err n=0
 off:x.kind=1→x.off.nodes≤256∧x.off.err n=0
abbrev tv (c:Ct) (g:Ste) (k:Nat):List Bool:=mix ((turns c g).map Prod.fst) g.values k
abbrev tt (c:Ct) (g:Ste) (k:Nat):List Int:=mix ((turns c g).map Prod.snd) g.timers k
abbrev bdL (c:Ct) (g:Ste) (F:Nat) (k:Nat):List Int:=selL (badF c (linesV g)) F k
theorem firstS_eq {c:Ct} {s:Ste} {A:Nat} (hM:Mid c A) (hS:Shp c s):firstS s=firstN c A:=by
 have h1:=hS.e
 have h2:=hM.act
 have h3:=hS.i
 unfold firstS firstN
 omega
abbrev ge (s:Ste) (k:Nat):List Int:=mix (List.zipWith goesE s.valves s.ends) s.ends k
structure Pil (c:Ct) (A:Nat) (N:Nat):Prop where
 p:c.plus.length=A
 m:c.minus.length=A
 pb:∀ x ∈ c.plus,0≤x∧x < (N:Int)
 mb:∀ x ∈ c.minus,0≤x∧x < (N:Int)
abbrev cfL (c:Ct) (L:List Bool) (A k:Nat):List Int:=selL (fun i=>lineV' L c.plus i && lineV' L c.minus i) (countN c A:Nat) k
def T29 (a b:List Bool) (k:Nat):Tm:=[some (bools a),some (bools b),none,none,none,none,none,none,none,none,none,none,some (num a.length),some (num k)]++List.replicate 12 none
def T29r:Tm:=[none,none,none,none,some (.bool false)]++List.replicate 21 none
theorem lp29 (a b:List Bool) (hab:b.length=a.length) (ha:a.length≤4096) {st:St} (h0:At (T29 a b 0) [] st):∃ r,ev pg (.code (.going 0 L130_0) st)=some r∧Finds a.length (fun k=>a[k]? != b[k]?) (fun _=>EndsAs .ret T29r []) (EndsAs (.exit 0) (T29 a b a.length) []) r:=by
 refine loop_first _ _ (T29 a b) [] _ _ ?_ ?_ ?_ h0
 ·intro k f hf hk hp
  have hk':(k:Int) < a.length:=by omega
  have hkb:k < b.length:=by omega
  have wk:=wrap_id (n:=(k:Int) + 1) (by omega) (by omega)
  have hb:a[k]=b[k]:=by simpa [hk,hkb] using hp
  simp [ev_draw1,exT,chkOk,T29,L130_0,hk,hk',hkb,hb,wk,hf.ne]
 ·intro k f hf hk hp
  have hk':(k:Int) < a.length:=by omega
  have hkb:k < b.length:=by omega
  have hb:a[k] ≠ b[k]:=by simpa [hk,hkb] using hp
  have hb':(a[k] == b[k])=false:=by simpa using hb
  simp [ev_draw1,exT,chkOk,T29,T29r,L130_0,hk,hk',hkb,hb',hf.ne]
 ·intro f hf
  simp [T29,L130_0,hf.ne]
theorem ev130 (a b:List Bool) (ha:a.length≤4096):ev pg (.call (.fn 130 [] []) [bools a,bools b] [])=some { v:=.bool (decide (a=b)),st:=⟨[],[]⟩ }:=by
 rw [ev_call,pg130]
 by_cases hab:b.length=a.length
 ·have hloop:=@lp29 a b hab ha
  have hab':(b.length:Int)=a.length:=by omega
  simp [ir130,ev_loop,hab']
  generalize hr:ev pg (.code (.going _ L130_0) _)=o
  obtain ⟨r,rfl,hQ⟩:∃ r,o=some r∧_:=by rw [← hr]; exact hloop (by simp [T29])
  rcases hQ with ⟨k,hk,hp,-,f,hf,rfl⟩ | ⟨hp,f,hf,rfl⟩
  ·have:a ≠ b:=by rintro rfl; simp at hp
   simp [T29r,this]
  ·have:a=b:=by
    refine List.ext_getElem hab.symm fun k h1 h2=>?_
    have:=hp k h1
    simpa [h1,h2] using this
   simp [T29,this]
 ·have hne:((a.length:Int) != (b.length:Int))=true:=by rw [bne_iff_ne]; omega
  have:a ≠ b:=fun e=>hab (by rw [e])
  simp [ir130,hne,this]
theorem ev90 (a b:Ste) (ha:a.small):ev pg (.call (.fn 90 [] []) [a.v,b.v] [])=some { v:=.bool (sameT a b),st:=⟨[],[]⟩ }:=by
 have h1:=ev129 a.ends b.ends ha.e
 have h2:=ev130 a.valves b.valves ha.w
 have h3:=ev130 a.inputs b.inputs ha.i
 have h4:=ev130 a.values b.values ha.v
 have h5:=ev129 a.timers b.timers ha.t
 rw [ev_call,pg90]
 unfold sameT
 generalize decide (a.ends=b.ends)=b1 at *
 generalize decide (a.valves=b.valves)=b2 at *
 generalize decide (a.inputs=b.inputs)=b3 at *
 generalize decide (a.values=b.values)=b4 at *
 cases b1 with
 | false=>simp [ir90,h1]
 | true=>cases b2 with
  | false=>simp [ir90,h1,h2]
  | true=>cases b3 with
   | false=>simp [ir90,h1,h2,h3]
   | true=>cases b4 with
    | false=>simp [ir90,h1,h2,h3,h4]
    | true=>simp [ir90,h1,h2,h3,h4,h5]
abbrev Mv (x:Ex) (vs:List Bool):H:=[⟨0,.box x.cells⟩,⟨0,.box [bools vs]⟩]
def T190 (x:Ex) (F k:Nat):Tm:=[some (.imm (x.args.map Ex.row)),some (.fn F [] [.bptr 1 0]),none,none,none,none,none,some (num x.args.length),some (num k)]++List.replicate 10 none
def T190r (x:Ex) (F k:Nat):Tm:=[some (.imm (x.args.map Ex.row)),some (.fn F [] [.bptr 1 0]),none,none,some (num k),none,none,some (num x.args.length),some (num k)]++List.replicate 10 none
theorem lp190 (x:Ex) (vs:List Bool) (F:Nat) (p:Ex→Bool) (hx:x.nodes≤256) (hF:∀ y ∈ x.args,ev pg (.call (.fn F [] [.bptr 1 0]) [y.v] (Mv x vs))=some { v:=.bool (p y),st:=⟨[],Mv x vs⟩ }) {st:St} (h0:At (T190 x F 0) (Mv x vs) st):∃ r,ev pg (.code (.going 2 L207_0) st)=some r∧Finds x.args.length (fun k=>((x.args[k]?).map p).getD false) (fun k=>EndsAs .ret (T190r x F k) (Mv x vs)) (EndsAs (.exit 0) (T190 x F x.args.length) (Mv x vs)) r:=by
 have hfew:=args_few hx
 refine loop_first _ _ (T190 x F) (Mv x vs) _ _ ?_ ?_ ?_ h0
 ·intro k f hf hk hp
  have hk':(k:Int) < x.args.length:=by omega
  have wk:=wrap_id (n:=(k:Int) + 1) (by omega) (by omega)
  have hi:=hF _ (List.getElem_mem hk)
  have hh:p x.args[k]=false:=by simpa [hk] using hp
  rw [hh] at hi
  simp [T190,L207_0,hk,hk',wk,hi,hf.ne]
 ·intro k f hf hk hp
  have hk':(k:Int) < x.args.length:=by omega
  have hi:=hF _ (List.getElem_mem hk)
  have hh:p x.args[k]=true:=by simpa [hk] using hp
  rw [hh] at hi
  simp [T190,T190r,L207_0,hk,hk',hi,hf.ne]
 ·intro f hf
  simp [T190,L207_0,hf.ne]
theorem ev200 (x:Ex) (vs:List Bool) (F:Nat) (p:Ex→Bool) (hx:x.nodes≤256) (hF:∀ y ∈ x.args,ev pg (.call (.fn F [] [.bptr 1 0]) [y.v] (Mv x vs))=some { v:=.bool (p y),st:=⟨[],Mv x vs⟩ }):ev pg (.call (.fn 200 [] []) [.imm (x.args.map Ex.row),.fn F [] [.bptr 1 0]] (Mv x vs))=some { v:=.bool (x.args.any p),st:=⟨[],Mv x vs⟩ }:=by
 have hl:=@lp190 x vs F p hx hF
 have h190:∃ n:Int,ev pg (.call (.fn 207 [] []) [.imm (x.args.map Ex.row),.fn F [] [.bptr 1 0]] (Mv x vs))=some { v:=num n,st:=⟨[],Mv x vs⟩ }∧decide (n ≥ 0)=x.args.any p:=by
  rw [ev_call,pg207]
  simp [ir207,ev_loop]
  generalize hr:ev pg (.code (.going _ L207_0) _)=o
  obtain ⟨r,rfl,hQ⟩:∃ r,o=some r∧_:=by rw [← hr]; exact hl (by simp [T190])
  rcases hQ with ⟨k,hk,hp,-,f,hf,rfl⟩ | ⟨hp,f,hf,rfl⟩
  ·refine ⟨k,by simp [T190r],?_⟩
   have h1:p x.args[k]=true:=by simpa [hk] using hp
   have h2:x.args.any p=true:=List.any_eq_true.2 ⟨_,List.getElem_mem hk,h1⟩
   rw [h2]
   simp
  ·refine ⟨-1,by simp [T190],?_⟩
   have h2:x.args.any p=false:=by
    rw [List.any_eq_false]
    intro y hy
    obtain ⟨k,hk,rfl⟩:=List.getElem_of_mem hy
    have:=hp k hk
    simpa [hk] using this
   rw [h2]
   rfl
 obtain ⟨n,h1,h2⟩:=h190
 rw [ev_call,pg200]
 simp [ir200,h1,← h2]
theorem ev193 (vs:List Bool):∀ x:Ex,x.nodes≤256→x.err vs.length=0→ev pg (.call (.fn 193 [] []) [x.v,bools vs] [])=some { v:=.bool (x.holds vs),st:=⟨[],[]⟩ }:=by
 refine Ex.ind fun x ih hx he=>?_
 obtain ⟨hn,hargs⟩:=err_zero he
 have ih':∀ y ∈ x.args,ev pg (.call (.fn 193 [] []) [y.v,bools vs] [])=some { v:=.bool (y.holds vs),st:=⟨[],[]⟩ }:=fun y hy=>ih y hy (by have:=args_nodes hx hy; omega) (hargs y hy)
 have hop:x.op=0∨x.op=1∨x.op=2∨x.op=3∨x.op=4:=by
  unfold nodeE at hn
  by_cases h:x.op < 0∨5≤x.op
  ·rw [if_pos h] at hn; omega
  ·omega
 have h179:∀ y ∈ x.args,ev pg (.call (.fn 201 [] [.bptr 1 0]) [y.v] (Mv x vs))=some { v:=.bool (!y.holds vs),st:=⟨[],Mv x vs⟩ }:=fun y hy=>by
  have h:=ih' y hy
  rw [ev_call,pg201]
  simp [ir201,h]
 have h180:∀ y ∈ x.args,ev pg (.call (.fn 202 [] [.bptr 1 0]) [y.v] (Mv x vs))=some { v:=.bool (y.holds vs),st:=⟨[],Mv x vs⟩ }:=fun y hy=>by
  have h:=ih' y hy
  rw [ev_call,pg202]
  simp [ir202,h]
 have a:=ev200 x vs _ _ hx h179
 have b:=ev200 x vs _ _ hx h180
 have e1:(x.args.map (Ex.holds vs)).all id=!(x.args.any fun y=>!y.holds vs):=by
  rw [List.all_map,List.not_any_eq_all_not]; congr 1; funext y; simp
 have e2:(x.args.map (Ex.holds vs)).any id=x.args.any fun y=>y.holds vs:=by
  rw [List.any_map]; rfl
 rw [holds_eq,e1,e2,ev_call,pg193]
 generalize (x.args.any fun y=>!y.holds vs)=A at *
 generalize (x.args.any fun y=>y.holds vs)=B at *
 rcases hop with h | h | h | h | h
 ·simp [ir193,h]
 ·obtain ⟨hi0,hi1⟩:=node_var hn h
  have hin:x.idx.toNat < vs.length:=by omega
  simp [ir193,h,hi0,hin]
 ·have h1:=node_not hn h
  obtain ⟨y,hy⟩:∃ y,x.args=[y]:=by
   match hq:x.args,h1 with
   | [y],_=>exact ⟨y,rfl⟩
  have hiy:=ih' y (by rw [hy]; exact List.mem_cons_self)
  simp [ir193,h,hy,hiy]
 ·simp [Mv,Ex.cells,h] at a
  simp [ir193,h,a]
 ·simp [Mv,Ex.cells,h] at b
  simp [ir193,h,b]
end Go.Proofs.YtlhciedghbmjjaaGreat
