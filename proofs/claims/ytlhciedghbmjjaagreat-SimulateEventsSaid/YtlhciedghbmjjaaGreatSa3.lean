/- States: few, equal, right, by the reference. States: right, by the program. -/
import Derived.Test.YtlhciedghbmjjaaGreatSa1
import Derived.Test.YtlhciedghbmjjaaGreatCq3
set_option linter.all false
namespace Go.Proofs.YtlhciedghbmjjaaGreat
open Go Go.Am Go.Proofs
set_option maxRecDepth 100000
def Ste.few (s:Ste):Bool:=decide (s.ends.length≤40) && decide (s.valves.length≤40) && decide (s.inputs.length≤200) && decide (s.values.length≤200) && decide (s.timers.length≤200)
def sameT (a b:Ste):Bool:=decide (a.ends=b.ends) && (decide (a.valves=b.valves) && (decide (a.inputs=b.inputs) && (decide (a.values=b.values) && decide (a.timers=b.timers))))
theorem sameT_iff {a b:Ste}:sameT a b=true ↔ a=b:=by
 cases a; cases b
 simp [sameT]
structure Ste.small (s:Ste):Prop where
 e:s.ends.length≤4096
 w:s.valves.length≤4096
 i:s.inputs.length≤4096
 v:s.values.length≤4096
 t:s.timers.length≤4096
def tmB (kind:Int) (v:Bool) (t:Int):Bool:=(!decide (kind=2) && decide (t ≠ 0)) || (decide (kind=2) && (v != (t == 2)))
def tmF (c:Ct) (s:Ste) (k:Nat):Bool:=tmB ((c.signals[k]?).map Sg.kind |>.getD 0) ((s.values[k]?).getD false) ((s.timers[k]?).getD 0)
def anyF (p:Nat→Bool) (n:Nat):Bool:=(List.range n).any p
theorem anyF_of {p:Nat→Bool} {n k:Nat} (hk:k < n) (h:p k=true):anyF p n=true:=by
 unfold anyF; rw [List.any_eq_true]; exact ⟨k,List.mem_range.2 hk,h⟩
theorem anyF_not {p:Nat→Bool} {n:Nat} (h:∀ j,j < n→p j=false):anyF p n=false:=by
 unfold anyF; rw [List.any_eq_false]; intro k hk; rw [h k (List.mem_range.1 hk)]; simp
structure Shp (c:Ct) (s:Ste):Prop where
 e:(s.ends.length:Int)=c.act
 w:(s.valves.length:Int)=c.act
 i:s.inputs.length=c.inputs.length
 v:s.values.length=c.signals.length
 t:s.timers.length=c.signals.length
instance (c:Ct) (s:Ste):Decidable (Shp c s) :=
 if h:(s.ends.length:Int)=c.act∧(s.valves.length:Int)=c.act∧s.inputs.length=c.inputs.length∧s.values.length=c.signals.length∧s.timers.length=c.signals.length then .isTrue ⟨h.1,h.2.1,h.2.2.1,h.2.2.2.1,h.2.2.2.2⟩
 else .isFalse fun a=>h ⟨a.e,a.w,a.i,a.v,a.t⟩
def fitE (c:Ct) (s:Ste):Int:=if Shp c s then (if s.ends.any (badL 4)=true∨s.timers.any (badL 3)=true then 1 else if anyF (tmF c s) s.timers.length=true then 14 else 0) else 8
abbrev h49 (c:Ct) (s:Ste):H:=[⟨0,.box c.cells⟩,⟨0,.box s.cells⟩]
theorem shp_not {c:Ct} {s:Ste} (h:¬ Shp c s):((s.ends.length:Int) != c.act || ((s.valves.length:Int) != c.act || ((s.inputs.length:Int) != (c.inputs.length:Int) || ((s.values.length:Int) != (c.signals.length:Int) || ((s.timers.length:Int) != (c.signals.length:Int))))))=true:=by
 simp only [Bool.or_eq_true,bne_iff_ne]
 by_cases h1:(s.ends.length:Int)=c.act
 ·by_cases h2:(s.valves.length:Int)=c.act
  ·by_cases h3:(s.inputs.length:Int)=c.inputs.length
   ·by_cases h4:(s.values.length:Int)=c.signals.length
    ·by_cases h5:(s.timers.length:Int)=c.signals.length
     ·exact absurd ⟨h1,h2,by omega,by omega,by omega⟩ h
     ·simp [h5]
    ·simp [h4]
   ·simp [h3]
  ·simp [h2]
 ·simp [h1]
theorem ev159 {h:H} {i:Nat} {m:Int} (hi:h[i]?=some ⟨0,.box [num m]⟩) (hcl:calm h) (n:Int):ev pg (.call (.fn 159 [] [.bptr i 0]) [num n] h)=some { v:=.bool (badL m n),st:=⟨[],h⟩ }:=by
 have hck:=calm_cutK hcl
 rw [ev_call,pg159]
 unfold badL
 by_cases h1:n < 0
 ·simp [-cutK,ir159,h1,hck]
 ·simp [-cutK,ir159,h1,hi,hck]
theorem ev158 (n:Int) (h:H):ev pg (.call (.fn 158 [] []) [num n] h)=some { v:=.fn 159 [] [.bptr h.length 0],st:=⟨[],h++[⟨0,.box [num n]⟩]⟩ }:=by
 rw [ev_call,pg158]
 simp [ir158]
abbrev hb79 (c:Ct) (s:Ste):H:=[⟨0,.box c.cells⟩,⟨0,.box s.cells⟩,⟨0,.box [num 4]⟩,⟨0,.box [num 3]⟩]
def T79 (c:Ct) (s:Ste) (k:Nat):Tm:=[none,none,some (.bptr 0 0),some (.bptr 1 0)]++List.replicate 59 none++[some (ints s.timers),some (num s.timers.length),some (num k)]++List.replicate 31 none
def T79r:Tm:=[none,none,none,none,some (num 14)]++List.replicate 92 none
theorem loop79 (c:Ct) (s:Ste) (hs:s.small) (hS:Shp c s) {st:St} (h0:At (T79 c s 0) (hb79 c s) st):∃ r,ev pg (.code (.going 4 L126_0) st)=some r∧Finds s.timers.length (tmF c s) (fun _=>EndsAs .ret T79r (hb79 c s)) (EndsAs (.exit 0) (T79 c s s.timers.length) (hb79 c s)) r:=by
 have hse:=hs.t
 have hv:=hS.v
 have ht:=hS.t
 refine loop_first _ _ (T79 c s) (hb79 c s) _ _ ?_ ?_ ?_ h0
 ·intro k f hf hk hp
  have hk':(k:Int) < s.timers.length:=by omega
  have hkv:k < s.values.length:=by omega
  have hkc:k < c.signals.length:=by omega
  have wk:=wrap_id (n:=(k:Int) + 1) (by omega) (by omega)
  have hp':tmB c.signals[k].kind s.values[k] s.timers[k]=false:=by simpa [tmF,hk,hkv,hkc] using hp
  simp [tmB] at hp'
  by_cases h2:c.signals[k].kind=2
  ·have hq:=hp'.2 h2
   simp [T79,L126_0,hk,hk',hkv,hkc,h2,hq,wk,hf.ne]
  ·have h0:=hp'.1 h2
   have h2b:(c.signals[k].kind == 2)=false:=by simpa using h2
   simp [T79,L126_0,hk,hk',hkv,hkc,h2b,h0,wk,hf.ne]
 ·intro k f hf hk hp
  have hk':(k:Int) < s.timers.length:=by omega
  have hkv:k < s.values.length:=by omega
  have hkc:k < c.signals.length:=by omega
  have hp':tmB c.signals[k].kind s.values[k] s.timers[k]=true:=by simpa [tmF,hk,hkv,hkc] using hp
  simp [tmB] at hp'
  by_cases h2:c.signals[k].kind=2
  ·have hq:¬ s.values[k]=(s.timers[k] == 2):=by simpa [h2] using hp'
   simp [T79,T79r,L126_0,hk,hk',hkv,hkc,h2,hq,hf.ne]
  ·have h0:(s.timers[k] != 0)=true:=by simpa [h2] using hp'
   have h2b:(c.signals[k].kind == 2)=false:=by simpa using h2
   simp [T79,T79r,L126_0,hk,hk',hkv,hkc,h2b,h0,hf.ne]
 ·intro f hf
  simp [T79,L126_0,hf.ne]
theorem ev126 (c:Ct) (s:Ste) (hs:s.small):ev pg (.call (.fn 126 [] []) [c.v,s.v] [])=some { v:=num (fitE c s),st:=⟨[],[]⟩ }:=by
 rw [ev_call,pg126]
 by_cases hS:Shp c s
 ·have hl:=@loop79 c s hs hS
  have e1:((s.ends.length:Int) != c.act)=false:=by simp [hS.e]
  have e2:((s.valves.length:Int) != c.act)=false:=by simp [hS.w]
  have e3:((s.inputs.length:Int) != (c.inputs.length:Int))=false:=by simp [hS.i]
  have e4:((s.values.length:Int) != (c.signals.length:Int))=false:=by simp [hS.v]
  have e5:((s.timers.length:Int) != (c.signals.length:Int))=false:=by simp [hS.t]
  have m4:=ev158 4 (h49 c s)
  have m3:=ev158 3 [⟨0,.box c.cells⟩,⟨0,.box s.cells⟩,⟨0,.box [num 4]⟩]
  have a4:=ev113 (f:=159) (caps:=[.bptr 2 0]) (h:=[⟨0,.box c.cells⟩,⟨0,.box s.cells⟩,⟨0,.box [num 4]⟩]) (l:=s.ends) (p:=badL 4) hs.e rfl rfl (ev159 (by rfl) (by simp [calm])) (by simp [calm])
  have a3:=ev113 (f:=159) (caps:=[.bptr 3 0]) (h:=hb79 c s) (l:=s.timers) (p:=badL 3) hs.t rfl rfl (ev159 (by rfl) (by simp [calm])) (by simp [calm])
  unfold fitE
  rw [if_pos hS]
  generalize s.ends.any (badL 4)=b1 at *
  generalize s.timers.any (badL 3)=b2 at *
  generalize hB3:anyF (tmF c s) s.timers.length=B3
  cases b1 with
  | true=>simp [ev_draw1,exT,chkOk,ir126,e1,e2,e3,e4,e5,m4,a4]
  | false=>cases b2 with
   | true=>simp [ev_draw1,exT,chkOk,ir126,e1,e2,e3,e4,e5,m4,a4,m3,a3]
   | false =>
    simp [ev_draw1,exT,chkOk,ir126,ev_loop,e1,e2,e3,e4,e5,m4,a4,m3,a3]
    generalize hr:ev pg (.code (.going _ L126_0) _)=o
    obtain ⟨r,rfl,hQ⟩:∃ r,o=some r∧_:=by rw [← hr]; exact hl (by simp [T79])
    rcases hQ with ⟨k,hk,hp,-,f,hf,rfl⟩ | ⟨hp,f,hf,rfl⟩
    ·obtain rfl:B3=true:=by rw [← hB3]; exact anyF_of hk hp
     simp [T79r]
    ·obtain rfl:B3=false:=by rw [← hB3]; exact anyF_not hp
     simp [T79]
 ·have hn:=shp_not hS
  unfold fitE
  rw [if_neg hS]
  generalize e1:((s.ends.length:Int) != c.act)=b1 at hn
  generalize e2:((s.valves.length:Int) != c.act)=b2 at hn
  generalize e3:((s.inputs.length:Int) != (c.inputs.length:Int))=b3 at hn
  generalize e4:((s.values.length:Int) != (c.signals.length:Int))=b4 at hn
  generalize e5:((s.timers.length:Int) != (c.signals.length:Int))=b5 at hn
  cases b1 with
  | true=>simp [ir126,e1]
  | false=>cases b2 with
   | true=>simp [ir126,e1,e2]
   | false=>cases b3 with
    | true=>simp [ir126,e1,e2,e3]
    | false=>cases b4 with
     | true=>simp [ir126,e1,e2,e3,e4]
     | false=>cases b5 with
      | true=>simp [ir126,e1,e2,e3,e4,e5]
      | false=>simp at hn
abbrev stE (c:Ct) (s:Ste):Int:=if c.check=0 then fitE c s else c.check
theorem ev88 (c:Ct) (s:Ste) (hfew:c.small=true) (hs:s.small):ev pg (.call (.fn 88 [] []) [c.v,s.v] [])=some { v:=num (stE c s),st:=⟨[],[]⟩ }:=by
 have h1:=ev44 c hfew
 have h2:=ev126 c s hs
 rw [ev_call,pg88]
 unfold stE
 generalize c.check=e at *
 by_cases he:e=0
 ·subst he
  simp [ir88,h1,h2]
 ·simp [ir88,h1,he]
end Go.Proofs.YtlhciedghbmjjaaGreat
