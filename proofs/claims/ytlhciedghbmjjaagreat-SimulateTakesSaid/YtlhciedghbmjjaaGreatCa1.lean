/- States: few, equal, right, by the reference. States: right, by the program. Clones, and lists one behind the other. The faulty control, by the reference: signals and pilots. The faulty control, by the reference: constants. The faulty control, by the reference: rounds. The faulty control, by the reference; injections. States that are carried over, by the reference. -/
import Derived.Test.YtlhciedghbmjjaaGreatSa1
import Derived.Test.YtlhciedghbmjjaaGreatLo1
import Derived.KernelRfl
set_option linter.all false
namespace Go.Proofs.YtlhciedghbmjjaaGreat
open Go Go.Am Go.Proofs
set_option maxRecDepth 100000
def Ste.few (s:Ste):Bool:=decide (s.ends.length≤40) && decide (s.valves.length≤40) && decide (s.inputs.length≤200) && decide (s.values.length≤200) && decide (s.timers.length≤200)
def qkp (a b:Ste):Bool:=decide (a.ends=b.ends) && (decide (a.valves=b.valves) && (decide (a.inputs=b.inputs) && (decide (a.values=b.values) && decide (a.timers=b.timers))))
theorem qip {a b:Ste}:qkp a b=true ↔ a=b:=by
 cases a; cases b
 simp [qkp]
structure Ste.small (s:Ste):Prop where
 e:s.ends.length≤4096
 w:s.valves.length≤4096
 i:s.inputs.length≤4096
 v:s.values.length≤4096
 t:s.timers.length≤4096
def tmB (kind:Int) (v:Bool) (t:Int):Bool:=(!decide (kind=2) && decide (t ≠ 0)) || (decide (kind=2) && (v != (t == 2)))
def tmF (c:Ct) (s:Ste) (k:Nat):Bool:=tmB ((c.signals[k]?).map Sg.kind |>.getD 0) ((s.values[k]?).getD false) ((s.timers[k]?).getD 0)
def zlr (p:Nat→Bool) (n:Nat):Bool:=(List.range n).any p
theorem q2k {p:Nat→Bool} {n k:Nat} (hk:k < n) (h:p k=true):zlr p n=true:=by
 unfold zlr; rw [List.any_eq_true]; exact ⟨k,List.mem_range.2 hk,h⟩
theorem qxf {p:Nat→Bool} {n:Nat} (h:∀ j,j < n→p j=false):zlr p n=false:=by
 unfold zlr; rw [List.any_eq_false]; intro k hk; rw [h k (List.mem_range.1 hk)]; simp
structure Shp (c:Ct) (s:Ste):Prop where
 e:(s.ends.length:Int)=c.act
 w:(s.valves.length:Int)=c.act
 i:s.inputs.length=c.inputs.length
 v:s.values.length=c.signals.length
 t:s.timers.length=c.signals.length
instance (c:Ct) (s:Ste):Decidable (Shp c s) :=
 if h:(s.ends.length:Int)=c.act∧(s.valves.length:Int)=c.act∧s.inputs.length=c.inputs.length∧s.values.length=c.signals.length∧s.timers.length=c.signals.length then .isTrue ⟨h.1,h.2.1,h.2.2.1,h.2.2.2.1,h.2.2.2.2⟩
 else .isFalse fun a=>h ⟨a.e,a.w,a.i,a.v,a.t⟩
def zep (c:Ct) (s:Ste):Int:=if Shp c s then (if s.ends.any (qer 4)=true∨s.timers.any (qer 3)=true then 1 else if zlr (tmF c s) s.timers.length=true then 14 else 0) else 8
abbrev h49 (c:Ct) (s:Ste):H:=[⟨0,.box c.cells⟩,⟨0,.box s.cells⟩]
theorem znh {c:Ct} {s:Ste} (h:¬ Shp c s):((s.ends.length:Int) != c.act || ((s.valves.length:Int) != c.act || ((s.inputs.length:Int) != (c.inputs.length:Int) || ((s.values.length:Int) != (c.signals.length:Int) || ((s.timers.length:Int) != (c.signals.length:Int))))))=true:=by
 simp only [Bool.or_eq_true,bne_iff_ne]
 by_cases h1:(s.ends.length:Int)=c.act
 ·by_cases h2:(s.valves.length:Int)=c.act
  ·by_cases h3:(s.inputs.length:Int)=c.inputs.length
   ·by_cases h4:(s.values.length:Int)=c.signals.length
    ·by_cases h5:(s.timers.length:Int)=c.signals.length
     ·exact absurd ⟨h1,h2,by omega,by omega,by omega⟩ h
     ·simp [h5]
    ·simp [h4]
   ·simp [h3]
  ·simp [h2]
 ·simp [h1]
theorem ev159 {h:H} {i:Nat} {m:Int} (hi:h[i]?=some ⟨0,.box [num m]⟩) (hcl:qci h) (n:Int):ev pg (.call (.fn 159 [] [.bptr i 0]) [num n] h)=some { v:=.bool (qer m n),st:=⟨[],h⟩ }:=by
 have hck:=qdg hcl
 rw [qac,pg159]
 unfold qer
 by_cases h1:n < 0
 ·simp [-qam,ir159,h1,hck]
 ·simp [-qam,ir159,h1,hi,hck]
theorem ev158 (n:Int) (h:H):ev pg (.call (.fn 158 [] []) [num n] h)=some { v:=.fn 159 [] [.bptr h.length 0],st:=⟨[],h++[⟨0,.box [num n]⟩]⟩ }:=by
 rw [qac,pg158]
 simp [ir158]
abbrev zty (c:Ct) (s:Ste):H:=[⟨0,.box c.cells⟩,⟨0,.box s.cells⟩,⟨0,.box [num 4]⟩,⟨0,.box [num 3]⟩]
def T79 (c:Ct) (s:Ste) (k:Nat):Tm:=[none,none,some (.bptr 0 0),some (.bptr 1 0)]++List.replicate 59 none++[some (qck s.timers),some (num s.timers.length),some (num k)]++List.replicate 31 none
def zzg:Tm:=[none,none,none,none,some (num 14)]++List.replicate 92 none
theorem zsi (c:Ct) (s:Ste) (hs:s.small) (hS:Shp c s) {st:St} (h0:At (T79 c s 0) (zty c s) st):∃ r,ev pg (.code (.going 4 L126_0) st)=some r∧qls s.timers.length (tmF c s) (fun _=>qaj .ret zzg (zty c s)) (qaj (.exit 0) (T79 c s s.timers.length) (zty c s)) r:=by
 have hse:=hs.t
 have hv:=hS.v
 have ht:=hS.t
 refine qcx _ _ (T79 c s) (zty c s) _ _ ?_ ?_ ?_ h0
 ·intro k f hf hk hp
  have hk':(k:Int) < s.timers.length:=by omega
  have hkv:k < s.values.length:=by omega
  have hkc:k < c.signals.length:=by omega
  have wk:=qab (n:=(k:Int) + 1) (by omega) (by omega)
  have hp':tmB c.signals[k].kind s.values[k] s.timers[k]=false:=by simpa [tmF,hk,hkv,hkc] using hp
  simp [tmB] at hp'
  by_cases h2:c.signals[k].kind=2
  ·have hq:=hp'.2 h2
   simp [T79,L126_0,hk,hk',hkv,hkc,h2,hq,wk,hf.ne]
  ·have h0:=hp'.1 h2
   have h2b:(c.signals[k].kind == 2)=false:=by simpa using h2
   simp [T79,L126_0,hk,hk',hkv,hkc,h2b,h0,wk,hf.ne]
 ·intro k f hf hk hp
  have hk':(k:Int) < s.timers.length:=by omega
  have hkv:k < s.values.length:=by omega
  have hkc:k < c.signals.length:=by omega
  have hp':tmB c.signals[k].kind s.values[k] s.timers[k]=true:=by simpa [tmF,hk,hkv,hkc] using hp
  simp [tmB] at hp'
  by_cases h2:c.signals[k].kind=2
  ·have hq:¬ s.values[k]=(s.timers[k] == 2):=by simpa [h2] using hp'
   simp [T79,zzg,L126_0,hk,hk',hkv,hkc,h2,hq,hf.ne]
  ·have h0:(s.timers[k] != 0)=true:=by simpa [h2] using hp'
   have h2b:(c.signals[k].kind == 2)=false:=by simpa using h2
   simp [T79,zzg,L126_0,hk,hk',hkv,hkc,h2b,h0,hf.ne]
 ·intro f hf
  simp [T79,L126_0,hf.ne]
theorem ev126 (c:Ct) (s:Ste) (hs:s.small):ev pg (.call (.fn 126 [] []) [c.v,s.v] [])=some { v:=num (zep c s),st:=⟨[],[]⟩ }:=by
 rw [qac,pg126]
 by_cases hS:Shp c s
 ·have hl:=@zsi c s hs hS
  have e1:((s.ends.length:Int) != c.act)=false:=by simp [hS.e]
  have e2:((s.valves.length:Int) != c.act)=false:=by simp [hS.w]
  have e3:((s.inputs.length:Int) != (c.inputs.length:Int))=false:=by simp [hS.i]
  have e4:((s.values.length:Int) != (c.signals.length:Int))=false:=by simp [hS.v]
  have e5:((s.timers.length:Int) != (c.signals.length:Int))=false:=by simp [hS.t]
  have m4:=ev158 4 (h49 c s)
  have m3:=ev158 3 [⟨0,.box c.cells⟩,⟨0,.box s.cells⟩,⟨0,.box [num 4]⟩]
  have a4:=ev113 (f:=159) (caps:=[.bptr 2 0]) (h:=[⟨0,.box c.cells⟩,⟨0,.box s.cells⟩,⟨0,.box [num 4]⟩]) (l:=s.ends) (p:=qer 4) hs.e rfl rfl (ev159 (by rfl) (by simp [qci])) (by simp [qci])
  have a3:=ev113 (f:=159) (caps:=[.bptr 3 0]) (h:=zty c s) (l:=s.timers) (p:=qer 3) hs.t rfl rfl (ev159 (by rfl) (by simp [qci])) (by simp [qci])
  unfold zep
  rw [if_pos hS]
  generalize s.ends.any (qer 4)=b1 at *
  generalize s.timers.any (qer 3)=b2 at *
  generalize hB3:zlr (tmF c s) s.timers.length=B3
  cases b1 with
  | true=>simp [qaa,exT,qad,ir126,e1,e2,e3,e4,e5,m4,a4]
  | false=>cases b2 with
   | true=>simp [qaa,exT,qad,ir126,e1,e2,e3,e4,e5,m4,a4,m3,a3]
   | false =>
    simp [qaa,exT,qad,ir126,qag,e1,e2,e3,e4,e5,m4,a4,m3,a3]
    generalize hr:ev pg (.code (.going _ L126_0) _)=o
    obtain ⟨r,rfl,hQ⟩:∃ r,o=some r∧_:=by rw [← hr]; exact hl (by simp [T79])
    rcases hQ with ⟨k,hk,hp,-,f,hf,rfl⟩ | ⟨hp,f,hf,rfl⟩
    ·obtain rfl:B3=true:=by rw [← hB3]; exact q2k hk hp
     simp [zzg]
    ·obtain rfl:B3=false:=by rw [← hB3]; exact qxf hp
     simp [T79]
 ·have hn:=znh hS
  unfold zep
  rw [if_neg hS]
  generalize e1:((s.ends.length:Int) != c.act)=b1 at hn
  generalize e2:((s.valves.length:Int) != c.act)=b2 at hn
  generalize e3:((s.inputs.length:Int) != (c.inputs.length:Int))=b3 at hn
  generalize e4:((s.values.length:Int) != (c.signals.length:Int))=b4 at hn
  generalize e5:((s.timers.length:Int) != (c.signals.length:Int))=b5 at hn
  cases b1 with
  | true=>simp [ir126,e1]
  | false=>cases b2 with
   | true=>simp [ir126,e1,e2]
   | false=>cases b3 with
    | true=>simp [ir126,e1,e2,e3]
    | false=>cases b4 with
     | true=>simp [ir126,e1,e2,e3,e4]
     | false=>cases b5 with
      | true=>simp [ir126,e1,e2,e3,e4,e5]
      | false=>simp at hn
abbrev stE (c:Ct) (s:Ste):Int:=if c.check=0 then zep c s else c.check
theorem ev88 (c:Ct) (s:Ste) (hfew:c.small=true) (hs:s.small):ev pg (.call (.fn 88 [] []) [c.v,s.v] [])=some { v:=num (stE c s),st:=⟨[],[]⟩ }:=by
 have h1:=ev44 c hfew
 have h2:=ev126 c s hs
 rw [qac,pg88]
 unfold stE
 generalize c.check=e at *
 by_cases he:e=0
 ·subst he
  simp [ir88,h1,h2]
 ·simp [ir88,h1,he]
theorem ev93 (l:List Bool) (hl:l.length≤4096):ev pg (.call (.fn 93 [] []) [qeo l] [])=some { v:=.sl 0 0 1 0 l.length,st:=⟨[],[⟨0,.arr 1 (l.map qic)⟩]⟩ }:=by
 rw [qac,pg93]
 cases l with
 | nil=>simp [ir93,qcj,qee,qdy]
 | cons x l =>
  have h47:(l.length + 1) * 1≤140737488355328:=by
   simp only [List.length_cons] at hl
   omega
  have h48:l.length + 1≤140737488355328:=by omega
  simp [ir93,h47,h48,qcj,qee,qdy]
theorem ev98g (n:Nat) (hn2:n≤100000):ev pg (.call (.fn 98 [] []) [.nils,num n] [⟨0,.arr 0 []⟩])=some (if n=0 then { v:=.nils,st:=⟨[],[⟨0,.arr 0 []⟩]⟩ } else { v:=.sl 1 0 1 0 0,st:=⟨[],[⟨0,.arr 0 []⟩,⟨0,.arr 1 []⟩]⟩ }):=by
 have w1:=qab (n:=(n:Int)) (by omega) (by omega)
 have p1:¬ ((n:Int) < 0):=by omega
 have w0:=qab (n:=0) (by omega) (by omega)
 have p3:n * 8≤140737488355328:=by omega
 have p4:n≤140737488355328:=by omega
 rw [qac,pg98]
 rcases Nat.eq_zero_or_pos n with rfl | hn
 ·simp [ir98,w0,qcj,qee,qdy]
 ·have hn0:n ≠ 0:=by omega
  rw [if_neg hn0]
  simp [ir98,w0,w1,p1,hn,p3,p4,qcj,qee,qdy]
  try omega
abbrev qiq (L:List (List Int)) (k:Nat):Nat:=(L.take k).flatten.length
theorem qwl {L:List (List Int)} {k:Nat} (hk:k < L.length):qiq L (k + 1)=qiq L k + L[k].length:=by
 unfold qiq
 rw [List.take_succ_eq_append_getElem hk,List.flatten_append]
 simp
theorem q4y (L:List (List Int)) (k:Nat):qiq L k≤L.flatten.length:=by
 unfold qiq
 have:L.flatten=(L.take k).flatten++(L.drop k).flatten:=by rw [← List.flatten_append,List.take_append_drop]
 rw [this,List.length_append]
 omega
abbrev zag (L:List (List Int)):V:=.imm (L.map fun l=>[qck l])
def zgt (L:List (List Int)) (k:Nat):Tm:=[some (zag L),none,some (.sl 0 0 0 0 0),some (num (qiq L k))]++List.replicate 5 none++[some (zag L),some (num L.length),some (num k)]++List.replicate 24 none
theorem znm (L:List (List Int)) (hL:L.length≤4096) (hN:L.flatten.length≤100000) {st:St} (h0:At (zgt L 0) [⟨0,.arr 0 []⟩] st):∃ r,ev pg (.code (.going 1 L72_0) st)=some r∧qaj (.exit 0) (zgt L L.length) [⟨0,.arr 0 []⟩] r:=by
 refine qfi L.length (zgt L) (fun _=>[⟨0,.arr 0 []⟩]) _ ?_ ?_ h0
 ·intro k f hf hk
  have hk':(k:Int) < L.length:=by omega
  have wk:=qab (n:=(k:Int) + 1) (by omega) (by omega)
  have hs:=qwl hk
  have hle:=q4y L (k + 1)
  have w2:=qab (n:=(qiq L k:Int) + (L[k].length:Int)) (by omega) (by omega)
  have w3:¬ (qiq L k:Int) + (L[k].length:Int) < 0:=by omega
  unfold zgt
  rw [hs]
  generalize qiq L k=n at *
  simp [L72_0,hk,hk',wk,w2,w3,hf.ne]
 ·intro f hf
  unfold zgt
  generalize qiq L L.length=n at *
  simp [L72_0,hf.ne]
def zrn (L:List (List Int)) (k:Nat) (a:Nat × Nat):Tm:=[some (zag L),none,some (.sl 0 0 0 0 0),none,none,none,some (.sl 1 a.1 a.2 0 (qiq L k))]++List.replicate 18 none++[some (zag L),some (num L.length),some (num k)]++List.replicate 8 none
abbrev zro (X:H) (L:List (List Int)) (k:Nat) (a:Nat × Nat):H:=⟨0,.arr 0 []⟩ :: ⟨a.1,.arr a.2 ((L.take k).flatten.map qfb)⟩ :: X
theorem zpx (X:H) (hX:X=[]∨X=[⟨0,.arr 0 []⟩]) (L:List (List Int)) (hL:L.length≤4096) (hN:L.flatten.length≤100000) {st:St} (a0:Nat × Nat) (g0:a0.2=1∨(a0.2=0∧(0:Nat)=0)) (h0:At (zrn L 0 a0) (zro X L 0 a0) st):∃ r,ev pg (.code (.going (2 + X.length) L72_1) st)=some r∧∃ a:Nat × Nat,(a.2=1∨(a.2=0∧L.length=0))∧qaj (.exit 2) (zrn L L.length a) (zro X L L.length a) r:=by
 refine qdp L.length (zrn L) (zro X L) (fun k a=>a.2=1∨(a.2=0∧k=0)) _ ?_ ?_ a0 g0 h0
 ·rintro k ⟨g,m⟩ f hf hk hG
  have hk':(k:Int) < L.length:=by omega
  have wk:=qab (n:=(k:Int) + 1) (by omega) (by omega)
  have hs:=qwl hk
  have hle:=q4y L (k + 1)
  have hfl:(L.take (k + 1)).flatten=(L.take k).flatten++L[k]:=by rw [List.take_succ_eq_append_getElem hk,List.flatten_append]; simp
  have hb:(qiq L k + L[k].length) * 8≤140737488355328:=by omega
  have hb1:qiq L k + L[k].length≤140737488355328:=by omega
  have hb2:(L.take k).flatten.length + L[k].length≤140737488355328:=hb1
  have hmm:m=1∨m=0:=hG.elim .inl fun h=>.inr h.1
  have hlen:(L.take k).flatten.length=qiq L k:=rfl
  unfold zrn zro
  rw [hs,hfl]
  generalize qiq L k=n at *
  generalize (L.take k).flatten=W at *
  rcases hX with rfl | rfl <;> rcases hmm with rfl | rfl <;> simp [L72_1,hk,hk',wk,hb,hb1,hb2,hlen,hf.ne]
 ·rintro ⟨g,m⟩ f hf hG
  unfold zrn zro
  generalize qiq L L.length=n at *
  generalize (L.take L.length).flatten=W at *
  rcases hX with rfl | rfl <;> simp [L72_1,hf.ne] <;> exact ⟨g,hG.elim (fun h=>.inl ⟨rfl,h⟩) fun h=>.inr ⟨⟨h.1,List.length_eq_zero_iff.1 h.2⟩,rfl⟩⟩
theorem ev72c (L:List (List Int)) (hL:L.length≤4096) (hL0:L ≠ []) (hN:L.flatten.length≤100000):ev pg (.call (.fn 72 [] []) [zag L] [])=some { v:=.sl 0 0 1 0 L.flatten.length,st:=⟨[],[⟨0,.arr 1 (L.flatten.map qfb)⟩]⟩ }:=by
 have hla:=@znm L hL hN
 have hlb:=fun X hX=>@zpx X hX L hL hN
 have hg:=ev98g L.flatten.length hN
 have hn:qiq L L.length=L.flatten.length:=by unfold qiq; rw [List.take_length]
 have h0:qiq L 0=0:=by simp [qiq]
 have ha0:∀ st:St,At ([some (zag L),none,some (.sl 0 0 0 0 0),some (num 0)]++List.replicate 5 none++[some (zag L),some (num L.length),some (num 0)]++List.replicate 24 none) [⟨0,.arr 0 []⟩] st→At (zgt L 0) [⟨0,.arr 0 []⟩] st:=fun st h=>by
  unfold zgt
  rw [h0]
  exact h
 unfold zro at hlb
 simp only [List.take_length,List.take_zero] at hlb
 unfold zrn at hlb
 simp only [hn,h0] at hlb
 have hle:∀ f,fill f 0 (zgt L L.length)=fill f 0 ([some (zag L),none,some (.sl 0 0 0 0 0),some (num L.flatten.length)]++List.replicate 5 none++[some (zag L),some (num L.length),some (num L.length)]++List.replicate 24 none):=fun f=>by
  unfold zgt
  rw [hn]
 have hlen:(L.flatten.map qfb).length=L.flatten.length:=List.length_map ..
 generalize L.flatten.map qfb=W at *
 generalize L.flatten.length=N at *
 rw [qac,pg72]
 simp [ir72,qag]
 generalize hr:ev pg (.code (.going _ L72_0) _)=o
 obtain ⟨r,rfl,f,hf,rfl⟩:∃ r,o=some r∧_:=by rw [← hr]; exact hla (ha0 _ (by simp))
 clear hr
 rw [hle]
 by_cases hz:N=0
 ·rw [if_pos hz] at hg
  simp [hg,hf.ne,qag]
  generalize hr:ev pg (.code (.going _ L72_1) _)=o
  obtain ⟨r,rfl,⟨g,m⟩,hm,f,hf,rfl⟩:∃ r,o=some r∧_:=by rw [← hr]; exact hlb [⟨0,.arr 0 []⟩] (.inr rfl) (0,0) (.inr ⟨rfl,trivial⟩) (by simp [hf.ne])
  obtain rfl:m=1:=hm.elim id fun h=>absurd (List.length_eq_zero_iff.1 h.2) hL0
  simp [qcj,qee,qdy,hlen]
 ·rw [if_neg hz] at hg
  simp [hg,hf.ne,qag]
  generalize hr:ev pg (.code (.going _ L72_1) _)=o
  obtain ⟨r,rfl,⟨g,m⟩,hm,f,hf,rfl⟩:∃ r,o=some r∧_:=by rw [← hr]; exact hlb [] (.inl rfl) (0,1) (.inl rfl) (by simp [hf.ne])
  obtain rfl:m=1:=hm.elim id fun h=>absurd (List.length_eq_zero_iff.1 h.2) hL0
  simp [qcj,qee,qdy,hlen]
theorem zft {c:Ct} (hc:c.check=0) (hfew:c.small=true) {x:Sg} (hx:x ∈ c.signals) (hk:x.kind ≠ 1):x.off.zero=true:=by
 have hM:=qsj hc hfew
 generalize hA:c.act.toNat=A at *
 have h2:ctE c A=0:=by
  unfold Ct.check at hc
  split at hc
  ·cases hc
  ·split at hc
   ·cases hc
   ·rw [hA] at hc; exact hc
 unfold ctE at h2
 split at h2
 ·split at h2
  ·rename_i hs
   obtain ⟨i,hi,rfl⟩:=List.mem_iff_getElem.1 hx
   have h3:=qom hs i (by omega) (by omega)
   unfold qrm at h3
   rw [List.getElem?_eq_getElem hi] at h3
   simp only at h3
   unfold q1v at h3
   split at h3
   ·split at h3
    ·cases h3
    ·split at h3
     ·split at h3
      ·rename_i h4; exact absurd h4.1 hk
      ·split at h3
       ·cases h3
       ·split at h3
        ·cases h3
        ·split at h3
         ·cases h3
         ·rename_i h6
          cases hz:c.signals[i].off.zero with
          | true=>rfl
          | false=>exact absurd (.inl ⟨hk,.inl hz⟩) h6
     ·rename_i h4; exact absurd h3 h4
   ·rename_i h4; exact absurd h3 h4
  ·rename_i h4; exact absurd h2 h4
 ·rename_i h4; exact absurd h2 h4
theorem zgo {x:Ex} (h:x.zero=true) (n:Int):x.err n=0:=by
 simp only [Ex.zero,Bool.and_eq_true,decide_eq_true_eq] at h
 obtain ⟨⟨h1,h2⟩,h3⟩:=h
 have ha:x.args=[]:=by simpa using h3
 rw [q5c,ha,h1,h2]
 simp [qbi,q1d]
structure SgOk (N:Nat) (x:Sg):Prop where
 on:x.on.err N=0
 off:x.off.err N=0
 non:x.on.nodes≤256
 noff:x.off.nodes≤256
 zero:x.kind ≠ 1→x.off.zero=true
theorem z2n {c:Ct} (hc:c.check=0) (hfew:c.small=true) {x:Sg} (hx:x ∈ c.signals):SgOk (qai c c.act.toNat) x:=by
 have hR:=qsd hc hfew
 obtain ⟨_,g1,g2⟩:=(qgc hfew).2.2.2.2.2 x hx
 refine ⟨hR.on x hx,?_,(qdz g1).1,(qdz g2).1,fun hk=>zft hc hfew hx hk⟩
 rcases hR.off x hx with h | h
 ·exact h
 ·exact zgo h _
structure Keep32 (st:List V):Prop where
 nn:qdd st
 len:st.length=138
 t2:qaq st 2=.bptr 0 0
 t3:qaq st 3=.bptr 1 0
 t4:qaq st 4=.bptr 6 0
 t5:qaq st 5=.sl 16 0 0 0 0
 t6:qaq st 6=.bptr 11 0
structure Keep32v (P:List (Int × Int)) (v:Int) (gv mv nv:Nat) (st:List V):Prop where
 keep:Keep32 st
 t9:qaq st 9=.sl 20 gv mv 0 nv
 t10:qaq st 10=zcj P
 t11:qaq st 11=num v
theorem Keep32.set {s:List V} (h:Keep32 s) (j:Nat) (x:V) (hx:x ≠ .nils) (hj:j ∉ [2,3,4,5,6]):Keep32 (qgj s j x):=by
 simp only [List.mem_cons,List.not_mem_nil,or_false,not_or] at hj
 obtain ⟨h2,h3,h4,h5,h6⟩:=hj
 exact ⟨qeb h.nn hx,by rw [qmf,h.len],by rw [qat h2,h.t2],by rw [qat h3,h.t3],by rw [qat h4,h.t4],by rw [qat h5,h.t5],by rw [qat h6,h.t6]⟩
theorem Keep32v.set {P:List (Int × Int)} {v:Int} {gv mv nv:Nat} {s:List V} (h:Keep32v P v gv mv nv s) (j:Nat) (x:V) (hx:x ≠ .nils) (hj:j ∉ [2,3,4,5,6]) (hj2:j ∉ [9,10,11]):Keep32v P v gv mv nv (qgj s j x):=by
 simp only [List.mem_cons,List.not_mem_nil,or_false,not_or] at hj2
 obtain ⟨h9,h10,h11⟩:=hj2
 exact ⟨h.keep.set j x hx hj,by rw [qat h9,h.t9],by rw [qat h10,h.t10],by rw [qat h11,h.t11]⟩
theorem Keep32v.next {P:List (Int × Int)} {v:Int} {gv mv nv:Nat} {s:List V} (h:Keep32v P v gv mv nv s) (x y:V) (hx:x ≠ .nils) (hy:y ≠ .nils) (v':Int):Keep32v P v' gv mv nv (qgj (qgj (qgj s 81 x) 82 y) 11 (num v')):=by
 have hk:=((h.keep.set 81 x hx (by decide)).set 82 y hy (by decide)).set 11 (num v') (by simp) (by decide)
 have hl:=h.keep.len
 exact ⟨hk,by simp [h.t9],by simp [h.t10],by simp [hl]⟩
abbrev z2j (s:Ste):H:=[⟨0,.arr 1 (s.ends.map qfb)⟩,⟨0,.arr 1 (s.valves.map qic)⟩,⟨0,.arr 1 (s.inputs.map qic)⟩,⟨0,.arr 1 (s.values.map qic)⟩,⟨0,.arr 1 (s.timers.map qfb)⟩]
abbrev zpg (s:Ste):V:=.agg [.sl 0 0 1 0 s.ends.length,.sl 1 0 1 0 s.valves.length,.sl 2 0 1 0 s.inputs.length,.sl 3 0 1 0 s.values.length,.sl 4 0 1 0 s.timers.length]
abbrev o0:Ob:=⟨0,.arr 0 []⟩
abbrev zfe (b:Nat):List V:=[.sl b 0 0 0 0,.sl (b + 1) 0 0 0 0,.sl (b + 2) 0 0 0 0,.sl (b + 3) 0 0 0 0,.sl (b + 4) 0 0 0 0]
end Go.Proofs.YtlhciedghbmjjaaGreat
