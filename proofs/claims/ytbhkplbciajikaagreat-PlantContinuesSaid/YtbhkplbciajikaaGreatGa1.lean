/- States: right, by the program. Clones, and lists one behind the other. The faulty control, by the reference: signals and pilots. The faulty control, by the reference: constants. The faulty control, by the reference: rounds. The faulty control, by the reference; injections. States that are carried over, by the reference. The values of all lines, by the program. -/
import Derived.Test.YtbhkplbciajikaaGreatSa2
import Derived.Test.YtbhkplbciajikaaGreatEq1
import Derived.Test.YtbhkplbciajikaaGreatSa1
import Derived.KernelRfl
set_option linter.all false
namespace Go.Proofs.YtbhkplbciajikaaGreat
open Go Go.Am Go.Proofs
set_option maxRecDepth 100000
theorem ev120 {h:H} {i:Nat} {m:Int} (hi:h[i]?=some ⟨0,.box [num m]⟩) (hcl:calm h) (n:Int):ev pg (.call (.fn 120 [] [.bptr i 0]) [num n] h)=some { v:=.bool (badL m n),st:=⟨[],h⟩ }:=by
 have hck:=calm_cutK hcl
 rw [ev_call,pg120]
 unfold badL
 by_cases h1:n < 0
 ·simp [-cutK,ir120,h1,hck]
 ·simp [-cutK,ir120,h1,hi,hck]
theorem ev119 (n:Int) (h:H):ev pg (.call (.fn 119 [] []) [num n] h)=some { v:=.fn 120 [] [.bptr h.length 0],st:=⟨[],h++[⟨0,.box [num n]⟩]⟩ }:=by
 rw [ev_call,pg119]
 simp [ir119]
abbrev hb79 (c:Ct) (s:Ste):H:=[⟨0,.box c.cells⟩,⟨0,.box s.cells⟩,⟨0,.box [num 4]⟩,⟨0,.box [num 3]⟩]
def T79 (c:Ct) (s:Ste) (k:Nat):Tm:=[none,none,some (.bptr 0 0),some (.bptr 1 0)]++List.replicate 59 none++[some (ints s.timers),some (num s.timers.length),some (num k)]++List.replicate 31 none
def T79r:Tm:=[none,none,none,none,some (num 14)]++List.replicate 92 none
theorem loop79 (c:Ct) (s:Ste) (hs:s.small) (hS:Shp c s) {st:St} (h0:At (T79 c s 0) (hb79 c s) st):∃ r,ev pg (.code (.going 4 L80_0) st)=some r∧Finds s.timers.length (tmF c s) (fun _=>EndsAs .ret T79r (hb79 c s)) (EndsAs (.exit 0) (T79 c s s.timers.length) (hb79 c s)) r:=by
 have hse:=hs.t
 have hv:=hS.v
 have ht:=hS.t
 refine loop_first _ _ (T79 c s) (hb79 c s) _ _ ?_ ?_ ?_ h0
 ·intro k f hf hk hp
  have hk':(k:Int) < s.timers.length:=by omega
  have hkv:k < s.values.length:=by omega
  have hkc:k < c.signals.length:=by omega
  have wk:=wrap_id (n:=(k:Int) + 1) (by omega) (by omega)
  have hp':tmB c.signals[k].kind s.values[k] s.timers[k]=false:=by simpa [tmF,hk,hkv,hkc] using hp
  simp [tmB] at hp'
  by_cases h2:c.signals[k].kind=2
  ·have hq:=hp'.2 h2
   simp [T79,L80_0,hk,hk',hkv,hkc,h2,hq,wk,hf.ne]
  ·have h0:=hp'.1 h2
   have h2b:(c.signals[k].kind == 2)=false:=by simpa using h2
   simp [T79,L80_0,hk,hk',hkv,hkc,h2b,h0,wk,hf.ne]
 ·intro k f hf hk hp
  have hk':(k:Int) < s.timers.length:=by omega
  have hkv:k < s.values.length:=by omega
  have hkc:k < c.signals.length:=by omega
  have hp':tmB c.signals[k].kind s.values[k] s.timers[k]=true:=by simpa [tmF,hk,hkv,hkc] using hp
  simp [tmB] at hp'
  by_cases h2:c.signals[k].kind=2
  ·have hq:¬ s.values[k]=(s.timers[k] == 2):=by simpa [h2] using hp'
   simp [T79,T79r,L80_0,hk,hk',hkv,hkc,h2,hq,hf.ne]
  ·have h0:(s.timers[k] != 0)=true:=by simpa [h2] using hp'
   have h2b:(c.signals[k].kind == 2)=false:=by simpa using h2
   simp [T79,T79r,L80_0,hk,hk',hkv,hkc,h2b,h0,hf.ne]
 ·intro f hf
  simp [T79,L80_0,hf.ne]
theorem ev80 (c:Ct) (s:Ste) (hs:s.small):ev pg (.call (.fn 80 [] []) [c.v,s.v] [])=some { v:=num (fitE c s),st:=⟨[],[]⟩ }:=by
 rw [ev_call,pg80]
 by_cases hS:Shp c s
 ·have hl:=@loop79 c s hs hS
  have e1:((s.ends.length:Int) != c.act)=false:=by simp [hS.e]
  have e2:((s.valves.length:Int) != c.act)=false:=by simp [hS.w]
  have e3:((s.inputs.length:Int) != (c.inputs.length:Int))=false:=by simp [hS.i]
  have e4:((s.values.length:Int) != (c.signals.length:Int))=false:=by simp [hS.v]
  have e5:((s.timers.length:Int) != (c.signals.length:Int))=false:=by simp [hS.t]
  have m4:=ev119 4 (h49 c s)
  have m3:=ev119 3 [⟨0,.box c.cells⟩,⟨0,.box s.cells⟩,⟨0,.box [num 4]⟩]
  have a4:=ev121 (f:=120) (caps:=[.bptr 2 0]) (h:=[⟨0,.box c.cells⟩,⟨0,.box s.cells⟩,⟨0,.box [num 4]⟩]) (l:=s.ends) (p:=badL 4) hs.e rfl rfl (ev120 (by rfl) (by simp [calm])) (by simp [calm])
  have a3:=ev121 (f:=120) (caps:=[.bptr 3 0]) (h:=hb79 c s) (l:=s.timers) (p:=badL 3) hs.t rfl rfl (ev120 (by rfl) (by simp [calm])) (by simp [calm])
  unfold fitE
  rw [if_pos hS]
  generalize s.ends.any (badL 4)=b1 at *
  generalize s.timers.any (badL 3)=b2 at *
  generalize hB3:anyF (tmF c s) s.timers.length=B3
  cases b1 with
  | true=>simp [ev_draw1,exT,chkOk,ir80,e1,e2,e3,e4,e5,m4,a4]
  | false=>cases b2 with
   | true=>simp [ev_draw1,exT,chkOk,ir80,e1,e2,e3,e4,e5,m4,a4,m3,a3]
   | false =>
    simp [ev_draw1,exT,chkOk,ir80,ev_loop,e1,e2,e3,e4,e5,m4,a4,m3,a3]
    generalize hr:ev pg (.code (.going _ L80_0) _)=o
    obtain ⟨r,rfl,hQ⟩:∃ r,o=some r∧_:=by rw [← hr]; exact hl (by simp [T79])
    rcases hQ with ⟨k,hk,hp,-,f,hf,rfl⟩ | ⟨hp,f,hf,rfl⟩
    ·obtain rfl:B3=true:=by rw [← hB3]; exact anyF_of hk hp
     simp [T79r]
    ·obtain rfl:B3=false:=by rw [← hB3]; exact anyF_not hp
     simp [T79]
 ·have hn:=shp_not hS
  unfold fitE
  rw [if_neg hS]
  generalize e1:((s.ends.length:Int) != c.act)=b1 at hn
  generalize e2:((s.valves.length:Int) != c.act)=b2 at hn
  generalize e3:((s.inputs.length:Int) != (c.inputs.length:Int))=b3 at hn
  generalize e4:((s.values.length:Int) != (c.signals.length:Int))=b4 at hn
  generalize e5:((s.timers.length:Int) != (c.signals.length:Int))=b5 at hn
  cases b1 with
  | true=>simp [ir80,e1]
  | false=>cases b2 with
   | true=>simp [ir80,e1,e2]
   | false=>cases b3 with
    | true=>simp [ir80,e1,e2,e3]
    | false=>cases b4 with
     | true=>simp [ir80,e1,e2,e3,e4]
     | false=>cases b5 with
      | true=>simp [ir80,e1,e2,e3,e4,e5]
      | false=>simp at hn
abbrev stE (c:Ct) (s:Ste):Int:=if c.check=0 then fitE c s else c.check
theorem ev45 (c:Ct) (s:Ste) (hfew:c.small=true) (hs:s.small):ev pg (.call (.fn 45 [] []) [c.v,s.v] [])=some { v:=num (stE c s),st:=⟨[],[]⟩ }:=by
 have h1:=ev79 c hfew
 have h2:=ev80 c s hs
 rw [ev_call,pg45]
 unfold stE
 generalize c.check=e at *
 by_cases he:e=0
 ·subst he
  simp [ir45,h1,h2]
 ·simp [ir45,h1,he]
theorem ev90 (l:List Bool) (hl:l.length≤4096):ev pg (.call (.fn 90 [] []) [bools l] [])=some { v:=.sl 0 0 1 0 l.length,st:=⟨[],[⟨0,.arr 1 (l.map brow)⟩]⟩ }:=by
 rw [ev_call,pg90]
 cases l with
 | nil=>simp [ir90,moveVs,moveV,move1]
 | cons x l =>
  have h47:(l.length + 1) * 1≤140737488355328:=by
   simp only [List.length_cons] at hl
   omega
  have h48:l.length + 1≤140737488355328:=by omega
  simp [ir90,h47,h48,moveVs,moveV,move1]
theorem ev72g (n:Nat) (hn2:n≤100000):ev pg (.call (.fn 72 [] []) [.nils,num n] [⟨0,.arr 0 []⟩])=some (if n=0 then { v:=.nils,st:=⟨[],[⟨0,.arr 0 []⟩]⟩ } else { v:=.sl 1 0 1 0 0,st:=⟨[],[⟨0,.arr 0 []⟩,⟨0,.arr 1 []⟩]⟩ }):=by
 have w1:=wrap_id (n:=(n:Int)) (by omega) (by omega)
 have p1:¬ ((n:Int) < 0):=by omega
 have w0:=wrap_id (n:=0) (by omega) (by omega)
 have p3:n * 8≤140737488355328:=by omega
 have p4:n≤140737488355328:=by omega
 rw [ev_call,pg72]
 rcases Nat.eq_zero_or_pos n with rfl | hn
 ·simp [ir72,w0,moveVs,moveV,move1]
 ·have hn0:n ≠ 0:=by omega
  rw [if_neg hn0]
  simp [ir72,w0,w1,p1,hn,p3,p4,moveVs,moveV,move1]
  try omega
abbrev lenTI (L:List (List Int)) (k:Nat):Nat:=(L.take k).flatten.length
theorem lenTI_succ {L:List (List Int)} {k:Nat} (hk:k < L.length):lenTI L (k + 1)=lenTI L k + L[k].length:=by
 unfold lenTI
 rw [List.take_succ_eq_append_getElem hk,List.flatten_append]
 simp
theorem lenTI_le (L:List (List Int)) (k:Nat):lenTI L k≤L.flatten.length:=by
 unfold lenTI
 have:L.flatten=(L.take k).flatten++(L.drop k).flatten:=by rw [← List.flatten_append,List.take_append_drop]
 rw [this,List.length_append]
 omega
abbrev llsI (L:List (List Int)):V:=.imm (L.map fun l=>[ints l])
def T45a (L:List (List Int)) (k:Nat):Tm:=[some (llsI L),none,some (.sl 0 0 0 0 0),some (num (lenTI L k))]++List.replicate 5 none++[some (llsI L),some (num L.length),some (num k)]++List.replicate 24 none
theorem loop45a (L:List (List Int)) (hL:L.length≤4096) (hN:L.flatten.length≤100000) {st:St} (h0:At (T45a L 0) [⟨0,.arr 0 []⟩] st):∃ r,ev pg (.code (.going 1 L32_0) st)=some r∧EndsAs (.exit 0) (T45a L L.length) [⟨0,.arr 0 []⟩] r:=by
 refine loop_pic L.length (T45a L) (fun _=>[⟨0,.arr 0 []⟩]) _ ?_ ?_ h0
 ·intro k f hf hk
  have hk':(k:Int) < L.length:=by omega
  have wk:=wrap_id (n:=(k:Int) + 1) (by omega) (by omega)
  have hs:=lenTI_succ hk
  have hle:=lenTI_le L (k + 1)
  have w2:=wrap_id (n:=(lenTI L k:Int) + (L[k].length:Int)) (by omega) (by omega)
  have w3:¬ (lenTI L k:Int) + (L[k].length:Int) < 0:=by omega
  unfold T45a
  rw [hs]
  generalize lenTI L k=n at *
  simp [L32_0,hk,hk',wk,w2,w3,hf.ne]
 ·intro f hf
  unfold T45a
  generalize lenTI L L.length=n at *
  simp [L32_0,hf.ne]
def T45b (L:List (List Int)) (k:Nat) (a:Nat × Nat):Tm:=[some (llsI L),none,some (.sl 0 0 0 0 0),none,none,none,some (.sl 1 a.1 a.2 0 (lenTI L k))]++List.replicate 18 none++[some (llsI L),some (num L.length),some (num k)]++List.replicate 8 none
abbrev h45b (X:H) (L:List (List Int)) (k:Nat) (a:Nat × Nat):H:=⟨0,.arr 0 []⟩ :: ⟨a.1,.arr a.2 ((L.take k).flatten.map nrow)⟩ :: X
theorem loop45b (X:H) (hX:X=[]∨X=[⟨0,.arr 0 []⟩]) (L:List (List Int)) (hL:L.length≤4096) (hN:L.flatten.length≤100000) {st:St} (a0:Nat × Nat) (g0:a0.2=1∨(a0.2=0∧(0:Nat)=0)) (h0:At (T45b L 0 a0) (h45b X L 0 a0) st):∃ r,ev pg (.code (.going (2 + X.length) L32_1) st)=some r∧∃ a:Nat × Nat,(a.2=1∨(a.2=0∧L.length=0))∧EndsAs (.exit 2) (T45b L L.length a) (h45b X L L.length a) r:=by
 refine loop_at L.length (T45b L) (h45b X L) (fun k a=>a.2=1∨(a.2=0∧k=0)) _ ?_ ?_ a0 g0 h0
 ·rintro k ⟨g,m⟩ f hf hk hG
  have hk':(k:Int) < L.length:=by omega
  have wk:=wrap_id (n:=(k:Int) + 1) (by omega) (by omega)
  have hs:=lenTI_succ hk
  have hle:=lenTI_le L (k + 1)
  have hfl:(L.take (k + 1)).flatten=(L.take k).flatten++L[k]:=by rw [List.take_succ_eq_append_getElem hk,List.flatten_append]; simp
  have hb:(lenTI L k + L[k].length) * 8≤140737488355328:=by omega
  have hb1:lenTI L k + L[k].length≤140737488355328:=by omega
  have hb2:(L.take k).flatten.length + L[k].length≤140737488355328:=hb1
  have hmm:m=1∨m=0:=hG.elim .inl fun h=>.inr h.1
  have hlen:(L.take k).flatten.length=lenTI L k:=rfl
  unfold T45b h45b
  rw [hs,hfl]
  generalize lenTI L k=n at *
  generalize (L.take k).flatten=W at *
  rcases hX with rfl | rfl <;> rcases hmm with rfl | rfl <;> simp [L32_1,hk,hk',wk,hb,hb1,hb2,hlen,hf.ne]
 ·rintro ⟨g,m⟩ f hf hG
  unfold T45b h45b
  generalize lenTI L L.length=n at *
  generalize (L.take L.length).flatten=W at *
  rcases hX with rfl | rfl <;> simp [L32_1,hf.ne] <;> exact ⟨g,hG.elim (fun h=>.inl ⟨rfl,h⟩) fun h=>.inr ⟨⟨h.1,List.length_eq_zero_iff.1 h.2⟩,rfl⟩⟩
theorem ev32c (L:List (List Int)) (hL:L.length≤4096) (hL0:L ≠ []) (hN:L.flatten.length≤100000):ev pg (.call (.fn 32 [] []) [llsI L] [])=some { v:=.sl 0 0 1 0 L.flatten.length,st:=⟨[],[⟨0,.arr 1 (L.flatten.map nrow)⟩]⟩ }:=by
 have hla:=@loop45a L hL hN
 have hlb:=fun X hX=>@loop45b X hX L hL hN
 have hg:=ev72g L.flatten.length hN
 have hn:lenTI L L.length=L.flatten.length:=by unfold lenTI; rw [List.take_length]
 have h0:lenTI L 0=0:=by simp [lenTI]
 have ha0:∀ st:St,At ([some (llsI L),none,some (.sl 0 0 0 0 0),some (num 0)]++List.replicate 5 none++[some (llsI L),some (num L.length),some (num 0)]++List.replicate 24 none) [⟨0,.arr 0 []⟩] st→At (T45a L 0) [⟨0,.arr 0 []⟩] st:=fun st h=>by
  unfold T45a
  rw [h0]
  exact h
 unfold h45b at hlb
 simp only [List.take_length,List.take_zero] at hlb
 unfold T45b at hlb
 simp only [hn,h0] at hlb
 have hle:∀ f,fill f 0 (T45a L L.length)=fill f 0 ([some (llsI L),none,some (.sl 0 0 0 0 0),some (num L.flatten.length)]++List.replicate 5 none++[some (llsI L),some (num L.length),some (num L.length)]++List.replicate 24 none):=fun f=>by
  unfold T45a
  rw [hn]
 have hlen:(L.flatten.map nrow).length=L.flatten.length:=List.length_map ..
 generalize L.flatten.map nrow=W at *
 generalize L.flatten.length=N at *
 rw [ev_call,pg32]
 simp [ir32,ev_loop]
 generalize hr:ev pg (.code (.going _ L32_0) _)=o
 obtain ⟨r,rfl,f,hf,rfl⟩:∃ r,o=some r∧_:=by rw [← hr]; exact hla (ha0 _ (by simp))
 clear hr
 rw [hle]
 by_cases hz:N=0
 ·rw [if_pos hz] at hg
  simp [hg,hf.ne,ev_loop]
  generalize hr:ev pg (.code (.going _ L32_1) _)=o
  obtain ⟨r,rfl,⟨g,m⟩,hm,f,hf,rfl⟩:∃ r,o=some r∧_:=by rw [← hr]; exact hlb [⟨0,.arr 0 []⟩] (.inr rfl) (0,0) (.inr ⟨rfl,trivial⟩) (by simp [hf.ne])
  obtain rfl:m=1:=hm.elim id fun h=>absurd (List.length_eq_zero_iff.1 h.2) hL0
  simp [moveVs,moveV,move1,hlen]
 ·rw [if_neg hz] at hg
  simp [hg,hf.ne,ev_loop]
  generalize hr:ev pg (.code (.going _ L32_1) _)=o
  obtain ⟨r,rfl,⟨g,m⟩,hm,f,hf,rfl⟩:∃ r,o=some r∧_:=by rw [← hr]; exact hlb [] (.inl rfl) (0,1) (.inl rfl) (by simp [hf.ne])
  obtain rfl:m=1:=hm.elim id fun h=>absurd (List.length_eq_zero_iff.1 h.2) hL0
  simp [moveVs,moveV,move1,hlen]
theorem off_zero {c:Ct} (hc:c.check=0) (hfew:c.small=true) {x:Sg} (hx:x ∈ c.signals) (hk:x.kind ≠ 1):x.off.zero=true:=by
 have hM:=mid_check hc hfew
 generalize hA:c.act.toNat=A at *
 have h2:ctE c A=0:=by
  unfold Ct.check at hc
  split at hc
  ·cases hc
  ·split at hc
   ·cases hc
   ·rw [hA] at hc; exact hc
 unfold ctE at h2
 split at h2
 ·split at h2
  ·rename_i hs
   obtain ⟨i,hi,rfl⟩:=List.mem_iff_getElem.1 hx
   have h3:=goE_zero hs i (by omega) (by omega)
   unfold sigF at h3
   rw [List.getElem?_eq_getElem hi] at h3
   simp only at h3
   unfold sigE at h3
   split at h3
   ·split at h3
    ·cases h3
    ·split at h3
     ·split at h3
      ·rename_i h4; exact absurd h4.1 hk
      ·split at h3
       ·cases h3
       ·split at h3
        ·cases h3
        ·split at h3
         ·cases h3
         ·rename_i h6
          cases hz:c.signals[i].off.zero with
          | true=>rfl
          | false=>exact absurd (.inl ⟨hk,.inl hz⟩) h6
     ·rename_i h4; exact absurd h3 h4
   ·rename_i h4; exact absurd h3 h4
  ·rename_i h4; exact absurd h2 h4
 ·rename_i h4; exact absurd h2 h4
theorem zero_err {x:Ex} (h:x.zero=true) (n:Int):x.err n=0:=by
 simp only [Ex.zero,Bool.and_eq_true,decide_eq_true_eq] at h
 obtain ⟨⟨h1,h2⟩,h3⟩:=h
 have ha:x.args=[]:=by simpa using h3
 rw [err_eq,ha,h1,h2]
 simp [nodeE,errL]
structure SgOk (N:Nat) (x:Sg):Prop where
 on:x.on.err N=0
 off:x.off.err N=0
 non:x.on.nodes≤256
 noff:x.off.nodes≤256
 zero:x.kind ≠ 1→x.off.zero=true
theorem sg_ok {c:Ct} (hc:c.check=0) (hfew:c.small=true) {x:Sg} (hx:x ∈ c.signals):SgOk (countN c c.act.toNat) x:=by
 have hR:=rgt_check hc hfew
 obtain ⟨_,g1,g2⟩:=(few_parts hfew).2.2.2.2.2 x hx
 refine ⟨hR.on x hx,?_,(light_nodes g1).1,(light_nodes g2).1,fun hk=>off_zero hc hfew hx hk⟩
 rcases hR.off x hx with h | h
 ·exact h
 ·exact zero_err h _
structure Keep32 (st:List V):Prop where
 nn:noNil st
 len:st.length=138
 t2:getS st 2=.bptr 0 0
 t3:getS st 3=.bptr 1 0
 t4:getS st 4=.bptr 6 0
 t5:getS st 5=.sl 16 0 0 0 0
 t6:getS st 6=.bptr 11 0
structure Keep32v (P:List (Int × Int)) (v:Int) (gv mv nv:Nat) (st:List V):Prop where
 keep:Keep32 st
 t9:getS st 9=.sl 20 gv mv 0 nv
 t10:getS st 10=faults P
 t11:getS st 11=num v
theorem Keep32.set {s:List V} (h:Keep32 s) (j:Nat) (x:V) (hx:x ≠ .nils) (hj:j ∉ [2,3,4,5,6]):Keep32 (setS s j x):=by
 simp only [List.mem_cons,List.not_mem_nil,or_false,not_or] at hj
 obtain ⟨h2,h3,h4,h5,h6⟩:=hj
 exact ⟨noNil_set h.nn hx,by rw [setS_length,h.len],by rw [getS_setS_ne h2,h.t2],by rw [getS_setS_ne h3,h.t3],by rw [getS_setS_ne h4,h.t4],by rw [getS_setS_ne h5,h.t5],by rw [getS_setS_ne h6,h.t6]⟩
theorem Keep32v.set {P:List (Int × Int)} {v:Int} {gv mv nv:Nat} {s:List V} (h:Keep32v P v gv mv nv s) (j:Nat) (x:V) (hx:x ≠ .nils) (hj:j ∉ [2,3,4,5,6]) (hj2:j ∉ [9,10,11]):Keep32v P v gv mv nv (setS s j x):=by
 simp only [List.mem_cons,List.not_mem_nil,or_false,not_or] at hj2
 obtain ⟨h9,h10,h11⟩:=hj2
 exact ⟨h.keep.set j x hx hj,by rw [getS_setS_ne h9,h.t9],by rw [getS_setS_ne h10,h.t10],by rw [getS_setS_ne h11,h.t11]⟩
theorem Keep32v.next {P:List (Int × Int)} {v:Int} {gv mv nv:Nat} {s:List V} (h:Keep32v P v gv mv nv s) (x y:V) (hx:x ≠ .nils) (hy:y ≠ .nils) (v':Int):Keep32v P v' gv mv nv (setS (setS (setS s 81 x) 82 y) 11 (num v')):=by
 have hk:=((h.keep.set 81 x hx (by decide)).set 82 y hy (by decide)).set 11 (num v') (by simp) (by decide)
 have hl:=h.keep.len
 exact ⟨hk,by simp [h.t9],by simp [h.t10],by simp [hl]⟩
abbrev five (s:Ste):H:=[⟨0,.arr 1 (s.ends.map nrow)⟩,⟨0,.arr 1 (s.valves.map brow)⟩,⟨0,.arr 1 (s.inputs.map brow)⟩,⟨0,.arr 1 (s.values.map brow)⟩,⟨0,.arr 1 (s.timers.map nrow)⟩]
abbrev fiveV (s:Ste):V:=.agg [.sl 0 0 1 0 s.ends.length,.sl 1 0 1 0 s.valves.length,.sl 2 0 1 0 s.inputs.length,.sl 3 0 1 0 s.values.length,.sl 4 0 1 0 s.timers.length]
theorem ev130 (s:Ste) (hs:s.small):ev pg (.call (.fn 130 [] []) [s.v] [])=some { v:=fiveV s,st:=⟨[],five s⟩ }:=by
 obtain ⟨h1,h2,h3,h4,h5⟩:=hs
 have g1:s.ends.length * 8≤140737488355328:=by omega
 have g2:s.valves.length≤140737488355328:=by omega
 have g3:s.inputs.length≤140737488355328:=by omega
 have g4:s.values.length≤140737488355328:=by omega
 have g5:s.timers.length * 8≤140737488355328:=by omega
 rw [ev_call,pg130]
 simp [ev_draw1,exT,chkOk,ir130,g1,g2,g3,g4,g5,moveVs,moveV,moveL,move1]
abbrev o0:Ob:=⟨0,.arr 0 []⟩
abbrev nil5 (b:Nat):List V:=[.sl b 0 0 0 0,.sl (b + 1) 0 0 0 0,.sl (b + 2) 0 0 0 0,.sl (b + 3) 0 0 0 0,.sl (b + 4) 0 0 0 0]
def endsB:List Int→List Bool
 | []=>[]
 | e :: l=>(e == 0) :: (e == 2) :: endsB l
theorem endsB_app (l m:List Int):endsB (l++m)=endsB l++endsB m:=by
 induction l with
 | nil=>rfl
 | cons e l ih=>simp [endsB,ih]
theorem endsB_len (l:List Int):(endsB l).length=2 * l.length:=by
 induction l with
 | nil=>rfl
 | cons e l ih=>simp [endsB,ih]; omega
theorem endsB_succ {l:List Int} {k:Nat} (hk:k < l.length):endsB (l.take (k + 1))=endsB (l.take k)++[l[k] == 0,l[k] == 2]:=by
 rw [List.take_succ_eq_append_getElem hk,endsB_app]; rfl
def linesV (s:Ste):List Bool:=endsB s.ends++s.inputs++s.values
theorem linesV_len (s:Ste):(linesV s).length=2 * s.ends.length + s.inputs.length + s.values.length:=by
 unfold linesV
 rw [List.length_append,List.length_append,endsB_len]
abbrev h52 (s:Ste) (k:Nat) (a:Nat × Nat):H:=[⟨0,.box s.cells⟩,⟨0,.arr 0 []⟩,⟨a.1,.arr a.2 ((endsB (s.ends.take k)).map brow)⟩]
def T52 (s:Ste) (k:Nat) (a:Nat × Nat):Tm:=[none,some (.bptr 0 0),some (.sl 1 0 0 0 0),some (.sl 2 a.1 a.2 0 (2 * k)),none,none,none,some (ints s.ends),some (num s.ends.length),some (num k)]++List.replicate 18 none
theorem lp52 (s:Ste) (hs:s.small) {st:St} (a0:Nat × Nat) (g0:a0.2=1∨a0.2=0) (h0:At (T52 s 0 a0) (h52 s 0 a0) st):∃ r,ev pg (.code (.going 3 L127_0) st)=some r∧∃ a:Nat × Nat,(a.2=1∨a.2=0)∧EndsAs (.exit 0) (T52 s s.ends.length a) (h52 s s.ends.length a) r:=by
 have hse:=hs.e
 refine loop_at s.ends.length (T52 s) (h52 s) (fun _ a=>a.2=1∨a.2=0) _ ?_ ?_ a0 g0 h0
 ·rintro k ⟨g,m⟩ f hf hk hG
  have hk':(k:Int) < s.ends.length:=by omega
  have wk:=wrap_id (n:=(k:Int) + 1) (by omega) (by omega)
  have hlen:(endsB (s.ends.take k)).length=2 * k:=by rw [endsB_len,List.length_take]; omega
  have hb:2 * k + 2≤140737488355328:=by omega
  have h2:2 * (k + 1)=2 * k + 2:=by omega
  unfold T52 h52
  rw [endsB_succ hk,h2]
  generalize endsB (s.ends.take k)=W at *
  have hmm:m=1∨m=0:=hG
  rcases hmm with rfl | rfl <;> simp [L127_0,hk,hk',wk,hb,hlen,hf.ne]
 ·rintro ⟨g,m⟩ f hf hG
  unfold T52 h52
  generalize endsB (s.ends.take s.ends.length)=W at *
  generalize 2 * s.ends.length=N at *
  have hmm:m=1∨m=0:=hG
  rcases hmm with rfl | rfl <;> simp [L127_0,hf.ne]
theorem ev127 (s:Ste) (hs:s.small):ev pg (.call (.fn 127 [] []) [s.v] [])=some { v:=.sl 0 0 1 0 (linesV s).length,st:=⟨[],[⟨0,.arr 1 ((linesV s).map brow)⟩]⟩ }:=by
 have hl:=@lp52 s hs
 obtain ⟨h1,h2,h3,h4,h5⟩:=hs
 have hlen:=linesV_len s
 unfold linesV at hlen ⊢
 have he:=endsB_len s.ends
 have q1:2 * s.ends.length + s.inputs.length≤140737488355328:=by omega
 have q2:2 * s.ends.length + s.inputs.length + s.values.length≤140737488355328:=by omega
 rw [hlen]
 simp only [List.map_append]
 have hW:((endsB s.ends).map brow).length=2 * s.ends.length:=by rw [List.length_map,he]
 unfold h52 at hl
 rw [List.take_length,List.take_zero,endsB] at hl
 generalize (endsB s.ends).map brow=W at *
 rw [ev_call,pg127]
 simp [ir127,ev_loop]
 generalize hr:ev pg (.code (.going _ L127_0) _)=o
 obtain ⟨r,rfl,⟨g,m⟩,hm,f,hf,rfl⟩:∃ r,o=some r∧_:=by rw [← hr]; exact hl (0,0) (.inr rfl) (by simp [T52])
 clear hr
 have hmm:m=1∨m=0:=hm
 rcases hmm with rfl | rfl <;> simp [ev_draw1,exT,chkOk,T52,hW,q1,q2,moveVs,moveV,move1] <;> simp [Nat.add_assoc]
def gateStep (c:Ct) (F i:Nat) (L:List Bool):List Bool:=match c.signals[i]? with
 | some x=>if x.kind=0 then L.set (F + i) (x.on.holds L) else L
 | none=>L
def gatesTo (c:Ct) (F:Nat):Nat→List Bool→List Bool
 | 0,L=>L
 | k + 1,L=>gateStep c F k (gatesTo c F k L)
theorem gateStep_len (c:Ct) (F i:Nat) (L:List Bool):(gateStep c F i L).length=L.length:=by
 unfold gateStep
 split
 ·split
  ·rw [List.length_set]
  ·rfl
 ·rfl
theorem gatesTo_len (c:Ct) (F:Nat) (L:List Bool):∀ k,(gatesTo c F k L).length=L.length
 | 0=>rfl
 | k + 1=>by rw [gatesTo,gateStep_len,gatesTo_len c F L k]
abbrev firstS (s:Ste):Nat:=2 * s.ends.length + s.inputs.length
def gatesL (c:Ct) (s:Ste):List Bool:=gatesTo c (firstS s) c.signals.length (linesV s)
def gated (c:Ct) (s:Ste):Ste:=⟨s.ends,s.valves,s.inputs,(gatesL c s).drop (firstS s),s.timers⟩
theorem linesV_drop (s:Ste):(linesV s).drop (firstS s)=s.values:=by
 unfold linesV
 rw [List.drop_left' (by rw [List.length_append,endsB_len])]
def GatesOk (c:Ct) (N:Nat):Prop:=∀ x ∈ c.signals,x.on.light=true∧x.on.check N=0
abbrev h50 (c:Ct) (s:Ste) (L:List Bool):H:=[⟨0,.box c.cells⟩,⟨0,.box s.cells⟩,o0,o0,o0,o0,o0,⟨0,.box (nil5 2)⟩,o0,o0,o0,o0,o0,⟨0,.box [.sl 14 0 1 0 s.ends.length,.sl 15 0 1 0 s.valves.length,.sl 16 0 1 0 s.inputs.length,.sl 17 0 1 0 s.values.length,.sl 18 0 1 0 s.timers.length]⟩,⟨0,.arr 1 (s.ends.map nrow)⟩,⟨0,.arr 1 (s.valves.map brow)⟩,⟨0,.arr 1 (s.inputs.map brow)⟩,⟨0,.arr 1 ((L.drop (firstS s)).map brow)⟩,⟨0,.arr 1 (s.timers.map nrow)⟩,⟨0,.arr 1 (L.map brow)⟩]
def T50 (c:Ct) (s:Ste) (k:Nat):Tm:=[none,none,some (.bptr 0 0),some (.bptr 1 0),some (.bptr 7 0),some (.bptr 13 0),some (.sl 19 0 1 0 (linesV s).length)]++List.replicate 23 none++[some (.imm (c.signals.map Sg.row)),some (num c.signals.length),some (num k)]++List.replicate 28 none
theorem gated_len {c:Ct} (s:Ste):(gated c s).values.length=s.values.length:=by
 unfold gated
 simp only [List.length_drop]
 rw [gatesL,gatesTo_len,linesV_len]
 unfold firstS
 omega
theorem gatesOk_of {c:Ct} (h:c.check=0) (hfew:c.small=true):GatesOk c (countN c c.act.toNat):=by
 have hR:=rgt_check h hfew
 intro x hx
 have hl:=(few_parts hfew).2.2.2.2.2 x hx
 refine ⟨hl.2.1,?_⟩
 have he:=hR.on x hx
 have hm:=hR.mid
 have h1:=hm.hi
 have h2:=hm.inp
 have h3:=hm.sig
 unfold Ex.check
 rw [if_neg (by unfold countN; omega),if_pos hl.2.1]
 exact he
theorem fitE_shp {c:Ct} {s:Ste} (h:fitE c s=0):Shp c s:=by
 unfold fitE at h
 by_cases hS:Shp c s
 ·exact hS
 ·rw [if_neg hS] at h; cases h
theorem stE_zero {c:Ct} {s:Ste} (h:stE c s=0):c.check=0∧Shp c s:=by
 unfold stE at h
 by_cases hc:c.check=0
 ·rw [if_pos hc] at h
  exact ⟨hc,fitE_shp h⟩
 ·rw [if_neg hc] at h; exact absurd h hc
end Go.Proofs.YtbhkplbciajikaaGreat
