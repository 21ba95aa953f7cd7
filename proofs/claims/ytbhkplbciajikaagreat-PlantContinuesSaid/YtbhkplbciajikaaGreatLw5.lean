/- Lists of lists of strokes as one, by the program. -/
import Derived.Test.YtbhkplbciajikaaGreatLw3
import Derived.KernelRfl
set_option linter.all false
namespace Go.Proofs.YtbhkplbciajikaaGreat
open Go Go.Am Go.Proofs
set_option maxRecDepth 100000
abbrev Stl:Type:=List (Int × Bool)
theorem ev75g (n:Nat) (hn2:n≤100000):ev pg (.call (.fn 75 [] []) [.nils,num n] [⟨0,.arr 0 []⟩])=some (if n=0 then { v:=.nils,st:=⟨[],[⟨0,.arr 0 []⟩]⟩ } else { v:=.sl 1 0 1 0 0,st:=⟨[],[⟨0,.arr 0 []⟩,⟨0,.arr 1 []⟩]⟩ }):=by
 have w1:=wrap_id (n:=(n:Int)) (by omega) (by omega)
 have p1:¬ ((n:Int) < 0):=by omega
 have w0:=wrap_id (n:=0) (by omega) (by omega)
 have p3:n * 24≤140737488355328:=by omega
 have p4:n≤140737488355328:=by omega
 rw [ev_call,pg75]
 rcases Nat.eq_zero_or_pos n with rfl | hn
 ·simp [ir75,w0,moveVs,moveV,move1]
 ·have hn0:n ≠ 0:=by omega
  rw [if_neg hn0]
  simp [ir75,w0,w1,p1,hn,p3,p4,moveVs,moveV,move1]
  try omega
abbrev lenTL (L:List (List Stl)) (k:Nat):Nat:=(L.take k).flatten.length
theorem lenTL_succ {L:List (List Stl)} {k:Nat} (hk:k < L.length):lenTL L (k + 1)=lenTL L k + L[k].length:=by
 unfold lenTL
 rw [List.take_succ_eq_append_getElem hk,List.flatten_append]
 simp
theorem lenTL_le (L:List (List Stl)) (k:Nat):lenTL L k≤L.flatten.length:=by
 unfold lenTL
 have:L.flatten=(L.take k).flatten++(L.drop k).flatten:=by rw [← List.flatten_append,List.take_append_drop]
 rw [this,List.length_append]
 omega
abbrev llsL (L:List (List Stl)):V:=.imm (L.map fun l=>[lls l])
def T35a (L:List (List Stl)) (k:Nat):Tm:=[some (llsL L),none,some (.sl 0 0 0 0 0),some (num (lenTL L k))]++List.replicate 5 none++[some (llsL L),some (num L.length),some (num k)]++List.replicate 24 none
theorem lp35a (L:List (List Stl)) (hL:L.length≤4096) (hN:L.flatten.length≤100000) {st:St} (h0:At (T35a L 0) [⟨0,.arr 0 []⟩] st):∃ r,ev pg (.code (.going 1 L35_0) st)=some r∧EndsAs (.exit 0) (T35a L L.length) [⟨0,.arr 0 []⟩] r:=by
 refine loop_pic L.length (T35a L) (fun _=>[⟨0,.arr 0 []⟩]) _ ?_ ?_ h0
 ·intro k f hf hk
  have hk':(k:Int) < L.length:=by omega
  have wk:=wrap_id (n:=(k:Int) + 1) (by omega) (by omega)
  have hs:=lenTL_succ hk
  have hle:=lenTL_le L (k + 1)
  have w2:=wrap_id (n:=(lenTL L k:Int) + (L[k].length:Int)) (by omega) (by omega)
  have w3:¬ (lenTL L k:Int) + (L[k].length:Int) < 0:=by omega
  unfold T35a
  rw [hs]
  generalize lenTL L k=n at *
  simp [L35_0,hk,hk',wk,w2,w3,hf.ne]
 ·intro f hf
  unfold T35a
  generalize lenTL L L.length=n at *
  simp [L35_0,hf.ne]
def T35b (L:List (List Stl)) (k:Nat) (a:Nat × Nat):Tm:=[some (llsL L),none,some (.sl 0 0 0 0 0),none,none,none,some (.sl 1 a.1 a.2 0 (lenTL L k))]++List.replicate 18 none++[some (llsL L),some (num L.length),some (num k)]++List.replicate 8 none
abbrev h35b (X:H) (L:List (List Stl)) (k:Nat) (a:Nat × Nat):H:=⟨0,.arr 0 []⟩ :: ⟨a.1,.arr a.2 ((L.take k).flatten.map lrow)⟩ :: X
theorem lp35b (X:H) (hX:X=[]∨X=[⟨0,.arr 0 []⟩]) (L:List (List Stl)) (hL:L.length≤4096) (hN:L.flatten.length≤100000) {st:St} (a0:Nat × Nat) (g0:a0.2=1∨(a0.2=0∧(0:Nat)=0)) (h0:At (T35b L 0 a0) (h35b X L 0 a0) st):∃ r,ev pg (.code (.going (2 + X.length) L35_1) st)=some r∧∃ a:Nat × Nat,(a.2=1∨(a.2=0∧L.length=0))∧EndsAs (.exit 2) (T35b L L.length a) (h35b X L L.length a) r:=by
 refine loop_at L.length (T35b L) (h35b X L) (fun k a=>a.2=1∨(a.2=0∧k=0)) _ ?_ ?_ a0 g0 h0
 ·rintro k ⟨g,m⟩ f hf hk hG
  have hk':(k:Int) < L.length:=by omega
  have wk:=wrap_id (n:=(k:Int) + 1) (by omega) (by omega)
  have hs:=lenTL_succ hk
  have hle:=lenTL_le L (k + 1)
  have hfl:(L.take (k + 1)).flatten=(L.take k).flatten++L[k]:=by rw [List.take_succ_eq_append_getElem hk,List.flatten_append]; simp
  have hb:(lenTL L k + L[k].length) * 24≤140737488355328:=by omega
  have hb1:lenTL L k + L[k].length≤140737488355328:=by omega
  have hb2:(L.take k).flatten.length + L[k].length≤140737488355328:=hb1
  have hmm:m=1∨m=0:=hG.elim .inl fun h=>.inr h.1
  have hlen:(L.take k).flatten.length=lenTL L k:=rfl
  unfold T35b h35b
  rw [hs,hfl]
  generalize lenTL L k=n at *
  generalize (L.take k).flatten=W at *
  rcases hX with rfl | rfl <;> rcases hmm with rfl | rfl <;> simp [L35_1,hk,hk',wk,hb,hb1,hb2,hlen,hf.ne]
 ·rintro ⟨g,m⟩ f hf hG
  unfold T35b h35b
  generalize lenTL L L.length=n at *
  generalize (L.take L.length).flatten=W at *
  rcases hX with rfl | rfl <;> simp [L35_1,hf.ne] <;> exact ⟨g,hG.elim (fun h=>.inl ⟨rfl,h⟩) fun h=>.inr ⟨⟨h.1,List.length_eq_zero_iff.1 h.2⟩,rfl⟩⟩
theorem ev35c (L:List (List Stl)) (hL:L.length≤4096) (hL0:L ≠ []) (hN:L.flatten.length≤100000):ev pg (.call (.fn 35 [] []) [llsL L] [])=some { v:=.sl 0 0 1 0 L.flatten.length,st:=⟨[],[⟨0,.arr 1 (L.flatten.map lrow)⟩]⟩ }:=by
 have hla:=@lp35a L hL hN
 have hlb:=fun X hX=>@lp35b X hX L hL hN
 have hg:=ev75g L.flatten.length hN
 have hn:lenTL L L.length=L.flatten.length:=by unfold lenTL; rw [List.take_length]
 have h0:lenTL L 0=0:=by simp [lenTL]
 have ha0:∀ st:St,At ([some (llsL L),none,some (.sl 0 0 0 0 0),some (num 0)]++List.replicate 5 none++[some (llsL L),some (num L.length),some (num 0)]++List.replicate 24 none) [⟨0,.arr 0 []⟩] st→At (T35a L 0) [⟨0,.arr 0 []⟩] st:=fun st h=>by
  unfold T35a
  rw [h0]
  exact h
 unfold h35b at hlb
 simp only [List.take_length,List.take_zero] at hlb
 unfold T35b at hlb
 simp only [hn,h0] at hlb
 have hle:∀ f,fill f 0 (T35a L L.length)=fill f 0 ([some (llsL L),none,some (.sl 0 0 0 0 0),some (num L.flatten.length)]++List.replicate 5 none++[some (llsL L),some (num L.length),some (num L.length)]++List.replicate 24 none):=fun f=>by
  unfold T35a
  rw [hn]
 have hlen:(L.flatten.map lrow).length=L.flatten.length:=List.length_map ..
 generalize L.flatten.map lrow=W at *
 generalize L.flatten.length=N at *
 rw [ev_call,pg35]
 simp [ir35,ev_loop]
 generalize hr:ev pg (.code (.going _ L35_0) _)=o
 obtain ⟨r,rfl,f,hf,rfl⟩:∃ r,o=some r∧_:=by rw [← hr]; exact hla (ha0 _ (by simp))
 clear hr
 rw [hle]
 by_cases hz:N=0
 ·rw [if_pos hz] at hg
  simp [hg,hf.ne,ev_loop]
  generalize hr:ev pg (.code (.going _ L35_1) _)=o
  obtain ⟨r,rfl,⟨g,m⟩,hm,f,hf,rfl⟩:∃ r,o=some r∧_:=by rw [← hr]; exact hlb [⟨0,.arr 0 []⟩] (.inr rfl) (0,0) (.inr ⟨rfl,trivial⟩) (by simp [hf.ne])
  obtain rfl:m=1:=hm.elim id fun h=>absurd (List.length_eq_zero_iff.1 h.2) hL0
  simp [moveVs,moveV,move1,hlen]
 ·rw [if_neg hz] at hg
  simp [hg,hf.ne,ev_loop]
  generalize hr:ev pg (.code (.going _ L35_1) _)=o
  obtain ⟨r,rfl,⟨g,m⟩,hm,f,hf,rfl⟩:∃ r,o=some r∧_:=by rw [← hr]; exact hlb [] (.inl rfl) (0,1) (.inl rfl) (by simp [hf.ne])
  obtain rfl:m=1:=hm.elim id fun h=>absurd (List.length_eq_zero_iff.1 h.2) hL0
  simp [moveVs,moveV,move1,hlen]
end Go.Proofs.YtbhkplbciajikaaGreat
