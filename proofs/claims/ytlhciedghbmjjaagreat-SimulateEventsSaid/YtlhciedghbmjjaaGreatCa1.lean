/- Clones, and lists one behind the other. The faulty control, by the reference: signals and pilots. The faulty control, by the reference: constants. The faulty control, by the reference: rounds. The faulty control, by the reference; injections. States that are carried over, by the reference. -/
import Derived.Test.YtlhciedghbmjjaaGreatSa1
import Derived.Test.YtlhciedghbmjjaaGreatSa3
import Derived.KernelRfl
set_option linter.all false
namespace Go.Proofs.YtlhciedghbmjjaaGreat
open Go Go.Am Go.Proofs
set_option maxRecDepth 100000
theorem ev93 (l:List Bool) (hl:l.length≤4096):ev pg (.call (.fn 93 [] []) [bools l] [])=some { v:=.sl 0 0 1 0 l.length,st:=⟨[],[⟨0,.arr 1 (l.map brow)⟩]⟩ }:=by
 rw [ev_call,pg93]
 cases l with
 | nil=>simp [ir93,moveVs,moveV,move1]
 | cons x l =>
  have h47:(l.length + 1) * 1≤140737488355328:=by
   simp only [List.length_cons] at hl
   omega
  have h48:l.length + 1≤140737488355328:=by omega
  simp [ir93,h47,h48,moveVs,moveV,move1]
theorem ev98g (n:Nat) (hn2:n≤100000):ev pg (.call (.fn 98 [] []) [.nils,num n] [⟨0,.arr 0 []⟩])=some (if n=0 then { v:=.nils,st:=⟨[],[⟨0,.arr 0 []⟩]⟩ } else { v:=.sl 1 0 1 0 0,st:=⟨[],[⟨0,.arr 0 []⟩,⟨0,.arr 1 []⟩]⟩ }):=by
 have w1:=wrap_id (n:=(n:Int)) (by omega) (by omega)
 have p1:¬ ((n:Int) < 0):=by omega
 have w0:=wrap_id (n:=0) (by omega) (by omega)
 have p3:n * 8≤140737488355328:=by omega
 have p4:n≤140737488355328:=by omega
 rw [ev_call,pg98]
 rcases Nat.eq_zero_or_pos n with rfl | hn
 ·simp [ir98,w0,moveVs,moveV,move1]
 ·have hn0:n ≠ 0:=by omega
  rw [if_neg hn0]
  simp [ir98,w0,w1,p1,hn,p3,p4,moveVs,moveV,move1]
  try omega
abbrev lenTI (L:List (List Int)) (k:Nat):Nat:=(L.take k).flatten.length
theorem lenTI_succ {L:List (List Int)} {k:Nat} (hk:k < L.length):lenTI L (k + 1)=lenTI L k + L[k].length:=by
 unfold lenTI
 rw [List.take_succ_eq_append_getElem hk,List.flatten_append]
 simp
theorem lenTI_le (L:List (List Int)) (k:Nat):lenTI L k≤L.flatten.length:=by
 unfold lenTI
 have:L.flatten=(L.take k).flatten++(L.drop k).flatten:=by rw [← List.flatten_append,List.take_append_drop]
 rw [this,List.length_append]
 omega
abbrev llsI (L:List (List Int)):V:=.imm (L.map fun l=>[ints l])
def T45a (L:List (List Int)) (k:Nat):Tm:=[some (llsI L),none,some (.sl 0 0 0 0 0),some (num (lenTI L k))]++List.replicate 5 none++[some (llsI L),some (num L.length),some (num k)]++List.replicate 24 none
theorem loop45a (L:List (List Int)) (hL:L.length≤4096) (hN:L.flatten.length≤100000) {st:St} (h0:At (T45a L 0) [⟨0,.arr 0 []⟩] st):∃ r,ev pg (.code (.going 1 L72_0) st)=some r∧EndsAs (.exit 0) (T45a L L.length) [⟨0,.arr 0 []⟩] r:=by
 refine loop_pic L.length (T45a L) (fun _=>[⟨0,.arr 0 []⟩]) _ ?_ ?_ h0
 ·intro k f hf hk
  have hk':(k:Int) < L.length:=by omega
  have wk:=wrap_id (n:=(k:Int) + 1) (by omega) (by omega)
  have hs:=lenTI_succ hk
  have hle:=lenTI_le L (k + 1)
  have w2:=wrap_id (n:=(lenTI L k:Int) + (L[k].length:Int)) (by omega) (by omega)
  have w3:¬ (lenTI L k:Int) + (L[k].length:Int) < 0:=by omega
  unfold T45a
  rw [hs]
  generalize lenTI L k=n at *
  simp [L72_0,hk,hk',wk,w2,w3,hf.ne]
 ·intro f hf
  unfold T45a
  generalize lenTI L L.length=n at *
  simp [L72_0,hf.ne]
def T45b (L:List (List Int)) (k:Nat) (a:Nat × Nat):Tm:=[some (llsI L),none,some (.sl 0 0 0 0 0),none,none,none,some (.sl 1 a.1 a.2 0 (lenTI L k))]++List.replicate 18 none++[some (llsI L),some (num L.length),some (num k)]++List.replicate 8 none
abbrev h45b (X:H) (L:List (List Int)) (k:Nat) (a:Nat × Nat):H:=⟨0,.arr 0 []⟩ :: ⟨a.1,.arr a.2 ((L.take k).flatten.map nrow)⟩ :: X
theorem loop45b (X:H) (hX:X=[]∨X=[⟨0,.arr 0 []⟩]) (L:List (List Int)) (hL:L.length≤4096) (hN:L.flatten.length≤100000) {st:St} (a0:Nat × Nat) (g0:a0.2=1∨(a0.2=0∧(0:Nat)=0)) (h0:At (T45b L 0 a0) (h45b X L 0 a0) st):∃ r,ev pg (.code (.going (2 + X.length) L72_1) st)=some r∧∃ a:Nat × Nat,(a.2=1∨(a.2=0∧L.length=0))∧EndsAs (.exit 2) (T45b L L.length a) (h45b X L L.length a) r:=by
 refine loop_at L.length (T45b L) (h45b X L) (fun k a=>a.2=1∨(a.2=0∧k=0)) _ ?_ ?_ a0 g0 h0
 ·rintro k ⟨g,m⟩ f hf hk hG
  have hk':(k:Int) < L.length:=by omega
  have wk:=wrap_id (n:=(k:Int) + 1) (by omega) (by omega)
  have hs:=lenTI_succ hk
  have hle:=lenTI_le L (k + 1)
  have hfl:(L.take (k + 1)).flatten=(L.take k).flatten++L[k]:=by rw [List.take_succ_eq_append_getElem hk,List.flatten_append]; simp
  have hb:(lenTI L k + L[k].length) * 8≤140737488355328:=by omega
  have hb1:lenTI L k + L[k].length≤140737488355328:=by omega
  have hb2:(L.take k).flatten.length + L[k].length≤140737488355328:=hb1
  have hmm:m=1∨m=0:=hG.elim .inl fun h=>.inr h.1
  have hlen:(L.take k).flatten.length=lenTI L k:=rfl
  unfold T45b h45b
  rw [hs,hfl]
  generalize lenTI L k=n at *
  generalize (L.take k).flatten=W at *
  rcases hX with rfl | rfl <;> rcases hmm with rfl | rfl <;> simp [L72_1,hk,hk',wk,hb,hb1,hb2,hlen,hf.ne]
 ·rintro ⟨g,m⟩ f hf hG
  unfold T45b h45b
  generalize lenTI L L.length=n at *
  generalize (L.take L.length).flatten=W at *
  rcases hX with rfl | rfl <;> simp [L72_1,hf.ne] <;> exact ⟨g,hG.elim (fun h=>.inl ⟨rfl,h⟩) fun h=>.inr ⟨⟨h.1,List.length_eq_zero_iff.1 h.2⟩,rfl⟩⟩
theorem ev72c (L:List (List Int)) (hL:L.length≤4096) (hL0:L ≠ []) (hN:L.flatten.length≤100000):ev pg (.call (.fn 72 [] []) [llsI L] [])=some { v:=.sl 0 0 1 0 L.flatten.length,st:=⟨[],[⟨0,.arr 1 (L.flatten.map nrow)⟩]⟩ }:=by
 have hla:=@loop45a L hL hN
 have hlb:=fun X hX=>@loop45b X hX L hL hN
 have hg:=ev98g L.flatten.length hN
 have hn:lenTI L L.length=L.flatten.length:=by unfold lenTI; rw [List.take_length]
 have h0:lenTI L 0=0:=by simp [lenTI]
 have ha0:∀ st:St,At ([some (llsI L),none,some (.sl 0 0 0 0 0),some (num 0)]++List.replicate 5 none++[some (llsI L),some (num L.length),some (num 0)]++List.replicate 24 none) [⟨0,.arr 0 []⟩] st→At (T45a L 0) [⟨0,.arr 0 []⟩] st:=fun st h=>by
  unfold T45a
  rw [h0]
  exact h
 unfold h45b at hlb
 simp only [List.take_length,List.take_zero] at hlb
 unfold T45b at hlb
 simp only [hn,h0] at hlb
 have hle:∀ f,fill f 0 (T45a L L.length)=fill f 0 ([some (llsI L),none,some (.sl 0 0 0 0 0),some (num L.flatten.length)]++List.replicate 5 none++[some (llsI L),some (num L.length),some (num L.length)]++List.replicate 24 none):=fun f=>by
  unfold T45a
  rw [hn]
 have hlen:(L.flatten.map nrow).length=L.flatten.length:=List.length_map ..
 generalize L.flatten.map nrow=W at *
 generalize L.flatten.length=N at *
 rw [ev_call,pg72]
 simp [ir72,ev_loop]
 generalize hr:ev pg (.code (.going _ L72_0) _)=o
 obtain ⟨r,rfl,f,hf,rfl⟩:∃ r,o=some r∧_:=by rw [← hr]; exact hla (ha0 _ (by simp))
 clear hr
 rw [hle]
 by_cases hz:N=0
 ·rw [if_pos hz] at hg
  simp [hg,hf.ne,ev_loop]
  generalize hr:ev pg (.code (.going _ L72_1) _)=o
  obtain ⟨r,rfl,⟨g,m⟩,hm,f,hf,rfl⟩:∃ r,o=some r∧_:=by rw [← hr]; exact hlb [⟨0,.arr 0 []⟩] (.inr rfl) (0,0) (.inr ⟨rfl,trivial⟩) (by simp [hf.ne])
  obtain rfl:m=1:=hm.elim id fun h=>absurd (List.length_eq_zero_iff.1 h.2) hL0
  simp [moveVs,moveV,move1,hlen]
 ·rw [if_neg hz] at hg
  simp [hg,hf.ne,ev_loop]
  generalize hr:ev pg (.code (.going _ L72_1) _)=o
  obtain ⟨r,rfl,⟨g,m⟩,hm,f,hf,rfl⟩:∃ r,o=some r∧_:=by rw [← hr]; exact hlb [] (.inl rfl) (0,1) (.inl rfl) (by simp [hf.ne])
  obtain rfl:m=1:=hm.elim id fun h=>absurd (List.length_eq_zero_iff.1 h.2) hL0
  simp [moveVs,moveV,move1,hlen]
theorem off_zero {c:Ct} (hc:c.check=0) (hfew:c.small=true) {x:Sg} (hx:x ∈ c.signals) (hk:x.kind ≠ 1):x.off.zero=true:=by
 have hM:=mid_check hc hfew
 generalize hA:c.act.toNat=A at *
 have h2:ctE c A=0:=by
  unfold Ct.check at hc
  split at hc
  ·cases hc
  ·split at hc
   ·cases hc
   ·rw [hA] at hc; exact hc
 unfold ctE at h2
 split at h2
 ·split at h2
  ·rename_i hs
   obtain ⟨i,hi,rfl⟩:=List.mem_iff_getElem.1 hx
   have h3:=goE_zero hs i (by omega) (by omega)
   unfold sigF at h3
   rw [List.getElem?_eq_getElem hi] at h3
   simp only at h3
   unfold sigE at h3
   split at h3
   ·split at h3
    ·cases h3
    ·split at h3
     ·split at h3
      ·rename_i h4; exact absurd h4.1 hk
      ·split at h3
       ·cases h3
       ·split at h3
        ·cases h3
        ·split at h3
         ·cases h3
         ·rename_i h6
          cases hz:c.signals[i].off.zero with
          | true=>rfl
          | false=>exact absurd (.inl ⟨hk,.inl hz⟩) h6
     ·rename_i h4; exact absurd h3 h4
   ·rename_i h4; exact absurd h3 h4
  ·rename_i h4; exact absurd h2 h4
 ·rename_i h4; exact absurd h2 h4
theorem zero_err {x:Ex} (h:x.zero=true) (n:Int):x.err n=0:=by
 simp only [Ex.zero,Bool.and_eq_true,decide_eq_true_eq] at h
 obtain ⟨⟨h1,h2⟩,h3⟩:=h
 have ha:x.args=[]:=by simpa using h3
 rw [err_eq,ha,h1,h2]
 simp [nodeE,errL]
structure SgOk (N:Nat) (x:Sg):Prop where
 on:x.on.err N=0
 off:x.off.err N=0
 non:x.on.nodes≤256
 noff:x.off.nodes≤256
 zero:x.kind ≠ 1→x.off.zero=true
theorem sg_ok {c:Ct} (hc:c.check=0) (hfew:c.small=true) {x:Sg} (hx:x ∈ c.signals):SgOk (countN c c.act.toNat) x:=by
 have hR:=rgt_check hc hfew
 obtain ⟨_,g1,g2⟩:=(few_parts hfew).2.2.2.2.2 x hx
 refine ⟨hR.on x hx,?_,(light_nodes g1).1,(light_nodes g2).1,fun hk=>off_zero hc hfew hx hk⟩
 rcases hR.off x hx with h | h
 ·exact h
 ·exact zero_err h _
structure Keep32 (st:List V):Prop where
 nn:noNil st
 len:st.length=138
 t2:getS st 2=.bptr 0 0
 t3:getS st 3=.bptr 1 0
 t4:getS st 4=.bptr 6 0
 t5:getS st 5=.sl 16 0 0 0 0
 t6:getS st 6=.bptr 11 0
structure Keep32v (P:List (Int × Int)) (v:Int) (gv mv nv:Nat) (st:List V):Prop where
 keep:Keep32 st
 t9:getS st 9=.sl 20 gv mv 0 nv
 t10:getS st 10=faults P
 t11:getS st 11=num v
theorem Keep32.set {s:List V} (h:Keep32 s) (j:Nat) (x:V) (hx:x ≠ .nils) (hj:j ∉ [2,3,4,5,6]):Keep32 (setS s j x):=by
 simp only [List.mem_cons,List.not_mem_nil,or_false,not_or] at hj
 obtain ⟨h2,h3,h4,h5,h6⟩:=hj
 exact ⟨noNil_set h.nn hx,by rw [setS_length,h.len],by rw [getS_setS_ne h2,h.t2],by rw [getS_setS_ne h3,h.t3],by rw [getS_setS_ne h4,h.t4],by rw [getS_setS_ne h5,h.t5],by rw [getS_setS_ne h6,h.t6]⟩
theorem Keep32v.set {P:List (Int × Int)} {v:Int} {gv mv nv:Nat} {s:List V} (h:Keep32v P v gv mv nv s) (j:Nat) (x:V) (hx:x ≠ .nils) (hj:j ∉ [2,3,4,5,6]) (hj2:j ∉ [9,10,11]):Keep32v P v gv mv nv (setS s j x):=by
 simp only [List.mem_cons,List.not_mem_nil,or_false,not_or] at hj2
 obtain ⟨h9,h10,h11⟩:=hj2
 exact ⟨h.keep.set j x hx hj,by rw [getS_setS_ne h9,h.t9],by rw [getS_setS_ne h10,h.t10],by rw [getS_setS_ne h11,h.t11]⟩
theorem Keep32v.next {P:List (Int × Int)} {v:Int} {gv mv nv:Nat} {s:List V} (h:Keep32v P v gv mv nv s) (x y:V) (hx:x ≠ .nils) (hy:y ≠ .nils) (v':Int):Keep32v P v' gv mv nv (setS (setS (setS s 81 x) 82 y) 11 (num v')):=by
 have hk:=((h.keep.set 81 x hx (by decide)).set 82 y hy (by decide)).set 11 (num v') (by simp) (by decide)
 have hl:=h.keep.len
 exact ⟨hk,by simp [h.t9],by simp [h.t10],by simp [hl]⟩
abbrev five (s:Ste):H:=[⟨0,.arr 1 (s.ends.map nrow)⟩,⟨0,.arr 1 (s.valves.map brow)⟩,⟨0,.arr 1 (s.inputs.map brow)⟩,⟨0,.arr 1 (s.values.map brow)⟩,⟨0,.arr 1 (s.timers.map nrow)⟩]
abbrev fiveV (s:Ste):V:=.agg [.sl 0 0 1 0 s.ends.length,.sl 1 0 1 0 s.valves.length,.sl 2 0 1 0 s.inputs.length,.sl 3 0 1 0 s.values.length,.sl 4 0 1 0 s.timers.length]
abbrev o0:Ob:=⟨0,.arr 0 []⟩
abbrev nil5 (b:Nat):List V:=[.sl b 0 0 0 0,.sl (b + 1) 0 0 0 0,.sl (b + 2) 0 0 0 0,.sl (b + 3) 0 0 0 0,.sl (b + 4) 0 0 0 0]
end Go.Proofs.YtlhciedghbmjjaaGreat
