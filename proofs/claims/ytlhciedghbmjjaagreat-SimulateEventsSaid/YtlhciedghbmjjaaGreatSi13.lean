/- Run, by the program. -/
import Derived.Test.YtlhciedghbmjjaaGreatSi12
import Derived.KernelRfl
set_option linter.all false
namespace Go.Proofs.YtlhciedghbmjjaaGreat
open Go Go.Am Go.Proofs
set_option maxRecDepth 100000
set_option maxHeartbeats 4000000
abbrev Lg.cells (x:Lg):List V:=[ents x.en,ints x.cf,ints x.st.ends,bools x.st.valves,bools x.st.inputs,bools x.st.values,ints x.st.timers]
abbrev Lg.v (x:Lg):V:=.agg x.cells
def zLg:Lg:=⟨[],[],zeroS⟩
def beginC (m:Mch) (l:List Prs):Cst:=⟨(startR m.c).1,List.replicate (startR m.c).1.ends.length 0,List.replicate (startR m.c).1.timers.length 0,l⟩
def courseR (m:Mch) (l:List Prs) (u:Int):Option (Int ⊕ Lg):=goS m u (4097 + l.length) (beginC m l) [] (startR m.c).2.1
def outC (z:Option (Int ⊕ Lg)):Lg × Int :=
 match z with
 | some (.inr x)=>(x,0)
 | some (.inl e)=>(zLg,e)
 | none=>(zLg,0)
def runS (m:Mch) (l:List Prs) (u:Int):Lg × Int :=
 if givenE m l u ≠ 0 then (zLg,givenE m l u) else if (startR m.c).2.2 ≠ 0 then (zLg,(startR m.c).2.2) else outC (courseR m l u)
theorem given_zero {m:Mch} {l:List Prs} {u:Int} (h:givenE m l u=0):checkM m=0∧l.length≤256∧presE m.c.inputs.length l=0∧0≤u∧u≤1000000:=by
 unfold givenE at h
 split at h
 ·rename_i h1; exact absurd h h1
 ·rename_i h1
  split at h
  ·cases h
  ·rename_i h2
   split at h
   ·rename_i h3; exact absurd h h3
   ·rename_i h3
    split at h
    ·cases h
    ·rename_i h4
     exact ⟨by simpa using h1,by omega,by simpa using h3,by omega,by omega⟩
theorem pres_zero {n:Nat} {l:List Prs} (h:presE n l=0):∀ k,k < l.length→pErr n l k=0:=by
 intro k hk
 unfold presE at h
 cases hf:(List.range l.length).find? (fun k=>pErr n l k != 0) with
 | none =>
  rw [List.find?_eq_none] at hf
  have:=hf k (List.mem_range.2 hk)
  simpa using this
 | some j =>
  rw [hf] at h
  have:=List.find?_some hf
  simp only [Option.map_some,Option.getD_some] at h
  rw [h] at this
  simp at this
theorem begin_ok {m:Mch} {l:List Prs} {u:Int} (hs:m.c.small=true) (hg:givenE m l u=0) (he:(startR m.c).2.2=0):Cok m (beginC m l):=by
 obtain ⟨h1,h2,h3,h4,h5⟩:=given_zero hg
 have hc:m.c.check=0:=by
  unfold checkM at h1
  split at h1
  ·assumption
  ·rename_i hn; exact absurd h1 hn
 have ht:timesE m=0:=by
  unfold checkM at h1
  rwa [if_pos hc] at h1
 have hlie:=startR_lie hs hc he
 have shp:=hlie.rdy.shp
 have mid:=hlie.rdy.mid
 have hm:(m.ts.length:Int)=m.c.act∧∀ q ∈ m.ts,badT q=false:=by
  unfold timesE at ht
  split at ht
  ·cases ht
  ·rename_i hl
   split at ht
   ·cases ht
   ·rename_i hb
    refine ⟨by omega,fun q hq=>?_⟩
    cases hq2:badT q with
    | false=>rfl
    | true=>exact absurd (List.any_eq_true.2 ⟨q,hq,hq2⟩) hb
 refine ⟨hlie,⟨by simp [beginC],by simp [beginC],?_,?_,?_,?_,?_,?_,?_,delay_ok hc⟩,fun p hp=>?_⟩
 ·have a:=shp.e; have b:=hm.1; simp only [beginC]; omega
 ·have a:=shp.t; simp only [beginC]; omega
 ·have a:=shp.e; have b:=mid.hi; have d:=mid.act; simp only [beginC]; omega
 ·have a:=shp.t; have b:=mid.sig; simp only [beginC]; omega
 ·intro x hx
  rw [List.eq_of_mem_replicate hx]
  omega
 ·intro x hx
  rw [List.eq_of_mem_replicate hx]
  omega
 ·intro q hq
  obtain ⟨a,b,c,d⟩:=badT_no (hm.2 q hq)
  exact ⟨a,b,c,d⟩
 ·obtain ⟨k,hk,rfl⟩:=List.getElem_of_mem hp
  have hk':k < l.length:=hk
  have hz:=pres_zero h3 k hk'
  rw [pErr_lt hk'] at hz
  split at hz
  ·cases hz
  ·rename_i a
   split at hz
   ·cases hz
   ·rename_i b
    show 0≤l[k].t∧l[k].t≤1000000∧0≤l[k].i∧l[k].i < (m.c.inputs.length:Int)
    omega
theorem startR_lin (c:Ct):Lin (allN c) (startR c).2.1:=by
 unfold startR
 split
 ·exact restE_lin _ _
 ·exact Lin.nil _
theorem calm32 {m:Mch} {s0:Ste} {X:List V} {C:List Int} (hX:lowL 32 X=true):calm [⟨0,.box m.cells⟩,o0s,o0s,o0s,o0s,o0s,o0s,o0s,⟨0,.box [.sl 1 0 0 0 0,.sl 2 0 0 0 0,.sl 3 0 0 0 0,.sl 4 0 0 0 0,.sl 5 0 0 0 0,.sl 6 0 0 0 0,.sl 7 0 0 0 0]⟩,o0s,o0s,o0s,o0s,o0s,⟨0,.box s0.cells⟩,
   ⟨1,.arr 1 (List.replicate s0.ends.length [num 0])⟩,⟨1,.arr 1 (List.replicate s0.timers.length [num 0])⟩,⟨0,.box X⟩,o0s,o0s,o0s,o0s,o0s,o0s,o0s,
   ⟨0,.box [.sl 26 0 0 0 0,ints C,.sl 27 0 0 0 0,.sl 28 0 0 0 0,.sl 29 0 0 0 0,.sl 30 0 0 0 0,.sl 31 0 0 0 0]⟩,o0s,o0s,o0s,o0s,o0s,o0s]:=by
 rw [calm_iff]
 intro o ho
 simp only [List.mem_cons,List.not_mem_nil,or_false] at ho
 rcases ho with rfl | rfl | rfl | rfl | rfl | rfl | rfl | rfl | rfl | rfl | rfl | rfl | rfl | rfl | rfl | rfl | rfl | rfl | rfl | rfl | rfl | rfl | rfl | rfl | rfl | rfl | rfl | rfl | rfl | rfl | rfl | rfl <;> (try rfl) <;> simp [scrubO]
 exact scrub_low hX
theorem ev13 {m:Mch} (hs:m.c.small=true) (ht:m.ts.length≤100000) {l:List Prs} (hl:l.length≤100000) (u:Int):ev pg (.call (.fn 13 [] []) [m.v,prs l,num u] [])=some { v:=.tup [(runS m l u).1.v,num (runS m l u).2],st:=⟨[],[]⟩ }:=by
 have e39:=ev39 m hs ht l hl u
 have e29:=ev29 m.c hs
 rw [ev_call,pg13]
 unfold runS
 by_cases h1:givenE m l u=0
 ·rw [if_neg (by simp [h1])]
  rw [h1] at e39
  by_cases h2:(startR m.c).2.2=0
  ·rw [if_neg (by simp [h2])]
   have hok:=begin_ok hs h1 h2
   obtain ⟨g1,g2,g3,g4,g5⟩:=given_zero h1
   have hlin:=startR_lin m.c
   have e40:=ev40 (x:=17) (m:=m) (s:=(startR m.c).1) (ve:=.sl 15 1 1 0 (startR m.c).1.ends.length) (vt:=.sl 16 1 1 0 (startR m.c).1.timers.length) (e:=List.replicate (startR m.c).1.ends.length 0) (t:=List.replicate (startR m.c).1.timers.length 0) (l:=l) rfl (calm32 (m:=m) (s0:=(startR m.c).1) (C:=(startR m.c).2.1) (by simp))
    (VE.sl (i:=15) (n:=(startR m.c).1.ends.length) (.inr ⟨rfl,rfl⟩) rfl) (VE.sl (i:=16) (n:=(startR m.c).1.timers.length) (.inr ⟨rfl,rfl⟩) rfl) hok.tim (fun d hd=>by
     have:=(hok.due d hd).1
     exact ⟨by omega,by omega⟩)
   have hlp:=fun (st:St)=>ylp13 (m:=m) (s0:=(startR m.c).1) (u:=u) g5 (Z:=courseR m l u) (L:=l.length) (by omega) (st:=st) ⟨beginC m l,[],(startR m.c).2.1,.sl 15 1 1 0 (startR m.c).1.ends.length,.sl 16 1 1 0 (startR m.c).1.timers.length,0,0,true,zDue⟩
    ⟨hok,.inr ⟨rfl,rfl⟩,.inr ⟨rfl,rfl⟩,.inr rfl,hlin,rfl,by simp [beginC],by simp⟩
   have n1:(startR m.c).1.ends.length≤4096:=hok.tim.ne
   have n2:(startR m.c).1.timers.length≤4096:=hok.tim.nt
   simp only [G13.T,G13.H,G13.d,G13.X,nxD,beginC,List.map_nil,List.length_nil] at hlp
   generalize hZ:courseR m l u=Z at *
   simp only [outV] at e29
   rw [h2] at e29
   generalize (startR m.c).1=s0 at *
   generalize (startR m.c).2.1=C0 at *
   generalize (nextD (allD m s0 (List.replicate s0.ends.length 0) (List.replicate s0.timers.length 0) l)).isSome=SM at *
   generalize (nextD (allD m s0 (List.replicate s0.ends.length 0) (List.replicate s0.timers.length 0) l)).getD zDue=ND at *
   have n3:s0.ends.length * 8≤140737488355328:=by omega
   have n4:s0.timers.length * 8≤140737488355328:=by omega
   have n5:s0.ends.length≤4611686018427387904:=by omega
   have n6:s0.timers.length≤4611686018427387904:=by omega
   clear hok hZ
   simp [ir13,e39,e29,e40,n3,n4,n5,n6,ev_draw1,exT,chkOk,ev_loopK]
   generalize hr:ev pg (.code (.goingK _ _ L13_0) _)=o
   obtain ⟨r,rfl,hQ⟩:∃ r,o=some r∧_:=by rw [← hr]; exact hlp _ (by simp [yT13])
   clear hr
   cases hQ with
   | ok a hz hw he =>
    obtain ⟨c,En,C,ve,vt,g,w,b,d0⟩:=a
    obtain ⟨f,hf,rfl⟩:=he
    simp only at hz hw
    subst hz
    simp only [G13.T,G13.H,G13.X,G13.d,outC]
    generalize (nxD m c).isSome=SM' at *
    generalize (nxD m c).getD zDue=ND' at *
    cases b with
    | true=>rcases hw with rfl | rfl <;> simp [yT13]
    | false=>rcases hw with rfl | rfl <;> simp [yT13]
   | bad e hz h q hh he =>
    obtain ⟨f,hf,rfl⟩:=he
    subst hz
    obtain ⟨b,e0,e1,e2,e3,e4,e5,e6⟩:=hh
    simp [yT13r,outC,zLg,zeroS,b,e0,e1,e2,e3,e4,e5,e6]
  ·rw [if_pos h2]
   simp only [outV] at e29
   have hb:((startR m.c).2.2 == 0)=false:=by simpa using h2
   generalize (startR m.c).2.2=er at *
   simp [ir13,e39,e29,h2,hb,zLg,zeroS]
 ·rw [if_pos h1]
  have hb:(givenE m l u == 0)=false:=by simpa using h1
  generalize givenE m l u=e at *
  simp [ir13,e39,h1,hb,zLg,zeroS]
end Go.Proofs.YtlhciedghbmjjaaGreat
