/- Courses that are the same, by the reference. The examples of the law of plant. Strokes begun, with the check of the ends: by the program and by the reference. -/
import Derived.Test.YtlhciedghbmjjaaGreatRu3
import Derived.KernelRfl
import Derived.Test.YtlhciedghbmjjaaGreatAf1
set_option linter.all false
namespace Go.Proofs.YtlhciedghbmjjaaGreat
open Go Go.Am Go.Proofs
set_option maxRecDepth 100000
def T66 (a:List Int) (k:Nat):Tm:=[some (qbw a),some (qbw a),none,none,none,some (num k)]++List.replicate 20 none
theorem z9e (a:List Int) (ha:a.length≤100000) {st:St} (h0:At (T66 a 0) [] st):∃ r,ev pg (.code (.going 0 L33_0) st)=some r∧qai (.exit 0) (T66 a a.length) [] r:=by
 refine qdv a.length (T66 a) (fun _=>[]) _ ?_ ?_ h0
 ·intro k f hf hk
  have hk':(k:Int) < a.length:=by omega
  have wk:=qab (n:=(k:Int) + 1) (by omega) (by omega)
  simp [qaa,exT,qad,T66,L33_0,hk,hk',wk,hf.ne]
 ·intro f hf
  simp [T66,L33_0,hf.ne]
theorem ev33s (a:List Int) (ha:a.length≤100000):ev pg (.call (.fn 33 [] []) [qbw a,qbw a] [])=some { v:=.bool true,st:=⟨[],[]⟩ }:=by
 have hl:=@z9e a ha
 rw [qac,pg33]
 simp [ir33,qae]
 generalize hr:ev pg (.code (.going _ L33_0) _)=o
 obtain ⟨r,rfl,f,hf,rfl⟩:∃ r,o=some r∧_:=by rw [← hr]; exact hl (by simp [T66])
 simp [T66]
abbrev lls (a:List (List (Int × Bool))):V:=.imm (a.map zun)
def zqp (a:List (List (Int × Bool))) (i k:Nat):Tm:=[some (lls a),some (lls a),none,none,none,some (num i),some (num k)]++List.replicate 46 none
def zqb (a:List (List (Int × Bool))) (i:Nat):Tm:=[some (lls a),some (lls a),none,none,none,some (num i)]++List.replicate 47 none
theorem z3n (a:List (List (Int × Bool))) (i:Nat) (hi:i < a.length) (ha:a[i].length≤100000) {st:St} (h0:At (zqp a i 0) [] st):∃ r,ev pg (.code (.going 0 L52_0) st)=some r∧qai (.exit 2) (zqp a i a[i].length) [] r:=by
 refine qdv a[i].length (zqp a i) (fun _=>[]) _ ?_ ?_ h0
 ·intro k f hf hk
  have hk':(k:Int) < a[i].length:=by omega
  have wk:=qab (n:=(k:Int) + 1) (by omega) (by omega)
  simp [qaa,exT,qad,zqp,L52_0,hi,hk,hk',wk,hf.ne]
 ·intro f hf
  simp [zqp,L52_0,hi,hf.ne]
theorem z3i (a:List (List (Int × Bool))) (ha:a.length≤100000) (hb:∀ l ∈ a,l.length≤100000) {st:St} (h0:At (zqb a 0) [] st):∃ r,ev pg (.code (.going 0 L52_1) st)=some r∧qai (.exit 0) (zqb a a.length) [] r:=by
 refine qdv a.length (zqb a) (fun _=>[]) _ ?_ ?_ h0
 ·intro i f hf hi
  have hi':(i:Int) < a.length:=by omega
  have wi:=qab (n:=(i:Int) + 1) (by omega) (by omega)
  have hl:=@z3n a i hi (hb _ (List.getElem_mem hi))
  simp [qaa,exT,qad,zqb,L52_1,hi,hi',qae,hf.ne]
  generalize hr:ev pg (.code (.going _ L52_0) _)=o
  obtain ⟨r,rfl,f2,hf2,rfl⟩:∃ r,o=some r∧_:=by rw [← hr]; exact hl (by simp [zqp,hf.ne])
  clear hr
  simp [zqp,wi,hf2.ne]
 ·intro f hf
  simp [zqb,L52_1,hf.ne]
theorem ev52s (a:List (List (Int × Bool))) (ha:a.length≤100000) (hb:∀ l ∈ a,l.length≤100000):ev pg (.call (.fn 52 [] []) [lls a,lls a] [])=some { v:=.bool true,st:=⟨[],[]⟩ }:=by
 have hl:=@z3i a ha hb
 rw [qac,pg52]
 simp [ir52,qae]
 generalize hr:ev pg (.code (.going _ L52_1) _)=o
 obtain ⟨r,rfl,f,hf,rfl⟩:∃ r,o=some r∧_:=by rw [← hr]; exact hl (by simp [zqb])
 simp [zqb]
structure Crs.small (r:Crs):Prop where
 st:r.st.small
 len:r.strokes.length≤100000
 each:∀ l ∈ r.strokes,l.length≤100000
 conf:r.conf.length≤4096
theorem qhc:zeroS.small:=⟨by simp [zeroS],by simp [zeroS],by simp [zeroS],by simp [zeroS],by simp [zeroS]⟩
theorem qjm:zeroCrs.small:=⟨qhc,by simp [zeroCrs],by simp [zeroCrs],by simp [zeroCrs]⟩
theorem qvi (a b:Ste):(qew a b).length≤a.ends.length:=by rw [zbi]; exact qss _ _ _
theorem qsn {c:Ct}:∀ {l:List Evn} {i:Nat} {r:Crs},Rdy c r.st→r.conf.length≤4096→r.strokes.length + l.length≤100000→(∀ x ∈ r.strokes,x.length≤100000)→(qka c l i r).1.small
 | [],_,r,h,h2,h3,h4=>⟨h.small,by simpa [qka] using h3,h4,h2⟩
 | x :: l,i,r,h,h2,h3,h4=>by
  rw [qka]
  by_cases hz:(qam c r.st x).2.2=0
  ·rw [if_pos hz]
   have hN:=qid h.mid
   refine qsn ⟨h.few,qkg h.st hz⟩ ?_ ?_ ?_
   ·have:=q3m (qgr c) (r.conf++(qam c r.st x).2.1)
    simp only
    omega
   ·simp only [List.length_append,List.length_cons,List.length_nil] at h3 ⊢
    omega
   ·intro y hy
    simp only [List.mem_append,List.mem_singleton] at hy
    rcases hy with hy | rfl
    ·exact h4 y hy
    ·have h5:=qvi r.st (qam c r.st x).1
     have h6:=h.small.e
     omega
  ·rw [if_neg hz]
   exact qjm
theorem q8b {c:Ct} (hc:c.small=true) (s:Ste) (l:List Evn) (hl:l.length≤100000):(zgc c s l).1.small:=by
 unfold zgc
 split
 ·rename_i h
  split
  ·exact qjm
  ·exact qsn (qwu hc h) (by simp) (by simpa using hl) (by simp)
 ·exact qjm
theorem q3a (c:Ct) {s:Ste} (hc:c.small=true):(qml c s).1.small∧(qml c s).2.1.length≤4096:=by
 unfold qml
 by_cases h:stE c s=0
 ·rw [if_pos h]
  have hlin:=qti c s
  have hN:=qid (Rdy.mid ⟨hc,h⟩)
  refine ⟨?_,by have:=hlin.len; omega⟩
  unfold qjn
  cases e:qkq c s with
  | none=>exact ⟨by simp [zeroS],by simp [zeroS],by simp [zeroS],by simp [zeroS],by simp [zeroS]⟩
  | some x=>exact Rdy.small ⟨hc,qjr h (show qkq c s=some (x.1,x.2) from e)⟩
 ·rw [if_neg h]
  exact ⟨⟨by simp [zeroS],by simp [zeroS],by simp [zeroS],by simp [zeroS],by simp [zeroS]⟩,by simp⟩
theorem q0m (c:Ct) (hc:c.check=0):qbb c=qml c (qnv c):=by
 unfold qbb qml
 rw [if_pos hc,if_pos (qhx hc)]
theorem qzl (c:Ct) (hc:c.small=true):(qbb c).1.small∧(qbb c).2.1.length≤4096:=by
 by_cases h:c.check=0
 ·rw [q0m c h]
  exact q3a c hc
 ·unfold qbb
  rw [if_neg h]
  exact ⟨⟨by simp [zeroS],by simp [zeroS],by simp [zeroS],by simp [zeroS],by simp [zeroS]⟩,by simp⟩
theorem q1x {c:Ct} {s:Ste} (h:Rdy c s) (x:Evn):(qam c s x).1.small:=by
 by_cases hz:(qam c s x).2.2=0
 ·exact Rdy.small ⟨h.few,qkg h.st hz⟩
 ·unfold qam at hz ⊢
  split
  ·exact qhc
  ·rename_i h1
   rw [if_neg h1] at hz
   split
   ·rename_i h2
    rw [if_pos h2] at hz
    unfold qjn at hz ⊢
    cases e:qkq c (qfk s x) with
    | none=>exact qhc
    | some y=>rw [e] at hz; exact absurd rfl hz
   ·exact qhc
theorem q2k {c:Ct} (hc:c.small=true) (s:Ste) (x:Evn):(qhr c s x).1.small:=by
 unfold qhr
 split
 ·rename_i h
  exact q1x (qwu hc h) x
 ·exact qhc
end Go.Proofs.YtlhciedghbmjjaaGreat
namespace Go.Proofs.YtlhciedghbmjjaaGreat
open Go Go.Am Go.Proofs
set_option maxRecDepth 1000000
def one:Ct:=⟨1,[[115,116,97,114,116]],[⟨[109],1,.mk 3 0 [.mk 1 2 [],.mk 1 0 []],.mk 1 1 [],0,false⟩,⟨[103],0,.mk 2 0 [.mk 1 3 []],.mk 0 0 [],0,false⟩],[3],[4]⟩
def z9p:Evn:=⟨2,0,true⟩
theorem zov:evN pg 200 (.call (.fn 37 [] []) [] [])=some { v:=one.v,st:=⟨[],[]⟩ }:=by kernel_rfl
theorem ev37:ev pg (.call (.fn 37 [] []) [] [])=some { v:=one.v,st:=⟨[],[]⟩ }:=zos zov
theorem zqc:one.small=true:=by kernel_rfl
def begE (a b:Ste):Int:=if a.ends.length ≠ b.ends.length∨6 < a.ends.length then 8 else if (a.ends++b.ends).any (qes 4)=true then 1 else 0
def zkw (a b:Ste):List (Int × Bool):=if begE a b=0 then qew a b else []
def T38 (n k:Nat):Tm:=[none,none,some (.bptr 0 0),some (.bptr 1 0),none,some (num 0)]++List.replicate 20 none++[some (.sl 2 0 1 0 n),some (num n),some (num k)]++List.replicate 13 none
def z2s:Tm:=[none,none,none,none,some .nils,some (num 1)]++List.replicate 36 none
abbrev h38 (a b:Ste) (l:List Int):H:=[⟨0,.box a.cells⟩,⟨0,.box b.cells⟩,⟨0,.arr 1 (l.map qee)⟩,o0]
theorem z9a (a b:Ste) (l:List Int) (hl:l.length≤100000) {st:St} (h0:At (T38 l.length 0) (h38 a b l) st):∃ r,ev pg (.code (.going 4 L67_0) st)=some r∧qku l.length (fun k=>qes 4 ((l[k]?).getD 0)) (fun _=>qai .ret z2s (h38 a b l)) (qai (.exit 0) (T38 l.length l.length) (h38 a b l)) r:=by
 refine qcq _ _ (T38 l.length) (h38 a b l) _ _ ?_ ?_ ?_ h0
 ·intro k f hf hk hp
  have hk':(k:Int) < l.length:=by omega
  have wk:=qab (n:=(k:Int) + 1) (by omega) (by omega)
  have hp':¬ l[k] < 0∧¬ 4≤l[k]:=by simpa [qes,hk] using hp
  simp [T38,L67_0,hk,hk',wk,hp',hf.ne]
 ·intro k f hf hk hp
  have hk':(k:Int) < l.length:=by omega
  have hp':l[k] < 0∨4≤l[k]:=by simpa [qes,hk] using hp
  by_cases h1:l[k] < 0
  ·simp [T38,z2s,L67_0,hk,hk',h1,hf.ne]
  ·have h2:4≤l[k]:=by omega
   simp [T38,z2s,L67_0,hk,hk',h1,h2,hf.ne]
 ·intro f hf
  simp [T38,L67_0,hf.ne]
theorem zcn {l:List Int} {X:Nat→R→Prop} {Y:R→Prop} {r:R} (h:qku l.length (fun k=>qes 4 ((l[k]?).getD 0)) X Y r):(l.any (qes 4)=true∧∃ k,X k r)∨(l.any (qes 4)=false∧Y r):=by
 rcases h with ⟨k,hk,hp,-,hX⟩ | ⟨hp,hY⟩
 ·refine .inl ⟨List.any_eq_true.2 ⟨l[k],List.getElem_mem hk,by simpa [hk] using hp⟩,k,hX⟩
 ·refine .inr ⟨?_,hY⟩
  rw [List.any_eq_false]
  intro x hx
  obtain ⟨k,hk,rfl⟩:=List.getElem_of_mem hx
  have:=hp k hk
  simpa [hk] using this
theorem zdu {a b:Ste} (h:a.ends.length ≠ b.ends.length∨6 < a.ends.length):begE a b=8:=by unfold begE; rw [if_pos h]
theorem zak {a b:Ste} (h1:a.ends.length=b.ends.length) (h2:¬ 6 < a.ends.length):begE a b=if (a.ends++b.ends).any (qes 4)=true then 1 else 0:=by unfold begE; rw [if_neg (by omega)]
theorem ev67 (a b:Ste) (ha:a.small) (hb:b.small):ev pg (.call (.fn 67 [] []) [a.v,b.v] [])=some { v:=.tup [qub (zkw a b),num (begE a b)],st:=⟨[],[]⟩ }:=by
 unfold zkw
 rw [qac,pg67]
 by_cases h1:a.ends.length=b.ends.length
 ·have h1':(a.ends.length:Int)=b.ends.length:=by omega
  by_cases h2:6 < a.ends.length
  ·rw [zdu (.inr h2)]
   have h2b:(6:Int) < b.ends.length:=by omega
   simp [ir67,h1',h2b]
  ·rw [zak h1 h2]
   have h2b:¬ (6:Int) < b.ends.length:=by omega
   have e62:=ev58 a b ha h1.symm
   have e32:=ev72c [a.ends,b.ends] (by simp) (by simp) (by simp; have:=ha.e; have:=hb.e; omega)
   have hl:=@z9a a b (a.ends++b.ends) (by simp; have:=ha.e; have:=hb.e; omega)
   simp only [zdg,List.map_cons,List.map_nil,List.flatten_cons,List.flatten_nil,List.append_nil] at e32
   generalize a.ends++b.ends=l at *
   generalize qew a b=F at *
   generalize hB:l.any (qes 4)=B
   simp [ir67,h1',h2b,e32,qae,qck,qef,qkf,qdy]
   generalize hr:ev pg (.code (.going _ L67_0) _)=o
   obtain ⟨r,rfl,hQ⟩:∃ r,o=some r∧_:=by rw [← hr]; exact hl (by simp [T38])
   clear hr
   have hfa:=zcn hQ
   rw [hB] at hfa
   clear hQ
   rcases hfa with ⟨rfl,k,f,hf,rfl⟩ | ⟨rfl,f,hf,rfl⟩
   ·simp [z2s,qck,qef,qkf,qdy]
   ·simp [T38,e62,qck,qef,qkf,qdy]
 ·rw [zdu (.inl h1)]
  have h1':¬ (a.ends.length:Int)=b.ends.length:=by omega
  have hne:((a.ends.length:Int) != (b.ends.length:Int))=true:=by rw [bne_iff_ne]; exact h1'
  simp [ir67,h1',hne]
end Go.Proofs.YtlhciedghbmjjaaGreat
