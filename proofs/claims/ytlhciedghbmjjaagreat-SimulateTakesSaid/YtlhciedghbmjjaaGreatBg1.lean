/- What follows an event, by the program: the functions; strokes that are begun. Courses that are the same, by the reference. The examples of the law of plant. Strokes begun, with the check of the ends: by the program and by the reference. -/
import Derived.Test.YtlhciedghbmjjaaGreatAf1
import Derived.KernelRfl
import Derived.Test.YtlhciedghbmjjaaGreatLn1
set_option linter.all false
namespace Go.Proofs.YtlhciedghbmjjaaGreat
open Go Go.Am Go.Proofs
set_option maxRecDepth 100000
theorem zgs {c:Ct} {s:Ste} (hS:Shp c s) (x:Evn):(qff s x).ends.length=s.ends.length∧(qff s x).valves.length=s.valves.length∧(qff s x).inputs.length=s.inputs.length∧(qff s x).values.length=s.values.length∧(qff s x).timers.length=s.timers.length:=by
 unfold qff
 split
 ·simp
 ·split
  ·simp
  ·simp
set_option maxHeartbeats 1000000 in
theorem ev57 {c:Ct} {s:Ste} (h:Rdy c s) (x:Evn):ev pg (.call (.fn 57 [] []) [c.v,s.v,x.v] [])=some { v:=znc (qap c s x),st:=⟨[],[]⟩ }:=by
 have e60:=ev56 s h.small
 obtain ⟨kd,id,vl⟩:=x
 obtain ⟨l1,l2,l3,l4,l5⟩:=zgs h.shp ⟨kd,id,vl⟩
 unfold qap
 rw [qac,pg57]
 by_cases hlo:kd < 0
 ·rw [if_pos (.inl hlo)]
  simp [ir57,e60,hlo,zeroS]
 ·by_cases hhi:2 < kd
  ·rw [if_pos (.inr hhi)]
   have hhi':(3:Int)≤kd:=by omega
   simp [ir57,e60,hlo,hhi',zeroS]
  ·have hk:¬ (kd < 0∨2 < kd):=by omega
   rw [if_neg hk]
   have e91:=ev94 h.shp id vl
   have e92:=ev95 h.shp id vl
   have e93:=ev96 h.shp id vl
   have hkd:kd=0∨kd=1∨kd=2:=by omega
   rcases hkd with rfl | rfl | rfl
   ·cases hm:q1x s ⟨0,id,vl⟩ with
    | false =>
     rw [hm] at e91
     simp only [Bool.false_eq_true,if_false] at e91
     simp at e91
     simp [qaa,exT,qad,ir57,e60,e91,zeroS]
    | true =>
     rw [hm] at e91
     simp only [if_true] at e91
     have hR:Rdy c (qff s ⟨0,id,vl⟩):=⟨h.few,qgt h.st hk hm⟩
     have e16:=ev54 c (qff s ⟨0,id,vl⟩) h.few hR.small
     unfold qqx at e16
     rw [if_pos hR.st] at e16
     generalize qff s ⟨0,id,vl⟩=u at *
     generalize qji c u=z at *
     simp [l1,l2,l3,l4,l5] at e91
     simp [qaa,exT,qad,ir57,e60,e91,e16,l1,l2,l3,l4,l5]
   ·cases hm:q1x s ⟨1,id,vl⟩ with
    | false =>
     rw [hm] at e92
     simp only [Bool.false_eq_true,if_false] at e92
     simp at e92
     simp [qaa,exT,qad,ir57,e60,e92,zeroS]
    | true =>
     rw [hm] at e92
     simp only [if_true] at e92
     have hR:Rdy c (qff s ⟨1,id,vl⟩):=⟨h.few,qgt h.st hk hm⟩
     have e16:=ev54 c (qff s ⟨1,id,vl⟩) h.few hR.small
     unfold qqx at e16
     rw [if_pos hR.st] at e16
     generalize qff s ⟨1,id,vl⟩=u at *
     generalize qji c u=z at *
     simp [l1,l2,l3,l4,l5] at e92
     simp [qaa,exT,qad,ir57,e60,e92,e16,l1,l2,l3,l4,l5]
   ·cases hm:q1x s ⟨2,id,vl⟩ with
    | false =>
     rw [hm] at e93
     simp only [Bool.false_eq_true,if_false] at e93
     simp at e93
     simp [qaa,exT,qad,ir57,e60,e93,zeroS]
    | true =>
     rw [hm] at e93
     simp only [if_true] at e93
     have hR:Rdy c (qff s ⟨2,id,vl⟩):=⟨h.few,qgt h.st hk hm⟩
     have e16:=ev54 c (qff s ⟨2,id,vl⟩) h.few hR.small
     unfold qqx at e16
     rw [if_pos hR.st] at e16
     generalize qff s ⟨2,id,vl⟩=u at *
     generalize qji c u=z at *
     simp [l1,l2,l3,l4,l5] at e93
     simp [qaa,exT,qad,ir57,e60,e93,e16,l1,l2,l3,l4,l5]
def qhp (c:Ct) (s:Ste) (x:Evn):Ste × List Int × Int:=if quE c s=0 then qap c s x else (zeroS,[],quE c s)
theorem ev66 (c:Ct) (s:Ste) (hfew:c.small=true) (hs:s.small) (x:Evn):ev pg (.call (.fn 66 [] []) [c.v,s.v,x.v] [])=some { v:=znc (qhp c s x),st:=⟨[],[]⟩ }:=by
 have e49:=ev55 c s hfew hs
 unfold qhp
 rw [qac,pg66]
 by_cases h:quE c s=0
 ·have e61:=ev57 (zad hfew h) x
  rw [if_pos h]
  rw [h] at e49
  generalize qap c s x=z at *
  simp [ir66,e49,e61]
 ·rw [if_neg h]
  have hb:(quE c s == 0)=false:=by simpa using h
  generalize quE c s=e at *
  simp [ir66,e49,h,hb,zeroS]
def T62 (x y:Ste) (k:Nat) (a:Nat × Nat):Tm:=[none,none,some (.bptr 0 0),some (.bptr 1 0),some (.sl 2 0 0 0 0),some (.sl 3 a.1 a.2 0 (qgn x y k).length),none,none,none,some (qck y.ends),some (num y.ends.length),some (num k)]++List.replicate 28 none
set_option maxHeartbeats 1000000 in
theorem z8a (x y:Ste) (hs:x.small) (he:y.ends.length=x.ends.length) {st:St} (a0:Nat × Nat) (g0:gm2 a0) (h0:At (T62 x y 0 a0) (h64 x y 0 a0) st):∃ r,ev pg (.code (.going 4 L58_0) st)=some r∧∃ a,gm2 a∧qaj (.exit 0) (T62 x y y.ends.length a) (h64 x y y.ends.length a) r:=by
 have hse:=hs.e
 refine qdp y.ends.length (T62 x y) (h64 x y) (fun _ a=>gm2 a) _ ?_ ?_ a0 g0 h0
 ·rintro k ⟨g,m⟩ f hf hk2 hG
  have hk':(k:Int) < y.ends.length:=by omega
  have hk:k < x.ends.length:=by omega
  have wk:=qab (n:=(k:Int) + 1) (by omega) (by omega)
  have hsl:=qsv x y k
  have hp:qma x y k=if (y.ends[k]=1∨y.ends[k]=3)∧x.ends[k] ≠ y.ends[k] then some ((k:Int),y.ends[k] == 1) else none:=by
   unfold qma
   rw [List.getElem?_eq_getElem hk,List.getElem?_eq_getElem hk2]
  unfold T62 h64
  rw [qze,hp]
  generalize qgn x y k=B at *
  have hb1:(B.length + 1) * 16≤140737488355328:=by omega
  have hmm:m=2∨m=0:=hG
  by_cases h2:y.ends[k]=x.ends[k]
  ·have h2s:¬ x.ends[k] ≠ y.ends[k]:=fun h=>h h2.symm
   rw [if_neg (fun h=>h2s h.2)]
   rcases hmm with rfl | rfl <;> simp [L58_0,hk,hk',hk2,wk,h2,hf.ne]
  ·have h2b:(y.ends[k] == x.ends[k])=false:=by simpa using h2
   have h2n:(y.ends[k] != x.ends[k])=true:=by simpa using h2
   have h2s:x.ends[k] ≠ y.ends[k]:=fun h=>h2 h.symm
   by_cases h1:y.ends[k]=1
   ·rw [if_pos ⟨.inl h1,h2s⟩]
    rw [h1] at h2 h2b h2n
    rcases hmm with rfl | rfl <;> simp [L58_0,hk,hk',hk2,wk,h1,h2,h2b,h2n,hb1,hf.ne]
   ·have h1b:(y.ends[k] == 1)=false:=by simpa using h1
    by_cases h3:y.ends[k]=3
    ·rw [if_pos ⟨.inr h3,h2s⟩]
     rw [h3] at h2 h2b h2n
     rcases hmm with rfl | rfl <;> simp [L58_0,hk,hk',hk2,wk,h3,h2,h2b,h2n,hb1,hf.ne]
    ·have h3b:(y.ends[k] == 3)=false:=by simpa using h3
     rw [if_neg (fun h=>h.1.elim h1 h3)]
     rcases hmm with rfl | rfl <;> simp [L58_0,hk,hk',hk2,wk,h1,h1b,h2,h2b,h2n,h3,h3b,hf.ne]
 ·rintro ⟨g,m⟩ f hf hG
  unfold T62 h64
  generalize qgn x y y.ends.length=B at *
  have hmm:m=2∨m=0:=hG
  rcases hmm with rfl | rfl <;> simp [L58_0,hf.ne]
theorem ev58 (x y:Ste) (hs:x.small) (he:y.ends.length=x.ends.length):ev pg (.call (.fn 58 [] []) [x.v,y.v] [])=some { v:=q6j (qcv x y),st:=⟨[],[]⟩ }:=by
 have hl:=@z8a x y hs he
 have z0:qgn x y 0=[]:=rfl
 have z1:qgn x y y.ends.length=qcv x y:=by rw [he]; rfl
 unfold h64 T62 at hl
 rw [z0,z1] at hl
 generalize qcv x y=B at *
 rw [qac,pg58]
 simp [ir58,qag]
 generalize hr:ev pg (.code (.going _ L58_0) _)=o
 obtain ⟨r,rfl,⟨g,m⟩,hm,f,hf,rfl⟩:∃ r,o=some r∧_:=by rw [← hr]; exact hl (0,0) (.inr rfl) (by simp)
 clear hr
 have hmm:m=2∨m=0:=hm
 rcases hmm with rfl | rfl <;> simp
structure Crs.small (r:Crs):Prop where
 st:r.st.small
 len:r.strokes.length≤100000
 each:∀ l ∈ r.strokes,l.length≤100000
 conf:r.conf.length≤4096
theorem qiw:zeroS.small:=⟨by simp [zeroS],by simp [zeroS],by simp [zeroS],by simp [zeroS],by simp [zeroS]⟩
theorem q8t (a b:Ste):(qcv a b).length≤a.ends.length:=by rw [q9x]; exact qsv _ _ _
theorem q9t (c:Ct) (hc:c.check=0):qbk c=qqx c (qnw c):=by
 unfold qbk qqx
 rw [if_pos hc,if_pos (qht hc)]
theorem qzi {c:Ct} {s:Ste} (h:Rdy c s) (x:Evn):(qap c s x).1.small:=by
 by_cases hz:(qap c s x).2.2=0
 ·exact Rdy.small ⟨h.few,q1r h.st hz⟩
 ·unfold qap at hz ⊢
  split
  ·exact qiw
  ·rename_i h1
   rw [if_neg h1] at hz
   split
   ·rename_i h2
    rw [if_pos h2] at hz
    unfold qji at hz ⊢
    cases e:qlr c (qff s x) with
    | none=>exact qiw
    | some y=>rw [e] at hz; exact absurd rfl hz
   ·exact qiw
theorem q2d {c:Ct} (hc:c.small=true) (s:Ste) (x:Evn):(qhp c s x).1.small:=by
 unfold qhp
 split
 ·rename_i h
  exact qzi (zad hc h) x
 ·exact qiw
end Go.Proofs.YtlhciedghbmjjaaGreat
namespace Go.Proofs.YtlhciedghbmjjaaGreat
open Go Go.Am Go.Proofs
set_option maxRecDepth 1000000
def one:Ct:=⟨1,[[115,116,97,114,116]],[⟨[109],1,.mk 3 0 [.mk 1 2 [],.mk 1 0 []],.mk 1 1 [],0,false⟩,⟨[103],0,.mk 2 0 [.mk 1 3 []],.mk 0 0 [],0,false⟩],[3],[4]⟩
def z7o:Evn:=⟨2,0,true⟩
theorem zqf:evN pg 200 (.call (.fn 37 [] []) [] [])=some { v:=one.v,st:=⟨[],[]⟩ }:=by kernel_rfl
theorem ev37:ev pg (.call (.fn 37 [] []) [] [])=some { v:=one.v,st:=⟨[],[]⟩ }:=zmd zqf
theorem zod:one.small=true:=by kernel_rfl
def begE (a b:Ste):Int:=if a.ends.length ≠ b.ends.length∨6 < a.ends.length then 8 else if (a.ends++b.ends).any (qer 4)=true then 1 else 0
def zqo (a b:Ste):List (Int × Bool):=if begE a b=0 then qcv a b else []
def T38 (n k:Nat):Tm:=[none,none,some (.bptr 0 0),some (.bptr 1 0),none,some (num 0)]++List.replicate 20 none++[some (.sl 2 0 1 0 n),some (num n),some (num k)]++List.replicate 13 none
def z0p:Tm:=[none,none,none,none,some .nils,some (num 1)]++List.replicate 36 none
abbrev h38 (a b:Ste) (l:List Int):H:=[⟨0,.box a.cells⟩,⟨0,.box b.cells⟩,⟨0,.arr 1 (l.map qfb)⟩,o0]
theorem z7k (a b:Ste) (l:List Int) (hl:l.length≤100000) {st:St} (h0:At (T38 l.length 0) (h38 a b l) st):∃ r,ev pg (.code (.going 4 L67_0) st)=some r∧qls l.length (fun k=>qer 4 ((l[k]?).getD 0)) (fun _=>qaj .ret z0p (h38 a b l)) (qaj (.exit 0) (T38 l.length l.length) (h38 a b l)) r:=by
 refine qcx _ _ (T38 l.length) (h38 a b l) _ _ ?_ ?_ ?_ h0
 ·intro k f hf hk hp
  have hk':(k:Int) < l.length:=by omega
  have wk:=qab (n:=(k:Int) + 1) (by omega) (by omega)
  have hp':¬ l[k] < 0∧¬ 4≤l[k]:=by simpa [qer,hk] using hp
  simp [T38,L67_0,hk,hk',wk,hp',hf.ne]
 ·intro k f hf hk hp
  have hk':(k:Int) < l.length:=by omega
  have hp':l[k] < 0∨4≤l[k]:=by simpa [qer,hk] using hp
  by_cases h1:l[k] < 0
  ·simp [T38,z0p,L67_0,hk,hk',h1,hf.ne]
  ·have h2:4≤l[k]:=by omega
   simp [T38,z0p,L67_0,hk,hk',h1,h2,hf.ne]
 ·intro f hf
  simp [T38,L67_0,hf.ne]
theorem zdw {l:List Int} {X:Nat→R→Prop} {Y:R→Prop} {r:R} (h:qls l.length (fun k=>qer 4 ((l[k]?).getD 0)) X Y r):(l.any (qer 4)=true∧∃ k,X k r)∨(l.any (qer 4)=false∧Y r):=by
 rcases h with ⟨k,hk,hp,-,hX⟩ | ⟨hp,hY⟩
 ·refine .inl ⟨List.any_eq_true.2 ⟨l[k],List.getElem_mem hk,by simpa [hk] using hp⟩,k,hX⟩
 ·refine .inr ⟨?_,hY⟩
  rw [List.any_eq_false]
  intro x hx
  obtain ⟨k,hk,rfl⟩:=List.getElem_of_mem hx
  have:=hp k hk
  simpa [hk] using this
theorem q9e {a b:Ste} (h:a.ends.length ≠ b.ends.length∨6 < a.ends.length):begE a b=8:=by unfold begE; rw [if_pos h]
theorem zdt {a b:Ste} (h1:a.ends.length=b.ends.length) (h2:¬ 6 < a.ends.length):begE a b=if (a.ends++b.ends).any (qer 4)=true then 1 else 0:=by unfold begE; rw [if_neg (by omega)]
theorem ev67 (a b:Ste) (ha:a.small) (hb:b.small):ev pg (.call (.fn 67 [] []) [a.v,b.v] [])=some { v:=.tup [q6j (zqo a b),num (begE a b)],st:=⟨[],[]⟩ }:=by
 unfold zqo
 rw [qac,pg67]
 by_cases h1:a.ends.length=b.ends.length
 ·have h1':(a.ends.length:Int)=b.ends.length:=by omega
  by_cases h2:6 < a.ends.length
  ·rw [q9e (.inr h2)]
   have h2b:(6:Int) < b.ends.length:=by omega
   simp [ir67,h1',h2b]
  ·rw [zdt h1 h2]
   have h2b:¬ (6:Int) < b.ends.length:=by omega
   have e62:=ev58 a b ha h1.symm
   have e32:=ev72c [a.ends,b.ends] (by simp) (by simp) (by simp; have:=ha.e; have:=hb.e; omega)
   have hl:=@z7k a b (a.ends++b.ends) (by simp; have:=ha.e; have:=hb.e; omega)
   simp only [zag,List.map_cons,List.map_nil,List.flatten_cons,List.flatten_nil,List.append_nil] at e32
   generalize a.ends++b.ends=l at *
   generalize qcv a b=F at *
   generalize hB:l.any (qer 4)=B
   simp [ir67,h1',h2b,e32,qag,qcj,qee,qkj,qdy]
   generalize hr:ev pg (.code (.going _ L67_0) _)=o
   obtain ⟨r,rfl,hQ⟩:∃ r,o=some r∧_:=by rw [← hr]; exact hl (by simp [T38])
   clear hr
   have hfa:=zdw hQ
   rw [hB] at hfa
   clear hQ
   rcases hfa with ⟨rfl,k,f,hf,rfl⟩ | ⟨rfl,f,hf,rfl⟩
   ·simp [z0p,qcj,qee,qkj,qdy]
   ·simp [T38,e62,qcj,qee,qkj,qdy]
 ·rw [q9e (.inl h1)]
  have h1':¬ (a.ends.length:Int)=b.ends.length:=by omega
  have hne:((a.ends.length:Int) != (b.ends.length:Int))=true:=by rw [bne_iff_ne]; exact h1'
  simp [ir67,h1',hne]
end Go.Proofs.YtlhciedghbmjjaaGreat
