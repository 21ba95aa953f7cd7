/- Presses of machines: their checks, by the program and by the reference. Kinds of faults, by the program and by the reference. All faults, by the reference. Pilots, by the reference. What a fault touches, by the reference. Ascending lists of numbers. -/
import Derived.Test.YtlhciedghbmjjaaGreatSi1
import Derived.Test.YtlhciedghbmjjaaGreatCq3
set_option linter.all false
namespace Go.Proofs.YtlhciedghbmjjaaGreat
open Go Go.Am Go.Proofs
set_option maxRecDepth 100000
def prevT (l:List Prs):Nat→Option Int
 | 0=>none
 | k + 1=>(l[k]?).map Prs.t
def pErr (n:Nat) (l:List Prs) (k:Nat):Int :=
 match l[k]? with
 | none=>0
 | some x=>if x.t < 0∨1000000 < x.t then 2 else if x.i < 0∨(n:Int)≤x.i then 6 else if x.t < (prevT l k).getD x.t then 9 else 0
def presE (n:Nat) (l:List Prs):Int:=(((List.range l.length).find? fun k=>pErr n l k != 0).map (pErr n l)).getD 0
def givenE (m:Mch) (l:List Prs) (u:Int):Int :=
 if checkM m ≠ 0 then checkM m else if 256 < l.length then 5 else if presE m.c.inputs.length l ≠ 0 then presE m.c.inputs.length l else if u < 0∨1000000 < u then 2 else 0
theorem pErr_lt {n:Nat} {l:List Prs} {k:Nat} (hk:k < l.length):pErr n l k=if l[k].t < 0∨1000000 < l[k].t then 2 else if l[k].i < 0∨(n:Int)≤l[k].i then 6 else if l[k].t < (prevT l k).getD l[k].t then 9 else 0:=by
 unfold pErr
 rw [List.getElem?_eq_getElem hk]
theorem find_first {N:Nat} {p:Nat→Bool} {k:Nat} (hk:k < N) (hp:p k=true) (hj:∀ j,j < k→p j=false):(List.range N).find? p=some k:=by
 rw [List.find?_eq_some_iff_getElem]
 refine ⟨hp,k,by simpa using hk,by simp,fun j hj'=>?_⟩
 simp [hj j hj']
theorem find_none {N:Nat} {p:Nat→Bool} (hj:∀ j,j < N→p j=false):(List.range N).find? p=none:=by
 rw [List.find?_eq_none]
 intro j hj'
 simp [hj j (List.mem_range.1 hj')]
theorem finds_pres {n:Nat} {l:List Prs} {X:Nat→R→Prop} {Y:R→Prop} {r:R} (h:Finds l.length (fun k=>pErr n l k != 0) X Y r):(∃ k,presE n l=pErr n l k∧presE n l ≠ 0∧X k r)∨(presE n l=0∧Y r):=by
 unfold presE
 rcases h with ⟨k,hk,hp,hj,hX⟩ | ⟨hp,hY⟩
 ·rw [find_first hk hp hj]
  refine .inl ⟨k,rfl,?_,hX⟩
  simpa using hp
 ·rw [find_none hp]
  exact .inr ⟨rfl,hY⟩
def yT39 (l:List Prs) (u:Int) (k:Nat):Tm:=[none,some (prs l),some (num u),some (.bptr 0 0),none,none,some (num 0)]++List.replicate 11 none++[some (prs l),some (num l.length),some (num k)]++List.replicate 47 none
def yT39r (e:Int):Tm:=[none,none,none,none,none,none,some (num e)]++List.replicate 61 none
abbrev yh39r (m:Mch) (x:Prs):H:=[⟨0,.box m.cells⟩,⟨0,.box x.row⟩]
theorem ylp39 (m:Mch) (l:List Prs) (u:Int) (hl:l.length≤256) {st:St} (h0:At (yT39 l u 0) (yh15 m) st):∃ r,ev pg (.code (.going 1 L39_0) st)=some r∧Finds l.length (fun k=>pErr m.c.inputs.length l k != 0) (fun k r=>∃ x,EndsAs .ret (yT39r (pErr m.c.inputs.length l k)) (yh39r m x) r) (EndsAs (.exit 0) (yT39 l u l.length) (yh15 m)) r:=by
 refine loop_first _ _ (yT39 l u) (yh15 m) _ _ ?_ ?_ ?_ h0
 ·intro k f hf hk hp
  have hk':(k:Int) < l.length:=by omega
  have wk:=wrap_id (n:=(k:Int) + 1) (by omega) (by omega)
  have hp':pErr m.c.inputs.length l k=0:=by simpa using hp
  rw [pErr_lt hk] at hp'
  by_cases p1:l[k].t < 0∨1000000 < l[k].t
  ·rw [if_pos p1] at hp'; cases hp'
  rw [if_neg p1] at hp'
  by_cases p2:l[k].i < 0∨(m.c.inputs.length:Int)≤l[k].i
  ·rw [if_pos p2] at hp'; cases hp'
  rw [if_neg p2] at hp'
  by_cases p3:l[k].t < (prevT l k).getD l[k].t
  ·rw [if_pos p3] at hp'; cases hp'
  have a1:¬ l[k].t < 0:=fun h=>p1 (.inl h)
  have a2:¬ 1000000 < l[k].t:=fun h=>p1 (.inr h)
  have a3:¬ l[k].i < 0:=fun h=>p2 (.inl h)
  have a4:¬ (m.c.inputs.length:Int)≤l[k].i:=fun h=>p2 (.inr h)
  cases k with
  | zero =>
   have w1:IntKind.i64.wrap 1=1:=by decide
   simp [w1,ev_draw1,exT,chkOk,yT39,L39_0,hk,hk',wk,a1,a2,a3,a4,hf.ne]
  | succ j =>
   have hj:j < l.length:=by omega
   have a5:¬ l[j + 1].t < l[j].t:=by simpa [prevT,hj] using p3
   have wj:=wrap_id (n:=(j:Int) + 1 + 1) (by omega) (by omega)
   have wj0:=wrap_id (n:=(j:Int)) (by omega) (by omega)
   have wj1:=wrap_id (n:=(j:Int) + 1) (by omega) (by omega)
   have hj':(j:Int) + 1 < l.length:=by omega
   have hj0:(0:Int) < (j:Int) + 1:=by omega
   have hj00:(0:Int)≤(j:Int) + 1:=by omega
   simp [ev_draw1,exT,chkOk,yT39,L39_0,hk,hj,hj',hj0,hj00,wj,wj0,wj1,a1,a2,a3,a4,a5,hf.ne]
 ·intro k f hf hk hp
  have hk':(k:Int) < l.length:=by omega
  have hp':pErr m.c.inputs.length l k ≠ 0:=by simpa using hp
  clear hp
  rw [pErr_lt hk] at hp' ⊢
  refine (?_:∃ r,ev pg (.code L39_0 ⟨fill f 0 (yT39 l u k),yh15 m⟩)=some r∧r.x ≠ .normal∧EndsAs .ret (yT39r _) (yh39r m l[k]) r).imp fun r h=>⟨h.1,h.2.1,l[k],h.2.2⟩
  by_cases p1:l[k].t < 0∨1000000 < l[k].t
  ·rw [if_pos p1]
   by_cases a1:l[k].t < 0
   ·simp [yT39,yT39r,L39_0,hk,hk',a1,hf.ne]
   ·have a2:1000000 < l[k].t:=by omega
    simp [yT39,yT39r,L39_0,hk,hk',a1,a2,hf.ne]
  rw [if_neg p1] at hp' ⊢
  have a1:¬ l[k].t < 0:=fun h=>p1 (.inl h)
  have a2:¬ 1000000 < l[k].t:=fun h=>p1 (.inr h)
  by_cases p2:l[k].i < 0∨(m.c.inputs.length:Int)≤l[k].i
  ·rw [if_pos p2]
   by_cases a3:l[k].i < 0
   ·simp [yT39,yT39r,L39_0,hk,hk',a1,a2,a3,hf.ne]
   ·have a4:(m.c.inputs.length:Int)≤l[k].i:=by omega
    simp [yT39,yT39r,L39_0,hk,hk',a1,a2,a3,a4,hf.ne]
  rw [if_neg p2] at hp' ⊢
  have a3:¬ l[k].i < 0:=fun h=>p2 (.inl h)
  have a4:¬ (m.c.inputs.length:Int)≤l[k].i:=fun h=>p2 (.inr h)
  by_cases p3:l[k].t < (prevT l k).getD l[k].t
  ·rw [if_pos p3]
   cases k with
   | zero=>simp [prevT] at p3
   | succ j =>
    have hj:j < l.length:=by omega
    have a5:l[j + 1].t < l[j].t:=by simpa [prevT,hj] using p3
    have wj0:=wrap_id (n:=(j:Int)) (by omega) (by omega)
    have hj':(j:Int) + 1 < l.length:=by omega
    have hj0:(0:Int) < (j:Int) + 1:=by omega
    have hj00:(0:Int)≤(j:Int) + 1:=by omega
    simp [ev_draw1,exT,chkOk,yT39,yT39r,L39_0,hk,hj,hj',hj0,hj00,wj0,a1,a2,a3,a4,a5,hf.ne]
  ·rw [if_neg p3] at hp'
   exact absurd rfl hp'
 ·intro f hf
  simp [yT39,L39_0,hf.ne]
theorem ev39 (m:Mch) (hc:m.c.small=true) (ht:m.ts.length≤100000) (l:List Prs) (hl:l.length≤100000) (u:Int):ev pg (.call (.fn 39 [] []) [m.v,prs l,num u] [])=some { v:=num (givenE m l u),st:=⟨[],[]⟩ }:=by
 have e15:=ev15 m hc ht
 rw [ev_call,pg39]
 unfold givenE
 by_cases h1:checkM m=0
 ·rw [if_neg (by simp [h1])]
  rw [h1] at e15
  by_cases h2:256 < l.length
  ·rw [if_pos h2]
   have h2':(256:Int) < l.length:=by omega
   simp [ir39,e15,h2']
  ·rw [if_neg h2]
   have h2':¬ (256:Int) < l.length:=by omega
   have hlp:=@ylp39 m l u (by omega)
   simp [ir39,e15,h2',ev_loop]
   generalize hr:ev pg (.code (.going _ L39_0) _)=o
   obtain ⟨r,rfl,hQ⟩:∃ r,o=some r∧_:=by rw [← hr]; exact hlp (by simp [yT39])
   clear hr
   have hfa:=finds_pres hQ
   clear hQ
   rcases hfa with ⟨k,e1,e2,x,f,hf,rfl⟩ | ⟨e1,f,hf,rfl⟩
   ·rw [e1] at e2 ⊢
    generalize pErr m.c.inputs.length l k=e at *
    simp [yT39r,e2]
   ·rw [e1]
    by_cases h3:u < 0
    ·simp [yT39,h3]
    ·by_cases h4:1000000 < u
     ·simp [yT39,h3,h4]
     ·simp [yT39,h3,h4]
 ·rw [if_pos h1]
  have hb:(checkM m == 0)=false:=by simpa using h1
  generalize checkM m=e at *
  simp [ir39,e15,h1,hb]
theorem mid_check {c:Ct} (h:c.check=0) (hfew:c.small=true):Mid c c.act.toNat:=by
 obtain ⟨f1,f2,_⟩:=few_parts hfew
 unfold Ct.check at h
 split at h
 ·cases h
 ·exact ⟨by omega,by omega,by omega,f1,f2⟩
abbrev frow (p:Int × Int):List V:=[num p.1,num p.2]
abbrev faults (l:List (Int × Int)):V:=.imm (l.map frow)
def lineV (k:Int):Int:=if k=2 then 1 else 0
def pil (c:Ct) (k i:Int) (j:Nat):Int × Int :=
 if k=2∨k=3 then (if c.plus.getD j 0=i then lineV k else -1,if c.minus.getD j 0=i then lineV k else -1)
 else if (j:Int)=i then (if k=0 then (0,-1) else if k=1 then (-1,0) else if k=4 then (1,0) else (0,1)) else (-1,-1)
def selL (f:Nat→Bool) (b:Int) (n:Nat):List Int:=((List.range n).filter f).map fun (j:Nat)=>b + (j:Int)
theorem selL_succ (f:Nat→Bool) (b:Int) (n:Nat):selL f b (n + 1)=if f n=true then selL f b n++[b + (n:Int)] else selL f b n:=by
 unfold selL
 rw [List.range_succ,List.filter_append,List.map_append]
 cases h:f n <;> simp [h]
theorem selL_len (f:Nat→Bool) (b:Int) (n:Nat):(selL f b n).length≤n:=by
 unfold selL
 rw [List.length_map]
 exact Nat.le_trans (List.length_filter_le _ _) (by simp)
theorem selL_mem (f:Nat→Bool) (b:Int) (n:Nat) (v:Int):v ∈ selL f b n ↔ ∃ j:Nat,j < n∧f j=true∧v=b + (j:Int):=by
 unfold selL
 simp only [List.mem_map,List.mem_filter,List.mem_range]
 constructor
 ·rintro ⟨j,⟨h1,h2⟩,rfl⟩
  exact ⟨j,h1,h2,rfl⟩
 ·rintro ⟨j,h1,h2,rfl⟩
  exact ⟨j,⟨h1,h2⟩,rfl⟩
def Asc (l:List Int):Prop:=l.Pairwise (· < ·)
theorem asc_ext:∀ {l m:List Int},Asc l→Asc m→(∀ x,x ∈ l ↔ x ∈ m)→l=m
 | [],[],_,_,_=>rfl
 | [],y :: m,_,_,h=>absurd ((h y).2 (by simp)) (by simp)
 | x :: l,[],_,_,h=>absurd ((h x).1 (by simp)) (by simp)
 | x :: l,y :: m,hl,hm,h=>by
  have hl':=List.pairwise_cons.1 hl
  have hm':=List.pairwise_cons.1 hm
  have hxy:x=y:=by
   rcases List.mem_cons.1 ((h x).1 (by simp)) with e | e
   ·exact e
   ·rcases List.mem_cons.1 ((h y).2 (by simp)) with e2 | e2
    ·exact e2.symm
    ·have h1:=hm'.1 x e
     have h2:=hl'.1 y e2
     omega
  subst hxy
  congr 1
  refine asc_ext hl'.2 hm'.2 fun z=>⟨fun hz=>?_,fun hz=>?_⟩
  ·rcases List.mem_cons.1 ((h z).1 (by simp [hz])) with e | e
   ·have:=hl'.1 z hz; omega
   ·exact e
  ·rcases List.mem_cons.1 ((h z).2 (by simp [hz])) with e | e
   ·have:=hm'.1 z hz; omega
   ·exact e
def norm (N:Nat) (l:List Int):List Int:=selL (fun k=>l.contains (k:Int)) 0 N
theorem norm_asc (N:Nat) (l:List Int):Asc (norm N l):=by
 unfold norm selL Asc
 rw [List.pairwise_map]
 refine List.Pairwise.imp ?_ ((List.pairwise_lt_range (n:=N)).filter _)
 intro a b h
 omega
theorem mem_norm {N:Nat} {l:List Int} {x:Int}:x ∈ norm N l ↔ x ∈ l∧0≤x∧x < N:=by
 unfold norm selL
 simp only [List.mem_map,List.mem_filter,List.mem_range,List.contains_iff_mem]
 constructor
 ·rintro ⟨k,⟨h1,h2⟩,rfl⟩
  simp only [Int.zero_add]
  exact ⟨h2,by omega,by omega⟩
 ·rintro ⟨h1,h2,h3⟩
  exact ⟨x.toNat,⟨by omega,by rw [Int.toNat_of_nonneg h2]; exact h1⟩,by omega⟩
theorem norm_self {N:Nat} {l:List Int} (hl:Asc l) (h:∀ x ∈ l,0≤x∧x < (N:Int)):norm N l=l :=
 asc_ext (norm_asc N l) hl fun x=>by rw [mem_norm]; exact ⟨fun a=>a.1,fun a=>⟨a,h x a⟩⟩
theorem norm_congr {N:Nat} {l m:List Int} (h:∀ x:Int,0≤x→x < N→(x ∈ l ↔ x ∈ m)):norm N l=norm N m :=
 asc_ext (norm_asc N l) (norm_asc N m) fun x=>by
  rw [mem_norm,mem_norm]
  exact ⟨fun a=>⟨(h x a.2.1 a.2.2).1 a.1,a.2⟩,fun a=>⟨(h x a.2.1 a.2.2).2 a.1,a.2⟩⟩
def compactL:List Int→List Int
 | []=>[]
 | [x]=>[x]
 | x :: y :: l=>if x=y then compactL (y :: l) else x :: compactL (y :: l)
theorem mem_compact:∀ {l:List Int} {z:Int},z ∈ compactL l ↔ z ∈ l
 | [],z=>by simp [compactL]
 | [x],z=>by simp [compactL]
 | x :: y :: l,z=>by
  rw [compactL]
  split
  ·rename_i h
   rw [mem_compact (l:=y :: l)]
   subst h
   simp
  ·rw [List.mem_cons,mem_compact (l:=y :: l),List.mem_cons (a:=z) (b:=x)]
theorem compact_asc:∀ {l:List Int},l.Pairwise (·≤·)→Asc (compactL l)
 | [],_=>by rw [compactL]; exact List.Pairwise.nil
 | [x],_=>by rw [compactL]; exact List.pairwise_singleton ..
 | x :: y :: l,h=>by
  have h':=List.pairwise_cons.1 h
  have hy:=List.pairwise_cons.1 h'.2
  rw [compactL]
  split
  ·exact compact_asc h'.2
  ·rename_i hne
   refine List.pairwise_cons.2 ⟨fun z hz=>?_,compact_asc h'.2⟩
   rw [mem_compact] at hz
   have h1:=h'.1 y (by simp)
   rcases List.mem_cons.1 hz with e | e
   ·omega
   ·have:=hy.1 z e; omega
theorem compact_norm {N:Nat} {l m:List Int} (hs:m.Pairwise (·≤·)) (hp:∀ x,x ∈ m ↔ x ∈ l) (h:∀ x ∈ l,0≤x∧x < (N:Int)):compactL m=norm N l :=
 asc_ext (compact_asc hs) (norm_asc _ _) fun x=>by
  rw [mem_compact,hp,mem_norm]
  exact ⟨fun a=>⟨a,h x a⟩,fun a=>a.1⟩
end Go.Proofs.YtlhciedghbmjjaaGreat
