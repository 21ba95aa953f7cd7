/- Kinds of faults, by the program and by the reference. All faults, by the reference. Pilots, by the reference. What a fault touches, by the reference. Ascending lists of numbers. What a fault touches, by the reference. Clones; is a text in a list? Are lists equal? Are expressions and controls equal? The faulty control, by the program: names and signals. The faulty control, by the program: pilots and fresh names. The faulty control, by the program: a constant. States: how they stand in Am's memory; equal states, by the reference. -/
import Derived.Test.YtlhciedghbmjjaaGreatLo1
set_option linter.all false
namespace Go.Proofs.YtlhciedghbmjjaaGreat
open Go Go.Am Go.Proofs
set_option maxRecDepth 100000
theorem qsj {c:Ct} (h:c.check=0) (hfew:c.small=true):Mid c c.act.toNat:=by
 obtain ⟨f1,f2,_⟩:=qgc hfew
 unfold Ct.check at h
 split at h
 ·cases h
 ·exact ⟨by omega,by omega,by omega,f1,f2⟩
abbrev z7s (p:Int × Int):List V:=[num p.1,num p.2]
abbrev zcj (l:List (Int × Int)):V:=.imm (l.map z7s)
def zxj (k:Int):Int:=if k=2 then 1 else 0
def pil (c:Ct) (k i:Int) (j:Nat):Int × Int :=
 if k=2∨k=3 then (if c.plus.getD j 0=i then zxj k else -1,if c.minus.getD j 0=i then zxj k else -1)
 else if (j:Int)=i then (if k=0 then (0,-1) else if k=1 then (-1,0) else if k=4 then (1,0) else (0,1)) else (-1,-1)
def qyp (f:Nat→Bool) (b:Int) (n:Nat):List Int:=((List.range n).filter f).map fun (j:Nat)=>b + (j:Int)
theorem qza (f:Nat→Bool) (b:Int) (n:Nat):qyp f b (n + 1)=if f n=true then qyp f b n++[b + (n:Int)] else qyp f b n:=by
 unfold qyp
 rw [List.range_succ,List.filter_append,List.map_append]
 cases h:f n <;> simp [h]
theorem qri (f:Nat→Bool) (b:Int) (n:Nat):(qyp f b n).length≤n:=by
 unfold qyp
 rw [List.length_map]
 exact Nat.le_trans (List.length_filter_le _ _) (by simp)
theorem q5o (f:Nat→Bool) (b:Int) (n:Nat) (v:Int):v ∈ qyp f b n ↔ ∃ j:Nat,j < n∧f j=true∧v=b + (j:Int):=by
 unfold qyp
 simp only [List.mem_map,List.mem_filter,List.mem_range]
 constructor
 ·rintro ⟨j,⟨h1,h2⟩,rfl⟩
  exact ⟨j,h1,h2,rfl⟩
 ·rintro ⟨j,h1,h2,rfl⟩
  exact ⟨j,⟨h1,h2⟩,rfl⟩
def Asc (l:List Int):Prop:=l.Pairwise (· < ·)
theorem qsh:∀ {l m:List Int},Asc l→Asc m→(∀ x,x ∈ l ↔ x ∈ m)→l=m
 | [],[],_,_,_=>rfl
 | [],y :: m,_,_,h=>absurd ((h y).2 (by simp)) (by simp)
 | x :: l,[],_,_,h=>absurd ((h x).1 (by simp)) (by simp)
 | x :: l,y :: m,hl,hm,h=>by
  have hl':=List.pairwise_cons.1 hl
  have hm':=List.pairwise_cons.1 hm
  have hxy:x=y:=by
   rcases List.mem_cons.1 ((h x).1 (by simp)) with e | e
   ·exact e
   ·rcases List.mem_cons.1 ((h y).2 (by simp)) with e2 | e2
    ·exact e2.symm
    ·have h1:=hm'.1 x e
     have h2:=hl'.1 y e2
     omega
  subst hxy
  congr 1
  refine qsh hl'.2 hm'.2 fun z=>⟨fun hz=>?_,fun hz=>?_⟩
  ·rcases List.mem_cons.1 ((h z).1 (by simp [hz])) with e | e
   ·have:=hl'.1 z hz; omega
   ·exact e
  ·rcases List.mem_cons.1 ((h z).2 (by simp [hz])) with e | e
   ·have:=hm'.1 z hz; omega
   ·exact e
def norm (N:Nat) (l:List Int):List Int:=qyp (fun k=>l.contains (k:Int)) 0 N
theorem qlb (N:Nat) (l:List Int):Asc (norm N l):=by
 unfold norm qyp Asc
 rw [List.pairwise_map]
 refine List.Pairwise.imp ?_ ((List.pairwise_lt_range (n:=N)).filter _)
 intro a b h
 omega
theorem qhv {N:Nat} {l:List Int} {x:Int}:x ∈ norm N l ↔ x ∈ l∧0≤x∧x < N:=by
 unfold norm qyp
 simp only [List.mem_map,List.mem_filter,List.mem_range,List.contains_iff_mem]
 constructor
 ·rintro ⟨k,⟨h1,h2⟩,rfl⟩
  simp only [Int.zero_add]
  exact ⟨h2,by omega,by omega⟩
 ·rintro ⟨h1,h2,h3⟩
  exact ⟨x.toNat,⟨by omega,by rw [Int.toNat_of_nonneg h2]; exact h1⟩,by omega⟩
theorem zcs {N:Nat} {l:List Int} (hl:Asc l) (h:∀ x ∈ l,0≤x∧x < (N:Int)):norm N l=l :=
 qsh (qlb N l) hl fun x=>by rw [qhv]; exact ⟨fun a=>a.1,fun a=>⟨a,h x a⟩⟩
theorem qwk {N:Nat} {l m:List Int} (h:∀ x:Int,0≤x→x < N→(x ∈ l ↔ x ∈ m)):norm N l=norm N m :=
 qsh (qlb N l) (qlb N m) fun x=>by
  rw [qhv,qhv]
  exact ⟨fun a=>⟨(h x a.2.1 a.2.2).1 a.1,a.2⟩,fun a=>⟨(h x a.2.1 a.2.2).2 a.1,a.2⟩⟩
def mrg:List Int→List Int→List Int
 | [],m=>m
 | x :: l,[]=>x :: l
 | x :: l,y :: m=>if x < y then x :: mrg l (y :: m) else if y < x then y :: mrg (x :: l) m else x :: mrg l m
termination_by l m=>l.length + m.length
theorem qmr:∀ {l m:List Int} {z:Int},z ∈ mrg l m ↔ z ∈ l∨z ∈ m
 | [],m,z=>by rw [mrg]; simp
 | x :: l,[],z=>by rw [mrg]; simp
 | x :: l,y :: m,z=>by
  rw [mrg]
  split
  ·rw [List.mem_cons,qmr (l:=l) (m:=y :: m),List.mem_cons (a:=z) (b:=x),or_assoc]
  ·split
   ·rw [List.mem_cons,qmr (l:=x :: l) (m:=m),List.mem_cons (a:=z) (b:=y) (l:=m)]
    exact ⟨fun h=>h.elim (fun h=>.inr (.inl h)) fun h=>h.elim .inl fun h=>.inr (.inr h),fun h=>h.elim (fun h=>.inr (.inl h)) fun h=>h.elim .inl fun h=>.inr (.inr h)⟩
   ·rename_i h1 h2
    have:x=y:=by omega
    subst this
    rw [List.mem_cons,qmr (l:=l) (m:=m),List.mem_cons,List.mem_cons]
    exact ⟨fun h=>h.elim (fun h=>.inl (.inl h)) fun h=>h.elim (fun h=>.inl (.inr h)) fun h=>.inr (.inr h),fun h=>h.elim (fun h=>h.elim .inl fun h=>.inr (.inl h)) fun h=>h.elim .inl fun h=>.inr (.inr h)⟩
termination_by l m=>l.length + m.length
theorem qwp:∀ {l m:List Int},Asc l→Asc m→Asc (mrg l m)
 | [],m,_,hm=>by rw [mrg]; exact hm
 | x :: l,[],hl,_=>by rw [mrg]; exact hl
 | x :: l,y :: m,hl,hm=>by
  have hl':=List.pairwise_cons.1 hl
  have hm':=List.pairwise_cons.1 hm
  rw [mrg]
  split
  ·refine List.pairwise_cons.2 ⟨fun z hz=>?_,qwp hl'.2 hm⟩
   rcases qmr.1 hz with h | h
   ·exact hl'.1 z h
   ·rcases List.mem_cons.1 h with h | h
    ·omega
    ·have:=hm'.1 z h; omega
  ·split
   ·refine List.pairwise_cons.2 ⟨fun z hz=>?_,qwp hl hm'.2⟩
    rcases qmr.1 hz with h | h
    ·rcases List.mem_cons.1 h with h | h
     ·omega
     ·have:=hl'.1 z h; omega
    ·exact hm'.1 z h
   ·refine List.pairwise_cons.2 ⟨fun z hz=>?_,qwp hl'.2 hm'.2⟩
    rcases qmr.1 hz with h | h
    ·exact hl'.1 z h
    ·have:=hm'.1 z h; omega
termination_by l m=>l.length + m.length
theorem zfq {N:Nat} {l m:List Int} (hl:Asc l) (hm:Asc m) (h1:∀ x ∈ l,0≤x∧x < (N:Int)) (h2:∀ x ∈ m,0≤x∧x < (N:Int)):mrg l m=norm N (l++m) :=
 qsh (qwp hl hm) (qlb _ _) fun x=>by
  rw [qmr,qhv,List.mem_append]
  exact ⟨fun h=>⟨h,h.elim (h1 x) (h2 x)⟩,fun h=>h.1⟩
def qav:List Int→List Int
 | []=>[]
 | [x]=>[x]
 | x :: y :: l=>if x=y then qav (y :: l) else x :: qav (y :: l)
theorem qiy:∀ {l:List Int} {z:Int},z ∈ qav l ↔ z ∈ l
 | [],z=>by simp [qav]
 | [x],z=>by simp [qav]
 | x :: y :: l,z=>by
  rw [qav]
  split
  ·rename_i h
   rw [qiy (l:=y :: l)]
   subst h
   simp
  ·rw [List.mem_cons,qiy (l:=y :: l),List.mem_cons (a:=z) (b:=x)]
theorem qmd:∀ {l:List Int},l.Pairwise (·≤·)→Asc (qav l)
 | [],_=>by rw [qav]; exact List.Pairwise.nil
 | [x],_=>by rw [qav]; exact List.pairwise_singleton ..
 | x :: y :: l,h=>by
  have h':=List.pairwise_cons.1 h
  have hy:=List.pairwise_cons.1 h'.2
  rw [qav]
  split
  ·exact qmd h'.2
  ·rename_i hne
   refine List.pairwise_cons.2 ⟨fun z hz=>?_,qmd h'.2⟩
   rw [qiy] at hz
   have h1:=h'.1 y (by simp)
   rcases List.mem_cons.1 hz with e | e
   ·omega
   ·have:=hy.1 z e; omega
theorem qqg {N:Nat} {l m:List Int} (hs:m.Pairwise (·≤·)) (hp:∀ x,x ∈ m ↔ x ∈ l) (h:∀ x ∈ l,0≤x∧x < (N:Int)):qav m=norm N l :=
 qsh (qmd hs) (qlb _ _) fun x=>by
  rw [qiy,hp,qhv]
  exact ⟨fun a=>⟨a,h x a⟩,fun a=>a.1⟩
theorem qom {f:Nat→Int}:∀ {n k:Nat},goE f k n=0→∀ j,k≤j→j < k + n→f j=0
 | 0,k,_,j,h1,h2=>by omega
 | n + 1,k,h,j,h1,h2=>by
  rw [goE] at h
  by_cases hf:f k=0
  ·rw [if_pos hf] at h
   by_cases hj:j=k
   ·rw [hj]; exact hf
   ·exact qom h j (by omega) (by omega)
  ·rw [if_neg hf] at h
   exact absurd h hf
structure Rgt (c:Ct) (A:Nat):Prop where
 mid:Mid c A
 plus:c.plus.length=A
 minus:c.minus.length=A
 on:∀ x ∈ c.signals,x.on.err (qai c A:Nat)=0
 off:∀ x ∈ c.signals,x.off.err (qai c A:Nat)=0∨x.off.zero=true
 name:∀ i x,c.signals[i]?=some x→qdm (qdh c A (qan c A + i)) x.name=0
 inp:∀ j,j < c.inputs.length→qdm (qdh c A (2 * A + j)) (qbp c A (2 * A + j))=0
 pp:c.plus.any (qer (qai c A))=false
 mm:c.minus.any (qer (qai c A))=false
theorem qsd {c:Ct} (h:c.check=0) (hfew:c.small=true):Rgt c c.act.toNat:=by
 have hM:=qsj h hfew
 generalize hA:c.act.toNat=A at *
 have h2:ctE c A=0:=by
  unfold Ct.check at h
  split at h
  ·cases h
  ·split at h
   ·cases h
   ·rw [hA] at h; exact h
 unfold ctE at h2
 split at h2
 ·rename_i hi
  split at h2
  ·rename_i hs
   have hsig:∀ i x,c.signals[i]?=some x→q1v c A (qdh c A (qan c A + i)) i x=0:=fun i x hx=>by
    have hil:i < c.signals.length:=by
     rcases Nat.lt_or_ge i c.signals.length with h | h
     ·exact h
     ·rw [List.getElem?_eq_none h] at hx; cases hx
    have h3:=qom hs i (by omega) (by omega)
    unfold qrm at h3
    rw [hx] at h3
    exact h3
   unfold zdz at h2
   split at h2
   ·cases h2
   ·rename_i hpl
    split at h2
    ·cases h2
    ·rename_i hbad
     refine ⟨hM,by omega,by omega,fun x hx=>?_,fun x hx=>?_,fun i x hx=>?_,fun j hj=>qom hi j (by omega) (by omega),?_,?_⟩
     ·obtain ⟨i,hil,rfl⟩:=List.mem_iff_getElem.1 hx
      have h3:=hsig i _ (List.getElem?_eq_getElem hil)
      unfold q1v at h3
      split at h3
      ·split at h3
       ·cases h3
       ·split at h3
        ·rename_i h4; exact qnz h4
        ·rename_i h4; exact absurd h3 h4
      ·rename_i h4; exact absurd h3 h4
     ·obtain ⟨i,hil,rfl⟩:=List.mem_iff_getElem.1 hx
      have h3:=hsig i _ (List.getElem?_eq_getElem hil)
      unfold q1v at h3
      split at h3
      ·split at h3
       ·cases h3
       ·rename_i hkr
        split at h3
        ·by_cases hk1:c.signals[i].kind=1
         ·refine .inl (qnz ?_)
          split at h3
          ·rename_i h5; exact absurd h3 h5.2
          ·rename_i h5
           exact Classical.byContradiction fun hne=>h5 ⟨hk1,hne⟩
         ·refine .inr ?_
          split at h3
          ·rename_i h5; exact absurd h5.1 hk1
          ·split at h3
           ·cases h3
           ·split at h3
            ·cases h3
            ·split at h3
             ·cases h3
             ·rename_i h6
              cases hz:c.signals[i].off.zero with
              | true=>rfl
              | false=>exact absurd (.inl ⟨hk1,.inl hz⟩) h6
        ·rename_i h4; exact absurd h3 h4
      ·rename_i h4; exact absurd h3 h4
     ·have h3:=hsig i x hx
      unfold q1v at h3
      split at h3
      ·rename_i h4; exact h4
      ·exact h3
     ·cases hb:c.plus.any (qer (qai c A)) with
      | false=>rfl
      | true=>exact absurd (.inl hb) hbad
     ·cases hb:c.minus.any (qer (qai c A)) with
      | false=>rfl
      | true=>exact absurd (.inr hb) hbad
  ·rename_i h4; exact absurd h2 h4
 ·rename_i h4; exact absurd h2 h4
theorem ev92 (l:List Int) (hl:l.length≤4096):ev pg (.call (.fn 92 [] []) [qck l] [])=some { v:=.sl 0 0 1 0 l.length,st:=⟨[],[⟨0,.arr 1 (l.map qfb)⟩]⟩ }:=by
 rw [qac,pg92]
 cases l with
 | nil=>simp [ir92,qcj,qee,qdy]
 | cons x l =>
  have h47:(l.length + 1) * 8≤140737488355328:=by
   simp only [List.length_cons] at hl
   omega
  simp [ir92,h47,qcj,qee,qdy]
def I38 (a b:List Int) (k:Nat) (st:St):Prop:=st.h=[]∧st.s.length=26∧qaq st.s 0=.imm (a.map qfb)∧qaq st.s 1=.imm (b.map qfb)∧qaq st.s 12=num a.length∧qaq st.s 13=num k∧decide (a=b)=decide (a.drop k=b.drop k)
def Q38 (a b:List Int) (r:R):Prop:=r.st.s.length=26∧r.st.h=[]∧((r.x=.exit 0∧decide (a=b)=true)∨(r.x=.ret∧qaq r.st.s 4=.bool false∧decide (a=b)=false))
theorem zsw (a b:List Int) (hab:b.length=a.length) (ha:a.length≤4096) (st:St) (h0:I38 a b 0 st):∃ r,ev pg (.code (.going 0 L129_0) st)=some r∧Q38 a b r:=by
 refine qbq (I38 a b) a.length (Q38 a b) h0 ?_ ?_
 ·rintro k ⟨s,hh⟩ hk ⟨rfl,hl,e0,e1,e12,e13,he⟩
  simp only at hl e0 e1 e12 e13
  have hk':(k:Int) < a.length:=by omega
  have hkb:k < b.length:=by omega
  have wk:=qab (n:=(k:Int) + 1) (by omega) (by omega)
  rw [List.drop_eq_getElem_cons hk,List.drop_eq_getElem_cons hkb] at he
  rw [qah hl]
  by_cases hb:a[k]=b[k]
  ·have he':decide (a=b)=decide (a.drop (k + 1)=b.drop (k + 1)):=by rw [he]; simp only [List.cons.injEq,hb,true_and]
   simp [L129_0,I38,List.range,List.range.loop,e0,e1,e12,e13,hk,hk',hkb,hb,wk]
   simpa using he'
  ·have he':decide (a=b)=false:=by rw [he]; simp only [List.cons.injEq,hb,false_and,decide_false]
   simp [L129_0,Q38,List.range,List.range.loop,e0,e1,e12,e13,hk,hk',hkb,hb]
   simpa using he'
 ·rintro ⟨s,hh⟩ ⟨rfl,hl,e0,e1,e12,e13,he⟩
  simp only [List.drop_length] at hl e0 e1 e12 e13 he
  rw [show List.drop a.length b=[] by rw [← hab]; exact List.drop_length] at he
  have he':decide (a=b)=true:=by rw [he]; rfl
  rw [qah hl]
  simp [L129_0,Q38,List.range,List.range.loop,e0,e1,e12,e13]
  simpa using he'
theorem ev129 (a b:List Int) (ha:a.length≤4096):ev pg (.call (.fn 129 [] []) [.imm (a.map qfb),.imm (b.map qfb)] [])=some { v:=.bool (decide (a=b)),st:=⟨[],[]⟩ }:=by
 by_cases hab:b.length=a.length
 ·have hloop:=zsw a b hab ha
  have hab':(b.length:Int)=a.length:=by omega
  unfold Q38 at hloop
  have hI:∀ st:St,I38 a b 0 st ↔ (st.h=[]∧st.s.length=26∧qaq st.s 0=.imm (a.map qfb)∧qaq st.s 1=.imm (b.map qfb)∧qaq st.s 12=num a.length∧qaq st.s 13=num 0):=fun st=>by
   unfold I38
   exact ⟨fun h=>⟨h.1,h.2.1,h.2.2.1,h.2.2.2.1,h.2.2.2.2.1,h.2.2.2.2.2.1⟩,fun h=>⟨h.1,h.2.1,h.2.2.1,h.2.2.2.1,h.2.2.2.2.1,h.2.2.2.2.2,rfl⟩⟩
  generalize decide (a=b)=B at *
  rw [qac,pg129]
  simp [ir129,qag,hab']
  generalize hr:ev pg (.code (.going _ L129_0) _)=o
  obtain ⟨r,rfl,hl,hh,hQ⟩:∃ r,o=some r∧_:=by
   rw [← hr]
   exact hloop _ ((hI _).2 ⟨by simp,by simp,by simp,by simp,by simp,by simp⟩)
  rcases hQ with ⟨hx,rfl⟩ | ⟨hx,h4,rfl⟩
  ·simp [hx,hh,hl]
  ·simp [hx,h4]
 ·have hd:decide (a=b)=false:=by
   rw [decide_eq_false_iff_not]
   intro e
   exact hab (by rw [e])
  have hne:((a.length:Int) != (b.length:Int))=true:=by
   rw [bne_iff_ne]; omega
  rw [hd,qac,pg129]
  simp [ir129,hne]
mutual
def Ex.same:Ex→Ex→Bool
 | .mk o i l,.mk o' i' l'=>o == o' && (i == i' && zvn l l')
def zvn:List Ex→List Ex→Bool
 | [],[]=>true
 | x :: l,y :: l'=>x.same y && zvn l l'
 | _,_=>false
end
structure Keep83 (li:Int) (st:List V):Prop where
 nn:qdd st
 len:st.length=157
 t2:qaq st 2=.bptr 0 0
 t3:qaq st 3=.bptr 1 0
 t4:qaq st 4=.bptr 6 0
 t5:qaq st 5=.sl 26 0 0 0 0
 t6:qaq st 6=.bptr 7 0
 t7:qaq st 7=num li
 t8:qaq st 8=.bptr 21 0
abbrev qic (b:Bool):List V:=[.bool b]
abbrev z7u:V:=.imm [[.str [115,116,117,99,107,48]],[.str [115,116,117,99,107,49]]]
structure Keep83v (li:Int) (v:Int) (gk mk nk gv mv nv:Nat) (st:List V):Prop where
 keep:Keep83 li st
 t9:qaq st 9=.sl 27 gk mk 0 nk
 t15:qaq st 15=.sl 28 gv mv 0 nv
 t92:qaq st 92=z7u
 t93:qaq st 93=num 2
 t94:qaq st 94=num v
structure Keep83w (li v:Int) (gk mk nk gv mv nv:Nat) (st:List V):Prop where
 keep:Keep83v li v gk mk nk gv mv nv st
 t16:qaq st 16=num v
theorem Keep83.set {li:Int} {s:List V} (h:Keep83 li s) (j:Nat) (x:V) (hx:x ≠ .nils) (hj:j ∉ [2,3,4,5,6,7,8]):Keep83 li (qgj s j x):=by
 simp only [List.mem_cons,List.not_mem_nil,or_false,not_or] at hj
 obtain ⟨h2,h3,h4,h5,h6,h7,h8⟩:=hj
 exact ⟨qeb h.nn hx,by rw [qmf,h.len],by rw [qat h2,h.t2],by rw [qat h3,h.t3],by rw [qat h4,h.t4],by rw [qat h5,h.t5],by rw [qat h6,h.t6],by rw [qat h7,h.t7],by rw [qat h8,h.t8]⟩
theorem Keep83v.set {li v:Int} {gk mk nk gv mv nv:Nat} {s:List V} (h:Keep83v li v gk mk nk gv mv nv s) (j:Nat) (x:V) (hx:x ≠ .nils) (hj:j ∉ [2,3,4,5,6,7,8]) (hj2:j ∉ [9,15,92,93,94]):Keep83v li v gk mk nk gv mv nv (qgj s j x):=by
 simp only [List.mem_cons,List.not_mem_nil,or_false,not_or] at hj2
 obtain ⟨h9,h15,h92,h93,h94⟩:=hj2
 exact ⟨h.keep.set j x hx hj,by rw [qat h9,h.t9],by rw [qat h15,h.t15],by rw [qat h92,h.t92],by rw [qat h93,h.t93],by rw [qat h94,h.t94]⟩
theorem Keep83w.set {li v:Int} {gk mk nk gv mv nv:Nat} {s:List V} (h:Keep83w li v gk mk nk gv mv nv s) (j:Nat) (x:V) (hx:x ≠ .nils) (hj:j ∉ [2,3,4,5,6,7,8]) (hj2:j ∉ [9,15,92,93,94]) (hj3:j ≠ 16):Keep83w li v gk mk nk gv mv nv (qgj s j x) :=
 ⟨h.keep.set j x hx hj hj2,by rw [qat hj3,h.t16]⟩
theorem Keep83v.next {li v:Int} {gk mk nk gv mv nv:Nat} {s:List V} (h:Keep83v li v gk mk nk gv mv nv s) (x:V) (hx:x ≠ .nils) (v':Int):Keep83v li v' gk mk nk gv mv nv (qgj (qgj s 154 x) 94 (num v')):=by
 have hk:=(h.keep.set 154 x hx (by decide)).set 94 (num v') (by simp) (by decide)
 have hl:=h.keep.len
 exact ⟨hk,by simp [h.t9],by simp [h.t15],by simp [h.t92],by simp [h.t93],by simp [hl]⟩
abbrev qeo (l:List Bool):V:=.imm (l.map qic)
structure Ste where
 ends:List Int
 valves:List Bool
 inputs:List Bool
 values:List Bool
 timers:List Int
abbrev Ste.cells (s:Ste):List V:=[qck s.ends,qeo s.valves,qeo s.inputs,qeo s.values,qck s.timers]
abbrev Ste.v (s:Ste):V:=.agg s.cells
def zeroS:Ste:=⟨[],[],[],[],[]⟩
@[simp] theorem ztu (l:List Bool):qxi (l.map qic) (l.map qic)=true:=qkz (fun x=>by simp) l
end Go.Proofs.YtlhciedghbmjjaaGreat
