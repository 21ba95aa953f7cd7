/- What a fault touches, by the reference. Clones; is a text in a list? Are lists equal? Are expressions and controls equal? The faulty control, by the program: names and signals. The faulty control, by the program: pilots and fresh names. The faulty control, by the program: a constant. States: how they stand in Am's memory; equal states, by the reference. -/
import Derived.Test.YtlhciedghbmjjaaGreatLi1
import Derived.Test.YtlhciedghbmjjaaGreatSi1
set_option linter.all false
namespace Go.Proofs.YtlhciedghbmjjaaGreat
open Go Go.Am Go.Proofs
set_option maxRecDepth 100000
theorem goE_zero {f:Nat→Int}:∀ {n k:Nat},goE f k n=0→∀ j,k≤j→j < k + n→f j=0
 | 0,k,_,j,h1,h2=>by omega
 | n + 1,k,h,j,h1,h2=>by
  rw [goE] at h
  by_cases hf:f k=0
  ·rw [if_pos hf] at h
   by_cases hj:j=k
   ·rw [hj]; exact hf
   ·exact goE_zero h j (by omega) (by omega)
  ·rw [if_neg hf] at h
   exact absurd h hf
structure Rgt (c:Ct) (A:Nat):Prop where
 mid:Mid c A
 plus:c.plus.length=A
 minus:c.minus.length=A
 on:∀ x ∈ c.signals,x.on.err (countN c A:Nat)=0
 off:∀ x ∈ c.signals,x.off.err (countN c A:Nat)=0∨x.off.zero=true
 name:∀ i x,c.signals[i]?=some x→nameE (namesTo c A (firstN c A + i)) x.name=0
 inp:∀ j,j < c.inputs.length→nameE (namesTo c A (2 * A + j)) (nameAt c A (2 * A + j))=0
 pp:c.plus.any (badL (countN c A))=false
 mm:c.minus.any (badL (countN c A))=false
theorem rgt_check {c:Ct} (h:c.check=0) (hfew:c.small=true):Rgt c c.act.toNat:=by
 have hM:=mid_check h hfew
 generalize hA:c.act.toNat=A at *
 have h2:ctE c A=0:=by
  unfold Ct.check at h
  split at h
  ·cases h
  ·split at h
   ·cases h
   ·rw [hA] at h; exact h
 unfold ctE at h2
 split at h2
 ·rename_i hi
  split at h2
  ·rename_i hs
   have hsig:∀ i x,c.signals[i]?=some x→sigE c A (namesTo c A (firstN c A + i)) i x=0:=fun i x hx=>by
    have hil:i < c.signals.length:=by
     rcases Nat.lt_or_ge i c.signals.length with h | h
     ·exact h
     ·rw [List.getElem?_eq_none h] at hx; cases hx
    have h3:=goE_zero hs i (by omega) (by omega)
    unfold sigF at h3
    rw [hx] at h3
    exact h3
   unfold pilE at h2
   split at h2
   ·cases h2
   ·rename_i hpl
    split at h2
    ·cases h2
    ·rename_i hbad
     refine ⟨hM,by omega,by omega,fun x hx=>?_,fun x hx=>?_,fun i x hx=>?_,fun j hj=>goE_zero hi j (by omega) (by omega),?_,?_⟩
     ·obtain ⟨i,hil,rfl⟩:=List.mem_iff_getElem.1 hx
      have h3:=hsig i _ (List.getElem?_eq_getElem hil)
      unfold sigE at h3
      split at h3
      ·split at h3
       ·cases h3
       ·split at h3
        ·rename_i h4; exact check_err h4
        ·rename_i h4; exact absurd h3 h4
      ·rename_i h4; exact absurd h3 h4
     ·obtain ⟨i,hil,rfl⟩:=List.mem_iff_getElem.1 hx
      have h3:=hsig i _ (List.getElem?_eq_getElem hil)
      unfold sigE at h3
      split at h3
      ·split at h3
       ·cases h3
       ·rename_i hkr
        split at h3
        ·by_cases hk1:c.signals[i].kind=1
         ·refine .inl (check_err ?_)
          split at h3
          ·rename_i h5; exact absurd h3 h5.2
          ·rename_i h5
           exact Classical.byContradiction fun hne=>h5 ⟨hk1,hne⟩
         ·refine .inr ?_
          split at h3
          ·rename_i h5; exact absurd h5.1 hk1
          ·split at h3
           ·cases h3
           ·split at h3
            ·cases h3
            ·split at h3
             ·cases h3
             ·rename_i h6
              cases hz:c.signals[i].off.zero with
              | true=>rfl
              | false=>exact absurd (.inl ⟨hk1,.inl hz⟩) h6
        ·rename_i h4; exact absurd h3 h4
      ·rename_i h4; exact absurd h3 h4
     ·have h3:=hsig i x hx
      unfold sigE at h3
      split at h3
      ·rename_i h4; exact h4
      ·exact h3
     ·cases hb:c.plus.any (badL (countN c A)) with
      | false=>rfl
      | true=>exact absurd (.inl hb) hbad
     ·cases hb:c.minus.any (badL (countN c A)) with
      | false=>rfl
      | true=>exact absurd (.inr hb) hbad
  ·rename_i h4; exact absurd h2 h4
 ·rename_i h4; exact absurd h2 h4
theorem ev92 (l:List Int) (hl:l.length≤4096):ev pg (.call (.fn 92 [] []) [ints l] [])=some { v:=.sl 0 0 1 0 l.length,st:=⟨[],[⟨0,.arr 1 (l.map nrow)⟩]⟩ }:=by
 rw [ev_call,pg92]
 cases l with
 | nil=>simp [ir92,moveVs,moveV,move1]
 | cons x l =>
  have h47:(l.length + 1) * 8≤140737488355328:=by
   simp only [List.length_cons] at hl
   omega
  simp [ir92,h47,moveVs,moveV,move1]
def I38 (a b:List Int) (k:Nat) (st:St):Prop:=st.h=[]∧st.s.length=26∧getS st.s 0=.imm (a.map nrow)∧getS st.s 1=.imm (b.map nrow)∧getS st.s 12=num a.length∧getS st.s 13=num k∧decide (a=b)=decide (a.drop k=b.drop k)
def Q38 (a b:List Int) (r:R):Prop:=r.st.s.length=26∧r.st.h=[]∧((r.x=.exit 0∧decide (a=b)=true)∨(r.x=.ret∧getS r.st.s 4=.bool false∧decide (a=b)=false))
theorem loop38 (a b:List Int) (hab:b.length=a.length) (ha:a.length≤4096) (st:St) (h0:I38 a b 0 st):∃ r,ev pg (.code (.going 0 L129_0) st)=some r∧Q38 a b r:=by
 refine loop_from (I38 a b) a.length (Q38 a b) h0 ?_ ?_
 ·rintro k ⟨s,hh⟩ hk ⟨rfl,hl,e0,e1,e12,e13,he⟩
  simp only at hl e0 e1 e12 e13
  have hk':(k:Int) < a.length:=by omega
  have hkb:k < b.length:=by omega
  have wk:=wrap_id (n:=(k:Int) + 1) (by omega) (by omega)
  rw [List.drop_eq_getElem_cons hk,List.drop_eq_getElem_cons hkb] at he
  rw [getS_expand hl]
  by_cases hb:a[k]=b[k]
  ·have he':decide (a=b)=decide (a.drop (k + 1)=b.drop (k + 1)):=by rw [he]; simp only [List.cons.injEq,hb,true_and]
   simp [L129_0,I38,List.range,List.range.loop,e0,e1,e12,e13,hk,hk',hkb,hb,wk]
   simpa using he'
  ·have he':decide (a=b)=false:=by rw [he]; simp only [List.cons.injEq,hb,false_and,decide_false]
   simp [L129_0,Q38,List.range,List.range.loop,e0,e1,e12,e13,hk,hk',hkb,hb]
   simpa using he'
 ·rintro ⟨s,hh⟩ ⟨rfl,hl,e0,e1,e12,e13,he⟩
  simp only [List.drop_length] at hl e0 e1 e12 e13 he
  rw [show List.drop a.length b=[] by rw [← hab]; exact List.drop_length] at he
  have he':decide (a=b)=true:=by rw [he]; rfl
  rw [getS_expand hl]
  simp [L129_0,Q38,List.range,List.range.loop,e0,e1,e12,e13]
  simpa using he'
theorem ev129 (a b:List Int) (ha:a.length≤4096):ev pg (.call (.fn 129 [] []) [.imm (a.map nrow),.imm (b.map nrow)] [])=some { v:=.bool (decide (a=b)),st:=⟨[],[]⟩ }:=by
 by_cases hab:b.length=a.length
 ·have hloop:=loop38 a b hab ha
  have hab':(b.length:Int)=a.length:=by omega
  unfold Q38 at hloop
  have hI:∀ st:St,I38 a b 0 st ↔ (st.h=[]∧st.s.length=26∧getS st.s 0=.imm (a.map nrow)∧getS st.s 1=.imm (b.map nrow)∧getS st.s 12=num a.length∧getS st.s 13=num 0):=fun st=>by
   unfold I38
   exact ⟨fun h=>⟨h.1,h.2.1,h.2.2.1,h.2.2.2.1,h.2.2.2.2.1,h.2.2.2.2.2.1⟩,fun h=>⟨h.1,h.2.1,h.2.2.1,h.2.2.2.1,h.2.2.2.2.1,h.2.2.2.2.2,rfl⟩⟩
  generalize decide (a=b)=B at *
  rw [ev_call,pg129]
  simp [ir129,ev_loop,hab']
  generalize hr:ev pg (.code (.going _ L129_0) _)=o
  obtain ⟨r,rfl,hl,hh,hQ⟩:∃ r,o=some r∧_:=by
   rw [← hr]
   exact hloop _ ((hI _).2 ⟨by simp,by simp,by simp,by simp,by simp,by simp⟩)
  rcases hQ with ⟨hx,rfl⟩ | ⟨hx,h4,rfl⟩
  ·simp [hx,hh,hl]
  ·simp [hx,h4]
 ·have hd:decide (a=b)=false:=by
   rw [decide_eq_false_iff_not]
   intro e
   exact hab (by rw [e])
  have hne:((a.length:Int) != (b.length:Int))=true:=by
   rw [bne_iff_ne]; omega
  rw [hd,ev_call,pg129]
  simp [ir129,hne]
mutual
def Ex.same:Ex→Ex→Bool
 | .mk o i l,.mk o' i' l'=>o == o' && (i == i' && sameL l l')
def sameL:List Ex→List Ex→Bool
 | [],[]=>true
 | x :: l,y :: l'=>x.same y && sameL l l'
 | _,_=>false
end
structure Keep83 (li:Int) (st:List V):Prop where
 nn:noNil st
 len:st.length=157
 t2:getS st 2=.bptr 0 0
 t3:getS st 3=.bptr 1 0
 t4:getS st 4=.bptr 6 0
 t5:getS st 5=.sl 26 0 0 0 0
 t6:getS st 6=.bptr 7 0
 t7:getS st 7=num li
 t8:getS st 8=.bptr 21 0
abbrev brow (b:Bool):List V:=[.bool b]
abbrev kTwo:V:=.imm [[.str [115,116,117,99,107,48]],[.str [115,116,117,99,107,49]]]
structure Keep83v (li:Int) (v:Int) (gk mk nk gv mv nv:Nat) (st:List V):Prop where
 keep:Keep83 li st
 t9:getS st 9=.sl 27 gk mk 0 nk
 t15:getS st 15=.sl 28 gv mv 0 nv
 t92:getS st 92=kTwo
 t93:getS st 93=num 2
 t94:getS st 94=num v
structure Keep83w (li v:Int) (gk mk nk gv mv nv:Nat) (st:List V):Prop where
 keep:Keep83v li v gk mk nk gv mv nv st
 t16:getS st 16=num v
theorem Keep83.set {li:Int} {s:List V} (h:Keep83 li s) (j:Nat) (x:V) (hx:x ≠ .nils) (hj:j ∉ [2,3,4,5,6,7,8]):Keep83 li (setS s j x):=by
 simp only [List.mem_cons,List.not_mem_nil,or_false,not_or] at hj
 obtain ⟨h2,h3,h4,h5,h6,h7,h8⟩:=hj
 exact ⟨noNil_set h.nn hx,by rw [setS_length,h.len],by rw [getS_setS_ne h2,h.t2],by rw [getS_setS_ne h3,h.t3],by rw [getS_setS_ne h4,h.t4],by rw [getS_setS_ne h5,h.t5],by rw [getS_setS_ne h6,h.t6],by rw [getS_setS_ne h7,h.t7],by rw [getS_setS_ne h8,h.t8]⟩
theorem Keep83v.set {li v:Int} {gk mk nk gv mv nv:Nat} {s:List V} (h:Keep83v li v gk mk nk gv mv nv s) (j:Nat) (x:V) (hx:x ≠ .nils) (hj:j ∉ [2,3,4,5,6,7,8]) (hj2:j ∉ [9,15,92,93,94]):Keep83v li v gk mk nk gv mv nv (setS s j x):=by
 simp only [List.mem_cons,List.not_mem_nil,or_false,not_or] at hj2
 obtain ⟨h9,h15,h92,h93,h94⟩:=hj2
 exact ⟨h.keep.set j x hx hj,by rw [getS_setS_ne h9,h.t9],by rw [getS_setS_ne h15,h.t15],by rw [getS_setS_ne h92,h.t92],by rw [getS_setS_ne h93,h.t93],by rw [getS_setS_ne h94,h.t94]⟩
theorem Keep83w.set {li v:Int} {gk mk nk gv mv nv:Nat} {s:List V} (h:Keep83w li v gk mk nk gv mv nv s) (j:Nat) (x:V) (hx:x ≠ .nils) (hj:j ∉ [2,3,4,5,6,7,8]) (hj2:j ∉ [9,15,92,93,94]) (hj3:j ≠ 16):Keep83w li v gk mk nk gv mv nv (setS s j x) :=
 ⟨h.keep.set j x hx hj hj2,by rw [getS_setS_ne hj3,h.t16]⟩
theorem Keep83v.next {li v:Int} {gk mk nk gv mv nv:Nat} {s:List V} (h:Keep83v li v gk mk nk gv mv nv s) (x:V) (hx:x ≠ .nils) (v':Int):Keep83v li v' gk mk nk gv mv nv (setS (setS s 154 x) 94 (num v')):=by
 have hk:=(h.keep.set 154 x hx (by decide)).set 94 (num v') (by simp) (by decide)
 have hl:=h.keep.len
 exact ⟨hk,by simp [h.t9],by simp [h.t15],by simp [h.t92],by simp [h.t93],by simp [hl]⟩
abbrev bools (l:List Bool):V:=.imm (l.map brow)
structure Ste where
 ends:List Int
 valves:List Bool
 inputs:List Bool
 values:List Bool
 timers:List Int
abbrev Ste.cells (s:Ste):List V:=[ints s.ends,bools s.valves,bools s.inputs,bools s.values,ints s.timers]
abbrev Ste.v (s:Ste):V:=.agg s.cells
def zeroS:Ste:=⟨[],[],[],[],[]⟩
@[simp] theorem beqR_bool (l:List Bool):beqR (l.map brow) (l.map brow)=true:=beqR_map (fun x=>by simp) l
end Go.Proofs.YtlhciedghbmjjaaGreat
