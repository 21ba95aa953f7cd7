/- Controls: errors, by the reference, on. -/
import Derived.Test.YtbhkplbciajikaaGreatCt8
set_option linter.all false
namespace Go.Proofs.YtbhkplbciajikaaGreat
open Go Go.Am Go.Proofs
set_option maxRecDepth 100000
def goE (f:Nat→Int):Nat→Nat→Int
 | _,0=>0
 | k,n + 1=>if f k=0 then goE f (k + 1) n else f k
theorem goE_at {f:Nat→Int} {k n:Nat} (hk:k < n):goE f k (n - k)=if f k=0 then goE f (k + 1) (n - (k + 1)) else f k:=by
 obtain ⟨m,hm⟩:∃ m,n - k=m + 1:=⟨n - k - 1,by omega⟩
 rw [hm,show n - (k + 1)=m by omega,goE]
abbrev badL (n:Int) (x:Int):Bool:=decide (x < 0) || decide (n≤x)
def pilE (c:Ct) (A:Nat):Int:=if c.plus.length ≠ A∨c.minus.length ≠ A then 8 else if (c.plus.any (badL (countN c A)))=true∨(c.minus.any (badL (countN c A)))=true then 6 else 0
theorem any_at {α:Type} {f:α→Bool} {l:List α} {k:Nat} (hk:k < l.length):(l.drop k).any f=(f l[k] || (l.drop (k + 1)).any f):=by
 rw [List.drop_eq_getElem_cons hk]; rfl
structure Keep116 (c:Ct) (t:Nat) (st:List V):Prop where
 nn:noNil st
 len:st.length=51
 t1:getS st 1=.bptr 0 0
 t24:getS st 24=.imm [[ints c.plus],[ints c.minus]]
 t25:getS st 25=num 2
 t26:getS st 26=num t
def I116a (c:Ct) (t:Nat) (n:Int) (l:List Int) (k:Nat) (st:St):Prop:=st.h=[⟨0,.box c.cells⟩]∧Keep116 c t st.s∧getS st.s 4=ints l∧getS st.s 5=num k∧l.any (badL n)=(l.drop k).any (badL n)
def Q116a (c:Ct) (t:Nat) (n:Int) (l:List Int) (r:R):Prop:=r.st.s.length=51∧((r.x=.exit 2∧r.st.h=[⟨0,.box c.cells⟩]∧Keep116 c t r.st.s∧l.any (badL n)=false)∨(r.x=.ret∧getS r.st.s 2=num 6∧l.any (badL n)=true))
theorem loop116a {c:Ct} {A:Nat} (h:Mid c A) (t:Nat) (l:List Int) (hl6:l.length≤40) (st:St) (h0:I116a c t (countN c A) l 0 st):∃ r,ev pg (.code (.going 1 L71_0) st)=some r∧Q116a c t (countN c A) l r:=by
 have hc:=ev102 h
 refine loop_from (I116a c t (countN c A) l) l.length (Q116a c t (countN c A) l) h0 ?_ ?_
 ·rintro k ⟨s,hh⟩ hk ⟨rfl,⟨hnn,hl,e1,e24,e25,e26⟩,e4,e5,he⟩
  simp only at hl e1 e24 e25 e26 e4 e5
  have hn:∀ j,getS s j ≠ .nils:=noNil_get hnn
  have hk':(k:Int) < l.length:=by omega
  have wk:=wrap_id (n:=(k:Int) + 1) (by omega) (by omega)
  rw [any_at hk] at he
  generalize hN:countN c A=N at *
  rw [getS_expand hl]
  by_cases b1:l[k] < 0
  ·have hb:badL (N:Int) l[k]=true:=by simp [badL,b1]
   rw [hb,Bool.true_or] at he
   simp [ev_draw1,exT,chkOk,L71_0,Q116a,List.range,List.range.loop,e1,e4,e5,hk,hk',b1]
   simpa using he
  ·by_cases b2:(N:Int)≤l[k]
   ·have hb:badL (N:Int) l[k]=true:=by simp [badL,b2]
    rw [hb,Bool.true_or] at he
    simp [ev_draw1,exT,chkOk,L71_0,Q116a,List.range,List.range.loop,e1,e4,e5,hk,hk',b1,b2,hc]
    simpa using he
   ·have hb:badL (N:Int) l[k]=false:=by simp [badL,b1,b2]
    rw [hb,Bool.false_or] at he
    simp [ev_draw1,exT,chkOk,L71_0,List.range,List.range.loop,e1,e4,e5,e24,e25,e26,hk,hk',b1,b2,hc,wk]
    exact ⟨rfl,⟨by simp [noNil,hn],rfl,rfl,rfl,rfl,rfl⟩,rfl,rfl,he⟩
 ·rintro ⟨s,hh⟩ ⟨rfl,⟨hnn,hl,e1,e24,e25,e26⟩,e4,e5,he⟩
  simp only [List.drop_length] at hl e1 e24 e25 e26 e4 e5 he
  have hn:∀ j,getS s j ≠ .nils:=noNil_get hnn
  have he':l.any (badL (countN c A))=false:=he
  rw [getS_expand hl]
  simp [L71_0,Q116a,List.range,List.range.loop,e1,e4,e5,e24,e25,e26]
  exact ⟨⟨by simp [noNil,hn],rfl,rfl,rfl,rfl,rfl⟩,by simpa using he'⟩
def I116 (c:Ct) (n:Int) (t:Nat) (st:St):Prop:=st.h=[⟨0,.box c.cells⟩]∧Keep116 c t st.s∧(1≤t→c.plus.any (badL n)=false)∧(2≤t→c.minus.any (badL n)=false)
def Q116 (c:Ct) (n:Int) (r:R):Prop:=r.st.s.length=51∧((r.x=.exit 0∧c.plus.any (badL n)=false∧c.minus.any (badL n)=false)∨(r.x=.ret∧getS r.st.s 2=num 6∧(c.plus.any (badL n)=true∨c.minus.any (badL n)=true)))
theorem loop116 {c:Ct} {A:Nat} (h:Mid c A) (hp:c.plus.length≤40) (hm:c.minus.length≤40) (st:St) (h0:I116 c (countN c A) 0 st):∃ r,ev pg (.code (.going 1 L71_1) st)=some r∧Q116 c (countN c A) r:=by
 refine loop_from (I116 c (countN c A)) 2 (Q116 c (countN c A)) h0 ?_ ?_
 ·rintro t ⟨s,hh⟩ ht ⟨rfl,⟨hnn,hl,e1,e24,e25,e26⟩,p1,p2⟩
  simp only at hl e1 e24 e25 e26
  have hn:∀ j,getS s j ≠ .nils:=noNil_get hnn
  have ht2:(t:Int) < 2:=by omega
  have wk:=wrap_id (n:=(t:Int) + 1) (by omega) (by omega)
  obtain ⟨l,hlt,hl40,hcase⟩:∃ l,([[ints c.plus],[ints c.minus]]:List (List V))[t]?=some [ints l]∧l.length≤40∧((t=0∧l=c.plus)∨(t=1∧l=c.minus)):=by
   rcases (by omega:t=0∨t=1) with rfl | rfl
   ·exact ⟨c.plus,rfl,hp,.inl ⟨rfl,rfl⟩⟩
   ·exact ⟨c.minus,rfl,hm,.inr ⟨rfl,rfl⟩⟩
  rw [getS_expand hl]
  simp [L71_1,List.range,List.range.loop,e1,e24,e25,e26,ht2,hlt,ev_loop,hn]
  generalize hr:ev pg (.code (.going 1 L71_0) _)=o
  obtain ⟨r,rfl,hrl,hQ⟩:∃ r,o=some r∧Q116a c t (countN c A) l r:=by
   rw [← hr]
   refine loop116a h t l hl40 _ ⟨by simp,⟨by simp [noNil,hn],by simp,by simp,by simp,by simp,by simp⟩,by simp,by simp,rfl⟩
  rcases hQ with ⟨hx,hh,⟨hnn2,gl,g1,g24,g25,g26⟩,hE⟩ | ⟨hx,h2,hE⟩
  ·simp [hx,hh,gl,g26,wk]
   refine ⟨rfl,⟨?_,?_,?_,?_,?_,?_⟩,fun _=>?_,fun h2=>?_⟩
   ·apply noNil_scrub
    repeat (first | with_reducible exact hnn2 | with_reducible refine noNil_set ?_ (by simp))
   ·simp [gl]
   ·simp [g1]
   ·simp [g24]
   ·simp [g25]
   ·simp [gl]
   ·rcases hcase with ⟨rfl,rfl⟩ | ⟨rfl,rfl⟩
    ·exact hE
    ·exact p1 (Nat.le_refl _)
   ·rcases hcase with ⟨rfl,rfl⟩ | ⟨rfl,rfl⟩
    ·omega
    ·exact hE
  ·simp [hx]
   refine ⟨hrl,.inr ⟨hx,h2,?_⟩⟩
   rcases hcase with ⟨_,rfl⟩ | ⟨_,rfl⟩
   ·exact .inl hE
   ·exact .inr hE
 ·rintro ⟨s,hh⟩ ⟨rfl,⟨hnn,hl,e1,e24,e25,e26⟩,p1,p2⟩
  simp only at hl e1 e24 e25 e26
  have q1:=p1 (by omega)
  have q2:=p2 (Nat.le_refl _)
  rw [getS_expand hl]
  simp [L71_1,Q116,List.range,List.range.loop,e1,e24,e25,e26]
  exact ⟨by simpa using q1,by simpa using q2⟩
theorem ev71 {c:Ct} {A:Nat} (h:Mid c A):ev pg (.call (.fn 71 [] []) [c.v] [])=some { v:=num (pilE c A),st:=⟨[],[]⟩ }:=by
 have hA:=h.act
 have hA6:=h.hi
 have b1:((c.plus.length:Int)=c.act) ↔ c.plus.length=A:=by omega
 have b2:((c.minus.length:Int)=c.act) ↔ c.minus.length=A:=by omega
 rw [ev_call,pg71]
 by_cases h1:c.plus.length=A
 ·have n1:((c.plus.length:Int) != c.act)=false:=by simp; omega
  by_cases h2:c.minus.length=A
  ·have n2:((c.minus.length:Int) != c.act)=false:=by simp; omega
   have hp:pilE c A=if (c.plus.any (badL (countN c A)))=true∨(c.minus.any (badL (countN c A)))=true then 6 else 0:=by
    unfold pilE; rw [if_neg (by omega)]
   rw [hp]
   have hloop:=loop116 h (by omega) (by omega)
   unfold Q116 at hloop
   generalize c.plus.any (badL (countN c A))=P at *
   generalize c.minus.any (badL (countN c A))=M at *
   simp [ir71,n1,n2,ev_loop]
   generalize hr:ev pg (.code (.going 1 L71_1) _)=o
   obtain ⟨r,rfl,hl,hQ⟩:∃ r,o=some r∧(r.st.s.length=51∧((r.x=.exit 0∧P=false∧M=false)∨(r.x=.ret∧getS r.st.s 2=num 6∧(P=true∨M=true)))):=by
    rw [← hr]
    exact hloop _ ⟨by simp,⟨by simp [noNil],by simp,by simp,by simp,by simp,by simp⟩,fun h=>by omega,fun h=>by omega⟩
   rcases hQ with ⟨hx,rfl,rfl⟩ | ⟨hx,h2',hPM⟩
   ·simp [hx,hl]
   ·simp [hx,h2',hPM]
  ·have n2:((c.minus.length:Int) != c.act)=true:=by simp; omega
   have hp:pilE c A=8:=by unfold pilE; rw [if_pos (.inr h2)]
   rw [hp]
   simp [ir71,n1,n2]
 ·have n1:((c.plus.length:Int) != c.act)=true:=by simp; omega
  have hp:pilE c A=8:=by unfold pilE; rw [if_pos (.inl h1)]
  rw [hp]
  simp [ir71,n1]
abbrev inpF (c:Ct) (A:Nat) (j:Nat):Int:=nameE (namesTo c A (2 * A + j)) (nameAt c A (2 * A + j))
abbrev sigF (c:Ct) (A:Nat) (i:Nat):Int:=match c.signals[i]? with
 | some x=>sigE c A (namesTo c A (firstN c A + i)) i x
 | none=>0
def ctE (c:Ct) (A:Nat):Int :=
 if goE (inpF c A) 0 c.inputs.length=0 then (if goE (sigF c A) 0 c.signals.length=0 then pilE c A else goE (sigF c A) 0 c.signals.length) else goE (inpF c A) 0 c.inputs.length
def Ct.check (c:Ct):Int:=if c.act < 1∨6 < c.act then 2 else if 16 < c.inputs.length∨64 < c.signals.length then 5 else ctE c c.act.toNat
structure Keep69 (c:Ct) (st:List V):Prop where
 nn:noNil st
 len:st.length=57
 t1:getS st 1=.bptr 0 0
def Ct.small (c:Ct):Bool:=decide (c.inputs.length≤32) && decide (c.signals.length≤128) && decide (c.plus.length≤40) && decide (c.minus.length≤40) && c.inputs.all fewI && c.signals.all fewS
theorem few_small {c:Ct} (h:c.few=true):c.small=true:=by
 simp only [Ct.few,Bool.and_eq_true] at h
 obtain ⟨⟨⟨⟨⟨⟨h1,_⟩,h2⟩,h3⟩,h4⟩,h5⟩,h6⟩:=h
 simp only [Ct.small,Bool.and_eq_true]
 exact ⟨⟨⟨⟨⟨h1,h2⟩,h3⟩,h4⟩,h5⟩,h6⟩
theorem few_parts {c:Ct} (h:c.small=true):c.inputs.length≤32∧c.signals.length≤128∧c.plus.length≤40∧c.minus.length≤40∧(∀ s ∈ c.inputs,s.length≤200)∧(∀ x ∈ c.signals,x.name.length≤200∧x.on.light=true∧x.off.light=true):=by
 simp only [Ct.small,Bool.and_eq_true,decide_eq_true_eq,List.all_eq_true,fewI,fewS] at h
 obtain ⟨⟨⟨⟨⟨h1,h2⟩,h3⟩,h4⟩,h5⟩,h6⟩:=h
 exact ⟨h1,h2,h3,h4,h5,fun x hx=>by
  obtain ⟨⟨a,b⟩,d⟩:=h6 x hx
  exact ⟨a,b,d⟩⟩
theorem nameAt_few {c:Ct} {A:Nat} (h:c.small=true) (k:Nat):(nameAt c A k).length < 2 ^ 62:=by
 obtain ⟨_,_,_,_,h5,h6⟩:=few_parts h
 unfold nameAt
 split
 ·simp
 ·split
  ·cases hg:c.inputs[k - 2 * A]? with
   | none=>simp
   | some s =>
    have:=h5 s (List.mem_of_getElem? hg)
    simp only [Option.getD_some]
    omega
  ·cases hg:c.signals[k - (2 * A + c.inputs.length)]? with
   | none=>simp
   | some x =>
    have:=(h6 x (List.mem_of_getElem? hg)).1
    simp only [Option.map_some,Option.getD_some]
    omega
def I69a (c:Ct) (A k:Nat) (st:St):Prop:=st.h=[⟨0,.box c.cells⟩]∧Keep69 c st.s∧getS st.s 3=num k∧goE (inpF c A) 0 c.inputs.length=goE (inpF c A) k (c.inputs.length - k)
def Q69a (c:Ct) (A:Nat) (r:R):Prop:=r.st.s.length=57∧((r.x=.exit 0∧r.st.h=[⟨0,.box c.cells⟩]∧Keep69 c r.st.s∧goE (inpF c A) 0 c.inputs.length=0)∨(r.x=.ret∧getS r.st.s 2=num (goE (inpF c A) 0 c.inputs.length)∧goE (inpF c A) 0 c.inputs.length ≠ 0))
theorem loop69a {c:Ct} {A:Nat} (h:Mid c A) (hfew:c.small=true) (st:St) (h0:I69a c A 0 st):∃ r,ev pg (.code (.going 1 L31_0) st)=some r∧Q69a c A r:=by
 refine loop_from (I69a c A) c.inputs.length (Q69a c A) h0 ?_ ?_
 ·rintro k ⟨s,hh⟩ hk ⟨rfl,⟨hnn,hl,e1⟩,e3,he⟩
  simp only at hl e1 e3
  have hn:∀ j,getS s j ≠ .nils:=noNil_get hnn
  have hc:=ev69 h (2 * A + k) (by unfold countN; omega) (nameAt_few hfew _)
  obtain ⟨hA,h1,h2,h3,h4⟩:=h
  have hk':(k:Int) < c.inputs.length:=by omega
  have wk:=wrap_id (n:=(k:Int) + 1) (by omega) (by omega)
  have w1:=wrap_id (n:=2 * c.act) (by omega) (by omega)
  have hsum:2 * c.act + (k:Int)=2 * (A:Int) + (k:Int):=by omega
  have w2:=wrap_id (n:=2 * (A:Int) + (k:Int)) (by omega) (by omega)
  rw [goE_at hk] at he
  have hF:inpF c A k=nameE (namesTo c A (2 * A + k)) (nameAt c A (2 * A + k)):=rfl
  rw [← hF] at hc
  generalize inpF c A k=f at *
  simp at hc
  rw [getS_expand hl]
  by_cases b:f=0
  ·rw [if_pos b] at he
   simp [L31_0,List.range,List.range.loop,e1,e3,hk',w1,hsum,w2,hc,b,wk]
   exact ⟨rfl,⟨by simp [noNil,hn],rfl,rfl⟩,rfl,he⟩
  ·rw [if_neg b] at he
   simp [L31_0,Q69a,List.range,List.range.loop,e1,e3,hk',w1,hsum,w2,hc,b,he]
 ·rintro ⟨s,hh⟩ ⟨rfl,⟨hnn,hl,e1⟩,e3,he⟩
  simp only [Nat.sub_self,goE] at hl e1 e3 he
  have hn:∀ j,getS s j ≠ .nils:=noNil_get hnn
  rw [getS_expand hl]
  simp [L31_0,Q69a,List.range,List.range.loop,e1,e3,he]
  exact ⟨by simp [noNil,hn],rfl,rfl⟩
def I69b (c:Ct) (A k:Nat) (st:St):Prop:=st.h=[⟨0,.box c.cells⟩]∧Keep69 c st.s∧getS st.s 5=num k∧goE (sigF c A) 0 c.signals.length=goE (sigF c A) k (c.signals.length - k)
def Q69b (c:Ct) (A:Nat) (r:R):Prop:=r.st.s.length=57∧((r.x=.exit 2∧r.st.h=[⟨0,.box c.cells⟩]∧Keep69 c r.st.s∧goE (sigF c A) 0 c.signals.length=0)∨(r.x=.ret∧getS r.st.s 2=num (goE (sigF c A) 0 c.signals.length)∧goE (sigF c A) 0 c.signals.length ≠ 0))
theorem loop69b {c:Ct} {A:Nat} (h:Mid c A) (hfew:c.small=true) (st:St) (h0:I69b c A 0 st):∃ r,ev pg (.code (.going 1 L31_1) st)=some r∧Q69b c A r:=by
 refine loop_from (I69b c A) c.signals.length (Q69b c A) h0 ?_ ?_
 ·rintro k ⟨s,hh⟩ hk ⟨rfl,⟨hnn,hl,e1⟩,e5,he⟩
  simp only at hl e1 e5
  have hn:∀ j,getS s j ≠ .nils:=noNil_get hnn
  have hc:=ev70 h k hk (by have:=((few_parts hfew).2.2.2.2.2 _ (List.getElem_mem hk)).1; omega)
  obtain ⟨hA,h1,h2,h3,h4⟩:=h
  have hk':(k:Int) < c.signals.length:=by omega
  have wk:=wrap_id (n:=(k:Int) + 1) (by omega) (by omega)
  rw [goE_at hk] at he
  have hF:sigF c A k=sigE c A (namesTo c A (firstN c A + k)) k c.signals[k]:=by unfold sigF; rw [List.getElem?_eq_getElem hk]
  rw [← hF] at hc
  generalize sigF c A k=f at *
  rw [getS_expand hl]
  by_cases b:f=0
  ·rw [if_pos b] at he
   simp [L31_1,List.range,List.range.loop,e1,e5,hk',hc,b,wk]
   exact ⟨rfl,⟨by simp [noNil,hn],rfl,rfl⟩,rfl,he⟩
  ·rw [if_neg b] at he
   simp [L31_1,Q69b,List.range,List.range.loop,e1,e5,hk',hc,b,he]
 ·rintro ⟨s,hh⟩ ⟨rfl,⟨hnn,hl,e1⟩,e5,he⟩
  simp only [Nat.sub_self,goE] at hl e1 e5 he
  have hn:∀ j,getS s j ≠ .nils:=noNil_get hnn
  rw [getS_expand hl]
  simp [L31_1,Q69b,List.range,List.range.loop,e1,e5,he]
  exact ⟨by simp [noNil,hn],rfl,rfl⟩
theorem ev31 (c:Ct) (hfew:c.small=true):ev pg (.call (.fn 31 [] []) [c.v] [])=some { v:=num c.check,st:=⟨[],[]⟩ }:=by
 obtain ⟨f1,f2,_⟩:=few_parts hfew
 rw [ev_call,pg31]
 unfold Ct.check
 by_cases a1:c.act < 1
 ·rw [if_pos (.inl a1)]
  simp [ir31,a1]
 by_cases a2:6 < c.act
 ·rw [if_pos (.inr a2)]
  simp [ir31,a1,a2]
 rw [if_neg (by omega)]
 by_cases a3:16 < c.inputs.length
 ·have a3':(16:Int) < (c.inputs.length:Int):=by omega
  rw [if_pos (.inl a3)]
  simp [ir31,a1,a2,a3']
 have a3':¬ ((16:Int) < (c.inputs.length:Int)):=by omega
 by_cases a4:64 < c.signals.length
 ·have a4':(64:Int) < (c.signals.length:Int):=by omega
  rw [if_pos (.inr a4)]
  simp [ir31,a1,a2,a3',a4']
 have a4':¬ ((64:Int) < (c.signals.length:Int)):=by omega
 rw [if_neg (by omega)]
 have hM:Mid c c.act.toNat:=⟨by omega,by omega,by omega,f1,f2⟩
 have h116:=ev71 hM
 have hla:=loop69a hM hfew
 have hlb:=loop69b hM hfew
 generalize c.act.toNat=A at *
 unfold ctE
 unfold Q69a at hla
 unfold Q69b at hlb
 have hIa:∀ st:St,I69a c A 0 st ↔ (st.h=[⟨0,.box c.cells⟩]∧Keep69 c st.s∧getS st.s 3=num 0):=fun st=>by
  unfold I69a
  exact ⟨fun h=>⟨h.1,h.2.1,h.2.2.1⟩,fun h=>⟨h.1,h.2.1,h.2.2,rfl⟩⟩
 have hIb:∀ st:St,I69b c A 0 st ↔ (st.h=[⟨0,.box c.cells⟩]∧Keep69 c st.s∧getS st.s 5=num 0):=fun st=>by
  unfold I69b
  exact ⟨fun h=>⟨h.1,h.2.1,h.2.2.1⟩,fun h=>⟨h.1,h.2.1,h.2.2,rfl⟩⟩
 generalize goE (inpF c A) 0 c.inputs.length=ei at *
 generalize goE (sigF c A) 0 c.signals.length=es at *
 generalize pilE c A=ep at *
 simp [ir31,a1,a2,a3',a4',ev_loop]
 generalize hr:ev pg (.code (.going 1 L31_0) _)=o
 obtain ⟨r,rfl,hl,hQ⟩:∃ r,o=some r∧_:=by
  rw [← hr]
  exact hla _ ((hIa _).2 ⟨by simp,⟨by simp [noNil],by simp,by simp⟩,by simp⟩)
 rcases hQ with ⟨hx,hh,⟨hnn,gl,g1⟩,rfl⟩ | ⟨hx,h2,hE⟩
 ·have hns:noNil (setS r.st.s 5 (.int .i64 0)):=noNil_set hnn (by simp)
  have had:∀ h,adoptL h (setS r.st.s 5 (.int .i64 0))=(setS r.st.s 5 (.int .i64 0),h):=fun h=>adopt_none h hns
  simp [hx,had,hh]
  generalize hr2:ev pg (.code (.going 1 L31_1) _)=o2
  obtain ⟨r2,rfl,hl2,hQ2⟩:∃ r,o2=some r∧_:=by
   rw [← hr2]
   exact hlb _ ((hIb _).2 ⟨by simp,⟨hns,by simp [gl],by simp [g1]⟩,by simp [gl]⟩)
  rcases hQ2 with ⟨hx2,hh2,⟨_,gl2,g12⟩,rfl⟩ | ⟨hx2,h22,hE2⟩
  ·simp [hx2,hh2,gl2,g12,h116]
  ·simp [hx2,h22,hE2]
 ·simp [hx,h2,hE]
end Go.Proofs.YtbhkplbciajikaaGreat
