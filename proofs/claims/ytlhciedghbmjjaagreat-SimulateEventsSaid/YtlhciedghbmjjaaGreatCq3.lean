/- Controls: errors, by the program. Controls: errors, by the program, are those by the reference. -/
import Derived.Test.YtlhciedghbmjjaaGreatCq1
set_option linter.all false
namespace Go.Proofs.YtlhciedghbmjjaaGreat
open Go Go.Am Go.Proofs
set_option maxRecDepth 100000
theorem nameE_congr {K L:List Txt} (h:∀ q,q ∈ K ↔ q ∈ L) (s:Txt):nameE K s=nameE L s:=by
 unfold nameE
 simp only [h s]
theorem sigP_congr (c:Ct) (A:Nat) {K L:List Txt} (h:∀ q,q ∈ K ↔ q ∈ L) (i:Nat) (x:Sg):sigP c A K i x=sigP c A L i x:=by
 unfold sigP
 rw [nameE_congr h]
theorem namesTo_succ (c:Ct) (A n:Nat) (q:Txt):q ∈ namesTo c A (n + 1) ↔ (q ∈ namesTo c A n∨q=nameAt c A n):=by
 unfold namesTo
 rw [List.range_succ,List.map_append,List.mem_append]
 simp
theorem nameAt_inp (c:Ct) (A j:Nat) (hj:j < c.inputs.length):nameAt c A (2 * A + j)=c.inputs[j]:=by
 unfold nameAt
 rw [if_neg (by omega),if_pos (by omega),show 2 * A + j - 2 * A=j by omega,List.getElem?_eq_getElem hj]
 rfl
def keysTo (c:Ct) (A n:Nat) (l:List (Txt × Int)):Prop:=∀ q,q ∈ l.map Prod.fst ↔ q ∈ namesTo c A n
theorem calm_hX (c:Ct) (l:List (Txt × Int)):calm (hX c l []):=by simp [calm,scrubO]
structure Keep84 (st:List V):Prop where
 nn:noNil st
 len:st.length=111
 t1:getS st 1=.bptr 1 0
 t4:getS st 4=.bptr 3 0
def I84a (c:Ct) (A k:Nat) (st:St):Prop:=(∃ l,st.h=hX c l []∧keysTo c A k l)∧Keep84 st.s∧getS st.s 45=num (2 * A:Nat)∧getS st.s 46=num k
def Q84a (c:Ct) (A:Nat) (r:R):Prop:=r.x=.exit 0∧(∃ l,r.st.h=hX c l []∧keysTo c A (2 * A) l)∧Keep84 r.st.s
theorem loop84a {c:Ct} {A:Nat} (h:Mid c A) (st:St) (h0:I84a c A 0 st):∃ r,ev pg (.code (.going 4 L81_0) st)=some r∧Q84a c A r:=by
 refine loop_from (I84a c A) (2 * A) (Q84a c A) h0 ?_ ?_
 ·rintro k ⟨s,hh⟩ hk ⟨⟨l,rfl,hkeys⟩,⟨hnn,hl,e1,e4⟩,e45,e46⟩
  simp only at hl e1 e4 e45 e46
  have hn:∀ j,getS s j ≠ .nils:=noNil_get hnn
  have hk':(k:Int) < ((2 * A:Nat):Int):=by omega
  have h6:=h.hi
  have wk:=wrap_id (n:=(k:Int) + 1) (by omega) (by omega)
  have hc:=ev110 h k (by unfold countN; omega)
  obtain ⟨l',hu1,hu2⟩:=upd_map l (nameAt c A k) k
  have hcut:∀ l,cutL 4 (hX c l [])=hX c l []:=fun l=>calm_cutL (calm_hX c l)
  generalize hN:2 * A=N at *
  generalize hq:nameAt c A k=q at *
  rw [getS_expand hl]
  simp [ev_draw1,exT,chkOk,L81_0,List.range,List.range.loop,e1,e4,e45,e46,hk',hc,hu1,wk]
  exact ⟨⟨l',rfl,fun t=>by rw [hu2,namesTo_succ,hq,hkeys t]⟩,⟨by simp [noNil,hn],rfl,rfl,rfl⟩,by rw [hN]; rfl,rfl⟩
 ·rintro ⟨s,hh⟩ ⟨⟨l,rfl,hkeys⟩,⟨hnn,hl,e1,e4⟩,e45,e46⟩
  simp only at hl e1 e4 e45 e46
  have hn:∀ j,getS s j ≠ .nils:=noNil_get hnn
  rw [getS_expand hl]
  simp [L81_0,Q84a,List.range,List.range.loop,e1,e4,e45,e46]
  exact ⟨⟨l,rfl,hkeys⟩,⟨by simp [noNil,hn],rfl,rfl,rfl⟩⟩
def I84b (c:Ct) (A k:Nat) (st:St):Prop:=(∃ l,st.h=hX c l []∧keysTo c A (2 * A + k) l)∧Keep84 st.s∧getS st.s 59=.imm (c.inputs.map srow)∧getS st.s 60=num c.inputs.length∧getS st.s 61=num k∧goE (inpF c A) 0 c.inputs.length=goE (inpF c A) k (c.inputs.length - k)
def Q84b (c:Ct) (A:Nat) (r:R):Prop:=(r.x=.exit 2∧(∃ l,r.st.h=hX c l []∧keysTo c A (firstN c A) l)∧Keep84 r.st.s∧goE (inpF c A) 0 c.inputs.length=0)∨(r.x=.ret∧r.st.s.length=111∧getS r.st.s 2=.undef∧getS r.st.s 3=num (goE (inpF c A) 0 c.inputs.length)∧goE (inpF c A) 0 c.inputs.length ≠ 0∧∃ l,r.st.h=hX c l [])
theorem loop84b {c:Ct} {A:Nat} (h:Mid c A) (st:St) (h0:I84b c A 0 st):∃ r,ev pg (.code (.going 4 L81_1) st)=some r∧Q84b c A r:=by
 refine loop_from (I84b c A) c.inputs.length (Q84b c A) h0 ?_ ?_
 ·rintro k ⟨s,hh⟩ hk ⟨⟨l,rfl,hkeys⟩,⟨hnn,hl,e1,e4⟩,e59,e60,e61,he⟩
  simp only at hl e1 e4 e59 e60 e61
  have hn:∀ j,getS s j ≠ .nils:=noNil_get hnn
  obtain ⟨hA,h1,h2,h3,h4⟩:=h
  have hk':(k:Int) < c.inputs.length:=by omega
  have wk:=wrap_id (n:=(k:Int) + 1) (by omega) (by omega)
  obtain ⟨l',hc,hl'⟩:=ev111 c l [] (fun l=>calm_hX c l) c.inputs[k]
  rw [goE_at hk] at he
  have hF:nameE (l.map Prod.fst) c.inputs[k]=inpF c A k:=by
   rw [nameE_congr hkeys,inpF,nameAt_inp c A k hk]
  rw [hF] at hc hl'
  have hkeys':inpF c A k=0→keysTo c A (2 * A + (k + 1)) l':=fun h0=>by
   rcases hl' with ⟨_,h⟩ | ⟨h,_⟩
   ·intro q
    rw [h q,show 2 * A + (k + 1)=2 * A + k + 1 by omega,namesTo_succ,hkeys q,nameAt_inp c A k hk]
   ·exact absurd h0 h
  generalize inpF c A k=f at *
  rw [getS_expand hl]
  by_cases b:f=0
  ·rw [if_pos b] at he
   simp [L81_1,List.range,List.range.loop,e1,e4,e59,e60,e61,hk,hk',hc,b,wk]
   exact ⟨⟨l',rfl,hkeys' b⟩,⟨by simp [noNil,hn],rfl,rfl,rfl⟩,rfl,rfl,rfl,he⟩
  ·rw [if_neg b] at he
   simp [L81_1,Q84b,List.range,List.range.loop,e1,e4,e59,e60,e61,hk,hk',hc,b,he]
   exact ⟨l',rfl⟩
 ·rintro ⟨s,hh⟩ ⟨⟨l,rfl,hkeys⟩,⟨hnn,hl,e1,e4⟩,e59,e60,e61,he⟩
  simp only [Nat.sub_self,goE] at hl e1 e4 e59 e60 e61 he
  have hn:∀ j,getS s j ≠ .nils:=noNil_get hnn
  rw [getS_expand hl]
  simp [L81_1,Q84b,List.range,List.range.loop,e1,e4,e59,e60,e61,he]
  exact ⟨⟨l,rfl,hkeys⟩,⟨by simp [noNil,hn],rfl,rfl,rfl⟩⟩
def I84c (c:Ct) (A k:Nat) (st:St):Prop:=(∃ l,st.h=hX c l []∧keysTo c A (firstN c A + k) l)∧Keep84 st.s∧getS st.s 74=num c.signals.length∧getS st.s 75=num k∧goE (sigF c A) 0 c.signals.length=goE (sigF c A) k (c.signals.length - k)
def Q84c (c:Ct) (A:Nat) (r:R):Prop:=(r.x=.exit 4∧(∃ l,r.st.h=hX c l [])∧Keep84 r.st.s∧goE (sigF c A) 0 c.signals.length=0)∨(r.x=.ret∧r.st.s.length=111∧getS r.st.s 2=.undef∧getS r.st.s 3=num (goE (sigF c A) 0 c.signals.length)∧goE (sigF c A) 0 c.signals.length ≠ 0∧∃ l,r.st.h=hX c l [])
theorem loop84c {c:Ct} {A:Nat} (h:Mid c A) (hfew:c.small=true) (st:St) (h0:I84c c A 0 st):∃ r,ev pg (.code (.going 4 L81_2) st)=some r∧Q84c c A r:=by
 refine loop_from (I84c c A) c.signals.length (Q84c c A) h0 ?_ ?_
 ·rintro k ⟨s,hh⟩ hk ⟨⟨l,rfl,hkeys⟩,⟨hnn,hl,e1,e4⟩,e74,e75,he⟩
  simp only at hl e1 e4 e74 e75
  have hn:∀ j,getS s j ≠ .nils:=noNil_get hnn
  obtain ⟨_,hon,hoff⟩:=(few_parts hfew).2.2.2.2.2 _ (List.getElem_mem hk)
  obtain ⟨l',hc,hl'⟩:=ev112 h l k hk hon hoff
  obtain ⟨hA,h1,h2,h3,h4⟩:=h
  have hk':(k:Int) < c.signals.length:=by omega
  have wk:=wrap_id (n:=(k:Int) + 1) (by omega) (by omega)
  rw [goE_at hk] at he
  have hF:sigP c A (l.map Prod.fst) k c.signals[k]=sigF c A k:=by
   rw [sigP_congr c A hkeys,sigP_eq]
   unfold sigF
   rw [List.getElem?_eq_getElem hk]
  have hkeys':sigF c A k=0→keysTo c A (firstN c A + (k + 1)) l':=fun h0=>by
   rcases hl' with ⟨_,h⟩ | ⟨h,_⟩
   ·intro q
    rw [h q,show firstN c A + (k + 1)=firstN c A + k + 1 by omega,namesTo_succ,hkeys q,nameAt_sig c A k hk]
   ·rw [← hF] at h0
    unfold sigP at h0
    rw [if_neg h] at h0
    exact absurd h0 h
  rw [hF] at hc
  generalize sigF c A k=f at *
  rw [getS_expand hl]
  by_cases b:f=0
  ·rw [if_pos b] at he
   simp [L81_2,List.range,List.range.loop,e1,e4,e74,e75,hk',hc,b,wk]
   exact ⟨⟨l',rfl,hkeys' b⟩,⟨by simp [noNil,hn],rfl,rfl,rfl⟩,rfl,rfl,he⟩
  ·rw [if_neg b] at he
   simp [L81_2,Q84c,List.range,List.range.loop,e1,e4,e74,e75,hk',hc,b,he]
   exact ⟨l',rfl⟩
 ·rintro ⟨s,hh⟩ ⟨⟨l,rfl,hkeys⟩,⟨hnn,hl,e1,e4⟩,e74,e75,he⟩
  simp only [Nat.sub_self,goE] at hl e1 e4 e74 e75 he
  have hn:∀ j,getS s j ≠ .nils:=noNil_get hnn
  rw [getS_expand hl]
  simp [L81_2,Q84c,List.range,List.range.loop,e1,e4,e74,e75,he]
  exact ⟨⟨l,rfl⟩,⟨by simp [noNil,hn],rfl,rfl,rfl⟩⟩
theorem ev81 (c:Ct) (hfew:c.small=true):∃ v z,ev pg (.call (.fn 81 [] []) [c.v] [⟨0,.box c.cells⟩])=some { v:=.tup [v,num c.check],st:=⟨[],z⟩ }:=by
 obtain ⟨f1,f2,f3,f4,_⟩:=few_parts hfew
 rw [ev_call,pg81]
 unfold Ct.check
 by_cases a1:c.act < 1
 ·rw [if_pos (.inl a1)]
  simp [ir81,a1]
 by_cases a2:6 < c.act
 ·rw [if_pos (.inr a2)]
  simp [ir81,a1,a2]
 rw [if_neg (by omega)]
 by_cases a3:16 < c.inputs.length
 ·have a3':(16:Int) < (c.inputs.length:Int):=by omega
  rw [if_pos (.inl a3)]
  simp [ir81,a1,a2,a3']
 have a3':¬ ((16:Int) < (c.inputs.length:Int)):=by omega
 by_cases a4:64 < c.signals.length
 ·have a4':(64:Int) < (c.signals.length:Int):=by omega
  rw [if_pos (.inr a4)]
  simp [ir81,a1,a2,a3',a4']
 have a4':¬ ((64:Int) < (c.signals.length:Int)):=by omega
 rw [if_neg (by omega)]
 have hM:Mid c c.act.toNat:=⟨by omega,by omega,by omega,f1,f2⟩
 have hla:=loop84a hM
 have hlb:=loop84b hM
 have hlc:=loop84c hM hfew
 have hactA:c.act=(c.act.toNat:Int):=by omega
 have hA1:=hM.lo
 have hA6:=hM.hi
 have h132:=fun (l:List (Txt × Int)) (z:H) (hcl:calm (hX c l z)) (n:Int)=>ev114 hM (h:=hX c l z) (i:=1) rfl hcl n
 have h131:c.plus.length=c.act.toNat→_:=fun hp=>ev72 c.plus c.minus f3 f4 (by omega)
 generalize c.act.toNat=A at *
 have w1:=wrap_id (n:=2 * c.act) (by omega) (by omega)
 unfold ctE
 have hIb:∀ st:St,I84b c A 0 st ↔ ((∃ l,st.h=hX c l []∧keysTo c A (2 * A) l)∧Keep84 st.s∧getS st.s 59=.imm (c.inputs.map srow)∧getS st.s 60=num c.inputs.length∧getS st.s 61=num 0):=fun st=>by
  unfold I84b
  exact ⟨fun h=>⟨h.1,h.2.1,h.2.2.1,h.2.2.2.1,h.2.2.2.2.1⟩,fun h=>⟨h.1,h.2.1,h.2.2.1,h.2.2.2.1,h.2.2.2.2,rfl⟩⟩
 have hIc:∀ st:St,I84c c A 0 st ↔ ((∃ l,st.h=hX c l []∧keysTo c A (firstN c A) l)∧Keep84 st.s∧getS st.s 74=num c.signals.length∧getS st.s 75=num 0):=fun st=>by
  unfold I84c
  exact ⟨fun h=>⟨h.1,h.2.1,h.2.2.1,h.2.2.2.1⟩,fun h=>⟨h.1,h.2.1,h.2.2.1,h.2.2.2,rfl⟩⟩
 unfold Q84b at hlb
 unfold Q84c at hlc
 generalize goE (inpF c A) 0 c.inputs.length=ei at *
 generalize goE (sigF c A) 0 c.signals.length=es at *
 simp [ir81,a1,a2,a3',a4',w1,ev_loop]
 generalize hr:ev pg (.code (.going 4 L81_0) _)=o
 obtain ⟨r,rfl,hx,⟨l,hh,hkeys⟩,⟨hnn,hl,g1,g4⟩⟩:∃ r,o=some r∧Q84a c A r:=by
  rw [← hr]
  refine hla _ ⟨⟨[],rfl,by simp [keysTo,namesTo]⟩,⟨by simp [noNil],by simp,by simp,by simp⟩,by simp [hactA],by simp⟩
 simp (maxDischargeDepth:=9) [hx,hh,hl,g1,adopt_none,noNil_set,hnn]
 generalize hr2:ev pg (.code (.going 4 L81_1) _)=o
 obtain ⟨r2,rfl,hQ2⟩:∃ r,o=some r∧_:=by
  rw [← hr2]
  exact hlb _ ((hIb _).2 ⟨⟨l,rfl,hkeys⟩,⟨by simp (maxDischargeDepth:=9) [noNil_set,hnn],by simp [hl],by simp [g1],by simp [g4]⟩,by simp [hl],by simp [hl],by simp [hl]⟩)
 rcases hQ2 with ⟨hx2,⟨l2,hh2,hkeys2⟩,⟨hnn2,hl2,g21,g24⟩,rfl⟩ | ⟨hx2,hl2,g22,g23,hE,l2,hh2⟩
 ·simp (maxDischargeDepth:=9) [hx2,hh2,hl2,g21,adopt_none,noNil_set,hnn2]
  generalize hr3:ev pg (.code (.going 4 L81_2) _)=o
  obtain ⟨r3,rfl,hQ3⟩:∃ r,o=some r∧_:=by
   rw [← hr3]
   exact hlc _ ((hIc _).2 ⟨⟨l2,rfl,hkeys2⟩,⟨by simp (maxDischargeDepth:=9) [noNil_set,hnn2],by simp [hl2],by simp [g21],by simp [g24]⟩,by simp [hl2],by simp [hl2]⟩)
  rcases hQ3 with ⟨hx3,⟨l3,hh3⟩,⟨hnn3,hl3,g31,g34⟩,rfl⟩ | ⟨hx3,hl3,g32,g33,hE3,l3,hh3⟩
  ·rw [if_pos (rfl:(0:Int)=0)]
   unfold pilE
   by_cases n1:c.plus.length=A
   ·have n1b:((c.plus.length:Int) != c.act)=false:=by simp; omega
    by_cases n2:c.minus.length=A
    ·have n2b:((c.minus.length:Int) != c.act)=false:=by simp; omega
     rw [if_neg (by omega)]
     have h131:=h131 n1
     have h130:=ev113 (f:=114) (caps:=[.bptr 1 0]) (h:=hX c l3 [⟨0,.frz 1 ((c.plus++c.minus).map nrow)⟩]) (l:=c.plus++c.minus) (p:=badL (countN c A)) (by simp; omega) rfl rfl (fun n=>h132 l3 [⟨0,.frz 1 ((c.plus++c.minus).map nrow)⟩] (by simp [calm,scrubO]) n) (by simp [calm,scrubO])
     rw [List.any_append] at h130
     generalize c.plus.any (badL (countN c A))=P at *
     generalize c.minus.any (badL (countN c A))=M at *
     simp only [ints,List.map_append] at h130
     cases P with
     | true=>simp [hx3,hh3,hl3,g31,n1b,n2b,h131,h130]
     | false=>cases M with
      | true=>simp [hx3,hh3,hl3,g31,n1b,n2b,h131,h130]
      | false=>simp [hx3,hh3,hl3,g31,g34,n1b,n2b,h131,h130]
    ·have n2b:((c.minus.length:Int) != c.act)=true:=by simp; omega
     rw [if_pos (.inr n2)]
     simp [hx3,hh3,hl3,g31,n1b,n2b]
   ·have n1b:((c.plus.length:Int) != c.act)=true:=by simp; omega
    rw [if_pos (.inl n1)]
    simp [hx3,hh3,hl3,g31,n1b]
  ·simp [hx3,hh3,g32,g33,hE3]
 ·simp [hx2,hh2,g22,g23,hE]
theorem ev44 (c:Ct) (hfew:c.small=true):ev pg (.call (.fn 44 [] []) [c.v] [])=some { v:=num c.check,st:=⟨[],[]⟩ }:=by
 obtain ⟨v,z,h84⟩:=ev81 c hfew
 generalize c.check=e at *
 rw [ev_call,pg44]
 simp [ir44,h84]
end Go.Proofs.YtlhciedghbmjjaaGreat
