/- Controls: errors, by the program. Controls: errors, by the program, are those by the reference. Loops of Am, by a picture of the slots and of the memory. -/
import Derived.Test.YtlhciedghbmjjaaGreatCq1
import Derived.Test.YtlhciedghbmjjaaGreatEn6
set_option linter.all false
namespace Go.Proofs.YtlhciedghbmjjaaGreat
open Go Go.Am Go.Proofs
set_option maxRecDepth 100000
theorem qts {K L:List Txt} (h:∀ q,q ∈ K ↔ q ∈ L) (s:Txt):qdm K s=qdm L s:=by
 unfold qdm
 simp only [h s]
theorem q8k (c:Ct) (A:Nat) {K L:List Txt} (h:∀ q,q ∈ K ↔ q ∈ L) (i:Nat) (x:Sg):zht c A K i x=zht c A L i x:=by
 unfold zht
 rw [qts h]
theorem qkk (c:Ct) (A n:Nat) (q:Txt):q ∈ qdh c A (n + 1) ↔ (q ∈ qdh c A n∨q=qbp c A n):=by
 unfold qdh
 rw [List.range_succ,List.map_append,List.mem_append]
 simp
theorem qvm (c:Ct) (A j:Nat) (hj:j < c.inputs.length):qbp c A (2 * A + j)=c.inputs[j]:=by
 unfold qbp
 rw [if_neg (by omega),if_pos (by omega),show 2 * A + j - 2 * A=j by omega,List.getElem?_eq_getElem hj]
 rfl
def qlv (c:Ct) (A n:Nat) (l:List (Txt × Int)):Prop:=∀ q,q ∈ l.map Prod.fst ↔ q ∈ qdh c A n
theorem zds (c:Ct) (l:List (Txt × Int)):qci (hX c l []):=by simp [qci,qbl]
structure Keep84 (st:List V):Prop where
 nn:qdd st
 len:st.length=111
 t1:qaq st 1=.bptr 1 0
 t4:qaq st 4=.bptr 3 0
def z6w (c:Ct) (A k:Nat) (st:St):Prop:=(∃ l,st.h=hX c l []∧qlv c A k l)∧Keep84 st.s∧qaq st.s 45=num (2 * A:Nat)∧qaq st.s 46=num k
def zxp (c:Ct) (A:Nat) (r:R):Prop:=r.x=.exit 0∧(∃ l,r.st.h=hX c l []∧qlv c A (2 * A) l)∧Keep84 r.st.s
theorem zqx {c:Ct} {A:Nat} (h:Mid c A) (st:St) (h0:z6w c A 0 st):∃ r,ev pg (.code (.going 4 L81_0) st)=some r∧zxp c A r:=by
 refine qbq (z6w c A) (2 * A) (zxp c A) h0 ?_ ?_
 ·rintro k ⟨s,hh⟩ hk ⟨⟨l,rfl,hkeys⟩,⟨hnn,hl,e1,e4⟩,e45,e46⟩
  simp only at hl e1 e4 e45 e46
  have hn:∀ j,qaq s j ≠ .nils:=qcb hnn
  have hk':(k:Int) < ((2 * A:Nat):Int):=by omega
  have h6:=h.hi
  have wk:=qab (n:=(k:Int) + 1) (by omega) (by omega)
  have hc:=ev110 h k (by unfold qai; omega)
  obtain ⟨l',hu1,hu2⟩:=q2r l (qbp c A k) k
  have hcut:∀ l,qay 4 (hX c l [])=hX c l []:=fun l=>qge (zds c l)
  generalize hN:2 * A=N at *
  generalize hq:qbp c A k=q at *
  rw [qah hl]
  simp [qaa,exT,qad,L81_0,List.range,List.range.loop,e1,e4,e45,e46,hk',hc,hu1,wk]
  exact ⟨⟨l',rfl,fun t=>by rw [hu2,qkk,hq,hkeys t]⟩,⟨by simp [qdd,hn],rfl,rfl,rfl⟩,by rw [hN]; rfl,rfl⟩
 ·rintro ⟨s,hh⟩ ⟨⟨l,rfl,hkeys⟩,⟨hnn,hl,e1,e4⟩,e45,e46⟩
  simp only at hl e1 e4 e45 e46
  have hn:∀ j,qaq s j ≠ .nils:=qcb hnn
  rw [qah hl]
  simp [L81_0,zxp,List.range,List.range.loop,e1,e4,e45,e46]
  exact ⟨⟨l,rfl,hkeys⟩,⟨by simp [qdd,hn],rfl,rfl,rfl⟩⟩
def zzl (c:Ct) (A k:Nat) (st:St):Prop:=(∃ l,st.h=hX c l []∧qlv c A (2 * A + k) l)∧Keep84 st.s∧qaq st.s 59=.imm (c.inputs.map q4o)∧qaq st.s 60=num c.inputs.length∧qaq st.s 61=num k∧goE (qwi c A) 0 c.inputs.length=goE (qwi c A) k (c.inputs.length - k)
def zwa (c:Ct) (A:Nat) (r:R):Prop:=(r.x=.exit 2∧(∃ l,r.st.h=hX c l []∧qlv c A (qan c A) l)∧Keep84 r.st.s∧goE (qwi c A) 0 c.inputs.length=0)∨(r.x=.ret∧r.st.s.length=111∧qaq r.st.s 2=.undef∧qaq r.st.s 3=num (goE (qwi c A) 0 c.inputs.length)∧goE (qwi c A) 0 c.inputs.length ≠ 0∧∃ l,r.st.h=hX c l [])
theorem zkr {c:Ct} {A:Nat} (h:Mid c A) (st:St) (h0:zzl c A 0 st):∃ r,ev pg (.code (.going 4 L81_1) st)=some r∧zwa c A r:=by
 refine qbq (zzl c A) c.inputs.length (zwa c A) h0 ?_ ?_
 ·rintro k ⟨s,hh⟩ hk ⟨⟨l,rfl,hkeys⟩,⟨hnn,hl,e1,e4⟩,e59,e60,e61,he⟩
  simp only at hl e1 e4 e59 e60 e61
  have hn:∀ j,qaq s j ≠ .nils:=qcb hnn
  obtain ⟨hA,h1,h2,h3,h4⟩:=h
  have hk':(k:Int) < c.inputs.length:=by omega
  have wk:=qab (n:=(k:Int) + 1) (by omega) (by omega)
  obtain ⟨l',hc,hl'⟩:=ev111 c l [] (fun l=>zds c l) c.inputs[k]
  rw [q5i hk] at he
  have hF:qdm (l.map Prod.fst) c.inputs[k]=qwi c A k:=by
   rw [qts hkeys,qwi,qvm c A k hk]
  rw [hF] at hc hl'
  have hkeys':qwi c A k=0→qlv c A (2 * A + (k + 1)) l':=fun h0=>by
   rcases hl' with ⟨_,h⟩ | ⟨h,_⟩
   ·intro q
    rw [h q,show 2 * A + (k + 1)=2 * A + k + 1 by omega,qkk,hkeys q,qvm c A k hk]
   ·exact absurd h0 h
  generalize qwi c A k=f at *
  rw [qah hl]
  by_cases b:f=0
  ·rw [if_pos b] at he
   simp [L81_1,List.range,List.range.loop,e1,e4,e59,e60,e61,hk,hk',hc,b,wk]
   exact ⟨⟨l',rfl,hkeys' b⟩,⟨by simp [qdd,hn],rfl,rfl,rfl⟩,rfl,rfl,rfl,he⟩
  ·rw [if_neg b] at he
   simp [L81_1,zwa,List.range,List.range.loop,e1,e4,e59,e60,e61,hk,hk',hc,b,he]
   exact ⟨l',rfl⟩
 ·rintro ⟨s,hh⟩ ⟨⟨l,rfl,hkeys⟩,⟨hnn,hl,e1,e4⟩,e59,e60,e61,he⟩
  simp only [Nat.sub_self,goE] at hl e1 e4 e59 e60 e61 he
  have hn:∀ j,qaq s j ≠ .nils:=qcb hnn
  rw [qah hl]
  simp [L81_1,zwa,List.range,List.range.loop,e1,e4,e59,e60,e61,he]
  exact ⟨⟨l,rfl,hkeys⟩,⟨by simp [qdd,hn],rfl,rfl,rfl⟩⟩
def zyo (c:Ct) (A k:Nat) (st:St):Prop:=(∃ l,st.h=hX c l []∧qlv c A (qan c A + k) l)∧Keep84 st.s∧qaq st.s 74=num c.signals.length∧qaq st.s 75=num k∧goE (qrm c A) 0 c.signals.length=goE (qrm c A) k (c.signals.length - k)
def zuh (c:Ct) (A:Nat) (r:R):Prop:=(r.x=.exit 4∧(∃ l,r.st.h=hX c l [])∧Keep84 r.st.s∧goE (qrm c A) 0 c.signals.length=0)∨(r.x=.ret∧r.st.s.length=111∧qaq r.st.s 2=.undef∧qaq r.st.s 3=num (goE (qrm c A) 0 c.signals.length)∧goE (qrm c A) 0 c.signals.length ≠ 0∧∃ l,r.st.h=hX c l [])
theorem zkl {c:Ct} {A:Nat} (h:Mid c A) (hfew:c.small=true) (st:St) (h0:zyo c A 0 st):∃ r,ev pg (.code (.going 4 L81_2) st)=some r∧zuh c A r:=by
 refine qbq (zyo c A) c.signals.length (zuh c A) h0 ?_ ?_
 ·rintro k ⟨s,hh⟩ hk ⟨⟨l,rfl,hkeys⟩,⟨hnn,hl,e1,e4⟩,e74,e75,he⟩
  simp only at hl e1 e4 e74 e75
  have hn:∀ j,qaq s j ≠ .nils:=qcb hnn
  obtain ⟨_,hon,hoff⟩:=(qgc hfew).2.2.2.2.2 _ (List.getElem_mem hk)
  obtain ⟨l',hc,hl'⟩:=ev112 h l k hk hon hoff
  obtain ⟨hA,h1,h2,h3,h4⟩:=h
  have hk':(k:Int) < c.signals.length:=by omega
  have wk:=qab (n:=(k:Int) + 1) (by omega) (by omega)
  rw [q5i hk] at he
  have hF:zht c A (l.map Prod.fst) k c.signals[k]=qrm c A k:=by
   rw [q8k c A hkeys,zoh]
   unfold qrm
   rw [List.getElem?_eq_getElem hk]
  have hkeys':qrm c A k=0→qlv c A (qan c A + (k + 1)) l':=fun h0=>by
   rcases hl' with ⟨_,h⟩ | ⟨h,_⟩
   ·intro q
    rw [h q,show qan c A + (k + 1)=qan c A + k + 1 by omega,qkk,hkeys q,qpd c A k hk]
   ·rw [← hF] at h0
    unfold zht at h0
    rw [if_neg h] at h0
    exact absurd h0 h
  rw [hF] at hc
  generalize qrm c A k=f at *
  rw [qah hl]
  by_cases b:f=0
  ·rw [if_pos b] at he
   simp [L81_2,List.range,List.range.loop,e1,e4,e74,e75,hk',hc,b,wk]
   exact ⟨⟨l',rfl,hkeys' b⟩,⟨by simp [qdd,hn],rfl,rfl,rfl⟩,rfl,rfl,he⟩
  ·rw [if_neg b] at he
   simp [L81_2,zuh,List.range,List.range.loop,e1,e4,e74,e75,hk',hc,b,he]
   exact ⟨l',rfl⟩
 ·rintro ⟨s,hh⟩ ⟨⟨l,rfl,hkeys⟩,⟨hnn,hl,e1,e4⟩,e74,e75,he⟩
  simp only [Nat.sub_self,goE] at hl e1 e4 e74 e75 he
  have hn:∀ j,qaq s j ≠ .nils:=qcb hnn
  rw [qah hl]
  simp [L81_2,zuh,List.range,List.range.loop,e1,e4,e74,e75,he]
  exact ⟨⟨l,rfl⟩,⟨by simp [qdd,hn],rfl,rfl,rfl⟩⟩
theorem ev81 (c:Ct) (hfew:c.small=true):∃ v z,ev pg (.call (.fn 81 [] []) [c.v] [⟨0,.box c.cells⟩])=some { v:=.tup [v,num c.check],st:=⟨[],z⟩ }:=by
 obtain ⟨f1,f2,f3,f4,_⟩:=qgc hfew
 rw [qac,pg81]
 unfold Ct.check
 by_cases a1:c.act < 1
 ·rw [if_pos (.inl a1)]
  simp [ir81,a1]
 by_cases a2:6 < c.act
 ·rw [if_pos (.inr a2)]
  simp [ir81,a1,a2]
 rw [if_neg (by omega)]
 by_cases a3:16 < c.inputs.length
 ·have a3':(16:Int) < (c.inputs.length:Int):=by omega
  rw [if_pos (.inl a3)]
  simp [ir81,a1,a2,a3']
 have a3':¬ ((16:Int) < (c.inputs.length:Int)):=by omega
 by_cases a4:64 < c.signals.length
 ·have a4':(64:Int) < (c.signals.length:Int):=by omega
  rw [if_pos (.inr a4)]
  simp [ir81,a1,a2,a3',a4']
 have a4':¬ ((64:Int) < (c.signals.length:Int)):=by omega
 rw [if_neg (by omega)]
 have hM:Mid c c.act.toNat:=⟨by omega,by omega,by omega,f1,f2⟩
 have hla:=zqx hM
 have hlb:=zkr hM
 have hlc:=zkl hM hfew
 have hactA:c.act=(c.act.toNat:Int):=by omega
 have hA1:=hM.lo
 have hA6:=hM.hi
 have h132:=fun (l:List (Txt × Int)) (z:H) (hcl:qci (hX c l z)) (n:Int)=>ev114 hM (h:=hX c l z) (i:=1) rfl hcl n
 have h131:c.plus.length=c.act.toNat→_:=fun hp=>ev72 c.plus c.minus f3 f4 (by omega)
 generalize c.act.toNat=A at *
 have w1:=qab (n:=2 * c.act) (by omega) (by omega)
 unfold ctE
 have hIb:∀ st:St,zzl c A 0 st ↔ ((∃ l,st.h=hX c l []∧qlv c A (2 * A) l)∧Keep84 st.s∧qaq st.s 59=.imm (c.inputs.map q4o)∧qaq st.s 60=num c.inputs.length∧qaq st.s 61=num 0):=fun st=>by
  unfold zzl
  exact ⟨fun h=>⟨h.1,h.2.1,h.2.2.1,h.2.2.2.1,h.2.2.2.2.1⟩,fun h=>⟨h.1,h.2.1,h.2.2.1,h.2.2.2.1,h.2.2.2.2,rfl⟩⟩
 have hIc:∀ st:St,zyo c A 0 st ↔ ((∃ l,st.h=hX c l []∧qlv c A (qan c A) l)∧Keep84 st.s∧qaq st.s 74=num c.signals.length∧qaq st.s 75=num 0):=fun st=>by
  unfold zyo
  exact ⟨fun h=>⟨h.1,h.2.1,h.2.2.1,h.2.2.2.1⟩,fun h=>⟨h.1,h.2.1,h.2.2.1,h.2.2.2,rfl⟩⟩
 unfold zwa at hlb
 unfold zuh at hlc
 generalize goE (qwi c A) 0 c.inputs.length=ei at *
 generalize goE (qrm c A) 0 c.signals.length=es at *
 simp [ir81,a1,a2,a3',a4',w1,qag]
 generalize hr:ev pg (.code (.going 4 L81_0) _)=o
 obtain ⟨r,rfl,hx,⟨l,hh,hkeys⟩,⟨hnn,hl,g1,g4⟩⟩:∃ r,o=some r∧zxp c A r:=by
  rw [← hr]
  refine hla _ ⟨⟨[],rfl,by simp [qlv,qdh]⟩,⟨by simp [qdd],by simp,by simp,by simp⟩,by simp [hactA],by simp⟩
 simp (maxDischargeDepth:=9) [hx,hh,hl,g1,qgu,qeb,hnn]
 generalize hr2:ev pg (.code (.going 4 L81_1) _)=o
 obtain ⟨r2,rfl,hQ2⟩:∃ r,o=some r∧_:=by
  rw [← hr2]
  exact hlb _ ((hIb _).2 ⟨⟨l,rfl,hkeys⟩,⟨by simp (maxDischargeDepth:=9) [qeb,hnn],by simp [hl],by simp [g1],by simp [g4]⟩,by simp [hl],by simp [hl],by simp [hl]⟩)
 rcases hQ2 with ⟨hx2,⟨l2,hh2,hkeys2⟩,⟨hnn2,hl2,g21,g24⟩,rfl⟩ | ⟨hx2,hl2,g22,g23,hE,l2,hh2⟩
 ·simp (maxDischargeDepth:=9) [hx2,hh2,hl2,g21,qgu,qeb,hnn2]
  generalize hr3:ev pg (.code (.going 4 L81_2) _)=o
  obtain ⟨r3,rfl,hQ3⟩:∃ r,o=some r∧_:=by
   rw [← hr3]
   exact hlc _ ((hIc _).2 ⟨⟨l2,rfl,hkeys2⟩,⟨by simp (maxDischargeDepth:=9) [qeb,hnn2],by simp [hl2],by simp [g21],by simp [g24]⟩,by simp [hl2],by simp [hl2]⟩)
  rcases hQ3 with ⟨hx3,⟨l3,hh3⟩,⟨hnn3,hl3,g31,g34⟩,rfl⟩ | ⟨hx3,hl3,g32,g33,hE3,l3,hh3⟩
  ·rw [if_pos (rfl:(0:Int)=0)]
   unfold zdz
   by_cases n1:c.plus.length=A
   ·have n1b:((c.plus.length:Int) != c.act)=false:=by simp; omega
    by_cases n2:c.minus.length=A
    ·have n2b:((c.minus.length:Int) != c.act)=false:=by simp; omega
     rw [if_neg (by omega)]
     have h131:=h131 n1
     have h130:=ev113 (f:=114) (caps:=[.bptr 1 0]) (h:=hX c l3 [⟨0,.frz 1 ((c.plus++c.minus).map qfb)⟩]) (l:=c.plus++c.minus) (p:=qer (qai c A)) (by simp; omega) rfl rfl (fun n=>h132 l3 [⟨0,.frz 1 ((c.plus++c.minus).map qfb)⟩] (by simp [qci,qbl]) n) (by simp [qci,qbl])
     rw [List.any_append] at h130
     generalize c.plus.any (qer (qai c A))=P at *
     generalize c.minus.any (qer (qai c A))=M at *
     simp only [qck,List.map_append] at h130
     cases P with
     | true=>simp [hx3,hh3,hl3,g31,n1b,n2b,h131,h130]
     | false=>cases M with
      | true=>simp [hx3,hh3,hl3,g31,n1b,n2b,h131,h130]
      | false=>simp [hx3,hh3,hl3,g31,g34,n1b,n2b,h131,h130]
    ·have n2b:((c.minus.length:Int) != c.act)=true:=by simp; omega
     rw [if_pos (.inr n2)]
     simp [hx3,hh3,hl3,g31,n1b,n2b]
   ·have n1b:((c.plus.length:Int) != c.act)=true:=by simp; omega
    rw [if_pos (.inl n1)]
    simp [hx3,hh3,hl3,g31,n1b]
  ·simp [hx3,hh3,g32,g33,hE3]
 ·simp [hx2,hh2,g22,g23,hE]
theorem ev44 (c:Ct) (hfew:c.small=true):ev pg (.call (.fn 44 [] []) [c.v] [])=some { v:=num c.check,st:=⟨[],[]⟩ }:=by
 obtain ⟨v,z,h84⟩:=ev81 c hfew
 generalize c.check=e at *
 rw [qac,pg44]
 simp [ir44,h84]
end Go.Proofs.YtlhciedghbmjjaaGreat
namespace Go.Am
abbrev Tm:=List (Option V)
def fill (f:Nat→V):Nat→Tm→List V
 | _,[]=>[]
 | i,some v :: t=>v :: fill f (i + 1) t
 | i,none :: t=>f i :: fill f (i + 1) t
def fits:Tm→List V→Prop
 | [],[]=>True
 | some v :: t,x :: s=>x=v∧fits t s
 | none :: t,x :: s=>x ≠ .nils∧fits t s
 | _,_=>False
def Junk (f:Nat→V):Prop:=∀ i,f i ≠ .nils
theorem qoe:∀ {t:Tm} {s:List V} (n:Nat),fits t s→∃ f,Junk f∧s=fill f n t
 | [],[],_,_=>⟨fun _=>.undef,fun _=>by simp,rfl⟩
 | [],_ :: _,_,h=>by simp [fits] at h
 | some _ :: _,[],_,h=>by simp [fits] at h
 | none :: _,[],_,h=>by simp [fits] at h
 | some v :: t,x :: s,n,h=>by
  obtain ⟨rfl,h2⟩:=h
  obtain ⟨f,hf,rfl⟩:=qoe (n + 1) h2
  exact ⟨f,hf,rfl⟩
 | none :: t,x :: s,n,h=>by
  obtain ⟨hx,h2⟩:=h
  obtain ⟨f,hf,rfl⟩:=qoe (n + 1) h2
  refine ⟨fun i=>if i=n then x else f i,fun i=>?_,?_⟩
  ·simp only
   split
   ·exact hx
   ·exact hf i
  ·have:∀ (t:Tm) (m:Nat),n < m→fill (fun i=>if i=n then x else f i) m t=fill f m t:=by
    intro t
    induction t with
    | nil=>intro m _; rfl
    | cons o t ih =>
     intro m hm
     cases o with
     | none=>simp only [fill,ih (m + 1) (by omega)]; rw [if_neg (by omega)]
     | some v=>simp only [fill,ih (m + 1) (by omega)]
   simp only [fill,if_true]
   rw [this t (n + 1) (by omega)]
structure At (T:Tm) (h:H) (st:St):Prop where
 s:fits T st.s
 h:st.h=h
theorem At.eq {T:Tm} {h:H} {st:St} (a:At T h st):∃ f,Junk f∧st=⟨fill f 0 T,h⟩:=by
 obtain ⟨f,hf,e⟩:=qoe 0 a.s
 refine ⟨f,hf,?_⟩
 obtain ⟨s,h'⟩:=st
 obtain rfl:h'=h:=a.h
 obtain rfl:s=fill f 0 T:=e
 rfl
def Out {α:Type} (x:X) (T:α→Tm) (Hp:α→H) (G:α→Prop) (r:R):Prop:=∃ a f,Junk f∧G a∧r={ x:=x,st:=⟨fill f 0 (T a),Hp a⟩ }
theorem z7h {α:Type} {x:X} {T:α→Tm} {Hp:α→H} {G:α→Prop} {st:St} (a:α) (g:G a) (h:At (T a) (Hp a) st):Out x T Hp G { x:=x,st:=st }:=by
 obtain ⟨f,hf,rfl⟩:=h.eq
 exact ⟨a,f,hf,g,rfl⟩
theorem qdp {P:Prg} {nx:Nat} {c:C} {α:Type} (N:Nat) (T:Nat→α→Tm) (Hp:Nat→α→H) (G:Nat→α→Prop) (Q:R→Prop)
  (step:∀ k a f,Junk f→k < N→G k a→∃ r,ev P (.code c ⟨fill f 0 (T k a),Hp k a⟩)=some r∧((r.x=.normal∧∃ a',G (k + 1) a'∧At (T (k + 1) a') (Hp (k + 1) a') (qos nx r.st))∨(r.x ≠ .normal∧Q r)))
  (last:∀ a f,Junk f→G N a→∃ r,ev P (.code c ⟨fill f 0 (T N a),Hp N a⟩)=some r∧r.x ≠ .normal∧Q r)
  {st:St} (a0:α) (g0:G 0 a0) (h0:At (T 0 a0) (Hp 0 a0) st):∃ r,ev P (.code (.going nx c) st)=some r∧Q r:=by
 refine qbq (fun k st=>∃ a,G k a∧At (T k a) (Hp k a) st) N Q ⟨a0,g0,h0⟩ ?_ ?_
 ·rintro k st hk ⟨a,g,h⟩
  obtain ⟨f,hf,rfl⟩:=h.eq
  exact step k a f hf hk g
 ·rintro st ⟨a,g,h⟩
  obtain ⟨f,hf,rfl⟩:=h.eq
  exact last a f hf g
theorem qfi {P:Prg} {nx:Nat} {c:C} (N:Nat) (T:Nat→Tm) (Hp:Nat→H) (Q:R→Prop)
  (step:∀ k f,Junk f→k < N→∃ r,ev P (.code c ⟨fill f 0 (T k),Hp k⟩)=some r∧((r.x=.normal∧At (T (k + 1)) (Hp (k + 1)) (qos nx r.st))∨(r.x ≠ .normal∧Q r)))
  (last:∀ f,Junk f→∃ r,ev P (.code c ⟨fill f 0 (T N),Hp N⟩)=some r∧r.x ≠ .normal∧Q r)
  {st:St} (h0:At (T 0) (Hp 0) st):∃ r,ev P (.code (.going nx c) st)=some r∧Q r :=
 qdp (α:=Unit) N (fun k _=>T k) (fun k _=>Hp k) (fun _ _=>True) Q
  (fun k _ f hf hk _=>by
   obtain ⟨r,e,h⟩:=step k f hf hk
   refine ⟨r,e,?_⟩
   rcases h with ⟨hx,h⟩ | h
   ·exact .inl ⟨hx,(),trivial,h⟩
   ·exact .inr h)
  (fun _ f hf _=>last f hf) () trivial h0
def qls (N:Nat) (p:Nat→Bool) (X:Nat→R→Prop) (Y:R→Prop) (r:R):Prop:=(∃ k,k < N∧p k=true∧(∀ j,j < k→p j=false)∧X k r)∨((∀ j,j < N→p j=false)∧Y r)
theorem qcx {P:Prg} {nx:Nat} {c:C} (N:Nat) (p:Nat→Bool) (T:Nat→Tm) (h:H) (X:Nat→R→Prop) (Y:R→Prop)
  (go:∀ k f,Junk f→k < N→p k=false→∃ st,ev P (.code c ⟨fill f 0 (T k),h⟩)=some { st:=st }∧At (T (k + 1)) h (qos nx st))
  (hit:∀ k f,Junk f→k < N→p k=true→∃ r,ev P (.code c ⟨fill f 0 (T k),h⟩)=some r∧r.x ≠ .normal∧X k r)
  (last:∀ f,Junk f→∃ r,ev P (.code c ⟨fill f 0 (T N),h⟩)=some r∧r.x ≠ .normal∧Y r)
  {st:St} (h0:At (T 0) h st):∃ r,ev P (.code (.going nx c) st)=some r∧qls N p X Y r:=by
 refine qdp (α:=Unit) N (fun k _=>T k) (fun _ _=>h) (fun k _=>∀ j,j < k→p j=false) _ ?_ ?_ () (fun j hj=>absurd hj (Nat.not_lt_zero j)) h0
 ·intro k _ f hf hk hp
  cases hb:p k with
  | false =>
   obtain ⟨st,e,ha⟩:=go k f hf hk hb
   refine ⟨_,e,.inl ⟨rfl,(),fun j hj=>?_,ha⟩⟩
   by_cases hjk:j=k
   ·rw [hjk]; exact hb
   ·exact hp j (by omega)
  | true =>
   obtain ⟨r,e,hx,hX⟩:=hit k f hf hk hb
   exact ⟨r,e,.inr ⟨hx,.inl ⟨k,hk,hb,hp,hX⟩⟩⟩
 ·intro _ f hf hp
  obtain ⟨r,e,hx,hY⟩:=last f hf
  exact ⟨r,e,hx,.inr ⟨hp,hY⟩⟩
def qaj (x:X) (T:Tm) (h:H) (r:R):Prop:=∃ f,Junk f∧r={ x:=x,st:=⟨fill f 0 T,h⟩ }
@[simp] theorem zxy {x x':X} {T:Tm} {h:H} {st:St}:qaj x T h { x:=x',v:=.undef,st:=st } ↔ x'=x∧At T h st:=by
 constructor
 ·rintro ⟨f,hf,e⟩
  injection e with e1 _ e3
  subst e3
  refine ⟨e1,?_,rfl⟩
  have:∀ (t:Tm) (n:Nat),fits t (fill f n t):=by
   intro t
   induction t with
   | nil=>intro n; trivial
   | cons o t ih =>
    intro n
    cases o with
    | none=>exact ⟨hf n,ih (n + 1)⟩
    | some v=>exact ⟨rfl,ih (n + 1)⟩
  exact this T 0
 ·rintro ⟨rfl,h⟩
  obtain ⟨f,hf,rfl⟩:=h.eq
  exact ⟨f,hf,rfl⟩
theorem z8f {T:Tm} {h:H} {st:St} (a:fits T st.s) (b:st.h=h):At T h st:=⟨a,b⟩
theorem zve {T:Tm} {h h':H} {s:List V}:At T h ⟨s,h'⟩ ↔ fits T s∧h'=h:=⟨fun a=>⟨a.s,a.h⟩,fun a=>⟨a.1,a.2⟩⟩
attribute [simp] fill fits zve
@[simp] theorem Junk.ne {f:Nat→V} (hf:Junk f) (i:Nat):(f i=.nils)=False:=by simp [hf i]
end Go.Am
