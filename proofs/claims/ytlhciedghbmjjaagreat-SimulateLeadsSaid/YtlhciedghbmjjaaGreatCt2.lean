/- Controls: few, lines. Controls: lines and their names. -/
import Derived.Test.YtlhciedghbmjjaaGreatVs3
set_option linter.all false
namespace Go.Proofs.YtlhciedghbmjjaaGreat
open Go Go.Am Go.Proofs
set_option maxRecDepth 100000
abbrev Txt:=List UInt8
structure Sg where
 name:Txt
 kind:Int
 on:Ex
 off:Ex
 delay:Int
 init:Bool
abbrev Sg.row (x:Sg):List V:=[.str x.name,num x.kind,num x.on.op,num x.on.idx,.imm (x.on.args.map Ex.row),num x.off.op,num x.off.idx,.imm (x.off.args.map Ex.row),num x.delay,.bool x.init]
abbrev q6l (s:Txt):List V:=[.str s]
abbrev qee (n:Int):List V:=[.int .i64 n]
abbrev qbw (l:List Int):V:=.imm (l.map qee)
structure Ct where
 act:Int
 inputs:List Txt
 signals:List Sg
 plus:List Int
 minus:List Int
abbrev Ct.cells (c:Ct):List V:=[num c.act,.imm (c.inputs.map q6l),.imm (c.signals.map Sg.row),qbw c.plus,qbw c.minus]
abbrev Ct.v (c:Ct):V:=.agg c.cells
def q5s (s:Txt):Bool:=decide (s.length≤200)
def qyw (x:Sg):Bool:=decide (x.name.length≤200) && x.on.light && x.off.light
def Ct.few (c:Ct):Bool:=decide (c.inputs.length≤32) && !(decide (16 < c.signals.length) && decide (c.signals.length≤64)) && decide (c.signals.length≤128) && decide (c.plus.length≤40) && decide (c.minus.length≤40) && c.inputs.all q5s && c.signals.all qyw
theorem zke {α:Type} {f:α→Bool} {l:List α} {k:Nat} (hk:k < l.length):(l.drop k).all f=(f l[k] && (l.drop (k + 1)).all f):=by
 rw [List.drop_eq_getElem_cons hk]; rfl
theorem qgu:∀ {s:List V} (h:H),qcz s→qhu h s=(s,h)
 | [],h,_=>rfl
 | v :: s,h,hn=>by
  have hv:=hn v (by simp)
  have ih:=qgu (s:=s) h fun w hw=>hn w (by simp [hw])
  cases v <;> first | exact absurd rfl hv | simp only [qhu,ih]
def z1u (c:Ct) (k:Nat) (st:St):Prop:=st.h=[⟨0,.box c.cells⟩]∧st.s.length=82∧qaq st.s 1=.bptr 0 0∧qcz st.s∧qaq st.s 3=num k∧c.inputs.all q5s=(c.inputs.drop k).all q5s
def zrq (c:Ct) (r:R):Prop:=r.st.s.length=82∧((r.x=.exit 0∧r.st.h=[⟨0,.box c.cells⟩]∧qaq r.st.s 1=.bptr 0 0∧qcz r.st.s∧c.inputs.all q5s=true)∨(r.x=.ret∧qaq r.st.s 2=.bool false∧c.inputs.all q5s=false))
theorem zdn (c:Ct) (hc:c.inputs.length≤32) (st:St) (h0:z1u c 0 st):∃ r,ev pg (.code (.going 1 L62_0) st)=some r∧zrq c r:=by
 refine qbk (z1u c) c.inputs.length (zrq c) h0 ?_ ?_
 ·rintro k ⟨s,h⟩ hk ⟨rfl,hl,e1,hnn,e3,he⟩
  simp only at hl e1 e3
  have hn:∀ j,qaq s j ≠ .nils:=qcb hnn
  have hk':(k:Int) < c.inputs.length:=by omega
  have wk:=qab (n:=(k:Int) + 1) (by omega) (by omega)
  rw [zke hk] at he
  rw [qah hl]
  by_cases ha:c.inputs[k].length≤200
  ·have ha':¬ ((200:Int) < (c.inputs[k].length:Int)):=by omega
   have hf:q5s c.inputs[k]=true:=by simpa [q5s] using ha
   rw [hf,Bool.true_and] at he
   simp [L62_0,z1u,List.range,List.range.loop,e1,e3,hk,hk',ha',he,wk]
   simp [qcz,hn]
  ·have ha':(200:Int) < (c.inputs[k].length:Int):=by omega
   have hf:q5s c.inputs[k]=false:=by simp [q5s]; omega
   rw [hf,Bool.false_and] at he
   simp [L62_0,z1u,zrq,List.range,List.range.loop,e1,e3,hk,hk',ha',he]
 ·rintro ⟨s,h⟩ ⟨rfl,hl,e1,hnn,e3,he⟩
  simp only [List.drop_length] at hl e1 e3 he
  have hn:∀ j,qaq s j ≠ .nils:=qcb hnn
  have he':c.inputs.all q5s=true:=he
  rw [qah hl]
  simp [L62_0,zrq,List.range,List.range.loop,e1,e3,he']
  simp [qcz,hn]
def zrw (c:Ct) (k:Nat) (st:St):Prop:=st.h=[⟨0,.box c.cells⟩]∧st.s.length=82∧qaq st.s 1=.bptr 0 0∧qaq st.s 4=num k∧c.signals.all qyw=(c.signals.drop k).all qyw
def zjf (c:Ct) (r:R):Prop:=r.st.s.length=82∧((r.x=.exit 2∧c.signals.all qyw=true)∨(r.x=.ret∧qaq r.st.s 2=.bool false∧c.signals.all qyw=false))
theorem zcw (c:Ct) (hc:c.signals.length≤128) (st:St) (h0:zrw c 0 st):∃ r,ev pg (.code (.going 1 L62_1) st)=some r∧zjf c r:=by
 refine qbk (zrw c) c.signals.length (zjf c) h0 ?_ ?_
 ·rintro k ⟨s,h⟩ hk ⟨rfl,hl,e1,e4,he⟩
  simp only at hl e1 e4
  have hk':(k:Int) < c.signals.length:=by omega
  have wk:=qab (n:=(k:Int) + 1) (by omega) (by omega)
  have l1:=ev97 c.signals[k].on
  have l2:=ev97 c.signals[k].off
  rw [zke hk] at he
  rw [qah hl]
  by_cases ha:c.signals[k].name.length≤200
  ·have ha':¬ ((200:Int) < (c.signals[k].name.length:Int)):=by omega
   by_cases hb:c.signals[k].on.light=true
   ·by_cases hd:c.signals[k].off.light=true
    ·have hf:qyw c.signals[k]=true:=by simp [qyw,ha,hb,hd]
     rw [hf,Bool.true_and] at he
     simp [L62_1,zrw,List.range,List.range.loop,e1,e4,hk,hk',ha',l1,l2,hb,hd,he,wk]
    ·have hf:qyw c.signals[k]=false:=by simp [qyw,ha,hb,hd]
     rw [hf,Bool.false_and] at he
     simp [L62_1,zrw,zjf,List.range,List.range.loop,e1,e4,hk,hk',ha',l1,l2,hb,hd,he]
   ·have hf:qyw c.signals[k]=false:=by simp [qyw,ha,hb]
    rw [hf,Bool.false_and] at he
    simp [L62_1,zrw,zjf,List.range,List.range.loop,e1,e4,hk,hk',ha',l1,hb,he]
  ·have ha':(200:Int) < (c.signals[k].name.length:Int):=by omega
   have hf:qyw c.signals[k]=false:=by simp [qyw,ha]
   rw [hf,Bool.false_and] at he
   simp [L62_1,zrw,zjf,List.range,List.range.loop,e1,e4,hk,hk',ha',he]
 ·rintro ⟨s,h⟩ ⟨rfl,hl,e1,e4,he⟩
  simp only [List.drop_length] at hl e1 e4 he
  have he':c.signals.all qyw=true:=he
  rw [qah hl]
  simp [L62_1,zjf,List.range,List.range.loop,e1,e4,he']
theorem ev62 (c:Ct):ev pg (.call (.fn 62 [] []) [c.v] [])=some { v:=.bool c.few,st:=⟨[],[]⟩ }:=by
 rw [qac,pg62]
 by_cases h1:c.inputs.length≤32
 ·have h1':¬ ((32:Int) < (c.inputs.length:Int)):=by omega
  by_cases h2:16 < c.signals.length∧c.signals.length≤64
  ·have h2':(16:Int) < (c.signals.length:Int):=by omega
   have h2'':(c.signals.length:Int)≤64:=by omega
   simp [ir62,Ct.few,h1,h1',h2.1,h2.2,h2',h2'']
  ·by_cases h3:c.signals.length≤128
   ·have h3':¬ ((128:Int) < (c.signals.length:Int)):=by omega
    by_cases h4:c.plus.length≤40
    ·have h4':¬ ((40:Int) < (c.plus.length:Int)):=by omega
     by_cases h5:c.minus.length≤40
     ·have h5':¬ ((40:Int) < (c.minus.length:Int)):=by omega
      have hfew:c.few=(c.inputs.all q5s && c.signals.all qyw):=by
       unfold Ct.few
       have:(decide (16 < c.signals.length) && decide (c.signals.length≤64))=false:=by
        rw [← Bool.decide_and]; simpa using h2
       simp [h1,this,h3,h4,h5]
      rw [hfew]
      generalize hA:c.inputs.all q5s=A at *
      generalize hB:c.signals.all qyw=B at *
      rcases (by omega:¬ ((16:Int) < (c.signals.length:Int))∨((16:Int) < (c.signals.length:Int)∧¬ ((c.signals.length:Int)≤64))) with g1 | ⟨g1,g2⟩
      ·simp [ir62,h1',g1,h3',h4',h5',qae]
       generalize hr:ev pg (.code (.going 1 L62_0) _)=o
       obtain ⟨r,rfl,hl,hQ⟩:∃ r,o=some r∧zrq c r:=by
        rw [← hr]
        refine zdn c h1 _ ⟨?_,?_,?_,?_,?_,rfl⟩
        all_goals simp [qcz]
       rcases hQ with ⟨hx,hh,e1,hnn,hE⟩ | ⟨hx,h2,hE⟩
       ·have hA':A=true:=by rw [← hA]; exact hE
        subst hA'
        have hns:qcz (qgl r.st.s 4 (.int .i64 0)):=qec hnn (by simp)
        have had:∀ h,qhu h (qgl r.st.s 4 (.int .i64 0))=(qgl r.st.s 4 (.int .i64 0),h):=fun h=>qgu h hns
        simp [hx,had,hh]
        generalize hr2:ev pg (.code (.going 1 L62_1) _)=o2
        obtain ⟨r2,rfl,hl2,hQ2⟩:∃ r,o2=some r∧zjf c r:=by
         rw [← hr2]
         refine zcw c h3 _ ⟨?_,?_,?_,?_,rfl⟩
         all_goals simp [hl,e1]
        rcases hQ2 with ⟨hx2,hE2⟩ | ⟨hx2,h4,hE2⟩
        ·rw [hB] at hE2
         subst hE2
         simp [hx2,hl2]
        ·rw [hB] at hE2
         subst hE2
         simp [hx2,h4]
       ·have hA':A=false:=by rw [← hA]; exact hE
        subst hA'
        simp [hx,h2]
      ·simp [ir62,h1',g1,g2,h3',h4',h5',qae]
       generalize hr:ev pg (.code (.going 1 L62_0) _)=o
       obtain ⟨r,rfl,hl,hQ⟩:∃ r,o=some r∧zrq c r:=by
        rw [← hr]
        refine zdn c h1 _ ⟨?_,?_,?_,?_,?_,rfl⟩
        all_goals simp [qcz]
       rcases hQ with ⟨hx,hh,e1,hnn,hE⟩ | ⟨hx,h2,hE⟩
       ·have hA':A=true:=by rw [← hA]; exact hE
        subst hA'
        have hns:qcz (qgl r.st.s 4 (.int .i64 0)):=qec hnn (by simp)
        have had:∀ h,qhu h (qgl r.st.s 4 (.int .i64 0))=(qgl r.st.s 4 (.int .i64 0),h):=fun h=>qgu h hns
        simp [hx,had,hh]
        generalize hr2:ev pg (.code (.going 1 L62_1) _)=o2
        obtain ⟨r2,rfl,hl2,hQ2⟩:∃ r,o2=some r∧zjf c r:=by
         rw [← hr2]
         refine zcw c h3 _ ⟨?_,?_,?_,?_,rfl⟩
         all_goals simp [hl,e1]
        rcases hQ2 with ⟨hx2,hE2⟩ | ⟨hx2,h4,hE2⟩
        ·rw [hB] at hE2
         subst hE2
         simp [hx2,hl2]
        ·rw [hB] at hE2
         subst hE2
         simp [hx2,h4]
       ·have hA':A=false:=by rw [← hA]; exact hE
        subst hA'
        simp [hx,h2]
     ·have h5':(40:Int) < (c.minus.length:Int):=by omega
      have hfew:c.few=false:=by simp [Ct.few,h5]
      rw [hfew]
      rcases (by omega:¬ ((16:Int) < (c.signals.length:Int))∨((16:Int) < (c.signals.length:Int)∧¬ ((c.signals.length:Int)≤64))) with g1 | ⟨g1,g2⟩
      ·simp [ir62,h1',g1,h3',h4',h5']
      ·simp [ir62,h1',g1,g2,h3',h4',h5']
    ·have h4':(40:Int) < (c.plus.length:Int):=by omega
     have hfew:c.few=false:=by simp [Ct.few,h4]
     rw [hfew]
     rcases (by omega:¬ ((16:Int) < (c.signals.length:Int))∨((16:Int) < (c.signals.length:Int)∧¬ ((c.signals.length:Int)≤64))) with g1 | ⟨g1,g2⟩
     ·simp [ir62,h1',g1,h3',h4']
     ·simp [ir62,h1',g1,g2,h3',h4']
   ·have h3':(128:Int) < (c.signals.length:Int):=by omega
    have hfew:c.few=false:=by simp [Ct.few,h3]
    rw [hfew]
    have g1:(16:Int) < (c.signals.length:Int):=by omega
    have g2:¬ ((c.signals.length:Int)≤64):=by omega
    simp [ir62,h1',g1,g2,h3']
 ·have h1':(32:Int) < (c.inputs.length:Int):=by omega
  have hfew:c.few=false:=by simp [Ct.few,h1]
  rw [hfew]
  simp [ir62,h1']
structure Mid (c:Ct) (A:Nat):Prop where
 act:c.act=A
 lo:1≤A
 hi:A≤6
 inp:c.inputs.length≤32
 sig:c.signals.length≤128
abbrev qao (c:Ct) (A:Nat):Nat:=2 * A + c.inputs.length
abbrev qaj (c:Ct) (A:Nat):Nat:=2 * A + c.inputs.length + c.signals.length
theorem ev120 {c:Ct} {A:Nat} (h:Mid c A):ev pg (.call (.fn 120 [] []) [c.v] [])=some { v:=num (qaj c A:Nat),st:=⟨[],[]⟩ }:=by
 obtain ⟨hA,h1,h2,h3,h4⟩:=h
 have w1:=qab (n:=2 * (A:Int)) (by omega) (by omega)
 have w2:=qab (n:=2 * (A:Int) + (c.inputs.length:Int)) (by omega) (by omega)
 have w3:=qab (n:=2 * (A:Int) + (c.inputs.length:Int) + (c.signals.length:Int)) (by omega) (by omega)
 rw [qac,pg120]
 simp [ir120,hA,w1,w2,w3]
theorem ev118 {c:Ct} {A:Nat} (h:Mid c A):ev pg (.call (.fn 118 [] []) [c.v] [])=some { v:=num (qao c A:Nat),st:=⟨[],[]⟩ }:=by
 obtain ⟨hA,h1,h2,h3,h4⟩:=h
 have w1:=qab (n:=2 * (A:Int)) (by omega) (by omega)
 have w2:=qab (n:=2 * (A:Int) + (c.inputs.length:Int)) (by omega) (by omega)
 rw [qac,pg118]
 simp [ir118,hA,w1,w2]
theorem ev125 {c:Ct} {A:Nat} (h:Mid c A):ev pg (.call (.fn 125 [] []) [c.v] [])=some { v:=num (qao c A:Nat),st:=⟨[],[]⟩ }:=by
 obtain ⟨hA,h1,h2,h3,h4⟩:=h
 have w1:=qab (n:=2 * (A:Int)) (by omega) (by omega)
 have w2:=qab (n:=2 * (A:Int) + (c.inputs.length:Int)) (by omega) (by omega)
 rw [qac,pg125]
 simp [ir125,hA,w1,w2]
theorem qhz {α:Type} {row:α→List V} (h:∀ x,qzo (row x) (row x)=true):∀ l:List α,qvj (l.map row) (l.map row)=true
 | []=>rfl
 | x :: l=>by simp only [List.map_cons,qvj,h x,qhz h l,Bool.and_self]
@[simp] theorem z7a (l:List Ex):qvj (l.map Ex.row) (l.map Ex.row)=true:=by
 have:∀ x:Ex,qzo x.row x.row=true:=by
  refine Ex.ind fun x ih=>?_
  have hl:∀ l:List Ex,(∀ y ∈ l,qzo y.row y.row=true)→qvj (l.map Ex.row) (l.map Ex.row)=true:=by
   intro l
   induction l with
   | nil=>intro _; rfl
   | cons y l ihl =>
    intro h
    simp only [List.map_cons,qvj,h y (by simp),ihl (fun z hz=>h z (by simp [hz])),Bool.and_self]
  rw [ziv]
  simp [hl x.args ih]
 exact qhz this l
@[simp] theorem z3x (l:List Sg):qvj (l.map Sg.row) (l.map Sg.row)=true:=qhz (fun x=>by simp) l
@[simp] theorem z0k (l:List Txt):qvj (l.map q6l) (l.map q6l)=true:=qhz (fun x=>by simp) l
@[simp] theorem z2q (l:List Int):qvj (l.map qee) (l.map qee)=true:=qhz (fun x=>by simp) l
theorem ev115 {c:Ct} {A:Nat} (h:Mid c A):ev pg (.call (.fn 115 [] []) [c.v] [])=some { v:=num (qaj c A:Nat),st:=⟨[],[]⟩ }:=by
 have hf:=ev125 h
 obtain ⟨hA,h1,h2,h3,h4⟩:=h
 have w3:=qab (n:=2 * (A:Int) + (c.inputs.length:Int) + (c.signals.length:Int)) (by omega) (by omega)
 rw [qac,pg115]
 simp [qaa,exT,qad,ir115,hf,w3]
def qbo (c:Ct) (A k:Nat):Txt:=if k < 2 * A then [UInt8.ofNat (97 + k / 2),UInt8.ofNat (48 + k % 2)] else if k < 2 * A + c.inputs.length then (c.inputs[k - 2 * A]?).getD [] else ((c.signals[k - (2 * A + c.inputs.length)]?).map Sg.name).getD []
theorem zjp {n:Int} (h:0≤n) (h2:n < 2147483648):IntKind.i32.wrap n=n:=by
 unfold IntKind.wrap; simp [IntKind.bits,IntKind.signed]; omega
theorem z3y {q:Nat} (h:q < 6):List.take 1 (List.drop q ([97,98,99,100,101,102]:List UInt8))=[UInt8.ofNat (97 + q)]:=by
 rcases (by omega:q=0∨q=1∨q=2∨q=3∨q=4∨q=5) with rfl | rfl | rfl | rfl | rfl | rfl <;> rfl
theorem z5w {q:Nat} (h:q < 2):List.take 1 (List.drop q ([48,49]:List UInt8))=[UInt8.ofNat (48 + q)]:=by
 rcases (by omega:q=0∨q=1) with rfl | rfl <;> rfl
theorem z3d {q:Nat} (h:q < 6):(Utf8.encode (97 + (q:Int))).data.toList=[UInt8.ofNat (97 + q)]:=by
 rcases (by omega:q=0∨q=1∨q=2∨q=3∨q=4∨q=5) with rfl | rfl | rfl | rfl | rfl | rfl <;> decide
theorem z4k {q:Nat} (h:q < 2):(Utf8.encode (48 + (q:Int))).data.toList=[UInt8.ofNat (48 + q)]:=by
 rcases (by omega:q=0∨q=1) with rfl | rfl <;> decide
theorem ev116 {c:Ct} {A:Nat} (h:Mid c A) (k:Nat) (hk:k < qaj c A):ev pg (.call (.fn 116 [] []) [c.v,num k] [])=some { v:=.str (qbo c A k),st:=⟨[],[]⟩ }:=by
 have hf:=ev118 h
 obtain ⟨hA,h1,h2,h3,h4⟩:=h
 have hk':k < 2 * A + c.inputs.length + c.signals.length:=hk
 have w1:=qab (n:=2 * c.act) (by omega) (by omega)
 rw [qac,pg116]
 by_cases c1:k < 2 * A
 ·have c1':(k:Int) < 2 * c.act:=by omega
  obtain ⟨q,hq⟩:∃ q,q=k / 2:=⟨_,rfl⟩
  obtain ⟨r,hr⟩:∃ r,r=k % 2:=⟨_,rfl⟩
  have hq6:q < 6:=by omega
  have hr2:r < 2:=by omega
  have t1:(k:Int).tdiv 2=(q:Int):=by rw [hq]; rfl
  have t2:(k:Int).tmod 2=(r:Int):=by rw [hr]; rfl
  have w2:=qab (n:=(q:Int)) (by omega) (by omega)
  have w3:=qab (n:=(q:Int) + 1) (by omega) (by omega)
  have w4:=qab (n:=(r:Int) + 1) (by omega) (by omega)
  have hn:qbo c A k=[UInt8.ofNat (97 + q),UInt8.ofNat (48 + r)]:=by unfold qbo; rw [if_pos c1,hq,hr]
  have l1:=z3y hq6
  have l2:=z5w hr2
  have b1:q + 1≤6:=by omega
  have b2:r + 1≤2:=by omega
  have n1:((q:Int) + 1).toNat=q + 1:=by omega
  have n2:((r:Int) + 1).toNat=r + 1:=by omega
  have p1:(0:Int)≤(q:Int) + 1:=by omega
  have p2:(0:Int)≤(r:Int) + 1:=by omega
  rw [hn]
  simp [ir116,w1,c1',t1,t2,w2,w3,w4,l1,l2,b1,b2,n1,n2,p1,p2]
 ·have c1':¬ ((k:Int) < 2 * c.act):=by omega
  by_cases c2:k < 2 * A + c.inputs.length
  ·have c2':(k:Int) < 2 * (A:Int) + (c.inputs.length:Int):=by omega
   have hsub:(k:Int) - 2 * c.act=((k - 2 * A:Nat):Int):=by omega
   have w2:=qab (n:=((k - 2 * A:Nat):Int)) (by omega) (by omega)
   have hlt:k - 2 * A < c.inputs.length:=by omega
   have hn:qbo c A k=c.inputs[k - 2 * A]:=by unfold qbo; rw [if_neg c1,if_pos c2,List.getElem?_eq_getElem hlt]; rfl
   rw [hn]
   generalize k - 2 * A=j at *
   simp [ir116,w1,c1',hf,c2',hsub,w2,hlt]
  ·have c2':¬ ((k:Int) < 2 * (A:Int) + (c.inputs.length:Int)):=by omega
   have hsub:(k:Int) - (2 * (A:Int) + (c.inputs.length:Int))=((k - (2 * A + c.inputs.length):Nat):Int):=by omega
   have w2:=qab (n:=((k - (2 * A + c.inputs.length):Nat):Int)) (by omega) (by omega)
   have hlt:k - (2 * A + c.inputs.length) < c.signals.length:=by omega
   have hn:qbo c A k=c.signals[k - (2 * A + c.inputs.length)].name:=by unfold qbo; rw [if_neg c1,if_neg c2,List.getElem?_eq_getElem hlt]; rfl
   rw [hn]
   generalize k - (2 * A + c.inputs.length)=j at *
   simp [qaa,exT,qad,ir116,w1,c1',hf,c2',hsub,w2,hlt]
theorem ev110 {c:Ct} {A:Nat} (h:Mid c A) (k:Nat) (hk:k < qaj c A):ev pg (.call (.fn 110 [] []) [c.v,num k] [])=some { v:=.str (qbo c A k),st:=⟨[],[]⟩ }:=by
 have hf:=ev125 h
 obtain ⟨hA,h1,h2,h3,h4⟩:=h
 have hk':k < 2 * A + c.inputs.length + c.signals.length:=hk
 have w1:=qab (n:=2 * c.act) (by omega) (by omega)
 rw [qac,pg110]
 by_cases c1:k < 2 * A
 ·have c1':(k:Int) < 2 * c.act:=by omega
  obtain ⟨q,hq⟩:∃ q,q=k / 2:=⟨_,rfl⟩
  obtain ⟨r,hr⟩:∃ r,r=k % 2:=⟨_,rfl⟩
  have hq6:q < 6:=by omega
  have hr2:r < 2:=by omega
  have t1:(k:Int).tdiv 2=(q:Int):=by rw [hq]; rfl
  have t2:(k:Int).tmod 2=(r:Int):=by rw [hr]; rfl
  have w2:=qab (n:=(q:Int)) (by omega) (by omega)
  have w3:=qab (n:=97 + (q:Int)) (by omega) (by omega)
  have w4:=qab (n:=48 + (r:Int)) (by omega) (by omega)
  have w5:=zjp (n:=97 + (q:Int)) (by omega) (by omega)
  have w6:=zjp (n:=48 + (r:Int)) (by omega) (by omega)
  have hn:qbo c A k=[UInt8.ofNat (97 + q),UInt8.ofNat (48 + r)]:=by unfold qbo; rw [if_pos c1,hq,hr]
  have l1:=z3d hq6
  have l2:=z4k hr2
  rw [hn]
  simp [ir110,w1,c1',hf,t1,t2,w2,w3,w4,w5,w6,l1,l2]
 ·have c1':¬ ((k:Int) < 2 * c.act):=by omega
  by_cases c2:k < 2 * A + c.inputs.length
  ·have c2':(k:Int) < 2 * (A:Int) + (c.inputs.length:Int):=by omega
   have hsub:(k:Int) - 2 * c.act=((k - 2 * A:Nat):Int):=by omega
   have w2:=qab (n:=((k - 2 * A:Nat):Int)) (by omega) (by omega)
   have hlt:k - 2 * A < c.inputs.length:=by omega
   have hn:qbo c A k=c.inputs[k - 2 * A]:=by unfold qbo; rw [if_neg c1,if_pos c2,List.getElem?_eq_getElem hlt]; rfl
   rw [hn]
   generalize k - 2 * A=j at *
   simp [ir110,w1,c1',hf,c2',hsub,w2,hlt]
  ·have c2':¬ ((k:Int) < 2 * (A:Int) + (c.inputs.length:Int)):=by omega
   have hsub:(k:Int) - (2 * (A:Int) + (c.inputs.length:Int))=((k - (2 * A + c.inputs.length):Nat):Int):=by omega
   have w2:=qab (n:=((k - (2 * A + c.inputs.length):Nat):Int)) (by omega) (by omega)
   have hlt:k - (2 * A + c.inputs.length) < c.signals.length:=by omega
   have hn:qbo c A k=c.signals[k - (2 * A + c.inputs.length)].name:=by unfold qbo; rw [if_neg c1,if_neg c2,List.getElem?_eq_getElem hlt]; rfl
   rw [hn]
   generalize k - (2 * A + c.inputs.length)=j at *
   simp [ir110,w1,c1',hf,c2',hsub,w2,hlt]
end Go.Proofs.YtlhciedghbmjjaaGreat
