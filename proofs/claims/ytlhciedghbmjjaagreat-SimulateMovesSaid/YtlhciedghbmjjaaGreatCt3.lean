/- Controls: few, lines. Controls: lines and their names. Names: which bytes they have, by the reference and by the program. -/
import Derived.Test.YtlhciedghbmjjaaGreatVs3
import Derived.Laws.RangeAny
import Derived.Laws.RangeString
set_option linter.all false
namespace Go.Proofs.YtlhciedghbmjjaaGreat
open Go Go.Am Go.Proofs
set_option maxRecDepth 100000
abbrev Txt:=List UInt8
structure Sg where
 name:Txt
 kind:Int
 on:Ex
 off:Ex
 delay:Int
 init:Bool
abbrev Sg.row(x:Sg):List V:=[.str x.name,num x.kind,num x.on.op,num x.on.idx,.imm (x.on.args.map Ex.row),num x.off.op,num x.off.idx,.imm (x.off.args.map Ex.row),num x.delay,.bool x.init]
abbrev q3t(s:Txt):List V:=[.str s]
abbrev qdc(n:Int):List V:=[.int .i64 n]
abbrev qbx(l:List Int):V:=.imm (l.map qdc)
structure Ct where
 act:Int
 inputs:List Txt
 signals:List Sg
 plus:List Int
 minus:List Int
abbrev Ct.cells(c:Ct):List V:=[num c.act,.imm (c.inputs.map q3t),.imm (c.signals.map Sg.row),qbx c.plus,qbx c.minus]
abbrev Ct.v(c:Ct):V:=.agg c.cells
def q7x(s:Txt):Bool:=decide (s.length<=200)
def q0j(x:Sg):Bool:=decide (x.name.length<=200)&&x.on.light&&x.off.light
def Ct.few(c:Ct):Bool:=decide (c.inputs.length<=32) && !(decide (16<c.signals.length)&&decide (c.signals.length<=64))&&decide (c.signals.length<=128)&&decide (c.plus.length<=40)&&decide (c.minus.length<=40)&&c.inputs.all q7x&&c.signals.all q0j
theorem zlx{α:Type}{f:α->Bool}{l:List α}{k:Nat}(hk:k<l.length):(l.drop k).all f=(f l[k]&&(l.drop (k+1)).all f):=by
 rw[jL hk];rfl
theorem qho:∀{s:List V} (h:H),qdv s->qiq h s=(s,h)
 | [],h,_=>rfl
 | v :: s,h,hn=>by
  have hv:=hn v (by simp)
  have ih:=qho (s:=s) h fun w hw=>hn w (by simp[hw])
  cases v<;>first | exact absurd rfl hv | simp only[qiq,ih]
def z7m(c:Ct)(k:Nat)(st:St):Prop:=st.h=[⟨0,.box c.cells⟩]/\st.s.length=82/\qat st.s 1=.bptr 0 0/\qdv st.s/\qat st.s 3=num k/\c.inputs.all q7x=(c.inputs.drop k).all q7x
def zvq(c:Ct)(r:R):Prop:=r.st.s.length=82/\((r.x=.exit 0/\r.st.h=[⟨0,.box c.cells⟩]/\qat r.st.s 1=.bptr 0 0/\qdv r.st.s/\c.inputs.all q7x=true)\/(r.x=.ret/\qat r.st.s 2=.bool false/\c.inputs.all q7x=false))
theorem zeh(c:Ct)(hc:c.inputs.length<=32)(st:St)(h0:z7m c 0 st):∃r,ev pg (.code (.going 1 L62_0) st)=some r/\zvq c r:=by
 refine qbq (z7m c) c.inputs.length (zvq c) h0 ?_ ?_
 .rintro k ⟨s,h⟩ hk ⟨rfl,hl,e1,hnn,e3,he⟩
  simp only at hl e1 e3
  have hn:∀j,qat s j ≠ .nils:=qcp hnn
  have hk':(k:Int)<c.inputs.length:=by omega
  have wk:=qab (n:=(k:Int)+1) (by omega) (by omega)
  rw[zlx hk]at he
  rw[qaj hl]
  by_cases ha:c.inputs[k].length<=200
  .have ha':¬((200:Int)<(c.inputs[k].length:Int)):=by omega
   have hf:q7x c.inputs[k]=true:=by simpa[q7x]using ha
   rw[hf,Bool.true_and]at he
   simp[L62_0,z7m,List.range,List.range.loop,e1,e3,hk,hk',ha',he,wk]
   simp[qdv,hn]
  .have ha':(200:Int)<(c.inputs[k].length:Int):=by omega
   have hf:q7x c.inputs[k]=false:=by simp[q7x];omega
   rw[hf,Bool.false_and]at he
   simp[L62_0,z7m,zvq,List.range,List.range.loop,e1,e3,hk,hk',ha',he]
 .rintro⟨s,h⟩ ⟨rfl,hl,e1,hnn,e3,he⟩
  simp only[List.drop_length]at hl e1 e3 he
  have hn:∀j,qat s j ≠ .nils:=qcp hnn
  have he':c.inputs.all q7x=true:=he
  rw[qaj hl]
  simp[L62_0,zvq,List.range,List.range.loop,e1,e3,he']
  simp[qdv,hn]
def zvn(c:Ct)(k:Nat)(st:St):Prop:=st.h=[⟨0,.box c.cells⟩]/\st.s.length=82/\qat st.s 1=.bptr 0 0/\qat st.s 4=num k/\c.signals.all q0j=(c.signals.drop k).all q0j
def zms(c:Ct)(r:R):Prop:=r.st.s.length=82/\((r.x=.exit 2/\c.signals.all q0j=true)\/(r.x=.ret/\qat r.st.s 2=.bool false/\c.signals.all q0j=false))
theorem zdl(c:Ct)(hc:c.signals.length<=128)(st:St)(h0:zvn c 0 st):∃r,ev pg (.code (.going 1 L62_1) st)=some r/\zms c r:=by
 refine qbq (zvn c) c.signals.length (zms c) h0 ?_ ?_
 .rintro k ⟨s,h⟩ hk ⟨rfl,hl,e1,e4,he⟩
  simp only at hl e1 e4
  have hk':(k:Int)<c.signals.length:=by omega
  have wk:=qab (n:=(k:Int)+1) (by omega) (by omega)
  have l1:=ev97 c.signals[k].on
  have l2:=ev97 c.signals[k].off
  rw[zlx hk]at he
  rw[qaj hl]
  by_cases ha:c.signals[k].name.length<=200
  .have ha':¬((200:Int)<(c.signals[k].name.length:Int)):=by omega
   by_cases hb:c.signals[k].on.light=true
   .by_cases hd:c.signals[k].off.light=true
    .have hf:q0j c.signals[k]=true:=by simp[q0j,ha,hb,hd]
     rw[hf,Bool.true_and]at he
     simp[L62_1,zvn,List.range,List.range.loop,e1,e4,hk,hk',ha',l1,l2,hb,hd,he,wk]
    .have hf:q0j c.signals[k]=false:=by simp[q0j,ha,hb,hd]
     rw[hf,Bool.false_and]at he
     simp[L62_1,zvn,zms,List.range,List.range.loop,e1,e4,hk,hk',ha',l1,l2,hb,hd,he]
   .have hf:q0j c.signals[k]=false:=by simp[q0j,ha,hb]
    rw[hf,Bool.false_and]at he
    simp[L62_1,zvn,zms,List.range,List.range.loop,e1,e4,hk,hk',ha',l1,hb,he]
  .have ha':(200:Int)<(c.signals[k].name.length:Int):=by omega
   have hf:q0j c.signals[k]=false:=by simp[q0j,ha]
   rw[hf,Bool.false_and]at he
   simp[L62_1,zvn,zms,List.range,List.range.loop,e1,e4,hk,hk',ha',he]
 .rintro⟨s,h⟩ ⟨rfl,hl,e1,e4,he⟩
  simp only[List.drop_length]at hl e1 e4 he
  have he':c.signals.all q0j=true:=he
  rw[qaj hl]
  simp[L62_1,zms,List.range,List.range.loop,e1,e4,he']
theorem ev62(c:Ct):ev pg (.call (.fn 62 [] []) [c.v] [])=some { v:=.bool c.few,st:=⟨[],[]⟩ }:=by
 rw[qac,pg62]
 by_cases h1:c.inputs.length<=32
 .have h1':¬((32:Int)<(c.inputs.length:Int)):=by omega
  by_cases h2:16<c.signals.length/\c.signals.length<=64
  .have h2':(16:Int)<(c.signals.length:Int):=by omega
   have h2'':(c.signals.length:Int)<=64:=by omega
   simp[ir62,Ct.few,h1,h1',h2.1,h2.2,h2',h2'']
  .by_cases h3:c.signals.length<=128
   .have h3':¬((128:Int)<(c.signals.length:Int)):=by omega
    by_cases h4:c.plus.length<=40
    .have h4':¬((40:Int)<(c.plus.length:Int)):=by omega
     by_cases h5:c.minus.length<=40
     .have h5':¬((40:Int)<(c.minus.length:Int)):=by omega
      have hfew:c.few=(c.inputs.all q7x&&c.signals.all q0j):=by
       unfold Ct.few
       have:(decide (16<c.signals.length)&&decide (c.signals.length<=64))=false:=by
        rw[<-Bool.decide_and];simpa using h2
       simp[h1,this,h3,h4,h5]
      rw[hfew]
      generalize hA:c.inputs.all q7x=A at *
      generalize hB:c.signals.all q0j=B at *
      rcases (by omega:¬((16:Int)<(c.signals.length:Int))\/((16:Int)<(c.signals.length:Int)/\¬((c.signals.length:Int)<=64)))with g1 | ⟨g1,g2⟩
      .simp[ir62,h1',g1,h3',h4',h5',qaf]
       generalize hr:ev pg (.code (.going 1 L62_0) _)=o
       obtain⟨r,rfl,hl,hQ⟩:∃r,o=some r/\zvq c r:=by
        rw[<-hr]
        refine zeh c h1 _ ⟨?_,?_,?_,?_,?_,rfl⟩
        all_goals simp[qdv]
       rcases hQ with⟨hx,hh,e1,hnn,hE⟩ | ⟨hx,h2,hE⟩
       .have hA':A=true:=by rw[<-hA];exact hE
        subst hA'
        have hns:qdv (qhc r.st.s 4 (.int .i64 0)):=qew hnn (by simp)
        have had:∀h,qiq h (qhc r.st.s 4 (.int .i64 0))=(qhc r.st.s 4 (.int .i64 0),h):=fun h=>qho h hns
        simp[hx,had,hh]
        generalize hr2:ev pg (.code (.going 1 L62_1) _)=o2
        obtain⟨r2,rfl,hl2,hQ2⟩:∃r,o2=some r/\zms c r:=by
         rw[<-hr2]
         refine zdl c h3 _ ⟨?_,?_,?_,?_,rfl⟩
         all_goals simp[hl,e1]
        rcases hQ2 with⟨hx2,hE2⟩ | ⟨hx2,h4,hE2⟩
        .rw[hB]at hE2
         subst hE2
         simp[hx2,hl2]
        .rw[hB]at hE2
         subst hE2
         simp[hx2,h4]
       .have hA':A=false:=by rw[<-hA];exact hE
        subst hA'
        simp[hx,h2]
      .simp[ir62,h1',g1,g2,h3',h4',h5',qaf]
       generalize hr:ev pg (.code (.going 1 L62_0) _)=o
       obtain⟨r,rfl,hl,hQ⟩:∃r,o=some r/\zvq c r:=by
        rw[<-hr]
        refine zeh c h1 _ ⟨?_,?_,?_,?_,?_,rfl⟩
        all_goals simp[qdv]
       rcases hQ with⟨hx,hh,e1,hnn,hE⟩ | ⟨hx,h2,hE⟩
       .have hA':A=true:=by rw[<-hA];exact hE
        subst hA'
        have hns:qdv (qhc r.st.s 4 (.int .i64 0)):=qew hnn (by simp)
        have had:∀h,qiq h (qhc r.st.s 4 (.int .i64 0))=(qhc r.st.s 4 (.int .i64 0),h):=fun h=>qho h hns
        simp[hx,had,hh]
        generalize hr2:ev pg (.code (.going 1 L62_1) _)=o2
        obtain⟨r2,rfl,hl2,hQ2⟩:∃r,o2=some r/\zms c r:=by
         rw[<-hr2]
         refine zdl c h3 _ ⟨?_,?_,?_,?_,rfl⟩
         all_goals simp[hl,e1]
        rcases hQ2 with⟨hx2,hE2⟩ | ⟨hx2,h4,hE2⟩
        .rw[hB]at hE2
         subst hE2
         simp[hx2,hl2]
        .rw[hB]at hE2
         subst hE2
         simp[hx2,h4]
       .have hA':A=false:=by rw[<-hA];exact hE
        subst hA'
        simp[hx,h2]
     .have h5':(40:Int)<(c.minus.length:Int):=by omega
      have hfew:c.few=false:=by simp[Ct.few,h5]
      rw[hfew]
      rcases (by omega:¬((16:Int)<(c.signals.length:Int))\/((16:Int)<(c.signals.length:Int)/\¬((c.signals.length:Int)<=64)))with g1 | ⟨g1,g2⟩
      .simp[ir62,h1',g1,h3',h4',h5']
      .simp[ir62,h1',g1,g2,h3',h4',h5']
    .have h4':(40:Int)<(c.plus.length:Int):=by omega
     have hfew:c.few=false:=by simp[Ct.few,h4]
     rw[hfew]
     rcases (by omega:¬((16:Int)<(c.signals.length:Int))\/((16:Int)<(c.signals.length:Int)/\¬((c.signals.length:Int)<=64)))with g1 | ⟨g1,g2⟩
     .simp[ir62,h1',g1,h3',h4']
     .simp[ir62,h1',g1,g2,h3',h4']
   .have h3':(128:Int)<(c.signals.length:Int):=by omega
    have hfew:c.few=false:=by simp[Ct.few,h3]
    rw[hfew]
    have g1:(16:Int)<(c.signals.length:Int):=by omega
    have g2:¬((c.signals.length:Int)<=64):=by omega
    simp[ir62,h1',g1,g2,h3']
 .have h1':(32:Int)<(c.inputs.length:Int):=by omega
  have hfew:c.few=false:=by simp[Ct.few,h1]
  rw[hfew]
  simp[ir62,h1']
structure Mid(c:Ct)(A:Nat):Prop where
 act:c.act=A
 lo:1<=A
 hi:A<=6
 inp:c.inputs.length<=32
 sig:c.signals.length<=128
abbrev qam(c:Ct)(A:Nat):Nat:=2*A+c.inputs.length
abbrev qak(c:Ct)(A:Nat):Nat:=2*A+c.inputs.length+c.signals.length
theorem ev120{c:Ct}{A:Nat}(h:Mid c A):ev pg (.call (.fn 120 [] []) [c.v] [])=some { v:=num (qak c A:Nat),st:=⟨[],[]⟩ }:=by
 obtain⟨hA,h1,h2,h3,h4⟩:=h
 have w1:=qab (n:=2*(A:Int)) (by omega) (by omega)
 have w2:=qab (n:=2*(A:Int)+(c.inputs.length:Int)) (by omega) (by omega)
 have w3:=qab (n:=2*(A:Int)+(c.inputs.length:Int)+(c.signals.length:Int)) (by omega) (by omega)
 rw[qac,pg120]
 simp[ir120,hA,w1,w2,w3]
theorem ev118{c:Ct}{A:Nat}(h:Mid c A):ev pg (.call (.fn 118 [] []) [c.v] [])=some { v:=num (qam c A:Nat),st:=⟨[],[]⟩ }:=by
 obtain⟨hA,h1,h2,h3,h4⟩:=h
 have w1:=qab (n:=2*(A:Int)) (by omega) (by omega)
 have w2:=qab (n:=2*(A:Int)+(c.inputs.length:Int)) (by omega) (by omega)
 rw[qac,pg118]
 simp[ir118,hA,w1,w2]
theorem ev125{c:Ct}{A:Nat}(h:Mid c A):ev pg (.call (.fn 125 [] []) [c.v] [])=some { v:=num (qam c A:Nat),st:=⟨[],[]⟩ }:=by
 obtain⟨hA,h1,h2,h3,h4⟩:=h
 have w1:=qab (n:=2*(A:Int)) (by omega) (by omega)
 have w2:=qab (n:=2*(A:Int)+(c.inputs.length:Int)) (by omega) (by omega)
 rw[qac,pg125]
 simp[ir125,hA,w1,w2]
theorem qhg{α:Type}{row:α->List V}(h:∀x,q0s (row x) (row x)=true):∀l:List α,qwa (l.map row) (l.map row)=true
 | []=>rfl
 | x :: l=>by simp only[List.map_cons,qwa,h x,qhg h l,Bool.and_self]
@[simp] theorem jcz(l:List Ex):qwa (l.map Ex.row) (l.map Ex.row)=true:=by
 have:∀x:Ex,q0s x.row x.row=true:=by
  refine Ex.ind fun x ih=>?_
  have hl:∀l:List Ex,(∀y∈l,q0s y.row y.row=true)->qwa (l.map Ex.row) (l.map Ex.row)=true:=by
   intro l
   induction l with
   | nil=>intro _;rfl
   | cons y l ihl =>
    intro h
    simp only[List.map_cons,qwa,h y (by simp),ihl (fun z hz=>h z (by simp[hz])),Bool.and_self]
  rw[zlb]
  simp[hl x.args ih]
 exact qhg this l
@[simp] theorem z9q(l:List Sg):qwa (l.map Sg.row) (l.map Sg.row)=true:=qhg (fun x=>by simp) l
@[simp] theorem z6b(l:List Txt):qwa (l.map q3t) (l.map q3t)=true:=qhg (fun x=>by simp) l
@[simp] theorem z6q(l:List Int):qwa (l.map qdc) (l.map qdc)=true:=qhg (fun x=>by simp) l
theorem ev115{c:Ct}{A:Nat}(h:Mid c A):ev pg (.call (.fn 115 [] []) [c.v] [])=some { v:=num (qak c A:Nat),st:=⟨[],[]⟩ }:=by
 have hf:=ev125 h
 obtain⟨hA,h1,h2,h3,h4⟩:=h
 have w3:=qab (n:=2*(A:Int)+(c.inputs.length:Int)+(c.signals.length:Int)) (by omega) (by omega)
 rw[qac,pg115]
 simp[qaa,exT,qae,ir115,hf,w3]
def qbs(c:Ct)(A k:Nat):Txt:=if k<2*A then [UInt8.ofNat (97+k / 2),UInt8.ofNat (48+k % 2)]else if k<2*A+c.inputs.length then(c.inputs[k-2*A]?).getD []else((c.signals[k-(2*A+c.inputs.length)]?).map Sg.name).getD []
theorem zmp{n:Int}(h:0<=n)(h2:n<2147483648):IntKind.i32.wrap n=n:=by
 unfold IntKind.wrap;simp[IntKind.bits,IntKind.signed];omega
theorem jbb{q:Nat}(h:q<6):List.take 1 (List.drop q ([97,98,99,100,101,102]:List UInt8))=[UInt8.ofNat (97+q)]:=by
 rcases (by omega:q=0\/q=1\/q=2\/q=3\/q=4\/q=5)with rfl | rfl | rfl | rfl | rfl | rfl<;>rfl
theorem z8e{q:Nat}(h:q<2):List.take 1 (List.drop q ([48,49]:List UInt8))=[UInt8.ofNat (48+q)]:=by
 rcases (by omega:q=0\/q=1)with rfl | rfl<;>rfl
theorem jbe{q:Nat}(h:q<6):(Utf8.encode (97+(q:Int))).data.toList=[UInt8.ofNat (97+q)]:=by
 rcases (by omega:q=0\/q=1\/q=2\/q=3\/q=4\/q=5)with rfl | rfl | rfl | rfl | rfl | rfl<;>decide
theorem jbh{q:Nat}(h:q<2):(Utf8.encode (48+(q:Int))).data.toList=[UInt8.ofNat (48+q)]:=by
 rcases (by omega:q=0\/q=1)with rfl | rfl<;>decide
theorem ev116{c:Ct}{A:Nat}(h:Mid c A)(k:Nat)(hk:k<qak c A):ev pg (.call (.fn 116 [] []) [c.v,num k] [])=some { v:=.str (qbs c A k),st:=⟨[],[]⟩ }:=by
 have hf:=ev118 h
 obtain⟨hA,h1,h2,h3,h4⟩:=h
 have hk':k<2*A+c.inputs.length+c.signals.length:=hk
 have w1:=qab (n:=2*c.act) (by omega) (by omega)
 rw[qac,pg116]
 by_cases c1:k<2*A
 .have c1':(k:Int)<2*c.act:=by omega
  obtain⟨q,hq⟩:∃q,q=k / 2:=⟨_,rfl⟩
  obtain⟨r,hr⟩:∃r,r=k % 2:=⟨_,rfl⟩
  have hq6:q<6:=by omega
  have hr2:r<2:=by omega
  have t1:(k:Int).tdiv 2=(q:Int):=by rw[hq];rfl
  have t2:(k:Int).tmod 2=(r:Int):=by rw[hr];rfl
  have w2:=qab (n:=(q:Int)) (by omega) (by omega)
  have w3:=qab (n:=(q:Int)+1) (by omega) (by omega)
  have w4:=qab (n:=(r:Int)+1) (by omega) (by omega)
  have hn:qbs c A k=[UInt8.ofNat (97+q),UInt8.ofNat (48+r)]:=by unfold qbs;rw[if_pos c1,hq,hr]
  have l1:=jbb hq6
  have l2:=z8e hr2
  have b1:q+1<=6:=by omega
  have b2:r+1<=2:=by omega
  have n1:((q:Int)+1).toNat=q+1:=by omega
  have n2:((r:Int)+1).toNat=r+1:=by omega
  have p1:(0:Int)<=(q:Int)+1:=by omega
  have p2:(0:Int)<=(r:Int)+1:=by omega
  rw[hn]
  simp[ir116,w1,c1',t1,t2,w2,w3,w4,l1,l2,b1,b2,n1,n2,p1,p2]
 .have c1':¬((k:Int)<2*c.act):=by omega
  by_cases c2:k<2*A+c.inputs.length
  .have c2':(k:Int)<2*(A:Int)+(c.inputs.length:Int):=by omega
   have hsub:(k:Int)-2*c.act=((k-2*A:Nat):Int):=by omega
   have w2:=qab (n:=((k-2*A:Nat):Int)) (by omega) (by omega)
   have hlt:k-2*A<c.inputs.length:=by omega
   have hn:qbs c A k=c.inputs[k-2*A]:=by unfold qbs;rw[if_neg c1,if_pos c2,jA hlt];rfl
   rw[hn]
   generalize k-2*A=j at *
   simp[ir116,w1,c1',hf,c2',hsub,w2,hlt]
  .have c2':¬((k:Int)<2*(A:Int)+(c.inputs.length:Int)):=by omega
   have hsub:(k:Int)-(2*(A:Int)+(c.inputs.length:Int))=((k-(2*A+c.inputs.length):Nat):Int):=by omega
   have w2:=qab (n:=((k-(2*A+c.inputs.length):Nat):Int)) (by omega) (by omega)
   have hlt:k-(2*A+c.inputs.length)<c.signals.length:=by omega
   have hn:qbs c A k=c.signals[k-(2*A+c.inputs.length)].name:=by unfold qbs;rw[if_neg c1,if_neg c2,jA hlt];rfl
   rw[hn]
   generalize k-(2*A+c.inputs.length)=j at *
   simp[qaa,exT,qae,ir116,w1,c1',hf,c2',hsub,w2,hlt]
theorem ev110{c:Ct}{A:Nat}(h:Mid c A)(k:Nat)(hk:k<qak c A):ev pg (.call (.fn 110 [] []) [c.v,num k] [])=some { v:=.str (qbs c A k),st:=⟨[],[]⟩ }:=by
 have hf:=ev125 h
 obtain⟨hA,h1,h2,h3,h4⟩:=h
 have hk':k<2*A+c.inputs.length+c.signals.length:=hk
 have w1:=qab (n:=2*c.act) (by omega) (by omega)
 rw[qac,pg110]
 by_cases c1:k<2*A
 .have c1':(k:Int)<2*c.act:=by omega
  obtain⟨q,hq⟩:∃q,q=k / 2:=⟨_,rfl⟩
  obtain⟨r,hr⟩:∃r,r=k % 2:=⟨_,rfl⟩
  have hq6:q<6:=by omega
  have hr2:r<2:=by omega
  have t1:(k:Int).tdiv 2=(q:Int):=by rw[hq];rfl
  have t2:(k:Int).tmod 2=(r:Int):=by rw[hr];rfl
  have w2:=qab (n:=(q:Int)) (by omega) (by omega)
  have w3:=qab (n:=97+(q:Int)) (by omega) (by omega)
  have w4:=qab (n:=48+(r:Int)) (by omega) (by omega)
  have w5:=zmp (n:=97+(q:Int)) (by omega) (by omega)
  have w6:=zmp (n:=48+(r:Int)) (by omega) (by omega)
  have hn:qbs c A k=[UInt8.ofNat (97+q),UInt8.ofNat (48+r)]:=by unfold qbs;rw[if_pos c1,hq,hr]
  have l1:=jbe hq6
  have l2:=jbh hr2
  rw[hn]
  simp[ir110,w1,c1',hf,t1,t2,w2,w3,w4,w5,w6,l1,l2]
 .have c1':¬((k:Int)<2*c.act):=by omega
  by_cases c2:k<2*A+c.inputs.length
  .have c2':(k:Int)<2*(A:Int)+(c.inputs.length:Int):=by omega
   have hsub:(k:Int)-2*c.act=((k-2*A:Nat):Int):=by omega
   have w2:=qab (n:=((k-2*A:Nat):Int)) (by omega) (by omega)
   have hlt:k-2*A<c.inputs.length:=by omega
   have hn:qbs c A k=c.inputs[k-2*A]:=by unfold qbs;rw[if_neg c1,if_pos c2,jA hlt];rfl
   rw[hn]
   generalize k-2*A=j at *
   simp[ir110,w1,c1',hf,c2',hsub,w2,hlt]
  .have c2':¬((k:Int)<2*(A:Int)+(c.inputs.length:Int)):=by omega
   have hsub:(k:Int)-(2*(A:Int)+(c.inputs.length:Int))=((k-(2*A+c.inputs.length):Nat):Int):=by omega
   have w2:=qab (n:=((k-(2*A+c.inputs.length):Nat):Int)) (by omega) (by omega)
   have hlt:k-(2*A+c.inputs.length)<c.signals.length:=by omega
   have hn:qbs c A k=c.signals[k-(2*A+c.inputs.length)].name:=by unfold qbs;rw[if_neg c1,if_neg c2,jA hlt];rfl
   rw[hn]
   generalize k-(2*A+c.inputs.length)=j at *
   simp[ir110,w1,c1',hf,c2',hsub,w2,hlt]
def qbv(n:Nat):Bool:=decide (97<=n)&&decide (n<=122)
def qdh(n:Nat):Bool:=qbv n||(decide (65<=n)&&decide (n<=90))||(decide (48<=n)&&decide (n<=57))||n==95
theorem zbx(n:Nat):(n<48)\/(48<=n/\n<=57)\/(58<=n/\n<=64)\/(65<=n/\n<=90)\/(n=95)\/((91<=n/\n<=94)\/n=96)\/(97<=n/\n<=122)\/(123<=n):=by omega
theorem ev153(n:Nat):ev pg (.call (.fn 153 [] []) [.int .u8 n] [])=some { v:=.bool (qdh n),st:=⟨[],[]⟩ }:=by
 rw[qac,pg153]
 rcases zbx n with hc | hc | hc | hc | hc | hc | hc | hc
 .have hw:qdh n=false:=by simp[qdh,qbv];omega
  have f0:¬97<=n:=by omega
  have g0:¬(97<=(n:Int)):=by omega
  have f1:¬65<=n:=by omega
  have g1:¬(65<=(n:Int)):=by omega
  have f2:¬48<=n:=by omega
  have g2:¬(48<=(n:Int)):=by omega
  have f3:n≠95:=by omega
  have g3:(n:Int)≠95:=by omega
  have f4:n<48:=by omega
  have g4:(n:Int)<48:=by omega
  have f95:((n:Int)==95)=false:=by simp;omega
  simp[ir153,hw,g0,g1,g2,f95]
 .have hw:qdh n=true:=by simp[qdh,qbv];omega
  have f0:¬97<=n:=by omega
  have g0:¬(97<=(n:Int)):=by omega
  have f1:¬65<=n:=by omega
  have g1:¬(65<=(n:Int)):=by omega
  have f2:48<=n:=by omega
  have g2:48<=(n:Int):=by omega
  have f3:n<=57:=by omega
  have g3:(n:Int)<=57:=by omega
  have f4:n≠95:=by omega
  have g4:(n:Int)≠95:=by omega
  have f5:¬n<48:=by omega
  have g5:¬((n:Int)<48):=by omega
  have f6:¬57<n:=by omega
  have g6:¬(57<(n:Int)):=by omega
  have f95:((n:Int)==95)=false:=by simp;omega
  simp[ir153,hw,g0,g1,g2,g3]
 .have hw:qdh n=false:=by simp[qdh,qbv];omega
  have f0:¬97<=n:=by omega
  have g0:¬(97<=(n:Int)):=by omega
  have f1:¬65<=n:=by omega
  have g1:¬(65<=(n:Int)):=by omega
  have f2:48<=n:=by omega
  have g2:48<=(n:Int):=by omega
  have f3:¬n<=57:=by omega
  have g3:¬((n:Int)<=57):=by omega
  have f4:n≠95:=by omega
  have g4:(n:Int)≠95:=by omega
  have f5:¬n<48:=by omega
  have g5:¬((n:Int)<48):=by omega
  have f6:57<n:=by omega
  have g6:57<(n:Int):=by omega
  have f95:((n:Int)==95)=false:=by simp;omega
  simp[ir153,hw,g0,g1,g2,g3,f95]
 .have hw:qdh n=true:=by simp[qdh,qbv];omega
  have f0:¬97<=n:=by omega
  have g0:¬(97<=(n:Int)):=by omega
  have f1:65<=n:=by omega
  have g1:65<=(n:Int):=by omega
  have f2:n<=90:=by omega
  have g2:(n:Int)<=90:=by omega
  simp[ir153,hw,g0,g1,g2]
 .have hw:qdh n=true:=by simp[qdh,qbv];omega
  have f0:¬97<=n:=by omega
  have g0:¬(97<=(n:Int)):=by omega
  have f1:65<=n:=by omega
  have g1:65<=(n:Int):=by omega
  have f2:¬n<=90:=by omega
  have g2:¬((n:Int)<=90):=by omega
  have f3:48<=n:=by omega
  have g3:48<=(n:Int):=by omega
  have f4:¬n<=57:=by omega
  have g4:¬((n:Int)<=57):=by omega
  subst hc
  simp[ir153,hw]
 .have hw:qdh n=false:=by simp[qdh,qbv];omega
  have f0:¬97<=n:=by omega
  have g0:¬(97<=(n:Int)):=by omega
  have f1:65<=n:=by omega
  have g1:65<=(n:Int):=by omega
  have f2:¬n<=90:=by omega
  have g2:¬((n:Int)<=90):=by omega
  have f3:48<=n:=by omega
  have g3:48<=(n:Int):=by omega
  have f4:¬n<=57:=by omega
  have g4:¬((n:Int)<=57):=by omega
  have f5:n≠95:=by omega
  have g5:(n:Int)≠95:=by omega
  have f6:¬n<48:=by omega
  have g6:¬((n:Int)<48):=by omega
  have f7:57<n:=by omega
  have g7:57<(n:Int):=by omega
  have f95:((n:Int)==95)=false:=by simp;omega
  simp[ir153,hw,g0,g1,g2,g3,g4,f95]
 .have hw:qdh n=true:=by simp[qdh,qbv];omega
  have f0:97<=n:=by omega
  have g0:97<=(n:Int):=by omega
  have f1:n<=122:=by omega
  have g1:(n:Int)<=122:=by omega
  have f2:65<=n:=by omega
  have g2:65<=(n:Int):=by omega
  have f3:¬n<=90:=by omega
  have g3:¬((n:Int)<=90):=by omega
  simp[ir153,hw,g0,g1]
 .have hw:qdh n=false:=by simp[qdh,qbv];omega
  have f0:97<=n:=by omega
  have g0:97<=(n:Int):=by omega
  have f1:¬n<=122:=by omega
  have g1:¬((n:Int)<=122):=by omega
  have f2:65<=n:=by omega
  have g2:65<=(n:Int):=by omega
  have f3:¬n<=90:=by omega
  have g3:¬((n:Int)<=90):=by omega
  have f4:48<=n:=by omega
  have g4:48<=(n:Int):=by omega
  have f5:¬n<=57:=by omega
  have g5:¬((n:Int)<=57):=by omega
  have f6:n≠95:=by omega
  have g6:(n:Int)≠95:=by omega
  have f7:¬n<48:=by omega
  have g7:¬((n:Int)<48):=by omega
  have f8:57<n:=by omega
  have g8:57<(n:Int):=by omega
  have f95:((n:Int)==95)=false:=by simp;omega
  simp[ir153,hw,g0,g1,g2,g3,g4,g5,f95]
def qdl(a:Bool):Txt->Bool
 | []=>true
 | b :: r=>if(a && !qbv b.toNat) || !qdh b.toNat then false else qdl false r
theorem zdh{a:Bool}{l:Txt}{k:Nat}(hk:k<l.length):qdl a (l.drop k)=if(a && !qbv l[k].toNat) || !qdh l[k].toNat then false else qdl false (l.drop (k+1)):=by
 rw[jL hk];rfl
def quj(s:Txt):Bool:=qdl true s&&s != []
def zru(s:Txt)(k:Nat)(st:St):Prop:=st.h=[]/\st.s.length=66/\qat st.s 0=.str s/\qat st.s 3=num k/\qdl true s=qdl (decide (k=0)) (s.drop k)
def q4v(s:Txt)(r:R):Prop:=r.st.s.length=66/\((r.x=.exit 0/\qat r.st.s 0=.str s/\qdl true s=true)\/(r.x=.ret/\qat r.st.s 2=.bool false/\qdl true s=false))
theorem zrr(t:Txt)(ht:t.length<2 ^ 62)(st:St)(h0:zru t 0 st):∃r,ev pg (.code (.going 0 L117_0) st)=some r/\q4v t r:=by
 refine qbq (zru t) t.length (q4v t) h0 ?_ ?_
 .rintro k ⟨s,h⟩ hk ⟨rfl,hl,e0,e3,he⟩
  simp only at hl e0 e3
  have hk':(k:Int)<t.length:=by omega
  have wk:=qab (n:=(k:Int)+1) (by omega) (by omega)
  have hg:t[k]?=some t[k]:=jA hk
  rw[zdh hk]at he
  have hk1:decide (k+1=0)=false:=by simp
  rw[qaj hl]
  generalize hb:t[k]=b at *
  obtain⟨n,hn⟩:∃n,n=b.toNat:=⟨_,rfl⟩
  rw[<-hn]at he
  rcases zbx n with hc | hc | hc | hc | hc | hc | hc | hc
  .have hw:qdh n=false:=by simp[qdh,qbv];omega
   have hsm:qbv n=false:=by simp[qbv];omega
   have g0:¬(97<=(b.toNat:Int)):=by omega
   have f0:¬97<=b.toNat:=by omega
   have g1:¬(65<=(b.toNat:Int)):=by omega
   have f1:¬65<=b.toNat:=by omega
   have g2:¬(48<=(b.toNat:Int)):=by omega
   have f2:¬48<=b.toNat:=by omega
   have g3:(b.toNat:Int)≠95:=by omega
   have f3:b.toNat≠95:=by omega
   have g4:(b.toNat:Int)<48:=by omega
   have f4:b.toNat<48:=by omega
   have f95:((b.toNat:Int) != 95)=true:=by simp;omega
   rw[hw,hsm]at he
   by_cases k0:k=0
   .have k0':((k:Int)==0)=true:=by simp;exact k0
    rw[decide_eq_true k0]at he
    have he':qdl true t=false:=by simpa using he
    simp[L117_0,q4v,List.range,List.range.loop,e0,e3,hk,hk',hb,k0',he',g0,g1]
   .have k0':((k:Int)==0)=false:=by simp;exact k0
    rw[decide_eq_false k0]at he
    have he':qdl true t=false:=by simpa using he
    simp[L117_0,q4v,List.range,List.range.loop,e0,e3,hk,hk',hb,k0',he',g0,g1,g4,f95]
  .have hw:qdh n=true:=by simp[qdh,qbv];omega
   have hsm:qbv n=false:=by simp[qbv];omega
   have g0:¬(97<=(b.toNat:Int)):=by omega
   have f0:¬97<=b.toNat:=by omega
   have g1:¬(65<=(b.toNat:Int)):=by omega
   have f1:¬65<=b.toNat:=by omega
   have g2:48<=(b.toNat:Int):=by omega
   have f2:48<=b.toNat:=by omega
   have g3:(b.toNat:Int)<=57:=by omega
   have f3:b.toNat<=57:=by omega
   have g4:(b.toNat:Int)≠95:=by omega
   have f4:b.toNat≠95:=by omega
   have g5:¬((b.toNat:Int)<48):=by omega
   have f5:¬b.toNat<48:=by omega
   have g6:¬(57<(b.toNat:Int)):=by omega
   have f6:¬57<b.toNat:=by omega
   have f95:((b.toNat:Int) != 95)=true:=by simp;omega
   rw[hw,hsm]at he
   by_cases k0:k=0
   .have k0':((k:Int)==0)=true:=by simp;exact k0
    rw[decide_eq_true k0]at he
    have he':qdl true t=false:=by simpa using he
    simp[L117_0,q4v,List.range,List.range.loop,e0,e3,hk,hk',hb,k0',he',g0,g1]
   .have k0':((k:Int)==0)=false:=by simp;exact k0
    rw[decide_eq_false k0]at he
    have he':qdl true t=qdl false (t.drop (k+1)):=by simpa using he
    simp[L117_0,zru,List.range,List.range.loop,e0,e3,hk,hk',hb,k0',wk,he',g0,g1,g5,g6,f95]
  .have hw:qdh n=false:=by simp[qdh,qbv];omega
   have hsm:qbv n=false:=by simp[qbv];omega
   have g0:¬(97<=(b.toNat:Int)):=by omega
   have f0:¬97<=b.toNat:=by omega
   have g1:¬(65<=(b.toNat:Int)):=by omega
   have f1:¬65<=b.toNat:=by omega
   have g2:48<=(b.toNat:Int):=by omega
   have f2:48<=b.toNat:=by omega
   have g3:¬((b.toNat:Int)<=57):=by omega
   have f3:¬b.toNat<=57:=by omega
   have g4:(b.toNat:Int)≠95:=by omega
   have f4:b.toNat≠95:=by omega
   have g5:¬((b.toNat:Int)<48):=by omega
   have f5:¬b.toNat<48:=by omega
   have g6:57<(b.toNat:Int):=by omega
   have f6:57<b.toNat:=by omega
   have f95:((b.toNat:Int) != 95)=true:=by simp;omega
   rw[hw,hsm]at he
   by_cases k0:k=0
   .have k0':((k:Int)==0)=true:=by simp;exact k0
    rw[decide_eq_true k0]at he
    have he':qdl true t=false:=by simpa using he
    simp[L117_0,q4v,List.range,List.range.loop,e0,e3,hk,hk',hb,k0',he',g0,g1]
   .have k0':((k:Int)==0)=false:=by simp;exact k0
    rw[decide_eq_false k0]at he
    have he':qdl true t=false:=by simpa using he
    simp[L117_0,q4v,List.range,List.range.loop,e0,e3,hk,hk',hb,k0',he',g0,g1,g5,g6,f95]
  .have hw:qdh n=true:=by simp[qdh,qbv];omega
   have hsm:qbv n=false:=by simp[qbv];omega
   have g0:¬(97<=(b.toNat:Int)):=by omega
   have f0:¬97<=b.toNat:=by omega
   have g1:65<=(b.toNat:Int):=by omega
   have f1:65<=b.toNat:=by omega
   have g2:(b.toNat:Int)<=90:=by omega
   have f2:b.toNat<=90:=by omega
   rw[hw,hsm]at he
   by_cases k0:k=0
   .have k0':((k:Int)==0)=true:=by simp;exact k0
    rw[decide_eq_true k0]at he
    have he':qdl true t=false:=by simpa using he
    simp[L117_0,q4v,List.range,List.range.loop,e0,e3,hk,hk',hb,k0',he',g0,g1,g2]
   .have k0':((k:Int)==0)=false:=by simp;exact k0
    rw[decide_eq_false k0]at he
    have he':qdl true t=qdl false (t.drop (k+1)):=by simpa using he
    simp[L117_0,zru,List.range,List.range.loop,e0,e3,hk,hk',hb,k0',wk,he',g0,g1,g2]
  .have hw:qdh n=true:=by simp[qdh,qbv];omega
   have hsm:qbv n=false:=by simp[qbv];omega
   have g0:¬(97<=(b.toNat:Int)):=by omega
   have f0:¬97<=b.toNat:=by omega
   have g1:65<=(b.toNat:Int):=by omega
   have f1:65<=b.toNat:=by omega
   have g2:¬((b.toNat:Int)<=90):=by omega
   have f2:¬b.toNat<=90:=by omega
   have g3:48<=(b.toNat:Int):=by omega
   have f3:48<=b.toNat:=by omega
   have g4:¬((b.toNat:Int)<=57):=by omega
   have f4:¬b.toNat<=57:=by omega
   have f95:((b.toNat:Int) != 95)=false:=by simp;omega
   rw[hw,hsm]at he
   by_cases k0:k=0
   .have k0':((k:Int)==0)=true:=by simp;exact k0
    rw[decide_eq_true k0]at he
    have he':qdl true t=false:=by simpa using he
    simp[L117_0,q4v,List.range,List.range.loop,e0,e3,hk,hk',hb,k0',he',g0,g1,g2]
   .have k0':((k:Int)==0)=false:=by simp;exact k0
    rw[decide_eq_false k0]at he
    have he':qdl true t=qdl false (t.drop (k+1)):=by simpa using he
    simp[L117_0,zru,List.range,List.range.loop,e0,e3,hk,hk',hb,k0',wk,he',g0,g1,g2,f95]
  .have hw:qdh n=false:=by simp[qdh,qbv];omega
   have hsm:qbv n=false:=by simp[qbv];omega
   have g0:¬(97<=(b.toNat:Int)):=by omega
   have f0:¬97<=b.toNat:=by omega
   have g1:65<=(b.toNat:Int):=by omega
   have f1:65<=b.toNat:=by omega
   have g2:¬((b.toNat:Int)<=90):=by omega
   have f2:¬b.toNat<=90:=by omega
   have g3:48<=(b.toNat:Int):=by omega
   have f3:48<=b.toNat:=by omega
   have g4:¬((b.toNat:Int)<=57):=by omega
   have f4:¬b.toNat<=57:=by omega
   have g5:(b.toNat:Int)≠95:=by omega
   have f5:b.toNat≠95:=by omega
   have g6:¬((b.toNat:Int)<48):=by omega
   have f6:¬b.toNat<48:=by omega
   have g7:57<(b.toNat:Int):=by omega
   have f7:57<b.toNat:=by omega
   have f95:((b.toNat:Int) != 95)=true:=by simp;omega
   rw[hw,hsm]at he
   by_cases k0:k=0
   .have k0':((k:Int)==0)=true:=by simp;exact k0
    rw[decide_eq_true k0]at he
    have he':qdl true t=false:=by simpa using he
    simp[L117_0,q4v,List.range,List.range.loop,e0,e3,hk,hk',hb,k0',he',g0,g1,g2]
   .have k0':((k:Int)==0)=false:=by simp;exact k0
    rw[decide_eq_false k0]at he
    have he':qdl true t=false:=by simpa using he
    simp[L117_0,q4v,List.range,List.range.loop,e0,e3,hk,hk',hb,k0',he',g0,g1,g2,g6,g7,f95]
  .have hw:qdh n=true:=by simp[qdh,qbv];omega
   have hsm:qbv n=true:=by simp[qbv];omega
   have g0:97<=(b.toNat:Int):=by omega
   have f0:97<=b.toNat:=by omega
   have g1:(b.toNat:Int)<=122:=by omega
   have f1:b.toNat<=122:=by omega
   have g2:65<=(b.toNat:Int):=by omega
   have f2:65<=b.toNat:=by omega
   have g3:¬((b.toNat:Int)<=90):=by omega
   have f3:¬b.toNat<=90:=by omega
   rw[hw,hsm]at he
   by_cases k0:k=0
   .have k0':((k:Int)==0)=true:=by simp;exact k0
    simp[L117_0,zru,List.range,List.range.loop,e0,e3,hk,hk',hb,k0',wk,g0,g1,g2,g3]
    simpa using he
   .have k0':((k:Int)==0)=false:=by simp;exact k0
    rw[decide_eq_false k0]at he
    have he':qdl true t=qdl false (t.drop (k+1)):=by simpa using he
    simp[L117_0,zru,List.range,List.range.loop,e0,e3,hk,hk',hb,k0',wk,he',g0,g1,g2,g3]
  .have hw:qdh n=false:=by simp[qdh,qbv];omega
   have hsm:qbv n=false:=by simp[qbv];omega
   have g0:97<=(b.toNat:Int):=by omega
   have f0:97<=b.toNat:=by omega
   have g1:¬((b.toNat:Int)<=122):=by omega
   have f1:¬b.toNat<=122:=by omega
   have g2:65<=(b.toNat:Int):=by omega
   have f2:65<=b.toNat:=by omega
   have g3:¬((b.toNat:Int)<=90):=by omega
   have f3:¬b.toNat<=90:=by omega
   have g4:48<=(b.toNat:Int):=by omega
   have f4:48<=b.toNat:=by omega
   have g5:¬((b.toNat:Int)<=57):=by omega
   have f5:¬b.toNat<=57:=by omega
   have g6:(b.toNat:Int)≠95:=by omega
   have f6:b.toNat≠95:=by omega
   have g7:¬((b.toNat:Int)<48):=by omega
   have f7:¬b.toNat<48:=by omega
   have g8:57<(b.toNat:Int):=by omega
   have f8:57<b.toNat:=by omega
   have f95:((b.toNat:Int) != 95)=true:=by simp;omega
   rw[hw,hsm]at he
   by_cases k0:k=0
   .have k0':((k:Int)==0)=true:=by simp;exact k0
    rw[decide_eq_true k0]at he
    have he':qdl true t=false:=by simpa using he
    simp[L117_0,q4v,List.range,List.range.loop,e0,e3,hk,hk',hb,k0',he',g0,g1,g2,g3]
   .have k0':((k:Int)==0)=false:=by simp;exact k0
    rw[decide_eq_false k0]at he
    have he':qdl true t=false:=by simpa using he
    simp[L117_0,q4v,List.range,List.range.loop,e0,e3,hk,hk',hb,k0',he',g0,g1,g2,g3,g7,g8,f95]
 .rintro⟨s,h⟩ ⟨rfl,hl,e0,e3,he⟩
  simp only[List.drop_length]at hl e0 e3 he
  have he':qdl true t=true:=he
  rw[qaj hl]
  simp[L117_0,q4v,List.range,List.range.loop,e0,e3,he']
theorem ev117(t:Txt)(ht:t.length<2 ^ 62):ev pg (.call (.fn 117 [] []) [.str t] [])=some { v:=.bool (quj t),st:=⟨[],[]⟩ }:=by
 rw[qac,pg117]
 simp[ir117,qaf]
 generalize hr:ev pg (.code (.going 0 L117_0) _)=o
 obtain⟨r,rfl,hl,hQ⟩:∃r,o=some r/\q4v t r:=by rw[<-hr];exact zrr t ht _ ⟨by simp,by simp,by simp,by simp,by simp⟩
 rcases hQ with⟨hx,h0,hE⟩ | ⟨hx,h2,hE⟩
 .by_cases hne:t=[]
  .subst hne
   simp[hx,hl,h0,quj]
  .simp[hx,hl,h0,quj,hE]
   cases t with
   | nil=>exact absurd rfl hne
   | cons a l=>rfl
 .simp[hx,h2,quj,hE]
end Go.Proofs.YtlhciedghbmjjaaGreat
