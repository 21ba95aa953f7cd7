/- Controls: few, lines. Controls: lines and their names. -/
import Derived.Test.YtddeacahiilikaaGreatRVs3
set_option linter.all false
namespace Go.Proofs.YtddeacahiilikaaGreat
open Go Go.Am Go.Proofs
set_option maxRecDepth 100000
abbrev Txt:=List UInt8
structure Sg where
 name:Txt
 kind:Int
 on:Ex
 off:Ex
 delay:Int
 init:Bool
abbrev Sg.row(x:Sg):List V:=[.str x.name,num x.kind,num x.on.op,num x.on.idx,.imm (x.on.args.map Ex.row),num x.off.op,num x.off.idx,.imm (x.off.args.map Ex.row),num x.delay,.bool x.init]
abbrev zai(s:Txt):List V:=[.str s]
abbrev qdw(n:Int):List V:=[.int .i64 n]
abbrev qel(l:List Int):V:=.imm (l.map qdw)
structure Ct where
 act:Int
 inputs:List Txt
 signals:List Sg
 plus:List Int
 minus:List Int
abbrev Ct.cells(c:Ct):List V:=[num c.act,.imm (c.inputs.map zai),.imm (c.signals.map Sg.row),qel c.plus,qel c.minus]
abbrev Ct.v(c:Ct):V:=.agg c.cells
def q2f(s:Txt):Bool:=decide (s.length<=200)
def qww(x:Sg):Bool:=decide (x.name.length<=200)&&x.on.light&&x.off.light
def Ct.few(c:Ct):Bool:=decide (c.inputs.length<=32) && !(decide (16<c.signals.length)&&decide (c.signals.length<=64))&&decide (c.signals.length<=128)&&decide (c.plus.length<=40)&&decide (c.minus.length<=40)&&c.inputs.all q2f&&c.signals.all qww
theorem zet{α:Type}{f:α->Bool}{l:List α}{k:Nat}(hk:k<l.length):(l.drop k).all f=(f l[k]&&(l.drop (k+1)).all f):=by
 rw[jL hk];rfl
theorem qgl:∀{s:List V} (h:H),qde s->qhm h s=(s,h)
 | [],h,_=>rfl
 | v :: s,h,hn=>by
  have hv:=hn v (by simp)
  have ih:=qgl (s:=s) h fun w hw=>hn w (by simp[hw])
  cases v<;>first | exact absurd rfl hv | simp only[qhm,ih]
def ztd(c:Ct)(k:Nat)(st:St):Prop:=st.h=[⟨0,.box c.cells⟩]/\st.s.length=82/\qao st.s 1=.bptr 0 0/\qde st.s/\qao st.s 3=num k/\c.inputs.all q2f=(c.inputs.drop k).all q2f
def zov(c:Ct)(r:R):Prop:=r.st.s.length=82/\((r.x=.exit 0/\r.st.h=[⟨0,.box c.cells⟩]/\qao r.st.s 1=.bptr 0 0/\qde r.st.s/\c.inputs.all q2f=true)\/(r.x=.ret/\qao r.st.s 2=.bool false/\c.inputs.all q2f=false))
theorem q8z(c:Ct)(hc:c.inputs.length<=32)(st:St)(h0:ztd c 0 st):∃r,ev pg (.code (.going 1 L30_0) st)=some r/\zov c r:=by
 refine qbh (ztd c) c.inputs.length (zov c) h0 ?_ ?_
 .rintro k ⟨s,h⟩ hk ⟨rfl,hl,e1,hnn,e3,he⟩
  simp only at hl e1 e3
  have hn:∀j,qao s j ≠ .nils:=qcd hnn
  have hk':(k:Int)<c.inputs.length:=by omega
  have wk:=qab (n:=(k:Int)+1) (by omega) (by omega)
  rw[zet hk]at he
  rw[qag hl]
  by_cases ha:c.inputs[k].length<=200
  .have ha':¬((200:Int)<(c.inputs[k].length:Int)):=by omega
   have hf:q2f c.inputs[k]=true:=by simpa[q2f]using ha
   rw[hf,Bool.true_and]at he
   simp[L30_0,ztd,List.range,List.range.loop,e1,e3,hk,hk',ha',he,wk]
   simp[qde,hn]
  .have ha':(200:Int)<(c.inputs[k].length:Int):=by omega
   have hf:q2f c.inputs[k]=false:=by simp[q2f];omega
   rw[hf,Bool.false_and]at he
   simp[L30_0,ztd,zov,List.range,List.range.loop,e1,e3,hk,hk',ha',he]
 .rintro⟨s,h⟩ ⟨rfl,hl,e1,hnn,e3,he⟩
  simp only[List.drop_length]at hl e1 e3 he
  have hn:∀j,qao s j ≠ .nils:=qcd hnn
  have he':c.inputs.all q2f=true:=he
  rw[qag hl]
  simp[L30_0,zov,List.range,List.range.loop,e1,e3,he']
  simp[qde,hn]
def zou(c:Ct)(k:Nat)(st:St):Prop:=st.h=[⟨0,.box c.cells⟩]/\st.s.length=82/\qao st.s 1=.bptr 0 0/\qao st.s 4=num k/\c.signals.all qww=(c.signals.drop k).all qww
def zep(c:Ct)(r:R):Prop:=r.st.s.length=82/\((r.x=.exit 2/\c.signals.all qww=true)\/(r.x=.ret/\qao r.st.s 2=.bool false/\c.signals.all qww=false))
theorem q9a(c:Ct)(hc:c.signals.length<=128)(st:St)(h0:zou c 0 st):∃r,ev pg (.code (.going 1 L30_1) st)=some r/\zep c r:=by
 refine qbh (zou c) c.signals.length (zep c) h0 ?_ ?_
 .rintro k ⟨s,h⟩ hk ⟨rfl,hl,e1,e4,he⟩
  simp only at hl e1 e4
  have hk':(k:Int)<c.signals.length:=by omega
  have wk:=qab (n:=(k:Int)+1) (by omega) (by omega)
  have l1:=ev82 c.signals[k].on
  have l2:=ev82 c.signals[k].off
  rw[zet hk]at he
  rw[qag hl]
  by_cases ha:c.signals[k].name.length<=200
  .have ha':¬((200:Int)<(c.signals[k].name.length:Int)):=by omega
   by_cases hb:c.signals[k].on.light=true
   .by_cases hd:c.signals[k].off.light=true
    .have hf:qww c.signals[k]=true:=by simp[qww,ha,hb,hd]
     rw[hf,Bool.true_and]at he
     simp[L30_1,zou,List.range,List.range.loop,e1,e4,hk,hk',ha',l1,l2,hb,hd,he,wk]
    .have hf:qww c.signals[k]=false:=by simp[qww,ha,hb,hd]
     rw[hf,Bool.false_and]at he
     simp[L30_1,zou,zep,List.range,List.range.loop,e1,e4,hk,hk',ha',l1,l2,hb,hd,he]
   .have hf:qww c.signals[k]=false:=by simp[qww,ha,hb]
    rw[hf,Bool.false_and]at he
    simp[L30_1,zou,zep,List.range,List.range.loop,e1,e4,hk,hk',ha',l1,hb,he]
  .have ha':(200:Int)<(c.signals[k].name.length:Int):=by omega
   have hf:qww c.signals[k]=false:=by simp[qww,ha]
   rw[hf,Bool.false_and]at he
   simp[L30_1,zou,zep,List.range,List.range.loop,e1,e4,hk,hk',ha',he]
 .rintro⟨s,h⟩ ⟨rfl,hl,e1,e4,he⟩
  simp only[List.drop_length]at hl e1 e4 he
  have he':c.signals.all qww=true:=he
  rw[qag hl]
  simp[L30_1,zep,List.range,List.range.loop,e1,e4,he']
theorem ev30(c:Ct):ev pg (.call (.fn 30 [] []) [c.v] [])=some { v:=.bool c.few,st:=⟨[],[]⟩ }:=by
 rw[qac,pg30]
 by_cases h1:c.inputs.length<=32
 .have h1':¬((32:Int)<(c.inputs.length:Int)):=by omega
  by_cases h2:16<c.signals.length/\c.signals.length<=64
  .have h2':(16:Int)<(c.signals.length:Int):=by omega
   have h2'':(c.signals.length:Int)<=64:=by omega
   simp[ir30,Ct.few,h1,h1',h2.1,h2.2,h2',h2'']
  .by_cases h3:c.signals.length<=128
   .have h3':¬((128:Int)<(c.signals.length:Int)):=by omega
    by_cases h4:c.plus.length<=40
    .have h4':¬((40:Int)<(c.plus.length:Int)):=by omega
     by_cases h5:c.minus.length<=40
     .have h5':¬((40:Int)<(c.minus.length:Int)):=by omega
      have hfew:c.few=(c.inputs.all q2f&&c.signals.all qww):=by
       unfold Ct.few
       have:(decide (16<c.signals.length)&&decide (c.signals.length<=64))=false:=by
        rw[<-Bool.decide_and];simpa using h2
       simp[h1,this,h3,h4,h5]
      rw[hfew]
      generalize hA:c.inputs.all q2f=A at *
      generalize hB:c.signals.all qww=B at *
      rcases (by omega:¬((16:Int)<(c.signals.length:Int))\/((16:Int)<(c.signals.length:Int)/\¬((c.signals.length:Int)<=64)))with g1 | ⟨g1,g2⟩
      .simp[ir30,h1',g1,h3',h4',h5',qaf]
       generalize hr:ev pg (.code (.going 1 L30_0) _)=o
       obtain⟨r,rfl,hl,hQ⟩:∃r,o=some r/\zov c r:=by
        rw[<-hr]
        refine q8z c h1 _ ⟨?_,?_,?_,?_,?_,rfl⟩
        all_goals simp[qde]
       rcases hQ with⟨hx,hh,e1,hnn,hE⟩ | ⟨hx,h2,hE⟩
       .have hA':A=true:=by rw[<-hA];exact hE
        subst hA'
        have hns:qde (qhi r.st.s 4 (.int .i64 0)):=qed hnn (by simp)
        have had:∀h,qhm h (qhi r.st.s 4 (.int .i64 0))=(qhi r.st.s 4 (.int .i64 0),h):=fun h=>qgl h hns
        simp[hx,had,hh]
        generalize hr2:ev pg (.code (.going 1 L30_1) _)=o2
        obtain⟨r2,rfl,hl2,hQ2⟩:∃r,o2=some r/\zep c r:=by
         rw[<-hr2]
         refine q9a c h3 _ ⟨?_,?_,?_,?_,rfl⟩
         all_goals simp[hl,e1]
        rcases hQ2 with⟨hx2,hE2⟩ | ⟨hx2,h4,hE2⟩
        .rw[hB]at hE2
         subst hE2
         simp[hx2,hl2]
        .rw[hB]at hE2
         subst hE2
         simp[hx2,h4]
       .have hA':A=false:=by rw[<-hA];exact hE
        subst hA'
        simp[hx,h2]
      .simp[ir30,h1',g1,g2,h3',h4',h5',qaf]
       generalize hr:ev pg (.code (.going 1 L30_0) _)=o
       obtain⟨r,rfl,hl,hQ⟩:∃r,o=some r/\zov c r:=by
        rw[<-hr]
        refine q8z c h1 _ ⟨?_,?_,?_,?_,?_,rfl⟩
        all_goals simp[qde]
       rcases hQ with⟨hx,hh,e1,hnn,hE⟩ | ⟨hx,h2,hE⟩
       .have hA':A=true:=by rw[<-hA];exact hE
        subst hA'
        have hns:qde (qhi r.st.s 4 (.int .i64 0)):=qed hnn (by simp)
        have had:∀h,qhm h (qhi r.st.s 4 (.int .i64 0))=(qhi r.st.s 4 (.int .i64 0),h):=fun h=>qgl h hns
        simp[hx,had,hh]
        generalize hr2:ev pg (.code (.going 1 L30_1) _)=o2
        obtain⟨r2,rfl,hl2,hQ2⟩:∃r,o2=some r/\zep c r:=by
         rw[<-hr2]
         refine q9a c h3 _ ⟨?_,?_,?_,?_,rfl⟩
         all_goals simp[hl,e1]
        rcases hQ2 with⟨hx2,hE2⟩ | ⟨hx2,h4,hE2⟩
        .rw[hB]at hE2
         subst hE2
         simp[hx2,hl2]
        .rw[hB]at hE2
         subst hE2
         simp[hx2,h4]
       .have hA':A=false:=by rw[<-hA];exact hE
        subst hA'
        simp[hx,h2]
     .have h5':(40:Int)<(c.minus.length:Int):=by omega
      have hfew:c.few=false:=by simp[Ct.few,h5]
      rw[hfew]
      rcases (by omega:¬((16:Int)<(c.signals.length:Int))\/((16:Int)<(c.signals.length:Int)/\¬((c.signals.length:Int)<=64)))with g1 | ⟨g1,g2⟩
      .simp[ir30,h1',g1,h3',h4',h5']
      .simp[ir30,h1',g1,g2,h3',h4',h5']
    .have h4':(40:Int)<(c.plus.length:Int):=by omega
     have hfew:c.few=false:=by simp[Ct.few,h4]
     rw[hfew]
     rcases (by omega:¬((16:Int)<(c.signals.length:Int))\/((16:Int)<(c.signals.length:Int)/\¬((c.signals.length:Int)<=64)))with g1 | ⟨g1,g2⟩
     .simp[ir30,h1',g1,h3',h4']
     .simp[ir30,h1',g1,g2,h3',h4']
   .have h3':(128:Int)<(c.signals.length:Int):=by omega
    have hfew:c.few=false:=by simp[Ct.few,h3]
    rw[hfew]
    have g1:(16:Int)<(c.signals.length:Int):=by omega
    have g2:¬((c.signals.length:Int)<=64):=by omega
    simp[ir30,h1',g1,g2,h3']
 .have h1':(32:Int)<(c.inputs.length:Int):=by omega
  have hfew:c.few=false:=by simp[Ct.few,h1]
  rw[hfew]
  simp[ir30,h1']
structure Mid(c:Ct)(A:Nat):Prop where
 act:c.act=A
 lo:1<=A
 hi:A<=6
 inp:c.inputs.length<=32
 sig:c.signals.length<=128
abbrev qak(c:Ct)(A:Nat):Nat:=2*A+c.inputs.length
abbrev qah(c:Ct)(A:Nat):Nat:=2*A+c.inputs.length+c.signals.length
theorem ev148{c:Ct}{A:Nat}(h:Mid c A):ev pg (.call (.fn 148 [] []) [c.v] [])=some { v:=num (qah c A:Nat),st:=⟨[],[]⟩ }:=by
 obtain⟨hA,h1,h2,h3,h4⟩:=h
 have w1:=qab (n:=2*(A:Int)) (by omega) (by omega)
 have w2:=qab (n:=2*(A:Int)+(c.inputs.length:Int)) (by omega) (by omega)
 have w3:=qab (n:=2*(A:Int)+(c.inputs.length:Int)+(c.signals.length:Int)) (by omega) (by omega)
 rw[qac,pg148]
 simp[ir148,hA,w1,w2,w3]
theorem ev202{c:Ct}{A:Nat}(h:Mid c A):ev pg (.call (.fn 202 [] []) [c.v] [])=some { v:=num (qak c A:Nat),st:=⟨[],[]⟩ }:=by
 obtain⟨hA,h1,h2,h3,h4⟩:=h
 have w1:=qab (n:=2*(A:Int)) (by omega) (by omega)
 have w2:=qab (n:=2*(A:Int)+(c.inputs.length:Int)) (by omega) (by omega)
 rw[qac,pg202]
 simp[ir202,hA,w1,w2]
theorem ev193{c:Ct}{A:Nat}(h:Mid c A):ev pg (.call (.fn 193 [] []) [c.v] [])=some { v:=num (qak c A:Nat),st:=⟨[],[]⟩ }:=by
 obtain⟨hA,h1,h2,h3,h4⟩:=h
 have w1:=qab (n:=2*(A:Int)) (by omega) (by omega)
 have w2:=qab (n:=2*(A:Int)+(c.inputs.length:Int)) (by omega) (by omega)
 rw[qac,pg193]
 simp[ir193,hA,w1,w2]
theorem qho{α:Type}{row:α->List V}(h:∀x,qxi (row x) (row x)=true):∀l:List α,qtj (l.map row) (l.map row)=true
 | []=>rfl
 | x :: l=>by simp only[List.map_cons,qtj,h x,qho h l,Bool.and_self]
@[simp] theorem zzx(l:List Ex):qtj (l.map Ex.row) (l.map Ex.row)=true:=by
 have:∀x:Ex,qxi x.row x.row=true:=by
  refine Ex.ind fun x ih=>?_
  have hl:∀l:List Ex,(∀y∈l,qxi y.row y.row=true)->qtj (l.map Ex.row) (l.map Ex.row)=true:=by
   intro l
   induction l with
   | nil=>intro _;rfl
   | cons y l ihl =>
    intro h
    simp only[List.map_cons,qtj,h y (by simp),ihl (fun z hz=>h z (by simp[hz])),Bool.and_self]
  rw[zfv]
  simp[hl x.args ih]
 exact qho this l
@[simp] theorem zzy(l:List Sg):qtj (l.map Sg.row) (l.map Sg.row)=true:=qho (fun x=>by simp) l
@[simp] theorem ztq(l:List Txt):qtj (l.map zai) (l.map zai)=true:=qho (fun x=>by simp) l
@[simp] theorem ztp(l:List Int):qtj (l.map qdw) (l.map qdw)=true:=qho (fun x=>by simp) l
theorem ev180{c:Ct}{A:Nat}(h:Mid c A):ev pg (.call (.fn 180 [] []) [c.v] [])=some { v:=num (qah c A:Nat),st:=⟨[],[]⟩ }:=by
 have hf:=ev193 h
 obtain⟨hA,h1,h2,h3,h4⟩:=h
 have w3:=qab (n:=2*(A:Int)+(c.inputs.length:Int)+(c.signals.length:Int)) (by omega) (by omega)
 rw[qac,pg180]
 simp[qaa,exT,qae,ir180,hf,w3]
def qbl(c:Ct)(A k:Nat):Txt:=if k<2*A then [UInt8.ofNat (97+k / 2),UInt8.ofNat (48+k % 2)]else if k<2*A+c.inputs.length then(c.inputs[k-2*A]?).getD []else((c.signals[k-(2*A+c.inputs.length)]?).map Sg.name).getD []
theorem zfy{n:Int}(h:0<=n)(h2:n<2147483648):IntKind.i32.wrap n=n:=by
 unfold IntKind.wrap;simp[IntKind.bits,IntKind.signed];omega
theorem z1f{q:Nat}(h:q<6):List.take 1 (List.drop q ([97,98,99,100,101,102]:List UInt8))=[UInt8.ofNat (97+q)]:=by
 rcases (by omega:q=0\/q=1\/q=2\/q=3\/q=4\/q=5)with rfl | rfl | rfl | rfl | rfl | rfl<;>rfl
theorem z1e{q:Nat}(h:q<2):List.take 1 (List.drop q ([48,49]:List UInt8))=[UInt8.ofNat (48+q)]:=by
 rcases (by omega:q=0\/q=1)with rfl | rfl<;>rfl
theorem z0c{q:Nat}(h:q<6):(Utf8.encode (97+(q:Int))).data.toList=[UInt8.ofNat (97+q)]:=by
 rcases (by omega:q=0\/q=1\/q=2\/q=3\/q=4\/q=5)with rfl | rfl | rfl | rfl | rfl | rfl<;>decide
theorem z0b{q:Nat}(h:q<2):(Utf8.encode (48+(q:Int))).data.toList=[UInt8.ofNat (48+q)]:=by
 rcases (by omega:q=0\/q=1)with rfl | rfl<;>decide
theorem ev200{c:Ct}{A:Nat}(h:Mid c A)(k:Nat)(hk:k<qah c A):ev pg (.call (.fn 200 [] []) [c.v,num k] [])=some { v:=.str (qbl c A k),st:=⟨[],[]⟩ }:=by
 have hf:=ev202 h
 obtain⟨hA,h1,h2,h3,h4⟩:=h
 have hk':k<2*A+c.inputs.length+c.signals.length:=hk
 have w1:=qab (n:=2*c.act) (by omega) (by omega)
 rw[qac,pg200]
 by_cases c1:k<2*A
 .have c1':(k:Int)<2*c.act:=by omega
  obtain⟨q,hq⟩:∃q,q=k / 2:=⟨_,rfl⟩
  obtain⟨r,hr⟩:∃r,r=k % 2:=⟨_,rfl⟩
  have hq6:q<6:=by omega
  have hr2:r<2:=by omega
  have t1:(k:Int).tdiv 2=(q:Int):=by rw[hq];rfl
  have t2:(k:Int).tmod 2=(r:Int):=by rw[hr];rfl
  have w2:=qab (n:=(q:Int)) (by omega) (by omega)
  have w3:=qab (n:=(q:Int)+1) (by omega) (by omega)
  have w4:=qab (n:=(r:Int)+1) (by omega) (by omega)
  have hn:qbl c A k=[UInt8.ofNat (97+q),UInt8.ofNat (48+r)]:=by unfold qbl;rw[if_pos c1,hq,hr]
  have l1:=z1f hq6
  have l2:=z1e hr2
  have b1:q+1<=6:=by omega
  have b2:r+1<=2:=by omega
  have n1:((q:Int)+1).toNat=q+1:=by omega
  have n2:((r:Int)+1).toNat=r+1:=by omega
  have p1:(0:Int)<=(q:Int)+1:=by omega
  have p2:(0:Int)<=(r:Int)+1:=by omega
  rw[hn]
  simp[ir200,w1,c1',t1,t2,w2,w3,w4,l1,l2,b1,b2,n1,n2,p1,p2]
 .have c1':¬((k:Int)<2*c.act):=by omega
  by_cases c2:k<2*A+c.inputs.length
  .have c2':(k:Int)<2*(A:Int)+(c.inputs.length:Int):=by omega
   have hsub:(k:Int)-2*c.act=((k-2*A:Nat):Int):=by omega
   have w2:=qab (n:=((k-2*A:Nat):Int)) (by omega) (by omega)
   have hlt:k-2*A<c.inputs.length:=by omega
   have hn:qbl c A k=c.inputs[k-2*A]:=by unfold qbl;rw[if_neg c1,if_pos c2,jA hlt];rfl
   rw[hn]
   generalize k-2*A=j at *
   simp[ir200,w1,c1',hf,c2',hsub,w2,hlt]
  .have c2':¬((k:Int)<2*(A:Int)+(c.inputs.length:Int)):=by omega
   have hsub:(k:Int)-(2*(A:Int)+(c.inputs.length:Int))=((k-(2*A+c.inputs.length):Nat):Int):=by omega
   have w2:=qab (n:=((k-(2*A+c.inputs.length):Nat):Int)) (by omega) (by omega)
   have hlt:k-(2*A+c.inputs.length)<c.signals.length:=by omega
   have hn:qbl c A k=c.signals[k-(2*A+c.inputs.length)].name:=by unfold qbl;rw[if_neg c1,if_neg c2,jA hlt];rfl
   rw[hn]
   generalize k-(2*A+c.inputs.length)=j at *
   simp[qaa,exT,qae,ir200,w1,c1',hf,c2',hsub,w2,hlt]
theorem ev181{c:Ct}{A:Nat}(h:Mid c A)(k:Nat)(hk:k<qah c A):ev pg (.call (.fn 181 [] []) [c.v,num k] [])=some { v:=.str (qbl c A k),st:=⟨[],[]⟩ }:=by
 have hf:=ev193 h
 obtain⟨hA,h1,h2,h3,h4⟩:=h
 have hk':k<2*A+c.inputs.length+c.signals.length:=hk
 have w1:=qab (n:=2*c.act) (by omega) (by omega)
 rw[qac,pg181]
 by_cases c1:k<2*A
 .have c1':(k:Int)<2*c.act:=by omega
  obtain⟨q,hq⟩:∃q,q=k / 2:=⟨_,rfl⟩
  obtain⟨r,hr⟩:∃r,r=k % 2:=⟨_,rfl⟩
  have hq6:q<6:=by omega
  have hr2:r<2:=by omega
  have t1:(k:Int).tdiv 2=(q:Int):=by rw[hq];rfl
  have t2:(k:Int).tmod 2=(r:Int):=by rw[hr];rfl
  have w2:=qab (n:=(q:Int)) (by omega) (by omega)
  have w3:=qab (n:=97+(q:Int)) (by omega) (by omega)
  have w4:=qab (n:=48+(r:Int)) (by omega) (by omega)
  have w5:=zfy (n:=97+(q:Int)) (by omega) (by omega)
  have w6:=zfy (n:=48+(r:Int)) (by omega) (by omega)
  have hn:qbl c A k=[UInt8.ofNat (97+q),UInt8.ofNat (48+r)]:=by unfold qbl;rw[if_pos c1,hq,hr]
  have l1:=z0c hq6
  have l2:=z0b hr2
  rw[hn]
  simp[ir181,w1,c1',hf,t1,t2,w2,w3,w4,w5,w6,l1,l2]
 .have c1':¬((k:Int)<2*c.act):=by omega
  by_cases c2:k<2*A+c.inputs.length
  .have c2':(k:Int)<2*(A:Int)+(c.inputs.length:Int):=by omega
   have hsub:(k:Int)-2*c.act=((k-2*A:Nat):Int):=by omega
   have w2:=qab (n:=((k-2*A:Nat):Int)) (by omega) (by omega)
   have hlt:k-2*A<c.inputs.length:=by omega
   have hn:qbl c A k=c.inputs[k-2*A]:=by unfold qbl;rw[if_neg c1,if_pos c2,jA hlt];rfl
   rw[hn]
   generalize k-2*A=j at *
   simp[ir181,w1,c1',hf,c2',hsub,w2,hlt]
  .have c2':¬((k:Int)<2*(A:Int)+(c.inputs.length:Int)):=by omega
   have hsub:(k:Int)-(2*(A:Int)+(c.inputs.length:Int))=((k-(2*A+c.inputs.length):Nat):Int):=by omega
   have w2:=qab (n:=((k-(2*A+c.inputs.length):Nat):Int)) (by omega) (by omega)
   have hlt:k-(2*A+c.inputs.length)<c.signals.length:=by omega
   have hn:qbl c A k=c.signals[k-(2*A+c.inputs.length)].name:=by unfold qbl;rw[if_neg c1,if_neg c2,jA hlt];rfl
   rw[hn]
   generalize k-(2*A+c.inputs.length)=j at *
   simp[ir181,w1,c1',hf,c2',hsub,w2,hlt]
end Go.Proofs.YtddeacahiilikaaGreat
