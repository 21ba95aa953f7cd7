/- Controls: lines. -/
import Derived.Test.YtggbaapfbgjaeaaGreatDoorFVs3
set_option linter.all false
namespace Go.Proofs.YtggbaapfbgjaeaaGreatDoor
open Go Go.Am Go.Proofs
set_option maxRecDepth 100000
abbrev Txt:=List UInt8
structure Sg where
 name:Txt
 kind:Int
 on:Ex
 off:Ex
 delay:Int
 init:Bool
abbrev Sg.row(x:Sg):List V:=[.str x.name,num x.kind,num x.on.op,num x.on.idx,.imm (x.on.args.map Ex.row),num x.off.op,num x.off.idx,.imm (x.off.args.map Ex.row),num x.delay,.bool x.init]
abbrev qpq(s:Txt):List V:=[.str s]
abbrev qbk(n:Int):List V:=[.int .i64 n]
abbrev qcr(l:List Int):V:=.imm (l.map qbk)
structure Ct where
 act:Int
 inputs:List Txt
 signals:List Sg
 plus:List Int
 minus:List Int
abbrev Ct.cells(c:Ct):List V:=[num c.act,.imm (c.inputs.map qpq),.imm (c.signals.map Sg.row),qcr c.plus,qcr c.minus]
abbrev Ct.v(c:Ct):V:=.agg c.cells
def q7v(s:Txt):Bool:=decide (s.length<=200)
def q2a(x:Sg):Bool:=decide (x.name.length<=200)&&x.on.light&&x.off.light
def Ct.few(c:Ct):Bool:=decide (c.inputs.length<=32) && !(decide (16<c.signals.length)&&decide (c.signals.length<=64))&&decide (c.signals.length<=128)&&decide (c.plus.length<=40)&&decide (c.minus.length<=40)&&c.inputs.all q7v&&c.signals.all q2a
theorem zpq{α:Type}{f:α->Bool}{l:List α}{k:Nat}(hk:k<l.length):(l.drop k).all f=(f l[k]&&(l.drop (k+1)).all f):=by rw[jL hk];rfl
theorem qeg:∀{s:List V} (h:H),qaq s->qhn h s=(s,h)
 | [],h,_=>rfl
 | v :: s,h,hn=>by have hv:=hn v (by simp);have ih:=qeg (s:=s) h fun w hw=>hn w (by simp[hw]);cases v<;>first | exact absurd rfl hv | simp only[qhn,ih]
def z0l(c:Ct)(k:Nat)(st:St):Prop:=st.h=[⟨0,.box c.cells⟩]/\st.s.length=82/\qah st.s 1=.bptr 0 0/\qaq st.s/\qah st.s 3=num k/\c.inputs.all q7v=(c.inputs.drop k).all q7v
def zvs(c:Ct)(r:R):Prop:=r.st.s.length=82/\((r.x=.exit 0/\r.st.h=[⟨0,.box c.cells⟩]/\qah r.st.s 1=.bptr 0 0/\qaq r.st.s/\c.inputs.all q7v=true)\/(r.x=.ret/\qah r.st.s 2=.bool false/\c.inputs.all q7v=false))
theorem ziu(c:Ct)(hc:c.inputs.length<=32)(st:St)(h0:z0l c 0 st):∃r,ev pg (.code (.going 1 L19_0) st)=some r/\zvs c r:=by
 refine qat (z0l c) c.inputs.length (zvs c) h0 ?_ ?_
 .rintro k ⟨s,h⟩ hk ⟨rfl,hl,e1,hnn,e3,he⟩;simp only at hl e1 e3;have hn:∀j,qah s j ≠ .nils:=qap hnn;have hk':(k:Int)<c.inputs.length:=by omega
  have wk:=qbc k;rw[zpq hk]at he;rw[qac hl];by_cases ha:c.inputs[k].length<=200
  .have ha':¬((200:Int)<(c.inputs[k].length:Int)):=by omega
   have hf:q7v c.inputs[k]=true:=by simpa[q7v]using ha
   rw[hf,Bool.true_and]at he;simp[L19_0,z0l,List.range,List.range.loop,e1,e3,hk,hk',ha',he,wk];simp[qaq,hn]
  .have ha':(200:Int)<(c.inputs[k].length:Int):=by omega
   have hf:q7v c.inputs[k]=false:=by simp[q7v];omega
   rw[hf,Bool.false_and]at he;simp[L19_0,z0l,zvs,List.range,List.range.loop,e1,e3,hk,hk',ha',he]
 .rintro⟨s,h⟩ ⟨rfl,hl,e1,hnn,e3,he⟩;simp only[List.drop_length]at hl e1 e3 he;have hn:∀j,qah s j ≠ .nils:=qap hnn;have he':c.inputs.all q7v=true:=he;rw[qac hl];simp[L19_0,zvs,List.range,List.range.loop,e1,e3,he'];simp[qaq,hn]
def zvq(c:Ct)(k:Nat)(st:St):Prop:=st.h=[⟨0,.box c.cells⟩]/\st.s.length=82/\qah st.s 1=.bptr 0 0/\qah st.s 4=num k/\c.signals.all q2a=(c.signals.drop k).all q2a
def zpl(c:Ct)(r:R):Prop:=r.st.s.length=82/\((r.x=.exit 2/\c.signals.all q2a=true)\/(r.x=.ret/\qah r.st.s 2=.bool false/\c.signals.all q2a=false))
theorem ziv(c:Ct)(hc:c.signals.length<=128)(st:St)(h0:zvq c 0 st):∃r,ev pg (.code (.going 1 L19_1) st)=some r/\zpl c r:=by
 refine qat (zvq c) c.signals.length (zpl c) h0 ?_ ?_
 .rintro k ⟨s,h⟩ hk ⟨rfl,hl,e1,e4,he⟩;simp only at hl e1 e4;have hk':(k:Int)<c.signals.length:=by omega
  have wk:=qbc k;have l1:=ev53 c.signals[k].on;have l2:=ev53 c.signals[k].off;rw[zpq hk]at he;rw[qac hl];by_cases ha:c.signals[k].name.length<=200
  .have ha':¬((200:Int)<(c.signals[k].name.length:Int)):=by omega
   by_cases hb:c.signals[k].on.light=true
   .by_cases hd:c.signals[k].off.light=true
    .have hf:q2a c.signals[k]=true:=by simp[q2a,ha,hb,hd]
     rw[hf,Bool.true_and]at he;simp[L19_1,zvq,List.range,List.range.loop,e1,e4,hk,hk',ha',l1,l2,hb,hd,he,wk]
    .have hf:q2a c.signals[k]=false:=by simp[q2a,ha,hb,hd]
     rw[hf,Bool.false_and]at he;simp[L19_1,zvq,zpl,List.range,List.range.loop,e1,e4,hk,hk',ha',l1,l2,hb,hd,he]
   .have hf:q2a c.signals[k]=false:=by simp[q2a,ha,hb]
    rw[hf,Bool.false_and]at he;simp[L19_1,zvq,zpl,List.range,List.range.loop,e1,e4,hk,hk',ha',l1,hb,he]
  .have ha':(200:Int)<(c.signals[k].name.length:Int):=by omega
   have hf:q2a c.signals[k]=false:=by simp[q2a,ha]
   rw[hf,Bool.false_and]at he;simp[L19_1,zvq,zpl,List.range,List.range.loop,e1,e4,hk,hk',ha',he]
 .rintro⟨s,h⟩ ⟨rfl,hl,e1,e4,he⟩;simp only[List.drop_length]at hl e1 e4 he;have he':c.signals.all q2a=true:=he;rw[qac hl];simp[L19_1,zpl,List.range,List.range.loop,e1,e4,he']
theorem ev19(c:Ct):ev pg (.call (fnq 19) [c.v] [])=some (rvq (.bool c.few)):=by
 rw[qaa,pg19.1];by_cases h1:c.inputs.length<=32
 .have h1':¬((32:Int)<(c.inputs.length:Int)):=by omega
  by_cases h2:16<c.signals.length/\c.signals.length<=64
  .have h2':(16:Int)<(c.signals.length:Int):=by omega
   have h2'':(c.signals.length:Int)<=64:=by omega
   simp[ir19,Ct.few,h1,h1',h2.1,h2.2,h2',h2'']
  .by_cases h3:c.signals.length<=128
   .have h3':¬((128:Int)<(c.signals.length:Int)):=by omega
    by_cases h4:c.plus.length<=40
    .have h4':¬((40:Int)<(c.plus.length:Int)):=by omega
     by_cases h5:c.minus.length<=40
     .have h5':¬((40:Int)<(c.minus.length:Int)):=by omega
      have hfew:c.few=(c.inputs.all q7v&&c.signals.all q2a):=by
       unfold Ct.few;have:(decide (16<c.signals.length)&&decide (c.signals.length<=64))=false:=by rw[<-Bool.decide_and];simpa using h2
       simp[h1,this,h3,h4,h5]
      rw[hfew];generalize hA:c.inputs.all q7v=A at *;generalize hB:c.signals.all q2a=B at *;rcases (by omega:¬((16:Int)<(c.signals.length:Int))\/((16:Int)<(c.signals.length:Int)/\¬((c.signals.length:Int)<=64)))with g1 | ⟨g1,g2⟩
      .simp[ir19,h1',g1,h3',h4',h5',qai];generalize hr:ev pg (.code (.going 1 L19_0) _)=o;obtain⟨r,rfl,hl,hQ⟩:∃r,o=some r/\zvs c r:=by
        rw[<-hr];refine ziu c h1 _ ⟨?_,?_,?_,?_,?_,rfl⟩
        all_goals simp[qaq]
       rcases hQ with⟨hx,hh,e1,hnn,hE⟩ | ⟨hx,h2,hE⟩
       .have hA':A=true:=by rw[<-hA];exact hE
        subst hA';have hns:qaq (qet r.st.s 4 (.int .i64 0)):=qei hnn (by simp);have had:∀h,qhn h (qet r.st.s 4 (.int .i64 0))=(qet r.st.s 4 (.int .i64 0),h):=fun h=>qeg h hns;simp[hx,had,hh];generalize hr2:ev pg (.code (.going 1 L19_1) _)=o2;obtain⟨r2,rfl,hl2,hQ2⟩:∃r,o2=some r/\zpl c r:=by
         rw[<-hr2];refine ziv c h3 _ ⟨?_,?_,?_,?_,rfl⟩
         all_goals simp[hl,e1]
        rcases hQ2 with⟨hx2,hE2⟩ | ⟨hx2,h4,hE2⟩
        .rw[hB]at hE2;subst hE2;simp[hx2,hl2]
        .rw[hB]at hE2;subst hE2;simp[hx2,h4]
       .have hA':A=false:=by rw[<-hA];exact hE
        subst hA';simp[hx,h2]
      .simp[ir19,h1',g1,g2,h3',h4',h5',qai];generalize hr:ev pg (.code (.going 1 L19_0) _)=o;obtain⟨r,rfl,hl,hQ⟩:∃r,o=some r/\zvs c r:=by
        rw[<-hr];refine ziu c h1 _ ⟨?_,?_,?_,?_,?_,rfl⟩
        all_goals simp[qaq]
       rcases hQ with⟨hx,hh,e1,hnn,hE⟩ | ⟨hx,h2,hE⟩
       .have hA':A=true:=by rw[<-hA];exact hE
        subst hA';have hns:qaq (qet r.st.s 4 (.int .i64 0)):=qei hnn (by simp);have had:∀h,qhn h (qet r.st.s 4 (.int .i64 0))=(qet r.st.s 4 (.int .i64 0),h):=fun h=>qeg h hns;simp[hx,had,hh];generalize hr2:ev pg (.code (.going 1 L19_1) _)=o2;obtain⟨r2,rfl,hl2,hQ2⟩:∃r,o2=some r/\zpl c r:=by
         rw[<-hr2];refine ziv c h3 _ ⟨?_,?_,?_,?_,rfl⟩
         all_goals simp[hl,e1]
        rcases hQ2 with⟨hx2,hE2⟩ | ⟨hx2,h4,hE2⟩
        .rw[hB]at hE2;subst hE2;simp[hx2,hl2]
        .rw[hB]at hE2;subst hE2;simp[hx2,h4]
       .have hA':A=false:=by rw[<-hA];exact hE
        subst hA';simp[hx,h2]
     .have h5':(40:Int)<(c.minus.length:Int):=by omega
      have hfew:c.few=false:=by simp[Ct.few,h5]
      rw[hfew];rcases (by omega:¬((16:Int)<(c.signals.length:Int))\/((16:Int)<(c.signals.length:Int)/\¬((c.signals.length:Int)<=64)))with g1 | ⟨g1,g2⟩
      .simp[ir19,h1',g1,h3',h4',h5']
      .simp[ir19,h1',g1,g2,h3',h4',h5']
    .have h4':(40:Int)<(c.plus.length:Int):=by omega
     have hfew:c.few=false:=by simp[Ct.few,h4]
     rw[hfew];rcases (by omega:¬((16:Int)<(c.signals.length:Int))\/((16:Int)<(c.signals.length:Int)/\¬((c.signals.length:Int)<=64)))with g1 | ⟨g1,g2⟩
     .simp[ir19,h1',g1,h3',h4']
     .simp[ir19,h1',g1,g2,h3',h4']
   .have h3':(128:Int)<(c.signals.length:Int):=by omega
    have hfew:c.few=false:=by simp[Ct.few,h3]
    rw[hfew];have g1:(16:Int)<(c.signals.length:Int):=by omega
    have g2:¬((c.signals.length:Int)<=64):=by omega
    simp[ir19,h1',g1,g2,h3']
 .have h1':(32:Int)<(c.inputs.length:Int):=by omega
  have hfew:c.few=false:=by simp[Ct.few,h1]
  rw[hfew];simp[ir19,h1']
structure Mid(c:Ct)(A:Nat):Prop where
 act:c.act=A
 lo:1<=A
 hi:A<=6
 inp:c.inputs.length<=32
 sig:c.signals.length<=128
abbrev qal(c:Ct)(A:Nat):Nat:=2*A+c.inputs.length
abbrev qad(c:Ct)(A:Nat):Nat:=2*A+c.inputs.length+c.signals.length
theorem ev116{c:Ct}{A:Nat}(h:Mid c A):ev pg (.call (fnq 116) [c.v] [])=some (rvq (num (qad c A:Nat))):=by obtain⟨hA,h1,h2,h3,h4⟩:=h;have w1:=qam (n:=2*(A:Int)) (by omega) (by omega);have w2:=qam (n:=2*(A:Int)+(c.inputs.length:Int)) (by omega) (by omega);have w3:=qam (n:=2*(A:Int)+(c.inputs.length:Int)+(c.signals.length:Int)) (by omega) (by omega);rw[qaa,pg116.1];simp[ir116,hA,w1,w2,w3]
theorem ev171{c:Ct}{A:Nat}(h:Mid c A):ev pg (.call (fnq 171) [c.v] [])=some (rvq (num (qad c A:Nat))):=by obtain⟨hA,h1,h2,h3,h4⟩:=h;have w1:=qam (n:=2*(A:Int)) (by omega) (by omega);have w2:=qam (n:=2*(A:Int)+(c.inputs.length:Int)) (by omega) (by omega);have w3:=qam (n:=2*(A:Int)+(c.inputs.length:Int)+(c.signals.length:Int)) (by omega) (by omega);rw[qaa,pg171.1];simp[ir171,hA,w1,w2,w3]
theorem ev142{c:Ct}{A:Nat}(h:Mid c A):ev pg (.call (fnq 142) [c.v] [])=some (rvq (num (qal c A:Nat))):=by obtain⟨hA,h1,h2,h3,h4⟩:=h;have w1:=qam (n:=2*(A:Int)) (by omega) (by omega);have w2:=qam (n:=2*(A:Int)+(c.inputs.length:Int)) (by omega) (by omega);rw[qaa,pg142.1];simp[ir142,hA,w1,w2]
theorem ev161{c:Ct}{A:Nat}(h:Mid c A):ev pg (.call (fnq 161) [c.v] [])=some (rvq (num (qal c A:Nat))):=by obtain⟨hA,h1,h2,h3,h4⟩:=h;have w1:=qam (n:=2*(A:Int)) (by omega) (by omega);have w2:=qam (n:=2*(A:Int)+(c.inputs.length:Int)) (by omega) (by omega);rw[qaa,pg161.1];simp[ir161,hA,w1,w2]
theorem qjo{α:Type}{row:α->List V}(h:∀x,qzj (row x) (row x)=true):∀l:List α,qyw (l.map row) (l.map row)=true
 | []=>rfl
 | x :: l=>by simp only[List.map_cons,qyw,h x,qjo h l,Bool.and_self]
@[simp] theorem z2s(l:List Ex):qyw (l.map Ex.row) (l.map Ex.row)=true:=by
 have:∀x:Ex,qzj x.row x.row=true:=by
  refine Ex.ind fun x ih=>?_;have hl:∀l:List Ex,(∀y∈l,qzj y.row y.row=true)->qyw (l.map Ex.row) (l.map Ex.row)=true:=by
   intro l;induction l with
   | nil=>intro _;rfl
   | cons y l ihl =>intro h;simp only[List.map_cons,qyw,h y (by simp),ihl (fun z hz=>h z (by simp[hz])),Bool.and_self]
  rw[q0v];simp[hl x.args ih]
 exact qjo this l
@[simp] theorem z2t(l:List Sg):qyw (l.map Sg.row) (l.map Sg.row)=true:=qjo (fun x=>by simp) l
@[simp] theorem z1k(l:List Txt):qyw (l.map qpq) (l.map qpq)=true:=qjo (fun x=>by simp) l
@[simp] theorem z1j(l:List Int):qyw (l.map qbk) (l.map qbk)=true:=qjo (fun x=>by simp) l
theorem ev128{c:Ct}{A:Nat}(h:Mid c A):ev pg (.call (fnq 128) [c.v] [])=some (rvq (num (qad c A:Nat))):=by have hf:=ev161 h;obtain⟨hA,h1,h2,h3,h4⟩:=h;have w3:=qam (n:=2*(A:Int)+(c.inputs.length:Int)+(c.signals.length:Int)) (by omega) (by omega);rw[qaa,pg128.1];simp[qab,exT,qag,ir128,hf,w3]
def qbj(c:Ct)(A k:Nat):Txt:=if k<2*A then [UInt8.ofNat (97+k / 2),UInt8.ofNat (48+k % 2)]else if k<2*A+c.inputs.length then(c.inputs[k-2*A]?).getD []else((c.signals[k-(2*A+c.inputs.length)]?).map Sg.name).getD []
theorem zqq{n:Int}(h:0<=n)(h2:n<2147483648):IntKind.i32.wrap n=n:=by unfold IntKind.wrap;simp[IntKind.bits,IntKind.signed];omega
theorem z3f{q:Nat}(h:q<6):List.take 1 (List.drop q ([97,98,99,100,101,102]:List UInt8))=[UInt8.ofNat (97+q)]:=by rcases (by omega:q=0\/q=1\/q=2\/q=3\/q=4\/q=5)with rfl | rfl | rfl | rfl | rfl | rfl<;>rfl
theorem z3e{q:Nat}(h:q<2):List.take 1 (List.drop q ([48,49]:List UInt8))=[UInt8.ofNat (48+q)]:=by rcases (by omega:q=0\/q=1)with rfl | rfl<;>rfl
theorem z2x{q:Nat}(h:q<6):(Utf8.encode (97+(q:Int))).data.toList=[UInt8.ofNat (97+q)]:=by rcases (by omega:q=0\/q=1\/q=2\/q=3\/q=4\/q=5)with rfl | rfl | rfl | rfl | rfl | rfl<;>decide
theorem z2w{q:Nat}(h:q<2):(Utf8.encode (48+(q:Int))).data.toList=[UInt8.ofNat (48+q)]:=by rcases (by omega:q=0\/q=1)with rfl | rfl<;>decide
theorem ev140{c:Ct}{A:Nat}(h:Mid c A)(k:Nat)(hk:k<qad c A):ev pg (.call (fnq 140) [c.v,num k] [])=some (rvq (.str (qbj c A k))):=by
 have hf:=ev142 h;obtain⟨hA,h1,h2,h3,h4⟩:=h;have hk':k<2*A+c.inputs.length+c.signals.length:=hk;have w1:=qam (n:=2*c.act) (by omega) (by omega);rw[qaa,pg140.1];by_cases c1:k<2*A
 .have c1':(k:Int)<2*c.act:=by omega
  obtain⟨q,hq⟩:∃q,q=k / 2:=⟨_,rfl⟩
  obtain⟨r,hr⟩:∃r,r=k % 2:=⟨_,rfl⟩
  have hq6:q<6:=by omega
  have hr2:r<2:=by omega
  have t1:(k:Int).tdiv 2=(q:Int):=by rw[hq];rfl
  have t2:(k:Int).tmod 2=(r:Int):=by rw[hr];rfl
  have w2:=qam (n:=(q:Int)) (by omega) (by omega);have w3:=qbc q;have w4:=qbc r;have hn:qbj c A k=[UInt8.ofNat (97+q),UInt8.ofNat (48+r)]:=by unfold qbj;rw[if_pos c1,hq,hr]
  have l1:=z3f hq6;have l2:=z3e hr2;have b1:q+1<=6:=by omega
  have b2:r+1<=2:=by omega
  have n1:((q:Int)+1).toNat=q+1:=by omega
  have n2:((r:Int)+1).toNat=r+1:=by omega
  have p1:(0:Int)<=(q:Int)+1:=by omega
  have p2:(0:Int)<=(r:Int)+1:=by omega
  rw[hn];simp[ir140,w1,c1',t1,t2,w2,w3,w4,l1,l2,b1,b2,n1,n2,p1,p2]
 .have c1':¬((k:Int)<2*c.act):=by omega
  by_cases c2:k<2*A+c.inputs.length
  .have c2':(k:Int)<2*(A:Int)+(c.inputs.length:Int):=by omega
   have hsub:(k:Int)-2*c.act=((k-2*A:Nat):Int):=by omega
   have w2:=qam (n:=((k-2*A:Nat):Int)) (by omega) (by omega);have hlt:k-2*A<c.inputs.length:=by omega
   have hn:qbj c A k=c.inputs[k-2*A]:=by unfold qbj;rw[if_neg c1,if_pos c2,jA hlt];rfl
   rw[hn];generalize k-2*A=j at *;simp[ir140,w1,c1',hf,c2',hsub,w2,hlt]
  .have c2':¬((k:Int)<2*(A:Int)+(c.inputs.length:Int)):=by omega
   have hsub:(k:Int)-(2*(A:Int)+(c.inputs.length:Int))=((k-(2*A+c.inputs.length):Nat):Int):=by omega
   have w2:=qam (n:=((k-(2*A+c.inputs.length):Nat):Int)) (by omega) (by omega);have hlt:k-(2*A+c.inputs.length)<c.signals.length:=by omega
   have hn:qbj c A k=c.signals[k-(2*A+c.inputs.length)].name:=by unfold qbj;rw[if_neg c1,if_neg c2,jA hlt];rfl
   rw[hn];generalize k-(2*A+c.inputs.length)=j at *;simp[qab,exT,qag,ir140,w1,c1',hf,c2',hsub,w2,hlt]
theorem ev123{c:Ct}{A:Nat}(h:Mid c A)(k:Nat)(hk:k<qad c A):ev pg (.call (fnq 123) [c.v,num k] [])=some (rvq (.str (qbj c A k))):=by
 have hf:=ev161 h;obtain⟨hA,h1,h2,h3,h4⟩:=h;have hk':k<2*A+c.inputs.length+c.signals.length:=hk;have w1:=qam (n:=2*c.act) (by omega) (by omega);rw[qaa,pg123.1];by_cases c1:k<2*A
 .have c1':(k:Int)<2*c.act:=by omega
  obtain⟨q,hq⟩:∃q,q=k / 2:=⟨_,rfl⟩
  obtain⟨r,hr⟩:∃r,r=k % 2:=⟨_,rfl⟩
  have hq6:q<6:=by omega
  have hr2:r<2:=by omega
  have t1:(k:Int).tdiv 2=(q:Int):=by rw[hq];rfl
  have t2:(k:Int).tmod 2=(r:Int):=by rw[hr];rfl
  have w2:=qam (n:=(q:Int)) (by omega) (by omega);have w3:=qam (n:=97+(q:Int)) (by omega) (by omega);have w4:=qam (n:=48+(r:Int)) (by omega) (by omega);have w5:=zqq (n:=97+(q:Int)) (by omega) (by omega);have w6:=zqq (n:=48+(r:Int)) (by omega) (by omega);have hn:qbj c A k=[UInt8.ofNat (97+q),UInt8.ofNat (48+r)]:=by unfold qbj;rw[if_pos c1,hq,hr]
  have l1:=z2x hq6;have l2:=z2w hr2;rw[hn];simp[ir123,w1,c1',hf,t1,t2,w2,w3,w4,w5,w6,l1,l2]
 .have c1':¬((k:Int)<2*c.act):=by omega
  by_cases c2:k<2*A+c.inputs.length
  .have c2':(k:Int)<2*(A:Int)+(c.inputs.length:Int):=by omega
   have hsub:(k:Int)-2*c.act=((k-2*A:Nat):Int):=by omega
   have w2:=qam (n:=((k-2*A:Nat):Int)) (by omega) (by omega);have hlt:k-2*A<c.inputs.length:=by omega
   have hn:qbj c A k=c.inputs[k-2*A]:=by unfold qbj;rw[if_neg c1,if_pos c2,jA hlt];rfl
   rw[hn];generalize k-2*A=j at *;simp[ir123,w1,c1',hf,c2',hsub,w2,hlt]
  .have c2':¬((k:Int)<2*(A:Int)+(c.inputs.length:Int)):=by omega
   have hsub:(k:Int)-(2*(A:Int)+(c.inputs.length:Int))=((k-(2*A+c.inputs.length):Nat):Int):=by omega
   have w2:=qam (n:=((k-(2*A+c.inputs.length):Nat):Int)) (by omega) (by omega);have hlt:k-(2*A+c.inputs.length)<c.signals.length:=by omega
   have hn:qbj c A k=c.signals[k-(2*A+c.inputs.length)].name:=by unfold qbj;rw[if_neg c1,if_neg c2,jA hlt];rfl
   rw[hn];generalize k-(2*A+c.inputs.length)=j at *;simp[ir123,w1,c1',hf,c2',hsub,w2,hlt]
end Go.Proofs.YtggbaapfbgjaeaaGreatDoor
