/- Controls: lines. -/
import Derived.Test.YtggbaapfbgjaeaaGreatDoorVs3
set_option linter.all false
namespace Go.Proofs.YtggbaapfbgjaeaaGreatDoor
open Go Go.Am Go.Proofs
set_option maxRecDepth 100000
abbrev Txt:=List UInt8
structure Sg where
 name:Txt
 kind:Int
 on:Ex
 off:Ex
 delay:Int
 init:Bool
abbrev Sg.row(x:Sg):List V:=[.str x.name,num x.kind,num x.on.op,num x.on.idx,.imm (x.on.args.map Ex.row),num x.off.op,num x.off.idx,.imm (x.off.args.map Ex.row),num x.delay,.bool x.init]
abbrev qpk(s:Txt):List V:=[.str s]
abbrev qbh(n:Int):List V:=[.int .i64 n]
abbrev qct(l:List Int):V:=.imm (l.map qbh)
structure Ct where
 act:Int
 inputs:List Txt
 signals:List Sg
 plus:List Int
 minus:List Int
abbrev Ct.cells(c:Ct):List V:=[num c.act,.imm (c.inputs.map qpk),.imm (c.signals.map Sg.row),qct c.plus,qct c.minus]
abbrev Ct.v(c:Ct):V:=.agg c.cells
def q7j(s:Txt):Bool:=decide (s.length<=200)
def q1r(x:Sg):Bool:=decide (x.name.length<=200)&&x.on.light&&x.off.light
def Ct.few(c:Ct):Bool:=decide (c.inputs.length<=32) && !(decide (16<c.signals.length)&&decide (c.signals.length<=64))&&decide (c.signals.length<=128)&&decide (c.plus.length<=40)&&decide (c.minus.length<=40)&&c.inputs.all q7j&&c.signals.all q1r
theorem zoo{α:Type}{f:α->Bool}{l:List α}{k:Nat}(hk:k<l.length):(l.drop k).all f=(f l[k]&&(l.drop (k+1)).all f):=by rw[jL hk];rfl
theorem qee:∀{s:List V} (h:H),qas s->qhn h s=(s,h)
 | [],h,_=>rfl
 | v :: s,h,hn=>by have hv:=hn v (by simp);have ih:=qee (s:=s) h fun w hw=>hn w (by simp[hw]);cases v<;>first | exact absurd rfl hv | simp only[qhn,ih]
def zzb(c:Ct)(k:Nat)(st:St):Prop:=st.h=[⟨0,.box c.cells⟩]/\st.s.length=82/\qaj st.s 1=.bptr 0 0/\qas st.s/\qaj st.s 3=num k/\c.inputs.all q7j=(c.inputs.drop k).all q7j
def zun(c:Ct)(r:R):Prop:=r.st.s.length=82/\((r.x=.exit 0/\r.st.h=[⟨0,.box c.cells⟩]/\qaj r.st.s 1=.bptr 0 0/\qas r.st.s/\c.inputs.all q7j=true)\/(r.x=.ret/\qaj r.st.s 2=.bool false/\c.inputs.all q7j=false))
theorem zib(c:Ct)(hc:c.inputs.length<=32)(st:St)(h0:zzb c 0 st):∃r,ev pg (.code (.going 1 L19_0) st)=some r/\zun c r:=by
 refine qaw (zzb c) c.inputs.length (zun c) h0 ?_ ?_
 .rintro k ⟨s,h⟩ hk ⟨rfl,hl,e1,hnn,e3,he⟩;simp only at hl e1 e3;have hn:∀j,qaj s j ≠ .nils:=qar hnn;have hk':(k:Int)<c.inputs.length:=by omega
  have wk:=qbi k;rw[zoo hk]at he;rw[qad hl];by_cases ha:c.inputs[k].length<=200
  .have ha':¬((200:Int)<(c.inputs[k].length:Int)):=by omega
   have hf:q7j c.inputs[k]=true:=by simpa[q7j]using ha
   rw[hf,Bool.true_and]at he;simp[L19_0,zzb,List.range,List.range.loop,e1,e3,hk,hk',ha',he,wk];simp[qas,hn]
  .have ha':(200:Int)<(c.inputs[k].length:Int):=by omega
   have hf:q7j c.inputs[k]=false:=by simp[q7j];omega
   rw[hf,Bool.false_and]at he;simp[L19_0,zzb,zun,List.range,List.range.loop,e1,e3,hk,hk',ha',he]
 .rintro⟨s,h⟩ ⟨rfl,hl,e1,hnn,e3,he⟩;simp only[List.drop_length]at hl e1 e3 he;have hn:∀j,qaj s j ≠ .nils:=qar hnn;have he':c.inputs.all q7j=true:=he;rw[qad hl];simp[L19_0,zun,List.range,List.range.loop,e1,e3,he'];simp[qas,hn]
def zuk(c:Ct)(k:Nat)(st:St):Prop:=st.h=[⟨0,.box c.cells⟩]/\st.s.length=82/\qaj st.s 1=.bptr 0 0/\qaj st.s 4=num k/\c.signals.all q1r=(c.signals.drop k).all q1r
def zoj(c:Ct)(r:R):Prop:=r.st.s.length=82/\((r.x=.exit 2/\c.signals.all q1r=true)\/(r.x=.ret/\qaj r.st.s 2=.bool false/\c.signals.all q1r=false))
theorem zic(c:Ct)(hc:c.signals.length<=128)(st:St)(h0:zuk c 0 st):∃r,ev pg (.code (.going 1 L19_1) st)=some r/\zoj c r:=by
 refine qaw (zuk c) c.signals.length (zoj c) h0 ?_ ?_
 .rintro k ⟨s,h⟩ hk ⟨rfl,hl,e1,e4,he⟩;simp only at hl e1 e4;have hk':(k:Int)<c.signals.length:=by omega
  have wk:=qbi k;have l1:=ev53 c.signals[k].on;have l2:=ev53 c.signals[k].off;rw[zoo hk]at he;rw[qad hl];by_cases ha:c.signals[k].name.length<=200
  .have ha':¬((200:Int)<(c.signals[k].name.length:Int)):=by omega
   by_cases hb:c.signals[k].on.light=true
   .by_cases hd:c.signals[k].off.light=true
    .have hf:q1r c.signals[k]=true:=by simp[q1r,ha,hb,hd]
     rw[hf,Bool.true_and]at he;simp[L19_1,zuk,List.range,List.range.loop,e1,e4,hk,hk',ha',l1,l2,hb,hd,he,wk]
    .have hf:q1r c.signals[k]=false:=by simp[q1r,ha,hb,hd]
     rw[hf,Bool.false_and]at he;simp[L19_1,zuk,zoj,List.range,List.range.loop,e1,e4,hk,hk',ha',l1,l2,hb,hd,he]
   .have hf:q1r c.signals[k]=false:=by simp[q1r,ha,hb]
    rw[hf,Bool.false_and]at he;simp[L19_1,zuk,zoj,List.range,List.range.loop,e1,e4,hk,hk',ha',l1,hb,he]
  .have ha':(200:Int)<(c.signals[k].name.length:Int):=by omega
   have hf:q1r c.signals[k]=false:=by simp[q1r,ha]
   rw[hf,Bool.false_and]at he;simp[L19_1,zuk,zoj,List.range,List.range.loop,e1,e4,hk,hk',ha',he]
 .rintro⟨s,h⟩ ⟨rfl,hl,e1,e4,he⟩;simp only[List.drop_length]at hl e1 e4 he;have he':c.signals.all q1r=true:=he;rw[qad hl];simp[L19_1,zoj,List.range,List.range.loop,e1,e4,he']
theorem ev19(c:Ct):ev pg (.call (fnq 19) [c.v] [])=some (rvq (.bool c.few)):=by
 rw[qab,pg19.1];by_cases h1:c.inputs.length<=32
 .have h1':¬((32:Int)<(c.inputs.length:Int)):=by omega
  by_cases h2:16<c.signals.length/\c.signals.length<=64
  .have h2':(16:Int)<(c.signals.length:Int):=by omega
   have h2'':(c.signals.length:Int)<=64:=by omega
   simp[ir19,Ct.few,h1,h1',h2.1,h2.2,h2',h2'']
  .by_cases h3:c.signals.length<=128
   .have h3':¬((128:Int)<(c.signals.length:Int)):=by omega
    by_cases h4:c.plus.length<=40
    .have h4':¬((40:Int)<(c.plus.length:Int)):=by omega
     by_cases h5:c.minus.length<=40
     .have h5':¬((40:Int)<(c.minus.length:Int)):=by omega
      have hfew:c.few=(c.inputs.all q7j&&c.signals.all q1r):=by
       unfold Ct.few;have:(decide (16<c.signals.length)&&decide (c.signals.length<=64))=false:=by rw[<-Bool.decide_and];simpa using h2
       simp[h1,this,h3,h4,h5]
      rw[hfew];generalize hA:c.inputs.all q7j=A at *;generalize hB:c.signals.all q1r=B at *;rcases (by omega:¬((16:Int)<(c.signals.length:Int))\/((16:Int)<(c.signals.length:Int)/\¬((c.signals.length:Int)<=64)))with g1 | ⟨g1,g2⟩
      .simp[ir19,h1',g1,h3',h4',h5',qah];generalize hr:ev pg (.code (.going 1 L19_0) _)=o;obtain⟨r,rfl,hl,hQ⟩:∃r,o=some r/\zun c r:=by
        rw[<-hr];refine zib c h1 _ ⟨?_,?_,?_,?_,?_,rfl⟩
        all_goals simp[qas]
       rcases hQ with⟨hx,hh,e1,hnn,hE⟩ | ⟨hx,h2,hE⟩
       .have hA':A=true:=by rw[<-hA];exact hE
        subst hA';have hns:qas (qep r.st.s 4 (.int .i64 0)):=qeg hnn (by simp);have had:∀h,qhn h (qep r.st.s 4 (.int .i64 0))=(qep r.st.s 4 (.int .i64 0),h):=fun h=>qee h hns;simp[hx,had,hh];generalize hr2:ev pg (.code (.going 1 L19_1) _)=o2;obtain⟨r2,rfl,hl2,hQ2⟩:∃r,o2=some r/\zoj c r:=by
         rw[<-hr2];refine zic c h3 _ ⟨?_,?_,?_,?_,rfl⟩
         all_goals simp[hl,e1]
        rcases hQ2 with⟨hx2,hE2⟩ | ⟨hx2,h4,hE2⟩
        .rw[hB]at hE2;subst hE2;simp[hx2,hl2]
        .rw[hB]at hE2;subst hE2;simp[hx2,h4]
       .have hA':A=false:=by rw[<-hA];exact hE
        subst hA';simp[hx,h2]
      .simp[ir19,h1',g1,g2,h3',h4',h5',qah];generalize hr:ev pg (.code (.going 1 L19_0) _)=o;obtain⟨r,rfl,hl,hQ⟩:∃r,o=some r/\zun c r:=by
        rw[<-hr];refine zib c h1 _ ⟨?_,?_,?_,?_,?_,rfl⟩
        all_goals simp[qas]
       rcases hQ with⟨hx,hh,e1,hnn,hE⟩ | ⟨hx,h2,hE⟩
       .have hA':A=true:=by rw[<-hA];exact hE
        subst hA';have hns:qas (qep r.st.s 4 (.int .i64 0)):=qeg hnn (by simp);have had:∀h,qhn h (qep r.st.s 4 (.int .i64 0))=(qep r.st.s 4 (.int .i64 0),h):=fun h=>qee h hns;simp[hx,had,hh];generalize hr2:ev pg (.code (.going 1 L19_1) _)=o2;obtain⟨r2,rfl,hl2,hQ2⟩:∃r,o2=some r/\zoj c r:=by
         rw[<-hr2];refine zic c h3 _ ⟨?_,?_,?_,?_,rfl⟩
         all_goals simp[hl,e1]
        rcases hQ2 with⟨hx2,hE2⟩ | ⟨hx2,h4,hE2⟩
        .rw[hB]at hE2;subst hE2;simp[hx2,hl2]
        .rw[hB]at hE2;subst hE2;simp[hx2,h4]
       .have hA':A=false:=by rw[<-hA];exact hE
        subst hA';simp[hx,h2]
     .have h5':(40:Int)<(c.minus.length:Int):=by omega
      have hfew:c.few=false:=by simp[Ct.few,h5]
      rw[hfew];rcases (by omega:¬((16:Int)<(c.signals.length:Int))\/((16:Int)<(c.signals.length:Int)/\¬((c.signals.length:Int)<=64)))with g1 | ⟨g1,g2⟩
      .simp[ir19,h1',g1,h3',h4',h5']
      .simp[ir19,h1',g1,g2,h3',h4',h5']
    .have h4':(40:Int)<(c.plus.length:Int):=by omega
     have hfew:c.few=false:=by simp[Ct.few,h4]
     rw[hfew];rcases (by omega:¬((16:Int)<(c.signals.length:Int))\/((16:Int)<(c.signals.length:Int)/\¬((c.signals.length:Int)<=64)))with g1 | ⟨g1,g2⟩
     .simp[ir19,h1',g1,h3',h4']
     .simp[ir19,h1',g1,g2,h3',h4']
   .have h3':(128:Int)<(c.signals.length:Int):=by omega
    have hfew:c.few=false:=by simp[Ct.few,h3]
    rw[hfew];have g1:(16:Int)<(c.signals.length:Int):=by omega
    have g2:¬((c.signals.length:Int)<=64):=by omega
    simp[ir19,h1',g1,g2,h3']
 .have h1':(32:Int)<(c.inputs.length:Int):=by omega
  have hfew:c.few=false:=by simp[Ct.few,h1]
  rw[hfew];simp[ir19,h1']
structure Mid(c:Ct)(A:Nat):Prop where
 act:c.act=A
 lo:1<=A
 hi:A<=6
 inp:c.inputs.length<=32
 sig:c.signals.length<=128
abbrev qal(c:Ct)(A:Nat):Nat:=2*A+c.inputs.length
abbrev qac(c:Ct)(A:Nat):Nat:=2*A+c.inputs.length+c.signals.length
theorem ev116{c:Ct}{A:Nat}(h:Mid c A):ev pg (.call (fnq 116) [c.v] [])=some (rvq (num (qac c A:Nat))):=by obtain⟨hA,h1,h2,h3,h4⟩:=h;have w1:=qam (n:=2*(A:Int)) (by omega) (by omega);have w2:=qam (n:=2*(A:Int)+(c.inputs.length:Int)) (by omega) (by omega);have w3:=qam (n:=2*(A:Int)+(c.inputs.length:Int)+(c.signals.length:Int)) (by omega) (by omega);rw[qab,pg116.1];simp[ir116,hA,w1,w2,w3]
theorem ev171{c:Ct}{A:Nat}(h:Mid c A):ev pg (.call (fnq 171) [c.v] [])=some (rvq (num (qac c A:Nat))):=by obtain⟨hA,h1,h2,h3,h4⟩:=h;have w1:=qam (n:=2*(A:Int)) (by omega) (by omega);have w2:=qam (n:=2*(A:Int)+(c.inputs.length:Int)) (by omega) (by omega);have w3:=qam (n:=2*(A:Int)+(c.inputs.length:Int)+(c.signals.length:Int)) (by omega) (by omega);rw[qab,pg171.1];simp[ir171,hA,w1,w2,w3]
theorem ev142{c:Ct}{A:Nat}(h:Mid c A):ev pg (.call (fnq 142) [c.v] [])=some (rvq (num (qal c A:Nat))):=by obtain⟨hA,h1,h2,h3,h4⟩:=h;have w1:=qam (n:=2*(A:Int)) (by omega) (by omega);have w2:=qam (n:=2*(A:Int)+(c.inputs.length:Int)) (by omega) (by omega);rw[qab,pg142.1];simp[ir142,hA,w1,w2]
theorem ev161{c:Ct}{A:Nat}(h:Mid c A):ev pg (.call (fnq 161) [c.v] [])=some (rvq (num (qal c A:Nat))):=by obtain⟨hA,h1,h2,h3,h4⟩:=h;have w1:=qam (n:=2*(A:Int)) (by omega) (by omega);have w2:=qam (n:=2*(A:Int)+(c.inputs.length:Int)) (by omega) (by omega);rw[qab,pg161.1];simp[ir161,hA,w1,w2]
theorem qjn{α:Type}{row:α->List V}(h:∀x,qyx (row x) (row x)=true):∀l:List α,qyk (l.map row) (l.map row)=true
 | []=>rfl
 | x :: l=>by simp only[List.map_cons,qyk,h x,qjn h l,Bool.and_self]
@[simp] theorem z1i(l:List Ex):qyk (l.map Ex.row) (l.map Ex.row)=true:=by
 have:∀x:Ex,qyx x.row x.row=true:=by
  refine Ex.ind fun x ih=>?_;have hl:∀l:List Ex,(∀y∈l,qyx y.row y.row=true)->qyk (l.map Ex.row) (l.map Ex.row)=true:=by
   intro l;induction l with
   | nil=>intro _;rfl
   | cons y l ihl =>intro h;simp only[List.map_cons,qyk,h y (by simp),ihl (fun z hz=>h z (by simp[hz])),Bool.and_self]
  rw[q0l];simp[hl x.args ih]
 exact qjn this l
@[simp] theorem z1j(l:List Sg):qyk (l.map Sg.row) (l.map Sg.row)=true:=qjn (fun x=>by simp) l
@[simp] theorem zzz(l:List Txt):qyk (l.map qpk) (l.map qpk)=true:=qjn (fun x=>by simp) l
@[simp] theorem zzy(l:List Int):qyk (l.map qbh) (l.map qbh)=true:=qjn (fun x=>by simp) l
theorem ev128{c:Ct}{A:Nat}(h:Mid c A):ev pg (.call (fnq 128) [c.v] [])=some (rvq (num (qac c A:Nat))):=by have hf:=ev161 h;obtain⟨hA,h1,h2,h3,h4⟩:=h;have w3:=qam (n:=2*(A:Int)+(c.inputs.length:Int)+(c.signals.length:Int)) (by omega) (by omega);rw[qab,pg128.1];simp[qaa,exT,qag,ir128,hf,w3]
def qbk(c:Ct)(A k:Nat):Txt:=if k<2*A then [UInt8.ofNat (97+k / 2),UInt8.ofNat (48+k % 2)]else if k<2*A+c.inputs.length then(c.inputs[k-2*A]?).getD []else((c.signals[k-(2*A+c.inputs.length)]?).map Sg.name).getD []
theorem zpo{n:Int}(h:0<=n)(h2:n<2147483648):IntKind.i32.wrap n=n:=by unfold IntKind.wrap;simp[IntKind.bits,IntKind.signed];omega
theorem z1v{q:Nat}(h:q<6):List.take 1 (List.drop q ([97,98,99,100,101,102]:List UInt8))=[UInt8.ofNat (97+q)]:=by rcases (by omega:q=0\/q=1\/q=2\/q=3\/q=4\/q=5)with rfl | rfl | rfl | rfl | rfl | rfl<;>rfl
theorem z1u{q:Nat}(h:q<2):List.take 1 (List.drop q ([48,49]:List UInt8))=[UInt8.ofNat (48+q)]:=by rcases (by omega:q=0\/q=1)with rfl | rfl<;>rfl
theorem z1n{q:Nat}(h:q<6):(Utf8.encode (97+(q:Int))).data.toList=[UInt8.ofNat (97+q)]:=by rcases (by omega:q=0\/q=1\/q=2\/q=3\/q=4\/q=5)with rfl | rfl | rfl | rfl | rfl | rfl<;>decide
theorem z1m{q:Nat}(h:q<2):(Utf8.encode (48+(q:Int))).data.toList=[UInt8.ofNat (48+q)]:=by rcases (by omega:q=0\/q=1)with rfl | rfl<;>decide
theorem ev140{c:Ct}{A:Nat}(h:Mid c A)(k:Nat)(hk:k<qac c A):ev pg (.call (fnq 140) [c.v,num k] [])=some (rvq (.str (qbk c A k))):=by
 have hf:=ev142 h;obtain⟨hA,h1,h2,h3,h4⟩:=h;have hk':k<2*A+c.inputs.length+c.signals.length:=hk;have w1:=qam (n:=2*c.act) (by omega) (by omega);rw[qab,pg140.1];by_cases c1:k<2*A
 .have c1':(k:Int)<2*c.act:=by omega
  obtain⟨q,hq⟩:∃q,q=k / 2:=⟨_,rfl⟩
  obtain⟨r,hr⟩:∃r,r=k % 2:=⟨_,rfl⟩
  have hq6:q<6:=by omega
  have hr2:r<2:=by omega
  have t1:(k:Int).tdiv 2=(q:Int):=by rw[hq];rfl
  have t2:(k:Int).tmod 2=(r:Int):=by rw[hr];rfl
  have w2:=qam (n:=(q:Int)) (by omega) (by omega);have w3:=qbi q;have w4:=qbi r;have hn:qbk c A k=[UInt8.ofNat (97+q),UInt8.ofNat (48+r)]:=by unfold qbk;rw[if_pos c1,hq,hr]
  have l1:=z1v hq6;have l2:=z1u hr2;have b1:q+1<=6:=by omega
  have b2:r+1<=2:=by omega
  have n1:((q:Int)+1).toNat=q+1:=by omega
  have n2:((r:Int)+1).toNat=r+1:=by omega
  have p1:(0:Int)<=(q:Int)+1:=by omega
  have p2:(0:Int)<=(r:Int)+1:=by omega
  rw[hn];simp[ir140,w1,c1',t1,t2,w2,w3,w4,l1,l2,b1,b2,n1,n2,p1,p2]
 .have c1':¬((k:Int)<2*c.act):=by omega
  by_cases c2:k<2*A+c.inputs.length
  .have c2':(k:Int)<2*(A:Int)+(c.inputs.length:Int):=by omega
   have hsub:(k:Int)-2*c.act=((k-2*A:Nat):Int):=by omega
   have w2:=qam (n:=((k-2*A:Nat):Int)) (by omega) (by omega);have hlt:k-2*A<c.inputs.length:=by omega
   have hn:qbk c A k=c.inputs[k-2*A]:=by unfold qbk;rw[if_neg c1,if_pos c2,jA hlt];rfl
   rw[hn];generalize k-2*A=j at *;simp[ir140,w1,c1',hf,c2',hsub,w2,hlt]
  .have c2':¬((k:Int)<2*(A:Int)+(c.inputs.length:Int)):=by omega
   have hsub:(k:Int)-(2*(A:Int)+(c.inputs.length:Int))=((k-(2*A+c.inputs.length):Nat):Int):=by omega
   have w2:=qam (n:=((k-(2*A+c.inputs.length):Nat):Int)) (by omega) (by omega);have hlt:k-(2*A+c.inputs.length)<c.signals.length:=by omega
   have hn:qbk c A k=c.signals[k-(2*A+c.inputs.length)].name:=by unfold qbk;rw[if_neg c1,if_neg c2,jA hlt];rfl
   rw[hn];generalize k-(2*A+c.inputs.length)=j at *;simp[qaa,exT,qag,ir140,w1,c1',hf,c2',hsub,w2,hlt]
theorem ev123{c:Ct}{A:Nat}(h:Mid c A)(k:Nat)(hk:k<qac c A):ev pg (.call (fnq 123) [c.v,num k] [])=some (rvq (.str (qbk c A k))):=by
 have hf:=ev161 h;obtain⟨hA,h1,h2,h3,h4⟩:=h;have hk':k<2*A+c.inputs.length+c.signals.length:=hk;have w1:=qam (n:=2*c.act) (by omega) (by omega);rw[qab,pg123.1];by_cases c1:k<2*A
 .have c1':(k:Int)<2*c.act:=by omega
  obtain⟨q,hq⟩:∃q,q=k / 2:=⟨_,rfl⟩
  obtain⟨r,hr⟩:∃r,r=k % 2:=⟨_,rfl⟩
  have hq6:q<6:=by omega
  have hr2:r<2:=by omega
  have t1:(k:Int).tdiv 2=(q:Int):=by rw[hq];rfl
  have t2:(k:Int).tmod 2=(r:Int):=by rw[hr];rfl
  have w2:=qam (n:=(q:Int)) (by omega) (by omega);have w3:=qam (n:=97+(q:Int)) (by omega) (by omega);have w4:=qam (n:=48+(r:Int)) (by omega) (by omega);have w5:=zpo (n:=97+(q:Int)) (by omega) (by omega);have w6:=zpo (n:=48+(r:Int)) (by omega) (by omega);have hn:qbk c A k=[UInt8.ofNat (97+q),UInt8.ofNat (48+r)]:=by unfold qbk;rw[if_pos c1,hq,hr]
  have l1:=z1n hq6;have l2:=z1m hr2;rw[hn];simp[ir123,w1,c1',hf,t1,t2,w2,w3,w4,w5,w6,l1,l2]
 .have c1':¬((k:Int)<2*c.act):=by omega
  by_cases c2:k<2*A+c.inputs.length
  .have c2':(k:Int)<2*(A:Int)+(c.inputs.length:Int):=by omega
   have hsub:(k:Int)-2*c.act=((k-2*A:Nat):Int):=by omega
   have w2:=qam (n:=((k-2*A:Nat):Int)) (by omega) (by omega);have hlt:k-2*A<c.inputs.length:=by omega
   have hn:qbk c A k=c.inputs[k-2*A]:=by unfold qbk;rw[if_neg c1,if_pos c2,jA hlt];rfl
   rw[hn];generalize k-2*A=j at *;simp[ir123,w1,c1',hf,c2',hsub,w2,hlt]
  .have c2':¬((k:Int)<2*(A:Int)+(c.inputs.length:Int)):=by omega
   have hsub:(k:Int)-(2*(A:Int)+(c.inputs.length:Int))=((k-(2*A+c.inputs.length):Nat):Int):=by omega
   have w2:=qam (n:=((k-(2*A+c.inputs.length):Nat):Int)) (by omega) (by omega);have hlt:k-(2*A+c.inputs.length)<c.signals.length:=by omega
   have hn:qbk c A k=c.signals[k-(2*A+c.inputs.length)].name:=by unfold qbk;rw[if_neg c1,if_neg c2,jA hlt];rfl
   rw[hn];generalize k-(2*A+c.inputs.length)=j at *;simp[ir123,w1,c1',hf,c2',hsub,w2,hlt]
end Go.Proofs.YtggbaapfbgjaeaaGreatDoor
