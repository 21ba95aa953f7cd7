/- Pairs of states by the reference: Differs. -/
import Derived.Test.YtbepbclaoohngaaGreatCDt1
import Derived.Test.YtbepbclaoohngaaGreatCSa1
import Derived.KernelRfl
set_option linter.all false
namespace Go.Proofs.YtbepbclaoohngaaGreat
open Go Go.Am Go.Proofs
set_option maxRecDepth 100000
theorem q7f{c:Ct}{s:Ste}{x:Evn}(h:(qeb c s x).2.2≠0):(qeb c s x).1=zeroS:=by
 unfold qeb at h ⊢
 split
 .rfl
 .rename_i h1
  rw[if_neg h1]at h
  split
  .rename_i h2
   rw[if_pos h2]at h
   unfold qhg at h ⊢
   split
   .rename_i y hy;rw[hy]at h;exact absurd rfl h
   .rfl
  .rfl
theorem zcd{c:Ct}{s:Ste}{x:Evn}(hr:Rdy c s)(h:(qeb c s x).2.2=0):Lie c (qeb c s x).1:=by
 unfold qeb at h ⊢
 split at h
 .cases h
 .rename_i h1
  rw[if_neg h1]
  split at h
  .rename_i h2
   rw[if_pos h2]
   exact(qxq ⟨hr.few,qge hr.st h1 h2⟩ h).1
  .cases h
theorem q5y{c:Ct}{s:Ste}{x:Evn}(hc:c.small=true)(h:(qhs c s x).2.2=0):Lie c (qhs c s x).1:=by
 unfold qhs at h ⊢
 split at h
 .rename_i hq;rw[if_pos hq];exact zcd (q2w hc hq) h
 .rename_i hq;exact absurd h hq
theorem qoo:zeroS.small:=⟨by simp[zeroS],by simp[zeroS],by simp[zeroS],by simp[zeroS],by simp[zeroS]⟩
theorem q8r{c:Ct}(h:(qcr c).2.2≠0):(qcr c).1=zeroS:=by
 unfold qcr at h ⊢
 split
 .rename_i hq
  rw[if_pos hq]at h
  unfold qhg at h ⊢
  split
  .rename_i y hy;rw[hy]at h;exact absurd rfl h
  .rfl
 .rfl
theorem q0w{c:Ct}(h:(qcr c).2.2=0):c.check=0:=by
 unfold qcr at h
 split at h
 .assumption
 .exact h
theorem Lie.next1{c:Ct}{s:Ste}(h:Lie c s)(x:Evn):qhs c s x=qeb c s x:=by
 unfold qhs;rw[if_pos h.quE]
theorem Lie.events{c:Ct}{s:Ste}(h:Lie c s):qmm c s=(qdn s,0):=by
 unfold qmm;rw[if_pos h.quE]
structure Wld(w:Ct×Ct):Prop extends WS w where
 cg:w.1.check=0
 cb:w.2.check=0
 act:w.2.act=w.1.act
 inp:w.2.inputs=w.1.inputs
theorem qsv{c:Ct}(hs:c.small=true){k i:Int}(h:qkh c k i=0):Wld (c,qpi c k i)/\ofW c k i=(c,qpi c k i):=by
 refine⟨?_,by unfold ofW;rw[if_pos h]⟩
 have h0:=h
 unfold qkh at h
 split at h
 .rename_i hf
  split at h
  .rename_i hd
   have hD:qpi c k i=(qdd c k i).d:=by unfold qpi;rw[if_pos h0]
   obtain⟨a,b⟩:=q7q c k i
   refine⟨⟨hs,zhr hs k i⟩,?_,by rw[hD];exact hd,by rw[hD];exact a,by rw[hD];exact b⟩
   have:=hf
   unfold q1x at this
   split at this
   .assumption
   .exact this
  .cases h
 .rename_i hf;exact absurd h hf
structure LieP(w:Ct×Ct)(p:Ste×Ste):Prop where
 g:Lie w.1 p.1
 b:Lie w.2 p.2
theorem LieP.small{w:Ct×Ct}{p:Ste×Ste}(h:LieP w p):PS p:=⟨h.g.rdy.small,h.b.rdy.small⟩
theorem quj{w:Ct×Ct}(hw:WS w):PS (qcn w).1:=by
 unfold qcn
 split
 .exact⟨(quk _ hw.g).1,(quk _ hw.b).1⟩
 .exact⟨qoo,qoo⟩
theorem qyz{w:Ct×Ct}(hw:WS w){p:Ste×Ste}{x:Evn}:PS (qsc w p x).1:=by
 unfold qsc
 split
 .exact⟨qwy hw.g _ _,qwy hw.b _ _⟩
 .exact⟨qoo,qoo⟩
theorem qon{w:Ct×Ct}(hw:WS w)(h:(qcn w).2.2=0)(hr:(qcn w).2.1=true):LieP w (qcn w).1:=by
 unfold qcn at h hr ⊢
 split at h
 .rename_i h1
  rw[if_pos h1]at hr ⊢
  simp only[beq_iff_eq]at hr
  exact⟨q0x hw.g (q0w h1) h1,q0x hw.b (q0w hr) hr⟩
 .rename_i h1;exact absurd h h1
theorem q1n{w:Ct×Ct}(hw:WS w){p:Ste×Ste}{x:Evn}(h:(qsc w p x).2.2=0)(hr:(qsc w p x).2.1=true):LieP w (qsc w p x).1:=by
 unfold qsc at h hr ⊢
 split at h
 .rename_i h1
  rw[if_pos h1]at hr ⊢
  simp only[beq_iff_eq]at hr
  exact⟨q5y hw.g h1,q5y hw.b hr⟩
 .rename_i h1;exact absurd h h1
def zps(p:Ste×Ste):Bool:=!decide (p.1.ends=p.2.ends)||(!decide (p.1.inputs=p.2.inputs) || !decide (qdn p.1=qdn p.2))
theorem LieP.dif{w:Ct×Ct}{p:Ste×Ste}(h:LieP w p):difP w p=zps p:=by
 unfold difP zps qoq
 rw[h.g.events,h.b.events]
theorem zaz{s:Ste}:∀x∈qdn s,x.val=false:=by
 intro x hx
 unfold qdn at hx
 rcases jQ.1 hx with hx | hx<;>obtain⟨i,_,rfl⟩:=List.mem_map.1 hx<;>rfl
def qii(w:Ct×Ct):List Evn->(Ste×Ste)->Nat->Int×Bool×Int
 | [],_,k=>(k,false,0)
 | x :: l,p,k=>if(qsc w p x).2.2=0 then(if(!(qsc w p x).2.1||difP w (qsc w p x).1)=true then((k:Int)+1,true,0)else qii w l (qsc w p x).1 (k+1))else(0,false,(qsc w p x).2.2)
def q3g(c:Ct)(k i:Int)(l:List Evn):Int×Bool×Int :=
 if qkh c k i=0 then
  (if(qcn (c,qpi c k i)).2.2=0 then(if 4096<l.length then(0,false,5)else if(!(qcn (c,qpi c k i)).2.1||difP (c,qpi c k i) (qcn (c,qpi c k i)).1)=true then(0,true,0)else qii (c,qpi c k i) l (qcn (c,qpi c k i)).1 0)
  else(0,false,(qcn (c,qpi c k i)).2.2))
 else(0,false,qkh c k i)
set_option maxHeartbeats 4000000
theorem ev69(c:Ct)(s:Ste)(hc:c.small=true)(hs:s.small)(x:Evn):ev pg (.call (.fn 69 [] []) [c.v,s.v,x.v] [])=some { v:=q7b (qhs c s x),st:=⟨[],[]⟩ }:=by
 have e1:=ev127 c s hc hs
 unfold qhs
 rw[qaa,pg69]
 by_cases h:quE c s=0
 .have e2:=ev62 (q2w hc h) x
  rw[h]at e1
  rw[if_pos h]
  unfold q7b at e2 ⊢
  generalize qeb c s x=y at *
  simp[ir69,e1,e2]
 .have hb:(quE c s==0)=false:=by simpa using h
  rw[if_neg h]
  generalize quE c s=e at *
  simp[ir69,e1,h,hb,zeroS]
theorem ev67(w:Ct×Ct)(hw:WS w):ev pg (.call (.fn 67 [] []) [w.1.v,w.2.v] [])=some { v:=zdu (qcn w),st:=⟨[],[]⟩ }:=by
 have e1:=ev60 w.1 hw.g
 have e2:=ev60 w.2 hw.b
 have hz:=@q8r w.2
 rw[qaa,pg67]
 unfold qcn
 unfold q7b at e1 e2
 by_cases h:(qcr w.1).2.2=0
 .rw[if_pos h]
  rw[h]at e1
  generalize qcr w.1=x at *
  by_cases h2:(qcr w.2).2.2=0
  .rw[h2]at e2
   generalize qcr w.2=y at *
   simp[ir67,e1,e2,h2]
  .have hb2:((qcr w.2).2.2==0)=false:=by simpa using h2
   have hz':=hz h2
   generalize qcr w.2=y at *
   simp[ir67,e1,e2,h2,hb2,hz',zeroS]
 .have hb:((qcr w.1).2.2==0)=false:=by simpa using h
  rw[if_neg h]
  generalize qcr w.1=x at *
  simp[ir67,e1,h,hb,zeroS]
theorem ev70_aux(w:Ct×Ct)(p:Ste×Ste)(x:Evn)(y z:Ste×List Int×Int)(hz:z.2.2≠0->z.1=zeroS)(e1:ev pg (.call (.fn 62 [] []) [w.1.v,p.1.v,x.v] [])=some { v:=q7b y,st:=⟨[],[]⟩ })(e2:ev pg (.call (.fn 62 [] []) [w.2.v,p.2.v,x.v] [])=some { v:=q7b z,st:=⟨[],[]⟩ }) :
  ev pg (.call (.fn 70 [] []) [w.1.v,w.2.v,.agg (qbw p),x.v] [])=some { v:=zdu (if y.2.2=0 then((y.1,z.1),z.2.2==0,0)else((zeroS,zeroS),false,y.2.2)),st:=⟨[],[]⟩ }:=by
 rw[qaa,pg70]
 unfold q7b at e1 e2
 by_cases h:y.2.2=0
 .rw[if_pos h]
  rw[h]at e1
  by_cases h2:z.2.2=0
  .rw[h2]at e2
   simp[ir70,e1,e2,h2]
  .have hb2:(z.2.2==0)=false:=by simpa using h2
   simp[ir70,e1,e2,h2,hb2,hz h2,zeroS]
 .have hb:(y.2.2==0)=false:=by simpa using h
  rw[if_neg h]
  simp[ir70,e1,h,hb,zeroS]
theorem ev70(w:Ct×Ct)(p:Ste×Ste)(hp:LieP w p)(x:Evn):ev pg (.call (.fn 70 [] []) [w.1.v,w.2.v,.agg (qbw p),x.v] [])=some { v:=zdu (qsc w p x),st:=⟨[],[]⟩ }:=by
 have:=ev70_aux w p x _ _ (@q7f w.2 p.2 x) (ev62 hp.g.rdy x) (ev62 hp.b.rdy x)
 unfold qsc
 rw[hp.g.next1,hp.b.next1]
 exact this
def zpl(l m:List Evn)(k:Nat):Tm:=[none,bN 0,some (.bool false),some (evs l),some (evs m),nN k]++zN 85
def zpm(l m:List Evn)(k:Nat):Tm:=[none,bN 0,some (.bool false),some (evs l),some (evs m),none,nN k]++zN 84
def zlc(l m:List Evn)(k:Nat):Tm:=[none,bN 0,some (.bool false),some (evs l),some (evs m),none,none,nN k]++zN 83
def zkr:Tm:=[none,none,some (.bool true)]++zN 88
theorem jev(p:Ste×Ste)(l m:List Evn)(hab:p.2.inputs.length=p.1.inputs.length)(ha:p.1.inputs.length<=100000){st:St}(h0:At (zpl l m 0) [⟨0,.box (qbw p)⟩] st) :
  ∃r,ev pg (.code (.going 1 L68_0) st)=some r/\qma p.1.inputs.length (fun k=>p.1.inputs[k]? != p.2.inputs[k]?) (fun _=>qas .ret zkr [⟨0,.box (qbw p)⟩]) (qas (.exit 0) (zpl l m p.1.inputs.length) [⟨0,.box (qbw p)⟩]) r:=by
 refine qce _ _ (zpl l m) _ _ _ ?_ ?_ ?_ h0
 .intro k f hf hk hp
  have hk':(k:Int)<p.1.inputs.length:=by omega
  have hkb:k<p.2.inputs.length:=by omega
  have wk:=qbb (k:=k) (by omega)
  have hb:p.1.inputs[k]=p.2.inputs[k]:=by simpa[hk,hkb]using hp
  simp[zpl,L68_0,hk,hk',hkb,hb,wk,hf.ne]
 .intro k f hf hk hp
  have hk':(k:Int)<p.1.inputs.length:=by omega
  have hkb:k<p.2.inputs.length:=by omega
  have hb:p.1.inputs[k]≠p.2.inputs[k]:=by simpa[hk,hkb]using hp
  have hb':(p.1.inputs[k]==p.2.inputs[k])=false:=by simpa using hb
  simp[zpl,zkr,L68_0,hk,hk',hkb,hb',hf.ne]
 .intro f hf
  simp[zpl,L68_0,hf.ne]
theorem jew(p:Ste×Ste)(l m:List Evn)(hab:p.2.ends.length=p.1.ends.length)(ha:p.1.ends.length<=100000){st:St}(h0:At (zpm l m 0) [⟨0,.box (qbw p)⟩] st) :
  ∃r,ev pg (.code (.going 1 L68_1) st)=some r/\qma p.1.ends.length (fun k=>p.1.ends[k]? != p.2.ends[k]?) (fun _=>qas .ret zkr [⟨0,.box (qbw p)⟩]) (qas (.exit 2) (zpm l m p.1.ends.length) [⟨0,.box (qbw p)⟩]) r:=by
 refine qce _ _ (zpm l m) _ _ _ ?_ ?_ ?_ h0
 .intro k f hf hk hp
  have hk':(k:Int)<p.1.ends.length:=by omega
  have hkb:k<p.2.ends.length:=by omega
  have wk:=qbb (k:=k) (by omega)
  have hb:p.1.ends[k]=p.2.ends[k]:=by simpa[hk,hkb]using hp
  simp[zpm,L68_1,hk,hk',hkb,hb,wk,hf.ne]
 .intro k f hf hk hp
  have hk':(k:Int)<p.1.ends.length:=by omega
  have hkb:k<p.2.ends.length:=by omega
  have hb:p.1.ends[k]≠p.2.ends[k]:=by simpa[hk,hkb]using hp
  have hb':(p.1.ends[k]==p.2.ends[k])=false:=by simpa using hb
  simp[zpm,zkr,L68_1,hk,hk',hkb,hb',hb,hf.ne]
 .intro f hf
  simp[zpm,L68_1,hf.ne]
theorem jex(p:Ste×Ste)(l m:List Evn)(hab:m.length=l.length)(ha:l.length<=100000){st:St}(h0:At (zlc l m 0) [⟨0,.box (qbw p)⟩] st) :
  ∃r,ev pg (.code (.going 1 L68_2) st)=some r/\qma l.length (fun k=>(l[k]?.map fun x=>(x.kind,x.idx)) != (m[k]?.map fun x=>(x.kind,x.idx))) (fun _=>qas .ret zkr [⟨0,.box (qbw p)⟩]) (qas (.exit 4) (zlc l m l.length) [⟨0,.box (qbw p)⟩]) r:=by
 refine qce _ _ (zlc l m) _ _ _ ?_ ?_ ?_ h0
 .intro k f hf hk hp
  have hk':(k:Int)<l.length:=by omega
  have hkb:k<m.length:=by omega
  have wk:=qbb (k:=k) (by omega)
  have hb:l[k].kind=m[k].kind/\l[k].idx=m[k].idx:=by simpa[hk,hkb]using hp
  simp[zlc,L68_2,hk,hk',hkb,hb.1,hb.2,wk,hf.ne]
 .intro k f hf hk hp
  have hk':(k:Int)<l.length:=by omega
  have hkb:k<m.length:=by omega
  have hb:¬(l[k].kind=m[k].kind/\l[k].idx=m[k].idx):=by simpa[hk,hkb]using hp
  by_cases h1:l[k].kind=m[k].kind
  .have h2:¬l[k].idx=m[k].idx:=fun h=>hb ⟨h1,h⟩
   have h2c:(l[k].idx != m[k].idx)=true:=by simpa[bne]using h2
   simp[zlc,zkr,L68_2,hk,hk',hkb,h1,h2c,hf.ne]
  .have h1b:(l[k].kind==m[k].kind)=false:=by simpa using h1
   have h1c:(l[k].kind != m[k].kind)=true:=by simpa[bne]using h1
   simp[zlc,zkr,L68_2,hk,hk',hkb,h1c,hf.ne]
 .intro f hf
  simp[zlc,L68_2,hf.ne]
theorem zwi{s t:Ste}(hl:(qdn t).length=(qdn s).length)(h:∀j,j<(qdn s).length->((qdn s)[j]?.map fun x=>(x.kind,x.idx))=((qdn t)[j]?.map fun x=>(x.kind,x.idx))):qdn s=qdn t:=by
 refine List.ext_getElem hl.symm fun k h1 h2=>?_
 have:=h k h1
 simp only[jA h1,jA h2,Option.map_some,jC,Prod.mk.injEq]at this
 exact Evn.ext' this.1 this.2 (by rw[zaz _ (jH h1),zaz _ (jH h2)])
theorem ev68(p:Ste×Ste)(hp:PS p)(hi:p.2.inputs.length=p.1.inputs.length)(he:p.2.ends.length=p.1.ends.length):ev pg (.call (.fn 68 [] []) [.agg (qbw p)] [])=some { v:=.bool (zps p),st:=⟨[],[]⟩ }:=by
 have e1:=ev120 p.1 hp.g
 have e2:=ev120 p.2 hp.b
 have hl:(qdn p.1).length<=8192:=by
  rw[qju,jF]
  have:=qfa 0 (qbn p.1 0) p.1.ends.length
  have:=qfa 1 (qbn p.1 1) p.1.timers.length
  have:=hp.g.e
  have:=hp.g.t
  omega
 have q1:=fun st=>jev p (qdn p.1) (qdn p.2) hi (by have:=hp.g.i;omega) (st:=st)
 have q2:=fun st=>jew p (qdn p.1) (qdn p.2) he (by have:=hp.g.e;omega) (st:=st)
 have q3:=fun hab st=>jex p (qdn p.1) (qdn p.2) hab (by omega) (st:=st)
 have hpe:=@zwi p.1 p.2
 rw[qaa,pg68]
 unfold zps
 generalize qdn p.1=l at *
 generalize qdn p.2=m at *
 by_cases hlen:m.length=l.length
 .have hlen':((m.length:Nat):Int)=l.length:=by omega
  simp[ir68,qab,exT,qak,e1,e2,hlen',qah]
  generalize hr:ev pg (.code (.going _ L68_0) _)=o
  obtain⟨r,rfl,hQ⟩:∃r,o=some r/\_:=by rw[<-hr];exact q1 _ (by simp[zpl])
  clear hr q1
  rcases hQ with⟨k,hk,hp1,-,f,hf,rfl⟩ | ⟨hp1,f,hf,rfl⟩
  .have:p.1.inputs≠p.2.inputs:=by intro e;rw[e]at hp1;simp at hp1
   simp[zkr,this]
  .have hin:p.1.inputs=p.2.inputs:=by
    refine List.ext_getElem hi.symm fun k h1 h2=>?_
    have:=hp1 k h1
    simpa[h1,h2]using this
   simp[zpl,hf.ne,qah]
   generalize hr:ev pg (.code (.going _ L68_1) _)=o
   obtain⟨r,rfl,hQ⟩:∃r,o=some r/\_:=by rw[<-hr];exact q2 _ (by simp[zpm,hf.ne])
   clear hr q2
   rcases hQ with⟨k,hk,hp2,-,f,hf,rfl⟩ | ⟨hp2,f,hf,rfl⟩
   .have:p.1.ends≠p.2.ends:=by intro e;rw[e]at hp2;simp at hp2
    simp[zkr,this]
   .have hen:p.1.ends=p.2.ends:=by
     refine List.ext_getElem he.symm fun k h1 h2=>?_
     have:=hp2 k h1
     simpa[h1,h2]using this
    simp[zpm,hf.ne,qah]
    generalize hr:ev pg (.code (.going _ L68_2) _)=o
    obtain⟨r,rfl,hQ⟩:∃r,o=some r/\_:=by rw[<-hr];exact q3 hlen _ (by simp[zlc,hf.ne])
    clear hr q3
    rcases hQ with⟨k,hk,hp3,-,f,hf,rfl⟩ | ⟨hp3,f,hf,rfl⟩
    .have:l≠m:=by intro e;rw[e]at hp3;simp at hp3
     simp[zkr,this]
    .have:l=m:=hpe hlen fun j hj=>by simpa using hp3 j hj
     simp[zlc,hin,hen,this]
 .have hlen':((l.length:Int) != (m.length:Int))=true:=by rw[bne_iff_ne];omega
  have hne:l≠m:=fun e=>hlen (by rw[e])
  simp[ir68,qab,exT,qak,e1,e2,hlen',hne]
theorem LieP.lens{w:Ct×Ct}(hw:Wld w){p:Ste×Ste}(h:LieP w p):p.2.inputs.length=p.1.inputs.length/\p.2.ends.length=p.1.ends.length:=by
 have a:=h.g.rdy.shp
 have b:=h.b.rdy.shp
 have a1:=a.i
 have a2:=a.e
 have b1:=b.i
 have b2:=b.e
 have:=hw.act
 rw[hw.inp]at b1
 exact⟨by omega,by omega⟩
end Go.Proofs.YtbepbclaoohngaaGreat
