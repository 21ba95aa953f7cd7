/- Pairs in lists: same, place; Same, Has. -/
import Derived.Test.YtbepbclaoohngaaGreatRu3
import Derived.Test.YtbepbclaoohngaaGreatLo2
import Derived.Test.YtbepbclaoohngaaGreatRn2
import Derived.Test.YtbepbclaoohngaaGreatZ7
import Derived.KernelRfl
import Derived.Test.YtbepbclaoohngaaGreatDe3
set_option linter.all false
namespace Go.Proofs.YtbepbclaoohngaaGreat
open Go Go.Am Go.Proofs
set_option maxRecDepth 100000
set_option maxHeartbeats 4000000
def q9l(a b:List Evn)(k:Nat):Tm:=[some (evs a),some (evs b),none,none,none,none,none,none,none,none,none,none,nN a.length,nN k]++zN 12
theorem jdh(a b:List Evn)(hab:b.length=a.length)(ha:a.length<=100000){st:St}(h0:At (q9l a b 0) [] st):∃r,ev pg (.code (.going 0 L46_0) st)=some r/\qvn a.length (fun k=>decide (a[k]?≠b[k]?)) (fun _=>qbn .ret q9k []) (qbn (.exit 0) (q9l a b a.length) []) r:=by
 refine qem _ _ (q9l a b) [] _ _ ?_ ?_ ?_ h0
 .intro k f hf hk hp
  have hk':(k:Int)<a.length:=by omega
  have hkb:k<b.length:=by omega
  have wk:=qbs (k:=k) (by omega)
  have hb:a[k]=b[k]:=by simpa[hk,hkb]using hp
  simp[qaa,exT,qak,q9l,L46_0,hk,hk',hkb,hb,wk,hf.ne]
 .intro k f hf hk hp
  have hk':(k:Int)<a.length:=by omega
  have hkb:k<b.length:=by omega
  have hb:a[k]≠b[k]:=by simpa[hk,hkb]using hp
  by_cases h1:a[k].kind=b[k].kind
  .by_cases h2:a[k].idx=b[k].idx
   .have h3:¬a[k].val=b[k].val:=fun h=>hb (Evn.ext' h1 h2 h)
    have h3b:(a[k].val==b[k].val)=false:=by simpa using h3
    simp[qaa,exT,qak,q9l,q9k,L46_0,hk,hk',hkb,h1,h2,h3,h3b,hf.ne]
   .have h2b:(a[k].idx==b[k].idx)=false:=by simpa using h2
    by_cases h3:a[k].val=b[k].val
    .simp[qaa,exT,qak,q9l,q9k,L46_0,hk,hk',hkb,h1,h2,h2b,h3,hf.ne]
    .have h3b:(a[k].val==b[k].val)=false:=by simpa using h3
     simp[qaa,exT,qak,q9l,q9k,L46_0,hk,hk',hkb,h1,h2,h2b,h3,h3b,hf.ne]
  .have h1b:(a[k].kind==b[k].kind)=false:=by simpa using h1
   by_cases h2:a[k].idx=b[k].idx
   .by_cases h3:a[k].val=b[k].val
    .simp[qaa,exT,qak,q9l,q9k,L46_0,hk,hk',hkb,h1,h1b,h2,h3,hf.ne]
    .have h3b:(a[k].val==b[k].val)=false:=by simpa using h3
     simp[qaa,exT,qak,q9l,q9k,L46_0,hk,hk',hkb,h1,h1b,h2,h3,h3b,hf.ne]
   .have h2b:(a[k].idx==b[k].idx)=false:=by simpa using h2
    by_cases h3:a[k].val=b[k].val
    .simp[qaa,exT,qak,q9l,q9k,L46_0,hk,hk',hkb,h1,h1b,h2,h2b,h3,hf.ne]
    .have h3b:(a[k].val==b[k].val)=false:=by simpa using h3
     simp[qaa,exT,qak,q9l,q9k,L46_0,hk,hk',hkb,h1,h1b,h2,h2b,h3,h3b,hf.ne]
 .intro f hf
  simp[q9l,L46_0,hf.ne]
theorem ev46(a b:List Evn)(ha:a.length<=100000):ev pg (.call (.fn 46 [] []) [evs a,evs b] [])=some { v:=.bool (decide (a=b)),st:=⟨[],[]⟩ }:=by
 rw[qab,pg46]
 by_cases hab:b.length=a.length
 .have hloop:=@jdh a b hab ha
  have hab':(b.length:Int)=a.length:=by omega
  simp[ir46,qam,hab']
  generalize hr:ev pg (.code (.going _ L46_0) _)=o
  obtain⟨r,rfl,hQ⟩:∃r,o=some r/\_:=by rw[<-hr];exact hloop (by simp[q9l])
  rcases hQ with⟨k,hk,hp,-,f,hf,rfl⟩ | ⟨hp,f,hf,rfl⟩
  .have:a≠b:=by rintro rfl;simp at hp
   simp[q9k,this]
  .have:a=b:=by
    refine List.ext_getElem hab.symm fun k h1 h2=>?_
    have:=hp k h1
    simpa[h1,h2]using this
   simp[q9l,this]
 .have hne:((a.length:Int) != (b.length:Int))=true:=by rw[bne_iff_ne];omega
  have:a≠b:=fun e=>hab (by rw[e])
  simp[ir46,hne,this]
abbrev qcj(p:Ste×Ste):List V:=[qes p.1.ends,qfi p.1.valves,qfi p.1.inputs,qfi p.1.values,qes p.1.timers,qes p.2.ends,qfi p.2.valves,qfi p.2.inputs,qfi p.2.values,qes p.2.timers]
abbrev qfy(w:Ct×Ct):List V:=[num w.1.act,.imm (w.1.inputs.map qoq),.imm (w.1.signals.map Sg.row),qes w.1.plus,qes w.1.minus,num w.2.act,.imm (w.2.inputs.map qoq),.imm (w.2.signals.map Sg.row),qes w.2.plus,qes w.2.minus]
structure WS(w:Ct×Ct):Prop where
 g:w.1.small=true
 b:w.2.small=true
structure PS(p:Ste×Ste):Prop where
 g:p.1.small
 b:p.2.small
def ofW(c:Ct)(k i:Int):Ct×Ct:=if qhs c k i=0 then(c,qio c k i)else(qzj,qzj)
theorem ev47(c:Ct)(hs:c.small=true)(k i:Int):ev pg (.call (.fn 47 [] []) [c.v,fv k i] [])=some { v:=.tup [.agg (qfy (ofW c k i)),num (qhs c k i)],st:=⟨[],[]⟩ }:=by
 have e38:=ev38 c hs k i
 rw[qab,pg47]
 unfold ofW
 by_cases h:qhs c k i=0
 .rw[h]at e38 ⊢
  generalize qio c k i=d at *
  simp[ir47,e38]
 .have hb:(qhs c k i==0)=false:=by simpa using h
  rw[if_neg h]
  generalize qio c k i=d at *
  generalize qhs c k i=e at *
  simp[ir47,e38,h,hb,qzj]
def qap(w:Ct×Ct):(Ste×Ste)×Bool×Int:=if(qcy w.1).2.2=0 then(((qcy w.1).1,(qcy w.2).1),(qcy w.2).2.2==0,0)else((zeroS,zeroS),false,(qcy w.1).2.2)
abbrev zru(x:(Ste×Ste)×Bool×Int):V:=.tup [.agg (qcj x.1),.bool x.2.1,num x.2.2]
theorem ev64(w:Ct×Ct)(hw:WS w):ev pg (.call (.fn 64 [] []) [.agg (qfy w)] [])=some { v:=zru (qap w),st:=⟨[],[]⟩ }:=by
 have e1:=ev39 w.1 hw.g
 have e2:=ev39 w.2 hw.b
 rw[qab,pg64]
 unfold qap
 unfold zwq at e1 e2
 generalize qcy w.2=y at *
 by_cases h:(qcy w.1).2.2=0
 .rw[if_pos h]
  rw[h]at e1
  generalize qcy w.1=x at *
  simp[ir64,e1,e2]
 .have hb:((qcy w.1).2.2==0)=false:=by simpa using h
  rw[if_neg h]
  generalize qcy w.1=x at *
  simp[ir64,e1,h,hb,zeroS]
def qfg(w:Ct×Ct)(p:Ste×Ste)(x:Evn):(Ste×Ste)×Bool×Int:=if(qjp w.1 p.1 x).2.2=0 then(((qjp w.1 p.1 x).1,(qjp w.2 p.2 x).1),(qjp w.2 p.2 x).2.2==0,0)else((zeroS,zeroS),false,(qjp w.1 p.1 x).2.2)
theorem ev66(w:Ct×Ct)(hw:WS w)(p:Ste×Ste)(hp:PS p)(x:Evn):ev pg (.call (.fn 66 [] []) [.agg (qfy w),.agg (qcj p),x.v] [])=some { v:=zru (qfg w p x),st:=⟨[],[]⟩ }:=by
 have e1:=ev57 w.1 p.1 hw.g hp.g x
 have e2:=ev57 w.2 p.2 hw.b hp.b x
 rw[qab,pg66]
 unfold qfg
 unfold zwq at e1 e2
 generalize qjp w.2 p.2 x=y at *
 by_cases h:(qjp w.1 p.1 x).2.2=0
 .rw[if_pos h]
  rw[h]at e1
  generalize qjp w.1 p.1 x=z at *
  simp[ir66,e1,e2]
 .have hb:((qjp w.1 p.1 x).2.2==0)=false:=by simpa using h
  rw[if_neg h]
  generalize qjp w.1 p.1 x=z at *
  simp[ir66,e1,h,hb,zeroS]
abbrev qor(c:Ct)(s:Ste):List Evn:=(qec c s).1
theorem ev126(c:Ct)(s:Ste)(hc:c.small=true)(hs:s.small):ev pg (.call (.fn 126 [] []) [c.v,s.v] [])=some { v:=evs (qor c s),st:=⟨[],[]⟩ }:=by
 have e:=ev132 c s hc hs
 rw[qab,pg126]
 unfold qor
 generalize qec c s=x at *
 simp[ir126,e]
theorem q7b(c:Ct)(s:Ste)(hs:s.small):(qor c s).length<=8192:=by
 unfold qor qec
 split
 .rw[zbq,jF]
  have:=qrs 0 (qdg s 0) s.ends.length
  have:=qrs 1 (qdg s 1) s.timers.length
  have:=hs.e
  have:=hs.t
  omega
 .simp
def difP(w:Ct×Ct)(p:Ste×Ste):Bool:=!decide (p.1.ends=p.2.ends)||(!decide (p.1.inputs=p.2.inputs) || !decide (qor w.1 p.1=qor w.2 p.2))
theorem ev65(w:Ct×Ct)(hw:WS w)(p:Ste×Ste)(hp:PS p):ev pg (.call (.fn 65 [] []) [.agg (qfy w),.agg (qcj p)] [])=some { v:=.bool (difP w p),st:=⟨[],[]⟩ }:=by
 have e1:=ev124 p.1.ends p.2.ends hp.g.e
 have e2:=ev125 p.1.inputs p.2.inputs hp.g.i
 have e3:=ev126 w.1 p.1 hw.g hp.g
 have e4:=ev126 w.2 p.2 hw.b hp.b
 have e5:=ev46 (qor w.1 p.1) (qor w.2 p.2) (by have:=q7b w.1 p.1 hp.g;omega)
 rw[qab,pg65]
 unfold difP
 generalize qor w.1 p.1=l1 at *
 generalize qor w.2 p.2=l2 at *
 generalize decide (p.1.ends=p.2.ends)=d1 at *
 generalize decide (p.1.inputs=p.2.inputs)=d2 at *
 cases d1
 .simp[ir65,qaa,exT,qak,e1]
 .cases d2
  .simp[ir65,qaa,exT,qak,e1,e2]
  .simp[ir65,qaa,exT,qak,e1,e2,e3,e4,e5]
theorem zcp{c:Ct}{s:Ste}{x:Evn}(hr:Rdy c s)(h:(qbk c s x).2.2=0):Lie c (qbk c s x).1:=by
 unfold qbk at h ⊢
 split at h
 .cases h
 .rename_i h1
  rw[if_neg h1]
  split at h
  .rename_i h2
   rw[if_pos h2]
   exact(qxw ⟨hr.few,qhb hr.st h1 h2⟩ h).1
  .cases h
theorem q5y{c:Ct}{s:Ste}{x:Evn}(hc:c.small=true)(h:(qjp c s x).2.2=0):Lie c (qjp c s x).1:=by
 unfold qjp at h ⊢
 split at h
 .rename_i hq;rw[if_pos hq];exact zcp (q3a hc hq) h
 .rename_i hq;exact absurd h hq
theorem qon:zeroS.small:=⟨by simp[zeroS],by simp[zeroS],by simp[zeroS],by simp[zeroS],by simp[zeroS]⟩
theorem q1f{c:Ct}(h:(qcy c).2.2=0):c.check=0:=by
 unfold qcy at h
 split at h
 .assumption
 .exact h
theorem Lie.next1{c:Ct}{s:Ste}(h:Lie c s)(x:Evn):qjp c s x=qbk c s x:=by
 unfold qjp;rw[if_pos h.quE]
theorem Lie.events{c:Ct}{s:Ste}(h:Lie c s):qec c s=(qop s,0):=by
 unfold qec;rw[if_pos h.quE]
structure Wld(w:Ct×Ct):Prop extends WS w where
 cg:w.1.check=0
 cb:w.2.check=0
 act:w.2.act=w.1.act
 inp:w.2.inputs=w.1.inputs
theorem qmr{c:Ct}(hs:c.small=true){k i:Int}(h:qhs c k i=0):Wld (c,qio c k i)/\ofW c k i=(c,qio c k i):=by
 refine⟨?_,by unfold ofW;rw[if_pos h]⟩
 have h0:=h
 unfold qhs at h
 split at h
 .rename_i hf
  split at h
  .rename_i hd
   have hD:qio c k i=(qcq c k i).d:=by unfold qio;rw[if_pos h0]
   obtain⟨a,b⟩:=q7y c k i
   refine⟨⟨hs,zid hs k i⟩,?_,by rw[hD];exact hd,by rw[hD];exact a,by rw[hD];exact b⟩
   have:=hf
   unfold qtv at this
   split at this
   .assumption
   .exact this
  .cases h
 .rename_i hf;exact absurd h hf
structure LieP(w:Ct×Ct)(p:Ste×Ste):Prop where
 g:Lie w.1 p.1
 b:Lie w.2 p.2
theorem LieP.small{w:Ct×Ct}{p:Ste×Ste}(h:LieP w p):PS p:=⟨h.g.rdy.small,h.b.rdy.small⟩
theorem qni{w:Ct×Ct}(hw:WS w):PS (qap w).1:=by
 unfold qap
 split
 .exact⟨(qum _ hw.g).1,(qum _ hw.b).1⟩
 .exact⟨qon,qon⟩
theorem qsi{w:Ct×Ct}(hw:WS w){p:Ste×Ste}{x:Evn}:PS (qfg w p x).1:=by
 unfold qfg
 split
 .exact⟨qxf hw.g _ _,qxf hw.b _ _⟩
 .exact⟨qon,qon⟩
theorem qtk{w:Ct×Ct}(hw:WS w)(h:(qap w).2.2=0)(hr:(qap w).2.1=true):LieP w (qap w).1:=by
 unfold qap at h hr ⊢
 split at h
 .rename_i h1
  rw[if_pos h1]at hr ⊢
  simp only[beq_iff_eq]at hr
  exact⟨q1g hw.g (q1f h1) h1,q1g hw.b (q1f hr) hr⟩
 .rename_i h1;exact absurd h h1
theorem q9p{w:Ct×Ct}(hw:WS w){p:Ste×Ste}{x:Evn}(h:(qfg w p x).2.2=0)(hr:(qfg w p x).2.1=true):LieP w (qfg w p x).1:=by
 unfold qfg at h hr ⊢
 split at h
 .rename_i h1
  rw[if_pos h1]at hr ⊢
  simp only[beq_iff_eq]at hr
  exact⟨q5y hw.g h1,q5y hw.b hr⟩
 .rename_i h1;exact absurd h h1
def jef(p:Ste×Ste):Bool:=!decide (p.1.ends=p.2.ends)||(!decide (p.1.inputs=p.2.inputs) || !decide (qop p.1=qop p.2))
theorem LieP.dif{w:Ct×Ct}{p:Ste×Ste}(h:LieP w p):difP w p=jef p:=by
 unfold difP jef qor
 rw[h.g.events,h.b.events]
def qfh(w:Ct×Ct):List Evn->(Ste×Ste)->Nat->Int×Bool×Int
 | [],_,k=>(k,false,0)
 | x :: l,p,k=>if(qfg w p x).2.2=0 then(if(!(qfg w p x).2.1||difP w (qfg w p x).1)=true then((k:Int)+1,true,0)else qfh w l (qfg w p x).1 (k+1))else(0,false,(qfg w p x).2.2)
def q6r(c:Ct)(k i:Int)(l:List Evn):Int×Bool×Int :=
 if qhs c k i=0 then
  (if(qap (c,qio c k i)).2.2=0 then(if 4096<l.length then(0,false,5)else if(!(qap (c,qio c k i)).2.1||difP (c,qio c k i) (qap (c,qio c k i)).1)=true then(0,true,0)else qfh (c,qio c k i) l (qap (c,qio c k i)).1 0)
  else(0,false,(qap (c,qio c k i)).2.2))
 else(0,false,qhs c k i)
theorem LieP.lens{w:Ct×Ct}(hw:Wld w){p:Ste×Ste}(h:LieP w p):p.2.inputs.length=p.1.inputs.length/\p.2.ends.length=p.1.ends.length:=by
 have a:=h.g.rdy.shp
 have b:=h.b.rdy.shp
 have a1:=a.i
 have a2:=a.e
 have b1:=b.i
 have b2:=b.e
 have:=hw.act
 rw[hw.inp]at b1
 exact⟨by omega,by omega⟩
def plB(p q:Ste×Ste):Bool:=qks p.1 q.1&&qks p.2 q.2
theorem zjx{p q:Ste×Ste}:plB p q=true<->p=q:=by
 obtain⟨a,b⟩:=p
 obtain⟨c,d⟩:=q
 simp[plB,qhz]
def qzu(L:List (Ste×Ste))(p:Ste×Ste):Bool:=L.any (plB p)
theorem qnu{L:List (Ste×Ste)}{p:Ste×Ste}:qzu L p=true<->p∈L:=by
 unfold qzu
 rw[List.any_eq_true]
 constructor
 .rintro⟨q,hq,e⟩;rw[zjx.1 e];exact hq
 .intro h;exact⟨p,h,zjx.2 rfl⟩
abbrev prs(L:List (Ste×Ste)):V:=.imm (L.map qcj)
theorem ev135(p q:Ste×Ste)(hp:PS p):ev pg (.call (.fn 135 [] []) [.agg (qcj p),.agg (qcj q)] [])=some { v:=.bool (plB p q),st:=⟨[],[]⟩ }:=by
 have e1:=ev149 p.1 q.1 hp.g
 have e2:=ev149 p.2 q.2 hp.b
 rw[qab,pg135]
 unfold plB
 cases h1:qks p.1 q.1<;>rw[h1]at e1
 .simp[ir135,e1]
 .simp[ir135,e1,e2]
theorem ev134(p q:Ste×Ste)(hp:PS p):ev pg (.call (.fn 134 [] [.bptr 0 0]) [.agg (qcj q)] [⟨0,.box (qcj p)⟩])=some { v:=.bool (plB p q),st:=⟨[],[⟨0,.box (qcj p)⟩]⟩ }:=by
 have e1:=ev135 p q hp
 rw[qab,pg134]
 generalize plB p q=b at *
 simp[ir134,e1]
def qrf(L:List (Ste×Ste))(p:Ste×Ste):Int:=if qzu L p=true then(L.findIdx (plB p):Nat)else -1
def zpy(L:List (Ste×Ste))(k:Nat):Tm:=[some (prs L),some (.fn 134 [] [.bptr 0 0]),none,none,nN 0,none,some (prs L),nN L.length,nN k]++zN 10
def zso(k:Nat):Tm:=[none,none,none,none,nN k]++zN 14
theorem jcy(L:List (Ste×Ste))(hL:L.length<=100000)(p:Ste×Ste)(hp:PS p){st:St}(h0:At (zpy L 0) [⟨0,.box (qcj p)⟩] st) :
  ∃r,ev pg (.code (.going 1 L133_0) st)=some r/\qvn L.length (fun k=>(L[k]?.map (plB p)).getD false) (fun k=>qbn .ret (zso k) [⟨0,.box (qcj p)⟩]) (qbn (.exit 0) (zpy L L.length) [⟨0,.box (qcj p)⟩]) r:=by
 refine qem _ _ (zpy L) _ _ _ ?_ ?_ ?_ h0
 .intro k f hf hk hb
  have hk':(k:Int)<L.length:=by omega
  have wk:=qbs (k:=k) (by omega)
  have e1:=ev134 p L[k] hp
  have hb':plB p L[k]=false:=by simpa[hk]using hb
  rw[hb']at e1
  simp[zpy,L133_0,hk,hk',e1,wk,hf.ne]
 .intro k f hf hk hb
  have hk':(k:Int)<L.length:=by omega
  have e1:=ev134 p L[k] hp
  have hb':plB p L[k]=true:=by simpa[hk]using hb
  rw[hb']at e1
  simp[zpy,zso,L133_0,hk,hk',e1,hf.ne]
 .intro f hf
  simp[zpy,L133_0,hf.ne]
theorem ev75(L:List (Ste×Ste))(hL:L.length<=100000)(p:Ste×Ste)(hp:PS p):ev pg (.call (.fn 75 [] []) [prs L,.agg (qcj p)] [])=some { v:=num (qrf L p),st:=⟨[],[]⟩ }:=by
 have e1:ev pg (.call (.fn 133 [] []) [prs L,.fn 134 [] [.bptr 0 0]] [⟨0,.box (qcj p)⟩])=some { v:=num (qrf L p),st:=⟨[],[⟨0,.box (qcj p)⟩]⟩ }:=by
  have hlp:=fun st=>jcy L hL p hp (st:=st)
  rw[qab,pg133]
  simp[ir133,qam]
  generalize hr:ev pg (.code (.going _ L133_0) _)=o
  obtain⟨r,rfl,hQ⟩:∃r,o=some r/\_:=by rw[<-hr];exact hlp _ (by simp[zpy])
  clear hr hlp
  unfold qrf
  rcases hQ with⟨k,hk,hb,hbf,f,hf,rfl⟩ | ⟨hb,f,hf,rfl⟩
  .have hbk:plB p L[k]=true:=by simpa[hk]using hb
   have hin:qzu L p=true:=List.any_eq_true.2 ⟨L[k],jH hk,hbk⟩
   have hfi:L.findIdx (plB p)=k:=by
    rw[List.findIdx_eq hk]
    refine⟨hbk,fun j hj=>?_⟩
    have:=hbf j hj
    simpa[show j<L.length by omega]using this
   rw[if_pos hin,hfi]
   simp[zso]
  .have hno:qzu L p=false:=by
    rw[Bool.eq_false_iff]
    intro h
    obtain⟨q,hq,e⟩:=List.any_eq_true.1 h
    obtain⟨j,hj,rfl⟩:=List.mem_iff_getElem.1 hq
    have:=hb j hj
    simp only[jA hj]at this
    simp[e]at this
   simp[zpy,hno]
 rw[qab,pg75]
 generalize qrf L p=n at *
 simp[ir75,e1]
theorem qsx(L:List (Ste×Ste))(p:Ste×Ste):(decide (0<=qrf L p))=qzu L p:=by
 unfold qrf
 cases h:qzu L p with
 | true=>simp
 | false=>simp
end Go.Proofs.YtbepbclaoohngaaGreat
