/- Pairs of states by the reference: Differs. -/
import Derived.Test.YtbepbclaoohngaaGreatVHd1
import Derived.Test.YtbepbclaoohngaaGreatVMy2
import Derived.Test.YtbepbclaoohngaaGreatVZ7
import Derived.Test.YtbepbclaoohngaaGreatVSa1
import Derived.KernelRfl
set_option linter.all false
namespace Go.Proofs.YtbepbclaoohngaaGreat
open Go Go.Am Go.Proofs
set_option maxRecDepth 100000
set_option maxHeartbeats 4000000
def q8h(a b:List Evn)(k:Nat):Tm:=[some (evs a),some (evs b),none,none,none,none,none,none,none,none,none,none,nN a.length,nN k]++zN 12
theorem jds(a b:List Evn)(hab:b.length=a.length)(ha:a.length<=100000){st:St}(h0:At (q8h a b 0) [] st):∃r,ev pg (.code (.going 0 L46_0) st)=some r/\qkt a.length (fun k=>decide (a[k]?≠b[k]?)) (fun _=>qaq .ret zke []) (qaq (.exit 0) (q8h a b a.length) []) r:=by
 refine qby _ _ (q8h a b) [] _ _ ?_ ?_ ?_ h0
 .intro k f hf hk hp
  have hk':(k:Int)<a.length:=by omega
  have hkb:k<b.length:=by omega
  have wk:=qbb (k:=k) (by omega)
  have hb:a[k]=b[k]:=by simpa[hk,hkb]using hp
  simp[qab,exT,qal,q8h,L46_0,hk,hk',hkb,hb,wk,hf.ne]
 .intro k f hf hk hp
  have hk':(k:Int)<a.length:=by omega
  have hkb:k<b.length:=by omega
  have hb:a[k]≠b[k]:=by simpa[hk,hkb]using hp
  by_cases h1:a[k].kind=b[k].kind
  .by_cases h2:a[k].idx=b[k].idx
   .have h3:¬a[k].val=b[k].val:=fun h=>hb (Evn.ext' h1 h2 h)
    have h3b:(a[k].val==b[k].val)=false:=by simpa using h3
    simp[qab,exT,qal,q8h,zke,L46_0,hk,hk',hkb,h1,h2,h3,h3b,hf.ne]
   .have h2b:(a[k].idx==b[k].idx)=false:=by simpa using h2
    by_cases h3:a[k].val=b[k].val
    .simp[qab,exT,qal,q8h,zke,L46_0,hk,hk',hkb,h1,h2,h2b,h3,hf.ne]
    .have h3b:(a[k].val==b[k].val)=false:=by simpa using h3
     simp[qab,exT,qal,q8h,zke,L46_0,hk,hk',hkb,h1,h2,h2b,h3,h3b,hf.ne]
  .have h1b:(a[k].kind==b[k].kind)=false:=by simpa using h1
   by_cases h2:a[k].idx=b[k].idx
   .by_cases h3:a[k].val=b[k].val
    .simp[qab,exT,qal,q8h,zke,L46_0,hk,hk',hkb,h1,h1b,h2,h3,hf.ne]
    .have h3b:(a[k].val==b[k].val)=false:=by simpa using h3
     simp[qab,exT,qal,q8h,zke,L46_0,hk,hk',hkb,h1,h1b,h2,h3,h3b,hf.ne]
   .have h2b:(a[k].idx==b[k].idx)=false:=by simpa using h2
    by_cases h3:a[k].val=b[k].val
    .simp[qab,exT,qal,q8h,zke,L46_0,hk,hk',hkb,h1,h1b,h2,h2b,h3,hf.ne]
    .have h3b:(a[k].val==b[k].val)=false:=by simpa using h3
     simp[qab,exT,qal,q8h,zke,L46_0,hk,hk',hkb,h1,h1b,h2,h2b,h3,h3b,hf.ne]
 .intro f hf
  simp[q8h,L46_0,hf.ne]
theorem ev46(a b:List Evn)(ha:a.length<=100000):ev pg (.call (.fn 46 [] []) [evs a,evs b] [])=some { v:=.bool (decide (a=b)),st:=⟨[],[]⟩ }:=by
 rw[qaa,pg46]
 by_cases hab:b.length=a.length
 .have hloop:=@jds a b hab ha
  have hab':(b.length:Int)=a.length:=by omega
  simp[ir46,qah,hab']
  generalize hr:ev pg (.code (.going _ L46_0) _)=o
  obtain⟨r,rfl,hQ⟩:∃r,o=some r/\_:=by rw[<-hr];exact hloop (by simp[q8h])
  rcases hQ with⟨k,hk,hp,-,f,hf,rfl⟩ | ⟨hp,f,hf,rfl⟩
  .have:a≠b:=by rintro rfl;simp at hp
   simp[zke,this]
  .have:a=b:=by
    refine List.ext_getElem hab.symm fun k h1 h2=>?_
    have:=hp k h1
    simpa[h1,h2]using this
   simp[q8h,this]
 .have hne:((a.length:Int) != (b.length:Int))=true:=by rw[bne_iff_ne];omega
  have:a≠b:=fun e=>hab (by rw[e])
  simp[ir46,hne,this]
abbrev qbw(p:Ste×Ste):List V:=[qeg p.1.ends,qdw p.1.valves,qdw p.1.inputs,qdw p.1.values,qeg p.1.timers,qeg p.2.ends,qdw p.2.valves,qdw p.2.inputs,qdw p.2.values,qeg p.2.timers]
abbrev qie(w:Ct×Ct):List V:=[num w.1.act,.imm (w.1.inputs.map qoe),.imm (w.1.signals.map Sg.row),qeg w.1.plus,qeg w.1.minus,num w.2.act,.imm (w.2.inputs.map qoe),.imm (w.2.signals.map Sg.row),qeg w.2.plus,qeg w.2.minus]
structure WS(w:Ct×Ct):Prop where
 g:w.1.small=true
 b:w.2.small=true
structure PS(p:Ste×Ste):Prop where
 g:p.1.small
 b:p.2.small
def ofW(c:Ct)(k i:Int):Ct×Ct:=if qoi c k i=0 then(c,q6c c k i)else(q6a,q6a)
theorem ev47(c:Ct)(hs:c.small=true)(k i:Int):ev pg (.call (.fn 47 [] []) [c.v,fv k i] [])=some { v:=.tup [.agg (qie (ofW c k i)),num (qoi c k i)],st:=⟨[],[]⟩ }:=by
 have e38:=ev38 c hs k i
 rw[qaa,pg47]
 unfold ofW
 by_cases h:qoi c k i=0
 .rw[h]at e38 ⊢
  generalize q6c c k i=d at *
  simp[ir47,e38]
 .have hb:(qoi c k i==0)=false:=by simpa using h
  rw[if_neg h]
  generalize q6c c k i=d at *
  generalize qoi c k i=e at *
  simp[ir47,e38,h,hb,q6a]
def qid(w:Ct×Ct):(Ste×Ste)×Bool×Int:=if(qde w.1).2.2=0 then(((qde w.1).1,(qde w.2).1),(qde w.2).2.2==0,0)else((zeroS,zeroS),false,(qde w.1).2.2)
abbrev znm(x:(Ste×Ste)×Bool×Int):V:=.tup [.agg (qbw x.1),.bool x.2.1,num x.2.2]
theorem ev64(w:Ct×Ct)(hw:WS w):ev pg (.call (.fn 64 [] []) [.agg (qie w)] [])=some { v:=znm (qid w),st:=⟨[],[]⟩ }:=by
 have e1:=ev39 w.1 hw.g
 have e2:=ev39 w.2 hw.b
 rw[qaa,pg64]
 unfold qid
 unfold zag at e1 e2
 generalize qde w.2=y at *
 by_cases h:(qde w.1).2.2=0
 .rw[if_pos h]
  rw[h]at e1
  generalize qde w.1=x at *
  simp[ir64,e1,e2]
 .have hb:((qde w.1).2.2==0)=false:=by simpa using h
  rw[if_neg h]
  generalize qde w.1=x at *
  simp[ir64,e1,h,hb,zeroS]
def quz(w:Ct×Ct)(p:Ste×Ste)(x:Evn):(Ste×Ste)×Bool×Int:=if(qlg w.1 p.1 x).2.2=0 then(((qlg w.1 p.1 x).1,(qlg w.2 p.2 x).1),(qlg w.2 p.2 x).2.2==0,0)else((zeroS,zeroS),false,(qlg w.1 p.1 x).2.2)
theorem ev66(w:Ct×Ct)(hw:WS w)(p:Ste×Ste)(hp:PS p)(x:Evn):ev pg (.call (.fn 66 [] []) [.agg (qie w),.agg (qbw p),x.v] [])=some { v:=znm (quz w p x),st:=⟨[],[]⟩ }:=by
 have e1:=ev57 w.1 p.1 hw.g hp.g x
 have e2:=ev57 w.2 p.2 hw.b hp.b x
 rw[qaa,pg66]
 unfold quz
 unfold zag at e1 e2
 generalize qlg w.2 p.2 x=y at *
 by_cases h:(qlg w.1 p.1 x).2.2=0
 .rw[if_pos h]
  rw[h]at e1
  generalize qlg w.1 p.1 x=z at *
  simp[ir66,e1,e2]
 .have hb:((qlg w.1 p.1 x).2.2==0)=false:=by simpa using h
  rw[if_neg h]
  generalize qlg w.1 p.1 x=z at *
  simp[ir66,e1,h,hb,zeroS]
abbrev qok(c:Ct)(s:Ste):List Evn:=(qcq c s).1
theorem ev126(c:Ct)(s:Ste)(hc:c.small=true)(hs:s.small):ev pg (.call (.fn 126 [] []) [c.v,s.v] [])=some { v:=evs (qok c s),st:=⟨[],[]⟩ }:=by
 have e:=ev132 c s hc hs
 rw[qaa,pg126]
 unfold qok
 generalize qcq c s=x at *
 simp[ir126,e]
theorem qxr(c:Ct)(s:Ste)(hs:s.small):(qok c s).length<=8192:=by
 unfold qok qcq
 split
 .rw[qjp,jF]
  have:=qez 0 (qbm s 0) s.ends.length
  have:=qez 1 (qbm s 1) s.timers.length
  have:=hs.e
  have:=hs.t
  omega
 .simp
def zwn(w:Ct×Ct)(p:Ste×Ste):Bool:=!decide (p.1.ends=p.2.ends)||(!decide (p.1.inputs=p.2.inputs) || !decide (qok w.1 p.1=qok w.2 p.2))
theorem ev65(w:Ct×Ct)(hw:WS w)(p:Ste×Ste)(hp:PS p):ev pg (.call (.fn 65 [] []) [.agg (qie w),.agg (qbw p)] [])=some { v:=.bool (zwn w p),st:=⟨[],[]⟩ }:=by
 have e1:=ev124 p.1.ends p.2.ends hp.g.e
 have e2:=ev125 p.1.inputs p.2.inputs hp.g.i
 have e3:=ev126 w.1 p.1 hw.g hp.g
 have e4:=ev126 w.2 p.2 hw.b hp.b
 have e5:=ev46 (qok w.1 p.1) (qok w.2 p.2) (by have:=qxr w.1 p.1 hp.g;omega)
 rw[qaa,pg65]
 unfold zwn
 generalize qok w.1 p.1=l1 at *
 generalize qok w.2 p.2=l2 at *
 generalize decide (p.1.ends=p.2.ends)=d1 at *
 generalize decide (p.1.inputs=p.2.inputs)=d2 at *
 cases d1
 .simp[ir65,qab,exT,qal,e1]
 .cases d2
  .simp[ir65,qab,exT,qal,e1,e2]
  .simp[ir65,qab,exT,qal,e1,e2,e3,e4,e5]
theorem zvn{c:Ct}{s:Ste}(hc:c.small=true)(h:quE c s=0):Lie c s:=by
 have hr:=q7n hc h
 refine⟨hr,?_⟩
 unfold quE at h
 rw[if_pos hr.st]at h
 split at h
 .rename_i hb
  unfold qrh at hb
  cases hz:qce c s with
  | none=>rw[hz]at hb;simp at hb
  | some x =>
   rw[hz]at hb
   obtain⟨t,a⟩:=x
   have:s=t:=qgm.1 (by simpa using hb)
   exact⟨a,by rw[<-this]⟩
 .cases h
theorem q6i{c:Ct}{s:Ste}{x:Evn}(h:(qdy c s x).2.2≠0):(qdy c s x).1=zeroS:=by
 unfold qdy at h ⊢
 split
 .rfl
 .rename_i h1
  rw[if_neg h1]at h
  split
  .rename_i h2
   rw[if_pos h2]at h
   unfold qhd at h ⊢
   split
   .rename_i y hy;rw[hy]at h;exact absurd rfl h
   .rfl
  .rfl
theorem qog:zeroS.small:=⟨by simp[zeroS],by simp[zeroS],by simp[zeroS],by simp[zeroS],by simp[zeroS]⟩
theorem q7y{c:Ct}(h:(qde c).2.2≠0):(qde c).1=zeroS:=by
 unfold qde at h ⊢
 split
 .rename_i hq
  rw[if_pos hq]at h
  unfold qhd at h ⊢
  split
  .rename_i y hy;rw[hy]at h;exact absurd rfl h
  .rfl
 .rfl
theorem Lie.next1{c:Ct}{s:Ste}(h:Lie c s)(x:Evn):qlg c s x=qdy c s x:=by
 unfold qlg;rw[if_pos h.quE]
theorem Lie.events{c:Ct}{s:Ste}(h:Lie c s):qcq c s=(qdg s,0):=by
 unfold qcq;rw[if_pos h.quE]
structure Wld(w:Ct×Ct):Prop extends WS w where
 cg:w.1.check=0
 cb:w.2.check=0
 act:w.2.act=w.1.act
 inp:w.2.inputs=w.1.inputs
theorem q7j{c:Ct}(hs:c.small=true){k i:Int}(h:qoi c k i=0):Wld (c,q6c c k i)/\ofW c k i=(c,q6c c k i):=by
 refine⟨?_,by unfold ofW;rw[if_pos h]⟩
 have h0:=h
 unfold qoi at h
 split at h
 .rename_i hf
  split at h
  .rename_i hd
   have hD:q6c c k i=(qda c k i).d:=by unfold q6c;rw[if_pos h0]
   obtain⟨a,b⟩:=q6u c k i
   refine⟨⟨hs,zgw hs k i⟩,?_,by rw[hD];exact hd,by rw[hD];exact a,by rw[hD];exact b⟩
   have:=hf
   unfold q0z at this
   split at this
   .assumption
   .exact this
  .cases h
 .rename_i hf;exact absurd h hf
structure LieP(w:Ct×Ct)(p:Ste×Ste):Prop where
 g:Lie w.1 p.1
 b:Lie w.2 p.2
theorem LieP.small{w:Ct×Ct}{p:Ste×Ste}(h:LieP w p):PS p:=⟨h.g.rdy.small,h.b.rdy.small⟩
theorem q5t{w:Ct×Ct}(hw:WS w):PS (qid w).1:=by
 unfold qid
 split
 .exact⟨(qtw _ hw.g).1,(qtw _ hw.b).1⟩
 .exact⟨qog,qog⟩
theorem zbn{w:Ct×Ct}(hw:WS w){p:Ste×Ste}{x:Evn}:PS (quz w p x).1:=by
 unfold quz
 split
 .exact⟨qwl hw.g _ _,qwl hw.b _ _⟩
 .exact⟨qog,qog⟩
def zyc(p:Ste×Ste):Bool:=!decide (p.1.ends=p.2.ends)||(!decide (p.1.inputs=p.2.inputs) || !decide (qdg p.1=qdg p.2))
theorem LieP.dif{w:Ct×Ct}{p:Ste×Ste}(h:LieP w p):zwn w p=zyc p:=by
 unfold zwn zyc qok
 rw[h.g.events,h.b.events]
theorem zai{s:Ste}:∀x∈qdg s,x.val=false:=by
 intro x hx
 unfold qdg at hx
 rcases jQ.1 hx with hx | hx<;>obtain⟨i,_,rfl⟩:=List.mem_map.1 hx<;>rfl
theorem ev67(w:Ct×Ct)(hw:WS w):ev pg (.call (.fn 67 [] []) [w.1.v,w.2.v] [])=some { v:=znm (qid w),st:=⟨[],[]⟩ }:=by
 have e1:=ev60 w.1 hw.g
 have e2:=ev60 w.2 hw.b
 have hz:=@q7y w.2
 rw[qaa,pg67]
 unfold qid
 unfold zag at e1 e2
 by_cases h:(qde w.1).2.2=0
 .rw[if_pos h]
  rw[h]at e1
  generalize qde w.1=x at *
  by_cases h2:(qde w.2).2.2=0
  .rw[h2]at e2
   generalize qde w.2=y at *
   simp[ir67,e1,e2,h2]
  .have hb2:((qde w.2).2.2==0)=false:=by simpa using h2
   have hz':=hz h2
   generalize qde w.2=y at *
   simp[ir67,e1,e2,h2,hb2,hz',zeroS]
 .have hb:((qde w.1).2.2==0)=false:=by simpa using h
  rw[if_neg h]
  generalize qde w.1=x at *
  simp[ir67,e1,h,hb,zeroS]
theorem ev70_aux(w:Ct×Ct)(p:Ste×Ste)(x:Evn)(y z:Ste×List Int×Int)(hz:z.2.2≠0->z.1=zeroS)(e1:ev pg (.call (.fn 62 [] []) [w.1.v,p.1.v,x.v] [])=some { v:=zag y,st:=⟨[],[]⟩ })(e2:ev pg (.call (.fn 62 [] []) [w.2.v,p.2.v,x.v] [])=some { v:=zag z,st:=⟨[],[]⟩ }) :
  ev pg (.call (.fn 70 [] []) [w.1.v,w.2.v,.agg (qbw p),x.v] [])=some { v:=znm (if y.2.2=0 then((y.1,z.1),z.2.2==0,0)else((zeroS,zeroS),false,y.2.2)),st:=⟨[],[]⟩ }:=by
 rw[qaa,pg70]
 unfold zag at e1 e2
 by_cases h:y.2.2=0
 .rw[if_pos h]
  rw[h]at e1
  by_cases h2:z.2.2=0
  .rw[h2]at e2
   simp[ir70,e1,e2,h2]
  .have hb2:(z.2.2==0)=false:=by simpa using h2
   simp[ir70,e1,e2,h2,hb2,hz h2,zeroS]
 .have hb:(y.2.2==0)=false:=by simpa using h
  rw[if_neg h]
  simp[ir70,e1,h,hb,zeroS]
theorem ev70(w:Ct×Ct)(p:Ste×Ste)(hp:LieP w p)(x:Evn):ev pg (.call (.fn 70 [] []) [w.1.v,w.2.v,.agg (qbw p),x.v] [])=some { v:=znm (quz w p x),st:=⟨[],[]⟩ }:=by
 have:=ev70_aux w p x _ _ (@q6i w.2 p.2 x) (ev62 hp.g.rdy x) (ev62 hp.b.rdy x)
 unfold quz
 rw[hp.g.next1,hp.b.next1]
 exact this
def zoo(l m:List Evn)(k:Nat):Tm:=[none,bN 0,some (.bool false),some (evs l),some (evs m),nN k]++zN 85
def zop(l m:List Evn)(k:Nat):Tm:=[none,bN 0,some (.bool false),some (evs l),some (evs m),none,nN k]++zN 84
def zkg(l m:List Evn)(k:Nat):Tm:=[none,bN 0,some (.bool false),some (evs l),some (evs m),none,none,nN k]++zN 83
def zjv:Tm:=[none,none,some (.bool true)]++zN 88
theorem jdt(p:Ste×Ste)(l m:List Evn)(hab:p.2.inputs.length=p.1.inputs.length)(ha:p.1.inputs.length<=100000){st:St}(h0:At (zoo l m 0) [⟨0,.box (qbw p)⟩] st) :
  ∃r,ev pg (.code (.going 1 L68_0) st)=some r/\qkt p.1.inputs.length (fun k=>p.1.inputs[k]? != p.2.inputs[k]?) (fun _=>qaq .ret zjv [⟨0,.box (qbw p)⟩]) (qaq (.exit 0) (zoo l m p.1.inputs.length) [⟨0,.box (qbw p)⟩]) r:=by
 refine qby _ _ (zoo l m) _ _ _ ?_ ?_ ?_ h0
 .intro k f hf hk hp
  have hk':(k:Int)<p.1.inputs.length:=by omega
  have hkb:k<p.2.inputs.length:=by omega
  have wk:=qbb (k:=k) (by omega)
  have hb:p.1.inputs[k]=p.2.inputs[k]:=by simpa[hk,hkb]using hp
  simp[zoo,L68_0,hk,hk',hkb,hb,wk,hf.ne]
 .intro k f hf hk hp
  have hk':(k:Int)<p.1.inputs.length:=by omega
  have hkb:k<p.2.inputs.length:=by omega
  have hb:p.1.inputs[k]≠p.2.inputs[k]:=by simpa[hk,hkb]using hp
  have hb':(p.1.inputs[k]==p.2.inputs[k])=false:=by simpa using hb
  simp[zoo,zjv,L68_0,hk,hk',hkb,hb',hf.ne]
 .intro f hf
  simp[zoo,L68_0,hf.ne]
theorem jdu(p:Ste×Ste)(l m:List Evn)(hab:p.2.ends.length=p.1.ends.length)(ha:p.1.ends.length<=100000){st:St}(h0:At (zop l m 0) [⟨0,.box (qbw p)⟩] st) :
  ∃r,ev pg (.code (.going 1 L68_1) st)=some r/\qkt p.1.ends.length (fun k=>p.1.ends[k]? != p.2.ends[k]?) (fun _=>qaq .ret zjv [⟨0,.box (qbw p)⟩]) (qaq (.exit 2) (zop l m p.1.ends.length) [⟨0,.box (qbw p)⟩]) r:=by
 refine qby _ _ (zop l m) _ _ _ ?_ ?_ ?_ h0
 .intro k f hf hk hp
  have hk':(k:Int)<p.1.ends.length:=by omega
  have hkb:k<p.2.ends.length:=by omega
  have wk:=qbb (k:=k) (by omega)
  have hb:p.1.ends[k]=p.2.ends[k]:=by simpa[hk,hkb]using hp
  simp[zop,L68_1,hk,hk',hkb,hb,wk,hf.ne]
 .intro k f hf hk hp
  have hk':(k:Int)<p.1.ends.length:=by omega
  have hkb:k<p.2.ends.length:=by omega
  have hb:p.1.ends[k]≠p.2.ends[k]:=by simpa[hk,hkb]using hp
  have hb':(p.1.ends[k]==p.2.ends[k])=false:=by simpa using hb
  simp[zop,zjv,L68_1,hk,hk',hkb,hb',hb,hf.ne]
 .intro f hf
  simp[zop,L68_1,hf.ne]
theorem jdv(p:Ste×Ste)(l m:List Evn)(hab:m.length=l.length)(ha:l.length<=100000){st:St}(h0:At (zkg l m 0) [⟨0,.box (qbw p)⟩] st) :
  ∃r,ev pg (.code (.going 1 L68_2) st)=some r/\qkt l.length (fun k=>(l[k]?.map fun x=>(x.kind,x.idx)) != (m[k]?.map fun x=>(x.kind,x.idx))) (fun _=>qaq .ret zjv [⟨0,.box (qbw p)⟩]) (qaq (.exit 4) (zkg l m l.length) [⟨0,.box (qbw p)⟩]) r:=by
 refine qby _ _ (zkg l m) _ _ _ ?_ ?_ ?_ h0
 .intro k f hf hk hp
  have hk':(k:Int)<l.length:=by omega
  have hkb:k<m.length:=by omega
  have wk:=qbb (k:=k) (by omega)
  have hb:l[k].kind=m[k].kind/\l[k].idx=m[k].idx:=by simpa[hk,hkb]using hp
  simp[zkg,L68_2,hk,hk',hkb,hb.1,hb.2,wk,hf.ne]
 .intro k f hf hk hp
  have hk':(k:Int)<l.length:=by omega
  have hkb:k<m.length:=by omega
  have hb:¬(l[k].kind=m[k].kind/\l[k].idx=m[k].idx):=by simpa[hk,hkb]using hp
  by_cases h1:l[k].kind=m[k].kind
  .have h2:¬l[k].idx=m[k].idx:=fun h=>hb ⟨h1,h⟩
   have h2c:(l[k].idx != m[k].idx)=true:=by simpa[bne]using h2
   simp[zkg,zjv,L68_2,hk,hk',hkb,h1,h2c,hf.ne]
  .have h1b:(l[k].kind==m[k].kind)=false:=by simpa using h1
   have h1c:(l[k].kind != m[k].kind)=true:=by simpa[bne]using h1
   simp[zkg,zjv,L68_2,hk,hk',hkb,h1c,hf.ne]
 .intro f hf
  simp[zkg,L68_2,hf.ne]
theorem zvg{s t:Ste}(hl:(qdg t).length=(qdg s).length)(h:∀j,j<(qdg s).length->((qdg s)[j]?.map fun x=>(x.kind,x.idx))=((qdg t)[j]?.map fun x=>(x.kind,x.idx))):qdg s=qdg t:=by
 refine List.ext_getElem hl.symm fun k h1 h2=>?_
 have:=h k h1
 simp only[jA h1,jA h2,Option.map_some,jC,Prod.mk.injEq]at this
 exact Evn.ext' this.1 this.2 (by rw[zai _ (jH h1),zai _ (jH h2)])
theorem ev68(p:Ste×Ste)(hp:PS p)(hi:p.2.inputs.length=p.1.inputs.length)(he:p.2.ends.length=p.1.ends.length):ev pg (.call (.fn 68 [] []) [.agg (qbw p)] [])=some { v:=.bool (zyc p),st:=⟨[],[]⟩ }:=by
 have e1:=ev120 p.1 hp.g
 have e2:=ev120 p.2 hp.b
 have hl:(qdg p.1).length<=8192:=by
  rw[qjp,jF]
  have:=qez 0 (qbm p.1 0) p.1.ends.length
  have:=qez 1 (qbm p.1 1) p.1.timers.length
  have:=hp.g.e
  have:=hp.g.t
  omega
 have q1:=fun st=>jdt p (qdg p.1) (qdg p.2) hi (by have:=hp.g.i;omega) (st:=st)
 have q2:=fun st=>jdu p (qdg p.1) (qdg p.2) he (by have:=hp.g.e;omega) (st:=st)
 have q3:=fun hab st=>jdv p (qdg p.1) (qdg p.2) hab (by omega) (st:=st)
 have hpe:=@zvg p.1 p.2
 rw[qaa,pg68]
 unfold zyc
 generalize qdg p.1=l at *
 generalize qdg p.2=m at *
 by_cases hlen:m.length=l.length
 .have hlen':((m.length:Nat):Int)=l.length:=by omega
  simp[ir68,qab,exT,qal,e1,e2,hlen',qah]
  generalize hr:ev pg (.code (.going _ L68_0) _)=o
  obtain⟨r,rfl,hQ⟩:∃r,o=some r/\_:=by rw[<-hr];exact q1 _ (by simp[zoo])
  clear hr q1
  rcases hQ with⟨k,hk,hp1,-,f,hf,rfl⟩ | ⟨hp1,f,hf,rfl⟩
  .have:p.1.inputs≠p.2.inputs:=by intro e;rw[e]at hp1;simp at hp1
   simp[zjv,this]
  .have hin:p.1.inputs=p.2.inputs:=by
    refine List.ext_getElem hi.symm fun k h1 h2=>?_
    have:=hp1 k h1
    simpa[h1,h2]using this
   simp[zoo,hf.ne,qah]
   generalize hr:ev pg (.code (.going _ L68_1) _)=o
   obtain⟨r,rfl,hQ⟩:∃r,o=some r/\_:=by rw[<-hr];exact q2 _ (by simp[zop,hf.ne])
   clear hr q2
   rcases hQ with⟨k,hk,hp2,-,f,hf,rfl⟩ | ⟨hp2,f,hf,rfl⟩
   .have:p.1.ends≠p.2.ends:=by intro e;rw[e]at hp2;simp at hp2
    simp[zjv,this]
   .have hen:p.1.ends=p.2.ends:=by
     refine List.ext_getElem he.symm fun k h1 h2=>?_
     have:=hp2 k h1
     simpa[h1,h2]using this
    simp[zop,hf.ne,qah]
    generalize hr:ev pg (.code (.going _ L68_2) _)=o
    obtain⟨r,rfl,hQ⟩:∃r,o=some r/\_:=by rw[<-hr];exact q3 hlen _ (by simp[zkg,hf.ne])
    clear hr q3
    rcases hQ with⟨k,hk,hp3,-,f,hf,rfl⟩ | ⟨hp3,f,hf,rfl⟩
    .have:l≠m:=by intro e;rw[e]at hp3;simp at hp3
     simp[zjv,this]
    .have:l=m:=hpe hlen fun j hj=>by simpa using hp3 j hj
     simp[zkg,hin,hen,this]
 .have hlen':((l.length:Int) != (m.length:Int))=true:=by rw[bne_iff_ne];omega
  have hne:l≠m:=fun e=>hlen (by rw[e])
  simp[ir68,qab,exT,qal,e1,e2,hlen',hne]
theorem LieP.lens{w:Ct×Ct}(hw:Wld w){p:Ste×Ste}(h:LieP w p):p.2.inputs.length=p.1.inputs.length/\p.2.ends.length=p.1.ends.length:=by
 have a:=h.g.rdy.shp
 have b:=h.b.rdy.shp
 have a1:=a.i
 have a2:=a.e
 have b1:=b.i
 have b2:=b.e
 have:=hw.act
 rw[hw.inp]at b1
 exact⟨by omega,by omega⟩
end Go.Proofs.YtbepbclaoohngaaGreat
