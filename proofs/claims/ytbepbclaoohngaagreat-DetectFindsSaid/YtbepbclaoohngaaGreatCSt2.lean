/- What is at rest. -/
import Derived.Test.YtbepbclaoohngaaGreatCSv1
import Derived.KernelRfl
import Derived.Test.YtbepbclaoohngaaGreatCSt1
set_option linter.all false
namespace Go.Proofs.YtbepbclaoohngaaGreat
open Go Go.Am Go.Proofs
set_option maxRecDepth 100000
abbrev sl5(i:Nat)(u:Ste):List V:=[.sl i 0 1 0 u.ends.length,.sl (i+1) 0 1 0 u.valves.length,.sl (i+2) 0 1 0 u.inputs.length,.sl (i+3) 0 1 0 u.values.length,.sl (i+4) 0 1 0 u.timers.length]
abbrev ar5(u:Ste):H:=[⟨0,.arr 1 (u.ends.map qbl)⟩,⟨0,.arr 1 (u.valves.map qfi)⟩,⟨0,.arr 1 (u.inputs.map qfi)⟩,⟨0,.arr 1 (u.values.map qfi)⟩,⟨0,.arr 1 (u.timers.map qbl)⟩]
abbrev hM(c:Ct)(s u:Ste)(F:Nat):H:=[⟨0,.box c.cells⟩,⟨0,.box s.cells⟩,o0,o0,o0,o0,o0,⟨0,.box (q3v 2)⟩,⟨0,.box c.cells⟩,⟨0,.box s.cells⟩]++ar5 u++[⟨0,.box (c.cells++sl5 10 u++[num F])⟩]
abbrev hQ(g w:Nat)(L:List Int):H:=[o0,⟨g,.arr w (L.map qbl)⟩]
abbrev hB(b:Ste):H:=ar5 b++[o0,o0,o0,o0,o0,⟨0,.box (sl5 18 b)⟩]
abbrev zpw(c:Ct)(s u b:Ste)(F gq wq:Nat)(L:List Int):H:=hM c s u F++hQ gq wq L++hB b
abbrev zcz(c:Ct)(s u b:Ste)(F gq wq:Nat)(L:List Int)(k:Nat)(a:Nat×Nat):H:=zpw c s u b F gq wq L++[o0,⟨a.1,.arr a.2 ((qen (u.ends.take k)).map qfi)⟩]
def zsg(u:Ste)(k:Nat)(a:Nat×Nat):Tm:=[bN 15,none,some (.sl 29 0 0 0 0),some (.sl 30 a.1 a.2 0 (2*k)),none,none,none,none,none,none,some (.sl 10 0 1 0 u.ends.length),some (num u.ends.length),nN k]++zN 24
set_option maxHeartbeats 1000000 in
theorem jek(c:Ct)(s u b:Ste)(F gq wq:Nat)(L:List Int)(hs:u.small){st:St}(a0:Nat×Nat)(g0:a0.2=1\/a0.2=0)(h0:At (zsg u 0 a0) (zcz c s u b F gq wq L 0 a0) st):∃r,ev pg (.code (.going 31 L297_0) st)=some r/\∃a:Nat×Nat,(a.2=1\/a.2=0)/\qas (.exit 0) (zsg u u.ends.length a) (zcz c s u b F gq wq L u.ends.length a) r:=by
 have hse:=hs.e
 refine qct u.ends.length (zsg u) (zcz c s u b F gq wq L) (fun _ a=>a.2=1\/a.2=0) _ ?_ ?_ a0 g0 h0
 .rintro k ⟨g,m⟩ f hf hk hG
  have hk':(k:Int)<u.ends.length:=by omega
  have wk:=qbb (k:=k) (by omega)
  have hlen:(qen (u.ends.take k)).length=2*k:=by rw[qet,List.length_take];omega
  have hb:2*k+2<=140737488355328:=by omega
  have h2:2*(k+1)=2*k+2:=by omega
  unfold zsg zcz
  rw[qsh hk,h2]
  generalize qen (u.ends.take k)=W at *
  have hmm:m=1\/m=0:=hG
  rcases hmm with rfl | rfl<;>simp[L297_0,hk,hk',wk,hb,hlen,hf.ne]
 .rintro⟨g,m⟩ f hf hG
  unfold zsg zcz
  generalize qen (u.ends.take u.ends.length)=W at *
  generalize 2*u.ends.length=N at *
  have hmm:m=1\/m=0:=hG
  rcases hmm with rfl | rfl<;>simp[L297_0,hf.ne]
theorem ev313h{h:H}(hc:calm h)(n:Nat)(h1:1<=n)(hn:n<=100000):ev pg (.call (.fn 313 [] []) [.nils,num n] h)=some { v:=.sl h.length 0 1 0 0,st:=⟨[],h++[⟨0,.arr 1 []⟩]⟩ }:=by
 have w1:=qao (n:=(n:Int)) (by omega) (by omega)
 have p1:¬((n:Int)<0):=by omega
 have w0:=qao (n:=0) (by omega) (by omega)
 have p3:n*1<=140737488355328:=by omega
 have p4:n<=140737488355328:=by omega
 have hn0:0<n:=by omega
 have hne:¬n=0:=by omega
 have hne2:¬0=n:=by omega
 have hcm:h.map (qcf h.length)=h:=hc
 rw[qaa,pg313]
 simp[ir313,w0,w1,p1,hn0,hne,hne2,p3,p4,qcl,qep,qee,hcm]
def nK(a b c k:Nat):Nat:=if k=0 then 0 else if k=1 then a else if k=2 then a+b else a+b+c
def wK(a b c:List Bool)(k:Nat):List Bool:=if k=0 then []else if k=1 then a else if k=2 then a++b else a++b++c
abbrev vw3(u:Ste)(g m:Nat):V:=.view false [.sl 30 g m 0 (2*u.ends.length),.sl 12 0 1 0 u.inputs.length,.sl 13 0 1 0 u.values.length]
abbrev zda(c:Ct)(s u b:Ste)(F gq wq:Nat)(L:List Int)(g m:Nat)(E:List Bool):H:=zpw c s u b F gq wq L++[o0,⟨g,.arr m (E.map qfi)⟩]
def q4c(u:Ste)(g m k:Nat):Tm:=[some (vw3 u g m),none,some (.sl 31 0 0 0 0),some (num (nK (2*u.ends.length) u.inputs.length u.values.length k)),none,none,none,none,none,some (vw3 u g m),nN 3,nN k]++zN 24
def zbz(u:Ste)(g m k:Nat)(a:Nat×Nat):Tm:=[some (vw3 u g m),none,some (.sl 31 0 0 0 0),none,none,none,some (.sl 32 a.1 a.2 0 (nK (2*u.ends.length) u.inputs.length u.values.length k))]++zN 18++[some (vw3 u g m),nN 3,nN k]++zN 8
set_option maxHeartbeats 2000000 in
theorem ev303m(c:Ct)(s u b:Ste)(F gq wq:Nat)(L:List Int)(hs:u.small)(h1:1<=u.ends.length)(g m:Nat)(hm:m=1\/m=0)(E:List Bool)(hE:E.length=2*u.ends.length):ev pg (.call (.fn 303 [] []) [vw3 u g m] (zda c s u b F gq wq L g m E))=some { v:=.sl 31 0 1 0 (2*u.ends.length+u.inputs.length+u.values.length),st:=⟨[],zda c s u b F gq wq L g m E++[⟨0,.arr 1 ((E++u.inputs++u.values).map qfi)⟩]⟩ }:=by
 have s1:=hs.e
 have s2:=hs.i
 have s3:=hs.v
 have la:∀st,At (q4c u g m 0) (zda c s u b F gq wq L g m E++[o0]) st->∃r,ev pg (.code (.going 32 L303_0) st)=some r/\qas (.exit 0) (q4c u g m 3) (zda c s u b F gq wq L g m E++[o0]) r:=by
  intro st h0
  refine qfy 3 (q4c u g m) (fun _=>zda c s u b F gq wq L g m E++[o0]) _ ?_ ?_ h0
  .intro k f hf hk
   have hk3:k=0\/k=1\/k=2:=by omega
   have x1:¬(2*(u.ends.length:Int))<0:=by omega
   have x2:¬(2*(u.ends.length:Int)+(u.inputs.length:Int))<0:=by omega
   have x3:¬(2*(u.ends.length:Int)+(u.inputs.length:Int)+(u.values.length:Int))<0:=by omega
   have y1:=qao (n:=2*(u.ends.length:Int)) (by omega) (by omega)
   have y2:=qao (n:=2*(u.ends.length:Int)+(u.inputs.length:Int)) (by omega) (by omega)
   have y3:=qao (n:=2*(u.ends.length:Int)+(u.inputs.length:Int)+(u.values.length:Int)) (by omega) (by omega)
   have z1:IntKind.i64.wrap 1=1:=by decide
   have z2:IntKind.i64.wrap 2=2:=by decide
   have z3:IntKind.i64.wrap 3=3:=by decide
   rcases hk3 with rfl | rfl | rfl<;>rcases hm with rfl | rfl<;>simp[L303_0,q4c,nK,x1,x2,x3,y1,y2,y3,z1,z2,z3,hf.ne]
  .intro f hf
   simp[L303_0,q4c,hf.ne]
 have lb:∀st,At (zbz u g m 0 (0,1)) (zda c s u b F gq wq L g m E++[o0,⟨0,.arr 1 []⟩]) st->∃r,ev pg (.code (.going 33 L303_1) st)=some r/\∃a:Nat×Nat,a.2=1/\qas (.exit 2) (zbz u g m 3 a) (zda c s u b F gq wq L g m E++[o0,⟨a.1,.arr a.2 ((wK E u.inputs u.values 3).map qfi)⟩]) r:=by
  intro st h0
  refine qct 3 (zbz u g m) (fun k a=>zda c s u b F gq wq L g m E++[o0,⟨a.1,.arr a.2 ((wK E u.inputs u.values k).map qfi)⟩]) (fun _ a=>a.2=1) _ ?_ ?_ (0,1) rfl (by simpa[wK]using h0)
  .rintro k ⟨g2,m2⟩ f hf hk hG
   obtain rfl:m2=1:=hG
   have hk3:k=0\/k=1\/k=2:=by omega
   have z1:IntKind.i64.wrap 1=1:=by decide
   have z2:IntKind.i64.wrap 2=2:=by decide
   have z3:IntKind.i64.wrap 3=3:=by decide
   have y1:2*u.ends.length<=140737488355328:=by omega
   have y2:2*u.ends.length+u.inputs.length<=140737488355328:=by omega
   have y3:2*u.ends.length+u.inputs.length+u.values.length<=140737488355328:=by omega
   rcases hk3 with rfl | rfl | rfl<;>rcases hm with rfl | rfl<;>simp[L303_1,zbz,nK,wK,hE,y1,y2,y3,z1,z2,z3,hf.ne]
  .rintro⟨g2,m2⟩ f hf hG
   obtain rfl:m2=1:=hG
   simp[L303_1,zbz,hf.ne]
 have hcal:calm (zda c s u b F gq wq L g m E++[o0]):=by
  unfold calm
  simp
 have e189:=ev313h hcal (2*u.ends.length+u.inputs.length+u.values.length) (by omega) (by omega)
 have hW:wK E u.inputs u.values 3=E++u.inputs++u.values:=by simp[wK]
 have hN:nK (2*u.ends.length) u.inputs.length u.values.length 3=2*u.ends.length+u.inputs.length+u.values.length:=by simp[nK]
 have hla:∀f,fill f 0 (q4c u g m 3)=fill f 0 ([some (vw3 u g m),none,some (.sl 31 0 0 0 0),some (num (2*u.ends.length+u.inputs.length+u.values.length:Nat)),none,none,none,none,none,some (vw3 u g m),some (num 3),some (num 3)]++List.replicate 24 none):=fun f=>by
  unfold q4c
  rw[hN]
  rfl
 rw[hW]at lb
 have hlen:((E++u.inputs++u.values).map qfi).length=2*u.ends.length+u.inputs.length+u.values.length:=by
  simp[hE]
  omega
 generalize (E++u.inputs++u.values).map qfi=W at *
 have lb':∀st,At ([some (vw3 u g m),none,some (.sl 31 0 0 0 0),none,none,none,some (.sl 32 0 1 0 0)]++List.replicate 18 none++[some (vw3 u g m),some (num 3),some (num 0)]++List.replicate 8 none) (zda c s u b F gq wq L g m E++[o0,⟨0,.arr 1 []⟩]) st->∃r,ev pg (.code (.going 33 L303_1) st)=some r/\∃a:Nat×Nat,a.2=1/\qas (.exit 2) ([none,none,none,none,none,none,some (.sl 32 a.1 a.2 0 (2*u.ends.length+u.inputs.length+u.values.length))]++List.replicate 29 none) (zda c s u b F gq wq L g m E++[o0,⟨a.1,.arr a.2 W⟩]) r:=by
  intro st h0
  obtain⟨r,e,a,ha,f,hf,rfl⟩:=lb st h0
  refine⟨_,e,a,ha,?_⟩
  unfold zbz
  rw[hN]
  generalize 2*u.ends.length+u.inputs.length+u.values.length=N at *
  simp[hf.ne]
 generalize 2*u.ends.length+u.inputs.length+u.values.length=N at *
 simp at e189
 rw[qaa,pg303]
 simp[ir303,qah]
 generalize hr:ev pg (.code (.going _ L303_0) _)=o
 obtain⟨r,rfl,f,hf,rfl⟩:∃r,o=some r/\_:=by rw[<-hr];exact la _ (by simp[q4c,nK])
 clear hr
 rw[hla]
 simp[e189,hf.ne,qah]
 generalize hr:ev pg (.code (.going _ L303_1) _)=o
 obtain⟨r,rfl,⟨g2,m2⟩,hm2,f2,hf2,rfl⟩:∃r,o=some r/\_:=by rw[<-hr];exact lb' _ (by simp[hf.ne])
 obtain rfl:m2=1:=hm2
 clear hr
 simp[qcl,qep,qee,hlen]
set_option maxHeartbeats 1000000 in
theorem ev297(c:Ct)(s u b:Ste)(F gq wq:Nat)(L:List Int)(hs:u.small)(h1:1<=u.ends.length):ev pg (.call (.fn 297 [] []) [.bptr 15 0] (zpw c s u b F gq wq L))=some { v:=.sl 29 0 1 0 (qae u).length,st:=⟨[],zpw c s u b F gq wq L++[⟨0,.arr 1 ((qae u).map qfi)⟩]⟩ }:=by
 have hl:=@jek c s u b F gq wq L hs
 have he:=qet u.ends
 have hlen:=qdm u
 have zda:=fun g m hm=>ev303m c s u b F gq wq L hs h1 g m hm (qen u.ends) he
 unfold zcz at hl
 rw[List.take_length,List.take_zero,qen]at hl
 unfold qae at hlen ⊢
 rw[hlen]
 have hWl:((qen u.ends++u.inputs++u.values).map qfi).length=2*u.ends.length+u.inputs.length+u.values.length:=by rw[List.length_map,hlen]
 generalize (qen u.ends++u.inputs++u.values).map qfi=W at *
 generalize qen u.ends=E at *
 generalize hN:2*u.ends.length+u.inputs.length+u.values.length=N at *
 rw[qaa,pg297]
 simp[ir297,qah]
 generalize hr:ev pg (.code (.going _ L297_0) _)=o
 obtain⟨r,rfl,⟨g,m⟩,hm,f,hf,rfl⟩:∃r,o=some r/\_:=by rw[<-hr];exact hl (0,0) (.inr rfl) (by simp[zsg])
 clear hr
 have hmm:m=1\/m=0:=hm
 have h174':=zda g m hmm
 simp at h174'
 rcases hmm with rfl | rfl<;>simp[qab,exT,qak,zsg,he,h174',qcl,qep,qee,hWl]
abbrev zne(c:Ct)(s u b:Ste)(gq wq:Nat)(L:List Int)(k:Nat):H:=zpw c s (stK c u k) b (qap u) gq wq L++[⟨0,.arr 1 ((qbc c (qap u) k (qae u)).map qfi)⟩]
def zsf(c:Ct)(N k:Nat):Tm:=[bN 15,none,some (.sl 29 0 1 0 N),none,none,none,none,none,none,none,none,none,some (.imm (c.signals.map Sg.row)),some (num c.signals.length),nN k]++zN 29
set_option maxHeartbeats 2000000 in
theorem jej(c:Ct)(s u b:Ste)(gq wq:Nat)(L:List Int)(hs:u.small)(hS:Shp c u)(hn:c.signals.length<=128)(hF:qap u<=10000)(hok:∀x∈c.signals,x.on.nodes<=256/\x.on.err (qae u).length=0){st:St}(h0:At (zsf c (qae u).length 0) (zne c s u b gq wq L 0) st):∃r,ev pg (.code (.going 30 L296_0) st)=some r/\qas (.exit 0) (zsf c (qae u).length c.signals.length) (zne c s u b gq wq L c.signals.length) r:=by
 refine qfy c.signals.length (zsf c (qae u).length) (zne c s u b gq wq L) _ ?_ ?_ h0
 .intro k f hf hk
  have hk':(k:Int)<c.signals.length:=by omega
  have wk:=qbb (k:=k) (by omega)
  have hsc:=zbk c u k hk
  obtain⟨g1,g2⟩:=hok _ (jH hk)
  have hLl:(qae (stK c u k)).length=(qae u).length:=by rw[qkq,qfe]
  have h165:=ev299 (qae (stK c u k)) c.signals[k].on g1 (by rw[hLl];exact g2)
  have hvl:=q3l c u k
  have hkv:k<u.values.length:=by rw[hS.v];exact hk
  have hgt:qbc c (qap u) (k+1) (qae u)=if c.signals[k].kind=0 then(qbc c (qap u) k (qae u)).set (qap u+k) (c.signals[k].on.holds (qae (stK c u k)))else qbc c (qap u) k (qae u):=by
   rw[qbc,qgm,jA hk,qkq]
  have hst:∀j,stK c u j=⟨u.ends,u.valves,u.inputs,(stK c u j).values,u.timers⟩:=fun j=>rfl
  have hlt:(qbc c (qap u) k (qae u)).length=(qae u).length:=qfe _ _ _ _
  have hFk:qap u+k<(qae u).length:=by
   rw[qdm];unfold qap;omega
  rw[qkq]at h165 hgt
  unfold zne
  rw[hst (k+1),hst k,hsc,hgt,qkq]
  unfold zsf
  generalize qbc c (qap u) k (qae u)=G at *
  generalize hv:c.signals[k].on.holds G=v at *
  generalize (stK c u k).values=W at *
  generalize qap u=F at *
  have hkW:k<W.length:=by omega
  have wF:=qao (n:=(F:Int)+k) (by omega) (by omega)
  have pF:(0:Int)<=(F:Int)+k:=by omega
  have tF:((F:Int)+k).toNat=F+k:=by omega
  generalize (qae u).length=N at *
  by_cases h0:c.signals[k].kind=0
  .have hFk':F+k<G.length:=by omega
   simp[qab,exT,qak,L296_0,hk,hk',wk,h0,hlt.symm,h165,hkW,hkv,hFk',hvl,wF,pF,tF,hf.ne]
  .have h0b:(c.signals[k].kind==0)=false:=by simpa using h0
   simp[L296_0,hk,hk',wk,h0,h0b,hf.ne]
 .intro f hf
  unfold zsf zne
  simp[L296_0,hf.ne]
set_option maxHeartbeats 1000000 in
theorem ev296(c:Ct)(s u b:Ste)(gq wq:Nat)(L:List Int)(hs:u.small)(hS:Shp c u)(hn:c.signals.length<=128)(hF:qap u<=10000)(h1:1<=u.ends.length)(hok:∀x∈c.signals,x.on.nodes<=256/\x.on.err (qae u).length=0):ev pg (.call (.fn 296 [] []) [.bptr 15 0] (zpw c s u b (qap u) gq wq L))=some { v:=.tup [],st:=⟨[],zpw c s (qdq c u) b (qap u) gq wq L⟩ }:=by
 have hl:=@jej c s u b gq wq L hs hS hn hF hok
 have e163:=ev297 c s u b (qap u) gq wq L hs h1
 have hst:∀j,stK c u j=⟨u.ends,u.valves,u.inputs,(stK c u j).values,u.timers⟩:=fun j=>rfl
 have hvl:=q3l c u c.signals.length
 unfold zne at hl
 rw[zbl,q8q,show qbc c (qap u) 0 (qae u)=qae u from rfl]at hl
 rw[q8q]at hvl
 have hg:qdq c u=⟨u.ends,u.valves,u.inputs,(qdq c u).values,u.timers⟩:=rfl
 rw[hg]at hl ⊢
 generalize (qdq c u).values=W at *
 generalize qbc c (qap u) c.signals.length (qae u)=G at *
 generalize qap u=F at *
 generalize qae u=LL at *
 simp at e163
 rw[qaa,pg296]
 simp[ir296,e163,qah]
 generalize hr:ev pg (.code (.going _ L296_0) _)=o
 obtain⟨r,rfl,f,hf,rfl⟩:∃r,o=some r/\_:=by rw[<-hr];exact hl (by simp[zsf])
 clear hr
 simp[zsf]
abbrev chg(v:Bool)(t:Int)(b:Bool):V:=.agg [.bool v,num t,.bool b]
theorem ev304(v:Bool)(t:Int)(b on off:Bool):ev pg (.call (.fn 304 [] []) [chg v t b,.bool on,.bool off] [])=some { v:=chg v t b,st:=⟨[],[]⟩ }:=by
 rw[qaa,pg304]
 simp[ir304]
theorem ev305(v:Bool)(t:Int)(b on off:Bool):ev pg (.call (.fn 305 [] []) [chg v t b,.bool on,.bool off] [])=some { v:=chg (if on != off then on else v) t (on&&off),st:=⟨[],[]⟩ }:=by
 rw[qaa,pg305]
 cases on<;>cases off<;>simp[ir305]
theorem ev306(v:Bool)(t:Int)(b on off:Bool):ev pg (.call (.fn 306 [] []) [chg v t b,.bool on,.bool off] [])=some { v:=if on=true then chg v (if t=0 then 1 else t) b else chg false 0 false,st:=⟨[],[]⟩ }:=by
 rw[qaa,pg306]
 cases on with
 | false=>simp[ir306]
 | true =>
  by_cases h:t=0
  .simp[ir306,h]
  .have hb:(t==0)=false:=by simpa using h
   simp[ir306,h,hb]
abbrev z3b:V:=.agg [.fn 304 [] [],.fn 305 [] [],.fn 306 [] []]
theorem ev298:ev pg (.call (.fn 298 [] []) [] [])=some { v:=z3b,st:=⟨[],[]⟩ }:=by
 rw[qaa,pg298]
 simp[ir298]
theorem q0s(s:Ste):qhh s s=true:=qgr.2 rfl
theorem quc{c:Ct}:∀{d:Nat} {s:Ste} {l:List Int} {t:Ste} {m:List Int},qfu c d s l=some (t,m)->∃a,qch c t=some (t,a)
 | 0,_,_,_,_,h=>by cases h
 | d+1,s,l,t,m,h=>by
  rw[qfu]at h
  cases e:qch c s with
  | none=>rw[e]at h;cases h
  | some x =>
   rw[e]at h
   simp only at h
   split at h
   .rename_i hs
    cases h
    have:=qgr.1 hs
    exact⟨x.2,by rw[e,this]⟩
   .exact quc h
theorem qxr{c:Ct}{s t:Ste}{m:List Int}(h:qid c s=some (t,m)):∃a,qch c t=some (t,a):=quc h
theorem zej{c:Ct}{t:Ste}{a:List Int}(h:qch c t=some (t,a)):qid c t=some (t,norm (qpb c) a):=by
 unfold qid
 rw[qfu,h]
 simp only[q0s,if_true,List.nil_append]
theorem qrp{c:Ct}{N:Nat}:∀{d:Nat} {s:Ste} {l:List Int} {t:Ste} {m:List Int},qdb c N d s l=some (t,m)->t.ends=s.ends/\t.valves=s.valves/\t.inputs=s.inputs
 | 0,_,_,_,_,h=>by cases h
 | d+1,s,l,t,m,h=>by
  rw[qdb]at h
  split at h
  .cases h;exact⟨rfl,rfl,rfl⟩
  .exact qrp (s:=qgo c s) h
theorem qni{c:Ct}{s t:Ste}{m:List Int}(h:qca c s=some (t,m)):t.ends=s.ends/\t.valves=s.valves/\t.inputs=s.inputs:=qrp h
theorem qjw{c:Ct}{s t:Ste}{a:List Int}(h:qch c s=some (t,a)):∃u m,qca c s=some (u,m)/\t=qkb (qgs c u)/\a=norm (qpb c) (m++qml c u):=by
 unfold qch at h
 cases e:qca c s with
 | none=>rw[e]at h;cases h
 | some x =>
  rw[e]at h
  cases h
  exact⟨x.1,x.2,rfl,rfl,rfl⟩
theorem q3a{c:Ct}{s t:Ste}{a:List Int}(h:qch c s=some (t,a)):t.inputs=s.inputs:=by
 obtain⟨u,m,hu,rfl,_⟩:=qjw h
 exact(qni hu).2.2
theorem qrj{c:Ct}:∀{d:Nat} {s:Ste} {l:List Int} {t:Ste} {m:List Int},qfu c d s l=some (t,m)->t.inputs=s.inputs
 | 0,_,_,_,_,h=>by cases h
 | d+1,s,l,t,m,h=>by
  rw[qfu]at h
  cases e:qch c s with
  | none=>rw[e]at h;cases h
  | some x =>
   rw[e]at h
   simp only at h
   split at h
   .cases h;rfl
   .rw[qrj h,q3a (show qch c s=some (x.1,x.2)from e)]
theorem q6k{c:Ct}{s t:Ste}{m:List Int}(h:qid c s=some (t,m)):t.inputs=s.inputs:=qrj h
structure Evn where
 kind:Int
 idx:Int
 val:Bool
abbrev Evn.row(x:Evn):List V:=[num x.kind,num x.idx,.bool x.val]
def zzm(a b:Ste)(i:Nat):Option (Int×Bool):=match a.ends[i]?,b.ends[i]? with
 | some x,some y=>if(y=1\/y=3)/\x≠y then some (i,y==1)else none
 | _,_=>none
def zzn(a b:Ste):List (Int×Bool):=(List.range a.ends.length).filterMap (zzm a b)
def qbn(s:Ste)(k:Int)(i:Nat):Bool:=if k=0 then((s.ends[i]?).map fun e=>e==1||e==3).getD false else((s.timers[i]?).map fun t=>t==1).getD false
def qdn(s:Ste):List Evn:=((List.range s.ends.length).filter (qbn s 0)).map (fun(i:Nat)=>⟨0,i,false⟩)++((List.range s.timers.length).filter (qbn s 1)).map fun(i:Nat)=>⟨1,i,false⟩
def qpk(s:Ste)(x:Evn):Bool :=
 if x.idx<0 then false
 else if x.kind=2 then((s.inputs[x.idx.toNat]?).map fun v=>v != x.val).getD false
 else qbn s x.kind x.idx.toNat
def qeo(s:Ste)(x:Evn):Ste :=
 if x.kind=0 then⟨s.ends.set x.idx.toNat (if s.ends[x.idx.toNat]?=some 1 then 2 else 0),s.valves,s.inputs,s.values,s.timers⟩
 else if x.kind=1 then⟨s.ends,s.valves,s.inputs,s.values.set x.idx.toNat true,s.timers.set x.idx.toNat 2⟩
 else⟨s.ends,s.valves,s.inputs.set x.idx.toNat x.val,s.values,s.timers⟩
def qhg(c:Ct)(s:Ste):Ste×List Int×Int:=match qid c s with
 | some x=>(x.1,x.2,0)
 | none=>(zeroS,[],21)
def qeb(c:Ct)(s:Ste)(x:Evn):Ste×List Int×Int :=
 if x.kind<0\/2<x.kind then(zeroS,[],1)else if qpk s x=true then qhg c (qeo s x)else(zeroS,[],14)
structure Crs where
 st:Ste
 strokes:List (List (Int×Bool))
 conf:List Int
def q8y:Crs:=⟨zeroS,[],[]⟩
def zwu(c:Ct):List Evn->Nat->Crs->Crs×Int×Int
 | [],_,r=>(r,0,0)
 | x :: l,i,r=>if(qeb c r.st x).2.2=0 then zwu c l (i+1) ⟨(qeb c r.st x).1,r.strokes++[zzn r.st (qeb c r.st x).1],norm (qpb c) (r.conf++(qeb c r.st x).2.1)⟩else(q8y,i,(qeb c r.st x).2.2)
end Go.Proofs.YtbepbclaoohngaaGreat
