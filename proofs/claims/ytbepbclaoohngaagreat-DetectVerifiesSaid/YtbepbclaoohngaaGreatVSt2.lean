/- What is at rest. -/
import Derived.Test.YtbepbclaoohngaaGreatVSv1
import Derived.KernelRfl
import Derived.Test.YtbepbclaoohngaaGreatVSt1
set_option linter.all false
namespace Go.Proofs.YtbepbclaoohngaaGreat
open Go Go.Am Go.Proofs
set_option maxRecDepth 100000
abbrev sl5(i:Nat)(u:Ste):List V:=[.sl i 0 1 0 u.ends.length,.sl (i+1) 0 1 0 u.valves.length,.sl (i+2) 0 1 0 u.inputs.length,.sl (i+3) 0 1 0 u.values.length,.sl (i+4) 0 1 0 u.timers.length]
abbrev ar5(u:Ste):H:=[⟨0,.arr 1 (u.ends.map qbj)⟩,⟨0,.arr 1 (u.valves.map qfa)⟩,⟨0,.arr 1 (u.inputs.map qfa)⟩,⟨0,.arr 1 (u.values.map qfa)⟩,⟨0,.arr 1 (u.timers.map qbj)⟩]
abbrev hM(c:Ct)(s u:Ste)(F:Nat):H:=[⟨0,.box c.cells⟩,⟨0,.box s.cells⟩,o0,o0,o0,o0,o0,⟨0,.box (q2u 2)⟩,⟨0,.box c.cells⟩,⟨0,.box s.cells⟩]++ar5 u++[⟨0,.box (c.cells++sl5 10 u++[num F])⟩]
abbrev hQ(g w:Nat)(L:List Int):H:=[o0,⟨g,.arr w (L.map qbj)⟩]
abbrev hB(b:Ste):H:=ar5 b++[o0,o0,o0,o0,o0,⟨0,.box (sl5 18 b)⟩]
abbrev zoy(c:Ct)(s u b:Ste)(F gq wq:Nat)(L:List Int):H:=hM c s u F++hQ gq wq L++hB b
abbrev zcj(c:Ct)(s u b:Ste)(F gq wq:Nat)(L:List Int)(k:Nat)(a:Nat×Nat):H:=zoy c s u b F gq wq L++[o0,⟨a.1,.arr a.2 ((qem (u.ends.take k)).map qfa)⟩]
def zrh(u:Ste)(k:Nat)(a:Nat×Nat):Tm:=[bN 15,none,some (.sl 29 0 0 0 0),some (.sl 30 a.1 a.2 0 (2*k)),none,none,none,none,none,none,some (.sl 10 0 1 0 u.ends.length),some (num u.ends.length),nN k]++zN 24
set_option maxHeartbeats 1000000 in
theorem jdh(c:Ct)(s u b:Ste)(F gq wq:Nat)(L:List Int)(hs:u.small){st:St}(a0:Nat×Nat)(g0:a0.2=1\/a0.2=0)(h0:At (zrh u 0 a0) (zcj c s u b F gq wq L 0 a0) st):∃r,ev pg (.code (.going 31 L297_0) st)=some r/\∃a:Nat×Nat,(a.2=1\/a.2=0)/\qaq (.exit 0) (zrh u u.ends.length a) (zcj c s u b F gq wq L u.ends.length a) r:=by
 have hse:=hs.e
 refine qdb u.ends.length (zrh u) (zcj c s u b F gq wq L) (fun _ a=>a.2=1\/a.2=0) _ ?_ ?_ a0 g0 h0
 .rintro k ⟨g,m⟩ f hf hk hG
  have hk':(k:Int)<u.ends.length:=by omega
  have wk:=qbb (k:=k) (by omega)
  have hlen:(qem (u.ends.take k)).length=2*k:=by rw[qes,List.length_take];omega
  have hb:2*k+2<=140737488355328:=by omega
  have h2:2*(k+1)=2*k+2:=by omega
  unfold zrh zcj
  rw[qru hk,h2]
  generalize qem (u.ends.take k)=W at *
  have hmm:m=1\/m=0:=hG
  rcases hmm with rfl | rfl<;>simp[L297_0,hk,hk',wk,hb,hlen,hf.ne]
 .rintro⟨g,m⟩ f hf hG
  unfold zrh zcj
  generalize qem (u.ends.take u.ends.length)=W at *
  generalize 2*u.ends.length=N at *
  have hmm:m=1\/m=0:=hG
  rcases hmm with rfl | rfl<;>simp[L297_0,hf.ne]
theorem ev313h{h:H}(hc:calm h)(n:Nat)(h1:1<=n)(hn:n<=100000):ev pg (.call (.fn 313 [] []) [.nils,num n] h)=some { v:=.sl h.length 0 1 0 0,st:=⟨[],h++[⟨0,.arr 1 []⟩]⟩ }:=by
 have w1:=qan (n:=(n:Int)) (by omega) (by omega)
 have p1:¬((n:Int)<0):=by omega
 have w0:=qan (n:=0) (by omega) (by omega)
 have p3:n*1<=140737488355328:=by omega
 have p4:n<=140737488355328:=by omega
 have hn0:0<n:=by omega
 have hne:¬n=0:=by omega
 have hne2:¬0=n:=by omega
 have hcm:h.map (qcf h.length)=h:=hc
 rw[qaa,pg313]
 simp[ir313,w0,w1,p1,hn0,hne,hne2,p3,p4,qcn,qex,qei,hcm]
def nK(a b c k:Nat):Nat:=if k=0 then 0 else if k=1 then a else if k=2 then a+b else a+b+c
def wK(a b c:List Bool)(k:Nat):List Bool:=if k=0 then []else if k=1 then a else if k=2 then a++b else a++b++c
abbrev vw3(u:Ste)(g m:Nat):V:=.view false [.sl 30 g m 0 (2*u.ends.length),.sl 12 0 1 0 u.inputs.length,.sl 13 0 1 0 u.values.length]
abbrev zck(c:Ct)(s u b:Ste)(F gq wq:Nat)(L:List Int)(g m:Nat)(E:List Bool):H:=zoy c s u b F gq wq L++[o0,⟨g,.arr m (E.map qfa)⟩]
def q3c(u:Ste)(g m k:Nat):Tm:=[some (vw3 u g m),none,some (.sl 31 0 0 0 0),some (num (nK (2*u.ends.length) u.inputs.length u.values.length k)),none,none,none,none,none,some (vw3 u g m),nN 3,nN k]++zN 24
def zbi(u:Ste)(g m k:Nat)(a:Nat×Nat):Tm:=[some (vw3 u g m),none,some (.sl 31 0 0 0 0),none,none,none,some (.sl 32 a.1 a.2 0 (nK (2*u.ends.length) u.inputs.length u.values.length k))]++zN 18++[some (vw3 u g m),nN 3,nN k]++zN 8
set_option maxHeartbeats 2000000 in
theorem ev303m(c:Ct)(s u b:Ste)(F gq wq:Nat)(L:List Int)(hs:u.small)(h1:1<=u.ends.length)(g m:Nat)(hm:m=1\/m=0)(E:List Bool)(hE:E.length=2*u.ends.length):ev pg (.call (.fn 303 [] []) [vw3 u g m] (zck c s u b F gq wq L g m E))=some { v:=.sl 31 0 1 0 (2*u.ends.length+u.inputs.length+u.values.length),st:=⟨[],zck c s u b F gq wq L g m E++[⟨0,.arr 1 ((E++u.inputs++u.values).map qfa)⟩]⟩ }:=by
 have s1:=hs.e
 have s2:=hs.i
 have s3:=hs.v
 have la:∀st,At (q3c u g m 0) (zck c s u b F gq wq L g m E++[o0]) st->∃r,ev pg (.code (.going 32 L303_0) st)=some r/\qaq (.exit 0) (q3c u g m 3) (zck c s u b F gq wq L g m E++[o0]) r:=by
  intro st h0
  refine qhj 3 (q3c u g m) (fun _=>zck c s u b F gq wq L g m E++[o0]) _ ?_ ?_ h0
  .intro k f hf hk
   have hk3:k=0\/k=1\/k=2:=by omega
   have x1:¬(2*(u.ends.length:Int))<0:=by omega
   have x2:¬(2*(u.ends.length:Int)+(u.inputs.length:Int))<0:=by omega
   have x3:¬(2*(u.ends.length:Int)+(u.inputs.length:Int)+(u.values.length:Int))<0:=by omega
   have y1:=qan (n:=2*(u.ends.length:Int)) (by omega) (by omega)
   have y2:=qan (n:=2*(u.ends.length:Int)+(u.inputs.length:Int)) (by omega) (by omega)
   have y3:=qan (n:=2*(u.ends.length:Int)+(u.inputs.length:Int)+(u.values.length:Int)) (by omega) (by omega)
   have z1:IntKind.i64.wrap 1=1:=by decide
   have z2:IntKind.i64.wrap 2=2:=by decide
   have z3:IntKind.i64.wrap 3=3:=by decide
   rcases hk3 with rfl | rfl | rfl<;>rcases hm with rfl | rfl<;>simp[L303_0,q3c,nK,x1,x2,x3,y1,y2,y3,z1,z2,z3,hf.ne]
  .intro f hf
   simp[L303_0,q3c,hf.ne]
 have lb:∀st,At (zbi u g m 0 (0,1)) (zck c s u b F gq wq L g m E++[o0,⟨0,.arr 1 []⟩]) st->∃r,ev pg (.code (.going 33 L303_1) st)=some r/\∃a:Nat×Nat,a.2=1/\qaq (.exit 2) (zbi u g m 3 a) (zck c s u b F gq wq L g m E++[o0,⟨a.1,.arr a.2 ((wK E u.inputs u.values 3).map qfa)⟩]) r:=by
  intro st h0
  refine qdb 3 (zbi u g m) (fun k a=>zck c s u b F gq wq L g m E++[o0,⟨a.1,.arr a.2 ((wK E u.inputs u.values k).map qfa)⟩]) (fun _ a=>a.2=1) _ ?_ ?_ (0,1) rfl (by simpa[wK]using h0)
  .rintro k ⟨g2,m2⟩ f hf hk hG
   obtain rfl:m2=1:=hG
   have hk3:k=0\/k=1\/k=2:=by omega
   have z1:IntKind.i64.wrap 1=1:=by decide
   have z2:IntKind.i64.wrap 2=2:=by decide
   have z3:IntKind.i64.wrap 3=3:=by decide
   have y1:2*u.ends.length<=140737488355328:=by omega
   have y2:2*u.ends.length+u.inputs.length<=140737488355328:=by omega
   have y3:2*u.ends.length+u.inputs.length+u.values.length<=140737488355328:=by omega
   rcases hk3 with rfl | rfl | rfl<;>rcases hm with rfl | rfl<;>simp[L303_1,zbi,nK,wK,hE,y1,y2,y3,z1,z2,z3,hf.ne]
  .rintro⟨g2,m2⟩ f hf hG
   obtain rfl:m2=1:=hG
   simp[L303_1,zbi,hf.ne]
 have hcal:calm (zck c s u b F gq wq L g m E++[o0]):=by
  unfold calm
  simp
 have e189:=ev313h hcal (2*u.ends.length+u.inputs.length+u.values.length) (by omega) (by omega)
 have hW:wK E u.inputs u.values 3=E++u.inputs++u.values:=by simp[wK]
 have hN:nK (2*u.ends.length) u.inputs.length u.values.length 3=2*u.ends.length+u.inputs.length+u.values.length:=by simp[nK]
 have hla:∀f,fill f 0 (q3c u g m 3)=fill f 0 ([some (vw3 u g m),none,some (.sl 31 0 0 0 0),some (num (2*u.ends.length+u.inputs.length+u.values.length:Nat)),none,none,none,none,none,some (vw3 u g m),some (num 3),some (num 3)]++List.replicate 24 none):=fun f=>by
  unfold q3c
  rw[hN]
  rfl
 rw[hW]at lb
 have hlen:((E++u.inputs++u.values).map qfa).length=2*u.ends.length+u.inputs.length+u.values.length:=by
  simp[hE]
  omega
 generalize (E++u.inputs++u.values).map qfa=W at *
 have lb':∀st,At ([some (vw3 u g m),none,some (.sl 31 0 0 0 0),none,none,none,some (.sl 32 0 1 0 0)]++List.replicate 18 none++[some (vw3 u g m),some (num 3),some (num 0)]++List.replicate 8 none) (zck c s u b F gq wq L g m E++[o0,⟨0,.arr 1 []⟩]) st->∃r,ev pg (.code (.going 33 L303_1) st)=some r/\∃a:Nat×Nat,a.2=1/\qaq (.exit 2) ([none,none,none,none,none,none,some (.sl 32 a.1 a.2 0 (2*u.ends.length+u.inputs.length+u.values.length))]++List.replicate 29 none) (zck c s u b F gq wq L g m E++[o0,⟨a.1,.arr a.2 W⟩]) r:=by
  intro st h0
  obtain⟨r,e,a,ha,f,hf,rfl⟩:=lb st h0
  refine⟨_,e,a,ha,?_⟩
  unfold zbi
  rw[hN]
  generalize 2*u.ends.length+u.inputs.length+u.values.length=N at *
  simp[hf.ne]
 generalize 2*u.ends.length+u.inputs.length+u.values.length=N at *
 simp at e189
 rw[qaa,pg303]
 simp[ir303,qah]
 generalize hr:ev pg (.code (.going _ L303_0) _)=o
 obtain⟨r,rfl,f,hf,rfl⟩:∃r,o=some r/\_:=by rw[<-hr];exact la _ (by simp[q3c,nK])
 clear hr
 rw[hla]
 simp[e189,hf.ne,qah]
 generalize hr:ev pg (.code (.going _ L303_1) _)=o
 obtain⟨r,rfl,⟨g2,m2⟩,hm2,f2,hf2,rfl⟩:∃r,o=some r/\_:=by rw[<-hr];exact lb' _ (by simp[hf.ne])
 obtain rfl:m2=1:=hm2
 clear hr
 simp[qcn,qex,qei,hlen]
set_option maxHeartbeats 1000000 in
theorem ev297(c:Ct)(s u b:Ste)(F gq wq:Nat)(L:List Int)(hs:u.small)(h1:1<=u.ends.length):ev pg (.call (.fn 297 [] []) [.bptr 15 0] (zoy c s u b F gq wq L))=some { v:=.sl 29 0 1 0 (qae u).length,st:=⟨[],zoy c s u b F gq wq L++[⟨0,.arr 1 ((qae u).map qfa)⟩]⟩ }:=by
 have hl:=@jdh c s u b F gq wq L hs
 have he:=qes u.ends
 have hlen:=qdn u
 have zck:=fun g m hm=>ev303m c s u b F gq wq L hs h1 g m hm (qem u.ends) he
 unfold zcj at hl
 rw[List.take_length,List.take_zero,qem]at hl
 unfold qae at hlen ⊢
 rw[hlen]
 have hWl:((qem u.ends++u.inputs++u.values).map qfa).length=2*u.ends.length+u.inputs.length+u.values.length:=by rw[List.length_map,hlen]
 generalize (qem u.ends++u.inputs++u.values).map qfa=W at *
 generalize qem u.ends=E at *
 generalize hN:2*u.ends.length+u.inputs.length+u.values.length=N at *
 rw[qaa,pg297]
 simp[ir297,qah]
 generalize hr:ev pg (.code (.going _ L297_0) _)=o
 obtain⟨r,rfl,⟨g,m⟩,hm,f,hf,rfl⟩:∃r,o=some r/\_:=by rw[<-hr];exact hl (0,0) (.inr rfl) (by simp[zrh])
 clear hr
 have hmm:m=1\/m=0:=hm
 have h174':=zck g m hmm
 simp at h174'
 rcases hmm with rfl | rfl<;>simp[qab,exT,qal,zrh,he,h174',qcn,qex,qei,hWl]
abbrev zme(c:Ct)(s u b:Ste)(gq wq:Nat)(L:List Int)(k:Nat):H:=zoy c s (stK c u k) b (qao u) gq wq L++[⟨0,.arr 1 ((qbc c (qao u) k (qae u)).map qfa)⟩]
def zrg(c:Ct)(N k:Nat):Tm:=[bN 15,none,some (.sl 29 0 1 0 N),none,none,none,none,none,none,none,none,none,some (.imm (c.signals.map Sg.row)),some (num c.signals.length),nN k]++zN 29
set_option maxHeartbeats 2000000 in
theorem jdg(c:Ct)(s u b:Ste)(gq wq:Nat)(L:List Int)(hs:u.small)(hS:Shp c u)(hn:c.signals.length<=128)(hF:qao u<=10000)(hok:∀x∈c.signals,x.on.nodes<=256/\x.on.err (qae u).length=0){st:St}(h0:At (zrg c (qae u).length 0) (zme c s u b gq wq L 0) st):∃r,ev pg (.code (.going 30 L296_0) st)=some r/\qaq (.exit 0) (zrg c (qae u).length c.signals.length) (zme c s u b gq wq L c.signals.length) r:=by
 refine qhj c.signals.length (zrg c (qae u).length) (zme c s u b gq wq L) _ ?_ ?_ h0
 .intro k f hf hk
  have hk':(k:Int)<c.signals.length:=by omega
  have wk:=qbb (k:=k) (by omega)
  have hsc:=zat c u k hk
  obtain⟨g1,g2⟩:=hok _ (jH hk)
  have hLl:(qae (stK c u k)).length=(qae u).length:=by rw[qki,qfd]
  have h165:=ev299 (qae (stK c u k)) c.signals[k].on g1 (by rw[hLl];exact g2)
  have hvl:=q2h c u k
  have hkv:k<u.values.length:=by rw[hS.v];exact hk
  have hgt:qbc c (qao u) (k+1) (qae u)=if c.signals[k].kind=0 then(qbc c (qao u) k (qae u)).set (qao u+k) (c.signals[k].on.holds (qae (stK c u k)))else qbc c (qao u) k (qae u):=by
   rw[qbc,qgg,jA hk,qki]
  have hst:∀j,stK c u j=⟨u.ends,u.valves,u.inputs,(stK c u j).values,u.timers⟩:=fun j=>rfl
  have hlt:(qbc c (qao u) k (qae u)).length=(qae u).length:=qfd _ _ _ _
  have hFk:qao u+k<(qae u).length:=by
   rw[qdn];unfold qao;omega
  rw[qki]at h165 hgt
  unfold zme
  rw[hst (k+1),hst k,hsc,hgt,qki]
  unfold zrg
  generalize qbc c (qao u) k (qae u)=G at *
  generalize hv:c.signals[k].on.holds G=v at *
  generalize (stK c u k).values=W at *
  generalize qao u=F at *
  have hkW:k<W.length:=by omega
  have wF:=qan (n:=(F:Int)+k) (by omega) (by omega)
  have pF:(0:Int)<=(F:Int)+k:=by omega
  have tF:((F:Int)+k).toNat=F+k:=by omega
  generalize (qae u).length=N at *
  by_cases h0:c.signals[k].kind=0
  .have hFk':F+k<G.length:=by omega
   simp[qab,exT,qal,L296_0,hk,hk',wk,h0,hlt.symm,h165,hkW,hkv,hFk',hvl,wF,pF,tF,hf.ne]
  .have h0b:(c.signals[k].kind==0)=false:=by simpa using h0
   simp[L296_0,hk,hk',wk,h0,h0b,hf.ne]
 .intro f hf
  unfold zrg zme
  simp[L296_0,hf.ne]
set_option maxHeartbeats 1000000 in
theorem ev296(c:Ct)(s u b:Ste)(gq wq:Nat)(L:List Int)(hs:u.small)(hS:Shp c u)(hn:c.signals.length<=128)(hF:qao u<=10000)(h1:1<=u.ends.length)(hok:∀x∈c.signals,x.on.nodes<=256/\x.on.err (qae u).length=0):ev pg (.call (.fn 296 [] []) [.bptr 15 0] (zoy c s u b (qao u) gq wq L))=some { v:=.tup [],st:=⟨[],zoy c s (qdq c u) b (qao u) gq wq L⟩ }:=by
 have hl:=@jdg c s u b gq wq L hs hS hn hF hok
 have e163:=ev297 c s u b (qao u) gq wq L hs h1
 have hst:∀j,stK c u j=⟨u.ends,u.valves,u.inputs,(stK c u j).values,u.timers⟩:=fun j=>rfl
 have hvl:=q2h c u c.signals.length
 unfold zme at hl
 rw[zau,q7x,show qbc c (qao u) 0 (qae u)=qae u from rfl]at hl
 rw[q7x]at hvl
 have hg:qdq c u=⟨u.ends,u.valves,u.inputs,(qdq c u).values,u.timers⟩:=rfl
 rw[hg]at hl ⊢
 generalize (qdq c u).values=W at *
 generalize qbc c (qao u) c.signals.length (qae u)=G at *
 generalize qao u=F at *
 generalize qae u=LL at *
 simp at e163
 rw[qaa,pg296]
 simp[ir296,e163,qah]
 generalize hr:ev pg (.code (.going _ L296_0) _)=o
 obtain⟨r,rfl,f,hf,rfl⟩:∃r,o=some r/\_:=by rw[<-hr];exact hl (by simp[zrg])
 clear hr
 simp[zrg]
abbrev chg(v:Bool)(t:Int)(b:Bool):V:=.agg [.bool v,num t,.bool b]
theorem ev304(v:Bool)(t:Int)(b on off:Bool):ev pg (.call (.fn 304 [] []) [chg v t b,.bool on,.bool off] [])=some { v:=chg v t b,st:=⟨[],[]⟩ }:=by
 rw[qaa,pg304]
 simp[ir304]
theorem ev305(v:Bool)(t:Int)(b on off:Bool):ev pg (.call (.fn 305 [] []) [chg v t b,.bool on,.bool off] [])=some { v:=chg (if on != off then on else v) t (on&&off),st:=⟨[],[]⟩ }:=by
 rw[qaa,pg305]
 cases on<;>cases off<;>simp[ir305]
theorem ev306(v:Bool)(t:Int)(b on off:Bool):ev pg (.call (.fn 306 [] []) [chg v t b,.bool on,.bool off] [])=some { v:=if on=true then chg v (if t=0 then 1 else t) b else chg false 0 false,st:=⟨[],[]⟩ }:=by
 rw[qaa,pg306]
 cases on with
 | false=>simp[ir306]
 | true =>
  by_cases h:t=0
  .simp[ir306,h]
  .have hb:(t==0)=false:=by simpa using h
   simp[ir306,h,hb]
abbrev z2d:V:=.agg [.fn 304 [] [],.fn 305 [] [],.fn 306 [] []]
theorem ev298:ev pg (.call (.fn 298 [] []) [] [])=some { v:=z2d,st:=⟨[],[]⟩ }:=by
 rw[qaa,pg298]
 simp[ir298]
theorem qzy(s:Ste):qhf s s=true:=qgm.2 rfl
theorem qtp{c:Ct}:∀{d:Nat} {s:Ste} {l:List Int} {t:Ste} {m:List Int},qft c d s l=some (t,m)->∃a,qce c t=some (t,a)
 | 0,_,_,_,_,h=>by cases h
 | d+1,s,l,t,m,h=>by
  rw[qft]at h
  cases e:qce c s with
  | none=>rw[e]at h;cases h
  | some x =>
   rw[e]at h
   simp only at h
   split at h
   .rename_i hs
    cases h
    have:=qgm.1 hs
    exact⟨x.2,by rw[e,this]⟩
   .exact qtp h
theorem q7q{c:Ct}{s t:Ste}{m:List Int}(h:qif c s=some (t,m)):∃a,qce c t=some (t,a):=qtp h
theorem zdo{c:Ct}{t:Ste}{a:List Int}(h:qce c t=some (t,a)):qif c t=some (t,norm (qou c) a):=by
 unfold qif
 rw[qft,h]
 simp only[qzy,if_true,List.nil_append]
theorem qre{c:Ct}{N:Nat}:∀{d:Nat} {s:Ste} {l:List Int} {t:Ste} {m:List Int},qcz c N d s l=some (t,m)->t.ends=s.ends/\t.valves=s.valves/\t.inputs=s.inputs
 | 0,_,_,_,_,h=>by cases h
 | d+1,s,l,t,m,h=>by
  rw[qcz]at h
  split at h
  .cases h;exact⟨rfl,rfl,rfl⟩
  .exact qre (s:=qgj c s) h
theorem qmz{c:Ct}{s t:Ste}{m:List Int}(h:qca c s=some (t,m)):t.ends=s.ends/\t.valves=s.valves/\t.inputs=s.inputs:=qre h
theorem qjr{c:Ct}{s t:Ste}{a:List Int}(h:qce c s=some (t,a)):∃u m,qca c s=some (u,m)/\t=qjw (qgn c u)/\a=norm (qou c) (m++qme c u):=by
 unfold qce at h
 cases e:qca c s with
 | none=>rw[e]at h;cases h
 | some x =>
  rw[e]at h
  cases h
  exact⟨x.1,x.2,rfl,rfl,rfl⟩
theorem q2b{c:Ct}{s t:Ste}{a:List Int}(h:qce c s=some (t,a)):t.inputs=s.inputs:=by
 obtain⟨u,m,hu,rfl,_⟩:=qjr h
 exact(qmz hu).2.2
theorem qqy{c:Ct}:∀{d:Nat} {s:Ste} {l:List Int} {t:Ste} {m:List Int},qft c d s l=some (t,m)->t.inputs=s.inputs
 | 0,_,_,_,_,h=>by cases h
 | d+1,s,l,t,m,h=>by
  rw[qft]at h
  cases e:qce c s with
  | none=>rw[e]at h;cases h
  | some x =>
   rw[e]at h
   simp only at h
   split at h
   .cases h;rfl
   .rw[qqy h,q2b (show qce c s=some (x.1,x.2)from e)]
theorem q5j{c:Ct}{s t:Ste}{m:List Int}(h:qif c s=some (t,m)):t.inputs=s.inputs:=qqy h
structure Evn where
 kind:Int
 idx:Int
 val:Bool
abbrev Evn.row(x:Evn):List V:=[num x.kind,num x.idx,.bool x.val]
def zyr(a b:Ste)(i:Nat):Option (Int×Bool):=match a.ends[i]?,b.ends[i]? with
 | some x,some y=>if(y=1\/y=3)/\x≠y then some (i,y==1)else none
 | _,_=>none
def zys(a b:Ste):List (Int×Bool):=(List.range a.ends.length).filterMap (zyr a b)
def qbm(s:Ste)(k:Int)(i:Nat):Bool:=if k=0 then((s.ends[i]?).map fun e=>e==1||e==3).getD false else((s.timers[i]?).map fun t=>t==1).getD false
def qdg(s:Ste):List Evn:=((List.range s.ends.length).filter (qbm s 0)).map (fun(i:Nat)=>⟨0,i,false⟩)++((List.range s.timers.length).filter (qbm s 1)).map fun(i:Nat)=>⟨1,i,false⟩
def qpc(s:Ste)(x:Evn):Bool :=
 if x.idx<0 then false
 else if x.kind=2 then((s.inputs[x.idx.toNat]?).map fun v=>v != x.val).getD false
 else qbm s x.kind x.idx.toNat
def qen(s:Ste)(x:Evn):Ste :=
 if x.kind=0 then⟨s.ends.set x.idx.toNat (if s.ends[x.idx.toNat]?=some 1 then 2 else 0),s.valves,s.inputs,s.values,s.timers⟩
 else if x.kind=1 then⟨s.ends,s.valves,s.inputs,s.values.set x.idx.toNat true,s.timers.set x.idx.toNat 2⟩
 else⟨s.ends,s.valves,s.inputs.set x.idx.toNat x.val,s.values,s.timers⟩
def qhd(c:Ct)(s:Ste):Ste×List Int×Int:=match qif c s with
 | some x=>(x.1,x.2,0)
 | none=>(zeroS,[],21)
def qdy(c:Ct)(s:Ste)(x:Evn):Ste×List Int×Int :=
 if x.kind<0\/2<x.kind then(zeroS,[],1)else if qpc s x=true then qhd c (qen s x)else(zeroS,[],14)
structure Crs where
 st:Ste
 strokes:List (List (Int×Bool))
 conf:List Int
def q8g:Crs:=⟨zeroS,[],[]⟩
def zvs(c:Ct):List Evn->Nat->Crs->Crs×Int×Int
 | [],_,r=>(r,0,0)
 | x :: l,i,r=>if(qdy c r.st x).2.2=0 then zvs c l (i+1) ⟨(qdy c r.st x).1,r.strokes++[zys r.st (qdy c r.st x).1],norm (qou c) (r.conf++(qdy c r.st x).2.1)⟩else(q8g,i,(qdy c r.st x).2.2)
end Go.Proofs.YtbepbclaoohngaaGreat
