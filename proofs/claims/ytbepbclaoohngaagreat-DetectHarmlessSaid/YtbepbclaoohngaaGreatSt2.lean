/- What is at rest. -/
import Derived.Test.YtbepbclaoohngaaGreatSv1
import Derived.KernelRfl
set_option linter.all false
namespace Go.Proofs.YtbepbclaoohngaaGreat
open Go Go.Am Go.Proofs
set_option maxRecDepth 100000
abbrev sl5(i:Nat)(u:Ste):List V:=[.sl i 0 1 0 u.ends.length,.sl (i+1) 0 1 0 u.valves.length,.sl (i+2) 0 1 0 u.inputs.length,.sl (i+3) 0 1 0 u.values.length,.sl (i+4) 0 1 0 u.timers.length]
abbrev ar5(u:Ste):H:=[⟨0,.arr 1 (u.ends.map qbo)⟩,⟨0,.arr 1 (u.valves.map qhq)⟩,⟨0,.arr 1 (u.inputs.map qhq)⟩,⟨0,.arr 1 (u.values.map qhq)⟩,⟨0,.arr 1 (u.timers.map qbo)⟩]
abbrev hM(c:Ct)(s u:Ste)(F:Nat):H:=[⟨0,.box c.cells⟩,⟨0,.box s.cells⟩,o0,o0,o0,o0,o0,⟨0,.box (zop 2)⟩,⟨0,.box c.cells⟩,⟨0,.box s.cells⟩]++ar5 u++[⟨0,.box (c.cells++sl5 10 u++[num F])⟩]
abbrev hQ(g w:Nat)(L:List Int):H:=[o0,⟨g,.arr w (L.map qbo)⟩]
abbrev hB(b:Ste):H:=ar5 b++[o0,o0,o0,o0,o0,⟨0,.box (sl5 18 b)⟩]
abbrev zqh(c:Ct)(s u b:Ste)(F gq wq:Nat)(L:List Int):H:=hM c s u F++hQ gq wq L++hB b
abbrev zdl(c:Ct)(s u b:Ste)(F gq wq:Nat)(L:List Int)(k:Nat)(a:Nat×Nat):H:=zqh c s u b F gq wq L++[o0,⟨a.1,.arr a.2 ((qfj (u.ends.take k)).map qhq)⟩]
def zsq(u:Ste)(k:Nat)(a:Nat×Nat):Tm:=[bN 15,none,some (.sl 29 0 0 0 0),some (.sl 30 a.1 a.2 0 (2*k)),none,none,none,none,none,none,some (.sl 10 0 1 0 u.ends.length),some (num u.ends.length),nN k]++zN 24
set_option maxHeartbeats 1000000 in
theorem jdb(c:Ct)(s u b:Ste)(F gq wq:Nat)(L:List Int)(hs:u.small){st:St}(a0:Nat×Nat)(g0:a0.2=1\/a0.2=0)(h0:At (zsq u 0 a0) (zdl c s u b F gq wq L 0 a0) st):∃r,ev pg (.code (.going 31 L297_0) st)=some r/\∃a:Nat×Nat,(a.2=1\/a.2=0)/\qbn (.exit 0) (zsq u u.ends.length a) (zdl c s u b F gq wq L u.ends.length a) r:=by
 have hse:=hs.e
 refine qev u.ends.length (zsq u) (zdl c s u b F gq wq L) (fun _ a=>a.2=1\/a.2=0) _ ?_ ?_ a0 g0 h0
 .rintro k ⟨g,m⟩ f hf hk hG
  have hk':(k:Int)<u.ends.length:=by omega
  have wk:=qbs (k:=k) (by omega)
  have hlen:(qfj (u.ends.take k)).length=2*k:=by rw[qfp,List.length_take];omega
  have hb:2*k+2<=140737488355328:=by omega
  have h2:2*(k+1)=2*k+2:=by omega
  unfold zsq zdl
  rw[qzo hk,h2]
  generalize qfj (u.ends.take k)=W at *
  have hmm:m=1\/m=0:=hG
  rcases hmm with rfl | rfl<;>simp[L297_0,hk,hk',wk,hb,hlen,hf.ne]
 .rintro⟨g,m⟩ f hf hG
  unfold zsq zdl
  generalize qfj (u.ends.take u.ends.length)=W at *
  generalize 2*u.ends.length=N at *
  have hmm:m=1\/m=0:=hG
  rcases hmm with rfl | rfl<;>simp[L297_0,hf.ne]
theorem ev313h{h:H}(hc:calm h)(n:Nat)(h1:1<=n)(hn:n<=100000):ev pg (.call (.fn 313 [] []) [.nils,num n] h)=some { v:=.sl h.length 0 1 0 0,st:=⟨[],h++[⟨0,.arr 1 []⟩]⟩ }:=by
 have w1:=qan (n:=(n:Int)) (by omega) (by omega)
 have p1:¬((n:Int)<0):=by omega
 have w0:=qan (n:=0) (by omega) (by omega)
 have p3:n*1<=140737488355328:=by omega
 have p4:n<=140737488355328:=by omega
 have hn0:0<n:=by omega
 have hne:¬n=0:=by omega
 have hne2:¬0=n:=by omega
 have hcm:h.map (qcc h.length)=h:=hc
 rw[qab,pg313]
 simp[ir313,w0,w1,p1,hn0,hne,hne2,p3,p4,qcm,qeo,qee,hcm]
def nK(a b c k:Nat):Nat:=if k=0 then 0 else if k=1 then a else if k=2 then a+b else a+b+c
def wK(a b c:List Bool)(k:Nat):List Bool:=if k=0 then []else if k=1 then a else if k=2 then a++b else a++b++c
abbrev vw3(u:Ste)(g m:Nat):V:=.view false [.sl 30 g m 0 (2*u.ends.length),.sl 12 0 1 0 u.inputs.length,.sl 13 0 1 0 u.values.length]
abbrev zdm(c:Ct)(s u b:Ste)(F gq wq:Nat)(L:List Int)(g m:Nat)(E:List Bool):H:=zqh c s u b F gq wq L++[o0,⟨g,.arr m (E.map qhq)⟩]
def q4d(u:Ste)(g m k:Nat):Tm:=[some (vw3 u g m),none,some (.sl 31 0 0 0 0),some (num (nK (2*u.ends.length) u.inputs.length u.values.length k)),none,none,none,none,none,some (vw3 u g m),nN 3,nN k]++zN 24
def zco(u:Ste)(g m k:Nat)(a:Nat×Nat):Tm:=[some (vw3 u g m),none,some (.sl 31 0 0 0 0),none,none,none,some (.sl 32 a.1 a.2 0 (nK (2*u.ends.length) u.inputs.length u.values.length k))]++zN 18++[some (vw3 u g m),nN 3,nN k]++zN 8
set_option maxHeartbeats 2000000 in
theorem ev303m(c:Ct)(s u b:Ste)(F gq wq:Nat)(L:List Int)(hs:u.small)(h1:1<=u.ends.length)(g m:Nat)(hm:m=1\/m=0)(E:List Bool)(hE:E.length=2*u.ends.length):ev pg (.call (.fn 303 [] []) [vw3 u g m] (zdm c s u b F gq wq L g m E))=some { v:=.sl 31 0 1 0 (2*u.ends.length+u.inputs.length+u.values.length),st:=⟨[],zdm c s u b F gq wq L g m E++[⟨0,.arr 1 ((E++u.inputs++u.values).map qhq)⟩]⟩ }:=by
 have s1:=hs.e
 have s2:=hs.i
 have s3:=hs.v
 have la:∀st,At (q4d u g m 0) (zdm c s u b F gq wq L g m E++[o0]) st->∃r,ev pg (.code (.going 32 L303_0) st)=some r/\qbn (.exit 0) (q4d u g m 3) (zdm c s u b F gq wq L g m E++[o0]) r:=by
  intro st h0
  refine qnw 3 (q4d u g m) (fun _=>zdm c s u b F gq wq L g m E++[o0]) _ ?_ ?_ h0
  .intro k f hf hk
   have hk3:k=0\/k=1\/k=2:=by omega
   have x1:¬(2*(u.ends.length:Int))<0:=by omega
   have x2:¬(2*(u.ends.length:Int)+(u.inputs.length:Int))<0:=by omega
   have x3:¬(2*(u.ends.length:Int)+(u.inputs.length:Int)+(u.values.length:Int))<0:=by omega
   have y1:=qan (n:=2*(u.ends.length:Int)) (by omega) (by omega)
   have y2:=qan (n:=2*(u.ends.length:Int)+(u.inputs.length:Int)) (by omega) (by omega)
   have y3:=qan (n:=2*(u.ends.length:Int)+(u.inputs.length:Int)+(u.values.length:Int)) (by omega) (by omega)
   have z1:IntKind.i64.wrap 1=1:=by decide
   have z2:IntKind.i64.wrap 2=2:=by decide
   have z3:IntKind.i64.wrap 3=3:=by decide
   rcases hk3 with rfl | rfl | rfl<;>rcases hm with rfl | rfl<;>simp[L303_0,q4d,nK,x1,x2,x3,y1,y2,y3,z1,z2,z3,hf.ne]
  .intro f hf
   simp[L303_0,q4d,hf.ne]
 have lb:∀st,At (zco u g m 0 (0,1)) (zdm c s u b F gq wq L g m E++[o0,⟨0,.arr 1 []⟩]) st->∃r,ev pg (.code (.going 33 L303_1) st)=some r/\∃a:Nat×Nat,a.2=1/\qbn (.exit 2) (zco u g m 3 a) (zdm c s u b F gq wq L g m E++[o0,⟨a.1,.arr a.2 ((wK E u.inputs u.values 3).map qhq)⟩]) r:=by
  intro st h0
  refine qev 3 (zco u g m) (fun k a=>zdm c s u b F gq wq L g m E++[o0,⟨a.1,.arr a.2 ((wK E u.inputs u.values k).map qhq)⟩]) (fun _ a=>a.2=1) _ ?_ ?_ (0,1) rfl (by simpa[wK]using h0)
  .rintro k ⟨g2,m2⟩ f hf hk hG
   obtain rfl:m2=1:=hG
   have hk3:k=0\/k=1\/k=2:=by omega
   have z1:IntKind.i64.wrap 1=1:=by decide
   have z2:IntKind.i64.wrap 2=2:=by decide
   have z3:IntKind.i64.wrap 3=3:=by decide
   have y1:2*u.ends.length<=140737488355328:=by omega
   have y2:2*u.ends.length+u.inputs.length<=140737488355328:=by omega
   have y3:2*u.ends.length+u.inputs.length+u.values.length<=140737488355328:=by omega
   rcases hk3 with rfl | rfl | rfl<;>rcases hm with rfl | rfl<;>simp[L303_1,zco,nK,wK,hE,y1,y2,y3,z1,z2,z3,hf.ne]
  .rintro⟨g2,m2⟩ f hf hG
   obtain rfl:m2=1:=hG
   simp[L303_1,zco,hf.ne]
 have hcal:calm (zdm c s u b F gq wq L g m E++[o0]):=by
  unfold calm
  simp
 have e189:=ev313h hcal (2*u.ends.length+u.inputs.length+u.values.length) (by omega) (by omega)
 have hW:wK E u.inputs u.values 3=E++u.inputs++u.values:=by simp[wK]
 have hN:nK (2*u.ends.length) u.inputs.length u.values.length 3=2*u.ends.length+u.inputs.length+u.values.length:=by simp[nK]
 have hla:∀f,fill f 0 (q4d u g m 3)=fill f 0 ([some (vw3 u g m),none,some (.sl 31 0 0 0 0),some (num (2*u.ends.length+u.inputs.length+u.values.length:Nat)),none,none,none,none,none,some (vw3 u g m),some (num 3),some (num 3)]++List.replicate 24 none):=fun f=>by
  unfold q4d
  rw[hN]
  rfl
 rw[hW]at lb
 have hlen:((E++u.inputs++u.values).map qhq).length=2*u.ends.length+u.inputs.length+u.values.length:=by
  simp[hE]
  omega
 generalize (E++u.inputs++u.values).map qhq=W at *
 have lb':∀st,At ([some (vw3 u g m),none,some (.sl 31 0 0 0 0),none,none,none,some (.sl 32 0 1 0 0)]++List.replicate 18 none++[some (vw3 u g m),some (num 3),some (num 0)]++List.replicate 8 none) (zdm c s u b F gq wq L g m E++[o0,⟨0,.arr 1 []⟩]) st->∃r,ev pg (.code (.going 33 L303_1) st)=some r/\∃a:Nat×Nat,a.2=1/\qbn (.exit 2) ([none,none,none,none,none,none,some (.sl 32 a.1 a.2 0 (2*u.ends.length+u.inputs.length+u.values.length))]++List.replicate 29 none) (zdm c s u b F gq wq L g m E++[o0,⟨a.1,.arr a.2 W⟩]) r:=by
  intro st h0
  obtain⟨r,e,a,ha,f,hf,rfl⟩:=lb st h0
  refine⟨_,e,a,ha,?_⟩
  unfold zco
  rw[hN]
  generalize 2*u.ends.length+u.inputs.length+u.values.length=N at *
  simp[hf.ne]
 generalize 2*u.ends.length+u.inputs.length+u.values.length=N at *
 simp at e189
 rw[qab,pg303]
 simp[ir303,qam]
 generalize hr:ev pg (.code (.going _ L303_0) _)=o
 obtain⟨r,rfl,f,hf,rfl⟩:∃r,o=some r/\_:=by rw[<-hr];exact la _ (by simp[q4d,nK])
 clear hr
 rw[hla]
 simp[e189,hf.ne,qam]
 generalize hr:ev pg (.code (.going _ L303_1) _)=o
 obtain⟨r,rfl,⟨g2,m2⟩,hm2,f2,hf2,rfl⟩:∃r,o=some r/\_:=by rw[<-hr];exact lb' _ (by simp[hf.ne])
 obtain rfl:m2=1:=hm2
 clear hr
 simp[qcm,qeo,qee,hlen]
set_option maxHeartbeats 1000000 in
theorem ev297(c:Ct)(s u b:Ste)(F gq wq:Nat)(L:List Int)(hs:u.small)(h1:1<=u.ends.length):ev pg (.call (.fn 297 [] []) [.bptr 15 0] (zqh c s u b F gq wq L))=some { v:=.sl 29 0 1 0 (qah u).length,st:=⟨[],zqh c s u b F gq wq L++[⟨0,.arr 1 ((qah u).map qhq)⟩]⟩ }:=by
 have hl:=@jdb c s u b F gq wq L hs
 have he:=qfp u.ends
 have hlen:=qgh u
 have zdm:=fun g m hm=>ev303m c s u b F gq wq L hs h1 g m hm (qfj u.ends) he
 unfold zdl at hl
 rw[List.take_length,List.take_zero,qfj]at hl
 unfold qah at hlen ⊢
 rw[hlen]
 have hWl:((qfj u.ends++u.inputs++u.values).map qhq).length=2*u.ends.length+u.inputs.length+u.values.length:=by rw[List.length_map,hlen]
 generalize (qfj u.ends++u.inputs++u.values).map qhq=W at *
 generalize qfj u.ends=E at *
 generalize hN:2*u.ends.length+u.inputs.length+u.values.length=N at *
 rw[qab,pg297]
 simp[ir297,qam]
 generalize hr:ev pg (.code (.going _ L297_0) _)=o
 obtain⟨r,rfl,⟨g,m⟩,hm,f,hf,rfl⟩:∃r,o=some r/\_:=by rw[<-hr];exact hl (0,0) (.inr rfl) (by simp[zsq])
 clear hr
 have hmm:m=1\/m=0:=hm
 have h174':=zdm g m hmm
 simp at h174'
 rcases hmm with rfl | rfl<;>simp[qaa,exT,qak,zsq,he,h174',qcm,qeo,qee,hWl]
abbrev znr(c:Ct)(s u b:Ste)(gq wq:Nat)(L:List Int)(k:Nat):H:=zqh c s (stK c u k) b (qar u) gq wq L++[⟨0,.arr 1 ((qbc c (qar u) k (qah u)).map qhq)⟩]
def zsp(c:Ct)(N k:Nat):Tm:=[bN 15,none,some (.sl 29 0 1 0 N),none,none,none,none,none,none,none,none,none,some (.imm (c.signals.map Sg.row)),some (num c.signals.length),nN k]++zN 29
set_option maxHeartbeats 2000000 in
theorem jda(c:Ct)(s u b:Ste)(gq wq:Nat)(L:List Int)(hs:u.small)(hS:Shp c u)(hn:c.signals.length<=128)(hF:qar u<=10000)(hok:∀x∈c.signals,x.on.nodes<=256/\x.on.err (qah u).length=0){st:St}(h0:At (zsp c (qah u).length 0) (znr c s u b gq wq L 0) st):∃r,ev pg (.code (.going 30 L296_0) st)=some r/\qbn (.exit 0) (zsp c (qah u).length c.signals.length) (znr c s u b gq wq L c.signals.length) r:=by
 refine qnw c.signals.length (zsp c (qah u).length) (znr c s u b gq wq L) _ ?_ ?_ h0
 .intro k f hf hk
  have hk':(k:Int)<c.signals.length:=by omega
  have wk:=qbs (k:=k) (by omega)
  have hsc:=zpk c u k hk
  obtain⟨g1,g2⟩:=hok _ (jH hk)
  have hLl:(qah (stK c u k)).length=(qah u).length:=by rw[qmm,qgc]
  have h165:=ev299 (qah (stK c u k)) c.signals[k].on g1 (by rw[hLl];exact g2)
  have hvl:=zks c u k
  have hkv:k<u.values.length:=by rw[hS.v];exact hk
  have hgt:qbc c (qar u) (k+1) (qah u)=if c.signals[k].kind=0 then(qbc c (qar u) k (qah u)).set (qar u+k) (c.signals[k].on.holds (qah (stK c u k)))else qbc c (qar u) k (qah u):=by
   rw[qbc,qgm,jA hk,qmm]
  have hst:∀j,stK c u j=⟨u.ends,u.valves,u.inputs,(stK c u j).values,u.timers⟩:=fun j=>rfl
  have hlt:(qbc c (qar u) k (qah u)).length=(qah u).length:=qgc _ _ _ _
  have hFk:qar u+k<(qah u).length:=by
   rw[qgh];unfold qar;omega
  rw[qmm]at h165 hgt
  unfold znr
  rw[hst (k+1),hst k,hsc,hgt,qmm]
  unfold zsp
  generalize qbc c (qar u) k (qah u)=G at *
  generalize hv:c.signals[k].on.holds G=v at *
  generalize (stK c u k).values=W at *
  generalize qar u=F at *
  have hkW:k<W.length:=by omega
  have wF:=qan (n:=(F:Int)+k) (by omega) (by omega)
  have pF:(0:Int)<=(F:Int)+k:=by omega
  have tF:((F:Int)+k).toNat=F+k:=by omega
  generalize (qah u).length=N at *
  by_cases h0:c.signals[k].kind=0
  .have hFk':F+k<G.length:=by omega
   simp[qaa,exT,qak,L296_0,hk,hk',wk,h0,hlt.symm,h165,hkW,hkv,hFk',hvl,wF,pF,tF,hf.ne]
  .have h0b:(c.signals[k].kind==0)=false:=by simpa using h0
   simp[L296_0,hk,hk',wk,h0,h0b,hf.ne]
 .intro f hf
  unfold zsp znr
  simp[L296_0,hf.ne]
set_option maxHeartbeats 1000000 in
theorem ev296(c:Ct)(s u b:Ste)(gq wq:Nat)(L:List Int)(hs:u.small)(hS:Shp c u)(hn:c.signals.length<=128)(hF:qar u<=10000)(h1:1<=u.ends.length)(hok:∀x∈c.signals,x.on.nodes<=256/\x.on.err (qah u).length=0):ev pg (.call (.fn 296 [] []) [.bptr 15 0] (zqh c s u b (qar u) gq wq L))=some { v:=.tup [],st:=⟨[],zqh c s (qfl c u) b (qar u) gq wq L⟩ }:=by
 have hl:=@jda c s u b gq wq L hs hS hn hF hok
 have e163:=ev297 c s u b (qar u) gq wq L hs h1
 have hst:∀j,stK c u j=⟨u.ends,u.valves,u.inputs,(stK c u j).values,u.timers⟩:=fun j=>rfl
 have hvl:=zks c u c.signals.length
 unfold znr at hl
 rw[zpl,zkr,show qbc c (qar u) 0 (qah u)=qah u from rfl]at hl
 rw[zkr]at hvl
 have hg:qfl c u=⟨u.ends,u.valves,u.inputs,(qfl c u).values,u.timers⟩:=rfl
 rw[hg]at hl ⊢
 generalize (qfl c u).values=W at *
 generalize qbc c (qar u) c.signals.length (qah u)=G at *
 generalize qar u=F at *
 generalize qah u=LL at *
 simp at e163
 rw[qab,pg296]
 simp[ir296,e163,qam]
 generalize hr:ev pg (.code (.going _ L296_0) _)=o
 obtain⟨r,rfl,f,hf,rfl⟩:∃r,o=some r/\_:=by rw[<-hr];exact hl (by simp[zsp])
 clear hr
 simp[zsp]
abbrev chg(v:Bool)(t:Int)(b:Bool):V:=.agg [.bool v,num t,.bool b]
theorem ev304(v:Bool)(t:Int)(b on off:Bool):ev pg (.call (.fn 304 [] []) [chg v t b,.bool on,.bool off] [])=some { v:=chg v t b,st:=⟨[],[]⟩ }:=by
 rw[qab,pg304]
 simp[ir304]
theorem ev305(v:Bool)(t:Int)(b on off:Bool):ev pg (.call (.fn 305 [] []) [chg v t b,.bool on,.bool off] [])=some { v:=chg (if on != off then on else v) t (on&&off),st:=⟨[],[]⟩ }:=by
 rw[qab,pg305]
 cases on<;>cases off<;>simp[ir305]
theorem ev306(v:Bool)(t:Int)(b on off:Bool):ev pg (.call (.fn 306 [] []) [chg v t b,.bool on,.bool off] [])=some { v:=if on=true then chg v (if t=0 then 1 else t) b else chg false 0 false,st:=⟨[],[]⟩ }:=by
 rw[qab,pg306]
 cases on with
 | false=>simp[ir306]
 | true =>
  by_cases h:t=0
  .simp[ir306,h]
  .have hb:(t==0)=false:=by simpa using h
   simp[ir306,h,hb]
abbrev z3e:V:=.agg [.fn 304 [] [],.fn 305 [] [],.fn 306 [] []]
theorem ev298:ev pg (.call (.fn 298 [] []) [] [])=some { v:=z3e,st:=⟨[],[]⟩ }:=by
 rw[qab,pg298]
 simp[ir298]
theorem q1b(s:Ste):qks s s=true:=qhz.2 rfl
theorem quf{c:Ct}:∀{d:Nat} {s:Ste} {l:List Int} {t:Ste} {m:List Int},qgp c d s l=some (t,m)->∃a,qda c t=some (t,a)
 | 0,_,_,_,_,h=>by cases h
 | d+1,s,l,t,m,h=>by
  rw[qgp]at h
  cases e:qda c s with
  | none=>rw[e]at h;cases h
  | some x =>
   rw[e]at h
   simp only at h
   split at h
   .rename_i hs
    cases h
    have:=qhz.1 hs
    exact⟨x.2,by rw[e,this]⟩
   .exact quf h
theorem qxx{c:Ct}{s t:Ste}{m:List Int}(h:qlq c s=some (t,m)):∃a,qda c t=some (t,a):=quf h
theorem zev{c:Ct}{t:Ste}{a:List Int}(h:qda c t=some (t,a)):qlq c t=some (t,norm (qos c) a):=by
 unfold qlq
 rw[qgp,h]
 simp only[q1b,if_true,List.nil_append]
theorem qru{c:Ct}{N:Nat}:∀{d:Nat} {s:Ste} {l:List Int} {t:Ste} {m:List Int},qff c N d s l=some (t,m)->t.ends=s.ends/\t.valves=s.valves/\t.inputs=s.inputs
 | 0,_,_,_,_,h=>by cases h
 | d+1,s,l,t,m,h=>by
  rw[qff]at h
  split at h
  .cases h;exact⟨rfl,rfl,rfl⟩
  .exact qru (s:=qmc c s) h
theorem qkc{c:Ct}{s t:Ste}{m:List Int}(h:qdh c s=some (t,m)):t.ends=s.ends/\t.valves=s.valves/\t.inputs=s.inputs:=qru h
theorem qka{c:Ct}{s t:Ste}{a:List Int}(h:qda c s=some (t,a)):∃u m,qdh c s=some (u,m)/\t=qlf (qhj c u)/\a=norm (qos c) (m++qpe c u):=by
 unfold qda at h
 cases e:qdh c s with
 | none=>rw[e]at h;cases h
 | some x =>
  rw[e]at h
  cases h
  exact⟨x.1,x.2,rfl,rfl,rfl⟩
theorem q3e{c:Ct}{s t:Ste}{a:List Int}(h:qda c s=some (t,a)):t.inputs=s.inputs:=by
 obtain⟨u,m,hu,rfl,_⟩:=qka h
 exact(qkc hu).2.2
theorem qro{c:Ct}:∀{d:Nat} {s:Ste} {l:List Int} {t:Ste} {m:List Int},qgp c d s l=some (t,m)->t.inputs=s.inputs
 | 0,_,_,_,_,h=>by cases h
 | d+1,s,l,t,m,h=>by
  rw[qgp]at h
  cases e:qda c s with
  | none=>rw[e]at h;cases h
  | some x =>
   rw[e]at h
   simp only at h
   split at h
   .cases h;rfl
   .rw[qro h,q3e (show qda c s=some (x.1,x.2)from e)]
theorem q6l{c:Ct}{s t:Ste}{m:List Int}(h:qlq c s=some (t,m)):t.inputs=s.inputs:=qro h
theorem qpv{c:Ct}{t:Ste}{a:List Int}(h:qda c t=some (t,a)):(∃m,qdh c t=some (t,m))/\qhj c t=t/\qlf t=t:=by
 obtain⟨u,m,hu,ht,_⟩:=qka h
 obtain⟨h1,h2,h3⟩:=qkc hu
 have e4:t.values=u.values:=by rw[ht];rfl
 have e5:t.timers=u.timers:=by rw[ht];rfl
 have hut:u=t:=by
  cases u;cases t
  simp only at h1 h2 h3 e4 e5
  subst h1 h2 h3 e4 e5
  rfl
 subst hut
 have hv:(qhj c u).valves=u.valves:=by
  have:=congrArg Ste.valves ht
  exact this.symm
 have hvv:qhj c u=u:=by
  have e:qhj c u=⟨u.ends,(qhj c u).valves,u.inputs,u.values,u.timers⟩:=rfl
  rw[e,hv]
 rw[hvv]at ht
 exact⟨⟨m,hu⟩,hvv,ht.symm⟩
theorem zku{c:Ct}{t:Ste}{a:List Int}(hs:stE c t=0)(h:qda c t=some (t,a)){i:Nat}(hi:i<t.ends.length)(hv:i<t.valves.length):t.valves[i]=(t.ends[i]==2||t.ends[i]==1):=by
 obtain⟨_,_,hg⟩:=qpv h
 have he:=(qgk.1 (qhh.1 hs).2.2.1) _ (jH hi)
 have h2:(qlf t).ends[i]?=t.ends[i]?:=by rw[hg]
 unfold qlf at h2
 simp only at h2
 rw[List.getElem?_zipWith,jA hv,jA hi]at h2
 simp only[jC]at h2
 generalize t.ends[i]=e at *
 generalize t.valves[i]=v at *
 unfold qut at h2
 cases v with
 | true =>
  simp at h2
  have h3:e≠0/\e≠3:=by omega
  have:e=1\/e=2:=by omega
  rcases this with rfl | rfl<;>rfl
 | false =>
  simp at h2
  have:e=0\/e=3:=by omega
  rcases this with rfl | rfl<;>rfl
theorem q9c{c:Ct}{t:Ste}{a:List Int}(h:qda c t=some (t,a)){i:Nat}(hv:i<t.valves.length)(hp:qdv (qah t) c.plus i≠qdv (qah t) c.minus i):t.valves[i]=qdv (qah t) c.plus i:=by
 obtain⟨_,hg,_⟩:=qpv h
 have h2:(qhj c t).valves[i]?=t.valves[i]?:=by rw[hg]
 unfold qhj at h2
 simp only at h2
 rw[List.getElem?_mapIdx,jA hv]at h2
 simp only[Option.map_some,jC]at h2
 unfold qsc at h2
 rw[if_pos (by rw[bne_iff_ne];exact hp)]at h2
 exact h2.symm
structure Evn where
 kind:Int
 idx:Int
 val:Bool
abbrev Evn.row(x:Evn):List V:=[num x.kind,num x.idx,.bool x.val]
def qwd(a b:Ste)(i:Nat):Option (Int×Bool):=match a.ends[i]?,b.ends[i]? with
 | some x,some y=>if(y=1\/y=3)/\x≠y then some (i,y==1)else none
 | _,_=>none
def qjv(a b:Ste):List (Int×Bool):=(List.range a.ends.length).filterMap (qwd a b)
def qdg(s:Ste)(k:Int)(i:Nat):Bool:=if k=0 then((s.ends[i]?).map fun e=>e==1||e==3).getD false else((s.timers[i]?).map fun t=>t==1).getD false
def qop(s:Ste):List Evn:=((List.range s.ends.length).filter (qdg s 0)).map (fun(i:Nat)=>⟨0,i,false⟩)++((List.range s.timers.length).filter (qdg s 1)).map fun(i:Nat)=>⟨1,i,false⟩
def qow(s:Ste)(x:Evn):Bool :=
 if x.idx<0 then false
 else if x.kind=2 then((s.inputs[x.idx.toNat]?).map fun v=>v != x.val).getD false
 else qdg s x.kind x.idx.toNat
def qer(s:Ste)(x:Evn):Ste :=
 if x.kind=0 then⟨s.ends.set x.idx.toNat (if s.ends[x.idx.toNat]?=some 1 then 2 else 0),s.valves,s.inputs,s.values,s.timers⟩
 else if x.kind=1 then⟨s.ends,s.valves,s.inputs,s.values.set x.idx.toNat true,s.timers.set x.idx.toNat 2⟩
 else⟨s.ends,s.valves,s.inputs.set x.idx.toNat x.val,s.values,s.timers⟩
def qjf(c:Ct)(s:Ste):Ste×List Int×Int:=match qlq c s with
 | some x=>(x.1,x.2,0)
 | none=>(zeroS,[],21)
def qbk(c:Ct)(s:Ste)(x:Evn):Ste×List Int×Int :=
 if x.kind<0\/2<x.kind then(zeroS,[],1)else if qow s x=true then qjf c (qer s x)else(zeroS,[],14)
structure Crs where
 st:Ste
 strokes:List (List (Int×Bool))
 conf:List Int
def qkj:Crs:=⟨zeroS,[],[]⟩
def qjg(c:Ct):List Evn->Nat->Crs->Crs×Int×Int
 | [],_,r=>(r,0,0)
 | x :: l,i,r=>if(qbk c r.st x).2.2=0 then qjg c l (i+1) ⟨(qbk c r.st x).1,r.strokes++[qjv r.st (qbk c r.st x).1],norm (qos c) (r.conf++(qbk c r.st x).2.1)⟩else(qkj,i,(qbk c r.st x).2.2)
end Go.Proofs.YtbepbclaoohngaaGreat
