/- The values of all lines, of a machine of settle. Gates are computed, by settle; the rules. -/
import Derived.Test.YtddeacahiilikaaGreatRSv1
import Derived.KernelRfl
set_option linter.all false
namespace Go.Proofs.YtddeacahiilikaaGreat
open Go Go.Am Go.Proofs
set_option maxRecDepth 100000
abbrev sl5(i:Nat)(u:Ste):List V:=[.sl i 0 1 0 u.ends.length,.sl (i+1) 0 1 0 u.valves.length,.sl (i+2) 0 1 0 u.inputs.length,.sl (i+3) 0 1 0 u.values.length,.sl (i+4) 0 1 0 u.timers.length]
abbrev ar5(u:Ste):H:=[⟨0,.arr 1 (u.ends.map qdw)⟩,⟨0,.arr 1 (u.valves.map qen)⟩,⟨0,.arr 1 (u.inputs.map qen)⟩,⟨0,.arr 1 (u.values.map qen)⟩,⟨0,.arr 1 (u.timers.map qdw)⟩]
abbrev hM(c:Ct)(s u:Ste)(F:Nat):H:=[⟨0,.box c.cells⟩,⟨0,.box s.cells⟩,o0,o0,o0,o0,o0,⟨0,.box (qwx 2)⟩,⟨0,.box c.cells⟩,⟨0,.box s.cells⟩]++ar5 u++[⟨0,.box (c.cells++sl5 10 u++[num F])⟩]
abbrev hQ(g w:Nat)(L:List Int):H:=[o0,⟨g,.arr w (L.map qdw)⟩]
abbrev hB(b:Ste):H:=ar5 b++[o0,o0,o0,o0,o0,⟨0,.box (sl5 18 b)⟩]
abbrev zfd(c:Ct)(s u b:Ste)(F gq wq:Nat)(L:List Int):H:=hM c s u F++hQ gq wq L++hB b
abbrev q4x(c:Ct)(s u b:Ste)(F gq wq:Nat)(L:List Int)(k:Nat)(a:Nat×Nat):H:=zfd c s u b F gq wq L++[o0,⟨a.1,.arr a.2 ((qdp (u.ends.take k)).map qen)⟩]
def zgj(u:Ste)(k:Nat)(a:Nat×Nat):Tm:=[some (.bptr 15 0),none,some (.sl 29 0 0 0 0),some (.sl 30 a.1 a.2 0 (2*k)),none,none,none,none,none,none,some (.sl 10 0 1 0 u.ends.length),some (num u.ends.length),some (num k)]++List.replicate 24 none
set_option maxHeartbeats 1000000 in
theorem z1o(c:Ct)(s u b:Ste)(F gq wq:Nat)(L:List Int)(hs:u.small){st:St}(a0:Nat×Nat)(g0:a0.2=1\/a0.2=0)(h0:At (zgj u 0 a0) (q4x c s u b F gq wq L 0 a0) st):∃r,ev pg (.code (.going 31 L300_0) st)=some r/\∃a:Nat×Nat,(a.2=1\/a.2=0)/\qaj (.exit 0) (zgj u u.ends.length a) (q4x c s u b F gq wq L u.ends.length a) r:=by
 have hse:=hs.e
 refine qci u.ends.length (zgj u) (q4x c s u b F gq wq L) (fun _ a=>a.2=1\/a.2=0) _ ?_ ?_ a0 g0 h0
 .rintro k ⟨g,m⟩ f hf hk hG
  have hk':(k:Int)<u.ends.length:=by omega
  have wk:=qab (n:=(k:Int)+1) (by omega) (by omega)
  have hlen:(qdp (u.ends.take k)).length=2*k:=by rw[qdu,List.length_take];omega
  have hb:2*k+2<=140737488355328:=by omega
  have h2:2*(k+1)=2*k+2:=by omega
  unfold zgj q4x
  rw[qol hk,h2]
  generalize qdp (u.ends.take k)=W at *
  have hmm:m=1\/m=0:=hG
  rcases hmm with rfl | rfl<;>simp[L300_0,hk,hk',wk,hb,hlen,hf.ne]
 .rintro⟨g,m⟩ f hf hG
  unfold zgj q4x
  generalize qdp (u.ends.take u.ends.length)=W at *
  generalize 2*u.ends.length=N at *
  have hmm:m=1\/m=0:=hG
  rcases hmm with rfl | rfl<;>simp[L300_0,hf.ne]
theorem ev315h{h:H}(hc:qdb h)(n:Nat)(h1:1<=n)(hn:n<=100000):ev pg (.call (.fn 315 [] []) [.nils,num n] h)=some { v:=.sl h.length 0 1 0 0,st:=⟨[],h++[⟨0,.arr 1 []⟩]⟩ }:=by
 have w1:=qab (n:=(n:Int)) (by omega) (by omega)
 have p1:¬((n:Int)<0):=by omega
 have w0:=qab (n:=0) (by omega) (by omega)
 have p3:n*1<=140737488355328:=by omega
 have p4:n<=140737488355328:=by omega
 have hn0:0<n:=by omega
 have hne:¬n=0:=by omega
 have hne2:¬0=n:=by omega
 have hcm:h.map (qcf h.length)=h:=hc
 rw[qac,pg315]
 simp[ir315,w0,w1,p1,hn0,hne,hne2,p3,p4,qbv,qdq,qdl,hcm]
def nK(a b c k:Nat):Nat:=if k=0 then 0 else if k=1 then a else if k=2 then a+b else a+b+c
def wK(a b c:List Bool)(k:Nat):List Bool:=if k=0 then []else if k=1 then a else if k=2 then a++b else a++b++c
abbrev vw3(u:Ste)(g m:Nat):V:=.view false [.sl 30 g m 0 (2*u.ends.length),.sl 12 0 1 0 u.inputs.length,.sl 13 0 1 0 u.values.length]
abbrev q4y(c:Ct)(s u b:Ste)(F gq wq:Nat)(L:List Int)(g m:Nat)(E:List Bool):H:=zfd c s u b F gq wq L++[o0,⟨g,.arr m (E.map qen)⟩]
def qxd(u:Ste)(g m k:Nat):Tm:=[some (vw3 u g m),none,some (.sl 31 0 0 0 0),some (num (nK (2*u.ends.length) u.inputs.length u.values.length k)),none,none,none,none,none,some (vw3 u g m),some (num 3),some (num k)]++List.replicate 24 none
def q4e(u:Ste)(g m k:Nat)(a:Nat×Nat):Tm:=[some (vw3 u g m),none,some (.sl 31 0 0 0 0),none,none,none,some (.sl 32 a.1 a.2 0 (nK (2*u.ends.length) u.inputs.length u.values.length k))]++List.replicate 18 none++[some (vw3 u g m),some (num 3),some (num k)]++List.replicate 8 none
set_option maxHeartbeats 2000000 in
theorem ev307m(c:Ct)(s u b:Ste)(F gq wq:Nat)(L:List Int)(hs:u.small)(h1:1<=u.ends.length)(g m:Nat)(hm:m=1\/m=0)(E:List Bool)(hE:E.length=2*u.ends.length):ev pg (.call (.fn 307 [] []) [vw3 u g m] (q4y c s u b F gq wq L g m E))=some { v:=.sl 31 0 1 0 (2*u.ends.length+u.inputs.length+u.values.length),st:=⟨[],q4y c s u b F gq wq L g m E++[⟨0,.arr 1 ((E++u.inputs++u.values).map qen)⟩]⟩ }:=by
 have s1:=hs.e
 have s2:=hs.i
 have s3:=hs.v
 have la:∀st,At (qxd u g m 0) (q4y c s u b F gq wq L g m E++[o0]) st->∃r,ev pg (.code (.going 32 L307_0) st)=some r/\qaj (.exit 0) (qxd u g m 3) (q4y c s u b F gq wq L g m E++[o0]) r:=by
  intro st h0
  refine qfc 3 (qxd u g m) (fun _=>q4y c s u b F gq wq L g m E++[o0]) _ ?_ ?_ h0
  .intro k f hf hk
   have hk3:k=0\/k=1\/k=2:=by omega
   have x1:¬(2*(u.ends.length:Int))<0:=by omega
   have x2:¬(2*(u.ends.length:Int)+(u.inputs.length:Int))<0:=by omega
   have x3:¬(2*(u.ends.length:Int)+(u.inputs.length:Int)+(u.values.length:Int))<0:=by omega
   have y1:=qab (n:=2*(u.ends.length:Int)) (by omega) (by omega)
   have y2:=qab (n:=2*(u.ends.length:Int)+(u.inputs.length:Int)) (by omega) (by omega)
   have y3:=qab (n:=2*(u.ends.length:Int)+(u.inputs.length:Int)+(u.values.length:Int)) (by omega) (by omega)
   have z1:IntKind.i64.wrap 1=1:=by decide
   have z2:IntKind.i64.wrap 2=2:=by decide
   have z3:IntKind.i64.wrap 3=3:=by decide
   rcases hk3 with rfl | rfl | rfl<;>rcases hm with rfl | rfl<;>simp[L307_0,qxd,nK,x1,x2,x3,y1,y2,y3,z1,z2,z3,hf.ne]
  .intro f hf
   simp[L307_0,qxd,hf.ne]
 have lb:∀st,At (q4e u g m 0 (0,1)) (q4y c s u b F gq wq L g m E++[o0,⟨0,.arr 1 []⟩]) st->∃r,ev pg (.code (.going 33 L307_1) st)=some r/\∃a:Nat×Nat,a.2=1/\qaj (.exit 2) (q4e u g m 3 a) (q4y c s u b F gq wq L g m E++[o0,⟨a.1,.arr a.2 ((wK E u.inputs u.values 3).map qen)⟩]) r:=by
  intro st h0
  refine qci 3 (q4e u g m) (fun k a=>q4y c s u b F gq wq L g m E++[o0,⟨a.1,.arr a.2 ((wK E u.inputs u.values k).map qen)⟩]) (fun _ a=>a.2=1) _ ?_ ?_ (0,1) rfl (by simpa[wK]using h0)
  .rintro k ⟨g2,m2⟩ f hf hk hG
   obtain rfl:m2=1:=hG
   have hk3:k=0\/k=1\/k=2:=by omega
   have z1:IntKind.i64.wrap 1=1:=by decide
   have z2:IntKind.i64.wrap 2=2:=by decide
   have z3:IntKind.i64.wrap 3=3:=by decide
   have y1:2*u.ends.length<=140737488355328:=by omega
   have y2:2*u.ends.length+u.inputs.length<=140737488355328:=by omega
   have y3:2*u.ends.length+u.inputs.length+u.values.length<=140737488355328:=by omega
   rcases hk3 with rfl | rfl | rfl<;>rcases hm with rfl | rfl<;>simp[L307_1,q4e,nK,wK,hE,y1,y2,y3,z1,z2,z3,hf.ne]
  .rintro⟨g2,m2⟩ f hf hG
   obtain rfl:m2=1:=hG
   simp[L307_1,q4e,hf.ne]
 have hcal:qdb (q4y c s u b F gq wq L g m E++[o0]):=by
  unfold qdb
  simp
 have e189:=ev315h hcal (2*u.ends.length+u.inputs.length+u.values.length) (by omega) (by omega)
 have hW:wK E u.inputs u.values 3=E++u.inputs++u.values:=by simp[wK]
 have hN:nK (2*u.ends.length) u.inputs.length u.values.length 3=2*u.ends.length+u.inputs.length+u.values.length:=by simp[nK]
 have hla:∀f,fill f 0 (qxd u g m 3)=fill f 0 ([some (vw3 u g m),none,some (.sl 31 0 0 0 0),some (num (2*u.ends.length+u.inputs.length+u.values.length:Nat)),none,none,none,none,none,some (vw3 u g m),some (num 3),some (num 3)]++List.replicate 24 none):=fun f=>by
  unfold qxd
  rw[hN]
  rfl
 rw[hW]at lb
 have hlen:((E++u.inputs++u.values).map qen).length=2*u.ends.length+u.inputs.length+u.values.length:=by
  simp[hE]
  omega
 generalize (E++u.inputs++u.values).map qen=W at *
 have lb':∀st,At ([some (vw3 u g m),none,some (.sl 31 0 0 0 0),none,none,none,some (.sl 32 0 1 0 0)]++List.replicate 18 none++[some (vw3 u g m),some (num 3),some (num 0)]++List.replicate 8 none) (q4y c s u b F gq wq L g m E++[o0,⟨0,.arr 1 []⟩]) st->∃r,ev pg (.code (.going 33 L307_1) st)=some r/\∃a:Nat×Nat,a.2=1/\qaj (.exit 2) ([none,none,none,none,none,none,some (.sl 32 a.1 a.2 0 (2*u.ends.length+u.inputs.length+u.values.length))]++List.replicate 29 none) (q4y c s u b F gq wq L g m E++[o0,⟨a.1,.arr a.2 W⟩]) r:=by
  intro st h0
  obtain⟨r,e,a,ha,f,hf,rfl⟩:=lb st h0
  refine⟨_,e,a,ha,?_⟩
  unfold q4e
  rw[hN]
  generalize 2*u.ends.length+u.inputs.length+u.values.length=N at *
  simp[hf.ne]
 generalize 2*u.ends.length+u.inputs.length+u.values.length=N at *
 simp at e189
 rw[qac,pg307]
 simp[ir307,qaf]
 generalize hr:ev pg (.code (.going _ L307_0) _)=o
 obtain⟨r,rfl,f,hf,rfl⟩:∃r,o=some r/\_:=by rw[<-hr];exact la _ (by simp[qxd,nK])
 clear hr
 rw[hla]
 simp[e189,hf.ne,qaf]
 generalize hr:ev pg (.code (.going _ L307_1) _)=o
 obtain⟨r,rfl,⟨g2,m2⟩,hm2,f2,hf2,rfl⟩:∃r,o=some r/\_:=by rw[<-hr];exact lb' _ (by simp[hf.ne])
 obtain rfl:m2=1:=hm2
 clear hr
 simp[qbv,qdq,qdl,hlen]
set_option maxHeartbeats 1000000 in
theorem ev300(c:Ct)(s u b:Ste)(F gq wq:Nat)(L:List Int)(hs:u.small)(h1:1<=u.ends.length):ev pg (.call (.fn 300 [] []) [.bptr 15 0] (zfd c s u b F gq wq L))=some { v:=.sl 29 0 1 0 (qad u).length,st:=⟨[],zfd c s u b F gq wq L++[⟨0,.arr 1 ((qad u).map qen)⟩]⟩ }:=by
 have hl:=@z1o c s u b F gq wq L hs
 have he:=qdu u.ends
 have hlen:=qcp u
 have q4y:=fun g m hm=>ev307m c s u b F gq wq L hs h1 g m hm (qdp u.ends) he
 unfold q4x at hl
 rw[List.take_length,List.take_zero,qdp]at hl
 unfold qad at hlen ⊢
 rw[hlen]
 have hWl:((qdp u.ends++u.inputs++u.values).map qen).length=2*u.ends.length+u.inputs.length+u.values.length:=by rw[List.length_map,hlen]
 generalize (qdp u.ends++u.inputs++u.values).map qen=W at *
 generalize qdp u.ends=E at *
 generalize hN:2*u.ends.length+u.inputs.length+u.values.length=N at *
 rw[qac,pg300]
 simp[ir300,qaf]
 generalize hr:ev pg (.code (.going _ L300_0) _)=o
 obtain⟨r,rfl,⟨g,m⟩,hm,f,hf,rfl⟩:∃r,o=some r/\_:=by rw[<-hr];exact hl (0,0) (.inr rfl) (by simp[zgj])
 clear hr
 have hmm:m=1\/m=0:=hm
 have h174':=q4y g m hmm
 simp at h174'
 rcases hmm with rfl | rfl<;>simp[qaa,exT,qae,zgj,he,h174',qbv,qdq,qdl,hWl]
abbrev zdb(c:Ct)(s u b:Ste)(gq wq:Nat)(L:List Int)(k:Nat):H:=zfd c s (stK c u k) b (qam u) gq wq L++[⟨0,.arr 1 ((qbe c (qam u) k (qad u)).map qen)⟩]
def zgi(c:Ct)(N k:Nat):Tm:=[some (.bptr 15 0),none,some (.sl 29 0 1 0 N),none,none,none,none,none,none,none,none,none,some (.imm (c.signals.map Sg.row)),some (num c.signals.length),some (num k)]++List.replicate 29 none
set_option maxHeartbeats 2000000 in
theorem z1n(c:Ct)(s u b:Ste)(gq wq:Nat)(L:List Int)(hs:u.small)(hS:Shp c u)(hn:c.signals.length<=128)(hF:qam u<=10000)(hok:∀x∈c.signals,x.on.nodes<=256/\x.on.err (qad u).length=0){st:St}(h0:At (zgi c (qad u).length 0) (zdb c s u b gq wq L 0) st):∃r,ev pg (.code (.going 30 L299_0) st)=some r/\qaj (.exit 0) (zgi c (qad u).length c.signals.length) (zdb c s u b gq wq L c.signals.length) r:=by
 refine qfc c.signals.length (zgi c (qad u).length) (zdb c s u b gq wq L) _ ?_ ?_ h0
 .intro k f hf hk
  have hk':(k:Int)<c.signals.length:=by omega
  have wk:=qab (n:=(k:Int)+1) (by omega) (by omega)
  have hsc:=q3p c u k hk
  obtain⟨g1,g2⟩:=hok _ (jH hk)
  have hLl:(qad (stK c u k)).length=(qad u).length:=by rw[qif,qeu]
  have h165:=ev302 (qad (stK c u k)) c.signals[k].on g1 (by rw[hLl];exact g2)
  have hvl:=qwp c u k
  have hkv:k<u.values.length:=by rw[hS.v];exact hk
  have hgt:qbe c (qam u) (k+1) (qad u)=if c.signals[k].kind=0 then(qbe c (qam u) k (qad u)).set (qam u+k) (c.signals[k].on.holds (qad (stK c u k)))else qbe c (qam u) k (qad u):=by
   rw[qbe,qfs,jA hk,qif]
  have hst:∀j,stK c u j=⟨u.ends,u.valves,u.inputs,(stK c u j).values,u.timers⟩:=fun j=>rfl
  have hlt:(qbe c (qam u) k (qad u)).length=(qad u).length:=qeu _ _ _ _
  have hFk:qam u+k<(qad u).length:=by
   rw[qcp];unfold qam;omega
  rw[qif]at h165 hgt
  unfold zdb
  rw[hst (k+1),hst k,hsc,hgt,qif]
  unfold zgi
  generalize qbe c (qam u) k (qad u)=G at *
  generalize hv:c.signals[k].on.holds G=v at *
  generalize (stK c u k).values=W at *
  generalize qam u=F at *
  have hkW:k<W.length:=by omega
  have wF:=qab (n:=(F:Int)+k) (by omega) (by omega)
  have pF:(0:Int)<=(F:Int)+k:=by omega
  have tF:((F:Int)+k).toNat=F+k:=by omega
  generalize (qad u).length=N at *
  by_cases h0:c.signals[k].kind=0
  .have hFk':F+k<G.length:=by omega
   simp[qaa,exT,qae,L299_0,hk,hk',wk,h0,hlt.symm,h165,hkW,hkv,hFk',hvl,wF,pF,tF,hf.ne]
  .have h0b:(c.signals[k].kind==0)=false:=by simpa using h0
   simp[L299_0,hk,hk',wk,h0,h0b,hf.ne]
 .intro f hf
  unfold zgi zdb
  simp[L299_0,hf.ne]
set_option maxHeartbeats 1000000 in
theorem ev299(c:Ct)(s u b:Ste)(gq wq:Nat)(L:List Int)(hs:u.small)(hS:Shp c u)(hn:c.signals.length<=128)(hF:qam u<=10000)(h1:1<=u.ends.length)(hok:∀x∈c.signals,x.on.nodes<=256/\x.on.err (qad u).length=0):ev pg (.call (.fn 299 [] []) [.bptr 15 0] (zfd c s u b (qam u) gq wq L))=some { v:=.tup [],st:=⟨[],zfd c s (qdc c u) b (qam u) gq wq L⟩ }:=by
 have hl:=@z1n c s u b gq wq L hs hS hn hF hok
 have e163:=ev300 c s u b (qam u) gq wq L hs h1
 have hst:∀j,stK c u j=⟨u.ends,u.valves,u.inputs,(stK c u j).values,u.timers⟩:=fun j=>rfl
 have hvl:=qwp c u c.signals.length
 unfold zdb at hl
 rw[q3q,q1d,show qbe c (qam u) 0 (qad u)=qad u from rfl]at hl
 rw[q1d]at hvl
 have hg:qdc c u=⟨u.ends,u.valves,u.inputs,(qdc c u).values,u.timers⟩:=rfl
 rw[hg]at hl ⊢
 generalize (qdc c u).values=W at *
 generalize qbe c (qam u) c.signals.length (qad u)=G at *
 generalize qam u=F at *
 generalize qad u=LL at *
 simp at e163
 rw[qac,pg299]
 simp[ir299,e163,qaf]
 generalize hr:ev pg (.code (.going _ L299_0) _)=o
 obtain⟨r,rfl,f,hf,rfl⟩:∃r,o=some r/\_:=by rw[<-hr];exact hl (by simp[zgi])
 clear hr
 simp[zgi]
abbrev chg(v:Bool)(t:Int)(b:Bool):V:=.agg [.bool v,num t,.bool b]
theorem ev308(v:Bool)(t:Int)(b on off:Bool):ev pg (.call (.fn 308 [] []) [chg v t b,.bool on,.bool off] [])=some { v:=chg v t b,st:=⟨[],[]⟩ }:=by
 rw[qac,pg308]
 simp[ir308]
theorem ev309(v:Bool)(t:Int)(b on off:Bool):ev pg (.call (.fn 309 [] []) [chg v t b,.bool on,.bool off] [])=some { v:=chg (if on != off then on else v) t (on&&off),st:=⟨[],[]⟩ }:=by
 rw[qac,pg309]
 cases on<;>cases off<;>simp[ir309]
theorem ev310(v:Bool)(t:Int)(b on off:Bool):ev pg (.call (.fn 310 [] []) [chg v t b,.bool on,.bool off] [])=some { v:=if on=true then chg v (if t=0 then 1 else t) b else chg false 0 false,st:=⟨[],[]⟩ }:=by
 rw[qac,pg310]
 cases on with
 | false=>simp[ir310]
 | true =>
  by_cases h:t=0
  .simp[ir310,h]
  .have hb:(t==0)=false:=by simpa using h
   simp[ir310,h,hb]
abbrev zsp:V:=.agg [.fn 308 [] [],.fn 309 [] [],.fn 310 [] []]
theorem ev301:ev pg (.call (.fn 301 [] []) [] [])=some { v:=zsp,st:=⟨[],[]⟩ }:=by
 rw[qac,pg301]
 simp[ir301]
end Go.Proofs.YtddeacahiilikaaGreat
