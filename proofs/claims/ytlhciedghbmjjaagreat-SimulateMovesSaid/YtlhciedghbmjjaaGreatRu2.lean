/- The values of all lines, of a machine of settle. Gates are computed, by settle; the rules. A run in two parts is one run. Behind events states are right; the first state. A round of the plant, by the reference: all that is needed of a right state of a small control. -/
import Derived.Test.YtlhciedghbmjjaaGreatSv1
import Derived.KernelRfl
import Derived.Test.YtlhciedghbmjjaaGreatSt2
set_option linter.all false
namespace Go.Proofs.YtlhciedghbmjjaaGreat
open Go Go.Am Go.Proofs
set_option maxRecDepth 100000
abbrev sl5(i:Nat)(u:Ste):List V:=[.sl i 0 1 0 u.ends.length,.sl (i+1) 0 1 0 u.valves.length,.sl (i+2) 0 1 0 u.inputs.length,.sl (i+3) 0 1 0 u.values.length,.sl (i+4) 0 1 0 u.timers.length]
abbrev ar5(u:Ste):H:=[⟨0,.arr 1 (u.ends.map qdc)⟩,⟨0,.arr 1 (u.valves.map qfi)⟩,⟨0,.arr 1 (u.inputs.map qfi)⟩,⟨0,.arr 1 (u.values.map qfi)⟩,⟨0,.arr 1 (u.timers.map qdc)⟩]
abbrev hM(c:Ct)(s u:Ste)(F:Nat):H:=[⟨0,.box c.cells⟩,⟨0,.box s.cells⟩,o0,o0,o0,o0,o0,⟨0,.box (q0o 2)⟩,⟨0,.box c.cells⟩,⟨0,.box s.cells⟩]++ar5 u++[⟨0,.box (c.cells++sl5 10 u++[num F])⟩]
abbrev hQ(g w:Nat)(L:List Int):H:=[o0,⟨g,.arr w (L.map qdc)⟩]
abbrev hB(b:Ste):H:=ar5 b++[o0,o0,o0,o0,o0,⟨0,.box (sl5 18 b)⟩]
abbrev zmj(c:Ct)(s u b:Ste)(F gq wq:Nat)(L:List Int):H:=hM c s u F++hQ gq wq L++hB b
abbrev q9l(c:Ct)(s u b:Ste)(F gq wq:Nat)(L:List Int)(k:Nat)(a:Nat×Nat):H:=zmj c s u b F gq wq L++[o0,⟨a.1,.arr a.2 ((qeg (u.ends.take k)).map qfi)⟩]
def zpz(u:Ste)(k:Nat)(a:Nat×Nat):Tm:=[some (.bptr 15 0),none,some (.sl 29 0 0 0 0),some (.sl 30 a.1 a.2 0 (2*k)),none,none,none,none,none,none,some (.sl 10 0 1 0 u.ends.length),some (num u.ends.length),some (num k)]++List.replicate 24 none
set_option maxHeartbeats 1000000 in
theorem jau(c:Ct)(s u b:Ste)(F gq wq:Nat)(L:List Int)(hs:u.small){st:St}(a0:Nat×Nat)(g0:a0.2=1\/a0.2=0)(h0:At (zpz u 0 a0) (q9l c s u b F gq wq L 0 a0) st):∃r,ev pg (.code (.going 31 L191_0) st)=some r/\∃a:Nat×Nat,(a.2=1\/a.2=0)/\qag (.exit 0) (zpz u u.ends.length a) (q9l c s u b F gq wq L u.ends.length a) r:=by
 have hse:=hs.e
 refine qbn u.ends.length (zpz u) (q9l c s u b F gq wq L) (fun _ a=>a.2=1\/a.2=0) _ ?_ ?_ a0 g0 h0
 .rintro k ⟨g,m⟩ f hf hk hG
  have hk':(k:Int)<u.ends.length:=by omega
  have wk:=qab (n:=(k:Int)+1) (by omega) (by omega)
  have hlen:(qeg (u.ends.take k)).length=2*k:=by rw[qek,List.length_take];omega
  have hb:2*k+2<=140737488355328:=by omega
  have h2:2*(k+1)=2*k+2:=by omega
  unfold zpz q9l
  rw[qqf hk,h2]
  generalize qeg (u.ends.take k)=W at *
  have hmm:m=1\/m=0:=hG
  rcases hmm with rfl | rfl<;>simp[L191_0,hk,hk',wk,hb,hlen,hf.ne]
 .rintro⟨g,m⟩ f hf hG
  unfold zpz q9l
  generalize qeg (u.ends.take u.ends.length)=W at *
  generalize 2*u.ends.length=N at *
  have hmm:m=1\/m=0:=hG
  rcases hmm with rfl | rfl<;>simp[L191_0,hf.ne]
theorem ev206h{h:H}(hc:qck h)(n:Nat)(h1:1<=n)(hn:n<=100000):ev pg (.call (.fn 206 [] []) [.nils,num n] h)=some { v:=.sl h.length 0 1 0 0,st:=⟨[],h++[⟨0,.arr 1 []⟩]⟩ }:=by
 have w1:=qab (n:=(n:Int)) (by omega) (by omega)
 have p1:¬((n:Int)<0):=by omega
 have w0:=qab (n:=0) (by omega) (by omega)
 have p3:n*1<=140737488355328:=by omega
 have p4:n<=140737488355328:=by omega
 have hn0:0<n:=by omega
 have hne:¬n=0:=by omega
 have hne2:¬0=n:=by omega
 have hcm:h.map (qbg h.length)=h:=hc
 rw[qac,pg206]
 simp[ir206,w0,w1,p1,hn0,hne,hne2,p3,p4,qcr,qeo,qem,hcm]
def nK(a b c k:Nat):Nat:=if k=0 then 0 else if k=1 then a else if k=2 then a+b else a+b+c
def wK(a b c:List Bool)(k:Nat):List Bool:=if k=0 then []else if k=1 then a else if k=2 then a++b else a++b++c
abbrev vw3(u:Ste)(g m:Nat):V:=.view false [.sl 30 g m 0 (2*u.ends.length),.sl 12 0 1 0 u.inputs.length,.sl 13 0 1 0 u.values.length]
abbrev q9t(c:Ct)(s u b:Ste)(F gq wq:Nat)(L:List Int)(g m:Nat)(E:List Bool):H:=zmj c s u b F gq wq L++[o0,⟨g,.arr m (E.map qfi)⟩]
def q1t(u:Ste)(g m k:Nat):Tm:=[some (vw3 u g m),none,some (.sl 31 0 0 0 0),some (num (nK (2*u.ends.length) u.inputs.length u.values.length k)),none,none,none,none,none,some (vw3 u g m),some (num 3),some (num k)]++List.replicate 24 none
def q8r(u:Ste)(g m k:Nat)(a:Nat×Nat):Tm:=[some (vw3 u g m),none,some (.sl 31 0 0 0 0),none,none,none,some (.sl 32 a.1 a.2 0 (nK (2*u.ends.length) u.inputs.length u.values.length k))]++List.replicate 18 none++[some (vw3 u g m),some (num 3),some (num k)]++List.replicate 8 none
set_option maxHeartbeats 2000000 in
theorem ev196m(c:Ct)(s u b:Ste)(F gq wq:Nat)(L:List Int)(hs:u.small)(h1:1<=u.ends.length)(g m:Nat)(hm:m=1\/m=0)(E:List Bool)(hE:E.length=2*u.ends.length):ev pg (.call (.fn 196 [] []) [vw3 u g m] (q9t c s u b F gq wq L g m E))=some { v:=.sl 31 0 1 0 (2*u.ends.length+u.inputs.length+u.values.length),st:=⟨[],q9t c s u b F gq wq L g m E++[⟨0,.arr 1 ((E++u.inputs++u.values).map qfi)⟩]⟩ }:=by
 have s1:=hs.e
 have s2:=hs.i
 have s3:=hs.v
 have la:∀st,At (q1t u g m 0) (q9t c s u b F gq wq L g m E++[o0]) st->∃r,ev pg (.code (.going 32 L196_0) st)=some r/\qag (.exit 0) (q1t u g m 3) (q9t c s u b F gq wq L g m E++[o0]) r:=by
  intro st h0
  refine qcd 3 (q1t u g m) (fun _=>q9t c s u b F gq wq L g m E++[o0]) _ ?_ ?_ h0
  .intro k f hf hk
   have hk3:k=0\/k=1\/k=2:=by omega
   have x1:¬(2*(u.ends.length:Int))<0:=by omega
   have x2:¬(2*(u.ends.length:Int)+(u.inputs.length:Int))<0:=by omega
   have x3:¬(2*(u.ends.length:Int)+(u.inputs.length:Int)+(u.values.length:Int))<0:=by omega
   have y1:=qab (n:=2*(u.ends.length:Int)) (by omega) (by omega)
   have y2:=qab (n:=2*(u.ends.length:Int)+(u.inputs.length:Int)) (by omega) (by omega)
   have y3:=qab (n:=2*(u.ends.length:Int)+(u.inputs.length:Int)+(u.values.length:Int)) (by omega) (by omega)
   have z1:IntKind.i64.wrap 1=1:=by decide
   have z2:IntKind.i64.wrap 2=2:=by decide
   have z3:IntKind.i64.wrap 3=3:=by decide
   rcases hk3 with rfl | rfl | rfl<;>rcases hm with rfl | rfl<;>simp[L196_0,q1t,nK,x1,x2,x3,y1,y2,y3,z1,z2,z3,hf.ne]
  .intro f hf
   simp[L196_0,q1t,hf.ne]
 have lb:∀st,At (q8r u g m 0 (0,1)) (q9t c s u b F gq wq L g m E++[o0,⟨0,.arr 1 []⟩]) st->∃r,ev pg (.code (.going 33 L196_1) st)=some r/\∃a:Nat×Nat,a.2=1/\qag (.exit 2) (q8r u g m 3 a) (q9t c s u b F gq wq L g m E++[o0,⟨a.1,.arr a.2 ((wK E u.inputs u.values 3).map qfi)⟩]) r:=by
  intro st h0
  refine qbn 3 (q8r u g m) (fun k a=>q9t c s u b F gq wq L g m E++[o0,⟨a.1,.arr a.2 ((wK E u.inputs u.values k).map qfi)⟩]) (fun _ a=>a.2=1) _ ?_ ?_ (0,1) rfl (by simpa[wK]using h0)
  .rintro k ⟨g2,m2⟩ f hf hk hG
   obtain rfl:m2=1:=hG
   have hk3:k=0\/k=1\/k=2:=by omega
   have z1:IntKind.i64.wrap 1=1:=by decide
   have z2:IntKind.i64.wrap 2=2:=by decide
   have z3:IntKind.i64.wrap 3=3:=by decide
   have y1:2*u.ends.length<=140737488355328:=by omega
   have y2:2*u.ends.length+u.inputs.length<=140737488355328:=by omega
   have y3:2*u.ends.length+u.inputs.length+u.values.length<=140737488355328:=by omega
   rcases hk3 with rfl | rfl | rfl<;>rcases hm with rfl | rfl<;>simp[L196_1,q8r,nK,wK,hE,y1,y2,y3,z1,z2,z3,hf.ne]
  .rintro⟨g2,m2⟩ f hf hG
   obtain rfl:m2=1:=hG
   simp[L196_1,q8r,hf.ne]
 have hcal:qck (q9t c s u b F gq wq L g m E++[o0]):=by
  unfold qck
  simp
 have e189:=ev206h hcal (2*u.ends.length+u.inputs.length+u.values.length) (by omega) (by omega)
 have hW:wK E u.inputs u.values 3=E++u.inputs++u.values:=by simp[wK]
 have hN:nK (2*u.ends.length) u.inputs.length u.values.length 3=2*u.ends.length+u.inputs.length+u.values.length:=by simp[nK]
 have hla:∀f,fill f 0 (q1t u g m 3)=fill f 0 ([some (vw3 u g m),none,some (.sl 31 0 0 0 0),some (num (2*u.ends.length+u.inputs.length+u.values.length:Nat)),none,none,none,none,none,some (vw3 u g m),some (num 3),some (num 3)]++List.replicate 24 none):=fun f=>by
  unfold q1t
  rw[hN]
  rfl
 rw[hW]at lb
 have hlen:((E++u.inputs++u.values).map qfi).length=2*u.ends.length+u.inputs.length+u.values.length:=by
  simp[hE]
  omega
 generalize (E++u.inputs++u.values).map qfi=W at *
 have lb':∀st,At ([some (vw3 u g m),none,some (.sl 31 0 0 0 0),none,none,none,some (.sl 32 0 1 0 0)]++List.replicate 18 none++[some (vw3 u g m),some (num 3),some (num 0)]++List.replicate 8 none) (q9t c s u b F gq wq L g m E++[o0,⟨0,.arr 1 []⟩]) st->∃r,ev pg (.code (.going 33 L196_1) st)=some r/\∃a:Nat×Nat,a.2=1/\qag (.exit 2) ([none,none,none,none,none,none,some (.sl 32 a.1 a.2 0 (2*u.ends.length+u.inputs.length+u.values.length))]++List.replicate 29 none) (q9t c s u b F gq wq L g m E++[o0,⟨a.1,.arr a.2 W⟩]) r:=by
  intro st h0
  obtain⟨r,e,a,ha,f,hf,rfl⟩:=lb st h0
  refine⟨_,e,a,ha,?_⟩
  unfold q8r
  rw[hN]
  generalize 2*u.ends.length+u.inputs.length+u.values.length=N at *
  simp[hf.ne]
 generalize 2*u.ends.length+u.inputs.length+u.values.length=N at *
 simp at e189
 rw[qac,pg196]
 simp[ir196,qaf]
 generalize hr:ev pg (.code (.going _ L196_0) _)=o
 obtain⟨r,rfl,f,hf,rfl⟩:∃r,o=some r/\_:=by rw[<-hr];exact la _ (by simp[q1t,nK])
 clear hr
 rw[hla]
 simp[e189,hf.ne,qaf]
 generalize hr:ev pg (.code (.going _ L196_1) _)=o
 obtain⟨r,rfl,⟨g2,m2⟩,hm2,f2,hf2,rfl⟩:∃r,o=some r/\_:=by rw[<-hr];exact lb' _ (by simp[hf.ne])
 obtain rfl:m2=1:=hm2
 clear hr
 simp[qcr,qeo,qem,hlen]
set_option maxHeartbeats 1000000 in
theorem ev191(c:Ct)(s u b:Ste)(F gq wq:Nat)(L:List Int)(hs:u.small)(h1:1<=u.ends.length):ev pg (.call (.fn 191 [] []) [.bptr 15 0] (zmj c s u b F gq wq L))=some { v:=.sl 29 0 1 0 (qad u).length,st:=⟨[],zmj c s u b F gq wq L++[⟨0,.arr 1 ((qad u).map qfi)⟩]⟩ }:=by
 have hl:=@jau c s u b F gq wq L hs
 have he:=qek u.ends
 have hlen:=qdg u
 have q9t:=fun g m hm=>ev196m c s u b F gq wq L hs h1 g m hm (qeg u.ends) he
 unfold q9l at hl
 rw[List.take_length,List.take_zero,qeg]at hl
 unfold qad at hlen ⊢
 rw[hlen]
 have hWl:((qeg u.ends++u.inputs++u.values).map qfi).length=2*u.ends.length+u.inputs.length+u.values.length:=by rw[List.length_map,hlen]
 generalize (qeg u.ends++u.inputs++u.values).map qfi=W at *
 generalize qeg u.ends=E at *
 generalize hN:2*u.ends.length+u.inputs.length+u.values.length=N at *
 rw[qac,pg191]
 simp[ir191,qaf]
 generalize hr:ev pg (.code (.going _ L191_0) _)=o
 obtain⟨r,rfl,⟨g,m⟩,hm,f,hf,rfl⟩:∃r,o=some r/\_:=by rw[<-hr];exact hl (0,0) (.inr rfl) (by simp[zpz])
 clear hr
 have hmm:m=1\/m=0:=hm
 have h174':=q9t g m hmm
 simp at h174'
 rcases hmm with rfl | rfl<;>simp[qaa,exT,qae,zpz,he,h174',qcr,qeo,qem,hWl]
abbrev zgm(c:Ct)(s u b:Ste)(gq wq:Nat)(L:List Int)(k:Nat):H:=zmj c s (stK c u k) b (qao u) gq wq L++[⟨0,.arr 1 ((qbk c (qao u) k (qad u)).map qfi)⟩]
def zob(c:Ct)(N k:Nat):Tm:=[some (.bptr 15 0),none,some (.sl 29 0 1 0 N),none,none,none,none,none,none,none,none,none,some (.imm (c.signals.map Sg.row)),some (num c.signals.length),some (num k)]++List.replicate 29 none
set_option maxHeartbeats 2000000 in
theorem jbd(c:Ct)(s u b:Ste)(gq wq:Nat)(L:List Int)(hs:u.small)(hS:Shp c u)(hn:c.signals.length<=128)(hF:qao u<=10000)(hok:∀x∈c.signals,x.on.nodes<=256/\x.on.err (qad u).length=0){st:St}(h0:At (zob c (qad u).length 0) (zgm c s u b gq wq L 0) st):∃r,ev pg (.code (.going 30 L190_0) st)=some r/\qag (.exit 0) (zob c (qad u).length c.signals.length) (zgm c s u b gq wq L c.signals.length) r:=by
 refine qcd c.signals.length (zob c (qad u).length) (zgm c s u b gq wq L) _ ?_ ?_ h0
 .intro k f hf hk
  have hk':(k:Int)<c.signals.length:=by omega
  have wk:=qab (n:=(k:Int)+1) (by omega) (by omega)
  have hsc:=q6g c u k hk
  obtain⟨g1,g2⟩:=hok _ (jH hk)
  have hLl:(qad (stK c u k)).length=(qad u).length:=by rw[qje,qfk]
  have h165:=ev193 (qad (stK c u k)) c.signals[k].on g1 (by rw[hLl];exact g2)
  have hvl:=qyo c u k
  have hkv:k<u.values.length:=by rw[hS.v];exact hk
  have hgt:qbk c (qao u) (k+1) (qad u)=if c.signals[k].kind=0 then(qbk c (qao u) k (qad u)).set (qao u+k) (c.signals[k].on.holds (qad (stK c u k)))else qbk c (qao u) k (qad u):=by
   rw[qbk,qgn,jA hk,qje]
  have hst:∀j,stK c u j=⟨u.ends,u.valves,u.inputs,(stK c u j).values,u.timers⟩:=fun j=>rfl
  have hlt:(qbk c (qao u) k (qad u)).length=(qad u).length:=qfk _ _ _ _
  have hFk:qao u+k<(qad u).length:=by
   rw[qdg];unfold qao;omega
  rw[qje]at h165 hgt
  unfold zgm
  rw[hst (k+1),hst k,hsc,hgt,qje]
  unfold zob
  generalize qbk c (qao u) k (qad u)=G at *
  generalize hv:c.signals[k].on.holds G=v at *
  generalize (stK c u k).values=W at *
  generalize qao u=F at *
  have hkW:k<W.length:=by omega
  have wF:=qab (n:=(F:Int)+k) (by omega) (by omega)
  have pF:(0:Int)<=(F:Int)+k:=by omega
  have tF:((F:Int)+k).toNat=F+k:=by omega
  generalize (qad u).length=N at *
  by_cases h0:c.signals[k].kind=0
  .have hFk':F+k<G.length:=by omega
   simp[qaa,exT,qae,L190_0,hk,hk',wk,h0,hlt.symm,h165,hkW,hkv,hFk',hvl,wF,pF,tF,hf.ne]
  .have h0b:(c.signals[k].kind==0)=false:=by simpa using h0
   simp[L190_0,hk,hk',wk,h0,h0b,hf.ne]
 .intro f hf
  unfold zob zgm
  simp[L190_0,hf.ne]
set_option maxHeartbeats 1000000 in
theorem ev190(c:Ct)(s u b:Ste)(gq wq:Nat)(L:List Int)(hs:u.small)(hS:Shp c u)(hn:c.signals.length<=128)(hF:qao u<=10000)(h1:1<=u.ends.length)(hok:∀x∈c.signals,x.on.nodes<=256/\x.on.err (qad u).length=0):ev pg (.call (.fn 190 [] []) [.bptr 15 0] (zmj c s u b (qao u) gq wq L))=some { v:=.tup [],st:=⟨[],zmj c s (qds c u) b (qao u) gq wq L⟩ }:=by
 have hl:=@jbd c s u b gq wq L hs hS hn hF hok
 have e163:=ev191 c s u b (qao u) gq wq L hs h1
 have hst:∀j,stK c u j=⟨u.ends,u.valves,u.inputs,(stK c u j).values,u.timers⟩:=fun j=>rfl
 have hvl:=qyo c u c.signals.length
 unfold zgm at hl
 rw[q7s,q3z,show qbk c (qao u) 0 (qad u)=qad u from rfl]at hl
 rw[q3z]at hvl
 have hg:qds c u=⟨u.ends,u.valves,u.inputs,(qds c u).values,u.timers⟩:=rfl
 rw[hg]at hl ⊢
 generalize (qds c u).values=W at *
 generalize qbk c (qao u) c.signals.length (qad u)=G at *
 generalize qao u=F at *
 generalize qad u=LL at *
 simp at e163
 rw[qac,pg190]
 simp[ir190,e163,qaf]
 generalize hr:ev pg (.code (.going _ L190_0) _)=o
 obtain⟨r,rfl,f,hf,rfl⟩:∃r,o=some r/\_:=by rw[<-hr];exact hl (by simp[zob])
 clear hr
 simp[zob]
abbrev chg(v:Bool)(t:Int)(b:Bool):V:=.agg [.bool v,num t,.bool b]
theorem ev197(v:Bool)(t:Int)(b on off:Bool):ev pg (.call (.fn 197 [] []) [chg v t b,.bool on,.bool off] [])=some { v:=chg v t b,st:=⟨[],[]⟩ }:=by
 rw[qac,pg197]
 simp[ir197]
theorem ev198(v:Bool)(t:Int)(b on off:Bool):ev pg (.call (.fn 198 [] []) [chg v t b,.bool on,.bool off] [])=some { v:=chg (if on != off then on else v) t (on&&off),st:=⟨[],[]⟩ }:=by
 rw[qac,pg198]
 cases on<;>cases off<;>simp[ir198]
theorem ev199(v:Bool)(t:Int)(b on off:Bool):ev pg (.call (.fn 199 [] []) [chg v t b,.bool on,.bool off] [])=some { v:=if on=true then chg v (if t=0 then 1 else t) b else chg false 0 false,st:=⟨[],[]⟩ }:=by
 rw[qac,pg199]
 cases on with
 | false=>simp[ir199]
 | true =>
  by_cases h:t=0
  .simp[ir199,h]
  .have hb:(t==0)=false:=by simpa using h
   simp[ir199,h,hb]
abbrev z2k:V:=.agg [.fn 197 [] [],.fn 198 [] [],.fn 199 [] []]
theorem ev192:ev pg (.call (.fn 192 [] []) [] [])=some { v:=z2k,st:=⟨[],[]⟩ }:=by
 rw[qac,pg192]
 simp[ir192]
theorem q1y{c:Ct}{s:Ste}{x:Evn}(h:(qah c s x).2.2=0):∃a,qcu c (qah c s x).1=some ((qah c s x).1,a):=by
 unfold qah at h ⊢
 split at h
 .cases h
 .rename_i h1
  rw[if_neg h1]
  split at h
  .rename_i h2
   rw[if_pos h2]
   unfold qhj at h ⊢
   cases e:qfr c (qcc s x)with
   | none=>rw[e]at h;cases h
   | some y =>
    simp only
    exact qnq (show qfr c (qcc s x)=some (y.1,y.2)from e)
  .cases h
theorem qur{c:Ct}:∀{l:List Evn} {i:Nat} {r:Crs},(∃a,qcu c r.st=some (r.st,a))->(qsg c l i r).2.2=0->∃a,qcu c (qsg c l i r).1.st=some ((qsg c l i r).1.st,a)
 | [],_,_,h,_=>h
 | x :: l,i,r,_,h=>by
  rw[qsg]at h ⊢
  by_cases h0:(qah c r.st x).2.2=0
  .rw[if_pos h0]at h ⊢
   exact qur (q1y h0) h
  .rw[if_neg h0]at h
   exact absurd h h0
theorem q7e{s:Ste}{i:Nat}(h:qdb s 0 i=true):∃hi:i<s.ends.length,s.ends[i]=1\/s.ends[i]=3:=by
 unfold qdb at h
 rw[if_pos rfl]at h
 by_cases hi:i<s.ends.length
 .rw[jA hi]at h
  simp at h
  exact⟨hi,h⟩
 .rw[jY (by omega)]at h
  simp at h
theorem qqp{s:Ste}{i:Nat}(h:qdb s 1 i=true):∃hi:i<s.timers.length,s.timers[i]=1:=by
 unfold qdb at h
 rw[if_neg (by omega)]at h
 by_cases hi:i<s.timers.length
 .rw[jA hi]at h
  simp at h
  exact⟨hi,h⟩
 .rw[jY (by omega)]at h
  simp at h
theorem qgh{c:Ct}{s:Ste}{x:Evn}(hs:stE c s=0)(hk:¬(x.kind<0\/2<x.kind))(hm:qmt s x=true):stE c (qcc s x)=0:=by
 obtain⟨hc,hS,h1,h2,h3⟩:=qgz.1 hs
 unfold qmt at hm
 split at hm
 .cases hm
 .unfold qcc
  by_cases hk0:x.kind=0
  .rw[if_pos hk0]
   refine qgz.2 ⟨hc,⟨by simp only[jU];exact hS.e,hS.w,hS.i,hS.v,hS.t⟩,qgj.2 fun y hy=>?_,h2,h3⟩
   rcases jT hy with h | h
   .exact qgj.1 h1 y h
   .rw[h];split<;>omega
  .rw[if_neg hk0]
   by_cases hk1:x.kind=1
   .rw[if_pos hk1]
    rw[if_neg (by omega),hk1]at hm
    obtain⟨hi,ht⟩:=qqp hm
    generalize x.idx.toNat=n at *
    have hnc:n<c.signals.length:=by rw[<-hS.t];exact hi
    have hS':Shp c ⟨s.ends,s.valves,s.inputs,s.values.set n true,s.timers.set n 2⟩:=⟨hS.e,hS.w,hS.i,by simp only[jU];exact hS.v,by simp only[jU];exact hS.t⟩
    refine qgz.2 ⟨hc,hS',h1,qgj.2 fun y hy=>?_,fun k hk=>?_⟩
    .rcases jT hy with h | h
     .exact qgj.1 h2 y h
     .rw[h];omega
    .simp only[jU]at hk
     have hkc:k<c.signals.length:=by rw[<-hS.t];exact hk
     rw[qxu hS' hkc]
     simp only[List.getElem_set]
     by_cases hkn:n=k
     .subst hkn
      have hq:=h3 n hi
      rw[qxu hS hkc,ht]at hq
      simp only[if_true]
      have hkind:c.signals[n].kind=2:=by
       simp[tmB]at hq
       exact hq.1
      rw[hkind]
      rfl
     .rw[if_neg hkn,if_neg hkn,<-qxu hS hkc]
      exact h3 k hk
   .rw[if_neg hk1]
    exact qgz.2 ⟨hc,⟨hS.e,hS.w,by simp only[jU];exact hS.i,hS.v,hS.t⟩,h1,h2,h3⟩
theorem qrz{c:Ct}{s:Ste}{x:Evn}(hs:stE c s=0)(h:(qah c s x).2.2=0):stE c (qah c s x).1=0:=by
 unfold qah at h ⊢
 split at h
 .cases h
 .rename_i h1
  rw[if_neg h1]
  split at h
  .rename_i h2
   rw[if_pos h2]
   unfold qhj at h ⊢
   cases e:qfr c (qcc s x)with
   | none=>rw[e]at h;cases h
   | some y =>
    simp only
    exact qnj (qgh hs h1 h2) (show qfr c (qcc s x)=some (y.1,y.2)from e)
  .cases h
theorem qtm{c:Ct}:∀{l:List Evn} {i:Nat} {r:Crs},stE c r.st=0->(qsg c l i r).2.2=0->stE c (qsg c l i r).1.st=0
 | [],_,_,h,_=>h
 | x :: l,i,r,hs,h=>by
  rw[qsg]at h ⊢
  by_cases h0:(qah c r.st x).2.2=0
  .rw[if_pos h0]at h ⊢
   exact qtm (qrz hs h0) h
  .rw[if_neg h0]at h
   exact absurd h h0
def qhd(c:Ct):Ste:=⟨List.replicate c.act.toNat 0,List.replicate c.act.toNat false,List.replicate c.inputs.length false,c.signals.map Sg.init,List.replicate c.signals.length 0⟩
def qdq(c:Ct):Ste:=qds c (qhd c)
theorem qsb{c:Ct}(hc:c.check=0):stE c (qhd c)=0:=by
 have hact:1<=c.act:=by
  unfold Ct.check at hc
  split at hc
  .cases hc
  .omega
 have hS:Shp c (qhd c):=⟨by unfold qhd;rw[kC];omega,by unfold qhd;rw[kC];omega,by unfold qhd;rw[kC],by unfold qhd;rw[List.length_map],by unfold qhd;rw[kC]⟩
 refine qgz.2 ⟨hc,hS,qgj.2 fun y hy=>?_,qgj.2 fun y hy=>?_,fun k hk=>?_⟩
 .rw[(List.mem_replicate.1 hy).2];omega
 .rw[(List.mem_replicate.1 hy).2];omega
 .have hkc:k<c.signals.length:=by rw[<-hS.t];exact hk
  rw[qxu hS hkc]
  unfold qhd
  simp only[List.getElem_map,List.getElem_replicate]
  have hz:=qsm hc k _ (jA hkc)
  generalize c.signals[k]=x at *
  by_cases h2:x.kind=2
  .have hi:x.init=false:=by
    cases hb:x.init with
    | false=>rfl
    | true =>
     exfalso
     unfold q3r at hz
     split at hz
     .split at hz
      .cases hz
      .split at hz
       .split at hz
        .rename_i h4;exact h4.2 hz
        .split at hz
         .cases hz
         .split at hz
          .cases hz
          .rw[if_pos (.inl ⟨by omega,.inr hb⟩)]at hz
           cases hz
       .rename_i h4;exact h4 hz
     .rename_i h4;exact h4 hz
   rw[h2,hi]
   rfl
  .simp[tmB,h2]
theorem qfq{c:Ct}(hc:c.check=0):stE c (qdq c)=0:=qnk (qsb hc)
structure Rdy(c:Ct)(s:Ste):Prop where
 few:c.small=true
 st:stE c s=0
theorem Rdy.chk{c:Ct}{s:Ste}(h:Rdy c s):c.check=0:=(qme h.st).1
theorem Rdy.mid{c:Ct}{s:Ste}(h:Rdy c s):Mid c c.act.toNat:=qud h.chk h.few
theorem Rdy.shp{c:Ct}{s:Ste}(h:Rdy c s):Shp c s:=(qme h.st).2
theorem Rdy.small{c:Ct}{s:Ste}(h:Rdy c s):s.small:=by
 obtain⟨h1,h2,h3,h4,h5⟩:=h.shp
 have a1:=h.mid.hi
 have a2:=h.mid.inp
 have a3:=h.mid.sig
 have a4:=h.mid.act
 exact⟨by omega,by omega,by omega,by omega,by omega⟩
theorem Rdy.sig{c:Ct}{s:Ste}(h:Rdy c s):∀x∈c.signals,SigOk (qad s).length x:=by
 intro x hx
 rw[q0y h.shp]
 have:=jah h.chk h.few hx
 exact⟨⟨this.non,this.on⟩,fun _=>⟨this.noff,this.off⟩⟩
theorem Rdy.pil{c:Ct}{s:Ste}(h:Rdy c s):Pil c c.act.toNat (qad s).length:=by
 rw[q0y h.shp]
 have:=qvn h.chk h.few
 exact⟨this.plus,this.minus,qgj.1 this.pp,qgj.1 this.mm⟩
theorem Rdy.settle{c:Ct}{s t:Ste}{m:List Int}(h:Rdy c s)(hz:qce c s=some (t,m)):Rdy c t:=⟨h.few,qoz h.st hz⟩
theorem Rdy.round{c:Ct}{s t:Ste}{m:List Int}(h:Rdy c s)(hz:qcu c s=some (t,m)):Rdy c t:=⟨h.few,qrv h.st hz⟩
structure Lin(N:Nat)(l:List Int):Prop where
 asc:Asc l
 b:∀x∈l,0<=x/\x<(N:Int)
theorem Lin.norm(N:Nat)(l:List Int):Lin N (norm N l):=⟨qmk N l,fun _ hx=>(qkm.1 hx).2⟩
theorem Lin.self{N:Nat}{l:List Int}(h:Lin N l):Proofs.YtlhciedghbmjjaaGreat.norm N l=l:=zay h.asc h.b
theorem ztv(N:Nat)(l:List Int):(norm N l).length<=N:=qhi _ _ _
theorem Lin.len{N:Nat}{l:List Int}(h:Lin N l):l.length<=N:=by
 have:=ztv N l
 rwa [h.self]at this
theorem Lin.mono{M N:Nat}{l:List Int}(h:Lin M l)(hMN:M<=N):Lin N l:=⟨h.asc,fun x hx=>by have:=h.b x hx;omega⟩
theorem Lin.mrg{N:Nat}{l m:List Int}(hl:Lin N l)(hm:Lin N m):mrg l m=Proofs.YtlhciedghbmjjaaGreat.norm N (l++m):=zjl hl.asc hm.asc hl.b hm.b
theorem Lin.nil(N:Nat):Lin N []:=⟨List.Pairwise.nil,by simp⟩
theorem qrx{c:Ct}{N:Nat}:∀{d:Nat} {s:Ste} {l:List Int} {t:Ste} {m:List Int},qdn c N d s l=some (t,m)->Lin N m
 | 0,_,_,_,_,h=>by cases h
 | d+1,s,l,t,m,h=>by
  rw[qdn]at h
  split at h
  .cases h;exact Lin.norm _ _
  .exact qrx h
theorem qns{c:Ct}{s t:Ste}{m:List Int}(h:qce c s=some (t,m)):Lin (qak c c.act.toNat) m:=qrx h
theorem qte(c:Ct)(s:Ste):Lin (qfs c) (qls c s):=by
 refine⟨?_,fun x hx=>?_⟩
 .unfold qls qps Asc
  rw[List.pairwise_map]
  refine List.Pairwise.imp ?_ ((List.pairwise_lt_range (n:=c.act.toNat)).filter _)
  intro a b h
  omega
 .unfold qls at hx
  obtain⟨j,h1,_,rfl⟩:=(q6n _ _ _ _).1 hx
  unfold qfs
  omega
theorem qhy{c:Ct}(h:Mid c c.act.toNat):qfs c<=200:=by
 have:=h.hi
 have:=h.inp
 have:=h.sig
 unfold qfs qak
 omega
theorem q9o{c:Ct}{s t:Ste}{m:List Int}(h:qcu c s=some (t,m)):Lin (qfs c) m:=by
 obtain⟨u,k,_,_,rfl⟩:=qrg h
 exact Lin.norm _ _
theorem ev145{c:Ct}{s:Ste}(h:Rdy c s):ev pg (.call (.fn 145 [] []) [c.v,s.v] [])=some { v:=.tup (qvt (qcu c s)++[.bool (qcu c s).isSome]),st:=⟨[],[]⟩ }:=by
 cases hZ:qce c s with
 | none =>
  have h124:=ev170 c h.mid s h.small h.shp h.sig
  have hr:qcu c s=none:=by unfold qcu;rw[hZ];rfl
  rw[hr]
  rw[hZ]at h124
  simp[qvt]at h124
  rw[qac,pg145]
  simp[ir145,h124,qvt,zeroS]
 | some x =>
  obtain⟨t,m⟩:=x
  have ht:=h.settle hZ
  have hm:=qns hZ
  have hN:=qhy h.mid
  have h83:=ev145_some c h.mid s h.small h.shp h.sig hZ ht.small ht.shp ht.pil (by have:=hm.len;unfold qfs at hN;omega)
  have hr:qcu c s=some (qkc (qik c t),norm (qfs c) (m++qls c t)):=by unfold qcu;rw[hZ];rfl
  rw[hr,h83]
  have e:mrg m (cfA c t c.act.toNat)=norm (qfs c) (m++qls c t):=Lin.mrg (hm.mono (by unfold qfs;omega)) (qte c t)
  rw[e]
  rfl
end Go.Proofs.YtlhciedghbmjjaaGreat
