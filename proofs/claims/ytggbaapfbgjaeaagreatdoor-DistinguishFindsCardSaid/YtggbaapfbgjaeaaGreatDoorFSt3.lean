/- A run. -/
import Derived.Test.YtggbaapfbgjaeaaGreatDoorFSv1
import Derived.Test.YtggbaapfbgjaeaaGreatDoorFSt1
set_option linter.all false
namespace Go.Proofs.YtggbaapfbgjaeaaGreatDoor
open Go Go.Am Go.Proofs
set_option maxRecDepth 100000
abbrev sl5(i:Nat)(u:Ste):List V:=[.sl i 0 1 0 u.ends.length,.sl (i+1) 0 1 0 u.valves.length,.sl (i+2) 0 1 0 u.inputs.length,.sl (i+3) 0 1 0 u.values.length,.sl (i+4) 0 1 0 u.timers.length]
abbrev ar5(u:Ste):H:=[⟨0,.arr 1 (u.ends.map qbk)⟩,⟨0,.arr 1 (u.valves.map qfj)⟩,⟨0,.arr 1 (u.inputs.map qfj)⟩,⟨0,.arr 1 (u.values.map qfj)⟩,⟨0,.arr 1 (u.timers.map qbk)⟩]
abbrev hM(c:Ct)(s u:Ste)(F:Nat):H:=[⟨0,.box c.cells⟩,⟨0,.box s.cells⟩,o0,o0,o0,o0,o0,⟨0,.box (q3u 2)⟩,⟨0,.box c.cells⟩,⟨0,.box s.cells⟩]++ar5 u++[⟨0,.box (c.cells++sl5 10 u++[num F])⟩]
abbrev hQ(g w:Nat)(L:List Int):H:=[o0,⟨g,.arr w (L.map qbk)⟩]
abbrev hB(b:Ste):H:=ar5 b++[o0,o0,o0,o0,o0,⟨0,.box (sl5 18 b)⟩]
abbrev zpx(c:Ct)(s u b:Ste)(F gq wq:Nat)(L:List Int):H:=hM c s u F++hQ gq wq L++hB b
abbrev zdj(c:Ct)(s u b:Ste)(F gq wq:Nat)(L:List Int)(k:Nat)(a:Nat×Nat):H:=zpx c s u b F gq wq L++[o0,⟨a.1,.arr a.2 ((qeo (u.ends.take k)).map qfj)⟩]
def zre(u:Ste)(k:Nat)(a:Nat×Nat):Tm:=[bN 15,none,some (.sl 29 0 0 0 0),some (.sl 30 a.1 a.2 0 (2*k)),none,none,none,none,none,none,some (.sl 10 0 1 0 u.ends.length),some (num u.ends.length),nN k]++zN 24
set_option maxHeartbeats 1000000 in
theorem z3n(c:Ct)(s u b:Ste)(F gq wq:Nat)(L:List Int)(hs:u.small){st:St}(a0:Nat×Nat)(g0:a0.2=1\/a0.2=0)(h0:At (zre u 0 a0) (zdj c s u b F gq wq L 0 a0) st):∃r,ev pg (.code (.going 31 L269_0) st)=some r/\∃a:Nat×Nat,(a.2=1\/a.2=0)/\qar (.exit 0) (zre u u.ends.length a) (zdj c s u b F gq wq L u.ends.length a) r:=by
 have hse:=hs.e;refine qcg u.ends.length (zre u) (zdj c s u b F gq wq L) (fun _ a=>a.2=1\/a.2=0) _ ?_ ?_ a0 g0 h0
 .rintro k ⟨g,m⟩ f hf hk hG;have hk':(k:Int)<u.ends.length:=by omega
  have wk:=qbc k;have hlen:(qeo (u.ends.take k)).length=2*k:=by rw[qeu,List.length_take];omega
  have hb:2*k+2<=140737488355328:=by omega
  have h2:2*(k+1)=2*k+2:=by omega
  unfold zre zdj;rw[qss hk,h2];generalize qeo (u.ends.take k)=W at *;have hmm:m=1\/m=0:=hG;rcases hmm with rfl | rfl<;>simp[L269_0,hk,hk',wk,hb,hlen,hf.ne]
 .rintro⟨g,m⟩ f hf hG;unfold zre zdj;generalize qeo (u.ends.take u.ends.length)=W at *;generalize 2*u.ends.length=N at *;have hmm:m=1\/m=0:=hG;rcases hmm with rfl | rfl<;>simp[L269_0,hf.ne]
theorem ev290h{h:H}(hc:calm h)(n:Nat)(h1:1<=n)(hn:n<=100000):ev pg (.call (fnq 290) [.nils,num n] h)=some { v:=.sl h.length 0 1 0 0,st:=⟨[],h++[⟨0,.arr 1 []⟩]⟩ }:=by
 have w1:=qam (n:=(n:Int)) (by omega) (by omega);have p1:¬((n:Int)<0):=by omega
 have w0:=qam (n:=0) (by omega) (by omega);have p3:n*1<=140737488355328:=by omega
 have p4:n<=140737488355328:=by omega
 have hn0:0<n:=by omega
 have hne:¬n=0:=by omega
 have hne2:¬0=n:=by omega
 have hcm:h.map (qbx h.length)=h:=hc;rw[qaa,pg290.1];simp[ir290,w0,w1,p1,hn0,hne,hne2,p3,p4,qch,qel,qdz,hcm]
def nK(a b c k:Nat):Nat:=if k=0 then 0 else if k=1 then a else if k=2 then a+b else a+b+c
def wK(a b c:List Bool)(k:Nat):List Bool:=if k=0 then []else if k=1 then a else if k=2 then a++b else a++b++c
abbrev vw3(u:Ste)(g m:Nat):V:=.view false [.sl 30 g m 0 (2*u.ends.length),.sl 12 0 1 0 u.inputs.length,.sl 13 0 1 0 u.values.length]
abbrev zdk(c:Ct)(s u b:Ste)(F gq wq:Nat)(L:List Int)(g m:Nat)(E:List Bool):H:=zpx c s u b F gq wq L++[o0,⟨g,.arr m (E.map qfj)⟩]
def q4b(u:Ste)(g m k:Nat):Tm:=[some (vw3 u g m),none,some (.sl 31 0 0 0 0),some (num (nK (2*u.ends.length) u.inputs.length u.values.length k)),none,none,none,none,none,some (vw3 u g m),nN 3,nN k]++zN 24
def zcg(u:Ste)(g m k:Nat)(a:Nat×Nat):Tm:=[some (vw3 u g m),none,some (.sl 31 0 0 0 0),none,none,none,some (.sl 32 a.1 a.2 0 (nK (2*u.ends.length) u.inputs.length u.values.length k))]++zN 18++[some (vw3 u g m),nN 3,nN k]++zN 8
set_option maxHeartbeats 2000000 in
theorem ev279m(c:Ct)(s u b:Ste)(F gq wq:Nat)(L:List Int)(hs:u.small)(h1:1<=u.ends.length)(g m:Nat)(hm:m=1\/m=0)(E:List Bool)(hE:E.length=2*u.ends.length):ev pg (.call (fnq 279) [vw3 u g m] (zdk c s u b F gq wq L g m E))=some { v:=.sl 31 0 1 0 (2*u.ends.length+u.inputs.length+u.values.length),st:=⟨[],zdk c s u b F gq wq L g m E++[⟨0,.arr 1 ((E++u.inputs++u.values).map qfj)⟩]⟩ }:=by
 have s1:=hs.e;have s2:=hs.i;have s3:=hs.v;have la:∀st,At (q4b u g m 0) (zdk c s u b F gq wq L g m E++[o0]) st->∃r,ev pg (.code (.going 32 L279_0) st)=some r/\qar (.exit 0) (q4b u g m 3) (zdk c s u b F gq wq L g m E++[o0]) r:=by
  intro st h0;refine qfn 3 (q4b u g m) (fun _=>zdk c s u b F gq wq L g m E++[o0]) _ ?_ ?_ h0
  .intro k f hf hk;have hk3:k=0\/k=1\/k=2:=by omega
   have x1:¬(2*(u.ends.length:Int))<0:=by omega
   have x2:¬(2*(u.ends.length:Int)+(u.inputs.length:Int))<0:=by omega
   have x3:¬(2*(u.ends.length:Int)+(u.inputs.length:Int)+(u.values.length:Int))<0:=by omega
   have y1:=qam (n:=2*(u.ends.length:Int)) (by omega) (by omega);have y2:=qam (n:=2*(u.ends.length:Int)+(u.inputs.length:Int)) (by omega) (by omega);have y3:=qam (n:=2*(u.ends.length:Int)+(u.inputs.length:Int)+(u.values.length:Int)) (by omega) (by omega);have z1:IntKind.i64.wrap 1=1:=by decide
   have z2:IntKind.i64.wrap 2=2:=by decide
   have z3:IntKind.i64.wrap 3=3:=by decide
   rcases hk3 with rfl | rfl | rfl<;>rcases hm with rfl | rfl<;>simp[L279_0,q4b,nK,x1,x2,x3,y1,y2,y3,z1,z2,z3,hf.ne]
  .intro f hf;simp[L279_0,q4b,hf.ne]
 have lb:∀st,At (zcg u g m 0 (0,1)) (zdk c s u b F gq wq L g m E++[o0,⟨0,.arr 1 []⟩]) st->∃r,ev pg (.code (.going 33 L279_1) st)=some r/\∃a:Nat×Nat,a.2=1/\qar (.exit 2) (zcg u g m 3 a) (zdk c s u b F gq wq L g m E++[o0,⟨a.1,.arr a.2 ((wK E u.inputs u.values 3).map qfj)⟩]) r:=by
  intro st h0;refine qcg 3 (zcg u g m) (fun k a=>zdk c s u b F gq wq L g m E++[o0,⟨a.1,.arr a.2 ((wK E u.inputs u.values k).map qfj)⟩]) (fun _ a=>a.2=1) _ ?_ ?_ (0,1) rfl (by simpa[wK]using h0)
  .rintro k ⟨g2,m2⟩ f hf hk hG;obtain rfl:m2=1:=hG;have hk3:k=0\/k=1\/k=2:=by omega
   have z1:IntKind.i64.wrap 1=1:=by decide
   have z2:IntKind.i64.wrap 2=2:=by decide
   have z3:IntKind.i64.wrap 3=3:=by decide
   have y1:2*u.ends.length<=140737488355328:=by omega
   have y2:2*u.ends.length+u.inputs.length<=140737488355328:=by omega
   have y3:2*u.ends.length+u.inputs.length+u.values.length<=140737488355328:=by omega
   rcases hk3 with rfl | rfl | rfl<;>rcases hm with rfl | rfl<;>simp[L279_1,zcg,nK,wK,hE,y1,y2,y3,z1,z2,z3,hf.ne]
  .rintro⟨g2,m2⟩ f hf hG;obtain rfl:m2=1:=hG;simp[L279_1,zcg,hf.ne]
 have hcal:calm (zdk c s u b F gq wq L g m E++[o0]):=by unfold calm;simp
 have e189:=ev290h hcal (2*u.ends.length+u.inputs.length+u.values.length) (by omega) (by omega);have hW:wK E u.inputs u.values 3=E++u.inputs++u.values:=by simp[wK]
 have hN:nK (2*u.ends.length) u.inputs.length u.values.length 3=2*u.ends.length+u.inputs.length+u.values.length:=by simp[nK]
 have hla:∀f,fill f 0 (q4b u g m 3)=fill f 0 ([some (vw3 u g m),none,some (.sl 31 0 0 0 0),some (num (2*u.ends.length+u.inputs.length+u.values.length:Nat)),none,none,none,none,none,some (vw3 u g m),some (num 3),some (num 3)]++List.replicate 24 none):=fun f=>by unfold q4b;rw[hN];rfl
 rw[hW]at lb;have hlen:((E++u.inputs++u.values).map qfj).length=2*u.ends.length+u.inputs.length+u.values.length:=by simp[hE];omega
 generalize (E++u.inputs++u.values).map qfj=W at *;have lb':∀st,At ([some (vw3 u g m),none,some (.sl 31 0 0 0 0),none,none,none,some (.sl 32 0 1 0 0)]++List.replicate 18 none++[some (vw3 u g m),some (num 3),some (num 0)]++List.replicate 8 none) (zdk c s u b F gq wq L g m E++[o0,⟨0,.arr 1 []⟩]) st->∃r,ev pg (.code (.going 33 L279_1) st)=some r/\∃a:Nat×Nat,a.2=1/\qar (.exit 2) ([none,none,none,none,none,none,some (.sl 32 a.1 a.2 0 (2*u.ends.length+u.inputs.length+u.values.length))]++List.replicate 29 none) (zdk c s u b F gq wq L g m E++[o0,⟨a.1,.arr a.2 W⟩]) r:=by intro st h0;obtain⟨r,e,a,ha,f,hf,rfl⟩:=lb st h0;refine⟨_,e,a,ha,?_⟩;unfold zcg;rw[hN];generalize 2*u.ends.length+u.inputs.length+u.values.length=N at *;simp[hf.ne]
 generalize 2*u.ends.length+u.inputs.length+u.values.length=N at *;simp at e189;rw[qaa,pg279.1];simp[ir279,qai];generalize hr:ev pg (.code (.going _ L279_0) _)=o;obtain⟨r,rfl,f,hf,rfl⟩:∃r,o=some r/\_:=by rw[<-hr];exact la _ (by simp[q4b,nK])
 clear hr;rw[hla];simp[e189,hf.ne,qai];generalize hr:ev pg (.code (.going _ L279_1) _)=o;obtain⟨r,rfl,⟨g2,m2⟩,hm2,f2,hf2,rfl⟩:∃r,o=some r/\_:=by rw[<-hr];exact lb' _ (by simp[hf.ne])
 obtain rfl:m2=1:=hm2;clear hr;simp[qch,qel,qdz,hlen]
set_option maxHeartbeats 1000000 in
theorem ev269(c:Ct)(s u b:Ste)(F gq wq:Nat)(L:List Int)(hs:u.small)(h1:1<=u.ends.length):ev pg (.call (fnq 269) [.bptr 15 0] (zpx c s u b F gq wq L))=some { v:=.sl 29 0 1 0 (qae u).length,st:=⟨[],zpx c s u b F gq wq L++[⟨0,.arr 1 ((qae u).map qfj)⟩]⟩ }:=by
 have hl:=@z3n c s u b F gq wq L hs;have he:=qeu u.ends;have hlen:=qdm u;have zdk:=fun g m hm=>ev279m c s u b F gq wq L hs h1 g m hm (qeo u.ends) he;unfold zdj at hl;rw[List.take_length,List.take_zero,qeo]at hl;unfold qae at hlen ⊢;rw[hlen];have hWl:((qeo u.ends++u.inputs++u.values).map qfj).length=2*u.ends.length+u.inputs.length+u.values.length:=by rw[List.length_map,hlen]
 generalize (qeo u.ends++u.inputs++u.values).map qfj=W at *;generalize qeo u.ends=E at *;generalize hN:2*u.ends.length+u.inputs.length+u.values.length=N at *;rw[qaa,pg269.1];simp[ir269,qai];generalize hr:ev pg (.code (.going _ L269_0) _)=o;obtain⟨r,rfl,⟨g,m⟩,hm,f,hf,rfl⟩:∃r,o=some r/\_:=by rw[<-hr];exact hl (0,0) (.inr rfl) (by simp[zre])
 clear hr;have hmm:m=1\/m=0:=hm;have h174':=zdk g m hmm;simp at h174';rcases hmm with rfl | rfl<;>simp[qab,exT,qag,zre,he,h174',qch,qel,qdz,hWl]
abbrev znm(c:Ct)(s u b:Ste)(gq wq:Nat)(L:List Int)(k:Nat):H:=zpx c s (stK c u k) b (qao u) gq wq L++[⟨0,.arr 1 ((qbd c (qao u) k (qae u)).map qfj)⟩]
def zrd(c:Ct)(N k:Nat):Tm:=[bN 15,none,some (.sl 29 0 1 0 N),none,none,none,none,none,none,none,none,none,some (.imm (c.signals.map Sg.row)),some (num c.signals.length),nN k]++zN 29
set_option maxHeartbeats 2000000 in
theorem z3m(c:Ct)(s u b:Ste)(gq wq:Nat)(L:List Int)(hs:u.small)(hS:Shp c u)(hn:c.signals.length<=128)(hF:qao u<=10000)(hok:∀x∈c.signals,x.on.nodes<=256/\x.on.err (qae u).length=0){st:St}(h0:At (zrd c (qae u).length 0) (znm c s u b gq wq L 0) st):∃r,ev pg (.code (.going 30 L268_0) st)=some r/\qar (.exit 0) (zrd c (qae u).length c.signals.length) (znm c s u b gq wq L c.signals.length) r:=by
 refine qfn c.signals.length (zrd c (qae u).length) (znm c s u b gq wq L) _ ?_ ?_ h0
 .intro k f hf hk;have hk':(k:Int)<c.signals.length:=by omega
  have wk:=qbc k;have hsc:=zbu c u k hk;obtain⟨g1,g2⟩:=hok _ (jH hk);have hLl:(qae (stK c u k)).length=(qae u).length:=by rw[qku,qfe]
  have h165:=ev271 (qae (stK c u k)) c.signals[k].on g1 (by rw[hLl];exact g2);have hvl:=q3i c u k;have hkv:k<u.values.length:=by rw[hS.v];exact hk
  have hgt:qbd c (qao u) (k+1) (qae u)=if c.signals[k].kind=0 then(qbd c (qao u) k (qae u)).set (qao u+k) (c.signals[k].on.holds (qae (stK c u k)))else qbd c (qao u) k (qae u):=by rw[qbd,qgm,jA hk,qku]
  have hst:∀j,stK c u j=⟨u.ends,u.valves,u.inputs,(stK c u j).values,u.timers⟩:=fun j=>rfl;have hlt:(qbd c (qao u) k (qae u)).length=(qae u).length:=qfe _ _ _ _;have hFk:qao u+k<(qae u).length:=by rw[qdm];unfold qao;omega
  rw[qku]at h165 hgt;unfold znm;rw[hst (k+1),hst k,hsc,hgt,qku];unfold zrd;generalize qbd c (qao u) k (qae u)=G at *;generalize hv:c.signals[k].on.holds G=v at *;generalize (stK c u k).values=W at *;generalize qao u=F at *;have hkW:k<W.length:=by omega
  have wF:=qam (n:=(F:Int)+k) (by omega) (by omega);have pF:(0:Int)<=(F:Int)+k:=by omega
  have tF:((F:Int)+k).toNat=F+k:=by omega
  generalize (qae u).length=N at *;by_cases h0:c.signals[k].kind=0
  .have hFk':F+k<G.length:=by omega
   simp[qab,exT,qag,L268_0,hk,hk',wk,h0,hlt.symm,h165,hkW,hkv,hFk',hvl,wF,pF,tF,hf.ne]
  .have h0b:(c.signals[k].kind==0)=false:=by simpa using h0
   simp[L268_0,hk,hk',wk,h0,h0b,hf.ne]
 .intro f hf;unfold zrd znm;simp[L268_0,hf.ne]
set_option maxHeartbeats 1000000 in
theorem ev268(c:Ct)(s u b:Ste)(gq wq:Nat)(L:List Int)(hs:u.small)(hS:Shp c u)(hn:c.signals.length<=128)(hF:qao u<=10000)(h1:1<=u.ends.length)(hok:∀x∈c.signals,x.on.nodes<=256/\x.on.err (qae u).length=0):ev pg (.call (fnq 268) [.bptr 15 0] (zpx c s u b (qao u) gq wq L))=some { v:=.tup [],st:=⟨[],zpx c s (qdp c u) b (qao u) gq wq L⟩ }:=by
 have hl:=@z3m c s u b gq wq L hs hS hn hF hok;have e163:=ev269 c s u b (qao u) gq wq L hs h1;have hst:∀j,stK c u j=⟨u.ends,u.valves,u.inputs,(stK c u j).values,u.timers⟩:=fun j=>rfl;have hvl:=q3i c u c.signals.length;unfold znm at hl;rw[zbv,q8x,show qbd c (qao u) 0 (qae u)=qae u from rfl]at hl;rw[q8x]at hvl;have hg:qdp c u=⟨u.ends,u.valves,u.inputs,(qdp c u).values,u.timers⟩:=rfl;rw[hg]at hl ⊢;generalize (qdp c u).values=W at *;generalize qbd c (qao u) c.signals.length (qae u)=G at *;generalize qao u=F at *;generalize qae u=LL at *;simp at e163;rw[qaa,pg268.1];simp[ir268,e163,qai];generalize hr:ev pg (.code (.going _ L268_0) _)=o;obtain⟨r,rfl,f,hf,rfl⟩:∃r,o=some r/\_:=by rw[<-hr];exact hl (by simp[zrd])
 clear hr;simp[zrd]
abbrev chg(v:Bool)(t:Int)(b:Bool):V:=.agg [.bool v,num t,.bool b]
theorem ev280(v:Bool)(t:Int)(b on off:Bool):ev pg (.call (fnq 280) [chg v t b,.bool on,.bool off] [])=some (rvq (chg v t b)):=by rw[qaa,pg280.1];simp[ir280]
theorem ev281(v:Bool)(t:Int)(b on off:Bool):ev pg (.call (fnq 281) [chg v t b,.bool on,.bool off] [])=some (rvq (chg (if on != off then on else v) t (on&&off))):=by rw[qaa,pg281.1];cases on<;>cases off<;>simp[ir281]
theorem ev282(v:Bool)(t:Int)(b on off:Bool):ev pg (.call (fnq 282) [chg v t b,.bool on,.bool off] [])=some (rvq (if on=true then chg v (if t=0 then 1 else t) b else chg false 0 false)):=by
 rw[qaa,pg282.1];cases on with
 | false=>simp[ir282]
 | true =>
  by_cases h:t=0
  .simp[ir282,h]
  .have hb:(t==0)=false:=by simpa using h
   simp[ir282,h,hb]
abbrev zzs:V:=.agg [.fn 280 [] [],.fn 281 [] [],.fn 282 [] []]
theorem ev270:ev pg (.call (fnq 270) [] [])=some (rvq zzs):=by rw[qaa,pg270.1];simp[ir270]
theorem q0x(s:Ste):qjb s s=true:=qhv.2 rfl
theorem qul{c:Ct}:∀{d:Nat} {s:Ste} {l:List Int} {t:Ste} {m:List Int},qgx c d s l=some (t,m)->∃a,qcf c t=some (t,a)
 | 0,_,_,_,_,h=>by cases h
 | d+1,s,l,t,m,h=>by
  rw[qgx]at h;cases e:qcf c s with
  | none=>rw[e]at h;cases h
  | some x =>
   rw[e]at h;simp only at h;split at h
   .rename_i hs;cases h;have:=qhv.1 hs;exact⟨x.2,by rw[e,this]⟩
   .exact qul h
theorem qqe{c:Ct}{s t:Ste}{m:List Int}(h:qiy c s=some (t,m)):∃a,qcf c t=some (t,a):=qul h
theorem zem{c:Ct}{t:Ste}{a:List Int}(h:qcf c t=some (t,a)):qiy c t=some (t,norm (qqq c) a):=by unfold qiy;rw[qgx,h];simp only[q0x,if_true,List.nil_append]
theorem qsc{c:Ct}{N:Nat}:∀{d:Nat} {s:Ste} {l:List Int} {t:Ste} {m:List Int},qcy c N d s l=some (t,m)->t.ends=s.ends/\t.valves=s.valves/\t.inputs=s.inputs
 | 0,_,_,_,_,h=>by cases h
 | d+1,s,l,t,m,h=>by
  rw[qcy]at h;split at h
  .cases h;exact⟨rfl,rfl,rfl⟩
  .exact qsc (s:=qgo c s) h
theorem qnr{c:Ct}{s t:Ste}{m:List Int}(h:qby c s=some (t,m)):t.ends=s.ends/\t.valves=s.valves/\t.inputs=s.inputs:=qsc h
theorem qjx{c:Ct}{s t:Ste}{a:List Int}(h:qcf c s=some (t,a)):∃u m,qby c s=some (u,m)/\t=qkf (qgq c u)/\a=norm (qqq c) (m++qms c u):=by
 unfold qcf at h;cases e:qby c s with
 | none=>rw[e]at h;cases h
 | some x =>rw[e]at h;cases h;exact⟨x.1,x.2,rfl,rfl,rfl⟩
theorem q3c{c:Ct}{s t:Ste}{a:List Int}(h:qcf c s=some (t,a)):t.inputs=s.inputs:=by obtain⟨u,m,hu,rfl,_⟩:=qjx h;exact(qnr hu).2.2
theorem qrx{c:Ct}:∀{d:Nat} {s:Ste} {l:List Int} {t:Ste} {m:List Int},qgx c d s l=some (t,m)->t.inputs=s.inputs
 | 0,_,_,_,_,h=>by cases h
 | d+1,s,l,t,m,h=>by
  rw[qgx]at h;cases e:qcf c s with
  | none=>rw[e]at h;cases h
  | some x =>
   rw[e]at h;simp only at h;split at h
   .cases h;rfl
   .rw[qrx h,q3c (show qcf c s=some (x.1,x.2)from e)]
theorem q6j{c:Ct}{s t:Ste}{m:List Int}(h:qiy c s=some (t,m)):t.inputs=s.inputs:=qrx h
structure Evn where
 kind:Int
 idx:Int
 val:Bool
abbrev Evn.row(x:Evn):List V:=[num x.kind,num x.idx,.bool x.val]
def qrb(a b:Ste)(i:Nat):Option (Int×Bool):=match a.ends[i]?,b.ends[i]? with
 | some x,some y=>if(y=1\/y=3)/\x≠y then some (i,y==1)else none
 | _,_=>none
def qmw(a b:Ste):List (Int×Bool):=(List.range a.ends.length).filterMap (qrb a b)
def qbr(s:Ste)(k:Int)(i:Nat):Bool:=if k=0 then((s.ends[i]?).map fun e=>e==1||e==3).getD false else((s.timers[i]?).map fun t=>t==1).getD false
def qjk(s:Ste):List Evn:=((List.range s.ends.length).filter (qbr s 0)).map (fun(i:Nat)=>⟨0,i,false⟩)++((List.range s.timers.length).filter (qbr s 1)).map fun(i:Nat)=>⟨1,i,false⟩
def qpz(s:Ste)(x:Evn):Bool :=
 if x.idx<0 then false
 else if x.kind=2 then((s.inputs[x.idx.toNat]?).map fun v=>v != x.val).getD false
 else qbr s x.kind x.idx.toNat
def qek(s:Ste)(x:Evn):Ste :=
 if x.kind=0 then⟨s.ends.set x.idx.toNat (if s.ends[x.idx.toNat]?=some 1 then 2 else 0),s.valves,s.inputs,s.values,s.timers⟩
 else if x.kind=1 then⟨s.ends,s.valves,s.inputs,s.values.set x.idx.toNat true,s.timers.set x.idx.toNat 2⟩
 else⟨s.ends,s.valves,s.inputs.set x.idx.toNat x.val,s.values,s.timers⟩
def qjn(c:Ct)(s:Ste):Ste×List Int×Int:=match qiy c s with
 | some x=>(x.1,x.2,0)
 | none=>(qfa,[],21)
def qee(c:Ct)(s:Ste)(x:Evn):Ste×List Int×Int :=
 if x.kind<0\/2<x.kind then(qfa,[],1)else if qpz s x=true then qjn c (qek s x)else(qfa,[],14)
structure Crs where
 st:Ste
 strokes:List (List (Int×Bool))
 conf:List Int
def q9f:Crs:=⟨qfa,[],[]⟩
def qva(c:Ct):List Evn->Nat->Crs->Crs×Int×Int
 | [],_,r=>(r,0,0)
 | x :: l,i,r=>if(qee c r.st x).2.2=0 then qva c l (i+1) ⟨(qee c r.st x).1,r.strokes++[qmw r.st (qee c r.st x).1],norm (qqq c) (r.conf++(qee c r.st x).2.1)⟩else(q9f,i,(qee c r.st x).2.2)
theorem q4e{c:Ct}{s:Ste}{x:Evn}(h:(qee c s x).2.2=0):∃a,qcf c (qee c s x).1=some ((qee c s x).1,a):=by
 unfold qee at h ⊢;split at h
 .cases h
 .rename_i h1;rw[if_neg h1];split at h
  .rename_i h2;rw[if_pos h2];unfold qjn at h ⊢;cases e:qiy c (qek s x)with
   | none=>rw[e]at h;cases h
   | some y =>simp only;exact qqe (show qiy c (qek s x)=some (y.1,y.2)from e)
  .cases h
theorem qyh{c:Ct}:∀{l:List Evn} {i:Nat} {r:Crs},(∃a,qcf c r.st=some (r.st,a))->(qva c l i r).2.2=0->∃a,qcf c (qva c l i r).1.st=some ((qva c l i r).1.st,a)
 | [],_,_,h,_=>h
 | x :: l,i,r,_,h=>by
  rw[qva]at h ⊢;by_cases h0:(qee c r.st x).2.2=0
  .rw[if_pos h0]at h ⊢;exact qyh (q4e h0) h
  .rw[if_neg h0]at h;exact absurd h h0
end Go.Proofs.YtggbaapfbgjaeaaGreatDoor
