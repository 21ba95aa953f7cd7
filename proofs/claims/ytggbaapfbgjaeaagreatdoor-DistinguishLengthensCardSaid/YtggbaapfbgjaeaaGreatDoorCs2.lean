/- The signals. -/
import Derived.Test.YtggbaapfbgjaeaaGreatDoorLi1
import Derived.Test.YtggbaapfbgjaeaaGreatDoorSt1
set_option linter.all false
namespace Go.Proofs.YtggbaapfbgjaeaaGreatDoor
open Go Go.Am Go.Proofs
set_option maxRecDepth 100000
structure SigOk(n:Nat)(x:Sg):Prop where
 on:x.on.nodes<=256/\x.on.err n=0
 off:x.kind=1->x.off.nodes<=256/\x.off.err n=0
theorem ev288(x:Sg)(L:List Bool)(h:SigOk L.length x):ev pg (.call (fnq 288) [.agg x.row,qdb L] [])=some (rvq (.tup [.bool (x.on.holds L),.bool (q3l x L)])):=by
 have h1:=ev190 L x.on h.on.1 h.on.2;rw[qab,pg288.1];unfold q3l;by_cases hk:x.kind=1
 .have h2:=ev190 L x.off (h.off hk).1 (h.off hk).2;simp[qaa,exT,qag,ir288,h1,h2,hk]
 .have hkb:(x.kind==1)=false:=by simpa using hk
  simp[qaa,exT,qag,ir288,h1,hk,hkb]
abbrev z3j(s:Ste)(i:Nat)(p:Bool×Int):Ste:=⟨s.ends,s.valves,s.inputs,s.values.set i p.1,s.timers.set i p.2⟩
set_option maxHeartbeats 2000000 in
theorem ev287(c:Ct)(s:Ste)(i:Nat)(hs:s.small)(hS:Shp c s)(hi:i<c.signals.length)(hok:SigOk (qae s).length c.signals[i])(hv:i<s.values.length)(ht:i<s.timers.length):∃b,ev pg (.call (fnq 287) [c.v,s.v,num i] [])=some (rvq (.tup [(z3j s i (qlz c.signals[i] (qae s) s.values[i] s.timers[i])).v,.bool b])):=by
 have h28:=ev191 c s hs hS.e;have h130:=ev189 s hs;have h182:=ev288 c.signals[i] (qae s) hok;have hi':(i:Int)<c.signals.length:=by omega
 generalize qae s=L at *;unfold qlz q3l at *;generalize hon:c.signals[i].on.holds L=on at *;generalize hof:c.signals[i].off.holds L=off at *;rw[qab,pg287.1];by_cases k1:c.signals[i].kind=1
 .simp[Sg.row,k1]at h182;cases on<;>cases off<;>simp[qaa,exT,qag,ir287,h28,h130,h182,k1,hi,hi',hv,ht]
 .have kb1:(c.signals[i].kind==1)=false:=by simpa using k1
  by_cases k2:c.signals[i].kind=2
  .simp[Sg.row,k2]at h182;by_cases t0:s.timers[i]=0
   .cases on<;>simp[qaa,exT,qag,ir287,h28,h130,h182,k2,hi,hi',hv,ht,t0]
   .have tb:(s.timers[i]==0)=false:=by simpa using t0
    cases on<;>simp[qaa,exT,qag,ir287,h28,h130,h182,k2,hi,hi',hv,ht,t0,tb]
  .have kb2:(c.signals[i].kind==2)=false:=by simpa using k2
   simp[k1]at h182;simp[qaa,exT,qag,ir287,h28,h130,h182,k1,k2,kb1,kb2,hi,hi',hv,ht]
theorem ev289{c:Ct}{A:Nat}(h:Mid c A)(k:Nat)(hk:k<=128):ev pg (.call (fnq 289) [c.v,num k] [])=some (rvq (num ((qal c A:Nat)+(k:Int)))):=by
 have h1:=ev142 h;have a1:=h.hi;have a2:=h.inp;have hb:qal c A<=44:=by unfold qal;omega
 generalize qal c A=F at *;have w:=qam (n:=(F:Int)+(k:Int)) (by omega) (by omega);rw[qab,pg289.1];simp[ir289,h1,w]
abbrev tv(c:Ct)(g:Ste)(k:Nat):List Bool:=mix ((qde c g).map Prod.fst) g.values k
abbrev tt(c:Ct)(g:Ste)(k:Nat):List Int:=mix ((qde c g).map Prod.snd) g.timers k
abbrev bdL(c:Ct)(g:Ste)(F:Nat)(k:Nat):List Int:=qsb (q6q c (qae g)) F k
abbrev zow(c:Ct)(g:Ste)(F:Nat)(k:Nat)(a:Nat×Nat):H:=[⟨0,.box c.cells⟩,⟨0,.box g.cells⟩,o0,o0,o0,o0,o0,⟨0,.box (q3k 2)⟩,⟨0,.arr 1 (g.ends.map qbh)⟩,⟨0,.arr 1 (g.valves.map qfi)⟩,⟨0,.arr 1 (g.inputs.map qfi)⟩,⟨0,.arr 1 ((tv c g k).map qfi)⟩,⟨0,.arr 1 ((tt c g k).map qbh)⟩,o0,o0,o0,o0,o0,⟨0,.box [.sl 8 0 1 0 g.ends.length,.sl 9 0 1 0 g.valves.length,.sl 10 0 1 0 g.inputs.length,.sl 11 0 1 0 g.values.length,.sl 12 0 1 0 g.timers.length]⟩,o0,⟨a.1,.arr a.2 ((bdL c g F k).map qbh)⟩]
def zus(c:Ct)(g:Ste)(F:Nat)(k:Nat)(a:Nat×Nat):Tm:=[none,none,bN 0,bN 1,bN 7,some (.sl 19 0 0 0 0),bN 18,some (.sl 20 a.1 a.2 0 (bdL c g F k).length),nN k]++zN 65
set_option maxHeartbeats 2000000 in
theorem z2f(c:Ct)(g:Ste){A:Nat}(hM:Mid c A)(hs:g.small)(hS:Shp c g)(hok:∀x∈c.signals,SigOk (qae g).length x){st:St}(a0:Nat×Nat)(g0:a0.2=1\/a0.2=0)(h0:At (zus c g (qal c A) 0 a0) (zow c g (qal c A) 0 a0) st):∃r,ev pg (.code (.going 21 L278_0) st)=some r/\∃a:Nat×Nat,(a.2=1\/a.2=0)/\qat (.exit 0) (zus c g (qal c A) c.signals.length a) (zow c g (qal c A) c.signals.length a) r:=by
 have hn:=hM.sig;refine qce c.signals.length (zus c g (qal c A)) (zow c g (qal c A)) (fun _ a=>a.2=1\/a.2=0) _ ?_ ?_ a0 g0 h0
 .rintro k ⟨gn,m⟩ f hf hk hG;have hk':(k:Int)<c.signals.length:=by omega
  have wk:=qbi k;have hkv:k<g.values.length:=by rw[hS.v];exact hk
  have hkt:k<g.timers.length:=by rw[hS.t];exact hk
  obtain⟨b,h181⟩:=ev287 c g k hs hS hk (hok _ (jH hk)) hkv hkt;have h28:=ev191 c g hs hS.e;have h182:=ev288 c.signals[k] (qae g) (hok _ (jH hk));have h183:=ev289 hM k (by omega);have hget:(qde c g)[k]?=some (qlz c.signals[k] (qae g) g.values[k] g.timers[k]):=qnu _ (jA hk) (jA hkv) (jA hkt);have hlen:(qde c g).length=c.signals.length:=qje _ hS.v hS.t;have hkl:k<(qde c g).length:=by omega
  have hget':(qde c g)[k]=qlz c.signals[k] (qae g) g.values[k] g.timers[k]:=by have:=hget;rw[jA hkl]at this;exact Option.some.inj this
  have l1:((qde c g).map Prod.fst).length=g.values.length:=by rw[List.length_map,hlen,hS.v]
  have l2:((qde c g).map Prod.snd).length=g.timers.length:=by rw[List.length_map,hlen,hS.t]
  have e1:=qkg (A:=(qde c g).map Prod.fst) (B:=g.values) l1 (k:=k) (by rw[List.length_map];exact hkl);have e2:=qkg (A:=(qde c g).map Prod.snd) (B:=g.timers) l2 (k:=k) (by rw[List.length_map];exact hkl);rw[List.getElem_map,hget']at e1 e2;have m1:=qlp (A:=(qde c g).map Prod.fst) (B:=g.values) l1 (k:=k) (by rw[List.length_map];omega);have m2:=qlp (A:=(qde c g).map Prod.snd) (B:=g.timers) l2 (k:=k) (by rw[List.length_map];omega);rw[l1]at m1;rw[l2]at m2;have e3:=qnl (q6q c (qae g)) (qal c A:Nat) k;have hb:q6q c (qae g) k=(c.signals[k].on.holds (qae g)&&q3l c.signals[k] (qae g)):=by unfold q6q;rw[jA hk];rfl
  rw[hb]at e3;have hsl:=qif (q6q c (qae g)) (qal c A:Nat) k;unfold zus zow tv tt bdL;rw[<-e1,<-e2,e3];generalize mix ((qde c g).map Prod.fst) g.values k=VV at *;generalize mix ((qde c g).map Prod.snd) g.timers k=TT at *;generalize qsb (q6q c (qae g)) (qal c A:Nat) k=BB at *;generalize qlz c.signals[k] (qae g) g.values[k] g.timers[k]=p at *;generalize qal c A=F at *;generalize c.signals[k].on.holds (qae g)=on at *;generalize q3l c.signals[k] (qae g)=off at *;generalize qae g=L at *;have hkV:k<VV.length:=by omega
  have hkT:k<TT.length:=by omega
  have hb1:(BB.length+1)*8<=140737488355328:=by omega
  have hmm:m=1\/m=0:=hG;obtain⟨p1,p2⟩:=p;rcases hmm with rfl | rfl<;>cases on<;>cases off<;>simp[qaa,exT,qag,L278_0,hk,hk',wk,h181,h28,h182,h183,hkv,hkt,hkV,hkT,m1.symm,m2.symm,hb1,hf.ne]
 .rintro⟨gn,m⟩ f hf hG;unfold zus zow;generalize bdL c g (qal c A) c.signals.length=BB at *;have hmm:m=1\/m=0:=hG;rcases hmm with rfl | rfl<;>simp[L278_0,hf.ne]
theorem q4k{c:Ct}{s:Ste}{A:Nat}(hM:Mid c A)(hS:Shp c s):qao s=qal c A:=by have h1:=hS.e;have h2:=hM.act;have h3:=hS.i;unfold qao qal;omega
theorem ev278(c:Ct)(s:Ste){A:Nat}(hM:Mid c A)(hs:s.small)(hS:Shp c s)(hok:∀x∈c.signals,SigOk (qae s).length x):ev pg (.call (fnq 278) [c.v,s.v] [])=some (rvq (.tup [(qgl c s).v,qct (quj c s)])):=by
 have h88:=ev138 c s hs hS hM.sig (fun x hx=>(hok x hx).on);have hgl:=qko (c:=c) s;have hSg:Shp c (qdo c s):=⟨hS.e,hS.w,hS.i,by rw[hgl];exact hS.v,hS.t⟩
 have hsg:(qdo c s).small:=⟨hs.e,hs.w,hs.i,by rw[hgl];exact hs.v,hs.t⟩
 have hLl:(qae (qdo c s)).length=(qae s).length:=by rw[qdk,qdk,hgl];rfl
 have hl:=@z2f c (qdo c s) A hM hsg hSg (fun x hx=>by rw[hLl];exact hok x hx);have hF:=q4k hM hS;unfold qgl quj;rw[hF];generalize qdo c s=g at *;have h130:=ev189 g hsg;have hlen:(qde c g).length=c.signals.length:=qje _ hSg.v hSg.t;have l1:((qde c g).map Prod.fst).length=g.values.length:=by rw[List.length_map,hlen,hSg.v]
 have l2:((qde c g).map Prod.snd).length=g.timers.length:=by rw[List.length_map,hlen,hSg.t]
 have z1:tv c g 0=g.values:=qhl _ _;have z2:tt c g 0=g.timers:=qhl _ _;have f1:tv c g c.signals.length=(qde c g).map Prod.fst:=by have:=qkf l1;rwa [List.length_map,hlen]at this
 have f2:tt c g c.signals.length=(qde c g).map Prod.snd:=by have:=qkf l2;rwa [List.length_map,hlen]at this
 have z3:bdL c g (qal c A) 0=[]:=rfl;unfold zus zow at hl;rw[z1,z2,z3,f1,f2]at hl;unfold qwz;generalize (qde c g).map Prod.fst=VV at *;generalize (qde c g).map Prod.snd=TT at *;rw[show qsb (q6q c (qae g)) (qal c A:Nat) c.signals.length=bdL c g (qal c A) c.signals.length from rfl];generalize bdL c g (qal c A) c.signals.length=BB at *;rw[qab,pg278.1];simp[ir278,h88,h130,qah];generalize hr:ev pg (.code (.going _ L278_0) _)=o;obtain⟨r,rfl,⟨gn,m⟩,hm,f,hf,rfl⟩:∃r,o=some r/\_:=by rw[<-hr];exact hl (0,0) (.inr rfl) (by simp)
 clear hr;have hmm:m=1\/m=0:=hm;rcases hmm with rfl | rfl<;>simp[l1.symm,l2.symm]
def qxy(L:List Int):List (V×V):=L.map fun k=>(num k,V.bool true)
def zku(L:List Int)(k:Int):List Int:=if k∈L then L else L++[k]
theorem zbp(k:Int):∀L:List Int,q3p (qxy L) (num k) (.bool true)=some (qxy (zku L k))
 | []=>by simp[qxy,zku,q3p]
 | a :: L=>by
  have ih:=zbp k L;unfold qxy at *;simp only[List.map_cons,q3p,eqS,if_true];by_cases h:k=a
  .subst h;simp[zku]
  .have hb:(k==a)=false:=by simpa using h
   rw[hb];simp only;rw[ih];unfold zku;by_cases hm:k∈L
   .simp[hm]
   .simp[hm,h]
theorem q4j(k:Int):∀L:List Int,qpp (qxy L) (num k)=some (if k∈L then some (.bool true)else none)
 | []=>by simp[qxy,qpp]
 | a :: L=>by
  have ih:=q4j k L;unfold qxy at *;simp only[List.map_cons,qpp,eqS,if_true];by_cases h:k=a
  .subst h;simp
  .have hb:(k==a)=false:=by simpa using h
   rw[hb];simp only;rw[ih];simp[h]
def qme(L l:List Int):List Int:=l.foldl zku L
theorem zng{L:List Int}{k x:Int}:x∈zku L k<->x∈L\/x=k:=by
 unfold zku;split
 .exact⟨.inl,fun h=>h.elim id fun h=>by rw[h];assumption⟩
 .simp
theorem q5f:∀{l L:List Int} {x:Int},x∈qme L l<->x∈L\/x∈l
 | [],L,x=>by simp[qme]
 | k :: l,L,x=>by have:=@q5f l (zku L k) x;unfold qme at *;rw[List.foldl_cons,this,zng,List.mem_cons,or_assoc]
theorem zbx{L l:List Int}{k:Nat}(hk:k<l.length):qme L (l.take (k+1))=zku (qme L (l.take k)) l[k]:=by unfold qme;rw[jK hk,List.foldl_append];rfl
abbrev z0f(c:Ct)(s t:Ste)(L:List Int):H:=[⟨0,.box c.cells⟩,⟨0,.box s.cells⟩,o0,o0,o0,o0,o0,⟨0,.box (q3k 2)⟩,⟨0,.map (qxy L)⟩,o0,o0,o0,o0,o0,o0,⟨0,.box t.cells⟩]
def q3q(n:Nat)(l:List Int)(k:Nat):Tm:=[none,none,bN 0,bN 1,bN 7,some (.sl 9 0 0 0 0),nN 0,some (.bool false),some (.map 8),nN n,bN 15,some (qct l),nN k]++zN 45
theorem zxx(c:Ct)(s t:Ste)(n:Nat)(L l:List Int)(hl:l.length<=4096){st:St}(h0:At (q3q n l 0) (z0f c s t (qme L (l.take 0))) st):∃r,ev pg (.code (.going 16 L264_0) st)=some r/\qat (.exit 2) (q3q n l l.length) (z0f c s t (qme L (l.take l.length))) r:=by
 refine qgj l.length (q3q n l) (fun k=>z0f c s t (qme L (l.take k))) _ ?_ ?_ h0
 .intro k f hf hk;have hk':(k:Int)<l.length:=by omega
  have wk:=qbi k;simp only[zbx hk];have hu:=zbp l[k] (qme L (l.take k));generalize qme L (l.take k)=M at *;simp[q3q,L264_0,hk,hk',wk,hu,hf.ne]
 .intro f hf;generalize qme L (l.take l.length)=M at *;simp[q3q,L264_0,hf.ne]
abbrev inM(L:List Int)(k:Nat):List Int:=qsb (fun j=>L.contains (j:Int)) 0 k
abbrev zcu(c:Ct)(s t:Ste)(L:List Int)(k:Nat)(a:Nat×Nat):H:=z0f c s t L++[⟨a.1,.arr a.2 ((inM L k).map qbh)⟩]
def zbu(n:Nat)(l:List Int)(L:List Int)(k:Nat)(a:Nat×Nat):Tm:=[none,none,bN 0,bN 1,bN 7,some (.sl 9 0 0 0 0),nN 0,some (.bool false),some (.map 8),nN n,bN 15,some (qct l),nN l.length,some (.sl 16 a.1 a.2 0 (inM L k).length),nN k]++zN 43
theorem zxy(c:Ct){A:Nat}(hM:Mid c A)(s t:Ste)(n:Nat)(l L:List Int){st:St}(a0:Nat×Nat)(g0:a0.2=1\/a0.2=0)(h0:At (zbu n l L 0 a0) (zcu c s t L 0 a0) st):∃r,ev pg (.code (.going 17 L264_1) st)=some r/\∃a:Nat×Nat,(a.2=1\/a.2=0)/\qat (.exit 4) (zbu n l L (qac c A) a) (zcu c s t L (qac c A) a) r:=by
 have hn1:=hM.sig;have hn2:=hM.inp;have hn3:=hM.hi;have hN:qac c A<=172:=by unfold qac;omega
 have h102:=ev116 hM;generalize qac c A=N at *;refine qce N (zbu n l L) (zcu c s t L) (fun _ a=>a.2=1\/a.2=0) _ ?_ ?_ a0 g0 h0
 .rintro k ⟨g,m⟩ f hf hk hG;have hk':(k:Int)<N:=by omega
  have wk:=qbi k;have hfd:=q4j (k:Int) L;have e3:=qnl (fun j=>L.contains (j:Int)) 0 k;have hsl:=qif (fun j=>L.contains (j:Int)) 0 k;unfold zbu zcu inM;rw[e3];generalize qsb (fun j=>L.contains (j:Int)) 0 k=B at *;have hb1:(B.length+1)*8<=140737488355328:=by omega
  have hmm:m=1\/m=0:=hG;by_cases hm:(k:Int)∈L
  .rw[if_pos hm]at hfd;rcases hmm with rfl | rfl<;>simp[L264_1,hk,hk',wk,h102,hfd,hm,hb1,hf.ne]
  .rw[if_neg hm]at hfd;rcases hmm with rfl | rfl<;>simp[L264_1,hk,hk',wk,h102,hfd,hm,hf.ne]
 .rintro⟨g,m⟩ f hf hG;unfold zbu zcu;generalize inM L N=B at *;have hmm:m=1\/m=0:=hG;rcases hmm with rfl | rfl<;>simp[L264_1,h102,hf.ne]
abbrev zrr(c:Ct)(s:Ste)(L:List Int):H:=[⟨0,.box c.cells⟩,⟨0,.box s.cells⟩,o0,o0,o0,o0,o0,⟨0,.box (q3k 2)⟩,⟨0,.map (qxy L)⟩,o0]
def zok(k:Nat):Tm:=[none,none,bN 0,bN 1,bN 7,some (.sl 9 0 0 0 0),nN 0,some (.bool false),some (.map 8),nN k]++zN 48
abbrev z1q(c:Ct)(t:Ste)(M:List Int)(u:Ste)(m:List Int)(a:Nat×Nat):H:=[⟨0,.box c.cells⟩,⟨0,.box t.cells⟩,o0,o0,o0,o0,o0,⟨0,.box t.cells⟩,⟨0,.map (qxy M)⟩,o0,o0,o0,o0,o0,o0,⟨0,.box u.cells⟩,⟨a.1,.arr a.2 (m.map qbh)⟩]
def zkn(n:Nat)(j:Nat)(a:Nat×Nat):Tm:=[none,none,none,none,bN 7,some (.sl 16 a.1 a.2 0 j),nN n,some (.bool true)]++zN 50
def zvn(c:Ct)(Z:Option (Ste×List Int))(r:R):Prop:=match Z with
 | some (t,m)=>∃(M:List Int) (u:Ste) (n:Nat) (a:Nat×Nat),(a.2=1\/a.2=0)/\qat .ret (zkn n m.length a) (z1q c t M u m a) r
 | none=>∃(t:Ste) (M:List Int),qat (.exit 0) (zok 65) (zrr c t M) r
structure G151(c:Ct)(s:Ste)(N:Nat)(Z:Option (Ste×List Int))(k:Nat)(a:Ste×List Int×List Int):Prop where
 go:qcx c N (65-k) a.1 a.2.2=Z
 mem:∀x,x∈a.2.1<->x∈a.2.2
 small:a.1.small
 shp:Shp c a.1
 len:(qae a.1).length=(qae s).length
theorem znp{c:Ct}{s:Ste}(hs:s.small)(hS:Shp c s):(qgl c s).small/\Shp c (qgl c s)/\(qae (qgl c s)).length=(qae s).length:=by
 have hgl:=qko (c:=c) s;have hlen:(qde c (qdo c s)).length=c.signals.length:=qje _ (by rw[hgl];exact hS.v) hS.t;have v1:(qgl c s).values.length=s.values.length:=by show((qde c (qdo c s)).map Prod.fst).length=_;rw[List.length_map,hlen,hS.v]
 have t1:(qgl c s).timers.length=s.timers.length:=by show((qde c (qdo c s)).map Prod.snd).length=_;rw[List.length_map,hlen,hS.t]
 refine⟨⟨hs.e,hs.w,hs.i,by rw[v1];exact hs.v,by rw[t1];exact hs.t⟩,⟨hS.e,hS.w,hS.i,by rw[v1];exact hS.v,by rw[t1];exact hS.t⟩,?_⟩;rw[qdk,qdk,v1];rfl
set_option maxHeartbeats 1000000 in
theorem z2c(c:Ct){A:Nat}(hM:Mid c A)(s:Ste)(hs:s.small)(hS:Shp c s)(hok:∀x∈c.signals,SigOk (qae s).length x){st:St}(h0:At (zok 0) (zrr c s []) st):∃r,ev pg (.code (.going 10 L264_2) st)=some r/\zvn c (qcx c (qac c A) 65 s []) r:=by
 generalize hR:qcx c (qac c A) 65 s []=Z;refine qce 65 (fun k _=>zok k) (fun _ a=>zrr c a.1 a.2.1) (G151 c s (qac c A) Z) _ ?_ ?_ (s,[],[]) ⟨hR,fun _=>Iff.rfl,hs,hS,rfl⟩ h0
 .rintro k ⟨t,L,l⟩ f hf hk hG;have hgo:=hG.go;have hmem:=hG.mem;have hsm:=hG.small;have hsh:=hG.shp;have hln:=hG.len;simp only at hgo hmem hsm hsh hln;have hk':(k:Int)<=64:=by omega
  have wk:=qbi k;have zow:=ev278 c t hM hsm hsh (fun x hx=>by rw[hln];exact hok x hx);obtain⟨o1,o2,o3⟩:=znp hsm hsh;have h20:=ev223 (qgl c t) t o1;rw[show 65-k=(64-k)+1 by omega,qcx]at hgo;have hbl:(quj c t).length<=4096:=by have:=qif (q6q c (qae (qdo c t))) (qao t) c.signals.length;have:=hM.sig;unfold quj;omega
  have la:=@zxx c t (qgl c t) k L (quj c t) hbl;have hmem':∀x,x∈qme L (quj c t)<->x∈l++quj c t:=fun x=>by rw[q5f,hmem,jQ]
  have hnorm:inM (qme L (quj c t)) (qac c A)=norm (qac c A) (l++quj c t):=qzv fun x _ _=>hmem' x;have lb:=@zxy c A hM t (qgl c t) k (quj c t) (qme L (quj c t));unfold zbu zcu at lb;rw[hnorm,show inM (qme L (quj c t)) 0=[]from rfl]at lb;rw[List.take_length,List.take_zero,show qme L []=L from rfl]at la;generalize qgl c t=u at *;generalize quj c t=B at *;generalize qme L B=M at *;simp[zok,L264_2,hk',zow,qah,hf.ne];generalize hr:ev pg (.code (.going _ L264_0) _)=o;obtain⟨r,rfl,f2,hf2,rfl⟩:∃r,o=some r/\_:=by rw[<-hr];exact la (by simp[q3q,hf.ne])
  clear hr;by_cases hst:qja u t=true
  .rw[if_pos hst]at hgo;rw[hst]at h20;simp[q3q,h20,hf2.ne];generalize hr:ev pg (.code (.going _ L264_1) _)=o;obtain⟨r,rfl,⟨g,m⟩,hm,f3,hf3,rfl⟩:∃r,o=some r/\_:=by rw[<-hr];exact lb (0,0) (.inr rfl) (by simp[hf2.ne])
   clear hr;subst hgo;have hmm:m=1\/m=0:=hm;rcases hmm with rfl | rfl<;>simp[hf3.ne]
   .exact⟨M,u,k,(g,1),.inl rfl,by simp[zkn,hf3.ne]⟩
   .exact⟨M,u,k,(g,0),.inr rfl,by simp[zkn,hf3.ne]⟩
  .have hsf:qja u t=false:=by simpa using hst
   rw[if_neg hst]at hgo;rw[hsf]at h20;have hG':G151 c s (qac c A) Z (k+1) (u,M,l++B):=⟨by rw[<-hgo,show 65-(k+1)=64-k by omega],hmem',o1,o2,by rw[o3];exact hln⟩
   simp[q3q,h20,wk,hf2.ne];refine⟨u,M,⟨l++B,hG'⟩,?_⟩;simp
 .rintro⟨t,L,l⟩ f hf hG;have hgo:=hG.go;simp only[Nat.sub_self,qcx]at hgo;subst hgo;simp[zok,L264_2,hf.ne];exact⟨t,L,by simp[zok,hf.ne]⟩
end Go.Proofs.YtggbaapfbgjaeaaGreatDoor
