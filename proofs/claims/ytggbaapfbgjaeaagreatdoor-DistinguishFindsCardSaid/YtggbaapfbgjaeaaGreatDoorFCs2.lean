/- The signals. -/
import Derived.Test.YtggbaapfbgjaeaaGreatDoorFLi1
import Derived.Test.YtggbaapfbgjaeaaGreatDoorFSt1
set_option linter.all false
namespace Go.Proofs.YtggbaapfbgjaeaaGreatDoor
open Go Go.Am Go.Proofs
set_option maxRecDepth 100000
structure SigOk(n:Nat)(x:Sg):Prop where
 on:x.on.nodes<=256/\x.on.err n=0
 off:x.kind=1->x.off.nodes<=256/\x.off.err n=0
theorem ev288(x:Sg)(L:List Bool)(h:SigOk L.length x):ev pg (.call (fnq 288) [.agg x.row,qdc L] [])=some (rvq (.tup [.bool (x.on.holds L),.bool (q3v x L)])):=by
 have h1:=ev190 L x.on h.on.1 h.on.2;rw[qaa,pg288.1];unfold q3v;by_cases hk:x.kind=1
 .have h2:=ev190 L x.off (h.off hk).1 (h.off hk).2;simp[qab,exT,qag,ir288,h1,h2,hk]
 .have hkb:(x.kind==1)=false:=by simpa using hk
  simp[qab,exT,qag,ir288,h1,hk,hkb]
abbrev z5c(s:Ste)(i:Nat)(p:Bool×Int):Ste:=⟨s.ends,s.valves,s.inputs,s.values.set i p.1,s.timers.set i p.2⟩
set_option maxHeartbeats 2000000 in
theorem ev287(c:Ct)(s:Ste)(i:Nat)(hs:s.small)(hS:Shp c s)(hi:i<c.signals.length)(hok:SigOk (qae s).length c.signals[i])(hv:i<s.values.length)(ht:i<s.timers.length):∃b,ev pg (.call (fnq 287) [c.v,s.v,num i] [])=some (rvq (.tup [(z5c s i (qma c.signals[i] (qae s) s.values[i] s.timers[i])).v,.bool b])):=by
 have h28:=ev191 c s hs hS.e;have h130:=ev189 s hs;have h182:=ev288 c.signals[i] (qae s) hok;have hi':(i:Int)<c.signals.length:=by omega
 generalize qae s=L at *;unfold qma q3v at *;generalize hon:c.signals[i].on.holds L=on at *;generalize hof:c.signals[i].off.holds L=off at *;rw[qaa,pg287.1];by_cases k1:c.signals[i].kind=1
 .simp[Sg.row,k1]at h182;cases on<;>cases off<;>simp[qab,exT,qag,ir287,h28,h130,h182,k1,hi,hi',hv,ht]
 .have kb1:(c.signals[i].kind==1)=false:=by simpa using k1
  by_cases k2:c.signals[i].kind=2
  .simp[Sg.row,k2]at h182;by_cases t0:s.timers[i]=0
   .cases on<;>simp[qab,exT,qag,ir287,h28,h130,h182,k2,hi,hi',hv,ht,t0]
   .have tb:(s.timers[i]==0)=false:=by simpa using t0
    cases on<;>simp[qab,exT,qag,ir287,h28,h130,h182,k2,hi,hi',hv,ht,t0,tb]
  .have kb2:(c.signals[i].kind==2)=false:=by simpa using k2
   simp[k1]at h182;simp[qab,exT,qag,ir287,h28,h130,h182,k1,k2,kb1,kb2,hi,hi',hv,ht]
theorem ev289{c:Ct}{A:Nat}(h:Mid c A)(k:Nat)(hk:k<=128):ev pg (.call (fnq 289) [c.v,num k] [])=some (rvq (num ((qal c A:Nat)+(k:Int)))):=by
 have h1:=ev142 h;have a1:=h.hi;have a2:=h.inp;have hb:qal c A<=44:=by unfold qal;omega
 generalize qal c A=F at *;have w:=qam (n:=(F:Int)+(k:Int)) (by omega) (by omega);rw[qaa,pg289.1];simp[ir289,h1,w]
abbrev tv(c:Ct)(g:Ste)(k:Nat):List Bool:=mix ((qdg c g).map Prod.fst) g.values k
abbrev tt(c:Ct)(g:Ste)(k:Nat):List Int:=mix ((qdg c g).map Prod.snd) g.timers k
abbrev bdL(c:Ct)(g:Ste)(F:Nat)(k:Nat):List Int:=qsk (q7c c (qae g)) F k
abbrev zpy(c:Ct)(g:Ste)(F:Nat)(k:Nat)(a:Nat×Nat):H:=[⟨0,.box c.cells⟩,⟨0,.box g.cells⟩,o0,o0,o0,o0,o0,⟨0,.box (q3u 2)⟩,⟨0,.arr 1 (g.ends.map qbk)⟩,⟨0,.arr 1 (g.valves.map qfj)⟩,⟨0,.arr 1 (g.inputs.map qfj)⟩,⟨0,.arr 1 ((tv c g k).map qfj)⟩,⟨0,.arr 1 ((tt c g k).map qbk)⟩,o0,o0,o0,o0,o0,⟨0,.box [.sl 8 0 1 0 g.ends.length,.sl 9 0 1 0 g.valves.length,.sl 10 0 1 0 g.inputs.length,.sl 11 0 1 0 g.values.length,.sl 12 0 1 0 g.timers.length]⟩,o0,⟨a.1,.arr a.2 ((bdL c g F k).map qbk)⟩]
def zvx(c:Ct)(g:Ste)(F:Nat)(k:Nat)(a:Nat×Nat):Tm:=[none,none,bN 0,bN 1,bN 7,some (.sl 19 0 0 0 0),bN 18,some (.sl 20 a.1 a.2 0 (bdL c g F k).length),nN k]++zN 65
set_option maxHeartbeats 2000000 in
theorem z3o(c:Ct)(g:Ste){A:Nat}(hM:Mid c A)(hs:g.small)(hS:Shp c g)(hok:∀x∈c.signals,SigOk (qae g).length x){st:St}(a0:Nat×Nat)(g0:a0.2=1\/a0.2=0)(h0:At (zvx c g (qal c A) 0 a0) (zpy c g (qal c A) 0 a0) st):∃r,ev pg (.code (.going 21 L278_0) st)=some r/\∃a:Nat×Nat,(a.2=1\/a.2=0)/\qar (.exit 0) (zvx c g (qal c A) c.signals.length a) (zpy c g (qal c A) c.signals.length a) r:=by
 have hn:=hM.sig;refine qcg c.signals.length (zvx c g (qal c A)) (zpy c g (qal c A)) (fun _ a=>a.2=1\/a.2=0) _ ?_ ?_ a0 g0 h0
 .rintro k ⟨gn,m⟩ f hf hk hG;have hk':(k:Int)<c.signals.length:=by omega
  have wk:=qbc k;have hkv:k<g.values.length:=by rw[hS.v];exact hk
  have hkt:k<g.timers.length:=by rw[hS.t];exact hk
  obtain⟨b,h181⟩:=ev287 c g k hs hS hk (hok _ (jH hk)) hkv hkt;have h28:=ev191 c g hs hS.e;have h182:=ev288 c.signals[k] (qae g) (hok _ (jH hk));have h183:=ev289 hM k (by omega);have hget:(qdg c g)[k]?=some (qma c.signals[k] (qae g) g.values[k] g.timers[k]):=qnx _ (jA hk) (jA hkv) (jA hkt);have hlen:(qdg c g).length=c.signals.length:=qjf _ hS.v hS.t;have hkl:k<(qdg c g).length:=by omega
  have hget':(qdg c g)[k]=qma c.signals[k] (qae g) g.values[k] g.timers[k]:=by have:=hget;rw[jA hkl]at this;exact Option.some.inj this
  have l1:((qdg c g).map Prod.fst).length=g.values.length:=by rw[List.length_map,hlen,hS.v]
  have l2:((qdg c g).map Prod.snd).length=g.timers.length:=by rw[List.length_map,hlen,hS.t]
  have e1:=qki (A:=(qdg c g).map Prod.fst) (B:=g.values) l1 (k:=k) (by rw[List.length_map];exact hkl);have e2:=qki (A:=(qdg c g).map Prod.snd) (B:=g.timers) l2 (k:=k) (by rw[List.length_map];exact hkl);rw[List.getElem_map,hget']at e1 e2;have m1:=qlq (A:=(qdg c g).map Prod.fst) (B:=g.values) l1 (k:=k) (by rw[List.length_map];omega);have m2:=qlq (A:=(qdg c g).map Prod.snd) (B:=g.timers) l2 (k:=k) (by rw[List.length_map];omega);rw[l1]at m1;rw[l2]at m2;have e3:=qnp (q7c c (qae g)) (qal c A:Nat) k;have hb:q7c c (qae g) k=(c.signals[k].on.holds (qae g)&&q3v c.signals[k] (qae g)):=by unfold q7c;rw[jA hk];rfl
  rw[hb]at e3;have hsl:=qig (q7c c (qae g)) (qal c A:Nat) k;unfold zvx zpy tv tt bdL;rw[<-e1,<-e2,e3];generalize mix ((qdg c g).map Prod.fst) g.values k=VV at *;generalize mix ((qdg c g).map Prod.snd) g.timers k=TT at *;generalize qsk (q7c c (qae g)) (qal c A:Nat) k=BB at *;generalize qma c.signals[k] (qae g) g.values[k] g.timers[k]=p at *;generalize qal c A=F at *;generalize c.signals[k].on.holds (qae g)=on at *;generalize q3v c.signals[k] (qae g)=off at *;generalize qae g=L at *;have hkV:k<VV.length:=by omega
  have hkT:k<TT.length:=by omega
  have hb1:(BB.length+1)*8<=140737488355328:=by omega
  have hmm:m=1\/m=0:=hG;obtain⟨p1,p2⟩:=p;rcases hmm with rfl | rfl<;>cases on<;>cases off<;>simp[qab,exT,qag,L278_0,hk,hk',wk,h181,h28,h182,h183,hkv,hkt,hkV,hkT,m1.symm,m2.symm,hb1,hf.ne]
 .rintro⟨gn,m⟩ f hf hG;unfold zvx zpy;generalize bdL c g (qal c A) c.signals.length=BB at *;have hmm:m=1\/m=0:=hG;rcases hmm with rfl | rfl<;>simp[L278_0,hf.ne]
theorem q4v{c:Ct}{s:Ste}{A:Nat}(hM:Mid c A)(hS:Shp c s):qao s=qal c A:=by have h1:=hS.e;have h2:=hM.act;have h3:=hS.i;unfold qao qal;omega
theorem ev278(c:Ct)(s:Ste){A:Nat}(hM:Mid c A)(hs:s.small)(hS:Shp c s)(hok:∀x∈c.signals,SigOk (qae s).length x):ev pg (.call (fnq 278) [c.v,s.v] [])=some (rvq (.tup [(qgo c s).v,qcr (quv c s)])):=by
 have h88:=ev138 c s hs hS hM.sig (fun x hx=>(hok x hx).on);have hgl:=qkq (c:=c) s;have hSg:Shp c (qdp c s):=⟨hS.e,hS.w,hS.i,by rw[hgl];exact hS.v,hS.t⟩
 have hsg:(qdp c s).small:=⟨hs.e,hs.w,hs.i,by rw[hgl];exact hs.v,hs.t⟩
 have hLl:(qae (qdp c s)).length=(qae s).length:=by rw[qdm,qdm,hgl];rfl
 have hl:=@z3o c (qdp c s) A hM hsg hSg (fun x hx=>by rw[hLl];exact hok x hx);have hF:=q4v hM hS;unfold qgo quv;rw[hF];generalize qdp c s=g at *;have h130:=ev189 g hsg;have hlen:(qdg c g).length=c.signals.length:=qjf _ hSg.v hSg.t;have l1:((qdg c g).map Prod.fst).length=g.values.length:=by rw[List.length_map,hlen,hSg.v]
 have l2:((qdg c g).map Prod.snd).length=g.timers.length:=by rw[List.length_map,hlen,hSg.t]
 have z1:tv c g 0=g.values:=qhl _ _;have z2:tt c g 0=g.timers:=qhl _ _;have f1:tv c g c.signals.length=(qdg c g).map Prod.fst:=by have:=qkh l1;rwa [List.length_map,hlen]at this
 have f2:tt c g c.signals.length=(qdg c g).map Prod.snd:=by have:=qkh l2;rwa [List.length_map,hlen]at this
 have z3:bdL c g (qal c A) 0=[]:=rfl;unfold zvx zpy at hl;rw[z1,z2,z3,f1,f2]at hl;unfold qxn;generalize (qdg c g).map Prod.fst=VV at *;generalize (qdg c g).map Prod.snd=TT at *;rw[show qsk (q7c c (qae g)) (qal c A:Nat) c.signals.length=bdL c g (qal c A) c.signals.length from rfl];generalize bdL c g (qal c A) c.signals.length=BB at *;rw[qaa,pg278.1];simp[ir278,h88,h130,qai];generalize hr:ev pg (.code (.going _ L278_0) _)=o;obtain⟨r,rfl,⟨gn,m⟩,hm,f,hf,rfl⟩:∃r,o=some r/\_:=by rw[<-hr];exact hl (0,0) (.inr rfl) (by simp)
 clear hr;have hmm:m=1\/m=0:=hm;rcases hmm with rfl | rfl<;>simp[l1.symm,l2.symm]
def qyl(L:List Int):List (V×V):=L.map fun k=>(num k,V.bool true)
def zlo(L:List Int)(k:Int):List Int:=if k∈L then L else L++[k]
theorem zca(k:Int):∀L:List Int,q3z (qyl L) (num k) (.bool true)=some (qyl (zlo L k))
 | []=>by simp[qyl,zlo,q3z]
 | a :: L=>by
  have ih:=zca k L;unfold qyl at *;simp only[List.map_cons,q3z,eqS,if_true];by_cases h:k=a
  .subst h;simp[zlo]
  .have hb:(k==a)=false:=by simpa using h
   rw[hb];simp only;rw[ih];unfold zlo;by_cases hm:k∈L
   .simp[hm]
   .simp[hm,h]
theorem q4u(k:Int):∀L:List Int,qpv (qyl L) (num k)=some (if k∈L then some (.bool true)else none)
 | []=>by simp[qyl,qpv]
 | a :: L=>by
  have ih:=q4u k L;unfold qyl at *;simp only[List.map_cons,qpv,eqS,if_true];by_cases h:k=a
  .subst h;simp
  .have hb:(k==a)=false:=by simpa using h
   rw[hb];simp only;rw[ih];simp[h]
def qmg(L l:List Int):List Int:=l.foldl zlo L
theorem zoe{L:List Int}{k x:Int}:x∈zlo L k<->x∈L\/x=k:=by
 unfold zlo;split
 .exact⟨.inl,fun h=>h.elim id fun h=>by rw[h];assumption⟩
 .simp
theorem q5s:∀{l L:List Int} {x:Int},x∈qmg L l<->x∈L\/x∈l
 | [],L,x=>by simp[qmg]
 | k :: l,L,x=>by have:=@q5s l (zlo L k) x;unfold qmg at *;rw[List.foldl_cons,this,zoe,List.mem_cons,or_assoc]
theorem zci{L l:List Int}{k:Nat}(hk:k<l.length):qmg L (l.take (k+1))=zlo (qmg L (l.take k)) l[k]:=by unfold qmg;rw[jK hk,List.foldl_append];rfl
abbrev z1p(c:Ct)(s t:Ste)(L:List Int):H:=[⟨0,.box c.cells⟩,⟨0,.box s.cells⟩,o0,o0,o0,o0,o0,⟨0,.box (q3u 2)⟩,⟨0,.map (qyl L)⟩,o0,o0,o0,o0,o0,o0,⟨0,.box t.cells⟩]
def q4a(n:Nat)(l:List Int)(k:Nat):Tm:=[none,none,bN 0,bN 1,bN 7,some (.sl 9 0 0 0 0),nN 0,some (.bool false),some (.map 8),nN n,bN 15,some (qcr l),nN k]++zN 45
theorem zzj(c:Ct)(s t:Ste)(n:Nat)(L l:List Int)(hl:l.length<=4096){st:St}(h0:At (q4a n l 0) (z1p c s t (qmg L (l.take 0))) st):∃r,ev pg (.code (.going 16 L264_0) st)=some r/\qar (.exit 2) (q4a n l l.length) (z1p c s t (qmg L (l.take l.length))) r:=by
 refine qfn l.length (q4a n l) (fun k=>z1p c s t (qmg L (l.take k))) _ ?_ ?_ h0
 .intro k f hf hk;have hk':(k:Int)<l.length:=by omega
  have wk:=qbc k;simp only[zci hk];have hu:=zca l[k] (qmg L (l.take k));generalize qmg L (l.take k)=M at *;simp[q4a,L264_0,hk,hk',wk,hu,hf.ne]
 .intro f hf;generalize qmg L (l.take l.length)=M at *;simp[q4a,L264_0,hf.ne]
abbrev inM(L:List Int)(k:Nat):List Int:=qsk (fun j=>L.contains (j:Int)) 0 k
abbrev zdi(c:Ct)(s t:Ste)(L:List Int)(k:Nat)(a:Nat×Nat):H:=z1p c s t L++[⟨a.1,.arr a.2 ((inM L k).map qbk)⟩]
def zcf(n:Nat)(l:List Int)(L:List Int)(k:Nat)(a:Nat×Nat):Tm:=[none,none,bN 0,bN 1,bN 7,some (.sl 9 0 0 0 0),nN 0,some (.bool false),some (.map 8),nN n,bN 15,some (qcr l),nN l.length,some (.sl 16 a.1 a.2 0 (inM L k).length),nN k]++zN 43
theorem zzk(c:Ct){A:Nat}(hM:Mid c A)(s t:Ste)(n:Nat)(l L:List Int){st:St}(a0:Nat×Nat)(g0:a0.2=1\/a0.2=0)(h0:At (zcf n l L 0 a0) (zdi c s t L 0 a0) st):∃r,ev pg (.code (.going 17 L264_1) st)=some r/\∃a:Nat×Nat,(a.2=1\/a.2=0)/\qar (.exit 4) (zcf n l L (qad c A) a) (zdi c s t L (qad c A) a) r:=by
 have hn1:=hM.sig;have hn2:=hM.inp;have hn3:=hM.hi;have hN:qad c A<=172:=by unfold qad;omega
 have h102:=ev116 hM;generalize qad c A=N at *;refine qcg N (zcf n l L) (zdi c s t L) (fun _ a=>a.2=1\/a.2=0) _ ?_ ?_ a0 g0 h0
 .rintro k ⟨g,m⟩ f hf hk hG;have hk':(k:Int)<N:=by omega
  have wk:=qbc k;have hfd:=q4u (k:Int) L;have e3:=qnp (fun j=>L.contains (j:Int)) 0 k;have hsl:=qig (fun j=>L.contains (j:Int)) 0 k;unfold zcf zdi inM;rw[e3];generalize qsk (fun j=>L.contains (j:Int)) 0 k=B at *;have hb1:(B.length+1)*8<=140737488355328:=by omega
  have hmm:m=1\/m=0:=hG;by_cases hm:(k:Int)∈L
  .rw[if_pos hm]at hfd;rcases hmm with rfl | rfl<;>simp[L264_1,hk,hk',wk,h102,hfd,hm,hb1,hf.ne]
  .rw[if_neg hm]at hfd;rcases hmm with rfl | rfl<;>simp[L264_1,hk,hk',wk,h102,hfd,hm,hf.ne]
 .rintro⟨g,m⟩ f hf hG;unfold zcf zdi;generalize inM L N=B at *;have hmm:m=1\/m=0:=hG;rcases hmm with rfl | rfl<;>simp[L264_1,h102,hf.ne]
abbrev zsx(c:Ct)(s:Ste)(L:List Int):H:=[⟨0,.box c.cells⟩,⟨0,.box s.cells⟩,o0,o0,o0,o0,o0,⟨0,.box (q3u 2)⟩,⟨0,.map (qyl L)⟩,o0]
def zpm(k:Nat):Tm:=[none,none,bN 0,bN 1,bN 7,some (.sl 9 0 0 0 0),nN 0,some (.bool false),some (.map 8),nN k]++zN 48
abbrev z3a(c:Ct)(t:Ste)(M:List Int)(u:Ste)(m:List Int)(a:Nat×Nat):H:=[⟨0,.box c.cells⟩,⟨0,.box t.cells⟩,o0,o0,o0,o0,o0,⟨0,.box t.cells⟩,⟨0,.map (qyl M)⟩,o0,o0,o0,o0,o0,o0,⟨0,.box u.cells⟩,⟨a.1,.arr a.2 (m.map qbk)⟩]
def zli(n:Nat)(j:Nat)(a:Nat×Nat):Tm:=[none,none,none,none,bN 7,some (.sl 16 a.1 a.2 0 j),nN n,some (.bool true)]++zN 50
def zww(c:Ct)(Z:Option (Ste×List Int))(r:R):Prop:=match Z with
 | some (t,m)=>∃(M:List Int) (u:Ste) (n:Nat) (a:Nat×Nat),(a.2=1\/a.2=0)/\qar .ret (zli n m.length a) (z3a c t M u m a) r
 | none=>∃(t:Ste) (M:List Int),qar (.exit 0) (zpm 65) (zsx c t M) r
structure G151(c:Ct)(s:Ste)(N:Nat)(Z:Option (Ste×List Int))(k:Nat)(a:Ste×List Int×List Int):Prop where
 go:qcy c N (65-k) a.1 a.2.2=Z
 mem:∀x,x∈a.2.1<->x∈a.2.2
 small:a.1.small
 shp:Shp c a.1
 len:(qae a.1).length=(qae s).length
theorem zon{c:Ct}{s:Ste}(hs:s.small)(hS:Shp c s):(qgo c s).small/\Shp c (qgo c s)/\(qae (qgo c s)).length=(qae s).length:=by
 have hgl:=qkq (c:=c) s;have hlen:(qdg c (qdp c s)).length=c.signals.length:=qjf _ (by rw[hgl];exact hS.v) hS.t;have v1:(qgo c s).values.length=s.values.length:=by show((qdg c (qdp c s)).map Prod.fst).length=_;rw[List.length_map,hlen,hS.v]
 have t1:(qgo c s).timers.length=s.timers.length:=by show((qdg c (qdp c s)).map Prod.snd).length=_;rw[List.length_map,hlen,hS.t]
 refine⟨⟨hs.e,hs.w,hs.i,by rw[v1];exact hs.v,by rw[t1];exact hs.t⟩,⟨hS.e,hS.w,hS.i,by rw[v1];exact hS.v,by rw[t1];exact hS.t⟩,?_⟩;rw[qdm,qdm,v1];rfl
set_option maxHeartbeats 1000000 in
theorem z3l(c:Ct){A:Nat}(hM:Mid c A)(s:Ste)(hs:s.small)(hS:Shp c s)(hok:∀x∈c.signals,SigOk (qae s).length x){st:St}(h0:At (zpm 0) (zsx c s []) st):∃r,ev pg (.code (.going 10 L264_2) st)=some r/\zww c (qcy c (qad c A) 65 s []) r:=by
 generalize hR:qcy c (qad c A) 65 s []=Z;refine qcg 65 (fun k _=>zpm k) (fun _ a=>zsx c a.1 a.2.1) (G151 c s (qad c A) Z) _ ?_ ?_ (s,[],[]) ⟨hR,fun _=>Iff.rfl,hs,hS,rfl⟩ h0
 .rintro k ⟨t,L,l⟩ f hf hk hG;have hgo:=hG.go;have hmem:=hG.mem;have hsm:=hG.small;have hsh:=hG.shp;have hln:=hG.len;simp only at hgo hmem hsm hsh hln;have hk':(k:Int)<=64:=by omega
  have wk:=qbc k;have zpy:=ev278 c t hM hsm hsh (fun x hx=>by rw[hln];exact hok x hx);obtain⟨o1,o2,o3⟩:=zon hsm hsh;have h20:=ev223 (qgo c t) t o1;rw[show 65-k=(64-k)+1 by omega,qcy]at hgo;have hbl:(quv c t).length<=4096:=by have:=qig (q7c c (qae (qdp c t))) (qao t) c.signals.length;have:=hM.sig;unfold quv;omega
  have la:=@zzj c t (qgo c t) k L (quv c t) hbl;have hmem':∀x,x∈qmg L (quv c t)<->x∈l++quv c t:=fun x=>by rw[q5s,hmem,jQ]
  have hnorm:inM (qmg L (quv c t)) (qad c A)=norm (qad c A) (l++quv c t):=q0h fun x _ _=>hmem' x;have lb:=@zzk c A hM t (qgo c t) k (quv c t) (qmg L (quv c t));unfold zcf zdi at lb;rw[hnorm,show inM (qmg L (quv c t)) 0=[]from rfl]at lb;rw[List.take_length,List.take_zero,show qmg L []=L from rfl]at la;generalize qgo c t=u at *;generalize quv c t=B at *;generalize qmg L B=M at *;simp[zpm,L264_2,hk',zpy,qai,hf.ne];generalize hr:ev pg (.code (.going _ L264_0) _)=o;obtain⟨r,rfl,f2,hf2,rfl⟩:∃r,o=some r/\_:=by rw[<-hr];exact la (by simp[q4a,hf.ne])
  clear hr;by_cases hst:qjb u t=true
  .rw[if_pos hst]at hgo;rw[hst]at h20;simp[q4a,h20,hf2.ne];generalize hr:ev pg (.code (.going _ L264_1) _)=o;obtain⟨r,rfl,⟨g,m⟩,hm,f3,hf3,rfl⟩:∃r,o=some r/\_:=by rw[<-hr];exact lb (0,0) (.inr rfl) (by simp[hf2.ne])
   clear hr;subst hgo;have hmm:m=1\/m=0:=hm;rcases hmm with rfl | rfl<;>simp[hf3.ne]
   .exact⟨M,u,k,(g,1),.inl rfl,by simp[zli,hf3.ne]⟩
   .exact⟨M,u,k,(g,0),.inr rfl,by simp[zli,hf3.ne]⟩
  .have hsf:qjb u t=false:=by simpa using hst
   rw[if_neg hst]at hgo;rw[hsf]at h20;have hG':G151 c s (qad c A) Z (k+1) (u,M,l++B):=⟨by rw[<-hgo,show 65-(k+1)=64-k by omega],hmem',o1,o2,by rw[o3];exact hln⟩
   simp[q4a,h20,wk,hf2.ne];refine⟨u,M,⟨l++B,hG'⟩,?_⟩;simp
 .rintro⟨t,L,l⟩ f hf hG;have hgo:=hG.go;simp only[Nat.sub_self,qcy]at hgo;subst hgo;simp[zpm,L264_2,hf.ne];exact⟨t,L,by simp[zpm,hf.ne]⟩
end Go.Proofs.YtggbaapfbgjaeaaGreatDoor
