/- The signals come to rest, by the reference: the rounds. -/
import Derived.Test.YtbepbclaoohngaaGreatVLi1
import Derived.Test.YtbepbclaoohngaaGreatVSt1
import Derived.KernelRfl
set_option linter.all false
namespace Go.Proofs.YtbepbclaoohngaaGreat
open Go Go.Am Go.Proofs
set_option maxRecDepth 100000
structure SigOk(n:Nat)(x:Sg):Prop where
 on:x.on.nodes<=256/\x.on.err n=0
 off:x.kind=1->x.off.nodes<=256/\x.off.err n=0
theorem ev311(x:Sg)(L:List Bool)(h:SigOk L.length x):ev pg (.call (.fn 311 [] []) [.agg x.row,qdw L] [])=some { v:=.tup [.bool (x.on.holds L),.bool (q2v x L)],st:=⟨[],[]⟩ }:=by
 have h1:=ev239 L x.on h.on.1 h.on.2
 rw[qaa,pg311]
 unfold q2v
 by_cases hk:x.kind=1
 .have h2:=ev239 L x.off (h.off hk).1 (h.off hk).2
  simp[qab,exT,qal,ir311,h1,h2,hk]
 .have hkb:(x.kind==1)=false:=by simpa using hk
  simp[qab,exT,qal,ir311,h1,hk,hkb]
abbrev jem(s:Ste)(i:Nat)(p:Bool×Int):Ste:=⟨s.ends,s.valves,s.inputs,s.values.set i p.1,s.timers.set i p.2⟩
set_option maxHeartbeats 2000000 in
theorem ev310(c:Ct)(s:Ste)(i:Nat)(hs:s.small)(hS:Shp c s)(hi:i<c.signals.length)(hok:SigOk (qae s).length c.signals[i])(hv:i<s.values.length)(ht:i<s.timers.length):∃b,ev pg (.call (.fn 310 [] []) [c.v,s.v,num i] [])=some { v:=.tup [(jem s i (qlp c.signals[i] (qae s) s.values[i] s.timers[i])).v,.bool b],st:=⟨[],[]⟩ }:=by
 have h28:=ev240 c s hs hS.e
 have h130:=ev192 s hs
 have h182:=ev311 c.signals[i] (qae s) hok
 have hi':(i:Int)<c.signals.length:=by omega
 generalize qae s=L at *
 unfold qlp q2v at *
 generalize hon:c.signals[i].on.holds L=on at *
 generalize hof:c.signals[i].off.holds L=off at *
 rw[qaa,pg310]
 by_cases k1:c.signals[i].kind=1
 .simp[Sg.row,k1]at h182
  cases on<;>cases off<;>simp[qab,exT,qal,ir310,h28,h130,h182,k1,hi,hi',hv,ht]
 .have kb1:(c.signals[i].kind==1)=false:=by simpa using k1
  by_cases k2:c.signals[i].kind=2
  .simp[Sg.row,k2]at h182
   by_cases t0:s.timers[i]=0
   .cases on<;>simp[qab,exT,qal,ir310,h28,h130,h182,k2,hi,hi',hv,ht,t0]
   .have tb:(s.timers[i]==0)=false:=by simpa using t0
    cases on<;>simp[qab,exT,qal,ir310,h28,h130,h182,k2,hi,hi',hv,ht,t0,tb]
  .have kb2:(c.signals[i].kind==2)=false:=by simpa using k2
   simp[k1]at h182
   simp[qab,exT,qal,ir310,h28,h130,h182,k1,k2,kb1,kb2,hi,hi',hv,ht]
theorem ev312{c:Ct}{A:Nat}(h:Mid c A)(k:Nat)(hk:k<=128):ev pg (.call (.fn 312 [] []) [c.v,num k] [])=some { v:=num ((qam c A:Nat)+(k:Int)),st:=⟨[],[]⟩ }:=by
 have h1:=ev197 h
 have a1:=h.hi
 have a2:=h.inp
 have hb:qam c A<=44:=by unfold qam;omega
 generalize qam c A=F at *
 have w:=qan (n:=(F:Int)+(k:Int)) (by omega) (by omega)
 rw[qaa,pg312]
 simp[ir312,h1,w]
abbrev tv(c:Ct)(g:Ste)(k:Nat):List Bool:=mix ((qdi c g).map Prod.fst) g.values k
abbrev tt(c:Ct)(g:Ste)(k:Nat):List Int:=mix ((qdi c g).map Prod.snd) g.timers k
abbrev bdL(c:Ct)(g:Ste)(F:Nat)(k:Nat):List Int:=qrn (q6b c (qae g)) F k
abbrev zoz(c:Ct)(g:Ste)(F:Nat)(k:Nat)(a:Nat×Nat):H:=[⟨0,.box c.cells⟩,⟨0,.box g.cells⟩,o0,o0,o0,o0,o0,⟨0,.box (q2u 2)⟩,⟨0,.arr 1 (g.ends.map qbj)⟩,⟨0,.arr 1 (g.valves.map qfa)⟩,⟨0,.arr 1 (g.inputs.map qfa)⟩,⟨0,.arr 1 ((tv c g k).map qfa)⟩,⟨0,.arr 1 ((tt c g k).map qbj)⟩,o0,o0,o0,o0,o0,⟨0,.box [.sl 8 0 1 0 g.ends.length,.sl 9 0 1 0 g.valves.length,.sl 10 0 1 0 g.inputs.length,.sl 11 0 1 0 g.values.length,.sl 12 0 1 0 g.timers.length]⟩,o0,⟨a.1,.arr a.2 ((bdL c g F k).map qbj)⟩]
def zwh(c:Ct)(g:Ste)(F:Nat)(k:Nat)(a:Nat×Nat):Tm:=[none,none,bN 0,bN 1,bN 7,some (.sl 19 0 0 0 0),bN 18,some (.sl 20 a.1 a.2 0 (bdL c g F k).length),nN k]++zN 65
set_option maxHeartbeats 2000000 in
theorem jdi(c:Ct)(g:Ste){A:Nat}(hM:Mid c A)(hs:g.small)(hS:Shp c g)(hok:∀x∈c.signals,SigOk (qae g).length x){st:St}(a0:Nat×Nat)(g0:a0.2=1\/a0.2=0)(h0:At (zwh c g (qam c A) 0 a0) (zoz c g (qam c A) 0 a0) st):∃r,ev pg (.code (.going 21 L301_0) st)=some r/\∃a:Nat×Nat,(a.2=1\/a.2=0)/\qaq (.exit 0) (zwh c g (qam c A) c.signals.length a) (zoz c g (qam c A) c.signals.length a) r:=by
 have hn:=hM.sig
 refine qdb c.signals.length (zwh c g (qam c A)) (zoz c g (qam c A)) (fun _ a=>a.2=1\/a.2=0) _ ?_ ?_ a0 g0 h0
 .rintro k ⟨gn,m⟩ f hf hk hG
  have hk':(k:Int)<c.signals.length:=by omega
  have wk:=qbb (k:=k) (by omega)
  have hkv:k<g.values.length:=by rw[hS.v];exact hk
  have hkt:k<g.timers.length:=by rw[hS.t];exact hk
  obtain⟨b,h181⟩:=ev310 c g k hs hS hk (hok _ (jH hk)) hkv hkt
  have h28:=ev240 c g hs hS.e
  have h182:=ev311 c.signals[k] (qae g) (hok _ (jH hk))
  have h183:=ev312 hM k (by omega)
  have hget:(qdi c g)[k]?=some (qlp c.signals[k] (qae g) g.values[k] g.timers[k]):=qnf _ (jA hk) (jA hkv) (jA hkt)
  have hlen:(qdi c g).length=c.signals.length:=qjb _ hS.v hS.t
  have hkl:k<(qdi c g).length:=by omega
  have hget':(qdi c g)[k]=qlp c.signals[k] (qae g) g.values[k] g.timers[k]:=by
   have:=hget
   rw[jA hkl]at this
   exact Option.some.inj this
  have l1:((qdi c g).map Prod.fst).length=g.values.length:=by rw[List.length_map,hlen,hS.v]
  have l2:((qdi c g).map Prod.snd).length=g.timers.length:=by rw[List.length_map,hlen,hS.t]
  have e1:=qjz (A:=(qdi c g).map Prod.fst) (B:=g.values) l1 (k:=k) (by rw[List.length_map];exact hkl)
  have e2:=qjz (A:=(qdi c g).map Prod.snd) (B:=g.timers) l2 (k:=k) (by rw[List.length_map];exact hkl)
  rw[List.getElem_map,hget']at e1 e2
  have m1:=qlf (A:=(qdi c g).map Prod.fst) (B:=g.values) l1 (k:=k) (by rw[List.length_map];omega)
  have m2:=qlf (A:=(qdi c g).map Prod.snd) (B:=g.timers) l2 (k:=k) (by rw[List.length_map];omega)
  rw[l1]at m1
  rw[l2]at m2
  have e3:=qmx (q6b c (qae g)) (qam c A:Nat) k
  have hb:q6b c (qae g) k=(c.signals[k].on.holds (qae g)&&q2v c.signals[k] (qae g)):=by
   unfold q6b;rw[jA hk];rfl
  rw[hb]at e3
  have hsl:=qih (q6b c (qae g)) (qam c A:Nat) k
  unfold zwh zoz tv tt bdL
  rw[<-e1,<-e2,e3]
  generalize mix ((qdi c g).map Prod.fst) g.values k=VV at *
  generalize mix ((qdi c g).map Prod.snd) g.timers k=TT at *
  generalize qrn (q6b c (qae g)) (qam c A:Nat) k=BB at *
  generalize qlp c.signals[k] (qae g) g.values[k] g.timers[k]=p at *
  generalize qam c A=F at *
  generalize c.signals[k].on.holds (qae g)=on at *
  generalize q2v c.signals[k] (qae g)=off at *
  generalize qae g=L at *
  have hkV:k<VV.length:=by omega
  have hkT:k<TT.length:=by omega
  have hb1:(BB.length+1)*8<=140737488355328:=by omega
  have hmm:m=1\/m=0:=hG
  obtain⟨p1,p2⟩:=p
  rcases hmm with rfl | rfl<;>cases on<;>cases off<;>simp[qab,exT,qal,L301_0,hk,hk',wk,h181,h28,h182,h183,hkv,hkt,hkV,hkT,m1.symm,m2.symm,hb1,hf.ne]
 .rintro⟨gn,m⟩ f hf hG
  unfold zwh zoz
  generalize bdL c g (qam c A) c.signals.length=BB at *
  have hmm:m=1\/m=0:=hG
  rcases hmm with rfl | rfl<;>simp[L301_0,hf.ne]
theorem q3t{c:Ct}{s:Ste}{A:Nat}(hM:Mid c A)(hS:Shp c s):qao s=qam c A:=by
 have h1:=hS.e
 have h2:=hM.act
 have h3:=hS.i
 unfold qao qam
 omega
theorem ev301(c:Ct)(s:Ste){A:Nat}(hM:Mid c A)(hs:s.small)(hS:Shp c s)(hok:∀x∈c.signals,SigOk (qae s).length x):ev pg (.call (.fn 301 [] []) [c.v,s.v] [])=some { v:=.tup [(qgj c s).v,qeg (qtz c s)],st:=⟨[],[]⟩ }:=by
 have h88:=ev191 c s hs hS hM.sig (fun x hx=>(hok x hx).on)
 have hgl:=qkf (c:=c) s
 have hSg:Shp c (qdq c s):=⟨hS.e,hS.w,hS.i,by rw[hgl];exact hS.v,hS.t⟩
 have hsg:(qdq c s).small:=⟨hs.e,hs.w,hs.i,by rw[hgl];exact hs.v,hs.t⟩
 have hLl:(qae (qdq c s)).length=(qae s).length:=by rw[qdn,qdn,hgl];rfl
 have hl:=@jdi c (qdq c s) A hM hsg hSg (fun x hx=>by rw[hLl];exact hok x hx)
 have hF:=q3t hM hS
 unfold qgj qtz
 rw[hF]
 generalize qdq c s=g at *
 have h130:=ev192 g hsg
 have hlen:(qdi c g).length=c.signals.length:=qjb _ hSg.v hSg.t
 have l1:((qdi c g).map Prod.fst).length=g.values.length:=by rw[List.length_map,hlen,hSg.v]
 have l2:((qdi c g).map Prod.snd).length=g.timers.length:=by rw[List.length_map,hlen,hSg.t]
 have z1:tv c g 0=g.values:=qhk _ _
 have z2:tt c g 0=g.timers:=qhk _ _
 have f1:tv c g c.signals.length=(qdi c g).map Prod.fst:=by
  have:=qjy l1
  rwa [List.length_map,hlen]at this
 have f2:tt c g c.signals.length=(qdi c g).map Prod.snd:=by
  have:=qjy l2
  rwa [List.length_map,hlen]at this
 have z3:bdL c g (qam c A) 0=[]:=rfl
 unfold zwh zoz at hl
 rw[z1,z2,z3,f1,f2]at hl
 unfold qwn
 generalize (qdi c g).map Prod.fst=VV at *
 generalize (qdi c g).map Prod.snd=TT at *
 rw[show qrn (q6b c (qae g)) (qam c A:Nat) c.signals.length=bdL c g (qam c A) c.signals.length from rfl]
 generalize bdL c g (qam c A) c.signals.length=BB at *
 rw[qaa,pg301]
 simp[ir301,h88,h130,qah]
 generalize hr:ev pg (.code (.going _ L301_0) _)=o
 obtain⟨r,rfl,⟨gn,m⟩,hm,f,hf,rfl⟩:∃r,o=some r/\_:=by rw[<-hr];exact hl (0,0) (.inr rfl) (by simp)
 clear hr
 have hmm:m=1\/m=0:=hm
 rcases hmm with rfl | rfl<;>simp[l1.symm,l2.symm]
def qxh(L:List Int):List (V×V):=L.map fun k=>(num k,V.bool true)
def zki(L:List Int)(k:Int):List Int:=if k∈L then L else L++[k]
theorem zaz(k:Int):∀L:List Int,q2y (qxh L) (num k) (.bool true)=some (qxh (zki L k))
 | []=>by simp[qxh,zki,q2y]
 | a :: L=>by
  have ih:=zaz k L
  unfold qxh at *
  simp only[List.map_cons,q2y,eqS,if_true]
  by_cases h:k=a
  .subst h
   simp[zki]
  .have hb:(k==a)=false:=by simpa using h
   rw[hb]
   simp only
   rw[ih]
   unfold zki
   by_cases hm:k∈L
   .simp[hm]
   .simp[hm,h]
theorem q3s(k:Int):∀L:List Int,qoy (qxh L) (num k)=some (if k∈L then some (.bool true)else none)
 | []=>by simp[qxh,qoy]
 | a :: L=>by
  have ih:=q3s k L
  unfold qxh at *
  simp only[List.map_cons,qoy,eqS,if_true]
  by_cases h:k=a
  .subst h
   simp
  .have hb:(k==a)=false:=by simpa using h
   rw[hb]
   simp only
   rw[ih]
   simp[h]
def qlu(L l:List Int):List Int:=l.foldl zki L
theorem znb{L:List Int}{k x:Int}:x∈zki L k<->x∈L\/x=k:=by
 unfold zki
 split
 .exact⟨.inl,fun h=>h.elim id fun h=>by rw[h];assumption⟩
 .simp
theorem q4r:∀{l L:List Int} {x:Int},x∈qlu L l<->x∈L\/x∈l
 | [],L,x=>by simp[qlu]
 | k :: l,L,x=>by
  have:=@q4r l (zki L k) x
  unfold qlu at *
  rw[List.foldl_cons,this,znb,List.mem_cons,or_assoc]
theorem zbk{L l:List Int}{k:Nat}(hk:k<l.length):qlu L (l.take (k+1))=zki (qlu L (l.take k)) l[k]:=by
 unfold qlu
 rw[jK hk,List.foldl_append]
 rfl
abbrev z4a(c:Ct)(s t:Ste)(L:List Int):H:=[⟨0,.box c.cells⟩,⟨0,.box s.cells⟩,o0,o0,o0,o0,o0,⟨0,.box (q2u 2)⟩,⟨0,.map (qxh L)⟩,o0,o0,o0,o0,o0,o0,⟨0,.box t.cells⟩]
def q3b(n:Nat)(l:List Int)(k:Nat):Tm:=[none,none,bN 0,bN 1,bN 7,some (.sl 9 0 0 0 0),nN 0,some (.bool false),some (.map 8),nN n,bN 15,some (qeg l),nN k]++zN 45
theorem zzw(c:Ct)(s t:Ste)(n:Nat)(L l:List Int)(hl:l.length<=4096){st:St}(h0:At (q3b n l 0) (z4a c s t (qlu L (l.take 0))) st):∃r,ev pg (.code (.going 16 L290_0) st)=some r/\qaq (.exit 2) (q3b n l l.length) (z4a c s t (qlu L (l.take l.length))) r:=by
 refine qhj l.length (q3b n l) (fun k=>z4a c s t (qlu L (l.take k))) _ ?_ ?_ h0
 .intro k f hf hk
  have hk':(k:Int)<l.length:=by omega
  have wk:=qbb (k:=k) (by omega)
  simp only[zbk hk]
  have hu:=zaz l[k] (qlu L (l.take k))
  generalize qlu L (l.take k)=M at *
  simp[q3b,L290_0,hk,hk',wk,hu,hf.ne]
 .intro f hf
  generalize qlu L (l.take l.length)=M at *
  simp[q3b,L290_0,hf.ne]
abbrev inM(L:List Int)(k:Nat):List Int:=qrn (fun j=>L.contains (j:Int)) 0 k
abbrev zci(c:Ct)(s t:Ste)(L:List Int)(k:Nat)(a:Nat×Nat):H:=z4a c s t L++[⟨a.1,.arr a.2 ((inM L k).map qbj)⟩]
def zbh(n:Nat)(l:List Int)(L:List Int)(k:Nat)(a:Nat×Nat):Tm:=[none,none,bN 0,bN 1,bN 7,some (.sl 9 0 0 0 0),nN 0,some (.bool false),some (.map 8),nN n,bN 15,some (qeg l),nN l.length,some (.sl 16 a.1 a.2 0 (inM L k).length),nN k]++zN 43
theorem zzx(c:Ct){A:Nat}(hM:Mid c A)(s t:Ste)(n:Nat)(l L:List Int){st:St}(a0:Nat×Nat)(g0:a0.2=1\/a0.2=0)(h0:At (zbh n l L 0 a0) (zci c s t L 0 a0) st):∃r,ev pg (.code (.going 17 L290_1) st)=some r/\∃a:Nat×Nat,(a.2=1\/a.2=0)/\qaq (.exit 4) (zbh n l L (qac c A) a) (zci c s t L (qac c A) a) r:=by
 have hn1:=hM.sig
 have hn2:=hM.inp
 have hn3:=hM.hi
 have hN:qac c A<=172:=by unfold qac;omega
 have h102:=ev186 hM
 generalize qac c A=N at *
 refine qdb N (zbh n l L) (zci c s t L) (fun _ a=>a.2=1\/a.2=0) _ ?_ ?_ a0 g0 h0
 .rintro k ⟨g,m⟩ f hf hk hG
  have hk':(k:Int)<N:=by omega
  have wk:=qbb (k:=k) (by omega)
  have hfd:=q3s (k:Int) L
  have e3:=qmx (fun j=>L.contains (j:Int)) 0 k
  have hsl:=qih (fun j=>L.contains (j:Int)) 0 k
  unfold zbh zci inM
  rw[e3]
  generalize qrn (fun j=>L.contains (j:Int)) 0 k=B at *
  have hb1:(B.length+1)*8<=140737488355328:=by omega
  have hmm:m=1\/m=0:=hG
  by_cases hm:(k:Int)∈L
  .rw[if_pos hm]at hfd
   rcases hmm with rfl | rfl<;>simp[L290_1,hk,hk',wk,h102,hfd,hm,hb1,hf.ne]
  .rw[if_neg hm]at hfd
   rcases hmm with rfl | rfl<;>simp[L290_1,hk,hk',wk,h102,hfd,hm,hf.ne]
 .rintro⟨g,m⟩ f hf hG
  unfold zbh zci
  generalize inM L N=B at *
  have hmm:m=1\/m=0:=hG
  rcases hmm with rfl | rfl<;>simp[L290_1,h102,hf.ne]
abbrev zsu(c:Ct)(s:Ste)(L:List Int):H:=[⟨0,.box c.cells⟩,⟨0,.box s.cells⟩,o0,o0,o0,o0,o0,⟨0,.box (q2u 2)⟩,⟨0,.map (qxh L)⟩,o0]
def zom(k:Nat):Tm:=[none,none,bN 0,bN 1,bN 7,some (.sl 9 0 0 0 0),nN 0,some (.bool false),some (.map 8),nN k]++zN 48
abbrev jaz(c:Ct)(t:Ste)(M:List Int)(u:Ste)(m:List Int)(a:Nat×Nat):H:=[⟨0,.box c.cells⟩,⟨0,.box t.cells⟩,o0,o0,o0,o0,o0,⟨0,.box t.cells⟩,⟨0,.map (qxh M)⟩,o0,o0,o0,o0,o0,o0,⟨0,.box u.cells⟩,⟨a.1,.arr a.2 (m.map qbj)⟩]
def zkb(n:Nat)(j:Nat)(a:Nat×Nat):Tm:=[none,none,none,none,bN 7,some (.sl 16 a.1 a.2 0 j),nN n,some (.bool true)]++zN 50
def zxf(c:Ct)(Z:Option (Ste×List Int))(r:R):Prop:=match Z with
 | some (t,m)=>∃(M:List Int) (u:Ste) (n:Nat) (a:Nat×Nat),(a.2=1\/a.2=0)/\qaq .ret (zkb n m.length a) (jaz c t M u m a) r
 | none=>∃(t:Ste) (M:List Int),qaq (.exit 0) (zom 65) (zsu c t M) r
structure G151(c:Ct)(s:Ste)(N:Nat)(Z:Option (Ste×List Int))(k:Nat)(a:Ste×List Int×List Int):Prop where
 go:qcz c N (65-k) a.1 a.2.2=Z
 mem:∀x,x∈a.2.1<->x∈a.2.2
 small:a.1.small
 shp:Shp c a.1
 len:(qae a.1).length=(qae s).length
theorem znl{c:Ct}{s:Ste}(hs:s.small)(hS:Shp c s):(qgj c s).small/\Shp c (qgj c s)/\(qae (qgj c s)).length=(qae s).length:=by
 have hgl:=qkf (c:=c) s
 have hlen:(qdi c (qdq c s)).length=c.signals.length:=qjb _ (by rw[hgl];exact hS.v) hS.t
 have v1:(qgj c s).values.length=s.values.length:=by
  show((qdi c (qdq c s)).map Prod.fst).length=_
  rw[List.length_map,hlen,hS.v]
 have t1:(qgj c s).timers.length=s.timers.length:=by
  show((qdi c (qdq c s)).map Prod.snd).length=_
  rw[List.length_map,hlen,hS.t]
 refine⟨⟨hs.e,hs.w,hs.i,by rw[v1];exact hs.v,by rw[t1];exact hs.t⟩,⟨hS.e,hS.w,hS.i,by rw[v1];exact hS.v,by rw[t1];exact hS.t⟩,?_⟩
 rw[qdn,qdn,v1]
 rfl
set_option maxHeartbeats 1000000 in
theorem jdf(c:Ct){A:Nat}(hM:Mid c A)(s:Ste)(hs:s.small)(hS:Shp c s)(hok:∀x∈c.signals,SigOk (qae s).length x){st:St}(h0:At (zom 0) (zsu c s []) st):∃r,ev pg (.code (.going 10 L290_2) st)=some r/\zxf c (qcz c (qac c A) 65 s []) r:=by
 generalize hR:qcz c (qac c A) 65 s []=Z
 refine qdb 65 (fun k _=>zom k) (fun _ a=>zsu c a.1 a.2.1) (G151 c s (qac c A) Z) _ ?_ ?_ (s,[],[]) ⟨hR,fun _=>Iff.rfl,hs,hS,rfl⟩ h0
 .rintro k ⟨t,L,l⟩ f hf hk hG
  have hgo:=hG.go
  have hmem:=hG.mem
  have hsm:=hG.small
  have hsh:=hG.shp
  have hln:=hG.len
  simp only at hgo hmem hsm hsh hln
  have hk':(k:Int)<=64:=by omega
  have wk:=qbb (k:=k) (by omega)
  have zoz:=ev301 c t hM hsm hsh (fun x hx=>by rw[hln];exact hok x hx)
  obtain⟨o1,o2,o3⟩:=znl hsm hsh
  have h20:=ev97 (qgj c t) t o1
  rw[show 65-k=(64-k)+1 by omega,qcz]at hgo
  have hbl:(qtz c t).length<=4096:=by
   have:=qih (q6b c (qae (qdq c t))) (qao t) c.signals.length
   have:=hM.sig
   unfold qtz
   omega
  have la:=@zzw c t (qgj c t) k L (qtz c t) hbl
  have hmem':∀x,x∈qlu L (qtz c t)<->x∈l++qtz c t:=fun x=>by rw[q4r,hmem,jQ]
  have hnorm:inM (qlu L (qtz c t)) (qac c A)=norm (qac c A) (l++qtz c t):=qze fun x _ _=>hmem' x
  have lb:=@zzx c A hM t (qgj c t) k (qtz c t) (qlu L (qtz c t))
  unfold zbh zci at lb
  rw[hnorm,show inM (qlu L (qtz c t)) 0=[]from rfl]at lb
  rw[List.take_length,List.take_zero,show qlu L []=L from rfl]at la
  generalize qgj c t=u at *
  generalize qtz c t=B at *
  generalize qlu L B=M at *
  simp[zom,L290_2,hk',zoz,qah,hf.ne]
  generalize hr:ev pg (.code (.going _ L290_0) _)=o
  obtain⟨r,rfl,f2,hf2,rfl⟩:∃r,o=some r/\_:=by rw[<-hr];exact la (by simp[q3b,hf.ne])
  clear hr
  by_cases hst:qhf u t=true
  .rw[if_pos hst]at hgo
   rw[hst]at h20
   simp[q3b,h20,hf2.ne]
   generalize hr:ev pg (.code (.going _ L290_1) _)=o
   obtain⟨r,rfl,⟨g,m⟩,hm,f3,hf3,rfl⟩:∃r,o=some r/\_:=by rw[<-hr];exact lb (0,0) (.inr rfl) (by simp[hf2.ne])
   clear hr
   subst hgo
   have hmm:m=1\/m=0:=hm
   rcases hmm with rfl | rfl<;>simp[hf3.ne]
   .exact⟨M,u,k,(g,1),.inl rfl,by simp[zkb,hf3.ne]⟩
   .exact⟨M,u,k,(g,0),.inr rfl,by simp[zkb,hf3.ne]⟩
  .have hsf:qhf u t=false:=by simpa using hst
   rw[if_neg hst]at hgo
   rw[hsf]at h20
   have hG':G151 c s (qac c A) Z (k+1) (u,M,l++B):=⟨by rw[<-hgo,show 65-(k+1)=64-k by omega],hmem',o1,o2,by rw[o3];exact hln⟩
   simp[q3b,h20,wk,hf2.ne]
   refine⟨u,M,⟨l++B,hG'⟩,?_⟩
   simp
 .rintro⟨t,L,l⟩ f hf hG
  have hgo:=hG.go
  simp only[Nat.sub_self,qcz]at hgo
  subst hgo
  simp[zom,L290_2,hf.ne]
  exact⟨t,L,by simp[zom,hf.ne]⟩
end Go.Proofs.YtbepbclaoohngaaGreat
