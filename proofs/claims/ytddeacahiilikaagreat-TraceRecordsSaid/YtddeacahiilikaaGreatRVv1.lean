/- The signals come to rest, by the reference: the inner loops. The signals come to rest, by the reference: the rounds. The signals come to rest, by the reference. Actuators begin to go, by the reference. The valves take their pilots, by the reference. -/
import Derived.Test.YtddeacahiilikaaGreatROn2
import Derived.KernelRfl
set_option linter.all false
namespace Go.Proofs.YtddeacahiilikaaGreat
open Go Go.Am Go.Proofs
set_option maxRecDepth 100000
def qsl(L:List Int):List (V×V):=L.map fun k=>(num k,V.bool true)
def zbh(L:List Int)(k:Int):List Int:=if k∈L then L else L++[k]
theorem q3u(k:Int):∀L:List Int,qxb (qsl L) (num k) (.bool true)=some (qsl (zbh L k))
 | []=>by simp[qsl,zbh,qxb]
 | a :: L=>by
  have ih:=q3u k L
  unfold qsl at *
  simp only[List.map_cons,qxb,eqS,if_true]
  by_cases h:k=a
  .subst h
   simp[zbh]
  .have hb:(k==a)=false:=by simpa using h
   rw[hb]
   simp only
   rw[ih]
   unfold zbh
   by_cases hm:k∈L
   .simp[hm]
   .simp[hm,h]
theorem qxs(k:Int):∀L:List Int,qma (qsl L) (num k)=some (if k∈L then some (.bool true)else none)
 | []=>by simp[qsl,qma]
 | a :: L=>by
  have ih:=qxs k L
  unfold qsl at *
  simp only[List.map_cons,qma,eqS,if_true]
  by_cases h:k=a
  .subst h
   simp
  .have hb:(k==a)=false:=by simpa using h
   rw[hb]
   simp only
   rw[ih]
   simp[h]
def qjp(L l:List Int):List Int:=l.foldl zbh L
theorem zdo{L:List Int}{k x:Int}:x∈zbh L k<->x∈L\/x=k:=by
 unfold zbh
 split
 .exact⟨.inl,fun h=>h.elim id fun h=>by rw[h];assumption⟩
 .simp
theorem qyn:∀{l L:List Int} {x:Int},x∈qjp L l<->x∈L\/x∈l
 | [],L,x=>by simp[qjp]
 | k :: l,L,x=>by
  have:=@qyn l (zbh L k) x
  unfold qjp at *
  rw[List.foldl_cons,this,zdo,List.mem_cons,or_assoc]
theorem q4f{L l:List Int}{k:Nat}(hk:k<l.length):qjp L (l.take (k+1))=zbh (qjp L (l.take k)) l[k]:=by
 unfold qjp
 rw[jK hk,List.foldl_append]
 rfl
abbrev ztx(c:Ct)(s t:Ste)(L:List Int):H:=[⟨0,.box c.cells⟩,⟨0,.box s.cells⟩,o0,o0,o0,o0,o0,⟨0,.box (qwx 2)⟩,⟨0,.map (qsl L)⟩,o0,o0,o0,o0,o0,o0,⟨0,.box t.cells⟩]
def qxc(n:Nat)(l:List Int)(k:Nat):Tm:=[none,none,some (.bptr 0 0),some (.bptr 1 0),some (.bptr 7 0),some (.sl 9 0 0 0 0),some (num 0),some (.bool false),some (.map 8),some (num n),some (.bptr 15 0),some (qel l),some (num k)]++List.replicate 45 none
theorem zsh(c:Ct)(s t:Ste)(n:Nat)(L l:List Int)(hl:l.length<=4096){st:St}(h0:At (qxc n l 0) (ztx c s t (qjp L (l.take 0))) st):∃r,ev pg (.code (.going 16 L305_0) st)=some r/\qaj (.exit 2) (qxc n l l.length) (ztx c s t (qjp L (l.take l.length))) r:=by
 refine qfc l.length (qxc n l) (fun k=>ztx c s t (qjp L (l.take k))) _ ?_ ?_ h0
 .intro k f hf hk
  have hk':(k:Int)<l.length:=by omega
  have wk:=qab (n:=(k:Int)+1) (by omega) (by omega)
  simp only[q4f hk]
  have hu:=q3u l[k] (qjp L (l.take k))
  generalize qjp L (l.take k)=M at *
  simp[qxc,L305_0,hk,hk',wk,hu,hf.ne]
 .intro f hf
  generalize qjp L (l.take l.length)=M at *
  simp[qxc,L305_0,hf.ne]
abbrev inM(L:List Int)(k:Nat):List Int:=qoe (fun j=>L.contains (j:Int)) 0 k
abbrev q4w(c:Ct)(s t:Ste)(L:List Int)(k:Nat)(a:Nat×Nat):H:=ztx c s t L++[⟨a.1,.arr a.2 ((inM L k).map qdw)⟩]
def q4d(n:Nat)(l:List Int)(L:List Int)(k:Nat)(a:Nat×Nat):Tm:=[none,none,some (.bptr 0 0),some (.bptr 1 0),some (.bptr 7 0),some (.sl 9 0 0 0 0),some (num 0),some (.bool false),some (.map 8),some (num n),some (.bptr 15 0),some (qel l),some (num l.length),some (.sl 16 a.1 a.2 0 (inM L k).length),some (num k)]++List.replicate 43 none
theorem zsi(c:Ct){A:Nat}(hM:Mid c A)(s t:Ste)(n:Nat)(l L:List Int){st:St}(a0:Nat×Nat)(g0:a0.2=1\/a0.2=0)(h0:At (q4d n l L 0 a0) (q4w c s t L 0 a0) st):∃r,ev pg (.code (.going 17 L305_1) st)=some r/\∃a:Nat×Nat,(a.2=1\/a.2=0)/\qaj (.exit 4) (q4d n l L (qah c A) a) (q4w c s t L (qah c A) a) r:=by
 have hn1:=hM.sig
 have hn2:=hM.inp
 have hn3:=hM.hi
 have hN:qah c A<=172:=by unfold qah;omega
 have h102:=ev148 hM
 generalize qah c A=N at *
 refine qci N (q4d n l L) (q4w c s t L) (fun _ a=>a.2=1\/a.2=0) _ ?_ ?_ a0 g0 h0
 .rintro k ⟨g,m⟩ f hf hk hG
  have hk':(k:Int)<N:=by omega
  have wk:=qab (n:=(k:Int)+1) (by omega) (by omega)
  have hfd:=qxs (k:Int) L
  have e3:=qkj (fun j=>L.contains (j:Int)) 0 k
  have hsl:=qgj (fun j=>L.contains (j:Int)) 0 k
  unfold q4d q4w inM
  rw[e3]
  generalize qoe (fun j=>L.contains (j:Int)) 0 k=B at *
  have hb1:(B.length+1)*8<=140737488355328:=by omega
  have hmm:m=1\/m=0:=hG
  by_cases hm:(k:Int)∈L
  .rw[if_pos hm]at hfd
   rcases hmm with rfl | rfl<;>simp[L305_1,hk,hk',wk,h102,hfd,hm,hb1,hf.ne]
  .rw[if_neg hm]at hfd
   rcases hmm with rfl | rfl<;>simp[L305_1,hk,hk',wk,h102,hfd,hm,hf.ne]
 .rintro⟨g,m⟩ f hf hG
  unfold q4d q4w
  generalize inM L N=B at *
  have hmm:m=1\/m=0:=hG
  rcases hmm with rfl | rfl<;>simp[L305_1,h102,hf.ne]
abbrev zmq(c:Ct)(s:Ste)(L:List Int):H:=[⟨0,.box c.cells⟩,⟨0,.box s.cells⟩,o0,o0,o0,o0,o0,⟨0,.box (qwx 2)⟩,⟨0,.map (qsl L)⟩,o0]
def zer(k:Nat):Tm:=[none,none,some (.bptr 0 0),some (.bptr 1 0),some (.bptr 7 0),some (.sl 9 0 0 0 0),some (num 0),some (.bool false),some (.map 8),some (num k)]++List.replicate 48 none
abbrev z0g(c:Ct)(t:Ste)(M:List Int)(u:Ste)(m:List Int)(a:Nat×Nat):H:=[⟨0,.box c.cells⟩,⟨0,.box t.cells⟩,o0,o0,o0,o0,o0,⟨0,.box t.cells⟩,⟨0,.map (qsl M)⟩,o0,o0,o0,o0,o0,o0,⟨0,.box u.cells⟩,⟨a.1,.arr a.2 (m.map qdw)⟩]
def zbc(n:Nat)(j:Nat)(a:Nat×Nat):Tm:=[none,none,none,none,some (.bptr 7 0),some (.sl 16 a.1 a.2 0 j),some (num n),some (.bool true)]++List.replicate 50 none
def zpr(c:Ct)(Z:Option (Ste×List Int))(r:R):Prop:=match Z with
 | some (t,m)=>∃(M:List Int) (u:Ste) (n:Nat) (a:Nat×Nat),(a.2=1\/a.2=0)/\qaj .ret (zbc n m.length a) (z0g c t M u m a) r
 | none=>∃(t:Ste) (M:List Int),qaj (.exit 0) (zer 65) (zmq c t M) r
structure G151(c:Ct)(s:Ste)(N:Nat)(Z:Option (Ste×List Int))(k:Nat)(a:Ste×List Int×List Int):Prop where
 go:qdh c N (65-k) a.1 a.2.2=Z
 mem:∀x,x∈a.2.1<->x∈a.2.2
 small:a.1.small
 shp:Shp c a.1
 len:(qad a.1).length=(qad s).length
theorem zdw{c:Ct}{s:Ste}(hs:s.small)(hS:Shp c s):(qga c s).small/\Shp c (qga c s)/\(qad (qga c s)).length=(qad s).length:=by
 have hgl:=qic (c:=c) s
 have hlen:(qcm c (qdc c s)).length=c.signals.length:=qhg _ (by rw[hgl];exact hS.v) hS.t
 have v1:(qga c s).values.length=s.values.length:=by
  show((qcm c (qdc c s)).map Prod.fst).length=_
  rw[List.length_map,hlen,hS.v]
 have t1:(qga c s).timers.length=s.timers.length:=by
  show((qcm c (qdc c s)).map Prod.snd).length=_
  rw[List.length_map,hlen,hS.t]
 refine⟨⟨hs.e,hs.w,hs.i,by rw[v1];exact hs.v,by rw[t1];exact hs.t⟩,⟨hS.e,hS.w,hS.i,by rw[v1];exact hS.v,by rw[t1];exact hS.t⟩,?_⟩
 rw[qcp,qcp,v1]
 rfl
set_option maxHeartbeats 1000000 in
theorem z1m(c:Ct){A:Nat}(hM:Mid c A)(s:Ste)(hs:s.small)(hS:Shp c s)(hok:∀x∈c.signals,SigOk (qad s).length x){st:St}(h0:At (zer 0) (zmq c s []) st):∃r,ev pg (.code (.going 10 L305_2) st)=some r/\zpr c (qdh c (qah c A) 65 s []) r:=by
 generalize hR:qdh c (qah c A) 65 s []=Z
 refine qci 65 (fun k _=>zer k) (fun _ a=>zmq c a.1 a.2.1) (G151 c s (qah c A) Z) _ ?_ ?_ (s,[],[]) ⟨hR,fun _=>Iff.rfl,hs,hS,rfl⟩ h0
 .rintro k ⟨t,L,l⟩ f hf hk hG
  have hgo:=hG.go
  have hmem:=hG.mem
  have hsm:=hG.small
  have hsh:=hG.shp
  have hln:=hG.len
  simp only at hgo hmem hsm hsh hln
  have hk':(k:Int)<=64:=by omega
  have wk:=qab (n:=(k:Int)+1) (by omega) (by omega)
  have zfe:=ev314 c t hM hsm hsh (fun x hx=>by rw[hln];exact hok x hx)
  obtain⟨o1,o2,o3⟩:=zdw hsm hsh
  have h20:=ev267 (qga c t) t o1
  rw[show 65-k=(64-k)+1 by omega,qdh]at hgo
  have hbl:(qqg c t).length<=4096:=by
   have:=qgj (qzp c (qad (qdc c t))) (qam t) c.signals.length
   have:=hM.sig
   unfold qqg
   omega
  have la:=@zsh c t (qga c t) k L (qqg c t) hbl
  have hmem':∀x,x∈qjp L (qqg c t)<->x∈l++qqg c t:=fun x=>by rw[qyn,hmem,jQ]
  have hnorm:inM (qjp L (qqg c t)) (qah c A)=norm (qah c A) (l++qqg c t):=que fun x _ _=>hmem' x
  have lb:=@zsi c A hM t (qga c t) k (qqg c t) (qjp L (qqg c t))
  unfold q4d q4w at lb
  rw[hnorm,show inM (qjp L (qqg c t)) 0=[]from rfl]at lb
  rw[List.take_length,List.take_zero,show qjp L []=L from rfl]at la
  generalize qga c t=u at *
  generalize qqg c t=B at *
  generalize qjp L B=M at *
  simp[zer,L305_2,hk',zfe,qaf,hf.ne]
  generalize hr:ev pg (.code (.going _ L305_0) _)=o
  obtain⟨r,rfl,f2,hf2,rfl⟩:∃r,o=some r/\_:=by rw[<-hr];exact la (by simp[qxc,hf.ne])
  clear hr
  by_cases hst:qhd u t=true
  .rw[if_pos hst]at hgo
   rw[hst]at h20
   simp[qxc,h20,hf2.ne]
   generalize hr:ev pg (.code (.going _ L305_1) _)=o
   obtain⟨r,rfl,⟨g,m⟩,hm,f3,hf3,rfl⟩:∃r,o=some r/\_:=by rw[<-hr];exact lb (0,0) (.inr rfl) (by simp[hf2.ne])
   clear hr
   subst hgo
   have hmm:m=1\/m=0:=hm
   rcases hmm with rfl | rfl<;>simp[hf3.ne]
   .exact⟨M,u,k,(g,1),.inl rfl,by simp[zbc,hf3.ne]⟩
   .exact⟨M,u,k,(g,0),.inr rfl,by simp[zbc,hf3.ne]⟩
  .have hsf:qhd u t=false:=by simpa using hst
   rw[if_neg hst]at hgo
   rw[hsf]at h20
   have hG':G151 c s (qah c A) Z (k+1) (u,M,l++B):=⟨by rw[<-hgo,show 65-(k+1)=64-k by omega],hmem',o1,o2,by rw[o3];exact hln⟩
   simp[qxc,h20,wk,hf2.ne]
   refine⟨u,M,⟨l++B,hG'⟩,?_⟩
   simp
 .rintro⟨t,L,l⟩ f hf hG
  have hgo:=hG.go
  simp only[Nat.sub_self,qdh]at hgo
  subst hgo
  simp[zer,L305_2,hf.ne]
  exact⟨t,L,by simp[zer,hf.ne]⟩
theorem q5o{c:Ct}{A:Nat}(hM:Mid c A)(s:Ste):qby c s=qdh c (qah c A) 65 s []:=by
 unfold qby
 rw[show c.act.toNat=A by rw[hM.act];rfl]
def qsy(Z:Option (Ste×List Int)):List V:=match Z with
 | some (t,m)=>[t.v,qel m]
 | none=>[zeroS.v,qel []]
theorem ev305(c:Ct){A:Nat}(hM:Mid c A)(s:Ste)(hs:s.small)(hS:Shp c s)(hok:∀x∈c.signals,SigOk (qad s).length x):∃n:Int,ev pg (.call (.fn 305 [] []) [c.v,s.v] [])=some { v:=.tup (qsy (qby c s)++[num n,.bool (qby c s).isSome]),st:=⟨[],[]⟩ }:=by
 have hl:=@z1m c A hM s hs hS hok
 rw[q5o hM]
 generalize qdh c (qah c A) 65 s []=Z at *
 rw[qac,pg305]
 simp[ir305,qaf]
 generalize hr:ev pg (.code (.going _ L305_2) _)=o
 obtain⟨r,rfl,hQ⟩:∃r,o=some r/\_:=by rw[<-hr];exact hl (by simp[zer,qsl])
 clear hr
 cases Z with
 | none =>
  obtain⟨t,M,f,hf,rfl⟩:=hQ
  simp[zer,qsy,zeroS]
 | some p =>
  obtain⟨t,m⟩:=p
  obtain⟨M,u,n,⟨g,w⟩,hw,f,hf,rfl⟩:=hQ
  have hww:w=1\/w=0:=hw
  rcases hww with rfl | rfl<;>simp[zbc,qsy]
theorem ev290(c:Ct){A:Nat}(hM:Mid c A)(s:Ste)(hs:s.small)(hS:Shp c s)(hok:∀x∈c.signals,SigOk (qad s).length x):ev pg (.call (.fn 290 [] []) [c.v,s.v] [])=some { v:=.tup (qsy (qby c s)++[.bool (qby c s).isSome]),st:=⟨[],[]⟩ }:=by
 obtain⟨n,h⟩:=ev305 c hM s hs hS hok
 rw[qac,pg290]
 cases hZ:qby c s with
 | none =>
  rw[hZ]at h
  simp[qsy]at h
  simp[ir290,h,qsy]
 | some p =>
  obtain⟨t,m⟩:=p
  rw[hZ]at h
  simp[qsy]at h
  simp[ir290,h,qsy]
theorem q3k{α:Type}{l:List α}{k:Nat}{x:α}(h:l[k]?=some x):l.set k x=l:=by
 refine List.ext_getElem? fun j=>?_
 rw[List.getElem?_set]
 split
 .rename_i e
  subst e
  rw[h]
  split
  .rfl
  .rename_i hn
   rw[jX (by omega)]at h
   cases h
 .rfl
abbrev ge(s:Ste)(k:Nat):List Int:=mix (List.zipWith qiu s.valves s.ends) s.ends k
abbrev qyb(s:Ste)(k:Nat):H:=[⟨0,.box s.cells⟩,o0,o0,o0,o0,o0,⟨0,.box (qwx 1)⟩,⟨0,.arr 1 ((ge s k).map qdw)⟩,⟨0,.arr 1 (s.valves.map qen)⟩,⟨0,.arr 1 (s.inputs.map qen)⟩,⟨0,.arr 1 (s.values.map qen)⟩,⟨0,.arr 1 (s.timers.map qdw)⟩,o0,o0,o0,o0,o0,⟨0,.box [.sl 7 0 1 0 s.ends.length,.sl 8 0 1 0 s.valves.length,.sl 9 0 1 0 s.inputs.length,.sl 10 0 1 0 s.values.length,.sl 11 0 1 0 s.timers.length]⟩]
def zgh(k:Nat):Tm:=[none,some (.bptr 0 0),some (.bptr 6 0),some (.bptr 17 0),some (num k)]++List.replicate 61 none
theorem z1i(s:Ste)(hs:s.small)(hw:s.valves.length=s.ends.length){st:St}(h0:At (zgh 0) (qyb s 0) st):∃r,ev pg (.code (.going 18 L292_0) st)=some r/\qaj (.exit 0) (zgh s.ends.length) (qyb s s.ends.length) r:=by
 have hse:=hs.e
 refine qfc s.ends.length zgh (qyb s) _ ?_ ?_ h0
 .intro k f hf hk
  have hk':(k:Int)<s.ends.length:=by omega
  have hkw:k<s.valves.length:=by omega
  have wk:=qab (n:=(k:Int)+1) (by omega) (by omega)
  have l1:(List.zipWith qiu s.valves s.ends).length=s.ends.length:=by rw[List.length_zipWith];omega
  have e1:=qhx (A:=List.zipWith qiu s.valves s.ends) (B:=s.ends) l1 (k:=k) (by omega)
  rw[List.getElem_zipWith]at e1
  have e2:=qop (A:=List.zipWith qiu s.valves s.ends) (B:=s.ends) l1 (k:=k) (by omega)
  rw[jA hk]at e2
  have m1:=qiz (A:=List.zipWith qiu s.valves s.ends) (B:=s.ends) l1 (k:=k) (by omega)
  rw[l1]at m1
  unfold qyb ge zgh
  rw[<-e1]
  have e3:=q3k e2
  generalize mix (List.zipWith qiu s.valves s.ends) s.ends k=E at *
  have hkE:k<E.length:=by omega
  unfold qiu
  by_cases z0:s.ends[k]=0
  .cases hv:s.valves[k]<;>rw[z0]at e3<;>simp[L292_0,hk,hk',hkw,hkE,wk,hv,z0,e3,m1.symm,hf.ne]
  .by_cases z3:s.ends[k]=3
   .cases hv:s.valves[k]<;>rw[z3]at e3<;>simp[L292_0,hk,hk',hkw,hkE,wk,hv,z3,e3,m1.symm,hf.ne]
   .by_cases z2:s.ends[k]=2
    .cases hv:s.valves[k]<;>rw[z2]at e3<;>simp[L292_0,hk,hk',hkw,hkE,wk,hv,z2,e3,m1.symm,hf.ne]
    .by_cases z1:s.ends[k]=1
     .cases hv:s.valves[k]<;>rw[z1]at e3<;>simp[L292_0,hk,hk',hkw,hkE,wk,hv,z1,e3,m1.symm,hf.ne]
     .have b0:(s.ends[k]==0)=false:=by simpa using z0
      have b1:(s.ends[k]==1)=false:=by simpa using z1
      have b2:(s.ends[k]==2)=false:=by simpa using z2
      have b3:(s.ends[k]==3)=false:=by simpa using z3
      cases hv:s.valves[k]<;>simp[L292_0,hk,hk',hkw,wk,hv,z0,z1,z2,z3,b0,b1,b2,b3,e3,hf.ne]
 .intro f hf
  unfold qyb ge zgh
  simp[L292_0,hf.ne]
theorem ev292(s:Ste)(hs:s.small)(hw:s.valves.length=s.ends.length):ev pg (.call (.fn 292 [] []) [s.v] [])=some { v:=(qiv s).v,st:=⟨[],[]⟩ }:=by
 have hl:=@z1i s hs hw
 have h130:=ev221 s hs
 have l1:(List.zipWith qiu s.valves s.ends).length=s.ends.length:=by rw[List.length_zipWith];omega
 have z0:ge s 0=s.ends:=qft _ _
 have z1:ge s s.ends.length=List.zipWith qiu s.valves s.ends:=by
  have:=qhw l1
  rwa [l1]at this
 unfold qyb at hl
 rw[z0,z1]at hl
 unfold qiv
 generalize List.zipWith qiu s.valves s.ends=E at *
 rw[qac,pg292]
 simp[ir292,h130,qaf]
 generalize hr:ev pg (.code (.going _ L292_0) _)=o
 obtain⟨r,rfl,f,hf,rfl⟩:∃r,o=some r/\_:=by rw[<-hr];exact hl (by simp[zgh])
 simp[zgh,l1.symm]
structure Pil(c:Ct)(A:Nat)(N:Nat):Prop where
 p:c.plus.length=A
 m:c.minus.length=A
 pb:∀x∈c.plus,0<=x/\x<(N:Int)
 mb:∀x∈c.minus,0<=x/\x<(N:Int)
theorem q9w{L:List Bool}{p:List Int}{k:Nat}(hk:k<p.length)(hb:∀x∈p,0<=x/\x<(L.length:Int)):0<=p[k]/\∃h:p[k].toNat<L.length,L[p[k].toNat]=qbk L p k:=by
 obtain⟨h1,h2⟩:=hb _ (jH hk)
 refine⟨h1,by omega,?_⟩
 have h3:p[k].toNat<L.length:=by omega
 unfold qbk
 rw[jA hk]
 simp[h3]
abbrev vm(c:Ct)(s:Ste)(L:List Bool)(k:Nat):List Bool:=mix (s.valves.mapIdx (qlo c L)) s.valves k
abbrev cfL(c:Ct)(L:List Bool)(A k:Nat):List Int:=qoe (fun i=>qbk L c.plus i&&qbk L c.minus i) (qah c A:Nat) k
abbrev q8i(c:Ct)(s:Ste)(L:List Bool)(A k:Nat)(a:Nat×Nat):H:=[⟨0,.box c.cells⟩,⟨0,.box s.cells⟩,o0,o0,o0,o0,o0,⟨0,.box (qwx 2)⟩,⟨0,.arr 1 (s.ends.map qdw)⟩,⟨0,.arr 1 ((vm c s L k).map qen)⟩,⟨0,.arr 1 (s.inputs.map qen)⟩,⟨0,.arr 1 (s.values.map qen)⟩,⟨0,.arr 1 (s.timers.map qdw)⟩,o0,o0,o0,o0,o0,⟨0,.box [.sl 8 0 1 0 s.ends.length,.sl 9 0 1 0 s.valves.length,.sl 10 0 1 0 s.inputs.length,.sl 11 0 1 0 s.values.length,.sl 12 0 1 0 s.timers.length]⟩,⟨0,.arr 1 (L.map qen)⟩,o0,⟨a.1,.arr a.2 ((cfL c L A k).map qdw)⟩]
def zoy(c:Ct)(L:List Bool)(A k:Nat)(a:Nat×Nat):Tm:=[none,none,some (.bptr 0 0),some (.bptr 1 0),some (.bptr 7 0),some (.sl 20 0 0 0 0),some (.bptr 18 0),some (.sl 19 0 1 0 L.length),some (.sl 21 a.1 a.2 0 (cfL c L A k).length),some (num k)]++List.replicate 50 none
set_option maxHeartbeats 1000000 in
theorem z1h(c:Ct){A:Nat}(hM:Mid c A)(s:Ste)(hw:s.valves.length=A)(L:List Bool)(hP:Pil c A L.length){st:St}(a0:Nat×Nat)(g0:a0.2=1\/a0.2=0)(h0:At (zoy c L A 0 a0) (q8i c s L A 0 a0) st):∃r,ev pg (.code (.going 22 L291_0) st)=some r/\∃a:Nat×Nat,(a.2=1\/a.2=0)/\qaj (.exit 0) (zoy c L A A a) (q8i c s L A A a) r:=by
 have hn1:=hM.sig
 have hn2:=hM.inp
 have hn3:=hM.hi
 have hact:=hM.act
 have hN:qah c A<=172:=by unfold qah;omega
 have h102:=ev148 hM
 refine qci A (zoy c L A) (q8i c s L A) (fun _ a=>a.2=1\/a.2=0) _ ?_ ?_ a0 g0 h0
 .rintro k ⟨g,m⟩ f hf hk hG
  have hk':(k:Int)<c.act:=by omega
  have wk:=qab (n:=(k:Int)+1) (by omega) (by omega)
  have hkp:k<c.plus.length:=by rw[hP.p];exact hk
  have hkm:k<c.minus.length:=by rw[hP.m];exact hk
  have hkw:k<s.valves.length:=by omega
  obtain⟨p0,p1,p2⟩:=q9w hkp hP.pb
  obtain⟨q0,q1,q2⟩:=q9w hkm hP.mb
  have l1:(s.valves.mapIdx (qlo c L)).length=s.valves.length:=List.length_mapIdx
  have e1:=qhx (A:=s.valves.mapIdx (qlo c L)) (B:=s.valves) l1 (k:=k) (by omega)
  rw[List.getElem_mapIdx]at e1
  have e2:=qop (A:=s.valves.mapIdx (qlo c L)) (B:=s.valves) l1 (k:=k) (by omega)
  rw[jA hkw]at e2
  have m1:=qiz (A:=s.valves.mapIdx (qlo c L)) (B:=s.valves) l1 (k:=k) (by omega)
  rw[l1]at m1
  have e3:=q3k e2
  have e4:=qkj (fun i=>qbk L c.plus i&&qbk L c.minus i) (qah c A:Nat) k
  have hsl:=qgj (fun i=>qbk L c.plus i&&qbk L c.minus i) (qah c A:Nat) k
  unfold q8i zoy vm cfL
  have hvf:qlo c L k s.valves[k]=if qbk L c.plus k != qbk L c.minus k then qbk L c.plus k else s.valves[k]:=rfl
  rw[<-e1,e4,hvf]
  clear e1 l1 e2 hvf
  generalize mix (s.valves.mapIdx (qlo c L)) s.valves k=E at *
  generalize qoe (fun i=>qbk L c.plus i&&qbk L c.minus i) (qah c A:Nat) k=B at *
  generalize qbk L c.plus k=pl at *
  generalize qbk L c.minus k=mi at *
  have hkE:k<E.length:=by omega
  have hb1:(B.length+1)*8<=140737488355328:=by omega
  generalize qah c A=N at *
  have wN:=qab (n:=(N:Int)+(k:Int)) (by omega) (by omega)
  have hmm:m=1\/m=0:=hG
  rcases hmm with rfl | rfl<;>cases pl<;>cases mi<;>simp[qaa,exT,qae,L291_0,hk',wk,hkp,hkm,p0,p1,p2,q0,q1,q2,h102,wN,hkE,e3,m1.symm,hb1,hf.ne]
 .rintro⟨g,m⟩ f hf hG
  have hk':¬((A:Int)<c.act):=by omega
  unfold q8i zoy
  generalize cfL c L A A=B at *
  have hmm:m=1\/m=0:=hG
  rcases hmm with rfl | rfl<;>simp[L291_0,hk',hf.ne]
theorem ev291(c:Ct){A:Nat}(hM:Mid c A)(s:Ste)(hs:s.small)(hS:Shp c s)(hP:Pil c A (qad s).length):ev pg (.call (.fn 291 [] []) [c.v,s.v] [])=some { v:=.tup [(qhl c s).v,qel (qoe (fun i=>qbk (qad s) c.plus i&&qbk (qad s) c.minus i) (qah c A:Nat) A)],st:=⟨[],[]⟩ }:=by
 have hact:=hM.act
 have hw:s.valves.length=A:=by have:=hS.w;omega
 have hl:=@z1h c A hM s hw (qad s) hP
 have h28:=ev223 c s hs hS.e
 have h130:=ev221 s hs
 have l1:(s.valves.mapIdx (qlo c (qad s))).length=s.valves.length:=List.length_mapIdx
 have z0:vm c s (qad s) 0=s.valves:=qft _ _
 have z1:vm c s (qad s) A=s.valves.mapIdx (qlo c (qad s)):=by
  have:=qhw l1
  rwa [l1,hw]at this
 have z2:cfL c (qad s) A 0=[]:=rfl
 unfold q8i zoy at hl
 rw[z0,z1,z2]at hl
 unfold qhl
 rw[show qoe (fun i=>qbk (qad s) c.plus i&&qbk (qad s) c.minus i) (qah c A:Nat) A=cfL c (qad s) A A from rfl]
 generalize s.valves.mapIdx (qlo c (qad s))=E at *
 generalize cfL c (qad s) A A=B at *
 generalize qad s=L at *
 rw[qac,pg291]
 simp[ir291,h28,h130,qaf]
 generalize hr:ev pg (.code (.going _ L291_0) _)=o
 obtain⟨r,rfl,⟨g,m⟩,hm,f,hf,rfl⟩:∃r,o=some r/\_:=by rw[<-hr];exact hl (0,0) (.inr rfl) (by simp)
 clear hr
 have hmm:m=1\/m=0:=hm
 rcases hmm with rfl | rfl<;>simp[l1.symm]
end Go.Proofs.YtddeacahiilikaaGreat
