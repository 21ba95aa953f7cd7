/- The values of all lines, by the reference. The value of an expression, by the reference. Gates are computed, by the reference. What a signal wants, by the reference. A round of the signals, by the reference. The signals come to rest, by the reference: the inner loops. The signals come to rest, by the reference: the rounds. -/
import Derived.Test.YtlhciedghbmjjaaGreatSt2
import Derived.KernelRfl
import Derived.Test.YtlhciedghbmjjaaGreatCa1
import Derived.Test.YtlhciedghbmjjaaGreatCt6
set_option linter.all false
namespace Go.Proofs.YtlhciedghbmjjaaGreat
open Go Go.Am Go.Proofs
set_option maxRecDepth 100000
theorem q6o(l:List Bool):∀x,x∈List.map qfi l->x.length=1:=by
 intro x hx
 obtain⟨b,-,rfl⟩:=List.mem_map.1 hx
 rfl
theorem zce(l:List Bool):∀x,x∈List.map qfi l->∀y,y∈x->V.pcell y=true:=by
 intro x hx y hy
 obtain⟨b,-,rfl⟩:=List.mem_map.1 hx
 rw[List.mem_singleton.1 hy]
 rfl
abbrev h28(c:Ct)(s:Ste)(k:Nat)(a:Nat×Nat):H:=[⟨0,.box c.cells⟩,⟨0,.box s.cells⟩,⟨0,.arr 0 []⟩,⟨a.1,.arr a.2 ((qeg (s.ends.take k)).map qfi)⟩]
def T28(k:Nat)(a:Nat×Nat):Tm:=[none,none,some (.bptr 0 0),some (.bptr 1 0),some (.sl 2 0 0 0 0),some (.sl 3 a.1 a.2 0 (2*k)),some (num k)]++List.replicate 29 none
theorem jfk(c:Ct)(s:Ste)(hs:s.small)(hce:(s.ends.length:Int)=c.act){st:St}(a0:Nat×Nat)(g0:a0.2=1\/a0.2=0)(h0:At (T28 0 a0) (h28 c s 0 a0) st):∃r,ev pg (.code (.going 4 L169_0) st)=some r/\∃a:Nat×Nat,(a.2=1\/a.2=0)/\qag (.exit 0) (T28 s.ends.length a) (h28 c s s.ends.length a) r:=by
 have hse:=hs.e
 refine qbn s.ends.length T28 (h28 c s) (fun _ a=>a.2=1\/a.2=0) _ ?_ ?_ a0 g0 h0
 .rintro k ⟨g,m⟩ f hf hk hG
  have hk':(k:Int)<c.act:=by omega
  have wk:=qab (n:=(k:Int)+1) (by omega) (by omega)
  have hlen:(qeg (s.ends.take k)).length=2*k:=by rw[qek,List.length_take];omega
  have hb:2*k+2<=140737488355328:=by omega
  have h2:2*(k+1)=2*k+2:=by omega
  unfold T28 h28
  rw[qqf hk,h2]
  generalize qeg (s.ends.take k)=W at *
  have hmm:m=1\/m=0:=hG
  rcases hmm with rfl | rfl<;>simp[L169_0,hk,hk',wk,hb,hlen,hf.ne]
 .rintro⟨g,m⟩ f hf hG
  have hk':¬((s.ends.length:Int)<c.act):=by omega
  unfold T28 h28
  generalize qeg (s.ends.take s.ends.length)=W at *
  generalize 2*s.ends.length=N at *
  have hmm:m=1\/m=0:=hG
  rcases hmm with rfl | rfl<;>simp[L169_0,hk',hf.ne]
theorem ev169(c:Ct)(s:Ste)(hs:s.small)(hce:(s.ends.length:Int)=c.act):ev pg (.call (.fn 169 [] []) [c.v,s.v] [])=some { v:=.sl 0 0 1 0 (qad s).length,st:=⟨[],[⟨0,.arr 1 ((qad s).map qfi)⟩]⟩ }:=by
 have hl:=@jfk c s hs hce
 obtain⟨h1,h2,h3,h4,h5⟩:=hs
 have hlen:=qdg s
 unfold qad at hlen ⊢
 have he:=qek s.ends
 have q1:2*s.ends.length+s.inputs.length<=140737488355328:=by omega
 have q2:2*s.ends.length+s.inputs.length+s.values.length<=140737488355328:=by omega
 rw[hlen]
 simp only[List.map_append]
 have hW:((qeg s.ends).map qfi).length=2*s.ends.length:=by rw[List.length_map,he]
 unfold h28 at hl
 rw[List.take_length,List.take_zero,qeg]at hl
 generalize (qeg s.ends).map qfi=W at *
 rw[qac,pg169]
 simp[ir169,qaf]
 generalize hr:ev pg (.code (.going _ L169_0) _)=o
 obtain⟨r,rfl,⟨g,m⟩,hm,f,hf,rfl⟩:∃r,o=some r/\_:=by rw[<-hr];exact hl (0,0) (.inr rfl) (by simp[T28])
 clear hr
 have hmm:m=1\/m=0:=hm
 rcases hmm with rfl | rfl
 all_goals
  simp[T28,hW,q1,q2]
  rw[if_pos ⟨q6o _,zce _⟩]
  simp[hW,q2]
  rw[if_pos ⟨q6o _,zce _⟩]
  simp[hW,qcr,qeo,qem,Nat.add_assoc]
theorem q6e{o i n:Int}{k:Nat}(h:qbm o i k n=0)(ho:o=2):k=1:=by
 subst ho
 unfold qbm at h
 by_cases hk:k=1
 .exact hk
 .rw[if_neg (by omega),if_pos (by omega)]at h
  omega
def zke(vs:List Bool)(x:Ex)(k:Nat):Bool:=(x.args.take k).all (Ex.holds vs)
def zia(vs:List Bool)(x:Ex)(k:Nat):Bool:=(x.args.take k).any (Ex.holds vs)
abbrev zfz(x:Ex):H:=[⟨0,.box x.cells⟩]
def zvi(vs:List Bool)(x:Ex)(k:Nat):Tm:=[none,some (qcy vs),some (.bptr 0 0),none,none,some (.bool (zke vs x k)),some (.bool (zia vs x k)),some (num k)]++List.replicate 60 none
theorem jbx(x:Ex)(vs:List Bool)(hx:x.nodes<=256)(ih:∀y∈x.args,ev pg (.call (.fn 168 [] []) [y.v,qcy vs] [])=some { v:=.bool (y.holds vs),st:=⟨[],[]⟩ }){st:St}(h0:At (zvi vs x 0) (zfz x) st):∃r,ev pg (.code (.going 1 L168_0) st)=some r/\qag (.exit 1) (zvi vs x x.args.length) (zfz x) r:=by
 have hfew:=qfv hx
 refine qcd x.args.length (zvi vs x) (fun _=>zfz x) _ ?_ ?_ h0
 .intro k f hf hk
  have hk':(k:Int)<x.args.length:=by omega
  have wk:=qab (n:=(k:Int)+1) (by omega) (by omega)
  have hi:=ih _ (jH hk)
  have e1:zke vs x (k+1)=(zke vs x k&&x.args[k].holds vs):=by
   unfold zke
   rw[jK hk,List.all_append]
   simp
  have e2:zia vs x (k+1)=(zia vs x k||x.args[k].holds vs):=by
   unfold zia
   rw[jK hk,List.any_append]
   simp
  unfold zvi
  rw[e1,e2]
  generalize zke vs x k=a at *
  generalize zia vs x k=b at *
  generalize x.args[k].holds vs=v at *
  cases a<;>cases b<;>simp[L168_0,hk,hk',wk,hi,hf.ne]
 .intro f hf
  unfold zvi
  simp[L168_0,hf.ne]
theorem ev168(vs:List Bool):∀x:Ex,x.nodes<=256->x.err vs.length=0->ev pg (.call (.fn 168 [] []) [x.v,qcy vs] [])=some { v:=.bool (x.holds vs),st:=⟨[],[]⟩ }:=by
 refine Ex.ind fun x ih hx he=>?_
 obtain⟨hn,hargs⟩:=qpi he
 have ih':∀y∈x.args,ev pg (.call (.fn 168 [] []) [y.v,qcy vs] [])=some { v:=.bool (y.holds vs),st:=⟨[],[]⟩ }:=fun y hy=>ih y hy (by have:=qfn hx hy;omega) (hargs y hy)
 have hop:x.op=0\/x.op=1\/x.op=2\/x.op=3\/x.op=4:=by
  unfold qbm at hn
  by_cases h:x.op<0\/5<=x.op
  .rw[if_pos h]at hn;omega
  .omega
 have hl:=@jbx x vs hx ih'
 have e1:(x.args.map (Ex.holds vs)).all id=zke vs x x.args.length:=by
  unfold zke;rw[List.all_map,List.take_length];rfl
 have e2:(x.args.map (Ex.holds vs)).any id=zia vs x x.args.length:=by
  unfold zia;rw[List.any_map,List.take_length];rfl
 have z1:zke vs x 0=true:=rfl
 have z2:zia vs x 0=false:=rfl
 unfold zvi at hl
 rw[z1,z2]at hl
 rw[qzt,e1,e2,qac,pg168]
 generalize zke vs x x.args.length=a at *
 generalize zia vs x x.args.length=b at *
 rcases hop with h | h | h | h | h
 .simp[ir168,h]
 .obtain⟨hi0,hi1⟩:=qso hn h
  have hin:x.idx.toNat<vs.length:=by omega
  simp[ir168,h,hi0,hin]
 .have h1:=q6e hn h
  obtain⟨y,hy⟩:∃y,x.args=[y]:=by
   match hq:x.args,h1 with
   | [y],_=>exact⟨y,rfl⟩
  have hiy:=ih' y (by rw[hy];exact List.mem_cons_self)
  simp[ir168,h,hy,hiy]
 .simp[ir168,h,qaf]
  generalize hr:ev pg (.code (.going _ L168_0) _)=o
  obtain⟨r,rfl,f,hf,rfl⟩:∃r,o=some r/\_:=by rw[<-hr];exact hl (by simp[h])
  cases a<;>simp[h]
 .simp[ir168,h,qaf]
  generalize hr:ev pg (.code (.going _ L168_0) _)=o
  obtain⟨r,rfl,f,hf,rfl⟩:∃r,o=some r/\_:=by rw[<-hr];exact hl (by simp[h])
  cases b<;>simp[h]
theorem q0c(c:Ct)(F i:Nat)(L:List Bool):(qgn c F i L).take F=L.take F:=by
 unfold qgn
 split
 .split
  .rw[List.take_set]
   rw[List.set_eq_of_length_le (by rw[List.length_take];omega)]
  .rfl
 .rfl
theorem qrf(c:Ct)(F:Nat)(L:List Bool):∀k,(qbk c F k L).take F=L.take F
 | 0=>rfl
 | k+1=>by rw[qbk,q0c,qrf c F L k]
def stK(c:Ct)(s:Ste)(k:Nat):Ste:=⟨s.ends,s.valves,s.inputs,(qbk c (qao s) k (qad s)).drop (qao s),s.timers⟩
theorem q7s(c:Ct)(s:Ste):stK c s 0=s:=by
 unfold stK qbk
 rw[qnw]
theorem q3z(c:Ct)(s:Ste):stK c s c.signals.length=qds c s:=rfl
theorem qyo(c:Ct)(s:Ste)(k:Nat):(stK c s k).values.length=s.values.length:=by
 unfold stK
 simp only[List.length_drop]
 rw[qfk,qdg]
 unfold qao
 omega
theorem qje(c:Ct)(s:Ste)(k:Nat):qad (stK c s k)=qbk c (qao s) k (qad s):=by
 have h1:=qrf c (qao s) (qad s) k
 have h2:(qad s).take (qao s)=qeg s.ends++s.inputs:=by
  unfold qad
  rw[List.take_left' (by rw[jF,qek])]
 rw[h2]at h1
 have e:=List.take_append_drop (qao s) (qbk c (qao s) k (qad s))
 rw[h1]at e
 exact e
theorem q6g(c:Ct)(s:Ste)(k:Nat)(hk:k<c.signals.length):(stK c s (k+1)).values=if c.signals[k].kind=0 then(stK c s k).values.set k (c.signals[k].on.holds (qad (stK c s k)))else(stK c s k).values:=by
 have e:c.signals[k]?=some c.signals[k]:=jA hk
 rw[qje]
 unfold stK
 simp only[qbk]
 rw[qgn,e]
 simp only
 split
 .rw[List.drop_set,if_neg (by omega),Nat.add_sub_cancel_left]
 .rfl
abbrev h88(c:Ct)(s:Ste)(k:Nat):H:=[⟨0,.box c.cells⟩,⟨0,.box s.cells⟩,o0,o0,o0,o0,o0,⟨0,.box (q0o 2)⟩,⟨0,.arr 1 (s.ends.map qdc)⟩,⟨0,.arr 1 (s.valves.map qfi)⟩,⟨0,.arr 1 (s.inputs.map qfi)⟩,⟨0,.arr 1 ((stK c s k).values.map qfi)⟩,⟨0,.arr 1 (s.timers.map qdc)⟩,o0,o0,o0,o0,o0,⟨0,.box [.sl 8 0 1 0 s.ends.length,.sl 9 0 1 0 s.valves.length,.sl 10 0 1 0 s.inputs.length,.sl 11 0 1 0 s.values.length,.sl 12 0 1 0 s.timers.length]⟩]
def T88(k:Nat):Tm:=[none,none,some (.bptr 0 0),some (.bptr 1 0),some (.bptr 7 0),some (.bptr 18 0),some (num k)]++List.replicate 31 none
theorem jfs(c:Ct)(s:Ste)(hs:s.small)(hS:Shp c s)(hn:c.signals.length<=128)(hok:∀x∈c.signals,x.on.nodes<=256/\x.on.err (qad s).length=0){st:St}(h0:At (T88 0) (h88 c s 0) st):∃r,ev pg (.code (.going 19 L144_0) st)=some r/\qag (.exit 0) (T88 c.signals.length) (h88 c s c.signals.length) r:=by
 refine qcd c.signals.length T88 (h88 c s) _ ?_ ?_ h0
 .intro k f hf hk
  have hk':(k:Int)<c.signals.length:=by omega
  have wk:=qab (n:=(k:Int)+1) (by omega) (by omega)
  have hsc:=q6g c s k hk
  obtain⟨g1,g2⟩:=hok _ (jH hk)
  have hsm:(stK c s k).small:=⟨hs.e,hs.w,hs.i,by rw[qyo];exact hs.v,hs.t⟩
  have h28:=ev169 c (stK c s k) hsm hS.e
  have hLl:(qad (stK c s k)).length=(qad s).length:=by rw[qje,qfk]
  have zfz:=ev168 (qad (stK c s k)) c.signals[k].on g1 (by rw[hLl];exact g2)
  have hvl:=qyo c s k
  have hkv:k<s.values.length:=by rw[hS.v];exact hk
  unfold h88 T88
  rw[hsc]
  have hst:stK c s k=⟨s.ends,s.valves,s.inputs,(stK c s k).values,s.timers⟩:=rfl
  generalize hL:qad (stK c s k)=L at *
  generalize c.signals[k].on.holds L=v at *
  rw[hst]at h28
  generalize (stK c s k).values=W at *
  by_cases h0:c.signals[k].kind=0
  .have hkW:k<W.length:=by omega
   simp[qaa,exT,qae,L144_0,hk,hk',wk,h0,h28,zfz,hvl.symm,hkW,hf.ne]
  .simp[L144_0,hk,hk',wk,h0,hf.ne]
 .intro f hf
  unfold T88 h88
  simp[L144_0,hf.ne]
theorem ev144(c:Ct)(s:Ste)(hs:s.small)(hS:Shp c s)(hn:c.signals.length<=128)(hok:∀x∈c.signals,x.on.nodes<=256/\x.on.err (qad s).length=0):ev pg (.call (.fn 144 [] []) [c.v,s.v] [])=some { v:=(qds c s).v,st:=⟨[],[]⟩ }:=by
 have hl:=@jfs c s hs hS hn hok
 have h130:=ev106 s hs
 have hgl:=qjc (c:=c) s
 have hst:qds c s=⟨s.ends,s.valves,s.inputs,(qds c s).values,s.timers⟩:=rfl
 unfold h88 at hl
 rw[q7s,q3z]at hl
 rw[hst]
 generalize (qds c s).values=W at *
 rw[qac,pg144]
 simp[ir144,h130,qaf]
 generalize hr:ev pg (.code (.going _ L144_0) _)=o
 obtain⟨r,rfl,f,hf,rfl⟩:∃r,o=some r/\_:=by rw[<-hr];exact hl (by simp[T88])
 simp[T88,hgl.symm]
structure SigOk(n:Nat)(x:Sg):Prop where
 on:x.on.nodes<=256/\x.on.err n=0
 off:x.kind=1->x.off.nodes<=256/\x.off.err n=0
theorem ev204(x:Sg)(L:List Bool)(h:SigOk L.length x):ev pg (.call (.fn 204 [] []) [.agg x.row,qcy L] [])=some { v:=.tup [.bool (x.on.holds L),.bool (q0i x L)],st:=⟨[],[]⟩ }:=by
 have h1:=ev168 L x.on h.on.1 h.on.2
 rw[qac,pg204]
 unfold q0i
 by_cases hk:x.kind=1
 .have h2:=ev168 L x.off (h.off hk).1 (h.off hk).2
  simp[qaa,exT,qae,ir204,h1,h2,hk]
 .have hkb:(x.kind==1)=false:=by simpa using hk
  simp[qaa,exT,qae,ir204,h1,hk,hkb]
abbrev jay(s:Ste)(i:Nat)(p:Bool×Int):Ste:=⟨s.ends,s.valves,s.inputs,s.values.set i p.1,s.timers.set i p.2⟩
set_option maxHeartbeats 2000000 in
theorem ev203(c:Ct)(s:Ste)(i:Nat)(hs:s.small)(hS:Shp c s)(hi:i<c.signals.length)(hok:SigOk (qad s).length c.signals[i])(hv:i<s.values.length)(ht:i<s.timers.length):∃b,ev pg (.call (.fn 203 [] []) [c.v,s.v,num i] [])=some { v:=.tup [(jay s i (qkv c.signals[i] (qad s) s.values[i] s.timers[i])).v,.bool b],st:=⟨[],[]⟩ }:=by
 have h28:=ev169 c s hs hS.e
 have h130:=ev106 s hs
 have h182:=ev204 c.signals[i] (qad s) hok
 have hi':(i:Int)<c.signals.length:=by omega
 generalize qad s=L at *
 unfold qkv q0i at *
 generalize hon:c.signals[i].on.holds L=on at *
 generalize hof:c.signals[i].off.holds L=off at *
 rw[qac,pg203]
 by_cases k1:c.signals[i].kind=1
 .simp[Sg.row,k1]at h182
  cases on<;>cases off<;>simp[qaa,exT,qae,ir203,h28,h130,h182,k1,hi,hi',hv,ht]
 .have kb1:(c.signals[i].kind==1)=false:=by simpa using k1
  by_cases k2:c.signals[i].kind=2
  .simp[Sg.row,k2]at h182
   by_cases t0:s.timers[i]=0
   .cases on<;>simp[qaa,exT,qae,ir203,h28,h130,h182,k2,hi,hi',hv,ht,t0]
   .have tb:(s.timers[i]==0)=false:=by simpa using t0
    cases on<;>simp[qaa,exT,qae,ir203,h28,h130,h182,k2,hi,hi',hv,ht,t0,tb]
  .have kb2:(c.signals[i].kind==2)=false:=by simpa using k2
   simp[k1]at h182
   simp[qaa,exT,qae,ir203,h28,h130,h182,k1,k2,kb1,kb2,hi,hi',hv,ht]
theorem ev205{c:Ct}{A:Nat}(h:Mid c A)(k:Nat)(hk:k<=128):ev pg (.call (.fn 205 [] []) [c.v,num k] [])=some { v:=num ((qam c A:Nat)+(k:Int)),st:=⟨[],[]⟩ }:=by
 have h1:=ev118 h
 have a1:=h.hi
 have a2:=h.inp
 have hb:qam c A<=44:=by unfold qam;omega
 generalize qam c A=F at *
 have w:=qab (n:=(F:Int)+(k:Int)) (by omega) (by omega)
 rw[qac,pg205]
 simp[ir205,h1,w]
abbrev tv(c:Ct)(g:Ste)(k:Nat):List Bool:=mix ((qde c g).map Prod.fst) g.values k
abbrev tt(c:Ct)(g:Ste)(k:Nat):List Int:=mix ((qde c g).map Prod.snd) g.timers k
abbrev bdL(c:Ct)(g:Ste)(F:Nat)(k:Nat):List Int:=qps (q3s c (qad g)) F k
abbrev zlj(c:Ct)(g:Ste)(F:Nat)(k:Nat)(a:Nat×Nat):H:=[⟨0,.box c.cells⟩,⟨0,.box g.cells⟩,o0,o0,o0,o0,o0,⟨0,.box (q0o 2)⟩,⟨0,.arr 1 (g.ends.map qdc)⟩,⟨0,.arr 1 (g.valves.map qfi)⟩,⟨0,.arr 1 (g.inputs.map qfi)⟩,⟨0,.arr 1 ((tv c g k).map qfi)⟩,⟨0,.arr 1 ((tt c g k).map qdc)⟩,o0,o0,o0,o0,o0,⟨0,.box [.sl 8 0 1 0 g.ends.length,.sl 9 0 1 0 g.valves.length,.sl 10 0 1 0 g.inputs.length,.sl 11 0 1 0 g.values.length,.sl 12 0 1 0 g.timers.length]⟩,o0,⟨a.1,.arr a.2 ((bdL c g F k).map qdc)⟩]
def zvg(c:Ct)(g:Ste)(F:Nat)(k:Nat)(a:Nat×Nat):Tm:=[none,none,some (.bptr 0 0),some (.bptr 1 0),some (.bptr 7 0),some (.sl 19 0 0 0 0),some (.bptr 18 0),some (.sl 20 a.1 a.2 0 (bdL c g F k).length),some (num k)]++List.replicate 65 none
set_option maxHeartbeats 2000000 in
theorem jbs(c:Ct)(g:Ste){A:Nat}(hM:Mid c A)(hs:g.small)(hS:Shp c g)(hok:∀x∈c.signals,SigOk (qad g).length x){st:St}(a0:Nat×Nat)(g0:a0.2=1\/a0.2=0)(h0:At (zvg c g (qam c A) 0 a0) (zlj c g (qam c A) 0 a0) st):∃r,ev pg (.code (.going 21 L194_0) st)=some r/\∃a:Nat×Nat,(a.2=1\/a.2=0)/\qag (.exit 0) (zvg c g (qam c A) c.signals.length a) (zlj c g (qam c A) c.signals.length a) r:=by
 have hn:=hM.sig
 refine qbn c.signals.length (zvg c g (qam c A)) (zlj c g (qam c A)) (fun _ a=>a.2=1\/a.2=0) _ ?_ ?_ a0 g0 h0
 .rintro k ⟨gn,m⟩ f hf hk hG
  have hk':(k:Int)<c.signals.length:=by omega
  have wk:=qab (n:=(k:Int)+1) (by omega) (by omega)
  have hkv:k<g.values.length:=by rw[hS.v];exact hk
  have hkt:k<g.timers.length:=by rw[hS.t];exact hk
  obtain⟨b,h181⟩:=ev203 c g k hs hS hk (hok _ (jH hk)) hkv hkt
  have h28:=ev169 c g hs hS.e
  have h182:=ev204 c.signals[k] (qad g) (hok _ (jH hk))
  have h183:=ev205 hM k (by omega)
  have hget:(qde c g)[k]?=some (qkv c.signals[k] (qad g) g.values[k] g.timers[k]):=qoy _ (jA hk) (jA hkv) (jA hkt)
  have hlen:(qde c g).length=c.signals.length:=qig _ hS.v hS.t
  have hkl:k<(qde c g).length:=by omega
  have hget':(qde c g)[k]=qkv c.signals[k] (qad g) g.values[k] g.timers[k]:=by
   have:=hget
   rw[jA hkl]at this
   exact Option.some.inj this
  have l1:((qde c g).map Prod.fst).length=g.values.length:=by rw[List.length_map,hlen,hS.v]
  have l2:((qde c g).map Prod.snd).length=g.timers.length:=by rw[List.length_map,hlen,hS.t]
  have e1:=qjb (A:=(qde c g).map Prod.fst) (B:=g.values) l1 (k:=k) (by rw[List.length_map];exact hkl)
  have e2:=qjb (A:=(qde c g).map Prod.snd) (B:=g.timers) l2 (k:=k) (by rw[List.length_map];exact hkl)
  rw[List.getElem_map,hget']at e1 e2
  have m1:=qjy (A:=(qde c g).map Prod.fst) (B:=g.values) l1 (k:=k) (by rw[List.length_map];omega)
  have m2:=qjy (A:=(qde c g).map Prod.snd) (B:=g.timers) l2 (k:=k) (by rw[List.length_map];omega)
  rw[l1]at m1
  rw[l2]at m2
  have e3:=qlt (q3s c (qad g)) (qam c A:Nat) k
  have hb:q3s c (qad g) k=(c.signals[k].on.holds (qad g)&&q0i c.signals[k] (qad g)):=by
   unfold q3s;rw[jA hk];rfl
  rw[hb]at e3
  have hsl:=qhi (q3s c (qad g)) (qam c A:Nat) k
  unfold zvg zlj tv tt bdL
  rw[<-e1,<-e2,e3]
  generalize mix ((qde c g).map Prod.fst) g.values k=VV at *
  generalize mix ((qde c g).map Prod.snd) g.timers k=TT at *
  generalize qps (q3s c (qad g)) (qam c A:Nat) k=BB at *
  generalize qkv c.signals[k] (qad g) g.values[k] g.timers[k]=p at *
  generalize qam c A=F at *
  generalize c.signals[k].on.holds (qad g)=on at *
  generalize q0i c.signals[k] (qad g)=off at *
  generalize qad g=L at *
  have hkV:k<VV.length:=by omega
  have hkT:k<TT.length:=by omega
  have hb1:(BB.length+1)*8<=140737488355328:=by omega
  have hmm:m=1\/m=0:=hG
  obtain⟨p1,p2⟩:=p
  rcases hmm with rfl | rfl<;>cases on<;>cases off<;>simp[qaa,exT,qae,L194_0,hk,hk',wk,h181,h28,h182,h183,hkv,hkt,hkV,hkT,m1.symm,m2.symm,hb1,hf.ne]
 .rintro⟨gn,m⟩ f hf hG
  unfold zvg zlj
  generalize bdL c g (qam c A) c.signals.length=BB at *
  have hmm:m=1\/m=0:=hG
  rcases hmm with rfl | rfl<;>simp[L194_0,hf.ne]
theorem q2r{c:Ct}{s:Ste}{A:Nat}(hM:Mid c A)(hS:Shp c s):qao s=qam c A:=by
 have h1:=hS.e
 have h2:=hM.act
 have h3:=hS.i
 unfold qao qam
 omega
theorem ev194(c:Ct)(s:Ste){A:Nat}(hM:Mid c A)(hs:s.small)(hS:Shp c s)(hok:∀x∈c.signals,SigOk (qad s).length x):ev pg (.call (.fn 194 [] []) [c.v,s.v] [])=some { v:=.tup [(qgp c s).v,qbx (qsh c s)],st:=⟨[],[]⟩ }:=by
 have h88:=ev144 c s hs hS hM.sig (fun x hx=>(hok x hx).on)
 have hgl:=qjc (c:=c) s
 have hSg:Shp c (qds c s):=⟨hS.e,hS.w,hS.i,by rw[hgl];exact hS.v,hS.t⟩
 have hsg:(qds c s).small:=⟨hs.e,hs.w,hs.i,by rw[hgl];exact hs.v,hs.t⟩
 have hLl:(qad (qds c s)).length=(qad s).length:=by rw[qdg,qdg,hgl];rfl
 have hl:=@jbs c (qds c s) A hM hsg hSg (fun x hx=>by rw[hLl];exact hok x hx)
 have hF:=q2r hM hS
 unfold qgp qsh
 rw[hF]
 generalize qds c s=g at *
 have h130:=ev106 g hsg
 have hlen:(qde c g).length=c.signals.length:=qig _ hSg.v hSg.t
 have l1:((qde c g).map Prod.fst).length=g.values.length:=by rw[List.length_map,hlen,hSg.v]
 have l2:((qde c g).map Prod.snd).length=g.timers.length:=by rw[List.length_map,hlen,hSg.t]
 have z1:tv c g 0=g.values:=qgl _ _
 have z2:tt c g 0=g.timers:=qgl _ _
 have f1:tv c g c.signals.length=(qde c g).map Prod.fst:=by
  have:=qiz l1
  rwa [List.length_map,hlen]at this
 have f2:tt c g c.signals.length=(qde c g).map Prod.snd:=by
  have:=qiz l2
  rwa [List.length_map,hlen]at this
 have z3:bdL c g (qam c A) 0=[]:=rfl
 unfold zvg zlj at hl
 rw[z1,z2,z3,f1,f2]at hl
 unfold qzg
 generalize (qde c g).map Prod.fst=VV at *
 generalize (qde c g).map Prod.snd=TT at *
 rw[show qps (q3s c (qad g)) (qam c A:Nat) c.signals.length=bdL c g (qam c A) c.signals.length from rfl]
 generalize bdL c g (qam c A) c.signals.length=BB at *
 rw[qac,pg194]
 simp[ir194,h88,h130,qaf]
 generalize hr:ev pg (.code (.going _ L194_0) _)=o
 obtain⟨r,rfl,⟨gn,m⟩,hm,f,hf,rfl⟩:∃r,o=some r/\_:=by rw[<-hr];exact hl (0,0) (.inr rfl) (by simp)
 clear hr
 have hmm:m=1\/m=0:=hm
 rcases hmm with rfl | rfl<;>simp[l1.symm,l2.symm]
def qum(L:List Int):List (V×V):=L.map fun k=>(num k,V.bool true)
def zhq(L:List Int)(k:Int):List Int:=if k∈L then L else L++[k]
theorem q7y(k:Int):∀L:List Int,qwd (qum L) (num k) (.bool true)=some (qum (zhq L k))
 | []=>by simp[qum,zhq,qwd]
 | a :: L=>by
  have ih:=q7y k L
  unfold qum at *
  simp only[List.map_cons,qwd,eqS,if_true]
  by_cases h:k=a
  .subst h
   simp[zhq]
  .have hb:(k==a)=false:=by simpa using h
   rw[hb]
   simp only
   rw[ih]
   unfold zhq
   by_cases hm:k∈L
   .simp[hm]
   .simp[hm,h]
theorem q1d(k:Int):∀L:List Int,qly (qum L) (num k)=some (if k∈L then some (.bool true)else none)
 | []=>by simp[qum,qly]
 | a :: L=>by
  have ih:=q1d k L
  unfold qum at *
  simp only[List.map_cons,qly,eqS,if_true]
  by_cases h:k=a
  .subst h
   simp
  .have hb:(k==a)=false:=by simpa using h
   rw[hb]
   simp only
   rw[ih]
   simp[h]
def qkx(L l:List Int):List Int:=l.foldl zhq L
theorem zgx{L:List Int}{k x:Int}:x∈zhq L k<->x∈L\/x=k:=by
 unfold zhq
 split
 .exact⟨.inl,fun h=>h.elim id fun h=>by rw[h];assumption⟩
 .simp
theorem q3n:∀{l L:List Int} {x:Int},x∈qkx L l<->x∈L\/x∈l
 | [],L,x=>by simp[qkx]
 | k :: l,L,x=>by
  have:=@q3n l (zhq L k) x
  unfold qkx at *
  rw[List.foldl_cons,this,zgx,List.mem_cons,or_assoc]
theorem q9h{L l:List Int}{k:Nat}(hk:k<l.length):qkx L (l.take (k+1))=zhq (qkx L (l.take k)) l[k]:=by
 unfold qkx
 rw[jK hk,List.foldl_append]
 rfl
abbrev z7a(c:Ct)(s t:Ste)(L:List Int):H:=[⟨0,.box c.cells⟩,⟨0,.box s.cells⟩,o0,o0,o0,o0,o0,⟨0,.box (q0o 2)⟩,⟨0,.map (qum L)⟩,o0,o0,o0,o0,o0,o0,⟨0,.box t.cells⟩]
def q2n(n:Nat)(l:List Int)(k:Nat):Tm:=[none,none,some (.bptr 0 0),some (.bptr 1 0),some (.bptr 7 0),some (.sl 9 0 0 0 0),some (num 0),some (.bool false),some (.map 8),some (num n),some (.bptr 15 0),some (qbx l),some (num k)]++List.replicate 45 none
theorem zyg(c:Ct)(s t:Ste)(n:Nat)(L l:List Int)(hl:l.length<=4096){st:St}(h0:At (q2n n l 0) (z7a c s t (qkx L (l.take 0))) st):∃r,ev pg (.code (.going 16 L184_0) st)=some r/\qag (.exit 2) (q2n n l l.length) (z7a c s t (qkx L (l.take l.length))) r:=by
 refine qcd l.length (q2n n l) (fun k=>z7a c s t (qkx L (l.take k))) _ ?_ ?_ h0
 .intro k f hf hk
  have hk':(k:Int)<l.length:=by omega
  have wk:=qab (n:=(k:Int)+1) (by omega) (by omega)
  simp only[q9h hk]
  have hu:=q7y l[k] (qkx L (l.take k))
  generalize qkx L (l.take k)=M at *
  simp[q2n,L184_0,hk,hk',wk,hu,hf.ne]
 .intro f hf
  generalize qkx L (l.take l.length)=M at *
  simp[q2n,L184_0,hf.ne]
abbrev inM(L:List Int)(k:Nat):List Int:=qps (fun j=>L.contains (j:Int)) 0 k
abbrev zas(c:Ct)(s t:Ste)(L:List Int)(k:Nat)(a:Nat×Nat):H:=z7a c s t L++[⟨a.1,.arr a.2 ((inM L k).map qdc)⟩]
def zaj(n:Nat)(l:List Int)(L:List Int)(k:Nat)(a:Nat×Nat):Tm:=[none,none,some (.bptr 0 0),some (.bptr 1 0),some (.bptr 7 0),some (.sl 9 0 0 0 0),some (num 0),some (.bool false),some (.map 8),some (num n),some (.bptr 15 0),some (qbx l),some (num l.length),some (.sl 16 a.1 a.2 0 (inM L k).length),some (num k)]++List.replicate 43 none
theorem zwy(c:Ct){A:Nat}(hM:Mid c A)(s t:Ste)(n:Nat)(l L:List Int){st:St}(a0:Nat×Nat)(g0:a0.2=1\/a0.2=0)(h0:At (zaj n l L 0 a0) (zas c s t L 0 a0) st):∃r,ev pg (.code (.going 17 L184_1) st)=some r/\∃a:Nat×Nat,(a.2=1\/a.2=0)/\qag (.exit 4) (zaj n l L (qak c A) a) (zas c s t L (qak c A) a) r:=by
 have hn1:=hM.sig
 have hn2:=hM.inp
 have hn3:=hM.hi
 have hN:qak c A<=172:=by unfold qak;omega
 have h102:=ev120 hM
 generalize qak c A=N at *
 refine qbn N (zaj n l L) (zas c s t L) (fun _ a=>a.2=1\/a.2=0) _ ?_ ?_ a0 g0 h0
 .rintro k ⟨g,m⟩ f hf hk hG
  have hk':(k:Int)<N:=by omega
  have wk:=qab (n:=(k:Int)+1) (by omega) (by omega)
  have hfd:=q1d (k:Int) L
  have e3:=qlt (fun j=>L.contains (j:Int)) 0 k
  have hsl:=qhi (fun j=>L.contains (j:Int)) 0 k
  unfold zaj zas inM
  rw[e3]
  generalize qps (fun j=>L.contains (j:Int)) 0 k=B at *
  have hb1:(B.length+1)*8<=140737488355328:=by omega
  have hmm:m=1\/m=0:=hG
  by_cases hm:(k:Int)∈L
  .rw[if_pos hm]at hfd
   rcases hmm with rfl | rfl<;>simp[L184_1,hk,hk',wk,h102,hfd,hm,hb1,hf.ne]
  .rw[if_neg hm]at hfd
   rcases hmm with rfl | rfl<;>simp[L184_1,hk,hk',wk,h102,hfd,hm,hf.ne]
 .rintro⟨g,m⟩ f hf hG
  unfold zaj zas
  generalize inM L N=B at *
  have hmm:m=1\/m=0:=hG
  rcases hmm with rfl | rfl<;>simp[L184_1,h102,hf.ne]
abbrev zsl(c:Ct)(s:Ste)(L:List Int):H:=[⟨0,.box c.cells⟩,⟨0,.box s.cells⟩,o0,o0,o0,o0,o0,⟨0,.box (q0o 2)⟩,⟨0,.map (qum L)⟩,o0]
def zlc(k:Nat):Tm:=[none,none,some (.bptr 0 0),some (.bptr 1 0),some (.bptr 7 0),some (.sl 9 0 0 0 0),some (num 0),some (.bool false),some (.map 8),some (num k)]++List.replicate 48 none
abbrev jav(c:Ct)(t:Ste)(M:List Int)(u:Ste)(m:List Int)(a:Nat×Nat):H:=[⟨0,.box c.cells⟩,⟨0,.box t.cells⟩,o0,o0,o0,o0,o0,⟨0,.box t.cells⟩,⟨0,.map (qum M)⟩,o0,o0,o0,o0,o0,o0,⟨0,.box u.cells⟩,⟨a.1,.arr a.2 (m.map qdc)⟩]
def ziv(n:Nat)(j:Nat)(a:Nat×Nat):Tm:=[none,none,none,none,some (.bptr 7 0),some (.sl 16 a.1 a.2 0 j),some (num n),some (.bool true)]++List.replicate 50 none
def zxn(c:Ct)(Z:Option (Ste×List Int))(r:R):Prop:=match Z with
 | some (t,m)=>∃(M:List Int) (u:Ste) (n:Nat) (a:Nat×Nat),(a.2=1\/a.2=0)/\qag .ret (ziv n m.length a) (jav c t M u m a) r
 | none=>∃(t:Ste) (M:List Int),qag (.exit 0) (zlc 65) (zsl c t M) r
structure G151(c:Ct)(s:Ste)(N:Nat)(Z:Option (Ste×List Int))(k:Nat)(a:Ste×List Int×List Int):Prop where
 go:qdn c N (65-k) a.1 a.2.2=Z
 mem:∀x,x∈a.2.1<->x∈a.2.2
 small:a.1.small
 shp:Shp c a.1
 len:(qad a.1).length=(qad s).length
theorem zkr{c:Ct}{s:Ste}(hs:s.small)(hS:Shp c s):(qgp c s).small/\Shp c (qgp c s)/\(qad (qgp c s)).length=(qad s).length:=by
 have hgl:=qjc (c:=c) s
 have hlen:(qde c (qds c s)).length=c.signals.length:=qig _ (by rw[hgl];exact hS.v) hS.t
 have v1:(qgp c s).values.length=s.values.length:=by
  show((qde c (qds c s)).map Prod.fst).length=_
  rw[List.length_map,hlen,hS.v]
 have t1:(qgp c s).timers.length=s.timers.length:=by
  show((qde c (qds c s)).map Prod.snd).length=_
  rw[List.length_map,hlen,hS.t]
 refine⟨⟨hs.e,hs.w,hs.i,by rw[v1];exact hs.v,by rw[t1];exact hs.t⟩,⟨hS.e,hS.w,hS.i,by rw[v1];exact hS.v,by rw[t1];exact hS.t⟩,?_⟩
 rw[qdg,qdg,v1]
 rfl
set_option maxHeartbeats 1000000 in
theorem z8s(c:Ct){A:Nat}(hM:Mid c A)(s:Ste)(hs:s.small)(hS:Shp c s)(hok:∀x∈c.signals,SigOk (qad s).length x){st:St}(h0:At (zlc 0) (zsl c s []) st):∃r,ev pg (.code (.going 10 L184_2) st)=some r/\zxn c (qdn c (qak c A) 65 s []) r:=by
 generalize hR:qdn c (qak c A) 65 s []=Z
 refine qbn 65 (fun k _=>zlc k) (fun _ a=>zsl c a.1 a.2.1) (G151 c s (qak c A) Z) _ ?_ ?_ (s,[],[]) ⟨hR,fun _=>Iff.rfl,hs,hS,rfl⟩ h0
 .rintro k ⟨t,L,l⟩ f hf hk hG
  have hgo:=hG.go
  have hmem:=hG.mem
  have hsm:=hG.small
  have hsh:=hG.shp
  have hln:=hG.len
  simp only at hgo hmem hsm hsh hln
  have hk':(k:Int)<=64:=by omega
  have wk:=qab (n:=(k:Int)+1) (by omega) (by omega)
  have zlj:=ev194 c t hM hsm hsh (fun x hx=>by rw[hln];exact hok x hx)
  obtain⟨o1,o2,o3⟩:=zkr hsm hsh
  have h20:=ev31 (qgp c t) t o1
  rw[show 65-k=(64-k)+1 by omega,qdn]at hgo
  have hbl:(qsh c t).length<=4096:=by
   have:=qhi (q3s c (qad (qds c t))) (qao t) c.signals.length
   have:=hM.sig
   unfold qsh
   omega
  have la:=@zyg c t (qgp c t) k L (qsh c t) hbl
  have hmem':∀x,x∈qkx L (qsh c t)<->x∈l++qsh c t:=fun x=>by rw[q3n,hmem,jQ]
  have hnorm:inM (qkx L (qsh c t)) (qak c A)=norm (qak c A) (l++qsh c t):=qxe fun x _ _=>hmem' x
  have lb:=@zwy c A hM t (qgp c t) k (qsh c t) (qkx L (qsh c t))
  unfold zaj zas at lb
  rw[hnorm,show inM (qkx L (qsh c t)) 0=[]from rfl]at lb
  rw[List.take_length,List.take_zero,show qkx L []=L from rfl]at la
  generalize qgp c t=u at *
  generalize qsh c t=B at *
  generalize qkx L B=M at *
  simp[zlc,L184_2,hk',zlj,qaf,hf.ne]
  generalize hr:ev pg (.code (.going _ L184_0) _)=o
  obtain⟨r,rfl,f2,hf2,rfl⟩:∃r,o=some r/\_:=by rw[<-hr];exact la (by simp[q2n,hf.ne])
  clear hr
  by_cases hst:qic u t=true
  .rw[if_pos hst]at hgo
   rw[hst]at h20
   simp[q2n,h20,hf2.ne]
   generalize hr:ev pg (.code (.going _ L184_1) _)=o
   obtain⟨r,rfl,⟨g,m⟩,hm,f3,hf3,rfl⟩:∃r,o=some r/\_:=by rw[<-hr];exact lb (0,0) (.inr rfl) (by simp[hf2.ne])
   clear hr
   subst hgo
   have hmm:m=1\/m=0:=hm
   rcases hmm with rfl | rfl<;>simp[hf3.ne]
   .exact⟨M,u,k,(g,1),.inl rfl,by simp[ziv,hf3.ne]⟩
   .exact⟨M,u,k,(g,0),.inr rfl,by simp[ziv,hf3.ne]⟩
  .have hsf:qic u t=false:=by simpa using hst
   rw[if_neg hst]at hgo
   rw[hsf]at h20
   have hG':G151 c s (qak c A) Z (k+1) (u,M,l++B):=⟨by rw[<-hgo,show 65-(k+1)=64-k by omega],hmem',o1,o2,by rw[o3];exact hln⟩
   simp[q2n,h20,wk,hf2.ne]
   refine⟨u,M,⟨l++B,hG'⟩,?_⟩
   simp
 .rintro⟨t,L,l⟩ f hf hG
  have hgo:=hG.go
  simp only[Nat.sub_self,qdn]at hgo
  subst hgo
  simp[zlc,L184_2,hf.ne]
  exact⟨t,L,by simp[zlc,hf.ne]⟩
end Go.Proofs.YtlhciedghbmjjaaGreat
