/- The plant comes to rest, by the program. -/
import Derived.Test.YtbepbclaoohngaaGreatVa2
import Derived.KernelRfl
import Derived.Test.YtbepbclaoohngaaGreatRn1
set_option linter.all false
namespace Go.Proofs.YtbepbclaoohngaaGreat
open Go Go.Am Go.Proofs
set_option maxRecDepth 100000
theorem znp{v:Bool}{e:Int}(h0:0<=e)(h4:e<4):qut v e=if v=true then(if e≠2/\e≠1 then 1 else e)else(if e≠0/\e≠3 then 3 else e):=by
 unfold qut
 have:e=0\/e=1\/e=2\/e=3:=by omega
 rcases this with rfl | rfl | rfl | rfl<;>cases v<;>rfl
abbrev vA(c:Ct)(t:Ste):List Bool:=t.valves.mapIdx (qsc c (qah t))
abbrev eA(c:Ct)(t:Ste):List Int:=List.zipWith qut (vA c t) t.ends
abbrev h46(c:Ct)(s t:Ste)(m:List Int)(A k:Nat)(g:Nat):H:=[⟨0,.box c.cells⟩,⟨0,.box s.cells⟩,o0,o0,o0,o0,o0,⟨0,.box (zop 2)⟩]++ar5 t++[⟨g,.arr 1 ((m++cfL c (qah t) A k).map qbo)⟩,o0,o0,o0,o0,o0,⟨0,.box (sl5 8 t)⟩,⟨0,.arr 1 ((mix (eA c t) t.ends k).map qbo)⟩,⟨0,.arr 1 ((mix (vA c t) t.valves k).map qhq)⟩,⟨0,.arr 1 (t.inputs.map qhq)⟩,⟨0,.arr 1 (t.values.map qhq)⟩,⟨0,.arr 1 (t.timers.map qbo)⟩,o0,o0,o0,o0,o0,⟨0,.box (sl5 20 t)⟩,o0]
def T46(c:Ct)(t:Ste)(m:List Int)(A N k:Nat)(g:Nat):Tm:=[none,none,bN 0,bN 1,bN 7,some (.sl 31 0 0 0 0),nN 0,bN 19,some (.sl 13 g 1 0 (m++cfL c (qah t) A k).length),none,bN 30,nN N]++zN 30++[nN A,nN k]++zN 70
set_option maxHeartbeats 4000000 in
theorem jfo{c:Ct}{t:Ste}(s:Ste)(ht:Rdy c t)(m:List Int)(hm:m.length<=4096){A:Nat}(hA:c.act.toNat=A){st:St}(g0:Nat)(h0:At (T46 c t m A (qad c A) 0 g0) (h46 c s t m A 0 g0) st):∃r,ev pg (.code (.going 32 L148_0) st)=some r/\∃g,qbn (.exit 0) (T46 c t m A (qad c A) A g) (h46 c s t m A A g) r:=by
 have hmid:=ht.mid
 have hP:=ht.pil
 have hS:=ht.shp
 have hst:=ht.st
 rw[hA]at hmid hP
 have hact:=hmid.act
 have hhi:=hmid.hi
 have hN:qad c A<=172:=by
  have:=hmid.sig
  have:=hmid.inp
  unfold qad
  omega
 have hend:=qgk.1 (qhh.1 hst).2.2.1
 have hwl:t.valves.length=A:=by have:=hS.w;omega
 have hel:t.ends.length=A:=by have:=hS.e;omega
 refine qev A (T46 c t m A (qad c A)) (h46 c s t m A) (fun _ _=>True) _ ?_ ?_ g0 trivial h0 |>.imp fun r h=>⟨h.1,h.2⟩
 .rintro k g f hf hk -
  have hk':(k:Int)<A:=by omega
  have wk:=qbs (k:=k) (by omega)
  have hkp:k<c.plus.length:=by rw[hP.p];exact hk
  have hkm:k<c.minus.length:=by rw[hP.m];exact hk
  have hkw:k<t.valves.length:=by omega
  have hke:k<t.ends.length:=by omega
  obtain⟨p0,p1⟩:=hP.pb _ (jH hkp)
  obtain⟨q0,q1⟩:=hP.mb _ (jH hkm)
  have e1:=ev220 ht c.plus[k] p0 p1
  have e2:=ev220 ht c.minus[k] q0 q1
  have hpl:((qah t)[(c.plus[k]).toNat]?).getD false=qdv (qah t) c.plus k:=by
   unfold qdv;rw[jA hkp];rfl
  have hmi:((qah t)[(c.minus[k]).toNat]?).getD false=qdv (qah t) c.minus k:=by
   unfold qdv;rw[jA hkm];rfl
  rw[hpl]at e1
  rw[hmi]at e2
  have l1:(vA c t).length=t.valves.length:=List.length_mapIdx
  have l2:(eA c t).length=t.ends.length:=by rw[List.length_zipWith,l1];omega
  have f1:=qxb (A:=vA c t) (B:=t.valves) l1 (k:=k) (by omega)
  have f2:=qxb (A:=eA c t) (B:=t.ends) l2 (k:=k) (by omega)
  have hva:(vA c t)[k]'(by omega)=qsc c (qah t) k t.valves[k]:=List.getElem_mapIdx ..
  have hea:(eA c t)[k]'(by omega)=qut (qsc c (qah t) k t.valves[k]) t.ends[k]:=by
   rw[List.getElem_zipWith,hva]
  rw[hva]at f1
  rw[hea]at f2
  have m1:=qxa (A:=vA c t) (B:=t.valves) l1 (k:=k) (by omega)
  have m2:=qxa (A:=eA c t) (B:=t.ends) l2 (k:=k) (by omega)
  have n1:=q2v (A:=vA c t) (B:=t.valves) l1 (k:=k) (by omega)
  have n2:=q2v (A:=eA c t) (B:=t.ends) l2 (k:=k) (by omega)
  rw[jA hkw]at n1
  rw[jA hke]at n2
  have f4:=qrt (fun i=>qdv (qah t) c.plus i&&qdv (qah t) c.minus i) (qad c A:Nat) k
  have hsl:=qlu (fun i=>qdv (qah t) c.plus i&&qdv (qah t) c.minus i) (qad c A:Nat) k
  obtain⟨x0,x4⟩:=hend _ (jH hke)
  have hge:=znp (v:=qsc c (qah t) k t.valves[k]) x0 x4
  have hvf:qsc c (qah t) k t.valves[k]=if qdv (qah t) c.plus k != qdv (qah t) c.minus k then qdv (qah t) c.plus k else t.valves[k]:=rfl
  rw[hge,hvf]at f2
  rw[hvf]at f1
  unfold h46 T46 cfL
  rw[<-f1,<-f2,f4]
  clear hge hvf f1 f2 f4 hva hea hpl hmi
  generalize mix (vA c t) t.valves k=VV at *
  generalize mix (eA c t) t.ends k=EE at *
  generalize qim (fun i=>qdv (qah t) c.plus i&&qdv (qah t) c.minus i) (qad c A:Nat) k=B at *
  generalize qdv (qah t) c.plus k=pl at *
  generalize qdv (qah t) c.minus k=mi at *
  generalize hv0:t.valves[k]=v0 at *
  generalize he0:t.ends[k]=e0 at *
  have hkV:k<VV.length:=by omega
  have hkE:k<EE.length:=by omega
  have v1:VV[k]=v0:=by rw[jA hkV]at n1;exact Option.some.inj n1
  have t1:EE[k]=e0:=by rw[jA hkE]at n2;exact Option.some.inj n2
  have vs:VV.set k v0=VV:=by rw[<-v1];exact List.set_getElem_self _
  have es:EE.set k e0=EE:=by rw[<-t1];exact List.set_getElem_self _
  have hb1:(m.length+(B.length+1))*8<=140737488355328:=by omega
  have hb2:(m.length+B.length+1)*8<=140737488355328:=by omega
  have vs2:(VV.map qhq).set k [.bool v0]=VV.map qhq:=by rw[show [V.bool v0]=qhq v0 from rfl,<-List.map_set,vs]
  have es2:(EE.map qbo).set k [num e0]=EE.map qbo:=by rw[show [num e0]=qbo e0 from rfl,<-List.map_set,es]
  generalize qad c A=N at *
  have wN:=qan (n:=(N:Int)+(k:Int)) (by omega) (by omega)
  have hVA:k<A:=hk
  have hEb:e0=0\/e0=1\/e0=2\/e0=3:=by omega
  have hVl:VV.length=A:=by omega
  have hEl:EE.length=A:=by omega
  rcases hEb with rfl | rfl | rfl | rfl<;>cases pl<;>cases mi<;>cases v0<;>simp[qaa,exT,qak,L148_0,hk',wk,hkp,hkm,e1,e2,wN,hkV,hkE,hwl,hel,hVA,v1,t1,vs,es,vs2,es2,hb1,hb2,hVl,hEl,Nat.add_assoc,hf.ne]
 .rintro g f hf -
  unfold h46 T46
  generalize cfL c (qah t) A A=B at *
  simp[L148_0,hf.ne]
set_option maxHeartbeats 1000000 in
theorem ev148_some{c:Ct}{s:Ste}(h:Rdy c s){t:Ste}{m:List Int}(hz:qdh c s=some (t,m)):ev pg (.call (.fn 148 [] []) [c.v,s.v] [])=some { v:=.tup [(qlf (qhj c t)).v,qes (m++qpe c t),num 0],st:=⟨[],[]⟩ }:=by
 have ht:=h.settle hz
 have e81:=ev219_some h hz
 have e60:=ev91 t ht.small
 have hml:=(qyh hz).len
 have hmid:=ht.mid
 have hN:=q1r hmid
 have hS:=ht.shp
 have hm:m.length<=4096:=by unfold qos at hN;omega
 have hl:=@jfo c t s ht m hm c.act.toNat rfl
 have hact:=hmid.act
 have hhi:=hmid.hi
 have hinp:=hmid.inp
 have hsig:=hmid.sig
 have hwl:t.valves.length=c.act.toNat:=by have:=hS.w;omega
 have hel:t.ends.length=c.act.toNat:=by have:=hS.e;omega
 have l1:(vA c t).length=t.valves.length:=List.length_mapIdx
 have l2:(eA c t).length=t.ends.length:=by rw[List.length_zipWith,l1];omega
 have z1:mix (vA c t) t.valves 0=t.valves:=qra _ _
 have z2:mix (eA c t) t.ends 0=t.ends:=qra _ _
 have z3:mix (vA c t) t.valves c.act.toNat=vA c t:=by
  have:=qwz l1
  rwa [l1,hwl]at this
 have z4:mix (eA c t) t.ends c.act.toNat=eA c t:=by
  have:=qwz l2
  rwa [l2,hel]at this
 have z5:cfL c (qah t) c.act.toNat 0=[]:=rfl
 have z6:cfL c (qah t) c.act.toNat c.act.toNat=qpe c t:=rfl
 unfold h46 T46 at hl
 rw[z1,z2,z3,z4,z5,z6,List.append_nil]at hl
 have hg:qlf (qhj c t)=⟨eA c t,vA c t,t.inputs,t.values,t.timers⟩:=rfl
 rw[hg]
 have w1:IntKind.i64.wrap (2*c.act)=2*(c.act.toNat:Int):=by rw[show(2:Int)*c.act=2*(c.act.toNat:Int)by omega];exact qan (by omega) (by omega)
 have w2:IntKind.i64.wrap (2*(c.act.toNat:Int)+c.inputs.length)=2*(c.act.toNat:Int)+c.inputs.length:=qan (by omega) (by omega)
 have w3:IntKind.i64.wrap (2*(c.act.toNat:Int)+c.inputs.length+c.signals.length)=2*(c.act.toNat:Int)+c.inputs.length+c.signals.length:=qan (by omega) (by omega)
 unfold qad at hl
 generalize qpe c t=B at *
 generalize vA c t=VV at *
 generalize eA c t=EE at *
 generalize c.act.toNat=A at *
 rw[qab,pg148]
 simp[ir148,e81,e60,w1,w2,w3,qam]
 generalize hr:ev pg (.code (.going _ L148_0) _)=o
 obtain⟨r,rfl,g,f,hf,rfl⟩:∃r,o=some r/\_:=by rw[<-hr];exact hl 0 (by simp[hact])
 clear hr
 simp[l1.symm,l2.symm]
theorem ev148_none{c:Ct}{s:Ste}(h:Rdy c s)(hz:qdh c s=none):ev pg (.call (.fn 148 [] []) [c.v,s.v] [])=some { v:=.tup [zeroS.v,qes [],num 21],st:=⟨[],[]⟩ }:=by
 have e81:=ev219_none h hz
 rw[qab,pg148]
 simp[ir148,e81,zeroS]
theorem ev94(N:Nat)(a b:List Int)(ha:a.length<=10000)(hb:b.length<=10000)(hbd:∀x∈a++b,0<=x/\x<(N:Int)):ev pg (.call (.fn 94 [] []) [qes a,qes b] [])=some { v:=qes (norm N (a++b)),st:=⟨[],[]⟩ }:=by
 have e32:=ev155c [a,b] (by simp) (by simp) (by simp;omega)
 simp only[zll,List.map_cons,List.map_nil,List.flatten_cons,List.flatten_nil,List.append_nil]at e32
 generalize hab:a++b=l at *
 have hl:l.length<=20000:=by rw[<-hab];simp;omega
 have key:∀(g:Nat) (l:List Int),calm [⟨g,.arr 1 (l.map qbo)⟩]:=fun g l=>by
  unfold calm
  simp
 obtain⟨l',hp,hsr,e33⟩:=ev156 (h:=[⟨0,.arr 1 (l.map qbo)⟩]) (i:=0) (g:=0) (l:=l) rfl (key 0 l) (by omega)
 have hpl:=hp.length_eq
 obtain⟨rows,hr1,hr2,e36⟩:=ev157 (h:=[⟨0,.arr 1 (l'.map qbo)⟩]) (i:=0) (g:=0) (l:=l') rfl (key 0 l') (by omega)
 have hcn:qaz l'=norm N l:=qtr hsr (fun x=>hp.mem_iff) hbd
 rw[hcn]at hr2 e36
 rw[hpl]at e36
 have hle:(norm N l).length<=rows.length:=by
  have:=congrArg List.length hr2
  simp at this
  omega
 have hif:=zkw hr2
 have hif2:(if(norm N l).length=rows.length then some rows else some (rows.take (norm N l).length))=some ((norm N l).map qbo):=by
  split
  .rename_i e
   rw[if_pos e]at hif
   rw[hif]
  .rename_i e
   rw[if_neg e]at hif
   rw[hif]
 generalize norm N l=M at *
 simp at e33 e36
 rw[qab,pg94]
 simp[ir94,e32,e33,e36,hle,hif2]
def sl0(k:Nat)(l:List Int):V:=if k=0 then .sl 9 0 0 0 0 else qes l
theorem z3j(k:Nat)(l:List Int):sl0 k l ≠ .nils:=by
 unfold sl0;split<;>simp
def ob0(k:Nat):Ob:=if k=0 then o0 else⟨0,.frz 0 []⟩
abbrev jfg(c:Ct)(t:Ste):H:=[⟨0,.box c.cells⟩,⟨0,.box t.cells⟩,o0,o0,o0,o0,o0,⟨0,.box t.cells⟩,o0,⟨0,.frz 0 []⟩,o0,o0,o0,o0,o0,⟨0,.box t.cells⟩]
structure G86(c:Ct)(Z:Option (Ste×List Int))(k:Nat)(a:Ste×List Int):Prop where
 go:qgp c (65-k) a.1 a.2=Z
 rdy:Rdy c a.1
 lin:Lin (qos c) a.2
 nil:k=0->a.2=[]
abbrev zwq(x:Ste×List Int×Int):V:=.tup [x.1.v,qes x.2.1,num x.2.2]
def qpn(c:Ct)(s:Ste):Ste×List Int×Int:=if stE c s=0 then qjf c s else(zeroS,[],stE c s)
abbrev ini(c:Ct)(k:Nat):List Bool:=mix (c.signals.map Sg.init) (List.replicate c.signals.length false) k
theorem zuj(c:Ct){k:Nat}(hk:k<=c.signals.length):(ini c k).length=c.signals.length:=by
 have:=qxa (A:=c.signals.map Sg.init) (B:=List.replicate c.signals.length false) (by simp) (k:=k) (by simpa using hk)
 simpa using this
theorem zdc{c:Ct}(hfew:c.small=true)(hc:c.check=0):Rdy c (qjt c):=⟨hfew,qtu hc⟩
def qcy(c:Ct):Ste×List Int×Int:=if c.check=0 then qjf c (qjr c)else(zeroS,[],c.check)
def q6z(c:Ct)(s:Ste):Bool:=((qda c s).map fun x=>qks s x.1).getD false
def zbt(c:Ct)(s:Ste):Bool×Int:=if stE c s=0 then(q6z c s,0)else(false,stE c s)
def quE(c:Ct)(s:Ste):Int:=if stE c s=0 then(if q6z c s=true then 0 else 14)else stE c s
abbrev evs(l:List Evn):V:=.imm (l.map Evn.row)
def qti(kd:Int)(p:Nat->Bool)(k:Nat):List Evn:=((List.range k).filter p).map fun(i:Nat)=>⟨kd,i,false⟩
theorem q6s(kd:Int)(p:Nat->Bool)(k:Nat):qti kd p (k+1)=if p k=true then qti kd p k++[⟨kd,k,false⟩]else qti kd p k:=by
 unfold qti
 rw[List.range_succ,List.filter_append,List.map_append]
 cases h:p k<;>simp[h]
theorem qrs(kd:Int)(p:Nat->Bool)(k:Nat):(qti kd p k).length<=k:=by
 unfold qti
 rw[List.length_map]
 exact Nat.le_trans (List.length_filter_le _ _) (by simp)
theorem zbq(s:Ste):qop s=qti 0 (qdg s 0) s.ends.length++qti 1 (qdg s 1) s.timers.length:=rfl
abbrev gm3(a:Nat×Nat):Prop:=a.2=3\/a.2=0
def qec(c:Ct)(s:Ste):List Evn×Int:=if quE c s=0 then(qop s,0)else([],quE c s)
theorem zee{N:Nat}{l m:List Int}:norm N (l++norm N m)=norm N (l++m) :=
 zed fun x h1 h2=>by rw[jQ,jQ,qnx];exact⟨fun a=>a.elim .inl (fun b=>.inr b.1),fun a=>a.elim .inl (fun b=>.inr ⟨b,h1,h2⟩)⟩
theorem qxy{c:Ct}{s:Ste}:qda c s=none<->qdh c s=none:=by
 unfold qda
 cases qdh c s<;>simp
abbrev h16(c:Ct)(k:Nat)(a:Ste×List Int):H:=[⟨0,.box c.cells⟩,⟨0,.box a.1.cells⟩,o0,o0,o0,o0,o0,⟨0,.box (zop 2)⟩,o0,ob0 k]
def T16(k:Nat)(a:Ste×List Int):Tm:=[none,none,bN 0,bN 1,bN 7,some (.sl 8 0 0 0 0),nN 0,none,some (sl0 k a.2),none,none,none,none,none,none,none,none,none,none,nN k]++zN 23
def z4t(m:List Int):Tm:=[none,none,none,none,bN 7,some (qes m),nN 0]++zN 36
abbrev jff(c:Ct)(k:Nat)(s t:Ste):H:=[⟨0,.box c.cells⟩,⟨0,.box s.cells⟩,o0,o0,o0,o0,o0,⟨0,.box (zop 16)⟩,o0,ob0 k,o0,o0,o0,o0,o0,⟨0,.box t.cells⟩,o0,o0,o0,o0,o0]
def jam:Tm:=[none,none,none,none,bN 7,some .nils,nN 21]++zN 36
def zsm(c:Ct)(Z:Option (Ste×List Int))(r:R):Prop:=match Z with
 | some (t,m)=>qbn .ret (z4t m) (jfg c t) r
 | none=>(∃k s t,qbn .ret jam (jff c k s t) r)\/∃a,qbn (.exit 0) (T16 65 a) (h16 c 65 a) r
theorem zmk{c:Ct}{t:Ste}{m:List Int}(hm:Lin (qad c c.act.toNat) m):∀x∈m++qpe c t,0<=x/\x<(qos c:Nat):=by
 intro x hx
 rcases jQ.1 hx with h | h
 .exact(hm.mono (by unfold qos;omega)).b x h
 .exact(q4p c t).b x h
set_option maxHeartbeats 1000000 in
theorem jfj{c:Ct}{s:Ste}(hs:Rdy c s){st:St}(h0:At (T16 0 (s,[])) (h16 c 0 (s,[])) st):∃r,ev pg (.code (.going 10 L89_0) st)=some r/\zsm c (qlq c s) r:=by
 generalize hR:qlq c s=Z
 refine qev 65 T16 (h16 c) (G86 c Z) _ ?_ ?_ (s,[]) ⟨hR,hs,Lin.nil _,fun _=>rfl⟩ h0
 .rintro k ⟨t,l⟩ f hf hk hG
  have hgo:=hG.go
  have hrd:=hG.rdy
  have hl:=hG.lin
  have hn:=hG.nil
  simp only at hgo hrd hl hn
  have hk':(k:Int)<65:=by omega
  have wk:=qbs (k:=k) (by omega)
  have w1:IntKind.i64.wrap 1=1:=by decide
  have hN:=q1r hrd.mid
  rw[show 65-k=(64-k)+1 by omega,qgp]at hgo
  cases hZ:qdh c t with
  | none =>
   have e46:=ev148_none hrd hZ
   rw[qxy.2 hZ]at hgo
   simp only at hgo
   subst hgo
   simp[T16,L89_0,hk',e46,hf.ne]
   exact .inl ⟨k,t,zeroS,by simp[jam,hf.ne,zeroS,z3j]⟩
  | some x =>
   obtain⟨v,m⟩:=x
   have e46:=ev148_some hrd hZ
   have hrv:qda c t=some (qlf (qhj c v),norm (qos c) (m++qpe c v)):=by unfold qda;rw[hZ];rfl
   rw[hrv]at hgo
   simp only at hgo
   have hru:=hrd.round hrv
   have hml:=qyh hZ
   have hin:=zmk (t:=v) hml
   have hmn:=hml.len
   have hcn:=(q4p c v).len
   have hln:=hl.len
   have e54:=ev94 (qos c) l (m++qpe c v) (by omega) (by simp;unfold qos at hN hcn;omega) (fun x hx=>(jQ.1 hx).elim (hl.b x) (hin x))
   rw[zee]at hgo
   have hl':Lin (qos c) (norm (qos c) (l++(m++qpe c v))):=Lin.norm _ _
   have e47:=ev149 (qlf (qhj c v)) t hru.small
   rw[qth]at e47
   generalize norm (qos c) (l++(m++qpe c v))=p at *
   generalize m++qpe c v=q at *
   generalize qlf (qhj c v)=u at *
   by_cases hst:qks t u=true
   .rw[if_pos hst]at hgo
    rw[hst]at e47
    subst hgo
    obtain rfl:=qhz.1 hst
    unfold T16 sl0 h16 ob0
    by_cases hk0:k=0
    .subst hk0
     rw[hn rfl]at e54
     have e54':ev pg (.call (.fn 94 [] []) [.imm [],qes q] [])=_:=e54
     simp[L89_0,e46,e54',e47,hf.ne]
     simp[zsm,z4t,hf.ne]
    .simp[L89_0,hk0,hk',e46,e54,e47,hf.ne]
     simp[zsm,z4t,hf.ne]
   .have hsf:qks t u=false:=by simpa using hst
    rw[if_neg hst]at hgo
    rw[hsf]at e47
    have hG':G86 c Z (k+1) (u,p):=⟨by rw[<-hgo,show 65-(k+1)=64-k by omega],hru,hl',by omega⟩
    unfold T16 sl0 h16 ob0
    by_cases hk0:k=0
    .subst hk0
     rw[hn rfl]at e54
     have e54':ev pg (.call (.fn 94 [] []) [.imm [],qes q] [])=_:=e54
     simp[L89_0,e46,e54',e47,w1,hf.ne]
     exact⟨u,p,hG',by simp⟩
    .simp[L89_0,hk0,hk',wk,e46,e54,e47,hf.ne]
     exact⟨u,p,hG',by simp⟩
 .rintro⟨t,l⟩ f hf hG
  have hgo:=hG.go
  simp only[Nat.sub_self,qgp]at hgo
  subst hgo
  simp[T16,L89_0]
  exact .inr ⟨(t,l),by simp[T16,hf.ne]⟩
theorem ev89(c:Ct)(s:Ste)(hfew:c.small=true)(hs:s.small):ev pg (.call (.fn 89 [] []) [c.v,s.v] [])=some { v:=zwq (qpn c s),st:=⟨[],[]⟩ }:=by
 have e45:=ev147 c s hfew hs
 unfold qpn
 rw[qab,pg89]
 by_cases h:stE c s=0
 .have hl:=@jfj c s ⟨hfew,h⟩
  rw[if_pos h]
  rw[h]at e45
  unfold qjf
  generalize qlq c s=Z at *
  simp[ir89,e45,qam]
  generalize hr:ev pg (.code (.going _ L89_0) _)=o
  obtain⟨r,rfl,hQ⟩:∃r,o=some r/\_:=by rw[<-hr];exact hl (by simp[T16,sl0,ob0])
  clear hr
  cases Z with
  | none =>
   rcases hQ with⟨k,s,t,f,hf,rfl⟩ | ⟨⟨s,l⟩,f,hf,rfl⟩
   .simp[jam,zeroS]
   .simp[T16,zeroS,ob0]
  | some p =>
   obtain⟨t,m⟩:=p
   obtain⟨f,hf,rfl⟩:=hQ
   simp[z4t]
 .rw[if_neg h]
  have hb:(stE c s==0)=false:=by simpa using h
  generalize stE c s=e at *
  simp[ir89,e45,h,hb,zeroS]
end Go.Proofs.YtbepbclaoohngaaGreat
