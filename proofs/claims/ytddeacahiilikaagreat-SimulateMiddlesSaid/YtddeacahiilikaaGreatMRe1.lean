/- A round of the plant, by the program. A round of the plant, by the program: the function; lists merged. The plant comes to rest, by the reference. Rest and Start of the reference. Quiet and Events of the reference. The plant comes to rest, by the program. -/
import Derived.Test.YtddeacahiilikaaGreatMVa2
import Derived.KernelRfl
import Derived.Test.YtddeacahiilikaaGreatMRu2
set_option linter.all false
namespace Go.Proofs.YtddeacahiilikaaGreat
open Go Go.Am Go.Proofs
set_option maxRecDepth 100000
theorem zgo{v:Bool}{e:Int}(h0:0<=e)(h4:e<4):qtt v e=if v=true then(if e≠2/\e≠1 then 1 else e)else(if e≠0/\e≠3 then 3 else e):=by
 unfold qtt
 have:e=0\/e=1\/e=2\/e=3:=by omega
 rcases this with rfl | rfl | rfl | rfl<;>cases v<;>rfl
abbrev vA(c:Ct)(t:Ste):List Bool:=t.valves.mapIdx (q8g c (qag t))
abbrev eA(c:Ct)(t:Ste):List Int:=List.zipWith qtt (vA c t) t.ends
abbrev h46(c:Ct)(s t:Ste)(m:List Int)(A k:Nat)(g:Nat):H:=[⟨0,.box c.cells⟩,⟨0,.box s.cells⟩,o0,o0,o0,o0,o0,⟨0,.box (zhh 2)⟩]++ar5 t++[⟨g,.arr 1 ((m++cfL c (qag t) A k).map qej)⟩,o0,o0,o0,o0,o0,⟨0,.box (sl5 8 t)⟩,⟨0,.arr 1 ((mix (eA c t) t.ends k).map qej)⟩,⟨0,.arr 1 ((mix (vA c t) t.valves k).map qia)⟩,⟨0,.arr 1 (t.inputs.map qia)⟩,⟨0,.arr 1 (t.values.map qia)⟩,⟨0,.arr 1 (t.timers.map qej)⟩,o0,o0,o0,o0,o0,⟨0,.box (sl5 20 t)⟩,o0]
def T46(c:Ct)(t:Ste)(m:List Int)(A N k:Nat)(g:Nat):Tm:=[none,none,some (.bptr 0 0),some (.bptr 1 0),some (.bptr 7 0),some (.sl 31 0 0 0 0),some (num 0),some (.bptr 19 0),some (.sl 13 g 1 0 (m++cfL c (qag t) A k).length),none,some (.bptr 30 0),some (num N)]++List.replicate 30 none++[some (num A),some (num k)]++List.replicate 70 none
set_option maxHeartbeats 4000000 in
theorem z9l{c:Ct}{t:Ste}(s:Ste)(ht:Rdy c t)(m:List Int)(hm:m.length<=4096){A:Nat}(hA:c.act.toNat=A){st:St}(g0:Nat)(h0:At (T46 c t m A (qaj c A) 0 g0) (h46 c s t m A 0 g0) st):∃r,ev pg (.code (.going 32 L112_0) st)=some r/\∃g,qai (.exit 0) (T46 c t m A (qaj c A) A g) (h46 c s t m A A g) r:=by
 have hmid:=ht.mid
 have hP:=ht.pil
 have hS:=ht.shp
 have hst:=ht.st
 rw[hA]at hmid hP
 have hact:=hmid.act
 have hhi:=hmid.hi
 have hN:qaj c A<=172:=by
  have:=hmid.sig
  have:=hmid.inp
  unfold qaj
  omega
 have hend:=qfj.1 (qgj.1 hst).2.2.1
 have hwl:t.valves.length=A:=by have:=hS.w;omega
 have hel:t.ends.length=A:=by have:=hS.e;omega
 refine qco A (T46 c t m A (qaj c A)) (h46 c s t m A) (fun _ _=>True) _ ?_ ?_ g0 trivial h0 |>.imp fun r h=>⟨h.1,h.2⟩
 .rintro k g f hf hk -
  have hk':(k:Int)<A:=by omega
  have wk:=qab (n:=(k:Int)+1) (by omega) (by omega)
  have hkp:k<c.plus.length:=by rw[hP.p];exact hk
  have hkm:k<c.minus.length:=by rw[hP.m];exact hk
  have hkw:k<t.valves.length:=by omega
  have hke:k<t.ends.length:=by omega
  obtain⟨p0,p1⟩:=hP.pb _ (jH hkp)
  obtain⟨q0,q1⟩:=hP.mb _ (jH hkm)
  have e1:=ev196 ht c.plus[k] p0 p1
  have e2:=ev196 ht c.minus[k] q0 q1
  have hpl:((qag t)[(c.plus[k]).toNat]?).getD false=qei (qag t) c.plus k:=by
   unfold qei;rw[jA hkp];rfl
  have hmi:((qag t)[(c.minus[k]).toNat]?).getD false=qei (qag t) c.minus k:=by
   unfold qei;rw[jA hkm];rfl
  rw[hpl]at e1
  rw[hmi]at e2
  have l1:(vA c t).length=t.valves.length:=List.length_mapIdx
  have l2:(eA c t).length=t.ends.length:=by rw[List.length_zipWith,l1];omega
  have f1:=qsa (A:=vA c t) (B:=t.valves) l1 (k:=k) (by omega)
  have f2:=qsa (A:=eA c t) (B:=t.ends) l2 (k:=k) (by omega)
  have hva:(vA c t)[k]'(by omega)=q8g c (qag t) k t.valves[k]:=List.getElem_mapIdx ..
  have hea:(eA c t)[k]'(by omega)=qtt (q8g c (qag t) k t.valves[k]) t.ends[k]:=by
   rw[List.getElem_zipWith,hva]
  rw[hva]at f1
  rw[hea]at f2
  have m1:=qrz (A:=vA c t) (B:=t.valves) l1 (k:=k) (by omega)
  have m2:=qrz (A:=eA c t) (B:=t.ends) l2 (k:=k) (by omega)
  have n1:=qxa (A:=vA c t) (B:=t.valves) l1 (k:=k) (by omega)
  have n2:=qxa (A:=eA c t) (B:=t.ends) l2 (k:=k) (by omega)
  rw[jA hkw]at n1
  rw[jA hke]at n2
  have f4:=q0q (fun i=>qei (qag t) c.plus i&&qei (qag t) c.minus i) (qaj c A:Nat) k
  have hsl:=qra (fun i=>qei (qag t) c.plus i&&qei (qag t) c.minus i) (qaj c A:Nat) k
  obtain⟨x0,x4⟩:=hend _ (jH hke)
  have hge:=zgo (v:=q8g c (qag t) k t.valves[k]) x0 x4
  have hvf:q8g c (qag t) k t.valves[k]=if qei (qag t) c.plus k != qei (qag t) c.minus k then qei (qag t) c.plus k else t.valves[k]:=rfl
  rw[hge,hvf]at f2
  rw[hvf]at f1
  unfold h46 T46 cfL
  rw[<-f1,<-f2,f4]
  clear hge hvf f1 f2 f4 hva hea hpl hmi
  generalize mix (vA c t) t.valves k=VV at *
  generalize mix (eA c t) t.ends k=EE at *
  generalize qxn (fun i=>qei (qag t) c.plus i&&qei (qag t) c.minus i) (qaj c A:Nat) k=B at *
  generalize qei (qag t) c.plus k=pl at *
  generalize qei (qag t) c.minus k=mi at *
  generalize hv0:t.valves[k]=v0 at *
  generalize he0:t.ends[k]=e0 at *
  have hkV:k<VV.length:=by omega
  have hkE:k<EE.length:=by omega
  have v1:VV[k]=v0:=by rw[jA hkV]at n1;exact Option.some.inj n1
  have t1:EE[k]=e0:=by rw[jA hkE]at n2;exact Option.some.inj n2
  have vs:VV.set k v0=VV:=by rw[<-v1];exact List.set_getElem_self _
  have es:EE.set k e0=EE:=by rw[<-t1];exact List.set_getElem_self _
  have hb1:(m.length+(B.length+1))*8<=140737488355328:=by omega
  have hb2:(m.length+B.length+1)*8<=140737488355328:=by omega
  have vs2:(VV.map qia).set k [.bool v0]=VV.map qia:=by rw[show [V.bool v0]=qia v0 from rfl,<-List.map_set,vs]
  have es2:(EE.map qej).set k [num e0]=EE.map qej:=by rw[show [num e0]=qej e0 from rfl,<-List.map_set,es]
  generalize qaj c A=N at *
  have wN:=qab (n:=(N:Int)+(k:Int)) (by omega) (by omega)
  have hVA:k<A:=hk
  have hEb:e0=0\/e0=1\/e0=2\/e0=3:=by omega
  have hVl:VV.length=A:=by omega
  have hEl:EE.length=A:=by omega
  rcases hEb with rfl | rfl | rfl | rfl<;>cases pl<;>cases mi<;>cases v0<;>simp[qaa,exT,qad,L112_0,hk',wk,hkp,hkm,e1,e2,wN,hkV,hkE,hwl,hel,hVA,v1,t1,vs,es,vs2,es2,hb1,hb2,hVl,hEl,Nat.add_assoc,hf.ne]
 .rintro g f hf -
  unfold h46 T46
  generalize cfL c (qag t) A A=B at *
  simp[L112_0,hf.ne]
set_option maxHeartbeats 1000000 in
theorem ev112_some{c:Ct}{s:Ste}(h:Rdy c s){t:Ste}{m:List Int}(hz:qde c s=some (t,m)):ev pg (.call (.fn 112 [] []) [c.v,s.v] [])=some { v:=.tup [(qmz (qpi c t)).v,qck (m++qly c t),num 0],st:=⟨[],[]⟩ }:=by
 have ht:=h.settle hz
 have e81:=ev195_some h hz
 have e60:=ev116 t ht.small
 have hml:=(qsx hz).len
 have hmid:=ht.mid
 have hN:=qoh hmid
 have hS:=ht.shp
 have hm:m.length<=4096:=by unfold qjv at hN;omega
 have hl:=@z9l c t s ht m hm c.act.toNat rfl
 have hact:=hmid.act
 have hhi:=hmid.hi
 have hinp:=hmid.inp
 have hsig:=hmid.sig
 have hwl:t.valves.length=c.act.toNat:=by have:=hS.w;omega
 have hel:t.ends.length=c.act.toNat:=by have:=hS.e;omega
 have l1:(vA c t).length=t.valves.length:=List.length_mapIdx
 have l2:(eA c t).length=t.ends.length:=by rw[List.length_zipWith,l1];omega
 have z1:mix (vA c t) t.valves 0=t.valves:=qng _ _
 have z2:mix (eA c t) t.ends 0=t.ends:=qng _ _
 have z3:mix (vA c t) t.valves c.act.toNat=vA c t:=by
  have:=qry l1
  rwa [l1,hwl]at this
 have z4:mix (eA c t) t.ends c.act.toNat=eA c t:=by
  have:=qry l2
  rwa [l2,hel]at this
 have z5:cfL c (qag t) c.act.toNat 0=[]:=rfl
 have z6:cfL c (qag t) c.act.toNat c.act.toNat=qly c t:=rfl
 unfold h46 T46 at hl
 rw[z1,z2,z3,z4,z5,z6,List.append_nil]at hl
 have hg:qmz (qpi c t)=⟨eA c t,vA c t,t.inputs,t.values,t.timers⟩:=rfl
 rw[hg]
 have w1:IntKind.i64.wrap (2*c.act)=2*(c.act.toNat:Int):=by rw[show(2:Int)*c.act=2*(c.act.toNat:Int)by omega];exact qab (by omega) (by omega)
 have w2:IntKind.i64.wrap (2*(c.act.toNat:Int)+c.inputs.length)=2*(c.act.toNat:Int)+c.inputs.length:=qab (by omega) (by omega)
 have w3:IntKind.i64.wrap (2*(c.act.toNat:Int)+c.inputs.length+c.signals.length)=2*(c.act.toNat:Int)+c.inputs.length+c.signals.length:=qab (by omega) (by omega)
 unfold qaj at hl
 generalize qly c t=B at *
 generalize vA c t=VV at *
 generalize eA c t=EE at *
 generalize c.act.toNat=A at *
 rw[qac,pg112]
 simp[ir112,e81,e60,w1,w2,w3,qaf]
 generalize hr:ev pg (.code (.going _ L112_0) _)=o
 obtain⟨r,rfl,g,f,hf,rfl⟩:∃r,o=some r/\_:=by rw[<-hr];exact hl 0 (by simp[hact])
 clear hr
 simp[l1.symm,l2.symm]
theorem ev112_none{c:Ct}{s:Ste}(h:Rdy c s)(hz:qde c s=none):ev pg (.call (.fn 112 [] []) [c.v,s.v] [])=some { v:=.tup [zeroS.v,qck [],num 21],st:=⟨[],[]⟩ }:=by
 have e81:=ev195_none h hz
 rw[qac,pg112]
 simp[ir112,e81,zeroS]
theorem ev113(N:Nat)(a b:List Int)(ha:a.length<=10000)(hb:b.length<=10000)(hbd:∀x∈a++b,0<=x/\x<(N:Int)):ev pg (.call (.fn 113 [] []) [qck a,qck b] [])=some { v:=qck (norm N (a++b)),st:=⟨[],[]⟩ }:=by
 have e32:=ev120c [a,b] (by simp) (by simp) (by simp;omega)
 simp only[zbv,List.map_cons,List.map_nil,List.flatten_cons,List.flatten_nil,List.append_nil]at e32
 generalize hab:a++b=l at *
 have hl:l.length<=20000:=by rw[<-hab];simp;omega
 have key:∀(g:Nat) (l:List Int),qcj [⟨g,.arr 1 (l.map qej)⟩]:=fun g l=>by
  unfold qcj
  simp
 obtain⟨l',hp,hsr,e33⟩:=ev156 (h:=[⟨0,.arr 1 (l.map qej)⟩]) (i:=0) (g:=0) (l:=l) rfl (key 0 l) (by omega)
 have hpl:=hp.length_eq
 obtain⟨rows,hr1,hr2,e36⟩:=ev157 (h:=[⟨0,.arr 1 (l'.map qej)⟩]) (i:=0) (g:=0) (l:=l') rfl (key 0 l') (by omega)
 have hcn:qau l'=norm N l:=qpk hsr (fun x=>hp.mem_iff) hbd
 rw[hcn]at hr2 e36
 rw[hpl]at e36
 have hle:(norm N l).length<=rows.length:=by
  have:=congrArg List.length hr2
  simp at this
  omega
 have hif:=zdp hr2
 have hif2:(if(norm N l).length=rows.length then some rows else some (rows.take (norm N l).length))=some ((norm N l).map qej):=by
  split
  .rename_i e
   rw[if_pos e]at hif
   rw[hif]
  .rename_i e
   rw[if_neg e]at hif
   rw[hif]
 generalize norm N l=M at *
 simp at e33 e36
 rw[qac,pg113]
 simp[ir113,e32,e33,e36,hle,hif2]
def sl0(k:Nat)(l:List Int):V:=if k=0 then .sl 9 0 0 0 0 else qck l
theorem zxj(k:Nat)(l:List Int):sl0 k l ≠ .nils:=by
 unfold sl0;split<;>simp
def ob0(k:Nat):Ob:=if k=0 then o0 else⟨0,.frz 0 []⟩
abbrev z9f(c:Ct)(t:Ste):H:=[⟨0,.box c.cells⟩,⟨0,.box t.cells⟩,o0,o0,o0,o0,o0,⟨0,.box t.cells⟩,o0,⟨0,.frz 0 []⟩,o0,o0,o0,o0,o0,⟨0,.box t.cells⟩]
structure G86(c:Ct)(Z:Option (Ste×List Int))(k:Nat)(a:Ste×List Int):Prop where
 go:qhg c (65-k) a.1 a.2=Z
 rdy:Rdy c a.1
 lin:Lin (qjv c) a.2
 nil:k=0->a.2=[]
abbrev zsa(x:Ste×List Int×Int):V:=.tup [x.1.v,qck x.2.1,num x.2.2]
def qql(c:Ct)(s:Ste):Ste×List Int×Int:=if stE c s=0 then qjt c s else(zeroS,[],stE c s)
abbrev ini(c:Ct)(k:Nat):List Bool:=mix (c.signals.map Sg.init) (List.replicate c.signals.length false) k
theorem zqr(c:Ct){k:Nat}(hk:k<=c.signals.length):(ini c k).length=c.signals.length:=by
 have:=qrz (A:=c.signals.map Sg.init) (B:=List.replicate c.signals.length false) (by simp) (k:=k) (by simpa using hk)
 simpa using this
theorem q6u{c:Ct}(hfew:c.small=true)(hc:c.check=0):Rdy c (qie c):=⟨hfew,qpn hc⟩
def qcg(c:Ct):Ste×List Int×Int:=if c.check=0 then qjt c (qmp c)else(zeroS,[],c.check)
def q0v(c:Ct)(s:Ste):Bool:=((qdv c s).map fun x=>qkm s x.1).getD false
def q5i(c:Ct)(s:Ste):Bool×Int:=if stE c s=0 then(q0v c s,0)else(false,stE c s)
def quE(c:Ct)(s:Ste):Int:=if stE c s=0 then(if q0v c s=true then 0 else 14)else stE c s
theorem q7o{N:Nat}{l m:List Int}:norm N (l++norm N m)=norm N (l++m) :=
 q7n fun x h1 h2=>by rw[jQ,jQ,qlb];exact⟨fun a=>a.elim .inl (fun b=>.inr b.1),fun a=>a.elim .inl (fun b=>.inr ⟨b,h1,h2⟩)⟩
theorem qsp{c:Ct}{s:Ste}:qdv c s=none<->qde c s=none:=by
 unfold qdv
 cases qde c s<;>simp
abbrev h16(c:Ct)(k:Nat)(a:Ste×List Int):H:=[⟨0,.box c.cells⟩,⟨0,.box a.1.cells⟩,o0,o0,o0,o0,o0,⟨0,.box (zhh 2)⟩,o0,ob0 k]
def T16(k:Nat)(a:Ste×List Int):Tm:=[none,none,some (.bptr 0 0),some (.bptr 1 0),some (.bptr 7 0),some (.sl 8 0 0 0 0),some (num 0),none,some (sl0 k a.2),none,none,none,none,none,none,none,none,none,none,some (num k)]++List.replicate 23 none
def zyn(m:List Int):Tm:=[none,none,none,none,some (.bptr 7 0),some (qck m),some (num 0)]++List.replicate 36 none
abbrev z9e(c:Ct)(k:Nat)(s t:Ste):H:=[⟨0,.box c.cells⟩,⟨0,.box s.cells⟩,o0,o0,o0,o0,o0,⟨0,.box (zhh 16)⟩,o0,ob0 k,o0,o0,o0,o0,o0,⟨0,.box t.cells⟩,o0,o0,o0,o0,o0]
def z4k:Tm:=[none,none,none,none,some (.bptr 7 0),some .nils,some (num 21)]++List.replicate 36 none
def zkb(c:Ct)(Z:Option (Ste×List Int))(r:R):Prop:=match Z with
 | some (t,m)=>qai .ret (zyn m) (z9f c t) r
 | none=>(∃k s t,qai .ret z4k (z9e c k s t) r)\/∃a,qai (.exit 0) (T16 65 a) (h16 c 65 a) r
theorem zfn{c:Ct}{t:Ste}{m:List Int}(hm:Lin (qaj c c.act.toNat) m):∀x∈m++qly c t,0<=x/\x<(qjv c:Nat):=by
 intro x hx
 rcases jQ.1 hx with h | h
 .exact(hm.mono (by unfold qjv;omega)).b x h
 .exact(qyv c t).b x h
set_option maxHeartbeats 1000000 in
theorem z9i{c:Ct}{s:Ste}(hs:Rdy c s){st:St}(h0:At (T16 0 (s,[])) (h16 c 0 (s,[])) st):∃r,ev pg (.code (.going 10 L45_0) st)=some r/\zkb c (qmh c s) r:=by
 generalize hR:qmh c s=Z
 refine qco 65 T16 (h16 c) (G86 c Z) _ ?_ ?_ (s,[]) ⟨hR,hs,Lin.nil _,fun _=>rfl⟩ h0
 .rintro k ⟨t,l⟩ f hf hk hG
  have hgo:=hG.go
  have hrd:=hG.rdy
  have hl:=hG.lin
  have hn:=hG.nil
  simp only at hgo hrd hl hn
  have hk':(k:Int)<65:=by omega
  have wk:=qab (n:=(k:Int)+1) (by omega) (by omega)
  have w1:IntKind.i64.wrap 1=1:=by decide
  have hN:=qoh hrd.mid
  rw[show 65-k=(64-k)+1 by omega,qhg]at hgo
  cases hZ:qde c t with
  | none =>
   have e46:=ev112_none hrd hZ
   rw[qsp.2 hZ]at hgo
   simp only at hgo
   subst hgo
   simp[T16,L45_0,hk',e46,hf.ne]
   exact .inl ⟨k,t,zeroS,by simp[z4k,hf.ne,zeroS,zxj]⟩
  | some x =>
   obtain⟨v,m⟩:=x
   have e46:=ev112_some hrd hZ
   have hrv:qdv c t=some (qmz (qpi c v),norm (qjv c) (m++qly c v)):=by unfold qdv;rw[hZ];rfl
   rw[hrv]at hgo
   simp only at hgo
   have hru:=hrd.round hrv
   have hml:=qsx hZ
   have hin:=zfn (t:=v) hml
   have hmn:=hml.len
   have hcn:=(qyv c v).len
   have hln:=hl.len
   have e54:=ev113 (qjv c) l (m++qly c v) (by omega) (by simp;unfold qjv at hN hcn;omega) (fun x hx=>(jQ.1 hx).elim (hl.b x) (hin x))
   rw[q7o]at hgo
   have hl':Lin (qjv c) (norm (qjv c) (l++(m++qly c v))):=Lin.norm _ _
   have e47:=ev114 (qmz (qpi c v)) t hru.small
   rw[qpc]at e47
   generalize norm (qjv c) (l++(m++qly c v))=p at *
   generalize m++qly c v=q at *
   generalize qmz (qpi c v)=u at *
   by_cases hst:qkm t u=true
   .rw[if_pos hst]at hgo
    rw[hst]at e47
    subst hgo
    obtain rfl:=qii.1 hst
    unfold T16 sl0 h16 ob0
    by_cases hk0:k=0
    .subst hk0
     rw[hn rfl]at e54
     have e54':ev pg (.call (.fn 113 [] []) [.imm [],qck q] [])=_:=e54
     simp[L45_0,e46,e54',e47,hf.ne]
     simp[zkb,zyn,hf.ne]
    .simp[L45_0,hk0,hk',e46,e54,e47,hf.ne]
     simp[zkb,zyn,hf.ne]
   .have hsf:qkm t u=false:=by simpa using hst
    rw[if_neg hst]at hgo
    rw[hsf]at e47
    have hG':G86 c Z (k+1) (u,p):=⟨by rw[<-hgo,show 65-(k+1)=64-k by omega],hru,hl',by omega⟩
    unfold T16 sl0 h16 ob0
    by_cases hk0:k=0
    .subst hk0
     rw[hn rfl]at e54
     have e54':ev pg (.call (.fn 113 [] []) [.imm [],qck q] [])=_:=e54
     simp[L45_0,e46,e54',e47,w1,hf.ne]
     exact⟨u,p,hG',by simp⟩
    .simp[L45_0,hk0,hk',wk,e46,e54,e47,hf.ne]
     exact⟨u,p,hG',by simp⟩
 .rintro⟨t,l⟩ f hf hG
  have hgo:=hG.go
  simp only[Nat.sub_self,qhg]at hgo
  subst hgo
  simp[T16,L45_0]
  exact .inr ⟨(t,l),by simp[T16,hf.ne]⟩
theorem ev45(c:Ct)(s:Ste)(hfew:c.small=true)(hs:s.small):ev pg (.call (.fn 45 [] []) [c.v,s.v] [])=some { v:=zsa (qql c s),st:=⟨[],[]⟩ }:=by
 have e45:=ev111 c s hfew hs
 unfold qql
 rw[qac,pg45]
 by_cases h:stE c s=0
 .have hl:=@z9i c s ⟨hfew,h⟩
  rw[if_pos h]
  rw[h]at e45
  unfold qjt
  generalize qmh c s=Z at *
  simp[ir45,e45,qaf]
  generalize hr:ev pg (.code (.going _ L45_0) _)=o
  obtain⟨r,rfl,hQ⟩:∃r,o=some r/\_:=by rw[<-hr];exact hl (by simp[T16,sl0,ob0])
  clear hr
  cases Z with
  | none =>
   rcases hQ with⟨k,s,t,f,hf,rfl⟩ | ⟨⟨s,l⟩,f,hf,rfl⟩
   .simp[z4k,zeroS]
   .simp[T16,zeroS,ob0]
  | some p =>
   obtain⟨t,m⟩:=p
   obtain⟨f,hf,rfl⟩:=hQ
   simp[zyn]
 .rw[if_neg h]
  have hb:(stE c s==0)=false:=by simpa using h
  generalize stE c s=e at *
  simp[ir45,e45,h,hb,zeroS]
end Go.Proofs.YtddeacahiilikaaGreat
