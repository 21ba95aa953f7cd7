/- A round of the plant, by the program. A round of the plant, by the program: the function; lists merged. The plant comes to rest, by the reference. Rest and Start of the reference. Quiet and Events of the reference. -/
import Derived.Test.YtlhciedghbmjjaaGreatVa2
import Derived.KernelRfl
import Derived.Test.YtlhciedghbmjjaaGreatRu2
set_option linter.all false
namespace Go.Proofs.YtlhciedghbmjjaaGreat
open Go Go.Am Go.Proofs
set_option maxRecDepth 100000
theorem zhn{v:Bool}{e:Int}(h0:0<=e)(h4:e<4):qju v e=if v=true then(if e≠2/\e≠1 then 1 else e)else(if e≠0/\e≠3 then 3 else e):=by
 unfold qju
 have:e=0\/e=1\/e=2\/e=3:=by omega
 rcases this with rfl | rfl | rfl | rfl<;>cases v<;>rfl
abbrev vA(c:Ct)(t:Ste):List Bool:=t.valves.mapIdx (qmu c (qad t))
abbrev eA(c:Ct)(t:Ste):List Int:=List.zipWith qju (vA c t) t.ends
abbrev h46(c:Ct)(s t:Ste)(m:List Int)(A k:Nat)(g:Nat):H:=[⟨0,.box c.cells⟩,⟨0,.box s.cells⟩,o0,o0,o0,o0,o0,⟨0,.box (q0o 2)⟩]++ar5 t++[⟨g,.arr 1 ((m++cfL c (qad t) A k).map qdc)⟩,o0,o0,o0,o0,o0,⟨0,.box (sl5 8 t)⟩,⟨0,.arr 1 ((mix (eA c t) t.ends k).map qdc)⟩,⟨0,.arr 1 ((mix (vA c t) t.valves k).map qfi)⟩,⟨0,.arr 1 (t.inputs.map qfi)⟩,⟨0,.arr 1 (t.values.map qfi)⟩,⟨0,.arr 1 (t.timers.map qdc)⟩,o0,o0,o0,o0,o0,⟨0,.box (sl5 20 t)⟩,o0]
def T46(c:Ct)(t:Ste)(m:List Int)(A N k:Nat)(g:Nat):Tm:=[none,none,some (.bptr 0 0),some (.bptr 1 0),some (.bptr 7 0),some (.sl 31 0 0 0 0),some (num 0),some (.bptr 19 0),some (.sl 13 g 1 0 (m++cfL c (qad t) A k).length),none,some (.bptr 30 0),some (num N)]++List.replicate 30 none++[some (num A),some (num k)]++List.replicate 70 none
set_option maxHeartbeats 4000000 in
theorem jfh{c:Ct}{t:Ste}(s:Ste)(ht:Rdy c t)(m:List Int)(hm:m.length<=4096){A:Nat}(hA:c.act.toNat=A){st:St}(g0:Nat)(h0:At (T46 c t m A (qak c A) 0 g0) (h46 c s t m A 0 g0) st):∃r,ev pg (.code (.going 32 L89_0) st)=some r/\∃g,qag (.exit 0) (T46 c t m A (qak c A) A g) (h46 c s t m A A g) r:=by
 have hmid:=ht.mid
 have hP:=ht.pil
 have hS:=ht.shp
 have hst:=ht.st
 rw[hA]at hmid hP
 have hact:=hmid.act
 have hhi:=hmid.hi
 have hN:qak c A<=172:=by
  have:=hmid.sig
  have:=hmid.inp
  unfold qak
  omega
 have hend:=qgj.1 (qgz.1 hst).2.2.1
 have hwl:t.valves.length=A:=by have:=hS.w;omega
 have hel:t.ends.length=A:=by have:=hS.e;omega
 refine qbn A (T46 c t m A (qak c A)) (h46 c s t m A) (fun _ _=>True) _ ?_ ?_ g0 trivial h0 |>.imp fun r h=>⟨h.1,h.2⟩
 .rintro k g f hf hk -
  have hk':(k:Int)<A:=by omega
  have wk:=qab (n:=(k:Int)+1) (by omega) (by omega)
  have hkp:k<c.plus.length:=by rw[hP.p];exact hk
  have hkm:k<c.minus.length:=by rw[hP.m];exact hk
  have hkw:k<t.valves.length:=by omega
  have hke:k<t.ends.length:=by omega
  obtain⟨p0,p1⟩:=hP.pb _ (jH hkp)
  obtain⟨q0,q1⟩:=hP.mb _ (jH hkm)
  have e1:=ev128 ht c.plus[k] p0 p1
  have e2:=ev128 ht c.minus[k] q0 q1
  have hpl:((qad t)[(c.plus[k]).toNat]?).getD false=qbt (qad t) c.plus k:=by
   unfold qbt;rw[jA hkp];rfl
  have hmi:((qad t)[(c.minus[k]).toNat]?).getD false=qbt (qad t) c.minus k:=by
   unfold qbt;rw[jA hkm];rfl
  rw[hpl]at e1
  rw[hmi]at e2
  have l1:(vA c t).length=t.valves.length:=List.length_mapIdx
  have l2:(eA c t).length=t.ends.length:=by rw[List.length_zipWith,l1];omega
  have f1:=qjb (A:=vA c t) (B:=t.valves) l1 (k:=k) (by omega)
  have f2:=qjb (A:=eA c t) (B:=t.ends) l2 (k:=k) (by omega)
  have hva:(vA c t)[k]'(by omega)=qmu c (qad t) k t.valves[k]:=List.getElem_mapIdx ..
  have hea:(eA c t)[k]'(by omega)=qju (qmu c (qad t) k t.valves[k]) t.ends[k]:=by
   rw[List.getElem_zipWith,hva]
  rw[hva]at f1
  rw[hea]at f2
  have m1:=qjy (A:=vA c t) (B:=t.valves) l1 (k:=k) (by omega)
  have m2:=qjy (A:=eA c t) (B:=t.ends) l2 (k:=k) (by omega)
  have n1:=qqj (A:=vA c t) (B:=t.valves) l1 (k:=k) (by omega)
  have n2:=qqj (A:=eA c t) (B:=t.ends) l2 (k:=k) (by omega)
  rw[jA hkw]at n1
  rw[jA hke]at n2
  have f4:=qlt (fun i=>qbt (qad t) c.plus i&&qbt (qad t) c.minus i) (qak c A:Nat) k
  have hsl:=qhi (fun i=>qbt (qad t) c.plus i&&qbt (qad t) c.minus i) (qak c A:Nat) k
  obtain⟨x0,x4⟩:=hend _ (jH hke)
  have hge:=zhn (v:=qmu c (qad t) k t.valves[k]) x0 x4
  have hvf:qmu c (qad t) k t.valves[k]=if qbt (qad t) c.plus k != qbt (qad t) c.minus k then qbt (qad t) c.plus k else t.valves[k]:=rfl
  rw[hge,hvf]at f2
  rw[hvf]at f1
  unfold h46 T46 cfL
  rw[<-f1,<-f2,f4]
  clear hge hvf f1 f2 f4 hva hea hpl hmi
  generalize mix (vA c t) t.valves k=VV at *
  generalize mix (eA c t) t.ends k=EE at *
  generalize qps (fun i=>qbt (qad t) c.plus i&&qbt (qad t) c.minus i) (qak c A:Nat) k=B at *
  generalize qbt (qad t) c.plus k=pl at *
  generalize qbt (qad t) c.minus k=mi at *
  generalize hv0:t.valves[k]=v0 at *
  generalize he0:t.ends[k]=e0 at *
  have hkV:k<VV.length:=by omega
  have hkE:k<EE.length:=by omega
  have v1:VV[k]=v0:=by rw[jA hkV]at n1;exact Option.some.inj n1
  have t1:EE[k]=e0:=by rw[jA hkE]at n2;exact Option.some.inj n2
  have vs:VV.set k v0=VV:=by rw[<-v1];exact List.set_getElem_self _
  have es:EE.set k e0=EE:=by rw[<-t1];exact List.set_getElem_self _
  have hb1:(m.length+(B.length+1))*8<=140737488355328:=by omega
  have hb2:(m.length+B.length+1)*8<=140737488355328:=by omega
  have vs2:(VV.map qfi).set k [.bool v0]=VV.map qfi:=by rw[show [V.bool v0]=qfi v0 from rfl,<-List.map_set,vs]
  have es2:(EE.map qdc).set k [num e0]=EE.map qdc:=by rw[show [num e0]=qdc e0 from rfl,<-List.map_set,es]
  generalize qak c A=N at *
  have wN:=qab (n:=(N:Int)+(k:Int)) (by omega) (by omega)
  have hVA:k<A:=hk
  have hEb:e0=0\/e0=1\/e0=2\/e0=3:=by omega
  have hVl:VV.length=A:=by omega
  have hEl:EE.length=A:=by omega
  rcases hEb with rfl | rfl | rfl | rfl<;>cases pl<;>cases mi<;>cases v0<;>simp[qaa,exT,qae,L89_0,hk',wk,hkp,hkm,e1,e2,wN,hkV,hkE,hwl,hel,hVA,v1,t1,vs,es,vs2,es2,hb1,hb2,hVl,hEl,Nat.add_assoc,hf.ne]
 .rintro g f hf -
  unfold h46 T46
  generalize cfL c (qad t) A A=B at *
  simp[L89_0,hf.ne]
set_option maxHeartbeats 1000000 in
theorem ev89_some{c:Ct}{s:Ste}(h:Rdy c s){t:Ste}{m:List Int}(hz:qce c s=some (t,m)):ev pg (.call (.fn 89 [] []) [c.v,s.v] [])=some { v:=.tup [(qkc (qik c t)).v,qbx (m++qls c t),num 0],st:=⟨[],[]⟩ }:=by
 have ht:=h.settle hz
 have e81:=ev127_some h hz
 have e60:=ev56 t ht.small
 have hml:=(qns hz).len
 have hmid:=ht.mid
 have hN:=qhy hmid
 have hS:=ht.shp
 have hm:m.length<=4096:=by unfold qfs at hN;omega
 have hl:=@jfh c t s ht m hm c.act.toNat rfl
 have hact:=hmid.act
 have hhi:=hmid.hi
 have hinp:=hmid.inp
 have hsig:=hmid.sig
 have hwl:t.valves.length=c.act.toNat:=by have:=hS.w;omega
 have hel:t.ends.length=c.act.toNat:=by have:=hS.e;omega
 have l1:(vA c t).length=t.valves.length:=List.length_mapIdx
 have l2:(eA c t).length=t.ends.length:=by rw[List.length_zipWith,l1];omega
 have z1:mix (vA c t) t.valves 0=t.valves:=qgl _ _
 have z2:mix (eA c t) t.ends 0=t.ends:=qgl _ _
 have z3:mix (vA c t) t.valves c.act.toNat=vA c t:=by
  have:=qiz l1
  rwa [l1,hwl]at this
 have z4:mix (eA c t) t.ends c.act.toNat=eA c t:=by
  have:=qiz l2
  rwa [l2,hel]at this
 have z5:cfL c (qad t) c.act.toNat 0=[]:=rfl
 have z6:cfL c (qad t) c.act.toNat c.act.toNat=qls c t:=rfl
 unfold h46 T46 at hl
 rw[z1,z2,z3,z4,z5,z6,List.append_nil]at hl
 have hg:qkc (qik c t)=⟨eA c t,vA c t,t.inputs,t.values,t.timers⟩:=rfl
 rw[hg]
 have w1:IntKind.i64.wrap (2*c.act)=2*(c.act.toNat:Int):=by rw[show(2:Int)*c.act=2*(c.act.toNat:Int)by omega];exact qab (by omega) (by omega)
 have w2:IntKind.i64.wrap (2*(c.act.toNat:Int)+c.inputs.length)=2*(c.act.toNat:Int)+c.inputs.length:=qab (by omega) (by omega)
 have w3:IntKind.i64.wrap (2*(c.act.toNat:Int)+c.inputs.length+c.signals.length)=2*(c.act.toNat:Int)+c.inputs.length+c.signals.length:=qab (by omega) (by omega)
 unfold qak at hl
 generalize qls c t=B at *
 generalize vA c t=VV at *
 generalize eA c t=EE at *
 generalize c.act.toNat=A at *
 rw[qac,pg89]
 simp[ir89,e81,e60,w1,w2,w3,qaf]
 generalize hr:ev pg (.code (.going _ L89_0) _)=o
 obtain⟨r,rfl,g,f,hf,rfl⟩:∃r,o=some r/\_:=by rw[<-hr];exact hl 0 (by simp[hact])
 clear hr
 simp[l1.symm,l2.symm]
theorem ev89_none{c:Ct}{s:Ste}(h:Rdy c s)(hz:qce c s=none):ev pg (.call (.fn 89 [] []) [c.v,s.v] [])=some { v:=.tup [zeroS.v,qbx [],num 21],st:=⟨[],[]⟩ }:=by
 have e81:=ev127_none h hz
 rw[qac,pg89]
 simp[ir89,e81,zeroS]
theorem ev59(N:Nat)(a b:List Int)(ha:a.length<=10000)(hb:b.length<=10000)(hbd:∀x∈a++b,0<=x/\x<(N:Int)):ev pg (.call (.fn 59 [] []) [qbx a,qbx b] [])=some { v:=qbx (norm N (a++b)),st:=⟨[],[]⟩ }:=by
 have e32:=ev72c [a,b] (by simp) (by simp) (by simp;omega)
 simp only[zew,List.map_cons,List.map_nil,List.flatten_cons,List.flatten_nil,List.append_nil]at e32
 generalize hab:a++b=l at *
 have hl:l.length<=20000:=by rw[<-hab];simp;omega
 have key:∀(g:Nat) (l:List Int),qck [⟨g,.arr 1 (l.map qdc)⟩]:=fun g l=>by
  unfold qck
  simp
 obtain⟨l',hp,hsr,e33⟩:=ev73 (h:=[⟨0,.arr 1 (l.map qdc)⟩]) (i:=0) (g:=0) (l:=l) rfl (key 0 l) (by omega)
 have hpl:=hp.length_eq
 obtain⟨rows,hr1,hr2,e36⟩:=ev74 (h:=[⟨0,.arr 1 (l'.map qdc)⟩]) (i:=0) (g:=0) (l:=l') rfl (key 0 l') (by omega)
 have hcn:qaz l'=norm N l:=qro hsr (fun x=>hp.mem_iff) hbd
 rw[hcn]at hr2 e36
 rw[hpl]at e36
 have hle:(norm N l).length<=rows.length:=by
  have:=congrArg List.length hr2
  simp at this
  omega
 have hif:=zaz hr2
 have hif2:(if(norm N l).length=rows.length then some rows else some (rows.take (norm N l).length))=some ((norm N l).map qdc):=by
  split
  .rename_i e
   rw[if_pos e]at hif
   rw[hif]
  .rename_i e
   rw[if_neg e]at hif
   rw[hif]
 generalize norm N l=M at *
 simp at e33 e36
 rw[qac,pg59]
 simp[ir59,e32,e33,e36,hle,hif2]
def sl0(k:Nat)(l:List Int):V:=if k=0 then .sl 9 0 0 0 0 else qbx l
theorem zml(k:Nat)(l:List Int):sl0 k l ≠ .nils:=by
 unfold sl0;split<;>simp
def ob0(k:Nat):Ob:=if k=0 then o0 else⟨0,.frz 0 []⟩
abbrev h86(c:Ct)(k:Nat)(a:Ste×List Int):H:=[⟨0,.box c.cells⟩,⟨0,.box a.1.cells⟩,o0,o0,o0,o0,o0,⟨0,.box (q0o 2)⟩,o0,ob0 k]
def T86(k:Nat)(a:Ste×List Int):Tm:=[none,none,some (.bptr 0 0),some (.bptr 1 0),some (.bptr 7 0),some (.sl 8 0 0 0 0),some (.bool false),some (sl0 k a.2),some (num k)]++List.replicate 27 none
abbrev jep(c:Ct)(t:Ste):H:=[⟨0,.box c.cells⟩,⟨0,.box t.cells⟩,o0,o0,o0,o0,o0,⟨0,.box t.cells⟩,o0,⟨0,.frz 0 []⟩,o0,o0,o0,o0,o0,⟨0,.box t.cells⟩]
def z3y(m:List Int):Tm:=[none,none,none,none,some (.bptr 7 0),some (qbx m),some (.bool true)]++List.replicate 29 none
abbrev jfn(c:Ct)(k:Nat)(s t:Ste):H:=[⟨0,.box c.cells⟩,⟨0,.box s.cells⟩,o0,o0,o0,o0,o0,⟨0,.box (q0o 16)⟩,o0,ob0 k,o0,o0,o0,o0,o0,⟨0,.box t.cells⟩,o0,o0,o0,o0,o0]
def jdj:Tm:=[none,none,none,none,some (.bptr 7 0),some .nils,some (.bool false)]++List.replicate 29 none
def ztx(c:Ct)(Z:Option (Ste×List Int))(r:R):Prop:=match Z with
 | some (t,m)=>qag .ret (z3y m) (jep c t) r
 | none=>(∃k s t,qag .ret jdj (jfn c k s t) r)\/∃a,qag (.exit 0) (T86 65 a) (h86 c 65 a) r
structure G86(c:Ct)(Z:Option (Ste×List Int))(k:Nat)(a:Ste×List Int):Prop where
 go:qgq c (65-k) a.1 a.2=Z
 rdy:Rdy c a.1
 lin:Lin (qfs c) a.2
 nil:k=0->a.2=[]
set_option maxHeartbeats 1000000 in
theorem jff{c:Ct}{s:Ste}(hs:Rdy c s){st:St}(h0:At (T86 0 (s,[])) (h86 c 0 (s,[])) st):∃r,ev pg (.code (.going 10 L102_0) st)=some r/\ztx c (qfr c s) r:=by
 generalize hR:qfr c s=Z
 refine qbn 65 T86 (h86 c) (G86 c Z) _ ?_ ?_ (s,[]) ⟨hR,hs,Lin.nil _,fun _=>rfl⟩ h0
 .rintro k ⟨t,l⟩ f hf hk hG
  have hgo:=hG.go
  have hrd:=hG.rdy
  have hl:=hG.lin
  have hn:=hG.nil
  simp only at hgo hrd hl hn
  have hk':(k:Int)<=64:=by omega
  have wk:=qab (n:=(k:Int)+1) (by omega) (by omega)
  have h83:=ev145 hrd
  have hN:=qhy hrd.mid
  rw[show 65-k=(64-k)+1 by omega,qgq]at hgo
  cases hZ:qcu c t with
  | none =>
   rw[hZ]at h83 hgo
   simp[qvt]at h83
   simp only at hgo
   subst hgo
   have hz:zeroS.v=.agg [.imm [],.imm [],.imm [],.imm [],.imm []]:=rfl
   simp[T86,L102_0,hk',h83,hf.ne]
   exact .inl ⟨k,t,zeroS,by simp[jdj,hf.ne,zeroS,zml]⟩
  | some x =>
   obtain⟨u,m⟩:=x
   rw[hZ]at h83 hgo
   simp[qvt]at h83
   simp only at hgo
   have hru:=hrd.round hZ
   have hm:=q9o hZ
   have e65:=ev34 l m (by have:=hl.len;omega) (by have:=hm.len;omega)
   rw[hl.mrg hm]at e65
   have hl':Lin (qfs c) (norm (qfs c) (l++m)):=Lin.norm _ _
   have h20:=ev31 t u hrd.small
   generalize norm (qfs c) (l++m)=p at *
   by_cases hst:qic t u=true
   .rw[if_pos hst]at hgo
    rw[hst]at h20
    subst hgo
    obtain rfl:=qia.1 hst
    unfold T86 sl0 h86 ob0
    by_cases hk0:k=0
    .subst hk0
     rw[hn rfl]at e65
     have e65':ev pg (.call (.fn 34 [] []) [.imm [],qbx m] [])=_:=e65
     simp[L102_0,h83,e65',h20,hf.ne]
     simp[ztx,z3y,hf.ne]
    .simp[L102_0,hk0,hk',h83,e65,h20,hf.ne]
     simp[ztx,z3y,hf.ne]
   .have hsf:qic t u=false:=by simpa using hst
    rw[if_neg hst]at hgo
    rw[hsf]at h20
    have hG':G86 c Z (k+1) (u,p):=⟨by rw[<-hgo,show 65-(k+1)=64-k by omega],hru,hl',by omega⟩
    unfold T86 sl0 h86 ob0
    by_cases hk0:k=0
    .subst hk0
     rw[hn rfl]at e65
     have e65':ev pg (.call (.fn 34 [] []) [.imm [],qbx m] [])=_:=e65
     simp[L102_0,h83,e65',h20,show IntKind.i64.wrap 1=1 by decide,hf.ne]
     exact⟨u,p,hG',by simp⟩
    .simp[L102_0,hk0,hk',wk,h83,e65,h20,hf.ne]
     exact⟨u,p,hG',by simp⟩
 .rintro⟨t,l⟩ f hf hG
  have hgo:=hG.go
  simp only[Nat.sub_self,qgq]at hgo
  subst hgo
  simp[T86,L102_0]
  exact .inr ⟨(t,l),by simp[T86,hf.ne]⟩
theorem ev102{c:Ct}{s:Ste}(h:Rdy c s):ev pg (.call (.fn 102 [] []) [c.v,s.v] [])=some { v:=.tup (qvt (qfr c s)++[.bool (qfr c s).isSome]),st:=⟨[],[]⟩ }:=by
 have hl:=@jff c s h
 generalize qfr c s=Z at *
 rw[qac,pg102]
 simp[ir102,qaf]
 generalize hr:ev pg (.code (.going _ L102_0) _)=o
 obtain⟨r,rfl,hQ⟩:∃r,o=some r/\_:=by rw[<-hr];exact hl (by simp[T86,sl0,ob0])
 clear hr
 cases Z with
 | none =>
  rcases hQ with⟨k,s,t,f,hf,rfl⟩ | ⟨⟨s,l⟩,f,hf,rfl⟩
  .simp[jdj,qvt,zeroS]
  .simp[T86,qvt,zeroS,ob0]
 | some p =>
  obtain⟨t,m⟩:=p
  obtain⟨f,hf,rfl⟩:=hQ
  simp[z3y,qvt]
abbrev zam(x:Ste×List Int×Int):V:=.tup [x.1.v,qbx x.2.1,num x.2.2]
theorem ev105{c:Ct}{s:Ste}(h:Rdy c s):ev pg (.call (.fn 105 [] []) [c.v,s.v] [])=some { v:=zam (qhj c s),st:=⟨[],[]⟩ }:=by
 have h86:=ev102 h
 unfold qhj
 rw[qac,pg105]
 cases hZ:qfr c s with
 | none =>
  rw[hZ]at h86
  simp[qvt]at h86
  simp[ir105,h86,zeroS]
 | some x =>
  obtain⟨t,m⟩:=x
  rw[hZ]at h86
  simp[qvt]at h86
  simp[ir105,h86]
def qse(c:Ct)(s:Ste):Ste×List Int×Int:=if stE c s=0 then qhj c s else(zeroS,[],stE c s)
abbrev ini(c:Ct)(k:Nat):List Bool:=mix (c.signals.map Sg.init) (List.replicate c.signals.length false) k
abbrev h57(c:Ct)(A:Nat)(k:Nat):H:=[⟨0,.box c.cells⟩,o0,o0,o0,o0,o0,⟨0,.box (q0o 1)⟩,⟨1,.arr 1 (List.replicate A [num 0])⟩,⟨1,.arr 1 (List.replicate A [.bool false])⟩,⟨1,.arr 1 (List.replicate c.inputs.length [.bool false])⟩,⟨1,.arr 1 ((ini c k).map qfi)⟩,⟨1,.arr 1 (List.replicate c.signals.length [num 0])⟩,o0,o0,o0,o0,o0,⟨0,.box [.sl 7 1 1 0 A,.sl 8 1 1 0 A,.sl 9 1 1 0 c.inputs.length,.sl 10 1 1 0 c.signals.length,.sl 11 1 1 0 c.signals.length]⟩]
def T57(k:Nat):Tm:=[none,some (.bptr 0 0),some (.bptr 6 0),some (.bptr 17 0),some (num k)]++List.replicate 39 none
theorem zfn(c:Ct){k:Nat}(hk:k<=c.signals.length):(ini c k).length=c.signals.length:=by
 have:=qjy (A:=c.signals.map Sg.init) (B:=List.replicate c.signals.length false) (by simp) (k:=k) (by simpa using hk)
 simpa using this
theorem jfg(c:Ct)(A:Nat)(hn:c.signals.length<=128){st:St}(h0:At (T57 0) (h57 c A 0) st):∃r,ev pg (.code (.going 18 L101_0) st)=some r/\qag (.exit 0) (T57 c.signals.length) (h57 c A c.signals.length) r:=by
 refine qcd c.signals.length T57 (h57 c A) _ ?_ ?_ h0
 .intro k f hf hk
  have hk':(k:Int)<c.signals.length:=by omega
  have wk:=qab (n:=(k:Int)+1) (by omega) (by omega)
  have hl:=zfn c (k:=k) (by omega)
  have e:=qjb (A:=c.signals.map Sg.init) (B:=List.replicate c.signals.length false) (by simp) (k:=k) (by simpa using hk)
  rw[List.getElem_map]at e
  unfold h57 T57 ini
  rw[<-e]
  unfold ini at hl
  generalize mix (c.signals.map Sg.init) (List.replicate c.signals.length false) k=W at *
  have hkW:k<W.length:=by omega
  simp[qaa,exT,qae,L101_0,hk,hk',wk,hkW,hf.ne]
 .intro f hf
  unfold h57 T57 ini
  generalize mix (c.signals.map Sg.init) (List.replicate c.signals.length false) c.signals.length=W at *
  simp[L101_0,hf.ne]
theorem qwk{c:Ct}(hfew:c.small=true)(hc:c.check=0):Rdy c (qhd c):=⟨hfew,qsb hc⟩
theorem ev101{c:Ct}(hfew:c.small=true)(hc:c.check=0):ev pg (.call (.fn 101 [] []) [c.v] [])=some { v:=(qdq c).v,st:=⟨[],[]⟩ }:=by
 have hF:=qwk hfew hc
 have hM:=hF.mid
 have h88:=ev144 c (qhd c) hF.small hF.shp hM.sig (fun x hx=>(hF.sig x hx).on)
 have hl:=@jfg c c.act.toNat hM.sig
 have hact:=hM.act
 have hhi:=hM.hi
 have hinp:=hM.inp
 have hsig:=hM.sig
 unfold qdq
 generalize qds c (qhd c)=u at *
 have z0:ini c 0=List.replicate c.signals.length false:=qgl _ _
 have z1:ini c c.signals.length=c.signals.map Sg.init:=by
  have:=qiz (A:=c.signals.map Sg.init) (B:=List.replicate c.signals.length false) (by simp)
  rwa [List.length_map]at this
 unfold h57 at hl
 rw[z0,z1]at hl
 unfold qhd at h88
 change c.act=((c.act.toNat:Nat):Int)at hact
 generalize c.act.toNat=A at *
 have h88':ev pg (.call (.fn 144 [] []) [.agg [num c.act,.imm (c.inputs.map q3t),.imm (c.signals.map Sg.row),qbx c.plus,qbx c.minus],.agg [.imm (List.replicate A [num 0]),.imm (List.replicate A [.bool false]),.imm (List.replicate c.inputs.length [.bool false]),.imm (c.signals.map (qfi∘Sg.init)),.imm (List.replicate c.signals.length [num 0])]] [])=some { v:=u.v,st:=⟨[],[]⟩ }:=by
  rw[<-h88]
  simp only[Ste.v,Ste.cells,qbx,qcy,List.map_replicate,List.map_map]
 have a1:A*8<=140737488355328:=by omega
 have a2:A<=4611686018427387904:=by omega
 have a3:A<=140737488355328:=by omega
 have i2:c.inputs.length<=4611686018427387904:=by omega
 have i3:c.inputs.length<=140737488355328:=by omega
 have s1:c.signals.length*8<=140737488355328:=by omega
 have s2:c.signals.length<=4611686018427387904:=by omega
 have s3:c.signals.length<=140737488355328:=by omega
 rw[qac,pg101]
 simp[qaa,exT,qae,ir101,hact,a1,a2,a3,i2,i3,s1,s2,s3,qaf]
 generalize hr:ev pg (.code (.going _ L101_0) _)=o
 obtain⟨r,rfl,f,hf,rfl⟩:∃r,o=some r/\_:=by rw[<-hr];exact hl (by simp[T57,hact])
 simp[T57,h88']
def qby(c:Ct):Ste×List Int×Int:=if c.check=0 then qhj c (qdq c)else(zeroS,[],c.check)
def q2w(c:Ct)(s:Ste):Bool:=((qcu c s).map fun x=>qic s x.1).getD false
def q7j(c:Ct)(s:Ste):Bool×Int:=if stE c s=0 then(q2w c s,0)else(false,stE c s)
def quE(c:Ct)(s:Ste):Int:=if stE c s=0 then(if q2w c s=true then 0 else 14)else stE c s
abbrev evs(l:List Evn):V:=.imm (l.map Evn.row)
def qqb(kd:Int)(p:Nat->Bool)(k:Nat):List Evn:=((List.range k).filter p).map fun(i:Nat)=>⟨kd,i,false⟩
theorem q1a(kd:Int)(p:Nat->Bool)(k:Nat):qqb kd p (k+1)=if p k=true then qqb kd p k++[⟨kd,k,false⟩]else qqb kd p k:=by
 unfold qqb
 rw[List.range_succ,List.filter_append,List.map_append]
 cases h:p k<;>simp[h]
theorem qoa(kd:Int)(p:Nat->Bool)(k:Nat):(qqb kd p k).length<=k:=by
 unfold qqb
 rw[List.length_map]
 exact Nat.le_trans (List.length_filter_le _ _) (by simp)
theorem qzq(s:Ste):qvu s=qqb 0 (qdb s 0) s.ends.length++qqb 1 (qdb s 1) s.timers.length:=rfl
abbrev h53(s:Ste)(l:List Evn)(a:Nat×Nat):H:=[⟨0,.box s.cells⟩,o0,⟨a.1,.arr a.2 (l.map Evn.row)⟩]
def zvh(s:Ste)(k:Nat)(a:Nat×Nat):Tm:=[none,some (.bptr 0 0),some (.sl 1 0 0 0 0),some (.sl 2 a.1 a.2 0 (qqb 0 (qdb s 0) k).length),some (num k)]++List.replicate 46 none
def zvm(s:Ste)(k:Nat)(a:Nat×Nat):Tm:=[none,some (.bptr 0 0),some (.sl 1 0 0 0 0),some (.sl 2 a.1 a.2 0 (qqb 0 (qdb s 0) s.ends.length++qqb 1 (qdb s 1) k).length),none,some (num k)]++List.replicate 45 none
abbrev gm3(a:Nat×Nat):Prop:=a.2=3\/a.2=0
theorem z9h(s:Ste)(hs:s.small){st:St}(a0:Nat×Nat)(g0:gm3 a0)(h0:At (zvh s 0 a0) (h53 s (qqb 0 (qdb s 0) 0) a0) st):∃r,ev pg (.code (.going 3 L146_0) st)=some r/\∃a,gm3 a/\qag (.exit 0) (zvh s s.ends.length a) (h53 s (qqb 0 (qdb s 0) s.ends.length) a) r:=by
 have hse:=hs.e
 refine qbn s.ends.length (zvh s) (fun k a=>h53 s (qqb 0 (qdb s 0) k) a) (fun _ a=>gm3 a) _ ?_ ?_ a0 g0 h0
 .rintro k ⟨g,m⟩ f hf hk hG
  have hk':(k:Int)<s.ends.length:=by omega
  have wk:=qab (n:=(k:Int)+1) (by omega) (by omega)
  have hsl:=qoa 0 (qdb s 0) k
  have hp:qdb s 0 k=(s.ends[k]==1||s.ends[k]==3):=by
   unfold qdb;rw[if_pos rfl,jA hk];rfl
  unfold zvh h53
  rw[q1a,hp]
  generalize qqb 0 (qdb s 0) k=B at *
  have hb1:(B.length+1)*24<=140737488355328:=by omega
  have hmm:m=3\/m=0:=hG
  by_cases h1:s.ends[k]=1
  .rcases hmm with rfl | rfl<;>simp[L146_0,hk,hk',wk,h1,hb1,hf.ne]
  .have h1b:(s.ends[k]==1)=false:=by simpa using h1
   by_cases h3:s.ends[k]=3
   .rcases hmm with rfl | rfl<;>simp[L146_0,hk,hk',wk,h3,hb1,hf.ne]
   .have h3b:(s.ends[k]==3)=false:=by simpa using h3
    rcases hmm with rfl | rfl<;>simp[L146_0,hk,hk',wk,h1,h1b,h3,h3b,hf.ne]
 .rintro⟨g,m⟩ f hf hG
  unfold zvh h53
  generalize qqb 0 (qdb s 0) s.ends.length=B at *
  have hmm:m=3\/m=0:=hG
  rcases hmm with rfl | rfl<;>simp[L146_0,hf.ne]
theorem jcj(s:Ste)(hs:s.small){st:St}(a0:Nat×Nat)(g0:gm3 a0)(h0:At (zvm s 0 a0) (h53 s (qqb 0 (qdb s 0) s.ends.length++qqb 1 (qdb s 1) 0) a0) st):∃r,ev pg (.code (.going 3 L146_1) st)=some r/\∃a,gm3 a/\qag (.exit 2) (zvm s s.timers.length a) (h53 s (qvu s) a) r:=by
 have hse:=hs.e
 have hst:=hs.t
 rw[qzq]
 refine qbn s.timers.length (zvm s) (fun k a=>h53 s (qqb 0 (qdb s 0) s.ends.length++qqb 1 (qdb s 1) k) a) (fun _ a=>gm3 a) _ ?_ ?_ a0 g0 h0
 .rintro k ⟨g,m⟩ f hf hk hG
  have hk':(k:Int)<s.timers.length:=by omega
  have wk:=qab (n:=(k:Int)+1) (by omega) (by omega)
  have hsl:=qoa 1 (qdb s 1) k
  have hsl0:=qoa 0 (qdb s 0) s.ends.length
  have hp:qdb s 1 k=(s.timers[k]==1):=by
   unfold qdb;rw[if_neg (by omega),jA hk];rfl
  unfold zvm h53
  rw[q1a,hp]
  generalize qqb 0 (qdb s 0) s.ends.length=B0 at *
  generalize qqb 1 (qdb s 1) k=B at *
  have hb1:(B0.length+(B.length+1))*24<=140737488355328:=by omega
  have hmm:m=3\/m=0:=hG
  by_cases h1:s.timers[k]=1
  .rcases hmm with rfl | rfl<;>simp[L146_1,hk,hk',wk,h1,hb1,hf.ne,Nat.add_assoc]
  .have h1b:(s.timers[k]==1)=false:=by simpa using h1
   rcases hmm with rfl | rfl<;>simp[L146_1,hk,hk',wk,h1,h1b,hf.ne]
 .rintro⟨g,m⟩ f hf hG
  unfold zvm h53
  generalize qqb 0 (qdb s 0) s.ends.length++qqb 1 (qdb s 1) s.timers.length=B at *
  have hmm:m=3\/m=0:=hG
  rcases hmm with rfl | rfl<;>simp[L146_1,hf.ne]
theorem ev146(s:Ste)(hs:s.small):ev pg (.call (.fn 146 [] []) [s.v] [])=some { v:=evs (qvu s),st:=⟨[],[]⟩ }:=by
 have hl1:=@z9h s hs
 have hl2:=@jcj s hs
 have z:qqb 1 (qdb s 1) 0=[]:=rfl
 have z0:qqb 0 (qdb s 0) 0=[]:=rfl
 unfold zvm at hl2
 unfold zvh at hl1
 rw[z,List.append_nil,<-qzq]at hl2
 rw[z0]at hl1
 generalize qqb 0 (qdb s 0) s.ends.length=B0 at *
 generalize qvu s=B at *
 rw[qac,pg146]
 simp[ir146,qaf]
 generalize hr:ev pg (.code (.going _ L146_0) _)=o
 obtain⟨r,rfl,⟨g,m⟩,hm,f,hf,rfl⟩:∃r,o=some r/\_:=by rw[<-hr];exact hl1 (0,0) (.inr rfl) (by simp)
 clear hr
 have hmm:m=3\/m=0:=hm
 rcases hmm with rfl | rfl<;>simp[hf.ne]
 .generalize hr:ev pg (.code (.going _ L146_1) _)=o
  obtain⟨r,rfl,⟨g2,m2⟩,hm2,f2,hf2,rfl⟩:∃r,o=some r/\_:=by rw[<-hr];exact hl2 (g,3) (.inl rfl) (by simp[hf.ne])
  clear hr
  have hmm2:m2=3\/m2=0:=hm2
  rcases hmm2 with rfl | rfl<;>simp
 .generalize hr:ev pg (.code (.going _ L146_1) _)=o
  obtain⟨r,rfl,⟨g2,m2⟩,hm2,f2,hf2,rfl⟩:∃r,o=some r/\_:=by rw[<-hr];exact hl2 (g,0) (.inr rfl) (by simp[hf.ne])
  clear hr
  have hmm2:m2=3\/m2=0:=hm2
  rcases hmm2 with rfl | rfl<;>simp
end Go.Proofs.YtlhciedghbmjjaaGreat
