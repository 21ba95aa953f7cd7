/- How the signals of a control come to rest, and its actuators: what is defined; right states stay right. What a signal wants, by the reference. A round of the signals, by the reference. -/
import Derived.Test.YtddeacahiilikaaGreatRGb2
import Derived.KernelRfl
import Derived.Test.YtddeacahiilikaaGreatRCo1
set_option linter.all false
namespace Go.Proofs.YtddeacahiilikaaGreat
open Go Go.Am Go.Proofs
set_option maxRecDepth 100000
def mix{α:Type}(A B:List α)(k:Nat):List α:=A.take k++B.drop k
theorem qft{α:Type}(A B:List α):mix A B 0=B:=by simp[mix]
theorem qhw{α:Type}{A B:List α}(h:A.length=B.length):mix A B A.length=A:=by
 unfold mix
 rw[List.take_length,List.drop_eq_nil_of_le (by omega),List.append_nil]
theorem qiz{α:Type}{A B:List α}(h:A.length=B.length){k:Nat}(hk:k<=A.length):(mix A B k).length=A.length:=by
 unfold mix
 rw[jF,List.length_take,List.length_drop]
 omega
theorem qop{α:Type}{A B:List α}(h:A.length=B.length){k:Nat}(hk:k<A.length):(mix A B k)[k]?=B[k]?:=by
 unfold mix
 rw[jJ (by rw[List.length_take];omega),List.length_take,List.getElem?_drop]
 congr 1
 omega
theorem qhx{α:Type}{A B:List α}(h:A.length=B.length){k:Nat}(hk:k<A.length):(mix A B k).set k A[k]=mix A B (k+1):=by
 have hkB:k<B.length:=by omega
 unfold mix
 rw[jK hk,jL hkB]
 have hl:(A.take k).length=k:=by rw[List.length_take];omega
 rw[List.set_append_right k _ (by omega),hl,Nat.sub_self,List.set_cons_zero,List.append_assoc]
 rfl
abbrev qwy(x:Sg)(L:List Bool):Bool:=decide (x.kind=1)&&x.off.holds L
def qju(x:Sg)(L:List Bool)(v:Bool)(t:Int):Bool×Int :=
 if x.kind=1 then(if x.on.holds L != x.off.holds L then(x.on.holds L,t)else(v,t))
 else if x.kind=2 then(if x.on.holds L=true then(if t=0 then(v,1)else(v,t))else(false,0))
 else(v,t)
def q1e(L:List Bool):List Sg->List Bool->List Int->List (Bool×Int)
 | x :: l,v :: w,t :: u=>qju x L v t :: q1e L l w u
 | _,_,_=>[]
theorem qhg(L:List Bool):∀{l:List Sg} {w:List Bool} {u:List Int},w.length=l.length->u.length=l.length->(q1e L l w u).length=l.length
 | [],_,_,_,_=>by simp[q1e]
 | x :: l,[],_,h,_=>by simp at h
 | x :: l,v :: w,[],_,h=>by simp at h
 | x :: l,v :: w,t :: u,h1,h2=>by
  simp only[List.length_cons]at h1 h2
  rw[q1e,List.length_cons,qhg L (by omega) (by omega),List.length_cons]
theorem qoc(L:List Bool):∀{l:List Sg} {w:List Bool} {u:List Int} {k:Nat} {x:Sg} {v:Bool} {t:Int},l[k]?=some x->w[k]?=some v->u[k]?=some t->(q1e L l w u)[k]?=some (qju x L v t)
 | [],_,_,_,_,_,_,h,_,_=>by simp at h
 | x :: l,[],_,_,_,_,_,_,h,_=>by simp at h
 | x :: l,v :: w,[],_,_,_,_,_,_,h=>by simp at h
 | x :: l,v :: w,t :: u,0,_,_,_,h1,h2,h3=>by
  simp at h1 h2 h3
  subst h1 h2 h3
  rfl
 | x :: l,v :: w,t :: u,k+1,_,_,_,h1,h2,h3=>by
  simp at h1 h2 h3
  rw[q1e,List.getElem?_cons_succ]
  exact qoc L h1 h2 h3
abbrev qcm(c:Ct)(g:Ste):List (Bool×Int):=q1e (qad g) c.signals g.values g.timers
def qwe(c:Ct)(g:Ste):Ste:=⟨g.ends,g.valves,g.inputs,(qcm c g).map Prod.fst,(qcm c g).map Prod.snd⟩
def qga(c:Ct)(s:Ste):Ste:=qwe c (qdc c s)
def qzp(c:Ct)(L:List Bool)(i:Nat):Bool:=((c.signals[i]?).map fun x=>x.on.holds L&&qwy x L).getD false
def qqg(c:Ct)(s:Ste):List Int:=qoe (qzp c (qad (qdc c s))) (qam s) c.signals.length
def qdh(c:Ct)(N:Nat):Nat->Ste->List Int->Option (Ste×List Int)
 | 0,_,_=>none
 | d+1,s,l=>if qhd (qga c s) s=true then some (s,norm N (l++qqg c s))else qdh c N d (qga c s) (l++qqg c s)
def qby(c:Ct)(s:Ste):Option (Ste×List Int):=qdh c (qah c c.act.toNat) 65 s []
abbrev qbk(L:List Bool)(p:List Int)(i:Nat):Bool:=((p[i]?).map fun j=>(L[j.toNat]?).getD false).getD false
def qlo(c:Ct)(L:List Bool)(i:Nat)(v:Bool):Bool:=if qbk L c.plus i != qbk L c.minus i then qbk L c.plus i else v
def qhl(c:Ct)(s:Ste):Ste:=⟨s.ends,s.valves.mapIdx (qlo c (qad s)),s.inputs,s.values,s.timers⟩
def qka(c:Ct)(s:Ste):List Int:=qoe (fun i=>qbk (qad s) c.plus i&&qbk (qad s) c.minus i) (qah c c.act.toNat) c.act.toNat
def qiu(v:Bool)(e:Int):Int:=if v=true/\(e=0\/e=3)then 1 else if v=false/\(e=2\/e=1)then 3 else e
def qiv(s:Ste):Ste:=⟨List.zipWith qiu s.valves s.ends,s.valves,s.inputs,s.values,s.timers⟩
abbrev qhn(c:Ct):Nat:=qah c c.act.toNat+c.act.toNat
def qcw(c:Ct)(s:Ste):Option (Ste×List Int):=(qby c s).map fun x=>(qiv (qhl c x.1),norm (qhn c) (x.2++qka c x.1))
def qha(c:Ct):Nat->Ste->List Int->Option (Ste×List Int)
 | 0,_,_=>none
 | d+1,s,l=>match qcw c s with
  | none=>none
  | some x=>if qhd s x.1=true then some (s,norm (qhn c) (l++x.2))else qha c d x.1 (norm (qhn c) (l++x.2))
def qjs(c:Ct)(s:Ste):Option (Ste×List Int):=qha c 65 s []
theorem qgd{c:Ct}{s:Ste}:stE c s=0<->c.check=0/\Shp c s/\s.ends.any (qdz 4)=false/\s.timers.any (qdz 3)=false/\∀k,k<s.timers.length->tmF c s k=false :=
 ⟨fun h=>⟨(qlj h).1,(qlj h).2,zaj h⟩,fun h=>zss h.1 h.2.1 h.2.2.1 h.2.2.2.1 h.2.2.2.2⟩
theorem qfi{n:Int}{l:List Int}:l.any (qdz n)=false<->∀x∈l,0<=x/\x<n:=by
 rw[List.any_eq_false]
 constructor
 .intro h x hx
  have:=h x hx
  simp only[qdz,Bool.or_eq_true,jW,not_or]at this
  omega
 .intro h x hx
  have:=h x hx
  simp only[qdz,Bool.or_eq_true,jW,not_or]
  omega
theorem quv{c:Ct}{s:Ste}(hS:Shp c s){k:Nat}(hk:k<c.signals.length):tmF c s k=tmB c.signals[k].kind (s.values[k]'(by rw[hS.v];exact hk)) (s.timers[k]'(by rw[hS.t];exact hk)):=by
 unfold tmF
 rw[jA hk,jA (by rw[hS.v];exact hk),jA (by rw[hS.t];exact hk)]
 rfl
theorem q1f{x:Sg}{L:List Bool}{v:Bool}{t:Int}(h:tmB x.kind v t=false)(ht:0<=t/\t<3):tmB x.kind (qju x L v t).1 (qju x L v t).2=false/\0<=(qju x L v t).2/\(qju x L v t).2<3:=by
 unfold qju
 by_cases h1:x.kind=1
 .rw[if_pos h1]
  rw[h1]at h ⊢
  simp[tmB]at h ⊢
  split<;>exact⟨h,ht⟩
 .rw[if_neg h1]
  by_cases h2:x.kind=2
  .rw[if_pos h2]
   rw[h2]at h ⊢
   simp[tmB]at h
   split
   .split
    .rename_i h0
     subst h0
     subst h
     exact⟨by decide,by simp⟩
    .refine⟨?_,ht⟩
     simp[tmB,h]
   .exact⟨by decide,by simp⟩
  .rw[if_neg h2]
   exact⟨h,ht⟩
theorem q5h{c:Ct}{g:Ste}(h:stE c g=0):stE c (qwe c g)=0:=by
 obtain⟨hc,hS,h1,h2,h3⟩:=qgd.1 h
 have hlen:(qcm c g).length=c.signals.length:=qhg _ hS.v hS.t
 have hS':Shp c (qwe c g):=⟨hS.e,hS.w,hS.i,by unfold qwe;rw[List.length_map,hlen],by unfold qwe;rw[List.length_map,hlen]⟩
 have hall:∀k (hk:k<c.signals.length),∃v t,(qcm c g)[k]?=some (v,t)/\tmB c.signals[k].kind v t=false/\0<=t/\t<3:=by
  intro k hk
  have hkv:k<g.values.length:=by rw[hS.v];exact hk
  have hkt:k<g.timers.length:=by rw[hS.t];exact hk
  have hg:=qoc (qad g) (jA hk) (jA hkv) (jA hkt)
  have ht:=(qfi.1 h2) _ (jH hkt)
  have hq:=h3 k hkt
  rw[quv hS hk]at hq
  have:=q1f (L:=qad g) hq ht
  exact⟨_,_,hg,this.1,this.2⟩
 refine qgd.2 ⟨hc,hS',h1,qfi.2 fun x hx=>?_,fun k hk=>?_⟩
 .unfold qwe at hx
  obtain⟨k,hk,rfl⟩:=List.getElem_of_mem hx
  rw[List.getElem_map]
  rw[List.length_map,hlen]at hk
  obtain⟨v,t,e,_,hr⟩:=hall k hk
  rw[jA (by rw[hlen];exact hk)]at e
  rw[Option.some.inj e]
  exact hr
 .have hk':k<c.signals.length:=by rw[<-hS'.t];exact hk
  rw[quv hS' hk']
  obtain⟨v,t,e,hr,_⟩:=hall k hk'
  unfold qwe
  simp only[List.getElem_map]
  rw[jA (by rw[hlen];exact hk')]at e
  rw[Option.some.inj e]
  exact hr
theorem qrv{c:Ct}{s:Ste}(h:stE c s=0):stE c (qga c s)=0:=q5h (qmc h)
theorem q1h{c:Ct}{s:Ste}(h:stE c s=0):stE c (qhl c s)=0:=by
 obtain⟨hc,hS,h1,h2,h3⟩:=qgd.1 h
 exact qgd.2 ⟨hc,⟨hS.e,by unfold qhl;rw[List.length_mapIdx];exact hS.w,hS.i,hS.v,hS.t⟩,h1,h2,h3⟩
theorem zda{v:Bool}{e:Int}(h:0<=e/\e<4):0<=qiu v e/\qiu v e<4:=by
 unfold qiu
 split
 .omega
 .split
  .omega
  .exact h
theorem q0m{c:Ct}{s:Ste}(h:stE c s=0):stE c (qiv s)=0:=by
 obtain⟨hc,hS,h1,h2,h3⟩:=qgd.1 h
 have hl:(List.zipWith qiu s.valves s.ends).length=s.ends.length:=by
  have:=hS.e
  have:=hS.w
  rw[List.length_zipWith]
  omega
 refine qgd.2 ⟨hc,⟨by unfold qiv;rw[hl];exact hS.e,hS.w,hS.i,hS.v,hS.t⟩,qfi.2 fun x hx=>?_,h2,h3⟩
 unfold qiv at hx
 obtain⟨k,hk,rfl⟩:=List.getElem_of_mem hx
 rw[List.getElem_zipWith]
 exact zda ((qfi.1 h1) _ (jH _))
theorem qlt{c:Ct}{N:Nat}:∀{d:Nat} {s:Ste} {l:List Int} {t:Ste} {m:List Int},stE c s=0->qdh c N d s l=some (t,m)->stE c t=0
 | 0,_,_,_,_,_,h=>by cases h
 | d+1,s,l,t,m,hs,h=>by
  rw[qdh]at h
  split at h
  .cases h;exact hs
  .exact qlt (qrv hs) h
theorem qnz{c:Ct}{s t:Ste}{m:List Int}(hs:stE c s=0)(h:qby c s=some (t,m)):stE c t=0:=qlt hs h
theorem qpx{c:Ct}{s t:Ste}{m:List Int}(hs:stE c s=0)(h:qcw c s=some (t,m)):stE c t=0:=by
 unfold qcw at h
 cases e:qby c s with
 | none=>rw[e]at h;cases h
 | some x =>
  rw[e]at h
  cases h
  exact q0m (q1h (qnz hs e))
theorem qpv{c:Ct}:∀{d:Nat} {s:Ste} {l:List Int} {t:Ste} {m:List Int},stE c s=0->qha c d s l=some (t,m)->stE c t=0
 | 0,_,_,_,_,_,h=>by cases h
 | d+1,s,l,t,m,hs,h=>by
  rw[qha]at h
  cases e:qcw c s with
  | none=>rw[e]at h;cases h
  | some x =>
   rw[e]at h
   simp only at h
   split at h
   .cases h;exact hs
   .exact qpv (qpx hs (show qcw c s=some (x.1,x.2)from e)) h
theorem qse{c:Ct}{s t:Ste}{m:List Int}(hs:stE c s=0)(h:qjs c s=some (t,m)):stE c t=0:=qpv hs h
structure SigOk(n:Nat)(x:Sg):Prop where
 on:x.on.nodes<=256/\x.on.err n=0
 off:x.kind=1->x.off.nodes<=256/\x.off.err n=0
theorem ev318(x:Sg)(L:List Bool)(h:SigOk L.length x):ev pg (.call (.fn 318 [] []) [.agg x.row,qdt L] [])=some { v:=.tup [.bool (x.on.holds L),.bool (qwy x L)],st:=⟨[],[]⟩ }:=by
 have h1:=ev222 L x.on h.on.1 h.on.2
 rw[qac,pg318]
 unfold qwy
 by_cases hk:x.kind=1
 .have h2:=ev222 L x.off (h.off hk).1 (h.off hk).2
  simp[qaa,exT,qae,ir318,h1,h2,hk]
 .have hkb:(x.kind==1)=false:=by simpa using hk
  simp[qaa,exT,qae,ir318,h1,hk,hkb]
abbrev z2a(s:Ste)(i:Nat)(p:Bool×Int):Ste:=⟨s.ends,s.valves,s.inputs,s.values.set i p.1,s.timers.set i p.2⟩
set_option maxHeartbeats 2000000 in
theorem ev317(c:Ct)(s:Ste)(i:Nat)(hs:s.small)(hS:Shp c s)(hi:i<c.signals.length)(hok:SigOk (qad s).length c.signals[i])(hv:i<s.values.length)(ht:i<s.timers.length):∃b,ev pg (.call (.fn 317 [] []) [c.v,s.v,num i] [])=some { v:=.tup [(z2a s i (qju c.signals[i] (qad s) s.values[i] s.timers[i])).v,.bool b],st:=⟨[],[]⟩ }:=by
 have h28:=ev223 c s hs hS.e
 have h130:=ev221 s hs
 have h182:=ev318 c.signals[i] (qad s) hok
 have hi':(i:Int)<c.signals.length:=by omega
 generalize qad s=L at *
 unfold qju qwy at *
 generalize hon:c.signals[i].on.holds L=on at *
 generalize hof:c.signals[i].off.holds L=off at *
 rw[qac,pg317]
 by_cases k1:c.signals[i].kind=1
 .simp[Sg.row,k1]at h182
  cases on<;>cases off<;>simp[qaa,exT,qae,ir317,h28,h130,h182,k1,hi,hi',hv,ht]
 .have kb1:(c.signals[i].kind==1)=false:=by simpa using k1
  by_cases k2:c.signals[i].kind=2
  .simp[Sg.row,k2]at h182
   by_cases t0:s.timers[i]=0
   .cases on<;>simp[qaa,exT,qae,ir317,h28,h130,h182,k2,hi,hi',hv,ht,t0]
   .have tb:(s.timers[i]==0)=false:=by simpa using t0
    cases on<;>simp[qaa,exT,qae,ir317,h28,h130,h182,k2,hi,hi',hv,ht,t0,tb]
  .have kb2:(c.signals[i].kind==2)=false:=by simpa using k2
   simp[k1]at h182
   simp[qaa,exT,qae,ir317,h28,h130,h182,k1,k2,kb1,kb2,hi,hi',hv,ht]
theorem ev319{c:Ct}{A:Nat}(h:Mid c A)(k:Nat)(hk:k<=128):ev pg (.call (.fn 319 [] []) [c.v,num k] [])=some { v:=num ((qak c A:Nat)+(k:Int)),st:=⟨[],[]⟩ }:=by
 have h1:=ev202 h
 have a1:=h.hi
 have a2:=h.inp
 have hb:qak c A<=44:=by unfold qak;omega
 generalize qak c A=F at *
 have w:=qab (n:=(F:Int)+(k:Int)) (by omega) (by omega)
 rw[qac,pg319]
 simp[ir319,h1,w]
abbrev tv(c:Ct)(g:Ste)(k:Nat):List Bool:=mix ((qcm c g).map Prod.fst) g.values k
abbrev tt(c:Ct)(g:Ste)(k:Nat):List Int:=mix ((qcm c g).map Prod.snd) g.timers k
abbrev bdL(c:Ct)(g:Ste)(F:Nat)(k:Nat):List Int:=qoe (qzp c (qad g)) F k
abbrev zfe(c:Ct)(g:Ste)(F:Nat)(k:Nat)(a:Nat×Nat):H:=[⟨0,.box c.cells⟩,⟨0,.box g.cells⟩,o0,o0,o0,o0,o0,⟨0,.box (qwx 2)⟩,⟨0,.arr 1 (g.ends.map qdw)⟩,⟨0,.arr 1 (g.valves.map qen)⟩,⟨0,.arr 1 (g.inputs.map qen)⟩,⟨0,.arr 1 ((tv c g k).map qen)⟩,⟨0,.arr 1 ((tt c g k).map qdw)⟩,o0,o0,o0,o0,o0,⟨0,.box [.sl 8 0 1 0 g.ends.length,.sl 9 0 1 0 g.valves.length,.sl 10 0 1 0 g.inputs.length,.sl 11 0 1 0 g.values.length,.sl 12 0 1 0 g.timers.length]⟩,o0,⟨a.1,.arr a.2 ((bdL c g F k).map qdw)⟩]
def zpb(c:Ct)(g:Ste)(F:Nat)(k:Nat)(a:Nat×Nat):Tm:=[none,none,some (.bptr 0 0),some (.bptr 1 0),some (.bptr 7 0),some (.sl 19 0 0 0 0),some (.bptr 18 0),some (.sl 20 a.1 a.2 0 (bdL c g F k).length),some (num k)]++List.replicate 65 none
set_option maxHeartbeats 2000000 in
theorem z1p(c:Ct)(g:Ste){A:Nat}(hM:Mid c A)(hs:g.small)(hS:Shp c g)(hok:∀x∈c.signals,SigOk (qad g).length x){st:St}(a0:Nat×Nat)(g0:a0.2=1\/a0.2=0)(h0:At (zpb c g (qak c A) 0 a0) (zfe c g (qak c A) 0 a0) st):∃r,ev pg (.code (.going 21 L314_0) st)=some r/\∃a:Nat×Nat,(a.2=1\/a.2=0)/\qaj (.exit 0) (zpb c g (qak c A) c.signals.length a) (zfe c g (qak c A) c.signals.length a) r:=by
 have hn:=hM.sig
 refine qci c.signals.length (zpb c g (qak c A)) (zfe c g (qak c A)) (fun _ a=>a.2=1\/a.2=0) _ ?_ ?_ a0 g0 h0
 .rintro k ⟨gn,m⟩ f hf hk hG
  have hk':(k:Int)<c.signals.length:=by omega
  have wk:=qab (n:=(k:Int)+1) (by omega) (by omega)
  have hkv:k<g.values.length:=by rw[hS.v];exact hk
  have hkt:k<g.timers.length:=by rw[hS.t];exact hk
  obtain⟨b,h181⟩:=ev317 c g k hs hS hk (hok _ (jH hk)) hkv hkt
  have h28:=ev223 c g hs hS.e
  have h182:=ev318 c.signals[k] (qad g) (hok _ (jH hk))
  have h183:=ev319 hM k (by omega)
  have hget:(qcm c g)[k]?=some (qju c.signals[k] (qad g) g.values[k] g.timers[k]):=qoc _ (jA hk) (jA hkv) (jA hkt)
  have hlen:(qcm c g).length=c.signals.length:=qhg _ hS.v hS.t
  have hkl:k<(qcm c g).length:=by omega
  have hget':(qcm c g)[k]=qju c.signals[k] (qad g) g.values[k] g.timers[k]:=by
   have:=hget
   rw[jA hkl]at this
   exact Option.some.inj this
  have l1:((qcm c g).map Prod.fst).length=g.values.length:=by rw[List.length_map,hlen,hS.v]
  have l2:((qcm c g).map Prod.snd).length=g.timers.length:=by rw[List.length_map,hlen,hS.t]
  have e1:=qhx (A:=(qcm c g).map Prod.fst) (B:=g.values) l1 (k:=k) (by rw[List.length_map];exact hkl)
  have e2:=qhx (A:=(qcm c g).map Prod.snd) (B:=g.timers) l2 (k:=k) (by rw[List.length_map];exact hkl)
  rw[List.getElem_map,hget']at e1 e2
  have m1:=qiz (A:=(qcm c g).map Prod.fst) (B:=g.values) l1 (k:=k) (by rw[List.length_map];omega)
  have m2:=qiz (A:=(qcm c g).map Prod.snd) (B:=g.timers) l2 (k:=k) (by rw[List.length_map];omega)
  rw[l1]at m1
  rw[l2]at m2
  have e3:=qkj (qzp c (qad g)) (qak c A:Nat) k
  have hb:qzp c (qad g) k=(c.signals[k].on.holds (qad g)&&qwy c.signals[k] (qad g)):=by
   unfold qzp;rw[jA hk];rfl
  rw[hb]at e3
  have hsl:=qgj (qzp c (qad g)) (qak c A:Nat) k
  unfold zpb zfe tv tt bdL
  rw[<-e1,<-e2,e3]
  generalize mix ((qcm c g).map Prod.fst) g.values k=VV at *
  generalize mix ((qcm c g).map Prod.snd) g.timers k=TT at *
  generalize qoe (qzp c (qad g)) (qak c A:Nat) k=BB at *
  generalize qju c.signals[k] (qad g) g.values[k] g.timers[k]=p at *
  generalize qak c A=F at *
  generalize c.signals[k].on.holds (qad g)=on at *
  generalize qwy c.signals[k] (qad g)=off at *
  generalize qad g=L at *
  have hkV:k<VV.length:=by omega
  have hkT:k<TT.length:=by omega
  have hb1:(BB.length+1)*8<=140737488355328:=by omega
  have hmm:m=1\/m=0:=hG
  obtain⟨p1,p2⟩:=p
  rcases hmm with rfl | rfl<;>cases on<;>cases off<;>simp[qaa,exT,qae,L314_0,hk,hk',wk,h181,h28,h182,h183,hkv,hkt,hkV,hkT,m1.symm,m2.symm,hb1,hf.ne]
 .rintro⟨gn,m⟩ f hf hG
  unfold zpb zfe
  generalize bdL c g (qak c A) c.signals.length=BB at *
  have hmm:m=1\/m=0:=hG
  rcases hmm with rfl | rfl<;>simp[L314_0,hf.ne]
theorem qxu{c:Ct}{s:Ste}{A:Nat}(hM:Mid c A)(hS:Shp c s):qam s=qak c A:=by
 have h1:=hS.e
 have h2:=hM.act
 have h3:=hS.i
 unfold qam qak
 omega
theorem ev314(c:Ct)(s:Ste){A:Nat}(hM:Mid c A)(hs:s.small)(hS:Shp c s)(hok:∀x∈c.signals,SigOk (qad s).length x):ev pg (.call (.fn 314 [] []) [c.v,s.v] [])=some { v:=.tup [(qga c s).v,qel (qqg c s)],st:=⟨[],[]⟩ }:=by
 have h88:=ev172 c s hs hS hM.sig (fun x hx=>(hok x hx).on)
 have hgl:=qic (c:=c) s
 have hSg:Shp c (qdc c s):=⟨hS.e,hS.w,hS.i,by rw[hgl];exact hS.v,hS.t⟩
 have hsg:(qdc c s).small:=⟨hs.e,hs.w,hs.i,by rw[hgl];exact hs.v,hs.t⟩
 have hLl:(qad (qdc c s)).length=(qad s).length:=by rw[qcp,qcp,hgl];rfl
 have hl:=@z1p c (qdc c s) A hM hsg hSg (fun x hx=>by rw[hLl];exact hok x hx)
 have hF:=qxu hM hS
 unfold qga qqg
 rw[hF]
 generalize qdc c s=g at *
 have h130:=ev221 g hsg
 have hlen:(qcm c g).length=c.signals.length:=qhg _ hSg.v hSg.t
 have l1:((qcm c g).map Prod.fst).length=g.values.length:=by rw[List.length_map,hlen,hSg.v]
 have l2:((qcm c g).map Prod.snd).length=g.timers.length:=by rw[List.length_map,hlen,hSg.t]
 have z1:tv c g 0=g.values:=qft _ _
 have z2:tt c g 0=g.timers:=qft _ _
 have f1:tv c g c.signals.length=(qcm c g).map Prod.fst:=by
  have:=qhw l1
  rwa [List.length_map,hlen]at this
 have f2:tt c g c.signals.length=(qcm c g).map Prod.snd:=by
  have:=qhw l2
  rwa [List.length_map,hlen]at this
 have z3:bdL c g (qak c A) 0=[]:=rfl
 unfold zpb zfe at hl
 rw[z1,z2,z3,f1,f2]at hl
 unfold qwe
 generalize (qcm c g).map Prod.fst=VV at *
 generalize (qcm c g).map Prod.snd=TT at *
 rw[show qoe (qzp c (qad g)) (qak c A:Nat) c.signals.length=bdL c g (qak c A) c.signals.length from rfl]
 generalize bdL c g (qak c A) c.signals.length=BB at *
 rw[qac,pg314]
 simp[ir314,h88,h130,qaf]
 generalize hr:ev pg (.code (.going _ L314_0) _)=o
 obtain⟨r,rfl,⟨gn,m⟩,hm,f,hf,rfl⟩:∃r,o=some r/\_:=by rw[<-hr];exact hl (0,0) (.inr rfl) (by simp)
 clear hr
 have hmm:m=1\/m=0:=hm
 rcases hmm with rfl | rfl<;>simp[l1.symm,l2.symm]
end Go.Proofs.YtddeacahiilikaaGreat
