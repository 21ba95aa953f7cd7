/- How the signals of a control come to rest, and its actuators: what is defined; right states stay right. What a signal wants, by the reference. A round of the signals, by the reference. Actuators begin to go, by the reference. The valves take their pilots, by the reference. Are lists equal, and states, by the program. The value of an expression, by settle. -/
import Derived.Test.YtddeacahiilikaaGreatMGb2
import Derived.KernelRfl
set_option linter.all false
namespace Go.Proofs.YtddeacahiilikaaGreat
open Go Go.Am Go.Proofs
set_option maxRecDepth 100000
def mix{α:Type}(A B:List α)(k:Nat):List α:=A.take k++B.drop k
theorem qng{α:Type}(A B:List α):mix A B 0=B:=by simp[mix]
theorem qry{α:Type}{A B:List α}(h:A.length=B.length):mix A B A.length=A:=by
 unfold mix
 rw[List.take_length,List.drop_eq_nil_of_le (by omega),List.append_nil]
theorem qrz{α:Type}{A B:List α}(h:A.length=B.length){k:Nat}(hk:k<=A.length):(mix A B k).length=A.length:=by
 unfold mix
 rw[jF,List.length_take,List.length_drop]
 omega
theorem qxa{α:Type}{A B:List α}(h:A.length=B.length){k:Nat}(hk:k<A.length):(mix A B k)[k]?=B[k]?:=by
 unfold mix
 rw[jJ (by rw[List.length_take];omega),List.length_take,List.getElem?_drop]
 congr 1
 omega
theorem qsa{α:Type}{A B:List α}(h:A.length=B.length){k:Nat}(hk:k<A.length):(mix A B k).set k A[k]=mix A B (k+1):=by
 have hkB:k<B.length:=by omega
 unfold mix
 rw[jK hk,jL hkB]
 have hl:(A.take k).length=k:=by rw[List.length_take];omega
 rw[List.set_append_right k _ (by omega),hl,Nat.sub_self,List.set_cons_zero,List.append_assoc]
 rfl
abbrev q7q(x:Sg)(L:List Bool):Bool:=decide (x.kind=1)&&x.off.holds L
def qpf(x:Sg)(L:List Bool)(v:Bool)(t:Int):Bool×Int :=
 if x.kind=1 then(if x.on.holds L != x.off.holds L then(x.on.holds L,t)else(v,t))
 else if x.kind=2 then(if x.on.holds L=true then(if t=0 then(v,1)else(v,t))else(false,0))
 else(v,t)
def q3a(L:List Bool):List Sg->List Bool->List Int->List (Bool×Int)
 | x :: l,v :: w,t :: u=>qpf x L v t :: q3a L l w u
 | _,_,_=>[]
theorem qoe(L:List Bool):∀{l:List Sg} {w:List Bool} {u:List Int},w.length=l.length->u.length=l.length->(q3a L l w u).length=l.length
 | [],_,_,_,_=>by simp[q3a]
 | x :: l,[],_,h,_=>by simp at h
 | x :: l,v :: w,[],_,h=>by simp at h
 | x :: l,v :: w,t :: u,h1,h2=>by
  simp only[List.length_cons]at h1 h2
  rw[q3a,List.length_cons,qoe L (by omega) (by omega),List.length_cons]
theorem qth(L:List Bool):∀{l:List Sg} {w:List Bool} {u:List Int} {k:Nat} {x:Sg} {v:Bool} {t:Int},l[k]?=some x->w[k]?=some v->u[k]?=some t->(q3a L l w u)[k]?=some (qpf x L v t)
 | [],_,_,_,_,_,_,h,_,_=>by simp at h
 | x :: l,[],_,_,_,_,_,_,h,_=>by simp at h
 | x :: l,v :: w,[],_,_,_,_,_,_,h=>by simp at h
 | x :: l,v :: w,t :: u,0,_,_,_,h1,h2,h3=>by
  simp at h1 h2 h3
  subst h1 h2 h3
  rfl
 | x :: l,v :: w,t :: u,k+1,_,_,_,h1,h2,h3=>by
  simp at h1 h2 h3
  rw[q3a,List.getElem?_cons_succ]
  exact qth L h1 h2 h3
abbrev qfs(c:Ct)(g:Ste):List (Bool×Int):=q3a (qag g) c.signals g.values g.timers
def qzx(c:Ct)(g:Ste):Ste:=⟨g.ends,g.valves,g.inputs,(qfs c g).map Prod.fst,(qfs c g).map Prod.snd⟩
def qmf(c:Ct)(s:Ste):Ste:=qzx c (qfc c s)
def zfb(c:Ct)(L:List Bool)(i:Nat):Bool:=((c.signals[i]?).map fun x=>x.on.holds L&&q7q x L).getD false
def q8k(c:Ct)(s:Ste):List Int:=qxn (zfb c (qag (qfc c s))) (qal s) c.signals.length
def qfg(c:Ct)(N:Nat):Nat->Ste->List Int->Option (Ste×List Int)
 | 0,_,_=>none
 | d+1,s,l=>if qkm (qmf c s) s=true then some (s,norm N (l++q8k c s))else qfg c N d (qmf c s) (l++q8k c s)
def qde(c:Ct)(s:Ste):Option (Ste×List Int):=qfg c (qaj c c.act.toNat) 65 s []
abbrev qei(L:List Bool)(p:List Int)(i:Nat):Bool:=((p[i]?).map fun j=>(L[j.toNat]?).getD false).getD false
def q8g(c:Ct)(L:List Bool)(i:Nat)(v:Bool):Bool:=if qei L c.plus i != qei L c.minus i then qei L c.plus i else v
def qpi(c:Ct)(s:Ste):Ste:=⟨s.ends,s.valves.mapIdx (q8g c (qag s)),s.inputs,s.values,s.timers⟩
def qly(c:Ct)(s:Ste):List Int:=qxn (fun i=>qei (qag s) c.plus i&&qei (qag s) c.minus i) (qaj c c.act.toNat) c.act.toNat
def qtt(v:Bool)(e:Int):Int:=if v=true/\(e=0\/e=3)then 1 else if v=false/\(e=2\/e=1)then 3 else e
def qmz(s:Ste):Ste:=⟨List.zipWith qtt s.valves s.ends,s.valves,s.inputs,s.values,s.timers⟩
abbrev qjv(c:Ct):Nat:=qaj c c.act.toNat+c.act.toNat
def qdv(c:Ct)(s:Ste):Option (Ste×List Int):=(qde c s).map fun x=>(qmz (qpi c x.1),norm (qjv c) (x.2++qly c x.1))
def qhg(c:Ct):Nat->Ste->List Int->Option (Ste×List Int)
 | 0,_,_=>none
 | d+1,s,l=>match qdv c s with
  | none=>none
  | some x=>if qkm s x.1=true then some (s,norm (qjv c) (l++x.2))else qhg c d x.1 (norm (qjv c) (l++x.2))
def qmh(c:Ct)(s:Ste):Option (Ste×List Int):=qhg c 65 s []
theorem qgj{c:Ct}{s:Ste}:stE c s=0<->c.check=0/\Shp c s/\s.ends.any (qes 4)=false/\s.timers.any (qes 3)=false/\∀k,k<s.timers.length->tmF c s k=false :=
 ⟨fun h=>⟨(qll h).1,(qll h).2,zdj h⟩,fun h=>zxl h.1 h.2.1 h.2.2.1 h.2.2.2.1 h.2.2.2.2⟩
theorem qfj{n:Int}{l:List Int}:l.any (qes n)=false<->∀x∈l,0<=x/\x<n:=by
 rw[List.any_eq_false]
 constructor
 .intro h x hx
  have:=h x hx
  simp only[qes,Bool.or_eq_true,jW,not_or]at this
  omega
 .intro h x hx
  have:=h x hx
  simp only[qes,Bool.or_eq_true,jW,not_or]
  omega
theorem qvr{c:Ct}{s:Ste}(hS:Shp c s){k:Nat}(hk:k<c.signals.length):tmF c s k=tmB c.signals[k].kind (s.values[k]'(by rw[hS.v];exact hk)) (s.timers[k]'(by rw[hS.t];exact hk)):=by
 unfold tmF
 rw[jA hk,jA (by rw[hS.v];exact hk),jA (by rw[hS.t];exact hk)]
 rfl
theorem q3b{x:Sg}{L:List Bool}{v:Bool}{t:Int}(h:tmB x.kind v t=false)(ht:0<=t/\t<3):tmB x.kind (qpf x L v t).1 (qpf x L v t).2=false/\0<=(qpf x L v t).2/\(qpf x L v t).2<3:=by
 unfold qpf
 by_cases h1:x.kind=1
 .rw[if_pos h1]
  rw[h1]at h ⊢
  simp[tmB]at h ⊢
  split<;>exact⟨h,ht⟩
 .rw[if_neg h1]
  by_cases h2:x.kind=2
  .rw[if_pos h2]
   rw[h2]at h ⊢
   simp[tmB]at h
   split
   .split
    .rename_i h0
     subst h0
     subst h
     exact⟨by decide,by simp⟩
    .refine⟨?_,ht⟩
     simp[tmB,h]
   .exact⟨by decide,by simp⟩
  .rw[if_neg h2]
   exact⟨h,ht⟩
theorem q7r{c:Ct}{g:Ste}(h:stE c g=0):stE c (qzx c g)=0:=by
 obtain⟨hc,hS,h1,h2,h3⟩:=qgj.1 h
 have hlen:(qfs c g).length=c.signals.length:=qoe _ hS.v hS.t
 have hS':Shp c (qzx c g):=⟨hS.e,hS.w,hS.i,by unfold qzx;rw[List.length_map,hlen],by unfold qzx;rw[List.length_map,hlen]⟩
 have hall:∀k (hk:k<c.signals.length),∃v t,(qfs c g)[k]?=some (v,t)/\tmB c.signals[k].kind v t=false/\0<=t/\t<3:=by
  intro k hk
  have hkv:k<g.values.length:=by rw[hS.v];exact hk
  have hkt:k<g.timers.length:=by rw[hS.t];exact hk
  have hg:=qth (qag g) (jA hk) (jA hkv) (jA hkt)
  have ht:=(qfj.1 h2) _ (jH hkt)
  have hq:=h3 k hkt
  rw[qvr hS hk]at hq
  have:=q3b (L:=qag g) hq ht
  exact⟨_,_,hg,this.1,this.2⟩
 refine qgj.2 ⟨hc,hS',h1,qfj.2 fun x hx=>?_,fun k hk=>?_⟩
 .unfold qzx at hx
  obtain⟨k,hk,rfl⟩:=List.getElem_of_mem hx
  rw[List.getElem_map]
  rw[List.length_map,hlen]at hk
  obtain⟨v,t,e,_,hr⟩:=hall k hk
  rw[jA (by rw[hlen];exact hk)]at e
  rw[Option.some.inj e]
  exact hr
 .have hk':k<c.signals.length:=by rw[<-hS'.t];exact hk
  rw[qvr hS' hk']
  obtain⟨v,t,e,hr,_⟩:=hall k hk'
  unfold qzx
  simp only[List.getElem_map]
  rw[jA (by rw[hlen];exact hk')]at e
  rw[Option.some.inj e]
  exact hr
theorem qse{c:Ct}{s:Ste}(h:stE c s=0):stE c (qmf c s)=0:=q7r (qma h)
theorem q3f{c:Ct}{s:Ste}(h:stE c s=0):stE c (qpi c s)=0:=by
 obtain⟨hc,hS,h1,h2,h3⟩:=qgj.1 h
 exact qgj.2 ⟨hc,⟨hS.e,by unfold qpi;rw[List.length_mapIdx];exact hS.w,hS.i,hS.v,hS.t⟩,h1,h2,h3⟩
theorem zgp{v:Bool}{e:Int}(h:0<=e/\e<4):0<=qtt v e/\qtt v e<4:=by
 unfold qtt
 split
 .omega
 .split
  .omega
  .exact h
theorem q2d{c:Ct}{s:Ste}(h:stE c s=0):stE c (qmz s)=0:=by
 obtain⟨hc,hS,h1,h2,h3⟩:=qgj.1 h
 have hl:(List.zipWith qtt s.valves s.ends).length=s.ends.length:=by
  have:=hS.e
  have:=hS.w
  rw[List.length_zipWith]
  omega
 refine qgj.2 ⟨hc,⟨by unfold qmz;rw[hl];exact hS.e,hS.w,hS.i,hS.v,hS.t⟩,qfj.2 fun x hx=>?_,h2,h3⟩
 unfold qmz at hx
 obtain⟨k,hk,rfl⟩:=List.getElem_of_mem hx
 rw[List.getElem_zipWith]
 exact zgp ((qfj.1 h1) _ (jH _))
theorem qlt{c:Ct}{N:Nat}:∀{d:Nat} {s:Ste} {l:List Int} {t:Ste} {m:List Int},stE c s=0->qfg c N d s l=some (t,m)->stE c t=0
 | 0,_,_,_,_,_,h=>by cases h
 | d+1,s,l,t,m,hs,h=>by
  rw[qfg]at h
  split at h
  .cases h;exact hs
  .exact qlt (qse hs) h
theorem qob{c:Ct}{s t:Ste}{m:List Int}(hs:stE c s=0)(h:qde c s=some (t,m)):stE c t=0:=qlt hs h
theorem qqa{c:Ct}{s t:Ste}{m:List Int}(hs:stE c s=0)(h:qdv c s=some (t,m)):stE c t=0:=by
 unfold qdv at h
 cases e:qde c s with
 | none=>rw[e]at h;cases h
 | some x =>
  rw[e]at h
  cases h
  exact q2d (q3f (qob hs e))
theorem qpy{c:Ct}:∀{d:Nat} {s:Ste} {l:List Int} {t:Ste} {m:List Int},stE c s=0->qhg c d s l=some (t,m)->stE c t=0
 | 0,_,_,_,_,_,h=>by cases h
 | d+1,s,l,t,m,hs,h=>by
  rw[qhg]at h
  cases e:qdv c s with
  | none=>rw[e]at h;cases h
  | some x =>
   rw[e]at h
   simp only at h
   split at h
   .cases h;exact hs
   .exact qpy (qqa hs (show qdv c s=some (x.1,x.2)from e)) h
theorem qmi{c:Ct}{s t:Ste}{m:List Int}(hs:stE c s=0)(h:qmh c s=some (t,m)):stE c t=0:=qpy hs h
structure SigOk(n:Nat)(x:Sg):Prop where
 on:x.on.nodes<=256/\x.on.err n=0
 off:x.kind=1->x.off.nodes<=256/\x.off.err n=0
abbrev tv(c:Ct)(g:Ste)(k:Nat):List Bool:=mix ((qfs c g).map Prod.fst) g.values k
abbrev tt(c:Ct)(g:Ste)(k:Nat):List Int:=mix ((qfs c g).map Prod.snd) g.timers k
abbrev bdL(c:Ct)(g:Ste)(F:Nat)(k:Nat):List Int:=qxn (zfb c (qag g)) F k
theorem zbb{c:Ct}{s:Ste}{A:Nat}(hM:Mid c A)(hS:Shp c s):qal s=qao c A:=by
 have h1:=hS.e
 have h2:=hM.act
 have h3:=hS.i
 unfold qal qao
 omega
abbrev ge(s:Ste)(k:Nat):List Int:=mix (List.zipWith qtt s.valves s.ends) s.ends k
structure Pil(c:Ct)(A:Nat)(N:Nat):Prop where
 p:c.plus.length=A
 m:c.minus.length=A
 pb:∀x∈c.plus,0<=x/\x<(N:Int)
 mb:∀x∈c.minus,0<=x/\x<(N:Int)
abbrev cfL(c:Ct)(L:List Bool)(A k:Nat):List Int:=qxn (fun i=>qei L c.plus i&&qei L c.minus i) (qaj c A:Nat) k
def T29(a b:List Bool)(k:Nat):Tm:=[some (qem a),some (qem b),none,none,none,none,none,none,none,none,none,none,some (num a.length),some (num k)]++List.replicate 12 none
def z4l:Tm:=[none,none,none,none,some (.bool false)]++List.replicate 21 none
theorem z9j(a b:List Bool)(hab:b.length=a.length)(ha:a.length<=4096){st:St}(h0:At (T29 a b 0) [] st):∃r,ev pg (.code (.going 0 L91_0) st)=some r/\qju a.length (fun k=>a[k]? != b[k]?) (fun _=>qai .ret z4l []) (qai (.exit 0) (T29 a b a.length) []) r:=by
 refine qcx _ _ (T29 a b) [] _ _ ?_ ?_ ?_ h0
 .intro k f hf hk hp
  have hk':(k:Int)<a.length:=by omega
  have hkb:k<b.length:=by omega
  have wk:=qab (n:=(k:Int)+1) (by omega) (by omega)
  have hb:a[k]=b[k]:=by simpa[hk,hkb]using hp
  simp[qaa,exT,qad,T29,L91_0,hk,hk',hkb,hb,wk,hf.ne]
 .intro k f hf hk hp
  have hk':(k:Int)<a.length:=by omega
  have hkb:k<b.length:=by omega
  have hb:a[k]≠b[k]:=by simpa[hk,hkb]using hp
  have hb':(a[k]==b[k])=false:=by simpa using hb
  simp[qaa,exT,qad,T29,z4l,L91_0,hk,hk',hkb,hb',hf.ne]
 .intro f hf
  simp[T29,L91_0,hf.ne]
theorem ev91(a b:List Bool)(ha:a.length<=4096):ev pg (.call (.fn 91 [] []) [qem a,qem b] [])=some { v:=.bool (decide (a=b)),st:=⟨[],[]⟩ }:=by
 rw[qac,pg91]
 by_cases hab:b.length=a.length
 .have hloop:=@z9j a b hab ha
  have hab':(b.length:Int)=a.length:=by omega
  simp[ir91,qaf,hab']
  generalize hr:ev pg (.code (.going _ L91_0) _)=o
  obtain⟨r,rfl,hQ⟩:∃r,o=some r/\_:=by rw[<-hr];exact hloop (by simp[T29])
  rcases hQ with⟨k,hk,hp,-,f,hf,rfl⟩ | ⟨hp,f,hf,rfl⟩
  .have:a≠b:=by rintro rfl;simp at hp
   simp[z4l,this]
  .have:a=b:=by
    refine List.ext_getElem hab.symm fun k h1 h2=>?_
    have:=hp k h1
    simpa[h1,h2]using this
   simp[T29,this]
 .have hne:((a.length:Int) != (b.length:Int))=true:=by rw[bne_iff_ne];omega
  have:a≠b:=fun e=>hab (by rw[e])
  simp[ir91,hne,this]
theorem ev114(a b:Ste)(ha:a.small):ev pg (.call (.fn 114 [] []) [a.v,b.v] [])=some { v:=.bool (qkm a b),st:=⟨[],[]⟩ }:=by
 have h1:=ev40 a.ends b.ends ha.e
 have h2:=ev91 a.valves b.valves ha.w
 have h3:=ev91 a.inputs b.inputs ha.i
 have h4:=ev91 a.values b.values ha.v
 have h5:=ev40 a.timers b.timers ha.t
 rw[qac,pg114]
 unfold qkm
 generalize decide (a.ends=b.ends)=b1 at *
 generalize decide (a.valves=b.valves)=b2 at *
 generalize decide (a.inputs=b.inputs)=b3 at *
 generalize decide (a.values=b.values)=b4 at *
 cases b1 with
 | false=>simp[ir114,h1]
 | true=>cases b2 with
  | false=>simp[ir114,h1,h2]
  | true=>cases b3 with
   | false=>simp[ir114,h1,h2,h3]
   | true=>cases b4 with
    | false=>simp[ir114,h1,h2,h3,h4]
    | true=>simp[ir114,h1,h2,h3,h4,h5]
abbrev Mv(x:Ex)(vs:List Bool):H:=[⟨0,.box x.cells⟩,⟨0,.box [qem vs]⟩]
def zir(x:Ex)(F k:Nat):Tm:=[some (.imm (x.args.map Ex.row)),some (.fn F [] [.bptr 1 0]),none,none,none,none,none,some (num x.args.length),some (num k)]++List.replicate 10 none
def zkh(x:Ex)(F k:Nat):Tm:=[some (.imm (x.args.map Ex.row)),some (.fn F [] [.bptr 1 0]),none,none,some (num k),none,none,some (num x.args.length),some (num k)]++List.replicate 10 none
theorem z7d(x:Ex)(vs:List Bool)(F:Nat)(p:Ex->Bool)(hx:x.nodes<=256)(hF:∀y∈x.args,ev pg (.call (.fn F [] [.bptr 1 0]) [y.v] (Mv x vs))=some { v:=.bool (p y),st:=⟨[],Mv x vs⟩ }){st:St}(h0:At (zir x F 0) (Mv x vs) st):∃r,ev pg (.code (.going 2 L316_0) st)=some r/\qju x.args.length (fun k=>((x.args[k]?).map p).getD false) (fun k=>qai .ret (zkh x F k) (Mv x vs)) (qai (.exit 0) (zir x F x.args.length) (Mv x vs)) r:=by
 have hfew:=qer hx
 refine qcx _ _ (zir x F) (Mv x vs) _ _ ?_ ?_ ?_ h0
 .intro k f hf hk hp
  have hk':(k:Int)<x.args.length:=by omega
  have wk:=qab (n:=(k:Int)+1) (by omega) (by omega)
  have hi:=hF _ (jH hk)
  have hh:p x.args[k]=false:=by simpa[hk]using hp
  rw[hh]at hi
  simp[zir,L316_0,hk,hk',wk,hi,hf.ne]
 .intro k f hf hk hp
  have hk':(k:Int)<x.args.length:=by omega
  have hi:=hF _ (jH hk)
  have hh:p x.args[k]=true:=by simpa[hk]using hp
  rw[hh]at hi
  simp[zir,zkh,L316_0,hk,hk',hi,hf.ne]
 .intro f hf
  simp[zir,L316_0,hf.ne]
theorem ev311(x:Ex)(vs:List Bool)(F:Nat)(p:Ex->Bool)(hx:x.nodes<=256)(hF:∀y∈x.args,ev pg (.call (.fn F [] [.bptr 1 0]) [y.v] (Mv x vs))=some { v:=.bool (p y),st:=⟨[],Mv x vs⟩ }):ev pg (.call (.fn 311 [] []) [.imm (x.args.map Ex.row),.fn F [] [.bptr 1 0]] (Mv x vs))=some { v:=.bool (x.args.any p),st:=⟨[],Mv x vs⟩ }:=by
 have hl:=@z7d x vs F p hx hF
 have h190:∃n:Int,ev pg (.call (.fn 316 [] []) [.imm (x.args.map Ex.row),.fn F [] [.bptr 1 0]] (Mv x vs))=some { v:=num n,st:=⟨[],Mv x vs⟩ }/\decide (n≥0)=x.args.any p:=by
  rw[qac,pg316]
  simp[ir316,qaf]
  generalize hr:ev pg (.code (.going _ L316_0) _)=o
  obtain⟨r,rfl,hQ⟩:∃r,o=some r/\_:=by rw[<-hr];exact hl (by simp[zir])
  rcases hQ with⟨k,hk,hp,-,f,hf,rfl⟩ | ⟨hp,f,hf,rfl⟩
  .refine⟨k,by simp[zkh],?_⟩
   have h1:p x.args[k]=true:=by simpa[hk]using hp
   have h2:x.args.any p=true:=List.any_eq_true.2 ⟨_,jH hk,h1⟩
   rw[h2]
   simp
  .refine⟨-1,by simp[zir],?_⟩
   have h2:x.args.any p=false:=by
    rw[List.any_eq_false]
    intro y hy
    obtain⟨k,hk,rfl⟩:=List.getElem_of_mem hy
    have:=hp k hk
    simpa[hk]using this
   rw[h2]
   rfl
 obtain⟨n,h1,h2⟩:=h190
 rw[qac,pg311]
 simp[ir311,h1,<-h2]
theorem ev302(vs:List Bool):∀x:Ex,x.nodes<=256->x.err vs.length=0->ev pg (.call (.fn 302 [] []) [x.v,qem vs] [])=some { v:=.bool (x.holds vs),st:=⟨[],[]⟩ }:=by
 refine Ex.ind fun x ih hx he=>?_
 obtain⟨hn,hargs⟩:=qqs he
 have ih':∀y∈x.args,ev pg (.call (.fn 302 [] []) [y.v,qem vs] [])=some { v:=.bool (y.holds vs),st:=⟨[],[]⟩ }:=fun y hy=>ih y hy (by have:=qee hx hy;omega) (hargs y hy)
 have hop:x.op=0\/x.op=1\/x.op=2\/x.op=3\/x.op=4:=by
  unfold qbk at hn
  by_cases h:x.op<0\/5<=x.op
  .rw[if_pos h]at hn;omega
  .omega
 have h179:∀y∈x.args,ev pg (.call (.fn 312 [] [.bptr 1 0]) [y.v] (Mv x vs))=some { v:=.bool (!y.holds vs),st:=⟨[],Mv x vs⟩ }:=fun y hy=>by
  have h:=ih' y hy
  rw[qac,pg312]
  simp[ir312,h]
 have h180:∀y∈x.args,ev pg (.call (.fn 313 [] [.bptr 1 0]) [y.v] (Mv x vs))=some { v:=.bool (y.holds vs),st:=⟨[],Mv x vs⟩ }:=fun y hy=>by
  have h:=ih' y hy
  rw[qac,pg313]
  simp[ir313,h]
 have a:=ev311 x vs _ _ hx h179
 have b:=ev311 x vs _ _ hx h180
 have e1:(x.args.map (Ex.holds vs)).all id=!(x.args.any fun y=>!y.holds vs):=by
  rw[List.all_map,List.not_any_eq_all_not];congr 1;funext y;simp
 have e2:(x.args.map (Ex.holds vs)).any id=x.args.any fun y=>y.holds vs:=by
  rw[List.any_map];rfl
 rw[q4s,e1,e2,qac,pg302]
 generalize (x.args.any fun y=>!y.holds vs)=A at *
 generalize (x.args.any fun y=>y.holds vs)=B at *
 rcases hop with h | h | h | h | h
 .simp[ir302,h]
 .obtain⟨hi0,hi1⟩:=qxc hn h
  have hin:x.idx.toNat<vs.length:=by omega
  simp[ir302,h,hi0,hin]
 .have h1:=zhj hn h
  obtain⟨y,hy⟩:∃y,x.args=[y]:=by
   match hq:x.args,h1 with
   | [y],_=>exact⟨y,rfl⟩
  have hiy:=ih' y (by rw[hy];exact List.mem_cons_self)
  simp[ir302,h,hy,hiy]
 .simp[Mv,Ex.cells,h]at a
  simp[ir302,h,a]
 .simp[Mv,Ex.cells,h]at b
  simp[ir302,h,b]
end Go.Proofs.YtddeacahiilikaaGreat
