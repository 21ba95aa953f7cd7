/- The value of an expression, by settle. -/
import Derived.Test.YtbepbclaoohngaaGreatGb2
import Derived.KernelRfl
set_option linter.all false
namespace Go.Proofs.YtbepbclaoohngaaGreat
open Go Go.Am Go.Proofs
set_option maxRecDepth 100000
def mix{α:Type}(A B:List α)(k:Nat):List α:=A.take k++B.drop k
theorem qra{α:Type}(A B:List α):mix A B 0=B:=by simp[mix]
theorem qwz{α:Type}{A B:List α}(h:A.length=B.length):mix A B A.length=A:=by
 unfold mix
 rw[List.take_length,jX (by omega),List.append_nil]
theorem qxa{α:Type}{A B:List α}(h:A.length=B.length){k:Nat}(hk:k<=A.length):(mix A B k).length=A.length:=by
 unfold mix
 rw[jF,List.length_take,List.length_drop]
 omega
theorem q2v{α:Type}{A B:List α}(h:A.length=B.length){k:Nat}(hk:k<A.length):(mix A B k)[k]?=B[k]?:=by
 unfold mix
 rw[jJ (by rw[List.length_take];omega),List.length_take,List.getElem?_drop]
 congr 1
 omega
theorem qxb{α:Type}{A B:List α}(h:A.length=B.length){k:Nat}(hk:k<A.length):(mix A B k).set k A[k]=mix A B (k+1):=by
 have hkB:k<B.length:=by omega
 unfold mix
 rw[jK hk,jL hkB]
 have hl:(A.take k).length=k:=by rw[List.length_take];omega
 rw[List.set_append_right k _ (by omega),hl,Nat.sub_self,List.set_cons_zero,List.append_assoc]
 rfl
abbrev zef(x:Sg)(L:List Bool):Bool:=decide (x.kind=1)&&x.off.holds L
def qsb(x:Sg)(L:List Bool)(v:Bool)(t:Int):Bool×Int :=
 if x.kind=1 then(if x.on.holds L != x.off.holds L then(x.on.holds L,t)else(v,t))
 else if x.kind=2 then(if x.on.holds L=true then(if t=0 then(v,1)else(v,t))else(false,0))
 else(v,t)
def q9d(L:List Bool):List Sg->List Bool->List Int->List (Bool×Int)
 | x :: l,v :: w,t :: u=>qsb x L v t :: q9d L l w u
 | _,_,_=>[]
theorem qsa(L:List Bool):∀{l:List Sg} {w:List Bool} {u:List Int},w.length=l.length->u.length=l.length->(q9d L l w u).length=l.length
 | [],_,_,_,_=>by simp[q9d]
 | x :: l,[],_,h,_=>by simp at h
 | x :: l,v :: w,[],_,h=>by simp at h
 | x :: l,v :: w,t :: u,h1,h2=>by
  simp only[List.length_cons]at h1 h2
  rw[q9d,List.length_cons,qsa L (by omega) (by omega),List.length_cons]
theorem qrz(L:List Bool):∀{l:List Sg} {w:List Bool} {u:List Int} {k:Nat} {x:Sg} {v:Bool} {t:Int},l[k]?=some x->w[k]?=some v->u[k]?=some t->(q9d L l w u)[k]?=some (qsb x L v t)
 | [],_,_,_,_,_,_,h,_,_=>by simp at h
 | x :: l,[],_,_,_,_,_,_,h,_=>by simp at h
 | x :: l,v :: w,[],_,_,_,_,_,_,h=>by simp at h
 | x :: l,v :: w,t :: u,0,_,_,_,h1,h2,h3=>by
  simp at h1 h2 h3
  subst h1 h2 h3
  rfl
 | x :: l,v :: w,t :: u,k+1,_,_,_,h1,h2,h3=>by
  simp at h1 h2 h3
  rw[q9d,List.getElem?_cons_succ]
  exact qrz L h1 h2 h3
abbrev qhi(c:Ct)(g:Ste):List (Bool×Int):=q9d (qah g) c.signals g.values g.timers
def qzd(c:Ct)(g:Ste):Ste:=⟨g.ends,g.valves,g.inputs,(qhi c g).map Prod.fst,(qhi c g).map Prod.snd⟩
def qmc(c:Ct)(s:Ste):Ste:=qzd c (qfl c s)
def zlz(c:Ct)(L:List Bool)(i:Nat):Bool:=((c.signals[i]?).map fun x=>x.on.holds L&&zef x L).getD false
def zfc(c:Ct)(s:Ste):List Int:=qim (zlz c (qah (qfl c s))) (qar s) c.signals.length
def qff(c:Ct)(N:Nat):Nat->Ste->List Int->Option (Ste×List Int)
 | 0,_,_=>none
 | d+1,s,l=>if qks (qmc c s) s=true then some (s,norm N (l++zfc c s))else qff c N d (qmc c s) (l++zfc c s)
def qdh(c:Ct)(s:Ste):Option (Ste×List Int):=qff c (qad c c.act.toNat) 65 s []
abbrev qdv(L:List Bool)(p:List Int)(i:Nat):Bool:=((p[i]?).map fun j=>(L[j.toNat]?).getD false).getD false
def qsc(c:Ct)(L:List Bool)(i:Nat)(v:Bool):Bool:=if qdv L c.plus i != qdv L c.minus i then qdv L c.plus i else v
def qhj(c:Ct)(s:Ste):Ste:=⟨s.ends,s.valves.mapIdx (qsc c (qah s)),s.inputs,s.values,s.timers⟩
def qpe(c:Ct)(s:Ste):List Int:=qim (fun i=>qdv (qah s) c.plus i&&qdv (qah s) c.minus i) (qad c c.act.toNat) c.act.toNat
def qut(v:Bool)(e:Int):Int:=if v=true/\(e=0\/e=3)then 1 else if v=false/\(e=2\/e=1)then 3 else e
def qlf(s:Ste):Ste:=⟨List.zipWith qut s.valves s.ends,s.valves,s.inputs,s.values,s.timers⟩
abbrev qos(c:Ct):Nat:=qad c c.act.toNat+c.act.toNat
def qda(c:Ct)(s:Ste):Option (Ste×List Int):=(qdh c s).map fun x=>(qlf (qhj c x.1),norm (qos c) (x.2++qpe c x.1))
def qgp(c:Ct):Nat->Ste->List Int->Option (Ste×List Int)
 | 0,_,_=>none
 | d+1,s,l=>match qda c s with
  | none=>none
  | some x=>if qks s x.1=true then some (s,norm (qos c) (l++x.2))else qgp c d x.1 (norm (qos c) (l++x.2))
def qlq(c:Ct)(s:Ste):Option (Ste×List Int):=qgp c 65 s []
theorem qhh{c:Ct}{s:Ste}:stE c s=0<->c.check=0/\Shp c s/\s.ends.any (qhn 4)=false/\s.timers.any (qhn 3)=false/\∀k,k<s.timers.length->tmF c s k=false :=
 ⟨fun h=>⟨(qin h).1,(qin h).2,zkq h⟩,fun h=>z3k h.1 h.2.1 h.2.2.1 h.2.2.2.1 h.2.2.2.2⟩
theorem qgk{n:Int}{l:List Int}:l.any (qhn n)=false<->∀x∈l,0<=x/\x<n:=by
 rw[List.any_eq_false]
 constructor
 .intro h x hx
  have:=h x hx
  simp only[qhn,Bool.or_eq_true,jW,not_or]at this
  omega
 .intro h x hx
  have:=h x hx
  simp only[qhn,Bool.or_eq_true,jW,not_or]
  omega
theorem q1i{c:Ct}{s:Ste}(hS:Shp c s){k:Nat}(hk:k<c.signals.length):tmF c s k=tmB c.signals[k].kind (s.values[k]'(by rw[hS.v];exact hk)) (s.timers[k]'(by rw[hS.t];exact hk)):=by
 unfold tmF
 rw[jA hk,jA (by rw[hS.v];exact hk),jA (by rw[hS.t];exact hk)]
 rfl
theorem q9e{x:Sg}{L:List Bool}{v:Bool}{t:Int}(h:tmB x.kind v t=false)(ht:0<=t/\t<3):tmB x.kind (qsb x L v t).1 (qsb x L v t).2=false/\0<=(qsb x L v t).2/\(qsb x L v t).2<3:=by
 unfold qsb
 by_cases h1:x.kind=1
 .rw[if_pos h1]
  rw[h1]at h ⊢
  simp[tmB]at h ⊢
  split<;>exact⟨h,ht⟩
 .rw[if_neg h1]
  by_cases h2:x.kind=2
  .rw[if_pos h2]
   rw[h2]at h ⊢
   simp[tmB]at h
   split
   .split
    .rename_i h0
     subst h0
     subst h
     exact⟨by decide,by simp⟩
    .refine⟨?_,ht⟩
     simp[tmB,h]
   .exact⟨by decide,by simp⟩
  .rw[if_neg h2]
   exact⟨h,ht⟩
theorem zeg{c:Ct}{g:Ste}(h:stE c g=0):stE c (qzd c g)=0:=by
 obtain⟨hc,hS,h1,h2,h3⟩:=qhh.1 h
 have hlen:(qhi c g).length=c.signals.length:=qsa _ hS.v hS.t
 have hS':Shp c (qzd c g):=⟨hS.e,hS.w,hS.i,by unfold qzd;rw[List.length_map,hlen],by unfold qzd;rw[List.length_map,hlen]⟩
 have hall:∀k (hk:k<c.signals.length),∃v t,(qhi c g)[k]?=some (v,t)/\tmB c.signals[k].kind v t=false/\0<=t/\t<3:=by
  intro k hk
  have hkv:k<g.values.length:=by rw[hS.v];exact hk
  have hkt:k<g.timers.length:=by rw[hS.t];exact hk
  have hg:=qrz (qah g) (jA hk) (jA hkv) (jA hkt)
  have ht:=(qgk.1 h2) _ (jH hkt)
  have hq:=h3 k hkt
  rw[q1i hS hk]at hq
  have:=q9e (L:=qah g) hq ht
  exact⟨_,_,hg,this.1,this.2⟩
 refine qhh.2 ⟨hc,hS',h1,qgk.2 fun x hx=>?_,fun k hk=>?_⟩
 .unfold qzd at hx
  obtain⟨k,hk,rfl⟩:=List.getElem_of_mem hx
  rw[List.getElem_map]
  rw[List.length_map,hlen]at hk
  obtain⟨v,t,e,_,hr⟩:=hall k hk
  rw[jA (by rw[hlen];exact hk)]at e
  rw[Option.some.inj e]
  exact hr
 .have hk':k<c.signals.length:=by rw[<-hS'.t];exact hk
  rw[q1i hS' hk']
  obtain⟨v,t,e,hr,_⟩:=hall k hk'
  unfold qzd
  simp only[List.getElem_map]
  rw[jA (by rw[hlen];exact hk')]at e
  rw[Option.some.inj e]
  exact hr
theorem qxi{c:Ct}{s:Ste}(h:stE c s=0):stE c (qmc c s)=0:=zeg (qlc h)
theorem q9h{c:Ct}{s:Ste}(h:stE c s=0):stE c (qhj c s)=0:=by
 obtain⟨hc,hS,h1,h2,h3⟩:=qhh.1 h
 exact qhh.2 ⟨hc,⟨hS.e,by unfold qhj;rw[List.length_mapIdx];exact hS.w,hS.i,hS.v,hS.t⟩,h1,h2,h3⟩
theorem znq{v:Bool}{e:Int}(h:0<=e/\e<4):0<=qut v e/\qut v e<4:=by
 unfold qut
 split
 .omega
 .split
  .omega
  .exact h
theorem q8g{c:Ct}{s:Ste}(h:stE c s=0):stE c (qlf s)=0:=by
 obtain⟨hc,hS,h1,h2,h3⟩:=qhh.1 h
 have hl:(List.zipWith qut s.valves s.ends).length=s.ends.length:=by
  have:=hS.e
  have:=hS.w
  rw[List.length_zipWith]
  omega
 refine qhh.2 ⟨hc,⟨by unfold qlf;rw[hl];exact hS.e,hS.w,hS.i,hS.v,hS.t⟩,qgk.2 fun x hx=>?_,h2,h3⟩
 unfold qlf at hx
 obtain⟨k,hk,rfl⟩:=List.getElem_of_mem hx
 rw[List.getElem_zipWith]
 exact znq ((qgk.1 h1) _ (jH _))
theorem qpa{c:Ct}{N:Nat}:∀{d:Nat} {s:Ste} {l:List Int} {t:Ste} {m:List Int},stE c s=0->qff c N d s l=some (t,m)->stE c t=0
 | 0,_,_,_,_,_,h=>by cases h
 | d+1,s,l,t,m,hs,h=>by
  rw[qff]at h
  split at h
  .cases h;exact hs
  .exact qpa (qxi hs) h
theorem qlv{c:Ct}{s t:Ste}{m:List Int}(hs:stE c s=0)(h:qdh c s=some (t,m)):stE c t=0:=qpa hs h
theorem qmz{c:Ct}{s t:Ste}{m:List Int}(hs:stE c s=0)(h:qda c s=some (t,m)):stE c t=0:=by
 unfold qda at h
 cases e:qdh c s with
 | none=>rw[e]at h;cases h
 | some x =>
  rw[e]at h
  cases h
  exact q8g (q9h (qlv hs e))
theorem que{c:Ct}:∀{d:Nat} {s:Ste} {l:List Int} {t:Ste} {m:List Int},stE c s=0->qgp c d s l=some (t,m)->stE c t=0
 | 0,_,_,_,_,_,h=>by cases h
 | d+1,s,l,t,m,hs,h=>by
  rw[qgp]at h
  cases e:qda c s with
  | none=>rw[e]at h;cases h
  | some x =>
   rw[e]at h
   simp only at h
   split at h
   .cases h;exact hs
   .exact que (qmz hs (show qda c s=some (x.1,x.2)from e)) h
theorem qlr{c:Ct}{s t:Ste}{m:List Int}(hs:stE c s=0)(h:qlq c s=some (t,m)):stE c t=0:=que hs h
structure SigOk(n:Nat)(x:Sg):Prop where
 on:x.on.nodes<=256/\x.on.err n=0
 off:x.kind=1->x.off.nodes<=256/\x.off.err n=0
abbrev tv(c:Ct)(g:Ste)(k:Nat):List Bool:=mix ((qhi c g).map Prod.fst) g.values k
abbrev tt(c:Ct)(g:Ste)(k:Nat):List Int:=mix ((qhi c g).map Prod.snd) g.timers k
abbrev bdL(c:Ct)(g:Ste)(F:Nat)(k:Nat):List Int:=qim (zlz c (qah g)) F k
theorem zhn{c:Ct}{s:Ste}{A:Nat}(hM:Mid c A)(hS:Shp c s):qar s=qal c A:=by
 have h1:=hS.e
 have h2:=hM.act
 have h3:=hS.i
 unfold qar qal
 omega
abbrev ge(s:Ste)(k:Nat):List Int:=mix (List.zipWith qut s.valves s.ends) s.ends k
structure Pil(c:Ct)(A:Nat)(N:Nat):Prop where
 p:c.plus.length=A
 m:c.minus.length=A
 pb:∀x∈c.plus,0<=x/\x<(N:Int)
 mb:∀x∈c.minus,0<=x/\x<(N:Int)
abbrev cfL(c:Ct)(L:List Bool)(A k:Nat):List Int:=qim (fun i=>qdv L c.plus i&&qdv L c.minus i) (qad c A:Nat) k
def T29(a b:List Bool)(k:Nat):Tm:=[some (qfi a),some (qfi b),none,none,none,none,none,none,none,none,none,none,nN a.length,nN k]++zN 12
def jan:Tm:=[none,none,none,none,some (.bool false)]++zN 21
theorem jfm(a b:List Bool)(hab:b.length=a.length)(ha:a.length<=4096){st:St}(h0:At (T29 a b 0) [] st):∃r,ev pg (.code (.going 0 L125_0) st)=some r/\qvn a.length (fun k=>a[k]? != b[k]?) (fun _=>qbn .ret jan []) (qbn (.exit 0) (T29 a b a.length) []) r:=by
 refine qem _ _ (T29 a b) [] _ _ ?_ ?_ ?_ h0
 .intro k f hf hk hp
  have hk':(k:Int)<a.length:=by omega
  have hkb:k<b.length:=by omega
  have wk:=qbs (k:=k) (by omega)
  have hb:a[k]=b[k]:=by simpa[hk,hkb]using hp
  simp[qaa,exT,qak,T29,L125_0,hk,hk',hkb,hb,wk,hf.ne]
 .intro k f hf hk hp
  have hk':(k:Int)<a.length:=by omega
  have hkb:k<b.length:=by omega
  have hb:a[k]≠b[k]:=by simpa[hk,hkb]using hp
  have hb':(a[k]==b[k])=false:=by simpa using hb
  simp[qaa,exT,qak,T29,jan,L125_0,hk,hk',hkb,hb',hf.ne]
 .intro f hf
  simp[T29,L125_0,hf.ne]
theorem ev125(a b:List Bool)(ha:a.length<=4096):ev pg (.call (.fn 125 [] []) [qfi a,qfi b] [])=some { v:=.bool (decide (a=b)),st:=⟨[],[]⟩ }:=by
 rw[qab,pg125]
 by_cases hab:b.length=a.length
 .have hloop:=@jfm a b hab ha
  have hab':(b.length:Int)=a.length:=by omega
  simp[ir125,qam,hab']
  generalize hr:ev pg (.code (.going _ L125_0) _)=o
  obtain⟨r,rfl,hQ⟩:∃r,o=some r/\_:=by rw[<-hr];exact hloop (by simp[T29])
  rcases hQ with⟨k,hk,hp,-,f,hf,rfl⟩ | ⟨hp,f,hf,rfl⟩
  .have:a≠b:=by rintro rfl;simp at hp
   simp[jan,this]
  .have:a=b:=by
    refine List.ext_getElem hab.symm fun k h1 h2=>?_
    have:=hp k h1
    simpa[h1,h2]using this
   simp[T29,this]
 .have hne:((a.length:Int) != (b.length:Int))=true:=by rw[bne_iff_ne];omega
  have:a≠b:=fun e=>hab (by rw[e])
  simp[ir125,hne,this]
theorem ev149(a b:Ste)(ha:a.small):ev pg (.call (.fn 149 [] []) [a.v,b.v] [])=some { v:=.bool (qks a b),st:=⟨[],[]⟩ }:=by
 have h1:=ev124 a.ends b.ends ha.e
 have h2:=ev125 a.valves b.valves ha.w
 have h3:=ev125 a.inputs b.inputs ha.i
 have h4:=ev125 a.values b.values ha.v
 have h5:=ev124 a.timers b.timers ha.t
 rw[qab,pg149]
 unfold qks
 generalize decide (a.ends=b.ends)=b1 at *
 generalize decide (a.valves=b.valves)=b2 at *
 generalize decide (a.inputs=b.inputs)=b3 at *
 generalize decide (a.values=b.values)=b4 at *
 cases b1 with
 | false=>simp[ir149,h1]
 | true=>cases b2 with
  | false=>simp[ir149,h1,h2]
  | true=>cases b3 with
   | false=>simp[ir149,h1,h2,h3]
   | true=>cases b4 with
    | false=>simp[ir149,h1,h2,h3,h4]
    | true=>simp[ir149,h1,h2,h3,h4,h5]
abbrev Mv(x:Ex)(vs:List Bool):H:=[⟨0,.box x.cells⟩,⟨0,.box [qfi vs]⟩]
def zpz(x:Ex)(F k:Nat):Tm:=[some (.imm (x.args.map Ex.row)),some (.fn F [] [.bptr 1 0]),none,none,none,none,none,some (num x.args.length),nN k]++zN 10
def zsr(x:Ex)(F k:Nat):Tm:=[some (.imm (x.args.map Ex.row)),some (.fn F [] [.bptr 1 0]),none,none,nN k,none,none,some (num x.args.length),nN k]++zN 10
theorem jdc(x:Ex)(vs:List Bool)(F:Nat)(p:Ex->Bool)(hx:x.nodes<=256)(hF:∀y∈x.args,ev pg (.call (.fn F [] [.bptr 1 0]) [y.v] (Mv x vs))=some { v:=.bool (p y),st:=⟨[],Mv x vs⟩ }){st:St}(h0:At (zpz x F 0) (Mv x vs) st):∃r,ev pg (.code (.going 2 L314_0) st)=some r/\qvn x.args.length (fun k=>((x.args[k]?).map p).getD false) (fun k=>qbn .ret (zsr x F k) (Mv x vs)) (qbn (.exit 0) (zpz x F x.args.length) (Mv x vs)) r:=by
 have hfew:=qfz hx
 refine qem _ _ (zpz x F) (Mv x vs) _ _ ?_ ?_ ?_ h0
 .intro k f hf hk hp
  have hk':(k:Int)<x.args.length:=by omega
  have wk:=qbs (k:=k) (by omega)
  have hi:=hF _ (jH hk)
  have hh:p x.args[k]=false:=by simpa[hk]using hp
  rw[hh]at hi
  simp[zpz,L314_0,hk,hk',wk,hi,hf.ne]
 .intro k f hf hk hp
  have hk':(k:Int)<x.args.length:=by omega
  have hi:=hF _ (jH hk)
  have hh:p x.args[k]=true:=by simpa[hk]using hp
  rw[hh]at hi
  simp[zpz,zsr,L314_0,hk,hk',hi,hf.ne]
 .intro f hf
  simp[zpz,L314_0,hf.ne]
theorem ev307(x:Ex)(vs:List Bool)(F:Nat)(p:Ex->Bool)(hx:x.nodes<=256)(hF:∀y∈x.args,ev pg (.call (.fn F [] [.bptr 1 0]) [y.v] (Mv x vs))=some { v:=.bool (p y),st:=⟨[],Mv x vs⟩ }):ev pg (.call (.fn 307 [] []) [.imm (x.args.map Ex.row),.fn F [] [.bptr 1 0]] (Mv x vs))=some { v:=.bool (x.args.any p),st:=⟨[],Mv x vs⟩ }:=by
 have hl:=@jdc x vs F p hx hF
 have h190:∃n:Int,ev pg (.call (.fn 314 [] []) [.imm (x.args.map Ex.row),.fn F [] [.bptr 1 0]] (Mv x vs))=some { v:=num n,st:=⟨[],Mv x vs⟩ }/\decide (n≥0)=x.args.any p:=by
  rw[qab,pg314]
  simp[ir314,qam]
  generalize hr:ev pg (.code (.going _ L314_0) _)=o
  obtain⟨r,rfl,hQ⟩:∃r,o=some r/\_:=by rw[<-hr];exact hl (by simp[zpz])
  rcases hQ with⟨k,hk,hp,-,f,hf,rfl⟩ | ⟨hp,f,hf,rfl⟩
  .refine⟨k,by simp[zsr],?_⟩
   have h1:p x.args[k]=true:=by simpa[hk]using hp
   have h2:x.args.any p=true:=List.any_eq_true.2 ⟨_,jH hk,h1⟩
   rw[h2]
   simp
  .refine⟨-1,by simp[zpz],?_⟩
   have h2:x.args.any p=false:=by
    rw[List.any_eq_false]
    intro y hy
    obtain⟨k,hk,rfl⟩:=List.getElem_of_mem hy
    have:=hp k hk
    simpa[hk]using this
   rw[h2]
   rfl
 obtain⟨n,h1,h2⟩:=h190
 rw[qab,pg307]
 simp[ir307,h1,<-h2]
theorem ev299(vs:List Bool):∀x:Ex,x.nodes<=256->x.err vs.length=0->ev pg (.call (.fn 299 [] []) [x.v,qfi vs] [])=some { v:=.bool (x.holds vs),st:=⟨[],[]⟩ }:=by
 refine Ex.ind fun x ih hx he=>?_
 obtain⟨hn,hargs⟩:=qil he
 have ih':∀y∈x.args,ev pg (.call (.fn 299 [] []) [y.v,qfi vs] [])=some { v:=.bool (y.holds vs),st:=⟨[],[]⟩ }:=fun y hy=>ih y hy (by have:=qfb hx hy;omega) (hargs y hy)
 have hop:x.op=0\/x.op=1\/x.op=2\/x.op=3\/x.op=4:=by
  unfold qbr at hn
  by_cases h:x.op<0\/5<=x.op
  .rw[if_pos h]at hn;omega
  .omega
 have h179:∀y∈x.args,ev pg (.call (.fn 308 [] [.bptr 1 0]) [y.v] (Mv x vs))=some { v:=.bool (!y.holds vs),st:=⟨[],Mv x vs⟩ }:=fun y hy=>by
  have h:=ih' y hy
  rw[qab,pg308]
  simp[ir308,h]
 have h180:∀y∈x.args,ev pg (.call (.fn 309 [] [.bptr 1 0]) [y.v] (Mv x vs))=some { v:=.bool (y.holds vs),st:=⟨[],Mv x vs⟩ }:=fun y hy=>by
  have h:=ih' y hy
  rw[qab,pg309]
  simp[ir309,h]
 have a:=ev307 x vs _ _ hx h179
 have b:=ev307 x vs _ _ hx h180
 have e1:(x.args.map (Ex.holds vs)).all id=!(x.args.any fun y=>!y.holds vs):=by
  rw[List.all_map,List.not_any_eq_all_not];congr 1;funext y;simp
 have e2:(x.args.map (Ex.holds vs)).any id=x.args.any fun y=>y.holds vs:=by
  rw[List.any_map];rfl
 rw[qqs,e1,e2,qab,pg299]
 generalize (x.args.any fun y=>!y.holds vs)=A at *
 generalize (x.args.any fun y=>y.holds vs)=B at *
 rcases hop with h | h | h | h | h
 .simp[ir299,h]
 .obtain⟨hi0,hi1⟩:=qlk hn h
  have hin:x.idx.toNat<vs.length:=by omega
  simp[ir299,h,hi0,hin]
 .have h1:=zor hn h
  obtain⟨y,hy⟩:∃y,x.args=[y]:=by
   match hq:x.args,h1 with
   | [y],_=>exact⟨y,rfl⟩
  have hiy:=ih' y (by rw[hy];exact List.mem_cons_self)
  simp[ir299,h,hy,hiy]
 .simp[Mv,Ex.cells,h]at a
  simp[ir299,h,a]
 .simp[Mv,Ex.cells,h]at b
  simp[ir299,h,b]
end Go.Proofs.YtbepbclaoohngaaGreat
