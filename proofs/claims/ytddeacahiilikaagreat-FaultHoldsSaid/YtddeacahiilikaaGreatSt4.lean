/- A line that is stuck where it is: what the law says, with no program in sight. A line that is stuck where it is: controls and states. How the signals of a control come to rest, and its actuators: what is defined; right states stay right. What is at rest. Behind events states are right; the first state. -/
import Derived.Test.YtddeacahiilikaaGreatGa1
import Derived.Test.YtddeacahiilikaaGreatTo2
set_option linter.all false
namespace Go.Proofs.YtddeacahiilikaaGreat
open Go Go.Am Go.Proofs
set_option maxRecDepth 100000
theorem zmr{x y:Ex}{v:Int}(ho:x.op≠1)(hy:y∈x.args)(h:y.occ v=true):x.occ v=true:=by
 rw[qxx,if_neg ho]
 have:∀l:List Ex,y∈l->q1f v l=true:=by
  intro l
  induction l with
  | nil=>intro h;cases h
  | cons z l ih =>
   intro hm
   rw[q1f]
   rcases List.mem_cons.1 hm with rfl | hm
   .rw[h];rfl
   .rw[ih hm,Bool.or_true]
 exact this _ hy
theorem q6b{N:Int}{M M':List Bool}:∀x:Ex,x.err N=0->(∀v:Nat,x.occ v=true->M[v]?=M'[v]?)->x.holds M=x.holds M':=by
 refine Ex.ind fun x ih he h=>?_
 obtain⟨hn,hargs⟩:=qmz he
 rw[qol,qol]
 by_cases h1:x.op=1
 .obtain⟨hi0,_⟩:=qsz hn h1
  have:=h x.idx.toNat (by rw[qxx,if_pos h1,Int.toNat_of_nonneg hi0];simp)
  rw[h1,this]
  simp
 .have hm:x.args.map (Ex.holds M)=x.args.map (Ex.holds M'):=List.map_congr_left fun y hy=>ih y hy (hargs y hy) fun v hv=>h v (zmr h1 hy hv)
  rw[if_neg h1,if_neg h1,hm]
theorem q7c{c:Ct}{F i v:Nat}{L:List Bool}(h:v≠F+i\/(∀x,c.signals[i]?=some x->x.kind≠0)):(qgd c F i L)[v]?=L[v]?:=by
 unfold qgd
 split
 .rename_i x hx
  split
  .rename_i h0
   rcases h with h | h
   .rw[jO (by omega)]
   .exact absurd h0 (h x hx)
  .rfl
 .rfl
theorem qiu{c:Ct}{F v k:Nat}{L:List Bool}(h:∀j,k<=j->v≠F+j\/(∀x,c.signals[j]?=some x->x.kind≠0)):∀d,(qbd c F (k+d) L)[v]?=(qbd c F k L)[v]?
 | 0=>rfl
 | d+1=>by rw[<-Nat.add_assoc,qbd,q7c (h (k+d) (by omega)),qiu h d]
def zfn(c:Ct)(F N:Nat):Prop:=∀(i:Nat) (x:Sg),c.signals[i]?=some x->x.on.err N=0/\(x.kind=0->∀(j:Nat) (y:Sg),i<=j->c.signals[j]?=some y->y.kind=0->x.on.occ (F+j:Nat)=false)
theorem zit{c:Ct}{F N:Nat}(hg:zfn c F N){L:List Bool}{i:Nat}{x:Sg}(hi:c.signals[i]?=some x)(h0:x.kind=0)(hF:F+i<L.length):(qbd c F c.signals.length L)[F+i]?=some (x.on.holds (qbd c F c.signals.length L)):=by
 have hil:i<c.signals.length:=by
  rcases Nat.lt_or_ge i c.signals.length with h | h
  .exact h
  .rw[jX h]at hi;cases hi
 obtain⟨d,hd⟩:∃d,c.signals.length=(i+1)+d:=⟨c.signals.length-(i+1),by omega⟩
 have h1:(qbd c F c.signals.length L)[F+i]?=(qbd c F (i+1) L)[F+i]?:=by
  rw[hd]
  exact qiu (fun j hj=>.inl (by omega)) d
 have h2:(qbd c F (i+1) L)[F+i]?=some (x.on.holds (qbd c F i L)):=by
  rw[qbd,qgd,hi]
  simp only[h0,if_true]
  rw[jN (by rw[qfq];exact hF)]
 have h3:x.on.holds (qbd c F i L)=x.on.holds (qbd c F c.signals.length L):=by
  refine(q6b x.on (hg i x hi).1 fun v hv=>?_).symm
  have:c.signals.length=i+(d+1):=by omega
  rw[this]
  refine qiu (fun j hj=>?_) (d+1)
  by_cases hvj:v=F+j
  .refine .inr fun y hy hk=>?_
   have:=(hg i x hi).2 h0 j y hj hy hk
   rw[<-hvj,hv]at this
   cases this
  .exact .inl hvj
 rw[h1,h2,h3]
theorem qtc{c:Ct}(h:c.check=0):∀i x,c.signals[i]?=some x->q4v c c.act.toNat (qbs c c.act.toNat (qal c c.act.toNat+i)) i x=0:=by
 have h2:ctE c c.act.toNat=0:=by
  unfold Ct.check at h
  split at h
  .cases h
  .split at h
   .cases h
   .exact h
 unfold ctE at h2
 split at h2
 .split at h2
  .rename_i hs
   intro i x hx
   have hil:i<c.signals.length:=by
    rcases Nat.lt_or_ge i c.signals.length with h | h
    .exact h
    .rw[jX h]at hx;cases hx
   have h3:=qpr hs i (by omega) (by omega)
   unfold qth at h3
   rw[hx]at h3
   exact h3
  .rename_i h4;exact absurd h2 h4
 .rename_i h4;exact absurd h2 h4
theorem zae{c:Ct}(h:c.check=0)(hfew:c.small=true):zfn c (qal c c.act.toNat) (qae c c.act.toNat):=by
 have hR:=qfe h hfew
 intro i x hx
 have hmem:x∈c.signals:=jR hx
 refine⟨hR.on x hmem,fun h0 j y hij hy hk=>?_⟩
 have hs:=qtc h i x hx
 cases hocc:x.on.occ (qal c c.act.toNat+j:Nat)with
 | false=>rfl
 | true =>
  exfalso
  have hl:qgh x.on (qal c c.act.toNat) i (c.signals.drop i)=true:=by
   rw[qqo]
   refine⟨j-i,y,?_,hk,?_⟩
   .rw[List.getElem?_drop,show i+(j-i)=j by omega];exact hy
   .rw[show i+(j-i)=j by omega];exact hocc
  unfold q4v at hs
  split at hs
  .split at hs
   .cases hs
   .split at hs
    .split at hs
     .rename_i h4;exact h4.2 hs
     .rw[if_pos ⟨h0,hl⟩]at hs
      cases hs
    .rename_i h4;exact h4 hs
  .rename_i h4;exact h4 hs
theorem q3c{c:Ct}{s:Ste}(hS:Shp c s):qan s=qal c c.act.toNat:=by
 have h1:=hS.e
 have h2:=hS.i
 unfold qan qal
 omega
theorem qtj{c:Ct}{s:Ste}(hS:Shp c s):(qah s).length=qae c c.act.toNat:=by
 have h1:=hS.e
 have h2:=hS.i
 have h3:=hS.v
 rw[qfw]
 unfold qae
 omega
theorem qkc{c:Ct}{s:Ste}(h:stE c s=0):stE c (qfb c s)=0:=by
 obtain⟨hc,hS⟩:=qhm h
 have hlen:=qvb (c:=c) s
 have hS':Shp c (qfb c s):=⟨hS.e,hS.w,hS.i,by rw[hlen];exact hS.v,hS.t⟩
 unfold stE at h ⊢
 rw[if_pos hc]at h ⊢
 unfold zjr at h ⊢
 rw[if_pos hS]at h
 rw[if_pos hS']
 have e1:(qfb c s).ends=s.ends:=rfl
 have e2:(qfb c s).timers=s.timers:=rfl
 rw[e1,e2]
 by_cases hb:s.ends.any (qfj 4)=true\/s.timers.any (qfj 3)=true
 .rw[if_pos hb]at h;cases h
 .rw[if_neg hb]at h ⊢
  by_cases ha:zsp (tmF c s) s.timers.length=true
  .rw[if_pos ha]at h;cases h
  .have hno:∀k,k<s.timers.length->tmF c s k=false:=fun k hk=>by
    cases hq:tmF c s k with
    | false=>rfl
    | true=>exact absurd (q6s hk hq) ha
   rw[if_neg]
   rw[qzo fun k hk=>?_]
   .simp
   .have hq:=hno k hk
    unfold tmF at hq ⊢
    rw[e2]
    have hkc:k<c.signals.length:=by have:=hS.t;omega
    rw[jA hkc]at hq ⊢
    simp only[Option.map_some,Option.getD_some]at hq ⊢
    by_cases hk2:c.signals[k].kind=2
    .have hv:(qfb c s).values[k]?=s.values[k]?:=by
      unfold qfb
      simp only
      rw[List.getElem?_drop,qvt]
      have:=qiu (c:=c) (F:=qan s) (v:=qan s+k) (k:=0) (L:=qah s) (fun j _=>by
       by_cases hjk:j=k
       .refine .inr fun x hx=>?_
        rw[hjk,jA hkc]at hx
        cases hx
        omega
       .exact .inl (by omega)) c.signals.length
      rw[Nat.zero_add]at this
      rw[this,qbd,<-List.getElem?_drop,qkr]
     rw[hv]
     exact hq
    .unfold tmB at hq ⊢
     simp[hk2]at hq ⊢
     exact hq
theorem z5p{c:Ct}{s:Ste}(hc:c.check=0)(hS:Shp c s)(h1:s.ends.any (qfj 4)=false)(h2:s.timers.any (qfj 3)=false)(h3:∀k,k<s.timers.length->tmF c s k=false):stE c s=0:=by
 unfold stE zjr
 rw[if_pos hc,if_pos hS,h1,h2,qzo h3]
 simp
theorem zix{c:Ct}{s:Ste}(h:stE c s=0):s.ends.any (qfj 4)=false/\s.timers.any (qfj 3)=false/\∀k,k<s.timers.length->tmF c s k=false:=by
 obtain⟨hc,hS⟩:=qhm h
 unfold stE zjr at h
 rw[if_pos hc,if_pos hS]at h
 by_cases hb:s.ends.any (qfj 4)=true\/s.timers.any (qfj 3)=true
 .rw[if_pos hb]at h;cases h
 .rw[if_neg hb]at h
  refine⟨by simpa using fun e=>hb (.inl e),by simpa using fun e=>hb (.inr e),fun k hk=>?_⟩
  cases hq:tmF c s k with
  | false=>rfl
  | true=>rw[if_pos (q6s hk hq)]at h;cases h
def mix{α:Type}(A B:List α)(k:Nat):List α:=A.take k++B.drop k
theorem qpx{α:Type}(A B:List α):mix A B 0=B:=by simp[mix]
theorem qtp{α:Type}{A B:List α}(h:A.length=B.length):mix A B A.length=A:=by
 unfold mix
 rw[List.take_length,List.drop_eq_nil_of_le (by omega),List.append_nil]
theorem qvf{α:Type}{A B:List α}(h:A.length=B.length){k:Nat}(hk:k<=A.length):(mix A B k).length=A.length:=by
 unfold mix
 rw[jF,List.length_take,List.length_drop]
 omega
theorem qyy{α:Type}{A B:List α}(h:A.length=B.length){k:Nat}(hk:k<A.length):(mix A B k)[k]?=B[k]?:=by
 unfold mix
 rw[jJ (by rw[List.length_take];omega),List.length_take,List.getElem?_drop]
 congr 1
 omega
theorem qtn{α:Type}{A B:List α}(h:A.length=B.length){k:Nat}(hk:k<A.length):(mix A B k).set k A[k]=mix A B (k+1):=by
 have hkB:k<B.length:=by omega
 unfold mix
 rw[jK hk,jL hkB]
 have hl:(A.take k).length=k:=by rw[List.length_take];omega
 rw[List.set_append_right k _ (by omega),hl,Nat.sub_self,List.set_cons_zero,List.append_assoc]
 rfl
abbrev zar(x:Sg)(L:List Bool):Bool:=decide (x.kind=1)&&x.off.holds L
def qop(x:Sg)(L:List Bool)(v:Bool)(t:Int):Bool×Int :=
 if x.kind=1 then(if x.on.holds L != x.off.holds L then(x.on.holds L,t)else(v,t))
 else if x.kind=2 then(if x.on.holds L=true then(if t=0 then(v,1)else(v,t))else(false,0))
 else(v,t)
def q7a(L:List Bool):List Sg->List Bool->List Int->List (Bool×Int)
 | x :: l,v :: w,t :: u=>qop x L v t :: q7a L l w u
 | _,_,_=>[]
theorem qpq(L:List Bool):∀{l:List Sg} {w:List Bool} {u:List Int},w.length=l.length->u.length=l.length->(q7a L l w u).length=l.length
 | [],_,_,_,_=>by simp[q7a]
 | x :: l,[],_,h,_=>by simp at h
 | x :: l,v :: w,[],_,h=>by simp at h
 | x :: l,v :: w,t :: u,h1,h2=>by
  simp only[List.length_cons]at h1 h2
  rw[q7a,List.length_cons,qpq L (by omega) (by omega),List.length_cons]
theorem qpp(L:List Bool):∀{l:List Sg} {w:List Bool} {u:List Int} {k:Nat} {x:Sg} {v:Bool} {t:Int},l[k]?=some x->w[k]?=some v->u[k]?=some t->(q7a L l w u)[k]?=some (qop x L v t)
 | [],_,_,_,_,_,_,h,_,_=>by simp at h
 | x :: l,[],_,_,_,_,_,_,h,_=>by simp at h
 | x :: l,v :: w,[],_,_,_,_,_,_,h=>by simp at h
 | x :: l,v :: w,t :: u,0,_,_,_,h1,h2,h3=>by
  simp at h1 h2 h3
  subst h1 h2 h3
  rfl
 | x :: l,v :: w,t :: u,k+1,_,_,_,h1,h2,h3=>by
  simp at h1 h2 h3
  rw[q7a,List.getElem?_cons_succ]
  exact qpp L h1 h2 h3
abbrev qgj(c:Ct)(g:Ste):List (Bool×Int):=q7a (qah g) c.signals g.values g.timers
def qwj(c:Ct)(g:Ste):Ste:=⟨g.ends,g.valves,g.inputs,(qgj c g).map Prod.fst,(qgj c g).map Prod.snd⟩
def qli(c:Ct)(s:Ste):Ste:=qwj c (qfb c s)
def zjv(c:Ct)(L:List Bool)(i:Nat):Bool:=((c.signals[i]?).map fun x=>x.on.holds L&&zar x L).getD false
def zcy(c:Ct)(s:Ste):List Int:=qib (zjv c (qah (qfb c s))) (qan s) c.signals.length
def qev(c:Ct)(N:Nat):Nat->Ste->List Int->Option (Ste×List Int)
 | 0,_,_=>none
 | d+1,s,l=>if qln (qli c s) s=true then some (s,norm N (l++zcy c s))else qev c N d (qli c s) (l++zcy c s)
def qdd(c:Ct)(s:Ste):Option (Ste×List Int):=qev c (qae c c.act.toNat) 65 s []
abbrev qdq(L:List Bool)(p:List Int)(i:Nat):Bool:=((p[i]?).map fun j=>(L[j.toNat]?).getD false).getD false
def qpi(c:Ct)(L:List Bool)(i:Nat)(v:Bool):Bool:=if qdq L c.plus i != qdq L c.minus i then qdq L c.plus i else v
def qgr(c:Ct)(s:Ste):Ste:=⟨s.ends,s.valves.mapIdx (qpi c (qah s)),s.inputs,s.values,s.timers⟩
def qny(c:Ct)(s:Ste):List Int:=qib (fun i=>qdq (qah s) c.plus i&&qdq (qah s) c.minus i) (qae c c.act.toNat) c.act.toNat
def qsq(v:Bool)(e:Int):Int:=if v=true/\(e=0\/e=3)then 1 else if v=false/\(e=2\/e=1)then 3 else e
def qkb(s:Ste):Ste:=⟨List.zipWith qsq s.valves s.ends,s.valves,s.inputs,s.values,s.timers⟩
abbrev qlq(c:Ct):Nat:=qae c c.act.toNat+c.act.toNat
def qcy(c:Ct)(s:Ste):Option (Ste×List Int):=(qdd c s).map fun x=>(qkb (qgr c x.1),norm (qlq c) (x.2++qny c x.1))
def qgb(c:Ct):Nat->Ste->List Int->Option (Ste×List Int)
 | 0,_,_=>none
 | d+1,s,l=>match qcy c s with
  | none=>none
  | some x=>if qln s x.1=true then some (s,norm (qlq c) (l++x.2))else qgb c d x.1 (norm (qlq c) (l++x.2))
def qlg(c:Ct)(s:Ste):Option (Ste×List Int):=qgb c 65 s []
theorem qgk{c:Ct}{s:Ste}:stE c s=0<->c.check=0/\Shp c s/\s.ends.any (qfj 4)=false/\s.timers.any (qfj 3)=false/\∀k,k<s.timers.length->tmF c s k=false :=
 ⟨fun h=>⟨(qhm h).1,(qhm h).2,zix h⟩,fun h=>z5p h.1 h.2.1 h.2.2.1 h.2.2.2.1 h.2.2.2.2⟩
theorem qge{n:Int}{l:List Int}:l.any (qfj n)=false<->∀x∈l,0<=x/\x<n:=by
 rw[List.any_eq_false]
 constructor
 .intro h x hx
  have:=h x hx
  simp only[qfj,Bool.or_eq_true,jW,not_or]at this
  omega
 .intro h x hx
  have:=h x hx
  simp only[qfj,Bool.or_eq_true,jW,not_or]
  omega
theorem qyw{c:Ct}{s:Ste}(hS:Shp c s){k:Nat}(hk:k<c.signals.length):tmF c s k=tmB c.signals[k].kind (s.values[k]'(by rw[hS.v];exact hk)) (s.timers[k]'(by rw[hS.t];exact hk)):=by
 unfold tmF
 rw[jA hk,jA (by rw[hS.v];exact hk),jA (by rw[hS.t];exact hk)]
 rfl
theorem q5a{x:Sg}{L:List Bool}{v:Bool}{t:Int}(h:tmB x.kind v t=false)(ht:0<=t/\t<3):tmB x.kind (qop x L v t).1 (qop x L v t).2=false/\0<=(qop x L v t).2/\(qop x L v t).2<3:=by
 unfold qop
 by_cases h1:x.kind=1
 .rw[if_pos h1]
  rw[h1]at h ⊢
  simp[tmB]at h ⊢
  split<;>exact⟨h,ht⟩
 .rw[if_neg h1]
  by_cases h2:x.kind=2
  .rw[if_pos h2]
   rw[h2]at h ⊢
   simp[tmB]at h
   split
   .split
    .rename_i h0
     subst h0
     subst h
     exact⟨by decide,by simp⟩
    .refine⟨?_,ht⟩
     simp[tmB,h]
   .exact⟨by decide,by simp⟩
  .rw[if_neg h2]
   exact⟨h,ht⟩
theorem zat{c:Ct}{g:Ste}(h:stE c g=0):stE c (qwj c g)=0:=by
 obtain⟨hc,hS,h1,h2,h3⟩:=qgk.1 h
 have hlen:(qgj c g).length=c.signals.length:=qpq _ hS.v hS.t
 have hS':Shp c (qwj c g):=⟨hS.e,hS.w,hS.i,by unfold qwj;rw[List.length_map,hlen],by unfold qwj;rw[List.length_map,hlen]⟩
 have hall:∀k (hk:k<c.signals.length),∃v t,(qgj c g)[k]?=some (v,t)/\tmB c.signals[k].kind v t=false/\0<=t/\t<3:=by
  intro k hk
  have hkv:k<g.values.length:=by rw[hS.v];exact hk
  have hkt:k<g.timers.length:=by rw[hS.t];exact hk
  have hg:=qpp (qah g) (jA hk) (jA hkv) (jA hkt)
  have ht:=(qge.1 h2) _ (jH hkt)
  have hq:=h3 k hkt
  rw[qyw hS hk]at hq
  have:=q5a (L:=qah g) hq ht
  exact⟨_,_,hg,this.1,this.2⟩
 refine qgk.2 ⟨hc,hS',h1,qge.2 fun x hx=>?_,fun k hk=>?_⟩
 .unfold qwj at hx
  obtain⟨k,hk,rfl⟩:=List.getElem_of_mem hx
  rw[List.getElem_map]
  rw[List.length_map,hlen]at hk
  obtain⟨v,t,e,_,hr⟩:=hall k hk
  rw[jA (by rw[hlen];exact hk)]at e
  rw[Option.some.inj e]
  exact hr
 .have hk':k<c.signals.length:=by rw[<-hS'.t];exact hk
  rw[qyw hS' hk']
  obtain⟨v,t,e,hr,_⟩:=hall k hk'
  unfold qwj
  simp only[List.getElem_map]
  rw[jA (by rw[hlen];exact hk')]at e
  rw[Option.some.inj e]
  exact hr
theorem qud{c:Ct}{s:Ste}(h:stE c s=0):stE c (qli c s)=0:=zat (qkc h)
theorem q6t{c:Ct}{s:Ste}(h:stE c s=0):stE c (qgr c s)=0:=by
 obtain⟨hc,hS,h1,h2,h3⟩:=qgk.1 h
 exact qgk.2 ⟨hc,⟨hS.e,by unfold qgr;rw[List.length_mapIdx];exact hS.w,hS.i,hS.v,hS.t⟩,h1,h2,h3⟩
theorem zmj{v:Bool}{e:Int}(h:0<=e/\e<4):0<=qsq v e/\qsq v e<4:=by
 unfold qsq
 split
 .omega
 .split
  .omega
  .exact h
theorem q7i{c:Ct}{s:Ste}(h:stE c s=0):stE c (qkb s)=0:=by
 obtain⟨hc,hS,h1,h2,h3⟩:=qgk.1 h
 have hl:(List.zipWith qsq s.valves s.ends).length=s.ends.length:=by
  have:=hS.e
  have:=hS.w
  rw[List.length_zipWith]
  omega
 refine qgk.2 ⟨hc,⟨by unfold qkb;rw[hl];exact hS.e,hS.w,hS.i,hS.v,hS.t⟩,qge.2 fun x hx=>?_,h2,h3⟩
 unfold qkb at hx
 obtain⟨k,hk,rfl⟩:=List.getElem_of_mem hx
 rw[List.getElem_zipWith]
 exact zmj ((qge.1 h1) _ (jH _))
theorem qnp{c:Ct}{N:Nat}:∀{d:Nat} {s:Ste} {l:List Int} {t:Ste} {m:List Int},stE c s=0->qev c N d s l=some (t,m)->stE c t=0
 | 0,_,_,_,_,_,h=>by cases h
 | d+1,s,l,t,m,hs,h=>by
  rw[qev]at h
  split at h
  .cases h;exact hs
  .exact qnp (qud hs) h
theorem qkw{c:Ct}{s t:Ste}{m:List Int}(hs:stE c s=0)(h:qdd c s=some (t,m)):stE c t=0:=qnp hs h
theorem qlo{c:Ct}{s t:Ste}{m:List Int}(hs:stE c s=0)(h:qcy c s=some (t,m)):stE c t=0:=by
 unfold qcy at h
 cases e:qdd c s with
 | none=>rw[e]at h;cases h
 | some x =>
  rw[e]at h
  cases h
  exact q7i (q6t (qkw hs e))
theorem qsh{c:Ct}:∀{d:Nat} {s:Ste} {l:List Int} {t:Ste} {m:List Int},stE c s=0->qgb c d s l=some (t,m)->stE c t=0
 | 0,_,_,_,_,_,h=>by cases h
 | d+1,s,l,t,m,hs,h=>by
  rw[qgb]at h
  cases e:qcy c s with
  | none=>rw[e]at h;cases h
  | some x =>
   rw[e]at h
   simp only at h
   split at h
   .cases h;exact hs
   .exact qsh (qlo hs (show qcy c s=some (x.1,x.2)from e)) h
theorem qod{c:Ct}{s t:Ste}{m:List Int}(hs:stE c s=0)(h:qlg c s=some (t,m)):stE c t=0:=qsh hs h
theorem qyn(s:Ste):qln s s=true:=qik.2 rfl
theorem qsa{c:Ct}:∀{d:Nat} {s:Ste} {l:List Int} {t:Ste} {m:List Int},qgb c d s l=some (t,m)->∃a,qcy c t=some (t,a)
 | 0,_,_,_,_,h=>by cases h
 | d+1,s,l,t,m,h=>by
  rw[qgb]at h
  cases e:qcy c s with
  | none=>rw[e]at h;cases h
  | some x =>
   rw[e]at h
   simp only at h
   split at h
   .rename_i hs
    cases h
    have:=qik.1 hs
    exact⟨x.2,by rw[e,this]⟩
   .exact qsa h
theorem qtq{c:Ct}{s t:Ste}{m:List Int}(h:qlg c s=some (t,m)):∃a,qcy c t=some (t,a):=qsa h
theorem zcq{c:Ct}{t:Ste}{a:List Int}(h:qcy c t=some (t,a)):qlg c t=some (t,norm (qlq c) a):=by
 unfold qlg
 rw[qgb,h]
 simp only[qyn,if_true,List.nil_append]
theorem qoh{c:Ct}{N:Nat}:∀{d:Nat} {s:Ste} {l:List Int} {t:Ste} {m:List Int},qev c N d s l=some (t,m)->t.ends=s.ends/\t.valves=s.valves/\t.inputs=s.inputs
 | 0,_,_,_,_,h=>by cases h
 | d+1,s,l,t,m,h=>by
  rw[qev]at h
  split at h
  .cases h;exact⟨rfl,rfl,rfl⟩
  .exact qoh (s:=qli c s) h
theorem qiq{c:Ct}{s t:Ste}{m:List Int}(h:qdd c s=some (t,m)):t.ends=s.ends/\t.valves=s.valves/\t.inputs=s.inputs:=qoh h
theorem qix{c:Ct}{s t:Ste}{a:List Int}(h:qcy c s=some (t,a)):∃u m,qdd c s=some (u,m)/\t=qkb (qgr c u)/\a=norm (qlq c) (m++qny c u):=by
 unfold qcy at h
 cases e:qdd c s with
 | none=>rw[e]at h;cases h
 | some x =>
  rw[e]at h
  cases h
  exact⟨x.1,x.2,rfl,rfl,rfl⟩
theorem qzn{c:Ct}{s t:Ste}{a:List Int}(h:qcy c s=some (t,a)):t.inputs=s.inputs:=by
 obtain⟨u,m,hu,rfl,_⟩:=qix h
 exact(qiq hu).2.2
theorem qpb{c:Ct}:∀{d:Nat} {s:Ste} {l:List Int} {t:Ste} {m:List Int},qgb c d s l=some (t,m)->t.inputs=s.inputs
 | 0,_,_,_,_,h=>by cases h
 | d+1,s,l,t,m,h=>by
  rw[qgb]at h
  cases e:qcy c s with
  | none=>rw[e]at h;cases h
  | some x =>
   rw[e]at h
   simp only at h
   split at h
   .cases h;rfl
   .rw[qpb h,qzn (show qcy c s=some (x.1,x.2)from e)]
theorem q2m{c:Ct}{s t:Ste}{m:List Int}(h:qlg c s=some (t,m)):t.inputs=s.inputs:=qpb h
theorem qnz{c:Ct}{t:Ste}{a:List Int}(h:qcy c t=some (t,a)):(∃m,qdd c t=some (t,m))/\qgr c t=t/\qkb t=t:=by
 obtain⟨u,m,hu,ht,_⟩:=qix h
 obtain⟨h1,h2,h3⟩:=qiq hu
 have e4:t.values=u.values:=by rw[ht];rfl
 have e5:t.timers=u.timers:=by rw[ht];rfl
 have hut:u=t:=by
  cases u;cases t
  simp only at h1 h2 h3 e4 e5
  subst h1 h2 h3 e4 e5
  rfl
 subst hut
 have hv:(qgr c u).valves=u.valves:=by
  have:=congrArg Ste.valves ht
  exact this.symm
 have hvv:qgr c u=u:=by
  have e:qgr c u=⟨u.ends,(qgr c u).valves,u.inputs,u.values,u.timers⟩:=rfl
  rw[e,hv]
 rw[hvv]at ht
 exact⟨⟨m,hu⟩,hvv,ht.symm⟩
theorem zha{c:Ct}{t:Ste}{a:List Int}(hs:stE c t=0)(h:qcy c t=some (t,a)){i:Nat}(hi:i<t.ends.length)(hv:i<t.valves.length):t.valves[i]=(t.ends[i]==2||t.ends[i]==1):=by
 obtain⟨_,_,hg⟩:=qnz h
 have he:=(qge.1 (qgk.1 hs).2.2.1) _ (jH hi)
 have h2:(qkb t).ends[i]?=t.ends[i]?:=by rw[hg]
 unfold qkb at h2
 simp only at h2
 rw[List.getElem?_zipWith,jA hv,jA hi]at h2
 simp only[jC]at h2
 generalize t.ends[i]=e at *
 generalize t.valves[i]=v at *
 unfold qsq at h2
 cases v with
 | true =>
  simp at h2
  have h3:e≠0/\e≠3:=by omega
  have:e=1\/e=2:=by omega
  rcases this with rfl | rfl<;>rfl
 | false =>
  simp at h2
  have:e=0\/e=3:=by omega
  rcases this with rfl | rfl<;>rfl
theorem q6e{c:Ct}{t:Ste}{a:List Int}(h:qcy c t=some (t,a)){i:Nat}(hv:i<t.valves.length)(hp:qdq (qah t) c.plus i≠qdq (qah t) c.minus i):t.valves[i]=qdq (qah t) c.plus i:=by
 obtain⟨_,hg,_⟩:=qnz h
 have h2:(qgr c t).valves[i]?=t.valves[i]?:=by rw[hg]
 unfold qgr at h2
 simp only at h2
 rw[List.getElem?_mapIdx,jA hv]at h2
 simp only[Option.map_some,jC]at h2
 unfold qpi at h2
 rw[if_pos (by rw[bne_iff_ne];exact hp)]at h2
 exact h2.symm
structure Evn where
 kind:Int
 idx:Int
 val:Bool
abbrev Evn.row(x:Evn):List V:=[num x.kind,num x.idx,.bool x.val]
def qrq(a b:Ste)(i:Nat):Option (Int×Bool):=match a.ends[i]?,b.ends[i]? with
 | some x,some y=>if(y=1\/y=3)/\x≠y then some (i,y==1)else none
 | _,_=>none
def qfh(a b:Ste):List (Int×Bool):=(List.range a.ends.length).filterMap (qrq a b)
def qqs(s:Ste)(k:Int)(i:Nat):Bool:=if k=0 then((s.ends[i]?).map fun e=>e==1||e==3).getD false else((s.timers[i]?).map fun t=>t==1).getD false
def qvj(s:Ste)(x:Evn):Bool :=
 if x.idx<0 then false
 else if x.kind=2 then((s.inputs[x.idx.toNat]?).map fun v=>v != x.val).getD false
 else qqs s x.kind x.idx.toNat
def qes(s:Ste)(x:Evn):Ste :=
 if x.kind=0 then⟨s.ends.set x.idx.toNat (if s.ends[x.idx.toNat]?=some 1 then 2 else 0),s.valves,s.inputs,s.values,s.timers⟩
 else if x.kind=1 then⟨s.ends,s.valves,s.inputs,s.values.set x.idx.toNat true,s.timers.set x.idx.toNat 2⟩
 else⟨s.ends,s.valves,s.inputs.set x.idx.toNat x.val,s.values,s.timers⟩
def qjg(c:Ct)(s:Ste):Ste×List Int×Int:=match qlg c s with
 | some x=>(x.1,x.2,0)
 | none=>(zeroS,[],21)
def qay(c:Ct)(s:Ste)(x:Evn):Ste×List Int×Int :=
 if x.kind<0\/2<x.kind then(zeroS,[],1)else if qvj s x=true then qjg c (qes s x)else(zeroS,[],14)
structure Crs where
 st:Ste
 strokes:List (List (Int×Bool))
 conf:List Int
def q7f:Crs:=⟨zeroS,[],[]⟩
def zta(c:Ct):List Evn->Nat->Crs->Crs×Int×Int
 | [],_,r=>(r,0,0)
 | x :: l,i,r=>if(qay c r.st x).2.2=0 then zta c l (i+1) ⟨(qay c r.st x).1,r.strokes++[qfh r.st (qay c r.st x).1],norm (qlq c) (r.conf++(qay c r.st x).2.1)⟩else(q7f,i,(qay c r.st x).2.2)
theorem q8c{s:Ste}{i:Nat}(h:qqs s 0 i=true):∃hi:i<s.ends.length,s.ends[i]=1\/s.ends[i]=3:=by
 unfold qqs at h
 rw[if_pos rfl]at h
 by_cases hi:i<s.ends.length
 .rw[jA hi]at h
  simp at h
  exact⟨hi,h⟩
 .rw[jX (by omega)]at h
  simp at h
theorem zco{s:Ste}{i:Nat}(h:qqs s 1 i=true):∃hi:i<s.timers.length,s.timers[i]=1:=by
 unfold qqs at h
 rw[if_neg (by omega)]at h
 by_cases hi:i<s.timers.length
 .rw[jA hi]at h
  simp at h
  exact⟨hi,h⟩
 .rw[jX (by omega)]at h
  simp at h
theorem qft{c:Ct}{s:Ste}{x:Evn}(hs:stE c s=0)(hk:¬(x.kind<0\/2<x.kind))(hm:qvj s x=true):stE c (qes s x)=0:=by
 obtain⟨hc,hS,h1,h2,h3⟩:=qgk.1 hs
 unfold qvj at hm
 split at hm
 .cases hm
 .unfold qes
  by_cases hk0:x.kind=0
  .rw[if_pos hk0]
   refine qgk.2 ⟨hc,⟨by simp only[jU];exact hS.e,hS.w,hS.i,hS.v,hS.t⟩,qge.2 fun y hy=>?_,h2,h3⟩
   rcases jT hy with h | h
   .exact qge.1 h1 y h
   .rw[h];split<;>omega
  .rw[if_neg hk0]
   by_cases hk1:x.kind=1
   .rw[if_pos hk1]
    rw[if_neg (by omega),hk1]at hm
    obtain⟨hi,ht⟩:=zco hm
    generalize x.idx.toNat=n at *
    have hnc:n<c.signals.length:=by rw[<-hS.t];exact hi
    have hS':Shp c ⟨s.ends,s.valves,s.inputs,s.values.set n true,s.timers.set n 2⟩:=⟨hS.e,hS.w,hS.i,by simp only[jU];exact hS.v,by simp only[jU];exact hS.t⟩
    refine qgk.2 ⟨hc,hS',h1,qge.2 fun y hy=>?_,fun k hk=>?_⟩
    .rcases jT hy with h | h
     .exact qge.1 h2 y h
     .rw[h];omega
    .simp only[jU]at hk
     have hkc:k<c.signals.length:=by rw[<-hS.t];exact hk
     rw[qyw hS' hkc]
     simp only[List.getElem_set]
     by_cases hkn:n=k
     .subst hkn
      have hq:=h3 n hi
      rw[qyw hS hkc,ht]at hq
      simp only[if_true]
      have hkind:c.signals[n].kind=2:=by
       simp[tmB]at hq
       exact hq.1
      rw[hkind]
      rfl
     .rw[if_neg hkn,if_neg hkn,<-qyw hS hkc]
      exact h3 k hk
   .rw[if_neg hk1]
    exact qgk.2 ⟨hc,⟨hS.e,hS.w,by simp only[jU];exact hS.i,hS.v,hS.t⟩,h1,h2,h3⟩
theorem q1p{c:Ct}{s:Ste}{x:Evn}(hs:stE c s=0)(h:(qay c s x).2.2=0):stE c (qay c s x).1=0:=by
 unfold qay at h ⊢
 split at h
 .cases h
 .rename_i h1
  rw[if_neg h1]
  split at h
  .rename_i h2
   rw[if_pos h2]
   unfold qjg at h ⊢
   cases e:qlg c (qes s x)with
   | none=>rw[e]at h;cases h
   | some y =>
    simp only
    exact qod (qft hs h1 h2) (show qlg c (qes s x)=some (y.1,y.2)from e)
  .cases h
def qja(c:Ct):Ste:=⟨List.replicate c.act.toNat 0,List.replicate c.act.toNat false,List.replicate c.inputs.length false,c.signals.map Sg.init,List.replicate c.signals.length 0⟩
def qif(c:Ct):Ste:=qfb c (qja c)
theorem qrx{c:Ct}(hc:c.check=0):stE c (qja c)=0:=by
 have hact:1<=c.act:=by
  unfold Ct.check at hc
  split at hc
  .cases hc
  .omega
 have hS:Shp c (qja c):=⟨by unfold qja;rw[kB];omega,by unfold qja;rw[kB];omega,by unfold qja;rw[kB],by unfold qja;rw[List.length_map],by unfold qja;rw[kB]⟩
 refine qgk.2 ⟨hc,hS,qge.2 fun y hy=>?_,qge.2 fun y hy=>?_,fun k hk=>?_⟩
 .rw[(List.mem_replicate.1 hy).2];omega
 .rw[(List.mem_replicate.1 hy).2];omega
 .have hkc:k<c.signals.length:=by rw[<-hS.t];exact hk
  rw[qyw hS hkc]
  unfold qja
  simp only[List.getElem_map,List.getElem_replicate]
  have hz:=qtc hc k _ (jA hkc)
  generalize c.signals[k]=x at *
  by_cases h2:x.kind=2
  .have hi:x.init=false:=by
    cases hb:x.init with
    | false=>rfl
    | true =>
     exfalso
     unfold q4v at hz
     split at hz
     .split at hz
      .cases hz
      .split at hz
       .split at hz
        .rename_i h4;exact h4.2 hz
        .split at hz
         .cases hz
         .split at hz
          .cases hz
          .rw[if_pos (.inl ⟨by omega,.inr hb⟩)]at hz
           cases hz
       .rename_i h4;exact h4 hz
     .rename_i h4;exact h4 hz
   rw[h2,hi]
   rfl
  .simp[tmB,h2]
theorem qep{c:Ct}(hc:c.check=0):stE c (qif c)=0:=qkc (qrx hc)
end Go.Proofs.YtddeacahiilikaaGreat
