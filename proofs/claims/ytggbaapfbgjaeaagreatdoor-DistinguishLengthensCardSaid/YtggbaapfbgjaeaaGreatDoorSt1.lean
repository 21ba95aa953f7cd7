/- How the. -/
import Derived.Test.YtggbaapfbgjaeaaGreatDoorLi1
set_option linter.all false
namespace Go.Proofs.YtggbaapfbgjaeaaGreatDoor
open Go Go.Am Go.Proofs
set_option maxRecDepth 100000
theorem znm{x y:Ex}{v:Int}(ho:x.op≠1)(hy:y∈x.args)(h:y.occ v=true):x.occ v=true:=by
 rw[qzw,if_neg ho];have:∀l:List Ex,y∈l->q2l v l=true:=by
  intro l;induction l with
  | nil=>intro h;cases h
  | cons z l ih =>
   intro hm;rw[q2l];rcases List.mem_cons.1 hm with rfl | hm
   .rw[h];rfl
   .rw[ih hm,Bool.or_true]
 exact this _ hy
theorem q7r{N:Int}{M M':List Bool}:∀x:Ex,x.err N=0->(∀v:Nat,x.occ v=true->M[v]?=M'[v]?)->x.holds M=x.holds M':=by
 refine Ex.ind fun x ih he h=>?_;obtain⟨hn,hargs⟩:=qhj he;rw[qog,qog];by_cases h1:x.op=1
 .obtain⟨hi0,_⟩:=qjt hn h1;have:=h x.idx.toNat (by rw[qzw,if_pos h1,Int.toNat_of_nonneg hi0];simp)
  rw[h1,this];simp
 .have hm:x.args.map (Ex.holds M)=x.args.map (Ex.holds M'):=List.map_congr_left fun y hy=>ih y hy (hargs y hy) fun v hv=>h v (znm h1 hy hv);rw[if_neg h1,if_neg h1,hm]
theorem q7o{c:Ct}{F i v:Nat}{L:List Bool}(h:v≠F+i\/(∀x,c.signals[i]?=some x->x.kind≠0)):(qgi c F i L)[v]?=L[v]?:=by
 unfold qgi;split
 .rename_i x hx;split
  .rename_i h0;rcases h with h | h
   .rw[jO (by omega)]
   .exact absurd h0 (h x hx)
  .rfl
 .rfl
theorem qjq{c:Ct}{F v k:Nat}{L:List Bool}(h:∀j,k<=j->v≠F+j\/(∀x,c.signals[j]?=some x->x.kind≠0)):∀d,(qbd c F (k+d) L)[v]?=(qbd c F k L)[v]?
 | 0=>rfl
 | d+1=>by rw[<-Nat.add_assoc,qbd,q7o (h (k+d) (by omega)),qjq h d]
def zem(c:Ct)(F N:Nat):Prop:=∀(i:Nat) (x:Sg),c.signals[i]?=some x->x.on.err N=0/\(x.kind=0->∀(j:Nat) (y:Sg),i<=j->c.signals[j]?=some y->y.kind=0->x.on.occ (F+j:Nat)=false)
theorem zhc{c:Ct}{F N:Nat}(hg:zem c F N){L:List Bool}{i:Nat}{x:Sg}(hi:c.signals[i]?=some x)(h0:x.kind=0)(hF:F+i<L.length):(qbd c F c.signals.length L)[F+i]?=some (x.on.holds (qbd c F c.signals.length L)):=by
 have hil:i<c.signals.length:=by
  rcases Nat.lt_or_ge i c.signals.length with h | h
  .exact h
  .rw[jY h]at hi;cases hi
 obtain⟨d,hd⟩:∃d,c.signals.length=(i+1)+d:=⟨c.signals.length-(i+1),by omega⟩
 have h1:(qbd c F c.signals.length L)[F+i]?=(qbd c F (i+1) L)[F+i]?:=by rw[hd];exact qjq (fun j hj=>.inl (by omega)) d
 have h2:(qbd c F (i+1) L)[F+i]?=some (x.on.holds (qbd c F i L)):=by rw[qbd,qgi,hi];simp only[h0,if_true];rw[jN (by rw[qfd];exact hF)]
 have h3:x.on.holds (qbd c F i L)=x.on.holds (qbd c F c.signals.length L):=by
  refine(q7r x.on (hg i x hi).1 fun v hv=>?_).symm;have:c.signals.length=i+(d+1):=by omega
  rw[this];refine qjq (fun j hj=>?_) (d+1);by_cases hvj:v=F+j
  .refine .inr fun y hy hk=>?_;have:=(hg i x hi).2 h0 j y hj hy hk;rw[<-hvj,hv]at this;cases this
  .exact .inl hvj
 rw[h1,h2,h3]
theorem q2v{c:Ct}(h:c.check=0):∀i x,c.signals[i]?=some x->q8k c c.act.toNat (qay c c.act.toNat (qal c c.act.toNat+i)) i x=0:=by
 have h2:ctE c c.act.toNat=0:=by
  unfold Ct.check at h;split at h
  .cases h
  .split at h
   .cases h
   .exact h
 unfold ctE at h2;split at h2
 .split at h2
  .rename_i hs;intro i x hx;have hil:i<c.signals.length:=by
    rcases Nat.lt_or_ge i c.signals.length with h | h
    .exact h
    .rw[jY h]at hx;cases hx
   have h3:=qqw hs i (by omega) (by omega);unfold qvd at h3;rw[hx]at h3;exact h3
  .rename_i h4;exact absurd h2 h4
 .rename_i h4;exact absurd h2 h4
theorem zco{c:Ct}(h:c.check=0)(hfew:c.small=true):zem c (qal c c.act.toNat) (qac c c.act.toNat):=by
 have hR:=qiy h hfew;intro i x hx;have hmem:x∈c.signals:=jR hx;refine⟨hR.on x hmem,fun h0 j y hij hy hk=>?_⟩;have hs:=q2v h i x hx;cases hocc:x.on.occ (qal c c.act.toNat+j:Nat)with
 | false=>rfl
 | true =>
  exfalso;have hl:qgv x.on (qal c c.act.toNat) i (c.signals.drop i)=true:=by
   rw[qsq];refine⟨j-i,y,?_,hk,?_⟩
   .rw[List.getElem?_drop,show i+(j-i)=j by omega];exact hy
   .rw[show i+(j-i)=j by omega];exact hocc
  unfold q8k at hs;split at hs
  .split at hs
   .cases hs
   .split at hs
    .split at hs
     .rename_i h4;exact h4.2 hs
     .rw[if_pos ⟨h0,hl⟩]at hs;cases hs
    .rename_i h4;exact h4 hs
  .rename_i h4;exact h4 hs
theorem q6g{c:Ct}{s:Ste}(hS:Shp c s):qao s=qal c c.act.toNat:=by have h1:=hS.e;have h2:=hS.i;unfold qao qal;omega
theorem qyd{c:Ct}{s:Ste}(hS:Shp c s):(qae s).length=qac c c.act.toNat:=by have h1:=hS.e;have h2:=hS.i;have h3:=hS.v;rw[qdk];unfold qac;omega
theorem qlg{c:Ct}{s:Ste}(h:stE c s=0):stE c (qdo c s)=0:=by
 obtain⟨hc,hS⟩:=qig h;have hlen:=qko (c:=c) s;have hS':Shp c (qdo c s):=⟨hS.e,hS.w,hS.i,by rw[hlen];exact hS.v,hS.t⟩
 unfold stE at h ⊢;rw[if_pos hc]at h ⊢;unfold zkg at h ⊢;rw[if_pos hS]at h;rw[if_pos hS'];have e1:(qdo c s).ends=s.ends:=rfl;have e2:(qdo c s).timers=s.timers:=rfl;rw[e1,e2];by_cases hb:s.ends.any (qfv 4)=true\/s.timers.any (qfv 3)=true
 .rw[if_pos hb]at h;cases h
 .rw[if_neg hb]at h ⊢;by_cases ha:zqk (tmF c s) s.timers.length=true
  .rw[if_pos ha]at h;cases h
  .have hno:∀k,k<s.timers.length->tmF c s k=false:=fun k hk=>by
    cases hq:tmF c s k with
    | false=>rfl
    | true=>exact absurd (q6x hk hq) ha
   rw[if_neg];rw[q1h fun k hk=>?_]
   .simp
   .have hq:=hno k hk;unfold tmF at hq ⊢;rw[e2];have hkc:k<c.signals.length:=by have:=hS.t;omega
    rw[jA hkc]at hq ⊢;simp only[Option.map_some,Option.getD_some]at hq ⊢;by_cases hk2:c.signals[k].kind=2
    .have hv:(qdo c s).values[k]?=s.values[k]?:=by
      unfold qdo;simp only;rw[List.getElem?_drop,qwi];have:=qjq (c:=c) (F:=qao s) (v:=qao s+k) (k:=0) (L:=qae s) (fun j _=>by
       by_cases hjk:j=k
       .refine .inr fun x hx=>?_;rw[hjk,jA hkc]at hx;cases hx;omega
       .exact .inl (by omega)) c.signals.length
      rw[Nat.zero_add]at this;rw[this,qbd,<-List.getElem?_drop,qlk]
     rw[hv];exact hq
    .unfold tmB at hq ⊢;simp[hk2]at hq ⊢;exact hq
theorem zym{c:Ct}{s:Ste}(hc:c.check=0)(hS:Shp c s)(h1:s.ends.any (qfv 4)=false)(h2:s.timers.any (qfv 3)=false)(h3:∀k,k<s.timers.length->tmF c s k=false):stE c s=0:=by unfold stE zkg;rw[if_pos hc,if_pos hS,h1,h2,q1h h3];simp
theorem zjp{c:Ct}{s:Ste}(h:stE c s=0):s.ends.any (qfv 4)=false/\s.timers.any (qfv 3)=false/\∀k,k<s.timers.length->tmF c s k=false:=by
 obtain⟨hc,hS⟩:=qig h;unfold stE zkg at h;rw[if_pos hc,if_pos hS]at h;by_cases hb:s.ends.any (qfv 4)=true\/s.timers.any (qfv 3)=true
 .rw[if_pos hb]at h;cases h
 .rw[if_neg hb]at h;refine⟨by simpa using fun e=>hb (.inl e),by simpa using fun e=>hb (.inr e),fun k hk=>?_⟩;cases hq:tmF c s k with
  | false=>rfl
  | true=>rw[if_pos (q6x hk hq)]at h;cases h
def mix{α:Type}(A B:List α)(k:Nat):List α:=A.take k++B.drop k
theorem qhl{α:Type}(A B:List α):mix A B 0=B:=by simp[mix]
theorem qkf{α:Type}{A B:List α}(h:A.length=B.length):mix A B A.length=A:=by unfold mix;rw[List.take_length,jX (by omega),List.append_nil]
theorem qlp{α:Type}{A B:List α}(h:A.length=B.length){k:Nat}(hk:k<=A.length):(mix A B k).length=A.length:=by unfold mix;rw[jF,List.length_take,List.length_drop];omega
theorem qsr{α:Type}{A B:List α}(h:A.length=B.length){k:Nat}(hk:k<A.length):(mix A B k)[k]?=B[k]?:=by unfold mix;rw[jJ (by rw[List.length_take];omega),List.length_take,List.getElem?_drop];congr 1;omega
theorem qkg{α:Type}{A B:List α}(h:A.length=B.length){k:Nat}(hk:k<A.length):(mix A B k).set k A[k]=mix A B (k+1):=by
 have hkB:k<B.length:=by omega
 unfold mix;rw[jK hk,jL hkB];have hl:(A.take k).length=k:=by rw[List.length_take];omega
 rw[List.set_append_right k _ (by omega),hl,Nat.sub_self,List.set_cons_zero,List.append_assoc];rfl
abbrev q3l(x:Sg)(L:List Bool):Bool:=decide (x.kind=1)&&x.off.holds L
def qlz(x:Sg)(L:List Bool)(v:Bool)(t:Int):Bool×Int :=
 if x.kind=1 then(if x.on.holds L != x.off.holds L then(x.on.holds L,t)else(v,t))
 else if x.kind=2 then(if x.on.holds L=true then(if t=0 then(v,1)else(v,t))else(false,0))
 else(v,t)
def q8o(L:List Bool):List Sg->List Bool->List Int->List (Bool×Int)
 | x :: l,v :: w,t :: u=>qlz x L v t :: q8o L l w u
 | _,_,_=>[]
theorem qje(L:List Bool):∀{l:List Sg} {w:List Bool} {u:List Int},w.length=l.length->u.length=l.length->(q8o L l w u).length=l.length
 | [],_,_,_,_=>by simp[q8o]
 | x :: l,[],_,h,_=>by simp at h
 | x :: l,v :: w,[],_,h=>by simp at h
 | x :: l,v :: w,t :: u,h1,h2=>by simp only[List.length_cons]at h1 h2;rw[q8o,List.length_cons,qje L (by omega) (by omega),List.length_cons]
theorem qnu(L:List Bool):∀{l:List Sg} {w:List Bool} {u:List Int} {k:Nat} {x:Sg} {v:Bool} {t:Int},l[k]?=some x->w[k]?=some v->u[k]?=some t->(q8o L l w u)[k]?=some (qlz x L v t)
 | [],_,_,_,_,_,_,h,_,_=>by simp at h
 | x :: l,[],_,_,_,_,_,_,h,_=>by simp at h
 | x :: l,v :: w,[],_,_,_,_,_,_,h=>by simp at h
 | x :: l,v :: w,t :: u,0,_,_,_,h1,h2,h3=>by simp at h1 h2 h3;subst h1 h2 h3;rfl
 | x :: l,v :: w,t :: u,k+1,_,_,_,h1,h2,h3=>by simp at h1 h2 h3;rw[q8o,List.getElem?_cons_succ];exact qnu L h1 h2 h3
abbrev qde(c:Ct)(g:Ste):List (Bool×Int):=q8o (qae g) c.signals g.values g.timers
def qwz(c:Ct)(g:Ste):Ste:=⟨g.ends,g.valves,g.inputs,(qde c g).map Prod.fst,(qde c g).map Prod.snd⟩
def qgl(c:Ct)(s:Ste):Ste:=qwz c (qdo c s)
def q6q(c:Ct)(L:List Bool)(i:Nat):Bool:=((c.signals[i]?).map fun x=>x.on.holds L&&q3l x L).getD false
def quj(c:Ct)(s:Ste):List Int:=qsb (q6q c (qae (qdo c s))) (qao s) c.signals.length
def qcx(c:Ct)(N:Nat):Nat->Ste->List Int->Option (Ste×List Int)
 | 0,_,_=>none
 | d+1,s,l=>if qja (qgl c s) s=true then some (s,norm N (l++quj c s))else qcx c N d (qgl c s) (l++quj c s)
def qbx(c:Ct)(s:Ste):Option (Ste×List Int):=qcx c (qac c c.act.toNat) 65 s []
abbrev qbo(L:List Bool)(p:List Int)(i:Nat):Bool:=((p[i]?).map fun j=>(L[j.toNat]?).getD false).getD false
def qjg(c:Ct)(L:List Bool)(i:Nat)(v:Bool):Bool:=if qbo L c.plus i != qbo L c.minus i then qbo L c.plus i else v
def qgo(c:Ct)(s:Ste):Ste:=⟨s.ends,s.valves.mapIdx (qjg c (qae s)),s.inputs,s.values,s.timers⟩
def qmo(c:Ct)(s:Ste):List Int:=qsb (fun i=>qbo (qae s) c.plus i&&qbo (qae s) c.minus i) (qac c c.act.toNat) c.act.toNat
def qkq(v:Bool)(e:Int):Int:=if v=true/\(e=0\/e=3)then 1 else if v=false/\(e=2\/e=1)then 3 else e
def qkd(s:Ste):Ste:=⟨List.zipWith qkq s.valves s.ends,s.valves,s.inputs,s.values,s.timers⟩
abbrev qqk(c:Ct):Nat:=qac c c.act.toNat+c.act.toNat
def qcd(c:Ct)(s:Ste):Option (Ste×List Int):=(qbx c s).map fun x=>(qkd (qgo c x.1),norm (qqk c) (x.2++qmo c x.1))
def qgw(c:Ct):Nat->Ste->List Int->Option (Ste×List Int)
 | 0,_,_=>none
 | d+1,s,l=>match qcd c s with
  | none=>none
  | some x=>if qja s x.1=true then some (s,norm (qqk c) (l++x.2))else qgw c d x.1 (norm (qqk c) (l++x.2))
def qix(c:Ct)(s:Ste):Option (Ste×List Int):=qgw c 65 s []
theorem qib{c:Ct}{s:Ste}:stE c s=0<->c.check=0/\Shp c s/\s.ends.any (qfv 4)=false/\s.timers.any (qfv 3)=false/\∀k,k<s.timers.length->tmF c s k=false :=
 ⟨fun h=>⟨(qig h).1,(qig h).2,zjp h⟩,fun h=>zym h.1 h.2.1 h.2.2.1 h.2.2.2.1 h.2.2.2.2⟩
theorem qgx{n:Int}{l:List Int}:l.any (qfv n)=false<->∀x∈l,0<=x/\x<n:=by
 rw[List.any_eq_false];constructor
 .intro h x hx;have:=h x hx;simp only[qfv,Bool.or_eq_true,jW,not_or]at this;omega
 .intro h x hx;have:=h x hx;simp only[qfv,Bool.or_eq_true,jW,not_or];omega
theorem q0u{c:Ct}{s:Ste}(hS:Shp c s){k:Nat}(hk:k<c.signals.length):tmF c s k=tmB c.signals[k].kind (s.values[k]'(by rw[hS.v];exact hk)) (s.timers[k]'(by rw[hS.t];exact hk)):=by unfold tmF;rw[jA hk,jA (by rw[hS.v];exact hk),jA (by rw[hS.t];exact hk)];rfl
theorem q8p{x:Sg}{L:List Bool}{v:Bool}{t:Int}(h:tmB x.kind v t=false)(ht:0<=t/\t<3):tmB x.kind (qlz x L v t).1 (qlz x L v t).2=false/\0<=(qlz x L v t).2/\(qlz x L v t).2<3:=by
 unfold qlz;by_cases h1:x.kind=1
 .rw[if_pos h1];rw[h1]at h ⊢;simp[tmB]at h ⊢;split<;>exact⟨h,ht⟩
 .rw[if_neg h1];by_cases h2:x.kind=2
  .rw[if_pos h2];rw[h2]at h ⊢;simp[tmB]at h;split
   .split
    .rename_i h0;subst h0;subst h;exact⟨by decide,by simp⟩
    .refine⟨?_,ht⟩;simp[tmB,h]
   .exact⟨by decide,by simp⟩
  .rw[if_neg h2];exact⟨h,ht⟩
theorem zdm{c:Ct}{g:Ste}(h:stE c g=0):stE c (qwz c g)=0:=by
 obtain⟨hc,hS,h1,h2,h3⟩:=qib.1 h;have hlen:(qde c g).length=c.signals.length:=qje _ hS.v hS.t;have hS':Shp c (qwz c g):=⟨hS.e,hS.w,hS.i,by unfold qwz;rw[List.length_map,hlen],by unfold qwz;rw[List.length_map,hlen]⟩
 have hall:∀k (hk:k<c.signals.length),∃v t,(qde c g)[k]?=some (v,t)/\tmB c.signals[k].kind v t=false/\0<=t/\t<3:=by
  intro k hk;have hkv:k<g.values.length:=by rw[hS.v];exact hk
  have hkt:k<g.timers.length:=by rw[hS.t];exact hk
  have hg:=qnu (qae g) (jA hk) (jA hkv) (jA hkt);have ht:=(qgx.1 h2) _ (jH hkt);have hq:=h3 k hkt;rw[q0u hS hk]at hq;have:=q8p (L:=qae g) hq ht;exact⟨_,_,hg,this.1,this.2⟩
 refine qib.2 ⟨hc,hS',h1,qgx.2 fun x hx=>?_,fun k hk=>?_⟩
 .unfold qwz at hx;obtain⟨k,hk,rfl⟩:=List.getElem_of_mem hx;rw[List.getElem_map];rw[List.length_map,hlen]at hk;obtain⟨v,t,e,_,hr⟩:=hall k hk;rw[jA (by rw[hlen];exact hk)]at e;rw[Option.some.inj e];exact hr
 .have hk':k<c.signals.length:=by rw[<-hS'.t];exact hk
  rw[q0u hS' hk'];obtain⟨v,t,e,hr,_⟩:=hall k hk';unfold qwz;simp only[List.getElem_map];rw[jA (by rw[hlen];exact hk')]at e;rw[Option.some.inj e];exact hr
theorem qxa{c:Ct}{s:Ste}(h:stE c s=0):stE c (qgl c s)=0:=zdm (qlg h)
theorem q8r{c:Ct}{s:Ste}(h:stE c s=0):stE c (qgo c s)=0:=by obtain⟨hc,hS,h1,h2,h3⟩:=qib.1 h;exact qib.2 ⟨hc,⟨hS.e,by unfold qgo;rw[List.length_mapIdx];exact hS.w,hS.i,hS.v,hS.t⟩,h1,h2,h3⟩
theorem zmp{v:Bool}{e:Int}(h:0<=e/\e<4):0<=qkq v e/\qkq v e<4:=by
 unfold qkq;split
 .omega
 .split
  .omega
  .exact h
theorem q7q{c:Ct}{s:Ste}(h:stE c s=0):stE c (qkd s)=0:=by
 obtain⟨hc,hS,h1,h2,h3⟩:=qib.1 h;have hl:(List.zipWith qkq s.valves s.ends).length=s.ends.length:=by have:=hS.e;have:=hS.w;rw[List.length_zipWith];omega
 refine qib.2 ⟨hc,⟨by unfold qkd;rw[hl];exact hS.e,hS.w,hS.i,hS.v,hS.t⟩,qgx.2 fun x hx=>?_,h2,h3⟩;unfold qkd at hx;obtain⟨k,hk,rfl⟩:=List.getElem_of_mem hx;rw[List.getElem_zipWith];exact zmp ((qgx.1 h1) _ (jH _))
theorem qpj{c:Ct}{N:Nat}:∀{d:Nat} {s:Ste} {l:List Int} {t:Ste} {m:List Int},stE c s=0->qcx c N d s l=some (t,m)->stE c t=0
 | 0,_,_,_,_,_,h=>by cases h
 | d+1,s,l,t,m,hs,h=>by
  rw[qcx]at h;split at h
  .cases h;exact hs
  .exact qpj (qxa hs) h
theorem qlx{c:Ct}{s t:Ste}{m:List Int}(hs:stE c s=0)(h:qbx c s=some (t,m)):stE c t=0:=qpj hs h
theorem qnf{c:Ct}{s t:Ste}{m:List Int}(hs:stE c s=0)(h:qcd c s=some (t,m)):stE c t=0:=by
 unfold qcd at h;cases e:qbx c s with
 | none=>rw[e]at h;cases h
 | some x =>rw[e]at h;cases h;exact q7q (q8r (qlx hs e))
theorem qua{c:Ct}:∀{d:Nat} {s:Ste} {l:List Int} {t:Ste} {m:List Int},stE c s=0->qgw c d s l=some (t,m)->stE c t=0
 | 0,_,_,_,_,_,h=>by cases h
 | d+1,s,l,t,m,hs,h=>by
  rw[qgw]at h;cases e:qcd c s with
  | none=>rw[e]at h;cases h
  | some x =>
   rw[e]at h;simp only at h;split at h
   .cases h;exact hs
   .exact qua (qnf hs (show qcd c s=some (x.1,x.2)from e)) h
theorem qpy{c:Ct}{s t:Ste}{m:List Int}(hs:stE c s=0)(h:qix c s=some (t,m)):stE c t=0:=qua hs h
end Go.Proofs.YtggbaapfbgjaeaaGreatDoor
