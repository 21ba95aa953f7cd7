/- How the. -/
import Derived.Test.YtggbaapfbgjaeaaGreatDoorFLi1
set_option linter.all false
namespace Go.Proofs.YtggbaapfbgjaeaaGreatDoor
open Go Go.Am Go.Proofs
set_option maxRecDepth 100000
theorem zok{x y:Ex}{v:Int}(ho:x.op≠1)(hy:y∈x.args)(h:y.occ v=true):x.occ v=true:=by
 rw[q0i,if_neg ho];have:∀l:List Ex,y∈l->q2u v l=true:=by
  intro l;induction l with
  | nil=>intro h;cases h
  | cons z l ih =>
   intro hm;rw[q2u];rcases List.mem_cons.1 hm with rfl | hm
   .rw[h];rfl
   .rw[ih hm,Bool.or_true]
 exact this _ hy
theorem q8d{N:Int}{M M':List Bool}:∀x:Ex,x.err N=0->(∀v:Nat,x.occ v=true->M[v]?=M'[v]?)->x.holds M=x.holds M':=by
 refine Ex.ind fun x ih he h=>?_;obtain⟨hn,hargs⟩:=qhk he;rw[qom,qom];by_cases h1:x.op=1
 .obtain⟨hi0,_⟩:=qju hn h1;have:=h x.idx.toNat (by rw[q0i,if_pos h1,Int.toNat_of_nonneg hi0];simp)
  rw[h1,this];simp
 .have hm:x.args.map (Ex.holds M)=x.args.map (Ex.holds M'):=List.map_congr_left fun y hy=>ih y hy (hargs y hy) fun v hv=>h v (zok h1 hy hv);rw[if_neg h1,if_neg h1,hm]
theorem q8a{c:Ct}{F i v:Nat}{L:List Bool}(h:v≠F+i\/(∀x,c.signals[i]?=some x->x.kind≠0)):(qgm c F i L)[v]?=L[v]?:=by
 unfold qgm;split
 .rename_i x hx;split
  .rename_i h0;rcases h with h | h
   .rw[jO (by omega)]
   .exact absurd h0 (h x hx)
  .rfl
 .rfl
theorem qjr{c:Ct}{F v k:Nat}{L:List Bool}(h:∀j,k<=j->v≠F+j\/(∀x,c.signals[j]?=some x->x.kind≠0)):∀d,(qbd c F (k+d) L)[v]?=(qbd c F k L)[v]?
 | 0=>rfl
 | d+1=>by rw[<-Nat.add_assoc,qbd,q8a (h (k+d) (by omega)),qjr h d]
def zfb(c:Ct)(F N:Nat):Prop:=∀(i:Nat) (x:Sg),c.signals[i]?=some x->x.on.err N=0/\(x.kind=0->∀(j:Nat) (y:Sg),i<=j->c.signals[j]?=some y->y.kind=0->x.on.occ (F+j:Nat)=false)
theorem zhu{c:Ct}{F N:Nat}(hg:zfb c F N){L:List Bool}{i:Nat}{x:Sg}(hi:c.signals[i]?=some x)(h0:x.kind=0)(hF:F+i<L.length):(qbd c F c.signals.length L)[F+i]?=some (x.on.holds (qbd c F c.signals.length L)):=by
 have hil:i<c.signals.length:=by
  rcases Nat.lt_or_ge i c.signals.length with h | h
  .exact h
  .rw[jY h]at hi;cases hi
 obtain⟨d,hd⟩:∃d,c.signals.length=(i+1)+d:=⟨c.signals.length-(i+1),by omega⟩
 have h1:(qbd c F c.signals.length L)[F+i]?=(qbd c F (i+1) L)[F+i]?:=by rw[hd];exact qjr (fun j hj=>.inl (by omega)) d
 have h2:(qbd c F (i+1) L)[F+i]?=some (x.on.holds (qbd c F i L)):=by rw[qbd,qgm,hi];simp only[h0,if_true];rw[jN (by rw[qfe];exact hF)]
 have h3:x.on.holds (qbd c F i L)=x.on.holds (qbd c F c.signals.length L):=by
  refine(q8d x.on (hg i x hi).1 fun v hv=>?_).symm;have:c.signals.length=i+(d+1):=by omega
  rw[this];refine qjr (fun j hj=>?_) (d+1);by_cases hvj:v=F+j
  .refine .inr fun y hy hk=>?_;have:=(hg i x hi).2 h0 j y hj hy hk;rw[<-hvj,hv]at this;cases this
  .exact .inl hvj
 rw[h1,h2,h3]
theorem q3e{c:Ct}(h:c.check=0):∀i x,c.signals[i]?=some x->q8v c c.act.toNat (qaw c c.act.toNat (qal c c.act.toNat+i)) i x=0:=by
 have h2:ctE c c.act.toNat=0:=by
  unfold Ct.check at h;split at h
  .cases h
  .split at h
   .cases h
   .exact h
 unfold ctE at h2;split at h2
 .split at h2
  .rename_i hs;intro i x hx;have hil:i<c.signals.length:=by
    rcases Nat.lt_or_ge i c.signals.length with h | h
    .exact h
    .rw[jY h]at hx;cases hx
   have h3:=qrd hs i (by omega) (by omega);unfold qvs at h3;rw[hx]at h3;exact h3
  .rename_i h4;exact absurd h2 h4
 .rename_i h4;exact absurd h2 h4
theorem zdc{c:Ct}(h:c.check=0)(hfew:c.small=true):zfb c (qal c c.act.toNat) (qad c c.act.toNat):=by
 have hR:=qiz h hfew;intro i x hx;have hmem:x∈c.signals:=jR hx;refine⟨hR.on x hmem,fun h0 j y hij hy hk=>?_⟩;have hs:=q3e h i x hx;cases hocc:x.on.occ (qal c c.act.toNat+j:Nat)with
 | false=>rfl
 | true =>
  exfalso;have hl:qgw x.on (qal c c.act.toNat) i (c.signals.drop i)=true:=by
   rw[qsz];refine⟨j-i,y,?_,hk,?_⟩
   .rw[List.getElem?_drop,show i+(j-i)=j by omega];exact hy
   .rw[show i+(j-i)=j by omega];exact hocc
  unfold q8v at hs;split at hs
  .split at hs
   .cases hs
   .split at hs
    .split at hs
     .rename_i h4;exact h4.2 hs
     .rw[if_pos ⟨h0,hl⟩]at hs;cases hs
    .rename_i h4;exact h4 hs
  .rename_i h4;exact h4 hs
theorem q6r{c:Ct}{s:Ste}(hS:Shp c s):qao s=qal c c.act.toNat:=by have h1:=hS.e;have h2:=hS.i;unfold qao qal;omega
theorem qyq{c:Ct}{s:Ste}(hS:Shp c s):(qae s).length=qad c c.act.toNat:=by have h1:=hS.e;have h2:=hS.i;have h3:=hS.v;rw[qdm];unfold qad;omega
theorem qli{c:Ct}{s:Ste}(h:stE c s=0):stE c (qdp c s)=0:=by
 obtain⟨hc,hS⟩:=qih h;have hlen:=qkq (c:=c) s;have hS':Shp c (qdp c s):=⟨hS.e,hS.w,hS.i,by rw[hlen];exact hS.v,hS.t⟩
 unfold stE at h ⊢;rw[if_pos hc]at h ⊢;unfold zla at h ⊢;rw[if_pos hS]at h;rw[if_pos hS'];have e1:(qdp c s).ends=s.ends:=rfl;have e2:(qdp c s).timers=s.timers:=rfl;rw[e1,e2];by_cases hb:s.ends.any (qfz 4)=true\/s.timers.any (qfz 3)=true
 .rw[if_pos hb]at h;cases h
 .rw[if_neg hb]at h ⊢;by_cases ha:zrp (tmF c s) s.timers.length=true
  .rw[if_pos ha]at h;cases h
  .have hno:∀k,k<s.timers.length->tmF c s k=false:=fun k hk=>by
    cases hq:tmF c s k with
    | false=>rfl
    | true=>exact absurd (q7j hk hq) ha
   rw[if_neg];rw[q1q fun k hk=>?_]
   .simp
   .have hq:=hno k hk;unfold tmF at hq ⊢;rw[e2];have hkc:k<c.signals.length:=by have:=hS.t;omega
    rw[jA hkc]at hq ⊢;simp only[Option.map_some,Option.getD_some]at hq ⊢;by_cases hk2:c.signals[k].kind=2
    .have hv:(qdp c s).values[k]?=s.values[k]?:=by
      unfold qdp;simp only;rw[List.getElem?_drop,qwv];have:=qjr (c:=c) (F:=qao s) (v:=qao s+k) (k:=0) (L:=qae s) (fun j _=>by
       by_cases hjk:j=k
       .refine .inr fun x hx=>?_;rw[hjk,jA hkc]at hx;cases hx;omega
       .exact .inl (by omega)) c.signals.length
      rw[Nat.zero_add]at this;rw[this,qbd,<-List.getElem?_drop,qlm]
     rw[hv];exact hq
    .unfold tmB at hq ⊢;simp[hk2]at hq ⊢;exact hq
theorem zzv{c:Ct}{s:Ste}(hc:c.check=0)(hS:Shp c s)(h1:s.ends.any (qfz 4)=false)(h2:s.timers.any (qfz 3)=false)(h3:∀k,k<s.timers.length->tmF c s k=false):stE c s=0:=by unfold stE zla;rw[if_pos hc,if_pos hS,h1,h2,q1q h3];simp
theorem zkj{c:Ct}{s:Ste}(h:stE c s=0):s.ends.any (qfz 4)=false/\s.timers.any (qfz 3)=false/\∀k,k<s.timers.length->tmF c s k=false:=by
 obtain⟨hc,hS⟩:=qih h;unfold stE zla at h;rw[if_pos hc,if_pos hS]at h;by_cases hb:s.ends.any (qfz 4)=true\/s.timers.any (qfz 3)=true
 .rw[if_pos hb]at h;cases h
 .rw[if_neg hb]at h;refine⟨by simpa using fun e=>hb (.inl e),by simpa using fun e=>hb (.inr e),fun k hk=>?_⟩;cases hq:tmF c s k with
  | false=>rfl
  | true=>rw[if_pos (q7j hk hq)]at h;cases h
def mix{α:Type}(A B:List α)(k:Nat):List α:=A.take k++B.drop k
theorem qhl{α:Type}(A B:List α):mix A B 0=B:=by simp[mix]
theorem qkh{α:Type}{A B:List α}(h:A.length=B.length):mix A B A.length=A:=by unfold mix;rw[List.take_length,jX (by omega),List.append_nil]
theorem qlq{α:Type}{A B:List α}(h:A.length=B.length){k:Nat}(hk:k<=A.length):(mix A B k).length=A.length:=by unfold mix;rw[jF,List.length_take,List.length_drop];omega
theorem qtb{α:Type}{A B:List α}(h:A.length=B.length){k:Nat}(hk:k<A.length):(mix A B k)[k]?=B[k]?:=by unfold mix;rw[jJ (by rw[List.length_take];omega),List.length_take,List.getElem?_drop];congr 1;omega
theorem qki{α:Type}{A B:List α}(h:A.length=B.length){k:Nat}(hk:k<A.length):(mix A B k).set k A[k]=mix A B (k+1):=by
 have hkB:k<B.length:=by omega
 unfold mix;rw[jK hk,jL hkB];have hl:(A.take k).length=k:=by rw[List.length_take];omega
 rw[List.set_append_right k _ (by omega),hl,Nat.sub_self,List.set_cons_zero,List.append_assoc];rfl
abbrev q3v(x:Sg)(L:List Bool):Bool:=decide (x.kind=1)&&x.off.holds L
def qma(x:Sg)(L:List Bool)(v:Bool)(t:Int):Bool×Int :=
 if x.kind=1 then(if x.on.holds L != x.off.holds L then(x.on.holds L,t)else(v,t))
 else if x.kind=2 then(if x.on.holds L=true then(if t=0 then(v,1)else(v,t))else(false,0))
 else(v,t)
def q8z(L:List Bool):List Sg->List Bool->List Int->List (Bool×Int)
 | x :: l,v :: w,t :: u=>qma x L v t :: q8z L l w u
 | _,_,_=>[]
theorem qjf(L:List Bool):∀{l:List Sg} {w:List Bool} {u:List Int},w.length=l.length->u.length=l.length->(q8z L l w u).length=l.length
 | [],_,_,_,_=>by simp[q8z]
 | x :: l,[],_,h,_=>by simp at h
 | x :: l,v :: w,[],_,h=>by simp at h
 | x :: l,v :: w,t :: u,h1,h2=>by simp only[List.length_cons]at h1 h2;rw[q8z,List.length_cons,qjf L (by omega) (by omega),List.length_cons]
theorem qnx(L:List Bool):∀{l:List Sg} {w:List Bool} {u:List Int} {k:Nat} {x:Sg} {v:Bool} {t:Int},l[k]?=some x->w[k]?=some v->u[k]?=some t->(q8z L l w u)[k]?=some (qma x L v t)
 | [],_,_,_,_,_,_,h,_,_=>by simp at h
 | x :: l,[],_,_,_,_,_,_,h,_=>by simp at h
 | x :: l,v :: w,[],_,_,_,_,_,_,h=>by simp at h
 | x :: l,v :: w,t :: u,0,_,_,_,h1,h2,h3=>by simp at h1 h2 h3;subst h1 h2 h3;rfl
 | x :: l,v :: w,t :: u,k+1,_,_,_,h1,h2,h3=>by simp at h1 h2 h3;rw[q8z,List.getElem?_cons_succ];exact qnx L h1 h2 h3
abbrev qdg(c:Ct)(g:Ste):List (Bool×Int):=q8z (qae g) c.signals g.values g.timers
def qxn(c:Ct)(g:Ste):Ste:=⟨g.ends,g.valves,g.inputs,(qdg c g).map Prod.fst,(qdg c g).map Prod.snd⟩
def qgo(c:Ct)(s:Ste):Ste:=qxn c (qdp c s)
def q7c(c:Ct)(L:List Bool)(i:Nat):Bool:=((c.signals[i]?).map fun x=>x.on.holds L&&q3v x L).getD false
def quv(c:Ct)(s:Ste):List Int:=qsk (q7c c (qae (qdp c s))) (qao s) c.signals.length
def qcy(c:Ct)(N:Nat):Nat->Ste->List Int->Option (Ste×List Int)
 | 0,_,_=>none
 | d+1,s,l=>if qjb (qgo c s) s=true then some (s,norm N (l++quv c s))else qcy c N d (qgo c s) (l++quv c s)
def qby(c:Ct)(s:Ste):Option (Ste×List Int):=qcy c (qad c c.act.toNat) 65 s []
abbrev qbp(L:List Bool)(p:List Int)(i:Nat):Bool:=((p[i]?).map fun j=>(L[j.toNat]?).getD false).getD false
def qjg(c:Ct)(L:List Bool)(i:Nat)(v:Bool):Bool:=if qbp L c.plus i != qbp L c.minus i then qbp L c.plus i else v
def qgq(c:Ct)(s:Ste):Ste:=⟨s.ends,s.valves.mapIdx (qjg c (qae s)),s.inputs,s.values,s.timers⟩
def qms(c:Ct)(s:Ste):List Int:=qsk (fun i=>qbp (qae s) c.plus i&&qbp (qae s) c.minus i) (qad c c.act.toNat) c.act.toNat
def qkr(v:Bool)(e:Int):Int:=if v=true/\(e=0\/e=3)then 1 else if v=false/\(e=2\/e=1)then 3 else e
def qkf(s:Ste):Ste:=⟨List.zipWith qkr s.valves s.ends,s.valves,s.inputs,s.values,s.timers⟩
abbrev qqq(c:Ct):Nat:=qad c c.act.toNat+c.act.toNat
def qcf(c:Ct)(s:Ste):Option (Ste×List Int):=(qby c s).map fun x=>(qkf (qgq c x.1),norm (qqq c) (x.2++qms c x.1))
def qgx(c:Ct):Nat->Ste->List Int->Option (Ste×List Int)
 | 0,_,_=>none
 | d+1,s,l=>match qcf c s with
  | none=>none
  | some x=>if qjb s x.1=true then some (s,norm (qqq c) (l++x.2))else qgx c d x.1 (norm (qqq c) (l++x.2))
def qiy(c:Ct)(s:Ste):Option (Ste×List Int):=qgx c 65 s []
theorem qib{c:Ct}{s:Ste}:stE c s=0<->c.check=0/\Shp c s/\s.ends.any (qfz 4)=false/\s.timers.any (qfz 3)=false/\∀k,k<s.timers.length->tmF c s k=false :=
 ⟨fun h=>⟨(qih h).1,(qih h).2,zkj h⟩,fun h=>zzv h.1 h.2.1 h.2.2.1 h.2.2.2.1 h.2.2.2.2⟩
theorem qgy{n:Int}{l:List Int}:l.any (qfz n)=false<->∀x∈l,0<=x/\x<n:=by
 rw[List.any_eq_false];constructor
 .intro h x hx;have:=h x hx;simp only[qfz,Bool.or_eq_true,jW,not_or]at this;omega
 .intro h x hx;have:=h x hx;simp only[qfz,Bool.or_eq_true,jW,not_or];omega
theorem q1e{c:Ct}{s:Ste}(hS:Shp c s){k:Nat}(hk:k<c.signals.length):tmF c s k=tmB c.signals[k].kind (s.values[k]'(by rw[hS.v];exact hk)) (s.timers[k]'(by rw[hS.t];exact hk)):=by unfold tmF;rw[jA hk,jA (by rw[hS.v];exact hk),jA (by rw[hS.t];exact hk)];rfl
theorem q9a{x:Sg}{L:List Bool}{v:Bool}{t:Int}(h:tmB x.kind v t=false)(ht:0<=t/\t<3):tmB x.kind (qma x L v t).1 (qma x L v t).2=false/\0<=(qma x L v t).2/\(qma x L v t).2<3:=by
 unfold qma;by_cases h1:x.kind=1
 .rw[if_pos h1];rw[h1]at h ⊢;simp[tmB]at h ⊢;split<;>exact⟨h,ht⟩
 .rw[if_neg h1];by_cases h2:x.kind=2
  .rw[if_pos h2];rw[h2]at h ⊢;simp[tmB]at h;split
   .split
    .rename_i h0;subst h0;subst h;exact⟨by decide,by simp⟩
    .refine⟨?_,ht⟩;simp[tmB,h]
   .exact⟨by decide,by simp⟩
  .rw[if_neg h2];exact⟨h,ht⟩
theorem zea{c:Ct}{g:Ste}(h:stE c g=0):stE c (qxn c g)=0:=by
 obtain⟨hc,hS,h1,h2,h3⟩:=qib.1 h;have hlen:(qdg c g).length=c.signals.length:=qjf _ hS.v hS.t;have hS':Shp c (qxn c g):=⟨hS.e,hS.w,hS.i,by unfold qxn;rw[List.length_map,hlen],by unfold qxn;rw[List.length_map,hlen]⟩
 have hall:∀k (hk:k<c.signals.length),∃v t,(qdg c g)[k]?=some (v,t)/\tmB c.signals[k].kind v t=false/\0<=t/\t<3:=by
  intro k hk;have hkv:k<g.values.length:=by rw[hS.v];exact hk
  have hkt:k<g.timers.length:=by rw[hS.t];exact hk
  have hg:=qnx (qae g) (jA hk) (jA hkv) (jA hkt);have ht:=(qgy.1 h2) _ (jH hkt);have hq:=h3 k hkt;rw[q1e hS hk]at hq;have:=q9a (L:=qae g) hq ht;exact⟨_,_,hg,this.1,this.2⟩
 refine qib.2 ⟨hc,hS',h1,qgy.2 fun x hx=>?_,fun k hk=>?_⟩
 .unfold qxn at hx;obtain⟨k,hk,rfl⟩:=List.getElem_of_mem hx;rw[List.getElem_map];rw[List.length_map,hlen]at hk;obtain⟨v,t,e,_,hr⟩:=hall k hk;rw[jA (by rw[hlen];exact hk)]at e;rw[Option.some.inj e];exact hr
 .have hk':k<c.signals.length:=by rw[<-hS'.t];exact hk
  rw[q1e hS' hk'];obtain⟨v,t,e,hr,_⟩:=hall k hk';unfold qxn;simp only[List.getElem_map];rw[jA (by rw[hlen];exact hk')]at e;rw[Option.some.inj e];exact hr
theorem qxo{c:Ct}{s:Ste}(h:stE c s=0):stE c (qgo c s)=0:=zea (qli h)
theorem q9c{c:Ct}{s:Ste}(h:stE c s=0):stE c (qgq c s)=0:=by obtain⟨hc,hS,h1,h2,h3⟩:=qib.1 h;exact qib.2 ⟨hc,⟨hS.e,by unfold qgq;rw[List.length_mapIdx];exact hS.w,hS.i,hS.v,hS.t⟩,h1,h2,h3⟩
theorem znl{v:Bool}{e:Int}(h:0<=e/\e<4):0<=qkr v e/\qkr v e<4:=by
 unfold qkr;split
 .omega
 .split
  .omega
  .exact h
theorem q8c{c:Ct}{s:Ste}(h:stE c s=0):stE c (qkf s)=0:=by
 obtain⟨hc,hS,h1,h2,h3⟩:=qib.1 h;have hl:(List.zipWith qkr s.valves s.ends).length=s.ends.length:=by have:=hS.e;have:=hS.w;rw[List.length_zipWith];omega
 refine qib.2 ⟨hc,⟨by unfold qkf;rw[hl];exact hS.e,hS.w,hS.i,hS.v,hS.t⟩,qgy.2 fun x hx=>?_,h2,h3⟩;unfold qkf at hx;obtain⟨k,hk,rfl⟩:=List.getElem_of_mem hx;rw[List.getElem_zipWith];exact znl ((qgy.1 h1) _ (jH _))
theorem qpp{c:Ct}{N:Nat}:∀{d:Nat} {s:Ste} {l:List Int} {t:Ste} {m:List Int},stE c s=0->qcy c N d s l=some (t,m)->stE c t=0
 | 0,_,_,_,_,_,h=>by cases h
 | d+1,s,l,t,m,hs,h=>by
  rw[qcy]at h;split at h
  .cases h;exact hs
  .exact qpp (qxo hs) h
theorem qly{c:Ct}{s t:Ste}{m:List Int}(hs:stE c s=0)(h:qby c s=some (t,m)):stE c t=0:=qpp hs h
theorem qnj{c:Ct}{s t:Ste}{m:List Int}(hs:stE c s=0)(h:qcf c s=some (t,m)):stE c t=0:=by
 unfold qcf at h;cases e:qby c s with
 | none=>rw[e]at h;cases h
 | some x =>rw[e]at h;cases h;exact q8c (q9c (qly hs e))
theorem quk{c:Ct}:∀{d:Nat} {s:Ste} {l:List Int} {t:Ste} {m:List Int},stE c s=0->qgx c d s l=some (t,m)->stE c t=0
 | 0,_,_,_,_,_,h=>by cases h
 | d+1,s,l,t,m,hs,h=>by
  rw[qgx]at h;cases e:qcf c s with
  | none=>rw[e]at h;cases h
  | some x =>
   rw[e]at h;simp only at h;split at h
   .cases h;exact hs
   .exact quk (qnj hs (show qcf c s=some (x.1,x.2)from e)) h
theorem qqd{c:Ct}{s t:Ste}{m:List Int}(hs:stE c s=0)(h:qiy c s=some (t,m)):stE c t=0:=quk hs h
end Go.Proofs.YtggbaapfbgjaeaaGreatDoor
