/- slices.Compact of. -/
import Derived.Test.YtggbaapfbgjaeaaGreatDoorFRn1
import Derived.Test.YtggbaapfbgjaeaaGreatDoorFSa1
import Derived.Test.YtggbaapfbgjaeaaGreatDoorFVs3
import Derived.Test.YtggbaapfbgjaeaaGreatDoorFCt2
import Derived.Sort.AssemblyPlain
import Derived.Test.YtggbaapfbgjaeaaGreatDoorFPg8
import Derived.Test.YtggbaapfbgjaeaaGreatDoorFLi1
set_option linter.all false
namespace Go.Proofs.YtggbaapfbgjaeaaGreatDoor
open Go Go.Am Go.Proofs
set_option maxRecDepth 100000
theorem zte{c:Ct}(hc:c.check=0){x:Sg}(hx:x∈c.signals):x.kind=0\/x.kind=1\/x.kind=2:=by
 obtain⟨i,hi,rfl⟩:=List.getElem_of_mem hx;have hz:=q3e hc i _ (jA hi);unfold q8v at hz;split at hz
 .split at hz
  .cases hz
  .omega
 .rename_i h4;exact absurd hz h4
set_option maxHeartbeats 2000000 in
theorem ev253{c:Ct}{u:Ste}(s:Ste)(h:Rdy c u)(gq wq:Nat)(L:List Int):ev pg (.call (fnq 253) [.bptr 15 0] (hM c s u (qao u)++hQ gq wq L))=some { v:=.tup [.bool (!qjb u (qgo c u)),qcr (quv c u)],st:=⟨[],hM c s (qgo c u) (qao u)++hQ gq wq L⟩ }:=by
 have hs:=h.small;have hS:=h.shp;have hM':=h.mid;have hn:=hM'.sig;have e1:1<=u.ends.length:=by have:=hS.e;have:=hM'.lo;have:=hM'.act;omega
 have hF:qao u<=10000:=by have:=hS.e;have:=hS.i;have:=hM'.inp;have:=hM'.hi;have:=hM'.act;unfold qao;omega
 have e149:=ev252 u hs;have e162:=ev268 c s u u gq wq L hs hS hn hF e1 (fun x hx=>(h.sig x hx).on);have hR:=qli h.st;have hG:Rdy c (qdp c u):=⟨h.few,hR⟩
 have hgl:=qkq (c:=c) u;have hfs:qao (qdp c u)=qao u:=rfl;have e163:=ev269 c s (qdp c u) u (qao u) gq wq L hG.small e1;have hl:=@z3k c s (qdp c u) u gq wq L hG.small hG.shp hn hF hG.sig (fun x hx=>zte h.chk hx);have e47:=ev182 u (qgo c u) hs;unfold qgo at e47 ⊢;unfold quv;have q1:(qdp c u).ends=u.ends:=rfl;have q2:(qdp c u).valves=u.valves:=rfl;have q3:(qdp c u).inputs=u.inputs:=rfl;have q4:(qdp c u).timers=u.timers:=rfl;have hGv:=hG.shp.v;have hGt:=hG.shp.t;clear hR hG hfs;generalize qdp c u=g at *;obtain⟨ge,gw,gi,gv,gt⟩:=g;simp only at q1 q2 q3 q4 hGv hGt hgl;subst q1 q2 q3 q4;generalize hg:(⟨u.ends,u.valves,u.inputs,gv,u.timers⟩:Ste)=g at *;have hlen:(qdg c g).length=c.signals.length:=qjf _ (by rw[<-hg];exact hGv) (by rw[<-hg];exact hGt);have l1:((qdg c g).map Prod.fst).length=g.values.length:=by rw[List.length_map,hlen,<-hGv,<-hg]
 have l2:((qdg c g).map Prod.snd).length=g.timers.length:=by rw[List.length_map,hlen,<-hGt,<-hg]
 have z1:tv c g 0=g.values:=qhl _ _;have z2:tt c g 0=g.timers:=qhl _ _;have f1:tv c g c.signals.length=(qdg c g).map Prod.fst:=by have:=qkh l1;rwa [List.length_map,hlen]at this
 have f2:tt c g c.signals.length=(qdg c g).map Prod.snd:=by have:=qkh l2;rwa [List.length_map,hlen]at this
 have z3:bdL c g (qao g) 0=[]:=rfl;have hFF:qao g=qao u:=by rw[<-hg]
 unfold zwk zvw at hl;rw[z3,z1,z2,f1,f2]at hl;rw[hFF]at hl;unfold qxn at e47 ⊢;rw[show qsk (q7c c (qae g)) (qao u:Nat) c.signals.length=bdL c g (qao u) c.signals.length from rfl];have hgc:g.ends=u.ends/\g.valves=u.valves/\g.inputs=u.inputs/\g.values=gv/\g.timers=u.timers:=by rw[<-hg];exact⟨rfl,rfl,rfl,rfl,rfl⟩
 obtain⟨k1,k2,k3,k4,k5⟩:=hgc;rw[k1,k2,k3]at hl e47 ⊢;rw[k4,k5]at hl;rw[k4,hgl]at l1;rw[k5]at l2;rw[<-hg]at e162;generalize bdL c g (qao u) c.signals.length=BB at *;generalize (qdg c g).map Prod.fst=VV at *;generalize (qdg c g).map Prod.snd=TT at *;generalize qae g=LL at *;generalize qao u=F at *;generalize qjb u _=same at *;rw[<-hg]at e163;simp at e162 e163;rw[qaa,pg253.1];simp[ir253,e149,e162,e163,ev270,qai];generalize hr:ev pg (.code (.going _ L253_0) _)=o;obtain⟨r,rfl,⟨gn,m⟩,hm,f,hf,rfl⟩:∃r,o=some r/\_:=by rw[<-hr];exact hl (0,0) (.inr rfl) (by simp)
 clear hr;have hmm:m=1\/m=0:=hm;rcases hmm with rfl | rfl<;>simp[qab,exT,qag,e47,l1.symm,l2.symm]
def qhu(d:Array Int):List (List V):=d.toList.map qbk
def put(h:H)(i g:Nat)(d:Array Int):H:=h.set i ⟨g,.arr 1 (qhu d)⟩
@[simp] theorem zzr(d:Array Int):(qhu d).length=d.size:=by simp[qhu]
@[simp] theorem q2y(h:H)(i g:Nat)(d:Array Int):(put h i g d).length=h.length:=by simp[put]
theorem zux{h:H}{i:Nat}(hi:i<h.length)(g:Nat)(d:Array Int):(put h i g d)[i]?=some ⟨g,.arr 1 (qhu d)⟩:=by unfold put;rw[jN hi]
theorem zkf{d:Array Int}{k:Nat}(hk:k<d.size):(qhu d)[k]?=some [num d[k]!]:=by unfold qhu;rw[List.getElem?_map,Array.getElem?_toList,Array.getElem?_eq_getElem hk,Option.map_some,getElem!_pos d k hk]
theorem zkg(d:Array Int)(k:Nat)(v:Int):(qhu d).set k [num v]=qhu (d.setIfInBounds k v):=by unfold qhu;rw[Array.toList_setIfInBounds,List.map_set]
theorem zuz(h:H)(i g:Nat)(d:Array Int)(d':Array Int):(put h i g d).set i ⟨g,.arr 1 (qhu d')⟩=put h i g d':=by unfold put;rw[List.set_set]
theorem q9t{h:H}(hc:calm h)(i g:Nat)(d:Array Int):calm (put h i g d):=by
 rw[qod]at hc ⊢;intro o ho;rw[q2y];unfold put at ho;rcases jT ho with h1 | h1
 .exact hc o h1
 .rw[h1];rfl
theorem zuw{h:H}(hc:calm h)(i g:Nat)(d:Array Int):qde h.length (put h i g d)=put h i g d:=by have:=qfu (q9t hc i g d);rwa [q2y]at this
theorem zos{h:H}(hc:calm h)(i g:Nat)(d:Array Int):qgk h.length (put h i g d)=put h i g d:=by have:=qqv (q9t hc i g d);rwa [q2y]at this
theorem zou{h:H}{i g:Nat}{d:Array Int}(hi:h[i]?=some ⟨g,.arr 1 (qhu d)⟩):put h i g d=h:=by unfold put;obtain⟨hl,e⟩:=jG.1 hi;rw[<-e,List.set_getElem_self]
theorem qry{d:Array Int}{k:Nat}(hk:k<d.size):∀h,(qhu d)[k]'h=[num d[k]!]:=by intro h;have:=zkf hk;rw[jA h]at this;exact Option.some.inj this
theorem zsu{P:Prg}{nx:Nat}{c:C}{T T':Tm}{h h':H}{Q:R->Prop}
  (step:∀f,Junk f->∃r,ev P (.code c ⟨fill f 0 T,h⟩)=some r/\((r.x=.normal/\At T' h' (qvg nx r.st))\/(r.x ≠ .normal/\Q r)))
  (next:∀st,At T' h' st->∃r,ev P (.code (.going nx c) st)=some r/\Q r) {st:St} (h0:At T h st):∃r,ev P (.code (.going nx c) st)=some r/\Q r:=by
 obtain⟨f,hf,rfl⟩:=h0.eq;obtain⟨r,e,hr⟩:=step f hf;rw[qdy,e];rcases hr with⟨hx,ha⟩ | ⟨hx,hq⟩
 .obtain⟨r',e',hq⟩:=next _ ha
  refine⟨r',?_,hq⟩;simp only[hx];exact e'
 .refine⟨r,?_,hq⟩;simp only
theorem q8b{P:Prg}{nx:Nat}{c:C}{T:Tm}{h:H}{Q:R->Prop}
  (step:∀f,Junk f->∃r,ev P (.code c ⟨fill f 0 T,h⟩)=some r/\r.x ≠ .normal/\Q r) {st:St} (h0:At T h st):∃r,ev P (.code (.going nx c) st)=some r/\Q r:=by
 obtain⟨f,hf,rfl⟩:=h0.eq;obtain⟨r,e,hx,hq⟩:=step f hf;rw[qdy,e];refine⟨r,?_,hq⟩;simp only
theorem zke(e:Array Int)(k:Nat):∃z,∀h,(qhu e)[k]'h=[num z]:=⟨e[k]!,fun h=>qry (by simpa using h) h⟩
structure Mem(h:H)(i g:Nat):Prop where
 lt:i<h.length
 get:∀d hh,(put h i g d)[i]'hh=⟨g,.arr 1 (qhu d)⟩
 set:∀d d',(put h i g d).set i ⟨g,.arr 1 (qhu d')⟩=put h i g d'
 cl:∀d,qgk h.length (put h i g d)=put h i g d
 ck:∀d,qde h.length (put h i g d)=put h i g d
theorem zqd{h:H}{i:Nat}(hi:i<h.length)(hc:calm h)(g:Nat):Mem h i g :=
 ⟨hi,fun d hh=>by
  have:=zux hi g d;rw[jA hh]at this;exact Option.some.inj this,zuz h i g,zos hc i g,zuw hc i g⟩
theorem ev213{h:H}{i g:Nat}{l:List Int}(hg:h[i]?=some ⟨g,.arr 1 (l.map qbk)⟩)(hc:calm h)(hn:l.length<65536):∃l':List Int,l'.Perm l/\l'.Pairwise (·<=·)/\ev pg (.call (fnq 213) [.sl i g 1 0 l.length] h)=some { v:=.tup [],st:=⟨[],h.set i ⟨g,.arr 1 (l'.map qbk)⟩⟩ }:=by
 obtain⟨hi,h2⟩:=jG.1 hg;have ck:=(zqd hi hc g).ck (qlc l).toArray;refine⟨qlc l,qpe l,q3g l,?_⟩;have hput:put h i g (qlc l).toArray=h.set i ⟨g,.arr 1 ((qlc l).map qbk)⟩:=rfl;rw[<-hput];have hlen:(put h i g (qlc l).toArray).length=h.length:=q2y _ _ _ _;have e:ev pg (.code ir213.body ⟨q3w ir213.ntmps [.sl i g 1 0 l.length],h⟩)=some { st:=⟨[.sl i g 1 0 l.length],put h i g (qlc l).toArray⟩ }:=by show ev pg (.code (.giv 1) ⟨[.sl i g 1 0 l.length],h⟩)=_;rw[zpv,hput];simp only[zlc,if_true,hg,List.length_map,show l.length<4611686018427387904 by omega,and_self,qxa,qto]
 generalize put h i g (qlc l).toArray=H' at *;rw[qaa,pg213.1];show(match ev pg (.code ir213.body ⟨q3w ir213.ntmps [.sl i g 1 0 l.length],h⟩)with | some r=>_ | none=>none)=_;rw[e];simp[-qde,-qgk,ir213,qzg,ck]
theorem qwc:∀(xs:List Int) (y z:Int),qaz (xs++[y,z])=if y=z then qaz (xs++[y])else qaz (xs++[y])++[z]
 | [],y,z=>by simp only[List.nil_append,qaz];split<;>simp[*]
 | [x],y,z=>by simp only[List.cons_append,List.nil_append,qaz];split<;>split<;>simp[*]
 | x :: x2 :: xs,y,z=>by
  have ih:=qwc (x2 :: xs) y z;simp only[List.cons_append]at ih ⊢;rw[qaz,qaz];split
  .exact ih
  .rw[ih];split<;>simp
theorem qmr{l:List Int}{m:Nat}(h1:1<=m)(h2:m<l.length):qaz (l.take (m+1))=if l[m]=l[m-1]then qaz (l.take m)else qaz (l.take m)++[l[m]]:=by
 obtain⟨p,rfl⟩:∃p,m=p+1:=⟨m-1,by omega⟩
 have e1:l.take (p+1)=l.take p++[l[p]]:=jK (by omega);have e2:l.take (p+1+1)=l.take p++[l[p],l[p+1]]:=by rw[jK h2,e1,List.append_assoc];rfl
 rw[e2,qwc,<-e1];simp only[Nat.add_sub_cancel];by_cases c:l[p]=l[p+1]
 .rw[if_pos c,if_pos c.symm]
 .rw[if_neg c,if_neg (fun e=>c e.symm)]
theorem zuv{h:H}{i:Nat}(hi:i<h.length)(o:Ob)(g:Nat)(d:Array Int):put h i g d++[o]=put (h++[o]) i g d:=by unfold put;rw[List.set_append_left _ _ hi]
def zlj(hl i g n k0 k t:Nat):Tm:=[some (.sl i g 1 0 n),none,some (.sl hl 0 0 0 0),nN k,some (.sl i g 1 k0 (n-k0)),nN t]++zN 55
structure G36(d0:Array Int)(n k0 t k:Nat)(d:Array Int):Prop where
 sz:d.size=n
 le:k<=k0+t
 eq:∀p,k0+t<=p->p<n->d[p]! = d0[p]!
 tk:d.toList.take k=qaz (d0.toList.take (k0+t+1))
theorem znj{d0 d:Array Int}{n k0 t k:Nat}(h0:d0.size=n)(hG:G36 d0 n k0 t k d)(ht:k0+t+1<n)(h1:d[k0+t+1]! ≠ d[k0+t]!):G36 d0 n k0 (t+1) (k+1) (d.setIfInBounds k d[k0+t+1]!):=by
 have h2:=hG.eq (k0+t+1) (by omega) ht;have h3:=hG.eq (k0+t) (by omega) (by omega);have hk:k<d.size:=by have:=hG.le;have:=hG.sz;omega
 have hc:=qmr (l:=d0.toList) (m:=k0+t+1) (by omega) (by simp;omega);refine⟨by simp[hG.sz],by have:=hG.le;omega,fun p hp hpn=>?_,?_⟩
 .rw[<-hG.eq p (by omega) hpn,getElem!_pos _ p (by simp;have:=hG.sz;omega),getElem!_pos d p (by have:=hG.sz;omega)];rw[Array.getElem_setIfInBounds_ne];have:=hG.le;omega
 .rw[show k0+(t+1)+1=k0+t+1+1 by omega,hc];have e1:(d0.toList[k0+t+1]'(by simp;omega))=d[k0+t+1]! := by
   rw[h2,getElem!_pos d0 _ (by omega)];simp
  have e2:(d0.toList[k0+t+1-1]'(by simp;omega))=d[k0+t]! := by rw[h3,getElem!_pos d0 _ (by omega)];simp
  rw[e1,e2,if_neg h1,<-hG.tk,Array.toList_setIfInBounds,jK (by simpa using hk)];rw[List.take_set_of_le (jD _)];simp
theorem zni{d0 d:Array Int}{n k0 t k:Nat}(h0:d0.size=n)(hG:G36 d0 n k0 t k d)(ht:k0+t+1<n)(h1:d[k0+t+1]! = d[k0+t]!):G36 d0 n k0 (t+1) k d:=by
 have h2:=hG.eq (k0+t+1) (by omega) ht;have h3:=hG.eq (k0+t) (by omega) (by omega);have hc:=qmr (l:=d0.toList) (m:=k0+t+1) (by omega) (by simp;omega);refine⟨hG.sz,by have:=hG.le;omega,fun p hp hpn=>hG.eq p (by omega) hpn,?_⟩;rw[show k0+(t+1)+1=k0+t+1+1 by omega,hc];have e1:(d0.toList[k0+t+1]'(by simp;omega))=d[k0+t+1]! := by rw[h2,getElem!_pos d0 _ (by omega)];simp
 have e2:(d0.toList[k0+t+1-1]'(by simp;omega))=d[k0+t]! := by rw[h3,getElem!_pos d0 _ (by omega)];simp
 rw[e1,e2,if_pos h1];exact hG.tk
theorem z3q{h:H}{i g:Nat}(hm:Mem h i g)(hl n k0:Nat)(hhl:hl<h.length)(hn:n<=1000000)(d0:Array Int)(h0s:d0.size=n):∀(m t k:Nat) (d:Array Int),n-(k0+t+1)=m->k0+t+1<=n->G36 d0 n k0 t k d->∀(st:St),At (zlj hl i g n k0 k (t+1)) (put h i g d) st->∃r,ev pg (.code (.going h.length L214_0) st)=some r/\∃d' k',G36 d0 n k0 (n-k0-1) k' d'/\qar (.exit 2) (zlj hl i g n k0 k' (n-k0)) (put h i g d') r:=by
 intro m;induction m with
 | zero =>
  intro t k d hmm ht hG st h0;refine q8b (fun f hf=>?_) h0;obtain rfl:t=n-k0-1:=by omega
  have c1:¬((n-k0-1:Nat):Int)+1<((n-k0:Nat):Int):=by omega
  have c2:((n-k0-1:Nat):Int)+1=((n-k0:Nat):Int):=by omega
  unfold zlj;generalize n-k0-1=t at *;generalize n-k0=L at *;simp[-qde,-qgk,qab,exT,qag,L214_0,c1,hf.ne];exact⟨d,k,hG,by simp[c2,hf.ne]⟩
 | succ m ih =>
  intro t k d hmm ht hG st h0;have hsz:=hG.sz;have hle:=hG.le;have c1:(t:Int)+1<((n-k0:Nat):Int):=by omega
  have c3:t+1<n-k0:=by omega
  have c4:t<n-k0:=by omega
  have m1:=hm.lt;have m2:=hm.set;have m3:=hm.get;have b1:k0+t<d.size:=by omega
  have b2:k0+(t+1)<d.size:=by omega
  have b3:k<d.size:=by omega
  have p1:(0:Int)<=(t:Int)+1:=by omega
  have r1:=qry (d:=d) (k:=k0+t) b1;have r2:=qry (d:=d) (k:=k0+(t+1)) b2;obtain⟨z,r3⟩:=zke d k;have wt:=qam (n:=(t:Int)) (by omega) (by omega);have wt2:=qam (n:=(t:Int)+1+1) (by omega) (by omega);have wk:=qbc k;by_cases l1:d[k0+(t+1)]! = d[k0+t]!
  .have hG':=zni h0s hG (by omega) l1;have ih':=ih (t+1) k d (by omega) (by omega) hG';refine zsu (T':=zlj hl i g n k0 k (t+1+1)) (h':=put h i g d) (fun f hf=>?_) ih' h0;have m4:=hm.cl d;rw[l1]at r2;unfold zlj;generalize d[k0+t]! = y at *;generalize n-k0=L at *;simp[-qde,-qgk,qab,exT,qag,L214_0,hhl,c1,c3,c4,p1,m1,m3,m4,r1,r2,b1,b2,wt,wt2,hf.ne]
  .have hG':=znj h0s hG (by omega) l1;have ih':=ih (t+1) (k+1) _ (by omega) (by omega) hG';refine zsu (T':=zlj hl i g n k0 (k+1) (t+1+1)) (h':=put h i g (d.setIfInBounds k d[k0+(t+1)]!)) (fun f hf=>?_) ih' h0;have m4:=hm.cl (d.setIfInBounds k d[k0+(t+1)]!);have hb:(d[k0+(t+1)]! == d[k0+t]!)=false:=by simpa using l1
   unfold zlj;have hr3:∀hh,(qhu d)[k]'hh=[num z]:=r3;generalize d[k0+t]! = y at *;generalize d[k0+(t+1)]! = x at *;generalize n-k0=L at *;have b3':k<n:=by omega
   simp[-qde,-qgk,qab,exT,qag,L214_0,hhl,c1,c3,c4,p1,m1,m2,m3,m4,r1,r2,hr3,b1,b2,b3,b3',wt,wt2,wk,l1,hb,zkg,hf.ne]
def zlk(hl i g n k:Nat):Tm:=[some (.sl i g 1 0 n),none,some (.sl hl 0 0 0 0),nN k]++zN 57
def z2k(i g k:Nat):Tm:=[none,none,some (.sl i g 1 0 k)]++zN 58
inductive Out36 (h:H) (hl i g n:Nat) (d0:Array Int) (r:R):Prop where
 | no (hc:qaz d0.toList=d0.toList) (he:qar (.exit 0) (zlk hl i g n n) (put h i g d0) r)
 | yes (rows:List (List V)) (k:Nat) (hk:k=(qaz d0.toList).length) (hl:rows.length=n) (ht:rows.take k=(qaz d0.toList).map qbk) (he:qar .ret (z2k i g k) (h.set i ⟨g,.arr 1 rows⟩) r)
theorem z3r{h:H}{i g:Nat}(hm:Mem h i g)(hl n:Nat)(hhl:hl<h.length)(hn:n<=1000000)(d0:Array Int)(h0s:d0.size=n):∀(m k:Nat),n-k=m->1<=k->k<=n->qaz (d0.toList.take k)=d0.toList.take k->∀(st:St),At (zlk hl i g n k) (put h i g d0) st->∃r,ev pg (.code (.going h.length L214_1) st)=some r/\Out36 h hl i g n d0 r:=by
 subst h0s;intro m;induction m with
 | zero =>
  intro k hk h1 h2 hc st h0;obtain rfl:k=d0.size:=by omega
  refine q8b (fun f hf=>?_) h0;simp[-qde,-qgk,L214_1,zlk,hf.ne];refine .no ?_ (by simp[zlk,hf.ne]);rw[kB (by simp)]at hc;exact hc
 | succ m ih =>
  intro k hk h1 h2 hc st h0;obtain⟨k,rfl⟩:∃q,k=q+1:=⟨k-1,by omega⟩
  have c1:(k:Int)+1<d0.size:=by omega
  have m1:=hm.lt;have m3:=hm.get;have b1:k<d0.size:=by omega
  have b2:k+1<d0.size:=by omega
  have p1:(0:Int)<=(k:Int)+1:=by omega
  have r1:=qry (d:=d0) (k:=k) b1;have r2:=qry (d:=d0) (k:=k+1) b2;have wk:=qam (n:=(k:Int)) (by omega) (by omega);have wk2:=qam (n:=(k:Int)+1+1) (by omega) (by omega);have hct:=qmr (l:=d0.toList) (m:=k+1) (by omega) (by simp;omega);have e1:(d0.toList[k+1]'(by simp;omega))=d0[k+1]! := by rw[getElem!_pos d0 _ b2];simp
  have e2:(d0.toList[k+1-1]'(by simp;omega))=d0[k]! := by rw[getElem!_pos d0 _ b1];simp
  rw[e1,e2]at hct;by_cases l1:d0[k+1]! = d0[k]!
  .rw[if_pos l1,hc]at hct;have hG:G36 d0 d0.size (k+1) 0 (k+1) d0:=⟨rfl,by omega,fun p _ _=>rfl,hct.symm⟩
   have hla:=z3q hm hl d0.size (k+1) hhl hn d0 rfl _ 0 (k+1) d0 rfl (by omega) hG;refine q8b (fun f hf=>?_) h0;have c2:k+1<=d0.size:=h2;unfold zlk;rw[l1]at r2;generalize d0[k]! = y at *;simp[-qde,-qgk,qab,exT,qag,L214_1,c1,c2,p1,m1,m3,r1,r2,b1,b2,wk,qai,hf.ne];generalize hr:ev pg (.code (.going _ L214_0) _)=o;obtain⟨r,rfl,d',k',hG',f2,hf2,rfl⟩:∃r,o=some r/\_:=by rw[<-hr];exact hla _ (by simp[zlj,hhl,hf.ne])
   clear hr;have hsz:=hG'.sz;have hle:=hG'.le;have hkn:k'<d0.size:=by omega
   have htk:=hG'.tk;rw[show k+1+(d0.size-(k+1)-1)+1=d0.size by omega,kB (l:=d0.toList) (by simp)]at htk;have hlen:k'=(qaz d0.toList).length:=by rw[<-htk];simp;omega
   have q1:k'<=d0.size:=by omega
   have q2:¬d0.size-k'=0:=by omega
   have q3:k'+(d0.size-k')<=d'.size:=by omega
   simp[-qde,-qgk,-qdd,zlj,m1,m3,hsz,q1,q2,q3,hf2.ne];refine .yes (List.take k' (qhu d')++(List.replicate (d0.size-k') [num 0]++List.drop d0.size (qhu d'))) k' hlen ?_ ?_ (by simp[z2k,put,hf2.ne])
   .simp[hsz];omega
   .rw[List.take_append_of_le_length (by simp;omega),List.take_take,Nat.min_self,<-htk];unfold qhu;rw[List.map_take]
  .rw[if_neg l1,hc]at hct;have hc':qaz (d0.toList.take (k+1+1))=d0.toList.take (k+1+1):=by
    rw[hct,jK (i:=k+1) (by simp;omega),e1]
   have ih':=ih (k+1+1) (by omega) (by omega) (by omega) hc';refine zsu (T':=zlk hl i g d0.size (k+1+1)) (h':=put h i g d0) (fun f hf=>?_) ih' h0;have m4:=hm.cl d0;have hb:(d0[k+1]! == d0[k]!)=false:=by simpa using l1
   unfold zlk;generalize d0[k]! = y at *;generalize d0[k+1]! = x at *;simp[-qde,-qgk,qab,exT,qag,L214_1,c1,p1,m1,m3,m4,r1,r2,b1,b2,wk,wk2,l1,hb,hhl,hf.ne]
theorem ev214{h:H}{i g:Nat}{l:List Int}(hg:h[i]?=some ⟨g,.arr 1 (l.map qbk)⟩)(hc:calm h)(hn:l.length<65536):∃rows,rows.length=l.length/\rows.take (qaz l).length=(qaz l).map qbk/\ev pg (.call (fnq 214) [.sl i g 1 0 l.length] h)=some { v:=.sl i g 1 0 (qaz l).length,st:=⟨[],h.set i ⟨g,.arr 1 rows⟩⟩ }:=by
 obtain⟨hi,_⟩:=jG.1 hg;have hset:h.set i ⟨g,.arr 1 (l.map qbk)⟩=h:=by obtain⟨hi',e⟩:=jG.1 hg;rw[<-e,List.set_getElem_self]
 have hcm:h.map (qbx h.length)=h:=hc;by_cases h2:l.length<2
 .have hcl:qaz l=l:=by
   rcases l with _ | ⟨x,_ | ⟨y,l⟩⟩
   .rfl
   .rfl
   .simp at h2;omega
  refine⟨l.map qbk,by simp,by rw[hcl,kB (by simp)],?_⟩;rw[hset,hcl];have h2':(l.length:Int)<2:=by omega
  rw[qaa,pg214.1];simp[-qde,-qgk,ir214,h2',qch,qel,qdz,hcm,hi]
 .have h2':¬(l.length:Int)<2:=by omega
  have hi1:i<(h++[(⟨0,.arr 0 []⟩:Ob)]).length:=by simp;omega
  have hc1:calm (h++[(⟨0,.arr 0 []⟩:Ob)]):=qga hc (by
   intro o ho;rw[List.mem_singleton.1 ho];rfl)
  have hm:=zqd hi1 hc1 g;have hps:put (h++[(⟨0,.arr 0 []⟩:Ob)]) i g l.toArray=h++[(⟨0,.arr 0 []⟩:Ob)]:=by rw[<-zuv hi,zou (by simpa[qhu]using hg)]
  have hlp:=z3r hm h.length l.length (by simp) (by omega) l.toArray (by simp) _ 1 rfl (jD _) (by omega) (by
   rcases l with _ | ⟨x,l⟩
   .simp at h2
   .simp[qaz])
  rw[hps]at hlp;simp only[jF,List.length_cons,List.length_nil,Nat.zero_add]at hlp;have key:∃r rows,ev pg (.call (fnq 214) [.sl i g 1 0 l.length] h)=some r/\rows.length=l.length/\rows.take (qaz l).length=(qaz l).map qbk/\r={ v:=.sl i g 1 0 (qaz l).length,st:=⟨[],h.set i ⟨g,.arr 1 rows⟩⟩ }:=by
   rw[qaa,pg214.1];simp[-qde,-qgk,ir214,h2',qai];generalize hr:ev pg (.code (.going _ L214_1) _)=o;obtain⟨r,rfl,hO⟩:∃r,o=some r/\_:=by rw[<-hr];exact hlp _ (by simp[zlk])
   clear hr;cases hO with
   | no hcc he =>
    obtain⟨f,hf,rfl⟩:=he;have ck2:=qef hc [(⟨0,.arr 0 []⟩:Ob)];simp only at hcc;have hcl:qaz l=l:=by simpa using hcc
    rw[hps];simp[-qde,-qgk,zlk,ck2,qch,qel,qdz,hi];exact⟨l.map qbk,by simp,by rw[hcl,kB (by simp)],by rw[hcl],by rw[hcm,hset]⟩
   | yes rows k hk hl ht he =>
    obtain⟨f,hf,rfl⟩:=he;simp only at hk ht;have hcal:calm (h.set i ⟨g,.arr 1 rows⟩):=by
     rw[qod]at hc ⊢;intro o ho;rw[jU];rcases jT ho with h1 | h1
     .exact hc o h1
     .rw[h1];rfl
    have ck2:=qef hcal [(⟨0,.arr 0 []⟩:Ob)];rw[jU]at ck2;have hsa:(h++[(⟨0,.arr 0 []⟩:Ob)]).set i ⟨g,.arr 1 rows⟩=h.set i ⟨g,.arr 1 rows⟩++[(⟨0,.arr 0 []⟩:Ob)]:=by rw[List.set_append_left _ _ hi]
    rw[hsa];simp[-qde,-qgk,z2k,ck2,qch,qel,qdz,hi];exact⟨rows,hl,by rw[<-hk];exact ht,hk,by rw[hcm]⟩
  obtain⟨r,rows,e,h1,h2,rfl⟩:=key;exact⟨rows,h1,h2,e⟩
end Go.Proofs.YtggbaapfbgjaeaaGreatDoor
