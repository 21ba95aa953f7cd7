/- slices.Compact of. -/
import Derived.Test.YtggbaapfbgjaeaaGreatDoorRn1
import Derived.Test.YtggbaapfbgjaeaaGreatDoorSa1
import Derived.Test.YtggbaapfbgjaeaaGreatDoorVs3
import Derived.Test.YtggbaapfbgjaeaaGreatDoorCt2
import Derived.Sort.AssemblyPlain
import Derived.Test.YtggbaapfbgjaeaaGreatDoorPg8
import Derived.Test.YtggbaapfbgjaeaaGreatDoorLi1
set_option linter.all false
namespace Go.Proofs.YtggbaapfbgjaeaaGreatDoor
open Go Go.Am Go.Proofs
set_option maxRecDepth 100000
theorem zry{c:Ct}(hc:c.check=0){x:Sg}(hx:x∈c.signals):x.kind=0\/x.kind=1\/x.kind=2:=by
 obtain⟨i,hi,rfl⟩:=List.getElem_of_mem hx;have hz:=q2v hc i _ (jA hi);unfold q8k at hz;split at hz
 .split at hz
  .cases hz
  .omega
 .rename_i h4;exact absurd hz h4
set_option maxHeartbeats 2000000 in
theorem ev253{c:Ct}{u:Ste}(s:Ste)(h:Rdy c u)(gq wq:Nat)(L:List Int):ev pg (.call (fnq 253) [.bptr 15 0] (hM c s u (qao u)++hQ gq wq L))=some { v:=.tup [.bool (!qja u (qgl c u)),qct (quj c u)],st:=⟨[],hM c s (qgl c u) (qao u)++hQ gq wq L⟩ }:=by
 have hs:=h.small;have hS:=h.shp;have hM':=h.mid;have hn:=hM'.sig;have e1:1<=u.ends.length:=by have:=hS.e;have:=hM'.lo;have:=hM'.act;omega
 have hF:qao u<=10000:=by have:=hS.e;have:=hS.i;have:=hM'.inp;have:=hM'.hi;have:=hM'.act;unfold qao;omega
 have e149:=ev252 u hs;have e162:=ev268 c s u u gq wq L hs hS hn hF e1 (fun x hx=>(h.sig x hx).on);have hR:=qlg h.st;have hG:Rdy c (qdo c u):=⟨h.few,hR⟩
 have hgl:=qko (c:=c) u;have hfs:qao (qdo c u)=qao u:=rfl;have e163:=ev269 c s (qdo c u) u (qao u) gq wq L hG.small e1;have hl:=@z2b c s (qdo c u) u gq wq L hG.small hG.shp hn hF hG.sig (fun x hx=>zry h.chk hx);have e47:=ev182 u (qgl c u) hs;unfold qgl at e47 ⊢;unfold quj;have q1:(qdo c u).ends=u.ends:=rfl;have q2:(qdo c u).valves=u.valves:=rfl;have q3:(qdo c u).inputs=u.inputs:=rfl;have q4:(qdo c u).timers=u.timers:=rfl;have hGv:=hG.shp.v;have hGt:=hG.shp.t;clear hR hG hfs;generalize qdo c u=g at *;obtain⟨ge,gw,gi,gv,gt⟩:=g;simp only at q1 q2 q3 q4 hGv hGt hgl;subst q1 q2 q3 q4;generalize hg:(⟨u.ends,u.valves,u.inputs,gv,u.timers⟩:Ste)=g at *;have hlen:(qde c g).length=c.signals.length:=qje _ (by rw[<-hg];exact hGv) (by rw[<-hg];exact hGt);have l1:((qde c g).map Prod.fst).length=g.values.length:=by rw[List.length_map,hlen,<-hGv,<-hg]
 have l2:((qde c g).map Prod.snd).length=g.timers.length:=by rw[List.length_map,hlen,<-hGt,<-hg]
 have z1:tv c g 0=g.values:=qhl _ _;have z2:tt c g 0=g.timers:=qhl _ _;have f1:tv c g c.signals.length=(qde c g).map Prod.fst:=by have:=qkf l1;rwa [List.length_map,hlen]at this
 have f2:tt c g c.signals.length=(qde c g).map Prod.snd:=by have:=qkf l2;rwa [List.length_map,hlen]at this
 have z3:bdL c g (qao g) 0=[]:=rfl;have hFF:qao g=qao u:=by rw[<-hg]
 unfold zve zur at hl;rw[z3,z1,z2,f1,f2]at hl;rw[hFF]at hl;unfold qwz at e47 ⊢;rw[show qsb (q6q c (qae g)) (qao u:Nat) c.signals.length=bdL c g (qao u) c.signals.length from rfl];have hgc:g.ends=u.ends/\g.valves=u.valves/\g.inputs=u.inputs/\g.values=gv/\g.timers=u.timers:=by rw[<-hg];exact⟨rfl,rfl,rfl,rfl,rfl⟩
 obtain⟨k1,k2,k3,k4,k5⟩:=hgc;rw[k1,k2,k3]at hl e47 ⊢;rw[k4,k5]at hl;rw[k4,hgl]at l1;rw[k5]at l2;rw[<-hg]at e162;generalize bdL c g (qao u) c.signals.length=BB at *;generalize (qde c g).map Prod.fst=VV at *;generalize (qde c g).map Prod.snd=TT at *;generalize qae g=LL at *;generalize qao u=F at *;generalize qja u _=same at *;rw[<-hg]at e163;simp at e162 e163;rw[qab,pg253.1];simp[ir253,e149,e162,e163,ev270,qah];generalize hr:ev pg (.code (.going _ L253_0) _)=o;obtain⟨r,rfl,⟨gn,m⟩,hm,f,hf,rfl⟩:∃r,o=some r/\_:=by rw[<-hr];exact hl (0,0) (.inr rfl) (by simp)
 clear hr;have hmm:m=1\/m=0:=hm;rcases hmm with rfl | rfl<;>simp[qaa,exT,qag,e47,l1.symm,l2.symm]
def qhw(d:Array Int):List (List V):=d.toList.map qbh
def put(h:H)(i g:Nat)(d:Array Int):H:=h.set i ⟨g,.arr 1 (qhw d)⟩
@[simp] theorem zyi(d:Array Int):(qhw d).length=d.size:=by simp[qhw]
@[simp] theorem q2p(h:H)(i g:Nat)(d:Array Int):(put h i g d).length=h.length:=by simp[put]
theorem ztr{h:H}{i:Nat}(hi:i<h.length)(g:Nat)(d:Array Int):(put h i g d)[i]?=some ⟨g,.arr 1 (qhw d)⟩:=by unfold put;rw[jN hi]
theorem zjl{d:Array Int}{k:Nat}(hk:k<d.size):(qhw d)[k]?=some [num d[k]!]:=by unfold qhw;rw[List.getElem?_map,Array.getElem?_toList,Array.getElem?_eq_getElem hk,Option.map_some,getElem!_pos d k hk]
theorem zjm(d:Array Int)(k:Nat)(v:Int):(qhw d).set k [num v]=qhw (d.setIfInBounds k v):=by unfold qhw;rw[Array.toList_setIfInBounds,List.map_set]
theorem ztt(h:H)(i g:Nat)(d:Array Int)(d':Array Int):(put h i g d).set i ⟨g,.arr 1 (qhw d')⟩=put h i g d':=by unfold put;rw[List.set_set]
theorem q9e{h:H}(hc:qcp h)(i g:Nat)(d:Array Int):qcp (put h i g d):=by
 rw[qoa]at hc ⊢;intro o ho;rw[q2p];unfold put at ho;rcases jT ho with h1 | h1
 .exact hc o h1
 .rw[h1];rfl
theorem ztq{h:H}(hc:qcp h)(i g:Nat)(d:Array Int):qdw h.length (put h i g d)=put h i g d:=by have:=qfp (q9e hc i g d);rwa [q2p]at this
theorem znt{h:H}(hc:qcp h)(i g:Nat)(d:Array Int):qgt h.length (put h i g d)=put h i g d:=by have:=qvn (q9e hc i g d);rwa [q2p]at this
theorem znv{h:H}{i g:Nat}{d:Array Int}(hi:h[i]?=some ⟨g,.arr 1 (qhw d)⟩):put h i g d=h:=by unfold put;obtain⟨hl,e⟩:=jG.1 hi;rw[<-e,List.set_getElem_self]
theorem qrp{d:Array Int}{k:Nat}(hk:k<d.size):∀h,(qhw d)[k]'h=[num d[k]!]:=by intro h;have:=zjl hk;rw[jA h]at this;exact Option.some.inj this
theorem zro{P:Prg}{nx:Nat}{c:C}{T T':Tm}{h h':H}{Q:R->Prop}
  (step:∀f,Junk f->∃r,ev P (.code c ⟨fill f 0 T,h⟩)=some r/\((r.x=.normal/\At T' h' (qvr nx r.st))\/(r.x ≠ .normal/\Q r)))
  (next:∀st,At T' h' st->∃r,ev P (.code (.going nx c) st)=some r/\Q r) {st:St} (h0:At T h st):∃r,ev P (.code (.going nx c) st)=some r/\Q r:=by
 obtain⟨f,hf,rfl⟩:=h0.eq;obtain⟨r,e,hr⟩:=step f hf;rw[qdx,e];rcases hr with⟨hx,ha⟩ | ⟨hx,hq⟩
 .obtain⟨r',e',hq⟩:=next _ ha
  refine⟨r',?_,hq⟩;simp only[hx];exact e'
 .refine⟨r,?_,hq⟩;simp only
theorem q7p{P:Prg}{nx:Nat}{c:C}{T:Tm}{h:H}{Q:R->Prop}
  (step:∀f,Junk f->∃r,ev P (.code c ⟨fill f 0 T,h⟩)=some r/\r.x ≠ .normal/\Q r) {st:St} (h0:At T h st):∃r,ev P (.code (.going nx c) st)=some r/\Q r:=by
 obtain⟨f,hf,rfl⟩:=h0.eq;obtain⟨r,e,hx,hq⟩:=step f hf;rw[qdx,e];refine⟨r,?_,hq⟩;simp only
theorem zjk(e:Array Int)(k:Nat):∃z,∀h,(qhw e)[k]'h=[num z]:=⟨e[k]!,fun h=>qrp (by simpa using h) h⟩
structure Mem(h:H)(i g:Nat):Prop where
 lt:i<h.length
 get:∀d hh,(put h i g d)[i]'hh=⟨g,.arr 1 (qhw d)⟩
 set:∀d d',(put h i g d).set i ⟨g,.arr 1 (qhw d')⟩=put h i g d'
 cl:∀d,qgt h.length (put h i g d)=put h i g d
 ck:∀d,qdw h.length (put h i g d)=put h i g d
theorem zpc{h:H}{i:Nat}(hi:i<h.length)(hc:qcp h)(g:Nat):Mem h i g :=
 ⟨hi,fun d hh=>by
  have:=ztr hi g d;rw[jA hh]at this;exact Option.some.inj this,ztt h i g,znt hc i g,ztq hc i g⟩
theorem ev213{h:H}{i g:Nat}{l:List Int}(hg:h[i]?=some ⟨g,.arr 1 (l.map qbh)⟩)(hc:qcp h)(hn:l.length<65536):∃l':List Int,l'.Perm l/\l'.Pairwise (·<=·)/\ev pg (.call (fnq 213) [.sl i g 1 0 l.length] h)=some { v:=.tup [],st:=⟨[],h.set i ⟨g,.arr 1 (l'.map qbh)⟩⟩ }:=by
 obtain⟨hi,h2⟩:=jG.1 hg;have ck:=(zpc hi hc g).ck (qla l).toArray;refine⟨qla l,qox l,q2x l,?_⟩;have hput:put h i g (qla l).toArray=h.set i ⟨g,.arr 1 ((qla l).map qbh)⟩:=rfl;rw[<-hput];have hlen:(put h i g (qla l).toArray).length=h.length:=q2p _ _ _ _;have e:ev pg (.code ir213.body ⟨q3m ir213.ntmps [.sl i g 1 0 l.length],h⟩)=some { st:=⟨[.sl i g 1 0 l.length],put h i g (qla l).toArray⟩ }:=by show ev pg (.code (.giv 1) ⟨[.sl i g 1 0 l.length],h⟩)=_;rw[zot,hput];simp only[zki,if_true,hg,List.length_map,show l.length<4611686018427387904 by omega,and_self,qwn,qtd]
 generalize put h i g (qla l).toArray=H' at *;rw[qab,pg213.1];show(match ev pg (.code ir213.body ⟨q3m ir213.ntmps [.sl i g 1 0 l.length],h⟩)with | some r=>_ | none=>none)=_;rw[e];simp[-qdw,-qgt,ir213,qyu,ck]
theorem qvo:∀(xs:List Int) (y z:Int),qba (xs++[y,z])=if y=z then qba (xs++[y])else qba (xs++[y])++[z]
 | [],y,z=>by simp only[List.nil_append,qba];split<;>simp[*]
 | [x],y,z=>by simp only[List.cons_append,List.nil_append,qba];split<;>split<;>simp[*]
 | x :: x2 :: xs,y,z=>by
  have ih:=qvo (x2 :: xs) y z;simp only[List.cons_append]at ih ⊢;rw[qba,qba];split
  .exact ih
  .rw[ih];split<;>simp
theorem qmn{l:List Int}{m:Nat}(h1:1<=m)(h2:m<l.length):qba (l.take (m+1))=if l[m]=l[m-1]then qba (l.take m)else qba (l.take m)++[l[m]]:=by
 obtain⟨p,rfl⟩:∃p,m=p+1:=⟨m-1,by omega⟩
 have e1:l.take (p+1)=l.take p++[l[p]]:=jK (by omega);have e2:l.take (p+1+1)=l.take p++[l[p],l[p+1]]:=by rw[jK h2,e1,List.append_assoc];rfl
 rw[e2,qvo,<-e1];simp only[Nat.add_sub_cancel];by_cases c:l[p]=l[p+1]
 .rw[if_pos c,if_pos c.symm]
 .rw[if_neg c,if_neg (fun e=>c e.symm)]
theorem ztp{h:H}{i:Nat}(hi:i<h.length)(o:Ob)(g:Nat)(d:Array Int):put h i g d++[o]=put (h++[o]) i g d:=by unfold put;rw[List.set_append_left _ _ hi]
def zko(hl i g n k0 k t:Nat):Tm:=[some (.sl i g 1 0 n),none,some (.sl hl 0 0 0 0),nN k,some (.sl i g 1 k0 (n-k0)),nN t]++zN 55
structure G36(d0:Array Int)(n k0 t k:Nat)(d:Array Int):Prop where
 sz:d.size=n
 le:k<=k0+t
 eq:∀p,k0+t<=p->p<n->d[p]! = d0[p]!
 tk:d.toList.take k=qba (d0.toList.take (k0+t+1))
theorem zmn{d0 d:Array Int}{n k0 t k:Nat}(h0:d0.size=n)(hG:G36 d0 n k0 t k d)(ht:k0+t+1<n)(h1:d[k0+t+1]! ≠ d[k0+t]!):G36 d0 n k0 (t+1) (k+1) (d.setIfInBounds k d[k0+t+1]!):=by
 have h2:=hG.eq (k0+t+1) (by omega) ht;have h3:=hG.eq (k0+t) (by omega) (by omega);have hk:k<d.size:=by have:=hG.le;have:=hG.sz;omega
 have hc:=qmn (l:=d0.toList) (m:=k0+t+1) (by omega) (by simp;omega);refine⟨by simp[hG.sz],by have:=hG.le;omega,fun p hp hpn=>?_,?_⟩
 .rw[<-hG.eq p (by omega) hpn,getElem!_pos _ p (by simp;have:=hG.sz;omega),getElem!_pos d p (by have:=hG.sz;omega)];rw[Array.getElem_setIfInBounds_ne];have:=hG.le;omega
 .rw[show k0+(t+1)+1=k0+t+1+1 by omega,hc];have e1:(d0.toList[k0+t+1]'(by simp;omega))=d[k0+t+1]! := by
   rw[h2,getElem!_pos d0 _ (by omega)];simp
  have e2:(d0.toList[k0+t+1-1]'(by simp;omega))=d[k0+t]! := by rw[h3,getElem!_pos d0 _ (by omega)];simp
  rw[e1,e2,if_neg h1,<-hG.tk,Array.toList_setIfInBounds,jK (by simpa using hk)];rw[List.take_set_of_le (jD _)];simp
theorem zmm{d0 d:Array Int}{n k0 t k:Nat}(h0:d0.size=n)(hG:G36 d0 n k0 t k d)(ht:k0+t+1<n)(h1:d[k0+t+1]! = d[k0+t]!):G36 d0 n k0 (t+1) k d:=by
 have h2:=hG.eq (k0+t+1) (by omega) ht;have h3:=hG.eq (k0+t) (by omega) (by omega);have hc:=qmn (l:=d0.toList) (m:=k0+t+1) (by omega) (by simp;omega);refine⟨hG.sz,by have:=hG.le;omega,fun p hp hpn=>hG.eq p (by omega) hpn,?_⟩;rw[show k0+(t+1)+1=k0+t+1+1 by omega,hc];have e1:(d0.toList[k0+t+1]'(by simp;omega))=d[k0+t+1]! := by rw[h2,getElem!_pos d0 _ (by omega)];simp
 have e2:(d0.toList[k0+t+1-1]'(by simp;omega))=d[k0+t]! := by rw[h3,getElem!_pos d0 _ (by omega)];simp
 rw[e1,e2,if_pos h1];exact hG.tk
theorem z2h{h:H}{i g:Nat}(hm:Mem h i g)(hl n k0:Nat)(hhl:hl<h.length)(hn:n<=1000000)(d0:Array Int)(h0s:d0.size=n):∀(m t k:Nat) (d:Array Int),n-(k0+t+1)=m->k0+t+1<=n->G36 d0 n k0 t k d->∀(st:St),At (zko hl i g n k0 k (t+1)) (put h i g d) st->∃r,ev pg (.code (.going h.length L214_0) st)=some r/\∃d' k',G36 d0 n k0 (n-k0-1) k' d'/\qat (.exit 2) (zko hl i g n k0 k' (n-k0)) (put h i g d') r:=by
 intro m;induction m with
 | zero =>
  intro t k d hmm ht hG st h0;refine q7p (fun f hf=>?_) h0;obtain rfl:t=n-k0-1:=by omega
  have c1:¬((n-k0-1:Nat):Int)+1<((n-k0:Nat):Int):=by omega
  have c2:((n-k0-1:Nat):Int)+1=((n-k0:Nat):Int):=by omega
  unfold zko;generalize n-k0-1=t at *;generalize n-k0=L at *;simp[-qdw,-qgt,qaa,exT,qag,L214_0,c1,hf.ne];exact⟨d,k,hG,by simp[c2,hf.ne]⟩
 | succ m ih =>
  intro t k d hmm ht hG st h0;have hsz:=hG.sz;have hle:=hG.le;have c1:(t:Int)+1<((n-k0:Nat):Int):=by omega
  have c3:t+1<n-k0:=by omega
  have c4:t<n-k0:=by omega
  have m1:=hm.lt;have m2:=hm.set;have m3:=hm.get;have b1:k0+t<d.size:=by omega
  have b2:k0+(t+1)<d.size:=by omega
  have b3:k<d.size:=by omega
  have p1:(0:Int)<=(t:Int)+1:=by omega
  have r1:=qrp (d:=d) (k:=k0+t) b1;have r2:=qrp (d:=d) (k:=k0+(t+1)) b2;obtain⟨z,r3⟩:=zjk d k;have wt:=qam (n:=(t:Int)) (by omega) (by omega);have wt2:=qam (n:=(t:Int)+1+1) (by omega) (by omega);have wk:=qbi k;by_cases l1:d[k0+(t+1)]! = d[k0+t]!
  .have hG':=zmm h0s hG (by omega) l1;have ih':=ih (t+1) k d (by omega) (by omega) hG';refine zro (T':=zko hl i g n k0 k (t+1+1)) (h':=put h i g d) (fun f hf=>?_) ih' h0;have m4:=hm.cl d;rw[l1]at r2;unfold zko;generalize d[k0+t]! = y at *;generalize n-k0=L at *;simp[-qdw,-qgt,qaa,exT,qag,L214_0,hhl,c1,c3,c4,p1,m1,m3,m4,r1,r2,b1,b2,wt,wt2,hf.ne]
  .have hG':=zmn h0s hG (by omega) l1;have ih':=ih (t+1) (k+1) _ (by omega) (by omega) hG';refine zro (T':=zko hl i g n k0 (k+1) (t+1+1)) (h':=put h i g (d.setIfInBounds k d[k0+(t+1)]!)) (fun f hf=>?_) ih' h0;have m4:=hm.cl (d.setIfInBounds k d[k0+(t+1)]!);have hb:(d[k0+(t+1)]! == d[k0+t]!)=false:=by simpa using l1
   unfold zko;have hr3:∀hh,(qhw d)[k]'hh=[num z]:=r3;generalize d[k0+t]! = y at *;generalize d[k0+(t+1)]! = x at *;generalize n-k0=L at *;have b3':k<n:=by omega
   simp[-qdw,-qgt,qaa,exT,qag,L214_0,hhl,c1,c3,c4,p1,m1,m2,m3,m4,r1,r2,hr3,b1,b2,b3,b3',wt,wt2,wk,l1,hb,zjm,hf.ne]
def zkp(hl i g n k:Nat):Tm:=[some (.sl i g 1 0 n),none,some (.sl hl 0 0 0 0),nN k]++zN 57
def z1b(i g k:Nat):Tm:=[none,none,some (.sl i g 1 0 k)]++zN 58
inductive Out36 (h:H) (hl i g n:Nat) (d0:Array Int) (r:R):Prop where
 | no (hc:qba d0.toList=d0.toList) (he:qat (.exit 0) (zkp hl i g n n) (put h i g d0) r)
 | yes (rows:List (List V)) (k:Nat) (hk:k=(qba d0.toList).length) (hl:rows.length=n) (ht:rows.take k=(qba d0.toList).map qbh) (he:qat .ret (z1b i g k) (h.set i ⟨g,.arr 1 rows⟩) r)
theorem z2i{h:H}{i g:Nat}(hm:Mem h i g)(hl n:Nat)(hhl:hl<h.length)(hn:n<=1000000)(d0:Array Int)(h0s:d0.size=n):∀(m k:Nat),n-k=m->1<=k->k<=n->qba (d0.toList.take k)=d0.toList.take k->∀(st:St),At (zkp hl i g n k) (put h i g d0) st->∃r,ev pg (.code (.going h.length L214_1) st)=some r/\Out36 h hl i g n d0 r:=by
 subst h0s;intro m;induction m with
 | zero =>
  intro k hk h1 h2 hc st h0;obtain rfl:k=d0.size:=by omega
  refine q7p (fun f hf=>?_) h0;simp[-qdw,-qgt,L214_1,zkp,hf.ne];refine .no ?_ (by simp[zkp,hf.ne]);rw[kB (by simp)]at hc;exact hc
 | succ m ih =>
  intro k hk h1 h2 hc st h0;obtain⟨k,rfl⟩:∃q,k=q+1:=⟨k-1,by omega⟩
  have c1:(k:Int)+1<d0.size:=by omega
  have m1:=hm.lt;have m3:=hm.get;have b1:k<d0.size:=by omega
  have b2:k+1<d0.size:=by omega
  have p1:(0:Int)<=(k:Int)+1:=by omega
  have r1:=qrp (d:=d0) (k:=k) b1;have r2:=qrp (d:=d0) (k:=k+1) b2;have wk:=qam (n:=(k:Int)) (by omega) (by omega);have wk2:=qam (n:=(k:Int)+1+1) (by omega) (by omega);have hct:=qmn (l:=d0.toList) (m:=k+1) (by omega) (by simp;omega);have e1:(d0.toList[k+1]'(by simp;omega))=d0[k+1]! := by rw[getElem!_pos d0 _ b2];simp
  have e2:(d0.toList[k+1-1]'(by simp;omega))=d0[k]! := by rw[getElem!_pos d0 _ b1];simp
  rw[e1,e2]at hct;by_cases l1:d0[k+1]! = d0[k]!
  .rw[if_pos l1,hc]at hct;have hG:G36 d0 d0.size (k+1) 0 (k+1) d0:=⟨rfl,by omega,fun p _ _=>rfl,hct.symm⟩
   have hla:=z2h hm hl d0.size (k+1) hhl hn d0 rfl _ 0 (k+1) d0 rfl (by omega) hG;refine q7p (fun f hf=>?_) h0;have c2:k+1<=d0.size:=h2;unfold zkp;rw[l1]at r2;generalize d0[k]! = y at *;simp[-qdw,-qgt,qaa,exT,qag,L214_1,c1,c2,p1,m1,m3,r1,r2,b1,b2,wk,qah,hf.ne];generalize hr:ev pg (.code (.going _ L214_0) _)=o;obtain⟨r,rfl,d',k',hG',f2,hf2,rfl⟩:∃r,o=some r/\_:=by rw[<-hr];exact hla _ (by simp[zko,hhl,hf.ne])
   clear hr;have hsz:=hG'.sz;have hle:=hG'.le;have hkn:k'<d0.size:=by omega
   have htk:=hG'.tk;rw[show k+1+(d0.size-(k+1)-1)+1=d0.size by omega,kB (l:=d0.toList) (by simp)]at htk;have hlen:k'=(qba d0.toList).length:=by rw[<-htk];simp;omega
   have q1:k'<=d0.size:=by omega
   have q2:¬d0.size-k'=0:=by omega
   have q3:k'+(d0.size-k')<=d'.size:=by omega
   simp[-qdw,-qgt,-qdc,zko,m1,m3,hsz,q1,q2,q3,hf2.ne];refine .yes (List.take k' (qhw d')++(List.replicate (d0.size-k') [num 0]++List.drop d0.size (qhw d'))) k' hlen ?_ ?_ (by simp[z1b,put,hf2.ne])
   .simp[hsz];omega
   .rw[List.take_append_of_le_length (by simp;omega),List.take_take,Nat.min_self,<-htk];unfold qhw;rw[List.map_take]
  .rw[if_neg l1,hc]at hct;have hc':qba (d0.toList.take (k+1+1))=d0.toList.take (k+1+1):=by
    rw[hct,jK (i:=k+1) (by simp;omega),e1]
   have ih':=ih (k+1+1) (by omega) (by omega) (by omega) hc';refine zro (T':=zkp hl i g d0.size (k+1+1)) (h':=put h i g d0) (fun f hf=>?_) ih' h0;have m4:=hm.cl d0;have hb:(d0[k+1]! == d0[k]!)=false:=by simpa using l1
   unfold zkp;generalize d0[k]! = y at *;generalize d0[k+1]! = x at *;simp[-qdw,-qgt,qaa,exT,qag,L214_1,c1,p1,m1,m3,m4,r1,r2,b1,b2,wk,wk2,l1,hb,hhl,hf.ne]
theorem ev214{h:H}{i g:Nat}{l:List Int}(hg:h[i]?=some ⟨g,.arr 1 (l.map qbh)⟩)(hc:qcp h)(hn:l.length<65536):∃rows,rows.length=l.length/\rows.take (qba l).length=(qba l).map qbh/\ev pg (.call (fnq 214) [.sl i g 1 0 l.length] h)=some { v:=.sl i g 1 0 (qba l).length,st:=⟨[],h.set i ⟨g,.arr 1 rows⟩⟩ }:=by
 obtain⟨hi,_⟩:=jG.1 hg;have hset:h.set i ⟨g,.arr 1 (l.map qbh)⟩=h:=by obtain⟨hi',e⟩:=jG.1 hg;rw[<-e,List.set_getElem_self]
 have hcm:h.map (qbw h.length)=h:=hc;by_cases h2:l.length<2
 .have hcl:qba l=l:=by
   rcases l with _ | ⟨x,_ | ⟨y,l⟩⟩
   .rfl
   .rfl
   .simp at h2;omega
  refine⟨l.map qbh,by simp,by rw[hcl,kB (by simp)],?_⟩;rw[hset,hcl];have h2':(l.length:Int)<2:=by omega
  rw[qab,pg214.1];simp[-qdw,-qgt,ir214,h2',qck,qet,qed,hcm,hi]
 .have h2':¬(l.length:Int)<2:=by omega
  have hi1:i<(h++[(⟨0,.arr 0 []⟩:Ob)]).length:=by simp;omega
  have hc1:qcp (h++[(⟨0,.arr 0 []⟩:Ob)]):=qgg hc (by
   intro o ho;rw[List.mem_singleton.1 ho];rfl)
  have hm:=zpc hi1 hc1 g;have hps:put (h++[(⟨0,.arr 0 []⟩:Ob)]) i g l.toArray=h++[(⟨0,.arr 0 []⟩:Ob)]:=by rw[<-ztp hi,znv (by simpa[qhw]using hg)]
  have hlp:=z2i hm h.length l.length (by simp) (by omega) l.toArray (by simp) _ 1 rfl (jD _) (by omega) (by
   rcases l with _ | ⟨x,l⟩
   .simp at h2
   .simp[qba])
  rw[hps]at hlp;simp only[jF,List.length_cons,List.length_nil,Nat.zero_add]at hlp;have key:∃r rows,ev pg (.call (fnq 214) [.sl i g 1 0 l.length] h)=some r/\rows.length=l.length/\rows.take (qba l).length=(qba l).map qbh/\r={ v:=.sl i g 1 0 (qba l).length,st:=⟨[],h.set i ⟨g,.arr 1 rows⟩⟩ }:=by
   rw[qab,pg214.1];simp[-qdw,-qgt,ir214,h2',qah];generalize hr:ev pg (.code (.going _ L214_1) _)=o;obtain⟨r,rfl,hO⟩:∃r,o=some r/\_:=by rw[<-hr];exact hlp _ (by simp[zkp])
   clear hr;cases hO with
   | no hcc he =>
    obtain⟨f,hf,rfl⟩:=he;have ck2:=qey hc [(⟨0,.arr 0 []⟩:Ob)];simp only at hcc;have hcl:qba l=l:=by simpa using hcc
    rw[hps];simp[-qdw,-qgt,zkp,ck2,qck,qet,qed,hi];exact⟨l.map qbh,by simp,by rw[hcl,kB (by simp)],by rw[hcl],by rw[hcm,hset]⟩
   | yes rows k hk hl ht he =>
    obtain⟨f,hf,rfl⟩:=he;simp only at hk ht;have hcal:qcp (h.set i ⟨g,.arr 1 rows⟩):=by
     rw[qoa]at hc ⊢;intro o ho;rw[jU];rcases jT ho with h1 | h1
     .exact hc o h1
     .rw[h1];rfl
    have ck2:=qey hcal [(⟨0,.arr 0 []⟩:Ob)];rw[jU]at ck2;have hsa:(h++[(⟨0,.arr 0 []⟩:Ob)]).set i ⟨g,.arr 1 rows⟩=h.set i ⟨g,.arr 1 rows⟩++[(⟨0,.arr 0 []⟩:Ob)]:=by rw[List.set_append_left _ _ hi]
    rw[hsa];simp[-qdw,-qgt,z1b,ck2,qck,qet,qed,hi];exact⟨rows,hl,by rw[<-hk];exact ht,hk,by rw[hcm]⟩
  obtain⟨r,rows,e,h1,h2,rfl⟩:=key;exact⟨rows,h1,h2,e⟩
end Go.Proofs.YtggbaapfbgjaeaaGreatDoor
