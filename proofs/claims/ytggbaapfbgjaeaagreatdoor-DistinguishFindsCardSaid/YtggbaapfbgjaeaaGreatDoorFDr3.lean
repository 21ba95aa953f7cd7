/- All tests. -/
import Derived.Test.YtggbaapfbgjaeaaGreatDoorFDq12
import Derived.Test.YtggbaapfbgjaeaaGreatDoorFSv1
import Derived.Test.YtggbaapfbgjaeaaGreatDoorFAf1
set_option linter.all false
namespace Go.Proofs.YtggbaapfbgjaeaaGreatDoor
open Go Go.Am Go.Proofs
set_option maxRecDepth 100000
set_option maxHeartbeats 4000000
def qml(a b:Ct)(test:List Int):Bool:=!decide (qbm a test=qbm b test)
theorem ev59{a b:Ct}(ha:a.small=true)(hb:b.small=true){test:List Int}(ht:test.length<=4)(hia:∀i∈test,0<=i/\i<a.inputs.length)(hib:∀i∈test,0<=i/\i<b.inputs.length) :
  ev pg (.call (fnq 59) [a.v,b.v,qcr test] [])=some (rvq (.bool (qml a b test))):=by
 have e1:=ev55 ha (test:=test) (by omega) hia;have e2:=ev55 hb (test:=test) (by omega) hib;have o1:=qtm ha ht;have o2:=qtm hb ht;have hk:=znt (r:=(qbm a test).2) (r':=(qbm b test).2) o1 o2;have e3:=ev69 o1 (qbm a test).2;have e4:=ev69 o2 (qbm b test).2;have hk2:(qbm a test=qbm b test)<->q8h ((qbm a test).1.map fun w=>w.map toN) (qbm a test).2=q8h ((qbm b test).1.map fun w=>w.map toN) (qbm b test).2:=by rw[Prod.ext_iff,<-hk];exact⟨fun h=>by injection h,fun h=>congrArg V.str h⟩
 unfold qml;rw[qaa,pg59.1];by_cases h:qbm a test=qbm b test
 .have h2:=hk2.1 h;simp only[h,decide_true,Bool.not_true];rw[h]at e1 e3;simp[ir59,e1,e2,e3,e4,qab,qay,exT,qag]
 .have h2:¬q8h ((qbm a test).1.map fun w=>w.map toN) (qbm a test).2=q8h ((qbm b test).1.map fun w=>w.map toN) (qbm b test).2:=fun hh=>h (hk2.2 hh);simp only[h,decide_false,Bool.not_false];simp[ir59,e1,e2,e3,e4,qab,qay,exT,qag];exact h2
def zpp(a b:List (Int×Bool))(k:Nat):Tm:=[some (q3k a),some (q3k b),none,none,some (.bool false),nN k]++zN 20
def zfg:Tm:=[none,none,none,none,some (.bool false)]++zN 21
theorem z4j(a b:List (Int×Bool))(hab:b.length=a.length)(ha:a.length<=100000){st:St}(h0:At (zpp a b 0) [] st):∃r,ev pg (.code (.going 0 L60_0) st)=some r/\qph a.length (fun k=>decide (a[k]?≠b[k]?)) (fun _=>qar .ret zfg []) (qar (.exit 0) (List.replicate 26 none) []) r:=by
 refine qdw _ _ (zpp a b) [] _ _ ?_ ?_ ?_ h0
 .intro k f hf hk hp;have hk':(k:Int)<a.length:=by omega
  have hkb:k<b.length:=by omega
  have wk:=qbc k;have hb:a[k]=b[k]:=by simpa[hk,hkb]using hp
  simp[qay,exT,qag,zpp,L60_0,hk,hk',hkb,hb,wk,hf.ne]
 .intro k f hf hk hp;have hk':(k:Int)<a.length:=by omega
  have hkb:k<b.length:=by omega
  have hb:a[k]≠b[k]:=by simpa[hk,hkb]using hp
  by_cases h1:a[k].1=b[k].1
  .have h2:¬a[k].2=b[k].2:=fun h=>hb (Prod.ext h1 h);have h2b:(a[k].2==b[k].2)=false:=by simpa using h2
   simp[qay,exT,qag,zpp,zfg,L60_0,hk,hk',hkb,h1,h2,h2b,hf.ne]
  .have h1b:(a[k].1==b[k].1)=false:=by simpa using h1
   by_cases h2:a[k].2=b[k].2
   .simp[qay,exT,qag,zpp,zfg,L60_0,hk,hk',hkb,h1,h1b,h2,hf.ne]
   .have h2b:(a[k].2==b[k].2)=false:=by simpa using h2
    simp[qay,exT,qag,zpp,zfg,L60_0,hk,hk',hkb,h1,h1b,h2,h2b,hf.ne]
 .intro f hf;simp[zpp,L60_0,hf.ne]
theorem zaj{α:Type}[DecidableEq α]{a b:List α}(hab:b.length=a.length){X:Nat->R->Prop}{Y:R->Prop}{r:R}(h:qph a.length (fun k=>decide (a[k]?≠b[k]?)) X Y r):(a≠b/\∃k,X k r)\/(a=b/\Y r):=by
 rcases h with⟨k,hk,hp,-,hX⟩ | ⟨hp,hY⟩
 .refine .inl ⟨?_,k,hX⟩;rintro rfl;simp at hp
 .refine .inr ⟨?_,hY⟩;apply List.ext_getElem?;intro k;by_cases hk:k<a.length
  .have:=hp k hk;simpa using this
  .rw[jY (by omega),jY (by omega)]
theorem ev60(a b:List (Int×Bool))(ha:a.length<=100000):ev pg (.call (fnq 60) [q3k a,q3k b] [])=some (rvq (.bool (decide (a=b)))):=by
 rw[qaa,pg60.1];by_cases hl:a.length=b.length
 .have hl':(a.length:Int)=b.length:=by omega
  have hlp:=fun st=>z4j a b hl.symm ha (st:=st);simp[ir60,hl',qai];generalize hq:ev pg (.code (.going _ L60_0) _)=o;obtain⟨r,rfl,hr⟩:∃r,o=some r/\_:=by rw[<-hq];exact hlp _ (by simp[zpp])
  rcases zaj hl.symm hr with⟨hne,_,fr,hfr,rfl⟩ | ⟨he,fr,hfr,rfl⟩
  .simp[zfg,hfr.ne,hne]
  .simp[hfr.ne,he]
 .have hl':¬(a.length:Int)=b.length:=by omega
  have hne:a≠b:=fun h=>hl (by rw[h]);have hlb:((a.length:Int) != (b.length:Int))=true:=by simpa using hl'
  simp[ir60,hl',hlb,hne]
abbrev hS(W:List (List (Int×Bool)))(r:Bool)(U:List (List (Int×Bool)))(q:Bool):H:=[⟨0,.box [.imm (W.map zqs),.bool r]⟩,⟨0,.box [.imm (U.map zqs),.bool q]⟩]
def zwf(k:Nat):Tm:=[none,none,bN 0,bN 1,some (.bool false),nN k]++zN 33
def zrm:Tm:=[none,none,none,none,some (.bool false)]++zN 34
theorem z4d(W U:List (List (Int×Bool)))(r q:Bool)(hab:U.length=W.length)(hw:∀w∈W,w.length<=100000)(ha:W.length<=100000){st:St}(h0:At (zwf 0) (hS W r U q) st):∃o,ev pg (.code (.going 2 L24_0) st)=some o/\qph W.length (fun k=>decide (W[k]?≠U[k]?)) (fun _=>qar .ret zrm (hS W r U q)) (qar (.exit 0) (List.replicate 39 none) (hS W r U q)) o:=by
 refine qdw _ _ zwf (hS W r U q) _ _ ?_ ?_ ?_ h0
 .intro k f hf hk hp;have hk':(k:Int)<W.length:=by omega
  have hkb:k<U.length:=by omega
  have wk:=qbc k;have hb:W[k]=U[k]:=by simpa[hk,hkb]using hp
  have e1:=ev60 W[k] U[k] (hw _ (jH hk));simp only[hb,decide_true]at e1;simp[qay,exT,qag,zwf,L24_0,hk,hk',hkb,hb,e1,wk,hf.ne]
 .intro k f hf hk hp;have hk':(k:Int)<W.length:=by omega
  have hkb:k<U.length:=by omega
  have hb:W[k]≠U[k]:=by simpa[hk,hkb]using hp
  have e1:=ev60 W[k] U[k] (hw _ (jH hk));simp only[hb,decide_false]at e1;simp[qay,exT,qag,zwf,zrm,L24_0,hk,hk',hkb,e1,hf.ne]
 .intro f hf;simp[zwf,L24_0,hf.ne]
theorem ev24(W U:List (List (Int×Bool)))(r q:Bool)(hw:∀w∈W,w.length<=100000)(ha:W.length<=100000):ev pg (.call (fnq 24) [zoo W r,zoo U q] [])=some (rvq (.bool (decide ((W,r)=(U,q))))):=by
 rw[qaa,pg24.1];by_cases hr:r=q
 .subst hr;by_cases hl:W.length=U.length
  .have hl':(W.length:Int)=U.length:=by omega
   have hlp:=fun st=>z4d W U r r hl.symm hw ha (st:=st);simp[ir24,hl',qai];generalize hq:ev pg (.code (.going _ L24_0) _)=o;obtain⟨o',rfl,ho⟩:∃o',o=some o'/\_:=by rw[<-hq];exact hlp _ (by simp[zwf])
   rcases zaj hl.symm ho with⟨hne,_,fr,hfr,rfl⟩ | ⟨he,fr,hfr,rfl⟩
   .simp[zrm,hfr.ne,hne]
   .simp[hfr.ne,he]
  .have hl':¬(W.length:Int)=U.length:=by omega
   have hne:W≠U:=fun h=>hl (by rw[h]);have hlb:((W.length:Int) != (U.length:Int))=true:=by simpa using hl'
   simp[ir24,hl',hlb,hne]
 .have hrb:(r==q)=false:=by simpa using hr
  simp[ir24,hr,hrb]
theorem ev52(c:Ct)(hfew:c.small=true)(p q:Int×Int){test:List Int}(hg:qza c [p,q]=0)(ht:zwp c test=0):ev pg (.call (fnq 52) [c.v,fv p.1 p.2,fv q.1 q.2,qcr test] [])=some (rvq (.bool (qml (ofC c p).1 (ofC c q).1 test))):=by
 obtain⟨q1,q2,q3⟩:=q5b hg;obtain⟨r1,r2,r3⟩:=qrm hfew q1 (q3 p (by simp));obtain⟨s1,s2,s3⟩:=qrm hfew q1 (q3 q (by simp));obtain⟨t1,t2⟩:=z0c ht;have e1:=ev57 c hfew p;have e2:=ev57 c hfew q;have e3:=ev58 r1 (test:=test) (by omega) (by rw[r3];exact t2) r2;have e4:=ev58 s1 (test:=test) (by omega) (by rw[s3];exact t2) s2;have o1:=qtm r1 t1;have e5:=ev24 (qbm (ofC c p).1 test).1 (qbm (ofC c q).1 test).1 (qbm (ofC c p).1 test).2 (qbm (ofC c q).1 test).2 (fun w hw=>by have:=(o1.2 w hw).1;omega) (by have:=o1.1;omega);unfold qml;rw[qaa,pg52.1];have e6:decide ((qbm (ofC c p).1 test).1=(qbm (ofC c q).1 test).1/\(qbm (ofC c p).1 test).2=(qbm (ofC c q).1 test).2)=decide (qbm (ofC c p).1 test=qbm (ofC c q).1 test):=by rw[decide_eq_decide,Prod.ext_iff]
 generalize qbm (ofC c p).1 test=x at *;generalize qbm (ofC c q).1 test=y at *;generalize ofC c p=d at *;generalize ofC c q=d' at *;obtain⟨d,e⟩:=d;obtain⟨d',e'⟩:=d';obtain⟨x1,x2⟩:=x;obtain⟨y1,y2⟩:=y;simp only at e1 e2 e3 e4 e5;generalize decide ((x1,x2)=(y1,y2))=z at *;simp[ir52,e1,e2,e3,e4,e5,qab,qay,exT,qag]
def zyc(c:Ct)(n:Nat)(most:Int):Bool:=c.few&&(!(decide (30<n)||(decide (3<n)&&decide (n<=10))))&&(decide (4<most)||(decide (most<=2)&&decide (c.inputs.length<=2))||decide (most<=1))
theorem zcx{c:Ct}{n:Nat}{m:Int}(h:zyc c n m=true):c.small=true:=by unfold zyc at h;simp only[jE]at h;exact zhi h.1.1
abbrev hPq(c:Ct)(p q:Int×Int):H:=[⟨0,.box c.cells⟩,⟨0,.box [num p.1,num p.2,num q.1,num q.2]⟩]
def qmu(n:Nat)(t:List Int):List (List Int):=(List.range n).map fun(x:Nat)=>t++[(x:Int)]
def qmm(n:Nat)(l:List (List Int)):List (List Int):=l.flatMap (qmu n)
def lvl(n:Nat):Nat->List (List Int)
 | 0=>[[]]
 | k+1=>qmm n (lvl n k)
def qcm(n:Nat):Nat->List (List Int)
 | 0=>[[]]
 | k+1=>qcm n k++lvl n (k+1)
theorem qoi(n:Nat)(t:List Int):(qmu n t).length=n:=by simp[qmu]
theorem qta{n:Nat}:∀{k:Nat} {t:List Int},t∈lvl n k->t.length=k
 | 0,t,h=>by simp only[lvl,List.mem_singleton]at h;subst h;rfl
 | k+1,t,h=>by simp only[lvl,qmm,List.mem_flatMap]at h;obtain⟨s,hs,ht⟩:=h;simp only[qmu,List.mem_map]at ht;obtain⟨x,_,rfl⟩:=ht;simp[qta hs]
theorem ziz{n:Nat}:∀{k:Nat} {t:List Int},t∈lvl n k->∀i∈t,0<=i/\i<n
 | 0,t,h=>by simp only[lvl,List.mem_singleton]at h;subst h;simp
 | k+1,t,h=>by
  simp only[lvl,qmm,List.mem_flatMap]at h;obtain⟨s,hs,ht⟩:=h;simp only[qmu,List.mem_map,List.mem_range]at ht;obtain⟨x,hx,rfl⟩:=ht;intro i hi;rcases jQ.1 hi with hi | hi
  .exact ziz hs i hi
  .simp only[List.mem_singleton]at hi;omega
theorem qqr{n:Nat}:∀{k:Nat} {t:List Int},t∈qcm n k->∃j,j<=k/\t∈lvl n j
 | 0,t,h=>⟨0,jD _,h⟩
 | k+1,t,h=>by
  rcases jQ.1 h with h | h
  .obtain⟨j,hj,ht⟩:=qqr h;exact⟨j,by omega,ht⟩
  .exact⟨k+1,jD _,h⟩
theorem q9i(n:Nat):∀k,0<(qcm n k).length
 | 0=>by simp[qcm]
 | k+1=>by have:=q9i n k;simp only[qcm,jF];omega
theorem q4f(n:Nat):∀{j k:Nat},j<=k->(qcm n j).length<=(qcm n k).length
 | j,0,h=>by cases Nat.le_zero.1 h;exact jD _
 | j,k+1,h=>by
  rcases Nat.lt_or_ge j (k+1)with h' | h'
  .have:=q4f n (show j<=k by omega);simp only[qcm,jF];omega
  .have:j=k+1:=by omega
   subst this;exact jD _
abbrev zwo(t:List Int):List V:=[qcr t]
def zpk(q:Option V):Prop:=q=none\/q=some .nils
abbrev hEv(g:Nat)(O:List (List Int))(E:H):H:=[⟨g,.arr 1 (O.map zwo)⟩,⟨0,.arr 0 []⟩]++E
def qhz(n:Int)(most g:Nat)(O:Nat)(fr k to i:Int)(x:Nat)(q:Option V):Tm:=[nN n,nN most,none,none,some (.sl 1 0 0 0 0),some (.sl 0 g 1 0 O),nN fr,nN k,nN to,nN i,nN x]++zN 20++[q]++zN 12
theorem q4t{n x:Nat}(hx:x<n)(t:List Int):(qmu n t).take (x+1)=(qmu n t).take x++[t++[(x:Int)]]:=by rw[jK (by rw[qoi];exact hx)];simp[qmu]
theorem z3s(n most g:Nat)(O:List (List Int))(fr k to:Int)(i:Nat)(t:List Int)(hit:O[i]?=some t)(E:H)(hE:E=[]\/E=[⟨0,.arr 0 []⟩]\/E=[⟨0,.arr 0 []⟩,⟨0,.arr 0 []⟩])(q:Option V)(hq:zpk q)(hn:n<=100)(ht:t.length<=10)(hO:O.length+n<=1000){st:St}(h0:At (qhz n most g O.length fr k to i 0 q) (hEv g O E) st) :
  ∃r,ev pg (.code (.goingF (2+E.length) [5] L49_0) st)=some r/\∃g' q',zpk q'/\qar (.exit 4) (qhz n most g' (O.length+n) fr k to i n q') (hEv g' (O++qmu n t) E) r:=by
 have hl:=qoi n t;have hi:i<O.length:=(jG.1 hit).1;refine qrj (α:=Nat×Option V) n (fun x a=>qhz n most a.1 (O.length+x) fr k to i x a.2) (fun x a=>hEv a.1 (O++(qmu n t).take x) E) (fun _ a=>zpk a.2) _ ?_ ?_ (g,q) hq (by simpa using h0)
 .rintro x ⟨g',q'⟩ f hf hx hq';have hx':(x:Int)<n:=by omega
  have wx:=qbc x;have hb:(O.length+x+1)*24<=140737488355328:=by omega
  have hb2:(t.length+1)*8<=140737488355328:=by omega
  have hi2:i<O.length+x:=by omega
  have hl2:((qmu n t).take x).length=x:=by rw[List.length_take,hl];omega
  have hin:(O++(qmu n t).take x)[i]?=some t:=by rw[jI hi,hit]
  have hnx:O++(qmu n t).take (x+1)=O++(qmu n t).take x++[t++[(x:Int)]]:=by rw[q4t hx,List.append_assoc]
  generalize hP:O++(qmu n t).take x=P at *;have hPl:P.length=O.length+x:=by rw[<-hP,jF,hl2]
  simp only[hnx];have hPi:P[i]'(by omega)=t:=(jG.1 hin).2;have hb3:t.length*8<=140737488355328:=by omega
  rcases hE with rfl | rfl | rfl<;>rcases hq' with h | h<;>simp only at h<;>subst h
  .obtain⟨S,H',e,hS,hH⟩:∃S H',ev pg (.code L49_0 ⟨fill f 0 (qhz n most g' (O.length+x) fr k to i x none),hEv g' P []⟩)=some { st:=⟨S,H'⟩ }/\qft (qhz n most (g'+1) (O.length+(x+1)) fr k to i (x+1:Nat) (some .nils)) (qjh 2 [5] ⟨S,H'⟩).s/\(qjh 2 [5] ⟨S,H'⟩).h=hEv (g'+1) (P++[t++[(x:Int)]]) []:=by
    simp[-qjh,qhz,L49_0,hx',hx,wx,hb,hb2,hb3,hi2,hPi,hPl,hf.ne];refine⟨_,_,⟨rfl,rfl⟩,?_,?_⟩
    .simp[hf.ne,Nat.add_assoc]
    .simp
   exact⟨_,e,.inl ⟨rfl,(g'+1,some .nils),.inr rfl,hS,hH⟩⟩
  .obtain⟨S,H',e,hS,hH⟩:∃S H',ev pg (.code L49_0 ⟨fill f 0 (qhz n most g' (O.length+x) fr k to i x (some .nils)),hEv g' P []⟩)=some { st:=⟨S,H'⟩ }/\qft (qhz n most (g'+1) (O.length+(x+1)) fr k to i (x+1:Nat) (some .nils)) (qjh 2 [5] ⟨S,H'⟩).s/\(qjh 2 [5] ⟨S,H'⟩).h=hEv (g'+1) (P++[t++[(x:Int)]]) []:=by
    simp[-qjh,qhz,L49_0,hx',hx,wx,hb,hb2,hb3,hi2,hPi,hPl,hf.ne];refine⟨_,_,⟨rfl,rfl⟩,?_,?_⟩
    .simp[hf.ne,Nat.add_assoc]
    .simp
   exact⟨_,e,.inl ⟨rfl,(g'+1,some .nils),.inr rfl,hS,hH⟩⟩
  .obtain⟨S,H',e,hS,hH⟩:∃S H',ev pg (.code L49_0 ⟨fill f 0 (qhz n most g' (O.length+x) fr k to i x none),hEv g' P [⟨0,.arr 0 []⟩]⟩)=some { st:=⟨S,H'⟩ }/\qft (qhz n most (g'+1) (O.length+(x+1)) fr k to i (x+1:Nat) (some .nils)) (qjh 3 [5] ⟨S,H'⟩).s/\(qjh 3 [5] ⟨S,H'⟩).h=hEv (g'+1) (P++[t++[(x:Int)]]) [⟨0,.arr 0 []⟩]:=by
    simp[-qjh,qhz,L49_0,hx',hx,wx,hb,hb2,hb3,hi2,hPi,hPl,hf.ne];refine⟨_,_,⟨rfl,rfl⟩,?_,?_⟩
    .simp[hf.ne,Nat.add_assoc]
    .simp
   exact⟨_,e,.inl ⟨rfl,(g'+1,some .nils),.inr rfl,hS,hH⟩⟩
  .obtain⟨S,H',e,hS,hH⟩:∃S H',ev pg (.code L49_0 ⟨fill f 0 (qhz n most g' (O.length+x) fr k to i x (some .nils)),hEv g' P [⟨0,.arr 0 []⟩]⟩)=some { st:=⟨S,H'⟩ }/\qft (qhz n most (g'+1) (O.length+(x+1)) fr k to i (x+1:Nat) (some .nils)) (qjh 3 [5] ⟨S,H'⟩).s/\(qjh 3 [5] ⟨S,H'⟩).h=hEv (g'+1) (P++[t++[(x:Int)]]) [⟨0,.arr 0 []⟩]:=by
    simp[-qjh,qhz,L49_0,hx',hx,wx,hb,hb2,hb3,hi2,hPi,hPl,hf.ne];refine⟨_,_,⟨rfl,rfl⟩,?_,?_⟩
    .simp[hf.ne,Nat.add_assoc]
    .simp
   exact⟨_,e,.inl ⟨rfl,(g'+1,some .nils),.inr rfl,hS,hH⟩⟩
  .obtain⟨S,H',e,hS,hH⟩:∃S H',ev pg (.code L49_0 ⟨fill f 0 (qhz n most g' (O.length+x) fr k to i x none),hEv g' P [⟨0,.arr 0 []⟩,⟨0,.arr 0 []⟩]⟩)=some { st:=⟨S,H'⟩ }/\qft (qhz n most (g'+1) (O.length+(x+1)) fr k to i (x+1:Nat) (some .nils)) (qjh 4 [5] ⟨S,H'⟩).s/\(qjh 4 [5] ⟨S,H'⟩).h=hEv (g'+1) (P++[t++[(x:Int)]]) [⟨0,.arr 0 []⟩,⟨0,.arr 0 []⟩]:=by
    simp[-qjh,qhz,L49_0,hx',hx,wx,hb,hb2,hb3,hi2,hPi,hPl,hf.ne];refine⟨_,_,⟨rfl,rfl⟩,?_,?_⟩
    .simp[hf.ne,Nat.add_assoc]
    .simp
   exact⟨_,e,.inl ⟨rfl,(g'+1,some .nils),.inr rfl,hS,hH⟩⟩
  .obtain⟨S,H',e,hS,hH⟩:∃S H',ev pg (.code L49_0 ⟨fill f 0 (qhz n most g' (O.length+x) fr k to i x (some .nils)),hEv g' P [⟨0,.arr 0 []⟩,⟨0,.arr 0 []⟩]⟩)=some { st:=⟨S,H'⟩ }/\qft (qhz n most (g'+1) (O.length+(x+1)) fr k to i (x+1:Nat) (some .nils)) (qjh 4 [5] ⟨S,H'⟩).s/\(qjh 4 [5] ⟨S,H'⟩).h=hEv (g'+1) (P++[t++[(x:Int)]]) [⟨0,.arr 0 []⟩,⟨0,.arr 0 []⟩]:=by
    simp[-qjh,qhz,L49_0,hx',hx,wx,hb,hb2,hb3,hi2,hPi,hPl,hf.ne];refine⟨_,_,⟨rfl,rfl⟩,?_,?_⟩
    .simp[hf.ne,Nat.add_assoc]
    .simp
   exact⟨_,e,.inl ⟨rfl,(g'+1,some .nils),.inr rfl,hS,hH⟩⟩
 .rintro⟨g',q'⟩ f hf hq';have hPl:O++(qmu n t).take n=O++qmu n t:=by rw[kB (by omega)]
  simp only[hPl];rcases hE with rfl | rfl | rfl<;>rcases hq' with h | h<;>simp only at h<;>subst h
  .obtain⟨S,e,hS⟩:∃S,ev pg (.code L49_0 ⟨fill f 0 (qhz n most g' (O.length+n) fr k to i n none),hEv g' (O++qmu n t) []⟩)=some { x:=.exit 4,st:=⟨S,hEv g' (O++qmu n t) []⟩ }/\qft (qhz n most g' (O.length+n) fr k to i n none) S:=by
    simp[qhz,L49_0,hf.ne]
   exact⟨_,e,by simp,g',none,.inl rfl,qbo.2 ⟨rfl,hS,rfl⟩⟩
  .obtain⟨S,e,hS⟩:∃S,ev pg (.code L49_0 ⟨fill f 0 (qhz n most g' (O.length+n) fr k to i n (some .nils)),hEv g' (O++qmu n t) []⟩)=some { x:=.exit 4,st:=⟨S,hEv g' (O++qmu n t) []⟩ }/\qft (qhz n most g' (O.length+n) fr k to i n (some .nils)) S:=by
    simp[qhz,L49_0,hf.ne]
   exact⟨_,e,by simp,g',(some .nils),.inr rfl,qbo.2 ⟨rfl,hS,rfl⟩⟩
  .obtain⟨S,e,hS⟩:∃S,ev pg (.code L49_0 ⟨fill f 0 (qhz n most g' (O.length+n) fr k to i n none),hEv g' (O++qmu n t) [⟨0,.arr 0 []⟩]⟩)=some { x:=.exit 4,st:=⟨S,hEv g' (O++qmu n t) [⟨0,.arr 0 []⟩]⟩ }/\qft (qhz n most g' (O.length+n) fr k to i n none) S:=by
    simp[qhz,L49_0,hf.ne]
   exact⟨_,e,by simp,g',none,.inl rfl,qbo.2 ⟨rfl,hS,rfl⟩⟩
  .obtain⟨S,e,hS⟩:∃S,ev pg (.code L49_0 ⟨fill f 0 (qhz n most g' (O.length+n) fr k to i n (some .nils)),hEv g' (O++qmu n t) [⟨0,.arr 0 []⟩]⟩)=some { x:=.exit 4,st:=⟨S,hEv g' (O++qmu n t) [⟨0,.arr 0 []⟩]⟩ }/\qft (qhz n most g' (O.length+n) fr k to i n (some .nils)) S:=by
    simp[qhz,L49_0,hf.ne]
   exact⟨_,e,by simp,g',(some .nils),.inr rfl,qbo.2 ⟨rfl,hS,rfl⟩⟩
  .obtain⟨S,e,hS⟩:∃S,ev pg (.code L49_0 ⟨fill f 0 (qhz n most g' (O.length+n) fr k to i n none),hEv g' (O++qmu n t) [⟨0,.arr 0 []⟩,⟨0,.arr 0 []⟩]⟩)=some { x:=.exit 4,st:=⟨S,hEv g' (O++qmu n t) [⟨0,.arr 0 []⟩,⟨0,.arr 0 []⟩]⟩ }/\qft (qhz n most g' (O.length+n) fr k to i n none) S:=by
    simp[qhz,L49_0,hf.ne]
   exact⟨_,e,by simp,g',none,.inl rfl,qbo.2 ⟨rfl,hS,rfl⟩⟩
  .obtain⟨S,e,hS⟩:∃S,ev pg (.code L49_0 ⟨fill f 0 (qhz n most g' (O.length+n) fr k to i n (some .nils)),hEv g' (O++qmu n t) [⟨0,.arr 0 []⟩,⟨0,.arr 0 []⟩]⟩)=some { x:=.exit 4,st:=⟨S,hEv g' (O++qmu n t) [⟨0,.arr 0 []⟩,⟨0,.arr 0 []⟩]⟩ }/\qft (qhz n most g' (O.length+n) fr k to i n (some .nils)) S:=by
    simp[qhz,L49_0,hf.ne]
   exact⟨_,e,by simp,g',(some .nils),.inr rfl,qbo.2 ⟨rfl,hS,rfl⟩⟩
end Go.Proofs.YtggbaapfbgjaeaaGreatDoor
