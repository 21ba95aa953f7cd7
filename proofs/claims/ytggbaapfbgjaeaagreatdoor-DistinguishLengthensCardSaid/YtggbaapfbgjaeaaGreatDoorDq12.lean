/- Outcomes are. -/
import Derived.Test.YtggbaapfbgjaeaaGreatDoorDq8
import Derived.Test.YtggbaapfbgjaeaaGreatDoorEn6
set_option linter.all false
namespace Go.Proofs.YtggbaapfbgjaeaaGreatDoor
open Go Go.Am Go.Proofs
set_option maxRecDepth 100000
set_option maxHeartbeats 4000000
abbrev cts(l:List Ct):V:=.imm (l.map Ct.cells)
def q9f(c:Ct):List (Int×Int)->List Ct
 | []=>[]
 | p :: l=>(ofC c p).1 :: q9f c l
def q6u(l:List (Int×Int))(g n m k:Nat):Tm:=[none,none,bN 0,none,some (.sl 1 0 0 0 0),nN 0,none,some (.sl 2 g n 0 m)]++zN 13++[some (zgw l),nN l.length,nN k]++zN 23
abbrev zhm(c:Ct)(g n:Nat)(D:List Ct):H:=[⟨0,.box c.cells⟩,⟨0,.arr 0 []⟩,⟨g,.arr n (D.map Ct.cells)⟩]
def zbw(e:Int):Tm:=[none,none,none,none,some .nils,nN e]++zN 41
def zep(g n m:Nat):Tm:=[none,none,none,none,none,none,none,some (.sl 2 g n 0 m)]++zN 39
theorem z2o(c:Ct)(hfew:c.small=true)(l:List (Int×Int))(hl:l.length<=10){st:St}(h0:At (q6u l 0 0 0 0) (zhm c 0 0 []) st) :
  ∃r,ev pg (.code (.going 3 L50_0) st)=some r/\((qvy c l≠0/\zek .ret (zbw (qvy c l)) r)\/(qvy c l=0/\∃g n,qat (.exit 0) (zep g n l.length) (zhm c g n (q9f c l)) r)):=by
 refine qce (α:=List Ct×Nat×Nat) l.length (fun k u=>q6u l u.2.1 u.2.2 u.1.length k) (fun _ u=>zhm c u.2.1 u.2.2 u.1) (fun k u=>qvy c (l.drop k)=qvy c l/\u.1++q9f c (l.drop k)=q9f c l/\u.1.length=k/\(u.2.2=5\/(u.2.2=0/\k=0))) _ ?_ ?_ ([],0,0) ⟨by simp,by simp,rfl,.inr ⟨rfl,rfl⟩⟩ h0
 .rintro k ⟨D,g,n⟩ f hf hk ⟨hg,hD,hDl,hn⟩;simp only at hg hD hDl hn ⊢;have hk':(k:Int)<l.length:=by omega
  have wk:=qbi k;rw[jL hk,qvy]at hg;rw[jL hk,q9f]at hD;have hn':n=5\/n=0:=hn.imp id (fun h=>h.1);have hfit:(D.length+1)*104<=140737488355328:=by omega
  have e26:=ev26;have e80:=ev80 c hfew l[k].1 l[k].2;have step:∀d:Ct,(ofC c l[k]).1=d->(ofC c l[k]).2=0->(∃S H',ev pg (.code L50_0 ⟨fill f 0 (q6u l g n D.length k),zhm c g n D⟩)=some { st:=⟨S,H'⟩ }/\qmg (q6u l (g+1) 5 (D.length+1) (k+1)) (S.map (qbl 3))/\qgt 3 H'=zhm c (g+1) 5 (D++[d]))->∃r,ev pg (.code L50_0 ⟨fill f 0 (q6u l g n D.length k),zhm c g n D⟩)=some r/\((r.x=.normal/\∃u:List Ct×Nat×Nat,(qvy c (l.drop (k+1))=qvy c l/\u.1++q9f c (l.drop (k+1))=q9f c l/\u.1.length=k+1/\(u.2.2=5\/(u.2.2=0/\k+1=0)))/\At (q6u l u.2.1 u.2.2 u.1.length (k+1)) (zhm c u.2.1 u.2.2 u.1) (qvr 3 r.st))\/(r.x ≠ .normal/\((qvy c l≠0/\zek .ret (zbw (qvy c l)) r)\/(qvy c l=0/\∃g n,qat (.exit 0) (zep g n l.length) (zhm c g n (q9f c l)) r)))):=by rintro d h1 h2 ⟨S,H',ee,hS,hH⟩;rw[h2,if_neg (by simp)]at hg;rw[h1]at hD;exact⟨_,ee,.inl ⟨rfl,(D++[d],g+1,5),⟨hg,by simpa using hD,by simp[hDl],.inl rfl⟩,by simpa using hS,hH⟩⟩
  by_cases hp:l[k].1=-1/\l[k].2=0
  .obtain⟨hp1,hp2⟩:=hp;refine step c (by unfold ofC;rw[if_pos ⟨hp1,hp2⟩]) (by unfold ofC;rw[if_pos ⟨hp1,hp2⟩]) ?_;simp[-qgt,q6u,L50_0,hk,hk',hp1,hp2,e26,hn',hfit,wk,qaa,qaq,exT,qag,hf.ne];refine⟨_,_,⟨rfl,rfl⟩,?_,?_⟩
   .simp[hf.ne]
   .simp
  .have ho:ofC c l[k]=(q7t c l[k].1 l[k].2,qwm c l[k].1 l[k].2):=by unfold ofC;rw[if_neg hp]
   rw[ho]at hg hD;rw[ho]at step;generalize q7t c l[k].1 l[k].2=d at *;generalize qwm c l[k].1 l[k].2=e at *;simp only at hg;have hpp:l[k].1=-1->¬l[k].2=0:=fun a b=>hp ⟨a,b⟩;by_cases he:e=0
   .subst he;refine step d rfl rfl ?_;by_cases hp1:l[k].1=-1
    .have hp2:=hpp hp1;have hp2b:(l[k].2==0)=false:=by simpa using hp2
     rw[hp1]at e80;simp[-qgt,q6u,L50_0,hk,hk',hp1,hp2,hp2b,e26,e80,hn',hfit,wk,qaa,qaq,exT,qag,hf.ne];refine⟨_,_,⟨rfl,rfl⟩,?_,?_⟩
     .simp[hf.ne]
     .simp
    .have hp1b:(l[k].1==-1)=false:=by simpa using hp1
     simp[-qgt,q6u,L50_0,hk,hk',hp1,hp1b,e26,e80,hn',hfit,wk,qaa,qaq,exT,qag,hf.ne];refine⟨_,_,⟨rfl,rfl⟩,?_,?_⟩
     .simp[hf.ne]
     .simp
   .rw[if_pos he]at hg;have heb:(e != 0)=true:=by simpa using he
    obtain⟨S,H',ee,hS⟩:∃S H',ev pg (.code L50_0 ⟨fill f 0 (q6u l g n D.length k),zhm c g n D⟩)=some { x:=.ret,st:=⟨S,H'⟩ }/\qmg (zbw e) S:=by
     by_cases hp1:l[k].1=-1
     .have hp2:=hpp hp1;have hp2b:(l[k].2==0)=false:=by simpa using hp2
      rw[hp1]at e80;simp[q6u,zbw,L50_0,hk,hk',hp1,hp2,hp2b,e26,e80,he,heb,qaa,qaq,exT,qag,hf.ne]
     .have hp1b:(l[k].1==-1)=false:=by simpa using hp1
      simp[q6u,zbw,L50_0,hk,hk',hp1,hp1b,e26,e80,he,heb,qaa,qaq,exT,qag,hf.ne]
    refine⟨_,ee,.inr ⟨by simp,.inl ⟨by rw[<-hg];exact he,?_⟩⟩⟩;rw[<-hg];exact qvw.2 ⟨rfl,hS⟩
 .rintro⟨D,g,n⟩ f hf ⟨hg,hD,hDl,hn⟩;simp only[List.drop_length,q9f,List.append_nil]at hg hD hDl hn ⊢;obtain⟨S,ee,hS⟩:∃S,ev pg (.code L50_0 ⟨fill f 0 (q6u l g n D.length l.length),zhm c g n D⟩)=some { x:=.exit 0,st:=⟨S,zhm c g n D⟩ }/\qmg (zep g n l.length) S:=by
   simp[q6u,zep,L50_0,hDl,hf.ne]
  exact⟨_,ee,by simp,.inr ⟨hg.symm,g,n,by rw[<-hD];exact qez.2 ⟨rfl,hS,rfl⟩⟩⟩
theorem q9g(c:Ct):∀l:List (Int×Int),(q9f c l).length=l.length
 | []=>rfl
 | p :: l=>by simp[q9f,q9g c l]
def zqs(c:Ct)(l:List (Int×Int)):List Ct×Int:=if qps c l≠0 then([],qps c l)else(q9f c l,0)
theorem ev50(c:Ct)(hfew:c.small=true)(l:List (Int×Int))(hl:l.length<=100000):ev pg (.call (fnq 50) [c.v,zgw l] [])=some (rvq (.tup [cts (zqs c l).1,num (zqs c l).2])):=by
 have e1:=ev44 c hfew;unfold zqs qps;rw[qab,pg50.1];generalize c.check=e at *;by_cases h1:e=0
 .subst h1;simp only[ne_eq,not_true_eq_false,if_false];by_cases h2:10<l.length
  .have h2':(10:Int)<l.length:=by omega
   simp only[if_pos h2];simp[ir50,e1,h2']
  .have h2':¬(10:Int)<l.length:=by omega
   simp only[if_neg h2];have hlp:=fun st=>z2o c hfew l (by omega) (st:=st);simp[ir50,e1,h2',qah];generalize hq:ev pg (.code (.going _ L50_0) _)=o;obtain⟨r,rfl,hr⟩:∃r,o=some r/\_:=by rw[<-hq];exact hlp _ (by simp[q6u])
   rcases hr with⟨hne,fr,H,hfr,rfl⟩ | ⟨he,g,n,fr,hfr,rfl⟩
   .simp[zbw,hfr.ne,hne]
   .have hln:=q9g c l;simp[zep,hfr.ne,he,hln]
 .have h1b:(e != 0)=true:=by simpa using h1
  simp only[ne_eq,h1,not_false_eq_true,if_true];simp[ir50,e1,h1,h1b]
theorem q9p{c:Ct}:∀{l:List (Int×Int)},qvy c l=0->∀p∈l,(ofC c p).2=0
 | [],_,p,hp=>by cases hp
 | q :: l,h,p,hp=>by
  unfold qvy at h;split at h
  .rename_i h1;exact absurd h h1
  .rename_i h1;rcases List.mem_cons.1 hp with rfl | hp
   .simpa using h1
   .exact q9p h p hp
theorem qkp{c:Ct}{l:List (Int×Int)}(h:qps c l=0):c.check=0/\l.length<=10/\∀p∈l,(ofC c p).2=0:=by
 unfold qps at h;split at h
 .rename_i h1;exact absurd h h1
 .rename_i h1;split at h
  .cases h
  .exact⟨by simpa using h1,by omega,q9p h⟩
theorem qhr{c:Ct}(hs:c.small=true)(hc:c.check=0){p:Int×Int}(h:(ofC c p).2=0):(ofC c p).1.small=true/\(ofC c p).1.check=0/\(ofC c p).1.inputs=c.inputs:=by
 unfold ofC at h ⊢;split at h
 .rename_i h1;rw[if_pos h1];exact⟨hs,hc,rfl⟩
 .rename_i h1;rw[if_neg h1];have:=(ztl hs h).1;exact⟨this.b,this.cb,this.inp⟩
def q8h(c:Ct)(p:Int×Int)(test:List Int):(List (List (Int×Bool))×Bool)×Int :=
 if qps c [p]≠0 then(([],false),qps c [p])else if qtm c test≠0 then(([],false),qtm c test)else(qap (ofC c p).1 test,0)
theorem ev20(c:Ct)(hfew:c.small=true)(p:Int×Int){test:List Int}(ht:test.length<=4096):ev pg (.call (fnq 20) [c.v,fv p.1 p.2,qct test] [])=some (rvq (.tup [zdp (q8h c p test).1.1 (q8h c p test).1.2,num (q8h c p test).2])):=by
 have e1:=ev50 c hfew [p] (by simp);rw[show zgw [p]=V.imm [[num p.1,num p.2]]from rfl]at e1;have e2:=ev54 c ht;unfold zqs at e1;unfold q8h;rw[qab,pg20.1];by_cases h1:qps c [p]=0
 .obtain⟨q1,q2,q3⟩:=qkp h1;obtain⟨r1,r2,r3⟩:=qhr hfew q1 (q3 p (by simp));rw[h1]at e1;simp only[ne_eq,h1,not_true_eq_false,if_false]at e1 ⊢;by_cases h2:qtm c test=0
  .obtain⟨t1,t2⟩:=q6k h2;have e3:=ev55 r1 (test:=test) (by omega) (by rw[r3];exact t2);rw[h2]at e2;simp only[h2,not_true_eq_false,if_false];simp only[q9f]at e1;generalize (ofC c p).1=d at *;generalize qap d test=o at *;simp[ir20,e1,e2,e3]
  .have h2b:(qtm c test != 0)=true:=by simpa using h2
   simp only[h2,not_false_eq_true,if_true];generalize qtm c test=e at *;simp[ir20,e1,e2,h2,h2b]
 .have h1b:(qps c [p] != 0)=true:=by simpa using h1
  simp only[ne_eq,h1,not_false_eq_true,if_true]at e1 ⊢;generalize qps c [p]=e at *;simp[ir20,e1,h1,h1b]
theorem ev21(c:Ct)(hfew:c.small=true)(p:Int×Int){test:List Int}(ht:test.length<=4096):ev pg (.call (fnq 21) [c.v,fv p.1 p.2,qct test] [])=some (rvq (.tup [zdp (q8h c p test).1.1 (q8h c p test).1.2,num (q8h c p test).2])):=by
 have e1:=ev56 c hfew [p] (by simp) ht;rw[show zgw [p]=V.imm [[num p.1,num p.2]]from rfl]at e1;have e2:=ev57 c hfew p;unfold z0p at e1;unfold q8h;rw[qab,pg21.1];by_cases h1:qps c [p]=0
 .obtain⟨q1,q2,q3⟩:=qkp h1;obtain⟨r1,r2,r3⟩:=qhr hfew q1 (q3 p (by simp));simp only[ne_eq,h1,not_true_eq_false,if_false]at e1 ⊢;by_cases h2:qtm c test=0
  .obtain⟨t1,t2⟩:=q6k h2;have e3:=ev58 r1 (test:=test) (by omega) (by rw[r3];exact t2) r2;rw[h2]at e1;simp only[h2,not_true_eq_false,if_false];generalize ofC c p=d at *;obtain⟨d,ee⟩:=d;generalize qap d test=o at *;simp[ir21,e1,e2,e3]
  .have h2b:(qtm c test != 0)=true:=by simpa using h2
   simp only[h2,not_false_eq_true,if_true];generalize qtm c test=e at *;simp[ir21,e1,h2,h2b]
 .have h1b:(qps c [p] != 0)=true:=by simpa using h1
  simp only[ne_eq,h1,not_false_eq_true,if_true]at e1 ⊢;generalize qps c [p]=e at *;simp[ir21,e1,h1,h1b]
end Go.Proofs.YtggbaapfbgjaeaaGreatDoor
namespace Go.Am
theorem q7e:∀n<10,∀m<10,(48+n).toUInt8=(48+m).toUInt8->n=m:=by decide
theorem qzb:∀n<10,(48+n).toUInt8≠116/\(48+n).toUInt8≠102/\(48+n).toUInt8≠59:=by decide
def zqp(b:Bool):UInt8:=if b then 116 else 102
theorem q8z{a b:Bool}(h:zqp a=zqp b):a=b:=by cases a<;>cases b<;>first | rfl | (exact absurd h (by decide))
theorem zfr{n:Nat}(h:n<10)(b:Bool):(48+n).toUInt8≠zqp b:=by
 cases b
 .exact(qzb n h).2.1
 .exact(qzb n h).1
theorem zlo{n m:Nat}(hn:n<100)(hm:m<100){a b:Bool}{r r':List UInt8}(h:qym n++zqp a :: r=qym m++zqp b :: r'):n=m/\a=b/\r=r':=by
 unfold qym at h;by_cases h1:n<10<;>by_cases h2:m<10
 .simp only[if_pos h1,if_pos h2,List.cons_append,List.nil_append,List.cons.injEq]at h;exact⟨q7e n h1 m h2 h.1,q8z h.2.1,h.2.2⟩
 .simp only[if_pos h1,if_neg h2,List.cons_append,List.nil_append,List.cons.injEq]at h;exact absurd h.2.1.symm (zfr (by omega) a)
 .simp only[if_neg h1,if_pos h2,List.cons_append,List.nil_append,List.cons.injEq]at h;exact absurd h.2.1 (zfr (by omega) b)
 .simp only[if_neg h1,if_neg h2,List.cons_append,List.nil_append,List.cons.injEq]at h;have e1:=q7e (n / 10) (by omega) (m / 10) (by omega) h.1;have e2:=q7e (n % 10) (by omega) (m % 10) (by omega) h.2.1;exact⟨by omega,q8z h.2.2.1,h.2.2.2⟩
theorem qvt{n:Nat}(hn:n<100):∃k r,k<10/\qym n=(48+k).toUInt8 :: r:=by
 unfold qym;by_cases h:n<10
 .rw[if_pos h];exact⟨n,[],h,rfl⟩
 .rw[if_neg h];exact⟨n / 10,_,by omega,rfl⟩
theorem qhh(x:Nat×Bool)(w:List (Nat×Bool)):qdy (x :: w)=qym x.1++zqp x.2 :: qdy w:=by simp[qdy,zqp]
theorem q6n:∀{w w':List (Nat×Bool)} {r r':List UInt8},(∀x∈w,x.1<100)->(∀x∈w',x.1<100)->qdy w++r=qdy w'++r'->w=w'/\r=r'
 | [],[],r,r',_,_,h=>by simp[qdy]at h;exact⟨rfl,h⟩
 | [],y :: w',r,r',_,h2,h=>by rw[qhh]at h;obtain⟨k,t,hk,e⟩:=qvt (h2 y List.mem_cons_self);rw[e]at h;simp only[qdy,List.flatMap_nil,List.nil_append,List.cons_append,List.cons.injEq]at h;exact absurd h.1.symm (qzb k hk).2.2
 | x :: w,[],r,r',h1,_,h=>by rw[qhh]at h;obtain⟨k,t,hk,e⟩:=qvt (h1 x List.mem_cons_self);rw[e]at h;simp only[qdy,List.flatMap_nil,List.nil_append,List.cons_append,List.cons.injEq]at h;exact absurd h.1 (qzb k hk).2.2
 | x :: w,y :: w',r,r',h1,h2,h=>by rw[qhh,qhh,List.append_assoc,List.append_assoc,List.cons_append,List.cons_append]at h;obtain⟨e1,e2,e3⟩:=zlo (h1 x List.mem_cons_self) (h2 y List.mem_cons_self) h;obtain⟨e4,e5⟩:=q6n (fun z hz=>h1 z (List.mem_cons_of_mem _ hz)) (fun z hz=>h2 z (List.mem_cons_of_mem _ hz)) e3;exact⟨by rw[e4,Prod.ext e1 e2],e5⟩
theorem q1a{w:List (Nat×Bool)}(h:∀x∈w,x.1<100):∃a r,qdy w=a :: r/\a≠116/\a≠102:=by
 cases w with
 | nil=>exact⟨59,[],rfl,by decide,by decide⟩
 | cons x w =>obtain⟨k,t,hk,e⟩:=qvt (h x List.mem_cons_self);rw[qhh,e];exact⟨_,_,rfl,(qzb k hk).1,(qzb k hk).2.1⟩
theorem qyy(b:Bool):∃a r,zqq b=a :: r/\(a=116\/a=102):=by
 cases b
 .exact⟨_,_,rfl,.inr rfl⟩
 .exact⟨_,_,rfl,.inl rfl⟩
theorem zaf:∀{l l':List (List (Nat×Bool))} {b b':Bool},(∀w∈l,∀x∈w,x.1<100)->(∀w∈l',∀x∈w,x.1<100)->q7v l b=q7v l' b'->l=l'/\b=b'
 | [],[],b,b',_,_,h=>by refine⟨rfl,?_⟩;cases b<;>cases b'<;>first | rfl | (exact absurd h (by decide))
 | [],w :: l',b,b',_,h2,h=>by
  obtain⟨a,r,e1,n1,n2⟩:=q1a (h2 w List.mem_cons_self);obtain⟨a',r',e2,hor⟩:=qyy b;simp only[q7v,List.flatMap_nil,List.nil_append,List.flatMap_cons,List.append_assoc,e1,e2,List.cons_append,List.cons.injEq]at h;rcases hor with rfl | rfl
  .exact absurd h.1.symm n1
  .exact absurd h.1.symm n2
 | w :: l,[],b,b',h1,_,h=>by
  obtain⟨a,r,e1,n1,n2⟩:=q1a (h1 w List.mem_cons_self);obtain⟨a',r',e2,hor⟩:=qyy b';simp only[q7v,List.flatMap_nil,List.nil_append,List.flatMap_cons,List.append_assoc,e1,e2,List.cons_append,List.cons.injEq]at h;rcases hor with rfl | rfl
  .exact absurd h.1 n1
  .exact absurd h.1 n2
 | w :: l,w' :: l',b,b',h1,h2,h=>by simp only[q7v,List.flatMap_cons,List.append_assoc]at h;obtain⟨e1,e2⟩:=q6n (h1 w List.mem_cons_self) (h2 w' List.mem_cons_self) h;obtain⟨e3,e4⟩:=zaf (l:=l) (l':=l') (fun z hz=>h1 z (List.mem_cons_of_mem _ hz)) (fun z hz=>h2 z (List.mem_cons_of_mem _ hz)) e2;exact⟨by rw[e1,e3],e4⟩
end Go.Am
namespace Go.Proofs.YtggbaapfbgjaeaaGreatDoor
open Go Go.Am Go.Proofs
set_option maxRecDepth 100000
set_option maxHeartbeats 4000000
def toN(x:Int×Bool):Nat×Bool:=(x.1.toNat,x.2)
def zzv(w:List (Int×Bool)):Prop:=w.length<1000/\∀x∈w,0<=x.1/\x.1<100
def zum(W:List (List (Int×Bool))):Prop:=W.length<100/\∀w∈W,zzv w
theorem zpn:∀{w:List (Int×Bool)},(∀x∈w,0<=x.1/\x.1<100)->qyv (w.map qfa)=some (w.map toN)
 | [],_=>rfl
 | x :: w,h=>by have ih:=zpn (w:=w) fun z hz=>h z (List.mem_cons_of_mem _ hz);have hx:=h x List.mem_cons_self;show qyv (qfa x :: w.map qfa)=_;simp only[qfa,qyv,ih,if_pos hx];rfl
theorem zpp:∀{W:List (List (Int×Bool))},(∀w∈W,zzv w)->q3h (W.map zkb)=some (W.map fun w=>w.map toN)
 | [],_=>rfl
 | w :: W,h=>by have ih:=zpp (W:=W) fun z hz=>h z (List.mem_cons_of_mem _ hz);have hw:=zpn (h w List.mem_cons_self).2;show q3h (zkb w :: W.map zkb)=_;simp only[q3h,zob,hw,ih];rfl
abbrev z0h(W:List (List (Int×Bool)))(r:Bool):V:=.str (q7v (W.map fun w=>w.map toN) r)
theorem ev69{W:List (List (Int×Bool))}(hW:zum W)(r:Bool):ev pg (.call (fnq 69) [zdp W r] [])=some (rvq (z0h W r)):=by
 have h1:=zpp hW.2;have hlen:(W.map fun w=>w.map toN).length<100:=by rw[List.length_map];exact hW.1
 have hall:(W.map fun w=>w.map toN).all (fun w=>decide (w.length<1000))=true:=by rw[jP];intro w hw;obtain⟨v,hv,rfl⟩:=List.mem_map.1 hw;simpa using(hW.2 v hv).1
 have e:ev pg (.code ir69.body ⟨q3m ir69.ntmps [zdp W r],[]⟩)=some { st:=⟨[z0h W r],[]⟩ }:=by show ev pg (.code (.giv 2) ⟨[zdp W r],[]⟩)=_;rw[zot];show zki 2 _=_;unfold zki;rw[if_neg (by decide),if_pos rfl];simp only[z1s,zob,h1,hlen,hall,and_self,if_true]
 rw[qab,pg69.1];show(match ev pg (.code ir69.body ⟨q3m ir69.ntmps [zdp W r],[]⟩)with | some r=>_ | none=>none)=_;rw[e];simp[ir69,zkk]
theorem zmx{W W':List (List (Int×Bool))}{r r':Bool}(hW:zum W)(hW':zum W'):z0h W r=z0h W' r'<->W=W'/\r=r':=by
 constructor
 .intro h;have h2:q7v (W.map fun w=>w.map toN) r=q7v (W'.map fun w=>w.map toN) r':=by injection h
  have bd:∀{U:List (List (Int×Bool))},zum U->∀w∈U.map (fun w=>w.map toN),∀x∈w,x.1<100:=by intro U hU w hw x hx;obtain⟨v,hv,rfl⟩:=List.mem_map.1 hw;obtain⟨y,hy,rfl⟩:=List.mem_map.1 hx;have:=(hU.2 v hv).2 y hy;show y.1.toNat<100;omega
  obtain⟨h3,h4⟩:=zaf (bd hW) (bd hW') h2;refine⟨?_,h4⟩;have inj:∀{w w':List (Int×Bool)},(∀x∈w,0<=x.1/\x.1<100)->(∀x∈w',0<=x.1/\x.1<100)->w.map toN=w'.map toN->w=w':=by
   intro w;induction w with
   | nil=>intro w' _ _ h;cases w' with
    | nil=>rfl
    | cons y w'=>cases h
   | cons x w ih=>intro w' a b h;cases w' with
    | nil=>cases h
    | cons y w' =>
     simp only[List.map_cons,List.cons.injEq]at h;have e1:=a x List.mem_cons_self;have e2:=b y List.mem_cons_self;have e3:x=y:=by obtain⟨x1,x2⟩:=x;obtain⟨y1,y2⟩:=y;simp only[toN,Prod.mk.injEq]at h e1 e2;obtain⟨⟨e4,e5⟩,_⟩:=h;rw[e5,show x1=y1 by omega]
     rw[e3,ih (fun z hz=>a z (List.mem_cons_of_mem _ hz)) (fun z hz=>b z (List.mem_cons_of_mem _ hz)) h.2]
  clear h h2 bd;have q1:=hW.2;have q2:=hW'.2;clear hW hW' h4;induction W generalizing W' with
  | nil=>cases W' with
   | nil=>rfl
   | cons w' W'=>cases h3
  | cons w W ih=>cases W' with
   | nil=>cases h3
   | cons w' W' =>simp only[List.map_cons,List.cons.injEq]at h3;rw[inj (q1 w List.mem_cons_self).2 (q2 w' List.mem_cons_self).2 h3.1,ih h3.2 (fun z hz=>q1 z (List.mem_cons_of_mem _ hz)) (fun z hz=>q2 z (List.mem_cons_of_mem _ hz))]
 .rintro⟨rfl,rfl⟩;rfl
theorem zfd{c:Ct}{s t:Ste}(h:Rdy c s):(qle s t).length<=6/\∀x∈qle s t,0<=x.1/\x.1<100:=by
 have e1:=h.shp.e;have h6:c.act<=6:=by
  have:=h.chk;unfold Ct.check at this;split at this
  .cases this
  .rename_i hh;omega
 unfold qle;split
 .rw[qms];refine⟨Nat.le_trans (qha _ _ _) (by omega),fun x hx=>?_⟩;unfold qfc at hx;rw[List.mem_filterMap]at hx;obtain⟨k,hk,hf⟩:=hx;rw[List.mem_range]at hk;have hx1:x.1=(k:Int):=by
   unfold qqu at hf
   repeat' split at hf
   all_goals first
    | (cases hf;rfl)
    | (cases hf;done)
  omega
 .simp
def zul(n:Nat)(a:Mw):Prop:=a.l.length<=n/\∀x∈a.l,0<=x.1/\x.1<100
theorem q9l{c:Ct}{a:Mw}(h:Lie c a.s){n:Nat}(ha:zul n a)(x:Evn):zul (n+6) (qgh c a x):=by
 unfold qgh;split
 .obtain⟨b1,b2⟩:=zfd (t:=(qcv c a.s x).1) h.rdy;refine⟨by simp only[jF];have:=ha.1;omega,fun y hy=>?_⟩;rcases jQ.1 hy with hy | hy
  .exact ha.2 y hy
  .exact b2 y hy
 .exact⟨Nat.le_trans ha.1 (by omega),ha.2⟩
theorem q1y{c:Ct}(hfew:c.small=true):∀(k:Nat) {a:Mw} {n:Nat},Lie c a.s->zul n a->zul (n+6*k) (qen c k a)
 | 0,_,_,_,h=>h
 | k+1,a,n,hL,h=>by
  unfold qen;split
  .exact⟨Nat.le_trans h.1 (by omega),h.2⟩
  .split
   .exact⟨Nat.le_trans h.1 (by omega),h.2⟩
   .rename_i x _ _;have:=q1y hfew k (qkm hfew hL x) (q9l hL h x);rw[show n+6*(k+1)=n+6+6*k by omega];exact this
theorem zba{c:Ct}(hfew:c.small=true):∀(l:List Int) {u:Ste×Bool×List (List (Int×Bool))},Lie c u.1->(∀w∈u.2.2,zzv w)->(qhu c l u).2.2.length<=u.2.2.length+l.length/\∀w∈(qhu c l u).2.2,zzv w
 | [],u,_,h=>⟨jD _,h⟩
 | i :: l,u,hL,h=>by
  unfold qhu;split
  .exact⟨by omega,h⟩
  .have hp:zul 100 (qgm c u.1 i):=by
    unfold qgm;have h1:=q9l (n:=0) (a:=⟨u.1,[],false⟩) hL ⟨jD _,by simp⟩ ⟨2,i,!((u.1.inputs[i.toNat]?).getD false)⟩;have h2:=q1y hfew 6 (qkm hfew (a:=⟨u.1,[],false⟩) hL _) h1;exact⟨Nat.le_trans h2.1 (by omega),h2.2⟩
   have hL':Lie c (qgm c u.1 i).s:=qin hfew 6 (qkm hfew (a:=⟨u.1,[],false⟩) hL _);obtain⟨r1,r2⟩:=zba hfew l (u:=((qgm c u.1 i).s,(qgm c u.1 i).r,u.2.2++[(qgm c u.1 i).l])) hL' (by
    intro w hw;rcases jQ.1 hw with hw | hw
    .exact h w hw
    .simp only[List.mem_singleton]at hw;subst hw;exact⟨by have:=hp.1;omega,hp.2⟩)
   refine⟨?_,r2⟩;simp only[jF,List.length_cons,List.length_nil]at r1 ⊢;omega
theorem qkw{c:Ct}(hfew:c.small=true){test:List Int}(ht:test.length<=4):zum (qap c test).1:=by
 unfold qap;split
 .exact⟨by simp,by intro w hw;simp only[List.mem_singleton]at hw;subst hw;exact⟨by simp,by simp⟩⟩
 .rename_i hh;have hs:(qby c).2.2=0:=by
   cases hd:decide ((qby c).2.2=0)with
   | true=>exact of_decide_eq_true hd
   | false=>exact absurd (.inr (of_decide_eq_false hd)) hh
  have hchk:=q0s hs;have hF:(qer c).1=qef c:=by unfold qer;rw[if_pos hchk]
  have hR:Rdy c (qer c).1:=by rw[hF];exact⟨hfew,qdg hchk⟩
  have hL:=qti hfew hchk hs;have hb:=zfd (t:=(qby c).1) hR;have hf:zul 100 (qfq c):=by have h2:=q1y hfew 6 (a:=⟨(qby c).1,qle (qer c).1 (qby c).1,false⟩) hL (n:=6) ⟨hb.1,hb.2⟩;exact⟨Nat.le_trans h2.1 (by omega),h2.2⟩
  have hLf:Lie c (qfq c).s:=qin hfew 6 (a:=⟨(qby c).1,qle (qer c).1 (qby c).1,false⟩) hL;obtain⟨r1,r2⟩:=zba hfew test (u:=((qfq c).s,(qfq c).r,[(qfq c).l])) hLf (by
   intro w hw;simp only[List.mem_singleton]at hw;subst hw;exact⟨by have:=hf.1;omega,hf.2⟩)
  exact⟨by simp only[List.length_singleton]at r1;show(qhu c test _).2.2.length<100;omega,r2⟩
end Go.Proofs.YtggbaapfbgjaeaaGreatDoor
