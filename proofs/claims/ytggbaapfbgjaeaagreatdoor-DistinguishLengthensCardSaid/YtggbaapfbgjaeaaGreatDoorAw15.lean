/- The examples. -/
import Derived.Test.YtggbaapfbgjaeaaGreatDoorDq12
import Derived.Test.YtggbaapfbgjaeaaGreatDoorEn6
set_option linter.all false
namespace Go.Proofs.YtggbaapfbgjaeaaGreatDoor
open Go Go.Am Go.Proofs
set_option maxRecDepth 100000
set_option maxHeartbeats 4000000
def qnt(a b:Ct)(test:List Int):Bool:=!decide (qap a test=qap b test)
theorem ev59{a b:Ct}(ha:a.small=true)(hb:b.small=true){test:List Int}(ht:test.length<=4)(hia:∀i∈test,0<=i/\i<a.inputs.length)(hib:∀i∈test,0<=i/\i<b.inputs.length) :
  ev pg (.call (fnq 59) [a.v,b.v,qct test] [])=some (rvq (.bool (qnt a b test))):=by
 have e1:=ev55 ha (test:=test) (by omega) hia;have e2:=ev55 hb (test:=test) (by omega) hib;have o1:=qkw ha ht;have o2:=qkw hb ht;have hk:=zmx (r:=(qap a test).2) (r':=(qap b test).2) o1 o2;have e3:=ev69 o1 (qap a test).2;have e4:=ev69 o2 (qap b test).2;have hk2:(qap a test=qap b test)<->q7v ((qap a test).1.map fun w=>w.map toN) (qap a test).2=q7v ((qap b test).1.map fun w=>w.map toN) (qap b test).2:=by rw[Prod.ext_iff,<-hk];exact⟨fun h=>by injection h,fun h=>congrArg V.str h⟩
 unfold qnt;rw[qab,pg59.1];by_cases h:qap a test=qap b test
 .have h2:=hk2.1 h;simp only[h,decide_true,Bool.not_true];rw[h]at e1 e3;simp[ir59,e1,e2,e3,e4,qaa,qaq,exT,qag]
 .have h2:¬q7v ((qap a test).1.map fun w=>w.map toN) (qap a test).2=q7v ((qap b test).1.map fun w=>w.map toN) (qap b test).2:=fun hh=>h (hk2.2 hh);simp only[h,decide_false,Bool.not_false];simp[ir59,e1,e2,e3,e4,qaa,qaq,exT,qag];exact h2
def zon(a b:List (Int×Bool))(k:Nat):Tm:=[some (qyh a),some (qyh b),none,none,some (.bool false),nN k]++zN 20
def zer:Tm:=[none,none,none,none,some (.bool false)]++zN 21
theorem z2s(a b:List (Int×Bool))(hab:b.length=a.length)(ha:a.length<=100000){st:St}(h0:At (zon a b 0) [] st):∃r,ev pg (.code (.going 0 L60_0) st)=some r/\qmd a.length (fun k=>decide (a[k]?≠b[k]?)) (fun _=>qat .ret zer []) (qat (.exit 0) (List.replicate 26 none) []) r:=by
 refine qcw _ _ (zon a b) [] _ _ ?_ ?_ ?_ h0
 .intro k f hf hk hp;have hk':(k:Int)<a.length:=by omega
  have hkb:k<b.length:=by omega
  have wk:=qbi k;have hb:a[k]=b[k]:=by simpa[hk,hkb]using hp
  simp[qaq,exT,qag,zon,L60_0,hk,hk',hkb,hb,wk,hf.ne]
 .intro k f hf hk hp;have hk':(k:Int)<a.length:=by omega
  have hkb:k<b.length:=by omega
  have hb:a[k]≠b[k]:=by simpa[hk,hkb]using hp
  by_cases h1:a[k].1=b[k].1
  .have h2:¬a[k].2=b[k].2:=fun h=>hb (Prod.ext h1 h);have h2b:(a[k].2==b[k].2)=false:=by simpa using h2
   simp[qaq,exT,qag,zon,zer,L60_0,hk,hk',hkb,h1,h2,h2b,hf.ne]
  .have h1b:(a[k].1==b[k].1)=false:=by simpa using h1
   by_cases h2:a[k].2=b[k].2
   .simp[qaq,exT,qag,zon,zer,L60_0,hk,hk',hkb,h1,h1b,h2,hf.ne]
   .have h2b:(a[k].2==b[k].2)=false:=by simpa using h2
    simp[qaq,exT,qag,zon,zer,L60_0,hk,hk',hkb,h1,h1b,h2,h2b,hf.ne]
 .intro f hf;simp[zon,L60_0,hf.ne]
theorem q9v{α:Type}[DecidableEq α]{a b:List α}(hab:b.length=a.length){X:Nat->R->Prop}{Y:R->Prop}{r:R}(h:qmd a.length (fun k=>decide (a[k]?≠b[k]?)) X Y r):(a≠b/\∃k,X k r)\/(a=b/\Y r):=by
 rcases h with⟨k,hk,hp,-,hX⟩ | ⟨hp,hY⟩
 .refine .inl ⟨?_,k,hX⟩;rintro rfl;simp at hp
 .refine .inr ⟨?_,hY⟩;apply List.ext_getElem?;intro k;by_cases hk:k<a.length
  .have:=hp k hk;simpa using this
  .rw[jY (by omega),jY (by omega)]
theorem ev60(a b:List (Int×Bool))(ha:a.length<=100000):ev pg (.call (fnq 60) [qyh a,qyh b] [])=some (rvq (.bool (decide (a=b)))):=by
 rw[qab,pg60.1];by_cases hl:a.length=b.length
 .have hl':(a.length:Int)=b.length:=by omega
  have hlp:=fun st=>z2s a b hl.symm ha (st:=st);simp[ir60,hl',qah];generalize hq:ev pg (.code (.going _ L60_0) _)=o;obtain⟨r,rfl,hr⟩:∃r,o=some r/\_:=by rw[<-hq];exact hlp _ (by simp[zon])
  rcases q9v hl.symm hr with⟨hne,_,fr,hfr,rfl⟩ | ⟨he,fr,hfr,rfl⟩
  .simp[zer,hfr.ne,hne]
  .simp[hfr.ne,he]
 .have hl':¬(a.length:Int)=b.length:=by omega
  have hne:a≠b:=fun h=>hl (by rw[h]);have hlb:((a.length:Int) != (b.length:Int))=true:=by simpa using hl'
  simp[ir60,hl',hlb,hne]
abbrev hS(W:List (List (Int×Bool)))(r:Bool)(U:List (List (Int×Bool)))(q:Bool):H:=[⟨0,.box [.imm (W.map zkb),.bool r]⟩,⟨0,.box [.imm (U.map zkb),.bool q]⟩]
def zuy(k:Nat):Tm:=[none,none,bN 0,bN 1,some (.bool false),nN k]++zN 33
def zqg:Tm:=[none,none,none,none,some (.bool false)]++zN 34
theorem z2n(W U:List (List (Int×Bool)))(r q:Bool)(hab:U.length=W.length)(hw:∀w∈W,w.length<=100000)(ha:W.length<=100000){st:St}(h0:At (zuy 0) (hS W r U q) st):∃o,ev pg (.code (.going 2 L24_0) st)=some o/\qmd W.length (fun k=>decide (W[k]?≠U[k]?)) (fun _=>qat .ret zqg (hS W r U q)) (qat (.exit 0) (List.replicate 39 none) (hS W r U q)) o:=by
 refine qcw _ _ zuy (hS W r U q) _ _ ?_ ?_ ?_ h0
 .intro k f hf hk hp;have hk':(k:Int)<W.length:=by omega
  have hkb:k<U.length:=by omega
  have wk:=qbi k;have hb:W[k]=U[k]:=by simpa[hk,hkb]using hp
  have e1:=ev60 W[k] U[k] (hw _ (jH hk));simp only[hb,decide_true]at e1;simp[qaq,exT,qag,zuy,L24_0,hk,hk',hkb,hb,e1,wk,hf.ne]
 .intro k f hf hk hp;have hk':(k:Int)<W.length:=by omega
  have hkb:k<U.length:=by omega
  have hb:W[k]≠U[k]:=by simpa[hk,hkb]using hp
  have e1:=ev60 W[k] U[k] (hw _ (jH hk));simp only[hb,decide_false]at e1;simp[qaq,exT,qag,zuy,zqg,L24_0,hk,hk',hkb,e1,hf.ne]
 .intro f hf;simp[zuy,L24_0,hf.ne]
theorem ev24(W U:List (List (Int×Bool)))(r q:Bool)(hw:∀w∈W,w.length<=100000)(ha:W.length<=100000):ev pg (.call (fnq 24) [zdp W r,zdp U q] [])=some (rvq (.bool (decide ((W,r)=(U,q))))):=by
 rw[qab,pg24.1];by_cases hr:r=q
 .subst hr;by_cases hl:W.length=U.length
  .have hl':(W.length:Int)=U.length:=by omega
   have hlp:=fun st=>z2n W U r r hl.symm hw ha (st:=st);simp[ir24,hl',qah];generalize hq:ev pg (.code (.going _ L24_0) _)=o;obtain⟨o',rfl,ho⟩:∃o',o=some o'/\_:=by rw[<-hq];exact hlp _ (by simp[zuy])
   rcases q9v hl.symm ho with⟨hne,_,fr,hfr,rfl⟩ | ⟨he,fr,hfr,rfl⟩
   .simp[zqg,hfr.ne,hne]
   .simp[hfr.ne,he]
  .have hl':¬(W.length:Int)=U.length:=by omega
   have hne:W≠U:=fun h=>hl (by rw[h]);have hlb:((W.length:Int) != (U.length:Int))=true:=by simpa using hl'
   simp[ir24,hl',hlb,hne]
 .have hrb:(r==q)=false:=by simpa using hr
  simp[ir24,hr,hrb]
theorem ev25(W:List (List (Int×Bool)))(r:Bool):ev pg (.call (fnq 25) [zdp W r] [])=some (rvq (zdp W r)):=by rw[qab,pg25.1];simp[ir25]
theorem ev52(c:Ct)(hfew:c.small=true)(p q:Int×Int){test:List Int}(hg:qps c [p,q]=0)(ht:qtm c test=0):ev pg (.call (fnq 52) [c.v,fv p.1 p.2,fv q.1 q.2,qct test] [])=some (rvq (.bool (qnt (ofC c p).1 (ofC c q).1 test))):=by
 obtain⟨q1,q2,q3⟩:=qkp hg;obtain⟨r1,r2,r3⟩:=qhr hfew q1 (q3 p (by simp));obtain⟨s1,s2,s3⟩:=qhr hfew q1 (q3 q (by simp));obtain⟨t1,t2⟩:=q6k ht;have e1:=ev57 c hfew p;have e2:=ev57 c hfew q;have e3:=ev58 r1 (test:=test) (by omega) (by rw[r3];exact t2) r2;have e4:=ev58 s1 (test:=test) (by omega) (by rw[s3];exact t2) s2;have o1:=qkw r1 t1;have e5:=ev24 (qap (ofC c p).1 test).1 (qap (ofC c q).1 test).1 (qap (ofC c p).1 test).2 (qap (ofC c q).1 test).2 (fun w hw=>by have:=(o1.2 w hw).1;omega) (by have:=o1.1;omega);unfold qnt;rw[qab,pg52.1];have e6:decide ((qap (ofC c p).1 test).1=(qap (ofC c q).1 test).1/\(qap (ofC c p).1 test).2=(qap (ofC c q).1 test).2)=decide (qap (ofC c p).1 test=qap (ofC c q).1 test):=by rw[decide_eq_decide,Prod.ext_iff]
 generalize qap (ofC c p).1 test=x at *;generalize qap (ofC c q).1 test=y at *;generalize ofC c p=d at *;generalize ofC c q=d' at *;obtain⟨d,e⟩:=d;obtain⟨d',e'⟩:=d';obtain⟨x1,x2⟩:=x;obtain⟨y1,y2⟩:=y;simp only at e1 e2 e3 e4 e5;generalize decide ((x1,x2)=(y1,y2))=z at *;simp[ir52,e1,e2,e3,e4,e5,qaa,qaq,exT,qag]
def zez(c:Ct)(p q:Int×Int)(test:List Int):Bool×Int :=
 if qps c [p,q]≠0 then(false,qps c [p,q])else if qtm c test≠0 then(false,qtm c test)else(qnt (ofC c p).1 (ofC c q).1 test,0)
theorem ev22(c:Ct)(hfew:c.small=true)(p q:Int×Int){test:List Int}(ht:test.length<=4096):ev pg (.call (fnq 22) [c.v,fv p.1 p.2,fv q.1 q.2,qct test] [])=some (rvq (.tup [.bool (zez c p q test).1,num (zez c p q test).2])):=by
 have e1:=ev50 c hfew [p,q] (by simp);rw[show zgw [p,q]=V.imm [[num p.1,num p.2],[num q.1,num q.2]]from rfl]at e1;have e2:=ev54 c ht;unfold zqs at e1;unfold zez;rw[qab,pg22.1];by_cases h1:qps c [p,q]=0
 .obtain⟨q1,q2,q3⟩:=qkp h1;obtain⟨r1,r2,r3⟩:=qhr hfew q1 (q3 p (by simp));obtain⟨s1,s2,s3⟩:=qhr hfew q1 (q3 q (by simp));simp only[ne_eq,h1,not_true_eq_false,if_false]at e1 ⊢;by_cases h2:qtm c test=0
  .obtain⟨t1,t2⟩:=q6k h2;have e3:=ev59 r1 s1 t1 (by rw[r3];exact t2) (by rw[s3];exact t2);rw[h2]at e2;simp only[h2,not_true_eq_false,if_false];simp only[q9f]at e1;generalize (ofC c p).1=d at *;generalize (ofC c q).1=d' at *;generalize qnt d d' test=o at *;simp[ir22,e1,e2,e3,qaa,qaq,exT,qag]
  .have h2b:(qtm c test != 0)=true:=by simpa using h2
   simp only[h2,not_false_eq_true,if_true];generalize qtm c test=e at *;simp[ir22,e1,e2,h2,h2b]
 .have h1b:(qps c [p,q] != 0)=true:=by simpa using h1
  simp only[ne_eq,h1,not_false_eq_true,if_true]at e1 ⊢;generalize qps c [p,q]=e at *;simp[ir22,e1,h1,h1b]
theorem ev23(c:Ct)(hfew:c.small=true)(p q:Int×Int){test:List Int}(ht:test.length<=4096):ev pg (.call (fnq 23) [c.v,fv p.1 p.2,fv q.1 q.2,qct test] [])=some (rvq (.tup [.bool (zez c p q test).1,num (zez c p q test).2])):=by
 have e1:=ev56 c hfew [p,q] (by simp) ht;rw[show zgw [p,q]=V.imm [[num p.1,num p.2],[num q.1,num q.2]]from rfl]at e1;unfold z0p at e1;unfold zez;rw[qab,pg23.1];by_cases h1:qps c [p,q]=0
 .simp only[ne_eq,h1,not_true_eq_false,if_false]at e1 ⊢;by_cases h2:qtm c test=0
  .have e3:=ev52 c hfew p q h1 h2;rw[h2]at e1;simp only[h2,not_true_eq_false,if_false];generalize qnt (ofC c p).1 (ofC c q).1 test=o at *;simp[ir23,e1,e3]
  .have h2b:(qtm c test != 0)=true:=by simpa using h2
   simp only[h2,not_false_eq_true,if_true];generalize qtm c test=e at *;simp[ir23,e1,h2,h2b]
 .have h1b:(qps c [p,q] != 0)=true:=by simpa using h1
  simp only[ne_eq,h1,not_false_eq_true,if_true]at e1 ⊢;generalize qps c [p,q]=e at *;simp[ir23,e1,h1,h1b]
theorem ztz(c:Ct)(hfew:c.small=true)(p:Int×Int)(test:List Int):zum (q8h c p test).1.1:=by
 unfold q8h;split
 .exact⟨by simp,by simp⟩
 .split
  .exact⟨by simp,by simp⟩
  .rename_i h1 h2;obtain⟨q1,_,q3⟩:=qkp (by simpa using h1);obtain⟨r1,_,_⟩:=qhr hfew q1 (q3 p (by simp));exact qkw r1 (q6k (by simpa using h2)).1
theorem ev4x(haw:ev pg (.call (fnq 12) [] [])=some (rvq (.bool true)))(c:Ct)(p q:Int×Int)(test:List Int):ev pg (.call (fnq 4) [c.v,.agg [num p.1,num p.2,num q.1,num q.2],qct test] [])=some (rvq (.bool true)):=by
 have e1:=ev19 c;rw[qab,pg4.1];cases hf:c.few with
 | false =>rw[hf]at e1;simp[ir4,e1,haw]
 | true =>
  rw[hf]at e1;have hs:=q4i hf;by_cases ht:40<test.length
  .have ht':(40:Int)<test.length:=by omega
   simp[ir4,e1,ht',haw]
  .have ht':¬(40:Int)<test.length:=by omega
   have e2:=ev20 c hs p (test:=test) (by omega);have e3:=ev21 c hs p (test:=test) (by omega);have e4:=ev22 c hs p q (test:=test) (by omega);have e5:=ev23 c hs p q (test:=test) (by omega);have ho:=ztz c hs p test;generalize q8h c p test=u at *;generalize zez c p q test=z at *;obtain⟨⟨W,r⟩,e⟩:=u;obtain⟨z1,z2⟩:=z;simp only at ho;have e6:=ev25 W r;have e7:=ev24 W W r r (fun w hw=>by have:=(ho.2 w hw).1;omega) (by have:=ho.1;omega);simp only[decide_true]at e7;have e8:=ev26;have e9:=ev27;simp only at e2 e3 e4 e5;simp[ir4,e1,ht',haw,e2,e3,e4,e5,e6,e7,e8,e9,qaa,qaq,exT,qag]
end Go.Proofs.YtggbaapfbgjaeaaGreatDoor
namespace Go.Am
abbrev qoz:=Nat×List V×R
def zdd:List qoz->Nat->List V->Option R
 | [],_,_=>none
 | c :: l,g,bs=>match Nat.beq c.1 g with
  | true=>match qyx c.2.1 bs with
   | true=>some c.2.2
   | false=>zdd l g bs
  | false=>zdd l g bs
def zsb(m:List qoz):Q->Option R
 | .call (.fn f [] []) az []=>zdd m f az
 | _=>none
def evM(P:Prg)(m:List qoz):Nat->Q->Option R
 | 0,_=>none
 | n+1,q=>match zsb m q with
  | some r=>some r
  | none=>qcf P (evM P m n) q
def Okc(P:Prg)(c:qoz):Prop:=ev P (.call (.fn c.1 [] []) c.2.1 [])=some c.2.2
theorem q2f{P:Prg}:∀{m:List qoz} {f:Nat} {az:List V} {r:R},(∀c∈m,Okc P c)->zdd m f az=some r->ev P (.call (.fn f [] []) az [])=some r
 | [],_,_,_,_,h=>by simp[zdd]at h
 | c :: l,f,az,r,hm,h=>by
  simp only[zdd]at h;split at h
  .rename_i e1;split at h
   .rename_i e2;have:=hm c List.mem_cons_self;unfold Okc at this;rw[Nat.eq_of_beq_eq_true e1,qkb e2]at this;rw[this];exact h
   .exact q2f (fun c hc=>hm c (List.mem_cons_of_mem _ hc)) h
  .exact q2f (fun c hc=>hm c (List.mem_cons_of_mem _ hc)) h
theorem znc{P:Prg}{m:List qoz}{q:Q}{r:R}(hm:∀c∈m,Okc P c)(h:zsb m q=some r):ev P q=some r:=by
 unfold zsb at h;split at h
 .exact q2f hm h
 .cases h
theorem zor{P:Prg}{m:List qoz}(hm:∀c∈m,Okc P c):∀(n:Nat) (q:Q) (r:R),evM P m n q=some r->ev P q=some r
 | 0,_,_,h=>by simp[evM]at h
 | n+1,q,r,h=>by
  simp only[evM]at h;split at h
  .rename_i r' e;rw[znc hm e];exact h
  .rw[qie];exact qyg (fun q r h=>zor hm n q r h) q r h
theorem ziu{P:Prg}{c:qoz}(m:List qoz)(n:Nat)(hm:∀c∈m,Okc P c)(h:evM P m n (.call (.fn c.1 [] []) c.2.1 [])=some c.2.2):Okc P c:=zor hm _ _ _ h
theorem zno{P:Prg}{c:qoz}{m:List qoz}(h:Okc P c)(hm:∀c∈m,Okc P c):∀d∈c :: m,Okc P d:=by
 intro d hd;cases hd with
 | head=>exact h
 | tail _ hd=>exact hm d hd
end Go.Am
namespace Go.Proofs.YtggbaapfbgjaeaaGreatDoor
open Go Go.Am Go.Proofs
set_option maxRecDepth 1000000
def cq:Ct:=⟨1,[[103,111]],[⟨[117,112],0,.mk 1 2 [],.mk 0 0 [],0,false⟩,⟨[100,111,119,110],0,.mk 2 0 [.mk 1 2 []],.mk 0 0 [],0,false⟩],[3],[4]⟩
abbrev Fq:=Int×Int
abbrev fa1:Fq:=(0,0)
abbrev fa2:Fq:=(3,2)
abbrev fa3:Fq:=(1,0)
abbrev fa4:Fq:=(-1,0)
abbrev wvR(v:V):R:={ v:=v,st:=⟨[],[]⟩ }
def m50(l:List Fq):qoz:=(50,[cq.v,zgw l],wvR (.tup [cts (zqs cq l).1,num (zqs cq l).2]))
def m55(x:Fq×List Int):qoz:=(55,[(ofC cq x.1).1.v,qct x.2],wvR (zdp (qap (ofC cq x.1).1 x.2).1 (qap (ofC cq x.1).1 x.2).2))
def m59(x:Fq×Fq×List Int):qoz:=(59,[(ofC cq x.1).1.v,(ofC cq x.2.1).1.v,qct x.2.2],wvR (.bool (qnt (ofC cq x.1).1 (ofC cq x.2.1).1 x.2.2)))
def inB(c:Ct)(t:List Int):Bool:=c.small&&decide (t.length<=4)&&t.all fun i=>decide (0<=i)&&decide (i<c.inputs.length)
theorem zhn{c:Ct}{t:List Int}(h:inB c t=true):c.small=true/\t.length<=4/\∀i∈t,0<=i/\i<c.inputs.length:=by unfold inB at h;simpa[and_assoc]using h
theorem z3v{l:List (List Fq)}(h:l.all (fun x=>decide (x.length<=4))=true):∀c∈l.map m50,Okc pg c:=by intro c hc;obtain⟨x,hx,rfl⟩:=List.mem_map.1 hc;have h1:=jP.1 h x hx;exact ev50 cq (by kernel_rfl) x (by simp at h1;omega)
theorem z3w{l:List (Fq×List Int)}(h:l.all (fun x=>inB (ofC cq x.1).1 x.2)=true):∀c∈l.map m55,Okc pg c:=by intro c hc;obtain⟨x,hx,rfl⟩:=List.mem_map.1 hc;obtain⟨h1,h2,h3⟩:=zhn (jP.1 h x hx);exact ev55 h1 (by omega) h3
theorem z5s{l:List (Fq×Fq×List Int)}(h:l.all (fun x=>inB (ofC cq x.1).1 x.2.2&&inB (ofC cq x.2.1).1 x.2.2)=true):∀c∈l.map m59,Okc pg c:=by intro c hc;obtain⟨x,hx,rfl⟩:=List.mem_map.1 hc;have h0:=jP.1 h x hx;rw[jE]at h0;obtain⟨h1,h2,h3⟩:=zhn h0.1;obtain⟨h4,h5,h6⟩:=zhn h0.2;exact ev59 h1 h4 h2 h3 h6
theorem q8a{P:Prg}{a b:List qoz}(h:∀c∈a,Okc P c)(k:∀c∈b,Okc P c):∀c∈a++b,Okc P c:=fun c hc=>(jQ.1 hc).elim (h c) (k c)
def tsQ:List (List Int):=[[],[0],[0,0]]
def fsQ:List Fq:=[fa1,fa2,fa3,fa4]
def m32:qoz:=(32,[cq.v,zgw fsQ,num 2],wvR (.tup [.imm [[qct [0,0]]],num 0]))
theorem z5r:Okc pg m32:=ziu (([fsQ].map m50)++((fsQ.flatMap fun p=>tsQ.map fun t=>(p,t)).map m55)) 600 (q8a (z3v (by kernel_rfl)) (z3w (by kernel_rfl))) (by kernel_rfl)
def psQ:List (Fq×Fq):=[(fa1,fa4),(fa1,fa2),(fa3,fa4)]
theorem ev12:ev pg (.call (fnq 12) [] [])=some (rvq (.bool true)) :=
 ziu (c:=(12,[],wvR (.bool true))) (m32 :: ((([fa4] :: psQ.map fun p=>[p.1,p.2]).map m50)++(([(fa4,[0,0])].map m55)++((psQ.flatMap fun p=>tsQ.map fun t=>(p.1,p.2,t)).map m59)))) 600
  (zno z5r (q8a (z3v (by kernel_rfl)) (q8a (z3w (by kernel_rfl)) (z5s (by kernel_rfl))))) (by kernel_rfl)
end Go.Proofs.YtggbaapfbgjaeaaGreatDoor
