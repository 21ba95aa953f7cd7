/- Outcomes are. -/
import Derived.Test.YtggbaapfbgjaeaaGreatDoorFDq6
import Derived.Test.YtggbaapfbgjaeaaGreatDoorFZ7
import Derived.Test.YtggbaapfbgjaeaaGreatDoorFFy5
import Derived.Test.YtggbaapfbgjaeaaGreatDoorFCq3
import Derived.Test.YtggbaapfbgjaeaaGreatDoorFCq1
import Derived.Test.YtggbaapfbgjaeaaGreatDoorFEn6
set_option linter.all false
namespace Go.Proofs.YtggbaapfbgjaeaaGreatDoor
open Go Go.Am Go.Proofs
set_option maxRecDepth 100000
set_option maxHeartbeats 4000000
abbrev frw(p:Int×Int):List V:=[num p.1,num p.2]
abbrev zhm(l:List (Int×Int)):V:=.imm (l.map frw)
theorem ev26:ev pg (.call (fnq 26) [] [])=some (rvq (fv (-1) 0)):=by rw[qaa,pg26.1];simp[ir26]
theorem ev27:ev pg (.call (fnq 27) [] [])=some (rvq (fv (-1) 0)):=by rw[qaa,pg27.1];simp[ir27]
def ofC(c:Ct)(p:Int×Int):Ct×Int:=if p.1=-1/\p.2=0 then(c,0)else(q8f c p.1 p.2,qwz c p.1 p.2)
theorem ev57(c:Ct)(hfew:c.small=true)(p:Int×Int):ev pg (.call (fnq 57) [c.v,fv p.1 p.2] [])=some (rvq (.tup [(ofC c p).1.v,num (ofC c p).2])):=by
 have e1:=ev42 c hfew p.1 p.2;have e0:=ev27;unfold ofC;obtain⟨k,i⟩:=p;simp only at e1 ⊢;rw[qaa,pg57.1];by_cases h:k=-1/\i=0
 .rw[if_pos h];obtain⟨rfl,rfl⟩:=h;simp[ir57,e0,qab,qay,exT,qag]
 .rw[if_neg h];generalize q8f c k i=d at *;generalize qwz c k i=e at *;have hb:((k==-1)&&(i==0))=false:=by
   cases hh:((k==-1)&&(i==0))with
   | false=>rfl
   | true=>simp only[jE,beq_iff_eq]at hh;exact absurd hh h
  by_cases h1:k=-1
  .have h2:¬i=0:=fun h2=>h ⟨h1,h2⟩;have h2b:(i==0)=false:=by simpa using h2
   subst h1;simp[ir57,e0,e1,h2,h2b,qab,qay,exT,qag]
  .have h1b:(k==-1)=false:=by simpa using h1
   simp[ir57,e0,e1,h1,h1b,qab,qay,exT,qag]
def qyx(c:Ct):List (Int×Int)->Int
 | []=>0
 | p :: l=>if(ofC c p).2≠0 then(ofC c p).2 else qyx c l
def zkz(c:Ct)(l:List (Int×Int))(k:Nat):Tm:=[none,some (zhm l),bN 0,none,nN 0,none,nN k]++zN 28
def zln(e:Int):Tm:=[none,none,none,none,nN e]++zN 30
theorem z4k(c:Ct)(hfew:c.small=true)(l:List (Int×Int))(hl:l.length<=100000){st:St}(h0:At (zkz c l 0) [⟨0,.box c.cells⟩] st) :
  ∃r,ev pg (.code (.going 1 L79_0) st)=some r/\((qyx c l≠0/\zez .ret (zln (qyx c l)) r)\/(qyx c l=0/\zez (.exit 0) (List.replicate 35 none) r)):=by
 refine qcg (α:=Unit) l.length (fun k _=>zkz c l k) (fun _ _=>[⟨0,.box c.cells⟩]) (fun k _=>qyx c (l.drop k)=qyx c l) _ ?_ ?_ () (by simp) h0
 .rintro k _ f hf hk hg;have hk':(k:Int)<l.length:=by omega
  have wk:=qbc k;rw[jL hk,qyx]at hg;have e1:=ev57 c hfew l[k];generalize ofC c l[k]=y at *;obtain⟨d,e⟩:=y;simp only at e1 hg;by_cases he:e=0
  .subst he;rw[if_neg (by simp)]at hg;obtain⟨S,H',ee,hS,hH⟩:∃S H',ev pg (.code L79_0 ⟨fill f 0 (zkz c l k),[⟨0,.box c.cells⟩]⟩)=some { st:=⟨S,H'⟩ }/\qft (zkz c l (k+1)) (S.map (qbf 1))/\qgk 1 H'=[⟨0,.box c.cells⟩]:=by
    simp[-qgk,zkz,L79_0,hk,hk',e1,wk,qay,exT,qag,hf.ne];refine⟨_,_,⟨rfl,rfl⟩,?_,?_⟩
    .simp[hf.ne]
    .simp
   exact⟨_,ee,.inl ⟨rfl,(),hg,hS,hH⟩⟩
  .rw[if_pos he]at hg;have heb:(e != 0)=true:=by simpa using he
   obtain⟨S,H',ee,hS⟩:∃S H',ev pg (.code L79_0 ⟨fill f 0 (zkz c l k),[⟨0,.box c.cells⟩]⟩)=some { x:=.ret,st:=⟨S,H'⟩ }/\qft (zln e) S:=by simp[zkz,zln,L79_0,hk,hk',e1,wk,he,heb,qay,exT,qag,hf.ne]
   refine⟨_,ee,.inr ⟨by simp,.inl ⟨by rw[<-hg];exact he,?_⟩⟩⟩;rw[<-hg];exact qwj.2 ⟨rfl,hS⟩
 .rintro _ f hf hg;rw[List.drop_length]at hg;obtain⟨S,H',ee,hS⟩:∃S H',ev pg (.code L79_0 ⟨fill f 0 (zkz c l l.length),[⟨0,.box c.cells⟩]⟩)=some { x:=.exit 0,st:=⟨S,H'⟩ }/\qft (List.replicate 35 none) S:=by
   simp[zkz,L79_0,hf.ne]
  exact⟨_,ee,by simp,.inr ⟨hg.symm,qwj.2 ⟨rfl,hS⟩⟩⟩
def qza(c:Ct)(l:List (Int×Int)):Int:=if c.check≠0 then c.check else if 10<l.length then 5 else qyx c l
theorem ev79(c:Ct)(hfew:c.small=true)(l:List (Int×Int))(hl:l.length<=100000):ev pg (.call (fnq 79) [c.v,zhm l] [])=some (rvq (num (qza c l))):=by
 have e1:=ev61 c hfew;unfold qza;rw[qaa,pg79.1];generalize c.check=e at *;by_cases h1:e=0
 .subst h1;rw[if_neg (by simp)];by_cases h2:10<l.length
  .have h2':(10:Int)<l.length:=by omega
   rw[if_pos h2];simp[ir79,e1,h2']
  .have h2':¬(10:Int)<l.length:=by omega
   rw[if_neg h2];have hlp:=fun st=>z4k c hfew l hl (st:=st);simp[ir79,e1,h2',qai];generalize hq:ev pg (.code (.going _ L79_0) _)=o;obtain⟨r,rfl,hr⟩:∃r,o=some r/\_:=by rw[<-hq];exact hlp _ (by simp[zkz])
   rcases hr with⟨hne,fr,H,hfr,rfl⟩ | ⟨he,fr,H,hfr,rfl⟩
   .simp[zln,hfr.ne]
   .rw[he];simp[hfr.ne]
 .have h1b:(e != 0)=true:=by simpa using h1
  rw[if_pos h1];simp[ir79,e1,h1,h1b]
def z1i(c:Ct)(i:Int):Bool:=decide (i<0)||decide ((c.inputs.length:Int)<=i)
def zwp(c:Ct)(test:List Int):Int:=if 4<test.length then 5 else if test.any (z1i c)=true then 6 else 0
theorem z0c{c:Ct}{test:List Int}(h:zwp c test=0):test.length<=4/\∀i∈test,0<=i/\i<c.inputs.length:=by
 unfold zwp at h;split at h
 .cases h
 .split at h
  .cases h
  .rename_i h1 h2;refine⟨by omega,fun i hi=>?_⟩;have h3:test.any (z1i c)=false:=by simpa using h2
   rw[List.any_eq_false]at h3;have:=h3 i hi;simp only[z1i,Bool.or_eq_true,jW,not_or]at this;omega
abbrev cts(l:List Ct):V:=.imm (l.map Ct.cells)
def zcq(c:Ct):List (Int×Int)->List Ct
 | []=>[]
 | p :: l=>(ofC c p).1 :: zcq c l
def q7g(l:List (Int×Int))(g n m k:Nat):Tm:=[none,none,bN 0,none,some (.sl 1 0 0 0 0),nN 0,none,some (.sl 2 g n 0 m)]++zN 13++[some (zhm l),nN l.length,nN k]++zN 23
abbrev zie(c:Ct)(g n:Nat)(D:List Ct):H:=[⟨0,.box c.cells⟩,⟨0,.arr 0 []⟩,⟨g,.arr n (D.map Ct.cells)⟩]
def zch(e:Int):Tm:=[none,none,none,none,some .nils,nN e]++zN 41
def zff(g n m:Nat):Tm:=[none,none,none,none,none,none,none,some (.sl 2 g n 0 m)]++zN 39
theorem z4g(c:Ct)(hfew:c.small=true)(l:List (Int×Int))(hl:l.length<=10){st:St}(h0:At (q7g l 0 0 0 0) (zie c 0 0 []) st) :
  ∃r,ev pg (.code (.going 3 L50_0) st)=some r/\((qyx c l≠0/\zez .ret (zch (qyx c l)) r)\/(qyx c l=0/\∃g n,qar (.exit 0) (zff g n l.length) (zie c g n (zcq c l)) r)):=by
 refine qcg (α:=List Ct×Nat×Nat) l.length (fun k u=>q7g l u.2.1 u.2.2 u.1.length k) (fun _ u=>zie c u.2.1 u.2.2 u.1) (fun k u=>qyx c (l.drop k)=qyx c l/\u.1++zcq c (l.drop k)=zcq c l/\u.1.length=k/\(u.2.2=5\/(u.2.2=0/\k=0))) _ ?_ ?_ ([],0,0) ⟨by simp,by simp,rfl,.inr ⟨rfl,rfl⟩⟩ h0
 .rintro k ⟨D,g,n⟩ f hf hk ⟨hg,hD,hDl,hn⟩;simp only at hg hD hDl hn ⊢;have hk':(k:Int)<l.length:=by omega
  have wk:=qbc k;rw[jL hk,qyx]at hg;rw[jL hk,zcq]at hD;have hn':n=5\/n=0:=hn.imp id (fun h=>h.1);have hfit:(D.length+1)*104<=140737488355328:=by omega
  have e26:=ev26;have e80:=ev80 c hfew l[k].1 l[k].2;have step:∀d:Ct,(ofC c l[k]).1=d->(ofC c l[k]).2=0->(∃S H',ev pg (.code L50_0 ⟨fill f 0 (q7g l g n D.length k),zie c g n D⟩)=some { st:=⟨S,H'⟩ }/\qft (q7g l (g+1) 5 (D.length+1) (k+1)) (S.map (qbf 3))/\qgk 3 H'=zie c (g+1) 5 (D++[d]))->∃r,ev pg (.code L50_0 ⟨fill f 0 (q7g l g n D.length k),zie c g n D⟩)=some r/\((r.x=.normal/\∃u:List Ct×Nat×Nat,(qyx c (l.drop (k+1))=qyx c l/\u.1++zcq c (l.drop (k+1))=zcq c l/\u.1.length=k+1/\(u.2.2=5\/(u.2.2=0/\k+1=0)))/\At (q7g l u.2.1 u.2.2 u.1.length (k+1)) (zie c u.2.1 u.2.2 u.1) (qvg 3 r.st))\/(r.x ≠ .normal/\((qyx c l≠0/\zez .ret (zch (qyx c l)) r)\/(qyx c l=0/\∃g n,qar (.exit 0) (zff g n l.length) (zie c g n (zcq c l)) r)))):=by rintro d h1 h2 ⟨S,H',ee,hS,hH⟩;rw[h2,if_neg (by simp)]at hg;rw[h1]at hD;exact⟨_,ee,.inl ⟨rfl,(D++[d],g+1,5),⟨hg,by simpa using hD,by simp[hDl],.inl rfl⟩,by simpa using hS,hH⟩⟩
  by_cases hp:l[k].1=-1/\l[k].2=0
  .obtain⟨hp1,hp2⟩:=hp;refine step c (by unfold ofC;rw[if_pos ⟨hp1,hp2⟩]) (by unfold ofC;rw[if_pos ⟨hp1,hp2⟩]) ?_;simp[-qgk,q7g,L50_0,hk,hk',hp1,hp2,e26,hn',hfit,wk,qab,qay,exT,qag,hf.ne];refine⟨_,_,⟨rfl,rfl⟩,?_,?_⟩
   .simp[hf.ne]
   .simp
  .have ho:ofC c l[k]=(q8f c l[k].1 l[k].2,qwz c l[k].1 l[k].2):=by unfold ofC;rw[if_neg hp]
   rw[ho]at hg hD;rw[ho]at step;generalize q8f c l[k].1 l[k].2=d at *;generalize qwz c l[k].1 l[k].2=e at *;simp only at hg;have hpp:l[k].1=-1->¬l[k].2=0:=fun a b=>hp ⟨a,b⟩;by_cases he:e=0
   .subst he;refine step d rfl rfl ?_;by_cases hp1:l[k].1=-1
    .have hp2:=hpp hp1;have hp2b:(l[k].2==0)=false:=by simpa using hp2
     rw[hp1]at e80;simp[-qgk,q7g,L50_0,hk,hk',hp1,hp2,hp2b,e26,e80,hn',hfit,wk,qab,qay,exT,qag,hf.ne];refine⟨_,_,⟨rfl,rfl⟩,?_,?_⟩
     .simp[hf.ne]
     .simp
    .have hp1b:(l[k].1==-1)=false:=by simpa using hp1
     simp[-qgk,q7g,L50_0,hk,hk',hp1,hp1b,e26,e80,hn',hfit,wk,qab,qay,exT,qag,hf.ne];refine⟨_,_,⟨rfl,rfl⟩,?_,?_⟩
     .simp[hf.ne]
     .simp
   .rw[if_pos he]at hg;have heb:(e != 0)=true:=by simpa using he
    obtain⟨S,H',ee,hS⟩:∃S H',ev pg (.code L50_0 ⟨fill f 0 (q7g l g n D.length k),zie c g n D⟩)=some { x:=.ret,st:=⟨S,H'⟩ }/\qft (zch e) S:=by
     by_cases hp1:l[k].1=-1
     .have hp2:=hpp hp1;have hp2b:(l[k].2==0)=false:=by simpa using hp2
      rw[hp1]at e80;simp[q7g,zch,L50_0,hk,hk',hp1,hp2,hp2b,e26,e80,he,heb,qab,qay,exT,qag,hf.ne]
     .have hp1b:(l[k].1==-1)=false:=by simpa using hp1
      simp[q7g,zch,L50_0,hk,hk',hp1,hp1b,e26,e80,he,heb,qab,qay,exT,qag,hf.ne]
    refine⟨_,ee,.inr ⟨by simp,.inl ⟨by rw[<-hg];exact he,?_⟩⟩⟩;rw[<-hg];exact qwj.2 ⟨rfl,hS⟩
 .rintro⟨D,g,n⟩ f hf ⟨hg,hD,hDl,hn⟩;simp only[List.drop_length,zcq,List.append_nil]at hg hD hDl hn ⊢;obtain⟨S,ee,hS⟩:∃S,ev pg (.code L50_0 ⟨fill f 0 (q7g l g n D.length l.length),zie c g n D⟩)=some { x:=.exit 0,st:=⟨S,zie c g n D⟩ }/\qft (zff g n l.length) S:=by
   simp[q7g,zff,L50_0,hDl,hf.ne]
  exact⟨_,ee,by simp,.inr ⟨hg.symm,g,n,by rw[<-hD];exact qbo.2 ⟨rfl,hS,rfl⟩⟩⟩
theorem q9u(c:Ct):∀l:List (Int×Int),(zcq c l).length=l.length
 | []=>rfl
 | p :: l=>by simp[zcq,q9u c l]
def zwi(c:Ct)(l:List (Int×Int)):List Ct×Int:=if qza c l≠0 then([],qza c l)else(zcq c l,0)
theorem ev50(c:Ct)(hfew:c.small=true)(l:List (Int×Int))(hl:l.length<=100000):ev pg (.call (fnq 50) [c.v,zhm l] [])=some (rvq (.tup [cts (zwi c l).1,num (zwi c l).2])):=by
 have e1:=ev44 c hfew;unfold zwi qza;rw[qaa,pg50.1];generalize c.check=e at *;by_cases h1:e=0
 .subst h1;simp only[ne_eq,not_true_eq_false,if_false];by_cases h2:10<l.length
  .have h2':(10:Int)<l.length:=by omega
   simp only[if_pos h2];simp[ir50,e1,h2']
  .have h2':¬(10:Int)<l.length:=by omega
   simp only[if_neg h2];have hlp:=fun st=>z4g c hfew l (by omega) (st:=st);simp[ir50,e1,h2',qai];generalize hq:ev pg (.code (.going _ L50_0) _)=o;obtain⟨r,rfl,hr⟩:∃r,o=some r/\_:=by rw[<-hq];exact hlp _ (by simp[q7g])
   rcases hr with⟨hne,fr,H,hfr,rfl⟩ | ⟨he,g,n,fr,hfr,rfl⟩
   .simp[zch,hfr.ne,hne]
   .have hln:=q9u c l;simp[zff,hfr.ne,he,hln]
 .have h1b:(e != 0)=true:=by simpa using h1
  simp only[ne_eq,h1,not_false_eq_true,if_true];simp[ir50,e1,h1,h1b]
theorem zad{c:Ct}:∀{l:List (Int×Int)},qyx c l=0->∀p∈l,(ofC c p).2=0
 | [],_,p,hp=>by cases hp
 | q :: l,h,p,hp=>by
  unfold qyx at h;split at h
  .rename_i h1;exact absurd h h1
  .rename_i h1;rcases List.mem_cons.1 hp with rfl | hp
   .simpa using h1
   .exact zad h p hp
theorem q5b{c:Ct}{l:List (Int×Int)}(h:qza c l=0):c.check=0/\l.length<=10/\∀p∈l,(ofC c p).2=0:=by
 unfold qza at h;split at h
 .rename_i h1;exact absurd h h1
 .rename_i h1;split at h
  .cases h
  .exact⟨by simpa using h1,by omega,zad h⟩
theorem qrm{c:Ct}(hs:c.small=true)(hc:c.check=0){p:Int×Int}(h:(ofC c p).2=0):(ofC c p).1.small=true/\(ofC c p).1.check=0/\(ofC c p).1.inputs=c.inputs:=by
 unfold ofC at h ⊢;split at h
 .rename_i h1;rw[if_pos h1];exact⟨hs,hc,rfl⟩
 .rename_i h1;rw[if_neg h1];have:=(zur hs h).1;exact⟨this.b,this.cb,this.inp⟩
end Go.Proofs.YtggbaapfbgjaeaaGreatDoor
namespace Go.Am
theorem q7q:∀n<10,∀m<10,(48+n).toUInt8=(48+m).toUInt8->n=m:=by decide
theorem qzn:∀n<10,(48+n).toUInt8≠116/\(48+n).toUInt8≠102/\(48+n).toUInt8≠59:=by decide
def zru(b:Bool):UInt8:=if b then 116 else 102
theorem q9n{a b:Bool}(h:zru a=zru b):a=b:=by cases a<;>cases b<;>first | rfl | (exact absurd h (by decide))
theorem zgh{n:Nat}(h:n<10)(b:Bool):(48+n).toUInt8≠zru b:=by
 cases b
 .exact(qzn n h).2.1
 .exact(qzn n h).1
theorem zmi{n m:Nat}(hn:n<100)(hm:m<100){a b:Bool}{r r':List UInt8}(h:qyz n++zru a :: r=qyz m++zru b :: r'):n=m/\a=b/\r=r':=by
 unfold qyz at h;by_cases h1:n<10<;>by_cases h2:m<10
 .simp only[if_pos h1,if_pos h2,List.cons_append,List.nil_append,List.cons.injEq]at h;exact⟨q7q n h1 m h2 h.1,q9n h.2.1,h.2.2⟩
 .simp only[if_pos h1,if_neg h2,List.cons_append,List.nil_append,List.cons.injEq]at h;exact absurd h.2.1.symm (zgh (by omega) a)
 .simp only[if_neg h1,if_pos h2,List.cons_append,List.nil_append,List.cons.injEq]at h;exact absurd h.2.1 (zgh (by omega) b)
 .simp only[if_neg h1,if_neg h2,List.cons_append,List.nil_append,List.cons.injEq]at h;have e1:=q7q (n / 10) (by omega) (m / 10) (by omega) h.1;have e2:=q7q (n % 10) (by omega) (m % 10) (by omega) h.2.1;exact⟨by omega,q9n h.2.2.1,h.2.2.2⟩
theorem qwg{n:Nat}(hn:n<100):∃k r,k<10/\qyz n=(48+k).toUInt8 :: r:=by
 unfold qyz;by_cases h:n<10
 .rw[if_pos h];exact⟨n,[],h,rfl⟩
 .rw[if_neg h];exact⟨n / 10,_,by omega,rfl⟩
theorem qhi(x:Nat×Bool)(w:List (Nat×Bool)):qea (x :: w)=qyz x.1++zru x.2 :: qea w:=by simp[qea,zru]
theorem q6y:∀{w w':List (Nat×Bool)} {r r':List UInt8},(∀x∈w,x.1<100)->(∀x∈w',x.1<100)->qea w++r=qea w'++r'->w=w'/\r=r'
 | [],[],r,r',_,_,h=>by simp[qea]at h;exact⟨rfl,h⟩
 | [],y :: w',r,r',_,h2,h=>by rw[qhi]at h;obtain⟨k,t,hk,e⟩:=qwg (h2 y List.mem_cons_self);rw[e]at h;simp only[qea,List.flatMap_nil,List.nil_append,List.cons_append,List.cons.injEq]at h;exact absurd h.1.symm (qzn k hk).2.2
 | x :: w,[],r,r',h1,_,h=>by rw[qhi]at h;obtain⟨k,t,hk,e⟩:=qwg (h1 x List.mem_cons_self);rw[e]at h;simp only[qea,List.flatMap_nil,List.nil_append,List.cons_append,List.cons.injEq]at h;exact absurd h.1 (qzn k hk).2.2
 | x :: w,y :: w',r,r',h1,h2,h=>by rw[qhi,qhi,List.append_assoc,List.append_assoc,List.cons_append,List.cons_append]at h;obtain⟨e1,e2,e3⟩:=zmi (h1 x List.mem_cons_self) (h2 y List.mem_cons_self) h;obtain⟨e4,e5⟩:=q6y (fun z hz=>h1 z (List.mem_cons_of_mem _ hz)) (fun z hz=>h2 z (List.mem_cons_of_mem _ hz)) e3;exact⟨by rw[e4,Prod.ext e1 e2],e5⟩
theorem q1j{w:List (Nat×Bool)}(h:∀x∈w,x.1<100):∃a r,qea w=a :: r/\a≠116/\a≠102:=by
 cases w with
 | nil=>exact⟨59,[],rfl,by decide,by decide⟩
 | cons x w =>obtain⟨k,t,hk,e⟩:=qwg (h x List.mem_cons_self);rw[qhi,e];exact⟨_,_,rfl,(qzn k hk).1,(qzn k hk).2.1⟩
theorem qzk(b:Bool):∃a r,zrv b=a :: r/\(a=116\/a=102):=by
 cases b
 .exact⟨_,_,rfl,.inr rfl⟩
 .exact⟨_,_,rfl,.inl rfl⟩
theorem zat:∀{l l':List (List (Nat×Bool))} {b b':Bool},(∀w∈l,∀x∈w,x.1<100)->(∀w∈l',∀x∈w,x.1<100)->q8h l b=q8h l' b'->l=l'/\b=b'
 | [],[],b,b',_,_,h=>by refine⟨rfl,?_⟩;cases b<;>cases b'<;>first | rfl | (exact absurd h (by decide))
 | [],w :: l',b,b',_,h2,h=>by
  obtain⟨a,r,e1,n1,n2⟩:=q1j (h2 w List.mem_cons_self);obtain⟨a',r',e2,hor⟩:=qzk b;simp only[q8h,List.flatMap_nil,List.nil_append,List.flatMap_cons,List.append_assoc,e1,e2,List.cons_append,List.cons.injEq]at h;rcases hor with rfl | rfl
  .exact absurd h.1.symm n1
  .exact absurd h.1.symm n2
 | w :: l,[],b,b',h1,_,h=>by
  obtain⟨a,r,e1,n1,n2⟩:=q1j (h1 w List.mem_cons_self);obtain⟨a',r',e2,hor⟩:=qzk b';simp only[q8h,List.flatMap_nil,List.nil_append,List.flatMap_cons,List.append_assoc,e1,e2,List.cons_append,List.cons.injEq]at h;rcases hor with rfl | rfl
  .exact absurd h.1 n1
  .exact absurd h.1 n2
 | w :: l,w' :: l',b,b',h1,h2,h=>by simp only[q8h,List.flatMap_cons,List.append_assoc]at h;obtain⟨e1,e2⟩:=q6y (h1 w List.mem_cons_self) (h2 w' List.mem_cons_self) h;obtain⟨e3,e4⟩:=zat (l:=l) (l':=l') (fun z hz=>h1 z (List.mem_cons_of_mem _ hz)) (fun z hz=>h2 z (List.mem_cons_of_mem _ hz)) e2;exact⟨by rw[e1,e3],e4⟩
end Go.Am
namespace Go.Proofs.YtggbaapfbgjaeaaGreatDoor
open Go Go.Am Go.Proofs
set_option maxRecDepth 100000
set_option maxHeartbeats 4000000
def toN(x:Int×Bool):Nat×Bool:=(x.1.toNat,x.2)
def z1f(w:List (Int×Bool)):Prop:=w.length<1000/\∀x∈w,0<=x.1/\x.1<100
def zwv(W:List (List (Int×Bool))):Prop:=W.length<100/\∀w∈W,z1f w
theorem zqp:∀{w:List (Int×Bool)},(∀x∈w,0<=x.1/\x.1<100)->qzh (w.map qfb)=some (w.map toN)
 | [],_=>rfl
 | x :: w,h=>by have ih:=zqp (w:=w) fun z hz=>h z (List.mem_cons_of_mem _ hz);have hx:=h x List.mem_cons_self;show qzh (qfb x :: w.map qfb)=_;simp only[qfb,qzh,ih,if_pos hx];rfl
theorem zqr:∀{W:List (List (Int×Bool))},(∀w∈W,z1f w)->q3r (W.map zqs)=some (W.map fun w=>w.map toN)
 | [],_=>rfl
 | w :: W,h=>by have ih:=zqr (W:=W) fun z hz=>h z (List.mem_cons_of_mem _ hz);have hw:=zqp (h w List.mem_cons_self).2;show q3r (zqs w :: W.map zqs)=_;simp only[q3r,zpb,hw,ih];rfl
abbrev z1r(W:List (List (Int×Bool)))(r:Bool):V:=.str (q8h (W.map fun w=>w.map toN) r)
theorem ev69{W:List (List (Int×Bool))}(hW:zwv W)(r:Bool):ev pg (.call (fnq 69) [zoo W r] [])=some (rvq (z1r W r)):=by
 have h1:=zqr hW.2;have hlen:(W.map fun w=>w.map toN).length<100:=by rw[List.length_map];exact hW.1
 have hall:(W.map fun w=>w.map toN).all (fun w=>decide (w.length<1000))=true:=by rw[jP];intro w hw;obtain⟨v,hv,rfl⟩:=List.mem_map.1 hw;simpa using(hW.2 v hv).1
 have e:ev pg (.code ir69.body ⟨q3w ir69.ntmps [zoo W r],[]⟩)=some { st:=⟨[z1r W r],[]⟩ }:=by show ev pg (.code (.giv 2) ⟨[zoo W r],[]⟩)=_;rw[zpv];show zlc 2 _=_;unfold zlc;rw[if_neg (by decide),if_pos rfl];simp only[z3c,zpb,h1,hlen,hall,and_self,if_true]
 rw[qaa,pg69.1];show(match ev pg (.code ir69.body ⟨q3w ir69.ntmps [zoo W r],[]⟩)with | some r=>_ | none=>none)=_;rw[e];simp[ir69,zle]
theorem znt{W W':List (List (Int×Bool))}{r r':Bool}(hW:zwv W)(hW':zwv W'):z1r W r=z1r W' r'<->W=W'/\r=r':=by
 constructor
 .intro h;have h2:q8h (W.map fun w=>w.map toN) r=q8h (W'.map fun w=>w.map toN) r':=by injection h
  have bd:∀{U:List (List (Int×Bool))},zwv U->∀w∈U.map (fun w=>w.map toN),∀x∈w,x.1<100:=by intro U hU w hw x hx;obtain⟨v,hv,rfl⟩:=List.mem_map.1 hw;obtain⟨y,hy,rfl⟩:=List.mem_map.1 hx;have:=(hU.2 v hv).2 y hy;show y.1.toNat<100;omega
  obtain⟨h3,h4⟩:=zat (bd hW) (bd hW') h2;refine⟨?_,h4⟩;have inj:∀{w w':List (Int×Bool)},(∀x∈w,0<=x.1/\x.1<100)->(∀x∈w',0<=x.1/\x.1<100)->w.map toN=w'.map toN->w=w':=by
   intro w;induction w with
   | nil=>intro w' _ _ h;cases w' with
    | nil=>rfl
    | cons y w'=>cases h
   | cons x w ih=>intro w' a b h;cases w' with
    | nil=>cases h
    | cons y w' =>
     simp only[List.map_cons,List.cons.injEq]at h;have e1:=a x List.mem_cons_self;have e2:=b y List.mem_cons_self;have e3:x=y:=by obtain⟨x1,x2⟩:=x;obtain⟨y1,y2⟩:=y;simp only[toN,Prod.mk.injEq]at h e1 e2;obtain⟨⟨e4,e5⟩,_⟩:=h;rw[e5,show x1=y1 by omega]
     rw[e3,ih (fun z hz=>a z (List.mem_cons_of_mem _ hz)) (fun z hz=>b z (List.mem_cons_of_mem _ hz)) h.2]
  clear h h2 bd;have q1:=hW.2;have q2:=hW'.2;clear hW hW' h4;induction W generalizing W' with
  | nil=>cases W' with
   | nil=>rfl
   | cons w' W'=>cases h3
  | cons w W ih=>cases W' with
   | nil=>cases h3
   | cons w' W' =>simp only[List.map_cons,List.cons.injEq]at h3;rw[inj (q1 w List.mem_cons_self).2 (q2 w' List.mem_cons_self).2 h3.1,ih h3.2 (fun z hz=>q1 z (List.mem_cons_of_mem _ hz)) (fun z hz=>q2 z (List.mem_cons_of_mem _ hz))]
 .rintro⟨rfl,rfl⟩;rfl
theorem zft{c:Ct}{s t:Ste}(h:Rdy c s):(qlf s t).length<=6/\∀x∈qlf s t,0<=x.1/\x.1<100:=by
 have e1:=h.shp.e;have h6:c.act<=6:=by
  have:=h.chk;unfold Ct.check at this;split at this
  .cases this
  .rename_i hh;omega
 unfold qlf;split
 .rw[qmx];refine⟨Nat.le_trans (qhb _ _ _) (by omega),fun x hx=>?_⟩;unfold qfd at hx;rw[List.mem_filterMap]at hx;obtain⟨k,hk,hf⟩:=hx;rw[List.mem_range]at hk;have hx1:x.1=(k:Int):=by
   unfold qrb at hf
   repeat' split at hf
   all_goals first
    | (cases hf;rfl)
    | (cases hf;done)
  omega
 .simp
def zvr(n:Nat)(a:Mw):Prop:=a.l.length<=n/\∀x∈a.l,0<=x.1/\x.1<100
theorem q9z{c:Ct}{a:Mw}(h:Lie c a.s){n:Nat}(ha:zvr n a)(x:Evn):zvr (n+6) (qgl c a x):=by
 unfold qgl;split
 .obtain⟨b1,b2⟩:=zft (t:=(qcx c a.s x).1) h.rdy;refine⟨by simp only[jF];have:=ha.1;omega,fun y hy=>?_⟩;rcases jQ.1 hy with hy | hy
  .exact ha.2 y hy
  .exact b2 y hy
 .exact⟨Nat.le_trans ha.1 (by omega),ha.2⟩
theorem q2h{c:Ct}(hfew:c.small=true):∀(k:Nat) {a:Mw} {n:Nat},Lie c a.s->zvr n a->zvr (n+6*k) (qep c k a)
 | 0,_,_,_,h=>h
 | k+1,a,n,hL,h=>by
  unfold qep;split
  .exact⟨Nat.le_trans h.1 (by omega),h.2⟩
  .split
   .exact⟨Nat.le_trans h.1 (by omega),h.2⟩
   .rename_i x _ _;have:=q2h hfew k (qko hfew hL x) (q9z hL h x);rw[show n+6*(k+1)=n+6+6*k by omega];exact this
theorem zbm{c:Ct}(hfew:c.small=true):∀(l:List Int) {u:Ste×Bool×List (List (Int×Bool))},Lie c u.1->(∀w∈u.2.2,z1f w)->(qmk c l u).2.2.length<=u.2.2.length+l.length/\∀w∈(qmk c l u).2.2,z1f w
 | [],u,_,h=>⟨jD _,h⟩
 | i :: l,u,hL,h=>by
  unfold qmk;split
  .exact⟨by omega,h⟩
  .have hp:zvr 100 (qkx c u.1 i):=by
    unfold qkx;have h1:=q9z (n:=0) (a:=⟨u.1,[],false⟩) hL ⟨jD _,by simp⟩ ⟨2,i,!((u.1.inputs[i.toNat]?).getD false)⟩;have h2:=q2h hfew 6 (qko hfew (a:=⟨u.1,[],false⟩) hL _) h1;exact⟨Nat.le_trans h2.1 (by omega),h2.2⟩
   have hL':Lie c (qkx c u.1 i).s:=qio hfew 6 (qko hfew (a:=⟨u.1,[],false⟩) hL _);obtain⟨r1,r2⟩:=zbm hfew l (u:=((qkx c u.1 i).s,(qkx c u.1 i).r,u.2.2++[(qkx c u.1 i).l])) hL' (by
    intro w hw;rcases jQ.1 hw with hw | hw
    .exact h w hw
    .simp only[List.mem_singleton]at hw;subst hw;exact⟨by have:=hp.1;omega,hp.2⟩)
   refine⟨?_,r2⟩;simp only[jF,List.length_cons,List.length_nil]at r1 ⊢;omega
theorem qtm{c:Ct}(hfew:c.small=true){test:List Int}(ht:test.length<=4):zwv (qbm c test).1:=by
 unfold qbm;split
 .exact⟨by simp,by intro w hw;simp only[List.mem_singleton]at hw;subst hw;exact⟨by simp,by simp⟩⟩
 .rename_i hh;have hs:(qbz c).2.2=0:=by
   cases hd:decide ((qbz c).2.2=0)with
   | true=>exact of_decide_eq_true hd
   | false=>exact absurd (.inr (of_decide_eq_false hd)) hh
  have hchk:=q1c hs;have hF:(qev c).1=qeh c:=by unfold qev;rw[if_pos hchk]
  have hR:Rdy c (qev c).1:=by rw[hF];exact⟨hfew,qdi hchk⟩
  have hL:=qtt hfew hchk hs;have hb:=zft (t:=(qbz c).1) hR;have hf:zvr 100 (qmd c):=by have h2:=q2h hfew 6 (a:=⟨(qbz c).1,qlf (qev c).1 (qbz c).1,false⟩) hL (n:=6) ⟨hb.1,hb.2⟩;exact⟨Nat.le_trans h2.1 (by omega),h2.2⟩
  have hLf:Lie c (qmd c).s:=qio hfew 6 (a:=⟨(qbz c).1,qlf (qev c).1 (qbz c).1,false⟩) hL;obtain⟨r1,r2⟩:=zbm hfew test (u:=((qmd c).s,(qmd c).r,[(qmd c).l])) hLf (by
   intro w hw;simp only[List.mem_singleton]at hw;subst hw;exact⟨by have:=hf.1;omega,hf.2⟩)
  exact⟨by simp only[List.length_singleton]at r1;show(qmk c test _).2.2.length<100;omega,r2⟩
end Go.Proofs.YtggbaapfbgjaeaaGreatDoor
