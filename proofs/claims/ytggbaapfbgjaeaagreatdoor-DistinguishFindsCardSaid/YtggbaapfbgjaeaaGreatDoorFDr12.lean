/- The lists. -/
import Derived.Test.YtggbaapfbgjaeaaGreatDoorFDr8
import Derived.Test.YtggbaapfbgjaeaaGreatDoorFDt2
set_option linter.all false
namespace Go.Proofs.YtggbaapfbgjaeaaGreatDoor
open Go Go.Am Go.Proofs
set_option maxRecDepth 100000
set_option maxHeartbeats 4000000
def qxg(m:Nat)(most:Int):Int:=if most<0\/4<most then 2 else if 64<(qcm m most.toNat).length then 12 else 0
theorem q5q{m:Nat}(hm:m<=32):∀k:Nat,k<=4->(lvl m k).length<=32 ^ k/\(qcm m k).length<=2*32 ^ k
 | 0,_=>by simp[lvl,qcm]
 | k+1,hk=>by obtain⟨h1,h2⟩:=q5q hm k (by omega);have h3:(lvl m (k+1)).length=m*(lvl m k).length:=qif m _;have h4:m*(lvl m k).length<=32*32 ^ k:=Nat.mul_le_mul hm h1;refine⟨by rw[h3,Nat.pow_succ];omega,?_⟩;simp only[qcm,jF,Nat.pow_succ];omega
theorem ziy{m:Nat}(hm:m<=32){k:Nat}(hk:k<=4):(lvl m k).length<=1048576/\(qcm m k).length<=2097152:=by obtain⟨h1,h2⟩:=q5q hm k hk;have h3:32 ^ k<=32 ^ 4:=Nat.pow_le_pow_right (by omega) hk;have h4:32 ^ 4=1048576:=rfl;omega
def zer(c:Ct)(N k:Nat):Tm:=[none,none,bN 0,none,nN 0,some (num (qcm c.inputs.length k).length),some (num (lvl c.inputs.length k).length)]++zN 6++[nN N,nN k]++zN 12
theorem z4e(c:Ct)(hm:c.inputs.length<=32)(N:Nat)(hN:N<=4){st:St}(h0:At (zer c N 0) [⟨0,.box c.cells⟩] st) :
  ∃r,ev pg (.code (.going 1 L45_0) st)=some r/\qar (.exit 0) (zer c N N) [⟨0,.box c.cells⟩] r:=by
 refine qfn N (fun k=>zer c N k) (fun _=>[⟨0,.box c.cells⟩]) _ ?_ ?_ h0
 .intro k f hf hk;have hk':(k:Int)<N:=by omega
  have wk:=qbc k;obtain⟨b1,b2⟩:=ziy hm (show k+1<=4 by omega);have e1:(lvl c.inputs.length (k+1)).length=(lvl c.inputs.length k).length*c.inputs.length:=by show(qmm _ _).length=_;rw[qif,Nat.mul_comm]
  have e2:(qcm c.inputs.length (k+1)).length=(qcm c.inputs.length k).length+(lvl c.inputs.length (k+1)).length:=by simp[qcm]
  have w1:=qam (n:=((lvl c.inputs.length k).length:Int)*(c.inputs.length:Int)) (by rw[<-Int.natCast_mul,<-e1];omega) (by rw[<-Int.natCast_mul,<-e1];omega);have w2:=qam (n:=((qcm c.inputs.length k).length:Int)+((lvl c.inputs.length k).length:Int)*(c.inputs.length:Int)) (by rw[<-Int.natCast_mul,<-e1];omega) (by rw[<-Int.natCast_mul,<-e1];omega);have e3:((lvl c.inputs.length (k+1)).length:Int)=((lvl c.inputs.length k).length:Int)*(c.inputs.length:Int):=by rw[e1,Int.natCast_mul]
  have e4:((qcm c.inputs.length (k+1)).length:Int)=((qcm c.inputs.length k).length:Int)+((lvl c.inputs.length k).length:Int)*(c.inputs.length:Int):=by rw[e2,Int.natCast_add,e3]
  obtain⟨S,e,hS⟩:∃S,ev pg (.code L45_0 ⟨fill f 0 (zer c N k),[⟨0,.box c.cells⟩]⟩)=some { st:=⟨S,[⟨0,.box c.cells⟩]⟩ }/\qft (zer c N (k+1)) (S.map (qbf 1)):=by simp[zer,L45_0,hk,hk',wk,w1,w2,e3,e4,hf.ne]
  exact⟨_,e,.inl ⟨rfl,hS,by simp⟩⟩
 .intro f hf;obtain⟨S,e,hS⟩:∃S,ev pg (.code L45_0 ⟨fill f 0 (zer c N N),[⟨0,.box c.cells⟩]⟩)=some { x:=.exit 0,st:=⟨S,[⟨0,.box c.cells⟩]⟩ }/\qft (zer c N N) S:=by
   simp[zer,L45_0,hf.ne]
  exact⟨_,e,by simp,qbo.2 ⟨rfl,hS,rfl⟩⟩
theorem ev45(c:Ct)(hm:c.inputs.length<=32)(most:Int):ev pg (.call (fnq 45) [c.v,num most] [])=some (rvq (num (qxg c.inputs.length most))):=by
 rw[qaa,pg45.1];unfold qxg;by_cases h1:most<0
 .simp[ir45,h1]
 .by_cases h2:4<most
  .simp[ir45,h1,h2]
  .obtain⟨N,rfl⟩:=Int.eq_ofNat_of_zero_le (show 0<=most by omega);have hN:N<=4:=by omega
   have hlp:=fun st=>z4e c hm N hN (st:=st);rw[if_neg (by omega)];simp only[Int.toNat_natCast];have h3:¬(N:Int)<0:=by omega
   have h4:¬(4:Int)<N:=by omega
   simp[ir45,h3,h4,qai];generalize hq:ev pg (.code (.going _ L45_0) _)=o;obtain⟨r,rfl,f,hf,rfl⟩:∃r,o=some r/\_:=by rw[<-hq];exact hlp _ (by simp[zer,qcm,lvl])
   by_cases h5:64<(qcm c.inputs.length N).length
   .have h5':(64:Int)<(qcm c.inputs.length N).length:=by omega
    simp[zer,h5,h5',hf.ne]
   .have h5':¬(64:Int)<(qcm c.inputs.length N).length:=by omega
    simp[zer,h5,h5',hf.ne]
def zes(c:Ct)(l:List (Int×Int))(N k:Nat):Tm:=[none,some (zhm l),nN N,bN 0,none,none,nN 0,none,some (num (qcm c.inputs.length k).length),some (num (lvl c.inputs.length k).length),nN k]++zN 27
theorem z4f(c:Ct)(l:List (Int×Int))(hm:c.inputs.length<=32)(N:Nat)(hN:N<=4){st:St}(h0:At (zes c l N 0) [⟨0,.box c.cells⟩] st) :
  ∃r,ev pg (.code (.going 1 L48_0) st)=some r/\qar (.exit 0) (zes c l N N) [⟨0,.box c.cells⟩] r:=by
 refine qfn N (fun k=>zes c l N k) (fun _=>[⟨0,.box c.cells⟩]) _ ?_ ?_ h0
 .intro k f hf hk;have hk':(k:Int)<N:=by omega
  have wk:=qbc k;obtain⟨b1,b2⟩:=ziy hm (show k+1<=4 by omega);have e1:(lvl c.inputs.length (k+1)).length=(lvl c.inputs.length k).length*c.inputs.length:=by show(qmm _ _).length=_;rw[qif,Nat.mul_comm]
  have e2:(qcm c.inputs.length (k+1)).length=(qcm c.inputs.length k).length+(lvl c.inputs.length (k+1)).length:=by simp[qcm]
  have w1:=qam (n:=((lvl c.inputs.length k).length:Int)*(c.inputs.length:Int)) (by rw[<-Int.natCast_mul,<-e1];omega) (by rw[<-Int.natCast_mul,<-e1];omega);have w2:=qam (n:=((qcm c.inputs.length k).length:Int)+((lvl c.inputs.length k).length:Int)*(c.inputs.length:Int)) (by rw[<-Int.natCast_mul,<-e1];omega) (by rw[<-Int.natCast_mul,<-e1];omega);have e3:((lvl c.inputs.length (k+1)).length:Int)=((lvl c.inputs.length k).length:Int)*(c.inputs.length:Int):=by rw[e1,Int.natCast_mul]
  have e4:((qcm c.inputs.length (k+1)).length:Int)=((qcm c.inputs.length k).length:Int)+((lvl c.inputs.length k).length:Int)*(c.inputs.length:Int):=by rw[e2,Int.natCast_add,e3]
  obtain⟨S,e,hS⟩:∃S,ev pg (.code L48_0 ⟨fill f 0 (zes c l N k),[⟨0,.box c.cells⟩]⟩)=some { st:=⟨S,[⟨0,.box c.cells⟩]⟩ }/\qft (zes c l N (k+1)) (S.map (qbf 1)):=by simp[zes,L48_0,hk,hk',wk,w1,w2,e3,e4,hf.ne]
  exact⟨_,e,.inl ⟨rfl,hS,by simp⟩⟩
 .intro f hf;obtain⟨S,e,hS⟩:∃S,ev pg (.code L48_0 ⟨fill f 0 (zes c l N N),[⟨0,.box c.cells⟩]⟩)=some { x:=.exit 0,st:=⟨S,[⟨0,.box c.cells⟩]⟩ }/\qft (zes c l N N) S:=by
   simp[zes,L48_0,hf.ne]
  exact⟨_,e,by simp,qbo.2 ⟨rfl,hS,rfl⟩⟩
def zys(c:Ct)(l:List (Int×Int))(most:Int):Int:=if qza c l≠0 then qza c l else qxg c.inputs.length most
theorem ev48(c:Ct)(hs:c.small=true)(l:List (Int×Int))(hl:l.length<=100000)(most:Int):ev pg (.call (fnq 48) [c.v,zhm l,num most] [])=some (rvq (num (zys c l most))):=by
 have e1:=ev79 c hs l hl;have hm:=(qcd hs).1;rw[qaa,pg48.1];unfold zys;generalize qza c l=e at *;by_cases h:e=0
 .subst h;rw[if_neg (by simp)];unfold qxg;by_cases h1:most<0
  .simp[ir48,e1,h1]
  .by_cases h2:4<most
   .simp[ir48,e1,h1,h2]
   .obtain⟨N,rfl⟩:=Int.eq_ofNat_of_zero_le (show 0<=most by omega);have hN:N<=4:=by omega
    have hlp:=fun st=>z4f c l hm N hN (st:=st);rw[if_neg (by omega)];simp only[Int.toNat_natCast];have h3:¬(N:Int)<0:=by omega
    have h4:¬(4:Int)<N:=by omega
    simp[ir48,e1,h3,h4,qai];generalize hq:ev pg (.code (.going _ L48_0) _)=o;obtain⟨r,rfl,f,hf,rfl⟩:∃r,o=some r/\_:=by rw[<-hq];exact hlp _ (by simp[zes,qcm,lvl])
    by_cases h5:64<(qcm c.inputs.length N).length
    .have h5':(64:Int)<(qcm c.inputs.length N).length:=by omega
     simp[zes,h5,h5',hf.ne]
    .have h5':¬(64:Int)<(qcm c.inputs.length N).length:=by omega
     simp[zes,h5,h5',hf.ne]
 .have hb:(e != 0)=true:=by simpa using h
  rw[if_pos h];simp[ir48,e1,h,hb]
end Go.Proofs.YtggbaapfbgjaeaaGreatDoor
namespace Go.Am
def JunkL(n:Nat)(f:Nat->V):Prop:=∀i,f i ≠ .nils/\(f i).low n=true
theorem JunkL.junk{n:Nat}{f:Nat->V}(h:JunkL n f):Junk f:=fun i=>(h i).1
theorem qol{m:Nat}:∀{t:Tm} {s:List V} (n:Nat),qft t s->qeq m s=true->∃f,JunkL m f/\s=fill f n t
 | [],[],_,_,_=>⟨fun _=>.undef,fun _=>by simp,rfl⟩
 | [],_ :: _,_,h,_=>by simp[qft]at h
 | some _ :: _,[],_,h,_=>by simp[qft]at h
 | none :: _,[],_,h,_=>by simp[qft]at h
 | some v :: t,x :: s,n,h,hl=>by obtain⟨rfl,h2⟩:=h;simp only[qeq,jE]at hl;obtain⟨f,hf,rfl⟩:=qol (n+1) h2 hl.2;exact⟨f,hf,rfl⟩
 | none :: t,x :: s,n,h,hl=>by
  obtain⟨hx,h2⟩:=h;simp only[qeq,jE]at hl;obtain⟨f,hf,rfl⟩:=qol (n+1) h2 hl.2;refine⟨fun i=>if i=n then x else f i,fun i=>?_,?_⟩
  .simp only;split
   .exact⟨hx,hl.1⟩
   .exact hf i
  .have:∀(t:Tm) (k:Nat),n<k->fill (fun i=>if i=n then x else f i) k t=fill f k t:=by
    intro t;induction t with
    | nil=>intro k _;rfl
    | cons o t ih =>
     intro k hk;cases o with
     | none=>simp only[fill,ih (k+1) (by omega)];rw[if_neg (by omega)]
     | some v=>simp only[fill,ih (k+1) (by omega)]
   simp only[fill,if_true];rw[this t (n+1) (by omega)]
theorem q1x{P:Prg}(l:Nat)(args:List V)(h:H):ev P (.call (.yld l) args h)=(match (h[l]?:Option Ob)with
  | some ⟨_,.loop sl params assign body none⟩ =>
   if args.length=params.length then
    match ev P (.code assign ⟨qfr sl params args,h⟩)with
    | some r=>match r.x with
     | .normal=>match r.st.h[l]? with
      | some ⟨g,.loop sl' ps' as' bd' none⟩ =>
       match ev P (.code body ⟨r.st.s,r.st.h.set l ⟨g,.loop sl' ps' as' bd' (some .normal)⟩⟩)with
       | some r2=>match (qde h.length r2.st.h)[l]? with
        | some ⟨g2,.loop sl2 ps2 as2 bd2 _⟩=>match r2.x with
         | .normal=>some { v:=.bool true,st:=⟨[],(qde h.length r2.st.h).set l ⟨g2,.loop sl2 ps2 as2 bd2 none⟩⟩ }
         | x=>some { v:=.bool false,st:=⟨[],(qde h.length r2.st.h).set l ⟨g2,.loop sl2 ps2 as2 bd2 (some x)⟩⟩ }
        | _=>none
       | none=>none
      | _=>none
     | _=>none
    | none=>none
   else none
  | _=>none):=by rw[qia];rfl
end Go.Am
namespace Go.Proofs.YtggbaapfbgjaeaaGreatDoor
open Go Go.Am Go.Proofs
set_option maxRecDepth 100000
set_option maxHeartbeats 4000000
abbrev o3(c:Ct)(n most:Nat):H:=[⟨0,.box c.cells⟩,⟨0,.box [num n]⟩,⟨0,.box [num most]⟩]
def zwd:Tm:=[none,some (.fn 77 [] [.bptr 2 0,.bptr 1 0]),bN 4,none,none,none,some (.fn 77 [] [.bptr 2 0,.bptr 1 0])]++zN 6
abbrev z1t(c:Ct)(n most:Nat)(f:Nat->V)(j:Nat):H:=o3 c n most++[⟨j,.arr (min j 1) (((qcm n most).take j).map zwo)⟩,⟨0,.box [.sl 3 j (min j 1) 0 ((qcm n most).take j).length]⟩,⟨0,.arr 0 []⟩,⟨0,.arr 0 []⟩,⟨0,.loop (fill f 0 zwd) [7] L76_0 L76_1 none⟩]
theorem z4v(c:Ct)(n most:Nat)(hA:(qcm n most).length<=500)(f:Nat->V)(hf:JunkL 7 f):Rgs n most (z1t c n most f) (fun i j=>i=j/\j<=(qcm n most).length) (fun _ _=>False) (fun j _=>(j+1,true)) 2 1 7 8 where
 aN:=by omega
 bN:=by omega
 lN:=by omega
 len:=fun _ s _=>by simp
 calm:=fun _ s _=>by have hlo:∀i,(f i).low 8=true:=fun i=>qer (by omega) _ (hf i).2;unfold calm;simp[zwd,hlo]
 ha:=fun _ s _=>by simp
 hb:=fun _ s _=>by simp
 stp:=fun i s t g P _ _ _ _ h=>by cases h
 yld:=fun i j t g P hG hAj ht hin _=>by
  obtain⟨rfl,hj⟩:=hG;have hlt:i<(qcm n most).length:=(jG.1 hAj).1;have hnx:(qcm n most).take (i+1)=(qcm n most).take i++[t]:=by rw[jK hlt,(jG.1 hAj).2]
  have hl1:((qcm n most).take i).length=i:=by rw[List.length_take];omega
  have hlo:∀n,7<=n->∀i,(f i).low n=true:=fun n hn i=>qer hn _ (hf i).2;have hb:(i+1)*24<=140737488355328:=by omega
  refine⟨⟨rfl,hlt⟩,?_⟩;simp only[z1t,hnx];generalize (qcm n most).take i=S at *;cases i with
  | zero =>have hS:S=[]:=List.length_eq_zero_iff.1 hl1;subst hS;simp[q1x,zwd,L76_0,L76_1,hlo]
  | succ i =>simp[q1x,zwd,L76_0,L76_1,hl1,hb,hlo]
theorem qwn:∀(A:List (List Int)) (j:Nat),qlh (fun j (_:List Int)=>(j+1,true)) j A=(j+A.length,true)
 | [],j=>rfl
 | _ :: A,j=>by simp only[qlh,if_true];rw[qwn A (j+1),List.length_cons];congr 1;omega
theorem ev47(o:Ob)(n most:Nat):ev pg (.call (fnq 47) [num n,num most] [o])=some { v:=.fn 77 [] [.bptr 2 0,.bptr 1 0],st:=⟨[],[o,⟨0,.box [num n]⟩,⟨0,.box [num most]⟩]⟩ }:=by rw[qaa,pg47.1];simp[ir47]
theorem ev76(c:Ct)(n most:Nat)(hn:n<=100)(hm:most<=10)(hA:(qcm n most).length<=500) :
  ev pg (.call (fnq 76) [.nils,.fn 77 [] [.bptr 2 0,.bptr 1 0]] (o3 c n most))=some { v:=.sl 3 0 1 0 (qcm n most).length,st:=⟨[],o3 c n most++[⟨0,.arr 1 ((qcm n most).map zwo)⟩]⟩ }:=by
 let S:List V:=[.sl 5 0 0 0 0,.fn 77 [] [.bptr 2 0,.bptr 1 0],.bptr 4 0,.undef,.sl 6 0 0 0 0,.undef,.fn 77 [] [.bptr 2 0,.bptr 1 0],.undef,.undef,.undef,.undef,.undef,.undef]
 obtain⟨f,hf,hfS⟩:=qol (t:=zwd) (s:=S) (m:=7) 0 (by simp[zwd,S]) (by simp[S]);obtain⟨H',e,hE⟩:=ev77 (z4v c n most hA f hf) hn hm hA 0 ⟨rfl,Nat.zero_le _⟩;rw[qwn]at hE;simp only[Nat.zero_add]at hE;have hpos:=q9i n most;have hH:H'=z1t c n most f (qcm n most).length:=by
  rcases hE with⟨-,-,h⟩ | ⟨h,-⟩
  .exact h
  .cases h
 subst hH;clear hE;have hmin:min (qcm n most).length 1=1:=by omega
 have hlo:∀n,7<=n->∀i,(f i).low n=true:=fun n hn i=>qer hn _ (hf i).2;rw[qaa,pg76.1];simp only[z1t,List.take_zero,List.take_length,hmin,<-hfS,S]at e;generalize qcm n most=A at *;simp at e;simp[ir76,qfm,e,qch,qel,qdz]
theorem ev46(c:Ct)(n most:Nat)(hn:n<=100)(hm:most<=10)(hA:(qcm n most).length<=500) :
  ev pg (.call (fnq 46) [.fn 77 [] [.bptr 2 0,.bptr 1 0]] (o3 c n most))=some { v:=.sl 3 0 1 0 (qcm n most).length,st:=⟨[],o3 c n most++[⟨0,.arr 1 ((qcm n most).map zwo)⟩]⟩ }:=by
 have e1:=ev76 c n most hn hm hA;rw[qaa,pg46.1];generalize qcm n most=A at *;simp[ir46,e1,qch,qel,qdz]
theorem qkt{m:Nat}{most:Int}(h:qxg m most=0):∃N:Nat,most=N/\N<=4/\(qcm m N).length<=64:=by
 unfold qxg at h;split at h
 .cases h
 .split at h
  .cases h
  .obtain⟨N,rfl⟩:=Int.eq_ofNat_of_zero_le (show 0<=most by omega);refine⟨N,rfl,by omega,?_⟩;simp only[Int.toNat_natCast]at *;omega
def zko(c:Ct)(most:Int):List (List Int)×Int:=if c.check≠0 then([],c.check)else if qxg c.inputs.length most≠0 then([],qxg c.inputs.length most)else(qcm c.inputs.length most.toNat,0)
theorem ev13(c:Ct)(hs:c.small=true)(most:Int):ev pg (.call (fnq 13) [c.v,num most] [])=some (rvq (.tup [quu (zko c most).1,num (zko c most).2])):=by
 have e1:=ev44 c hs;have hm:=(qcd hs).1;have e2:=ev45 c hm most;unfold zko;rw[qaa,pg13.1];generalize c.check=e at *;by_cases h1:e=0
 .subst h1;by_cases h2:qxg c.inputs.length most=0
  .obtain⟨N,rfl,hN,hA⟩:=qkt h2;have e3:=ev47 ⟨0,.box c.cells⟩ c.inputs.length N;have e4:=ev46 c c.inputs.length N (by omega) (by omega) (by omega);rw[h2]at e2;simp only[h2,ne_eq,not_true_eq_false,if_false,Int.toNat_natCast];generalize qcm c.inputs.length N=A at *;simp[ir13,e1,e2,e3,e4]
  .have h2b:(qxg c.inputs.length most != 0)=true:=by simpa using h2
   simp only[h2,ne_eq,not_true_eq_false,not_false_eq_true,if_false,if_true];generalize qxg c.inputs.length most=x at *;simp[ir13,e1,e2,h2,h2b]
 .have h1b:(e != 0)=true:=by simpa using h1
  simp only[h1,ne_eq,not_false_eq_true,if_true];simp[ir13,e1,h1,h1b]
theorem znx(c:Ct)(most:Int):zys c [] most=if c.check≠0 then c.check else qxg c.inputs.length most:=by
 unfold zys qza;by_cases h:c.check=0
 .simp[h,qyx]
 .simp[h]
theorem ev14(c:Ct)(hs:c.small=true)(most:Int):ev pg (.call (fnq 14) [c.v,num most] [])=some (rvq (.tup [quu (zko c most).1,num (zko c most).2])):=by
 have e1:=ev48 c hs [] (by simp) most;rw[show zhm []=V.imm []from rfl,znx]at e1;have hm:=(qcd hs).1;unfold zko;rw[qaa,pg14.1];generalize c.check=e at *;by_cases h1:e=0
 .subst h1;simp only[ne_eq,not_true_eq_false,if_false]at e1;by_cases h2:qxg c.inputs.length most=0
  .obtain⟨N,rfl,hN,hA⟩:=qkt h2;have e3:=ev49 c.inputs.length N (by omega) (by omega) (by omega);rw[h2]at e1;simp only[h2,ne_eq,not_true_eq_false,if_false,Int.toNat_natCast];generalize qcm c.inputs.length N=A at *;simp[ir14,e1,e3]
  .have h2b:(qxg c.inputs.length most != 0)=true:=by simpa using h2
   simp only[h2,ne_eq,not_true_eq_false,not_false_eq_true,if_false,if_true];generalize qxg c.inputs.length most=x at *;simp[ir14,e1,h2,h2b]
 .have h1b:(e != 0)=true:=by simpa using h1
  simp only[h1,ne_eq,not_false_eq_true,if_true]at e1 ⊢;simp[ir14,e1,h1,h1b]
end Go.Proofs.YtggbaapfbgjaeaaGreatDoor
