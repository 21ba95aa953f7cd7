/- The law. -/
import Derived.Test.YtggbaapfbgjaeaaGreatDoorFDr12
import Derived.Test.YtggbaapfbgjaeaaGreatDoorFTe2
import Derived.Test.YtggbaapfbgjaeaaGreatDoorFEn6
import Derived.Test.YtggbaapfbgjaeaaGreatDoorFDq12
import Derived.Test.YtggbaapfbgjaeaaGreatDoorFDr3
set_option linter.all false
namespace Go.Proofs.YtggbaapfbgjaeaaGreatDoor
open Go Go.Am Go.Proofs
set_option maxRecDepth 100000
set_option maxHeartbeats 4000000
def zrg:Tm:=[none,none,none,none,bN 0,bN 1,none,none,bN 3,bN 4]++zN 10
abbrev zob(a b:Ct)(n most:Nat)(f:Nat->V)(x y:V)(z:Option X):H:=[⟨0,.box a.cells⟩,⟨0,.box b.cells⟩,⟨0,.arr 0 []⟩,⟨0,.box [x]⟩,⟨0,.box [y]⟩,⟨0,.box [num n]⟩,⟨0,.box [num most]⟩,⟨0,.loop (fill f 0 zrg) [14] L51_0 L51_1 z⟩]
def q6u(a b:Ct)(_:Option (List Int))(t:List Int):Option (List Int)×Bool:=if qml a b t=true then(some t,false)else(none,true)
theorem z4u{a b:Ct}(ha:a.small=true)(hb:b.small=true)(n most:Nat)(hm:most<=4)(hia:a.inputs.length=n)(hib:b.inputs.length=n)(f:Nat->V)(hf:JunkL 7 f) :
  Rgs n most (fun _=>zob a b n most f (.sl 2 0 0 0 0) (.bool false) none) (fun _ s=>s=none) (fun s H=>∃t g P,s=some t/\H=zob a b n most f (qcr t) (.bool true) (some .ret)++[obQ g P]) (q6u a b) 6 5 7 8 where
 aN:=by omega
 bN:=by omega
 lN:=by omega
 len:=fun _ s _=>by simp
 calm:=fun _ s _=>by have hlo:∀i,(f i).low 8=true:=fun i=>qer (by omega) _ (hf i).2;unfold calm;simp[zrg,hlo]
 ha:=fun _ s _=>by simp
 hb:=fun _ s _=>by simp
 yld:=fun i s t g P hG _ ht hin hs=>by
  have hlo:∀n,7<=n->∀i,(f i).low n=true:=fun n hn i=>qer hn _ (hf i).2;have e1:=ev59 ha hb (test:=t) (by omega) (by rw[hia];exact hin) (by rw[hib];exact hin);have htl:qml a b t=false:=by
   unfold q6u at hs;split at hs
   .cases hs
   .rename_i h;simpa using h
  rw[htl]at e1;refine⟨by simp[q6u,htl],?_⟩;simp[q1x,zrg,L51_0,L51_1,e1,hlo]
 stp:=fun i s t g P hG _ ht hin hs=>by
  have hlo:∀n,7<=n->∀i,(f i).low n=true:=fun n hn i=>qer hn _ (hf i).2;have e1:=ev59 ha hb (test:=t) (by omega) (by rw[hia];exact hin) (by rw[hib];exact hin);have htl:qml a b t=true:=by
   unfold q6u at hs;split at hs
   .assumption
   .cases hs
  rw[htl]at e1;refine⟨_,⟨t,g,P,by simp[q6u,htl],rfl⟩,?_⟩;simp[q1x,zrg,L51_0,L51_1,e1,hlo]
theorem qzs(a b:Ct):∀A:List (List Int),qlh (q6u a b) none A=match A.find? (qml a b)with
  | some t=>(some t,false)
  | none=>(none,true)
 | []=>rfl
 | t :: A=>by
  unfold qlh;cases h:qml a b t with
  | true=>simp[q6u,h]
  | false=>simp[q6u,h,qzs a b A]
theorem ev47b(h:H)(hh:h.length=5)(hc:calm h)(n most:Nat):ev pg (.call (fnq 47) [num n,num most] h)=some { v:=.fn 77 [] [.bptr 6 0,.bptr 5 0],st:=⟨[],h++[⟨0,.box [num n]⟩,⟨0,.box [num most]⟩]⟩ }:=by rw[qaa,pg47.1];simp[ir47,hh]
theorem ev51{a b:Ct}(ha:a.small=true)(hb:b.small=true)(n most:Nat)(hn:n<=100)(hm:most<=4)(hA:(qcm n most).length<=500)(hia:a.inputs.length=n)(hib:b.inputs.length=n) :
  ev pg (.call (fnq 51) [a.v,b.v,num n,num most] [])=some (rvq (.tup [qcr (((qcm n most).find? (qml a b)).getD []),.bool ((qcm n most).find? (qml a b)).isSome])):=by
 let S:List V:=[a.v,b.v,num n,num most,.bptr 0 0,.bptr 1 0,.undef,.undef,.bptr 3 0,.bptr 4 0,.undef,num n,num most,.fn 77 [] [.bptr 6 0,.bptr 5 0],.undef,.undef,.undef,.undef,.undef,.undef]
 obtain⟨f,hf,hfS⟩:=qol (t:=zrg) (s:=S) (m:=7) 0 (by simp[zrg,S]) (by simp[S]);obtain⟨H',e,hE⟩:=ev77 (z4u ha hb n most hm hia hib f hf) hn (by omega) hA none rfl;rw[qzs]at hE;have hlo:∀n,7<=n->∀i,(f i).low n=true:=fun n hn i=>qer hn _ (hf i).2;have e47:=ev47b [⟨0,.box a.cells⟩,⟨0,.box b.cells⟩,⟨0,.arr 0 []⟩,⟨0,.box [.sl 2 0 0 0 0]⟩,⟨0,.box [.bool false]⟩] rfl (by unfold calm;simp) n most;rw[qaa,pg51.1];cases hfd:(qcm n most).find? (qml a b)with
 | none =>
  rw[hfd]at hE;have hH:H'=zob a b n most f (.sl 2 0 0 0 0) (.bool false) none:=by
   rcases hE with⟨-,-,h⟩ | ⟨h,-⟩
   .exact h
   .cases h
  subst hH;simp only[zob,<-hfS,S]at e;simp[ir51,qfm,e47,e]
 | some t =>
  rw[hfd]at hE;obtain⟨g,P,hH⟩:∃g P,H'=qde 8 (zob a b n most f (qcr t) (.bool true) (some .ret)++[obQ g P]):=by
   rcases hE with⟨h,-⟩ | ⟨-,H,⟨t',g,P,h1,rfl⟩,h2⟩
   .cases h
   .cases h1;exact⟨g,P,h2⟩
  have hc:calm (zob a b n most f (qcr t) (.bool true) (some .ret)):=by have hlo:∀i,(f i).low 8=true:=fun i=>qer (by omega) _ (hf i).2;unfold calm;simp[zrg,hlo]
  have hcut:qde 8 (zob a b n most f (qcr t) (.bool true) (some .ret)++[obQ g P])=zob a b n most f (qcr t) (.bool true) (some .ret):=qef hc _;rw[hcut]at hH;subst hH;simp only[zob,<-hfS,S]at e;simp[ir51,qfm,e47,e]
def zpo(a:List (List Int))(k:Nat):Tm:=[some (quu a),some (quu a),none,none,some (.bool false),nN k]++zN 21
theorem z4c(a:List (List Int))(ha:a.length<=100000)(hw:∀t∈a,t.length<=1032){st:St}(h0:At (zpo a 0) [] st):∃r,ev pg (.code (.going 0 L17_0) st)=some r/\qar (.exit 0) (List.replicate 27 none) [] r:=by
 refine qfn a.length (fun k=>zpo a k) (fun _=>[]) _ ?_ ?_ h0
 .intro k f hf hk;have hk':(k:Int)<a.length:=by omega
  have wk:=qbc k;have e1:=ev18 a[k] (hw _ (jH hk));obtain⟨S,e,hS⟩:∃S,ev pg (.code L17_0 ⟨fill f 0 (zpo a k),[]⟩)=some { st:=⟨S,[]⟩ }/\qft (zpo a (k+1)) (S.map (qbf 0)):=by simp[qay,exT,qag,zpo,L17_0,hk,hk',e1,wk,hf.ne]
  exact⟨_,e,.inl ⟨rfl,hS,by simp⟩⟩
 .intro f hf;obtain⟨S,e,hS⟩:∃S,ev pg (.code L17_0 ⟨fill f 0 (zpo a a.length),[]⟩)=some { x:=.exit 0,st:=⟨S,[]⟩ }/\qft (List.replicate 27 none) S:=by
   simp[zpo,L17_0,hf.ne]
  exact⟨_,e,by simp,qbo.2 ⟨rfl,hS,rfl⟩⟩
theorem ev17(a:List (List Int))(ha:a.length<=100000)(hw:∀t∈a,t.length<=1032):ev pg (.call (fnq 17) [quu a,quu a] [])=some (rvq (.bool true)):=by
 rw[qaa,pg17.1];have hlp:=fun st=>z4c a ha hw (st:=st);simp[ir17,qai];generalize hq:ev pg (.code (.going _ L17_0) _)=o;obtain⟨r,rfl,fr,hfr,rfl⟩:∃r,o=some r/\_:=by rw[<-hq];exact hlp _ (by simp[zpo])
 simp[hfr.ne]
def zew(c:Ct)(p q:Int×Int)(most:Int):List Int×Bool×Int :=
 if qza c [p,q]≠0 then([],false,qza c [p,q])else if qxg c.inputs.length most≠0 then([],false,qxg c.inputs.length most)
 else(((qcm c.inputs.length most.toNat).find? (qml (ofC c p).1 (ofC c q).1)).getD [],((qcm c.inputs.length most.toNat).find? (qml (ofC c p).1 (ofC c q).1)).isSome,0)
theorem ev15(c:Ct)(hs:c.small=true)(p q:Int×Int)(most:Int):ev pg (.call (fnq 15) [c.v,fv p.1 p.2,fv q.1 q.2,num most] [])=some (rvq (.tup [qcr (zew c p q most).1,.bool (zew c p q most).2.1,num (zew c p q most).2.2])):=by
 have e1:=ev50 c hs [p,q] (by simp);rw[show zhm [p,q]=V.imm [[num p.1,num p.2],[num q.1,num q.2]]from rfl]at e1;have hm:=(qcd hs).1;have e2:=ev45 c hm most;unfold zwi at e1;unfold zew;rw[qaa,pg15.1];by_cases h1:qza c [p,q]=0
 .obtain⟨q1,q2,q3⟩:=q5b h1;obtain⟨r1,r2,r3⟩:=qrm hs q1 (q3 p (by simp));obtain⟨s1,s2,s3⟩:=qrm hs q1 (q3 q (by simp));simp only[ne_eq,h1,not_true_eq_false,if_false]at e1 ⊢;by_cases h2:qxg c.inputs.length most=0
  .obtain⟨N,rfl,hN,hA⟩:=qkt h2;have e3:=ev51 r1 s1 c.inputs.length N (by omega) hN (by omega) (by rw[r3]) (by rw[s3]);rw[h2]at e2;simp only[h2,not_true_eq_false,if_false,Int.toNat_natCast];simp only[zcq]at e1;generalize (ofC c p).1=d at *;generalize (ofC c q).1=d' at *;generalize (qcm c.inputs.length N).find? (qml d d')=o at *;simp[ir15,e1,e2,e3,qab,qay,exT,qag]
  .have h2b:(qxg c.inputs.length most != 0)=true:=by simpa using h2
   simp only[h2,not_false_eq_true,if_true];generalize qxg c.inputs.length most=e at *;simp[ir15,e1,e2,h2,h2b]
 .have h1b:(qza c [p,q] != 0)=true:=by simpa using h1
  simp only[ne_eq,h1,not_false_eq_true,if_true]at e1 ⊢;generalize qza c [p,q]=e at *;simp[ir15,e1,h1,h1b]
abbrev hSh(c:Ct)(p q:Int×Int):H:=[⟨0,.box c.cells⟩,⟨0,.box [num p.1,num p.2]⟩,⟨0,.box [num q.1,num q.2]⟩,⟨0,.arr 0 []⟩]
def zwe(A:List (List Int))(k:Nat):Tm:=[none,none,none,none,bN 0,bN 1,bN 2]++zN 20++[some (quu A),nN A.length,nN k]++zN 10
def zrl(t:List Int):Tm:=zN 8++[some (qcr t),some (.bool true),nN 0]++zN 29
theorem z4b(c:Ct)(hs:c.small=true)(p q:Int×Int)(hg:qza c [p,q]=0)(A:List (List Int))(hA:A.length<=500)(ht:∀t∈A,zwp c t=0){st:St}(h0:At (zwe A 0) (hSh c p q) st) :
  ∃r,ev pg (.code (.going 4 L16_0) st)=some r/\qph A.length (fun k=>qml (ofC c p).1 (ofC c q).1 ((A[k]?).getD [])) (fun k=>qar .ret (zrl ((A[k]?).getD [])) (hSh c p q)) (qar (.exit 0) (List.replicate 40 none) (hSh c p q)) r:=by
 refine qdw _ _ (zwe A) (hSh c p q) _ _ ?_ ?_ ?_ h0
 .intro k f hf hk hp;have hk':(k:Int)<A.length:=by omega
  have wk:=qbc k;have e1:=ev52 c hs p q (test:=A[k]) hg (ht _ (jH hk));simp only[jA hk,Option.getD_some]at hp;rw[hp]at e1;simp[qay,exT,qag,zwe,L16_0,hk,hk',e1,wk,hf.ne]
 .intro k f hf hk hp;have hk':(k:Int)<A.length:=by omega
  have e1:=ev52 c hs p q (test:=A[k]) hg (ht _ (jH hk));simp only[jA hk,Option.getD_some]at hp;rw[hp]at e1;simp[qay,exT,qag,zwe,zrl,L16_0,hk,hk',e1,hf.ne]
 .intro f hf;simp[zwe,L16_0,hf.ne]
theorem zcy{A:List (List Int)}{pr:List Int->Bool}{X:Nat->R->Prop}{Y:R->Prop}{r:R}(h:qph A.length (fun k=>pr ((A[k]?).getD [])) X Y r):(∃k t,A[k]?=some t/\A.find? pr=some t/\X k r)\/(A.find? pr=none/\Y r):=by
 rcases h with⟨k,hk,hp,hbe,hX⟩ | ⟨hp,hY⟩
 .refine .inl ⟨k,A[k],jA hk,?_,hX⟩;rw[List.find?_eq_some_iff_getElem];refine⟨by simpa[hk]using hp,k,hk,rfl,fun j hj=>?_⟩;have:=hbe j hj;simp only at this;rw[jA (by omega)]at this;simpa using this
 .refine .inr ⟨?_,hY⟩;rw[List.find?_eq_none];intro t ht;obtain⟨k,hk,rfl⟩:=List.getElem_of_mem ht;have:=hp k hk;simp only at this;rw[jA hk]at this;simpa using this
theorem zls{c:Ct}{N:Nat}(hN:N<=4):∀t∈qcm c.inputs.length N,zwp c t=0:=by intro t ht;obtain⟨j,hj,hl⟩:=qqr ht;have h1:=qta hl;have h2:=ziz hl;unfold zwp;rw[if_neg (by omega),if_neg];rw[Bool.not_eq_true,List.any_eq_false];intro i hi;obtain⟨h3,h4⟩:=h2 i hi;unfold z1i;simp only[Bool.or_eq_true,jW,not_or];omega
theorem ev16(c:Ct)(hs:c.small=true)(p q:Int×Int)(most:Int):ev pg (.call (fnq 16) [c.v,fv p.1 p.2,fv q.1 q.2,num most] [])=some (rvq (.tup [qcr (zew c p q most).1,.bool (zew c p q most).2.1,num (zew c p q most).2.2])):=by
 have e1:=ev48 c hs [p,q] (by simp) most;rw[show zhm [p,q]=V.imm [[num p.1,num p.2],[num q.1,num q.2]]from rfl]at e1;have hm:=(qcd hs).1;unfold zys at e1;unfold zew;rw[qaa,pg16.1];by_cases h1:qza c [p,q]=0
 .simp only[ne_eq,h1,not_true_eq_false,if_false]at e1 ⊢;by_cases h2:qxg c.inputs.length most=0
  .obtain⟨N,rfl,hN,hA⟩:=qkt h2;have e3:=ev49 c.inputs.length N (by omega) (by omega) (by omega);have hlp:=fun st=>z4b c hs p q h1 (qcm c.inputs.length N) (by omega) (zls hN) (st:=st);rw[h2]at e1;simp only[h2,not_true_eq_false,if_false,Int.toNat_natCast];generalize qcm c.inputs.length N=A at *;simp[ir16,e1,e3,qai,qab,qay,exT,qag];generalize hq:ev pg (.code (.going _ L16_0) _)=o;obtain⟨r,rfl,hr⟩:∃r,o=some r/\_:=by
    rw[<-hq];exact hlp _ (by simp[zwe])
   rcases zcy hr with⟨k,t,hk,hfd,f,hf,rfl⟩ | ⟨hfd,f,hf,rfl⟩
   .rw[hfd];simp[zrl,hk,hf.ne]
   .rw[hfd];simp[hf.ne]
  .have h2b:(qxg c.inputs.length most != 0)=true:=by simpa using h2
   simp only[h2,not_false_eq_true,if_true];generalize qxg c.inputs.length most=e at *;simp[ir16,e1,h2,h2b]
 .have h1b:(qza c [p,q] != 0)=true:=by simpa using h1
  simp only[ne_eq,h1,not_false_eq_true,if_true]at e1 ⊢;generalize qza c [p,q]=e at *;simp[ir16,e1,h1,h1b]
theorem ev11c(c c0:Ct)(p q:Int×Int)(most:Int):ev pg (.call (fnq 11) [c.v,.bsl 1 0 2 2,num most] (hPq c0 p q))=some { v:=.bool (zyc c 2 most),st:=⟨[],hPq c0 p q⟩ }:=by
 have e1:=ev19 c;have hcal:calm (hPq c0 p q):=by unfold calm;simp
 unfold zyc;rw[qaa,pg11.1];cases hf:c.few with
 | false =>rw[hf]at e1;simp[ir11,e1]
 | true =>
  rw[hf]at e1;by_cases h4:4<most
  .simp[ir11,e1,h4]
  .by_cases h5:most<=2
   .by_cases h6:c.inputs.length<=2
    .have h6':(c.inputs.length:Int)<=2:=by omega
     simp[ir11,e1,h4,h5,h6,h6']
    .have h6':¬(c.inputs.length:Int)<=2:=by omega
     by_cases h7:most<=1
     .simp[ir11,e1,h4,h5,h6,h6',h7]
     .simp[ir11,e1,h4,h5,h6,h6',h7]
   .have h7:¬most<=1:=by omega
    simp[ir11,e1,h4,h5,h7]
theorem zvl(c:Ct)(most:Int):(zko c most).1.length<=500/\∀t∈(zko c most).1,t.length<=4:=by
 unfold zko;split
 .simp
 .split
  .simp
  .rename_i h;obtain⟨N,rfl,hN,hA⟩:=qkt (by simpa using h);simp only[Int.toNat_natCast];refine⟨by omega,fun t ht=>?_⟩;obtain⟨j,hj,hl⟩:=qqr ht;have:=qta hl;omega
theorem zve(c:Ct)(p q:Int×Int)(most:Int):(zew c p q most).1.length<=4:=by
 unfold zew;split
 .simp
 .split
  .simp
  .rename_i h;obtain⟨N,rfl,hN,hA⟩:=qkt (by simpa using h);simp only[Int.toNat_natCast];cases hfd:(qcm c.inputs.length N).find? (qml (ofC c p).1 (ofC c q).1)with
   | none=>simp
   | some t =>obtain⟨j,hj,hl⟩:=qqr (List.mem_of_find?_eq_some hfd);have:=qta hl;simp only[Option.getD_some];omega
theorem ev3x(haw:ev pg (.call (fnq 12) [] [])=some (rvq (.bool true)))(c:Ct)(p q:Int×Int)(most:Int):ev pg (.call (fnq 3) [c.v,.agg [num p.1,num p.2,num q.1,num q.2],num most] [])=some (rvq (.bool true)):=by
 have e1:=ev11c c c p q most;have hcal:calm (hPq c p q):=by unfold calm;simp
 unfold hPq at e1 hcal;rw[qaa,pg3.1];cases hf:zyc c 2 most with
 | false =>rw[hf]at e1;simp[ir3,e1,haw,qab,qay,exT,qag]
 | true =>rw[hf]at e1;have hs:=zcx hf;have e2:=ev13 c hs most;have e3:=ev14 c hs most;have e4:=ev15 c hs p q most;have e5:=ev16 c hs p q most;obtain⟨o1,o2⟩:=zvl c most;have o3:=zve c p q most;have e6:=ev17 (zko c most).1 (by omega) (fun t ht=>by have:=o2 t ht;omega);have e7:=ev18 (zew c p q most).1 (by omega);generalize zko c most=u at *;generalize zew c p q most=z at *;obtain⟨A,e⟩:=u;obtain⟨t,b,e'⟩:=z;simp only at e2 e3 e4 e5 e6 e7;simp[ir3,e1,haw,e2,e3,e4,e5,e6,e7,qab,qay,exT,qag]
end Go.Proofs.YtggbaapfbgjaeaaGreatDoor
namespace Go.Am
abbrev qpg:=Nat×List V×R
def zdr:List qpg->Nat->List V->Option R
 | [],_,_=>none
 | c :: l,g,bs=>match Nat.beq c.1 g with
  | true=>match qzj c.2.1 bs with
   | true=>some c.2.2
   | false=>zdr l g bs
  | false=>zdr l g bs
def zth(m:List qpg):Q->Option R
 | .call (.fn f [] []) az []=>zdr m f az
 | _=>none
def evM(P:Prg)(m:List qpg):Nat->Q->Option R
 | 0,_=>none
 | n+1,q=>match zth m q with
  | some r=>some r
  | none=>qci P (evM P m n) q
def Okc(P:Prg)(c:qpg):Prop:=ev P (.call (.fn c.1 [] []) c.2.1 [])=some c.2.2
theorem q2o{P:Prg}:∀{m:List qpg} {f:Nat} {az:List V} {r:R},(∀c∈m,Okc P c)->zdr m f az=some r->ev P (.call (.fn f [] []) az [])=some r
 | [],_,_,_,_,h=>by simp[zdr]at h
 | c :: l,f,az,r,hm,h=>by
  simp only[zdr]at h;split at h
  .rename_i e1;split at h
   .rename_i e2;have:=hm c List.mem_cons_self;unfold Okc at this;rw[Nat.eq_of_beq_eq_true e1,qkc e2]at this;rw[this];exact h
   .exact q2o (fun c hc=>hm c (List.mem_cons_of_mem _ hc)) h
  .exact q2o (fun c hc=>hm c (List.mem_cons_of_mem _ hc)) h
theorem znz{P:Prg}{m:List qpg}{q:Q}{r:R}(hm:∀c∈m,Okc P c)(h:zth m q=some r):ev P q=some r:=by
 unfold zth at h;split at h
 .exact q2o hm h
 .cases h
theorem zpt{P:Prg}{m:List qpg}(hm:∀c∈m,Okc P c):∀(n:Nat) (q:Q) (r:R),evM P m n q=some r->ev P q=some r
 | 0,_,_,h=>by simp[evM]at h
 | n+1,q,r,h=>by
  simp only[evM]at h;split at h
  .rename_i r' e;rw[znz hm e];exact h
  .rw[qia];exact qyt (fun q r h=>zpt hm n q r h) q r h
theorem zjo{P:Prg}{c:qpg}(m:List qpg)(n:Nat)(hm:∀c∈m,Okc P c)(h:evM P m n (.call (.fn c.1 [] []) c.2.1 [])=some c.2.2):Okc P c:=zpt hm _ _ _ h
theorem zom{P:Prg}{c:qpg}{m:List qpg}(h:Okc P c)(hm:∀c∈m,Okc P c):∀d∈c :: m,Okc P d:=by
 intro d hd;cases hd with
 | head=>exact h
 | tail _ hd=>exact hm d hd
end Go.Am
namespace Go.Proofs.YtggbaapfbgjaeaaGreatDoor
open Go Go.Am Go.Proofs
set_option maxRecDepth 1000000
def cq:Ct:=⟨1,[[103,111]],[⟨[117,112],0,.mk 1 2 [],.mk 0 0 [],0,false⟩,⟨[100,111,119,110],0,.mk 2 0 [.mk 1 2 []],.mk 0 0 [],0,false⟩],[3],[4]⟩
abbrev Fq:=Int×Int
abbrev fa1:Fq:=(0,0)
abbrev fa2:Fq:=(3,2)
abbrev fa3:Fq:=(1,0)
abbrev fa4:Fq:=(-1,0)
abbrev wvR(v:V):R:={ v:=v,st:=⟨[],[]⟩ }
def m50(l:List Fq):qpg:=(50,[cq.v,zhm l],wvR (.tup [cts (zwi cq l).1,num (zwi cq l).2]))
def m55(x:Fq×List Int):qpg:=(55,[(ofC cq x.1).1.v,qcr x.2],wvR (zoo (qbm (ofC cq x.1).1 x.2).1 (qbm (ofC cq x.1).1 x.2).2))
def m59(x:Fq×Fq×List Int):qpg:=(59,[(ofC cq x.1).1.v,(ofC cq x.2.1).1.v,qcr x.2.2],wvR (.bool (qml (ofC cq x.1).1 (ofC cq x.2.1).1 x.2.2)))
def inB(c:Ct)(t:List Int):Bool:=c.small&&decide (t.length<=4)&&t.all fun i=>decide (0<=i)&&decide (i<c.inputs.length)
theorem zif{c:Ct}{t:List Int}(h:inB c t=true):c.small=true/\t.length<=4/\∀i∈t,0<=i/\i<c.inputs.length:=by unfold inB at h;simpa[and_assoc]using h
theorem z5o{l:List (List Fq)}(h:l.all (fun x=>decide (x.length<=4))=true):∀c∈l.map m50,Okc pg c:=by intro c hc;obtain⟨x,hx,rfl⟩:=List.mem_map.1 hc;have h1:=jP.1 h x hx;exact ev50 cq (by kernel_rfl) x (by simp at h1;omega)
theorem z5p{l:List (Fq×List Int)}(h:l.all (fun x=>inB (ofC cq x.1).1 x.2)=true):∀c∈l.map m55,Okc pg c:=by intro c hc;obtain⟨x,hx,rfl⟩:=List.mem_map.1 hc;obtain⟨h1,h2,h3⟩:=zif (jP.1 h x hx);exact ev55 h1 (by omega) h3
theorem z7j{l:List (Fq×Fq×List Int)}(h:l.all (fun x=>inB (ofC cq x.1).1 x.2.2&&inB (ofC cq x.2.1).1 x.2.2)=true):∀c∈l.map m59,Okc pg c:=by intro c hc;obtain⟨x,hx,rfl⟩:=List.mem_map.1 hc;have h0:=jP.1 h x hx;rw[jE]at h0;obtain⟨h1,h2,h3⟩:=zif h0.1;obtain⟨h4,h5,h6⟩:=zif h0.2;exact ev59 h1 h4 h2 h3 h6
theorem q8m{P:Prg}{a b:List qpg}(h:∀c∈a,Okc P c)(k:∀c∈b,Okc P c):∀c∈a++b,Okc P c:=fun c hc=>(jQ.1 hc).elim (h c) (k c)
def tsQ:List (List Int):=[[],[0],[0,0]]
def fsQ:List Fq:=[fa1,fa2,fa3,fa4]
def m32:qpg:=(32,[cq.v,zhm fsQ,num 2],wvR (.tup [.imm [[qcr [0,0]]],num 0]))
theorem z7i:Okc pg m32:=zjo (([fsQ].map m50)++((fsQ.flatMap fun p=>tsQ.map fun t=>(p,t)).map m55)) 600 (q8m (z5o (by kernel_rfl)) (z5p (by kernel_rfl))) (by kernel_rfl)
def psQ:List (Fq×Fq):=[(fa1,fa4),(fa1,fa2),(fa3,fa4)]
theorem ev12:ev pg (.call (fnq 12) [] [])=some (rvq (.bool true)) :=
 zjo (c:=(12,[],wvR (.bool true))) (m32 :: ((([fa4] :: psQ.map fun p=>[p.1,p.2]).map m50)++(([(fa4,[0,0])].map m55)++((psQ.flatMap fun p=>tsQ.map fun t=>(p.1,p.2,t)).map m59)))) 600
  (zom z7i (q8m (z5o (by kernel_rfl)) (q8m (z5p (by kernel_rfl)) (z7j (by kernel_rfl))))) (by kernel_rfl)
end Go.Proofs.YtggbaapfbgjaeaaGreatDoor
namespace Go.Proofs.YtggbaapfbgjaeaaGreatDoor
open Go Go.Am Go.Proofs
theorem ev3(c:Ct)(p q:Int×Int)(most:Int):ev pg (.call (fnq 3) [c.v,.agg [num p.1,num p.2,num q.1,num q.2],num most] [])=some (rvq (.bool true)):=ev3x ev12 c p q most
end Go.Proofs.YtggbaapfbgjaeaaGreatDoor
