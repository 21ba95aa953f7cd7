/- Right cases. -/
import Derived.Test.YtggbaapfbgjaeaaGreatDoorAw15
import Derived.Test.YtggbaapfbgjaeaaGreatDoorBg1
set_option linter.all false
namespace Go.Proofs.YtggbaapfbgjaeaaGreatDoor
open Go Go.Am Go.Proofs
set_option maxRecDepth 100000
set_option maxHeartbeats 4000000
def zvc(c:Ct)(n:Nat)(most:Int):Bool:=c.few&&(!(decide (30<n)||(decide (3<n)&&decide (n<=10))))&&(decide (4<most)||(decide (most<=2)&&decide (c.inputs.length<=2))||decide (most<=1))
def zkt(k:Nat):Tm:=[none,none,none,none,nN k]++zN 14
def zyh(c:Ct)(l:List (Int×Int)):Bool:=zvc c l.length 2&&decide (c.check=0)&&decide (l.length<=3) && !(l.any fun p=>decide ((ofC c p).2≠0))
theorem qzd{c:Ct}{n:Nat}{m:Int}(h:zvc c n m=true):c.small=true:=by unfold zvc at h;simp only[jE]at h;exact q4i h.1.1
def zye(c:Ct)(i:Int)(u:Ste×Bool×List (List (Int×Bool))):Ste×Bool×List (List (Int×Bool)):=if u.2.1=true then u else((qgm c u.1 i).s,(qgm c u.1 i).r,u.2.2++[(qgm c u.1 i).l])
theorem q0j(c:Ct):∀(l:List Int) (i:Int) (u:Ste×Bool×List (List (Int×Bool))),qhu c (l++[i]) u=zye c i (qhu c l u)
 | [],i,u=>by show(if u.2.1=true then u else _)=zye c i u;unfold zye;rfl
 | x :: l,i,u=>by
  rw[List.cons_append];unfold qhu;by_cases h:u.2.1=true
  .rw[if_pos h,if_pos h];unfold zye;rw[if_pos h]
  .rw[if_neg h,if_neg h];exact q0j c l i _
theorem qxp(c:Ct):∀(l:List Int) (u:Ste×Bool×List (List (Int×Bool))),(qhu c l u).2.2.length<=u.2.2.length+l.length/\((qhu c l u).2.1=false->(qhu c l u).2.2.length=u.2.2.length+l.length)
 | [],u=>⟨jD _,fun _=>rfl⟩
 | i :: l,u=>by
  unfold qhu;by_cases h:u.2.1=true
  .rw[if_pos h];exact⟨by omega,fun hh=>by rw[h]at hh;cases hh⟩
  .rw[if_neg h];obtain⟨h1,h2⟩:=qxp c l ((qgm c u.1 i).s,(qgm c u.1 i).r,u.2.2++[(qgm c u.1 i).l]);simp only[jF,List.length_cons,List.length_nil]at h1 h2 ⊢;exact⟨by omega,fun hh=>by rw[h2 hh];omega⟩
theorem qne(c:Ct)(l:List Int)(i:Int):((qap c l).2=true/\qap c (l++[i])=qap c l)\/((qap c l).2=false/\∃w,(qap c (l++[i])).1=(qap c l).1++[w]):=by
 unfold qap;split
 .exact .inl ⟨rfl,rfl⟩
 .simp only[q0j];generalize qhu c l ((qfq c).s,(qfq c).r,[(qfq c).l])=u;unfold zye;by_cases h:u.2.1=true
  .rw[if_pos h];exact .inl ⟨h,rfl⟩
  .rw[if_neg h];exact .inr ⟨by simpa using h,_,rfl⟩
theorem qqa(c:Ct)(l:List Int):(qap c l).2=false->(qap c l).1.length=l.length+1:=by
 unfold qap;split
 .intro h;cases h
 .intro h;have:=(qxp c l ((qfq c).s,(qfq c).r,[(qfq c).l])).2 h;simp only[List.length_singleton]at this ⊢;omega
theorem q0k(c:Ct)(l:List Int):(qap c l).1.length<=l.length+1:=by
 unfold qap;split
 .simp
 .have:=(qxp c l ((qfq c).s,(qfq c).r,[(qfq c).l])).1;simp only[List.length_singleton]at this ⊢;omega
theorem zea{a b:Ct}{l:List Int}{i:Int}(h:qnt a b l=true):qnt a b (l++[i])=true:=by
 unfold qnt at h ⊢;simp only[Bool.not_eq_true',decide_eq_false_iff_not]at h ⊢;intro e;apply h;have ha:=qne a l i;have hb:=qne b l i;have la:=qqa a l;have lb:=qqa b l;rw[e]at ha;have ma:=q0k a l;have mb:=q0k b l;generalize qap b (l++[i])=z at *;generalize qap a l=x at *;generalize qap b l=y at *;rcases ha with⟨h1,h2⟩ | ⟨h1,w,h2⟩<;>rcases hb with⟨h3,h4⟩ | ⟨h3,v,h4⟩
 .rw[<-h2,h4]
 .exfalso;have h5:=lb h3;rw[h2]at h4;have h6:=congrArg List.length h4;rw[jF,List.length_singleton]at h6;omega
 .exfalso;have h5:=la h1;rw[h4]at h2;have h6:=congrArg List.length h2;rw[jF,List.length_singleton]at h6;omega
 .have h5:x.1=y.1:=by
   have:=h2.symm.trans h4;exact(List.append_inj' this rfl).1
  exact Prod.ext h5 (h1.trans h3.symm)
theorem ztw{c:Ct}{p q:Int×Int}(h:zyh c [p,q]=true):c.small=true/\qps c [p,q]=0/\qps c [p]=0:=by
 unfold zyh at h;simp only[jE,Bool.not_eq_true',jW]at h;obtain⟨⟨⟨h1,h2⟩,_⟩,h4⟩:=h;rw[List.any_eq_false]at h4;have hp:(ofC c p).2=0:=by simpa using h4 p (by simp)
 have hq:(ofC c q).2=0:=by simpa using h4 q (by simp)
 refine⟨qzd h1,?_,?_⟩
 .unfold qps;rw[if_neg (by simp[h2]),if_neg (by simp)];simp[qvy,hp,hq]
 .unfold qps;rw[if_neg (by simp[h2]),if_neg (by simp)];simp[qvy,hp]
abbrev yL(c:Ct)(p q:Int×Int)(X:List (List (Int×Bool)))(r:Bool)(Y:List (List (Int×Bool)))(r':Bool):H:=[⟨0,.box c.cells⟩,⟨0,.box [num p.1,num p.2,num q.1,num q.2]⟩,⟨0,.arr 0 []⟩,⟨0,.box [.imm (X.map zkb),.bool r]⟩,⟨0,.arr 0 []⟩,⟨0,.box [.imm (Y.map zkb),.bool r']⟩]
def Tq5(test:List Int)(X:List (List (Int×Bool)))(k:Nat):Tm:=[none,none,some (qct test),none,none,none,some (.bool false),none,none,none,none,none,bN 3,none,bN 5]++zN 102++[some (.imm (X.map zkb)),nN X.length,nN k]++zN 27
def zqh(test:List Int):Tm:=[none,none,some (qct test),none,none,none,none,none,none,none,none,none,bN 3,none,bN 5]++zN 132
theorem z5k(c:Ct)(p q:Int×Int)(test:List Int)(X:List (List (Int×Bool)))(r:Bool)(Y:List (List (Int×Bool)))(r':Bool)(hX:X.length<=100000)(hw:∀w∈X,w.length<=100000)(hle:X.length<=Y.length)(heq:∀(k:Nat) (h:k<X.length),X[k]=Y[k]'(by omega)){st:St}(h0:At (Tq5 test X 0) (yL c p q X r Y r') st) :
  ∃o,ev pg (.code (.going 6 L5_0) st)=some o/\qat (.exit 0) (zqh test) (yL c p q X r Y r') o:=by
 refine qgj X.length (fun k=>Tq5 test X k) (fun _=>yL c p q X r Y r') _ ?_ ?_ h0
 .intro k f hf hk;have hk':(k:Int)<X.length:=by omega
  have hky:k<Y.length:=by omega
  have hky':(k:Int)<Y.length:=by omega
  have wk:=qbi k;have e1:=ev31 X[k] Y[k] (hw _ (jH hk));rw[heq k hk]at e1;simp only[decide_true]at e1;have hxy:=heq k hk;obtain⟨S,e,hS⟩:∃S,ev pg (.code L5_0 ⟨fill f 0 (Tq5 test X k),yL c p q X r Y r'⟩)=some { st:=⟨S,yL c p q X r Y r'⟩ }/\qmg (Tq5 test X (k+1)) (S.map (qbl 6)):=by simp[Tq5,L5_0,hk,hk',hky,hky',hxy,e1,wk,qaq,exT,qag,hf.ne]
  exact⟨_,e,.inl ⟨rfl,hS,by simp⟩⟩
 .intro f hf;obtain⟨S,e,hS⟩:∃S,ev pg (.code L5_0 ⟨fill f 0 (Tq5 test X X.length),yL c p q X r Y r'⟩)=some { x:=.exit 0,st:=⟨S,yL c p q X r Y r'⟩ }/\qmg (zqh test) S:=by
   simp[Tq5,zqh,L5_0,hf.ne]
  exact⟨_,e,by simp,qez.2 ⟨rfl,hS,rfl⟩⟩
abbrev hPq(c:Ct)(p q:Int×Int):H:=[⟨0,.box c.cells⟩,⟨0,.box [num p.1,num p.2,num q.1,num q.2]⟩]
abbrev hPc(c d:Ct)(p q:Int×Int):H:=[⟨0,.box c.cells⟩,⟨0,.box [num p.1,num p.2,num q.1,num q.2]⟩,⟨0,.box d.cells⟩]
theorem ev11b(c c0 d:Ct)(p q:Int×Int)(most:Int):ev pg (.call (fnq 11) [c.v,.bsl 1 0 2 2,num most] (hPc c0 d p q))=some { v:=.bool (zvc c 2 most),st:=⟨[],hPc c0 d p q⟩ }:=by
 have e1:=ev19 c;have hcal:qcp (hPc c0 d p q):=by unfold qcp;simp
 unfold zvc;rw[qab,pg11.1];cases hf:c.few with
 | false =>rw[hf]at e1;simp[ir11,e1]
 | true =>
  rw[hf]at e1;by_cases h4:4<most
  .simp[ir11,e1,h4]
  .by_cases h5:most<=2
   .by_cases h6:c.inputs.length<=2
    .have h6':(c.inputs.length:Int)<=2:=by omega
     simp[ir11,e1,h4,h5,h6,h6']
    .have h6':¬(c.inputs.length:Int)<=2:=by omega
     by_cases h7:most<=1
     .simp[ir11,e1,h4,h5,h6,h6',h7]
     .simp[ir11,e1,h4,h5,h6,h6',h7]
   .have h7:¬most<=1:=by omega
    simp[ir11,e1,h4,h5,h7]
theorem ev63b(c c0:Ct)(hs:c.small=true)(p q r:Int×Int):ev pg (.call (.fn 63 [] [.bptr 2 0]) [fv r.1 r.2] (hPc c0 c p q))=some { v:=.bool (decide ((ofC c r).2≠0)),st:=⟨[],hPc c0 c p q⟩ }:=by
 have e1:=ev57 c hs r;rw[qab,pg63.1];generalize ofC c r=y at *;obtain⟨d,e⟩:=y;simp only at e1 ⊢;by_cases h:e=0
 .subst h;simp[ir63,e1]
 .have hb:(e != 0)=true:=by simpa using h
  simp[ir63,e1,h,hb]
def q3s(k:Nat):Tm:=[some (.bsl 1 0 2 2),some (.fn 63 [] [.bptr 2 0]),none,none,nN 0,none,some (.bsl 1 0 2 2),nN 2,nN k]++zN 10
theorem zxz(c c0:Ct)(hs:c.small=true)(p q:Int×Int){st:St}(h0:At (q3s 0) (hPc c0 c p q) st):∃r,ev pg (.code (.going 3 L97_0) st)=some r/\qmd 2 (fun k=>decide ((ofC c (([p,q][k]?).getD (0,0))).2≠0)) (fun k=>qat .ret (zkt k) (hPc c0 c p q)) (qat (.exit 0) (List.replicate 19 none) (hPc c0 c p q)) r:=by
 refine qcw _ _ q3s (hPc c0 c p q) _ _ ?_ ?_ ?_ h0
 .intro k f hf hk hp
  match k,hk with
  | 0,_ =>
   have e1:=ev63b c c0 hs p q p;have hp':decide ((ofC c p).2≠0)=false:=by simpa using hp
   rw[hp']at e1;have w1:Go.IntKind.i64.wrap 1=1:=qam (by omega) (by omega);simp[q3s,L97_0,e1,w1,hf.ne]
  | 1,_ =>
   have w1:Go.IntKind.i64.wrap 2=2:=qam (by omega) (by omega);have e1:=ev63b c c0 hs p q q;have hp':decide ((ofC c q).2≠0)=false:=by simpa using hp
   rw[hp']at e1;simp[q3s,L97_0,e1,w1,hf.ne]
 .intro k f hf hk hp
  match k,hk with
  | 0,_ =>
   have e1:=ev63b c c0 hs p q p;have hp':decide ((ofC c p).2≠0)=true:=by simpa using hp
   rw[hp']at e1;simp[q3s,zkt,L97_0,e1,hf.ne]
  | 1,_ =>
   have e1:=ev63b c c0 hs p q q;have hp':decide ((ofC c q).2≠0)=true:=by simpa using hp
   rw[hp']at e1;simp[q3s,zkt,L97_0,e1,hf.ne]
 .intro f hf;simp[q3s,L97_0,hf.ne]
theorem ev62b(c c0:Ct)(hs:c.small=true)(p q:Int×Int):ev pg (.call (fnq 62) [.bsl 1 0 2 2,.fn 63 [] [.bptr 2 0]] (hPc c0 c p q))=some { v:=.bool ([p,q].any fun p=>decide ((ofC c p).2≠0)),st:=⟨[],hPc c0 c p q⟩ }:=by
 have hcal:qcp (hPc c0 c p q):=by unfold qcp;simp
 have e97:∃r:Int,ev pg (.call (fnq 97) [.bsl 1 0 2 2,.fn 63 [] [.bptr 2 0]] (hPc c0 c p q))=some { v:=num r,st:=⟨[],hPc c0 c p q⟩ }/\decide (0<=r)=[p,q].any fun p=>decide ((ofC c p).2≠0):=by
  have hlp:=fun st=>zxz c c0 hs p q (st:=st);rw[qab,pg97.1];simp only[ir97];simp[qah];generalize hq:ev pg (.code (.going _ L97_0) _)=o;obtain⟨r,rfl,hr⟩:∃r,o=some r/\_:=by rw[<-hq];exact hlp _ (by simp[q3s])
  rcases hr with⟨k,hk,hp,-,fr,hfr,rfl⟩ | ⟨hp,fr,hfr,rfl⟩
  .refine⟨k,by simp[zkt,hfr.ne],?_⟩
   match k,hk with
   | 0,_ =>
    have hp':¬(ofC c p).2=0:=by simpa using hp
    simp[hp']
   | 1,_ =>
    have hp':¬(ofC c q).2=0:=by simpa using hp
    simp[hp']
  .refine⟨-1,by simp[hfr.ne],?_⟩;have h0:(ofC c p).2=0:=by simpa using hp 0 (by omega)
   have h1:(ofC c q).2=0:=by simpa using hp 1 (by omega)
   simp[h0,h1]
 obtain⟨r,e1,e2⟩:=e97;rw[<-e2,qab,pg62.1];by_cases h:0<=r
 .simp[ir62,e1,h]
 .simp[ir62,e1,h]
theorem ev28b(c c0:Ct)(p q:Int×Int):ev pg (.call (fnq 28) [c.v,.bsl 1 0 2 2] (hPq c0 p q))=some { v:=.bool (zyh c [p,q]),st:=⟨[],hPq c0 p q⟩ }:=by
 have e1:=ev11b c c0 c p q 2;have hcal:qcp (hPc c0 c p q):=by unfold qcp;simp
 have hcal2:qcp (hPq c0 p q):=by unfold qcp;simp
 unfold zyh;rw[qab,pg28.1];simp only[List.length_cons,List.length_nil];cases hf:zvc c 2 2 with
 | false =>rw[hf]at e1;simp[ir28,e1]
 | true =>
  rw[hf]at e1;have hs:=qzd hf;have e2:=ev61 c hs;have e3:=ev62b c c0 hs p q;generalize c.check=e at *;by_cases h1:e=0
  .subst h1;generalize ([p,q].any fun p=>decide ((ofC c p).2≠0))=z at *;simp[ir28,e1,e2,e3]
  .have h1b:(e != 0)=true:=by simpa using h1
   simp[ir28,e1,e2,h1,h1b]
end Go.Proofs.YtggbaapfbgjaeaaGreatDoor
