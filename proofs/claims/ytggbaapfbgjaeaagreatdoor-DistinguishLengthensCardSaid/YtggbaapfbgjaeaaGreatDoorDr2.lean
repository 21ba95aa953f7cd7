/- The law. -/
import Derived.Test.YtggbaapfbgjaeaaGreatDoorDr1
set_option linter.all false
namespace Go.Proofs.YtggbaapfbgjaeaaGreatDoor
open Go Go.Am Go.Proofs
set_option maxRecDepth 100000
set_option maxHeartbeats 4000000
theorem ev30b(c:Ct)(p q:Int×Int)(i:Int):ev pg (.call (.fn 30 [] [.bptr 0 0]) [num i] [⟨0,.box c.cells⟩,⟨0,.box [num p.1,num p.2,num q.1,num q.2]⟩])=some { v:=.bool (qyl c i),st:=⟨[],[⟨0,.box c.cells⟩,⟨0,.box [num p.1,num p.2,num q.1,num q.2]⟩]⟩ }:=by
 rw[qab,pg30.1];unfold qyl;by_cases h:i<0
 .simp[ir30,h]
 .by_cases h2:(c.inputs.length:Int)<=i
  .simp[ir30,h,h2]
  .simp[ir30,h,h2]
structure Longs(X Y:List (List (Int×Bool))×Bool)(n:Nat):Prop where
 le:X.1.length<=Y.1.length
 eq:∀(k:Nat) (h:k<X.1.length),X.1[k]=Y.1[k]'(by omega)
 race:X.2=true->X.1.length=Y.1.length
 len:X.2=false->Y.1.length=n+1
theorem z1x(d:Ct)(s:List Int)(x:Int):Longs (qap d s) (qap d (s++[x])) (s.length+1):=by
 have h1:=qne d s x;have h2:=qqa d s;generalize qap d s=X at *;generalize qap d (s++[x])=Y at *;rcases h1 with⟨hr,rfl⟩ | ⟨hr,w,hw⟩
 .exact⟨jD _,fun _ _=>rfl,fun _=>rfl,fun h=>by rw[hr]at h;cases h⟩
 .refine⟨by rw[hw];simp,fun k hk=>?_,fun h=>(by rw[hr]at h;cases h),fun h=>?_⟩
  .simp only[hw];rw[List.getElem_append_left hk]
  .rw[hw,jF,h2 h];rfl
theorem ev5x(haw:ev pg (.call (fnq 12) [] [])=some (rvq (.bool true)))(c:Ct)(p q:Int×Int)(test:List Int):ev pg (.call (fnq 5) [c.v,.agg [num p.1,num p.2,num q.1,num q.2],qct test] [])=some (rvq (.bool true)):=by
 have e1:=ev28b c c p q;have hcal:qcp (hPq c p q):=by unfold qcp;simp
 unfold hPq at e1 hcal;rw[qab,pg5.1];cases hr:zyh c [p,q]with
 | false =>rw[hr]at e1;simp[ir5,e1,haw,qaa,qaq,exT,qag]
 | true =>
  rw[hr]at e1;obtain⟨hs,hg,hg1⟩:=ztw hr;by_cases h0:test=[]
  .subst h0;simp[ir5,e1,haw,qaa,qaq,exT,qag]
  .by_cases h4:4<test.length
   .have h4':(4:Int)<test.length:=by omega
    have hn0:((test.length:Int)==0)=false:=by simpa using h0
    simp[ir5,e1,haw,h0,h4',hn0,qaa,qaq,exT,qag]
   .have h4':¬(4:Int)<test.length:=by omega
    have hn0:((test.length:Int)==0)=false:=by simpa using h0
    have e29:=ev29 (f:=30) (caps:=[.bptr 0 0]) (h:=[⟨0,.box c.cells⟩,⟨0,.box [num p.1,num p.2,num q.1,num q.2]⟩]) (l:=test) (p:=qyl c) (by omega) (by simp[qek,V.low]) (by simp[qek,V.low]) (fun i=>ev30b c p q i) hcal;cases hb:test.any (qyl c)with
    | true =>rw[hb]at e29;simp[ir5,e1,e29,haw,h0,h4',hn0,qaa,qaq,exT,qag]
    | false =>
     rw[hb]at e29;obtain⟨s,x,hsx⟩:∃s x,test=s++[x]:=⟨_,_,(List.dropLast_concat_getLast h0).symm⟩
     have hlen:test.length=s.length+1:=by rw[hsx];simp
     have hw:Go.IntKind.i64.wrap ((test.length:Int)-1)=(s.length:Int):=by rw[qam (by omega) (by omega)];omega
     have hT:List.take s.length test=s:=by rw[hsx];simp
     have hT2:List.take s.length (List.map qbh test)=List.map qbh s:=by rw[hsx];simp
     have hle:s.length<=test.length:=by omega
     have hle0:(0:Int)<=s.length:=by omega
     have ht0:qtm c test=0:=by unfold qtm;rw[if_neg h4,hb];rfl
     have ht1:qtm c s=0:=by
      have hb':s.any (qyl c)=false:=by rw[hsx,List.any_append]at hb;simp only[Bool.or_eq_false_iff]at hb;exact hb.1
      unfold qtm;rw[if_neg (by omega),hb'];rfl
     have g1:=ev22 c hs p q (test:=s) (by omega);have g2:=ev22 c hs p q (test:=test) (by omega);have g3:=ev20 c hs p (test:=s) (by omega);have g4:=ev20 c hs p (test:=test) (by omega);have a1:zez c p q s=(qnt (ofC c p).1 (ofC c q).1 s,0):=by simp[zez,hg,ht1]
     have a2:zez c p q test=(qnt (ofC c p).1 (ofC c q).1 test,0):=by simp[zez,hg,ht0]
     have a3:q8h c p s=(qap (ofC c p).1 s,0):=by simp[q8h,hg1,ht1]
     have a4:q8h c p test=(qap (ofC c p).1 test,0):=by simp[q8h,hg1,ht0]
     have tl:qnt (ofC c p).1 (ofC c q).1 s=true->qnt (ofC c p).1 (ofC c q).1 test=true:=by rw[hsx];exact zea
     have hL:=z1x (ofC c p).1 s x;rw[<-hsx]at hL;obtain⟨q1,_,q3⟩:=qkp hg1;obtain⟨r1,_,_⟩:=qhr hs q1 (q3 p (by simp));have hok:=qkw r1 (test:=s) (by omega);rw[a1]at g1;rw[a2]at g2;rw[a3]at g3;rw[a4]at g4;generalize qnt (ofC c p).1 (ofC c q).1 s=t1 at *;generalize qnt (ofC c p).1 (ofC c q).1 test=t2 at *;generalize qap (ofC c p).1 s=X at *;generalize qap (ofC c p).1 test=Y at *;obtain⟨X,xr⟩:=X;obtain⟨Y,yr⟩:=Y;obtain⟨l1,l2,l3,l4⟩:=hL;simp only at g1 g2 g3 g4 l1 l2 l3 l4 hok;have hlp:=fun st=>z5k c p q test X xr Y yr (by have:=hok.1;omega) (fun w hw=>by have:=(hok.2 w hw).1;omega) l1 l2 (st:=st);have hgt:¬(Y.length:Int)<X.length:=by omega
     have wt:Go.IntKind.i64.wrap ((test.length:Int)+1)=(test.length:Int)+1:=qam (by omega) (by omega);have w0:Go.IntKind.i64.wrap 0=0:=qam (by omega) (by omega);cases xr with
     | true =>
      have l5:(Y.length:Int)=X.length:=by have:=l3 rfl;omega
      cases t1 with
      | true =>
       have t2t:=tl rfl;subst t2t;simp[ir5,e1,e29,haw,h0,h4',hn0,hw,hT2,hle,hle0,g1,g2,g3,g4,hgt,w0,l5,qah,qaa,qaq,exT,qag];generalize hq:ev pg (.code (.going _ L5_0) _)=o;obtain⟨r,rfl,hr⟩:∃r,o=some r/\_:=by rw[<-hq];exact hlp _ (by simp[Tq5])
       obtain⟨fr,hfr,rfl⟩:=hr;simp[zqh,hfr.ne,haw,l5,wt,qaa,qaq,exT,qag]
      | false =>
       simp[ir5,e1,e29,haw,h0,h4',hn0,hw,hT2,hle,hle0,g1,g2,g3,g4,hgt,w0,l5,qah,qaa,qaq,exT,qag];generalize hq:ev pg (.code (.going _ L5_0) _)=o;obtain⟨r,rfl,hr⟩:∃r,o=some r/\_:=by rw[<-hq];exact hlp _ (by simp[Tq5])
       obtain⟨fr,hfr,rfl⟩:=hr;simp[zqh,hfr.ne,haw,l5,wt,qaa,qaq,exT,qag]
     | false =>
      have l5:(Y.length:Int)=test.length+1:=by have:=l4 rfl;omega
      cases t1 with
      | true =>
       have t2t:=tl rfl;subst t2t;simp[ir5,e1,e29,haw,h0,h4',hn0,hw,hT2,hle,hle0,g1,g2,g3,g4,hgt,w0,qah,qaa,qaq,exT,qag];generalize hq:ev pg (.code (.going _ L5_0) _)=o;obtain⟨r,rfl,hr⟩:∃r,o=some r/\_:=by rw[<-hq];exact hlp _ (by simp[Tq5])
       obtain⟨fr,hfr,rfl⟩:=hr;simp[zqh,hfr.ne,haw,l5,wt,qaa,qaq,exT,qag]
      | false =>
       simp[ir5,e1,e29,haw,h0,h4',hn0,hw,hT2,hle,hle0,g1,g2,g3,g4,hgt,w0,qah,qaa,qaq,exT,qag];generalize hq:ev pg (.code (.going _ L5_0) _)=o;obtain⟨r,rfl,hr⟩:∃r,o=some r/\_:=by rw[<-hq];exact hlp _ (by simp[Tq5])
       obtain⟨fr,hfr,rfl⟩:=hr;simp[zqh,hfr.ne,haw,l5,wt,qaa,qaq,exT,qag]
end Go.Proofs.YtggbaapfbgjaeaaGreatDoor
