/- Controls: errors. -/
import Derived.Test.YtggbaapfbgjaeaaGreatDoorFCq1
set_option linter.all false
namespace Go.Proofs.YtggbaapfbgjaeaaGreatDoor
open Go Go.Am Go.Proofs
set_option maxRecDepth 100000
theorem qxj{K L:List Txt}(h:∀q,q∈K<->q∈L)(s:Txt):qes K s=qes L s:=by unfold qes;simp only[h s]
theorem zel(c:Ct)(A:Nat){K L:List Txt}(h:∀q,q∈K<->q∈L)(i:Nat)(x:Sg):zpa c A K i x=zpa c A L i x:=by unfold zpa;rw[qxj h]
theorem qnb(c:Ct)(A n:Nat)(q:Txt):q∈qaw c A (n+1)<->(q∈qaw c A n\/q=qbj c A n):=by unfold qaw;rw[List.range_succ,List.map_append,jQ];simp
theorem q0f(c:Ct)(A j:Nat)(hj:j<c.inputs.length):qbj c A (2*A+j)=c.inputs[j]:=by unfold qbj;rw[if_neg (by omega),if_pos (by omega),show 2*A+j-2*A=j by omega,jA hj];rfl
def qpk(c:Ct)(A n:Nat)(l:List (Txt×Int)):Prop:=∀q,q∈l.map Prod.fst<->q∈qaw c A n
theorem zfz(c:Ct)(l:List (Txt×Int)):calm (hX c l []):=by simp[calm,qbx]
structure Keep84(st:List V):Prop where
 nn:qaq st
 len:st.length=111
 t1:qah st 1=.bptr 1 0
 t4:qah st 4=.bptr 3 0
def z5h(c:Ct)(A k:Nat)(st:St):Prop:=(∃l,st.h=hX c l []/\qpk c A k l)/\Keep84 st.s/\qah st.s 45=num (2*A:Nat)/\qah st.s 46=num k
def z1a(c:Ct)(A:Nat)(r:R):Prop:=r.x=.exit 0/\(∃l,r.st.h=hX c l []/\qpk c A (2*A) l)/\Keep84 r.st.s
theorem zug{c:Ct}{A:Nat}(h:Mid c A)(st:St)(h0:z5h c A 0 st):∃r,ev pg (.code (.going 4 L75_0) st)=some r/\z1a c A r:=by
 refine qat (z5h c A) (2*A) (z1a c A) h0 ?_ ?_
 .rintro k ⟨s,hh⟩ hk ⟨⟨l,rfl,hkeys⟩,⟨hnn,hl,e1,e4⟩,e45,e46⟩;simp only at hl e1 e4 e45 e46;have hn:∀j,qah s j ≠ .nils:=qap hnn;have hk':(k:Int)<((2*A:Nat):Int):=by omega
  have h6:=h.hi;have wk:=qbc k;have hc:=ev123 h k (by unfold qad;omega);obtain⟨l',hu1,hu2⟩:=q9b l (qbj c A k) k;have hcut:∀l,qgk 4 (hX c l [])=hX c l []:=fun l=>qqv (zfz c l);generalize hN:2*A=N at *;generalize hq:qbj c A k=q at *;rw[qac hl];simp[qab,exT,qag,L75_0,List.range,List.range.loop,e1,e4,e45,e46,hk',hc,hu1,wk];exact⟨⟨l',rfl,fun t=>by rw[hu2,qnb,hq,hkeys t]⟩,⟨by simp[qaq,hn],rfl,rfl,rfl⟩,by rw[hN];rfl,rfl⟩
 .rintro⟨s,hh⟩ ⟨⟨l,rfl,hkeys⟩,⟨hnn,hl,e1,e4⟩,e45,e46⟩;simp only at hl e1 e4 e45 e46;have hn:∀j,qah s j ≠ .nils:=qap hnn;rw[qac hl];simp[L75_0,z1a,List.range,List.range.loop,e1,e4,e45,e46];exact⟨⟨l,rfl,hkeys⟩,⟨by simp[qaq,hn],rfl,rfl,rfl⟩⟩
def z0r(c:Ct)(A k:Nat)(st:St):Prop:=(∃l,st.h=hX c l []/\qpk c A (2*A+k) l)/\Keep84 st.s/\qah st.s 59=.imm (c.inputs.map qpq)/\qah st.s 60=num c.inputs.length/\qah st.s 61=num k/\goE (qzw c A) 0 c.inputs.length=goE (qzw c A) k (c.inputs.length-k)
def zxi(c:Ct)(A:Nat)(r:R):Prop:=(r.x=.exit 2/\(∃l,r.st.h=hX c l []/\qpk c A (qal c A) l)/\Keep84 r.st.s/\goE (qzw c A) 0 c.inputs.length=0)\/(r.x=.ret/\r.st.s.length=111/\qah r.st.s 2=.undef/\qah r.st.s 3=num (goE (qzw c A) 0 c.inputs.length)/\goE (qzw c A) 0 c.inputs.length≠0/\∃l,r.st.h=hX c l [])
theorem zuh{c:Ct}{A:Nat}(h:Mid c A)(st:St)(h0:z0r c A 0 st):∃r,ev pg (.code (.going 4 L75_1) st)=some r/\zxi c A r:=by
 refine qat (z0r c A) c.inputs.length (zxi c A) h0 ?_ ?_
 .rintro k ⟨s,hh⟩ hk ⟨⟨l,rfl,hkeys⟩,⟨hnn,hl,e1,e4⟩,e59,e60,e61,he⟩;simp only at hl e1 e4 e59 e60 e61;have hn:∀j,qah s j ≠ .nils:=qap hnn;obtain⟨hA,h1,h2,h3,h4⟩:=h;have hk':(k:Int)<c.inputs.length:=by omega
  have wk:=qbc k;obtain⟨l',hc,hl'⟩:=ev124 c l [] (fun l=>zfz c l) c.inputs[k];rw[zap hk]at he;have hF:qes (l.map Prod.fst) c.inputs[k]=qzw c A k:=by rw[qxj hkeys,qzw,q0f c A k hk]
  rw[hF]at hc hl';have hkeys':qzw c A k=0->qpk c A (2*A+(k+1)) l':=fun h0=>by
   rcases hl' with⟨_,h⟩ | ⟨h,_⟩
   .intro q;rw[h q,show 2*A+(k+1)=2*A+k+1 by omega,qnb,hkeys q,q0f c A k hk]
   .exact absurd h0 h
  generalize qzw c A k=f at *;rw[qac hl];by_cases b:f=0
  .rw[if_pos b]at he;simp[L75_1,List.range,List.range.loop,e1,e4,e59,e60,e61,hk,hk',hc,b,wk];exact⟨⟨l',rfl,hkeys' b⟩,⟨by simp[qaq,hn],rfl,rfl,rfl⟩,rfl,rfl,rfl,he⟩
  .rw[if_neg b]at he;simp[L75_1,zxi,List.range,List.range.loop,e1,e4,e59,e60,e61,hk,hk',hc,b,he];exact⟨l',rfl⟩
 .rintro⟨s,hh⟩ ⟨⟨l,rfl,hkeys⟩,⟨hnn,hl,e1,e4⟩,e59,e60,e61,he⟩;simp only[Nat.sub_self,goE]at hl e1 e4 e59 e60 e61 he;have hn:∀j,qah s j ≠ .nils:=qap hnn;rw[qac hl];simp[L75_1,zxi,List.range,List.range.loop,e1,e4,e59,e60,e61,he];exact⟨⟨l,rfl,hkeys⟩,⟨by simp[qaq,hn],rfl,rfl,rfl⟩⟩
def z0s(c:Ct)(A k:Nat)(st:St):Prop:=(∃l,st.h=hX c l []/\qpk c A (qal c A+k) l)/\Keep84 st.s/\qah st.s 74=num c.signals.length/\qah st.s 75=num k/\goE (qvs c A) 0 c.signals.length=goE (qvs c A) k (c.signals.length-k)
def zxj(c:Ct)(A:Nat)(r:R):Prop:=(r.x=.exit 4/\(∃l,r.st.h=hX c l [])/\Keep84 r.st.s/\goE (qvs c A) 0 c.signals.length=0)\/(r.x=.ret/\r.st.s.length=111/\qah r.st.s 2=.undef/\qah r.st.s 3=num (goE (qvs c A) 0 c.signals.length)/\goE (qvs c A) 0 c.signals.length≠0/\∃l,r.st.h=hX c l [])
theorem zui{c:Ct}{A:Nat}(h:Mid c A)(hfew:c.small=true)(st:St)(h0:z0s c A 0 st):∃r,ev pg (.code (.going 4 L75_2) st)=some r/\zxj c A r:=by
 refine qat (z0s c A) c.signals.length (zxj c A) h0 ?_ ?_
 .rintro k ⟨s,hh⟩ hk ⟨⟨l,rfl,hkeys⟩,⟨hnn,hl,e1,e4⟩,e74,e75,he⟩;simp only at hl e1 e4 e74 e75;have hn:∀j,qah s j ≠ .nils:=qap hnn;obtain⟨_,hon,hoff⟩:=(qcd hfew).2.2.2.2.2 _ (jH hk);obtain⟨l',hc,hl'⟩:=ev125 h l k hk hon hoff;obtain⟨hA,h1,h2,h3,h4⟩:=h;have hk':(k:Int)<c.signals.length:=by omega
  have wk:=qbc k;rw[zap hk]at he;have hF:zpa c A (l.map Prod.fst) k c.signals[k]=qvs c A k:=by rw[zel c A hkeys,zvg];unfold qvs;rw[jA hk]
  have hkeys':qvs c A k=0->qpk c A (qal c A+(k+1)) l':=fun h0=>by
   rcases hl' with⟨_,h⟩ | ⟨h,_⟩
   .intro q;rw[h q,show qal c A+(k+1)=qal c A+k+1 by omega,qnb,hkeys q,qtd c A k hk]
   .rw[<-hF]at h0;unfold zpa at h0;rw[if_neg h]at h0;exact absurd h0 h
  rw[hF]at hc;generalize qvs c A k=f at *;rw[qac hl];by_cases b:f=0
  .rw[if_pos b]at he;simp[L75_2,List.range,List.range.loop,e1,e4,e74,e75,hk',hc,b,wk];exact⟨⟨l',rfl,hkeys' b⟩,⟨by simp[qaq,hn],rfl,rfl,rfl⟩,rfl,rfl,he⟩
  .rw[if_neg b]at he;simp[L75_2,zxj,List.range,List.range.loop,e1,e4,e74,e75,hk',hc,b,he];exact⟨l',rfl⟩
 .rintro⟨s,hh⟩ ⟨⟨l,rfl,hkeys⟩,⟨hnn,hl,e1,e4⟩,e74,e75,he⟩;simp only[Nat.sub_self,goE]at hl e1 e4 e74 e75 he;have hn:∀j,qah s j ≠ .nils:=qap hnn;rw[qac hl];simp[L75_2,zxj,List.range,List.range.loop,e1,e4,e74,e75,he];exact⟨⟨l,rfl⟩,⟨by simp[qaq,hn],rfl,rfl,rfl⟩⟩
theorem ev75(c:Ct)(hfew:c.small=true):∃v z,ev pg (.call (fnq 75) [c.v] [⟨0,.box c.cells⟩])=some { v:=.tup [v,num c.check],st:=⟨[],z⟩ }:=by
 obtain⟨f1,f2,f3,f4,_⟩:=qcd hfew;rw[qaa,pg75.1];unfold Ct.check;by_cases a1:c.act<1
 .rw[if_pos (.inl a1)];simp[ir75,a1]
 by_cases a2:6<c.act
 .rw[if_pos (.inr a2)];simp[ir75,a1,a2]
 rw[if_neg (by omega)];by_cases a3:16<c.inputs.length
 .have a3':(16:Int)<(c.inputs.length:Int):=by omega
  rw[if_pos (.inl a3)];simp[ir75,a1,a2,a3']
 have a3':¬((16:Int)<(c.inputs.length:Int)):=by omega
 by_cases a4:64<c.signals.length
 .have a4':(64:Int)<(c.signals.length:Int):=by omega
  rw[if_pos (.inr a4)];simp[ir75,a1,a2,a3',a4']
 have a4':¬((64:Int)<(c.signals.length:Int)):=by omega
 rw[if_neg (by omega)];have hM:Mid c c.act.toNat:=⟨by omega,by omega,by omega,f1,f2⟩
 have hla:=zug hM;have hlb:=zuh hM;have hlc:=zui hM hfew;have hactA:c.act=(c.act.toNat:Int):=by omega
 have hA1:=hM.lo;have hA6:=hM.hi;have h132:=fun(l:List (Txt×Int)) (z:H) (hcl:calm (hX c l z)) (n:Int)=>ev127 hM (h:=hX c l z) (i:=1) rfl hcl n;have zhz:c.plus.length=c.act.toNat->_:=fun hp=>ev126 c.plus c.minus f3 f4 (by omega);generalize c.act.toNat=A at *;have w1:=qam (n:=2*c.act) (by omega) (by omega);unfold ctE;have hIb:∀st:St,z0r c A 0 st<->((∃l,st.h=hX c l []/\qpk c A (2*A) l)/\Keep84 st.s/\qah st.s 59=.imm (c.inputs.map qpq)/\qah st.s 60=num c.inputs.length/\qah st.s 61=num 0):=fun st=>by unfold z0r;exact⟨fun h=>⟨h.1,h.2.1,h.2.2.1,h.2.2.2.1,h.2.2.2.2.1⟩,fun h=>⟨h.1,h.2.1,h.2.2.1,h.2.2.2.1,h.2.2.2.2,rfl⟩⟩
 have hIc:∀st:St,z0s c A 0 st<->((∃l,st.h=hX c l []/\qpk c A (qal c A) l)/\Keep84 st.s/\qah st.s 74=num c.signals.length/\qah st.s 75=num 0):=fun st=>by unfold z0s;exact⟨fun h=>⟨h.1,h.2.1,h.2.2.1,h.2.2.2.1⟩,fun h=>⟨h.1,h.2.1,h.2.2.1,h.2.2.2,rfl⟩⟩
 unfold zxi at hlb;unfold zxj at hlc;generalize goE (qzw c A) 0 c.inputs.length=ei at *;generalize goE (qvs c A) 0 c.signals.length=es at *;simp[ir75,a1,a2,a3',a4',w1,qai];generalize hr:ev pg (.code (.going 4 L75_0) _)=o;obtain⟨r,rfl,hx,⟨l,hh,hkeys⟩,⟨hnn,hl,g1,g4⟩⟩:∃r,o=some r/\z1a c A r:=by rw[<-hr];refine hla _ ⟨⟨[],rfl,by simp[qpk,qaw]⟩,⟨by simp[qaq],by simp,by simp,by simp⟩,by simp[hactA],by simp⟩
 simp (maxDischargeDepth:=9) [hx,hh,hl,g1,qeg,qei,hnn];generalize hr2:ev pg (.code (.going 4 L75_1) _)=o;obtain⟨r2,rfl,hQ2⟩:∃r,o=some r/\_:=by rw[<-hr2];exact hlb _ ((hIb _).2 ⟨⟨l,rfl,hkeys⟩,⟨by simp (maxDischargeDepth:=9) [qei,hnn],by simp[hl],by simp[g1],by simp[g4]⟩,by simp[hl],by simp[hl],by simp[hl]⟩)
 rcases hQ2 with⟨hx2,⟨l2,hh2,hkeys2⟩,⟨hnn2,hl2,g21,g24⟩,rfl⟩ | ⟨hx2,hl2,g22,g23,hE,l2,hh2⟩
 .simp (maxDischargeDepth:=9) [hx2,hh2,hl2,g21,qeg,qei,hnn2];generalize hr3:ev pg (.code (.going 4 L75_2) _)=o;obtain⟨r3,rfl,hQ3⟩:∃r,o=some r/\_:=by
   rw[<-hr3];exact hlc _ ((hIc _).2 ⟨⟨l2,rfl,hkeys2⟩,⟨by simp (maxDischargeDepth:=9) [qei,hnn2],by simp[hl2],by simp[g21],by simp[g24]⟩,by simp[hl2],by simp[hl2]⟩)
  rcases hQ3 with⟨hx3,⟨l3,hh3⟩,⟨hnn3,hl3,g31,g34⟩,rfl⟩ | ⟨hx3,hl3,g32,g33,hE3,l3,hh3⟩
  .rw[if_pos (rfl:(0:Int)=0)];unfold zjt;by_cases n1:c.plus.length=A
   .have n1b:((c.plus.length:Int) != c.act)=false:=by simp;omega
    by_cases n2:c.minus.length=A
    .have n2b:((c.minus.length:Int) != c.act)=false:=by simp;omega
     rw[if_neg (by omega)];have zhz:=zhz n1;have h130:=ev29 (f:=127) (caps:=[.bptr 1 0]) (h:=hX c l3 [⟨0,.frz 1 ((c.plus++c.minus).map qbk)⟩]) (l:=c.plus++c.minus) (p:=qfz (qad c A)) (by simp;omega) rfl rfl (fun n=>h132 l3 [⟨0,.frz 1 ((c.plus++c.minus).map qbk)⟩] (by simp[calm,qbx]) n) (by simp[calm,qbx]);rw[List.any_append]at h130;generalize c.plus.any (qfz (qad c A))=P at *;generalize c.minus.any (qfz (qad c A))=M at *;simp only[qcr,List.map_append]at h130;cases P with
     | true=>simp[hx3,hh3,hl3,g31,n1b,n2b,zhz,h130]
     | false=>cases M with
      | true=>simp[hx3,hh3,hl3,g31,n1b,n2b,zhz,h130]
      | false=>simp[hx3,hh3,hl3,g31,g34,n1b,n2b,zhz,h130]
    .have n2b:((c.minus.length:Int) != c.act)=true:=by simp;omega
     rw[if_pos (.inr n2)];simp[hx3,hh3,hl3,g31,n1b,n2b]
   .have n1b:((c.plus.length:Int) != c.act)=true:=by simp;omega
    rw[if_pos (.inl n1)];simp[hx3,hh3,hl3,g31,n1b]
  .simp[hx3,hh3,g32,g33,hE3]
 .simp[hx2,hh2,g22,g23,hE]
theorem ev44(c:Ct)(hfew:c.small=true):ev pg (.call (fnq 44) [c.v] [])=some (rvq (num c.check)):=by obtain⟨v,z,h84⟩:=ev75 c hfew;generalize c.check=e at *;rw[qaa,pg44.1];simp[ir44,h84]
end Go.Proofs.YtggbaapfbgjaeaaGreatDoor
