/- Pilots, by. -/
import Derived.Test.YtggbaapfbgjaeaaGreatDoorCq1
set_option linter.all false
namespace Go.Proofs.YtggbaapfbgjaeaaGreatDoor
open Go Go.Am Go.Proofs
set_option maxRecDepth 100000
theorem qwv{K L:List Txt}(h:∀q,q∈K<->q∈L)(s:Txt):qeo K s=qeo L s:=by unfold qeo;simp only[h s]
theorem zdy(c:Ct)(A:Nat){K L:List Txt}(h:∀q,q∈K<->q∈L)(i:Nat)(x:Sg):zoa c A K i x=zoa c A L i x:=by unfold zoa;rw[qwv h]
theorem qmw(c:Ct)(A n:Nat)(q:Txt):q∈qay c A (n+1)<->(q∈qay c A n\/q=qbk c A n):=by unfold qay;rw[List.range_succ,List.map_append,jQ];simp
theorem qzt(c:Ct)(A j:Nat)(hj:j<c.inputs.length):qbk c A (2*A+j)=c.inputs[j]:=by unfold qbk;rw[if_neg (by omega),if_pos (by omega),show 2*A+j-2*A=j by omega,jA hj];rfl
def qpc(c:Ct)(A n:Nat)(l:List (Txt×Int)):Prop:=∀q,q∈l.map Prod.fst<->q∈qay c A n
theorem zfj(c:Ct)(l:List (Txt×Int)):qcp (hX c l []):=by simp[qcp,qbw]
structure Keep84(st:List V):Prop where
 nn:qas st
 len:st.length=111
 t1:qaj st 1=.bptr 1 0
 t4:qaj st 4=.bptr 3 0
def z3o(c:Ct)(A k:Nat)(st:St):Prop:=(∃l,st.h=hX c l []/\qpc c A k l)/\Keep84 st.s/\qaj st.s 45=num (2*A:Nat)/\qaj st.s 46=num k
def zzq(c:Ct)(A:Nat)(r:R):Prop:=r.x=.exit 0/\(∃l,r.st.h=hX c l []/\qpc c A (2*A) l)/\Keep84 r.st.s
theorem zta{c:Ct}{A:Nat}(h:Mid c A)(st:St)(h0:z3o c A 0 st):∃r,ev pg (.code (.going 4 L75_0) st)=some r/\zzq c A r:=by
 refine qaw (z3o c A) (2*A) (zzq c A) h0 ?_ ?_
 .rintro k ⟨s,hh⟩ hk ⟨⟨l,rfl,hkeys⟩,⟨hnn,hl,e1,e4⟩,e45,e46⟩;simp only at hl e1 e4 e45 e46;have hn:∀j,qaj s j ≠ .nils:=qar hnn;have hk':(k:Int)<((2*A:Nat):Int):=by omega
  have h6:=h.hi;have wk:=qbi k;have hc:=ev123 h k (by unfold qac;omega);obtain⟨l',hu1,hu2⟩:=q8q l (qbk c A k) k;have hcut:∀l,qgt 4 (hX c l [])=hX c l []:=fun l=>qvn (zfj c l);generalize hN:2*A=N at *;generalize hq:qbk c A k=q at *;rw[qad hl];simp[qaa,exT,qag,L75_0,List.range,List.range.loop,e1,e4,e45,e46,hk',hc,hu1,wk];exact⟨⟨l',rfl,fun t=>by rw[hu2,qmw,hq,hkeys t]⟩,⟨by simp[qas,hn],rfl,rfl,rfl⟩,by rw[hN];rfl,rfl⟩
 .rintro⟨s,hh⟩ ⟨⟨l,rfl,hkeys⟩,⟨hnn,hl,e1,e4⟩,e45,e46⟩;simp only at hl e1 e4 e45 e46;have hn:∀j,qaj s j ≠ .nils:=qar hnn;rw[qad hl];simp[L75_0,zzq,List.range,List.range.loop,e1,e4,e45,e46];exact⟨⟨l,rfl,hkeys⟩,⟨by simp[qas,hn],rfl,rfl,rfl⟩⟩
def zzh(c:Ct)(A k:Nat)(st:St):Prop:=(∃l,st.h=hX c l []/\qpc c A (2*A+k) l)/\Keep84 st.s/\qaj st.s 59=.imm (c.inputs.map qpk)/\qaj st.s 60=num c.inputs.length/\qaj st.s 61=num k/\goE (qzk c A) 0 c.inputs.length=goE (qzk c A) k (c.inputs.length-k)
def zvz(c:Ct)(A:Nat)(r:R):Prop:=(r.x=.exit 2/\(∃l,r.st.h=hX c l []/\qpc c A (qal c A) l)/\Keep84 r.st.s/\goE (qzk c A) 0 c.inputs.length=0)\/(r.x=.ret/\r.st.s.length=111/\qaj r.st.s 2=.undef/\qaj r.st.s 3=num (goE (qzk c A) 0 c.inputs.length)/\goE (qzk c A) 0 c.inputs.length≠0/\∃l,r.st.h=hX c l [])
theorem ztb{c:Ct}{A:Nat}(h:Mid c A)(st:St)(h0:zzh c A 0 st):∃r,ev pg (.code (.going 4 L75_1) st)=some r/\zvz c A r:=by
 refine qaw (zzh c A) c.inputs.length (zvz c A) h0 ?_ ?_
 .rintro k ⟨s,hh⟩ hk ⟨⟨l,rfl,hkeys⟩,⟨hnn,hl,e1,e4⟩,e59,e60,e61,he⟩;simp only at hl e1 e4 e59 e60 e61;have hn:∀j,qaj s j ≠ .nils:=qar hnn;obtain⟨hA,h1,h2,h3,h4⟩:=h;have hk':(k:Int)<c.inputs.length:=by omega
  have wk:=qbi k;obtain⟨l',hc,hl'⟩:=ev124 c l [] (fun l=>zfj c l) c.inputs[k];rw[zab hk]at he;have hF:qeo (l.map Prod.fst) c.inputs[k]=qzk c A k:=by rw[qwv hkeys,qzk,qzt c A k hk]
  rw[hF]at hc hl';have hkeys':qzk c A k=0->qpc c A (2*A+(k+1)) l':=fun h0=>by
   rcases hl' with⟨_,h⟩ | ⟨h,_⟩
   .intro q;rw[h q,show 2*A+(k+1)=2*A+k+1 by omega,qmw,hkeys q,qzt c A k hk]
   .exact absurd h0 h
  generalize qzk c A k=f at *;rw[qad hl];by_cases b:f=0
  .rw[if_pos b]at he;simp[L75_1,List.range,List.range.loop,e1,e4,e59,e60,e61,hk,hk',hc,b,wk];exact⟨⟨l',rfl,hkeys' b⟩,⟨by simp[qas,hn],rfl,rfl,rfl⟩,rfl,rfl,rfl,he⟩
  .rw[if_neg b]at he;simp[L75_1,zvz,List.range,List.range.loop,e1,e4,e59,e60,e61,hk,hk',hc,b,he];exact⟨l',rfl⟩
 .rintro⟨s,hh⟩ ⟨⟨l,rfl,hkeys⟩,⟨hnn,hl,e1,e4⟩,e59,e60,e61,he⟩;simp only[Nat.sub_self,goE]at hl e1 e4 e59 e60 e61 he;have hn:∀j,qaj s j ≠ .nils:=qar hnn;rw[qad hl];simp[L75_1,zvz,List.range,List.range.loop,e1,e4,e59,e60,e61,he];exact⟨⟨l,rfl,hkeys⟩,⟨by simp[qas,hn],rfl,rfl,rfl⟩⟩
def zzi(c:Ct)(A k:Nat)(st:St):Prop:=(∃l,st.h=hX c l []/\qpc c A (qal c A+k) l)/\Keep84 st.s/\qaj st.s 74=num c.signals.length/\qaj st.s 75=num k/\goE (qvd c A) 0 c.signals.length=goE (qvd c A) k (c.signals.length-k)
def zwa(c:Ct)(A:Nat)(r:R):Prop:=(r.x=.exit 4/\(∃l,r.st.h=hX c l [])/\Keep84 r.st.s/\goE (qvd c A) 0 c.signals.length=0)\/(r.x=.ret/\r.st.s.length=111/\qaj r.st.s 2=.undef/\qaj r.st.s 3=num (goE (qvd c A) 0 c.signals.length)/\goE (qvd c A) 0 c.signals.length≠0/\∃l,r.st.h=hX c l [])
theorem ztc{c:Ct}{A:Nat}(h:Mid c A)(hfew:c.small=true)(st:St)(h0:zzi c A 0 st):∃r,ev pg (.code (.going 4 L75_2) st)=some r/\zwa c A r:=by
 refine qaw (zzi c A) c.signals.length (zwa c A) h0 ?_ ?_
 .rintro k ⟨s,hh⟩ hk ⟨⟨l,rfl,hkeys⟩,⟨hnn,hl,e1,e4⟩,e74,e75,he⟩;simp only at hl e1 e4 e74 e75;have hn:∀j,qaj s j ≠ .nils:=qar hnn;obtain⟨_,hon,hoff⟩:=(qdm hfew).2.2.2.2.2 _ (jH hk);obtain⟨l',hc,hl'⟩:=ev125 h l k hk hon hoff;obtain⟨hA,h1,h2,h3,h4⟩:=h;have hk':(k:Int)<c.signals.length:=by omega
  have wk:=qbi k;rw[zab hk]at he;have hF:zoa c A (l.map Prod.fst) k c.signals[k]=qvd c A k:=by rw[zdy c A hkeys,zub];unfold qvd;rw[jA hk]
  have hkeys':qvd c A k=0->qpc c A (qal c A+(k+1)) l':=fun h0=>by
   rcases hl' with⟨_,h⟩ | ⟨h,_⟩
   .intro q;rw[h q,show qal c A+(k+1)=qal c A+k+1 by omega,qmw,hkeys q,qst c A k hk]
   .rw[<-hF]at h0;unfold zoa at h0;rw[if_neg h]at h0;exact absurd h0 h
  rw[hF]at hc;generalize qvd c A k=f at *;rw[qad hl];by_cases b:f=0
  .rw[if_pos b]at he;simp[L75_2,List.range,List.range.loop,e1,e4,e74,e75,hk',hc,b,wk];exact⟨⟨l',rfl,hkeys' b⟩,⟨by simp[qas,hn],rfl,rfl,rfl⟩,rfl,rfl,he⟩
  .rw[if_neg b]at he;simp[L75_2,zwa,List.range,List.range.loop,e1,e4,e74,e75,hk',hc,b,he];exact⟨l',rfl⟩
 .rintro⟨s,hh⟩ ⟨⟨l,rfl,hkeys⟩,⟨hnn,hl,e1,e4⟩,e74,e75,he⟩;simp only[Nat.sub_self,goE]at hl e1 e4 e74 e75 he;have hn:∀j,qaj s j ≠ .nils:=qar hnn;rw[qad hl];simp[L75_2,zwa,List.range,List.range.loop,e1,e4,e74,e75,he];exact⟨⟨l,rfl⟩,⟨by simp[qas,hn],rfl,rfl,rfl⟩⟩
theorem ev75(c:Ct)(hfew:c.small=true):∃v z,ev pg (.call (fnq 75) [c.v] [⟨0,.box c.cells⟩])=some { v:=.tup [v,num c.check],st:=⟨[],z⟩ }:=by
 obtain⟨f1,f2,f3,f4,_⟩:=qdm hfew;rw[qab,pg75.1];unfold Ct.check;by_cases a1:c.act<1
 .rw[if_pos (.inl a1)];simp[ir75,a1]
 by_cases a2:6<c.act
 .rw[if_pos (.inr a2)];simp[ir75,a1,a2]
 rw[if_neg (by omega)];by_cases a3:16<c.inputs.length
 .have a3':(16:Int)<(c.inputs.length:Int):=by omega
  rw[if_pos (.inl a3)];simp[ir75,a1,a2,a3']
 have a3':¬((16:Int)<(c.inputs.length:Int)):=by omega
 by_cases a4:64<c.signals.length
 .have a4':(64:Int)<(c.signals.length:Int):=by omega
  rw[if_pos (.inr a4)];simp[ir75,a1,a2,a3',a4']
 have a4':¬((64:Int)<(c.signals.length:Int)):=by omega
 rw[if_neg (by omega)];have hM:Mid c c.act.toNat:=⟨by omega,by omega,by omega,f1,f2⟩
 have hla:=zta hM;have hlb:=ztb hM;have hlc:=ztc hM hfew;have hactA:c.act=(c.act.toNat:Int):=by omega
 have hA1:=hM.lo;have hA6:=hM.hi;have h132:=fun(l:List (Txt×Int)) (z:H) (hcl:qcp (hX c l z)) (n:Int)=>ev127 hM (h:=hX c l z) (i:=1) rfl hcl n;have zhh:c.plus.length=c.act.toNat->_:=fun hp=>ev126 c.plus c.minus f3 f4 (by omega);generalize c.act.toNat=A at *;have w1:=qam (n:=2*c.act) (by omega) (by omega);unfold ctE;have hIb:∀st:St,zzh c A 0 st<->((∃l,st.h=hX c l []/\qpc c A (2*A) l)/\Keep84 st.s/\qaj st.s 59=.imm (c.inputs.map qpk)/\qaj st.s 60=num c.inputs.length/\qaj st.s 61=num 0):=fun st=>by unfold zzh;exact⟨fun h=>⟨h.1,h.2.1,h.2.2.1,h.2.2.2.1,h.2.2.2.2.1⟩,fun h=>⟨h.1,h.2.1,h.2.2.1,h.2.2.2.1,h.2.2.2.2,rfl⟩⟩
 have hIc:∀st:St,zzi c A 0 st<->((∃l,st.h=hX c l []/\qpc c A (qal c A) l)/\Keep84 st.s/\qaj st.s 74=num c.signals.length/\qaj st.s 75=num 0):=fun st=>by unfold zzi;exact⟨fun h=>⟨h.1,h.2.1,h.2.2.1,h.2.2.2.1⟩,fun h=>⟨h.1,h.2.1,h.2.2.1,h.2.2.2,rfl⟩⟩
 unfold zvz at hlb;unfold zwa at hlc;generalize goE (qzk c A) 0 c.inputs.length=ei at *;generalize goE (qvd c A) 0 c.signals.length=es at *;simp[ir75,a1,a2,a3',a4',w1,qah];generalize hr:ev pg (.code (.going 4 L75_0) _)=o;obtain⟨r,rfl,hx,⟨l,hh,hkeys⟩,⟨hnn,hl,g1,g4⟩⟩:∃r,o=some r/\zzq c A r:=by rw[<-hr];refine hla _ ⟨⟨[],rfl,by simp[qpc,qay]⟩,⟨by simp[qas],by simp,by simp,by simp⟩,by simp[hactA],by simp⟩
 simp (maxDischargeDepth:=9) [hx,hh,hl,g1,qee,qeg,hnn];generalize hr2:ev pg (.code (.going 4 L75_1) _)=o;obtain⟨r2,rfl,hQ2⟩:∃r,o=some r/\_:=by rw[<-hr2];exact hlb _ ((hIb _).2 ⟨⟨l,rfl,hkeys⟩,⟨by simp (maxDischargeDepth:=9) [qeg,hnn],by simp[hl],by simp[g1],by simp[g4]⟩,by simp[hl],by simp[hl],by simp[hl]⟩)
 rcases hQ2 with⟨hx2,⟨l2,hh2,hkeys2⟩,⟨hnn2,hl2,g21,g24⟩,rfl⟩ | ⟨hx2,hl2,g22,g23,hE,l2,hh2⟩
 .simp (maxDischargeDepth:=9) [hx2,hh2,hl2,g21,qee,qeg,hnn2];generalize hr3:ev pg (.code (.going 4 L75_2) _)=o;obtain⟨r3,rfl,hQ3⟩:∃r,o=some r/\_:=by
   rw[<-hr3];exact hlc _ ((hIc _).2 ⟨⟨l2,rfl,hkeys2⟩,⟨by simp (maxDischargeDepth:=9) [qeg,hnn2],by simp[hl2],by simp[g21],by simp[g24]⟩,by simp[hl2],by simp[hl2]⟩)
  rcases hQ3 with⟨hx3,⟨l3,hh3⟩,⟨hnn3,hl3,g31,g34⟩,rfl⟩ | ⟨hx3,hl3,g32,g33,hE3,l3,hh3⟩
  .rw[if_pos (rfl:(0:Int)=0)];unfold ziz;by_cases n1:c.plus.length=A
   .have n1b:((c.plus.length:Int) != c.act)=false:=by simp;omega
    by_cases n2:c.minus.length=A
    .have n2b:((c.minus.length:Int) != c.act)=false:=by simp;omega
     rw[if_neg (by omega)];have zhh:=zhh n1;have h130:=ev29 (f:=127) (caps:=[.bptr 1 0]) (h:=hX c l3 [⟨0,.frz 1 ((c.plus++c.minus).map qbh)⟩]) (l:=c.plus++c.minus) (p:=qfv (qac c A)) (by simp;omega) rfl rfl (fun n=>h132 l3 [⟨0,.frz 1 ((c.plus++c.minus).map qbh)⟩] (by simp[qcp,qbw]) n) (by simp[qcp,qbw]);rw[List.any_append]at h130;generalize c.plus.any (qfv (qac c A))=P at *;generalize c.minus.any (qfv (qac c A))=M at *;simp only[qct,List.map_append]at h130;cases P with
     | true=>simp[hx3,hh3,hl3,g31,n1b,n2b,zhh,h130]
     | false=>cases M with
      | true=>simp[hx3,hh3,hl3,g31,n1b,n2b,zhh,h130]
      | false=>simp[hx3,hh3,hl3,g31,g34,n1b,n2b,zhh,h130]
    .have n2b:((c.minus.length:Int) != c.act)=true:=by simp;omega
     rw[if_pos (.inr n2)];simp[hx3,hh3,hl3,g31,n1b,n2b]
   .have n1b:((c.plus.length:Int) != c.act)=true:=by simp;omega
    rw[if_pos (.inl n1)];simp[hx3,hh3,hl3,g31,n1b]
  .simp[hx3,hh3,g32,g33,hE3]
 .simp[hx2,hh2,g22,g23,hE]
theorem ev44(c:Ct)(hfew:c.small=true):ev pg (.call (fnq 44) [c.v] [])=some (rvq (num c.check)):=by obtain⟨v,z,h84⟩:=ev75 c hfew;generalize c.check=e at *;rw[qab,pg44.1];simp[ir44,h84]
theorem ev204(a b:Int)(h:H):ev pg (.call (fnq 204) [num a,num b] h)=some { v:=.fn 205 [] [.bptr h.length 0,.bptr (h.length+1) 0],st:=⟨[],h++[⟨0,.box [num a]⟩,⟨0,.box [num b]⟩]⟩ }:=by rw[qab,pg204.1];simp[ir204]
abbrev kTa(t:H):H:=⟨0,.box [num 0]⟩ :: ⟨0,.box [num (-1)]⟩ :: ⟨0,.box [num (-1)]⟩ :: ⟨0,.box [num 0]⟩ :: ⟨0,.box [num 1]⟩ :: ⟨0,.box [num 0]⟩ :: ⟨0,.box [num 0]⟩ :: ⟨0,.box [num 1]⟩ :: t
abbrev t0t:Txt:=[32,115,116,117,99,107,32,105,110]
abbrev t1t:Txt:=[32,115,116,117,99,107,32,111,117,116]
abbrev t2t:Txt:=[32,116,114,117,101]
abbrev t3t:Txt:=[32,102,97,108,115,101]
abbrev t4t:Txt:=[32,118,97,108,118,101,32,116,114,117,101]
abbrev t5t:Txt:=[32,118,97,108,118,101,32,102,97,108,115,101]
abbrev kC(n:Nat):List V:=[.str t0t,.bool false,num 0,.fn 205 [] [.bptr (n+1) 0,.bptr (n+2) 0],.str t1t,.bool false,num 0,.fn 205 [] [.bptr (n+3) 0,.bptr (n+4) 0],.str t2t,.bool true,num 1,.nilfn,.str t3t,.bool true,num 0,.nilfn,.str t4t,.bool false,num 0,.fn 205 [] [.bptr (n+5) 0,.bptr (n+6) 0],.str t5t,.bool false,num 0,.fn 205 [] [.bptr (n+7) 0,.bptr (n+8) 0]]
theorem ev169(h:H):ev pg (.call (fnq 169) [] h)=some { v:=.agg (kC h.length),st:=⟨[],h++(⟨0,.box (kC h.length)⟩ :: kTa [])⟩ }:=by have h112:=ev204;rw[qab,pg169.1];simp[ir169,h112]
theorem ev203{c:Ct}{A:Nat}(hM:Mid c A){h:H}(hcl:qcp h)(t:Txt)(b:Bool)(n:Int)(w:V)(hw:∀h,qca h [w]=([w],h)):ev pg (.call (fnq 203) [c.v,.agg [.str t,.bool b,num n,w]] h)=some { v:=num (if b=true then(qac c A:Int)else c.act),st:=⟨[],h⟩ }:=by
 have h73:=ev171 hM;have hck:=qey hcl [⟨0,.box c.cells⟩,⟨0,.box [.str t,.bool b,num n,w]⟩];generalize hn:h.length=N at *;rw[qab,pg203.1];cases b with
 | true =>simp[-qdw,ir203,hn,hw,h73,hck]
 | false =>simp[-qdw,ir203,hn,hw,hck]
abbrev fv(k i:Int):V:=.agg [num k,num i]
def quc(c:Ct)(A:Nat)(k i:Int):Int:=if k<0\/6<=k then 1 else if i<0\/(if k=2\/k=3 then(qac c A:Int)else c.act)<=i then 2 else 0
theorem ev168{c:Ct}{A:Nat}(hM:Mid c A)(k i:Int):ev pg (.call (fnq 168) [c.v,fv k i] [])=some (rvq (num (quc c A k i))):=by
 have h67:=ev169 [⟨0,.box c.cells⟩,⟨0,.box [num k,num i]⟩];rw[qab,pg168.1];unfold quc;by_cases h1:k<0
 .simp[ir168,h67,h1]
 by_cases h2:6<=k
 .simp[ir168,h67,h1,h2]
 rw[if_neg (by omega)];by_cases h3:i<0
 .simp[qaa,exT,qag,ir168,h67,h1,h2,h3]
 have hcl:∀k i:Int,qcp (⟨0,.box c.cells⟩ :: ⟨0,.box [num k,num i]⟩ :: ⟨0,.box (kC 2)⟩ :: kTa [⟨0,.box (kC 2)⟩]):=fun k i=>by simp[qcp,qbw]
 have hb:∀(w:V),w=.nilfn\/(∃caps,w=.fn 205 [] caps)->∀h,qca h [w]=([w],h):=fun w hw h=>by rcases hw with rfl | ⟨caps,rfl⟩<;>rfl
 have h68:=fun(k:Int) t b n w hw=>ev203 hM (hcl k i) t b n w (hb w hw);have h68n:=fun t b n=>ev203 hM (h:=[]) rfl t b n .nilfn (hb .nilfn (.inl rfl));generalize qac c A=N at *;rcases (by omega:k=0\/k=1\/k=2\/k=3\/k=4\/k=5)with rfl | rfl | rfl | rfl | rfl | rfl
 .have h68:=h68 0 t0t false 0 (.fn 205 [] [.bptr 3 0,.bptr 4 0]) (.inr ⟨_,rfl⟩);by_cases hi:c.act<=i
  .simp[qaa,exT,qag,ir168,h67,h3,h68,hi]
  .simp[qaa,exT,qag,ir168,h67,h3,h68,hi]
 .have h68:=h68 1 t1t false 0 (.fn 205 [] [.bptr 5 0,.bptr 6 0]) (.inr ⟨_,rfl⟩);by_cases hi:c.act<=i
  .simp[qaa,exT,qag,ir168,h67,h3,h68,hi]
  .simp[qaa,exT,qag,ir168,h67,h3,h68,hi]
 .have h68:=h68n t2t true 1;by_cases hi:(N:Int)<=i
  .simp[qaa,exT,qag,ir168,h67,h3,h68,hi]
  .simp[qaa,exT,qag,ir168,h67,h3,h68,hi]
 .have h68:=h68n t3t true 0;by_cases hi:(N:Int)<=i
  .simp[qaa,exT,qag,ir168,h67,h3,h68,hi]
  .simp[qaa,exT,qag,ir168,h67,h3,h68,hi]
 .have h68:=h68 4 t4t false 0 (.fn 205 [] [.bptr 7 0,.bptr 8 0]) (.inr ⟨_,rfl⟩);by_cases hi:c.act<=i
  .simp[qaa,exT,qag,ir168,h67,h3,h68,hi]
  .simp[qaa,exT,qag,ir168,h67,h3,h68,hi]
 .have h68:=h68 5 t5t false 0 (.fn 205 [] [.bptr 9 0,.bptr 10 0]) (.inr ⟨_,rfl⟩);by_cases hi:c.act<=i
  .simp[qaa,exT,qag,ir168,h67,h3,h68,hi]
  .simp[qaa,exT,qag,ir168,h67,h3,h68,hi]
theorem ev114(k:Int):ev pg (.call (fnq 114) [num k] [])=some (rvq (.bool (decide (k=2\/k=3)))):=by
 rw[qab,pg114.1];by_cases h2:k=2
 .simp[ir114,h2]
 .have h2b:(k==2)=false:=by simpa using h2
  by_cases h3:k=3
  .simp[ir114,h3]
  .have h3b:(k==3)=false:=by simpa using h3
   simp[ir114,h2,h2b,h3,h3b]
theorem ev156{c:Ct}{A:Nat}(hM:Mid c A)(k:Int):ev pg (.call (fnq 156) [c.v,num k] [])=some (rvq (num (if k=2\/k=3 then(qac c A:Int)else c.act))):=by
 have h37:=ev116 hM;have h74:=ev114 k;generalize qac c A=N at *;rw[qab,pg156.1];by_cases h:k=2\/k=3
 .simp only[decide_eq_true h]at h74;rw[if_pos h];simp[ir156,h74,h37]
 .simp only[decide_eq_false h]at h74;rw[if_neg h];simp[ir156,h74]
theorem ev113{c:Ct}{A:Nat}(hM:Mid c A)(k i:Int):ev pg (.call (fnq 113) [c.v,fv k i] [])=some (rvq (num (quc c A k i))):=by
 have h117:=ev156 hM k;unfold quc;generalize (if k=2\/k=3 then(qac c A:Int)else c.act)=m at *;rw[qab,pg113.1];by_cases h1:k<0
 .simp[ir113,h1]
 by_cases h2:6<=k
 .simp[ir113,h1,h2]
 rw[if_neg (by omega)];by_cases h3:i<0
 .simp[qaa,exT,qag,ir113,h1,h2,h3]
 by_cases h4:m<=i
 .simp[qaa,exT,qag,ir113,h117,h1,h2,h3,h4]
 .simp[qaa,exT,qag,ir113,h117,h1,h2,h3,h4]
def q1t(c:Ct)(k i:Int):Int:=if c.check=0 then quc c c.act.toNat k i else c.check
theorem qft{c:Ct}(h:c.check=0)(hfew:c.small=true):Mid c c.act.toNat:=by
 obtain⟨f1,f2,_⟩:=qdm hfew;unfold Ct.check at h;split at h
 .cases h
 .exact⟨by omega,by omega,by omega,f1,f2⟩
theorem ev129(c:Ct)(hfew:c.small=true)(k i:Int):ev pg (.call (fnq 129) [c.v,fv k i] [])=some (rvq (num (q1t c k i))):=by
 have h29:=ev44 c hfew;have hM:=fun h:c.check=0=>qft h hfew;unfold q1t;generalize c.check=e at *;rw[qab,pg129.1];by_cases he:e=0
 .have h79:=ev168 (hM he) k i;generalize quc c c.act.toNat k i=e2 at *;simp[ir129,h29,h79,he]
 .simp[ir129,h29,he]
theorem ev73(c:Ct)(hfew:c.small=true)(k i:Int):ev pg (.call (fnq 73) [c.v,fv k i] [])=some (rvq (num (q1t c k i))):=by
 have h69:=ev61 c hfew;have hM:=fun h:c.check=0=>qft h hfew;unfold q1t;generalize c.check=e at *;rw[qab,pg73.1];by_cases he:e=0
 .have h80:=ev113 (hM he) k i;generalize quc c c.act.toNat k i=e2 at *;simp[ir73,h69,h80,he]
 .simp[ir73,h69,he]
abbrev zww(p:Int×Int):List V:=[num p.1,num p.2]
abbrev h70(c:Ct)(g m:Nat)(l:List (Int×Int)):H:=[⟨0,.box c.cells⟩,⟨0,.arr 0 []⟩,⟨g,.arr m (l.map zww)⟩]
abbrev qjo(l:List (Int×Int)):V:=.imm (l.map zww)
abbrev hK(c:Ct)(g m:Nat)(l:List (Int×Int))(t:H):H:=⟨0,.box c.cells⟩ :: ⟨0,.box (kC 1)⟩ :: kTa (⟨0,.arr 0 []⟩ :: ⟨g,.arr m (l.map zww)⟩ :: t)
def qcr(k:Int):Int:=if k=2 then 1 else 0
def pil(c:Ct)(k i:Int)(j:Nat):Int×Int :=
 if k=2\/k=3 then(if c.plus.getD j 0=i then qcr k else -1,if c.minus.getD j 0=i then qcr k else -1)
 else if(j:Int)=i then(if k=0 then(0,-1)else if k=1 then(-1,0)else if k=4 then(1,0)else(0,1))else(-1,-1)
def qgq(c:Ct)(k i:Int)(n:Nat):List (Int×Int):=(List.range n).map (pil c k i)
theorem qxe(c:Ct)(k i:Int)(n:Nat):qgq c k i (n+1)=qgq c k i n++[pil c k i n]:=by unfold qgq;rw[List.range_succ,List.map_append];rfl
theorem qon(c:Ct)(k i:Int)(n:Nat):(qgq c k i n).length=n:=by simp[qgq]
structure Keep78(j:Nat)(st:List V):Prop where
 nn:qas st
 len:st.length=63
 t2:qaj st 2=.bptr 0 0
 t3:qaj st 3=.bptr 1 0
 t6:qaj st 6=num j
abbrev h78(c:Ct)(k i:Int)(g m:Nat)(l:List (Int×Int)):H:=[⟨0,.box c.cells⟩,⟨0,.box [num k,num i]⟩,⟨0,.arr 0 []⟩,⟨g,.arr m (l.map zww)⟩]
def I78(c:Ct)(k i:Int)(j:Nat)(st:St):Prop:=∃g m,st.h=h78 c k i g m (qgq c k i j)/\(m=2\/m=0)/\Keep78 j st.s/\qaj st.s 5=.sl 3 g m 0 (qgq c k i j).length
def Q78(c:Ct)(A:Nat)(k i:Int)(r:R):Prop:=r.x=.exit 0/\∃g m,r.st.h=h78 c k i g m (qgq c k i A)/\r.st.s.length=63/\qaj r.st.s 5=.sl 3 g m 0 (qgq c k i A).length
set_option maxHeartbeats 2000000 in
theorem zxn{c:Ct}{A:Nat}(h:Mid c A)(hp:c.plus.length=A)(hm:c.minus.length=A)(k i:Int)(hk:0<=k/\k<6)(st:St)(h0:I78 c k i 0 st):∃r,ev pg (.code (.going 4 L117_0) st)=some r/\Q78 c A k i r:=by
 have hA6:=h.hi;have hA:=h.act;refine qaw (I78 c k i) A (Q78 c A k i) h0 ?_ ?_
 .rintro j ⟨s,hh⟩ hj ⟨g,m,rfl,hm2,⟨hnn,hl,e2,e3,e6⟩,e5⟩;simp only at hl e2 e3 e5 e6;have hnl:∀j,qaj s j ≠ .nils:=qar hnn;have wj:=qbi j;have hj':(j:Int)<c.act:=by omega
  have hlen:=qon c k i j;have hp':j<c.plus.length:=by omega
  have hm':j<c.minus.length:=by omega
  have h74:=ev114 k;have e0:∀p,pil c k i j=p->qgq c k i (j+1)=qgq c k i j++[p]:=fun p e=>by rw[qxe,e]
  unfold I78;generalize qgq c k i j=l at *;generalize qgq c k i (j+1)=l' at *;have h47:(l.length+1)*16<=140737488355328:=by omega
  have pd:c.plus.getD j 0=c.plus[j]:=by simp[hp']
  have md:c.minus.getD j 0=c.minus[j]:=by simp[hm']
  unfold pil at e0;rw[pd,md]at e0;rw[qad hl];by_cases hlin:k=2\/k=3
  .rw[if_pos hlin]at e0;rw[decide_eq_true hlin]at h74;by_cases b1:c.plus[j]=i
   .by_cases b2:c.minus[j]=i
    .rw[if_pos b1,if_pos b2]at e0;have e0:=e0 _ rfl;rcases hlin with rfl | rfl
     .simp[L117_0,List.range,List.range.loop,e2,e3,e5,e6,hj',hp',hm',h74,wj,hm2,h47,b1,b2];exact⟨_,_,⟨rfl,rfl,by rw[e0];simp[qcr]⟩,.inl rfl,⟨by simp[qas,hnl],rfl,rfl,rfl,rfl⟩,rfl,rfl,by rw[e0];simp⟩
     .simp[L117_0,List.range,List.range.loop,e2,e3,e5,e6,hj',hp',hm',h74,wj,hm2,h47,b1,b2];exact⟨_,_,⟨rfl,rfl,by rw[e0];simp[qcr]⟩,.inl rfl,⟨by simp[qas,hnl],rfl,rfl,rfl,rfl⟩,rfl,rfl,by rw[e0];simp⟩
    .have b2b:(c.minus[j]==i)=false:=by simpa using b2
     rw[if_pos b1,if_neg b2]at e0;have e0:=e0 _ rfl;rcases hlin with rfl | rfl
     .simp[L117_0,List.range,List.range.loop,e2,e3,e5,e6,hj',hp',hm',h74,wj,hm2,h47,b1,b2b];exact⟨_,_,⟨rfl,rfl,by rw[e0];simp[qcr]⟩,.inl rfl,⟨by simp[qas,hnl],rfl,rfl,rfl,rfl⟩,rfl,rfl,by rw[e0];simp⟩
     .simp[L117_0,List.range,List.range.loop,e2,e3,e5,e6,hj',hp',hm',h74,wj,hm2,h47,b1,b2b];exact⟨_,_,⟨rfl,rfl,by rw[e0];simp[qcr]⟩,.inl rfl,⟨by simp[qas,hnl],rfl,rfl,rfl,rfl⟩,rfl,rfl,by rw[e0];simp⟩
   .have b1b:(c.plus[j]==i)=false:=by simpa using b1
    by_cases b2:c.minus[j]=i
    .rw[if_neg b1,if_pos b2]at e0;have e0:=e0 _ rfl;rcases hlin with rfl | rfl
     .simp[L117_0,List.range,List.range.loop,e2,e3,e5,e6,hj',hp',hm',h74,wj,hm2,h47,b1b,b2];exact⟨_,_,⟨rfl,rfl,by rw[e0];simp[qcr]⟩,.inl rfl,⟨by simp[qas,hnl],rfl,rfl,rfl,rfl⟩,rfl,rfl,by rw[e0];simp⟩
     .simp[L117_0,List.range,List.range.loop,e2,e3,e5,e6,hj',hp',hm',h74,wj,hm2,h47,b1b,b2];exact⟨_,_,⟨rfl,rfl,by rw[e0];simp[qcr]⟩,.inl rfl,⟨by simp[qas,hnl],rfl,rfl,rfl,rfl⟩,rfl,rfl,by rw[e0];simp⟩
    .have b2b:(c.minus[j]==i)=false:=by simpa using b2
     rw[if_neg b1,if_neg b2]at e0;have e0:=e0 _ rfl;rcases hlin with rfl | rfl
     .simp[L117_0,List.range,List.range.loop,e2,e3,e5,e6,hj',hp',hm',h74,wj,hm2,h47,b1b,b2b];exact⟨_,_,⟨rfl,rfl,by rw[e0];simp⟩,.inl rfl,⟨by simp[qas,hnl],rfl,rfl,rfl,rfl⟩,rfl,rfl,by rw[e0];simp⟩
     .simp[L117_0,List.range,List.range.loop,e2,e3,e5,e6,hj',hp',hm',h74,wj,hm2,h47,b1b,b2b];exact⟨_,_,⟨rfl,rfl,by rw[e0];simp⟩,.inl rfl,⟨by simp[qas,hnl],rfl,rfl,rfl,rfl⟩,rfl,rfl,by rw[e0];simp⟩
  .rw[if_neg hlin]at e0;rw[decide_eq_false hlin]at h74;by_cases b3:(j:Int)=i
   .rw[if_pos b3]at e0;subst b3;rcases (by omega:k=0\/k=1\/k=4\/k=5)with rfl | rfl | rfl | rfl
    .have e0:=e0 _ rfl;simp[L117_0,List.range,List.range.loop,e2,e3,e5,e6,hj',h74,wj,hm2,h47];exact⟨_,_,⟨rfl,rfl,by rw[e0];simp⟩,.inl rfl,⟨by simp[qas,hnl],rfl,rfl,rfl,rfl⟩,rfl,rfl,by rw[e0];simp⟩
    .have e0:=e0 _ rfl;simp[L117_0,List.range,List.range.loop,e2,e3,e5,e6,hj',h74,wj,hm2,h47];exact⟨_,_,⟨rfl,rfl,by rw[e0];simp⟩,.inl rfl,⟨by simp[qas,hnl],rfl,rfl,rfl,rfl⟩,rfl,rfl,by rw[e0];simp⟩
    .have e0:=e0 _ rfl;simp[L117_0,List.range,List.range.loop,e2,e3,e5,e6,hj',h74,wj,hm2,h47];exact⟨_,_,⟨rfl,rfl,by rw[e0];simp⟩,.inl rfl,⟨by simp[qas,hnl],rfl,rfl,rfl,rfl⟩,rfl,rfl,by rw[e0];simp⟩
    .have e0:=e0 _ rfl;simp[L117_0,List.range,List.range.loop,e2,e3,e5,e6,hj',h74,wj,hm2,h47];exact⟨_,_,⟨rfl,rfl,by rw[e0];simp⟩,.inl rfl,⟨by simp[qas,hnl],rfl,rfl,rfl,rfl⟩,rfl,rfl,by rw[e0];simp⟩
   .have b3b:((j:Int)==i)=false:=by simpa using b3
    rw[if_neg b3]at e0;have e0:=e0 _ rfl;simp[L117_0,List.range,List.range.loop,e2,e3,e5,e6,hj',h74,wj,hm2,h47,b3b];exact⟨_,_,⟨rfl,rfl,by rw[e0];simp⟩,.inl rfl,⟨by simp[qas,hnl],rfl,rfl,rfl,rfl⟩,rfl,rfl,by rw[e0];simp⟩
 .rintro⟨s,hh⟩ ⟨g,m,rfl,hm2,⟨hnn,hl,e2,e3,e6⟩,e5⟩;simp only at hl e2 e3 e5 e6;unfold Q78;generalize qgq c k i A=l at *;rw[qad hl];simp[L117_0,List.range,List.range.loop,e2,e3,e5,e6,hA]
theorem ev117{c:Ct}{A:Nat}(h:Mid c A)(hp:c.plus.length=A)(hm:c.minus.length=A)(k i:Int)(hk:0<=k/\k<6):ev pg (.call (fnq 117) [c.v,fv k i] [])=some (rvq (qjo (qgq c k i A))):=by
 have hloop:=zxn h hp hm k i hk;have hI:∀st:St,(st.h=h78 c k i 0 0 []/\Keep78 0 st.s/\qaj st.s 5=.sl 3 0 0 0 0)->I78 c k i 0 st:=fun st hst=>by
  refine⟨0,0,?_,.inr rfl,hst.2.1,?_⟩
  .rw[hst.1];rfl
  .rw[hst.2.2];rfl
 unfold Q78 at hloop;generalize qgq c k i A=l at *;rw[qab,pg117.1];simp[ir117,qah];generalize hr:ev pg (.code (.going 4 L117_0) _)=o;obtain⟨r,rfl,hx,g,m,hh,hl,h5⟩:∃r,o=some r/\_:=by rw[<-hr];exact hloop _ (hI _ ⟨by simp,⟨by simp[qas],by simp,by simp,by simp,by simp⟩,by simp⟩)
 simp[hx,hh,hl,h5]
end Go.Proofs.YtggbaapfbgjaeaaGreatDoor
