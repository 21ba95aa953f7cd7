/- Controls: errors, by the program, are those by the reference. -/
import Derived.Test.YtbepbclaoohngaaGreatCq1
set_option linter.all false
namespace Go.Proofs.YtbepbclaoohngaaGreat
open Go Go.Am Go.Proofs
set_option maxRecDepth 100000
theorem qxc{K L:List Txt}(h:∀q,q∈K<->q∈L)(s:Txt):qeh K s=qeh L s:=by
 unfold qeh
 simp only[h s]
theorem zeu(c:Ct)(A:Nat){K L:List Txt}(h:∀q,q∈K<->q∈L)(i:Nat)(x:Sg):zpi c A K i x=zpi c A L i x:=by
 unfold zpi
 rw[qxc h]
theorem qmq(c:Ct)(A n:Nat)(q:Txt):q∈qax c A (n+1)<->(q∈qax c A n\/q=qbl c A n):=by
 unfold qax
 rw[List.range_succ,List.map_append,jQ]
 simp
theorem q0h(c:Ct)(A j:Nat)(hj:j<c.inputs.length):qbl c A (2*A+j)=c.inputs[j]:=by
 unfold qbl
 rw[if_neg (by omega),if_pos (by omega),show 2*A+j-2*A=j by omega,jA hj]
 rfl
def qot(c:Ct)(A n:Nat)(l:List (Txt×Int)):Prop:=∀q,q∈l.map Prod.fst<->q∈qax c A n
theorem zgg(c:Ct)(l:List (Txt×Int)):calm (hX c l []):=by simp[calm,qcc]
structure Keep84(st:List V):Prop where
 nn:qaq st
 len:st.length=111
 t1:qag st 1=.bptr 1 0
 t4:qag st 4=.bptr 3 0
def jed(c:Ct)(A k:Nat)(st:St):Prop:=(∃l,st.h=hX c l []/\qot c A k l)/\Keep84 st.s/\qag st.s 45=num (2*A:Nat)/\qag st.s 46=num k
def z4s(c:Ct)(A:Nat)(r:R):Prop:=r.x=.exit 0/\(∃l,r.st.h=hX c l []/\qot c A (2*A) l)/\Keep84 r.st.s
theorem zvq{c:Ct}{A:Nat}(h:Mid c A)(st:St)(h0:jed c A 0 st):∃r,ev pg (.code (.going 4 L145_0) st)=some r/\z4s c A r:=by
 refine qat (jed c A) (2*A) (z4s c A) h0 ?_ ?_
 .rintro k ⟨s,hh⟩ hk ⟨⟨l,rfl,hkeys⟩,⟨hnn,hl,e1,e4⟩,e45,e46⟩
  simp only at hl e1 e4 e45 e46
  have hn:∀j,qag s j ≠ .nils:=qas hnn
  have hk':(k:Int)<((2*A:Nat):Int):=by omega
  have h6:=h.hi
  have wk:=qbs (k:=k) (by omega)
  have hc:=ev206 h k (by unfold qad;omega)
  obtain⟨l',hu1,hu2⟩:=q9g l (qbl c A k) k
  have hcut:∀l,qjn 4 (hX c l [])=hX c l []:=fun l=>qqd (zgg c l)
  generalize hN:2*A=N at *
  generalize hq:qbl c A k=q at *
  rw[qac hl]
  simp[qaa,exT,qak,L145_0,List.range,List.range.loop,e1,e4,e45,e46,hk',hc,hu1,wk]
  exact⟨⟨l',rfl,fun t=>by rw[hu2,qmq,hq,hkeys t]⟩,⟨by simp[qaq,hn],rfl,rfl,rfl⟩,by rw[hN];rfl,rfl⟩
 .rintro⟨s,hh⟩ ⟨⟨l,rfl,hkeys⟩,⟨hnn,hl,e1,e4⟩,e45,e46⟩
  simp only at hl e1 e4 e45 e46
  have hn:∀j,qag s j ≠ .nils:=qas hnn
  rw[qac hl]
  simp[L145_0,z4s,List.range,List.range.loop,e1,e4,e45,e46]
  exact⟨⟨l,rfl,hkeys⟩,⟨by simp[qaq,hn],rfl,rfl,rfl⟩⟩
def z4h(c:Ct)(A k:Nat)(st:St):Prop:=(∃l,st.h=hX c l []/\qot c A (2*A+k) l)/\Keep84 st.s/\qag st.s 59=.imm (c.inputs.map qoq)/\qag st.s 60=num c.inputs.length/\qag st.s 61=num k/\goE (qzx c A) 0 c.inputs.length=goE (qzx c A) k (c.inputs.length-k)
def zyz(c:Ct)(A:Nat)(r:R):Prop:=(r.x=.exit 2/\(∃l,r.st.h=hX c l []/\qot c A (qal c A) l)/\Keep84 r.st.s/\goE (qzx c A) 0 c.inputs.length=0)\/(r.x=.ret/\r.st.s.length=111/\qag r.st.s 2=.undef/\qag r.st.s 3=num (goE (qzx c A) 0 c.inputs.length)/\goE (qzx c A) 0 c.inputs.length≠0/\∃l,r.st.h=hX c l [])
theorem zvr{c:Ct}{A:Nat}(h:Mid c A)(st:St)(h0:z4h c A 0 st):∃r,ev pg (.code (.going 4 L145_1) st)=some r/\zyz c A r:=by
 refine qat (z4h c A) c.inputs.length (zyz c A) h0 ?_ ?_
 .rintro k ⟨s,hh⟩ hk ⟨⟨l,rfl,hkeys⟩,⟨hnn,hl,e1,e4⟩,e59,e60,e61,he⟩
  simp only at hl e1 e4 e59 e60 e61
  have hn:∀j,qag s j ≠ .nils:=qas hnn
  obtain⟨hA,h1,h2,h3,h4⟩:=h
  have hk':(k:Int)<c.inputs.length:=by omega
  have wk:=qbs (k:=k) (by omega)
  obtain⟨l',hc,hl'⟩:=ev211 c l [] (fun l=>zgg c l) c.inputs[k]
  rw[zat hk]at he
  have hF:qeh (l.map Prod.fst) c.inputs[k]=qzx c A k:=by
   rw[qxc hkeys,qzx,q0h c A k hk]
  rw[hF]at hc hl'
  have hkeys':qzx c A k=0->qot c A (2*A+(k+1)) l':=fun h0=>by
   rcases hl' with⟨_,h⟩ | ⟨h,_⟩
   .intro q
    rw[h q,show 2*A+(k+1)=2*A+k+1 by omega,qmq,hkeys q,q0h c A k hk]
   .exact absurd h0 h
  generalize qzx c A k=f at *
  rw[qac hl]
  by_cases b:f=0
  .rw[if_pos b]at he
   simp[L145_1,List.range,List.range.loop,e1,e4,e59,e60,e61,hk,hk',hc,b,wk]
   exact⟨⟨l',rfl,hkeys' b⟩,⟨by simp[qaq,hn],rfl,rfl,rfl⟩,rfl,rfl,rfl,he⟩
  .rw[if_neg b]at he
   simp[L145_1,zyz,List.range,List.range.loop,e1,e4,e59,e60,e61,hk,hk',hc,b,he]
   exact⟨l',rfl⟩
 .rintro⟨s,hh⟩ ⟨⟨l,rfl,hkeys⟩,⟨hnn,hl,e1,e4⟩,e59,e60,e61,he⟩
  simp only[Nat.sub_self,goE]at hl e1 e4 e59 e60 e61 he
  have hn:∀j,qag s j ≠ .nils:=qas hnn
  rw[qac hl]
  simp[L145_1,zyz,List.range,List.range.loop,e1,e4,e59,e60,e61,he]
  exact⟨⟨l,rfl,hkeys⟩,⟨by simp[qaq,hn],rfl,rfl,rfl⟩⟩
def z4i(c:Ct)(A k:Nat)(st:St):Prop:=(∃l,st.h=hX c l []/\qot c A (qal c A+k) l)/\Keep84 st.s/\qag st.s 74=num c.signals.length/\qag st.s 75=num k/\goE (qvl c A) 0 c.signals.length=goE (qvl c A) k (c.signals.length-k)
def zza(c:Ct)(A:Nat)(r:R):Prop:=(r.x=.exit 4/\(∃l,r.st.h=hX c l [])/\Keep84 r.st.s/\goE (qvl c A) 0 c.signals.length=0)\/(r.x=.ret/\r.st.s.length=111/\qag r.st.s 2=.undef/\qag r.st.s 3=num (goE (qvl c A) 0 c.signals.length)/\goE (qvl c A) 0 c.signals.length≠0/\∃l,r.st.h=hX c l [])
theorem zvs{c:Ct}{A:Nat}(h:Mid c A)(hfew:c.small=true)(st:St)(h0:z4i c A 0 st):∃r,ev pg (.code (.going 4 L145_2) st)=some r/\zza c A r:=by
 refine qat (z4i c A) c.signals.length (zza c A) h0 ?_ ?_
 .rintro k ⟨s,hh⟩ hk ⟨⟨l,rfl,hkeys⟩,⟨hnn,hl,e1,e4⟩,e74,e75,he⟩
  simp only at hl e1 e4 e74 e75
  have hn:∀j,qag s j ≠ .nils:=qas hnn
  obtain⟨_,hon,hoff⟩:=(qdd hfew).2.2.2.2.2 _ (jH hk)
  obtain⟨l',hc,hl'⟩:=ev212 h l k hk hon hoff
  obtain⟨hA,h1,h2,h3,h4⟩:=h
  have hk':(k:Int)<c.signals.length:=by omega
  have wk:=qbs (k:=k) (by omega)
  rw[zat hk]at he
  have hF:zpi c A (l.map Prod.fst) k c.signals[k]=qvl c A k:=by
   rw[zeu c A hkeys,zxf]
   unfold qvl
   rw[jA hk]
  have hkeys':qvl c A k=0->qot c A (qal c A+(k+1)) l':=fun h0=>by
   rcases hl' with⟨_,h⟩ | ⟨h,_⟩
   .intro q
    rw[h q,show qal c A+(k+1)=qal c A+k+1 by omega,qmq,hkeys q,qsu c A k hk]
   .rw[<-hF]at h0
    unfold zpi at h0
    rw[if_neg h]at h0
    exact absurd h0 h
  rw[hF]at hc
  generalize qvl c A k=f at *
  rw[qac hl]
  by_cases b:f=0
  .rw[if_pos b]at he
   simp[L145_2,List.range,List.range.loop,e1,e4,e74,e75,hk',hc,b,wk]
   exact⟨⟨l',rfl,hkeys' b⟩,⟨by simp[qaq,hn],rfl,rfl,rfl⟩,rfl,rfl,he⟩
  .rw[if_neg b]at he
   simp[L145_2,zza,List.range,List.range.loop,e1,e4,e74,e75,hk',hc,b,he]
   exact⟨l',rfl⟩
 .rintro⟨s,hh⟩ ⟨⟨l,rfl,hkeys⟩,⟨hnn,hl,e1,e4⟩,e74,e75,he⟩
  simp only[Nat.sub_self,goE]at hl e1 e4 e74 e75 he
  have hn:∀j,qag s j ≠ .nils:=qas hnn
  rw[qac hl]
  simp[L145_2,zza,List.range,List.range.loop,e1,e4,e74,e75,he]
  exact⟨⟨l,rfl⟩,⟨by simp[qaq,hn],rfl,rfl,rfl⟩⟩
theorem ev145(c:Ct)(hfew:c.small=true):∃v z,ev pg (.call (.fn 145 [] []) [c.v] [⟨0,.box c.cells⟩])=some { v:=.tup [v,num c.check],st:=⟨[],z⟩ }:=by
 obtain⟨f1,f2,f3,f4,_⟩:=qdd hfew
 rw[qab,pg145]
 unfold Ct.check
 by_cases a1:c.act<1
 .rw[if_pos (.inl a1)]
  simp[ir145,a1]
 by_cases a2:6<c.act
 .rw[if_pos (.inr a2)]
  simp[ir145,a1,a2]
 rw[if_neg (by omega)]
 by_cases a3:16<c.inputs.length
 .have a3':(16:Int)<(c.inputs.length:Int):=by omega
  rw[if_pos (.inl a3)]
  simp[ir145,a1,a2,a3']
 have a3':¬((16:Int)<(c.inputs.length:Int)):=by omega
 by_cases a4:64<c.signals.length
 .have a4':(64:Int)<(c.signals.length:Int):=by omega
  rw[if_pos (.inr a4)]
  simp[ir145,a1,a2,a3',a4']
 have a4':¬((64:Int)<(c.signals.length:Int)):=by omega
 rw[if_neg (by omega)]
 have hM:Mid c c.act.toNat:=⟨by omega,by omega,by omega,f1,f2⟩
 have hla:=zvq hM
 have hlb:=zvr hM
 have hlc:=zvs hM hfew
 have hactA:c.act=(c.act.toNat:Int):=by omega
 have hA1:=hM.lo
 have hA6:=hM.hi
 have h132:=fun(l:List (Txt×Int)) (z:H) (hcl:calm (hX c l z)) (n:Int)=>ev214 hM (h:=hX c l z) (i:=1) rfl hcl n
 have h131:c.plus.length=c.act.toNat->_:=fun hp=>ev155 c.plus c.minus f3 f4 (by omega)
 generalize c.act.toNat=A at *
 have w1:=qan (n:=2*c.act) (by omega) (by omega)
 unfold ctE
 have hIb:∀st:St,z4h c A 0 st<->((∃l,st.h=hX c l []/\qot c A (2*A) l)/\Keep84 st.s/\qag st.s 59=.imm (c.inputs.map qoq)/\qag st.s 60=num c.inputs.length/\qag st.s 61=num 0):=fun st=>by
  unfold z4h
  exact⟨fun h=>⟨h.1,h.2.1,h.2.2.1,h.2.2.2.1,h.2.2.2.2.1⟩,fun h=>⟨h.1,h.2.1,h.2.2.1,h.2.2.2.1,h.2.2.2.2,rfl⟩⟩
 have hIc:∀st:St,z4i c A 0 st<->((∃l,st.h=hX c l []/\qot c A (qal c A) l)/\Keep84 st.s/\qag st.s 74=num c.signals.length/\qag st.s 75=num 0):=fun st=>by
  unfold z4i
  exact⟨fun h=>⟨h.1,h.2.1,h.2.2.1,h.2.2.2.1⟩,fun h=>⟨h.1,h.2.1,h.2.2.1,h.2.2.2,rfl⟩⟩
 unfold zyz at hlb
 unfold zza at hlc
 generalize goE (qzx c A) 0 c.inputs.length=ei at *
 generalize goE (qvl c A) 0 c.signals.length=es at *
 simp[ir145,a1,a2,a3',a4',w1,qam]
 generalize hr:ev pg (.code (.going 4 L145_0) _)=o
 obtain⟨r,rfl,hx,⟨l,hh,hkeys⟩,⟨hnn,hl,g1,g4⟩⟩:∃r,o=some r/\z4s c A r:=by
  rw[<-hr]
  refine hla _ ⟨⟨[],rfl,by simp[qot,qax]⟩,⟨by simp[qaq],by simp,by simp,by simp⟩,by simp[hactA],by simp⟩
 simp (maxDischargeDepth:=9) [hx,hh,hl,g1,qcz,qdn,hnn]
 generalize hr2:ev pg (.code (.going 4 L145_1) _)=o
 obtain⟨r2,rfl,hQ2⟩:∃r,o=some r/\_:=by
  rw[<-hr2]
  exact hlb _ ((hIb _).2 ⟨⟨l,rfl,hkeys⟩,⟨by simp (maxDischargeDepth:=9) [qdn,hnn],by simp[hl],by simp[g1],by simp[g4]⟩,by simp[hl],by simp[hl],by simp[hl]⟩)
 rcases hQ2 with⟨hx2,⟨l2,hh2,hkeys2⟩,⟨hnn2,hl2,g21,g24⟩,rfl⟩ | ⟨hx2,hl2,g22,g23,hE,l2,hh2⟩
 .simp (maxDischargeDepth:=9) [hx2,hh2,hl2,g21,qcz,qdn,hnn2]
  generalize hr3:ev pg (.code (.going 4 L145_2) _)=o
  obtain⟨r3,rfl,hQ3⟩:∃r,o=some r/\_:=by
   rw[<-hr3]
   exact hlc _ ((hIc _).2 ⟨⟨l2,rfl,hkeys2⟩,⟨by simp (maxDischargeDepth:=9) [qdn,hnn2],by simp[hl2],by simp[g21],by simp[g24]⟩,by simp[hl2],by simp[hl2]⟩)
  rcases hQ3 with⟨hx3,⟨l3,hh3⟩,⟨hnn3,hl3,g31,g34⟩,rfl⟩ | ⟨hx3,hl3,g32,g33,hE3,l3,hh3⟩
  .rw[if_pos (rfl:(0:Int)=0)]
   unfold zjv
   by_cases n1:c.plus.length=A
   .have n1b:((c.plus.length:Int) != c.act)=false:=by simp;omega
    by_cases n2:c.minus.length=A
    .have n2b:((c.minus.length:Int) != c.act)=false:=by simp;omega
     rw[if_neg (by omega)]
     have h131:=h131 n1
     have h130:=ev213 (f:=214) (caps:=[.bptr 1 0]) (h:=hX c l3 [⟨0,.frz 1 ((c.plus++c.minus).map qbo)⟩]) (l:=c.plus++c.minus) (p:=qhn (qad c A)) (by simp;omega) rfl rfl (fun n=>h132 l3 [⟨0,.frz 1 ((c.plus++c.minus).map qbo)⟩] (by simp[calm,qcc]) n) (by simp[calm,qcc])
     rw[List.any_append]at h130
     generalize c.plus.any (qhn (qad c A))=P at *
     generalize c.minus.any (qhn (qad c A))=M at *
     simp only[qes,List.map_append]at h130
     cases P with
     | true=>simp[hx3,hh3,hl3,g31,n1b,n2b,h131,h130]
     | false=>cases M with
      | true=>simp[hx3,hh3,hl3,g31,n1b,n2b,h131,h130]
      | false=>simp[hx3,hh3,hl3,g31,g34,n1b,n2b,h131,h130]
    .have n2b:((c.minus.length:Int) != c.act)=true:=by simp;omega
     rw[if_pos (.inr n2)]
     simp[hx3,hh3,hl3,g31,n1b,n2b]
   .have n1b:((c.plus.length:Int) != c.act)=true:=by simp;omega
    rw[if_pos (.inl n1)]
    simp[hx3,hh3,hl3,g31,n1b]
  .simp[hx3,hh3,g32,g33,hE3]
 .simp[hx2,hh2,g22,g23,hE]
theorem ev87(c:Ct)(hfew:c.small=true):ev pg (.call (.fn 87 [] []) [c.v] [])=some { v:=num c.check,st:=⟨[],[]⟩ }:=by
 obtain⟨v,z,h84⟩:=ev145 c hfew
 generalize c.check=e at *
 rw[qab,pg87]
 simp[ir87,h84]
end Go.Proofs.YtbepbclaoohngaaGreat
