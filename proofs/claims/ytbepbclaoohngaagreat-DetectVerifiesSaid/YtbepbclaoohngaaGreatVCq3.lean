/- Controls: errors, by the program, are those by the reference. -/
import Derived.Test.YtbepbclaoohngaaGreatVCq1
set_option linter.all false
namespace Go.Proofs.YtbepbclaoohngaaGreat
open Go Go.Am Go.Proofs
set_option maxRecDepth 100000
theorem qwi{K L:List Txt}(h:∀q,q∈K<->q∈L)(s:Txt):qep K s=qep L s:=by
 unfold qep
 simp only[h s]
theorem zdn(c:Ct)(A:Nat){K L:List Txt}(h:∀q,q∈K<->q∈L)(i:Nat)(x:Sg):zny c A K i x=zny c A L i x:=by
 unfold zny
 rw[qwi h]
theorem qmj(c:Ct)(A n:Nat)(q:Txt):q∈qax c A (n+1)<->(q∈qax c A n\/q=qbl c A n):=by
 unfold qax
 rw[List.range_succ,List.map_append,jQ]
 simp
theorem qzc(c:Ct)(A j:Nat)(hj:j<c.inputs.length):qbl c A (2*A+j)=c.inputs[j]:=by
 unfold qbl
 rw[if_neg (by omega),if_pos (by omega),show 2*A+j-2*A=j by omega,jA hj]
 rfl
def qol(c:Ct)(A n:Nat)(l:List (Txt×Int)):Prop:=∀q,q∈l.map Prod.fst<->q∈qax c A n
theorem zex(c:Ct)(l:List (Txt×Int)):calm (hX c l []):=by simp[calm,qcf]
structure Keep84(st:List V):Prop where
 nn:qas st
 len:st.length=111
 t1:qai st 1=.bptr 1 0
 t4:qai st 4=.bptr 3 0
def jer(c:Ct)(A k:Nat)(st:St):Prop:=(∃l,st.h=hX c l []/\qol c A k l)/\Keep84 st.s/\qai st.s 45=num (2*A:Nat)/\qai st.s 46=num k
def z3k(c:Ct)(A:Nat)(r:R):Prop:=r.x=.exit 0/\(∃l,r.st.h=hX c l []/\qol c A (2*A) l)/\Keep84 r.st.s
theorem zuh{c:Ct}{A:Nat}(h:Mid c A)(st:St)(h0:jer c A 0 st):∃r,ev pg (.code (.going 4 L145_0) st)=some r/\z3k c A r:=by
 refine qau (jer c A) (2*A) (z3k c A) h0 ?_ ?_
 .rintro k ⟨s,hh⟩ hk ⟨⟨l,rfl,hkeys⟩,⟨hnn,hl,e1,e4⟩,e45,e46⟩
  simp only at hl e1 e4 e45 e46
  have hn:∀j,qai s j ≠ .nils:=qar hnn
  have hk':(k:Int)<((2*A:Nat):Int):=by omega
  have h6:=h.hi
  have wk:=qbb (k:=k) (by omega)
  have hc:=ev206 h k (by unfold qac;omega)
  obtain⟨l',hu1,hu2⟩:=q8d l (qbl c A k) k
  have hcut:∀l,qje 4 (hX c l [])=hX c l []:=fun l=>qpv (zex c l)
  generalize hN:2*A=N at *
  generalize hq:qbl c A k=q at *
  rw[qad hl]
  simp[qab,exT,qal,L145_0,List.range,List.range.loop,e1,e4,e45,e46,hk',hc,hu1,wk]
  exact⟨⟨l',rfl,fun t=>by rw[hu2,qmj,hq,hkeys t]⟩,⟨by simp[qas,hn],rfl,rfl,rfl⟩,by rw[hN];rfl,rfl⟩
 .rintro⟨s,hh⟩ ⟨⟨l,rfl,hkeys⟩,⟨hnn,hl,e1,e4⟩,e45,e46⟩
  simp only at hl e1 e4 e45 e46
  have hn:∀j,qai s j ≠ .nils:=qar hnn
  rw[qad hl]
  simp[L145_0,z3k,List.range,List.range.loop,e1,e4,e45,e46]
  exact⟨⟨l,rfl,hkeys⟩,⟨by simp[qas,hn],rfl,rfl,rfl⟩⟩
def z3b(c:Ct)(A k:Nat)(st:St):Prop:=(∃l,st.h=hX c l []/\qol c A (2*A+k) l)/\Keep84 st.s/\qai st.s 59=.imm (c.inputs.map qoe)/\qai st.s 60=num c.inputs.length/\qai st.s 61=num k/\goE (qyu c A) 0 c.inputs.length=goE (qyu c A) k (c.inputs.length-k)
def zxr(c:Ct)(A:Nat)(r:R):Prop:=(r.x=.exit 2/\(∃l,r.st.h=hX c l []/\qol c A (qam c A) l)/\Keep84 r.st.s/\goE (qyu c A) 0 c.inputs.length=0)\/(r.x=.ret/\r.st.s.length=111/\qai r.st.s 2=.undef/\qai r.st.s 3=num (goE (qyu c A) 0 c.inputs.length)/\goE (qyu c A) 0 c.inputs.length≠0/\∃l,r.st.h=hX c l [])
theorem zui{c:Ct}{A:Nat}(h:Mid c A)(st:St)(h0:z3b c A 0 st):∃r,ev pg (.code (.going 4 L145_1) st)=some r/\zxr c A r:=by
 refine qau (z3b c A) c.inputs.length (zxr c A) h0 ?_ ?_
 .rintro k ⟨s,hh⟩ hk ⟨⟨l,rfl,hkeys⟩,⟨hnn,hl,e1,e4⟩,e59,e60,e61,he⟩
  simp only at hl e1 e4 e59 e60 e61
  have hn:∀j,qai s j ≠ .nils:=qar hnn
  obtain⟨hA,h1,h2,h3,h4⟩:=h
  have hk':(k:Int)<c.inputs.length:=by omega
  have wk:=qbb (k:=k) (by omega)
  obtain⟨l',hc,hl'⟩:=ev211 c l [] (fun l=>zex c l) c.inputs[k]
  rw[q9m hk]at he
  have hF:qep (l.map Prod.fst) c.inputs[k]=qyu c A k:=by
   rw[qwi hkeys,qyu,qzc c A k hk]
  rw[hF]at hc hl'
  have hkeys':qyu c A k=0->qol c A (2*A+(k+1)) l':=fun h0=>by
   rcases hl' with⟨_,h⟩ | ⟨h,_⟩
   .intro q
    rw[h q,show 2*A+(k+1)=2*A+k+1 by omega,qmj,hkeys q,qzc c A k hk]
   .exact absurd h0 h
  generalize qyu c A k=f at *
  rw[qad hl]
  by_cases b:f=0
  .rw[if_pos b]at he
   simp[L145_1,List.range,List.range.loop,e1,e4,e59,e60,e61,hk,hk',hc,b,wk]
   exact⟨⟨l',rfl,hkeys' b⟩,⟨by simp[qas,hn],rfl,rfl,rfl⟩,rfl,rfl,rfl,he⟩
  .rw[if_neg b]at he
   simp[L145_1,zxr,List.range,List.range.loop,e1,e4,e59,e60,e61,hk,hk',hc,b,he]
   exact⟨l',rfl⟩
 .rintro⟨s,hh⟩ ⟨⟨l,rfl,hkeys⟩,⟨hnn,hl,e1,e4⟩,e59,e60,e61,he⟩
  simp only[Nat.sub_self,goE]at hl e1 e4 e59 e60 e61 he
  have hn:∀j,qai s j ≠ .nils:=qar hnn
  rw[qad hl]
  simp[L145_1,zxr,List.range,List.range.loop,e1,e4,e59,e60,e61,he]
  exact⟨⟨l,rfl,hkeys⟩,⟨by simp[qas,hn],rfl,rfl,rfl⟩⟩
def z3c(c:Ct)(A k:Nat)(st:St):Prop:=(∃l,st.h=hX c l []/\qol c A (qam c A+k) l)/\Keep84 st.s/\qai st.s 74=num c.signals.length/\qai st.s 75=num k/\goE (quu c A) 0 c.signals.length=goE (quu c A) k (c.signals.length-k)
def zxs(c:Ct)(A:Nat)(r:R):Prop:=(r.x=.exit 4/\(∃l,r.st.h=hX c l [])/\Keep84 r.st.s/\goE (quu c A) 0 c.signals.length=0)\/(r.x=.ret/\r.st.s.length=111/\qai r.st.s 2=.undef/\qai r.st.s 3=num (goE (quu c A) 0 c.signals.length)/\goE (quu c A) 0 c.signals.length≠0/\∃l,r.st.h=hX c l [])
theorem zuj{c:Ct}{A:Nat}(h:Mid c A)(hfew:c.small=true)(st:St)(h0:z3c c A 0 st):∃r,ev pg (.code (.going 4 L145_2) st)=some r/\zxs c A r:=by
 refine qau (z3c c A) c.signals.length (zxs c A) h0 ?_ ?_
 .rintro k ⟨s,hh⟩ hk ⟨⟨l,rfl,hkeys⟩,⟨hnn,hl,e1,e4⟩,e74,e75,he⟩
  simp only at hl e1 e4 e74 e75
  have hn:∀j,qai s j ≠ .nils:=qar hnn
  obtain⟨_,hon,hoff⟩:=(qdp hfew).2.2.2.2.2 _ (jH hk)
  obtain⟨l',hc,hl'⟩:=ev212 h l k hk hon hoff
  obtain⟨hA,h1,h2,h3,h4⟩:=h
  have hk':(k:Int)<c.signals.length:=by omega
  have wk:=qbb (k:=k) (by omega)
  rw[q9m hk]at he
  have hF:zny c A (l.map Prod.fst) k c.signals[k]=quu c A k:=by
   rw[zdn c A hkeys,zvt]
   unfold quu
   rw[jA hk]
  have hkeys':quu c A k=0->qol c A (qam c A+(k+1)) l':=fun h0=>by
   rcases hl' with⟨_,h⟩ | ⟨h,_⟩
   .intro q
    rw[h q,show qam c A+(k+1)=qam c A+k+1 by omega,qmj,hkeys q,qse c A k hk]
   .rw[<-hF]at h0
    unfold zny at h0
    rw[if_neg h]at h0
    exact absurd h0 h
  rw[hF]at hc
  generalize quu c A k=f at *
  rw[qad hl]
  by_cases b:f=0
  .rw[if_pos b]at he
   simp[L145_2,List.range,List.range.loop,e1,e4,e74,e75,hk',hc,b,wk]
   exact⟨⟨l',rfl,hkeys' b⟩,⟨by simp[qas,hn],rfl,rfl,rfl⟩,rfl,rfl,he⟩
  .rw[if_neg b]at he
   simp[L145_2,zxs,List.range,List.range.loop,e1,e4,e74,e75,hk',hc,b,he]
   exact⟨l',rfl⟩
 .rintro⟨s,hh⟩ ⟨⟨l,rfl,hkeys⟩,⟨hnn,hl,e1,e4⟩,e74,e75,he⟩
  simp only[Nat.sub_self,goE]at hl e1 e4 e74 e75 he
  have hn:∀j,qai s j ≠ .nils:=qar hnn
  rw[qad hl]
  simp[L145_2,zxs,List.range,List.range.loop,e1,e4,e74,e75,he]
  exact⟨⟨l,rfl⟩,⟨by simp[qas,hn],rfl,rfl,rfl⟩⟩
theorem ev145(c:Ct)(hfew:c.small=true):∃v z,ev pg (.call (.fn 145 [] []) [c.v] [⟨0,.box c.cells⟩])=some { v:=.tup [v,num c.check],st:=⟨[],z⟩ }:=by
 obtain⟨f1,f2,f3,f4,_⟩:=qdp hfew
 rw[qaa,pg145]
 unfold Ct.check
 by_cases a1:c.act<1
 .rw[if_pos (.inl a1)]
  simp[ir145,a1]
 by_cases a2:6<c.act
 .rw[if_pos (.inr a2)]
  simp[ir145,a1,a2]
 rw[if_neg (by omega)]
 by_cases a3:16<c.inputs.length
 .have a3':(16:Int)<(c.inputs.length:Int):=by omega
  rw[if_pos (.inl a3)]
  simp[ir145,a1,a2,a3']
 have a3':¬((16:Int)<(c.inputs.length:Int)):=by omega
 by_cases a4:64<c.signals.length
 .have a4':(64:Int)<(c.signals.length:Int):=by omega
  rw[if_pos (.inr a4)]
  simp[ir145,a1,a2,a3',a4']
 have a4':¬((64:Int)<(c.signals.length:Int)):=by omega
 rw[if_neg (by omega)]
 have hM:Mid c c.act.toNat:=⟨by omega,by omega,by omega,f1,f2⟩
 have hla:=zuh hM
 have hlb:=zui hM
 have hlc:=zuj hM hfew
 have hactA:c.act=(c.act.toNat:Int):=by omega
 have hA1:=hM.lo
 have hA6:=hM.hi
 have h132:=fun(l:List (Txt×Int)) (z:H) (hcl:calm (hX c l z)) (n:Int)=>ev214 hM (h:=hX c l z) (i:=1) rfl hcl n
 have zgq:c.plus.length=c.act.toNat->_:=fun hp=>ev155 c.plus c.minus f3 f4 (by omega)
 generalize c.act.toNat=A at *
 have w1:=qan (n:=2*c.act) (by omega) (by omega)
 unfold ctE
 have hIb:∀st:St,z3b c A 0 st<->((∃l,st.h=hX c l []/\qol c A (2*A) l)/\Keep84 st.s/\qai st.s 59=.imm (c.inputs.map qoe)/\qai st.s 60=num c.inputs.length/\qai st.s 61=num 0):=fun st=>by
  unfold z3b
  exact⟨fun h=>⟨h.1,h.2.1,h.2.2.1,h.2.2.2.1,h.2.2.2.2.1⟩,fun h=>⟨h.1,h.2.1,h.2.2.1,h.2.2.2.1,h.2.2.2.2,rfl⟩⟩
 have hIc:∀st:St,z3c c A 0 st<->((∃l,st.h=hX c l []/\qol c A (qam c A) l)/\Keep84 st.s/\qai st.s 74=num c.signals.length/\qai st.s 75=num 0):=fun st=>by
  unfold z3c
  exact⟨fun h=>⟨h.1,h.2.1,h.2.2.1,h.2.2.2.1⟩,fun h=>⟨h.1,h.2.1,h.2.2.1,h.2.2.2,rfl⟩⟩
 unfold zxr at hlb
 unfold zxs at hlc
 generalize goE (qyu c A) 0 c.inputs.length=ei at *
 generalize goE (quu c A) 0 c.signals.length=es at *
 simp[ir145,a1,a2,a3',a4',w1,qah]
 generalize hr:ev pg (.code (.going 4 L145_0) _)=o
 obtain⟨r,rfl,hx,⟨l,hh,hkeys⟩,⟨hnn,hl,g1,g4⟩⟩:∃r,o=some r/\z3k c A r:=by
  rw[<-hr]
  refine hla _ ⟨⟨[],rfl,by simp[qol,qax]⟩,⟨by simp[qas],by simp,by simp,by simp⟩,by simp[hactA],by simp⟩
 simp (maxDischargeDepth:=9) [hx,hh,hl,g1,qdx,qej,hnn]
 generalize hr2:ev pg (.code (.going 4 L145_1) _)=o
 obtain⟨r2,rfl,hQ2⟩:∃r,o=some r/\_:=by
  rw[<-hr2]
  exact hlb _ ((hIb _).2 ⟨⟨l,rfl,hkeys⟩,⟨by simp (maxDischargeDepth:=9) [qej,hnn],by simp[hl],by simp[g1],by simp[g4]⟩,by simp[hl],by simp[hl],by simp[hl]⟩)
 rcases hQ2 with⟨hx2,⟨l2,hh2,hkeys2⟩,⟨hnn2,hl2,g21,g24⟩,rfl⟩ | ⟨hx2,hl2,g22,g23,hE,l2,hh2⟩
 .simp (maxDischargeDepth:=9) [hx2,hh2,hl2,g21,qdx,qej,hnn2]
  generalize hr3:ev pg (.code (.going 4 L145_2) _)=o
  obtain⟨r3,rfl,hQ3⟩:∃r,o=some r/\_:=by
   rw[<-hr3]
   exact hlc _ ((hIc _).2 ⟨⟨l2,rfl,hkeys2⟩,⟨by simp (maxDischargeDepth:=9) [qej,hnn2],by simp[hl2],by simp[g21],by simp[g24]⟩,by simp[hl2],by simp[hl2]⟩)
  rcases hQ3 with⟨hx3,⟨l3,hh3⟩,⟨hnn3,hl3,g31,g34⟩,rfl⟩ | ⟨hx3,hl3,g32,g33,hE3,l3,hh3⟩
  .rw[if_pos (rfl:(0:Int)=0)]
   unfold ziq
   by_cases n1:c.plus.length=A
   .have n1b:((c.plus.length:Int) != c.act)=false:=by simp;omega
    by_cases n2:c.minus.length=A
    .have n2b:((c.minus.length:Int) != c.act)=false:=by simp;omega
     rw[if_neg (by omega)]
     have zgq:=zgq n1
     have h130:=ev213 (f:=214) (caps:=[.bptr 1 0]) (h:=hX c l3 [⟨0,.frz 1 ((c.plus++c.minus).map qbj)⟩]) (l:=c.plus++c.minus) (p:=qgc (qac c A)) (by simp;omega) rfl rfl (fun n=>h132 l3 [⟨0,.frz 1 ((c.plus++c.minus).map qbj)⟩] (by simp[calm,qcf]) n) (by simp[calm,qcf])
     rw[List.any_append]at h130
     generalize c.plus.any (qgc (qac c A))=P at *
     generalize c.minus.any (qgc (qac c A))=M at *
     simp only[qeg,List.map_append]at h130
     cases P with
     | true=>simp[hx3,hh3,hl3,g31,n1b,n2b,zgq,h130]
     | false=>cases M with
      | true=>simp[hx3,hh3,hl3,g31,n1b,n2b,zgq,h130]
      | false=>simp[hx3,hh3,hl3,g31,g34,n1b,n2b,zgq,h130]
    .have n2b:((c.minus.length:Int) != c.act)=true:=by simp;omega
     rw[if_pos (.inr n2)]
     simp[hx3,hh3,hl3,g31,n1b,n2b]
   .have n1b:((c.plus.length:Int) != c.act)=true:=by simp;omega
    rw[if_pos (.inl n1)]
    simp[hx3,hh3,hl3,g31,n1b]
  .simp[hx3,hh3,g32,g33,hE3]
 .simp[hx2,hh2,g22,g23,hE]
theorem ev87(c:Ct)(hfew:c.small=true):ev pg (.call (.fn 87 [] []) [c.v] [])=some { v:=num c.check,st:=⟨[],[]⟩ }:=by
 obtain⟨v,z,h84⟩:=ev145 c hfew
 generalize c.check=e at *
 rw[qaa,pg87]
 simp[ir87,h84]
end Go.Proofs.YtbepbclaoohngaaGreat
