/- Controls: errors, by the program. Controls: errors, by the program, are those by the reference. Kinds of faults, by the program and by the reference. All faults, by the reference. Pilots, by the reference. What a fault touches, by the reference. What a fault touches, by the reference. -/
import Derived.Test.YtddeacahiilikaaGreatRCq1
set_option linter.all false
namespace Go.Proofs.YtddeacahiilikaaGreat
open Go Go.Am Go.Proofs
set_option maxRecDepth 100000
theorem qrt{K L:List Txt}(h:∀q,q∈K<->q∈L)(s:Txt):qdr K s=qdr L s:=by
 unfold qdr
 simp only[h s]
theorem q5p(c:Ct)(A:Nat){K L:List Txt}(h:∀q,q∈K<->q∈L)(i:Nat)(x:Sg):zei c A K i x=zei c A L i x:=by
 unfold zei
 rw[qrt h]
theorem qkc(c:Ct)(A n:Nat)(q:Txt):q∈qdi c A (n+1)<->(q∈qdi c A n\/q=qbl c A n):=by
 unfold qdi
 rw[List.range_succ,List.map_append,jQ]
 simp
theorem qud(c:Ct)(A j:Nat)(hj:j<c.inputs.length):qbl c A (2*A+j)=c.inputs[j]:=by
 unfold qbl
 rw[if_neg (by omega),if_pos (by omega),show 2*A+j-2*A=j by omega,jA hj]
 rfl
def qlq(c:Ct)(A n:Nat)(l:List (Txt×Int)):Prop:=∀q,q∈l.map Prod.fst<->q∈qdi c A n
theorem q6u(c:Ct)(l:List (Txt×Int)):qdb (hX c l []):=by simp[qdb,qcf]
structure Keep84(st:List V):Prop where
 nn:qde st
 len:st.length=111
 t1:qao st 1=.bptr 1 0
 t4:qao st 4=.bptr 3 0
def z2j(c:Ct)(A k:Nat)(st:St):Prop:=(∃l,st.h=hX c l []/\qlq c A k l)/\Keep84 st.s/\qao st.s 45=num (2*A:Nat)/\qao st.s 46=num k
def ztk(c:Ct)(A:Nat)(r:R):Prop:=r.x=.exit 0/\(∃l,r.st.h=hX c l []/\qlq c A (2*A) l)/\Keep84 r.st.s
theorem znq{c:Ct}{A:Nat}(h:Mid c A)(st:St)(h0:z2j c A 0 st):∃r,ev pg (.code (.going 4 L109_0) st)=some r/\ztk c A r:=by
 refine qbh (z2j c A) (2*A) (ztk c A) h0 ?_ ?_
 .rintro k ⟨s,hh⟩ hk ⟨⟨l,rfl,hkeys⟩,⟨hnn,hl,e1,e4⟩,e45,e46⟩
  simp only at hl e1 e4 e45 e46
  have hn:∀j,qao s j ≠ .nils:=qcd hnn
  have hk':(k:Int)<((2*A:Nat):Int):=by omega
  have h6:=h.hi
  have wk:=qab (n:=(k:Int)+1) (by omega) (by omega)
  have hc:=ev181 h k (by unfold qah;omega)
  obtain⟨l',hu1,hu2⟩:=q1g l (qbl c A k) k
  have hcut:∀l,qbc 4 (hX c l [])=hX c l []:=fun l=>qmr (q6u c l)
  generalize hN:2*A=N at *
  generalize hq:qbl c A k=q at *
  rw[qag hl]
  simp[qaa,exT,qae,L109_0,List.range,List.range.loop,e1,e4,e45,e46,hk',hc,hu1,wk]
  exact⟨⟨l',rfl,fun t=>by rw[hu2,qkc,hq,hkeys t]⟩,⟨by simp[qde,hn],rfl,rfl,rfl⟩,by rw[hN];rfl,rfl⟩
 .rintro⟨s,hh⟩ ⟨⟨l,rfl,hkeys⟩,⟨hnn,hl,e1,e4⟩,e45,e46⟩
  simp only at hl e1 e4 e45 e46
  have hn:∀j,qao s j ≠ .nils:=qcd hnn
  rw[qag hl]
  simp[L109_0,ztk,List.range,List.range.loop,e1,e4,e45,e46]
  exact⟨⟨l,rfl,hkeys⟩,⟨by simp[qde,hn],rfl,rfl,rfl⟩⟩
def ztg(c:Ct)(A k:Nat)(st:St):Prop:=(∃l,st.h=hX c l []/\qlq c A (2*A+k) l)/\Keep84 st.s/\qao st.s 59=.imm (c.inputs.map zai)/\qao st.s 60=num c.inputs.length/\qao st.s 61=num k/\goE (qtt c A) 0 c.inputs.length=goE (qtt c A) k (c.inputs.length-k)
def zqc(c:Ct)(A:Nat)(r:R):Prop:=(r.x=.exit 2/\(∃l,r.st.h=hX c l []/\qlq c A (qak c A) l)/\Keep84 r.st.s/\goE (qtt c A) 0 c.inputs.length=0)\/(r.x=.ret/\r.st.s.length=111/\qao r.st.s 2=.undef/\qao r.st.s 3=num (goE (qtt c A) 0 c.inputs.length)/\goE (qtt c A) 0 c.inputs.length≠0/\∃l,r.st.h=hX c l [])
theorem znr{c:Ct}{A:Nat}(h:Mid c A)(st:St)(h0:ztg c A 0 st):∃r,ev pg (.code (.going 4 L109_1) st)=some r/\zqc c A r:=by
 refine qbh (ztg c A) c.inputs.length (zqc c A) h0 ?_ ?_
 .rintro k ⟨s,hh⟩ hk ⟨⟨l,rfl,hkeys⟩,⟨hnn,hl,e1,e4⟩,e59,e60,e61,he⟩
  simp only at hl e1 e4 e59 e60 e61
  have hn:∀j,qao s j ≠ .nils:=qcd hnn
  obtain⟨hA,h1,h2,h3,h4⟩:=h
  have hk':(k:Int)<c.inputs.length:=by omega
  have wk:=qab (n:=(k:Int)+1) (by omega) (by omega)
  obtain⟨l',hc,hl'⟩:=ev186 c l [] (fun l=>q6u c l) c.inputs[k]
  rw[q2l hk]at he
  have hF:qdr (l.map Prod.fst) c.inputs[k]=qtt c A k:=by
   rw[qrt hkeys,qtt,qud c A k hk]
  rw[hF]at hc hl'
  have hkeys':qtt c A k=0->qlq c A (2*A+(k+1)) l':=fun h0=>by
   rcases hl' with⟨_,h⟩ | ⟨h,_⟩
   .intro q
    rw[h q,show 2*A+(k+1)=2*A+k+1 by omega,qkc,hkeys q,qud c A k hk]
   .exact absurd h0 h
  generalize qtt c A k=f at *
  rw[qag hl]
  by_cases b:f=0
  .rw[if_pos b]at he
   simp[L109_1,List.range,List.range.loop,e1,e4,e59,e60,e61,hk,hk',hc,b,wk]
   exact⟨⟨l',rfl,hkeys' b⟩,⟨by simp[qde,hn],rfl,rfl,rfl⟩,rfl,rfl,rfl,he⟩
  .rw[if_neg b]at he
   simp[L109_1,zqc,List.range,List.range.loop,e1,e4,e59,e60,e61,hk,hk',hc,b,he]
   exact⟨l',rfl⟩
 .rintro⟨s,hh⟩ ⟨⟨l,rfl,hkeys⟩,⟨hnn,hl,e1,e4⟩,e59,e60,e61,he⟩
  simp only[Nat.sub_self,goE]at hl e1 e4 e59 e60 e61 he
  have hn:∀j,qao s j ≠ .nils:=qcd hnn
  rw[qag hl]
  simp[L109_1,zqc,List.range,List.range.loop,e1,e4,e59,e60,e61,he]
  exact⟨⟨l,rfl,hkeys⟩,⟨by simp[qde,hn],rfl,rfl,rfl⟩⟩
def zth(c:Ct)(A k:Nat)(st:St):Prop:=(∃l,st.h=hX c l []/\qlq c A (qak c A+k) l)/\Keep84 st.s/\qao st.s 74=num c.signals.length/\qao st.s 75=num k/\goE (qqx c A) 0 c.signals.length=goE (qqx c A) k (c.signals.length-k)
def zqd(c:Ct)(A:Nat)(r:R):Prop:=(r.x=.exit 4/\(∃l,r.st.h=hX c l [])/\Keep84 r.st.s/\goE (qqx c A) 0 c.signals.length=0)\/(r.x=.ret/\r.st.s.length=111/\qao r.st.s 2=.undef/\qao r.st.s 3=num (goE (qqx c A) 0 c.signals.length)/\goE (qqx c A) 0 c.signals.length≠0/\∃l,r.st.h=hX c l [])
theorem zns{c:Ct}{A:Nat}(h:Mid c A)(hfew:c.small=true)(st:St)(h0:zth c A 0 st):∃r,ev pg (.code (.going 4 L109_2) st)=some r/\zqd c A r:=by
 refine qbh (zth c A) c.signals.length (zqd c A) h0 ?_ ?_
 .rintro k ⟨s,hh⟩ hk ⟨⟨l,rfl,hkeys⟩,⟨hnn,hl,e1,e4⟩,e74,e75,he⟩
  simp only at hl e1 e4 e74 e75
  have hn:∀j,qao s j ≠ .nils:=qcd hnn
  obtain⟨_,hon,hoff⟩:=(qfx hfew).2.2.2.2.2 _ (jH hk)
  obtain⟨l',hc,hl'⟩:=ev187 h l k hk hon hoff
  obtain⟨hA,h1,h2,h3,h4⟩:=h
  have hk':(k:Int)<c.signals.length:=by omega
  have wk:=qab (n:=(k:Int)+1) (by omega) (by omega)
  rw[q2l hk]at he
  have hF:zei c A (l.map Prod.fst) k c.signals[k]=qqx c A k:=by
   rw[q5p c A hkeys,zol]
   unfold qqx
   rw[jA hk]
  have hkeys':qqx c A k=0->qlq c A (qak c A+(k+1)) l':=fun h0=>by
   rcases hl' with⟨_,h⟩ | ⟨h,_⟩
   .intro q
    rw[h q,show qak c A+(k+1)=qak c A+k+1 by omega,qkc,hkeys q,qoq c A k hk]
   .rw[<-hF]at h0
    unfold zei at h0
    rw[if_neg h]at h0
    exact absurd h0 h
  rw[hF]at hc
  generalize qqx c A k=f at *
  rw[qag hl]
  by_cases b:f=0
  .rw[if_pos b]at he
   simp[L109_2,List.range,List.range.loop,e1,e4,e74,e75,hk',hc,b,wk]
   exact⟨⟨l',rfl,hkeys' b⟩,⟨by simp[qde,hn],rfl,rfl,rfl⟩,rfl,rfl,he⟩
  .rw[if_neg b]at he
   simp[L109_2,zqd,List.range,List.range.loop,e1,e4,e74,e75,hk',hc,b,he]
   exact⟨l',rfl⟩
 .rintro⟨s,hh⟩ ⟨⟨l,rfl,hkeys⟩,⟨hnn,hl,e1,e4⟩,e74,e75,he⟩
  simp only[Nat.sub_self,goE]at hl e1 e4 e74 e75 he
  have hn:∀j,qao s j ≠ .nils:=qcd hnn
  rw[qag hl]
  simp[L109_2,zqd,List.range,List.range.loop,e1,e4,e74,e75,he]
  exact⟨⟨l,rfl⟩,⟨by simp[qde,hn],rfl,rfl,rfl⟩⟩
theorem ev109(c:Ct)(hfew:c.small=true):∃v z,ev pg (.call (.fn 109 [] []) [c.v] [⟨0,.box c.cells⟩])=some { v:=.tup [v,num c.check],st:=⟨[],z⟩ }:=by
 obtain⟨f1,f2,f3,f4,_⟩:=qfx hfew
 rw[qac,pg109]
 unfold Ct.check
 by_cases a1:c.act<1
 .rw[if_pos (.inl a1)]
  simp[ir109,a1]
 by_cases a2:6<c.act
 .rw[if_pos (.inr a2)]
  simp[ir109,a1,a2]
 rw[if_neg (by omega)]
 by_cases a3:16<c.inputs.length
 .have a3':(16:Int)<(c.inputs.length:Int):=by omega
  rw[if_pos (.inl a3)]
  simp[ir109,a1,a2,a3']
 have a3':¬((16:Int)<(c.inputs.length:Int)):=by omega
 by_cases a4:64<c.signals.length
 .have a4':(64:Int)<(c.signals.length:Int):=by omega
  rw[if_pos (.inr a4)]
  simp[ir109,a1,a2,a3',a4']
 have a4':¬((64:Int)<(c.signals.length:Int)):=by omega
 rw[if_neg (by omega)]
 have hM:Mid c c.act.toNat:=⟨by omega,by omega,by omega,f1,f2⟩
 have hla:=znq hM
 have hlb:=znr hM
 have hlc:=zns hM hfew
 have hactA:c.act=(c.act.toNat:Int):=by omega
 have hA1:=hM.lo
 have hA6:=hM.hi
 have h132:=fun(l:List (Txt×Int)) (z:H) (hcl:qdb (hX c l z)) (n:Int)=>ev189 hM (h:=hX c l z) (i:=1) rfl hcl n
 have q8j:c.plus.length=c.act.toNat->_:=fun hp=>ev120 c.plus c.minus f3 f4 (by omega)
 generalize c.act.toNat=A at *
 have w1:=qab (n:=2*c.act) (by omega) (by omega)
 unfold ctE
 have hIb:∀st:St,ztg c A 0 st<->((∃l,st.h=hX c l []/\qlq c A (2*A) l)/\Keep84 st.s/\qao st.s 59=.imm (c.inputs.map zai)/\qao st.s 60=num c.inputs.length/\qao st.s 61=num 0):=fun st=>by
  unfold ztg
  exact⟨fun h=>⟨h.1,h.2.1,h.2.2.1,h.2.2.2.1,h.2.2.2.2.1⟩,fun h=>⟨h.1,h.2.1,h.2.2.1,h.2.2.2.1,h.2.2.2.2,rfl⟩⟩
 have hIc:∀st:St,zth c A 0 st<->((∃l,st.h=hX c l []/\qlq c A (qak c A) l)/\Keep84 st.s/\qao st.s 74=num c.signals.length/\qao st.s 75=num 0):=fun st=>by
  unfold zth
  exact⟨fun h=>⟨h.1,h.2.1,h.2.2.1,h.2.2.2.1⟩,fun h=>⟨h.1,h.2.1,h.2.2.1,h.2.2.2,rfl⟩⟩
 unfold zqc at hlb
 unfold zqd at hlc
 generalize goE (qtt c A) 0 c.inputs.length=ei at *
 generalize goE (qqx c A) 0 c.signals.length=es at *
 simp[ir109,a1,a2,a3',a4',w1,qaf]
 generalize hr:ev pg (.code (.going 4 L109_0) _)=o
 obtain⟨r,rfl,hx,⟨l,hh,hkeys⟩,⟨hnn,hl,g1,g4⟩⟩:∃r,o=some r/\ztk c A r:=by
  rw[<-hr]
  refine hla _ ⟨⟨[],rfl,by simp[qlq,qdi]⟩,⟨by simp[qde],by simp,by simp,by simp⟩,by simp[hactA],by simp⟩
 simp (maxDischargeDepth:=9) [hx,hh,hl,g1,qgl,qed,hnn]
 generalize hr2:ev pg (.code (.going 4 L109_1) _)=o
 obtain⟨r2,rfl,hQ2⟩:∃r,o=some r/\_:=by
  rw[<-hr2]
  exact hlb _ ((hIb _).2 ⟨⟨l,rfl,hkeys⟩,⟨by simp (maxDischargeDepth:=9) [qed,hnn],by simp[hl],by simp[g1],by simp[g4]⟩,by simp[hl],by simp[hl],by simp[hl]⟩)
 rcases hQ2 with⟨hx2,⟨l2,hh2,hkeys2⟩,⟨hnn2,hl2,g21,g24⟩,rfl⟩ | ⟨hx2,hl2,g22,g23,hE,l2,hh2⟩
 .simp (maxDischargeDepth:=9) [hx2,hh2,hl2,g21,qgl,qed,hnn2]
  generalize hr3:ev pg (.code (.going 4 L109_2) _)=o
  obtain⟨r3,rfl,hQ3⟩:∃r,o=some r/\_:=by
   rw[<-hr3]
   exact hlc _ ((hIc _).2 ⟨⟨l2,rfl,hkeys2⟩,⟨by simp (maxDischargeDepth:=9) [qed,hnn2],by simp[hl2],by simp[g21],by simp[g24]⟩,by simp[hl2],by simp[hl2]⟩)
  rcases hQ3 with⟨hx3,⟨l3,hh3⟩,⟨hnn3,hl3,g31,g34⟩,rfl⟩ | ⟨hx3,hl3,g32,g33,hE3,l3,hh3⟩
  .rw[if_pos (rfl:(0:Int)=0)]
   unfold q9v
   by_cases n1:c.plus.length=A
   .have n1b:((c.plus.length:Int) != c.act)=false:=by simp;omega
    by_cases n2:c.minus.length=A
    .have n2b:((c.minus.length:Int) != c.act)=false:=by simp;omega
     rw[if_neg (by omega)]
     have q8j:=q8j n1
     have h130:=ev188 (f:=189) (caps:=[.bptr 1 0]) (h:=hX c l3 [⟨0,.frz 1 ((c.plus++c.minus).map qdw)⟩]) (l:=c.plus++c.minus) (p:=qdz (qah c A)) (by simp;omega) rfl rfl (fun n=>h132 l3 [⟨0,.frz 1 ((c.plus++c.minus).map qdw)⟩] (by simp[qdb,qcf]) n) (by simp[qdb,qcf])
     rw[List.any_append]at h130
     generalize c.plus.any (qdz (qah c A))=P at *
     generalize c.minus.any (qdz (qah c A))=M at *
     simp only[qel,List.map_append]at h130
     cases P with
     | true=>simp[hx3,hh3,hl3,g31,n1b,n2b,q8j,h130]
     | false=>cases M with
      | true=>simp[hx3,hh3,hl3,g31,n1b,n2b,q8j,h130]
      | false=>simp[hx3,hh3,hl3,g31,g34,n1b,n2b,q8j,h130]
    .have n2b:((c.minus.length:Int) != c.act)=true:=by simp;omega
     rw[if_pos (.inr n2)]
     simp[hx3,hh3,hl3,g31,n1b,n2b]
   .have n1b:((c.plus.length:Int) != c.act)=true:=by simp;omega
    rw[if_pos (.inl n1)]
    simp[hx3,hh3,hl3,g31,n1b]
  .simp[hx3,hh3,g32,g33,hE3]
 .simp[hx2,hh2,g22,g23,hE]
theorem ev43(c:Ct)(hfew:c.small=true):ev pg (.call (.fn 43 [] []) [c.v] [])=some { v:=num c.check,st:=⟨[],[]⟩ }:=by
 obtain⟨v,z,h84⟩:=ev109 c hfew
 generalize c.check=e at *
 rw[qac,pg43]
 simp[ir43,h84]
abbrev kTa(t:H):H:=⟨0,.box [num 0]⟩ :: ⟨0,.box [num (-1)]⟩ :: ⟨0,.box [num (-1)]⟩ :: ⟨0,.box [num 0]⟩ :: ⟨0,.box [num 1]⟩ :: ⟨0,.box [num 0]⟩ :: ⟨0,.box [num 0]⟩ :: ⟨0,.box [num 1]⟩ :: t
abbrev t0t:Txt:=[32,115,116,117,99,107,32,105,110]
abbrev t1t:Txt:=[32,115,116,117,99,107,32,111,117,116]
abbrev t2t:Txt:=[32,116,114,117,101]
abbrev t3t:Txt:=[32,102,97,108,115,101]
abbrev t4t:Txt:=[32,118,97,108,118,101,32,116,114,117,101]
abbrev t5t:Txt:=[32,118,97,108,118,101,32,102,97,108,115,101]
abbrev kC(n:Nat):List V:=[.str t0t,.bool false,num 0,.fn 178 [] [.bptr (n+1) 0,.bptr (n+2) 0],.str t1t,.bool false,num 0,.fn 178 [] [.bptr (n+3) 0,.bptr (n+4) 0],.str t2t,.bool true,num 1,.nilfn,.str t3t,.bool true,num 0,.nilfn,.str t4t,.bool false,num 0,.fn 178 [] [.bptr (n+5) 0,.bptr (n+6) 0],.str t5t,.bool false,num 0,.fn 178 [] [.bptr (n+7) 0,.bptr (n+8) 0]]
theorem qrs{c:Ct}(h:c.check=0)(hfew:c.small=true):Mid c c.act.toNat:=by
 obtain⟨f1,f2,_⟩:=qfx hfew
 unfold Ct.check at h
 split at h
 .cases h
 .exact⟨by omega,by omega,by omega,f1,f2⟩
abbrev z2z(p:Int×Int):List V:=[num p.1,num p.2]
abbrev q8b(l:List (Int×Int)):V:=.imm (l.map z2z)
def zrv(k:Int):Int:=if k=2 then 1 else 0
def pil(c:Ct)(k i:Int)(j:Nat):Int×Int :=
 if k=2\/k=3 then(if c.plus.getD j 0=i then zrv k else -1,if c.minus.getD j 0=i then zrv k else -1)
 else if(j:Int)=i then(if k=0 then(0,-1)else if k=1 then(-1,0)else if k=4 then(1,0)else(0,1))else(-1,-1)
def qoe(f:Nat->Bool)(b:Int)(n:Nat):List Int:=((List.range n).filter f).map fun(j:Nat)=>b+(j:Int)
theorem qkj(f:Nat->Bool)(b:Int)(n:Nat):qoe f b (n+1)=if f n=true then qoe f b n++[b+(n:Int)]else qoe f b n:=by
 unfold qoe
 rw[List.range_succ,List.filter_append,List.map_append]
 cases h:f n<;>simp[h]
theorem qgj(f:Nat->Bool)(b:Int)(n:Nat):(qoe f b n).length<=n:=by
 unfold qoe
 rw[List.length_map]
 exact Nat.le_trans (List.length_filter_le _ _) (by simp)
theorem q3i(f:Nat->Bool)(b:Int)(n:Nat)(v:Int):v∈qoe f b n<->∃j:Nat,j<n/\f j=true/\v=b+(j:Int):=by
 unfold qoe
 simp only[List.mem_map,List.mem_filter,List.mem_range]
 constructor
 .rintro⟨j,⟨h1,h2⟩,rfl⟩
  exact⟨j,h1,h2,rfl⟩
 .rintro⟨j,h1,h2,rfl⟩
  exact⟨j,⟨h1,h2⟩,rfl⟩
theorem qmz{f:Nat->Int}:∀{n k:Nat},goE f k n=0->∀j,k<=j->j<k+n->f j=0
 | 0,k,_,j,h1,h2=>by omega
 | n+1,k,h,j,h1,h2=>by
  rw[goE]at h
  by_cases hf:f k=0
  .rw[if_pos hf]at h
   by_cases hj:j=k
   .rw[hj];exact hf
   .exact qmz h j (by omega) (by omega)
  .rw[if_neg hf]at h
   exact absurd h hf
structure Rgt(c:Ct)(A:Nat):Prop where
 mid:Mid c A
 plus:c.plus.length=A
 minus:c.minus.length=A
 on:∀x∈c.signals,x.on.err (qah c A:Nat)=0
 off:∀x∈c.signals,x.off.err (qah c A:Nat)=0\/x.off.zero=true
 name:∀i x,c.signals[i]?=some x->qdr (qdi c A (qak c A+i)) x.name=0
 inp:∀j,j<c.inputs.length->qdr (qdi c A (2*A+j)) (qbl c A (2*A+j))=0
 pp:c.plus.any (qdz (qah c A))=false
 mm:c.minus.any (qdz (qah c A))=false
theorem qsf{c:Ct}(h:c.check=0)(hfew:c.small=true):Rgt c c.act.toNat:=by
 have hM:=qrs h hfew
 generalize hA:c.act.toNat=A at *
 have h2:ctE c A=0:=by
  unfold Ct.check at h
  split at h
  .cases h
  .split at h
   .cases h
   .rw[hA]at h;exact h
 unfold ctE at h2
 split at h2
 .rename_i hi
  split at h2
  .rename_i hs
   have hsig:∀i x,c.signals[i]?=some x->q3m c A (qdi c A (qak c A+i)) i x=0:=fun i x hx=>by
    have hil:i<c.signals.length:=by
     rcases Nat.lt_or_ge i c.signals.length with h | h
     .exact h
     .rw[jX h]at hx;cases hx
    have h3:=qmz hs i (by omega) (by omega)
    unfold qqx at h3
    rw[hx]at h3
    exact h3
   unfold q9v at h2
   split at h2
   .cases h2
   .rename_i hpl
    split at h2
    .cases h2
    .rename_i hbad
     refine⟨hM,by omega,by omega,fun x hx=>?_,fun x hx=>?_,fun i x hx=>?_,fun j hj=>qmz hi j (by omega) (by omega),?_,?_⟩
     .obtain⟨i,hil,rfl⟩:=List.mem_iff_getElem.1 hx
      have h3:=hsig i _ (jA hil)
      unfold q3m at h3
      split at h3
      .split at h3
       .cases h3
       .split at h3
        .rename_i h4;exact qmt h4
        .rename_i h4;exact absurd h3 h4
      .rename_i h4;exact absurd h3 h4
     .obtain⟨i,hil,rfl⟩:=List.mem_iff_getElem.1 hx
      have h3:=hsig i _ (jA hil)
      unfold q3m at h3
      split at h3
      .split at h3
       .cases h3
       .rename_i hkr
        split at h3
        .by_cases hk1:c.signals[i].kind=1
         .refine .inl (qmt ?_)
          split at h3
          .rename_i h5;exact absurd h3 h5.2
          .rename_i h5
           exact Classical.byContradiction fun hne=>h5 ⟨hk1,hne⟩
         .refine .inr ?_
          split at h3
          .rename_i h5;exact absurd h5.1 hk1
          .split at h3
           .cases h3
           .split at h3
            .cases h3
            .split at h3
             .cases h3
             .rename_i h6
              cases hz:c.signals[i].off.zero with
              | true=>rfl
              | false=>exact absurd (.inl ⟨hk1,.inl hz⟩) h6
        .rename_i h4;exact absurd h3 h4
      .rename_i h4;exact absurd h3 h4
     .have h3:=hsig i x hx
      unfold q3m at h3
      split at h3
      .rename_i h4;exact h4
      .exact h3
     .cases hb:c.plus.any (qdz (qah c A))with
      | false=>rfl
      | true=>exact absurd (.inl hb) hbad
     .cases hb:c.minus.any (qdz (qah c A))with
      | false=>rfl
      | true=>exact absurd (.inr hb) hbad
  .rename_i h4;exact absurd h2 h4
 .rename_i h4;exact absurd h2 h4
end Go.Proofs.YtddeacahiilikaaGreat
