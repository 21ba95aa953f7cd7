/- What a fault touches, by the program. -/
import Derived.Test.YtbepbclaoohngaaGreatTo2
set_option linter.all false
namespace Go.Proofs.YtbepbclaoohngaaGreat
open Go Go.Am Go.Proofs
set_option maxRecDepth 100000
theorem zns{n:Int}{l:List Ex}(ih:∀y∈l,y.had n=y.occ n):qyx n l=q0j n l:=by
 induction l with
 | nil=>rfl
 | cons y l ihl=>rw[qyx,q0j,ih y (by simp),ihl fun z hz=>ih z (by simp[hz])]
theorem qwm(n m:Int):∀x:Ex,x.err m=0->x.had n=x.occ n:=by
 refine Ex.ind fun x ih hx=>?_
 obtain⟨h1,h2⟩:=qil hx
 rw[zav,qxh]
 by_cases ho:x.op=1
 .have ha:x.args=[]:=List.length_eq_zero_iff.1 (q2w h1 ho)
  rw[if_pos ho,ha]
  by_cases hi:x.idx=n
  .simp[ho,hi]
  .simp[hi,qyx]
 .rw[if_neg (fun h=>ho h.1),if_neg ho]
  exact zns fun y hy=>ih y hy (h2 y hy)
theorem zaw(n:Int)(x:Ex)(h:x.zero=true):x.had n=x.occ n:=by
 simp only[Ex.zero,jE,jW]at h
 obtain⟨⟨h1,h2⟩,h3⟩:=h
 have ha:x.args=[]:=List.length_eq_zero_iff.1 h3
 rw[zav,qxh,h1,ha]
 simp[qyx,q0j]
structure Keep17(c:Ct)(F:Nat)(j:Nat)(st:List V):Prop where
 nn:qaq st
 len:st.length=93
 t2:qag st 2=.bptr 0 0
 t3:qag st 3=.bptr 1 0
 t8:qag st 8=num F
 t31:qag st 31=.imm (c.signals.map Sg.row)
 t32:qag st 32=num c.signals.length
 t33:qag st 33=num j
structure Keep17e(st:List V):Prop where
 nn:qaq st
 len:st.length=93
 t2:qag st 2=.bptr 0 0
 t3:qag st 3=.bptr 1 0
def z4a(c:Ct)(A:Nat)(k i:Int)(j:Nat)(st:St):Prop:=∃g m,st.h=h18 c k i g m (qim (qfx c.signals k i) (qal c A) j)/\(m=1\/m=0)/\Keep17 c (qal c A) j st.s/\qag st.s 7=.sl 3 g m 0 (qim (qfx c.signals k i) (qal c A) j).length
def z4k(c:Ct)(A:Nat)(k i:Int)(r:R):Prop:=r.x=.exit 0/\∃g m,r.st.h=h18 c k i g m (qim (qfx c.signals k i) (qal c A) c.signals.length)/\(m=1\/m=0)/\Keep17e r.st.s/\qag r.st.s 7=.sl 3 g m 0 (qim (qfx c.signals k i) (qal c A) c.signals.length).length
theorem zul(n kn:Nat)(hk:kn<6):∃t v w,((kC n).drop (kn*4)).take 4=[.str t,.bool (decide (kn=2\/kn=3)),num v,w]:=by
 rcases (by omega:kn=0\/kn=1\/kn=2\/kn=3\/kn=4\/kn=5)with rfl | rfl | rfl | rfl | rfl | rfl<;>exact⟨_,_,_,rfl⟩
set_option maxHeartbeats 1000000 in
theorem zuz{c:Ct}{A:Nat}(h:Rgt c A)(hfew:c.small=true)(k:Nat)(hk:k<6)(i:Int)(st:St)(h0:z4a c A k i 0 st):∃r,ev pg (.code (.going 4 L37_0) st)=some r/\z4k c A k i r:=by
 have hsig:=h.mid.sig
 refine qat (z4a c A k i) c.signals.length (z4k c A k i) h0 ?_ ?_
 .rintro j ⟨s,hh⟩ hj ⟨g,m,rfl,hm,⟨hnn,hl,e2,e3,e8,e31,e32,e33⟩,e7⟩
  simp only at hl e2 e3 e7 e8 e31 e32 e33
  have hnl:∀j,qag s j ≠ .nils:=qas hnn
  have wj:=qbs (k:=j) (by omega)
  have hj':(j:Int)<c.signals.length:=by omega
  have hmem:=jH hj
  have hget:=jA hj
  obtain⟨_,hon,hoff⟩:=(qdd hfew).2.2.2.2.2 _ hmem
  have h71a:=ev82 c.signals[j].on i 0 (qcr hon).1
  have h71b:=ev82 c.signals[j].off i 0 (qcr hoff).1
  rw[qwm i _ _ (h.on _ hmem)]at h71a
  rw[show c.signals[j].off.had i=c.signals[j].off.occ i from(h.off _ hmem).elim (qwm i _ _) (zaw i _)]at h71b
  have hcn:qad c A<=172:=by
   obtain⟨hA,h1,h2,h3,h4⟩:=h.mid
   unfold qad
   omega
  obtain⟨t,v,w,hkind⟩:=zul 11 k hk
  have hk4:4<=24-k*4:=by omega
  have hlen:=qlu (qfx c.signals k i) (qal c A) j
  have hsu:=qrt (qfx c.signals k i) (qal c A) j
  have hF:qfx c.signals k i j=(decide (k=2\/k=3)&&(c.signals[j].on.occ i||c.signals[j].off.occ i)):=by
   unfold qfx
   rw[jA hj]
   have:((k:Int)=2\/(k:Int)=3)<->(k=2\/k=3):=by omega
   simp only[this]
   rfl
  rw[hF]at hsu
  have hfc:qal c A<=qad c A:=by unfold qal qad;omega
  have hKeep:∀st,qaq st->st.length=93->qag st 2=.bptr 0 0->qag st 3=.bptr 1 0->qag st 8=num (qal c A:Nat)->qag st 31=.imm (c.signals.map Sg.row)->qag st 32=num c.signals.length->qag st 33=num (j+1:Nat)->Keep17 c (qal c A) (j+1) st:=fun st a b d e f g h i=>⟨a,b,d,e,f,g,h,i⟩
  unfold z4a
  generalize qim (qfx c.signals k i) (qal c A) (j+1)=l' at *
  generalize qim (qfx c.signals k i) (qal c A) j=l at *
  have h47:(l.length+1)*8<=140737488355328:=by omega
  generalize qal c A=F at *
  have w2:=qan (n:=(F:Int)+(j:Int)) (by omega) (by omega)
  generalize c.signals[j].on.occ i=b1 at *
  generalize c.signals[j].off.occ i=b2 at *
  generalize c.signals[j].on.repl i 0=y1 at *
  generalize c.signals[j].off.repl i 0=y2 at *
  generalize decide (k=2\/k=3)=bl at *
  have h67:=ev83
  rw[qac hl]
  cases bl with
  | false =>
   simp[qaa,exT,qak,L37_0,List.range,List.range.loop,e2,e3,e7,e8,e31,e32,e33,hget,hj',h71a,h71b,h67,hk,hk4,hkind,wj]
   have hsu':l'=l:=by simpa using hsu
   exact⟨_,_,⟨rfl,rfl,by rw[hsu']⟩,hm,hKeep _ (by simp[qaq,hnl]) rfl rfl rfl rfl rfl rfl rfl,rfl,rfl,by rw[hsu']⟩
  | true=>cases b1 with
   | true =>
    simp[qaa,exT,qak,L37_0,List.range,List.range.loop,e2,e3,e7,e8,e31,e32,e33,hget,hj',h71a,h71b,h67,hk,hk4,hkind,w2,wj,hm,h47]
    have hsu':l'=l++[(F:Int)+(j:Int)]:=by simpa using hsu
    exact⟨_,_,⟨rfl,rfl,by rw[hsu'];simp⟩,.inl rfl,hKeep _ (by simp[qaq,hnl]) rfl rfl rfl rfl rfl rfl rfl,rfl,rfl,by rw[hsu'];simp⟩
   | false=>cases b2 with
    | true =>
     simp[qaa,exT,qak,L37_0,List.range,List.range.loop,e2,e3,e7,e8,e31,e32,e33,hget,hj',h71a,h71b,h67,hk,hk4,hkind,w2,wj,hm,h47]
     have hsu':l'=l++[(F:Int)+(j:Int)]:=by simpa using hsu
     exact⟨_,_,⟨rfl,rfl,by rw[hsu'];simp⟩,.inl rfl,hKeep _ (by simp[qaq,hnl]) rfl rfl rfl rfl rfl rfl rfl,rfl,rfl,by rw[hsu'];simp⟩
    | false =>
     simp[qaa,exT,qak,L37_0,List.range,List.range.loop,e2,e3,e7,e8,e31,e32,e33,hget,hj',h71a,h71b,h67,hk,hk4,hkind,wj]
     have hsu':l'=l:=by simpa using hsu
     exact⟨_,_,⟨rfl,rfl,by rw[hsu']⟩,hm,hKeep _ (by simp[qaq,hnl]) rfl rfl rfl rfl rfl rfl rfl,rfl,rfl,by rw[hsu']⟩
 .rintro⟨s,hh⟩ ⟨g,m,rfl,hm,⟨hnn,hl,e2,e3,e8,e31,e32,e33⟩,e7⟩
  simp only at hl e2 e3 e7 e8 e31 e32 e33
  have hnl:∀j,qag s j ≠ .nils:=qas hnn
  unfold z4k
  generalize qim (qfx c.signals k i) (qal c A) c.signals.length=l at *
  rw[qac hl]
  simp[L37_0,List.range,List.range.loop,e2,e3,e7,e8,e31,e32,e33]
  exact⟨_,_,⟨rfl,rfl⟩,hm,⟨by simp[qaq,hnl],rfl,rfl,rfl⟩,rfl,rfl⟩
theorem zjw(c:Ct)(k i:Int)(j:Nat):-1<=(pil c k i j).1/\-1<=(pil c k i j).2:=by
 unfold pil qcd
 split
 .refine⟨?_,?_⟩<;>(simp only;split<;>(try split)<;>omega)
 .split
  .split
   .exact⟨by omega,by omega⟩
   .split
    .exact⟨by omega,by omega⟩
    .split
     .exact⟨by omega,by omega⟩
     .exact⟨by omega,by omega⟩
  .exact⟨by omega,by omega⟩
structure Keep17b(c:Ct)(A:Nat)(k i:Int)(j:Nat)(st:List V):Prop where
 nn:qaq st
 len:st.length=93
 t2:qag st 2=.bptr 0 0
 t3:qag st 3=.bptr 1 0
 t74:qag st 74=qgw (qft c k i A)
 t75:qag st 75=num A
 t76:qag st 76=num j
def z4b(c:Ct)(A:Nat)(k i:Int)(P:List Int)(j:Nat)(st:St):Prop:=∃g m,st.h=h18 c k i g m (P++qim (q3y c k i) (qad c A) j)/\(m=1\/m=0)/\Keep17b c A k i j st.s/\qag st.s 7=.sl 3 g m 0 (P++qim (q3y c k i) (qad c A) j).length
def z4l(c:Ct)(A:Nat)(k i:Int)(P:List Int)(r:R):Prop:=r.x=.exit 2/\∃g m,r.st.h=h18 c k i g m (P++qim (q3y c k i) (qad c A) A)/\r.st.s.length=93/\qag r.st.s 7=.sl 3 g m 0 (P++qim (q3y c k i) (qad c A) A).length
theorem zva{c:Ct}{A:Nat}(h:Mid c A)(k i:Int)(P:List Int)(hP:P.length<=200)(st:St)(h0:z4b c A k i P 0 st):∃r,ev pg (.code (.going 4 L37_1) st)=some r/\z4l c A k i P r:=by
 have h73:=ev85 h
 have hA6:=h.hi
 have hcn:qad c A<=172:=by
  obtain⟨hA,h1,h2,h3,h4⟩:=h
  unfold qad
  omega
 refine qat (z4b c A k i P) A (z4l c A k i P) h0 ?_ ?_
 .rintro j ⟨s,hh⟩ hj ⟨g,m,rfl,hm,⟨hnn,hl,e2,e3,e74,e75,e76⟩,e7⟩
  simp only at hl e2 e3 e7 e74 e75 e76
  have hnl:∀j,qag s j ≠ .nils:=qas hnn
  have wj:=qbs (k:=j) (by omega)
  have hj':(j:Int)<A:=by omega
  have hget:=zox c k i A j hj
  have hlen:(P++qim (q3y c k i) (qad c A) j).length<=300:=by
   have:=qlu (q3y c k i) (qad c A) j
   rw[jF]
   omega
  have hsu:P++qim (q3y c k i) (qad c A) (j+1)=if(decide (0<=(pil c k i j).1)||decide (0<=(pil c k i j).2))=true then(P++qim (q3y c k i) (qad c A) j)++[(qad c A:Int)+(j:Int)]else P++qim (q3y c k i) (qad c A) j:=by
   rw[qrt,List.append_assoc]
   show P++(if(decide (0<=(pil c k i j).1)||decide (0<=(pil c k i j).2))=true then _ else _)=_
   split<;>rfl
  obtain⟨hx1,hy1⟩:=zjw c k i j
  generalize hp:pil c k i j=p at *
  obtain⟨x,y⟩:=p
  simp only at hsu hx1 hy1
  have hKeep:∀st,qaq st->st.length=93->qag st 2=.bptr 0 0->qag st 3=.bptr 1 0->qag st 74=qgw (qft c k i A)->qag st 75=num A->qag st 76=num (j+1:Nat)->Keep17b c A k i (j+1) st:=fun st a b d e f g h=>⟨a,b,d,e,f,g,h⟩
  unfold z4b
  generalize P++qim (q3y c k i) (qad c A) (j+1)=l' at *
  generalize P++qim (q3y c k i) (qad c A) j=l at *
  have h47:(l.length+1)*8<=140737488355328:=by omega
  generalize qad c A=F at *
  have w2:=qan (n:=(F:Int)+(j:Int)) (by omega) (by omega)
  generalize qft c k i A=pl at *
  rw[qac hl]
  by_cases hx:x=-1
  .rw[decide_eq_false (by omega:¬0<=x),Bool.false_or]at hsu
   by_cases hy:y=-1
   .rw[decide_eq_false (by omega:¬0<=y),if_neg (by simp)]at hsu
    simp[L37_1,List.range,List.range.loop,e2,e3,e7,e74,e75,e76,hj',hget,hx,hy,wj]
    exact⟨_,_,⟨rfl,rfl,by rw[hsu]⟩,hm,hKeep _ (by simp[qaq,hnl]) rfl rfl rfl rfl rfl rfl,rfl,rfl,by rw[hsu]⟩
   .have hyb:(y==-1)=false:=by simpa using hy
    rw[decide_eq_true (by omega:0<=y),if_pos rfl]at hsu
    simp[L37_1,List.range,List.range.loop,e2,e3,e7,e74,e75,e76,hj',hget,hx,hyb,h73,w2,wj,hm,h47]
    exact⟨_,_,⟨rfl,rfl,by rw[hsu];simp⟩,.inl rfl,hKeep _ (by simp[qaq,hnl]) rfl rfl rfl rfl rfl rfl,rfl,rfl,by rw[hsu];simp⟩
  .have hxb:(x==-1)=false:=by simpa using hx
   rw[decide_eq_true (by omega:0<=x),Bool.true_or,if_pos rfl]at hsu
   simp[L37_1,List.range,List.range.loop,e2,e3,e7,e74,e75,e76,hj',hget,hxb,h73,w2,wj,hm,h47]
   exact⟨_,_,⟨rfl,rfl,by rw[hsu];simp⟩,.inl rfl,hKeep _ (by simp[qaq,hnl]) rfl rfl rfl rfl rfl rfl,rfl,rfl,by rw[hsu];simp⟩
 .rintro⟨s,hh⟩ ⟨g,m,rfl,hm,⟨hnn,hl,e2,e3,e74,e75,e76⟩,e7⟩
  simp only at hl e2 e3 e7 e74 e75 e76
  unfold z4l
  generalize P++qim (q3y c k i) (qad c A) A=l at *
  rw[qac hl]
  simp[L37_1,List.range,List.range.loop,e2,e3,e7,e74,e75,e76]
theorem ev37(c:Ct)(hfew:c.small=true)(k i:Int):ev pg (.call (.fn 37 [] []) [c.v,fv k i] [])=some { v:=.tup [qes (qun c k i),num (qtv c k i)],st:=⟨[],[]⟩ }:=by
 have h19:=ev81 c hfew k i
 unfold qun
 by_cases he:qtv c k i=0
 .obtain⟨hc,hk,hi0,hiN,hiA⟩:=qhr he
  have hR:=qgq hc hfew
  have hla:=fun(kn:Nat) hkn=>zuz hR hfew kn hkn i
  have hP:=qlu (qfx c.signals k i) (qal c c.act.toNat) c.signals.length
  have hsg:=hR.mid.sig
  have hlb:=zva hR.mid k i (qim (qfx c.signals k i) (qal c c.act.toNat) c.signals.length) (by omega)
  have h72:=ev84 hR.mid hR.plus hR.minus k i hk
  have hpl:=qlm c k i c.act.toNat
  have hA:=hR.mid.act
  have hA6:=hR.mid.hi
  have hinp:=hR.mid.inp
  rw[if_pos he]
  unfold zky
  rw[he]at h19 ⊢
  have hla:=hla k.toNat (by omega)
  rw[show((k.toNat:Nat):Int)=k by omega]at hla
  generalize c.act.toNat=A at *
  have hIa:∀st:St,(st.h=h18 c k i 0 0 []/\Keep17 c (qal c A) 0 st.s/\qag st.s 7=.sl 3 0 0 0 0)->z4a c A k i 0 st:=fun st h=>⟨0,0,h.1,.inr rfl,h.2.1,h.2.2⟩
  have hIb:∀g m,(m=1\/m=0)->∀st:St,(st.h=h18 c k i g m (qim (qfx c.signals k i) (qal c A) c.signals.length)/\Keep17b c A k i 0 st.s/\qag st.s 7=.sl 3 g m 0 (qim (qfx c.signals k i) (qal c A) c.signals.length).length)->z4b c A k i (qim (qfx c.signals k i) (qal c A) c.signals.length) 0 st:=fun g m hm st h=>⟨g,m,by rw[h.1];simp[qim],hm,h.2.1,by rw[h.2.2];simp[qim]⟩
  have hKa:∀st,qaq st->st.length=93->qag st 2=.bptr 0 0->qag st 3=.bptr 1 0->qag st 8=num (2*c.act+(c.inputs.length:Int))->qag st 31=.imm (c.signals.map Sg.row)->qag st 32=num c.signals.length->qag st 33=num 0->Keep17 c (qal c A) 0 st:=fun st a b d e f g h i=>⟨a,b,d,e,by rw[f,hA];simp,g,h,i⟩
  unfold z4k at hla
  unfold z4l at hlb
  have hKb:∀st,qaq st->st.length=93->qag st 2=.bptr 0 0->qag st 3=.bptr 1 0->qag st 74=qgw (qft c k i A)->qag st 75=num A->qag st 76=num 0->Keep17b c A k i 0 st:=fun st a b d e f g h=>⟨a,b,d,e,f,g,h⟩
  generalize qim (qfx c.signals k i) (qal c A) c.signals.length=P at *
  generalize P++qim (q3y c k i) (qad c A) A=L at *
  generalize qft c k i A=pl at *
  have w1:=qan (n:=2*c.act) (by omega) (by omega)
  have w2:=qan (n:=2*c.act+(c.inputs.length:Int)) (by omega) (by omega)
  rw[qab,pg37]
  simp[ir37,h19,w1,w2,qam]
  generalize hr:ev pg (.code (.going 4 L37_0) _)=o
  obtain⟨r,rfl,hx,g,m,hh,hm,⟨hrn,hrl,r2,r3⟩,r7⟩:∃r,o=some r/\_:=by
   rw[<-hr]
   exact hla _ (hIa _ ⟨by simp,hKa _ (by simp[qaq]) rfl rfl rfl rfl rfl rfl rfl,by simp⟩)
  simp (maxDischargeDepth:=9) [hx,hh,hrl,r2,r3,h72,qcz,qdn,hrn,hpl]
  generalize hr':ev pg (.code (.going 4 L37_1) _)=o
  obtain⟨q,rfl,hqx,g',m',hqh,hql,q7⟩:∃r,o=some r/\_:=by
   rw[<-hr']
   exact hlb _ (hIb g m hm _ ⟨rfl,hKb _ (by simp (maxDischargeDepth:=9) [qdn,hrn]) (by simp[hrl]) (by simp[r2]) (by simp[r3]) (by simp[hrl]) (by simp[hrl]) (by simp[hrl]),by simp[r7]⟩)
  simp[hqx,hqh,hql,q7]
 .rw[if_neg he]
  generalize qtv c k i=e at *
  rw[qab,pg37]
  simp[ir37,h19,he]
end Go.Proofs.YtbepbclaoohngaaGreat
