/- What a fault touches, by the program. Texts of faults. Faults out of texts. The faulty control. -/
import Derived.Test.YtddeacahiilikaaGreatTo2
set_option linter.all false
namespace Go.Proofs.YtddeacahiilikaaGreat
open Go Go.Am Go.Proofs
set_option maxRecDepth 100000
theorem zlg{n:Int}{l:List Ex}(ih:∀y∈l,y.had n=y.occ n):q2o n l=q1f n l:=by
 induction l with
 | nil=>rfl
 | cons y l ihl=>rw[q2o,q1f,ih y (by simp),ihl fun z hz=>ih z (by simp[hz])]
theorem zhn(n m:Int):∀x:Ex,x.err m=0->x.had n=x.occ n:=by
 refine Ex.ind fun x ih hx=>?_
 obtain⟨h1,h2⟩:=qmz hx
 rw[zfg,qxx]
 by_cases ho:x.op=1
 .have ha:x.args=[]:=List.length_eq_zero_iff.1 (q8g h1 ho)
  rw[if_pos ho,ha]
  by_cases hi:x.idx=n
  .simp[ho,hi]
  .simp[hi,q2o]
 .rw[if_neg (fun h=>ho h.1),if_neg ho]
  exact zlg fun y hy=>ih y hy (h2 y hy)
theorem zma(n:Int)(x:Ex)(h:x.zero=true):x.had n=x.occ n:=by
 simp only[Ex.zero,jE,jW]at h
 obtain⟨⟨h1,h2⟩,h3⟩:=h
 have ha:x.args=[]:=List.length_eq_zero_iff.1 h3
 rw[zfg,qxx,h1,ha]
 simp[q2o,q1f]
structure Keep17(c:Ct)(F:Nat)(j:Nat)(st:List V):Prop where
 nn:qat st
 len:st.length=93
 t2:qai st 2=.bptr 0 0
 t3:qai st 3=.bptr 1 0
 t8:qai st 8=num F
 t31:qai st 31=.imm (c.signals.map Sg.row)
 t32:qai st 32=num c.signals.length
 t33:qai st 33=num j
structure Keep17e(st:List V):Prop where
 nn:qat st
 len:st.length=93
 t2:qai st 2=.bptr 0 0
 t3:qai st 3=.bptr 1 0
def z7k(c:Ct)(A:Nat)(k i:Int)(j:Nat)(st:St):Prop:=∃g m,st.h=h18 c k i g m (qib (qgg c.signals k i) (qal c A) j)/\(m=1\/m=0)/\Keep17 c (qal c A) j st.s/\qai st.s 7=.sl 3 g m 0 (qib (qgg c.signals k i) (qal c A) j).length
def z9n(c:Ct)(A:Nat)(k i:Int)(r:R):Prop:=r.x=.exit 0/\∃g m,r.st.h=h18 c k i g m (qib (qgg c.signals k i) (qal c A) c.signals.length)/\(m=1\/m=0)/\Keep17e r.st.s/\qai r.st.s 7=.sl 3 g m 0 (qib (qgg c.signals k i) (qal c A) c.signals.length).length
theorem zwg(n kn:Nat)(hk:kn<6):∃t v w,((kC n).drop (kn*4)).take 4=[.str t,.bool (decide (kn=2\/kn=3)),num v,w]:=by
 rcases (by omega:kn=0\/kn=1\/kn=2\/kn=3\/kn=4\/kn=5)with rfl | rfl | rfl | rfl | rfl | rfl<;>exact⟨_,_,_,rfl⟩
set_option maxHeartbeats 1000000 in
theorem ztp{c:Ct}{A:Nat}(h:Rgt c A)(hfew:c.small=true)(k:Nat)(hk:k<6)(i:Int)(st:St)(h0:z7k c A k i 0 st):∃r,ev pg (.code (.going 4 L38_0) st)=some r/\z9n c A k i r:=by
 have hsig:=h.mid.sig
 refine qaq (z7k c A k i) c.signals.length (z9n c A k i) h0 ?_ ?_
 .rintro j ⟨s,hh⟩ hj ⟨g,m,rfl,hm,⟨hnn,hl,e2,e3,e8,e31,e32,e33⟩,e7⟩
  simp only at hl e2 e3 e7 e8 e31 e32 e33
  have hnl:∀j,qai s j ≠ .nils:=qar hnn
  have wj:=qab (n:=(j:Int)+1) (by omega) (by omega)
  have hj':(j:Int)<c.signals.length:=by omega
  have hmem:=jH hj
  have hget:=jA hj
  obtain⟨_,hon,hoff⟩:=(qcf hfew).2.2.2.2.2 _ hmem
  have h71a:=ev100 c.signals[j].on i 0 (qbx hon).1
  have h71b:=ev100 c.signals[j].off i 0 (qbx hoff).1
  rw[zhn i _ _ (h.on _ hmem)]at h71a
  rw[show c.signals[j].off.had i=c.signals[j].off.occ i from(h.off _ hmem).elim (zhn i _ _) (zma i _)]at h71b
  have hcn:qae c A<=172:=by
   obtain⟨hA,h1,h2,h3,h4⟩:=h.mid
   unfold qae
   omega
  obtain⟨t,v,w,hkind⟩:=zwg 11 k hk
  have hk4:4<=24-k*4:=by omega
  have hlen:=qke (qgg c.signals k i) (qal c A) j
  have hsu:=qpf (qgg c.signals k i) (qal c A) j
  have hF:qgg c.signals k i j=(decide (k=2\/k=3)&&(c.signals[j].on.occ i||c.signals[j].off.occ i)):=by
   unfold qgg
   rw[jA hj]
   have:((k:Int)=2\/(k:Int)=3)<->(k=2\/k=3):=by omega
   simp only[this]
   rfl
  rw[hF]at hsu
  have hfc:qal c A<=qae c A:=by unfold qal qae;omega
  have hKeep:∀st,qat st->st.length=93->qai st 2=.bptr 0 0->qai st 3=.bptr 1 0->qai st 8=num (qal c A:Nat)->qai st 31=.imm (c.signals.map Sg.row)->qai st 32=num c.signals.length->qai st 33=num (j+1:Nat)->Keep17 c (qal c A) (j+1) st:=fun st a b d e f g h i=>⟨a,b,d,e,f,g,h,i⟩
  unfold z7k
  generalize qib (qgg c.signals k i) (qal c A) (j+1)=l' at *
  generalize qib (qgg c.signals k i) (qal c A) j=l at *
  have h47:(l.length+1)*8<=140737488355328:=by omega
  generalize qal c A=F at *
  have w2:=qab (n:=(F:Int)+(j:Int)) (by omega) (by omega)
  generalize c.signals[j].on.occ i=b1 at *
  generalize c.signals[j].off.occ i=b2 at *
  generalize c.signals[j].on.repl i 0=y1 at *
  generalize c.signals[j].off.repl i 0=y2 at *
  generalize decide (k=2\/k=3)=bl at *
  have h67:=ev98
  rw[qad hl]
  cases bl with
  | false =>
   simp[qaa,exT,qaf,L38_0,List.range,List.range.loop,e2,e3,e7,e8,e31,e32,e33,hget,hj',h71a,h71b,h67,hk,hk4,hkind,wj]
   have hsu':l'=l:=by simpa using hsu
   exact⟨_,_,⟨rfl,rfl,by rw[hsu']⟩,hm,hKeep _ (by simp[qat,hnl]) rfl rfl rfl rfl rfl rfl rfl,rfl,rfl,by rw[hsu']⟩
  | true=>cases b1 with
   | true =>
    simp[qaa,exT,qaf,L38_0,List.range,List.range.loop,e2,e3,e7,e8,e31,e32,e33,hget,hj',h71a,h71b,h67,hk,hk4,hkind,w2,wj,hm,h47]
    have hsu':l'=l++[(F:Int)+(j:Int)]:=by simpa using hsu
    exact⟨_,_,⟨rfl,rfl,by rw[hsu'];simp⟩,.inl rfl,hKeep _ (by simp[qat,hnl]) rfl rfl rfl rfl rfl rfl rfl,rfl,rfl,by rw[hsu'];simp⟩
   | false=>cases b2 with
    | true =>
     simp[qaa,exT,qaf,L38_0,List.range,List.range.loop,e2,e3,e7,e8,e31,e32,e33,hget,hj',h71a,h71b,h67,hk,hk4,hkind,w2,wj,hm,h47]
     have hsu':l'=l++[(F:Int)+(j:Int)]:=by simpa using hsu
     exact⟨_,_,⟨rfl,rfl,by rw[hsu'];simp⟩,.inl rfl,hKeep _ (by simp[qat,hnl]) rfl rfl rfl rfl rfl rfl rfl,rfl,rfl,by rw[hsu'];simp⟩
    | false =>
     simp[qaa,exT,qaf,L38_0,List.range,List.range.loop,e2,e3,e7,e8,e31,e32,e33,hget,hj',h71a,h71b,h67,hk,hk4,hkind,wj]
     have hsu':l'=l:=by simpa using hsu
     exact⟨_,_,⟨rfl,rfl,by rw[hsu']⟩,hm,hKeep _ (by simp[qat,hnl]) rfl rfl rfl rfl rfl rfl rfl,rfl,rfl,by rw[hsu']⟩
 .rintro⟨s,hh⟩ ⟨g,m,rfl,hm,⟨hnn,hl,e2,e3,e8,e31,e32,e33⟩,e7⟩
  simp only at hl e2 e3 e7 e8 e31 e32 e33
  have hnl:∀j,qai s j ≠ .nils:=qar hnn
  unfold z9n
  generalize qib (qgg c.signals k i) (qal c A) c.signals.length=l at *
  rw[qad hl]
  simp[L38_0,List.range,List.range.loop,e2,e3,e7,e8,e31,e32,e33]
  exact⟨_,_,⟨rfl,rfl⟩,hm,⟨by simp[qat,hnl],rfl,rfl,rfl⟩,rfl,rfl⟩
theorem z5h(c:Ct)(k i:Int)(j:Nat):-1<=(pil c k i j).1/\-1<=(pil c k i j).2:=by
 unfold pil qfx
 split
 .refine⟨?_,?_⟩<;>(simp only;split<;>(try split)<;>omega)
 .split
  .split
   .exact⟨by omega,by omega⟩
   .split
    .exact⟨by omega,by omega⟩
    .split
     .exact⟨by omega,by omega⟩
     .exact⟨by omega,by omega⟩
  .exact⟨by omega,by omega⟩
structure Keep17b(c:Ct)(A:Nat)(k i:Int)(j:Nat)(st:List V):Prop where
 nn:qat st
 len:st.length=93
 t2:qai st 2=.bptr 0 0
 t3:qai st 3=.bptr 1 0
 t74:qai st 74=qgx (qkk c k i A)
 t75:qai st 75=num A
 t76:qai st 76=num j
def z6j(c:Ct)(A:Nat)(k i:Int)(P:List Int)(j:Nat)(st:St):Prop:=∃g m,st.h=h18 c k i g m (P++qib (q8w c k i) (qae c A) j)/\(m=1\/m=0)/\Keep17b c A k i j st.s/\qai st.s 7=.sl 3 g m 0 (P++qib (q8w c k i) (qae c A) j).length
def jat(c:Ct)(A:Nat)(k i:Int)(P:List Int)(r:R):Prop:=r.x=.exit 2/\∃g m,r.st.h=h18 c k i g m (P++qib (q8w c k i) (qae c A) A)/\r.st.s.length=93/\qai r.st.s 7=.sl 3 g m 0 (P++qib (q8w c k i) (qae c A) A).length
theorem zvq{c:Ct}{A:Nat}(h:Mid c A)(k i:Int)(P:List Int)(hP:P.length<=200)(st:St)(h0:z6j c A k i P 0 st):∃r,ev pg (.code (.going 4 L38_1) st)=some r/\jat c A k i P r:=by
 have h73:=ev102 h
 have hA6:=h.hi
 have hcn:qae c A<=172:=by
  obtain⟨hA,h1,h2,h3,h4⟩:=h
  unfold qae
  omega
 refine qaq (z6j c A k i P) A (jat c A k i P) h0 ?_ ?_
 .rintro j ⟨s,hh⟩ hj ⟨g,m,rfl,hm,⟨hnn,hl,e2,e3,e74,e75,e76⟩,e7⟩
  simp only at hl e2 e3 e7 e74 e75 e76
  have hnl:∀j,qai s j ≠ .nils:=qar hnn
  have wj:=qab (n:=(j:Int)+1) (by omega) (by omega)
  have hj':(j:Int)<A:=by omega
  have hget:=zny c k i A j hj
  have hlen:(P++qib (q8w c k i) (qae c A) j).length<=300:=by
   have:=qke (q8w c k i) (qae c A) j
   rw[jF]
   omega
  have hsu:P++qib (q8w c k i) (qae c A) (j+1)=if(decide (0<=(pil c k i j).1)||decide (0<=(pil c k i j).2))=true then(P++qib (q8w c k i) (qae c A) j)++[(qae c A:Int)+(j:Int)]else P++qib (q8w c k i) (qae c A) j:=by
   rw[qpf,List.append_assoc]
   show P++(if(decide (0<=(pil c k i j).1)||decide (0<=(pil c k i j).2))=true then _ else _)=_
   split<;>rfl
  obtain⟨hx1,hy1⟩:=z5h c k i j
  generalize hp:pil c k i j=p at *
  obtain⟨x,y⟩:=p
  simp only at hsu hx1 hy1
  have hKeep:∀st,qat st->st.length=93->qai st 2=.bptr 0 0->qai st 3=.bptr 1 0->qai st 74=qgx (qkk c k i A)->qai st 75=num A->qai st 76=num (j+1:Nat)->Keep17b c A k i (j+1) st:=fun st a b d e f g h=>⟨a,b,d,e,f,g,h⟩
  unfold z6j
  generalize P++qib (q8w c k i) (qae c A) (j+1)=l' at *
  generalize P++qib (q8w c k i) (qae c A) j=l at *
  have h47:(l.length+1)*8<=140737488355328:=by omega
  generalize qae c A=F at *
  have w2:=qab (n:=(F:Int)+(j:Int)) (by omega) (by omega)
  generalize qkk c k i A=pl at *
  rw[qad hl]
  by_cases hx:x=-1
  .rw[decide_eq_false (by omega:¬0<=x),Bool.false_or]at hsu
   by_cases hy:y=-1
   .rw[decide_eq_false (by omega:¬0<=y),if_neg (by simp)]at hsu
    simp[L38_1,List.range,List.range.loop,e2,e3,e7,e74,e75,e76,hj',hget,hx,hy,wj]
    exact⟨_,_,⟨rfl,rfl,by rw[hsu]⟩,hm,hKeep _ (by simp[qat,hnl]) rfl rfl rfl rfl rfl rfl,rfl,rfl,by rw[hsu]⟩
   .have hyb:(y==-1)=false:=by simpa using hy
    rw[decide_eq_true (by omega:0<=y),if_pos rfl]at hsu
    simp[L38_1,List.range,List.range.loop,e2,e3,e7,e74,e75,e76,hj',hget,hx,hyb,h73,w2,wj,hm,h47]
    exact⟨_,_,⟨rfl,rfl,by rw[hsu];simp⟩,.inl rfl,hKeep _ (by simp[qat,hnl]) rfl rfl rfl rfl rfl rfl,rfl,rfl,by rw[hsu];simp⟩
  .have hxb:(x==-1)=false:=by simpa using hx
   rw[decide_eq_true (by omega:0<=x),Bool.true_or,if_pos rfl]at hsu
   simp[L38_1,List.range,List.range.loop,e2,e3,e7,e74,e75,e76,hj',hget,hxb,h73,w2,wj,hm,h47]
   exact⟨_,_,⟨rfl,rfl,by rw[hsu];simp⟩,.inl rfl,hKeep _ (by simp[qat,hnl]) rfl rfl rfl rfl rfl rfl,rfl,rfl,by rw[hsu];simp⟩
 .rintro⟨s,hh⟩ ⟨g,m,rfl,hm,⟨hnn,hl,e2,e3,e74,e75,e76⟩,e7⟩
  simp only at hl e2 e3 e7 e74 e75 e76
  unfold jat
  generalize P++qib (q8w c k i) (qae c A) A=l at *
  rw[qad hl]
  simp[L38_1,List.range,List.range.loop,e2,e3,e7,e74,e75,e76]
theorem ev38(c:Ct)(hfew:c.small=true)(k i:Int):ev pg (.call (.fn 38 [] []) [c.v,fv k i] [])=some { v:=.tup [qcl (q7q c k i),num (qsi c k i)],st:=⟨[],[]⟩ }:=by
 have h19:=ev41 c hfew k i
 unfold q7q
 by_cases he:qsi c k i=0
 .obtain⟨hc,hk,hi0,hiN,hiA⟩:=qjo he
  have hR:=qfe hc hfew
  have hla:=fun(kn:Nat) hkn=>ztp hR hfew kn hkn i
  have hP:=qke (qgg c.signals k i) (qal c c.act.toNat) c.signals.length
  have hsg:=hR.mid.sig
  have hlb:=zvq hR.mid k i (qib (qgg c.signals k i) (qal c c.act.toNat) c.signals.length) (by omega)
  have h72:=ev101 hR.mid hR.plus hR.minus k i hk
  have hpl:=qtf c k i c.act.toNat
  have hA:=hR.mid.act
  have hA6:=hR.mid.hi
  have hinp:=hR.mid.inp
  rw[if_pos he]
  unfold zom
  rw[he]at h19 ⊢
  have hla:=hla k.toNat (by omega)
  rw[show((k.toNat:Nat):Int)=k by omega]at hla
  generalize c.act.toNat=A at *
  have hIa:∀st:St,(st.h=h18 c k i 0 0 []/\Keep17 c (qal c A) 0 st.s/\qai st.s 7=.sl 3 0 0 0 0)->z7k c A k i 0 st:=fun st h=>⟨0,0,h.1,.inr rfl,h.2.1,h.2.2⟩
  have hIb:∀g m,(m=1\/m=0)->∀st:St,(st.h=h18 c k i g m (qib (qgg c.signals k i) (qal c A) c.signals.length)/\Keep17b c A k i 0 st.s/\qai st.s 7=.sl 3 g m 0 (qib (qgg c.signals k i) (qal c A) c.signals.length).length)->z6j c A k i (qib (qgg c.signals k i) (qal c A) c.signals.length) 0 st:=fun g m hm st h=>⟨g,m,by rw[h.1];simp[qib],hm,h.2.1,by rw[h.2.2];simp[qib]⟩
  have hKa:∀st,qat st->st.length=93->qai st 2=.bptr 0 0->qai st 3=.bptr 1 0->qai st 8=num (2*c.act+(c.inputs.length:Int))->qai st 31=.imm (c.signals.map Sg.row)->qai st 32=num c.signals.length->qai st 33=num 0->Keep17 c (qal c A) 0 st:=fun st a b d e f g h i=>⟨a,b,d,e,by rw[f,hA];simp,g,h,i⟩
  unfold z9n at hla
  unfold jat at hlb
  have hKb:∀st,qat st->st.length=93->qai st 2=.bptr 0 0->qai st 3=.bptr 1 0->qai st 74=qgx (qkk c k i A)->qai st 75=num A->qai st 76=num 0->Keep17b c A k i 0 st:=fun st a b d e f g h=>⟨a,b,d,e,f,g,h⟩
  generalize qib (qgg c.signals k i) (qal c A) c.signals.length=P at *
  generalize P++qib (q8w c k i) (qae c A) A=L at *
  generalize qkk c k i A=pl at *
  have w1:=qab (n:=2*c.act) (by omega) (by omega)
  have w2:=qab (n:=2*c.act+(c.inputs.length:Int)) (by omega) (by omega)
  rw[qac,pg38]
  simp[ir38,h19,w1,w2,qag]
  generalize hr:ev pg (.code (.going 4 L38_0) _)=o
  obtain⟨r,rfl,hx,g,m,hh,hm,⟨hrn,hrl,r2,r3⟩,r7⟩:∃r,o=some r/\_:=by
   rw[<-hr]
   exact hla _ (hIa _ ⟨by simp,hKa _ (by simp[qat]) rfl rfl rfl rfl rfl rfl rfl,by simp⟩)
  simp (maxDischargeDepth:=9) [hx,hh,hrl,r2,r3,h72,qdy,qcw,hrn,hpl]
  generalize hr':ev pg (.code (.going 4 L38_1) _)=o
  obtain⟨q,rfl,hqx,g',m',hqh,hql,q7⟩:∃r,o=some r/\_:=by
   rw[<-hr']
   exact hlb _ (hIb g m hm _ ⟨rfl,hKb _ (by simp (maxDischargeDepth:=9) [qcw,hrn]) (by simp[hrl]) (by simp[r2]) (by simp[r3]) (by simp[hrl]) (by simp[hrl]) (by simp[hrl]),by simp[r7]⟩)
  simp[hqx,hqh,hql,q7]
 .rw[if_neg he]
  generalize qsi c k i=e at *
  rw[qac,pg38]
  simp[ir38,h19,he]
abbrev jhy:Txt:=[108,105,110,101,32]
def z3t(k:Int):Txt:=if k=0 then t0t else if k=1 then t1t else if k=4 then t4t else t5t
def z0y(c:Ct)(A:Nat)(k i:Int):Txt:=if k=2\/k=3 then jhy++qbm c A i.toNat++(if k=2 then t2t else t3t)else [UInt8.ofNat (65+i.toNat)]++z3t k
theorem jgd{q:Nat}(h:q<6):List.take 1 (List.drop q ([65,66,67,68,69,70]:List UInt8))=[UInt8.ofNat (65+q)]:=by
 rcases (by omega:q=0\/q=1\/q=2\/q=3\/q=4\/q=5)with rfl | rfl | rfl | rfl | rfl | rfl<;>rfl
theorem zba{c:Ct}{A:Nat}(h:c.small=true)(k:Nat):(qbm c A k).length<=200:=by
 obtain⟨_,_,_,_,h5,h6⟩:=qcf h
 unfold qbm
 split
 .simp
 .split
  .cases hg:c.inputs[k-2*A]? with
   | none=>simp
   | some s =>
    have:=h5 s (jR hg)
    simp only[Option.getD_some]
    omega
  .cases hg:c.signals[k-(2*A+c.inputs.length)]? with
   | none=>simp
   | some x =>
    have:=(h6 x (jR hg)).1
    simp only[Option.map_some,Option.getD_some]
    omega
theorem ev107(c:Ct)(hfew:c.small=true)(hc:c.check=0)(i:Nat)(hi:i<qae c c.act.toNat):ev pg (.call (.fn 107 [] []) [c.v,num i] [])=some { v:=.tup [.str (qbm c c.act.toNat i),num 0],st:=⟨[],[]⟩ }:=by
 have hR:=qfe hc hfew
 have h29:=ev43 c hfew
 have h133:=ev180 hR.mid
 have h127:=ev181 hR.mid i hi
 rw[hc]at h29
 have hlt:¬((qae c c.act.toNat:Int)<=(i:Int)):=by omega
 have h0:¬((i:Int)<0):=by omega
 generalize qae c c.act.toNat=N at *
 rw[qac,pg107]
 simp[ir107,h29,h133,h127,h0,hlt]
theorem ev103(c:Ct)(hfew:c.small=true)(k i:Int)(hf:qsi c k i=0):ev pg (.call (.fn 103 [] []) [c.v,fv k i] [])=some { v:=.str (z0y c c.act.toNat k i),st:=⟨[],[]⟩ }:=by
 obtain⟨hc,hk,hi0,hiN,hiA⟩:=qjo hf
 have hR:=qfe hc hfew
 have h67:=ev98 [⟨0,.box c.cells⟩,⟨0,.box [num k,num i]⟩,⟨0,.box [.str [],.bool false,.int .i64 0,.nilfn]⟩]
 obtain⟨n,rfl⟩:∃n:Nat,i=n:=⟨i.toNat,by omega⟩
 have hlen:=zba (A:=c.act.toNat) hfew n
 have hA6:=hR.mid.hi
 have hA:=hR.mid.act
 unfold z0y
 rw[Int.toNat_natCast]
 rw[qac,pg103]
 by_cases hlin:k=2\/k=3
 .have h120:=ev107 c hfew hc n (by have:=hiN hlin;omega)
  rw[if_pos hlin]
  generalize qbm c c.act.toNat n=s at *
  have b1:5+s.length<=140737488355328:=by omega
  have b2:s.length+1+1+1+1+1+5<=140737488355328:=by omega
  have b3:s.length+1+1+1+1+1+6<=140737488355328:=by omega
  rcases hlin with rfl | rfl
  .simp[qaa,exT,qaf,ir103,h67,h120,b1,b2]
  .simp[qaa,exT,qaf,ir103,h67,h120,b1,b3]
 .have hn6:n<6:=by have:=hiA hlin;omega
  rw[if_neg hlin]
  have l1:=jgd hn6
  have w1:=qab (n:=(n:Int)+1) (by omega) (by omega)
  have p1:(0:Int)<=(n:Int)+1:=by omega
  have n1:((n:Int)+1).toNat=n+1:=by omega
  have b1:n+1<=6:=by omega
  rcases (by omega:k=0\/k=1\/k=4\/k=5)with rfl | rfl | rfl | rfl
  .simp[qaa,exT,qaf,ir103,h67,l1,w1,p1,n1,b1,z3t]
  .simp[qaa,exT,qaf,ir103,h67,l1,w1,p1,n1,b1,z3t]
  .simp[qaa,exT,qaf,ir103,h67,l1,w1,p1,n1,b1,z3t]
  .simp[qaa,exT,qaf,ir103,h67,l1,w1,p1,n1,b1,z3t]
def isT(c:Ct)(t:Txt)(p:Int×Int):Bool:=z0y c c.act.toNat p.1 p.2==t
def q3u(c:Ct)(t:Txt):(Int×Int)×Int:=if c.check=0 then(if 4096<t.length then((0,0),17)else match (q4r c).find? (isT c t)with
 | some p=>(p,0)
 | none=>((0,0),4))else((0,0),c.check)
theorem zpv{α:Type}{f:α->Bool}{l:List α}{k:Nat}(hk:k<l.length):(l.drop k).find? f=if f l[k]=true then some l[k]else(l.drop (k+1)).find? f:=by
 rw[jL hk,List.find?_cons]
 cases f l[k]<;>rfl
theorem zgs{c:Ct}{A:Nat}:∀{n:Nat} {p:Int×Int},p∈qjc c A n->∃k i:Nat,k<n/\i<qqp c A k/\p=((k:Int),(i:Int))
 | n,p,h=>by
  unfold qjc qla at h
  simp only[List.mem_flatMap,List.mem_range,List.mem_map]at h
  obtain⟨k,hk,i,hi,rfl⟩:=h
  exact⟨k,i,hk,hi,rfl⟩
theorem zge{c:Ct}(hfew:c.small=true){p:Int×Int}(hp:p∈q4r c):qsi c p.1 p.2=0:=by
 unfold q4r at hp
 by_cases hc:c.check=0
 .rw[if_pos hc]at hp
  obtain⟨k,i,hk,hi,rfl⟩:=zgs hp
  have hA:=(qdo hc hfew).act
  unfold qsi qqd
  rw[if_pos hc,if_neg (by omega),if_neg]
  unfold qqp at hi
  by_cases h23:k=2\/k=3
  .rw[if_pos h23]at hi
   have h23':(k:Int)=2\/(k:Int)=3:=by omega
   simp only[h23',if_true]
   omega
  .rw[if_neg h23]at hi
   have h23':¬((k:Int)=2\/(k:Int)=3):=by omega
   simp only[h23',if_false]
   omega
 .rw[if_neg hc]at hp
  cases hp
theorem zyc(c:Ct)(hfew:c.small=true):(q4r c).length<=1032:=by
 unfold q4r
 by_cases hc:c.check=0
 .rw[if_pos hc]
  exact qvx (qdo hc hfew) 6
 .rw[if_neg hc]
  exact Nat.zero_le _
abbrev h26(c:Ct)(p:Int×Int):H:=[⟨0,.box c.cells⟩,⟨0,.box [num p.1,num p.2]⟩]
structure Keep25(l:List (Int×Int))(t:Txt)(k:Nat)(st:List V):Prop where
 len:st.length=39
 t1:qai st 1=.str t
 t2:qai st 2=.bptr 0 0
 t4:qai st 4=.bptr 1 0
 t25:qai st 25=qgx l
 t26:qai st 26=num l.length
 t27:qai st 27=num k
def I25(c:Ct)(t:Txt)(l:List (Int×Int))(k:Nat)(st:St):Prop:=st.h=h26 c (0,0)/\Keep25 l t k st.s/\l.find? (isT c t)=(l.drop k).find? (isT c t)
def Q25(c:Ct)(t:Txt)(l:List (Int×Int))(r:R):Prop:=r.st.s.length=39/\qai r.st.s 4=.bptr 1 0/\((r.x=.exit 1/\r.st.h=h26 c (0,0)/\l.find? (isT c t)=none)\/(r.x=.ret/\∃p z,r.st.h=h26 c p++z/\qai r.st.s 5=num 0/\l.find? (isT c t)=some p))
theorem z0s(c:Ct)(hfew:c.small=true)(t:Txt)(l:List (Int×Int))(hl9:l.length<=1032)(hall:∀p∈l,qsi c p.1 p.2=0)(st:St)(h0:I25 c t l 0 st):∃r,ev pg (.code (.going 2 L39_0) st)=some r/\Q25 c t l r:=by
 refine qaq (I25 c t l) l.length (Q25 c t l) h0 ?_ ?_
 .rintro k ⟨s,hh⟩ hk ⟨rfl,⟨hl,e1,e2,e4,e25,e26,e27⟩,he⟩
  simp only at hl e1 e2 e4 e25 e26 e27
  have hk':(k:Int)<l.length:=by omega
  have wk:=qab (n:=(k:Int)+1) (by omega) (by omega)
  have h81:=ev103 c hfew _ _ (hall _ (jH hk))
  have hget:=jA hk
  rw[zpv hk]at he
  have hT:isT c t l[k]=(z0y c c.act.toNat l[k].1 l[k].2==t):=rfl
  rw[hT]at he
  generalize z0y c c.act.toNat l[k].1 l[k].2=w at *
  generalize l[k]=p at *
  rw[qad hl]
  by_cases hw:w=t
  .have hwb:(w==t)=true:=by simpa using hw
   rw[hwb,if_pos rfl]at he
   simp[L39_0,List.range,List.range.loop,e1,e2,e4,e25,e26,e27,hk',hget,h81,hwb]
   exact⟨rfl,rfl,.inr ⟨rfl,p,_,rfl,rfl,he⟩⟩
  .have hwb:(w==t)=false:=by simpa using hw
   rw[hwb,if_neg (by simp)]at he
   simp[L39_0,List.range,List.range.loop,e1,e2,e4,e25,e26,e27,hk',hget,h81,hwb,wk]
   exact⟨rfl,⟨rfl,rfl,rfl,rfl,rfl,rfl,rfl⟩,he⟩
 .rintro⟨s,hh⟩ ⟨rfl,⟨hl,e1,e2,e4,e25,e26,e27⟩,he⟩
  simp only[List.drop_length]at hl e1 e2 e4 e25 e26 e27 he
  have he':l.find? (isT c t)=none:=he
  unfold Q25
  generalize l.find? (isT c t)=o at *
  rw[qad hl]
  simp[L39_0,List.range,List.range.loop,e1,e2,e4,e25,e26,e27]
  exact he'
theorem ev39(c:Ct)(hfew:c.small=true)(t:Txt):ev pg (.call (.fn 39 [] []) [c.v,.str t] [])=some { v:=.tup [fv (q3u c t).1.1 (q3u c t).1.2,num (q3u c t).2],st:=⟨[],[]⟩ }:=by
 have h15:=ev37 c hfew
 have hloop:=z0s c hfew t (q4r c) (zyc c hfew) (fun p hp=>zge hfew hp)
 unfold q3u
 by_cases he:c.check=0
 .rw[if_pos he]
  rw[he]at h15
  by_cases hl:4096<t.length
  .have hl':(4096:Int)<(t.length:Int):=by omega
   rw[if_pos hl]
   generalize q4r c=L at *
   rw[qac,pg39]
   simp[ir39,h15,hl']
  .have hl':¬((4096:Int)<(t.length:Int)):=by omega
   rw[if_neg hl]
   have hI:∀st:St,(st.h=h26 c (0,0)/\Keep25 (q4r c) t 0 st.s)->I25 c t (q4r c) 0 st:=fun st h=>⟨h.1,h.2,rfl⟩
   unfold Q25 at hloop
   generalize (q4r c).find? (isT c t)=o at *
   generalize q4r c=L at *
   rw[qac,pg39]
   simp[ir39,h15,hl',qag]
   generalize hr:ev pg (.code (.going 2 L39_0) _)=o'
   obtain⟨r,rfl,hrl,r4,hQ⟩:∃r,o'=some r/\_:=by
    rw[<-hr]
    exact hloop _ (hI _ ⟨by simp,⟨by simp,by simp,by simp,by simp,by simp,by simp,by simp⟩⟩)
   rcases hQ with⟨hx,hh,rfl⟩ | ⟨hx,p,z,hh,r5,rfl⟩
   .simp[hx,hh,hrl,r4]
   .simp[hx,hh,r4,r5]
 .rw[if_neg he]
  generalize c.check=e at *
  generalize q4r c=L at *
  rw[qac,pg39]
  simp[ir39,h15,he]
theorem zox{α:Type}[DecidableEq α](f:Nat->α)(hf:∀i j,f i=f j->i=j):∀(n:Nat) (K:List α),(∀j,j<n->f j∈K)->n<=K.length
 | 0,_,_=>Nat.zero_le _
 | n+1,K,h=>by
  have h1:=h n (by omega)
  have h2:=List.length_erase_of_mem h1
  have h3:=List.length_pos_of_mem h1
  have ih:=zox f hf n (K.erase (f n)) fun j hj=>(List.mem_erase_of_ne (fun e=>by have:=hf _ _ e;omega)).2 (h j (by omega))
  omega
abbrev qio(s:Txt)(j:Nat):Txt:=s++List.replicate j 95
theorem ziy(s:Txt)(i j:Nat)(h:qio s i=qio s j):i=j:=by
 have:=congrArg List.length h
 simp at this
 exact this
def qiv(K:List Txt)(s:Txt)(n:Nat):Nat->Nat
 | 0=>n
 | m+1=>if qio s n∈K then qiv K s (n+1) m else n
def qzy(K:List Txt)(s:Txt):Nat:=qiv K s 0 (K.length+1)
theorem qto(K:List Txt)(s:Txt):∀(m n:Nat),(∀j,j<n->qio s j∈K)->∀j,j<qiv K s n m->qio s j∈K
 | 0,n,h=>h
 | m+1,n,h=>by
  unfold qiv
  split
  .rename_i hn
   refine qto K s m (n+1) fun j hj=>?_
   by_cases e:j=n
   .rw[e];exact hn
   .exact h j (by omega)
  .exact h
theorem qsc(K:List Txt)(s:Txt):∀(m n:Nat),qiv K s n m<n+m->¬qio s (qiv K s n m)∈K
 | 0,n,h=>absurd h (by unfold qiv;omega)
 | m+1,n,h=>by
  unfold qiv at h ⊢
  split
  .rename_i hn
   rw[if_pos hn]at h
   exact qsc K s m (n+1) (by omega)
  .rename_i hn
   exact hn
theorem zfo(K:List Txt)(s:Txt):∀j,j<qzy K s->qio s j∈K:=qto K s _ 0 fun j hj=>by omega
theorem q6r(K:List Txt)(s:Txt):qzy K s<=K.length:=zox (qio s) (ziy s) _ K (zfo K s)
theorem zju(K:List Txt)(s:Txt):¬qio s (qzy K s)∈K:=qsc K s _ 0 (by have:=q6r K s;unfold qzy at this;omega)
def qfz(K:List Txt)(s:Txt):Txt:=qio s (qzy K s)
theorem zcb(K:List Txt)(s:Txt):(qfz K s).length<=s.length+K.length:=by
 have:=q6r K s
 unfold qfz
 simp
 omega
def zjf(k i:Int):Int:=if k=2\/k=3 then i else -1
abbrev qwn(n v:Int)(x:Sg):Sg:=⟨x.name,x.kind,x.on.repl n v,x.off.repl n v,x.delay,x.init⟩
def qeh(f:Nat->Bool)(next:Int):Nat->List Int->List Int
 | 0,l=>l
 | j+1,l=>if f j=true then(qeh f next j l).set j next else qeh f next j l
theorem qef(f:Nat->Bool)(next:Int)(l:List Int):∀j,(qeh f next j l).length=l.length
 | 0=>rfl
 | j+1=>by
  have ih:=qef f next l j
  unfold qeh
  split
  .rw[jU,ih]
  .exact ih
def q9w(p:Nat->Bool):Nat->Bool
 | 0=>false
 | j+1=>q9w p j||p j
abbrev qby(v:Int):Txt:=[115,116,117,99,107,if v=0 then 48 else 49]
abbrev qsj(name:Txt)(v:Int):Sg:=⟨name,0,.mk 0 v [],.mk 0 0 [],0,false⟩
structure Fs where
 d:Ct
 K:List Txt
 w:List Bool
abbrev qtd(c:Ct)(k i v:Int)(j:Nat):Bool:=(pil c k i j).1==v
abbrev qvo(c:Ct)(k i v:Int)(j:Nat):Bool:=(pil c k i j).2==v
def qhv(c:Ct)(k i v:Int)(A:Nat):Bool:=q9w (fun j=>qtd c k i v j||qvo c k i v j) A
def qbo(c:Ct)(k i:Int)(A:Nat)(v:Int)(s:Fs):Fs :=
 ⟨⟨s.d.act,s.d.inputs,if qhv c k i v A=true then s.d.signals++[qsj (qfz s.K (qby v)) v]else s.d.signals,qeh (qtd c k i v) (qae s.d A) A s.d.plus,qeh (qvo c k i v) (qae s.d A) A s.d.minus⟩,
  if qhv c k i v A=true then s.K++[qfz s.K (qby v)]else s.K,if qhv c k i v A=true then s.w++[v==1]else s.w⟩
def qcs(c:Ct)(k i:Int)(A:Nat):Fs:=⟨⟨c.act,c.inputs,c.signals.map (qwn (zjf k i) (qfx k)),c.plus,c.minus⟩,qbs c A (qae c A),[]⟩
def qcp(c:Ct)(k i:Int):Fs:=qbo c k i c.act.toNat 1 (qbo c k i c.act.toNat 0 (qcs c k i c.act.toNat))
mutual
theorem qxz(n v:Int):∀x:Ex,(x.repl n v).nodes<=x.nodes
 | .mk o i l=>by
  rw[Ex.repl]
  split
  .rw[Ex.nodes,Ex.nodes,qde];omega
  .rw[Ex.nodes,Ex.nodes]
   have:=qtl n v l
   omega
theorem qtl(n v:Int):∀l:List Ex,qde (q0m n v l)<=qde l
 | []=>jD _
 | x :: l=>by
  rw[q0m,qde,qde]
  have h1:=qxz n v x
  have h2:=qtl n v l
  omega
end
mutual
theorem qyr(n v:Int):∀x:Ex,(x.repl n v).depth<=x.depth
 | .mk o i l=>by
  rw[Ex.repl]
  split
  .rw[Ex.depth,Ex.depth,qgi];omega
  .rw[Ex.depth,Ex.depth]
   have:=quk n v l
   omega
theorem quk(n v:Int):∀l:List Ex,qgi (q0m n v l)<=qgi l
 | []=>jD _
 | x :: l=>by
  rw[q0m,qgi,qgi]
  have h1:=qyr n v x
  have h2:=quk n v l
  omega
end
theorem qyl{n v:Int}{x:Ex}(h:x.light=true):(x.repl n v).light=true:=by
 obtain⟨h1,h2⟩:=qbx h
 have h3:=qxz n v x
 have h4:=qyr n v x
 simp only[Ex.light,jE,jW]
 omega
theorem q9e{c:Ct}(h1:c.inputs.length<=32)(h2:c.signals.length<=128)(h3:c.plus.length<=40)(h4:c.minus.length<=40)(h5:∀s∈c.inputs,s.length<=200)(h6:∀x∈c.signals,x.name.length<=200/\x.on.light=true/\x.off.light=true):c.small=true:=by
 simp only[Ct.small,jE,jW,jP,q5e,qzh]
 exact⟨⟨⟨⟨⟨h1,h2⟩,h3⟩,h4⟩,h5⟩,fun x hx=>⟨⟨(h6 x hx).1,(h6 x hx).2.1⟩,(h6 x hx).2.2⟩⟩
theorem zpc(v:Int):(Ex.mk 0 v []).light=true:=by
 simp[Ex.light,Ex.nodes,Ex.depth,qde,qgi]
theorem q7g{c:Ct}(hfew:c.small=true)(k i:Int)(A:Nat):(qcs c k i A).d.small=true:=by
 obtain⟨h1,h2,h3,h4,h5,h6⟩:=qcf hfew
 refine q9e h1 ?_ h3 h4 h5 ?_
 .unfold qcs
  rw[List.length_map]
  exact h2
 .intro x hx
  unfold qcs at hx
  obtain⟨y,hy,rfl⟩:=List.mem_map.1 hx
  obtain⟨g1,g2,g3⟩:=h6 y hy
  exact⟨g1,qyl g2,qyl g3⟩
theorem qyp{c:Ct}{k i:Int}{A:Nat}{v:Int}{s:Fs}(h:s.d.small=true)(hs:s.d.signals.length<128)(hK:s.K.length<=190):(qbo c k i A v s).d.small=true:=by
 obtain⟨h1,h2,h3,h4,h5,h6⟩:=qcf h
 refine q9e h1 ?_ ?_ ?_ h5 ?_
 .unfold qbo
  simp only
  split
  .simp;omega
  .exact h2
 .unfold qbo
  simp only[qef]
  exact h3
 .unfold qbo
  simp only[qef]
  exact h4
 .intro x hx
  unfold qbo at hx
  simp only at hx
  split at hx
  .rcases jQ.1 hx with hx | hx
   .exact h6 x hx
   .obtain rfl:=List.mem_singleton.1 hx
    have:=zcb s.K (qby v)
    have e:(qby v).length=6:=rfl
    have e2:(qfz s.K (qby v)).length<=200:=by omega
    exact⟨e2,zpc v,zpc 0⟩
  .exact h6 x hx
theorem q3e(c:Ct)(k i:Int)(A:Nat)(v:Int)(s:Fs):s.d.signals.length<=(qbo c k i A v s).d.signals.length/\(qbo c k i A v s).d.signals.length<=s.d.signals.length+1/\(qbo c k i A v s).K.length<=s.K.length+1:=by
 unfold qbo
 simp only
 split<;>simp
theorem qxf(c:Ct)(k i:Int)(A:Nat):(qcs c k i A).d.signals.length=c.signals.length/\(qcs c k i A).K.length=qae c A:=by
 unfold qcs qbs
 simp
theorem qse{c:Ct}(hfew:c.small=true)(hc:c.check=0)(k i:Int):(qcp c k i).d.small=true:=by
 have hM:=qdo hc hfew
 have hA6:=hM.hi
 have h64:c.inputs.length<=16/\c.signals.length<=64:=by
  unfold Ct.check at hc
  split at hc
  .cases hc
  .split at hc
   .cases hc
   .omega
 obtain⟨a1,a2⟩:=qxf c k i c.act.toNat
 obtain⟨b1,b2,b3⟩:=q3e c k i c.act.toNat 0 (qcs c k i c.act.toNat)
 have e:qae c c.act.toNat<=100:=by unfold qae;omega
 exact qyp (qyp (q7g hfew k i _) (by omega) (by omega)) (by omega) (by omega)
theorem zsk{c:Ct}{k i:Int}{A:Nat}{v:Int}{s:Fs}{j:Nat}(hj:j<s.d.signals.length):(qbo c k i A v s).d.signals[j]?=s.d.signals[j]?:=by
 unfold qbo
 simp only
 split
 .exact jI hj
 .rfl
end Go.Proofs.YtddeacahiilikaaGreat
