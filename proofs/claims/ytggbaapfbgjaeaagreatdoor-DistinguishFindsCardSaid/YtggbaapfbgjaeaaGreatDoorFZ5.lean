/- The faulty. -/
import Derived.Test.YtggbaapfbgjaeaaGreatDoorFZ3
set_option linter.all false
namespace Go.Proofs.YtggbaapfbgjaeaaGreatDoor
open Go Go.Am Go.Proofs
set_option maxRecDepth 100000
theorem zol{c:Ct}(hc:c.check=0)(hfew:c.small=true){x:Sg}(hx:x∈c.signals)(hk:x.kind≠1):x.off.zero=true:=by
 have hM:=qfx hc hfew;generalize hA:c.act.toNat=A at *;have h2:ctE c A=0:=by
  unfold Ct.check at hc;split at hc
  .cases hc
  .split at hc
   .cases hc
   .rw[hA]at hc;exact hc
 unfold ctE at h2;split at h2
 .split at h2
  .rename_i hs;obtain⟨i,hi,rfl⟩:=List.mem_iff_getElem.1 hx;have h3:=qrd hs i (by omega) (by omega);unfold qvs at h3;rw[jA hi]at h3;simp only at h3;unfold q8v at h3;split at h3
   .split at h3
    .cases h3
    .split at h3
     .split at h3
      .rename_i h4;exact absurd h4.1 hk
      .split at h3
       .cases h3
       .split at h3
        .cases h3
        .split at h3
         .cases h3
         .rename_i h6;cases hz:c.signals[i].off.zero with
          | true=>rfl
          | false=>exact absurd (.inl ⟨hk,.inl hz⟩) h6
     .rename_i h4;exact absurd h3 h4
   .rename_i h4;exact absurd h3 h4
  .rename_i h4;exact absurd h2 h4
 .rename_i h4;exact absurd h2 h4
theorem zkx{x:Ex}(h:x.zero=true)(n v:Int):x.repl n v=x:=by
 rw[qrw,zia];simp only[Ex.zero,jE,jW]at h;obtain⟨⟨h1,h2⟩,h3⟩:=h;rw[if_neg (fun e=>by omega)];have ha:x.args=[]:=by simpa using h3
 rw[ha,qzt]
theorem zpj{x:Ex}(h:x.zero=true)(n:Int):x.err n=0:=by
 simp only[Ex.zero,jE,jW]at h;obtain⟨⟨h1,h2⟩,h3⟩:=h;have ha:x.args=[]:=by simpa using h3
 rw[zae,ha,h1,h2];simp[qbq,q4q]
theorem zib(n:Int):∀x:Ex,x.err n=0->x.had (-1)=false:=by
 intro x hx;rw[zsz _ _ x hx];revert hx;revert x;refine Ex.ind fun x ih hx=>?_;obtain⟨h1,h2⟩:=qhk hx;rw[q0i];split
 .rename_i ho;have:=qju h1 ho;rw[beq_eq_false_iff_ne];omega
 .have:∀l:List Ex,(∀y∈l,y.occ (-1)=false)->q2u (-1) l=false:=by
   intro l;induction l with
   | nil=>intro _;rfl
   | cons y l ihl=>intro h;rw[q2u,h y (by simp),ihl fun z hz=>h z (by simp[hz])];rfl
  exact this _ fun y hy=>ih y hy (h2 y hy)
structure SgOk(N:Nat)(x:Sg):Prop where
 on:x.on.err N=0
 off:x.off.err N=0
 non:x.on.nodes<=256
 noff:x.off.nodes<=256
 zero:x.kind≠1->x.off.zero=true
theorem zzu{c:Ct}(hc:c.check=0)(hfew:c.small=true){x:Sg}(hx:x∈c.signals):SgOk (qad c c.act.toNat) x:=by
 have hR:=qiz hc hfew;obtain⟨_,g1,g2⟩:=(qcd hfew).2.2.2.2.2 x hx;refine⟨hR.on x hx,?_,(qdq g1).1,(qdq g2).1,fun hk=>zol hc hfew hx hk⟩;rcases hR.off x hx with h | h
 .exact h
 .exact zpj h _
abbrev h32(c:Ct)(k i:Int)(B:List V)(P M S:Ob)(t:H):H:=⟨0,.box c.cells⟩ :: ⟨0,.box [num k,num i]⟩ :: ⟨0,.arr 0 []⟩ :: ⟨0,.arr 0 []⟩ :: ⟨0,.arr 0 []⟩ :: ⟨0,.arr 0 []⟩ :: ⟨0,.box [num 0,.sl 2 0 0 0 0,.sl 3 0 0 0 0,.sl 4 0 0 0 0,.sl 5 0 0 0 0]⟩ :: ⟨0,.arr 0 []⟩ :: ⟨0,.arr 0 []⟩ :: ⟨0,.arr 0 []⟩ :: ⟨0,.arr 0 []⟩ :: ⟨0,.box B⟩ :: ⟨0,.arr 1 (c.inputs.map qpq)⟩ :: P :: M :: S :: ⟨0,.arr 0 []⟩ :: ⟨0,.arr 0 []⟩ :: ⟨0,.arr 0 []⟩ :: ⟨0,.arr 0 []⟩ :: t
abbrev b32(c:Ct)(gs ms ns:Nat):List V:=[num c.act,.sl 12 0 1 0 c.inputs.length,.sl 15 gs ms 0 ns,.sl 13 0 1 0 c.plus.length,.sl 14 0 1 0 c.minus.length]
structure Keep32(st:List V):Prop where
 nn:qaq st
 len:st.length=138
 t2:qah st 2=.bptr 0 0
 t3:qah st 3=.bptr 1 0
 t4:qah st 4=.bptr 6 0
 t5:qah st 5=.sl 16 0 0 0 0
 t6:qah st 6=.bptr 11 0
def z0m(c:Ct)(k i li v:Int)(n:Nat)(st:St):Prop:=∃g m,st.h=h32 c k i (b32 c g m n) ⟨0,.arr 1 (c.plus.map qbk)⟩ ⟨0,.arr 1 (c.minus.map qbk)⟩ ⟨g,.arr m (((c.signals.take n).map (qjm li v)).map Sg.row)⟩ []/\(m=10\/m=0)/\Keep32 st.s/\qah st.s 7=num n
def z0v(c:Ct)(k i li v:Int)(r:Am.R):Prop:=r.x=.exit 0/\∃g m,r.st.h=h32 c k i (b32 c g m c.signals.length) ⟨0,.arr 1 (c.plus.map qbk)⟩ ⟨0,.arr 1 (c.minus.map qbk)⟩ ⟨g,.arr m ((c.signals.map (qjm li v)).map Sg.row)⟩ []/\(m=10\/m=0)/\Keep32 r.st.s
set_option maxHeartbeats 4000000 in
theorem ztv{c:Ct}(hc:c.check=0)(hfew:c.small=true){k i:Int}(hf:q2c c k i=0)(st:St)(h0:z0m c k i (qkg k i) (qcu k) 0 st):∃r,ev pg (.code (.going 20 L74_0) st)=some r/\z0v c k i (qkg k i) (qcu k) r:=by
 obtain⟨f1,f2,f3,f4,f5,f6⟩:=qcd hfew;obtain⟨_,hk,hi0,hiN,hiA⟩:=qkp hf;have hM:=qfx hc hfew;have h67:=ev116 hM;have h65:=ev114 k;have hcN:qad c c.act.toNat<=172:=by obtain⟨_,g1,g2,g3,g4⟩:=hM;unfold qad;omega
 refine qat (z0m c k i (qkg k i) (qcu k)) c.signals.length (z0v c k i (qkg k i) (qcu k)) h0 ?_ ?_
 .rintro n ⟨s,hh⟩ hn ⟨g,m,rfl,hm,⟨hnn,hl,e2,e3,e4,e5,e6⟩,e7⟩;simp only at hl e2 e3 e4 e5 e6 e7;have hnl:∀j,qah s j ≠ .nils:=qap hnn;have wn:=qbc n;have hok:=zzu hc hfew (jH hn);have hsn:((c.signals.take (n+1)).map (qjm (qkg k i) (qcu k))).map Sg.row=((c.signals.take n).map (qjm (qkg k i) (qcu k))).map Sg.row++[(qjm (qkg k i) (qcu k) c.signals[n]).row]:=by
   rw[jK hn,List.map_append,List.map_append];rfl
  have hln:(((c.signals.take n).map (qjm (qkg k i) (qcu k))).map Sg.row).length=n:=by rw[List.length_map,List.length_map,List.length_take];omega
  have hget:c.signals[n]?=some c.signals[n]:=jA hn;have hb:(n+1)*120<=140737488355328:=by omega
  have hn':(n:Int)<(c.signals.length:Int):=by omega
  unfold z0m;rw[hsn];generalize ((c.signals.take n).map (qjm (qkg k i) (qcu k))).map Sg.row=W at *;by_cases hl2:k=2\/k=3
  .have hlin:qkg k i=i:=by unfold qkg;rw[if_pos hl2]
   rw[hlin];rw[decide_eq_true hl2]at h65;obtain⟨line,rfl⟩:∃line:Nat,i=line:=⟨i.toNat,by omega⟩
   have hline:=hiN hl2;have h66a:=ev115 c.signals[n].on line (qad c c.act.toNat) (by omega) (by omega) (k==2) hok.non hok.on;have h66b:=ev115 c.signals[n].off line (qad c c.act.toNat) (by omega) (by omega) (k==2) hok.noff hok.off;have hkv:(if(k==2)=true then(1:Int)else 0)=qcu k:=by unfold qcu;simp
   rw[hkv]at h66a h66b;generalize qad c c.act.toNat=N at *;generalize qcu k=lv at *;rw[qac hl];by_cases hk1:c.signals[n].kind=1
   .have hkb:(c.signals[n].kind==1)=true:=by simpa using hk1
    rcases hm with rfl | rfl
    .simp[qab,exT,qag,L74_0,List.range,List.range.loop,e2,e3,e4,e5,e6,e7,h65,h66a,h66b,h67,hn,hn',hln,hb,wn,hkb];exact⟨_,_,⟨rfl,rfl⟩,.inl rfl,⟨by simp[qaq,hnl],rfl,rfl,rfl,rfl,rfl,rfl⟩⟩
    .simp[qab,exT,qag,L74_0,List.range,List.range.loop,e2,e3,e4,e5,e6,e7,h65,h66a,h66b,h67,hn,hn',hln,hb,wn,hkb];exact⟨_,_,⟨rfl,rfl⟩,.inl rfl,⟨by simp[qaq,hnl],rfl,rfl,rfl,rfl,rfl,rfl⟩⟩
   .have hkb:(c.signals[n].kind==1)=false:=by simpa using hk1
    have hz:=zkx (hok.zero hk1) line lv;rw[show qjm (line:Int) lv c.signals[n]=⟨c.signals[n].name,c.signals[n].kind,c.signals[n].on.repl line lv,c.signals[n].off,c.signals[n].delay,c.signals[n].init⟩by unfold qjm;rw[hz]];rcases hm with rfl | rfl
    .simp[qab,exT,qag,L74_0,List.range,List.range.loop,e2,e3,e4,e5,e6,e7,h65,h66a,h67,hn,hn',hln,hb,wn,hkb];exact⟨_,_,⟨rfl,rfl⟩,.inl rfl,⟨by simp[qaq,hnl],rfl,rfl,rfl,rfl,rfl,rfl⟩⟩
    .simp[qab,exT,qag,L74_0,List.range,List.range.loop,e2,e3,e4,e5,e6,e7,h65,h66a,h67,hn,hn',hln,hb,wn,hkb];exact⟨_,_,⟨rfl,rfl⟩,.inl rfl,⟨by simp[qaq,hnl],rfl,rfl,rfl,rfl,rfl,rfl⟩⟩
  .have hlin:qkg k i=-1:=by unfold qkg;rw[if_neg hl2]
   rw[hlin];rw[decide_eq_false hl2]at h65;have hr1:=(qrw (-1) (qcu k) c.signals[n].on).2 (zib _ _ hok.on);have hr2:=(qrw (-1) (qcu k) c.signals[n].off).2 (zib _ _ hok.off);rw[show qjm (-1) (qcu k) c.signals[n]=c.signals[n]by unfold qjm;rw[hr1,hr2]];generalize qcu k=lv at *;rw[qac hl];rcases hm with rfl | rfl
   .simp[L74_0,List.range,List.range.loop,e2,e3,e4,e5,e6,e7,h65,hn,hn',hln,hb,wn];exact⟨_,_,⟨rfl,rfl⟩,.inl rfl,⟨by simp[qaq,hnl],rfl,rfl,rfl,rfl,rfl,rfl⟩⟩
   .simp[L74_0,List.range,List.range.loop,e2,e3,e4,e5,e6,e7,h65,hn,hn',hln,hb,wn];exact⟨_,_,⟨rfl,rfl⟩,.inl rfl,⟨by simp[qaq,hnl],rfl,rfl,rfl,rfl,rfl,rfl⟩⟩
 .rintro⟨s,hh⟩ ⟨g,m,rfl,hm,⟨hnn,hl,e2,e3,e4,e5,e6⟩,e7⟩;simp only at hl e2 e3 e4 e5 e6 e7;have hnl:∀j,qah s j ≠ .nils:=qap hnn;rw[List.take_length];unfold z0v;generalize (c.signals.map (qjm (qkg k i) (qcu k))).map Sg.row=W at *;rw[qac hl];simp[L74_0,List.range,List.range.loop,e2,e3,e4,e5,e6,e7];exact⟨_,_,⟨rfl,rfl⟩,hm,⟨by simp[qaq,hnl],rfl,rfl,rfl,rfl,rfl,rfl⟩⟩
theorem qna(c:Ct)(A k:Nat):qbj c A k=if k<2*A then [UInt8.ofNat (97+k / 2),UInt8.ofNat (48+k % 2)]else if k<2*A+c.inputs.length then(c.inputs[k-2*A]?).getD []else((c.signals.map Sg.name)[k-(2*A+c.inputs.length)]?).getD []:=by unfold qbj;rw[List.getElem?_map]
theorem qqb{a b:Ct}(A:Nat)(hi:a.inputs=b.inputs)(hs:a.signals.map Sg.name=b.signals.map Sg.name):qaw a A (qad a A)=qaw b A (qad b A):=by
 have hl:=congrArg List.length hs;rw[List.length_map,List.length_map]at hl;have hN:qad a A=qad b A:=by unfold qad;rw[hi,hl]
 rw[hN];unfold qaw;refine List.map_congr_left fun k _=>?_;rw[qna,qna,hi,hs]
theorem zdv(a:Ct)(A:Nat)(g:Sg)(p m:List Int):qaw ⟨a.act,a.inputs,a.signals++[g],p,m⟩ A (qad ⟨a.act,a.inputs,a.signals++[g],p,m⟩ A)=qaw a A (qad a A)++[g.name]:=by
 have hN:qad ⟨a.act,a.inputs,a.signals++[g],p,m⟩ A=qad a A+1:=by unfold qad;simp only[jF,List.length_singleton];omega
 rw[hN,q0g];congr 1
 .unfold qaw;refine List.map_congr_left fun k hk=>?_;have hk:=List.mem_range.1 hk;unfold qad at hk;rw[qna,qna];simp only[List.map_append];by_cases h1:k<2*A
  .rw[if_pos h1,if_pos h1]
  .rw[if_neg h1,if_neg h1];by_cases h2:k<2*A+a.inputs.length
   .rw[if_pos h2,if_pos h2]
   .rw[if_neg h2,if_neg h2,jI (by rw[List.length_map];omega)]
 .rw[qna,if_neg (by unfold qad;omega),if_neg (by unfold qad;simp only;omega)];simp only[List.map_append];rw[jJ (by rw[List.length_map];unfold qad;omega),List.length_map,show qad a A-(2*A+a.inputs.length)-a.signals.length=0 by unfold qad;omega];rfl
theorem q8k(c:Ct)(k i:Int)(A:Nat):qaw (qbl c k i A).d A (qad (qbl c k i A).d A)=(qbl c k i A).K:=by have:=qqb (a:=(qbl c k i A).d) (b:=c) A rfl (by unfold qbl;simp only;rw[List.map_map];rfl);rw[this];rfl
theorem zdw{c:Ct}{k i:Int}{A:Nat}{v:Int}{s:Fs}(h:qaw s.d A (qad s.d A)=s.K):qaw (qbg c k i A v s).d A (qad (qbg c k i A v s).d A)=(qbg c k i A v s).K:=by
 cases hn:qhd c k i v A with
 | true =>rw[qnu hn];simp only;rw[zdv s.d A _ _ _,h]
 | false =>rw[qse hn];simp only;rw[<-h];exact qqb A rfl rfl
structure Keep32v(P:List (Int×Int))(v:Int)(gv mv nv:Nat)(st:List V):Prop where
 keep:Keep32 st
 t9:qah st 9=.sl 20 gv mv 0 nv
 t10:qah st 10=qjp P
 t11:qah st 11=num v
abbrev zbz(gv mv:Nat)(w:List Bool):H:=[⟨gv,.arr mv (w.map qfj)⟩]
def z0n(c:Ct)(k i v:Int)(A:Nat)(next:Int)(B:List V)(S:Ob)(gv mv:Nat)(w:List Bool)(ps ms:List Int)(n:Nat)(st:St):Prop:=st.h=h32 c k i B ⟨0,.arr 1 ((qcv (qtr c k i v) next n ps).map qbk)⟩ ⟨0,.arr 1 ((qcv (qtq c k i v) next n ms).map qbk)⟩ S (zbz gv mv w)/\Keep32v (qgs c k i A) v gv mv w.length st.s/\qah st.s 12=.bool (qhd c k i v n)/\qah st.s 13=num next/\qah st.s 14=num n
def z0w(c:Ct)(k i v:Int)(A:Nat)(next:Int)(B:List V)(S:Ob)(gv mv:Nat)(w:List Bool)(ps ms:List Int)(r:Am.R):Prop:=r.x=.exit 4/\r.st.h=h32 c k i B ⟨0,.arr 1 ((qcv (qtr c k i v) next A ps).map qbk)⟩ ⟨0,.arr 1 ((qcv (qtq c k i v) next A ms).map qbk)⟩ S (zbz gv mv w)/\Keep32v (qgs c k i A) v gv mv w.length r.st.s/\qah r.st.s 12=.bool (qhd c k i v A)
set_option maxHeartbeats 4000000 in
theorem ztw{c:Ct}{A:Nat}(hA6:A<=6)(k i v:Int)(next:Int)(gs ms' ns:Nat)(W:List (List V))(gv mv:Nat)(w:List Bool)(ps ms:List Int)(hp:ps.length=A)(hm:ms.length=A)(hcp:c.plus.length=A)(hcm:c.minus.length=A)(st:St)(h0:z0n c k i v A next (b32 c gs ms' ns) ⟨gs,.arr ms' W⟩ gv mv w ps ms 0 st):∃r,ev pg (.code (.going 21 L74_1) st)=some r/\z0w c k i v A next (b32 c gs ms' ns) ⟨gs,.arr ms' W⟩ gv mv w ps ms r:=by
 refine qat (z0n c k i v A next (b32 c gs ms' ns) ⟨gs,.arr ms' W⟩ gv mv w ps ms) A (z0w c k i v A next (b32 c gs ms' ns) ⟨gs,.arr ms' W⟩ gv mv w ps ms) h0 ?_ ?_
 .rintro n ⟨s,hh⟩ hn ⟨rfl,⟨⟨hnn,hl,e2,e3,e4,e5,e6⟩,e9,e10,e11⟩,e12,e13,e14⟩;simp only at hl e2 e3 e4 e5 e6 e9 e10 e11 e12 e13 e14;have hnl:∀j,qah s j ≠ .nils:=qap hnn;have wn:=qbc n;have hn':(n:Int)<(A:Nat):=by omega
  have hpl:=qou c k i A;have hgp:((qcv (qtr c k i v) next n ps).map qbk)[n]?=some (qbk ps[n]):=by rw[List.getElem?_map,qky (jD _),jA (by omega)];rfl
  have hgm:((qcv (qtq c k i v) next n ms).map qbk)[n]?=some (qbk ms[n]):=by rw[List.getElem?_map,qky (jD _),jA (by omega)];rfl
  have hgl:∀h:n<(qgs c k i A).length,(qgs c k i A)[n]'h=pil c k i n:=fun h=>by simp only[qgs,List.getElem_map,List.getElem_range]
  have hnp:n<c.plus.length:=by omega
  have hnm:n<c.minus.length:=by omega
  have hneed:qhd c k i v (n+1)=(qhd c k i v n||(qtr c k i v n||qtq c k i v n)):=rfl;unfold z0n;rw[qrq,qrq,hneed];generalize ps[n]=x at *;generalize ms[n]=y at *;have hs1:qtr c k i v n=((pil c k i n).1==v):=rfl;have hs2:qtq c k i v n=((pil c k i n).2==v):=rfl;rw[hs1,hs2];generalize pil c k i n=p at *;obtain⟨p1,p2⟩:=p;generalize qgs c k i A=G at *;generalize (qcv (qtr c k i v) next n ps).map qbk=X at *;generalize (qcv (qtq c k i v) next n ms).map qbk=Y at *;generalize qhd c k i v n=B at *;rw[qac hl];simp only;by_cases hv1:p1=v
  .by_cases hv2:p2=v
   .simp[L74_1,List.range,List.range.loop,e2,e3,e4,e5,e6,e9,e10,e11,e12,e13,e14,hn,hn',hpl,wn,hgp,hgm,hgl,hv1,hv2,hnp,hnm];exact⟨⟨by simp[qaq,hnl],rfl,rfl,rfl,rfl,rfl,rfl⟩,rfl,rfl,rfl⟩
   .have n2:(p2==v)=false:=by simpa using hv2
    simp[L74_1,List.range,List.range.loop,e2,e3,e4,e5,e6,e9,e10,e11,e12,e13,e14,hn,hn',hpl,wn,hgp,hgl,hv1,n2,hnp];exact⟨⟨by simp[qaq,hnl],rfl,rfl,rfl,rfl,rfl,rfl⟩,rfl,rfl,rfl⟩
  .have n1:(p1==v)=false:=by simpa using hv1
   by_cases hv2:p2=v
   .simp[L74_1,List.range,List.range.loop,e2,e3,e4,e5,e6,e9,e10,e11,e12,e13,e14,hn,hn',hpl,wn,hgm,hgl,n1,hv2,hnm];exact⟨⟨by simp[qaq,hnl],rfl,rfl,rfl,rfl,rfl,rfl⟩,rfl,rfl,rfl⟩
   .have n2:(p2==v)=false:=by simpa using hv2
    simp[L74_1,List.range,List.range.loop,e2,e3,e4,e5,e6,e9,e10,e11,e12,e13,e14,hn,hn',hpl,wn,hgl,n1,n2];exact⟨⟨by simp[qaq,hnl],rfl,rfl,rfl,rfl,rfl,rfl⟩,rfl,rfl,rfl⟩
 .rintro⟨s,hh⟩ ⟨rfl,⟨⟨hnn,hl,e2,e3,e4,e5,e6⟩,e9,e10,e11⟩,e12,e13,e14⟩;simp only at hl e2 e3 e4 e5 e6 e9 e10 e11 e12 e13 e14;have hnl:∀j,qah s j ≠ .nils:=qap hnn;have hpl:=qou c k i A;unfold z0w;generalize qcv (qtr c k i v) next A ps=X at *
  generalize qcv (qtq c k i v) next A ms=Y at *
  generalize qhd c k i v A=B at *;generalize qgs c k i A=G at *;rw[qac hl];simp[L74_1,List.range,List.range.loop,e2,e3,e4,e5,e6,e9,e10,e11,e12,e13,e14,hpl];exact⟨⟨by simp[qaq,hnl],rfl,rfl,rfl,rfl,rfl,rfl⟩,rfl,rfl,rfl⟩
end Go.Proofs.YtggbaapfbgjaeaaGreatDoor
