/- The faulty. -/
import Derived.Test.YtggbaapfbgjaeaaGreatDoorZ3
set_option linter.all false
namespace Go.Proofs.YtggbaapfbgjaeaaGreatDoor
open Go Go.Am Go.Proofs
set_option maxRecDepth 100000
theorem znn{c:Ct}(hc:c.check=0)(hfew:c.small=true){x:Sg}(hx:x∈c.signals)(hk:x.kind≠1):x.off.zero=true:=by
 have hM:=qft hc hfew;generalize hA:c.act.toNat=A at *;have h2:ctE c A=0:=by
  unfold Ct.check at hc;split at hc
  .cases hc
  .split at hc
   .cases hc
   .rw[hA]at hc;exact hc
 unfold ctE at h2;split at h2
 .split at h2
  .rename_i hs;obtain⟨i,hi,rfl⟩:=List.mem_iff_getElem.1 hx;have h3:=qqw hs i (by omega) (by omega);unfold qvd at h3;rw[jA hi]at h3;simp only at h3;unfold q8k at h3;split at h3
   .split at h3
    .cases h3
    .split at h3
     .split at h3
      .rename_i h4;exact absurd h4.1 hk
      .split at h3
       .cases h3
       .split at h3
        .cases h3
        .split at h3
         .cases h3
         .rename_i h6;cases hz:c.signals[i].off.zero with
          | true=>rfl
          | false=>exact absurd (.inl ⟨hk,.inl hz⟩) h6
     .rename_i h4;exact absurd h3 h4
   .rename_i h4;exact absurd h3 h4
  .rename_i h4;exact absurd h2 h4
 .rename_i h4;exact absurd h2 h4
theorem zkd{x:Ex}(h:x.zero=true)(n v:Int):x.repl n v=x:=by
 rw[qrn,zhi];simp only[Ex.zero,jE,jW]at h;obtain⟨⟨h1,h2⟩,h3⟩:=h;rw[if_neg (fun e=>by omega)];have ha:x.args=[]:=by simpa using h3
 rw[ha,qzh]
theorem zoi{x:Ex}(h:x.zero=true)(n:Int):x.err n=0:=by
 simp only[Ex.zero,jE,jW]at h;obtain⟨⟨h1,h2⟩,h3⟩:=h;have ha:x.args=[]:=by simpa using h3
 rw[q9q,ha,h1,h2];simp[qbp,q4g]
theorem zhj(n:Int):∀x:Ex,x.err n=0->x.had (-1)=false:=by
 intro x hx;rw[zrt _ _ x hx];revert hx;revert x;refine Ex.ind fun x ih hx=>?_;obtain⟨h1,h2⟩:=qhj hx;rw[qzw];split
 .rename_i ho;have:=qjt h1 ho;rw[beq_eq_false_iff_ne];omega
 .have:∀l:List Ex,(∀y∈l,y.occ (-1)=false)->q2l (-1) l=false:=by
   intro l;induction l with
   | nil=>intro _;rfl
   | cons y l ihl=>intro h;rw[q2l,h y (by simp),ihl fun z hz=>h z (by simp[hz])];rfl
  exact this _ fun y hy=>ih y hy (h2 y hy)
structure SgOk(N:Nat)(x:Sg):Prop where
 on:x.on.err N=0
 off:x.off.err N=0
 non:x.on.nodes<=256
 noff:x.off.nodes<=256
 zero:x.kind≠1->x.off.zero=true
theorem zyl{c:Ct}(hc:c.check=0)(hfew:c.small=true){x:Sg}(hx:x∈c.signals):SgOk (qac c c.act.toNat) x:=by
 have hR:=qiy hc hfew;obtain⟨_,g1,g2⟩:=(qdm hfew).2.2.2.2.2 x hx;refine⟨hR.on x hx,?_,(qdp g1).1,(qdp g2).1,fun hk=>znn hc hfew hx hk⟩;rcases hR.off x hx with h | h
 .exact h
 .exact zoi h _
abbrev h32(c:Ct)(k i:Int)(B:List V)(P M S:Ob)(t:H):H:=⟨0,.box c.cells⟩ :: ⟨0,.box [num k,num i]⟩ :: ⟨0,.arr 0 []⟩ :: ⟨0,.arr 0 []⟩ :: ⟨0,.arr 0 []⟩ :: ⟨0,.arr 0 []⟩ :: ⟨0,.box [num 0,.sl 2 0 0 0 0,.sl 3 0 0 0 0,.sl 4 0 0 0 0,.sl 5 0 0 0 0]⟩ :: ⟨0,.arr 0 []⟩ :: ⟨0,.arr 0 []⟩ :: ⟨0,.arr 0 []⟩ :: ⟨0,.arr 0 []⟩ :: ⟨0,.box B⟩ :: ⟨0,.arr 1 (c.inputs.map qpk)⟩ :: P :: M :: S :: ⟨0,.arr 0 []⟩ :: ⟨0,.arr 0 []⟩ :: ⟨0,.arr 0 []⟩ :: ⟨0,.arr 0 []⟩ :: t
abbrev b32(c:Ct)(gs ms ns:Nat):List V:=[num c.act,.sl 12 0 1 0 c.inputs.length,.sl 15 gs ms 0 ns,.sl 13 0 1 0 c.plus.length,.sl 14 0 1 0 c.minus.length]
structure Keep32(st:List V):Prop where
 nn:qas st
 len:st.length=138
 t2:qaj st 2=.bptr 0 0
 t3:qaj st 3=.bptr 1 0
 t4:qaj st 4=.bptr 6 0
 t5:qaj st 5=.sl 16 0 0 0 0
 t6:qaj st 6=.bptr 11 0
def zzc(c:Ct)(k i li v:Int)(n:Nat)(st:St):Prop:=∃g m,st.h=h32 c k i (b32 c g m n) ⟨0,.arr 1 (c.plus.map qbh)⟩ ⟨0,.arr 1 (c.minus.map qbh)⟩ ⟨g,.arr m (((c.signals.take n).map (qjl li v)).map Sg.row)⟩ []/\(m=10\/m=0)/\Keep32 st.s/\qaj st.s 7=num n
def zzl(c:Ct)(k i li v:Int)(r:Am.R):Prop:=r.x=.exit 0/\∃g m,r.st.h=h32 c k i (b32 c g m c.signals.length) ⟨0,.arr 1 (c.plus.map qbh)⟩ ⟨0,.arr 1 (c.minus.map qbh)⟩ ⟨g,.arr m ((c.signals.map (qjl li v)).map Sg.row)⟩ []/\(m=10\/m=0)/\Keep32 r.st.s
set_option maxHeartbeats 4000000 in
theorem zsp{c:Ct}(hc:c.check=0)(hfew:c.small=true){k i:Int}(hf:q1t c k i=0)(st:St)(h0:zzc c k i (qke k i) (qcr k) 0 st):∃r,ev pg (.code (.going 20 L74_0) st)=some r/\zzl c k i (qke k i) (qcr k) r:=by
 obtain⟨f1,f2,f3,f4,f5,f6⟩:=qdm hfew;obtain⟨_,hk,hi0,hiN,hiA⟩:=qkn hf;have hM:=qft hc hfew;have h67:=ev116 hM;have h65:=ev114 k;have hcN:qac c c.act.toNat<=172:=by obtain⟨_,g1,g2,g3,g4⟩:=hM;unfold qac;omega
 refine qaw (zzc c k i (qke k i) (qcr k)) c.signals.length (zzl c k i (qke k i) (qcr k)) h0 ?_ ?_
 .rintro n ⟨s,hh⟩ hn ⟨g,m,rfl,hm,⟨hnn,hl,e2,e3,e4,e5,e6⟩,e7⟩;simp only at hl e2 e3 e4 e5 e6 e7;have hnl:∀j,qaj s j ≠ .nils:=qar hnn;have wn:=qbi n;have hok:=zyl hc hfew (jH hn);have hsn:((c.signals.take (n+1)).map (qjl (qke k i) (qcr k))).map Sg.row=((c.signals.take n).map (qjl (qke k i) (qcr k))).map Sg.row++[(qjl (qke k i) (qcr k) c.signals[n]).row]:=by
   rw[jK hn,List.map_append,List.map_append];rfl
  have hln:(((c.signals.take n).map (qjl (qke k i) (qcr k))).map Sg.row).length=n:=by rw[List.length_map,List.length_map,List.length_take];omega
  have hget:c.signals[n]?=some c.signals[n]:=jA hn;have hb:(n+1)*120<=140737488355328:=by omega
  have hn':(n:Int)<(c.signals.length:Int):=by omega
  unfold zzc;rw[hsn];generalize ((c.signals.take n).map (qjl (qke k i) (qcr k))).map Sg.row=W at *;by_cases hl2:k=2\/k=3
  .have hlin:qke k i=i:=by unfold qke;rw[if_pos hl2]
   rw[hlin];rw[decide_eq_true hl2]at h65;obtain⟨line,rfl⟩:∃line:Nat,i=line:=⟨i.toNat,by omega⟩
   have hline:=hiN hl2;have h66a:=ev115 c.signals[n].on line (qac c c.act.toNat) (by omega) (by omega) (k==2) hok.non hok.on;have h66b:=ev115 c.signals[n].off line (qac c c.act.toNat) (by omega) (by omega) (k==2) hok.noff hok.off;have hkv:(if(k==2)=true then(1:Int)else 0)=qcr k:=by unfold qcr;simp
   rw[hkv]at h66a h66b;generalize qac c c.act.toNat=N at *;generalize qcr k=lv at *;rw[qad hl];by_cases hk1:c.signals[n].kind=1
   .have hkb:(c.signals[n].kind==1)=true:=by simpa using hk1
    rcases hm with rfl | rfl
    .simp[qaa,exT,qag,L74_0,List.range,List.range.loop,e2,e3,e4,e5,e6,e7,h65,h66a,h66b,h67,hn,hn',hln,hb,wn,hkb];exact⟨_,_,⟨rfl,rfl⟩,.inl rfl,⟨by simp[qas,hnl],rfl,rfl,rfl,rfl,rfl,rfl⟩⟩
    .simp[qaa,exT,qag,L74_0,List.range,List.range.loop,e2,e3,e4,e5,e6,e7,h65,h66a,h66b,h67,hn,hn',hln,hb,wn,hkb];exact⟨_,_,⟨rfl,rfl⟩,.inl rfl,⟨by simp[qas,hnl],rfl,rfl,rfl,rfl,rfl,rfl⟩⟩
   .have hkb:(c.signals[n].kind==1)=false:=by simpa using hk1
    have hz:=zkd (hok.zero hk1) line lv;rw[show qjl (line:Int) lv c.signals[n]=⟨c.signals[n].name,c.signals[n].kind,c.signals[n].on.repl line lv,c.signals[n].off,c.signals[n].delay,c.signals[n].init⟩by unfold qjl;rw[hz]];rcases hm with rfl | rfl
    .simp[qaa,exT,qag,L74_0,List.range,List.range.loop,e2,e3,e4,e5,e6,e7,h65,h66a,h67,hn,hn',hln,hb,wn,hkb];exact⟨_,_,⟨rfl,rfl⟩,.inl rfl,⟨by simp[qas,hnl],rfl,rfl,rfl,rfl,rfl,rfl⟩⟩
    .simp[qaa,exT,qag,L74_0,List.range,List.range.loop,e2,e3,e4,e5,e6,e7,h65,h66a,h67,hn,hn',hln,hb,wn,hkb];exact⟨_,_,⟨rfl,rfl⟩,.inl rfl,⟨by simp[qas,hnl],rfl,rfl,rfl,rfl,rfl,rfl⟩⟩
  .have hlin:qke k i=-1:=by unfold qke;rw[if_neg hl2]
   rw[hlin];rw[decide_eq_false hl2]at h65;have hr1:=(qrn (-1) (qcr k) c.signals[n].on).2 (zhj _ _ hok.on);have hr2:=(qrn (-1) (qcr k) c.signals[n].off).2 (zhj _ _ hok.off);rw[show qjl (-1) (qcr k) c.signals[n]=c.signals[n]by unfold qjl;rw[hr1,hr2]];generalize qcr k=lv at *;rw[qad hl];rcases hm with rfl | rfl
   .simp[L74_0,List.range,List.range.loop,e2,e3,e4,e5,e6,e7,h65,hn,hn',hln,hb,wn];exact⟨_,_,⟨rfl,rfl⟩,.inl rfl,⟨by simp[qas,hnl],rfl,rfl,rfl,rfl,rfl,rfl⟩⟩
   .simp[L74_0,List.range,List.range.loop,e2,e3,e4,e5,e6,e7,h65,hn,hn',hln,hb,wn];exact⟨_,_,⟨rfl,rfl⟩,.inl rfl,⟨by simp[qas,hnl],rfl,rfl,rfl,rfl,rfl,rfl⟩⟩
 .rintro⟨s,hh⟩ ⟨g,m,rfl,hm,⟨hnn,hl,e2,e3,e4,e5,e6⟩,e7⟩;simp only at hl e2 e3 e4 e5 e6 e7;have hnl:∀j,qaj s j ≠ .nils:=qar hnn;rw[List.take_length];unfold zzl;generalize (c.signals.map (qjl (qke k i) (qcr k))).map Sg.row=W at *;rw[qad hl];simp[L74_0,List.range,List.range.loop,e2,e3,e4,e5,e6,e7];exact⟨_,_,⟨rfl,rfl⟩,hm,⟨by simp[qas,hnl],rfl,rfl,rfl,rfl,rfl,rfl⟩⟩
theorem qmv(c:Ct)(A k:Nat):qbk c A k=if k<2*A then [UInt8.ofNat (97+k / 2),UInt8.ofNat (48+k % 2)]else if k<2*A+c.inputs.length then(c.inputs[k-2*A]?).getD []else((c.signals.map Sg.name)[k-(2*A+c.inputs.length)]?).getD []:=by unfold qbk;rw[List.getElem?_map]
theorem qpw{a b:Ct}(A:Nat)(hi:a.inputs=b.inputs)(hs:a.signals.map Sg.name=b.signals.map Sg.name):qay a A (qac a A)=qay b A (qac b A):=by
 have hl:=congrArg List.length hs;rw[List.length_map,List.length_map]at hl;have hN:qac a A=qac b A:=by unfold qac;rw[hi,hl]
 rw[hN];unfold qay;refine List.map_congr_left fun k _=>?_;rw[qmv,qmv,hi,hs]
theorem zdh(a:Ct)(A:Nat)(g:Sg)(p m:List Int):qay ⟨a.act,a.inputs,a.signals++[g],p,m⟩ A (qac ⟨a.act,a.inputs,a.signals++[g],p,m⟩ A)=qay a A (qac a A)++[g.name]:=by
 have hN:qac ⟨a.act,a.inputs,a.signals++[g],p,m⟩ A=qac a A+1:=by unfold qac;simp only[jF,List.length_singleton];omega
 rw[hN,qzu];congr 1
 .unfold qay;refine List.map_congr_left fun k hk=>?_;have hk:=List.mem_range.1 hk;unfold qac at hk;rw[qmv,qmv];simp only[List.map_append];by_cases h1:k<2*A
  .rw[if_pos h1,if_pos h1]
  .rw[if_neg h1,if_neg h1];by_cases h2:k<2*A+a.inputs.length
   .rw[if_pos h2,if_pos h2]
   .rw[if_neg h2,if_neg h2,jI (by rw[List.length_map];omega)]
 .rw[qmv,if_neg (by unfold qac;omega),if_neg (by unfold qac;simp only;omega)];simp only[List.map_append];rw[jJ (by rw[List.length_map];unfold qac;omega),List.length_map,show qac a A-(2*A+a.inputs.length)-a.signals.length=0 by unfold qac;omega];rfl
theorem q7y(c:Ct)(k i:Int)(A:Nat):qay (qbm c k i A).d A (qac (qbm c k i A).d A)=(qbm c k i A).K:=by have:=qpw (a:=(qbm c k i A).d) (b:=c) A rfl (by unfold qbm;simp only;rw[List.map_map];rfl);rw[this];rfl
theorem zdi{c:Ct}{k i:Int}{A:Nat}{v:Int}{s:Fs}(h:qay s.d A (qac s.d A)=s.K):qay (qbf c k i A v s).d A (qac (qbf c k i A v s).d A)=(qbf c k i A v s).K:=by
 cases hn:qhc c k i v A with
 | true =>rw[qnq hn];simp only;rw[zdh s.d A _ _ _,h]
 | false =>rw[qrv hn];simp only;rw[<-h];exact qpw A rfl rfl
structure Keep32v(P:List (Int×Int))(v:Int)(gv mv nv:Nat)(st:List V):Prop where
 keep:Keep32 st
 t9:qaj st 9=.sl 20 gv mv 0 nv
 t10:qaj st 10=qjo P
 t11:qaj st 11=num v
abbrev zbn(gv mv:Nat)(w:List Bool):H:=[⟨gv,.arr mv (w.map qfi)⟩]
def zzd(c:Ct)(k i v:Int)(A:Nat)(next:Int)(B:List V)(S:Ob)(gv mv:Nat)(w:List Bool)(ps ms:List Int)(n:Nat)(st:St):Prop:=st.h=h32 c k i B ⟨0,.arr 1 ((qcs (qtg c k i v) next n ps).map qbh)⟩ ⟨0,.arr 1 ((qcs (qtf c k i v) next n ms).map qbh)⟩ S (zbn gv mv w)/\Keep32v (qgq c k i A) v gv mv w.length st.s/\qaj st.s 12=.bool (qhc c k i v n)/\qaj st.s 13=num next/\qaj st.s 14=num n
def zzm(c:Ct)(k i v:Int)(A:Nat)(next:Int)(B:List V)(S:Ob)(gv mv:Nat)(w:List Bool)(ps ms:List Int)(r:Am.R):Prop:=r.x=.exit 4/\r.st.h=h32 c k i B ⟨0,.arr 1 ((qcs (qtg c k i v) next A ps).map qbh)⟩ ⟨0,.arr 1 ((qcs (qtf c k i v) next A ms).map qbh)⟩ S (zbn gv mv w)/\Keep32v (qgq c k i A) v gv mv w.length r.st.s/\qaj r.st.s 12=.bool (qhc c k i v A)
set_option maxHeartbeats 4000000 in
theorem zsq{c:Ct}{A:Nat}(hA6:A<=6)(k i v:Int)(next:Int)(gs ms' ns:Nat)(W:List (List V))(gv mv:Nat)(w:List Bool)(ps ms:List Int)(hp:ps.length=A)(hm:ms.length=A)(hcp:c.plus.length=A)(hcm:c.minus.length=A)(st:St)(h0:zzd c k i v A next (b32 c gs ms' ns) ⟨gs,.arr ms' W⟩ gv mv w ps ms 0 st):∃r,ev pg (.code (.going 21 L74_1) st)=some r/\zzm c k i v A next (b32 c gs ms' ns) ⟨gs,.arr ms' W⟩ gv mv w ps ms r:=by
 refine qaw (zzd c k i v A next (b32 c gs ms' ns) ⟨gs,.arr ms' W⟩ gv mv w ps ms) A (zzm c k i v A next (b32 c gs ms' ns) ⟨gs,.arr ms' W⟩ gv mv w ps ms) h0 ?_ ?_
 .rintro n ⟨s,hh⟩ hn ⟨rfl,⟨⟨hnn,hl,e2,e3,e4,e5,e6⟩,e9,e10,e11⟩,e12,e13,e14⟩;simp only at hl e2 e3 e4 e5 e6 e9 e10 e11 e12 e13 e14;have hnl:∀j,qaj s j ≠ .nils:=qar hnn;have wn:=qbi n;have hn':(n:Int)<(A:Nat):=by omega
  have hpl:=qon c k i A;have hgp:((qcs (qtg c k i v) next n ps).map qbh)[n]?=some (qbh ps[n]):=by rw[List.getElem?_map,qkv (jD _),jA (by omega)];rfl
  have hgm:((qcs (qtf c k i v) next n ms).map qbh)[n]?=some (qbh ms[n]):=by rw[List.getElem?_map,qkv (jD _),jA (by omega)];rfl
  have hgl:∀h:n<(qgq c k i A).length,(qgq c k i A)[n]'h=pil c k i n:=fun h=>by simp only[qgq,List.getElem_map,List.getElem_range]
  have hnp:n<c.plus.length:=by omega
  have hnm:n<c.minus.length:=by omega
  have hneed:qhc c k i v (n+1)=(qhc c k i v n||(qtg c k i v n||qtf c k i v n)):=rfl;unfold zzd;rw[qrh,qrh,hneed];generalize ps[n]=x at *;generalize ms[n]=y at *;have hs1:qtg c k i v n=((pil c k i n).1==v):=rfl;have hs2:qtf c k i v n=((pil c k i n).2==v):=rfl;rw[hs1,hs2];generalize pil c k i n=p at *;obtain⟨p1,p2⟩:=p;generalize qgq c k i A=G at *;generalize (qcs (qtg c k i v) next n ps).map qbh=X at *;generalize (qcs (qtf c k i v) next n ms).map qbh=Y at *;generalize qhc c k i v n=B at *;rw[qad hl];simp only;by_cases hv1:p1=v
  .by_cases hv2:p2=v
   .simp[L74_1,List.range,List.range.loop,e2,e3,e4,e5,e6,e9,e10,e11,e12,e13,e14,hn,hn',hpl,wn,hgp,hgm,hgl,hv1,hv2,hnp,hnm];exact⟨⟨by simp[qas,hnl],rfl,rfl,rfl,rfl,rfl,rfl⟩,rfl,rfl,rfl⟩
   .have n2:(p2==v)=false:=by simpa using hv2
    simp[L74_1,List.range,List.range.loop,e2,e3,e4,e5,e6,e9,e10,e11,e12,e13,e14,hn,hn',hpl,wn,hgp,hgl,hv1,n2,hnp];exact⟨⟨by simp[qas,hnl],rfl,rfl,rfl,rfl,rfl,rfl⟩,rfl,rfl,rfl⟩
  .have n1:(p1==v)=false:=by simpa using hv1
   by_cases hv2:p2=v
   .simp[L74_1,List.range,List.range.loop,e2,e3,e4,e5,e6,e9,e10,e11,e12,e13,e14,hn,hn',hpl,wn,hgm,hgl,n1,hv2,hnm];exact⟨⟨by simp[qas,hnl],rfl,rfl,rfl,rfl,rfl,rfl⟩,rfl,rfl,rfl⟩
   .have n2:(p2==v)=false:=by simpa using hv2
    simp[L74_1,List.range,List.range.loop,e2,e3,e4,e5,e6,e9,e10,e11,e12,e13,e14,hn,hn',hpl,wn,hgl,n1,n2];exact⟨⟨by simp[qas,hnl],rfl,rfl,rfl,rfl,rfl,rfl⟩,rfl,rfl,rfl⟩
 .rintro⟨s,hh⟩ ⟨rfl,⟨⟨hnn,hl,e2,e3,e4,e5,e6⟩,e9,e10,e11⟩,e12,e13,e14⟩;simp only at hl e2 e3 e4 e5 e6 e9 e10 e11 e12 e13 e14;have hnl:∀j,qaj s j ≠ .nils:=qar hnn;have hpl:=qon c k i A;unfold zzm;generalize qcs (qtg c k i v) next A ps=X at *
  generalize qcs (qtf c k i v) next A ms=Y at *
  generalize qhc c k i v A=B at *;generalize qgq c k i A=G at *;rw[qad hl];simp[L74_1,List.range,List.range.loop,e2,e3,e4,e5,e6,e9,e10,e11,e12,e13,e14,hpl];exact⟨⟨by simp[qas,hnl],rfl,rfl,rfl,rfl,rfl,rfl⟩,rfl,rfl,rfl⟩
end Go.Proofs.YtggbaapfbgjaeaaGreatDoor
