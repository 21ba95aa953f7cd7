/- The faulty. -/
import Derived.Test.YtggbaapfbgjaeaaGreatDoorFy2
set_option linter.all false
namespace Go.Proofs.YtggbaapfbgjaeaaGreatDoor
open Go Go.Am Go.Proofs
set_option maxRecDepth 100000
abbrev qfi(b:Bool):List V:=[.bool b]
abbrev q6j(gk mk:Nat)(K:List Txt)(gv mv:Nat)(w:List Bool):H:=[⟨0,.arr 0 []⟩,⟨gk,.arr mk (K.map qpk)⟩,⟨gv,.arr mv (w.map qfi)⟩]
abbrev z3s:V:=.imm [[.str [115,116,117,99,107,48]],[.str [115,116,117,99,107,49]]]
structure Keep83v(li:Int)(v:Int)(gk mk nk gv mv nv:Nat)(st:List V):Prop where
 keep:Keep83 li st
 t9:qaj st 9=.sl 27 gk mk 0 nk
 t15:qaj st 15=.sl 28 gv mv 0 nv
 t92:qaj st 92=z3s
 t93:qaj st 93=num 2
 t94:qaj st 94=num v
def zzg(c:Ct)(k i:Int)(cells:List V)(li v:Int)(A:Nat)(next:Int)(B:List V)(S:Ob)(gk mk:Nat)(K:List Txt)(gv mv:Nat)(w:List Bool)(ps ms:List Int)(n:Nat)(st:St):Prop:=st.h=h83 c k i cells B ⟨0,.arr 1 ((qcs (qtg c k i v) next n ps).map qbh)⟩ ⟨0,.arr 1 ((qcs (qtf c k i v) next n ms).map qbh)⟩ S (q6j gk mk K gv mv w)/\Keep83v li v gk mk K.length gv mv w.length st.s/\qaj st.s 16=num v/\qaj st.s 17=.str (qbt v)/\qaj st.s 18=.bool (qhc c k i v n)/\qaj st.s 19=num next/\qaj st.s 103=qjo (qgq c k i A)/\qaj st.s 104=num A/\qaj st.s 105=num n
def zzo(c:Ct)(k i:Int)(cells:List V)(li v:Int)(A:Nat)(next:Int)(B:List V)(S:Ob)(gk mk:Nat)(K:List Txt)(gv mv:Nat)(w:List Bool)(ps ms:List Int)(r:R):Prop:=r.x=.exit 6/\r.st.h=h83 c k i cells B ⟨0,.arr 1 ((qcs (qtg c k i v) next A ps).map qbh)⟩ ⟨0,.arr 1 ((qcs (qtf c k i v) next A ms).map qbh)⟩ S (q6j gk mk K gv mv w)/\Keep83v li v gk mk K.length gv mv w.length r.st.s/\qaj r.st.s 16=num v/\qaj r.st.s 17=.str (qbt v)/\qaj r.st.s 18=.bool (qhc c k i v A)/\qaj r.st.s 19=num next
theorem qkv{f:Nat->Bool}{next:Int}{l:List Int}:∀{n j:Nat},n<=j->(qcs f next n l)[j]?=l[j]?
 | 0,_,_=>rfl
 | n+1,j,h=>by
  unfold qcs;split
  .rw[jO (by omega)];exact qkv (by omega)
  .exact qkv (by omega)
theorem qrh{f:Nat->Bool}{next:Int}{l:List Int}{n:Nat}:(qcs f next (n+1) l).map qbh=if f n=true then((qcs f next n l).map qbh).set n [num next]else(qcs f next n l).map qbh:=by
 rw[qcs];split
 .rw[List.map_set]
 .rfl
set_option maxHeartbeats 4000000 in
theorem zsy{c:Ct}{A:Nat}(hA6:A<=6)(k i:Int)(cells:List V)(li v v0:Int)(hcs:qij v0 cells)(next:Int)(gs ms' ns:Nat)(W:List (List V))(gk mk:Nat)(K:List Txt)(gv mv:Nat)(w:List Bool)(ps ms:List Int)(hp:ps.length=A)(hm:ms.length=A)(hcp:c.plus.length=A)(hcm:c.minus.length=A)(st:St)(h0:zzg c k i cells li v A next (b83 c gs ms' ns) ⟨gs,.arr ms' W⟩ gk mk K gv mv w ps ms 0 st):∃r,ev pg (.code (.going 29 L130_2) st)=some r/\zzo c k i cells li v A next (b83 c gs ms' ns) ⟨gs,.arr ms' W⟩ gk mk K gv mv w ps ms r:=by
 refine qaw (zzg c k i cells li v A next (b83 c gs ms' ns) ⟨gs,.arr ms' W⟩ gk mk K gv mv w ps ms) A (zzo c k i cells li v A next (b83 c gs ms' ns) ⟨gs,.arr ms' W⟩ gk mk K gv mv w ps ms) h0 ?_ ?_
 .rintro n ⟨s,hh⟩ hn ⟨rfl,⟨⟨hnn,hl,e2,e3,e4,e5,e6,e7,e8⟩,e9,e15,e92,e93,e94⟩,e16,e17,e18,e19,e103,e104,e105⟩;simp only at hl e2 e3 e4 e5 e6 e7 e8 e9 e15 e92 e93 e94 e16 e17 e18 e19 e103 e104 e105;have hnl:∀j,qaj s j ≠ .nils:=qar hnn;have wn:=qbi n;have hn':(n:Int)<(A:Nat):=by omega
  have hgp:((qcs (qtg c k i v) next n ps).map qbh)[n]?=some (qbh ps[n]):=by rw[List.getElem?_map,qkv (jD _),jA (by omega)];rfl
  have hgm:((qcs (qtf c k i v) next n ms).map qbh)[n]?=some (qbh ms[n]):=by rw[List.getElem?_map,qkv (jD _),jA (by omega)];rfl
  have hgl:(qgq c k i A)[n]?=some (pil c k i n):=by unfold qgq;rw[List.getElem?_map,List.getElem?_range hn];rfl
  have hnp:n<c.plus.length:=by omega
  have hnm:n<c.minus.length:=by omega
  have hneed:qhc c k i v (n+1)=(qhc c k i v n||(qtg c k i v n||qtf c k i v n)):=rfl;unfold zzg;rw[qrh,qrh,hneed];generalize ps[n]=x at *;generalize ms[n]=y at *;have hs1:qtg c k i v n=((pil c k i n).1==v):=rfl;have hs2:qtf c k i v n=((pil c k i n).2==v):=rfl;rw[hs1,hs2];generalize pil c k i n=p at *;obtain⟨p1,p2⟩:=p;generalize qgq c k i A=G at *;generalize (qcs (qtg c k i v) next n ps).map qbh=X at *;generalize (qcs (qtf c k i v) next n ms).map qbh=Y at *;generalize qhc c k i v n=B at *;rw[qad hl];simp only;have ha2:∀a:Nat,a<17->a<29:=fun a h=>by omega
  by_cases hv1:p1=v
  .by_cases hv2:p2=v
   .rcases hcs with⟨t,rfl⟩ | ⟨t,a,b,ha,hb',rfl⟩
    .simp[L130_2,List.range,List.range.loop,e2,e3,e4,e5,e6,e7,e8,e9,e15,e92,e93,e94,e16,e17,e18,e19,e103,e104,e105,hn',wn,hgp,hgm,hgl,hv1,hv2,hnp,hnm];exact⟨⟨by simp[qas,hnl],rfl,rfl,rfl,rfl,rfl,rfl,rfl,rfl⟩,rfl,rfl,rfl,rfl,rfl⟩
    .simp[L130_2,List.range,List.range.loop,e2,e3,e4,e5,e6,e7,e8,e9,e15,e92,e93,e94,e16,e17,e18,e19,e103,e104,e105,hn',wn,hgp,hgm,hgl,hv1,hv2,hnp,hnm,ha2 a ha,ha2 b hb'];exact⟨⟨by simp[qas,hnl],rfl,rfl,rfl,rfl,rfl,rfl,rfl,rfl⟩,rfl,rfl,rfl,rfl,rfl⟩
   .have n2:(p2==v)=false:=by simpa using hv2
    rcases hcs with⟨t,rfl⟩ | ⟨t,a,b,ha,hb',rfl⟩
    .simp[L130_2,List.range,List.range.loop,e2,e3,e4,e5,e6,e7,e8,e9,e15,e92,e93,e94,e16,e17,e18,e19,e103,e104,e105,hn',wn,hgp,hgl,hv1,n2,hnp];exact⟨⟨by simp[qas,hnl],rfl,rfl,rfl,rfl,rfl,rfl,rfl,rfl⟩,rfl,rfl,rfl,rfl,rfl⟩
    .simp[L130_2,List.range,List.range.loop,e2,e3,e4,e5,e6,e7,e8,e9,e15,e92,e93,e94,e16,e17,e18,e19,e103,e104,e105,hn',wn,hgp,hgl,hv1,n2,hnp,ha2 a ha,ha2 b hb'];exact⟨⟨by simp[qas,hnl],rfl,rfl,rfl,rfl,rfl,rfl,rfl,rfl⟩,rfl,rfl,rfl,rfl,rfl⟩
  .have n1:(p1==v)=false:=by simpa using hv1
   by_cases hv2:p2=v
   .rcases hcs with⟨t,rfl⟩ | ⟨t,a,b,ha,hb',rfl⟩
    .simp[L130_2,List.range,List.range.loop,e2,e3,e4,e5,e6,e7,e8,e9,e15,e92,e93,e94,e16,e17,e18,e19,e103,e104,e105,hn',wn,hgm,hgl,n1,hv2,hnm];exact⟨⟨by simp[qas,hnl],rfl,rfl,rfl,rfl,rfl,rfl,rfl,rfl⟩,rfl,rfl,rfl,rfl,rfl⟩
    .simp[L130_2,List.range,List.range.loop,e2,e3,e4,e5,e6,e7,e8,e9,e15,e92,e93,e94,e16,e17,e18,e19,e103,e104,e105,hn',wn,hgm,hgl,n1,hv2,hnm,ha2 a ha,ha2 b hb'];exact⟨⟨by simp[qas,hnl],rfl,rfl,rfl,rfl,rfl,rfl,rfl,rfl⟩,rfl,rfl,rfl,rfl,rfl⟩
   .have n2:(p2==v)=false:=by simpa using hv2
    rcases hcs with⟨t,rfl⟩ | ⟨t,a,b,ha,hb',rfl⟩
    .simp[L130_2,List.range,List.range.loop,e2,e3,e4,e5,e6,e7,e8,e9,e15,e92,e93,e94,e16,e17,e18,e19,e103,e104,e105,hn',wn,hgl,n1,n2];exact⟨⟨by simp[qas,hnl],rfl,rfl,rfl,rfl,rfl,rfl,rfl,rfl⟩,rfl,rfl,rfl,rfl,rfl⟩
    .simp[L130_2,List.range,List.range.loop,e2,e3,e4,e5,e6,e7,e8,e9,e15,e92,e93,e94,e16,e17,e18,e19,e103,e104,e105,hn',wn,hgl,n1,n2,ha2 a ha,ha2 b hb'];exact⟨⟨by simp[qas,hnl],rfl,rfl,rfl,rfl,rfl,rfl,rfl,rfl⟩,rfl,rfl,rfl,rfl,rfl⟩
 .rintro⟨s,hh⟩ ⟨rfl,⟨⟨hnn,hl,e2,e3,e4,e5,e6,e7,e8⟩,e9,e15,e92,e93,e94⟩,e16,e17,e18,e19,e103,e104,e105⟩;simp only at hl e2 e3 e4 e5 e6 e7 e8 e9 e15 e92 e93 e94 e16 e17 e18 e19 e103 e104 e105;have hnl:∀j,qaj s j ≠ .nils:=qar hnn;unfold zzo;generalize qcs (qtg c k i v) next A ps=X at *
  generalize qcs (qtf c k i v) next A ms=Y at *
  generalize qhc c k i v A=B at *;rw[qad hl];simp[L130_2,List.range,List.range.loop,e2,e3,e4,e5,e6,e7,e8,e9,e15,e92,e93,e94,e16,e17,e18,e19,e103,e104,e105];exact⟨⟨by simp[qas,hnl],rfl,rfl,rfl,rfl,rfl,rfl,rfl,rfl⟩,rfl,rfl,rfl,rfl,rfl⟩
structure Keep83w(li v:Int)(gk mk nk gv mv nv:Nat)(st:List V):Prop where
 keep:Keep83v li v gk mk nk gv mv nv st
 t16:qaj st 16=num v
def z0w(c:Ct)(k i:Int)(cells:List V)(li v:Int)(B:List V)(P M S:Ob)(gk mk:Nat)(K:List Txt)(gv mv:Nat)(w:List Bool)(n:Nat)(st:St):Prop:=st.h=h83 c k i cells B P M S (q6j gk mk K gv mv w)/\Keep83w li v gk mk K.length gv mv w.length st.s/\qaj st.s 17=.str (qgs (qbt v) n)
def zzp(c:Ct)(k i:Int)(cells:List V)(li v:Int)(B:List V)(P M S:Ob)(gk mk:Nat)(K:List Txt)(gv mv:Nat)(w:List Bool)(r:R):Prop:=r.x=.exit 8/\r.st.h=h83 c k i cells B P M S (q6j gk mk K gv mv w)/\Keep83w li v gk mk K.length gv mv w.length r.st.s/\qaj r.st.s 17=.str (qfr K (qbt v))
theorem q0z(s:Txt)(n:Nat):qgs s (n+1)=qgs s n++[95]:=by unfold qgs;rw[List.replicate_succ',List.append_assoc]
set_option maxHeartbeats 4000000 in
theorem zsz{c:Ct}(k i:Int)(cells:List V)(li v v0:Int)(hcs:qij v0 cells)(gs ms' ns:Nat)(W:List (List V))(ps ms:List Int)(gk mk:Nat)(K:List Txt)(hK:K.length<=4096)(gv mv:Nat)(w:List Bool)(st:St)(h0:z0w c k i cells li v (b83 c gs ms' ns) ⟨0,.arr 1 (ps.map qbh)⟩ ⟨0,.arr 1 (ms.map qbh)⟩ ⟨gs,.arr ms' W⟩ gk mk K gv mv w 0 st):∃r,ev pg (.code (.going 29 L130_3) st)=some r/\zzp c k i cells li v (b83 c gs ms' ns) ⟨0,.arr 1 (ps.map qbh)⟩ ⟨0,.arr 1 (ms.map qbh)⟩ ⟨gs,.arr ms' W⟩ gk mk K gv mv w r:=by
 refine qaw (z0w c k i cells li v (b83 c gs ms' ns) ⟨0,.arr 1 (ps.map qbh)⟩ ⟨0,.arr 1 (ms.map qbh)⟩ ⟨gs,.arr ms' W⟩ gk mk K gv mv w) (quk K (qbt v)) (zzp c k i cells li v (b83 c gs ms' ns) ⟨0,.arr 1 (ps.map qbh)⟩ ⟨0,.arr 1 (ms.map qbh)⟩ ⟨gs,.arr ms' W⟩ gk mk K gv mv w) h0 ?_ ?_
 .rintro n ⟨s,hh⟩ hn ⟨rfl,⟨⟨⟨hnn,hl,e2,e3,e4,e5,e6,e7,e8⟩,e9,e15,e92,e93,e94⟩,e16⟩,e17⟩;simp only at hl e2 e3 e4 e5 e6 e7 e8 e9 e15 e92 e93 e94 e16 e17;have hnl:∀j,qaj s j ≠ .nils:=qar hnn;have ha2:∀a:Nat,a<17->a<29:=fun a h=>by omega
  have zct:=ev175 K (qgs (qbt v) n) hK;have hmem:K.any (isS (qgs (qbt v) n))=true:=by rw[zex,jW];exact q7k K (qbt v) n hn
  have hlen:(qgs (qbt v) n).length<=8192:=by have h1:=q1u K (qbt v);have h2:(qbt v).length=6:=rfl;rw[jF,kD];omega
  have hb:(qgs (qbt v) n).length+1<=140737488355328:=by omega
  rw[hmem]at zct;have hsu:=q0z (qbt v) n;unfold z0w;rw[hsu];generalize qgs (qbt v) n=T at *;rw[qad hl];rcases hcs with⟨t,rfl⟩ | ⟨t,a,b,ha,hb',rfl⟩
  .simp[L130_3,List.range,List.range.loop,e2,e3,e4,e5,e6,e7,e8,e9,e15,e92,e93,e94,e16,e17,zct,hb];exact⟨⟨⟨by simp[qas,hnl],rfl,rfl,rfl,rfl,rfl,rfl,rfl,rfl⟩,rfl,rfl,rfl,rfl,rfl⟩,rfl⟩
  .simp[L130_3,List.range,List.range.loop,e2,e3,e4,e5,e6,e7,e8,e9,e15,e92,e93,e94,e16,e17,zct,hb,ha2 a ha,ha2 b hb'];exact⟨⟨⟨by simp[qas,hnl],rfl,rfl,rfl,rfl,rfl,rfl,rfl,rfl⟩,rfl,rfl,rfl,rfl,rfl⟩,rfl⟩
 .rintro⟨s,hh⟩ ⟨rfl,⟨⟨⟨hnn,hl,e2,e3,e4,e5,e6,e7,e8⟩,e9,e15,e92,e93,e94⟩,e16⟩,e17⟩;simp only at hl e2 e3 e4 e5 e6 e7 e8 e9 e15 e92 e93 e94 e16 e17;have hnl:∀j,qaj s j ≠ .nils:=qar hnn;have zct:=ev175 K (qgs (qbt v) (quk K (qbt v))) hK;have hmem:K.any (isS (qgs (qbt v) (quk K (qbt v))))=false:=by
   rw[zex,decide_eq_false_iff_not];exact q9y K (qbt v)
  rw[hmem]at zct;unfold zzp qfr;generalize qgs (qbt v) (quk K (qbt v))=T at *;rw[qad hl];simp[L130_3,List.range,List.range.loop,e2,e3,e4,e5,e6,e7,e8,e9,e15,e92,e93,e94,e16,e17,zct];exact⟨⟨⟨by simp[qas,hnl],rfl,rfl,rfl,rfl,rfl,rfl,rfl,rfl⟩,rfl,rfl,rfl,rfl,rfl⟩,rfl⟩
end Go.Proofs.YtggbaapfbgjaeaaGreatDoor
