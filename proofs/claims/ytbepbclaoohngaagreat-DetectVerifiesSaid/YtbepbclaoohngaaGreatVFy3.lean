/- The faulty control, by the program: pilots and fresh names. -/
import Derived.Test.YtbepbclaoohngaaGreatVFy2
set_option linter.all false
namespace Go.Proofs.YtbepbclaoohngaaGreat
open Go Go.Am Go.Proofs
set_option maxRecDepth 100000
abbrev qfa(b:Bool):List V:=[.bool b]
abbrev q5u(gk mk:Nat)(K:List Txt)(gv mv:Nat)(w:List Bool):H:=[⟨0,.arr 0 []⟩,⟨gk,.arr mk (K.map qoe)⟩,⟨gv,.arr mv (w.map qfa)⟩]
abbrev jew:V:=.imm [[.str [115,116,117,99,107,48]],[.str [115,116,117,99,107,49]]]
structure Keep83v(li:Int)(v:Int)(gk mk nk gv mv nv:Nat)(st:List V):Prop where
 keep:Keep83 li st
 t9:qai st 9=.sl 27 gk mk 0 nk
 t15:qai st 15=.sl 28 gv mv 0 nv
 t92:qai st 92=jew
 t93:qai st 93=num 2
 t94:qai st 94=num v
def z3a(c:Ct)(k i:Int)(cells:List V)(li v:Int)(A:Nat)(next:Int)(B:List V)(S:Ob)(gk mk:Nat)(K:List Txt)(gv mv:Nat)(w:List Bool)(ps ms:List Int)(n:Nat)(st:St):Prop:=st.h=h83 c k i cells B ⟨0,.arr 1 ((qcx (qst c k i v) next n ps).map qbj)⟩ ⟨0,.arr 1 ((qcx (qss c k i v) next n ms).map qbj)⟩ S (q5u gk mk K gv mv w)/\Keep83v li v gk mk K.length gv mv w.length st.s/\qai st.s 16=num v/\qai st.s 17=.str (qbv v)/\qai st.s 18=.bool (qha c k i v n)/\qai st.s 19=num next/\qai st.s 103=qjj (qgp c k i A)/\qai st.s 104=num A/\qai st.s 105=num n
def z3i(c:Ct)(k i:Int)(cells:List V)(li v:Int)(A:Nat)(next:Int)(B:List V)(S:Ob)(gk mk:Nat)(K:List Txt)(gv mv:Nat)(w:List Bool)(ps ms:List Int)(r:R):Prop:=r.x=.exit 6/\r.st.h=h83 c k i cells B ⟨0,.arr 1 ((qcx (qst c k i v) next A ps).map qbj)⟩ ⟨0,.arr 1 ((qcx (qss c k i v) next A ms).map qbj)⟩ S (q5u gk mk K gv mv w)/\Keep83v li v gk mk K.length gv mv w.length r.st.s/\qai r.st.s 16=num v/\qai r.st.s 17=.str (qbv v)/\qai r.st.s 18=.bool (qha c k i v A)/\qai r.st.s 19=num next
theorem qkm{f:Nat->Bool}{next:Int}{l:List Int}:∀{n j:Nat},n<=j->(qcx f next n l)[j]?=l[j]?
 | 0,_,_=>rfl
 | n+1,j,h=>by
  unfold qcx
  split
  .rw[jO (by omega)]
   exact qkm (by omega)
  .exact qkm (by omega)
theorem qqr{f:Nat->Bool}{next:Int}{l:List Int}{n:Nat}:(qcx f next (n+1) l).map qbj=if f n=true then((qcx f next n l).map qbj).set n [num next]else(qcx f next n l).map qbj:=by
 rw[qcx]
 split
 .rw[List.map_set]
 .rfl
set_option maxHeartbeats 4000000 in
theorem zuf{c:Ct}{A:Nat}(hA6:A<=6)(k i:Int)(cells:List V)(li v v0:Int)(hcs:qil v0 cells)(next:Int)(gs ms' ns:Nat)(W:List (List V))(gk mk:Nat)(K:List Txt)(gv mv:Nat)(w:List Bool)(ps ms:List Int)(hp:ps.length=A)(hm:ms.length=A)(hcp:c.plus.length=A)(hcm:c.minus.length=A)(st:St)(h0:z3a c k i cells li v A next (b83 c gs ms' ns) ⟨gs,.arr ms' W⟩ gk mk K gv mv w ps ms 0 st):∃r,ev pg (.code (.going 29 L86_2) st)=some r/\z3i c k i cells li v A next (b83 c gs ms' ns) ⟨gs,.arr ms' W⟩ gk mk K gv mv w ps ms r:=by
 refine qau (z3a c k i cells li v A next (b83 c gs ms' ns) ⟨gs,.arr ms' W⟩ gk mk K gv mv w ps ms) A (z3i c k i cells li v A next (b83 c gs ms' ns) ⟨gs,.arr ms' W⟩ gk mk K gv mv w ps ms) h0 ?_ ?_
 .rintro n ⟨s,hh⟩ hn ⟨rfl,⟨⟨hnn,hl,e2,e3,e4,e5,e6,e7,e8⟩,e9,e15,e92,e93,e94⟩,e16,e17,e18,e19,e103,e104,e105⟩
  simp only at hl e2 e3 e4 e5 e6 e7 e8 e9 e15 e92 e93 e94 e16 e17 e18 e19 e103 e104 e105
  have hnl:∀j,qai s j ≠ .nils:=qar hnn
  have wn:=qbb (k:=n) (by omega)
  have hn':(n:Int)<(A:Nat):=by omega
  have hgp:((qcx (qst c k i v) next n ps).map qbj)[n]?=some (qbj ps[n]):=by rw[List.getElem?_map,qkm (jD _),jA (by omega)];rfl
  have hgm:((qcx (qss c k i v) next n ms).map qbj)[n]?=some (qbj ms[n]):=by rw[List.getElem?_map,qkm (jD _),jA (by omega)];rfl
  have hgl:(qgp c k i A)[n]?=some (pil c k i n):=by
   unfold qgp
   rw[List.getElem?_map,List.getElem?_range hn];rfl
  have hnp:n<c.plus.length:=by omega
  have hnm:n<c.minus.length:=by omega
  have hneed:qha c k i v (n+1)=(qha c k i v n||(qst c k i v n||qss c k i v n)):=rfl
  unfold z3a
  rw[qqr,qqr,hneed]
  generalize ps[n]=x at *
  generalize ms[n]=y at *
  have hs1:qst c k i v n=((pil c k i n).1==v):=rfl
  have hs2:qss c k i v n=((pil c k i n).2==v):=rfl
  rw[hs1,hs2]
  generalize pil c k i n=p at *
  obtain⟨p1,p2⟩:=p
  generalize qgp c k i A=G at *
  generalize (qcx (qst c k i v) next n ps).map qbj=X at *
  generalize (qcx (qss c k i v) next n ms).map qbj=Y at *
  generalize qha c k i v n=B at *
  rw[qad hl]
  simp only
  have ha2:∀a:Nat,a<17->a<29:=fun a h=>by omega
  by_cases hv1:p1=v
  .by_cases hv2:p2=v
   .rcases hcs with⟨t,rfl⟩ | ⟨t,a,b,ha,hb',rfl⟩
    .simp[L86_2,List.range,List.range.loop,e2,e3,e4,e5,e6,e7,e8,e9,e15,e92,e93,e94,e16,e17,e18,e19,e103,e104,e105,hn',wn,hgp,hgm,hgl,hv1,hv2,hnp,hnm]
     exact⟨⟨by simp[qas,hnl],rfl,rfl,rfl,rfl,rfl,rfl,rfl,rfl⟩,rfl,rfl,rfl,rfl,rfl⟩
    .simp[L86_2,List.range,List.range.loop,e2,e3,e4,e5,e6,e7,e8,e9,e15,e92,e93,e94,e16,e17,e18,e19,e103,e104,e105,hn',wn,hgp,hgm,hgl,hv1,hv2,hnp,hnm,ha2 a ha,ha2 b hb']
     exact⟨⟨by simp[qas,hnl],rfl,rfl,rfl,rfl,rfl,rfl,rfl,rfl⟩,rfl,rfl,rfl,rfl,rfl⟩
   .have n2:(p2==v)=false:=by simpa using hv2
    rcases hcs with⟨t,rfl⟩ | ⟨t,a,b,ha,hb',rfl⟩
    .simp[L86_2,List.range,List.range.loop,e2,e3,e4,e5,e6,e7,e8,e9,e15,e92,e93,e94,e16,e17,e18,e19,e103,e104,e105,hn',wn,hgp,hgl,hv1,n2,hnp]
     exact⟨⟨by simp[qas,hnl],rfl,rfl,rfl,rfl,rfl,rfl,rfl,rfl⟩,rfl,rfl,rfl,rfl,rfl⟩
    .simp[L86_2,List.range,List.range.loop,e2,e3,e4,e5,e6,e7,e8,e9,e15,e92,e93,e94,e16,e17,e18,e19,e103,e104,e105,hn',wn,hgp,hgl,hv1,n2,hnp,ha2 a ha,ha2 b hb']
     exact⟨⟨by simp[qas,hnl],rfl,rfl,rfl,rfl,rfl,rfl,rfl,rfl⟩,rfl,rfl,rfl,rfl,rfl⟩
  .have n1:(p1==v)=false:=by simpa using hv1
   by_cases hv2:p2=v
   .rcases hcs with⟨t,rfl⟩ | ⟨t,a,b,ha,hb',rfl⟩
    .simp[L86_2,List.range,List.range.loop,e2,e3,e4,e5,e6,e7,e8,e9,e15,e92,e93,e94,e16,e17,e18,e19,e103,e104,e105,hn',wn,hgm,hgl,n1,hv2,hnm]
     exact⟨⟨by simp[qas,hnl],rfl,rfl,rfl,rfl,rfl,rfl,rfl,rfl⟩,rfl,rfl,rfl,rfl,rfl⟩
    .simp[L86_2,List.range,List.range.loop,e2,e3,e4,e5,e6,e7,e8,e9,e15,e92,e93,e94,e16,e17,e18,e19,e103,e104,e105,hn',wn,hgm,hgl,n1,hv2,hnm,ha2 a ha,ha2 b hb']
     exact⟨⟨by simp[qas,hnl],rfl,rfl,rfl,rfl,rfl,rfl,rfl,rfl⟩,rfl,rfl,rfl,rfl,rfl⟩
   .have n2:(p2==v)=false:=by simpa using hv2
    rcases hcs with⟨t,rfl⟩ | ⟨t,a,b,ha,hb',rfl⟩
    .simp[L86_2,List.range,List.range.loop,e2,e3,e4,e5,e6,e7,e8,e9,e15,e92,e93,e94,e16,e17,e18,e19,e103,e104,e105,hn',wn,hgl,n1,n2]
     exact⟨⟨by simp[qas,hnl],rfl,rfl,rfl,rfl,rfl,rfl,rfl,rfl⟩,rfl,rfl,rfl,rfl,rfl⟩
    .simp[L86_2,List.range,List.range.loop,e2,e3,e4,e5,e6,e7,e8,e9,e15,e92,e93,e94,e16,e17,e18,e19,e103,e104,e105,hn',wn,hgl,n1,n2,ha2 a ha,ha2 b hb']
     exact⟨⟨by simp[qas,hnl],rfl,rfl,rfl,rfl,rfl,rfl,rfl,rfl⟩,rfl,rfl,rfl,rfl,rfl⟩
 .rintro⟨s,hh⟩ ⟨rfl,⟨⟨hnn,hl,e2,e3,e4,e5,e6,e7,e8⟩,e9,e15,e92,e93,e94⟩,e16,e17,e18,e19,e103,e104,e105⟩
  simp only at hl e2 e3 e4 e5 e6 e7 e8 e9 e15 e92 e93 e94 e16 e17 e18 e19 e103 e104 e105
  have hnl:∀j,qai s j ≠ .nils:=qar hnn
  unfold z3i
  generalize qcx (qst c k i v) next A ps=X at *
  generalize qcx (qss c k i v) next A ms=Y at *
  generalize qha c k i v A=B at *
  rw[qad hl]
  simp[L86_2,List.range,List.range.loop,e2,e3,e4,e5,e6,e7,e8,e9,e15,e92,e93,e94,e16,e17,e18,e19,e103,e104,e105]
  exact⟨⟨by simp[qas,hnl],rfl,rfl,rfl,rfl,rfl,rfl,rfl,rfl⟩,rfl,rfl,rfl,rfl,rfl⟩
structure Keep83w(li v:Int)(gk mk nk gv mv nv:Nat)(st:List V):Prop where
 keep:Keep83v li v gk mk nk gv mv nv st
 t16:qai st 16=num v
def jab(c:Ct)(k i:Int)(cells:List V)(li v:Int)(B:List V)(P M S:Ob)(gk mk:Nat)(K:List Txt)(gv mv:Nat)(w:List Bool)(n:Nat)(st:St):Prop:=st.h=h83 c k i cells B P M S (q5u gk mk K gv mv w)/\Keep83w li v gk mk K.length gv mv w.length st.s/\qai st.s 17=.str (qgr (qbv v) n)
def z3j(c:Ct)(k i:Int)(cells:List V)(li v:Int)(B:List V)(P M S:Ob)(gk mk:Nat)(K:List Txt)(gv mv:Nat)(w:List Bool)(r:R):Prop:=r.x=.exit 8/\r.st.h=h83 c k i cells B P M S (q5u gk mk K gv mv w)/\Keep83w li v gk mk K.length gv mv w.length r.st.s/\qai r.st.s 17=.str (qfp K (qbv v))
theorem q0i(s:Txt)(n:Nat):qgr s (n+1)=qgr s n++[95]:=by
 unfold qgr
 rw[List.replicate_succ',List.append_assoc]
set_option maxHeartbeats 4000000 in
theorem zug{c:Ct}(k i:Int)(cells:List V)(li v v0:Int)(hcs:qil v0 cells)(gs ms' ns:Nat)(W:List (List V))(ps ms:List Int)(gk mk:Nat)(K:List Txt)(hK:K.length<=4096)(gv mv:Nat)(w:List Bool)(st:St)(h0:jab c k i cells li v (b83 c gs ms' ns) ⟨0,.arr 1 (ps.map qbj)⟩ ⟨0,.arr 1 (ms.map qbj)⟩ ⟨gs,.arr ms' W⟩ gk mk K gv mv w 0 st):∃r,ev pg (.code (.going 29 L86_3) st)=some r/\z3j c k i cells li v (b83 c gs ms' ns) ⟨0,.arr 1 (ps.map qbj)⟩ ⟨0,.arr 1 (ms.map qbj)⟩ ⟨gs,.arr ms' W⟩ gk mk K gv mv w r:=by
 refine qau (jab c k i cells li v (b83 c gs ms' ns) ⟨0,.arr 1 (ps.map qbj)⟩ ⟨0,.arr 1 (ms.map qbj)⟩ ⟨gs,.arr ms' W⟩ gk mk K gv mv w) (qua K (qbv v)) (z3j c k i cells li v (b83 c gs ms' ns) ⟨0,.arr 1 (ps.map qbj)⟩ ⟨0,.arr 1 (ms.map qbj)⟩ ⟨gs,.arr ms' W⟩ gk mk K gv mv w) h0 ?_ ?_
 .rintro n ⟨s,hh⟩ hn ⟨rfl,⟨⟨⟨hnn,hl,e2,e3,e4,e5,e6,e7,e8⟩,e9,e15,e92,e93,e94⟩,e16⟩,e17⟩
  simp only at hl e2 e3 e4 e5 e6 e7 e8 e9 e15 e92 e93 e94 e16 e17
  have hnl:∀j,qai s j ≠ .nils:=qar hnn
  have ha2:∀a:Nat,a<17->a<29:=fun a h=>by omega
  have zch:=ev144 K (qgr (qbv v) n) hK
  have hmem:K.any (isS (qgr (qbv v) n))=true:=by
   rw[zem,jW]
   exact q6w K (qbv v) n hn
  have hlen:(qgr (qbv v) n).length<=8192:=by
   have h1:=q1a K (qbv v)
   have h2:(qbv v).length=6:=rfl
   rw[jF,kD]
   omega
  have hb:(qgr (qbv v) n).length+1<=140737488355328:=by omega
  rw[hmem]at zch
  have hsu:=q0i (qbv v) n
  unfold jab
  rw[hsu]
  generalize qgr (qbv v) n=T at *
  rw[qad hl]
  rcases hcs with⟨t,rfl⟩ | ⟨t,a,b,ha,hb',rfl⟩
  .simp[L86_3,List.range,List.range.loop,e2,e3,e4,e5,e6,e7,e8,e9,e15,e92,e93,e94,e16,e17,zch,hb]
   exact⟨⟨⟨by simp[qas,hnl],rfl,rfl,rfl,rfl,rfl,rfl,rfl,rfl⟩,rfl,rfl,rfl,rfl,rfl⟩,rfl⟩
  .simp[L86_3,List.range,List.range.loop,e2,e3,e4,e5,e6,e7,e8,e9,e15,e92,e93,e94,e16,e17,zch,hb,ha2 a ha,ha2 b hb']
   exact⟨⟨⟨by simp[qas,hnl],rfl,rfl,rfl,rfl,rfl,rfl,rfl,rfl⟩,rfl,rfl,rfl,rfl,rfl⟩,rfl⟩
 .rintro⟨s,hh⟩ ⟨rfl,⟨⟨⟨hnn,hl,e2,e3,e4,e5,e6,e7,e8⟩,e9,e15,e92,e93,e94⟩,e16⟩,e17⟩
  simp only at hl e2 e3 e4 e5 e6 e7 e8 e9 e15 e92 e93 e94 e16 e17
  have hnl:∀j,qai s j ≠ .nils:=qar hnn
  have zch:=ev144 K (qgr (qbv v) (qua K (qbv v))) hK
  have hmem:K.any (isS (qgr (qbv v) (qua K (qbv v))))=false:=by
   rw[zem,decide_eq_false_iff_not]
   exact q9i K (qbv v)
  rw[hmem]at zch
  unfold z3j qfp
  generalize qgr (qbv v) (qua K (qbv v))=T at *
  rw[qad hl]
  simp[L86_3,List.range,List.range.loop,e2,e3,e4,e5,e6,e7,e8,e9,e15,e92,e93,e94,e16,e17,zch]
  exact⟨⟨⟨by simp[qas,hnl],rfl,rfl,rfl,rfl,rfl,rfl,rfl,rfl⟩,rfl,rfl,rfl,rfl,rfl⟩,rfl⟩
end Go.Proofs.YtbepbclaoohngaaGreat
