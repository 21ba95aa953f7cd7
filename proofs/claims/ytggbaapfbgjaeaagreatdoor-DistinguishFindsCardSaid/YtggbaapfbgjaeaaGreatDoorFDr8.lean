/- The program's. -/
import Derived.Test.YtggbaapfbgjaeaaGreatDoorFDr3
import Derived.Test.YtggbaapfbgjaeaaGreatDoorFVs3
import Derived.Test.YtggbaapfbgjaeaaGreatDoorFEq2
set_option linter.all false
namespace Go.Proofs.YtggbaapfbgjaeaaGreatDoor
open Go Go.Am Go.Proofs
set_option maxRecDepth 100000
set_option maxHeartbeats 4000000
theorem q4s{n j:Nat}{l:List (List Int)}(hj:j<l.length):qmm n (l.take (j+1))=qmm n (l.take j)++qmu n l[j]:=by unfold qmm;rw[jK hj,List.flatMap_append];simp
theorem qif(n:Nat):∀l:List (List Int),(qmm n l).length=n*l.length
 | []=>by simp[qmm]
 | t :: l=>by have:=qif n l;unfold qmm at this ⊢;simp only[List.flatMap_cons,jF,qoi,this,List.length_cons,Nat.mul_succ];omega
def qqp(n:Int)(most g:Nat)(O:Nat)(fr k to i:Int)(q:Option V):Tm:=[nN n,nN most,none,none,some (.sl 1 0 0 0 0),some (.sl 0 g 1 0 O),nN fr,nN k,nN to,nN i]++zN 21++[q]++zN 12
theorem z3t(n most g:Nat)(O:List (List Int))(fr:Nat)(k:Int)(E:H)(hE:E=[]\/E=[⟨0,.arr 0 []⟩])(q:Option V)(hq:zpk q)(hfr:fr<=O.length)(hn:n<=100)(ht:∀t∈O,t.length<=10)(hO:O.length+n*(O.length-fr)<=500){st:St}(h0:At (qqp n most g O.length fr k O.length fr q) (hEv g O E) st) :
  ∃r,ev pg (.code (.goingF (2+E.length) [5] L49_1) st)=some r/\∃g' q',zpk q'/\qar (.exit 2) (qqp n most g' (O++qmm n (O.drop fr)).length fr k O.length O.length q') (hEv g' (O++qmm n (O.drop fr)) E) r:=by
 have hdl:(O.drop fr).length=O.length-fr:=List.length_drop;refine qrj (α:=Nat×Option V) (O.drop fr).length (fun j a=>qqp n most a.1 (O++qmm n ((O.drop fr).take j)).length fr k O.length (fr+j:Nat) a.2) (fun j a=>hEv a.1 (O++qmm n ((O.drop fr).take j)) E) (fun _ a=>zpk a.2) _ ?_ ?_ (g,q) hq (by simpa[qmm]using h0)
 .rintro j ⟨g',q'⟩ f hf hj hq';have hlt:fr+j<O.length:=by omega
  have hlti:(fr:Int)+j<O.length:=by omega
  have wx:=qam (n:=(fr:Int)+j+1) (by omega) (by omega);have hnx:=q4s (n:=n) hj;have hle:(qmm n ((O.drop fr).take j)).length<=n*(O.length-fr):=by rw[qif,List.length_take];exact Nat.mul_le_mul_left _ (by omega)
  have hle2:(qmm n ((O.drop fr).take j)).length+n<=n*(O.length-fr):=by
   have h1:(qmm n ((O.drop fr).take (j+1))).length=(qmm n ((O.drop fr).take j)).length+n:=by rw[hnx,jF,qoi]
   have h2:(qmm n ((O.drop fr).take (j+1))).length<=n*(O.length-fr):=by rw[qif,List.length_take];exact Nat.mul_le_mul_left _ (by omega)
   omega
  have hit:(O++qmm n ((O.drop fr).take j))[fr+j]?=some (O.drop fr)[j]:=by rw[jI hlt,List.getElem_drop,jA hlt]
  have htl:(O.drop fr)[j].length<=10:=ht _ (List.mem_of_mem_drop (jH hj));rw[hnx,<-List.append_assoc];generalize hP:O++qmm n ((O.drop fr).take j)=P at *;have hPl:P.length+n<=1000:=by rw[<-hP,jF];omega
  have hlp:=fun E hE q hq st=>z3s n most g' P fr k O.length (fr+j) (O.drop fr)[j] hit E hE q hq hn htl hPl (st:=st);generalize (O.drop fr)[j]=t at *;have hfin:(P++qmu n t).length=P.length+n:=by rw[jF,qoi]
  rw[hfin];rcases hE with rfl | rfl<;>rcases hq' with h | h<;>simp only at h<;>subst h
  .have hl:=fun st=>hlp [] (.inl rfl) none (.inl rfl) st;refine(?_:∃r,ev pg (.code L49_1 ⟨fill f 0 (qqp n most g' P.length fr k O.length (fr+j:Nat) none),hEv g' P []⟩)=some r/\_);simp[qqp,L49_1,hlti,qie,hf.ne];generalize hr:ev pg (.code (.goingF _ _ L49_0) _)=o;obtain⟨r,rfl,g2,q2,hq2,f2,hf2,rfl⟩:∃r,o=some r/\_:=by
    rw[<-hr];exact hl _ (by simp[qhz,hf.ne])
   rcases hq2 with rfl | rfl
   .simp[-qjh,qhz,hf2.ne,wx];exact⟨g2,none,.inl rfl,⟨rfl,by omega,by simp[hf2.ne]⟩,rfl⟩
   .simp[-qjh,qhz,hf2.ne,wx];exact⟨g2,some .nils,.inr rfl,⟨rfl,by omega,by simp[hf2.ne]⟩,rfl⟩
  .have hl:=fun st=>hlp [⟨0,.arr 0 []⟩] (.inr (.inl rfl)) none (.inl rfl) st;refine(?_:∃r,ev pg (.code L49_1 ⟨fill f 0 (qqp n most g' P.length fr k O.length (fr+j:Nat) (some .nils)),hEv g' P []⟩)=some r/\_);simp[qqp,L49_1,hlti,qie,hf.ne];generalize hr:ev pg (.code (.goingF _ _ L49_0) _)=o;obtain⟨r,rfl,g2,q2,hq2,f2,hf2,rfl⟩:∃r,o=some r/\_:=by
    rw[<-hr];exact hl _ (by simp[qhz,hf.ne])
   rcases hq2 with rfl | rfl
   .simp[-qjh,qhz,hf2.ne,wx];exact⟨g2,none,.inl rfl,⟨rfl,by omega,by simp[hf2.ne]⟩,rfl⟩
   .simp[-qjh,qhz,hf2.ne,wx];exact⟨g2,some .nils,.inr rfl,⟨rfl,by omega,by simp[hf2.ne]⟩,rfl⟩
  .have hl:=fun st=>hlp [⟨0,.arr 0 []⟩] (.inr (.inl rfl)) none (.inl rfl) st;refine(?_:∃r,ev pg (.code L49_1 ⟨fill f 0 (qqp n most g' P.length fr k O.length (fr+j:Nat) none),hEv g' P [⟨0,.arr 0 []⟩]⟩)=some r/\_);simp[qqp,L49_1,hlti,qie,hf.ne];generalize hr:ev pg (.code (.goingF _ _ L49_0) _)=o;obtain⟨r,rfl,g2,q2,hq2,f2,hf2,rfl⟩:∃r,o=some r/\_:=by
    rw[<-hr];exact hl _ (by simp[qhz,hf.ne])
   rcases hq2 with rfl | rfl
   .simp[-qjh,qhz,hf2.ne,wx];exact⟨g2,none,.inl rfl,⟨rfl,by omega,by simp[hf2.ne]⟩,rfl⟩
   .simp[-qjh,qhz,hf2.ne,wx];exact⟨g2,some .nils,.inr rfl,⟨rfl,by omega,by simp[hf2.ne]⟩,rfl⟩
  .have hl:=fun st=>hlp [⟨0,.arr 0 []⟩,⟨0,.arr 0 []⟩] (.inr (.inr rfl)) none (.inl rfl) st;refine(?_:∃r,ev pg (.code L49_1 ⟨fill f 0 (qqp n most g' P.length fr k O.length (fr+j:Nat) (some .nils)),hEv g' P [⟨0,.arr 0 []⟩]⟩)=some r/\_);simp[qqp,L49_1,hlti,qie,hf.ne];generalize hr:ev pg (.code (.goingF _ _ L49_0) _)=o;obtain⟨r,rfl,g2,q2,hq2,f2,hf2,rfl⟩:∃r,o=some r/\_:=by
    rw[<-hr];exact hl _ (by simp[qhz,hf.ne])
   rcases hq2 with rfl | rfl
   .simp[-qjh,qhz,hf2.ne,wx];exact⟨g2,none,.inl rfl,⟨rfl,by omega,by simp[hf2.ne]⟩,rfl⟩
   .simp[-qjh,qhz,hf2.ne,wx];exact⟨g2,some .nils,.inr rfl,⟨rfl,by omega,by simp[hf2.ne]⟩,rfl⟩
 .rintro⟨g',q'⟩ f hf hq';have hPl:O++qmm n ((O.drop fr).take (O.drop fr).length)=O++qmm n (O.drop fr):=by rw[List.take_length]
  simp only[hPl];have hto:fr+(O.drop fr).length=O.length:=by omega
  rw[hto];generalize O++qmm n (O.drop fr)=P;rcases hE with rfl | rfl<;>rcases hq' with h | h<;>simp only at h<;>subst h
  .obtain⟨S,e,hS⟩:∃S,ev pg (.code L49_1 ⟨fill f 0 (qqp n most g' P.length fr k O.length O.length none),hEv g' P []⟩)=some { x:=.exit 2,st:=⟨S,hEv g' P []⟩ }/\qft (qqp n most g' P.length fr k O.length O.length none) S:=by
    simp[qqp,L49_1,hf.ne]
   exact⟨_,e,by simp,g',none,.inl rfl,qbo.2 ⟨rfl,hS,rfl⟩⟩
  .obtain⟨S,e,hS⟩:∃S,ev pg (.code L49_1 ⟨fill f 0 (qqp n most g' P.length fr k O.length O.length (some .nils)),hEv g' P []⟩)=some { x:=.exit 2,st:=⟨S,hEv g' P []⟩ }/\qft (qqp n most g' P.length fr k O.length O.length (some .nils)) S:=by
    simp[qqp,L49_1,hf.ne]
   exact⟨_,e,by simp,g',(some .nils),.inr rfl,qbo.2 ⟨rfl,hS,rfl⟩⟩
  .obtain⟨S,e,hS⟩:∃S,ev pg (.code L49_1 ⟨fill f 0 (qqp n most g' P.length fr k O.length O.length none),hEv g' P [⟨0,.arr 0 []⟩]⟩)=some { x:=.exit 2,st:=⟨S,hEv g' P [⟨0,.arr 0 []⟩]⟩ }/\qft (qqp n most g' P.length fr k O.length O.length none) S:=by
    simp[qqp,L49_1,hf.ne]
   exact⟨_,e,by simp,g',none,.inl rfl,qbo.2 ⟨rfl,hS,rfl⟩⟩
  .obtain⟨S,e,hS⟩:∃S,ev pg (.code L49_1 ⟨fill f 0 (qqp n most g' P.length fr k O.length O.length (some .nils)),hEv g' P [⟨0,.arr 0 []⟩]⟩)=some { x:=.exit 2,st:=⟨S,hEv g' P [⟨0,.arr 0 []⟩]⟩ }/\qft (qqp n most g' P.length fr k O.length O.length (some .nils)) S:=by
    simp[qqp,L49_1,hf.ne]
   exact⟨_,e,by simp,g',(some .nils),.inr rfl,qbo.2 ⟨rfl,hS,rfl⟩⟩
def frm(n:Nat):Nat->Nat
 | 0=>0
 | k+1=>(qcm n k).length
theorem zne(n:Nat):∀k,(qcm n k).drop (frm n k)=lvl n k
 | 0=>rfl
 | k+1=>by simp[frm,qcm]
theorem zye(n:Nat):∀k,frm n k<=(qcm n k).length
 | 0=>by simp[frm]
 | k+1=>by simp[frm,qcm]
theorem zfi(n k:Nat):qcm n k++qmm n ((qcm n k).drop (frm n k))=qcm n (k+1):=by rw[zne];rfl
abbrev quu(O:List (List Int)):V:=.imm (O.map zwo)
def q7b(n:Int)(most g:Nat)(O:Nat)(fr k:Int)(q:Option V):Tm:=[nN n,nN most,none,none,some (.sl 1 0 0 0 0),some (.sl 0 g 1 0 O),nN fr,nN k]++zN 23++[q]++zN 12
theorem z3u(n most g:Nat)(hn:n<=100)(hm:most<=10)(hO:(qcm n most).length<=500){st:St}(h0:At (q7b n most g 1 0 0 none) (hEv g [[]] []) st) :
  ∃r,ev pg (.code (.goingF 2 [5,6] L49_2) st)=some r/\∃g' q',zpk q'/\qar (.exit 0) (q7b n most g' (qcm n most).length (frm n most) most q') (hEv g' (qcm n most) []) r:=by
 refine qrj (α:=Nat×Option V) most (fun k a=>q7b n most a.1 (qcm n k).length (frm n k) k a.2) (fun k a=>hEv a.1 (qcm n k) []) (fun _ a=>zpk a.2) _ ?_ ?_ (g,none) (.inl rfl) (by simpa[qcm,frm]using h0)
 .rintro k ⟨g',q'⟩ f hf hk hq';have hk':(k:Int)<most:=by omega
  have wk:=qbc k;have hmo:=q4f n (show k+1<=most by omega);have hnx:=zfi n k;have hfr:=zye n k;have hb:(qcm n k).length+n*((qcm n k).length-frm n k)<=500:=by
   have h1:(qcm n (k+1)).length=(qcm n k).length+n*((qcm n k).length-frm n k):=by rw[<-hnx,jF,qif,List.length_drop]
   omega
  have ht:∀t∈qcm n k,t.length<=10:=by intro t ht;obtain⟨j,hj,hl⟩:=qqr ht;rw[qta hl];omega
  have hlp:=fun E hE q hq st=>z3t n most g' (qcm n k) (frm n k) k E hE q hq hfr hn ht hb (st:=st);rw[hnx]at hlp;simp only[show frm n (k+1)=(qcm n k).length from rfl];generalize qcm n (k+1)=O' at *;generalize qcm n k=O at *;generalize frm n k=fr at *;rcases hq' with h | h<;>simp only at h<;>subst h
  .have hl:=fun st=>hlp [] (.inl rfl) none (.inl rfl) st;refine(?_:∃r,ev pg (.code L49_2 ⟨fill f 0 (q7b n most g' O.length fr k none),hEv g' O []⟩)=some r/\_);simp[q7b,L49_2,hk',qie,hf.ne];generalize hr:ev pg (.code (.goingF _ _ L49_1) _)=o;obtain⟨r,rfl,g2,q2,hq2,f2,hf2,rfl⟩:∃r,o=some r/\_:=by
    rw[<-hr];exact hl _ (by simp[qqp,hf.ne])
   rcases hq2 with rfl | rfl
   .simp[-qjh,qqp,hf2.ne,wk];exact⟨g2,none,.inl rfl,⟨rfl,by simp[hf2.ne]⟩,rfl⟩
   .simp[-qjh,qqp,hf2.ne,wk];exact⟨g2,some .nils,.inr rfl,⟨rfl,by simp[hf2.ne]⟩,rfl⟩
  .have hl:=fun st=>hlp [⟨0,.arr 0 []⟩] (.inr rfl) none (.inl rfl) st;refine(?_:∃r,ev pg (.code L49_2 ⟨fill f 0 (q7b n most g' O.length fr k (some .nils)),hEv g' O []⟩)=some r/\_);simp[q7b,L49_2,hk',qie,hf.ne];generalize hr:ev pg (.code (.goingF _ _ L49_1) _)=o;obtain⟨r,rfl,g2,q2,hq2,f2,hf2,rfl⟩:∃r,o=some r/\_:=by
    rw[<-hr];exact hl _ (by simp[qqp,hf.ne])
   rcases hq2 with rfl | rfl
   .simp[-qjh,qqp,hf2.ne,wk];exact⟨g2,none,.inl rfl,⟨rfl,by simp[hf2.ne]⟩,rfl⟩
   .simp[-qjh,qqp,hf2.ne,wk];exact⟨g2,some .nils,.inr rfl,⟨rfl,by simp[hf2.ne]⟩,rfl⟩
 .rintro⟨g',q'⟩ f hf hq';generalize qcm n most=P;generalize frm n most=fr;rcases hq' with h | h<;>simp only at h<;>subst h
  .obtain⟨S,e,hS⟩:∃S,ev pg (.code L49_2 ⟨fill f 0 (q7b n most g' P.length fr most none),hEv g' P []⟩)=some { x:=.exit 0,st:=⟨S,hEv g' P []⟩ }/\qft (q7b n most g' P.length fr most none) S:=by
    simp[q7b,L49_2,hf.ne]
   exact⟨_,e,by simp,g',none,.inl rfl,qbo.2 ⟨rfl,hS,rfl⟩⟩
  .obtain⟨S,e,hS⟩:∃S,ev pg (.code L49_2 ⟨fill f 0 (q7b n most g' P.length fr most (some .nils)),hEv g' P []⟩)=some { x:=.exit 0,st:=⟨S,hEv g' P []⟩ }/\qft (q7b n most g' P.length fr most (some .nils)) S:=by
    simp[q7b,L49_2,hf.ne]
   exact⟨_,e,by simp,g',some .nils,.inr rfl,qbo.2 ⟨rfl,hS,rfl⟩⟩
theorem ev49(n most:Nat)(hn:n<=100)(hm:most<=10)(hO:(qcm n most).length<=500):ev pg (.call (fnq 49) [num n,num most] [])=some (rvq (quu (qcm n most))):=by
 have hlp:=fun st=>z3u n most 0 hn hm hO (st:=st);rw[qaa,pg49.1];simp[ir49,qie];generalize hr:ev pg (.code (.goingF _ _ L49_2) _)=o;obtain⟨r,rfl,g2,q2,hq2,f2,hf2,rfl⟩:∃r,o=some r/\_:=by rw[<-hr];exact hlp _ (by simp[q7b])
 rcases hq2 with rfl | rfl
 .simp[q7b,hf2.ne]
 .simp[q7b,hf2.ne]
def tlv(n:Nat):Nat->Nat->List (List Int)
 | _,0=>[]
 | k,d+1=>lvl n (k+1)++tlv n (k+1) d
theorem q9j(n:Nat):∀(d k:Nat),qcm n k++tlv n k d=qcm n (k+d)
 | 0,k=>by simp[tlv]
 | d+1,k=>by rw[show k+(d+1)=k+1+d by omega,<-q9j n d (k+1)];simp[tlv,qcm]
def Fut(n most:Nat)(rest Q:List (List Int)):Prop:=∃k d i,k+d=most/\i<=(lvl n k).length/\Q=(lvl n k).drop i++(if d=0 then []else qmm n ((lvl n k).take i))/\rest=(lvl n k).drop i++tlv n k d
theorem zhs(n most:Nat):Fut n most (qcm n most) [[]]:=by
 refine⟨0,most,0,by omega,by omega,?_,?_⟩
 .simp[lvl,qmm]
 .have:=q9j n most 0;rw[Nat.zero_add]at this;rw[<-this];rfl
theorem zst{n most:Nat}:∀{rest:List (List Int)},Fut n most rest []->rest=[]:=by
 rintro rest ⟨k,d,i,hk,hi,hQ,rfl⟩;have h:=List.append_eq_nil_iff.1 hQ.symm;obtain⟨h1,h2⟩:=h;rw[h1,List.nil_append];have hi2:(lvl n k).length<=i:=List.drop_eq_nil_iff.1 h1;cases d with
 | zero=>rfl
 | succ d =>
  rw[if_neg (by omega),kB hi2]at h2;have:∀(d k:Nat),lvl n (k+1)=[]->tlv n k d=[]:=by
   intro d;induction d with
   | zero=>intro k _;rfl
   | succ d ih =>
    intro k h;unfold tlv;rw[h,List.nil_append];refine ih (k+1) ?_;show qmm n (lvl n (k+1))=[]
    rw[h];rfl
  exact this _ _ h2
theorem znh{n most:Nat}{t:List Int}:∀{rest Q:List (List Int)},Fut n most rest (t :: Q)->∃rest',rest=t :: rest'/\t.length<=most/\(∀i∈t,0<=i/\i<n)/\Fut n most rest' (if t.length=most then Q else Q++qmu n t):=by
 have main:∀(k d i:Nat) (rest Q:List (List Int)),k+d=most->i<(lvl n k).length->t :: Q=(lvl n k).drop i++(if d=0 then []else qmm n ((lvl n k).take i))->rest=(lvl n k).drop i++tlv n k d->∃rest',rest=t :: rest'/\t.length<=most/\(∀i∈t,0<=i/\i<n)/\Fut n most rest' (if t.length=most then Q else Q++qmu n t):=by
  intro k d i rest Q hk hi hQ hr;rw[jL hi,List.cons_append]at hQ hr;obtain⟨rfl,rfl⟩:=List.cons.inj hQ;have hm:=jH hi;have hl:=qta hm;refine⟨_,hr,by omega,ziz hm,k,d,i+1,hk,hi,?_,rfl⟩;cases d with
  | zero =>rw[if_pos (by omega)];simp
  | succ d =>rw[if_neg (by omega),if_neg (by omega),if_neg (by omega),List.append_assoc,q4s hi]
 rintro rest Q ⟨k,d,i,hk,hi,hQ,hr⟩;rcases Nat.lt_or_ge i (lvl n k).length with h | h
 .exact main k d i rest Q hk h hQ hr
 .rw[jX h,List.nil_append]at hQ hr;cases d with
  | zero=>simp at hQ
  | succ d =>
   rw[if_neg (by omega),kB h]at hQ;have hp:0<(lvl n (k+1)).length:=by show 0<(qmm n (lvl n k)).length;rw[<-hQ];simp
   refine main (k+1) d 0 rest Q (by omega) hp ?_ ?_
   .rw[List.drop_zero,hQ,List.take_zero];show _=qmm n (lvl n k)++_;split<;>simp[qmm]
   .rw[hr,List.drop_zero];rfl
def qlh{α:Type}(step:α->List Int->α×Bool):α->List (List Int)->α×Bool
 | s,[]=>(s,true)
 | s,x :: l=>if(step s x).2=true then qlh step (step s x).1 l else((step s x).1,false)
theorem qvf{n k:Nat}{s:List V}{h:H}(hl:(qah s k).low n=true):qjh n [k] ⟨s,h⟩=⟨s.map (qbf n),qgk n h⟩:=by simp[qjh,zsp,qyy,hl,qvg]
abbrev obQ(g:Nat)(P:List (List Int)):Ob:=⟨g,.arr 1 (P.map zwo)⟩
theorem q9s{M:H}(hM:calm M)(g:Nat)(P:List (List Int)):calm (M++[obQ g P]):=qga hM (by intro o ho;simp only[List.mem_singleton]at ho;subst ho;rfl)
def q9g(N a b l:Nat)(g off m:Nat)(t:List Int)(n x:Int):Tm:=[some (.yld l),some (.bptr a 0),some (.bptr b 0),none,some (.sl N g 1 off m),some (qcr t)]++zN 18++[nN n,nN x]++zN 11
theorem z3x{M:H}{N:Nat}(a b l:Nat)(hM:M.length=N)(hcal:calm M)(haN:a<N)(hbN:b<N)(hlN:l<N)(n:Nat)(t:List Int)(Q:List (List Int))(hn:n<=100)(ht:t.length<=10)(hQ:Q.length<=500)(g off:Nat)(P:List (List Int))(hP:P.drop off=Q)(hPl:P.length=off+Q.length){st:St}(h0:At (q9g N a b l g off Q.length t n 0) (M++[obQ g P]) st) :
  ∃r,ev pg (.code (.goingF (N+1) [4] L77_0) st)=some r/\∃g' off' P',P'.drop off'=Q++qmu n t/\P'.length=off'+(Q.length+n)/\qar (.exit 2) (q9g N a b l g' off' (Q.length+n) t n n) (M++[obQ g' P']) r:=by
 have hl:=qoi n t;refine qrj (α:=Nat×Nat×List (List Int)) n (fun x u=>q9g N a b l u.1 u.2.1 (Q.length+x) t n x) (fun x u=>M++[obQ u.1 u.2.2]) (fun x u=>u.2.2.drop u.2.1=Q++(qmu n t).take x/\u.2.2.length=u.2.1+(Q.length+x)) _ ?_ ?_ (g,off,P) ⟨by simpa using hP,by simpa using hPl⟩ (by simpa using h0)
 .rintro x ⟨g',off',P'⟩ f hf hx ⟨h1,h2⟩;simp only at h1 h2 ⊢;have hx':(x:Int)<n:=by omega
  have wx:=qbc x;have hb:(Q.length+x+1)*24<=140737488355328:=by omega
  have hb2:(t.length+1)*8<=140737488355328:=by omega
  have hN:∀X E,(M++X :: E)[N]?=some X:=fun X E=>by rw[<-hM];simp
  have hset:∀X Y E,(M++X :: E).set N Y=M++Y :: E:=fun X Y E=>by rw[<-hM];simp
  have hnx:=q4t hx t;have e78:=ev78 t (by omega);have hcut:∀g P E,qgk (N+1) (M++obQ g P :: E)=M++[obQ g P]:=fun g P E=>by have:=qog (q9s hcal g P) E;rw[jF,hM]at this;simpa using this
  have low4:∀g o m,(V.sl N g 1 o m).low (N+1)=true:=fun g o m=>by simp[V.low]
  by_cases h0:off'=0
  .subst h0;have h3:P'.length=Q.length+x:=by omega
   obtain⟨S,E,e,hS⟩:∃S E,ev pg (.code L77_0 ⟨fill f 0 (q9g N a b l g' 0 (Q.length+x) t n x),M++[obQ g' P']⟩)=some { st:=⟨S,M++obQ (g'+1) (P'++[t++[(x:Int)]]) :: E⟩ }/\qah S 4=.sl N (g'+1) 1 0 (Q.length+(x+1))/\qft (q9g N a b l (g'+1) 0 (Q.length+(x+1)) t n (x+1:Nat)) (S.map (qbf (N+1))):=by simp[-qjh,q9g,L77_0,hx',hx,wx,hb,hb2,e78,hN,hset,hM,h3,hf.ne];exact⟨by omega,by omega,by omega,by omega,by omega⟩
   refine⟨_,e,.inl ⟨rfl,(g'+1,0,P'++[t++[(x:Int)]]),⟨?_,?_⟩,?_⟩⟩
   .simp only[List.drop_zero]at h1 ⊢;rw[h1,hnx,List.append_assoc]
   .simp only[jF,List.length_singleton];omega
   .rw[qvf (by rw[hS.1];exact low4 _ _ _)];exact⟨hS.2,hcut _ _ _⟩
  .have h3:off'+(Q.length+x)=P'.length:=by omega
   obtain⟨S,E,e,hS⟩:∃S E,ev pg (.code L77_0 ⟨fill f 0 (q9g N a b l g' off' (Q.length+x) t n x),M++[obQ g' P']⟩)=some { st:=⟨S,M++obQ (g'+1) (P'.drop off'++[t++[(x:Int)]]) :: E⟩ }/\qah S 4=.sl N (g'+1) 1 0 (Q.length+(x+1))/\qft (q9g N a b l (g'+1) 0 (Q.length+(x+1)) t n (x+1:Nat)) (S.map (qbf (N+1))):=by simp[-qjh,q9g,L77_0,hx',hx,wx,hb,hb2,e78,hN,hset,hM,h0,h3,hf.ne];exact⟨by omega,by omega,by omega,by omega,by omega⟩
   refine⟨_,e,.inl ⟨rfl,(g'+1,0,P'.drop off'++[t++[(x:Int)]]),⟨?_,?_⟩,?_⟩⟩
   .simp only[List.drop_zero];rw[h1,hnx,List.append_assoc]
   .simp only[jF,List.length_singleton,List.length_drop];omega
   .rw[qvf (by rw[hS.1];exact low4 _ _ _)];exact⟨hS.2,hcut _ _ _⟩
 .rintro⟨g',off',P'⟩ f hf ⟨h1,h2⟩;simp only at h1 h2 ⊢;rw[kB (by omega)]at h1;obtain⟨S,e,hS⟩:∃S,ev pg (.code L77_0 ⟨fill f 0 (q9g N a b l g' off' (Q.length+n) t n n),M++[obQ g' P']⟩)=some { x:=.exit 2,st:=⟨S,M++[obQ g' P']⟩ }/\qft (q9g N a b l g' off' (Q.length+n) t n n) S:=by
   simp[q9g,L77_0,hf.ne]
  exact⟨_,e,by simp,g',off',P',h1,h2,qbo.2 ⟨rfl,hS,rfl⟩⟩
theorem zhr{n most:Nat}{rest Q:List (List Int)}(h:Fut n most rest Q):Q.length<=rest.length:=by
 obtain⟨k,d,i,hk,hi,rfl,rfl⟩:=h;cases d with
 | zero=>simp[tlv]
 | succ d =>
  rw[if_neg (by omega)];unfold tlv;simp only[jF];have:(qmm n ((lvl n k).take i)).length<=(lvl n (k+1)).length:=by show _<=(qmm n (lvl n k)).length;rw[qif,qif,List.length_take];exact Nat.mul_le_mul_left _ (by omega)
  omega
structure Rgs{α:Type}(n most:Nat)(Mem:α->H)(G:Nat->α->Prop)(Z:α->H->Prop)(step:α->List Int->α×Bool)(a b l N:Nat):Prop where
 aN:a<N
 bN:b<N
 lN:l<N
 len:∀j s,G j s->(Mem s).length=N
 calm:∀j s,G j s->calm (Mem s)
 ha:∀j s,G j s->(Mem s)[a]?=some ⟨0,.box [num most]⟩
 hb:∀j s,G j s->(Mem s)[b]?=some ⟨0,.box [num n]⟩
 yld:∀j s (t:List Int) g P,G j s->(qcm n most)[j]?=some t->t.length<=most->(∀i∈t,(0:Int)<=i/\i<(n:Int))->(step s t).2=true->G (j+1) (step s t).1/\ev pg (.call (.yld l) [qcr t] (Mem s++[obQ g P]))=some { v:=.bool true,st:=⟨[],Mem (step s t).1++[obQ g P]⟩ }
 stp:∀j s (t:List Int) g P,G j s->(qcm n most)[j]?=some t->t.length<=most->(∀i∈t,(0:Int)<=i/\i<(n:Int))->(step s t).2=false->∃H,Z (step s t).1 H/\ev pg (.call (.yld l) [qcr t] (Mem s++[obQ g P]))=some { v:=.bool false,st:=⟨[],H⟩ }
section
variable{α:Type}{n most:Nat}{Mem:α->H}{G:Nat->α->Prop}{Z:α->H->Prop}{step:α->List Int->α×Bool}{a b l N:Nat}
def zfe(N a b l:Nat)(g off m:Nat):Tm:=[some (.yld l),some (.bptr a 0),some (.bptr b 0),none,some (.sl N g 1 off m)]++zN 32
def zra(step:α->List Int->α×Bool)(Mem:α->H)(G:Nat->α->Prop)(Z:α->H->Prop)(s0:α)(A:List (List Int))(r:R):Prop :=
 ((qlh step s0 A).2=false/\∃S H,Z (qlh step s0 A).1 H/\r={ x:=.ret,st:=⟨S,H⟩ })\/((qlh step s0 A).2=true/\G A.length (qlh step s0 A).1/\∃S g P,r={ x:=.exit 0,st:=⟨S,Mem (qlh step s0 A).1++[obQ g P]⟩ })
theorem z3y(h:Rgs n most Mem G Z step a b l N)(hn:n<=100)(hm:most<=10)(hA:(qcm n most).length<=500)(s0:α)(g0:G 0 s0){st:St}(h0:At (zfe N a b l 0 0 1) (Mem s0++[obQ 0 [[]]]) st) :
  ∃r,ev pg (.code (.goingF (N+1) [4] L77_1) st)=some r/\zra step Mem G Z s0 (qcm n most) r:=by
 refine qrj (α:=α×Nat×Nat×List (List Int)) (qcm n most).length (fun j u=>zfe N a b l u.2.1 u.2.2.1 (u.2.2.2.length-u.2.2.1)) (fun j u=>Mem u.1++[obQ u.2.1 u.2.2.2]) (fun j u=>G j u.1/\Fut n most ((qcm n most).drop j) (u.2.2.2.drop u.2.2.1)/\u.2.2.1<=u.2.2.2.length/\qlh step s0 (qcm n most)=qlh step u.1 ((qcm n most).drop j)) _ ?_ ?_ (s0,0,0,[[]]) ⟨g0,zhs n most,by simp,by simp⟩ (by simpa using h0)
 .rintro j ⟨s,g,off,P⟩ f hf hj ⟨hG,hF,hoff,hfo⟩;simp only at hG hF hoff hfo ⊢;have hql:=zhr hF;rw[List.length_drop,List.length_drop]at hql;rcases Nat.lt_or_ge off P.length with hlt | hge
  .rw[jL hlt]at hF;obtain⟨rest,hr,ht1,ht2,hF'⟩:=znh hF;rw[hr]at hfo;have hrest:rest=(qcm n most).drop (j+1):=by
    have:=hr;rw[jL hj]at this;exact(List.cons.inj this).2.symm
   subst hrest;simp only[qlh]at hfo;have hAj:(qcm n most)[j]?=some P[off]:=by rw[jL hj]at hr;rw[jA hj,(List.cons.inj hr).1]
   have hPi:P[off]?=some P[off]:=jA hlt;generalize hQ:P.drop (off+1)=Q at *;have hQl:P.length=off+1+Q.length:=by rw[<-hQ,List.length_drop];omega
   generalize P[off]=t at *;have hy:=h.yld j s t g P hG hAj ht1 ht2;have hz:=h.stp j s t g P hG hAj ht1 ht2;have hMl:=h.len j s hG;have aN:=h.aN;have bN:=h.bN;have lN:=h.lN;have hN:∀X E,(Mem s++X :: E)[N]?=some X:=fun X E=>by rw[<-hMl];simp
   have hm0:P.length-off=Q.length+1:=by omega
   rw[hm0];cases hs:(step s t).2 with
   | true =>
    obtain⟨g',e1⟩:=hy hs;rw[hs]at hfo;simp only[if_true]at hfo;clear hy hz hs;generalize (step s t).1=s' at *;have hMl':=h.len _ s' g';have hcut:∀g P,qgk (N+1) (Mem s'++[obQ g P])=Mem s'++[obQ g P]:=fun g P=>by have:=qqv (q9s (h.calm _ s' g') g P);rw[jF,hMl']at this;exact this
    have ha1:∀E,(Mem s'++E)[a]?=some ⟨0,.box [num most]⟩:=fun E=>by rw[jI (by omega)];exact h.ha _ s' g'
    have hb1:∀E,(Mem s'++E)[b]?=some ⟨0,.box [num n]⟩:=fun E=>by rw[jI (by omega)];exact h.hb _ s' g'
    by_cases htm:t.length=most
    .rw[if_pos htm]at hF';refine(?_:∃r,ev pg (.code L77_1 ⟨fill f 0 (zfe N a b l g off (Q.length+1)),Mem s++[obQ g P]⟩)=some r/\_);simp[-qjh,zfe,L77_1,hPi,hN,e1,ha1,htm,hf.ne];refine⟨s',g,off+1,P,⟨g',by rw[hQ];exact hF',by omega,hfo⟩,?_⟩;rw[qvf (by simp[V.low])];have hm1:P.length-(off+1)=Q.length:=by omega
     exact⟨by simp[hf.ne,hm1];omega,hcut _ _⟩
    .rw[if_neg htm]at hF';have hlp:=fun st=>z3x a b l hMl' (h.calm _ s' g') aN bN lN n t Q hn (by omega) (by omega) g (off+1) P hQ hQl (st:=st);have htm':((t.length:Int)==(most:Int))=false:=by
      have:¬(t.length:Int)=most:=by omega
      simpa using this
     refine(?_:∃r,ev pg (.code L77_1 ⟨fill f 0 (zfe N a b l g off (Q.length+1)),Mem s++[obQ g P]⟩)=some r/\_);simp[-qjh,zfe,L77_1,hPi,hN,e1,ha1,hb1,htm',qie,hMl',hf.ne];generalize hgo:ev pg (.code (.goingF _ _ L77_0) _)=o;obtain⟨r,rfl,g2,off2,P2,hP2,hP2l,f2,hf2,rfl⟩:∃r,o=some r/\_:=by rw[<-hgo];exact hlp _ (by simp[q9g,hf.ne])
     simp[-qjh,q9g];refine⟨s',g2,off2,P2,⟨g',by rw[hP2];exact hF',by omega,hfo⟩,?_⟩;rw[qvf (by simp[V.low])];have hm1:P2.length-off2=Q.length+n:=by omega
     exact⟨by simp[hf2.ne,hm1];omega,hcut _ _⟩
   | false =>
    obtain⟨H,hZ,e1⟩:=hz hs;rw[hs]at hfo;simp only[Bool.false_eq_true,if_false]at hfo;obtain⟨S,e⟩:∃S,ev pg (.code L77_1 ⟨fill f 0 (zfe N a b l g off (Q.length+1)),Mem s++[obQ g P]⟩)=some { x:=.ret,st:=⟨S,H⟩ }:=by simp[zfe,L77_1,hPi,hN,e1,hf.ne]
    refine⟨_,e,.inr ⟨by simp,?_⟩⟩;unfold zra;rw[hfo];exact .inl ⟨rfl,S,H,hZ,rfl⟩
  .exfalso;rw[jX hge]at hF;have:=congrArg List.length (zst hF);rw[List.length_drop,List.length_nil]at this;omega
 .rintro⟨s,g,off,P⟩ f hf ⟨hG,hF,hoff,hfo⟩;simp only at hG hF hoff hfo ⊢;have hql:=zhr hF;rw[List.length_drop,List.length_drop]at hql;have hm0:P.length-off=0:=by omega
  rw[hm0];rw[List.drop_length]at hfo;simp only[qlh]at hfo;obtain⟨S,e⟩:∃S,ev pg (.code L77_1 ⟨fill f 0 (zfe N a b l g off 0),Mem s++[obQ g P]⟩)=some { x:=.exit 0,st:=⟨S,Mem s++[obQ g P]⟩ }:=by simp[zfe,L77_1,hf.ne]
  refine⟨_,e,by simp,?_⟩;unfold zra;rw[hfo];exact .inr ⟨rfl,hG,S,g,P,rfl⟩
theorem ev77(h:Rgs n most Mem G Z step a b l N)(hn:n<=100)(hm:most<=10)(hA:(qcm n most).length<=500)(s0:α)(g0:G 0 s0) :
  ∃H',ev pg (.call (.fn 77 [] [.bptr a 0,.bptr b 0]) [.yld l] (Mem s0))=some { v:=.tup [],st:=⟨[],H'⟩ } /\
   (((qlh step s0 (qcm n most)).2=true/\G (qcm n most).length (qlh step s0 (qcm n most)).1/\H'=Mem (qlh step s0 (qcm n most)).1)\/((qlh step s0 (qcm n most)).2=false/\∃H,Z (qlh step s0 (qcm n most)).1 H/\H'=qde N H)):=by
 have q1:=fun st=>z3y h hn hm hA s0 g0 (st:=st);have hl:=h.len 0 s0 g0;rw[qaa,pg77.1];generalize qcm n most=A at *;simp[-qde,-quy,-qkd,ir77,qie,hl];generalize hr:ev pg (.code (.goingF _ _ L77_1) _)=o;obtain⟨r,rfl,hQ⟩:∃r,o=some r/\_:=by rw[<-hr];exact q1 _ (by simp[zfe])
 clear hr q1;rcases hQ with⟨hF,S,H,hZ,rfl⟩ | ⟨hF,g1,S,g,P,rfl⟩
 .simp[-qde,-quy,-qkd,hF];exact⟨H,hZ,rfl⟩
 .simp[-qde,-quy,-qkd,hF];refine⟨g1,?_⟩;have:=qef (h.calm _ _ g1) [obQ g P];rw[h.len _ _ g1]at this;exact this
end
end Go.Proofs.YtggbaapfbgjaeaaGreatDoor
