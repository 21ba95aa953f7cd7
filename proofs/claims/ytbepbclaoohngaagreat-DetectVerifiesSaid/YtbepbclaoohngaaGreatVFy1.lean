/- The faulty control. -/
import Derived.Test.YtbepbclaoohngaaGreatVRp1
set_option linter.all false
namespace Go.Proofs.YtbepbclaoohngaaGreat
open Go Go.Am Go.Proofs
set_option maxRecDepth 100000
def qrn(f:Nat->Bool)(b:Int)(n:Nat):List Int:=((List.range n).filter f).map fun(j:Nat)=>b+(j:Int)
theorem qmx(f:Nat->Bool)(b:Int)(n:Nat):qrn f b (n+1)=if f n=true then qrn f b n++[b+(n:Int)]else qrn f b n:=by
 unfold qrn
 rw[List.range_succ,List.filter_append,List.map_append]
 cases h:f n<;>simp[h]
theorem qih(f:Nat->Bool)(b:Int)(n:Nat):(qrn f b n).length<=n:=by
 unfold qrn
 rw[List.length_map]
 exact Nat.le_trans (List.length_filter_le _ _) (by simp)
theorem zao(f:Nat->Bool)(b:Int)(n:Nat)(v:Int):v∈qrn f b n<->∃j:Nat,j<n/\f j=true/\v=b+(j:Int):=by
 unfold qrn
 simp only[List.mem_map,List.mem_filter,List.mem_range]
 constructor
 .rintro⟨j,⟨h1,h2⟩,rfl⟩
  exact⟨j,h1,h2,rfl⟩
 .rintro⟨j,h1,h2,rfl⟩
  exact⟨j,⟨h1,h2⟩,rfl⟩
theorem qqf{f:Nat->Int}:∀{n k:Nat},goE f k n=0->∀j,k<=j->j<k+n->f j=0
 | 0,k,_,j,h1,h2=>by omega
 | n+1,k,h,j,h1,h2=>by
  rw[goE]at h
  by_cases hf:f k=0
  .rw[if_pos hf]at h
   by_cases hj:j=k
   .rw[hj];exact hf
   .exact qqf h j (by omega) (by omega)
  .rw[if_neg hf]at h
   exact absurd h hf
structure Rgt(c:Ct)(A:Nat):Prop where
 mid:Mid c A
 plus:c.plus.length=A
 minus:c.minus.length=A
 on:∀x∈c.signals,x.on.err (qac c A:Nat)=0
 off:∀x∈c.signals,x.off.err (qac c A:Nat)=0\/x.off.zero=true
 name:∀i x,c.signals[i]?=some x->qep (qax c A (qam c A+i)) x.name=0
 inp:∀j,j<c.inputs.length->qep (qax c A (2*A+j)) (qbl c A (2*A+j))=0
 pp:c.plus.any (qgc (qac c A))=false
 mm:c.minus.any (qgc (qac c A))=false
theorem qix{c:Ct}(h:c.check=0)(hfew:c.small=true):Rgt c c.act.toNat:=by
 have hM:=qfr h hfew
 generalize hA:c.act.toNat=A at *
 have h2:ctE c A=0:=by
  unfold Ct.check at h
  split at h
  .cases h
  .split at h
   .cases h
   .rw[hA]at h;exact h
 unfold ctE at h2
 split at h2
 .rename_i hi
  split at h2
  .rename_i hs
   have hsig:∀i x,c.signals[i]?=some x->q7v c A (qax c A (qam c A+i)) i x=0:=fun i x hx=>by
    have hil:i<c.signals.length:=by
     rcases Nat.lt_or_ge i c.signals.length with h | h
     .exact h
     .rw[jY h]at hx;cases hx
    have h3:=qqf hs i (by omega) (by omega)
    unfold quu at h3
    rw[hx]at h3
    exact h3
   unfold ziq at h2
   split at h2
   .cases h2
   .rename_i hpl
    split at h2
    .cases h2
    .rename_i hbad
     refine⟨hM,by omega,by omega,fun x hx=>?_,fun x hx=>?_,fun i x hx=>?_,fun j hj=>qqf hi j (by omega) (by omega),?_,?_⟩
     .obtain⟨i,hil,rfl⟩:=List.mem_iff_getElem.1 hx
      have h3:=hsig i _ (jA hil)
      unfold q7v at h3
      split at h3
      .split at h3
       .cases h3
       .split at h3
        .rename_i h4;exact qpx h4
        .rename_i h4;exact absurd h3 h4
      .rename_i h4;exact absurd h3 h4
     .obtain⟨i,hil,rfl⟩:=List.mem_iff_getElem.1 hx
      have h3:=hsig i _ (jA hil)
      unfold q7v at h3
      split at h3
      .split at h3
       .cases h3
       .rename_i hkr
        split at h3
        .by_cases hk1:c.signals[i].kind=1
         .refine .inl (qpx ?_)
          split at h3
          .rename_i h5;exact absurd h3 h5.2
          .rename_i h5
           exact Classical.byContradiction fun hne=>h5 ⟨hk1,hne⟩
         .refine .inr ?_
          split at h3
          .rename_i h5;exact absurd h5.1 hk1
          .split at h3
           .cases h3
           .split at h3
            .cases h3
            .split at h3
             .cases h3
             .rename_i h6
              cases hz:c.signals[i].off.zero with
              | true=>rfl
              | false=>exact absurd (.inl ⟨hk1,.inl hz⟩) h6
        .rename_i h4;exact absurd h3 h4
      .rename_i h4;exact absurd h3 h4
     .have h3:=hsig i x hx
      unfold q7v at h3
      split at h3
      .rename_i h4;exact h4
      .exact h3
     .cases hb:c.plus.any (qgc (qac c A))with
      | false=>rfl
      | true=>exact absurd (.inl hb) hbad
     .cases hb:c.minus.any (qgc (qac c A))with
      | false=>rfl
      | true=>exact absurd (.inr hb) hbad
  .rename_i h4;exact absurd h2 h4
 .rename_i h4;exact absurd h2 h4
theorem qke{c:Ct}{k i:Int}(h:q0z c k i=0):c.check=0/\(0<=k/\k<6)/\0<=i/\(k=2\/k=3->i<(qac c c.act.toNat:Nat))/\(¬(k=2\/k=3)->i<c.act):=by
 unfold q0z at h
 split at h
 .rename_i hc
  unfold qtq at h
  by_cases h1:k<0\/6<=k
  .rw[if_pos h1]at h;omega
  .rw[if_neg h1]at h
   by_cases h23:k=2\/k=3
   .rw[if_pos h23]at h
    by_cases h2:i<0\/(qac c c.act.toNat:Int)<=i
    .rw[if_pos h2]at h;omega
    .exact⟨hc,by omega,by omega,fun _=>by omega,fun h3=>absurd h23 h3⟩
   .rw[if_neg h23]at h
    by_cases h2:i<0\/c.act<=i
    .rw[if_pos h2]at h;omega
    .exact⟨hc,by omega,by omega,fun h3=>absurd h3 h23,fun _=>by omega⟩
 .rename_i hc;exact absurd h hc
theorem zmf{n:Int}{l:List Ex}(ih:∀y∈l,y.had n=y.occ n):qyr n l=q1u n l:=by
 induction l with
 | nil=>rfl
 | cons y l ihl=>rw[qyr,q1u,ih y (by simp),ihl fun z hz=>ih z (by simp[hz])]
theorem zsw(n m:Int):∀x:Ex,x.err m=0->x.had n=x.occ n:=by
 refine Ex.ind fun x ih hx=>?_
 obtain⟨h1,h2⟩:=qhi hx
 rw[zgr,qzf]
 by_cases ho:x.op=1
 .have ha:x.args=[]:=List.length_eq_zero_iff.1 (q1s h1 ho)
  rw[if_pos ho,ha]
  by_cases hi:x.idx=n
  .simp[ho,hi]
  .simp[hi,qyr]
 .rw[if_neg (fun h=>ho h.1),if_neg ho]
  exact zmf fun y hy=>ih y hy (h2 y hy)
theorem ev143(c:Ct)(hfew:c.small=true)(hc:c.check=0)(i:Nat)(hi:i<qac c c.act.toNat):ev pg (.call (.fn 143 [] []) [c.v,num i] [])=some { v:=.tup [.str (qbl c c.act.toNat i),num 0],st:=⟨[],[]⟩ }:=by
 have hR:=qix hc hfew
 have h29:=ev87 c hfew
 have h133:=ev205 hR.mid
 have h127:=ev206 hR.mid i hi
 rw[hc]at h29
 have hlt:¬((qac c c.act.toNat:Int)<=(i:Int)):=by omega
 have h0:¬((i:Int)<0):=by omega
 generalize qac c c.act.toNat=N at *
 rw[qaa,pg143]
 simp[ir143,h29,h133,h127,h0,hlt]
theorem zqn{α:Type}[DecidableEq α](f:Nat->α)(hf:∀i j,f i=f j->i=j):∀(n:Nat) (K:List α),(∀j,j<n->f j∈K)->n<=K.length
 | 0,_,_=>Nat.zero_le _
 | n+1,K,h=>by
  have h1:=h n (by omega)
  have h2:=List.length_erase_of_mem h1
  have h3:=List.length_pos_of_mem h1
  have ih:=zqn f hf n (K.erase (f n)) fun j hj=>(List.mem_erase_of_ne (fun e=>by have:=hf _ _ e;omega)).2 (h j (by omega))
  omega
abbrev qgr(s:Txt)(j:Nat):Txt:=s++List.replicate j 95
theorem zjq(s:Txt)(i j:Nat)(h:qgr s i=qgr s j):i=j:=by
 have:=congrArg List.length h
 simp at this
 exact this
def qjk(K:List Txt)(s:Txt)(n:Nat):Nat->Nat
 | 0=>n
 | m+1=>if qgr s n∈K then qjk K s (n+1) m else n
def qua(K:List Txt)(s:Txt):Nat:=qjk K s 0 (K.length+1)
theorem qvn(K:List Txt)(s:Txt):∀(m n:Nat),(∀j,j<n->qgr s j∈K)->∀j,j<qjk K s n m->qgr s j∈K
 | 0,n,h=>h
 | m+1,n,h=>by
  unfold qjk
  split
  .rename_i hn
   refine qvn K s m (n+1) fun j hj=>?_
   by_cases e:j=n
   .rw[e];exact hn
   .exact h j (by omega)
  .exact h
theorem qth(K:List Txt)(s:Txt):∀(m n:Nat),qjk K s n m<n+m->¬qgr s (qjk K s n m)∈K
 | 0,n,h=>absurd h (by unfold qjk;omega)
 | m+1,n,h=>by
  unfold qjk at h ⊢
  split
  .rename_i hn
   rw[if_pos hn]at h
   exact qth K s m (n+1) (by omega)
  .rename_i hn
   exact hn
theorem q6w(K:List Txt)(s:Txt):∀j,j<qua K s->qgr s j∈K:=qvn K s _ 0 fun j hj=>by omega
theorem q1a(K:List Txt)(s:Txt):qua K s<=K.length:=zqn (qgr s) (zjq s) _ K (q6w K s)
theorem q9i(K:List Txt)(s:Txt):¬qgr s (qua K s)∈K:=qth K s _ 0 (by have:=q1a K s;unfold qua at this;omega)
def qfp(K:List Txt)(s:Txt):Txt:=qgr s (qua K s)
theorem zca(K:List Txt)(s:Txt):(qfp K s).length<=s.length+K.length:=by
 have:=q1a K s
 unfold qfp
 simp
 omega
def qjx(k i:Int):Int:=if k=2\/k=3 then i else -1
abbrev qjh(n v:Int)(x:Sg):Sg:=⟨x.name,x.kind,x.on.repl n v,x.off.repl n v,x.delay,x.init⟩
def qcx(f:Nat->Bool)(next:Int):Nat->List Int->List Int
 | 0,l=>l
 | j+1,l=>if f j=true then(qcx f next j l).set j next else qcx f next j l
theorem qds(f:Nat->Bool)(next:Int)(l:List Int):∀j,(qcx f next j l).length=l.length
 | 0=>rfl
 | j+1=>by
  have ih:=qds f next l j
  unfold qcx
  split
  .rw[jU,ih]
  .exact ih
def zqm(p:Nat->Bool):Nat->Bool
 | 0=>false
 | j+1=>zqm p j||p j
abbrev qbv(v:Int):Txt:=[115,116,117,99,107,if v=0 then 48 else 49]
abbrev qvt(name:Txt)(v:Int):Sg:=⟨name,0,.mk 0 v [],.mk 0 0 [],0,false⟩
structure Fs where
 d:Ct
 K:List Txt
 w:List Bool
abbrev qst(c:Ct)(k i v:Int)(j:Nat):Bool:=(pil c k i j).1==v
abbrev qss(c:Ct)(k i v:Int)(j:Nat):Bool:=(pil c k i j).2==v
def qha(c:Ct)(k i v:Int)(A:Nat):Bool:=zqm (fun j=>qst c k i v j||qss c k i v j) A
def qbf(c:Ct)(k i:Int)(A:Nat)(v:Int)(s:Fs):Fs :=
 ⟨⟨s.d.act,s.d.inputs,if qha c k i v A=true then s.d.signals++[qvt (qfp s.K (qbv v)) v]else s.d.signals,qcx (qst c k i v) (qac s.d A) A s.d.plus,qcx (qss c k i v) (qac s.d A) A s.d.minus⟩,
  if qha c k i v A=true then s.K++[qfp s.K (qbv v)]else s.K,if qha c k i v A=true then s.w++[v==1]else s.w⟩
def qbn(c:Ct)(k i:Int)(A:Nat):Fs:=⟨⟨c.act,c.inputs,c.signals.map (qjh (qjx k i) (qcv k)),c.plus,c.minus⟩,qax c A (qac c A),[]⟩
def qda(c:Ct)(k i:Int):Fs:=qbf c k i c.act.toNat 1 (qbf c k i c.act.toNat 0 (qbn c k i c.act.toNat))
mutual
theorem qzu(n v:Int):∀x:Ex,(x.repl n v).nodes<=x.nodes
 | .mk o i l=>by
  rw[Ex.repl]
  split
  .rw[Ex.nodes,Ex.nodes,qdj];omega
  .rw[Ex.nodes,Ex.nodes]
   have:=qxb n v l
   omega
theorem qxb(n v:Int):∀l:List Ex,qdj (qsp n v l)<=qdj l
 | []=>jD _
 | x :: l=>by
  rw[qsp,qdj,qdj]
  have h1:=qzu n v x
  have h2:=qxb n v l
  omega
end
mutual
theorem qzs(n v:Int):∀x:Ex,(x.repl n v).depth<=x.depth
 | .mk o i l=>by
  rw[Ex.repl]
  split
  .rw[Ex.depth,Ex.depth,qgt];omega
  .rw[Ex.depth,Ex.depth]
   have:=qwz n v l
   omega
theorem qwz(n v:Int):∀l:List Ex,qgt (qsp n v l)<=qgt l
 | []=>jD _
 | x :: l=>by
  rw[qsp,qgt,qgt]
  have h1:=qzs n v x
  have h2:=qwz n v l
  omega
end
theorem qzt{n v:Int}{x:Ex}(h:x.light=true):(x.repl n v).light=true:=by
 obtain⟨h1,h2⟩:=qdr h
 have h3:=qzu n v x
 have h4:=qzs n v x
 simp only[Ex.light,jE,jW]
 omega
theorem zas{c:Ct}(h1:c.inputs.length<=32)(h2:c.signals.length<=128)(h3:c.plus.length<=40)(h4:c.minus.length<=40)(h5:∀s∈c.inputs,s.length<=200)(h6:∀x∈c.signals,x.name.length<=200/\x.on.light=true/\x.off.light=true):c.small=true:=by
 simp only[Ct.small,jE,jW,jP,q6v,q0x]
 exact⟨⟨⟨⟨⟨h1,h2⟩,h3⟩,h4⟩,h5⟩,fun x hx=>⟨⟨(h6 x hx).1,(h6 x hx).2.1⟩,(h6 x hx).2.2⟩⟩
theorem zpd(v:Int):(Ex.mk 0 v []).light=true:=by
 simp[Ex.light,Ex.nodes,Ex.depth,qdj,qgt]
theorem q7z{c:Ct}(hfew:c.small=true)(k i:Int)(A:Nat):(qbn c k i A).d.small=true:=by
 obtain⟨h1,h2,h3,h4,h5,h6⟩:=qdp hfew
 refine zas h1 ?_ h3 h4 h5 ?_
 .unfold qbn
  rw[List.length_map]
  exact h2
 .intro x hx
  unfold qbn at hx
  obtain⟨y,hy,rfl⟩:=List.mem_map.1 hx
  obtain⟨g1,g2,g3⟩:=h6 y hy
  exact⟨g1,qzt g2,qzt g3⟩
theorem q0c{c:Ct}{k i:Int}{A:Nat}{v:Int}{s:Fs}(h:s.d.small=true)(hs:s.d.signals.length<128)(hK:s.K.length<=190):(qbf c k i A v s).d.small=true:=by
 obtain⟨h1,h2,h3,h4,h5,h6⟩:=qdp h
 refine zas h1 ?_ ?_ ?_ h5 ?_
 .unfold qbf
  simp only
  split
  .simp;omega
  .exact h2
 .unfold qbf
  simp only[qds]
  exact h3
 .unfold qbf
  simp only[qds]
  exact h4
 .intro x hx
  unfold qbf at hx
  simp only at hx
  split at hx
  .rcases jQ.1 hx with hx | hx
   .exact h6 x hx
   .obtain rfl:=List.mem_singleton.1 hx
    have:=zca s.K (qbv v)
    have e:(qbv v).length=6:=rfl
    have e2:(qfp s.K (qbv v)).length<=200:=by omega
    exact⟨e2,zpd v,zpd 0⟩
  .exact h6 x hx
theorem qxo(c:Ct)(k i:Int)(A:Nat)(v:Int)(s:Fs):s.d.signals.length<=(qbf c k i A v s).d.signals.length/\(qbf c k i A v s).d.signals.length<=s.d.signals.length+1/\(qbf c k i A v s).K.length<=s.K.length+1:=by
 unfold qbf
 simp only
 split<;>simp
theorem qsv(c:Ct)(k i:Int)(A:Nat):(qbn c k i A).d.signals.length=c.signals.length/\(qbn c k i A).K.length=qac c A:=by
 unfold qbn qax
 simp
theorem qmf{c:Ct}(hfew:c.small=true)(hc:c.check=0)(k i:Int):(qda c k i).d.small=true:=by
 have hM:=qfr hc hfew
 have hA6:=hM.hi
 have h64:c.inputs.length<=16/\c.signals.length<=64:=by
  unfold Ct.check at hc
  split at hc
  .cases hc
  .split at hc
   .cases hc
   .omega
 obtain⟨a1,a2⟩:=qsv c k i c.act.toNat
 obtain⟨b1,b2,b3⟩:=qxo c k i c.act.toNat 0 (qbn c k i c.act.toNat)
 have e:qac c c.act.toNat<=100:=by unfold qac;omega
 exact q0c (q0c (q7z hfew k i _) (by omega) (by omega)) (by omega) (by omega)
theorem q6u(c:Ct)(k i:Int):(qda c k i).d.act=c.act/\(qda c k i).d.inputs=c.inputs:=⟨rfl,rfl⟩
end Go.Proofs.YtbepbclaoohngaaGreat
