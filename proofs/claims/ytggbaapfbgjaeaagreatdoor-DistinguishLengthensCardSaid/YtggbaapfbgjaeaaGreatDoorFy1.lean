/- The faulty. -/
import Derived.Test.YtggbaapfbgjaeaaGreatDoorRp1
set_option linter.all false
namespace Go.Proofs.YtggbaapfbgjaeaaGreatDoor
open Go Go.Am Go.Proofs
set_option maxRecDepth 100000
def qsb(f:Nat->Bool)(b:Int)(n:Nat):List Int:=((List.range n).filter f).map fun(j:Nat)=>b+(j:Int)
theorem qnl(f:Nat->Bool)(b:Int)(n:Nat):qsb f b (n+1)=if f n=true then qsb f b n++[b+(n:Int)]else qsb f b n:=by unfold qsb;rw[List.range_succ,List.filter_append,List.map_append];cases h:f n<;>simp[h]
theorem qif(f:Nat->Bool)(b:Int)(n:Nat):(qsb f b n).length<=n:=by unfold qsb;rw[List.length_map];exact Nat.le_trans (List.length_filter_le _ _) (by simp)
theorem zbd(f:Nat->Bool)(b:Int)(n:Nat)(v:Int):v∈qsb f b n<->∃j:Nat,j<n/\f j=true/\v=b+(j:Int):=by
 unfold qsb;simp only[List.mem_map,List.mem_filter,List.mem_range];constructor
 .rintro⟨j,⟨h1,h2⟩,rfl⟩;exact⟨j,h1,h2,rfl⟩
 .rintro⟨j,h1,h2,rfl⟩;exact⟨j,⟨h1,h2⟩,rfl⟩
theorem qqw{f:Nat->Int}:∀{n k:Nat},goE f k n=0->∀j,k<=j->j<k+n->f j=0
 | 0,k,_,j,h1,h2=>by omega
 | n+1,k,h,j,h1,h2=>by
  rw[goE]at h;by_cases hf:f k=0
  .rw[if_pos hf]at h;by_cases hj:j=k
   .rw[hj];exact hf
   .exact qqw h j (by omega) (by omega)
  .rw[if_neg hf]at h;exact absurd h hf
structure Rgt(c:Ct)(A:Nat):Prop where
 mid:Mid c A
 plus:c.plus.length=A
 minus:c.minus.length=A
 on:∀x∈c.signals,x.on.err (qac c A:Nat)=0
 off:∀x∈c.signals,x.off.err (qac c A:Nat)=0\/x.off.zero=true
 name:∀i x,c.signals[i]?=some x->qeo (qay c A (qal c A+i)) x.name=0
 inp:∀j,j<c.inputs.length->qeo (qay c A (2*A+j)) (qbk c A (2*A+j))=0
 pp:c.plus.any (qfv (qac c A))=false
 mm:c.minus.any (qfv (qac c A))=false
theorem qiy{c:Ct}(h:c.check=0)(hfew:c.small=true):Rgt c c.act.toNat:=by
 have hM:=qft h hfew;generalize hA:c.act.toNat=A at *;have h2:ctE c A=0:=by
  unfold Ct.check at h;split at h
  .cases h
  .split at h
   .cases h
   .rw[hA]at h;exact h
 unfold ctE at h2;split at h2
 .rename_i hi;split at h2
  .rename_i hs;have hsig:∀i x,c.signals[i]?=some x->q8k c A (qay c A (qal c A+i)) i x=0:=fun i x hx=>by
    have hil:i<c.signals.length:=by
     rcases Nat.lt_or_ge i c.signals.length with h | h
     .exact h
     .rw[jY h]at hx;cases hx
    have h3:=qqw hs i (by omega) (by omega);unfold qvd at h3;rw[hx]at h3;exact h3
   unfold ziz at h2;split at h2
   .cases h2
   .rename_i hpl;split at h2
    .cases h2
    .rename_i hbad;refine⟨hM,by omega,by omega,fun x hx=>?_,fun x hx=>?_,fun i x hx=>?_,fun j hj=>qqw hi j (by omega) (by omega),?_,?_⟩
     .obtain⟨i,hil,rfl⟩:=List.mem_iff_getElem.1 hx;have h3:=hsig i _ (jA hil);unfold q8k at h3;split at h3
      .split at h3
       .cases h3
       .split at h3
        .rename_i h4;exact qqo h4
        .rename_i h4;exact absurd h3 h4
      .rename_i h4;exact absurd h3 h4
     .obtain⟨i,hil,rfl⟩:=List.mem_iff_getElem.1 hx;have h3:=hsig i _ (jA hil);unfold q8k at h3;split at h3
      .split at h3
       .cases h3
       .rename_i hkr;split at h3
        .by_cases hk1:c.signals[i].kind=1
         .refine .inl (qqo ?_);split at h3
          .rename_i h5;exact absurd h3 h5.2
          .rename_i h5;exact Classical.byContradiction fun hne=>h5 ⟨hk1,hne⟩
         .refine .inr ?_;split at h3
          .rename_i h5;exact absurd h5.1 hk1
          .split at h3
           .cases h3
           .split at h3
            .cases h3
            .split at h3
             .cases h3
             .rename_i h6;cases hz:c.signals[i].off.zero with
              | true=>rfl
              | false=>exact absurd (.inl ⟨hk1,.inl hz⟩) h6
        .rename_i h4;exact absurd h3 h4
      .rename_i h4;exact absurd h3 h4
     .have h3:=hsig i x hx;unfold q8k at h3;split at h3
      .rename_i h4;exact h4
      .exact h3
     .cases hb:c.plus.any (qfv (qac c A))with
      | false=>rfl
      | true=>exact absurd (.inl hb) hbad
     .cases hb:c.minus.any (qfv (qac c A))with
      | false=>rfl
      | true=>exact absurd (.inr hb) hbad
  .rename_i h4;exact absurd h2 h4
 .rename_i h4;exact absurd h2 h4
theorem qkn{c:Ct}{k i:Int}(h:q1t c k i=0):c.check=0/\(0<=k/\k<6)/\0<=i/\(k=2\/k=3->i<(qac c c.act.toNat:Nat))/\(¬(k=2\/k=3)->i<c.act):=by
 unfold q1t at h;split at h
 .rename_i hc;unfold quc at h;by_cases h1:k<0\/6<=k
  .rw[if_pos h1]at h;omega
  .rw[if_neg h1]at h;by_cases h23:k=2\/k=3
   .rw[if_pos h23]at h;by_cases h2:i<0\/(qac c c.act.toNat:Int)<=i
    .rw[if_pos h2]at h;omega
    .exact⟨hc,by omega,by omega,fun _=>by omega,fun h3=>absurd h23 h3⟩
   .rw[if_neg h23]at h;by_cases h2:i<0\/c.act<=i
    .rw[if_pos h2]at h;omega
    .exact⟨hc,by omega,by omega,fun h3=>absurd h3 h23,fun _=>by omega⟩
 .rename_i hc;exact absurd h hc
theorem zmr{n:Int}{l:List Ex}(ih:∀y∈l,y.had n=y.occ n):qzh n l=q2l n l:=by
 induction l with
 | nil=>rfl
 | cons y l ihl=>rw[qzh,q2l,ih y (by simp),ihl fun z hz=>ih z (by simp[hz])]
theorem zrt(n m:Int):∀x:Ex,x.err m=0->x.had n=x.occ n:=by
 refine Ex.ind fun x ih hx=>?_;obtain⟨h1,h2⟩:=qhj hx;rw[zhi,qzw];by_cases ho:x.op=1
 .have ha:x.args=[]:=List.length_eq_zero_iff.1 (q2k h1 ho);rw[if_pos ho,ha];by_cases hi:x.idx=n
  .simp[ho,hi]
  .simp[hi,qzh]
 .rw[if_neg (fun h=>ho h.1),if_neg ho];exact zmr fun y hy=>ih y hy (h2 y hy)
theorem ev172(c:Ct)(hfew:c.small=true)(hc:c.check=0)(i:Nat)(hi:i<qac c c.act.toNat):ev pg (.call (fnq 172) [c.v,num i] [])=some (rvq (.tup [.str (qbk c c.act.toNat i),num 0])):=by
 have hR:=qiy hc hfew;have h29:=ev44 c hfew;have h133:=ev128 hR.mid;have h127:=ev123 hR.mid i hi;rw[hc]at h29;have hlt:¬((qac c c.act.toNat:Int)<=(i:Int)):=by omega
 have h0:¬((i:Int)<0):=by omega
 generalize qac c c.act.toNat=N at *;rw[qab,pg172.1];simp[ir172,h29,h133,h127,h0,hlt]
theorem zpf{α:Type}[DecidableEq α](f:Nat->α)(hf:∀i j,f i=f j->i=j):∀(n:Nat) (K:List α),(∀j,j<n->f j∈K)->n<=K.length
 | 0,_,_=>Nat.zero_le _
 | n+1,K,h=>by have h1:=h n (by omega);have h2:=List.length_erase_of_mem h1;have h3:=List.length_pos_of_mem h1;have ih:=zpf f hf n (K.erase (f n)) fun j hj=>(List.mem_erase_of_ne (fun e=>by have:=hf _ _ e;omega)).2 (h j (by omega));omega
abbrev qgs(s:Txt)(j:Nat):Txt:=s++List.replicate j 95
theorem zjz(s:Txt)(i j:Nat)(h:qgs s i=qgs s j):i=j:=by have:=congrArg List.length h;simp at this;exact this
def qjp(K:List Txt)(s:Txt)(n:Nat):Nat->Nat
 | 0=>n
 | m+1=>if qgs s n∈K then qjp K s (n+1) m else n
def quk(K:List Txt)(s:Txt):Nat:=qjp K s 0 (K.length+1)
theorem qwb(K:List Txt)(s:Txt):∀(m n:Nat),(∀j,j<n->qgs s j∈K)->∀j,j<qjp K s n m->qgs s j∈K
 | 0,n,h=>h
 | m+1,n,h=>by
  unfold qjp;split
  .rename_i hn;refine qwb K s m (n+1) fun j hj=>?_;by_cases e:j=n
   .rw[e];exact hn
   .exact h j (by omega)
  .exact h
theorem qtt(K:List Txt)(s:Txt):∀(m n:Nat),qjp K s n m<n+m->¬qgs s (qjp K s n m)∈K
 | 0,n,h=>absurd h (by unfold qjp;omega)
 | m+1,n,h=>by
  unfold qjp at h ⊢;split
  .rename_i hn;rw[if_pos hn]at h;exact qtt K s m (n+1) (by omega)
  .rename_i hn;exact hn
theorem q7k(K:List Txt)(s:Txt):∀j,j<quk K s->qgs s j∈K:=qwb K s _ 0 fun j hj=>by omega
theorem q1u(K:List Txt)(s:Txt):quk K s<=K.length:=zpf (qgs s) (zjz s) _ K (q7k K s)
theorem q9y(K:List Txt)(s:Txt):¬qgs s (quk K s)∈K:=qtt K s _ 0 (by have:=q1u K s;unfold quk at this;omega)
def qfr(K:List Txt)(s:Txt):Txt:=qgs s (quk K s)
theorem zcl(K:List Txt)(s:Txt):(qfr K s).length<=s.length+K.length:=by have:=q1u K s;unfold qfr;simp;omega
def qke(k i:Int):Int:=if k=2\/k=3 then i else -1
abbrev qjl(n v:Int)(x:Sg):Sg:=⟨x.name,x.kind,x.on.repl n v,x.off.repl n v,x.delay,x.init⟩
def qcs(f:Nat->Bool)(next:Int):Nat->List Int->List Int
 | 0,l=>l
 | j+1,l=>if f j=true then(qcs f next j l).set j next else qcs f next j l
theorem qdq(f:Nat->Bool)(next:Int)(l:List Int):∀j,(qcs f next j l).length=l.length
 | 0=>rfl
 | j+1=>by
  have ih:=qdq f next l j
  unfold qcs;split
  .rw[jU,ih]
  .exact ih
def zpd(p:Nat->Bool):Nat->Bool
 | 0=>false
 | j+1=>zpd p j||p j
abbrev qbt(v:Int):Txt:=[115,116,117,99,107,if v=0 then 48 else 49]
abbrev qwh(name:Txt)(v:Int):Sg:=⟨name,0,.mk 0 v [],.mk 0 0 [],0,false⟩
structure Fs where
 d:Ct
 K:List Txt
 w:List Bool
abbrev qtg(c:Ct)(k i v:Int)(j:Nat):Bool:=(pil c k i j).1==v
abbrev qtf(c:Ct)(k i v:Int)(j:Nat):Bool:=(pil c k i j).2==v
def qhc(c:Ct)(k i v:Int)(A:Nat):Bool:=zpd (fun j=>qtg c k i v j||qtf c k i v j) A
def qbf(c:Ct)(k i:Int)(A:Nat)(v:Int)(s:Fs):Fs :=
 ⟨⟨s.d.act,s.d.inputs,if qhc c k i v A=true then s.d.signals++[qwh (qfr s.K (qbt v)) v]else s.d.signals,qcs (qtg c k i v) (qac s.d A) A s.d.plus,qcs (qtf c k i v) (qac s.d A) A s.d.minus⟩,
  if qhc c k i v A=true then s.K++[qfr s.K (qbt v)]else s.K,if qhc c k i v A=true then s.w++[v==1]else s.w⟩
def qbm(c:Ct)(k i:Int)(A:Nat):Fs:=⟨⟨c.act,c.inputs,c.signals.map (qjl (qke k i) (qcr k)),c.plus,c.minus⟩,qay c A (qac c A),[]⟩
def qcy(c:Ct)(k i:Int):Fs:=qbf c k i c.act.toNat 1 (qbf c k i c.act.toNat 0 (qbm c k i c.act.toNat))
mutual
theorem q0i(n v:Int):∀x:Ex,(x.repl n v).nodes<=x.nodes
 | .mk o i l=>by
  rw[Ex.repl];split
  .rw[Ex.nodes,Ex.nodes,qdh];omega
  .rw[Ex.nodes,Ex.nodes];have:=qxo n v l;omega
theorem qxo(n v:Int):∀l:List Ex,qdh (qtb n v l)<=qdh l
 | []=>jD _
 | x :: l=>by rw[qtb,qdh,qdh];have h1:=q0i n v x;have h2:=qxo n v l;omega
end
mutual
theorem q0g(n v:Int):∀x:Ex,(x.repl n v).depth<=x.depth
 | .mk o i l=>by
  rw[Ex.repl];split
  .rw[Ex.depth,Ex.depth,qgu];omega
  .rw[Ex.depth,Ex.depth];have:=qxm n v l;omega
theorem qxm(n v:Int):∀l:List Ex,qgu (qtb n v l)<=qgu l
 | []=>jD _
 | x :: l=>by rw[qtb,qgu,qgu];have h1:=q0g n v x;have h2:=qxm n v l;omega
end
theorem q0h{n v:Int}{x:Ex}(h:x.light=true):(x.repl n v).light=true:=by obtain⟨h1,h2⟩:=qdp h;have h3:=q0i n v x;have h4:=q0g n v x;simp only[Ex.light,jE,jW];omega
theorem zbh{c:Ct}(h1:c.inputs.length<=32)(h2:c.signals.length<=128)(h3:c.plus.length<=40)(h4:c.minus.length<=40)(h5:∀s∈c.inputs,s.length<=200)(h6:∀x∈c.signals,x.name.length<=200/\x.on.light=true/\x.off.light=true):c.small=true:=by simp only[Ct.small,jE,jW,jP,q7j,q1r];exact⟨⟨⟨⟨⟨h1,h2⟩,h3⟩,h4⟩,h5⟩,fun x hx=>⟨⟨(h6 x hx).1,(h6 x hx).2.1⟩,(h6 x hx).2.2⟩⟩
theorem zpa(v:Int):(Ex.mk 0 v []).light=true:=by simp[Ex.light,Ex.nodes,Ex.depth,qdh,qgu]
theorem q8n{c:Ct}(hfew:c.small=true)(k i:Int)(A:Nat):(qbm c k i A).d.small=true:=by
 obtain⟨h1,h2,h3,h4,h5,h6⟩:=qdm hfew;refine zbh h1 ?_ h3 h4 h5 ?_
 .unfold qbm;rw[List.length_map];exact h2
 .intro x hx;unfold qbm at hx;obtain⟨y,hy,rfl⟩:=List.mem_map.1 hx;obtain⟨g1,g2,g3⟩:=h6 y hy;exact⟨g1,q0h g2,q0h g3⟩
theorem q0t{c:Ct}{k i:Int}{A:Nat}{v:Int}{s:Fs}(h:s.d.small=true)(hs:s.d.signals.length<128)(hK:s.K.length<=190):(qbf c k i A v s).d.small=true:=by
 obtain⟨h1,h2,h3,h4,h5,h6⟩:=qdm h;refine zbh h1 ?_ ?_ ?_ h5 ?_
 .unfold qbf;simp only;split
  .simp;omega
  .exact h2
 .unfold qbf;simp only[qdq];exact h3
 .unfold qbf;simp only[qdq];exact h4
 .intro x hx;unfold qbf at hx;simp only at hx;split at hx
  .rcases jQ.1 hx with hx | hx
   .exact h6 x hx
   .obtain rfl:=List.mem_singleton.1 hx;have:=zcl s.K (qbt v);have e:(qbt v).length=6:=rfl;have e2:(qfr s.K (qbt v)).length<=200:=by omega
    exact⟨e2,zpa v,zpa 0⟩
  .exact h6 x hx
theorem qyf(c:Ct)(k i:Int)(A:Nat)(v:Int)(s:Fs):s.d.signals.length<=(qbf c k i A v s).d.signals.length/\(qbf c k i A v s).d.signals.length<=s.d.signals.length+1/\(qbf c k i A v s).K.length<=s.K.length+1:=by unfold qbf;simp only;split<;>simp
theorem qtj(c:Ct)(k i:Int)(A:Nat):(qbm c k i A).d.signals.length=c.signals.length/\(qbm c k i A).K.length=qac c A:=by unfold qbm qay;simp
theorem qmq{c:Ct}(hfew:c.small=true)(hc:c.check=0)(k i:Int):(qcy c k i).d.small=true:=by
 have hM:=qft hc hfew;have hA6:=hM.hi;have h64:c.inputs.length<=16/\c.signals.length<=64:=by
  unfold Ct.check at hc;split at hc
  .cases hc
  .split at hc
   .cases hc
   .omega
 obtain⟨a1,a2⟩:=qtj c k i c.act.toNat
 obtain⟨b1,b2,b3⟩:=qyf c k i c.act.toNat 0 (qbm c k i c.act.toNat);have e:qac c c.act.toNat<=100:=by unfold qac;omega
 exact q0t (q0t (q8n hfew k i _) (by omega) (by omega)) (by omega) (by omega)
theorem q7i(c:Ct)(k i:Int):(qcy c k i).d.act=c.act/\(qcy c k i).d.inputs=c.inputs:=⟨rfl,rfl⟩
end Go.Proofs.YtggbaapfbgjaeaaGreatDoor
