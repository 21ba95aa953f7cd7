/- Kinds of faults, by the program and by the reference. All faults, by the reference. Pilots, by the reference. What a fault touches, by the reference. Ascending lists of numbers. What a fault touches, by the reference. Clones; is a text in a list? Are lists equal? Are expressions and controls equal? The faulty control, by the program: names and signals. The faulty control, by the program: pilots and fresh names. The faulty control, by the program: a constant. Are lists, expressions and controls equal, by the reference? States: how they stand in Am's memory; equal states, by the reference. -/
import Derived.Test.YtlhciedghbmjjaaGreatLo1
set_option linter.all false
namespace Go.Proofs.YtlhciedghbmjjaaGreat
open Go Go.Am Go.Proofs
set_option maxRecDepth 100000
theorem qud{c:Ct}(h:c.check=0)(hfew:c.small=true):Mid c c.act.toNat:=by
 obtain⟨f1,f2,_⟩:=qgr hfew
 unfold Ct.check at h
 split at h
 .cases h
 .exact⟨by omega,by omega,by omega,f1,f2⟩
abbrev jfl(p:Int×Int):List V:=[num p.1,num p.2]
abbrev zfe(l:List (Int×Int)):V:=.imm (l.map jfl)
def zzn(k:Int):Int:=if k=2 then 1 else 0
def pil(c:Ct)(k i:Int)(j:Nat):Int×Int :=
 if k=2\/k=3 then(if c.plus.getD j 0=i then zzn k else -1,if c.minus.getD j 0=i then zzn k else -1)
 else if(j:Int)=i then(if k=0 then(0,-1)else if k=1 then(-1,0)else if k=4 then(1,0)else(0,1))else(-1,-1)
def qps(f:Nat->Bool)(b:Int)(n:Nat):List Int:=((List.range n).filter f).map fun(j:Nat)=>b+(j:Int)
theorem qlt(f:Nat->Bool)(b:Int)(n:Nat):qps f b (n+1)=if f n=true then qps f b n++[b+(n:Int)]else qps f b n:=by
 unfold qps
 rw[List.range_succ,List.filter_append,List.map_append]
 cases h:f n<;>simp[h]
theorem qhi(f:Nat->Bool)(b:Int)(n:Nat):(qps f b n).length<=n:=by
 unfold qps
 rw[List.length_map]
 exact Nat.le_trans (List.length_filter_le _ _) (by simp)
theorem q6n(f:Nat->Bool)(b:Int)(n:Nat)(v:Int):v∈qps f b n<->∃j:Nat,j<n/\f j=true/\v=b+(j:Int):=by
 unfold qps
 simp only[List.mem_map,List.mem_filter,List.mem_range]
 constructor
 .rintro⟨j,⟨h1,h2⟩,rfl⟩
  exact⟨j,h1,h2,rfl⟩
 .rintro⟨j,h1,h2,rfl⟩
  exact⟨j,⟨h1,h2⟩,rfl⟩
def Asc(l:List Int):Prop:=l.Pairwise (· < ·)
theorem qus:∀{l m:List Int},Asc l->Asc m->(∀x,x∈l<->x∈m)->l=m
 | [],[],_,_,_=>rfl
 | [],y :: m,_,_,h=>absurd ((h y).2 (by simp)) (by simp)
 | x :: l,[],_,_,h=>absurd ((h x).1 (by simp)) (by simp)
 | x :: l,y :: m,hl,hm,h=>by
  have hl':=List.pairwise_cons.1 hl
  have hm':=List.pairwise_cons.1 hm
  have hxy:x=y:=by
   rcases List.mem_cons.1 ((h x).1 (by simp))with e | e
   .exact e
   .rcases List.mem_cons.1 ((h y).2 (by simp))with e2 | e2
    .exact e2.symm
    .have h1:=hm'.1 x e
     have h2:=hl'.1 y e2
     omega
  subst hxy
  congr 1
  refine qus hl'.2 hm'.2 fun z=>⟨fun hz=>?_,fun hz=>?_⟩
  .rcases List.mem_cons.1 ((h z).1 (by simp[hz]))with e | e
   .have:=hl'.1 z hz;omega
   .exact e
  .rcases List.mem_cons.1 ((h z).2 (by simp[hz]))with e | e
   .have:=hm'.1 z hz;omega
   .exact e
def norm(N:Nat)(l:List Int):List Int:=qps (fun k=>l.contains (k:Int)) 0 N
theorem qmk(N:Nat)(l:List Int):Asc (norm N l):=by
 unfold norm qps Asc
 rw[List.pairwise_map]
 refine List.Pairwise.imp ?_ ((List.pairwise_lt_range (n:=N)).filter _)
 intro a b h
 omega
theorem qkm{N:Nat}{l:List Int}{x:Int}:x∈norm N l<->x∈l/\0<=x/\x<N:=by
 unfold norm qps
 simp only[List.mem_map,List.mem_filter,List.mem_range,List.contains_iff_mem]
 constructor
 .rintro⟨k,⟨h1,h2⟩,rfl⟩
  simp only[Int.zero_add]
  exact⟨h2,by omega,by omega⟩
 .rintro⟨h1,h2,h3⟩
  exact⟨x.toNat,⟨by omega,by rw[Int.toNat_of_nonneg h2];exact h1⟩,by omega⟩
theorem zay{N:Nat}{l:List Int}(hl:Asc l)(h:∀x∈l,0<=x/\x<(N:Int)):norm N l=l :=
 qus (qmk N l) hl fun x=>by rw[qkm];exact⟨fun a=>a.1,fun a=>⟨a,h x a⟩⟩
theorem qxe{N:Nat}{l m:List Int}(h:∀x:Int,0<=x->x<N->(x∈l<->x∈m)):norm N l=norm N m :=
 qus (qmk N l) (qmk N m) fun x=>by
  rw[qkm,qkm]
  exact⟨fun a=>⟨(h x a.2.1 a.2.2).1 a.1,a.2⟩,fun a=>⟨(h x a.2.1 a.2.2).2 a.1,a.2⟩⟩
def mrg:List Int->List Int->List Int
 | [],m=>m
 | x :: l,[]=>x :: l
 | x :: l,y :: m=>if x<y then x :: mrg l (y :: m)else if y<x then y :: mrg (x :: l) m else x :: mrg l m
termination_by l m=>l.length+m.length
theorem qnm:∀{l m:List Int} {z:Int},z∈mrg l m<->z∈l\/z∈m
 | [],m,z=>by rw[mrg];simp
 | x :: l,[],z=>by rw[mrg];simp
 | x :: l,y :: m,z=>by
  rw[mrg]
  split
  .rw[List.mem_cons,qnm (l:=l) (m:=y :: m),List.mem_cons (a:=z) (b:=x),or_assoc]
  .split
   .rw[List.mem_cons,qnm (l:=x :: l) (m:=m),List.mem_cons (a:=z) (b:=y) (l:=m)]
    exact⟨fun h=>h.elim (fun h=>.inr (.inl h)) fun h=>h.elim .inl fun h=>.inr (.inr h),fun h=>h.elim (fun h=>.inr (.inl h)) fun h=>h.elim .inl fun h=>.inr (.inr h)⟩
   .rename_i h1 h2
    have:x=y:=by omega
    subst this
    rw[List.mem_cons,qnm (l:=l) (m:=m),List.mem_cons,List.mem_cons]
    exact⟨fun h=>h.elim (fun h=>.inl (.inl h)) fun h=>h.elim (fun h=>.inl (.inr h)) fun h=>.inr (.inr h),fun h=>h.elim (fun h=>h.elim .inl fun h=>.inr (.inl h)) fun h=>h.elim .inl fun h=>.inr (.inr h)⟩
termination_by l m=>l.length+m.length
theorem qyk:∀{l m:List Int},Asc l->Asc m->Asc (mrg l m)
 | [],m,_,hm=>by rw[mrg];exact hm
 | x :: l,[],hl,_=>by rw[mrg];exact hl
 | x :: l,y :: m,hl,hm=>by
  have hl':=List.pairwise_cons.1 hl
  have hm':=List.pairwise_cons.1 hm
  rw[mrg]
  split
  .refine List.pairwise_cons.2 ⟨fun z hz=>?_,qyk hl'.2 hm⟩
   rcases qnm.1 hz with h | h
   .exact hl'.1 z h
   .rcases List.mem_cons.1 h with h | h
    .omega
    .have:=hm'.1 z h;omega
  .split
   .refine List.pairwise_cons.2 ⟨fun z hz=>?_,qyk hl hm'.2⟩
    rcases qnm.1 hz with h | h
    .rcases List.mem_cons.1 h with h | h
     .omega
     .have:=hl'.1 z h;omega
    .exact hm'.1 z h
   .refine List.pairwise_cons.2 ⟨fun z hz=>?_,qyk hl'.2 hm'.2⟩
    rcases qnm.1 hz with h | h
    .exact hl'.1 z h
    .have:=hm'.1 z h;omega
termination_by l m=>l.length+m.length
theorem zjl{N:Nat}{l m:List Int}(hl:Asc l)(hm:Asc m)(h1:∀x∈l,0<=x/\x<(N:Int))(h2:∀x∈m,0<=x/\x<(N:Int)):mrg l m=norm N (l++m) :=
 qus (qyk hl hm) (qmk _ _) fun x=>by
  rw[qnm,qkm,jQ]
  exact⟨fun h=>⟨h,h.elim (h1 x) (h2 x)⟩,fun h=>h.1⟩
def qaz:List Int->List Int
 | []=>[]
 | [x]=>[x]
 | x :: y :: l=>if x=y then qaz (y :: l)else x :: qaz (y :: l)
theorem qjw:∀{l:List Int} {z:Int},z∈qaz l<->z∈l
 | [],z=>by simp[qaz]
 | [x],z=>by simp[qaz]
 | x :: y :: l,z=>by
  rw[qaz]
  split
  .rename_i h
   rw[qjw (l:=y :: l)]
   subst h
   simp
  .rw[List.mem_cons,qjw (l:=y :: l),List.mem_cons (a:=z) (b:=x)]
theorem qno:∀{l:List Int},l.Pairwise (·<=·)->Asc (qaz l)
 | [],_=>by rw[qaz];exact List.Pairwise.nil
 | [x],_=>by rw[qaz];exact List.pairwise_singleton ..
 | x :: y :: l,h=>by
  have h':=List.pairwise_cons.1 h
  have hy:=List.pairwise_cons.1 h'.2
  rw[qaz]
  split
  .exact qno h'.2
  .rename_i hne
   refine List.pairwise_cons.2 ⟨fun z hz=>?_,qno h'.2⟩
   rw[qjw]at hz
   have h1:=h'.1 y (by simp)
   rcases List.mem_cons.1 hz with e | e
   .omega
   .have:=hy.1 z e;omega
theorem qro{N:Nat}{l m:List Int}(hs:m.Pairwise (·<=·))(hp:∀x,x∈m<->x∈l)(h:∀x∈l,0<=x/\x<(N:Int)):qaz m=norm N l :=
 qus (qno hs) (qmk _ _) fun x=>by
  rw[qjw,hp,qkm]
  exact⟨fun a=>⟨a,h x a⟩,fun a=>a.1⟩
theorem qpo{f:Nat->Int}:∀{n k:Nat},goE f k n=0->∀j,k<=j->j<k+n->f j=0
 | 0,k,_,j,h1,h2=>by omega
 | n+1,k,h,j,h1,h2=>by
  rw[goE]at h
  by_cases hf:f k=0
  .rw[if_pos hf]at h
   by_cases hj:j=k
   .rw[hj];exact hf
   .exact qpo h j (by omega) (by omega)
  .rw[if_neg hf]at h
   exact absurd h hf
structure Rgt(c:Ct)(A:Nat):Prop where
 mid:Mid c A
 plus:c.plus.length=A
 minus:c.minus.length=A
 on:∀x∈c.signals,x.on.err (qak c A:Nat)=0
 off:∀x∈c.signals,x.off.err (qak c A:Nat)=0\/x.off.zero=true
 name:∀i x,c.signals[i]?=some x->qee (qea c A (qam c A+i)) x.name=0
 inp:∀j,j<c.inputs.length->qee (qea c A (2*A+j)) (qbs c A (2*A+j))=0
 pp:c.plus.any (qfe (qak c A))=false
 mm:c.minus.any (qfe (qak c A))=false
theorem qvn{c:Ct}(h:c.check=0)(hfew:c.small=true):Rgt c c.act.toNat:=by
 have hM:=qud h hfew
 generalize hA:c.act.toNat=A at *
 have h2:ctE c A=0:=by
  unfold Ct.check at h
  split at h
  .cases h
  .split at h
   .cases h
   .rw[hA]at h;exact h
 unfold ctE at h2
 split at h2
 .rename_i hi
  split at h2
  .rename_i hs
   have hsig:∀i x,c.signals[i]?=some x->q3r c A (qea c A (qam c A+i)) i x=0:=fun i x hx=>by
    have hil:i<c.signals.length:=by
     rcases Nat.lt_or_ge i c.signals.length with h | h
     .exact h
     .rw[jY h]at hx;cases hx
    have h3:=qpo hs i (by omega) (by omega)
    unfold qsw at h3
    rw[hx]at h3
    exact h3
   unfold zch at h2
   split at h2
   .cases h2
   .rename_i hpl
    split at h2
    .cases h2
    .rename_i hbad
     refine⟨hM,by omega,by omega,fun x hx=>?_,fun x hx=>?_,fun i x hx=>?_,fun j hj=>qpo hi j (by omega) (by omega),?_,?_⟩
     .obtain⟨i,hil,rfl⟩:=List.mem_iff_getElem.1 hx
      have h3:=hsig i _ (jA hil)
      unfold q3r at h3
      split at h3
      .split at h3
       .cases h3
       .split at h3
        .rename_i h4;exact qoj h4
        .rename_i h4;exact absurd h3 h4
      .rename_i h4;exact absurd h3 h4
     .obtain⟨i,hil,rfl⟩:=List.mem_iff_getElem.1 hx
      have h3:=hsig i _ (jA hil)
      unfold q3r at h3
      split at h3
      .split at h3
       .cases h3
       .rename_i hkr
        split at h3
        .by_cases hk1:c.signals[i].kind=1
         .refine .inl (qoj ?_)
          split at h3
          .rename_i h5;exact absurd h3 h5.2
          .rename_i h5
           exact Classical.byContradiction fun hne=>h5 ⟨hk1,hne⟩
         .refine .inr ?_
          split at h3
          .rename_i h5;exact absurd h5.1 hk1
          .split at h3
           .cases h3
           .split at h3
            .cases h3
            .split at h3
             .cases h3
             .rename_i h6
              cases hz:c.signals[i].off.zero with
              | true=>rfl
              | false=>exact absurd (.inl ⟨hk1,.inl hz⟩) h6
        .rename_i h4;exact absurd h3 h4
      .rename_i h4;exact absurd h3 h4
     .have h3:=hsig i x hx
      unfold q3r at h3
      split at h3
      .rename_i h4;exact h4
      .exact h3
     .cases hb:c.plus.any (qfe (qak c A))with
      | false=>rfl
      | true=>exact absurd (.inl hb) hbad
     .cases hb:c.minus.any (qfe (qak c A))with
      | false=>rfl
      | true=>exact absurd (.inr hb) hbad
  .rename_i h4;exact absurd h2 h4
 .rename_i h4;exact absurd h2 h4
theorem ev92(l:List Int)(hl:l.length<=4096):ev pg (.call (.fn 92 [] []) [qbx l] [])=some { v:=.sl 0 0 1 0 l.length,st:=⟨[],[⟨0,.arr 1 (l.map qdc)⟩]⟩ }:=by
 rw[qac,pg92]
 cases l with
 | nil=>simp[ir92,qcr,qeo,qem]
 | cons x l =>
  have h47:(l.length+1)*8<=140737488355328:=by
   simp only[List.length_cons]at hl
   omega
  simp[ir92,h47,qcr,qeo,qem]
def I38(a b:List Int)(k:Nat)(st:St):Prop:=st.h=[]/\st.s.length=26/\qat st.s 0=.imm (a.map qdc)/\qat st.s 1=.imm (b.map qdc)/\qat st.s 12=num a.length/\qat st.s 13=num k/\decide (a=b)=decide (a.drop k=b.drop k)
def Q38(a b:List Int)(r:R):Prop:=r.st.s.length=26/\r.st.h=[]/\((r.x=.exit 0/\decide (a=b)=true)\/(r.x=.ret/\qat r.st.s 4=.bool false/\decide (a=b)=false))
theorem z1b(a b:List Int)(hab:b.length=a.length)(ha:a.length<=4096)(st:St)(h0:I38 a b 0 st):∃r,ev pg (.code (.going 0 L129_0) st)=some r/\Q38 a b r:=by
 refine qbq (I38 a b) a.length (Q38 a b) h0 ?_ ?_
 .rintro k ⟨s,hh⟩ hk ⟨rfl,hl,e0,e1,e12,e13,he⟩
  simp only at hl e0 e1 e12 e13
  have hk':(k:Int)<a.length:=by omega
  have hkb:k<b.length:=by omega
  have wk:=qab (n:=(k:Int)+1) (by omega) (by omega)
  rw[jL hk,jL hkb]at he
  rw[qaj hl]
  by_cases hb:a[k]=b[k]
  .have he':decide (a=b)=decide (a.drop (k+1)=b.drop (k+1)):=by rw[he];simp only[List.cons.injEq,hb,true_and]
   simp[L129_0,I38,List.range,List.range.loop,e0,e1,e12,e13,hk,hk',hkb,hb,wk]
   simpa using he'
  .have he':decide (a=b)=false:=by rw[he];simp only[List.cons.injEq,hb,false_and,decide_false]
   simp[L129_0,Q38,List.range,List.range.loop,e0,e1,e12,e13,hk,hk',hkb,hb]
   simpa using he'
 .rintro⟨s,hh⟩ ⟨rfl,hl,e0,e1,e12,e13,he⟩
  simp only[List.drop_length]at hl e0 e1 e12 e13 he
  rw[show List.drop a.length b=[]by rw[<-hab];exact List.drop_length]at he
  have he':decide (a=b)=true:=by rw[he];rfl
  rw[qaj hl]
  simp[L129_0,Q38,List.range,List.range.loop,e0,e1,e12,e13]
  simpa using he'
theorem ev129(a b:List Int)(ha:a.length<=4096):ev pg (.call (.fn 129 [] []) [.imm (a.map qdc),.imm (b.map qdc)] [])=some { v:=.bool (decide (a=b)),st:=⟨[],[]⟩ }:=by
 by_cases hab:b.length=a.length
 .have hloop:=z1b a b hab ha
  have hab':(b.length:Int)=a.length:=by omega
  unfold Q38 at hloop
  have hI:∀st:St,I38 a b 0 st<->(st.h=[]/\st.s.length=26/\qat st.s 0=.imm (a.map qdc)/\qat st.s 1=.imm (b.map qdc)/\qat st.s 12=num a.length/\qat st.s 13=num 0):=fun st=>by
   unfold I38
   exact⟨fun h=>⟨h.1,h.2.1,h.2.2.1,h.2.2.2.1,h.2.2.2.2.1,h.2.2.2.2.2.1⟩,fun h=>⟨h.1,h.2.1,h.2.2.1,h.2.2.2.1,h.2.2.2.2.1,h.2.2.2.2.2,rfl⟩⟩
  generalize decide (a=b)=B at *
  rw[qac,pg129]
  simp[ir129,qaf,hab']
  generalize hr:ev pg (.code (.going _ L129_0) _)=o
  obtain⟨r,rfl,hl,hh,hQ⟩:∃r,o=some r/\_:=by
   rw[<-hr]
   exact hloop _ ((hI _).2 ⟨by simp,by simp,by simp,by simp,by simp,by simp⟩)
  rcases hQ with⟨hx,rfl⟩ | ⟨hx,h4,rfl⟩
  .simp[hx,hh,hl]
  .simp[hx,h4]
 .have hd:decide (a=b)=false:=by
   rw[decide_eq_false_iff_not]
   intro e
   exact hab (by rw[e])
  have hne:((a.length:Int) != (b.length:Int))=true:=by
   rw[bne_iff_ne];omega
  rw[hd,qac,pg129]
  simp[ir129,hne]
mutual
def Ex.same:Ex->Ex->Bool
 | .mk o i l,.mk o' i' l'=>o==o'&&(i==i'&&zvv l l')
def zvv:List Ex->List Ex->Bool
 | [],[]=>true
 | x :: l,y :: l'=>x.same y&&zvv l l'
 | _,_=>false
end
structure Keep83(li:Int)(st:List V):Prop where
 nn:qdv st
 len:st.length=157
 t2:qat st 2=.bptr 0 0
 t3:qat st 3=.bptr 1 0
 t4:qat st 4=.bptr 6 0
 t5:qat st 5=.sl 26 0 0 0 0
 t6:qat st 6=.bptr 7 0
 t7:qat st 7=num li
 t8:qat st 8=.bptr 21 0
abbrev qfi(b:Bool):List V:=[.bool b]
abbrev jfu:V:=.imm [[.str [115,116,117,99,107,48]],[.str [115,116,117,99,107,49]]]
structure Keep83v(li:Int)(v:Int)(gk mk nk gv mv nv:Nat)(st:List V):Prop where
 keep:Keep83 li st
 t9:qat st 9=.sl 27 gk mk 0 nk
 t15:qat st 15=.sl 28 gv mv 0 nv
 t92:qat st 92=jfu
 t93:qat st 93=num 2
 t94:qat st 94=num v
structure Keep83w(li v:Int)(gk mk nk gv mv nv:Nat)(st:List V):Prop where
 keep:Keep83v li v gk mk nk gv mv nv st
 t16:qat st 16=num v
theorem Keep83.set{li:Int}{s:List V}(h:Keep83 li s)(j:Nat)(x:V)(hx:x ≠ .nils)(hj:j∉[2,3,4,5,6,7,8]):Keep83 li (qhc s j x):=by
 simp only[List.mem_cons,List.not_mem_nil,or_false,not_or]at hj
 obtain⟨h2,h3,h4,h5,h6,h7,h8⟩:=hj
 exact⟨qew h.nn hx,by rw[qnh,h.len],by rw[qay h2,h.t2],by rw[qay h3,h.t3],by rw[qay h4,h.t4],by rw[qay h5,h.t5],by rw[qay h6,h.t6],by rw[qay h7,h.t7],by rw[qay h8,h.t8]⟩
theorem Keep83v.set{li v:Int}{gk mk nk gv mv nv:Nat}{s:List V}(h:Keep83v li v gk mk nk gv mv nv s)(j:Nat)(x:V)(hx:x ≠ .nils)(hj:j∉[2,3,4,5,6,7,8])(hj2:j∉[9,15,92,93,94]):Keep83v li v gk mk nk gv mv nv (qhc s j x):=by
 simp only[List.mem_cons,List.not_mem_nil,or_false,not_or]at hj2
 obtain⟨h9,h15,h92,h93,h94⟩:=hj2
 exact⟨h.keep.set j x hx hj,by rw[qay h9,h.t9],by rw[qay h15,h.t15],by rw[qay h92,h.t92],by rw[qay h93,h.t93],by rw[qay h94,h.t94]⟩
theorem Keep83w.set{li v:Int}{gk mk nk gv mv nv:Nat}{s:List V}(h:Keep83w li v gk mk nk gv mv nv s)(j:Nat)(x:V)(hx:x ≠ .nils)(hj:j∉[2,3,4,5,6,7,8])(hj2:j∉[9,15,92,93,94])(hj3:j≠16):Keep83w li v gk mk nk gv mv nv (qhc s j x) :=
 ⟨h.keep.set j x hx hj hj2,by rw[qay hj3,h.t16]⟩
theorem Keep83v.next{li v:Int}{gk mk nk gv mv nv:Nat}{s:List V}(h:Keep83v li v gk mk nk gv mv nv s)(x:V)(hx:x ≠ .nils)(v':Int):Keep83v li v' gk mk nk gv mv nv (qhc (qhc s 154 x) 94 (num v')):=by
 have hk:=(h.keep.set 154 x hx (by decide)).set 94 (num v') (by simp) (by decide)
 have hl:=h.keep.len
 exact⟨hk,by simp[h.t9],by simp[h.t15],by simp[h.t92],by simp[h.t93],by simp[hl]⟩
def I39(a b:List Int)(k:Nat)(st:St):Prop:=st.h=[]/\st.s.length=26/\qat st.s 0=.imm (a.map qdc)/\qat st.s 1=.imm (b.map qdc)/\qat st.s 5=num k/\decide (a=b)=decide (a.drop k=b.drop k)
def Q39(a b:List Int)(r:R):Prop:=r.st.s.length=26/\r.st.h=[]/\((r.x=.exit 0/\decide (a=b)=true)\/(r.x=.ret/\qat r.st.s 4=.bool false/\decide (a=b)=false))
theorem zyk(a b:List Int)(hab:b.length=a.length)(ha:a.length<=4096)(st:St)(h0:I39 a b 0 st):∃r,ev pg (.code (.going 0 L60_0) st)=some r/\Q39 a b r:=by
 refine qbq (I39 a b) a.length (Q39 a b) h0 ?_ ?_
 .rintro k ⟨s,hh⟩ hk ⟨rfl,hl,e0,e1,e5,he⟩
  simp only at hl e0 e1 e5
  have hk':(k:Int)<a.length:=by omega
  have hkb:k<b.length:=by omega
  have wk:=qab (n:=(k:Int)+1) (by omega) (by omega)
  rw[jL hk,jL hkb]at he
  rw[qaj hl]
  by_cases hb:a[k]=b[k]
  .have he':decide (a=b)=decide (a.drop (k+1)=b.drop (k+1)):=by rw[he];simp only[List.cons.injEq,hb,true_and]
   simp[L60_0,I39,List.range,List.range.loop,e0,e1,e5,hk,hk',hkb,hb,wk]
   simpa using he'
  .have he':decide (a=b)=false:=by rw[he];simp only[List.cons.injEq,hb,false_and,decide_false]
   simp[L60_0,Q39,List.range,List.range.loop,e0,e1,e5,hk,hk',hkb,hb]
   simpa using he'
 .rintro⟨s,hh⟩ ⟨rfl,hl,e0,e1,e5,he⟩
  simp only[List.drop_length]at hl e0 e1 e5 he
  rw[show List.drop a.length b=[]by rw[<-hab];exact List.drop_length]at he
  have he':decide (a=b)=true:=by rw[he];rfl
  rw[qaj hl]
  simp[L60_0,Q39,List.range,List.range.loop,e0,e1,e5]
  simpa using he'
theorem ev60(a b:List Int)(ha:a.length<=4096):ev pg (.call (.fn 60 [] []) [.imm (a.map qdc),.imm (b.map qdc)] [])=some { v:=.bool (decide (a=b)),st:=⟨[],[]⟩ }:=by
 by_cases hab:b.length=a.length
 .have hloop:=zyk a b hab ha
  have hab':(b.length:Int)=a.length:=by omega
  unfold Q39 at hloop
  have hI:∀st:St,I39 a b 0 st<->(st.h=[]/\st.s.length=26/\qat st.s 0=.imm (a.map qdc)/\qat st.s 1=.imm (b.map qdc)/\qat st.s 5=num 0):=fun st=>by
   unfold I39
   exact⟨fun h=>⟨h.1,h.2.1,h.2.2.1,h.2.2.2.1,h.2.2.2.2.1⟩,fun h=>⟨h.1,h.2.1,h.2.2.1,h.2.2.2.1,h.2.2.2.2,rfl⟩⟩
  generalize decide (a=b)=B at *
  rw[qac,pg60]
  simp[ir60,qaf,hab']
  generalize hr:ev pg (.code (.going _ L60_0) _)=o
  obtain⟨r,rfl,hl,hh,hQ⟩:∃r,o=some r/\_:=by
   rw[<-hr]
   exact hloop _ ((hI _).2 ⟨by simp,by simp,by simp,by simp,by simp⟩)
  rcases hQ with⟨hx,rfl⟩ | ⟨hx,h4,rfl⟩
  .simp[hx,hh,hl]
  .simp[hx,h4]
 .have hd:decide (a=b)=false:=by
   rw[decide_eq_false_iff_not]
   intro e
   exact hab (by rw[e])
  have hne:((a.length:Int) != (b.length:Int))=true:=by
   rw[bne_iff_ne];omega
  rw[hd,qac,pg60]
  simp[ir60,hne]
abbrev qcy(l:List Bool):V:=.imm (l.map qfi)
structure Ste where
 ends:List Int
 valves:List Bool
 inputs:List Bool
 values:List Bool
 timers:List Int
abbrev Ste.cells(s:Ste):List V:=[qbx s.ends,qcy s.valves,qcy s.inputs,qcy s.values,qbx s.timers]
abbrev Ste.v(s:Ste):V:=.agg s.cells
def zeroS:Ste:=⟨[],[],[],[],[]⟩
@[simp] theorem zys(l:List Bool):qwa (l.map qfi) (l.map qfi)=true:=qhg (fun x=>by simp) l
def T48(a b:List Bool)(k:Nat):Tm:=[some (qcy a),some (qcy b),none,none,none,some (num k)]++List.replicate 20 none
def jcf(a b:List Bool):Tm:=[some (qcy a),some (qcy b),none,none,some (.bool false)]++List.replicate 21 none
theorem zxp(a b:List Bool)(hab:b.length=a.length)(ha:a.length<=4096){st:St}(h0:At (T48 a b 0) [] st):∃r,ev pg (.code (.going 0 L61_0) st)=some r/\qkt a.length (fun k=>a[k]? != b[k]?) (fun _=>qag .ret (jcf a b) []) (qag (.exit 0) (T48 a b a.length) []) r:=by
 refine qcw _ _ (T48 a b) [] _ _ ?_ ?_ ?_ h0
 .intro k f hf hk hp
  have hk':(k:Int)<a.length:=by omega
  have hkb:k<b.length:=by omega
  have wk:=qab (n:=(k:Int)+1) (by omega) (by omega)
  have hb:a[k]=b[k]:=by simpa[hk,hkb]using hp
  simp[T48,L61_0,hk,hk',hkb,hb,wk,hf.ne]
 .intro k f hf hk hp
  have hk':(k:Int)<a.length:=by omega
  have hkb:k<b.length:=by omega
  have hb:a[k]≠b[k]:=by simpa[hk,hkb]using hp
  have hb':(a[k]==b[k])=false:=by simpa using hb
  simp[T48,jcf,L61_0,hk,hk',hkb,hb',hf.ne]
 .intro f hf
  simp[T48,L61_0,hf.ne]
theorem ev61(a b:List Bool)(ha:a.length<=4096):ev pg (.call (.fn 61 [] []) [qcy a,qcy b] [])=some { v:=.bool (decide (a=b)),st:=⟨[],[]⟩ }:=by
 rw[qac,pg61]
 by_cases hab:b.length=a.length
 .have hloop:=@zxp a b hab ha
  have hab':(b.length:Int)=a.length:=by omega
  simp[ir61,qaf,hab']
  generalize hr:ev pg (.code (.going _ L61_0) _)=o
  obtain⟨r,rfl,hQ⟩:∃r,o=some r/\_:=by rw[<-hr];exact hloop (by simp[T48])
  rcases hQ with⟨k,hk,hp,-,f,hf,rfl⟩ | ⟨hp,f,hf,rfl⟩
  .have:a≠b:=by rintro rfl;simp at hp
   simp[jcf,this]
  .have:a=b:=by
    refine List.ext_getElem hab.symm fun k h1 h2=>?_
    have:=hp k h1
    simpa[h1,h2]using this
   simp[T48,this]
 .have hne:((a.length:Int) != (b.length:Int))=true:=by rw[bne_iff_ne];omega
  have:a≠b:=fun e=>hab (by rw[e])
  simp[ir61,hne,this]
end Go.Proofs.YtlhciedghbmjjaaGreat
