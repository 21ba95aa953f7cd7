/- What is at rest. Behind events states are right; the first state. A round of the plant, by the reference: all that is needed of a right state of a small control. -/
import Derived.Test.YtddeacahiilikaaGreatROn2
import Derived.KernelRfl
import Derived.Test.YtddeacahiilikaaGreatRSv1
set_option linter.all false
namespace Go.Proofs.YtddeacahiilikaaGreat
open Go Go.Am Go.Proofs
set_option maxRecDepth 100000
theorem qur(s:Ste):qhd s s=true:=qhe.2 rfl
theorem qpw{c:Ct}:∀{d:Nat} {s:Ste} {l:List Int} {t:Ste} {m:List Int},qha c d s l=some (t,m)->∃a,qcw c t=some (t,a)
 | 0,_,_,_,_,h=>by cases h
 | d+1,s,l,t,m,h=>by
  rw[qha]at h
  cases e:qcw c s with
  | none=>rw[e]at h;cases h
  | some x =>
   rw[e]at h
   simp only at h
   split at h
   .rename_i hs
    cases h
    have:=qhe.1 hs
    exact⟨x.2,by rw[e,this]⟩
   .exact qpw h
theorem q0z{c:Ct}{s t:Ste}{m:List Int}(h:qjs c s=some (t,m)):∃a,qcw c t=some (t,a):=qpw h
theorem q5q{c:Ct}{t:Ste}{a:List Int}(h:qcw c t=some (t,a)):qjs c t=some (t,norm (qhn c) a):=by
 unfold qjs
 rw[qha,h]
 simp only[qur,if_true,List.nil_append]
theorem qza{c:Ct}{s t:Ste}{a:List Int}(h:qcw c s=some (t,a)):∃u m,qby c s=some (u,m)/\t=qiv (qhl c u)/\a=norm (qhn c) (m++qka c u):=by
 unfold qcw at h
 cases e:qby c s with
 | none=>rw[e]at h;cases h
 | some x =>
  rw[e]at h
  cases h
  exact⟨x.1,x.2,rfl,rfl,rfl⟩
structure Evn where
 kind:Int
 idx:Int
 val:Bool
abbrev Evn.row(x:Evn):List V:=[num x.kind,num x.idx,.bool x.val]
def qpj(a b:Ste)(i:Nat):Option (Int×Bool):=match a.ends[i]?,b.ends[i]? with
 | some x,some y=>if(y=1\/y=3)/\x≠y then some (i,y==1)else none
 | _,_=>none
def qdm(a b:Ste):List (Int×Bool):=(List.range a.ends.length).filterMap (qpj a b)
def qcr(s:Ste)(k:Int)(i:Nat):Bool:=if k=0 then((s.ends[i]?).map fun e=>e==1||e==3).getD false else((s.timers[i]?).map fun t=>t==1).getD false
def qtc(s:Ste):List Evn:=((List.range s.ends.length).filter (qcr s 0)).map (fun(i:Nat)=>⟨0,i,false⟩)++((List.range s.timers.length).filter (qcr s 1)).map fun(i:Nat)=>⟨1,i,false⟩
def qqi(s:Ste)(x:Evn):Bool :=
 if x.idx<0 then false
 else if x.kind=2 then((s.inputs[x.idx.toNat]?).map fun v=>v != x.val).getD false
 else qcr s x.kind x.idx.toNat
def qfa(s:Ste)(x:Evn):Ste :=
 if x.kind=0 then⟨s.ends.set x.idx.toNat (if s.ends[x.idx.toNat]?=some 1 then 2 else 0),s.valves,s.inputs,s.values,s.timers⟩
 else if x.kind=1 then⟨s.ends,s.valves,s.inputs,s.values.set x.idx.toNat true,s.timers.set x.idx.toNat 2⟩
 else⟨s.ends,s.valves,s.inputs.set x.idx.toNat x.val,s.values,s.timers⟩
def qkg(c:Ct)(s:Ste):Ste×List Int×Int:=match qjs c s with
 | some x=>(x.1,x.2,0)
 | none=>(zeroS,[],21)
def qbr(c:Ct)(s:Ste)(x:Evn):Ste×List Int×Int :=
 if x.kind<0\/2<x.kind then(zeroS,[],1)else if qqi s x=true then qkg c (qfa s x)else(zeroS,[],14)
structure Crs where
 st:Ste
 strokes:List (List (Int×Bool))
 conf:List Int
def zeroCrs:Crs:=⟨zeroS,[],[]⟩
def qii(c:Ct):List Evn->Nat->Crs->Crs×Int×Int
 | [],_,r=>(r,0,0)
 | x :: l,i,r=>if(qbr c r.st x).2.2=0 then qii c l (i+1) ⟨(qbr c r.st x).1,r.strokes++[qdm r.st (qbr c r.st x).1],norm (qhn c) (r.conf++(qbr c r.st x).2.1)⟩else(zeroCrs,i,(qbr c r.st x).2.2)
theorem q3b{s:Ste}{i:Nat}(h:qcr s 0 i=true):∃hi:i<s.ends.length,s.ends[i]=1\/s.ends[i]=3:=by
 unfold qcr at h
 rw[if_pos rfl]at h
 by_cases hi:i<s.ends.length
 .rw[jA hi]at h
  simp at h
  exact⟨hi,h⟩
 .rw[jX (by omega)]at h
  simp at h
theorem qot{s:Ste}{i:Nat}(h:qcr s 1 i=true):∃hi:i<s.timers.length,s.timers[i]=1:=by
 unfold qcr at h
 rw[if_neg (by omega)]at h
 by_cases hi:i<s.timers.length
 .rw[jA hi]at h
  simp at h
  exact⟨hi,h⟩
 .rw[jX (by omega)]at h
  simp at h
theorem qid{c:Ct}{s:Ste}{x:Evn}(hs:stE c s=0)(hk:¬(x.kind<0\/2<x.kind))(hm:qqi s x=true):stE c (qfa s x)=0:=by
 obtain⟨hc,hS,h1,h2,h3⟩:=qgd.1 hs
 unfold qqi at hm
 split at hm
 .cases hm
 .unfold qfa
  by_cases hk0:x.kind=0
  .rw[if_pos hk0]
   refine qgd.2 ⟨hc,⟨by simp only[jU];exact hS.e,hS.w,hS.i,hS.v,hS.t⟩,qfi.2 fun y hy=>?_,h2,h3⟩
   rcases jT hy with h | h
   .exact qfi.1 h1 y h
   .rw[h];split<;>omega
  .rw[if_neg hk0]
   by_cases hk1:x.kind=1
   .rw[if_pos hk1]
    rw[if_neg (by omega),hk1]at hm
    obtain⟨hi,ht⟩:=qot hm
    generalize x.idx.toNat=n at *
    have hnc:n<c.signals.length:=by rw[<-hS.t];exact hi
    have hS':Shp c ⟨s.ends,s.valves,s.inputs,s.values.set n true,s.timers.set n 2⟩:=⟨hS.e,hS.w,hS.i,by simp only[jU];exact hS.v,by simp only[jU];exact hS.t⟩
    refine qgd.2 ⟨hc,hS',h1,qfi.2 fun y hy=>?_,fun k hk=>?_⟩
    .rcases jT hy with h | h
     .exact qfi.1 h2 y h
     .rw[h];omega
    .simp only[jU]at hk
     have hkc:k<c.signals.length:=by rw[<-hS.t];exact hk
     rw[quv hS' hkc]
     simp only[List.getElem_set]
     by_cases hkn:n=k
     .subst hkn
      have hq:=h3 n hi
      rw[quv hS hkc,ht]at hq
      simp only[if_true]
      have hkind:c.signals[n].kind=2:=by
       simp[tmB]at hq
       exact hq.1
      rw[hkind]
      rfl
     .rw[if_neg hkn,if_neg hkn,<-quv hS hkc]
      exact h3 k hk
   .rw[if_neg hk1]
    exact qgd.2 ⟨hc,⟨hS.e,hS.w,by simp only[jU];exact hS.i,hS.v,hS.t⟩,h1,h2,h3⟩
theorem qjv{c:Ct}{s:Ste}{x:Evn}(hs:stE c s=0)(h:(qbr c s x).2.2=0):stE c (qbr c s x).1=0:=by
 unfold qbr at h ⊢
 split at h
 .cases h
 .rename_i h1
  rw[if_neg h1]
  split at h
  .rename_i h2
   rw[if_pos h2]
   unfold qkg at h ⊢
   cases e:qjs c (qfa s x)with
   | none=>rw[e]at h;cases h
   | some y =>
    simp only
    exact qse (qid hs h1 h2) (show qjs c (qfa s x)=some (y.1,y.2)from e)
  .cases h
def qgf(c:Ct):Ste:=⟨List.replicate c.act.toNat 0,List.replicate c.act.toNat false,List.replicate c.inputs.length false,c.signals.map Sg.init,List.replicate c.signals.length 0⟩
def qca(c:Ct):Ste:=qdc c (qgf c)
theorem qpi{c:Ct}(hc:c.check=0):stE c (qgf c)=0:=by
 have hact:1<=c.act:=by
  unfold Ct.check at hc
  split at hc
  .cases hc
  .omega
 have hS:Shp c (qgf c):=⟨by unfold qgf;rw[kB];omega,by unfold qgf;rw[kB];omega,by unfold qgf;rw[kB],by unfold qgf;rw[List.length_map],by unfold qgf;rw[kB]⟩
 refine qgd.2 ⟨hc,hS,qfi.2 fun y hy=>?_,qfi.2 fun y hy=>?_,fun k hk=>?_⟩
 .rw[(List.mem_replicate.1 hy).2];omega
 .rw[(List.mem_replicate.1 hy).2];omega
 .have hkc:k<c.signals.length:=by rw[<-hS.t];exact hk
  rw[quv hS hkc]
  unfold qgf
  simp only[List.getElem_map,List.getElem_replicate]
  have hz:=q3n hc k _ (jA hkc)
  generalize c.signals[k]=x at *
  by_cases h2:x.kind=2
  .have hi:x.init=false:=by
    cases hb:x.init with
    | false=>rfl
    | true =>
     exfalso
     unfold q3m at hz
     split at hz
     .split at hz
      .cases hz
      .split at hz
       .split at hz
        .rename_i h4;exact h4.2 hz
        .split at hz
         .cases hz
         .split at hz
          .cases hz
          .rw[if_pos (.inl ⟨by omega,.inr hb⟩)]at hz
           cases hz
       .rename_i h4;exact h4 hz
     .rename_i h4;exact h4 hz
   rw[h2,hi]
   rfl
  .simp[tmB,h2]
theorem qcz{c:Ct}(hc:c.check=0):stE c (qca c)=0:=qmc (qpi hc)
structure Rdy(c:Ct)(s:Ste):Prop where
 few:c.small=true
 st:stE c s=0
theorem Rdy.chk{c:Ct}{s:Ste}(h:Rdy c s):c.check=0:=(qlj h.st).1
theorem Rdy.mid{c:Ct}{s:Ste}(h:Rdy c s):Mid c c.act.toNat:=qrs h.chk h.few
theorem Rdy.shp{c:Ct}{s:Ste}(h:Rdy c s):Shp c s:=(qlj h.st).2
theorem Rdy.small{c:Ct}{s:Ste}(h:Rdy c s):s.small:=by
 obtain⟨h1,h2,h3,h4,h5⟩:=h.shp
 have a1:=h.mid.hi
 have a2:=h.mid.inp
 have a3:=h.mid.sig
 have a4:=h.mid.act
 exact⟨by omega,by omega,by omega,by omega,by omega⟩
theorem Rdy.sig{c:Ct}{s:Ste}(h:Rdy c s):∀x∈c.signals,SigOk (qad s).length x:=by
 intro x hx
 rw[qzj h.shp]
 have:=z1x h.chk h.few hx
 exact⟨⟨this.non,this.on⟩,fun _=>⟨this.noff,this.off⟩⟩
theorem Rdy.pil{c:Ct}{s:Ste}(h:Rdy c s):Pil c c.act.toNat (qad s).length:=by
 rw[qzj h.shp]
 have:=qsf h.chk h.few
 exact⟨this.plus,this.minus,qfi.1 this.pp,qfi.1 this.mm⟩
theorem Rdy.settle{c:Ct}{s t:Ste}{m:List Int}(h:Rdy c s)(hz:qby c s=some (t,m)):Rdy c t:=⟨h.few,qnz h.st hz⟩
theorem Rdy.round{c:Ct}{s t:Ste}{m:List Int}(h:Rdy c s)(hz:qcw c s=some (t,m)):Rdy c t:=⟨h.few,qpx h.st hz⟩
structure Lin(N:Nat)(l:List Int):Prop where
 asc:Asc l
 b:∀x∈l,0<=x/\x<(N:Int)
theorem Lin.norm(N:Nat)(l:List Int):Lin N (norm N l):=⟨qla N l,fun _ hx=>(qiy.1 hx).2⟩
theorem Lin.self{N:Nat}{l:List Int}(h:Lin N l):Proofs.YtddeacahiilikaaGreat.norm N l=l:=q9p h.asc h.b
theorem q9o(N:Nat)(l:List Int):(norm N l).length<=N:=qgj _ _ _
theorem Lin.len{N:Nat}{l:List Int}(h:Lin N l):l.length<=N:=by
 have:=q9o N l
 rwa [h.self]at this
theorem Lin.mono{M N:Nat}{l:List Int}(h:Lin M l)(hMN:M<=N):Lin N l:=⟨h.asc,fun x hx=>by have:=h.b x hx;omega⟩
theorem Lin.mrg{N:Nat}{l m:List Int}(hl:Lin N l)(hm:Lin N m):mrg l m=Proofs.YtddeacahiilikaaGreat.norm N (l++m):=zds hl.asc hm.asc hl.b hm.b
theorem Lin.nil(N:Nat):Lin N []:=⟨List.Pairwise.nil,by simp⟩
theorem qqc{c:Ct}{N:Nat}:∀{d:Nat} {s:Ste} {l:List Int} {t:Ste} {m:List Int},qdh c N d s l=some (t,m)->Lin N m
 | 0,_,_,_,_,h=>by cases h
 | d+1,s,l,t,m,h=>by
  rw[qdh]at h
  split at h
  .cases h;exact Lin.norm _ _
  .exact qqc h
theorem qmk{c:Ct}{s t:Ste}{m:List Int}(h:qby c s=some (t,m)):Lin (qah c c.act.toNat) m:=qqc h
theorem qre(c:Ct)(s:Ste):Lin (qhn c) (qka c s):=by
 refine⟨?_,fun x hx=>?_⟩
 .unfold qka qoe Asc
  rw[List.pairwise_map]
  refine List.Pairwise.imp ?_ ((List.pairwise_lt_range (n:=c.act.toNat)).filter _)
  intro a b h
  omega
 .unfold qka at hx
  obtain⟨j,h1,_,rfl⟩:=(q3i _ _ _ _).1 hx
  unfold qhn
  omega
theorem qlx{c:Ct}(h:Mid c c.act.toNat):qhn c<=200:=by
 have:=h.hi
 have:=h.inp
 have:=h.sig
 unfold qhn qah
 omega
theorem q5m{c:Ct}{s t:Ste}{m:List Int}(h:qcw c s=some (t,m)):Lin (qhn c) m:=by
 obtain⟨u,k,_,_,rfl⟩:=qza h
 exact Lin.norm _ _
theorem ev266{c:Ct}{s:Ste}(h:Rdy c s):ev pg (.call (.fn 266 [] []) [c.v,s.v] [])=some { v:=.tup (qsy (qcw c s)++[.bool (qcw c s).isSome]),st:=⟨[],[]⟩ }:=by
 cases hZ:qby c s with
 | none =>
  have h124:=ev290 c h.mid s h.small h.shp h.sig
  have hr:qcw c s=none:=by unfold qcw;rw[hZ];rfl
  rw[hr]
  rw[hZ]at h124
  simp[qsy]at h124
  rw[qac,pg266]
  simp[ir266,h124,qsy,zeroS]
 | some x =>
  obtain⟨t,m⟩:=x
  have ht:=h.settle hZ
  have hm:=qmk hZ
  have hN:=qlx h.mid
  have h83:=ev266_some c h.mid s h.small h.shp h.sig hZ ht.small ht.shp ht.pil (by have:=hm.len;unfold qhn at hN;omega)
  have hr:qcw c s=some (qiv (qhl c t),norm (qhn c) (m++qka c t)):=by unfold qcw;rw[hZ];rfl
  rw[hr,h83]
  have e:mrg m (cfA c t c.act.toNat)=norm (qhn c) (m++qka c t):=Lin.mrg (hm.mono (by unfold qhn;omega)) (qre c t)
  rw[e]
  rfl
end Go.Proofs.YtddeacahiilikaaGreat
