/- Ascending lists of numbers. A line that is stuck where it is: what the law says, with no program in sight. A line that is stuck where it is: controls and states. -/
import Derived.Test.YtddeacahiilikaaGreatRTo2
import Derived.Test.YtddeacahiilikaaGreatRCo1
import Derived.KernelRfl
import Derived.Test.YtddeacahiilikaaGreatRCa1
set_option linter.all false
namespace Go.Proofs.YtddeacahiilikaaGreat
open Go Go.Am Go.Proofs
set_option maxRecDepth 100000
def Asc(l:List Int):Prop:=l.Pairwise (· < ·)
theorem qqy:∀{l m:List Int},Asc l->Asc m->(∀x,x∈l<->x∈m)->l=m
 | [],[],_,_,_=>rfl
 | [],y :: m,_,_,h=>absurd ((h y).2 (by simp)) (by simp)
 | x :: l,[],_,_,h=>absurd ((h x).1 (by simp)) (by simp)
 | x :: l,y :: m,hl,hm,h=>by
  have hl':=List.pairwise_cons.1 hl
  have hm':=List.pairwise_cons.1 hm
  have hxy:x=y:=by
   rcases List.mem_cons.1 ((h x).1 (by simp))with e | e
   .exact e
   .rcases List.mem_cons.1 ((h y).2 (by simp))with e2 | e2
    .exact e2.symm
    .have h1:=hm'.1 x e
     have h2:=hl'.1 y e2
     omega
  subst hxy
  congr 1
  refine qqy hl'.2 hm'.2 fun z=>⟨fun hz=>?_,fun hz=>?_⟩
  .rcases List.mem_cons.1 ((h z).1 (by simp[hz]))with e | e
   .have:=hl'.1 z hz;omega
   .exact e
  .rcases List.mem_cons.1 ((h z).2 (by simp[hz]))with e | e
   .have:=hm'.1 z hz;omega
   .exact e
def norm(N:Nat)(l:List Int):List Int:=qoe (fun k=>l.contains (k:Int)) 0 N
theorem qla(N:Nat)(l:List Int):Asc (norm N l):=by
 unfold norm qoe Asc
 rw[List.pairwise_map]
 refine List.Pairwise.imp ?_ ((List.pairwise_lt_range (n:=N)).filter _)
 intro a b h
 omega
theorem qiy{N:Nat}{l:List Int}{x:Int}:x∈norm N l<->x∈l/\0<=x/\x<N:=by
 unfold norm qoe
 simp only[List.mem_map,List.mem_filter,List.mem_range,List.contains_iff_mem]
 constructor
 .rintro⟨k,⟨h1,h2⟩,rfl⟩
  simp only[Int.zero_add]
  exact⟨h2,by omega,by omega⟩
 .rintro⟨h1,h2,h3⟩
  exact⟨x.toNat,⟨by omega,by rw[Int.toNat_of_nonneg h2];exact h1⟩,by omega⟩
theorem q9p{N:Nat}{l:List Int}(hl:Asc l)(h:∀x∈l,0<=x/\x<(N:Int)):norm N l=l :=
 qqy (qla N l) hl fun x=>by rw[qiy];exact⟨fun a=>a.1,fun a=>⟨a,h x a⟩⟩
theorem que{N:Nat}{l m:List Int}(h:∀x:Int,0<=x->x<N->(x∈l<->x∈m)):norm N l=norm N m :=
 qqy (qla N l) (qla N m) fun x=>by
  rw[qiy,qiy]
  exact⟨fun a=>⟨(h x a.2.1 a.2.2).1 a.1,a.2⟩,fun a=>⟨(h x a.2.1 a.2.2).2 a.1,a.2⟩⟩
def mrg:List Int->List Int->List Int
 | [],m=>m
 | x :: l,[]=>x :: l
 | x :: l,y :: m=>if x<y then x :: mrg l (y :: m)else if y<x then y :: mrg (x :: l) m else x :: mrg l m
termination_by l m=>l.length+m.length
theorem qmg:∀{l m:List Int} {z:Int},z∈mrg l m<->z∈l\/z∈m
 | [],m,z=>by rw[mrg];simp
 | x :: l,[],z=>by rw[mrg];simp
 | x :: l,y :: m,z=>by
  rw[mrg]
  split
  .rw[List.mem_cons,qmg (l:=l) (m:=y :: m),List.mem_cons (a:=z) (b:=x),or_assoc]
  .split
   .rw[List.mem_cons,qmg (l:=x :: l) (m:=m),List.mem_cons (a:=z) (b:=y) (l:=m)]
    exact⟨fun h=>h.elim (fun h=>.inr (.inl h)) fun h=>h.elim .inl fun h=>.inr (.inr h),fun h=>h.elim (fun h=>.inr (.inl h)) fun h=>h.elim .inl fun h=>.inr (.inr h)⟩
   .rename_i h1 h2
    have:x=y:=by omega
    subst this
    rw[List.mem_cons,qmg (l:=l) (m:=m),List.mem_cons,List.mem_cons]
    exact⟨fun h=>h.elim (fun h=>.inl (.inl h)) fun h=>h.elim (fun h=>.inl (.inr h)) fun h=>.inr (.inr h),fun h=>h.elim (fun h=>h.elim .inl fun h=>.inr (.inl h)) fun h=>h.elim .inl fun h=>.inr (.inr h)⟩
termination_by l m=>l.length+m.length
theorem qwd:∀{l m:List Int},Asc l->Asc m->Asc (mrg l m)
 | [],m,_,hm=>by rw[mrg];exact hm
 | x :: l,[],hl,_=>by rw[mrg];exact hl
 | x :: l,y :: m,hl,hm=>by
  have hl':=List.pairwise_cons.1 hl
  have hm':=List.pairwise_cons.1 hm
  rw[mrg]
  split
  .refine List.pairwise_cons.2 ⟨fun z hz=>?_,qwd hl'.2 hm⟩
   rcases qmg.1 hz with h | h
   .exact hl'.1 z h
   .rcases List.mem_cons.1 h with h | h
    .omega
    .have:=hm'.1 z h;omega
  .split
   .refine List.pairwise_cons.2 ⟨fun z hz=>?_,qwd hl hm'.2⟩
    rcases qmg.1 hz with h | h
    .rcases List.mem_cons.1 h with h | h
     .omega
     .have:=hl'.1 z h;omega
    .exact hm'.1 z h
   .refine List.pairwise_cons.2 ⟨fun z hz=>?_,qwd hl'.2 hm'.2⟩
    rcases qmg.1 hz with h | h
    .exact hl'.1 z h
    .have:=hm'.1 z h;omega
termination_by l m=>l.length+m.length
theorem zds{N:Nat}{l m:List Int}(hl:Asc l)(hm:Asc m)(h1:∀x∈l,0<=x/\x<(N:Int))(h2:∀x∈m,0<=x/\x<(N:Int)):mrg l m=norm N (l++m) :=
 qqy (qwd hl hm) (qla _ _) fun x=>by
  rw[qmg,qiy,jQ]
  exact⟨fun h=>⟨h,h.elim (h1 x) (h2 x)⟩,fun h=>h.1⟩
def qav:List Int->List Int
 | []=>[]
 | [x]=>[x]
 | x :: y :: l=>if x=y then qav (y :: l)else x :: qav (y :: l)
theorem qix:∀{l:List Int} {z:Int},z∈qav l<->z∈l
 | [],z=>by simp[qav]
 | [x],z=>by simp[qav]
 | x :: y :: l,z=>by
  rw[qav]
  split
  .rename_i h
   rw[qix (l:=y :: l)]
   subst h
   simp
  .rw[List.mem_cons,qix (l:=y :: l),List.mem_cons (a:=z) (b:=x)]
theorem qly:∀{l:List Int},l.Pairwise (·<=·)->Asc (qav l)
 | [],_=>by rw[qav];exact List.Pairwise.nil
 | [x],_=>by rw[qav];exact List.pairwise_singleton ..
 | x :: y :: l,h=>by
  have h':=List.pairwise_cons.1 h
  have hy:=List.pairwise_cons.1 h'.2
  rw[qav]
  split
  .exact qly h'.2
  .rename_i hne
   refine List.pairwise_cons.2 ⟨fun z hz=>?_,qly h'.2⟩
   rw[qix]at hz
   have h1:=h'.1 y (by simp)
   rcases List.mem_cons.1 hz with e | e
   .omega
   .have:=hy.1 z e;omega
theorem qpg{N:Nat}{l m:List Int}(hs:m.Pairwise (·<=·))(hp:∀x,x∈m<->x∈l)(h:∀x∈l,0<=x/\x<(N:Int)):qav m=norm N l :=
 qqy (qly hs) (qla _ _) fun x=>by
  rw[qix,hp,qiy]
  exact⟨fun a=>⟨a,h x a⟩,fun a=>a.1⟩
theorem q0l{c:Ct}{F i v:Nat}{L:List Bool}(h:v≠F+i\/(∀x,c.signals[i]?=some x->x.kind≠0)):(qfs c F i L)[v]?=L[v]?:=by
 unfold qfs
 split
 .rename_i x hx
  split
  .rename_i h0
   rcases h with h | h
   .rw[jO (by omega)]
   .exact absurd h0 (h x hx)
  .rfl
 .rfl
theorem qpl{c:Ct}{F v k:Nat}{L:List Bool}(h:∀j,k<=j->v≠F+j\/(∀x,c.signals[j]?=some x->x.kind≠0)):∀d,(qbe c F (k+d) L)[v]?=(qbe c F k L)[v]?
 | 0=>rfl
 | d+1=>by rw[<-Nat.add_assoc,qbe,q0l (h (k+d) (by omega)),qpl h d]
theorem q3n{c:Ct}(h:c.check=0):∀i x,c.signals[i]?=some x->q3m c c.act.toNat (qdi c c.act.toNat (qak c c.act.toNat+i)) i x=0:=by
 have h2:ctE c c.act.toNat=0:=by
  unfold Ct.check at h
  split at h
  .cases h
  .split at h
   .cases h
   .exact h
 unfold ctE at h2
 split at h2
 .split at h2
  .rename_i hs
   intro i x hx
   have hil:i<c.signals.length:=by
    rcases Nat.lt_or_ge i c.signals.length with h | h
    .exact h
    .rw[jX h]at hx;cases hx
   have h3:=qmz hs i (by omega) (by omega)
   unfold qqx at h3
   rw[hx]at h3
   exact h3
  .rename_i h4;exact absurd h2 h4
 .rename_i h4;exact absurd h2 h4
theorem qzj{c:Ct}{s:Ste}(hS:Shp c s):(qad s).length=qah c c.act.toNat:=by
 have h1:=hS.e
 have h2:=hS.i
 have h3:=hS.v
 rw[qcp]
 unfold qah
 omega
theorem qmc{c:Ct}{s:Ste}(h:stE c s=0):stE c (qdc c s)=0:=by
 obtain⟨hc,hS⟩:=qlj h
 have hlen:=qic (c:=c) s
 have hS':Shp c (qdc c s):=⟨hS.e,hS.w,hS.i,by rw[hlen];exact hS.v,hS.t⟩
 unfold stE at h ⊢
 rw[if_pos hc]at h ⊢
 unfold q2i at h ⊢
 rw[if_pos hS]at h
 rw[if_pos hS']
 have e1:(qdc c s).ends=s.ends:=rfl
 have e2:(qdc c s).timers=s.timers:=rfl
 rw[e1,e2]
 by_cases hb:s.ends.any (qdz 4)=true\/s.timers.any (qdz 3)=true
 .rw[if_pos hb]at h;cases h
 .rw[if_neg hb]at h ⊢
  by_cases ha:zeu (tmF c s) s.timers.length=true
  .rw[if_pos ha]at h;cases h
  .have hno:∀k,k<s.timers.length->tmF c s k=false:=fun k hk=>by
    cases hq:tmF c s k with
    | false=>rfl
    | true=>exact absurd (qvh hk hq) ha
   rw[if_neg]
   rw[qql fun k hk=>?_]
   .simp
   .have hq:=hno k hk
    unfold tmF at hq ⊢
    rw[e2]
    have hkc:k<c.signals.length:=by have:=hS.t;omega
    rw[jA hkc]at hq ⊢
    simp only[Option.map_some,Option.getD_some]at hq ⊢
    by_cases hk2:c.signals[k].kind=2
    .have hv:(qdc c s).values[k]?=s.values[k]?:=by
      unfold qdc
      simp only
      rw[List.getElem?_drop,qtq]
      have:=qpl (c:=c) (F:=qam s) (v:=qam s+k) (k:=0) (L:=qad s) (fun j _=>by
       by_cases hjk:j=k
       .refine .inr fun x hx=>?_
        rw[hjk,jA hkc]at hx
        cases hx
        omega
       .exact .inl (by omega)) c.signals.length
      rw[Nat.zero_add]at this
      rw[this,qbe,<-List.getElem?_drop,qmf]
     rw[hv]
     exact hq
    .unfold tmB at hq ⊢
     simp[hk2]at hq ⊢
     exact hq
theorem zss{c:Ct}{s:Ste}(hc:c.check=0)(hS:Shp c s)(h1:s.ends.any (qdz 4)=false)(h2:s.timers.any (qdz 3)=false)(h3:∀k,k<s.timers.length->tmF c s k=false):stE c s=0:=by
 unfold stE q2i
 rw[if_pos hc,if_pos hS,h1,h2,qql h3]
 simp
theorem zaj{c:Ct}{s:Ste}(h:stE c s=0):s.ends.any (qdz 4)=false/\s.timers.any (qdz 3)=false/\∀k,k<s.timers.length->tmF c s k=false:=by
 obtain⟨hc,hS⟩:=qlj h
 unfold stE q2i at h
 rw[if_pos hc,if_pos hS]at h
 by_cases hb:s.ends.any (qdz 4)=true\/s.timers.any (qdz 3)=true
 .rw[if_pos hb]at h;cases h
 .rw[if_neg hb]at h
  refine⟨by simpa using fun e=>hb (.inl e),by simpa using fun e=>hb (.inr e),fun k hk=>?_⟩
  cases hq:tmF c s k with
  | false=>rfl
  | true=>rw[if_pos (qvh hk hq)]at h;cases h
end Go.Proofs.YtddeacahiilikaaGreat
