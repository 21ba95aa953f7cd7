/- Signals: errors, by the program, are those by the reference. Controls: numbers of lines, by the program. -/
import Derived.Test.YtlhciedghbmjjaaGreatCp2
set_option linter.all false
namespace Go.Proofs.YtlhciedghbmjjaaGreat
open Go Go.Am Go.Proofs
set_option maxRecDepth 100000
def sigP (c:Ct) (A:Nat) (K:List Txt) (i:Nat) (x:Sg):Int :=
 if nameE K x.name=0 then
  if x.kind < 0∨3≤x.kind then 1
  else if x.on.check (countN c A)=0 then (if x.kind=0 then gateP c (firstN c A) i x else if x.kind=1 then memP c A x else timP x)
  else x.on.check (countN c A)
 else nameE K x.name
theorem check_err {x:Ex} {n:Int} (h:x.check n=0):x.err n=0:=by
 unfold Ex.check at h
 split at h
 ·cases h
 ·split at h
  ·exact h
  ·cases h
theorem ev112 {c:Ct} {A:Nat} (h:Mid c A) (l:List (Txt × Int)) (i:Nat) (hi:i < c.signals.length) (hon:c.signals[i].on.light=true) (hoff:c.signals[i].off.light=true):∃ l',ev pg (.call (.fn 112 [] []) [.bptr 3 0,num i] (hX c l []))=some { v:=num (sigP c A (l.map Prod.fst) i c.signals[i]),st:=⟨[],hX c l' []⟩ }∧((nameE (l.map Prod.fst) c.signals[i].name=0∧∀ q,q ∈ l'.map Prod.fst ↔ (q ∈ l.map Prod.fst∨q=c.signals[i].name))∨(nameE (l.map Prod.fst) c.signals[i].name ≠ 0∧l'=l)):=by
 obtain ⟨l',h128,hl'⟩:=ev111 c l (s3 c.signals[i]) (fun l=>calm_s3 c l c.signals[i]) c.signals[i].name
 refine ⟨l',?_,hl'⟩
 have h133:=ev115 h
 have h157:=ev150 c.signals[i].on (countN c A:Nat) hon
 have h124:=fun hv=>ev107 h l' i hi (light_nodes hon).1 (check_err (n:=(countN c A:Nat)) hv)
 have h125:=ev108 h l' i hi hoff
 have h126:=ev109 c l' i hi
 unfold sigP
 generalize nameE (l.map Prod.fst) c.signals[i].name=ne at *
 generalize c.signals[i].on.check (countN c A:Nat)=oe at *
 generalize gateP c (firstN c A) i c.signals[i]=ge at *
 generalize memP c A c.signals[i]=me at *
 generalize timP c.signals[i]=te at *
 clear hl'
 simp at h157
 rw [ev_call,pg112]
 by_cases e1:ne=0
 ·rw [if_pos e1]
  by_cases e2:c.signals[i].kind < 0
  ·rw [if_pos (.inl e2)]
   simp [ir112,hi,h128,e1,e2]
  by_cases e3:3≤c.signals[i].kind
  ·rw [if_pos (.inr e3)]
   simp [ir112,hi,h128,e1,e2,e3]
  rw [if_neg (by omega)]
  by_cases e4:oe=0
  ·rw [if_pos e4]
   have h124:=h124 e4
   have hk0:0≤c.signals[i].kind:=by omega
   rcases (by omega:c.signals[i].kind=0∨c.signals[i].kind=1∨c.signals[i].kind=2) with k0 | k0 | k0
   ·have hkn:c.signals[i].kind.toNat=0:=by omega
    rw [if_pos k0]
    simp [ev_draw1,exT,chkOk,ir112,hi,h128,h133,h157,h124,e1,e2,e3,e4,hk0,hkn]
   ·have hkn:c.signals[i].kind.toNat=1:=by omega
    rw [if_neg (by omega),if_pos k0]
    simp [ev_draw1,exT,chkOk,ir112,hi,h128,h133,h157,h125,e1,e2,e3,e4,hk0,hkn]
   ·have hkn:c.signals[i].kind.toNat=2:=by omega
    rw [if_neg (by omega),if_neg (by omega)]
    simp [ev_draw1,exT,chkOk,ir112,hi,h128,h133,h157,h126,e1,e2,e3,e4,hk0,hkn]
  ·rw [if_neg e4]
   simp [ev_draw1,exT,chkOk,ir112,hi,h128,h133,h157,e1,e2,e3,e4]
 ·rw [if_neg e1]
  simp [ir112,hi,h128,e1]
theorem anyVL_iff {f:Int→Bool} {l:List Ex} (ih:∀ y ∈ l,y.anyV f=true ↔ ∃ v,y.anyV (· == v)=true∧f v=true):anyVL f l=true ↔ ∃ v,anyVL (· == v) l=true∧f v=true:=by
 induction l with
 | nil=>simp [anyVL]
 | cons y l ihl =>
  have h1:=ih y (by simp)
  have h2:=ihl fun z hz=>ih z (by simp [hz])
  simp only [anyVL,Bool.or_eq_true]
  rw [h1,h2]
  constructor
  ·rintro (⟨v,a,b⟩ | ⟨v,a,b⟩)
   ·exact ⟨v,.inl a,b⟩
   ·exact ⟨v,.inr a,b⟩
  ·rintro ⟨v,a | a,b⟩
   ·exact .inl ⟨v,a,b⟩
   ·exact .inr ⟨v,a,b⟩
theorem anyV_iff (f:Int→Bool):∀ x:Ex,x.anyV f=true ↔ ∃ v,x.anyV (· == v)=true∧f v=true:=by
 refine Ex.ind fun x ih=>?_
 have h:=anyVL_iff ih
 simp only [anyV_eq,Bool.or_eq_true,Bool.and_eq_true,decide_eq_true_eq,beq_iff_eq]
 rw [h]
 constructor
 ·rintro (⟨a,b⟩ | ⟨v,a,b⟩)
  ·exact ⟨x.idx,.inl ⟨a,rfl⟩,b⟩
  ·exact ⟨v,.inr a,b⟩
 ·rintro ⟨v,⟨a,rfl⟩ | a,b⟩
  ·exact .inl ⟨a,b⟩
  ·exact .inr ⟨v,a,b⟩
theorem occL_any {v:Int} {l:List Ex} (ih:∀ y ∈ l,y.occ v=y.anyV (· == v)):occL v l=anyVL (· == v) l:=by
 induction l with
 | nil=>rfl
 | cons y l ihl=>rw [occL,anyVL,ih y (by simp),ihl fun z hz=>ih z (by simp [hz])]
theorem node_arg {o i n:Int} {k:Nat} (h:nodeE o i k n=0) (ho:o=1):k=0:=by
 subst ho
 by_cases hk:k=0
 ·exact hk
 ·have e:nodeE 1 i k n=3:=by simp [nodeE,hk]
  omega
theorem occ_any (v n:Int):∀ x:Ex,x.err n=0→x.occ v=x.anyV (· == v):=by
 refine Ex.ind fun x ih hx=>?_
 obtain ⟨h1,h2⟩:=err_zero hx
 rw [occ_eq,anyV_eq]
 by_cases ho:x.op=1
 ·have ha:x.args=[]:=List.length_eq_zero_iff.1 (node_arg h1 ho)
  simp [ho,ha,anyVL]
 ·simp only [if_neg ho,decide_eq_false ho,Bool.false_and,Bool.false_or]
  exact occL_any fun y hy=>ih y hy (h2 y hy)
theorem lateGo_iff (on:Ex) (F:Nat):∀ (l:List Sg) (k:Nat),lateGo on F k l=true ↔ ∃ j x,l[j]?=some x∧x.kind=0∧on.occ (F + (k + j):Nat)=true
 | [],k=>by simp [lateGo]
 | y :: l,k=>by
  rw [lateGo,Bool.or_eq_true,Bool.and_eq_true,decide_eq_true_eq,lateGo_iff on F l (k + 1)]
  constructor
  ·rintro (⟨a,b⟩ | ⟨j,x,a,b,d⟩)
   ·exact ⟨0,y,rfl,a,b⟩
   ·exact ⟨j + 1,x,a,b,by rw [show F + (k + (j + 1))=F + (k + 1 + j) by omega]; exact d⟩
  ·rintro ⟨j,x,a,b,d⟩
   cases j with
   | zero=>exact .inl (by obtain rfl:y=x:=(by simpa using a); exact ⟨b,d⟩)
   | succ j=>exact .inr ⟨j,x,by simpa using a,b,by rw [show F + (k + 1 + j)=F + (k + (j + 1)) by omega]; exact d⟩
theorem late_eq (c:Ct) (A i:Nat) (on:Ex) (n:Int) (h:on.err n=0):on.anyV (lateF c (firstN c A) i)=lateGo on (firstN c A) i (c.signals.drop i):=by
 rw [Bool.eq_iff_iff,anyV_iff,lateGo_iff]
 constructor
 ·rintro ⟨v,hv,hf⟩
  simp only [lateF,Bool.and_eq_true,decide_eq_true_eq] at hf
  obtain ⟨h1,h2⟩:=hf
  cases hg:c.signals[(v - (firstN c A:Nat)).toNat]? with
  | none=>rw [hg] at h2; cases h2
  | some x =>
   rw [hg] at h2
   refine ⟨(v - (firstN c A:Nat)).toNat - i,x,?_,by simpa using h2,?_⟩
   ·rw [List.getElem?_drop,← hg]; congr 1; omega
   ·rw [occ_any _ n on h,show ((firstN c A + (i + ((v - (firstN c A:Nat)).toNat - i)):Nat):Int)=v by omega]
    exact hv
 ·rintro ⟨j,x,a,b,d⟩
  rw [List.getElem?_drop] at a
  rw [occ_any _ n on h] at d
  refine ⟨_,d,?_⟩
  simp only [lateF,Bool.and_eq_true,decide_eq_true_eq]
  refine ⟨by omega,?_⟩
  rw [show (((firstN c A + (i + j):Nat):Int) - (firstN c A:Nat)).toNat=i + j by omega,a]
  simpa using b
theorem sigP_eq (c:Ct) (A:Nat) (K:List Txt) (i:Nat) (x:Sg):sigP c A K i x=sigE c A K i x:=by
 unfold sigP sigE gateP memP timP
 by_cases h0:nameE K x.name=0
 ·rw [if_pos h0,if_pos h0]
  by_cases h1:x.kind < 0∨3≤x.kind
  ·rw [if_pos h1,if_pos h1]
  ·rw [if_neg h1,if_neg h1]
   by_cases h2:x.on.check (countN c A)=0
   ·rw [if_pos h2,if_pos h2,late_eq c A i x.on _ (check_err h2)]
    generalize lateGo x.on (firstN c A) i (c.signals.drop i)=L
    generalize x.off.check (countN c A)=e
    rcases (by omega:x.kind=0∨x.kind=1∨x.kind=2) with k | k | k
    ·simp [k,or_assoc]
    ·simp [k]
    ·simp [k]
   ·rw [if_neg h2,if_neg h2]
 ·rw [if_neg h0,if_neg h0]
theorem ev98 (n:Nat) (hn:0 < n) (hn2:n≤80):ev pg (.call (.fn 98 [] []) [.nils,num n] [⟨0,.arr 0 []⟩])=some { v:=.sl 1 0 1 0 0,st:=⟨[],[⟨0,.arr 0 []⟩,⟨0,.arr 1 []⟩]⟩ }:=by
 have w1:=wrap_id (n:=(n:Int)) (by omega) (by omega)
 have p1:¬ ((n:Int) < 0):=by omega
 have w0:=wrap_id (n:=0) (by omega) (by omega)
 have p3:n * 8≤140737488355328:=by omega
 rw [ev_call,pg98]
 simp [ir98,w0,w1,p1,hn,p3,moveVs,moveV,move1]
 omega
theorem ev72 (a b:List Int) (ha:a.length≤40) (hb:b.length≤40) (hp:0 < a.length):ev pg (.call (.fn 72 [] []) [.imm [[ints a],[ints b]]] [])=some { v:=.sl 0 0 1 0 (a.length + b.length),st:=⟨[],[⟨0,.arr 1 ((a++b).map nrow)⟩]⟩ }:=by
 have h161:=ev98 (a.length + b.length) (by omega) (by omega)
 have w1:=wrap_id (n:=(a.length:Int)) (by omega) (by omega)
 have w2:=wrap_id (n:=(a.length:Int) + (b.length:Int)) (by omega) (by omega)
 have p1:¬ ((a.length:Int) < 0):=by omega
 have p2:¬ ((a.length:Int) + (b.length:Int) < 0):=by omega
 have i1:=wrap_id (n:=1) (by omega) (by omega)
 have i2:=wrap_id (n:=2) (by omega) (by omega)
 have q1:a.length * 8≤140737488355328:=by omega
 have q2:(a.length + b.length) * 8≤140737488355328:=by omega
 have hf:((a.length:Int) + (b.length:Int))=((a.length + b.length:Nat):Int):=by omega
 simp at h161
 rw [ev_call,pg72]
 simp [ir72,ev_loop]
 rw [ev_going]
 simp [L72_0,w1,p1,i1]
 rw [ev_going]
 simp [w2,p2,i2]
 rw [ev_going]
 simp [h161]
 rw [ev_going]
 simp [L72_1,q1,i1]
 rw [ev_going]
 simp [i2,q2]
 rw [ev_going]
 simp [moveVs,moveV,move1]
def I87 (v:V) (h:H) (l:List Int) (p:Int→Bool) (k:Nat) (st:St):Prop:=st.h=h∧st.s.length=19∧getS st.s 0=ints l∧getS st.s 1=v∧getS st.s 7=num l.length∧getS st.s 8=num k∧l.any p=(l.drop k).any p
def Q87 (h:H) (l:List Int) (p:Int→Bool) (r:R):Prop:=r.st.s.length=19∧((r.x=.exit 0∧r.st.h=h∧l.any p=false)∨(r.x=.ret∧r.st.h=h∧(∃ k:Nat,getS r.st.s 4=num k)∧l.any p=true))
theorem loop87 {f:Nat} {caps:List V} {h:H} {l:List Int} {p:Int→Bool} (hl80:l.length≤4096) (hlow:lowL 0 caps=false) (hcap:lowL h.length caps=true) (hc:∀ n:Int,ev pg (.call (.fn f [] caps) [num n] h)=some { v:=.bool (p n),st:=⟨[],h⟩ }) (hcl:calm h) (n:Nat) (hn:n=h.length) (st:St) (h0:I87 (.fn f [] caps) h l p 0 st):∃ r,ev pg (.code (.going n L154_0) st)=some r∧Q87 h l p r:=by
 have hcut:=calm_cutL hcl
 rw [← hn] at hcut hcap
 refine loop_from (I87 (.fn f [] caps) h l p) l.length (Q87 h l p) h0 ?_ ?_
 ·rintro k ⟨s,hh⟩ hk ⟨rfl,hl,e0,e1,e7,e8,he⟩
  simp only at hl e0 e1 e7 e8
  have hk':(k:Int) < l.length:=by omega
  have wk:=wrap_id (n:=(k:Int) + 1) (by omega) (by omega)
  have hcn:=hc l[k]
  rw [any_at hk] at he
  generalize p l[k]=b at *
  rw [getS_expand hl]
  cases b with
  | true =>
   simp [-cutL,L154_0,Q87,List.range,List.range.loop,e0,e1,e7,e8,hk,hk',hlow,hcn]
   exact ⟨⟨k,rfl⟩,by simpa using he⟩
  | false =>
   simp [-cutL,L154_0,I87,List.range,List.range.loop,e0,e1,e7,e8,hk,hk',hlow,hcn,hcut,hcap,wk]
   simpa using he
 ·rintro ⟨s,hh⟩ ⟨rfl,hl,e0,e1,e7,e8,he⟩
  simp only [List.drop_length] at hl e0 e1 e7 e8 he
  have he':l.any p=false:=he
  rw [getS_expand hl]
  simp [L154_0,Q87,List.range,List.range.loop,e0,e1,e7,e8]
  simpa using he'
theorem ev113 {f:Nat} {caps:List V} {h:H} {l:List Int} {p:Int→Bool} (hl80:l.length≤4096) (hlow:lowL 0 caps=false) (hcap:lowL h.length caps=true) (hc:∀ n:Int,ev pg (.call (.fn f [] caps) [num n] h)=some { v:=.bool (p n),st:=⟨[],h⟩ }) (hcl:calm h):ev pg (.call (.fn 113 [] []) [ints l,.fn f [] caps] h)=some { v:=.bool (l.any p),st:=⟨[],h⟩ }:=by
 have hloop:=loop87 hl80 hlow hcap hc hcl
 have hck:=calm_cutK hcl
 have h87:∃ r:Int,ev pg (.call (.fn 154 [] []) [ints l,.fn f [] caps] h)=some { v:=num r,st:=⟨[],h⟩ }∧decide (0≤r)=l.any p:=by
  unfold Q87 at hloop
  have hI:∀ st:St,I87 (.fn f [] caps) h l p 0 st ↔ (st.h=h∧st.s.length=19∧getS st.s 0=ints l∧getS st.s 1=.fn f [] caps∧getS st.s 7=num l.length∧getS st.s 8=num 0):=fun st=>by
   unfold I87
   exact ⟨fun h=>⟨h.1,h.2.1,h.2.2.1,h.2.2.2.1,h.2.2.2.2.1,h.2.2.2.2.2.1⟩,fun h=>⟨h.1,h.2.1,h.2.2.1,h.2.2.2.1,h.2.2.2.2.1,h.2.2.2.2.2,rfl⟩⟩
  generalize l.any p=B at *
  rw [ev_call,pg154]
  simp [-cutK,ir154,ev_loop]
  generalize hr:ev pg (.code (.going _ L154_0) _)=o
  obtain ⟨r,rfl,hl,hQ⟩:∃ r,o=some r∧_:=by
   rw [← hr]
   exact hloop _ rfl _ ((hI _).2 ⟨by simp,by simp,by simp,by simp,by simp,by simp⟩)
  rcases hQ with ⟨hx,hh,rfl⟩ | ⟨hx,hh,⟨k,h4⟩,rfl⟩
  ·simp [-cutK,hx,hh,hl,hck]
  ·simp [-cutK,hx,hh,h4,hck]
 obtain ⟨r,h87,hr⟩:=h87
 rw [ev_call,pg113,← hr]
 simp [-cutK,ir113,h87,hck]
theorem ev114 {c:Ct} {A:Nat} (hM:Mid c A) {h:H} {i:Nat} (hi:h[i]?=some ⟨0,.box c.cells⟩) (hcl:calm h) (n:Int):ev pg (.call (.fn 114 [] [.bptr i 0]) [num n] h)=some { v:=.bool (badL (countN c A:Nat) n),st:=⟨[],h⟩ }:=by
 have hck:=calm_cutK hcl
 have h133:=ev115 hM
 rw [ev_call,pg114]
 unfold badL
 generalize countN c A=N at *
 by_cases h1:n < 0
 ·simp [-cutK,ir114,h1,hck]
 ·simp [-cutK,ir114,h1,hi,h133,hck]
end Go.Proofs.YtlhciedghbmjjaaGreat
