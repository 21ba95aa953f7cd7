/- Machines in time: their checks, by the program and by the reference. Presses of machines: their checks, by the program and by the reference. -/
import Derived.Test.YtlhciedghbmjjaaGreatLo1
import Derived.Test.YtlhciedghbmjjaaGreatCt9
set_option linter.all false
namespace Go.Proofs.YtlhciedghbmjjaaGreat
open Go Go.Am Go.Proofs
set_option maxRecDepth 100000
abbrev zpt(x:Int×Int):List V:=[num x.1,num x.2]
abbrev tms(l:List (Int×Int)):V:=.imm (l.map zpt)
structure Mch where
 c:Ct
 ts:List (Int×Int)
abbrev Mch.cells(m:Mch):List V:=[num m.c.act,.imm (m.c.inputs.map q3t),.imm (m.c.signals.map Sg.row),qbx m.c.plus,qbx m.c.minus,tms m.ts]
abbrev Mch.v(m:Mch):V:=.agg m.cells
structure Prs where
 t:Int
 i:Int
 b:Bool
abbrev Prs.row(x:Prs):List V:=[num x.t,num x.i,.bool x.b]
abbrev prs(l:List Prs):V:=.imm (l.map Prs.row)
def qvz(x:Int×Int):Bool:=!(decide (1<=x.1)&&decide (x.1<=1000000)&&(decide (1<=x.2)&&decide (x.2<=1000000)))
def quc(m:Mch):Int:=if(m.ts.length:Int)≠m.c.act then 8 else if m.ts.any qvz=true then 2 else 0
def qft(m:Mch):Int:=if m.c.check=0 then quc m else m.c.check
theorem qti{x:Int×Int}(h:qvz x=false):1<=x.1/\x.1<=1000000/\1<=x.2/\x.2<=1000000:=by
 simp only[qvz,Bool.not_eq_false',jE,jW]at h
 omega
theorem q6m{x:Int×Int}(h:qvz x=true):x.1<1\/1000000<x.1\/x.2<1\/1000000<x.2:=by
 apply Classical.byContradiction
 intro hn
 have:qvz x=false:=by
  simp only[qvz,Bool.not_eq_false',jE,jW]
  omega
 rw[this]at h
 cases h
theorem qvo{α:Type}{l:List α}{p:α->Bool}{d:Bool}{X:Nat->R->Prop}{Y:R->Prop}{r:R}(h:qkt l.length (fun k=>((l[k]?).map p).getD d) X Y r):(l.any p=true/\∃k,X k r)\/(l.any p=false/\Y r):=by
 rcases h with⟨k,hk,hp,-,hX⟩ | ⟨hp,hY⟩
 .refine .inl ⟨List.any_eq_true.2 ⟨l[k],jH hk,by simpa[hk]using hp⟩,k,hX⟩
 .refine .inr ⟨?_,hY⟩
  rw[List.any_eq_false]
  intro x hx
  obtain⟨k,hk,rfl⟩:=List.getElem_of_mem hx
  have:=hp k hk
  simpa[hk]using this
def zgg(m:Mch)(k:Nat):Tm:=[none,some (.bptr 0 0),some (num 0)]++List.replicate 17 none++[some (tms m.ts),some (num m.ts.length),some (num k)]++List.replicate 18 none
def zbw:Tm:=[none,none,some (num 2)]++List.replicate 38 none
abbrev qsa(m:Mch):H:=[⟨0,.box m.cells⟩]
abbrev zzz(m:Mch)(x:Int×Int):H:=[⟨0,.box m.cells⟩,⟨0,.box (zpt x)⟩]
theorem z8r(m:Mch)(hl:m.ts.length<=100000){st:St}(h0:At (zgg m 0) (qsa m) st):∃r,ev pg (.code (.going 1 L15_0) st)=some r/\qkt m.ts.length (fun k=>((m.ts[k]?).map qvz).getD false) (fun _ r=>∃x,qag .ret zbw (zzz m x) r) (qag (.exit 0) (zgg m m.ts.length) (qsa m)) r:=by
 refine qcw _ _ (zgg m) (qsa m) _ _ ?_ ?_ ?_ h0
 .intro k f hf hk hp
  have hk':(k:Int)<m.ts.length:=by omega
  have wk:=qab (n:=(k:Int)+1) (by omega) (by omega)
  have hp':qvz m.ts[k]=false:=by simpa[hk]using hp
  obtain⟨p1,p2,p3,p4⟩:=qti hp'
  have q1:¬(if m.ts[k].2<m.ts[k].1 then m.ts[k].2 else m.ts[k].1)<1:=by split<;>omega
  have q2:¬1000000<(if m.ts[k].1<m.ts[k].2 then m.ts[k].2 else m.ts[k].1):=by split<;>omega
  simp[zgg,L15_0,hk,hk',wk,q1,q2,hf.ne]
 .intro k f hf hk hp
  have hk':(k:Int)<m.ts.length:=by omega
  have hp':qvz m.ts[k]=true:=by simpa[hk]using hp
  have p:=q6m hp'
  refine(?_:∃r,ev pg (.code L15_0 ⟨fill f 0 (zgg m k),qsa m⟩)=some r/\r.x ≠ .normal/\qag .ret zbw (zzz m m.ts[k]) r).imp fun r h=>⟨h.1,h.2.1,_,h.2.2⟩
  by_cases q1:(if m.ts[k].2<m.ts[k].1 then m.ts[k].2 else m.ts[k].1)<1
  .simp[zgg,zbw,L15_0,hk,hk',q1,hf.ne]
  .have q2:1000000<(if m.ts[k].1<m.ts[k].2 then m.ts[k].2 else m.ts[k].1):=by
    split at q1<;>split<;>omega
   simp[zgg,zbw,L15_0,hk,hk',q1,q2,hf.ne]
 .intro f hf
  simp[zgg,L15_0,hf.ne]
theorem ev15(m:Mch)(hc:m.c.small=true)(ht:m.ts.length<=100000):ev pg (.call (.fn 15 [] []) [m.v] [])=some { v:=num (qft m),st:=⟨[],[]⟩ }:=by
 have e44:=ev44 m.c hc
 have hl:=@z8r m ht
 rw[qac,pg15]
 unfold qft quc
 by_cases h1:m.c.check=0
 .rw[if_pos h1]
  rw[h1]at e44
  by_cases h2:(m.ts.length:Int)=m.c.act
  .rw[if_neg (by omega)]
   generalize hB:m.ts.any qvz=B
   simp[ir15,e44,h2,qaf]
   generalize hr:ev pg (.code (.going _ L15_0) _)=o
   obtain⟨r,rfl,hQ⟩:∃r,o=some r/\_:=by rw[<-hr];exact hl (by simp[zgg,h2])
   clear hr
   have hfa:=qvo hQ
   rw[hB]at hfa
   clear hQ
   rcases hfa with⟨rfl,k,x,f,hf,rfl⟩ | ⟨rfl,f,hf,rfl⟩
   .simp[zbw]
   .simp[zgg]
  .rw[if_pos h2]
   have hne:((m.ts.length:Int) != m.c.act)=true:=by rw[bne_iff_ne];exact h2
   simp[ir15,e44,h2,hne]
 .rw[if_neg h1]
  have hb:(m.c.check==0)=false:=by simpa using h1
  generalize m.c.check=e at *
  simp[ir15,e44,h1,hb]
theorem ev85(n:Int):ev pg (.call (.fn 85 [] []) [num n] [])=some { v:=.bool (decide (1<=n)&&decide (n<=1000000)),st:=⟨[],[]⟩ }:=by
 rw[qac,pg85]
 by_cases h1:1<=n
 .simp[ir85,h1]
 .simp[ir85,h1]
def zhm(m:Mch)(k:Nat):Tm:=[none,some (.bptr 0 0),some (num 0),some (num k)]++List.replicate 32 none
def zhc:Tm:=[none,none,some (num 2)]++List.replicate 33 none
theorem jcu(m:Mch)(hl:m.ts.length<=100000){st:St}(h0:At (zhm m 0) (qsa m) st):∃r,ev pg (.code (.going 1 L46_0) st)=some r/\qkt m.ts.length (fun k=>((m.ts[k]?).map qvz).getD false) (fun _=>qag .ret zhc (qsa m)) (qag (.exit 0) (zhm m m.ts.length) (qsa m)) r:=by
 refine qcw _ _ (zhm m) (qsa m) _ _ ?_ ?_ ?_ h0
 .intro k f hf hk hp
  have hk':(k:Int)<m.ts.length:=by omega
  have wk:=qab (n:=(k:Int)+1) (by omega) (by omega)
  have hp':qvz m.ts[k]=false:=by simpa[hk]using hp
  obtain⟨p1,p2,p3,p4⟩:=qti hp'
  simp[zhm,L46_0,hk,hk',wk,ev85,p1,p2,p3,p4,hf.ne]
 .intro k f hf hk hp
  have hk':(k:Int)<m.ts.length:=by omega
  have hp':qvz m.ts[k]=true:=by simpa[hk]using hp
  have p:=q6m hp'
  by_cases q1:(decide (1<=m.ts[k].1)&&decide (m.ts[k].1<=1000000))=true
  .have q2:(decide (1<=m.ts[k].2)&&decide (m.ts[k].2<=1000000))=false:=by
    simp only[jE,jW]at q1
    rw[Bool.and_eq_false_iff]
    simp only[decide_eq_false_iff_not]
    omega
   simp[zhm,zhc,L46_0,hk,hk',ev85,q1,q2,hf.ne,-Bool.and_eq_true,-Bool.decide_and]
  .have q1:=eq_false_of_ne_true q1
   simp[zhm,zhc,L46_0,hk,hk',ev85,q1,hf.ne,-Bool.and_eq_true,-Bool.decide_and]
 .intro f hf
  simp[zhm,L46_0,hf.ne]
theorem ev46(m:Mch)(ht:m.ts.length<=100000):ev pg (.call (.fn 46 [] []) [m.v] [])=some { v:=num (quc m),st:=⟨[],[]⟩ }:=by
 have hl:=@jcu m ht
 rw[qac,pg46]
 unfold quc
 by_cases h2:(m.ts.length:Int)=m.c.act
 .rw[if_neg (by omega)]
  generalize hB:m.ts.any qvz=B
  simp[ir46,h2,qaf]
  generalize hr:ev pg (.code (.going _ L46_0) _)=o
  obtain⟨r,rfl,hQ⟩:∃r,o=some r/\_:=by rw[<-hr];exact hl (by simp[zhm,h2])
  clear hr
  have hfa:=qvo hQ
  rw[hB]at hfa
  clear hQ
  rcases hfa with⟨rfl,k,f,hf,rfl⟩ | ⟨rfl,f,hf,rfl⟩
  .simp[zhc]
  .simp[zhm]
 .rw[if_pos h2]
  have hne:((m.ts.length:Int) != m.c.act)=true:=by rw[bne_iff_ne];exact h2
  simp[ir46,h2,hne]
theorem ev16(m:Mch)(hc:m.c.small=true)(ht:m.ts.length<=100000):ev pg (.call (.fn 16 [] []) [m.v] [])=some { v:=num (qft m),st:=⟨[],[]⟩ }:=by
 have e45:=ev45 m.c hc
 have e46:=ev46 m ht
 rw[qac,pg16]
 unfold qft
 by_cases h1:m.c.check=0
 .rw[if_pos h1]
  rw[h1]at e45
  simp[ir16,e45,e46]
 .rw[if_neg h1]
  have hb:(m.c.check==0)=false:=by simpa using h1
  generalize m.c.check=e at *
  simp[ir16,e45,h1,hb]
def qsi(l:List Prs):Nat->Option Int
 | 0=>none
 | k+1=>(l[k]?).map Prs.t
def q0m(n:Nat)(l:List Prs)(k:Nat):Int :=
 match l[k]? with
 | none=>0
 | some x=>if x.t<0\/1000000<x.t then 2 else if x.i<0\/(n:Int)<=x.i then 6 else if x.t<(qsi l k).getD x.t then 9 else 0
def qzh(n:Nat)(l:List Prs):Int:=(((List.range l.length).find? fun k=>q0m n l k != 0).map (q0m n l)).getD 0
def qer(m:Mch)(l:List Prs)(u:Int):Int :=
 if qft m≠0 then qft m else if 256<l.length then 5 else if qzh m.c.inputs.length l≠0 then qzh m.c.inputs.length l else if u<0\/1000000<u then 2 else 0
theorem qts{n:Nat}{l:List Prs}{k:Nat}(hk:k<l.length):q0m n l k=if l[k].t<0\/1000000<l[k].t then 2 else if l[k].i<0\/(n:Int)<=l[k].i then 6 else if l[k].t<(qsi l k).getD l[k].t then 9 else 0:=by
 unfold q0m
 rw[jA hk]
theorem zab{N:Nat}{p:Nat->Bool}{k:Nat}(hk:k<N)(hp:p k=true)(hj:∀j,j<k->p j=false):(List.range N).find? p=some k:=by
 rw[List.find?_eq_some_iff_getElem]
 refine⟨hp,k,by simpa using hk,by simp,fun j hj'=>?_⟩
 simp[hj j hj']
theorem zfq{N:Nat}{p:Nat->Bool}(hj:∀j,j<N->p j=false):(List.range N).find? p=none:=by
 rw[List.find?_eq_none]
 intro j hj'
 simp[hj j (List.mem_range.1 hj')]
theorem qwp{n:Nat}{l:List Prs}{X:Nat->R->Prop}{Y:R->Prop}{r:R}(h:qkt l.length (fun k=>q0m n l k != 0) X Y r):(∃k,qzh n l=q0m n l k/\qzh n l≠0/\X k r)\/(qzh n l=0/\Y r):=by
 unfold qzh
 rcases h with⟨k,hk,hp,hj,hX⟩ | ⟨hp,hY⟩
 .rw[zab hk hp hj]
  refine .inl ⟨k,rfl,?_,hX⟩
  simpa using hp
 .rw[zfq hp]
  exact .inr ⟨rfl,hY⟩
def q3q(l:List Prs)(u:Int)(k:Nat):Tm:=[none,some (prs l),some (num u),some (.bptr 0 0),none,none,some (num 0)]++List.replicate 11 none++[some (prs l),some (num l.length),some (num k)]++List.replicate 47 none
def q0u(e:Int):Tm:=[none,none,none,none,none,none,some (num e)]++List.replicate 61 none
abbrev z1c(m:Mch)(x:Prs):H:=[⟨0,.box m.cells⟩,⟨0,.box x.row⟩]
theorem jdc(m:Mch)(l:List Prs)(u:Int)(hl:l.length<=256){st:St}(h0:At (q3q l u 0) (qsa m) st):∃r,ev pg (.code (.going 1 L39_0) st)=some r/\qkt l.length (fun k=>q0m m.c.inputs.length l k != 0) (fun k r=>∃x,qag .ret (q0u (q0m m.c.inputs.length l k)) (z1c m x) r) (qag (.exit 0) (q3q l u l.length) (qsa m)) r:=by
 refine qcw _ _ (q3q l u) (qsa m) _ _ ?_ ?_ ?_ h0
 .intro k f hf hk hp
  have hk':(k:Int)<l.length:=by omega
  have wk:=qab (n:=(k:Int)+1) (by omega) (by omega)
  have hp':q0m m.c.inputs.length l k=0:=by simpa using hp
  rw[qts hk]at hp'
  by_cases p1:l[k].t<0\/1000000<l[k].t
  .rw[if_pos p1]at hp';cases hp'
  rw[if_neg p1]at hp'
  by_cases p2:l[k].i<0\/(m.c.inputs.length:Int)<=l[k].i
  .rw[if_pos p2]at hp';cases hp'
  rw[if_neg p2]at hp'
  by_cases p3:l[k].t<(qsi l k).getD l[k].t
  .rw[if_pos p3]at hp';cases hp'
  have a1:¬l[k].t<0:=fun h=>p1 (.inl h)
  have a2:¬1000000<l[k].t:=fun h=>p1 (.inr h)
  have a3:¬l[k].i<0:=fun h=>p2 (.inl h)
  have a4:¬(m.c.inputs.length:Int)<=l[k].i:=fun h=>p2 (.inr h)
  cases k with
  | zero =>
   have w1:IntKind.i64.wrap 1=1:=by decide
   simp[w1,qaa,exT,qae,q3q,L39_0,hk,hk',wk,a1,a2,a3,a4,hf.ne]
  | succ j =>
   have hj:j<l.length:=by omega
   have a5:¬l[j+1].t<l[j].t:=by simpa[qsi,hj]using p3
   have wj:=qab (n:=(j:Int)+1+1) (by omega) (by omega)
   have wj0:=qab (n:=(j:Int)) (by omega) (by omega)
   have wj1:=qab (n:=(j:Int)+1) (by omega) (by omega)
   have hj':(j:Int)+1<l.length:=by omega
   have hj0:(0:Int)<(j:Int)+1:=by omega
   have hj00:(0:Int)<=(j:Int)+1:=by omega
   simp[qaa,exT,qae,q3q,L39_0,hk,hj,hj',hj0,hj00,wj,wj0,wj1,a1,a2,a3,a4,a5,hf.ne]
 .intro k f hf hk hp
  have hk':(k:Int)<l.length:=by omega
  have hp':q0m m.c.inputs.length l k≠0:=by simpa using hp
  clear hp
  rw[qts hk]at hp' ⊢
  refine(?_:∃r,ev pg (.code L39_0 ⟨fill f 0 (q3q l u k),qsa m⟩)=some r/\r.x ≠ .normal/\qag .ret (q0u _) (z1c m l[k]) r).imp fun r h=>⟨h.1,h.2.1,l[k],h.2.2⟩
  by_cases p1:l[k].t<0\/1000000<l[k].t
  .rw[if_pos p1]
   by_cases a1:l[k].t<0
   .simp[q3q,q0u,L39_0,hk,hk',a1,hf.ne]
   .have a2:1000000<l[k].t:=by omega
    simp[q3q,q0u,L39_0,hk,hk',a1,a2,hf.ne]
  rw[if_neg p1]at hp' ⊢
  have a1:¬l[k].t<0:=fun h=>p1 (.inl h)
  have a2:¬1000000<l[k].t:=fun h=>p1 (.inr h)
  by_cases p2:l[k].i<0\/(m.c.inputs.length:Int)<=l[k].i
  .rw[if_pos p2]
   by_cases a3:l[k].i<0
   .simp[q3q,q0u,L39_0,hk,hk',a1,a2,a3,hf.ne]
   .have a4:(m.c.inputs.length:Int)<=l[k].i:=by omega
    simp[q3q,q0u,L39_0,hk,hk',a1,a2,a3,a4,hf.ne]
  rw[if_neg p2]at hp' ⊢
  have a3:¬l[k].i<0:=fun h=>p2 (.inl h)
  have a4:¬(m.c.inputs.length:Int)<=l[k].i:=fun h=>p2 (.inr h)
  by_cases p3:l[k].t<(qsi l k).getD l[k].t
  .rw[if_pos p3]
   cases k with
   | zero=>simp[qsi]at p3
   | succ j =>
    have hj:j<l.length:=by omega
    have a5:l[j+1].t<l[j].t:=by simpa[qsi,hj]using p3
    have wj0:=qab (n:=(j:Int)) (by omega) (by omega)
    have hj':(j:Int)+1<l.length:=by omega
    have hj0:(0:Int)<(j:Int)+1:=by omega
    have hj00:(0:Int)<=(j:Int)+1:=by omega
    simp[qaa,exT,qae,q3q,q0u,L39_0,hk,hj,hj',hj0,hj00,wj0,a1,a2,a3,a4,a5,hf.ne]
  .rw[if_neg p3]at hp'
   exact absurd rfl hp'
 .intro f hf
  simp[q3q,L39_0,hf.ne]
theorem ev39(m:Mch)(hc:m.c.small=true)(ht:m.ts.length<=100000)(l:List Prs)(hl:l.length<=100000)(u:Int):ev pg (.call (.fn 39 [] []) [m.v,prs l,num u] [])=some { v:=num (qer m l u),st:=⟨[],[]⟩ }:=by
 have e15:=ev15 m hc ht
 rw[qac,pg39]
 unfold qer
 by_cases h1:qft m=0
 .rw[if_neg (by simp[h1])]
  rw[h1]at e15
  by_cases h2:256<l.length
  .rw[if_pos h2]
   have h2':(256:Int)<l.length:=by omega
   simp[ir39,e15,h2']
  .rw[if_neg h2]
   have h2':¬(256:Int)<l.length:=by omega
   have hlp:=@jdc m l u (by omega)
   simp[ir39,e15,h2',qaf]
   generalize hr:ev pg (.code (.going _ L39_0) _)=o
   obtain⟨r,rfl,hQ⟩:∃r,o=some r/\_:=by rw[<-hr];exact hlp (by simp[q3q])
   clear hr
   have hfa:=qwp hQ
   clear hQ
   rcases hfa with⟨k,e1,e2,x,f,hf,rfl⟩ | ⟨e1,f,hf,rfl⟩
   .rw[e1]at e2 ⊢
    generalize q0m m.c.inputs.length l k=e at *
    simp[q0u,e2]
   .rw[e1]
    by_cases h3:u<0
    .simp[q3q,h3]
    .by_cases h4:1000000<u
     .simp[q3q,h3,h4]
     .simp[q3q,h3,h4]
 .rw[if_pos h1]
  have hb:(qft m==0)=false:=by simpa using h1
  generalize qft m=e at *
  simp[ir39,e15,h1,hb]
def q5o(l:List Prs)(u:Int)(k:Nat):Tm:=[none,some (prs l),some (num u),some (.bptr 0 0),none,none,some (num 0),none,some (num k)]++List.replicate 68 none
def q5k(e:Int):Tm:=[none,none,none,none,none,none,some (num e)]++List.replicate 70 none
theorem jci(m:Mch)(l:List Prs)(u:Int)(hl:l.length<=256){st:St}(h0:At (q5o l u 0) (qsa m) st):∃r,ev pg (.code (.going 1 L36_0) st)=some r/\qkt l.length (fun k=>q0m m.c.inputs.length l k != 0) (fun k=>qag .ret (q5k (q0m m.c.inputs.length l k)) (qsa m)) (qag (.exit 0) (q5o l u l.length) (qsa m)) r:=by
 refine qcw _ _ (q5o l u) (qsa m) _ _ ?_ ?_ ?_ h0
 .intro k f hf hk hp
  have hk':(k:Int)<l.length:=by omega
  have wk:=qab (n:=(k:Int)+1) (by omega) (by omega)
  have hp':q0m m.c.inputs.length l k=0:=by simpa using hp
  rw[qts hk]at hp'
  by_cases p1:l[k].t<0\/1000000<l[k].t
  .rw[if_pos p1]at hp';cases hp'
  rw[if_neg p1]at hp'
  by_cases p2:l[k].i<0\/(m.c.inputs.length:Int)<=l[k].i
  .rw[if_pos p2]at hp';cases hp'
  rw[if_neg p2]at hp'
  by_cases p3:l[k].t<(qsi l k).getD l[k].t
  .rw[if_pos p3]at hp';cases hp'
  have a1:¬l[k].t<0:=fun h=>p1 (.inl h)
  have a2:¬1000000<l[k].t:=fun h=>p1 (.inr h)
  have a3:¬l[k].i<0:=fun h=>p2 (.inl h)
  have a4:¬(m.c.inputs.length:Int)<=l[k].i:=fun h=>p2 (.inr h)
  cases k with
  | zero =>
   have w1:IntKind.i64.wrap 1=1:=by decide
   simp[w1,qaa,exT,qae,q5o,L36_0,hk,hk',wk,a1,a2,a3,a4,hf.ne]
  | succ j =>
   have hj:j<l.length:=by omega
   have a5:¬l[j+1].t<l[j].t:=by simpa[qsi,hj]using p3
   have wj:=qab (n:=(j:Int)+1+1) (by omega) (by omega)
   have wj0:=qab (n:=(j:Int)) (by omega) (by omega)
   have wj1:=qab (n:=(j:Int)+1) (by omega) (by omega)
   have hj':(j:Int)+1<l.length:=by omega
   have hj0:(0:Int)<(j:Int)+1:=by omega
   have hj00:(0:Int)<=(j:Int)+1:=by omega
   simp[qaa,exT,qae,q5o,L36_0,hk,hj,hj',hj0,hj00,wj,wj0,wj1,a1,a2,a3,a4,a5,hf.ne]
 .intro k f hf hk hp
  have hk':(k:Int)<l.length:=by omega
  have hp':q0m m.c.inputs.length l k≠0:=by simpa using hp
  clear hp
  rw[qts hk]at hp' ⊢
  by_cases p1:l[k].t<0\/1000000<l[k].t
  .rw[if_pos p1]
   by_cases a1:l[k].t<0
   .simp[q5o,q5k,L36_0,hk,hk',a1,hf.ne]
   .have a2:1000000<l[k].t:=by omega
    simp[q5o,q5k,L36_0,hk,hk',a1,a2,hf.ne]
  rw[if_neg p1]at hp' ⊢
  have a1:¬l[k].t<0:=fun h=>p1 (.inl h)
  have a2:¬1000000<l[k].t:=fun h=>p1 (.inr h)
  by_cases p2:l[k].i<0\/(m.c.inputs.length:Int)<=l[k].i
  .rw[if_pos p2]
   by_cases a3:l[k].i<0
   .simp[qaa,exT,qae,q5o,q5k,L36_0,hk,hk',a1,a2,a3,hf.ne]
   .have a4:(m.c.inputs.length:Int)<=l[k].i:=by omega
    simp[qaa,exT,qae,q5o,q5k,L36_0,hk,hk',a1,a2,a3,a4,hf.ne]
  rw[if_neg p2]at hp' ⊢
  have a3:¬l[k].i<0:=fun h=>p2 (.inl h)
  have a4:¬(m.c.inputs.length:Int)<=l[k].i:=fun h=>p2 (.inr h)
  by_cases p3:l[k].t<(qsi l k).getD l[k].t
  .rw[if_pos p3]
   cases k with
   | zero=>simp[qsi]at p3
   | succ j =>
    have hj:j<l.length:=by omega
    have a5:l[j+1].t<l[j].t:=by simpa[qsi,hj]using p3
    have wj0:=qab (n:=(j:Int)) (by omega) (by omega)
    have hj':(j:Int)+1<l.length:=by omega
    have hj0:(0:Int)<(j:Int)+1:=by omega
    have hj00:(0:Int)<=(j:Int)+1:=by omega
    simp[qaa,exT,qae,q5o,q5k,L36_0,hk,hj,hj',hj0,hj00,wj0,a1,a2,a3,a4,a5,hf.ne]
  .rw[if_neg p3]at hp'
   exact absurd rfl hp'
 .intro f hf
  simp[q5o,L36_0,hf.ne]
theorem ev36(m:Mch)(hc:m.c.small=true)(ht:m.ts.length<=100000)(l:List Prs)(hl:l.length<=100000)(u:Int):ev pg (.call (.fn 36 [] []) [m.v,prs l,num u] [])=some { v:=num (qer m l u),st:=⟨[],[]⟩ }:=by
 have e16:=ev16 m hc ht
 rw[qac,pg36]
 unfold qer
 by_cases h1:qft m=0
 .rw[if_neg (by simp[h1])]
  rw[h1]at e16
  by_cases h2:256<l.length
  .rw[if_pos h2]
   have h2':(256:Int)<l.length:=by omega
   simp[ir36,e16,h2']
  .rw[if_neg h2]
   have h2':¬(256:Int)<l.length:=by omega
   have hlp:=@jci m l u (by omega)
   simp[ir36,e16,h2',qaf]
   generalize hr:ev pg (.code (.going _ L36_0) _)=o
   obtain⟨r,rfl,hQ⟩:∃r,o=some r/\_:=by rw[<-hr];exact hlp (by simp[q5o])
   clear hr
   have hfa:=qwp hQ
   clear hQ
   rcases hfa with⟨k,e1,e2,f,hf,rfl⟩ | ⟨e1,f,hf,rfl⟩
   .rw[e1]at e2 ⊢
    generalize q0m m.c.inputs.length l k=e at *
    simp[q5k,e2]
   .rw[e1]
    by_cases h3:u<0
    .simp[q5o,h3]
    .by_cases h4:1000000<u
     .simp[q5o,h3,h4]
     .simp[q5o,h3,h4]
 .rw[if_pos h1]
  have hb:(qft m==0)=false:=by simpa using h1
  generalize qft m=e at *
  simp[ir36,e16,h1,hb]
end Go.Proofs.YtlhciedghbmjjaaGreat
