/- Presses of machines: their checks, by the program and by the reference. Short courses, by the reference; machines and presses turned to the reference's. Controls that are copied. -/
import Derived.Test.YtddeacahiilikaaGreatMSi1
import Derived.Test.YtddeacahiilikaaGreatMCt2
import Derived.Test.YtddeacahiilikaaGreatMCl1
import Derived.Test.YtddeacahiilikaaGreatMEx3
import Derived.Test.YtddeacahiilikaaGreatMCt9
set_option linter.all false
namespace Go.Proofs.YtddeacahiilikaaGreat
open Go Go.Am Go.Proofs
set_option maxRecDepth 100000
def q2t(l:List Prs):Nat->Option Int
 | 0=>none
 | k+1=>(l[k]?).map Prs.t
def q7s(n:Nat)(l:List Prs)(k:Nat):Int :=
 match l[k]? with
 | none=>0
 | some x=>if x.t<0\/1000000<x.t then 2 else if x.i<0\/(n:Int)<=x.i then 6 else if x.t<(q2t l k).getD x.t then 9 else 0
def qxh(n:Nat)(l:List Prs):Int:=(((List.range l.length).find? fun k=>q7s n l k != 0).map (q7s n l)).getD 0
def qkc(m:Mch)(l:List Prs)(u:Int):Int :=
 if qeh m≠0 then qeh m else if 256<l.length then 5 else if qxh m.c.inputs.length l≠0 then qxh m.c.inputs.length l else if u<0\/1000000<u then 2 else 0
theorem q2q{n:Nat}{l:List Prs}{k:Nat}(hk:k<l.length):q7s n l k=if l[k].t<0\/1000000<l[k].t then 2 else if l[k].i<0\/(n:Int)<=l[k].i then 6 else if l[k].t<(q2t l k).getD l[k].t then 9 else 0:=by
 unfold q7s
 rw[jA hk]
theorem q6s{N:Nat}{p:Nat->Bool}{k:Nat}(hk:k<N)(hp:p k=true)(hj:∀j,j<k->p j=false):(List.range N).find? p=some k:=by
 rw[List.find?_eq_some_iff_getElem]
 refine⟨hp,k,by simpa using hk,by simp,fun j hj'=>?_⟩
 simp[hj j hj']
theorem zaz{N:Nat}{p:Nat->Bool}(hj:∀j,j<N->p j=false):(List.range N).find? p=none:=by
 rw[List.find?_eq_none]
 intro j hj'
 simp[hj j (List.mem_range.1 hj')]
theorem q6t{n:Nat}{l:List Prs}{X:Nat->R->Prop}{Y:R->Prop}{r:R}(h:qju l.length (fun k=>q7s n l k != 0) X Y r):(∃k,qxh n l=q7s n l k/\qxh n l≠0/\X k r)\/(qxh n l=0/\Y r):=by
 unfold qxh
 rcases h with⟨k,hk,hp,hj,hX⟩ | ⟨hp,hY⟩
 .rw[q6s hk hp hj]
  refine .inl ⟨k,rfl,?_,hX⟩
  simpa using hp
 .rw[zaz hp]
  exact .inr ⟨rfl,hY⟩
def q1e(l:List Prs)(u:Int)(k:Nat):Tm:=[none,some (prs l),some (num u),some (.bptr 0 0),none,none,some (num 0)]++List.replicate 11 none++[some (prs l),some (num l.length),some (num k)]++List.replicate 47 none
def q1a(e:Int):Tm:=[none,none,none,none,none,none,some (num e)]++List.replicate 61 none
abbrev zxv(m:Mch)(x:Prs):H:=[⟨0,.box m.cells⟩,⟨0,.box x.row⟩]
theorem z8c(m:Mch)(l:List Prs)(u:Int)(hl:l.length<=256){st:St}(h0:At (q1e l u 0) (q8n m) st):∃r,ev pg (.code (.going 1 L76_0) st)=some r/\qju l.length (fun k=>q7s m.c.inputs.length l k != 0) (fun k r=>∃x,qai .ret (q1a (q7s m.c.inputs.length l k)) (zxv m x) r) (qai (.exit 0) (q1e l u l.length) (q8n m)) r:=by
 refine qcx _ _ (q1e l u) (q8n m) _ _ ?_ ?_ ?_ h0
 .intro k f hf hk hp
  have hk':(k:Int)<l.length:=by omega
  have wk:=qab (n:=(k:Int)+1) (by omega) (by omega)
  have hp':q7s m.c.inputs.length l k=0:=by simpa using hp
  rw[q2q hk]at hp'
  by_cases p1:l[k].t<0\/1000000<l[k].t
  .rw[if_pos p1]at hp';cases hp'
  rw[if_neg p1]at hp'
  by_cases p2:l[k].i<0\/(m.c.inputs.length:Int)<=l[k].i
  .rw[if_pos p2]at hp';cases hp'
  rw[if_neg p2]at hp'
  by_cases p3:l[k].t<(q2t l k).getD l[k].t
  .rw[if_pos p3]at hp';cases hp'
  have a1:¬l[k].t<0:=fun h=>p1 (.inl h)
  have a2:¬1000000<l[k].t:=fun h=>p1 (.inr h)
  have a3:¬l[k].i<0:=fun h=>p2 (.inl h)
  have a4:¬(m.c.inputs.length:Int)<=l[k].i:=fun h=>p2 (.inr h)
  cases k with
  | zero =>
   have w1:IntKind.i64.wrap 1=1:=by decide
   simp[w1,qaa,exT,qad,q1e,L76_0,hk,hk',wk,a1,a2,a3,a4,hf.ne]
  | succ j =>
   have hj:j<l.length:=by omega
   have a5:¬l[j+1].t<l[j].t:=by simpa[q2t,hj]using p3
   have wj:=qab (n:=(j:Int)+1+1) (by omega) (by omega)
   have wj0:=qab (n:=(j:Int)) (by omega) (by omega)
   have wj1:=qab (n:=(j:Int)+1) (by omega) (by omega)
   have hj':(j:Int)+1<l.length:=by omega
   have hj0:(0:Int)<(j:Int)+1:=by omega
   have hj00:(0:Int)<=(j:Int)+1:=by omega
   simp[qaa,exT,qad,q1e,L76_0,hk,hj,hj',hj0,hj00,wj,wj0,wj1,a1,a2,a3,a4,a5,hf.ne]
 .intro k f hf hk hp
  have hk':(k:Int)<l.length:=by omega
  have hp':q7s m.c.inputs.length l k≠0:=by simpa using hp
  clear hp
  rw[q2q hk]at hp' ⊢
  refine(?_:∃r,ev pg (.code L76_0 ⟨fill f 0 (q1e l u k),q8n m⟩)=some r/\r.x ≠ .normal/\qai .ret (q1a _) (zxv m l[k]) r).imp fun r h=>⟨h.1,h.2.1,l[k],h.2.2⟩
  by_cases p1:l[k].t<0\/1000000<l[k].t
  .rw[if_pos p1]
   by_cases a1:l[k].t<0
   .simp[q1e,q1a,L76_0,hk,hk',a1,hf.ne]
   .have a2:1000000<l[k].t:=by omega
    simp[q1e,q1a,L76_0,hk,hk',a1,a2,hf.ne]
  rw[if_neg p1]at hp' ⊢
  have a1:¬l[k].t<0:=fun h=>p1 (.inl h)
  have a2:¬1000000<l[k].t:=fun h=>p1 (.inr h)
  by_cases p2:l[k].i<0\/(m.c.inputs.length:Int)<=l[k].i
  .rw[if_pos p2]
   by_cases a3:l[k].i<0
   .simp[q1e,q1a,L76_0,hk,hk',a1,a2,a3,hf.ne]
   .have a4:(m.c.inputs.length:Int)<=l[k].i:=by omega
    simp[q1e,q1a,L76_0,hk,hk',a1,a2,a3,a4,hf.ne]
  rw[if_neg p2]at hp' ⊢
  have a3:¬l[k].i<0:=fun h=>p2 (.inl h)
  have a4:¬(m.c.inputs.length:Int)<=l[k].i:=fun h=>p2 (.inr h)
  by_cases p3:l[k].t<(q2t l k).getD l[k].t
  .rw[if_pos p3]
   cases k with
   | zero=>simp[q2t]at p3
   | succ j =>
    have hj:j<l.length:=by omega
    have a5:l[j+1].t<l[j].t:=by simpa[q2t,hj]using p3
    have wj0:=qab (n:=(j:Int)) (by omega) (by omega)
    have hj':(j:Int)+1<l.length:=by omega
    have hj0:(0:Int)<(j:Int)+1:=by omega
    have hj00:(0:Int)<=(j:Int)+1:=by omega
    simp[qaa,exT,qad,q1e,q1a,L76_0,hk,hj,hj',hj0,hj00,wj0,a1,a2,a3,a4,a5,hf.ne]
  .rw[if_neg p3]at hp'
   exact absurd rfl hp'
 .intro f hf
  simp[q1e,L76_0,hf.ne]
theorem ev76(m:Mch)(hc:m.c.small=true)(ht:m.ts.length<=100000)(l:List Prs)(hl:l.length<=100000)(u:Int):ev pg (.call (.fn 76 [] []) [m.v,prs l,num u] [])=some { v:=num (qkc m l u),st:=⟨[],[]⟩ }:=by
 have e15:=ev53 m hc ht
 rw[qac,pg76]
 unfold qkc
 by_cases h1:qeh m=0
 .rw[if_neg (by simp[h1])]
  rw[h1]at e15
  by_cases h2:256<l.length
  .rw[if_pos h2]
   have h2':(256:Int)<l.length:=by omega
   simp[ir76,e15,h2']
  .rw[if_neg h2]
   have h2':¬(256:Int)<l.length:=by omega
   have hlp:=@z8c m l u (by omega)
   simp[ir76,e15,h2',qaf]
   generalize hr:ev pg (.code (.going _ L76_0) _)=o
   obtain⟨r,rfl,hQ⟩:∃r,o=some r/\_:=by rw[<-hr];exact hlp (by simp[q1e])
   clear hr
   have hfa:=q6t hQ
   clear hQ
   rcases hfa with⟨k,e1,e2,x,f,hf,rfl⟩ | ⟨e1,f,hf,rfl⟩
   .rw[e1]at e2 ⊢
    generalize q7s m.c.inputs.length l k=e at *
    simp[q1a,e2]
   .rw[e1]
    by_cases h3:u<0
    .simp[q1e,h3]
    .by_cases h4:1000000<u
     .simp[q1e,h3,h4]
     .simp[q1e,h3,h4]
 .rw[if_pos h1]
  have hb:(qeh m==0)=false:=by simpa using h1
  generalize qeh m=e at *
  simp[ir76,e15,h1,hb]
set_option maxHeartbeats 4000000
theorem qtf{α:Type}{l:List α}{k:Nat}(hk:k<l.length):l.take (k+1)=l.take k++[l[k]]:=jK hk
theorem qte{α:Type}{l:List α}{k:Nat}(hk:k<=l.length):(l.take k).length=k:=by rw[List.length_take];omega
def zij(ts D:List (Int×Int))(g w k:Nat):Tm:=[none,some (.bptr 0 0),some (.bptr 6 0),some (.bptr 12 0)]++List.replicate 6 none++[some (tms ts),some (num ts.length),some (num k)]++List.replicate 11 none
abbrev zxt(m:Mch)(D:List (Int×Int))(g w:Nat):H:=[⟨0,.box m.cells⟩,⟨0,.arr 0 []⟩,⟨0,.arr 0 []⟩,⟨0,.arr 0 []⟩,⟨0,.arr 0 []⟩,⟨0,.arr 0 []⟩,⟨0,.box [num 0,.sl 1 0 0 0 0,.sl 2 0 0 0 0,.sl 3 0 0 0 0,.sl 4 0 0 0 0,.sl 5 0 0 0 0]⟩,⟨0,.arr 0 []⟩,⟨0,.arr 0 []⟩,⟨0,.arr 0 []⟩,⟨0,.arr 0 []⟩,⟨0,.arr 0 []⟩,
 ⟨0,.box [num m.c.act,.imm (m.c.inputs.map qqm),.imm (m.c.signals.map Sg.row),qck m.c.plus,qck m.c.minus,.sl 13 g w 0 D.length]⟩,⟨g,.arr w (D.map zif)⟩]
theorem z7u(m:Mch)(hx:m.ts.length*16<=140737488355328){st:St}(h0:At (zij m.ts [] 0 0 0) (zxt m [] 0 0) st):∃r,ev pg (.code (.going 14 L15_0) st)=some r/\∃g w,qai (.exit 0) (zij m.ts m.ts g w m.ts.length) (zxt m m.ts g w) r:=by
 refine qco (α:=Nat×Nat) m.ts.length (fun k a=>zij m.ts (m.ts.take k) a.1 a.2 k) (fun k a=>zxt m (m.ts.take k) a.1 a.2) (fun _ a=>a.2=2\/a.2=0) _ ?_ ?_ (0,0) (.inr rfl) h0
 .rintro k ⟨g,w⟩ f hf hk hw
  have hk':(k:Int)<m.ts.length:=by omega
  have wk:=qab (n:=(k:Int)+1) (by omega) (by omega)
  have ht:=qtf hk
  have hl:=qte (l:=m.ts) (k:=k) (by omega)
  generalize m.ts.take (k+1)=D' at *
  generalize m.ts.take k=D at *
  subst ht
  have hap:(D.length+1)*16<=140737488355328:=by omega
  refine(?_:∃st,ev pg (.code L15_0 ⟨fill f 0 (zij m.ts D g w k),zxt m D g w⟩)=some { st:=st }/\At (zij m.ts (D++[m.ts[k]]) (g+1) 2 (k+1)) (zxt m (D++[m.ts[k]]) (g+1) 2) (qpl 14 st)).elim fun st h=>⟨_,h.1,.inl ⟨rfl,(g+1,2),.inl rfl,h.2⟩⟩
  rcases hw with h | h<;>(simp only at h;subst h;simp[zij,L15_0,hk,hk',wk,hap,hf.ne])
 .rintro⟨g,w⟩ f hf hw
  rw[List.take_length]
  simp[zij,L15_0,hf.ne]
theorem ev15(m:Mch)(hx:m.ts.length*16<=140737488355328):ev pg (.call (.fn 15 [] []) [m.v] [])=some { v:=m.v,st:=⟨[],[]⟩ }:=by
 have hl:=fun st=>z7u m hx (st:=st)
 rw[qac,pg15]
 simp[ir15,qaf]
 generalize hr:ev pg (.code (.going _ L15_0) _)=o
 obtain⟨r,rfl,g,w,f,hf,rfl⟩:∃r,o=some r/\_:=by rw[<-hr];exact hl _ (by simp[zij])
 clear hr
 simp[zij]
def Mch.few(m:Mch):Bool:=m.c.few&&decide (m.ts.length<=40)
theorem ev14(m:Mch):ev pg (.call (.fn 14 [] []) [m.v] [])=some { v:=.bool m.few,st:=⟨[],[]⟩ }:=by
 have e62:=ev30 m.c
 rw[qac,pg14]
 unfold Mch.few
 generalize m.c.few=b at *
 have hl:(decide ((m.ts.length:Int)<=40))=decide (m.ts.length<=40):=by rw[Bool.eq_iff_iff];simp only[jW];omega
 cases b
 .simp[ir14,e62]
 .by_cases h:m.ts.length<=40
  .have h':(m.ts.length:Int)<=40:=by omega
   simp[ir14,e62,h,h']
  .have h':¬(m.ts.length:Int)<=40:=by omega
   simp[ir14,e62,h,h']
abbrev oz:Ob:=⟨0,.arr 0 []⟩
def qtk(x:Ex)(k:Nat):Tm:=[none,some (.bptr 0 0),some (.bptr 2 0),some (.bptr 4 0),none,none,none,none,none,none,none,none,some (.imm (x.args.map Ex.row)),some (num x.args.length),some (num k)]++List.replicate 12 none
abbrev q3j(x:Ex)(D:List Ex)(g w:Nat):H:=[⟨0,.box x.cells⟩,oz,⟨0,.box [num 0,num 0,.sl 1 0 0 0 0]⟩,oz,⟨0,.box [num x.op,num x.idx,.sl 5 g w 0 D.length]⟩,⟨g,.arr w (D.map Ex.row)⟩]
theorem zxy(x:Ex)(hl:x.args.length<=4096)(ih:∀z∈x.args,ev pg (.call (.fn 128 [] []) [z.v] [])=some { v:=z.v,st:=⟨[],[]⟩ }){st:St}(h0:At (qtk x 0) (q3j x [] 0 0) st) :
  ∃r,ev pg (.code (.going 6 L128_0) st)=some r/\∃g w,(w=3\/w=0)/\qai (.exit 0) (qtk x x.args.length) (q3j x x.args g w) r:=by
 refine qco (α:=Nat×Nat) x.args.length (fun k _=>qtk x k) (fun k a=>q3j x (x.args.take k) a.1 a.2) (fun _ a=>a.2=3\/a.2=0) _ ?_ ?_ (0,0) (.inr rfl) h0
 .rintro k ⟨g,w⟩ f hf hk hw
  have hk':(k:Int)<x.args.length:=by omega
  have wk:=qab (n:=(k:Int)+1) (by omega) (by omega)
  have hi:=ih _ (jH hk)
  have ht:=qtf hk
  have hl2:=qte (l:=x.args) (k:=k) (by omega)
  generalize x.args.take (k+1)=D' at *
  generalize x.args.take k=D at *
  subst ht
  have hap:(D.length+1)*40<=140737488355328:=by omega
  refine(?_:∃st,ev pg (.code L128_0 ⟨fill f 0 (qtk x k),q3j x D g w⟩)=some { st:=st }/\At (qtk x (k+1)) (q3j x (D++[x.args[k]]) (g+1) 3) (qpl 6 st)).elim fun st h=>⟨_,h.1,.inl ⟨rfl,(g+1,3),.inl rfl,h.2⟩⟩
  rcases hw with h | h<;>(simp only at h;subst h;simp[qaa,exT,qad,qtk,L128_0,hk,hk',hi,wk,hap,hf.ne])
 .rintro⟨g,w⟩ f hf hw
  rw[List.take_length]
  refine(?_:∃r,ev pg (.code L128_0 ⟨fill f 0 (qtk x x.args.length),q3j x x.args g w⟩)=some r/\r.x ≠ .normal/\qai (.exit 0) (qtk x x.args.length) (q3j x x.args g w) r).imp fun r h=>⟨h.1,h.2.1,g,w,hw,h.2.2⟩
  simp[qtk,L128_0,hf.ne]
theorem ev128_of(x:Ex)(hl:x.args.length<=4096)(ih:∀z∈x.args,ev pg (.call (.fn 128 [] []) [z.v] [])=some { v:=z.v,st:=⟨[],[]⟩ }):ev pg (.call (.fn 128 [] []) [x.v] [])=some { v:=x.v,st:=⟨[],[]⟩ }:=by
 have hlp:=fun st=>zxy x hl ih (st:=st)
 rw[qac,pg128]
 simp[ir128,qaf]
 generalize hr:ev pg (.code (.going _ L128_0) _)=o
 obtain⟨r,rfl,g,w,hw,f,hf,rfl⟩:∃r,o=some r/\_:=by rw[<-hr];exact hlp _ (by simp[qtk])
 clear hr
 simp[qtk]
theorem ev128:∀x:Ex,x.nodes<=256->ev pg (.call (.fn 128 [] []) [x.v] [])=some { v:=x.v,st:=⟨[],[]⟩ }:=by
 refine Ex.ind fun x ih hx=>?_
 exact ev128_of x (by have:=qer hx;omega) fun z hz=>ih z hz (qee hx hz)
def zed(c:Ct)(k:Nat):Tm:=[none,some (.bptr 0 0),some (.bptr 5 0),some (.bptr 10 0)]++List.replicate 15 none++[some (.imm (c.signals.map Sg.row)),some (num c.signals.length),some (num k)]++List.replicate 19 none
abbrev zsx(c:Ct)(D:List Sg)(g w:Nat):H:=[⟨0,.box c.cells⟩,oz,oz,oz,oz,⟨0,.box [num 0,.sl 1 0 0 0 0,.sl 2 0 0 0 0,.sl 3 0 0 0 0,.sl 4 0 0 0 0]⟩,oz,oz,oz,oz,
 ⟨0,.box [num c.act,.sl 11 0 1 0 c.inputs.length,.sl 14 g w 0 D.length,.sl 12 0 1 0 c.plus.length,.sl 13 0 1 0 c.minus.length]⟩,⟨0,.arr 1 (c.inputs.map qqm)⟩,⟨0,.arr 1 (c.plus.map qej)⟩,⟨0,.arr 1 (c.minus.map qej)⟩,⟨g,.arr w (D.map Sg.row)⟩]
theorem z8f(c:Ct)(hs:c.small=true){st:St}(h0:At (zed c 0) (zsx c [] 0 0) st) :
  ∃r,ev pg (.code (.going 15 L57_0) st)=some r/\∃g w,(w=10\/w=0)/\qai (.exit 0) (zed c c.signals.length) (zsx c c.signals g w) r:=by
 obtain⟨f1,f2,f3,f4,f5,f6⟩:=qdq hs
 refine qco (α:=Nat×Nat) c.signals.length (fun k _=>zed c k) (fun k a=>zsx c (c.signals.take k) a.1 a.2) (fun _ a=>a.2=10\/a.2=0) _ ?_ ?_ (0,0) (.inr rfl) h0
 .rintro k ⟨g,w⟩ f hf hk hw
  have hk':(k:Int)<c.signals.length:=by omega
  have wk:=qab (n:=(k:Int)+1) (by omega) (by omega)
  obtain⟨-,q1,q2⟩:=f6 _ (jH hk)
  have hi1:=ev128 c.signals[k].on (qcs q1).1
  have hi2:=ev128 c.signals[k].off (qcs q2).1
  have ht:=qtf hk
  have hl2:=qte (l:=c.signals) (k:=k) (by omega)
  generalize c.signals.take (k+1)=D' at *
  generalize c.signals.take k=D at *
  subst ht
  have hap:(D.length+1)*120<=140737488355328:=by omega
  refine(?_:∃st,ev pg (.code L57_0 ⟨fill f 0 (zed c k),zsx c D g w⟩)=some { st:=st }/\At (zed c (k+1)) (zsx c (D++[c.signals[k]]) (g+1) 10) (qpl 15 st)).elim fun st h=>⟨_,h.1,.inl ⟨rfl,(g+1,10),.inl rfl,h.2⟩⟩
  rcases hw with h | h<;>(simp only at h;subst h;simp[qaa,exT,qad,zed,L57_0,hk,hk',hi1,hi2,wk,hap,hf.ne])
 .rintro⟨g,w⟩ f hf hw
  rw[List.take_length]
  refine(?_:∃r,ev pg (.code L57_0 ⟨fill f 0 (zed c c.signals.length),zsx c c.signals g w⟩)=some r/\r.x ≠ .normal/\qai (.exit 0) (zed c c.signals.length) (zsx c c.signals g w) r).imp fun r h=>⟨h.1,h.2.1,g,w,hw,h.2.2⟩
  simp[zed,L57_0,hf.ne]
theorem ev57(c:Ct)(hs:c.small=true):ev pg (.call (.fn 57 [] []) [c.v] [])=some { v:=c.v,st:=⟨[],[]⟩ }:=by
 obtain⟨f1,f2,f3,f4,f5,f6⟩:=qdq hs
 have hlp:=fun st=>z8f c hs (st:=st)
 have e1:=ev105 c.inputs (by omega)
 have e2:=ev106 c.plus (by omega)
 have e3:=ev106 c.minus (by omega)
 rw[qac,pg57]
 simp[qaa,exT,qad,ir57,e1,e2,e3,qaf]
 generalize hr:ev pg (.code (.going _ L57_0) _)=o
 obtain⟨r,rfl,g,w,hw,f,hf,rfl⟩:∃r,o=some r/\_:=by rw[<-hr];exact hlp _ (by simp[zed])
 clear hr
 simp[zed]
end Go.Proofs.YtddeacahiilikaaGreat
