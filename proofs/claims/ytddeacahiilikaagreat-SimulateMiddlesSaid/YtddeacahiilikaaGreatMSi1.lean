/- Loops of Am, by a picture of the slots and of the memory. Machines in time: their checks, by the program and by the reference. -/
import Derived.Test.YtddeacahiilikaaGreatMEn6
import Derived.Test.YtddeacahiilikaaGreatMCl1
import Derived.Test.YtddeacahiilikaaGreatMCt9
set_option linter.all false
namespace Go.Am
abbrev Tm:=List (Option V)
def fill(f:Nat->V):Nat->Tm->List V
 | _,[]=>[]
 | i,some v :: t=>v :: fill f (i+1) t
 | i,none :: t=>f i :: fill f (i+1) t
def fits:Tm->List V->Prop
 | [],[]=>True
 | some v :: t,x :: s=>x=v/\fits t s
 | none :: t,x :: s=>x ≠ .nils/\fits t s
 | _,_=>False
def Junk(f:Nat->V):Prop:=∀i,f i ≠ .nils
theorem qmx:∀{t:Tm} {s:List V} (n:Nat),fits t s->∃f,Junk f/\s=fill f n t
 | [],[],_,_=>⟨fun _=>.undef,fun _=>by simp,rfl⟩
 | [],_ :: _,_,h=>by simp[fits]at h
 | some _ :: _,[],_,h=>by simp[fits]at h
 | none :: _,[],_,h=>by simp[fits]at h
 | some v :: t,x :: s,n,h=>by
  obtain⟨rfl,h2⟩:=h
  obtain⟨f,hf,rfl⟩:=qmx (n+1) h2
  exact⟨f,hf,rfl⟩
 | none :: t,x :: s,n,h=>by
  obtain⟨hx,h2⟩:=h
  obtain⟨f,hf,rfl⟩:=qmx (n+1) h2
  refine⟨fun i=>if i=n then x else f i,fun i=>?_,?_⟩
  .simp only
   split
   .exact hx
   .exact hf i
  .have:∀(t:Tm) (m:Nat),n<m->fill (fun i=>if i=n then x else f i) m t=fill f m t:=by
    intro t
    induction t with
    | nil=>intro m _;rfl
    | cons o t ih =>
     intro m hm
     cases o with
     | none=>simp only[fill,ih (m+1) (by omega)];rw[if_neg (by omega)]
     | some v=>simp only[fill,ih (m+1) (by omega)]
   simp only[fill,if_true]
   rw[this t (n+1) (by omega)]
structure At(T:Tm)(h:H)(st:St):Prop where
 s:fits T st.s
 h:st.h=h
theorem At.eq{T:Tm}{h:H}{st:St}(a:At T h st):∃f,Junk f/\st=⟨fill f 0 T,h⟩:=by
 obtain⟨f,hf,e⟩:=qmx 0 a.s
 refine⟨f,hf,?_⟩
 obtain⟨s,h'⟩:=st
 obtain rfl:h'=h:=a.h
 obtain rfl:s=fill f 0 T:=e
 rfl
theorem qco{P:Prg}{nx:Nat}{c:C}{α:Type}(N:Nat)(T:Nat->α->Tm)(Hp:Nat->α->H)(G:Nat->α->Prop)(Q:R->Prop)
  (step:∀k a f,Junk f->k<N->G k a->∃r,ev P (.code c ⟨fill f 0 (T k a),Hp k a⟩)=some r/\((r.x=.normal/\∃a',G (k+1) a'/\At (T (k+1) a') (Hp (k+1) a') (qpl nx r.st))\/(r.x ≠ .normal/\Q r)))
  (last:∀a f,Junk f->G N a->∃r,ev P (.code c ⟨fill f 0 (T N a),Hp N a⟩)=some r/\r.x ≠ .normal/\Q r)
  {st:St} (a0:α) (g0:G 0 a0) (h0:At (T 0 a0) (Hp 0 a0) st):∃r,ev P (.code (.going nx c) st)=some r/\Q r:=by
 refine qbg (fun k st=>∃a,G k a/\At (T k a) (Hp k a) st) N Q ⟨a0,g0,h0⟩ ?_ ?_
 .rintro k st hk ⟨a,g,h⟩
  obtain⟨f,hf,rfl⟩:=h.eq
  exact step k a f hf hk g
 .rintro st ⟨a,g,h⟩
  obtain⟨f,hf,rfl⟩:=h.eq
  exact last a f hf g
theorem qfd{P:Prg}{nx:Nat}{c:C}(N:Nat)(T:Nat->Tm)(Hp:Nat->H)(Q:R->Prop)
  (step:∀k f,Junk f->k<N->∃r,ev P (.code c ⟨fill f 0 (T k),Hp k⟩)=some r/\((r.x=.normal/\At (T (k+1)) (Hp (k+1)) (qpl nx r.st))\/(r.x ≠ .normal/\Q r)))
  (last:∀f,Junk f->∃r,ev P (.code c ⟨fill f 0 (T N),Hp N⟩)=some r/\r.x ≠ .normal/\Q r)
  {st:St} (h0:At (T 0) (Hp 0) st):∃r,ev P (.code (.going nx c) st)=some r/\Q r :=
 qco (α:=Unit) N (fun k _=>T k) (fun k _=>Hp k) (fun _ _=>True) Q
  (fun k _ f hf hk _=>by
   obtain⟨r,e,h⟩:=step k f hf hk
   refine⟨r,e,?_⟩
   rcases h with⟨hx,h⟩ | h
   .exact .inl ⟨hx,(),trivial,h⟩
   .exact .inr h)
  (fun _ f hf _=>last f hf) () trivial h0
def qju(N:Nat)(p:Nat->Bool)(X:Nat->R->Prop)(Y:R->Prop)(r:R):Prop:=(∃k,k<N/\p k=true/\(∀j,j<k->p j=false)/\X k r)\/((∀j,j<N->p j=false)/\Y r)
theorem qcx{P:Prg}{nx:Nat}{c:C}(N:Nat)(p:Nat->Bool)(T:Nat->Tm)(h:H)(X:Nat->R->Prop)(Y:R->Prop)
  (go:∀k f,Junk f->k<N->p k=false->∃st,ev P (.code c ⟨fill f 0 (T k),h⟩)=some { st:=st }/\At (T (k+1)) h (qpl nx st))
  (hit:∀k f,Junk f->k<N->p k=true->∃r,ev P (.code c ⟨fill f 0 (T k),h⟩)=some r/\r.x ≠ .normal/\X k r)
  (last:∀f,Junk f->∃r,ev P (.code c ⟨fill f 0 (T N),h⟩)=some r/\r.x ≠ .normal/\Y r)
  {st:St} (h0:At (T 0) h st):∃r,ev P (.code (.going nx c) st)=some r/\qju N p X Y r:=by
 refine qco (α:=Unit) N (fun k _=>T k) (fun _ _=>h) (fun k _=>∀j,j<k->p j=false) _ ?_ ?_ () (fun j hj=>absurd hj (Nat.not_lt_zero j)) h0
 .intro k _ f hf hk hp
  cases hb:p k with
  | false =>
   obtain⟨st,e,ha⟩:=go k f hf hk hb
   refine⟨_,e,.inl ⟨rfl,(),fun j hj=>?_,ha⟩⟩
   by_cases hjk:j=k
   .rw[hjk];exact hb
   .exact hp j (by omega)
  | true =>
   obtain⟨r,e,hx,hX⟩:=hit k f hf hk hb
   exact⟨r,e,.inr ⟨hx,.inl ⟨k,hk,hb,hp,hX⟩⟩⟩
 .intro _ f hf hp
  obtain⟨r,e,hx,hY⟩:=last f hf
  exact⟨r,e,hx,.inr ⟨hp,hY⟩⟩
def qai(x:X)(T:Tm)(h:H)(r:R):Prop:=∃f,Junk f/\r={ x:=x,st:=⟨fill f 0 T,h⟩ }
@[simp] theorem zyw{x x':X}{T:Tm}{h:H}{st:St}:qai x T h { x:=x',v:=.undef,st:=st }<->x'=x/\At T h st:=by
 constructor
 .rintro⟨f,hf,e⟩
  injection e with e1 _ e3
  subst e3
  refine⟨e1,?_,rfl⟩
  have:∀(t:Tm) (n:Nat),fits t (fill f n t):=by
   intro t
   induction t with
   | nil=>intro n;trivial
   | cons o t ih =>
    intro n
    cases o with
    | none=>exact⟨hf n,ih (n+1)⟩
    | some v=>exact⟨rfl,ih (n+1)⟩
  exact this T 0
 .rintro⟨rfl,h⟩
  obtain⟨f,hf,rfl⟩:=h.eq
  exact⟨f,hf,rfl⟩
theorem zud{T:Tm}{h h':H}{s:List V}:At T h ⟨s,h'⟩<->fits T s/\h'=h:=⟨fun a=>⟨a.s,a.h⟩,fun a=>⟨a.1,a.2⟩⟩
attribute [simp] fill fits zud
@[simp] theorem Junk.ne{f:Nat->V}(hf:Junk f)(i:Nat):(f i=.nils)=False:=by simp[hf i]
end Go.Am
namespace Go.Proofs.YtddeacahiilikaaGreat
open Go Go.Am Go.Proofs
set_option maxRecDepth 100000
abbrev zif(x:Int×Int):List V:=[num x.1,num x.2]
abbrev tms(l:List (Int×Int)):V:=.imm (l.map zif)
structure Mch where
 c:Ct
 ts:List (Int×Int)
abbrev Mch.cells(m:Mch):List V:=[num m.c.act,.imm (m.c.inputs.map qqm),.imm (m.c.signals.map Sg.row),qck m.c.plus,qck m.c.minus,tms m.ts]
abbrev Mch.v(m:Mch):V:=.agg m.cells
structure Prs where
 t:Int
 i:Int
 b:Bool
abbrev Prs.row(x:Prs):List V:=[num x.t,num x.i,.bool x.b]
abbrev prs(l:List Prs):V:=.imm (l.map Prs.row)
def q1c(x:Int×Int):Bool:=!(decide (1<=x.1)&&decide (x.1<=1000000)&&(decide (1<=x.2)&&decide (x.2<=1000000)))
def qvq(m:Mch):Int:=if(m.ts.length:Int)≠m.c.act then 8 else if m.ts.any q1c=true then 2 else 0
def qeh(m:Mch):Int:=if m.c.check=0 then qvq m else m.c.check
theorem q1r{x:Int×Int}(h:q1c x=false):1<=x.1/\x.1<=1000000/\1<=x.2/\x.2<=1000000:=by
 simp only[q1c,Bool.not_eq_false',jE,jW]at h
 omega
theorem q3q{x:Int×Int}(h:q1c x=true):x.1<1\/1000000<x.1\/x.2<1\/1000000<x.2:=by
 apply Classical.byContradiction
 intro hn
 have:q1c x=false:=by
  simp only[q1c,Bool.not_eq_false',jE,jW]
  omega
 rw[this]at h
 cases h
theorem qzb{α:Type}{l:List α}{p:α->Bool}{d:Bool}{X:Nat->R->Prop}{Y:R->Prop}{r:R}(h:qju l.length (fun k=>((l[k]?).map p).getD d) X Y r):(l.any p=true/\∃k,X k r)\/(l.any p=false/\Y r):=by
 rcases h with⟨k,hk,hp,-,hX⟩ | ⟨hp,hY⟩
 .refine .inl ⟨List.any_eq_true.2 ⟨l[k],jH hk,by simpa[hk]using hp⟩,k,hX⟩
 .refine .inr ⟨?_,hY⟩
  rw[List.any_eq_false]
  intro x hx
  obtain⟨k,hk,rfl⟩:=List.getElem_of_mem hx
  have:=hp k hk
  simpa[hk]using this
def zej(m:Mch)(k:Nat):Tm:=[none,some (.bptr 0 0),some (num 0)]++List.replicate 17 none++[some (tms m.ts),some (num m.ts.length),some (num k)]++List.replicate 18 none
def zdz:Tm:=[none,none,some (num 2)]++List.replicate 38 none
abbrev q8n(m:Mch):H:=[⟨0,.box m.cells⟩]
abbrev zxu(m:Mch)(x:Int×Int):H:=[⟨0,.box m.cells⟩,⟨0,.box (zif x)⟩]
theorem z7x(m:Mch)(hl:m.ts.length<=100000){st:St}(h0:At (zej m 0) (q8n m) st):∃r,ev pg (.code (.going 1 L53_0) st)=some r/\qju m.ts.length (fun k=>((m.ts[k]?).map q1c).getD false) (fun _ r=>∃x,qai .ret zdz (zxu m x) r) (qai (.exit 0) (zej m m.ts.length) (q8n m)) r:=by
 refine qcx _ _ (zej m) (q8n m) _ _ ?_ ?_ ?_ h0
 .intro k f hf hk hp
  have hk':(k:Int)<m.ts.length:=by omega
  have wk:=qab (n:=(k:Int)+1) (by omega) (by omega)
  have hp':q1c m.ts[k]=false:=by simpa[hk]using hp
  obtain⟨p1,p2,p3,p4⟩:=q1r hp'
  have q1:¬(if m.ts[k].2<m.ts[k].1 then m.ts[k].2 else m.ts[k].1)<1:=by split<;>omega
  have q2:¬1000000<(if m.ts[k].1<m.ts[k].2 then m.ts[k].2 else m.ts[k].1):=by split<;>omega
  simp[zej,L53_0,hk,hk',wk,q1,q2,hf.ne]
 .intro k f hf hk hp
  have hk':(k:Int)<m.ts.length:=by omega
  have hp':q1c m.ts[k]=true:=by simpa[hk]using hp
  have p:=q3q hp'
  refine(?_:∃r,ev pg (.code L53_0 ⟨fill f 0 (zej m k),q8n m⟩)=some r/\r.x ≠ .normal/\qai .ret zdz (zxu m m.ts[k]) r).imp fun r h=>⟨h.1,h.2.1,_,h.2.2⟩
  by_cases q1:(if m.ts[k].2<m.ts[k].1 then m.ts[k].2 else m.ts[k].1)<1
  .simp[zej,zdz,L53_0,hk,hk',q1,hf.ne]
  .have q2:1000000<(if m.ts[k].1<m.ts[k].2 then m.ts[k].2 else m.ts[k].1):=by
    split at q1<;>split<;>omega
   simp[zej,zdz,L53_0,hk,hk',q1,q2,hf.ne]
 .intro f hf
  simp[zej,L53_0,hf.ne]
theorem ev53(m:Mch)(hc:m.c.small=true)(ht:m.ts.length<=100000):ev pg (.call (.fn 53 [] []) [m.v] [])=some { v:=num (qeh m),st:=⟨[],[]⟩ }:=by
 have e44:=ev43 m.c hc
 have hl:=@z7x m ht
 rw[qac,pg53]
 unfold qeh qvq
 by_cases h1:m.c.check=0
 .rw[if_pos h1]
  rw[h1]at e44
  by_cases h2:(m.ts.length:Int)=m.c.act
  .rw[if_neg (by omega)]
   generalize hB:m.ts.any q1c=B
   simp[ir53,e44,h2,qaf]
   generalize hr:ev pg (.code (.going _ L53_0) _)=o
   obtain⟨r,rfl,hQ⟩:∃r,o=some r/\_:=by rw[<-hr];exact hl (by simp[zej,h2])
   clear hr
   have hfa:=qzb hQ
   rw[hB]at hfa
   clear hQ
   rcases hfa with⟨rfl,k,x,f,hf,rfl⟩ | ⟨rfl,f,hf,rfl⟩
   .simp[zdz]
   .simp[zej]
  .rw[if_pos h2]
   have hne:((m.ts.length:Int) != m.c.act)=true:=by rw[bne_iff_ne];exact h2
   simp[ir53,e44,h2,hne]
 .rw[if_neg h1]
  have hb:(m.c.check==0)=false:=by simpa using h1
  generalize m.c.check=e at *
  simp[ir53,e44,h1,hb]
theorem ev149(n:Int):ev pg (.call (.fn 149 [] []) [num n] [])=some { v:=.bool (decide (1<=n)&&decide (n<=1000000)),st:=⟨[],[]⟩ }:=by
 rw[qac,pg149]
 by_cases h1:1<=n
 .simp[ir149,h1]
 .simp[ir149,h1]
def zik(m:Mch)(k:Nat):Tm:=[none,some (.bptr 0 0),some (num 0),some (num k)]++List.replicate 32 none
def zil:Tm:=[none,none,some (num 2)]++List.replicate 33 none
theorem z8e(m:Mch)(hl:m.ts.length<=100000){st:St}(h0:At (zik m 0) (q8n m) st):∃r,ev pg (.code (.going 1 L74_0) st)=some r/\qju m.ts.length (fun k=>((m.ts[k]?).map q1c).getD false) (fun _=>qai .ret zil (q8n m)) (qai (.exit 0) (zik m m.ts.length) (q8n m)) r:=by
 refine qcx _ _ (zik m) (q8n m) _ _ ?_ ?_ ?_ h0
 .intro k f hf hk hp
  have hk':(k:Int)<m.ts.length:=by omega
  have wk:=qab (n:=(k:Int)+1) (by omega) (by omega)
  have hp':q1c m.ts[k]=false:=by simpa[hk]using hp
  obtain⟨p1,p2,p3,p4⟩:=q1r hp'
  simp[zik,L74_0,hk,hk',wk,ev149,p1,p2,p3,p4,hf.ne]
 .intro k f hf hk hp
  have hk':(k:Int)<m.ts.length:=by omega
  have hp':q1c m.ts[k]=true:=by simpa[hk]using hp
  have p:=q3q hp'
  by_cases q1:(decide (1<=m.ts[k].1)&&decide (m.ts[k].1<=1000000))=true
  .have q2:(decide (1<=m.ts[k].2)&&decide (m.ts[k].2<=1000000))=false:=by
    simp only[jE,jW]at q1
    rw[Bool.and_eq_false_iff]
    simp only[decide_eq_false_iff_not]
    omega
   simp[zik,zil,L74_0,hk,hk',ev149,q1,q2,hf.ne,-Bool.and_eq_true,-Bool.decide_and]
  .have q1:=eq_false_of_ne_true q1
   simp[zik,zil,L74_0,hk,hk',ev149,q1,hf.ne,-Bool.and_eq_true,-Bool.decide_and]
 .intro f hf
  simp[zik,L74_0,hf.ne]
theorem ev74(m:Mch)(ht:m.ts.length<=100000):ev pg (.call (.fn 74 [] []) [m.v] [])=some { v:=num (qvq m),st:=⟨[],[]⟩ }:=by
 have hl:=@z8e m ht
 rw[qac,pg74]
 unfold qvq
 by_cases h2:(m.ts.length:Int)=m.c.act
 .rw[if_neg (by omega)]
  generalize hB:m.ts.any q1c=B
  simp[ir74,h2,qaf]
  generalize hr:ev pg (.code (.going _ L74_0) _)=o
  obtain⟨r,rfl,hQ⟩:∃r,o=some r/\_:=by rw[<-hr];exact hl (by simp[zik,h2])
  clear hr
  have hfa:=qzb hQ
  rw[hB]at hfa
  clear hQ
  rcases hfa with⟨rfl,k,f,hf,rfl⟩ | ⟨rfl,f,hf,rfl⟩
  .simp[zil]
  .simp[zik]
 .rw[if_pos h2]
  have hne:((m.ts.length:Int) != m.c.act)=true:=by rw[bne_iff_ne];exact h2
  simp[ir74,h2,hne]
theorem ev25(m:Mch)(hc:m.c.small=true)(ht:m.ts.length<=100000):ev pg (.call (.fn 25 [] []) [m.v] [])=some { v:=num (qeh m),st:=⟨[],[]⟩ }:=by
 have e45:=ev58 m.c hc
 have e46:=ev74 m ht
 rw[qac,pg25]
 unfold qeh
 by_cases h1:m.c.check=0
 .rw[if_pos h1]
  rw[h1]at e45
  simp[ir25,e45,e46]
 .rw[if_neg h1]
  have hb:(m.c.check==0)=false:=by simpa using h1
  generalize m.c.check=e at *
  simp[ir25,e45,h1,hb]
end Go.Proofs.YtddeacahiilikaaGreat
