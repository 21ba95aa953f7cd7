/- Quiet, by the program. Gates are computed, by control; the first state. What may happen, and what happens, by the reference. What follows an event, by the program. -/
import Derived.Test.YtddeacahiilikaaGreatRRe1
import Derived.KernelRfl
set_option linter.all false
namespace Go.Proofs.YtddeacahiilikaaGreat
open Go Go.Am Go.Proofs
set_option maxRecDepth 100000
theorem ev115(c:Ct)(s:Ste)(hfew:c.small=true)(hs:s.small):ev pg (.call (.fn 115 [] []) [c.v,s.v] [])=some { v:=.tup [.bool (q3e c s).1,num (q3e c s).2],st:=⟨[],[]⟩ }:=by
 have e45:=ev111 c s hfew hs
 unfold q3e
 rw[qac,pg115]
 by_cases h:stE c s=0
 .have hR:Rdy c s:=⟨hfew,h⟩
  rw[if_pos h]
  rw[h]at e45
  unfold qqd
  cases hZ:qby c s with
  | none =>
   have e46:=ev112_none hR hZ
   rw[qsg.2 hZ]
   simp[ir115,e45,e46,zeroS]
  | some x =>
   obtain⟨v,m⟩:=x
   have e46:=ev112_some hR hZ
   have hrv:qcw c s=some (qiv (qhl c v),norm (qhn c) (m++qka c v)):=by unfold qcw;rw[hZ];rfl
   have e47:=ev114 (qiv (qhl c v)) s (hR.round hrv).small
   rw[qpa]at e47
   rw[hrv]
   simp only[Option.map_some,Option.getD_some]
   generalize qhd s (qiv (qhl c v))=b at *
   generalize qiv (qhl c v)=u at *
   simp[ir115,e45,e46,e47]
 .rw[if_neg h]
  have hb:(stE c s==0)=false:=by simpa using h
  generalize stE c s=e at *
  simp[ir115,e45,h,hb]
theorem ev46(c:Ct)(s:Ste)(hfew:c.small=true)(hs:s.small):ev pg (.call (.fn 46 [] []) [c.v,s.v] [])=some { v:=num (quE c s),st:=⟨[],[]⟩ }:=by
 have e11:=ev115 c s hfew hs
 unfold q3e at e11
 unfold quE
 rw[qac,pg46]
 by_cases h:stE c s=0
 .rw[if_pos h]at e11 ⊢
  simp only at e11
  cases hb:qqd c s<;>rw[hb]at e11<;>simp[ir46,e11]
 .rw[if_neg h]at e11 ⊢
  simp only at e11
  have hb:(stE c s==0)=false:=by simpa using h
  generalize stE c s=e at *
  simp[ir46,e11,h,hb]
abbrev h56(c:Ct)(A:Nat)(k:Nat):H:=[⟨0,.box c.cells⟩,o0,o0,o0,o0,o0,⟨0,.box (qwx 1)⟩,⟨1,.arr 1 (List.replicate A [num 0])⟩,⟨1,.arr 1 (List.replicate A [.bool false])⟩,⟨1,.arr 1 (List.replicate c.inputs.length [.bool false])⟩,⟨1,.arr 1 ((ini c k).map qen)⟩,⟨1,.arr 1 (List.replicate c.signals.length [num 0])⟩,o0,o0,o0,o0,o0,⟨0,.box [.sl 7 1 1 0 A,.sl 8 1 1 0 A,.sl 9 1 1 0 c.inputs.length,.sl 10 1 1 0 c.signals.length,.sl 11 1 1 0 c.signals.length]⟩]
def T56(c:Ct)(k:Nat):Tm:=[none,some (.bptr 0 0),some (.bptr 6 0),some (num 0),none,none,some (.bptr 17 0)]++List.replicate 27 none++[some (.imm (c.signals.map Sg.row)),some (num c.signals.length),some (num k)]++List.replicate 14 none
theorem z3r(c:Ct)(A:Nat)(hn:c.signals.length<=128){st:St}(h0:At (T56 c 0) (h56 c A 0) st):∃r,ev pg (.code (.going 18 L44_0) st)=some r/\qaj (.exit 0) (T56 c c.signals.length) (h56 c A c.signals.length) r:=by
 refine qfc c.signals.length (T56 c) (h56 c A) _ ?_ ?_ h0
 .intro k f hf hk
  have hk':(k:Int)<c.signals.length:=by omega
  have wk:=qab (n:=(k:Int)+1) (by omega) (by omega)
  have hl:=q8m c (k:=k) (by omega)
  have e:=qhx (A:=c.signals.map Sg.init) (B:=List.replicate c.signals.length false) (by simp) (k:=k) (by simpa using hk)
  rw[List.getElem_map]at e
  unfold h56 T56 ini
  rw[<-e]
  unfold ini at hl
  generalize mix (c.signals.map Sg.init) (List.replicate c.signals.length false) k=W at *
  have hkW:k<W.length:=by omega
  simp[qaa,exT,qae,L44_0,hk,hk',wk,hkW,hf.ne]
 .intro f hf
  unfold h56 T56 ini
  generalize mix (c.signals.map Sg.init) (List.replicate c.signals.length false) c.signals.length=W at *
  simp[L44_0,hf.ne]
def qxt(c:Ct):Ste×Int:=if c.check=0 then(qca c,0)else(zeroS,c.check)
theorem ev44(c:Ct)(hfew:c.small=true):ev pg (.call (.fn 44 [] []) [c.v] [])=some { v:=.tup [(qxt c).1.v,num (qxt c).2],st:=⟨[],[]⟩ }:=by
 have e79:=ev43 c hfew
 unfold qxt
 by_cases hc:c.check=0
 .have hF:=qtp hfew hc
  have hM:=hF.mid
  have e87:=ev110 hM (qgf c) hF.small hF.shp (q4s hc hfew)
  have hl:=@z3r c c.act.toNat hM.sig
  have hact:=hM.act
  have hhi:=hM.hi
  have hinp:=hM.inp
  have hsig:=hM.sig
  rw[if_pos hc]
  rw[hc]at e79
  unfold qca
  generalize qdc c (qgf c)=u at *
  have z0:ini c 0=List.replicate c.signals.length false:=qft _ _
  have z1:ini c c.signals.length=c.signals.map Sg.init:=by
   have:=qhw (A:=c.signals.map Sg.init) (B:=List.replicate c.signals.length false) (by simp)
   rwa [List.length_map]at this
  unfold h56 at hl
  rw[z0,z1]at hl
  unfold qgf at e87
  generalize c.act.toNat=A at *
  have e87':ev pg (.call (.fn 110 [] []) [.agg [num c.act,.imm (c.inputs.map zai),.imm (c.signals.map Sg.row),qel c.plus,qel c.minus],.agg [.imm (List.replicate A [num 0]),.imm (List.replicate A [.bool false]),.imm (List.replicate c.inputs.length [.bool false]),.imm (c.signals.map (qen∘Sg.init)),.imm (List.replicate c.signals.length [num 0])]] [])=some { v:=u.v,st:=⟨[],[]⟩ }:=by
   rw[<-e87]
   simp only[Ste.v,Ste.cells,qel,qdt,List.map_replicate,List.map_map]
  rw[hact]at e87'
  have e79':ev pg (.call (.fn 43 [] []) [.agg [num (A:Int),.imm (c.inputs.map zai),.imm (c.signals.map Sg.row),qel c.plus,qel c.minus]] [])=some { v:=num 0,st:=⟨[],[]⟩ }:=by rw[<-hact];exact e79
  have a1:A*8<=140737488355328:=by omega
  have a2:A<=4611686018427387904:=by omega
  have a3:A<=140737488355328:=by omega
  have i2:c.inputs.length<=4611686018427387904:=by omega
  have i3:c.inputs.length<=140737488355328:=by omega
  have s1:c.signals.length*8<=140737488355328:=by omega
  have s2:c.signals.length<=4611686018427387904:=by omega
  have s3:c.signals.length<=140737488355328:=by omega
  rw[qac,pg44]
  simp[qaa,exT,qae,ir44,e79',hact,a1,a2,a3,i2,i3,s1,s2,s3,qaf]
  generalize hr:ev pg (.code (.going _ L44_0) _)=o
  obtain⟨r,rfl,f,hf,rfl⟩:∃r,o=some r/\_:=by rw[<-hr];exact hl (by simp[T56,hact])
  simp[T56,hact,e87']
 .rw[if_neg hc]
  have hb:(c.check==0)=false:=by simpa using hc
  rw[qac,pg44]
  generalize c.check=e at *
  simp[ir44,e79,hc,hb,zeroS]
theorem ev11(c:Ct)(hfew:c.small=true):ev pg (.call (.fn 11 [] []) [c.v] [])=some { v:=q5u (qap c),st:=⟨[],[]⟩ }:=by
 have e56:=ev44 c hfew
 unfold qxt at e56
 unfold qap
 rw[qac,pg11]
 by_cases h:c.check=0
 .have hR:=qcz h
  have e16:=ev45 c (qca c) hfew (Rdy.small ⟨hfew,hR⟩)
  unfold qqk at e16
  rw[if_pos hR]at e16
  rw[if_pos h]at e56 ⊢
  simp only at e56
  generalize qkg c (qca c)=x at *
  generalize qca c=b at *
  simp[ir11,e56,e16]
 .rw[if_neg h]at e56 ⊢
  simp only at e56
  have hb:(c.check==0)=false:=by simpa using h
  generalize c.check=e at *
  simp[ir11,e56,h,hb,zeroS]
abbrev Evn.v(x:Evn):V:=.agg x.row
def zdm(x y:Evn):Bool:=y.kind==x.kind&&y.idx==x.idx
abbrev h94(s:Ste)(x:Evn):H:=[⟨0,.box s.cells⟩,⟨0,.box x.row⟩]
def T94(l:List Evn)(k:Nat):Tm:=[none,none,some (.bptr 0 0),some (.bptr 1 0),some (.bool false),some (evs l),some (num k)]++List.replicate 51 none
def zzr:Tm:=[none,none,none,none,some (.bool true)]++List.replicate 53 none
theorem z3y(s:Ste)(x:Evn)(l:List Evn)(hn:l.length<=100000){st:St}(h0:At (T94 l 0) (h94 s x) st):∃r,ev pg (.code (.going 2 L226_0) st)=some r/\qmo l.length (fun k=>((l[k]?).map (zdm x)).getD false) (fun _=>qaj .ret zzr (h94 s x)) (qaj (.exit 0) (T94 l l.length) (h94 s x)) r:=by
 refine qcx _ _ (T94 l) (h94 s x) _ _ ?_ ?_ ?_ h0
 .intro k f hf hk hp
  have hk':(k:Int)<l.length:=by omega
  have wk:=qab (n:=(k:Int)+1) (by omega) (by omega)
  simp only[jA hk,Option.map_some,Option.getD_some,zdm]at hp
  unfold T94
  by_cases h1:l[k].kind=x.kind
  .have h1b:(l[k].kind==x.kind)=true:=by simpa using h1
   rw[h1b,Bool.true_and]at hp
   have h2:¬l[k].idx=x.idx:=by simpa using hp
   simp[qaa,exT,qae,L226_0,hk,hk',wk,h1,hp,hf.ne]
  .have h1b:(l[k].kind==x.kind)=false:=by simpa using h1
   simp[qaa,exT,qae,L226_0,hk,hk',wk,h1,h1b,hf.ne]
 .intro k f hf hk hp
  have hk':(k:Int)<l.length:=by omega
  simp only[jA hk,Option.map_some,Option.getD_some,zdm,jE,beq_iff_eq]at hp
  obtain⟨h1,h2⟩:=hp
  unfold T94
  simp[qaa,exT,qae,L226_0,hk,hk',h1,h2,hf.ne]
  simp[zzr,hf.ne]
 .intro f hf
  unfold T94
  simp[L226_0,hf.ne]
theorem qwj{s:Ste}{y:Evn}:y∈qtc s<->(∃i,i<s.ends.length/\qcr s 0 i=true/\y=⟨0,(i:Nat),false⟩)\/∃i,i<s.timers.length/\qcr s 1 i=true/\y=⟨1,(i:Nat),false⟩:=by
 unfold qtc
 simp only[jQ,List.mem_map,List.mem_filter,List.mem_range]
 constructor
 .rintro(⟨i,⟨h1,h2⟩,rfl⟩ | ⟨i,⟨h1,h2⟩,rfl⟩)
  .exact .inl ⟨i,h1,h2,rfl⟩
  .exact .inr ⟨i,h1,h2,rfl⟩
 .rintro(⟨i,h1,h2,rfl⟩ | ⟨i,h1,h2,rfl⟩)
  .exact .inl ⟨i,⟨h1,h2⟩,rfl⟩
  .exact .inr ⟨i,⟨h1,h2⟩,rfl⟩
theorem zdn{s:Ste}{x:Evn}(hk:x.kind=0\/x.kind=1):qqi s x=(qtc s).any (zdm x):=by
 rw[Bool.eq_iff_iff,List.any_eq_true]
 unfold qqi
 constructor
 .intro h
  by_cases hi:x.idx<0
  .rw[if_pos hi]at h;cases h
  .rw[if_neg hi,if_neg (by omega)]at h
   have hx:((x.idx.toNat:Nat):Int)=x.idx:=by omega
   rcases hk with h0 | h0
   .rw[h0]at h
    obtain⟨hi2,_⟩:=q3b h
    refine⟨⟨0,(x.idx.toNat:Nat),false⟩,qwj.2 (.inl ⟨_,hi2,h,rfl⟩),?_⟩
    simp only[zdm,h0,hx,beq_self_eq_true,Bool.and_self]
   .rw[h0]at h
    obtain⟨hi2,_⟩:=qot h
    refine⟨⟨1,(x.idx.toNat:Nat),false⟩,qwj.2 (.inr ⟨_,hi2,h,rfl⟩),?_⟩
    simp only[zdm,h0,hx,beq_self_eq_true,Bool.and_self]
 .rintro⟨y,hy,hm⟩
  simp only[zdm,jE,beq_iff_eq]at hm
  obtain⟨m1,m2⟩:=hm
  rcases qwj.1 hy with⟨i,h1,h2,rfl⟩ | ⟨i,h1,h2,rfl⟩
  .simp only at m1 m2
   rw[if_neg (by omega),if_neg (by omega),<-m1,<-m2]
   exact h2
  .simp only at m1 m2
   rw[if_neg (by omega),if_neg (by omega),<-m1,<-m2]
   exact h2
theorem q9j{s:Ste}{x:Evn}(hk:x.kind=2):qqi s x=if x.idx<0 then false else((s.inputs[x.idx.toNat]?).map fun v=>v != x.val).getD false:=by
 unfold qqi
 rw[if_pos hk]
theorem zdx(s:Ste)(hs:s.small):(qtc s).length<=100000:=by
 have h1:=qnx 0 (qcr s 0) s.ends.length
 have h2:=qnx 1 (qcr s 1) s.timers.length
 have:=hs.e
 have:=hs.t
 rw[qwi,jF]
 omega
theorem ev226(s:Ste)(hs:s.small)(x:Evn)(hk:¬(x.kind<0\/2<x.kind)):ev pg (.call (.fn 226 [] []) [s.v,x.v] [])=some { v:=.bool (qqi s x),st:=⟨[],[]⟩ }:=by
 rw[qac,pg226]
 by_cases h2:x.kind=2
 .rw[q9j h2]
  by_cases hi:x.idx<0
  .have hi':¬0<=x.idx:=by omega
   simp[qaa,exT,qae,ir226,h2,hi,hi']
  .have hi':0<=x.idx:=by omega
   by_cases hl:x.idx<s.inputs.length
   .have hn:x.idx.toNat<s.inputs.length:=by omega
    simp[qaa,exT,qae,ir226,h2,hi,hi',hl,hn]
    cases s.inputs[x.idx.toNat]<;>cases x.val<;>rfl
   .have hn:¬x.idx.toNat<s.inputs.length:=by omega
    simp[qaa,exT,qae,ir226,h2,hi,hi',hl,hn]
 .have hb:(x.kind==2)=false:=by simpa using h2
  rw[zdn (by omega)]
  have h53:=ev269 s hs
  have hl:=@z3y s x (qtc s) (zdx s hs)
  generalize qtc s=l at *
  simp[ir226,hb,h2,h53,qaf]
  generalize hr:ev pg (.code (.going _ L226_0) _)=o
  obtain⟨r,rfl,hQ⟩:∃r,o=some r/\_:=by rw[<-hr];exact hl (by simp[T94])
  clear hr
  rcases hQ with⟨k,hk,hp,-,f,hf,rfl⟩ | ⟨hp,f,hf,rfl⟩
  .have:l.any (zdm x)=true:=by
    rw[List.any_eq_true]
    exact⟨l[k],jH hk,by simpa[hk]using hp⟩
   rw[this]
   simp[zzr]
  .have:l.any (zdm x)=false:=by
    rw[List.any_eq_false]
    intro y hy
    obtain⟨j,hj,rfl⟩:=List.getElem_of_mem hy
    have:=hp j hj
    simp[hj]at this
    rw[this]
    simp
   rw[this]
   simp[T94]
theorem znu{s:Ste}{x:Evn}(h:qqi s x=true):0<=x.idx:=by
 unfold qqi at h
 split at h
 .cases h
 .omega
set_option maxHeartbeats 1000000 in
theorem ev227{c:Ct}{s:Ste}(hS:Shp c s)(hs:s.small)(x:Evn)(hk:¬(x.kind<0\/2<x.kind))(hm:qqi s x=true):ev pg (.call (.fn 227 [] []) [s.v,x.v] [])=some { v:=(qfa s x).v,st:=⟨[],[]⟩ }:=by
 have h130:=ev221 s hs
 have hi:=znu hm
 unfold qqi at hm
 rw[if_neg (by omega)]at hm
 rw[qac,pg227]
 unfold qfa
 by_cases h0:x.kind=0
 .rw[if_neg (by omega),h0]at hm
  obtain⟨hi2,he⟩:=q3b hm
  rw[if_pos h0]
  have hl:s.ends[x.idx.toNat]?=some s.ends[x.idx.toNat]:=jA hi2
  rcases he with he | he<;>simp[ir227,h130,h0,hi,hi2,hl,he]
 .have h0b:(x.kind==0)=false:=by simpa using h0
  rw[if_neg h0]
  by_cases h1:x.kind=1
  .rw[if_neg (by omega),h1]at hm
   obtain⟨hi2,he⟩:=qot hm
   have hi3:x.idx.toNat<s.values.length:=by rw[hS.v,<-hS.t];exact hi2
   rw[if_pos h1]
   simp[qaa,exT,qae,ir227,h130,h0,h1,hi,hi2,hi3]
  .have h1b:(x.kind==1)=false:=by simpa using h1
   rw[if_neg h1]
   have h2:x.kind=2:=by omega
   rw[if_pos h2]at hm
   have hi2:x.idx.toNat<s.inputs.length:=by
    rcases Nat.lt_or_ge x.idx.toNat s.inputs.length with h | h
    .exact h
    .rw[jX h]at hm;simp at hm
   simp[ir227,h130,h2,hi,hi2]
theorem ev174{c:Ct}{s:Ste}(h:Rdy c s)(x:Evn):ev pg (.call (.fn 174 [] []) [c.v,s.v,x.v] [])=some { v:=q5u (qbr c s x),st:=⟨[],[]⟩ }:=by
 unfold qbr
 rw[qac,pg174]
 by_cases hlo:x.kind<0
 .rw[if_pos (.inl hlo)]
  simp[ir174,hlo,zeroS]
 .by_cases hhi:2<x.kind
  .rw[if_pos (.inr hhi)]
   simp[ir174,hlo,hhi,zeroS]
  .have hk:¬(x.kind<0\/2<x.kind):=by omega
   rw[if_neg hk]
   have h94:=ev226 s h.small x hk
   cases hm:qqi s x with
   | false =>
    rw[hm]at h94
    simp[ir174,hlo,hhi,h94,zeroS]
   | true =>
    rw[hm]at h94
    have h95:=ev227 h.shp h.small x hk hm
    have h55:=ev171 (c:=c) (s:=qfa s x) ⟨h.few,qid h.st hk hm⟩
    generalize qfa s x=u at *
    generalize qkg c u=z at *
    simp[qaa,exT,qae,ir174,hlo,hhi,h94,h95,h55]
abbrev zzs:List V:=[.fn 117 [.bptr 14 0] [],.fn 118 [.bptr 14 0] [],.fn 119 [.bptr 14 0] []]
abbrev hF(c:Ct)(s:Ste)(x:List V)(t:Ste):H:=[⟨0,.box c.cells⟩,⟨0,.box s.cells⟩,⟨0,.box x⟩,o0,o0,o0,o0,o0,⟨0,.box (qwx 3)⟩]++ar5 t++[⟨0,.box (sl5 9 t)⟩,⟨0,.box zzs⟩]
set_option maxHeartbeats 1000000 in
set_option maxHeartbeats 1000000 in
theorem ev117{c:Ct}{s:Ste}(hS:Shp c s)(id:Int)(vl:Bool):ev pg (.call (.fn 117 [.bptr 14 0] []) [.agg [num 0,num id,.bool vl]] (hF c s [num 0,num id,.bool vl] s))=some { v:=.bool (qqi s ⟨0,id,vl⟩),st:=⟨[],hF c s [num 0,num id,.bool vl] (if qqi s ⟨0,id,vl⟩=true then qfa s ⟨0,id,vl⟩else s)⟩ }:=by
 have hvt:s.values.length=s.timers.length:=by rw[hS.v,hS.t]
 unfold qqi qfa
 simp only
 rw[qac,pg117]
 by_cases hi:id<0
 .simp[qaa,exT,qae,ir117,hi]
 .obtain⟨n,rfl⟩:∃n:Nat,id=n:=⟨id.toNat,by omega⟩
  have hi':¬(n:Int)<0:=by omega
  by_cases hl:s.ends.length<=n
  .have hn:¬n<s.ends.length:=by omega
   have hl':(s.ends.length:Int)<=n:=by omega
   simp[qaa,exT,qae,ir117,hi',hl,hl',hn,qcr]
  .have hn:n<s.ends.length:=by omega
   have hl':¬(s.ends.length:Int)<=n:=by omega
   by_cases h1:s.ends[n]=1
   .simp[qaa,exT,qae,ir117,hl,hl',hi',hn,h1,qcr]
   .have h1b:(s.ends[n]==1)=false:=by simpa using h1
    by_cases h3:s.ends[n]=3
    .simp[qaa,exT,qae,ir117,hl,hl',hi',hn,h3,qcr]
    .have h3b:(s.ends[n]==3)=false:=by simpa using h3
     simp[qaa,exT,qae,ir117,hl,hl',hi',hn,h1,h1b,h3,h3b,qcr]
set_option maxHeartbeats 1000000 in
theorem ev118{c:Ct}{s:Ste}(hS:Shp c s)(id:Int)(vl:Bool):ev pg (.call (.fn 118 [.bptr 14 0] []) [.agg [num 1,num id,.bool vl]] (hF c s [num 1,num id,.bool vl] s))=some { v:=.bool (qqi s ⟨1,id,vl⟩),st:=⟨[],hF c s [num 1,num id,.bool vl] (if qqi s ⟨1,id,vl⟩=true then qfa s ⟨1,id,vl⟩else s)⟩ }:=by
 have hvt:s.values.length=s.timers.length:=by rw[hS.v,hS.t]
 unfold qqi qfa
 simp only
 rw[qac,pg118]
 by_cases hi:id<0
 .simp[qaa,exT,qae,ir118,hi]
 .obtain⟨n,rfl⟩:∃n:Nat,id=n:=⟨id.toNat,by omega⟩
  have hi':¬(n:Int)<0:=by omega
  by_cases hl:s.timers.length<=n
  .have hn:¬n<s.timers.length:=by omega
   have hl':(s.timers.length:Int)<=n:=by omega
   simp[qaa,exT,qae,ir118,hi',hl,hl',hn,qcr]
  .have hn:n<s.timers.length:=by omega
   have hl':¬(s.timers.length:Int)<=n:=by omega
   have hn2:n<s.values.length:=by omega
   by_cases h1:s.timers[n]=1
   .simp[qaa,exT,qae,ir118,hl,hl',hi',hn,hn2,h1,qcr]
   .have h1b:(s.timers[n]==1)=false:=by simpa using h1
    simp[qaa,exT,qae,ir118,hl,hl',hi',hn,h1,h1b,qcr]
set_option maxHeartbeats 1000000 in
theorem ev119{c:Ct}{s:Ste}(hS:Shp c s)(id:Int)(vl:Bool):ev pg (.call (.fn 119 [.bptr 14 0] []) [.agg [num 2,num id,.bool vl]] (hF c s [num 2,num id,.bool vl] s))=some { v:=.bool (qqi s ⟨2,id,vl⟩),st:=⟨[],hF c s [num 2,num id,.bool vl] (if qqi s ⟨2,id,vl⟩=true then qfa s ⟨2,id,vl⟩else s)⟩ }:=by
 have hvt:s.values.length=s.timers.length:=by rw[hS.v,hS.t]
 unfold qqi qfa
 simp only
 rw[qac,pg119]
 by_cases hi:id<0
 .simp[qaa,exT,qae,ir119,hi]
 .obtain⟨n,rfl⟩:∃n:Nat,id=n:=⟨id.toNat,by omega⟩
  have hi':¬(n:Int)<0:=by omega
  by_cases hl:s.inputs.length<=n
  .have hn:¬n<s.inputs.length:=by omega
   have hl':(s.inputs.length:Int)<=n:=by omega
   simp[qaa,exT,qae,ir119,hi',hl,hl',hn,qcr]
  .have hn:n<s.inputs.length:=by omega
   have hl':¬(s.inputs.length:Int)<=n:=by omega
   generalize hb:s.inputs[n]=b
   cases b<;>cases vl<;>simp[qaa,exT,qae,ir119,hl,hl',hi',hn,hb]
end Go.Proofs.YtddeacahiilikaaGreat
