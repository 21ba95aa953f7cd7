/- What may happen, and what happens, by the reference. -/
import Derived.Test.YtbepbclaoohngaaGreatCQu3
import Derived.KernelRfl
set_option linter.all false
namespace Go.Proofs.YtbepbclaoohngaaGreat
open Go Go.Am Go.Proofs
set_option maxRecDepth 100000
abbrev h56(c:Ct)(A:Nat)(k:Nat):H:=[⟨0,.box c.cells⟩,o0,o0,o0,o0,o0,⟨0,.box (q3v 1)⟩,⟨1,.arr 1 (List.replicate A [num 0])⟩,⟨1,.arr 1 (List.replicate A [.bool false])⟩,⟨1,.arr 1 (List.replicate c.inputs.length [.bool false])⟩,⟨1,.arr 1 ((ini c k).map qfi)⟩,⟨1,.arr 1 (List.replicate c.signals.length [num 0])⟩,o0,o0,o0,o0,o0,⟨0,.box [.sl 7 1 1 0 A,.sl 8 1 1 0 A,.sl 9 1 1 0 c.inputs.length,.sl 10 1 1 0 c.signals.length,.sl 11 1 1 0 c.signals.length]⟩]
def T56(c:Ct)(k:Nat):Tm:=[none,bN 0,bN 6,nN 0,none,none,bN 17]++zN 27++[some (.imm (c.signals.map Sg.row)),some (num c.signals.length),nN k]++zN 14
theorem jhi(c:Ct)(A:Nat)(hn:c.signals.length<=128){st:St}(h0:At (T56 c 0) (h56 c A 0) st):∃r,ev pg (.code (.going 18 L88_0) st)=some r/\qas (.exit 0) (T56 c c.signals.length) (h56 c A c.signals.length) r:=by
 refine qfy c.signals.length (T56 c) (h56 c A) _ ?_ ?_ h0
 .intro k f hf hk
  have hk':(k:Int)<c.signals.length:=by omega
  have wk:=qbb (k:=k) (by omega)
  have hl:=zhq c (k:=k) (by omega)
  have e:=qke (A:=c.signals.map Sg.init) (B:=List.replicate c.signals.length false) (by simp) (k:=k) (by simpa using hk)
  rw[List.getElem_map]at e
  unfold h56 T56 ini
  rw[<-e]
  unfold ini at hl
  generalize mix (c.signals.map Sg.init) (List.replicate c.signals.length false) k=W at *
  have hkW:k<W.length:=by omega
  simp[qab,exT,qak,L88_0,hk,hk',wk,hkW,hf.ne]
 .intro f hf
  unfold h56 T56 ini
  generalize mix (c.signals.map Sg.init) (List.replicate c.signals.length false) c.signals.length=W at *
  simp[L88_0,hf.ne]
def q9v(c:Ct):Ste×Int:=if c.check=0 then(qgj c,0)else(zeroS,c.check)
theorem ev88(c:Ct)(hfew:c.small=true):ev pg (.call (.fn 88 [] []) [c.v] [])=some { v:=.tup [(q9v c).1.v,num (q9v c).2],st:=⟨[],[]⟩ }:=by
 have e79:=ev87 c hfew
 unfold q9v
 by_cases hc:c.check=0
 .have hF:=qzg hfew hc
  have hM:=hF.mid
  have e87:=ev146 hM (qhp c) hF.small hF.shp (zct hc hfew)
  have hl:=@jhi c c.act.toNat hM.sig
  have hact:=hM.act
  have hhi:=hM.hi
  have hinp:=hM.inp
  have hsig:=hM.sig
  rw[if_pos hc]
  rw[hc]at e79
  unfold qgj
  generalize qdq c (qhp c)=u at *
  have z0:ini c 0=List.replicate c.signals.length false:=qhl _ _
  have z1:ini c c.signals.length=c.signals.map Sg.init:=by
   have:=qkd (A:=c.signals.map Sg.init) (B:=List.replicate c.signals.length false) (by simp)
   rwa [List.length_map]at this
  unfold h56 at hl
  rw[z0,z1]at hl
  unfold qhp at e87
  generalize c.act.toNat=A at *
  have e87':ev pg (.call (.fn 146 [] []) [.agg [num c.act,.imm (c.inputs.map qom),.imm (c.signals.map Sg.row),qeh c.plus,qeh c.minus],.agg [.imm (List.replicate A [num 0]),.imm (List.replicate A [.bool false]),.imm (List.replicate c.inputs.length [.bool false]),.imm (c.signals.map (qfi∘Sg.init)),.imm (List.replicate c.signals.length [num 0])]] [])=some { v:=u.v,st:=⟨[],[]⟩ }:=by
   rw[<-e87]
   simp only[Ste.v,Ste.cells,qeh,qdy,List.map_replicate,List.map_map]
  rw[hact]at e87'
  have e79':ev pg (.call (.fn 87 [] []) [.agg [num (A:Int),.imm (c.inputs.map qom),.imm (c.signals.map Sg.row),qeh c.plus,qeh c.minus]] [])=some { v:=num 0,st:=⟨[],[]⟩ }:=by rw[<-hact];exact e79
  have a1:A*8<=140737488355328:=by omega
  have a2:A<=4611686018427387904:=by omega
  have a3:A<=140737488355328:=by omega
  have i2:c.inputs.length<=4611686018427387904:=by omega
  have i3:c.inputs.length<=140737488355328:=by omega
  have s1:c.signals.length*8<=140737488355328:=by omega
  have s2:c.signals.length<=4611686018427387904:=by omega
  have s3:c.signals.length<=140737488355328:=by omega
  rw[qaa,pg88]
  simp[qab,exT,qak,ir88,e79',hact,a1,a2,a3,i2,i3,s1,s2,s3,qah]
  generalize hr:ev pg (.code (.going _ L88_0) _)=o
  obtain⟨r,rfl,f,hf,rfl⟩:∃r,o=some r/\_:=by rw[<-hr];exact hl (by simp[T56,hact])
  simp[T56,hact,e87']
 .rw[if_neg hc]
  have hb:(c.check==0)=false:=by simpa using hc
  rw[qaa,pg88]
  generalize c.check=e at *
  simp[ir88,e79,hc,hb,zeroS]
theorem ev39(c:Ct)(hfew:c.small=true):ev pg (.call (.fn 39 [] []) [c.v] [])=some { v:=q7b (qcr c),st:=⟨[],[]⟩ }:=by
 have e56:=ev88 c hfew
 unfold q9v at e56
 unfold qcr
 rw[qaa,pg39]
 by_cases h:c.check=0
 .have hR:=qfc h
  have e16:=ev89 c (qgj c) hfew (Rdy.small ⟨hfew,hR⟩)
  unfold qpq at e16
  rw[if_pos hR]at e16
  rw[if_pos h]at e56 ⊢
  simp only at e56
  generalize qhg c (qgj c)=x at *
  generalize qgj c=b at *
  simp[ir39,e56,e16]
 .rw[if_neg h]at e56 ⊢
  simp only at e56
  have hb:(c.check==0)=false:=by simpa using h
  generalize c.check=e at *
  simp[ir39,e56,h,hb,zeroS]
abbrev Evn.v(x:Evn):V:=.agg x.row
def znt(x y:Evn):Bool:=y.kind==x.kind&&y.idx==x.idx
abbrev h94(s:Ste)(x:Evn):H:=[⟨0,.box s.cells⟩,⟨0,.box x.row⟩]
def T94(l:List Evn)(k:Nat):Tm:=[none,none,bN 0,bN 1,some (.bool false),some (evs l),nN k]++zN 51
def jbi:Tm:=[none,none,none,none,some (.bool true)]++zN 53
theorem jho(s:Ste)(x:Evn)(l:List Evn)(hn:l.length<=100000){st:St}(h0:At (T94 l 0) (h94 s x) st):∃r,ev pg (.code (.going 2 L61_0) st)=some r/\qma l.length (fun k=>((l[k]?).map (znt x)).getD false) (fun _=>qas .ret jbi (h94 s x)) (qas (.exit 0) (T94 l l.length) (h94 s x)) r:=by
 refine qce _ _ (T94 l) (h94 s x) _ _ ?_ ?_ ?_ h0
 .intro k f hf hk hp
  have hk':(k:Int)<l.length:=by omega
  have wk:=qbb (k:=k) (by omega)
  simp only[jA hk,Option.map_some,Option.getD_some,znt]at hp
  unfold T94
  by_cases h1:l[k].kind=x.kind
  .have h1b:(l[k].kind==x.kind)=true:=by simpa using h1
   rw[h1b,Bool.true_and]at hp
   have h2:¬l[k].idx=x.idx:=by simpa using hp
   simp[qab,exT,qak,L61_0,hk,hk',wk,h1,hp,hf.ne]
  .have h1b:(l[k].kind==x.kind)=false:=by simpa using h1
   simp[qab,exT,qak,L61_0,hk,hk',wk,h1,h1b,hf.ne]
 .intro k f hf hk hp
  have hk':(k:Int)<l.length:=by omega
  simp only[jA hk,Option.map_some,Option.getD_some,znt,jE,beq_iff_eq]at hp
  obtain⟨h1,h2⟩:=hp
  unfold T94
  simp[qab,exT,qak,L61_0,hk,hk',h1,h2,hf.ne]
  simp[jbi,hf.ne]
 .intro f hf
  unfold T94
  simp[L61_0,hf.ne]
theorem q2u{s:Ste}{y:Evn}:y∈qdn s<->(∃i,i<s.ends.length/\qbn s 0 i=true/\y=⟨0,(i:Nat),false⟩)\/∃i,i<s.timers.length/\qbn s 1 i=true/\y=⟨1,(i:Nat),false⟩:=by
 unfold qdn
 simp only[jQ,List.mem_map,List.mem_filter,List.mem_range]
 constructor
 .rintro(⟨i,⟨h1,h2⟩,rfl⟩ | ⟨i,⟨h1,h2⟩,rfl⟩)
  .exact .inl ⟨i,h1,h2,rfl⟩
  .exact .inr ⟨i,h1,h2,rfl⟩
 .rintro(⟨i,h1,h2,rfl⟩ | ⟨i,h1,h2,rfl⟩)
  .exact .inl ⟨i,⟨h1,h2⟩,rfl⟩
  .exact .inr ⟨i,⟨h1,h2⟩,rfl⟩
theorem zoa{s:Ste}{x:Evn}(hk:x.kind=0\/x.kind=1):qpk s x=(qdn s).any (znt x):=by
 rw[Bool.eq_iff_iff,List.any_eq_true]
 unfold qpk
 constructor
 .intro h
  by_cases hi:x.idx<0
  .rw[if_pos hi]at h;cases h
  .rw[if_neg hi,if_neg (by omega)]at h
   have hx:((x.idx.toNat:Nat):Int)=x.idx:=by omega
   rcases hk with h0 | h0
   .rw[h0]at h
    obtain⟨hi2,_⟩:=qvh h
    refine⟨⟨0,(x.idx.toNat:Nat),false⟩,q2u.2 (.inl ⟨_,hi2,h,rfl⟩),?_⟩
    simp only[znt,h0,hx,beq_self_eq_true,Bool.and_self]
   .rw[h0]at h
    obtain⟨hi2,_⟩:=qsx h
    refine⟨⟨1,(x.idx.toNat:Nat),false⟩,q2u.2 (.inr ⟨_,hi2,h,rfl⟩),?_⟩
    simp only[znt,h0,hx,beq_self_eq_true,Bool.and_self]
 .rintro⟨y,hy,hm⟩
  simp only[znt,jE,beq_iff_eq]at hm
  obtain⟨m1,m2⟩:=hm
  rcases q2u.1 hy with⟨i,h1,h2,rfl⟩ | ⟨i,h1,h2,rfl⟩
  .simp only at m1 m2
   rw[if_neg (by omega),if_neg (by omega),<-m1,<-m2]
   exact h2
  .simp only at m1 m2
   rw[if_neg (by omega),if_neg (by omega),<-m1,<-m2]
   exact h2
theorem ziv{s:Ste}{x:Evn}(hk:x.kind=2):qpk s x=if x.idx<0 then false else((s.inputs[x.idx.toNat]?).map fun v=>v != x.val).getD false:=by
 unfold qpk
 rw[if_pos hk]
theorem zom(s:Ste)(hs:s.small):(qdn s).length<=100000:=by
 have h1:=qfa 0 (qbn s 0) s.ends.length
 have h2:=qfa 1 (qbn s 1) s.timers.length
 have:=hs.e
 have:=hs.t
 rw[qju,jF]
 omega
theorem ev61(s:Ste)(hs:s.small)(x:Evn)(hk:¬(x.kind<0\/2<x.kind)):ev pg (.call (.fn 61 [] []) [s.v,x.v] [])=some { v:=.bool (qpk s x),st:=⟨[],[]⟩ }:=by
 rw[qaa,pg61]
 by_cases h2:x.kind=2
 .rw[ziv h2]
  by_cases hi:x.idx<0
  .have hi':¬0<=x.idx:=by omega
   simp[qab,exT,qak,ir61,h2,hi,hi']
  .have hi':0<=x.idx:=by omega
   by_cases hl:x.idx<s.inputs.length
   .have hn:x.idx.toNat<s.inputs.length:=by omega
    simp[qab,exT,qak,ir61,h2,hi,hi',hl,hn]
    cases s.inputs[x.idx.toNat]<;>cases x.val<;>rfl
   .have hn:¬x.idx.toNat<s.inputs.length:=by omega
    simp[qab,exT,qak,ir61,h2,hi,hi',hl,hn]
 .have hb:(x.kind==2)=false:=by simpa using h2
  rw[zoa (by omega)]
  have h53:=ev120 s hs
  have hl:=@jho s x (qdn s) (zom s hs)
  generalize qdn s=l at *
  simp[ir61,hb,h2,h53,qah]
  generalize hr:ev pg (.code (.going _ L61_0) _)=o
  obtain⟨r,rfl,hQ⟩:∃r,o=some r/\_:=by rw[<-hr];exact hl (by simp[T94])
  clear hr
  rcases hQ with⟨k,hk,hp,-,f,hf,rfl⟩ | ⟨hp,f,hf,rfl⟩
  .have:l.any (znt x)=true:=by
    rw[List.any_eq_true]
    exact⟨l[k],jH hk,by simpa[hk]using hp⟩
   rw[this]
   simp[jbi]
  .have:l.any (znt x)=false:=by
    rw[List.any_eq_false]
    intro y hy
    obtain⟨j,hj,rfl⟩:=List.getElem_of_mem hy
    have:=hp j hj
    simp[hj]at this
    rw[this]
    simp
   rw[this]
   simp[T94]
theorem zvy{s:Ste}{x:Evn}(h:qpk s x=true):0<=x.idx:=by
 unfold qpk at h
 split at h
 .cases h
 .omega
set_option maxHeartbeats 1000000 in
theorem ev121{c:Ct}{s:Ste}(hS:Shp c s)(hs:s.small)(x:Evn)(hk:¬(x.kind<0\/2<x.kind))(hm:qpk s x=true):ev pg (.call (.fn 121 [] []) [s.v,x.v] [])=some { v:=(qeo s x).v,st:=⟨[],[]⟩ }:=by
 have h130:=ev192 s hs
 have hi:=zvy hm
 unfold qpk at hm
 rw[if_neg (by omega)]at hm
 rw[qaa,pg121]
 unfold qeo
 by_cases h0:x.kind=0
 .rw[if_neg (by omega),h0]at hm
  obtain⟨hi2,he⟩:=qvh hm
  rw[if_pos h0]
  have hl:s.ends[x.idx.toNat]?=some s.ends[x.idx.toNat]:=jA hi2
  rcases he with he | he<;>simp[ir121,h130,h0,hi,hi2,hl,he]
 .have h0b:(x.kind==0)=false:=by simpa using h0
  rw[if_neg h0]
  by_cases h1:x.kind=1
  .rw[if_neg (by omega),h1]at hm
   obtain⟨hi2,he⟩:=qsx hm
   have hi3:x.idx.toNat<s.values.length:=by rw[hS.v,<-hS.t];exact hi2
   rw[if_pos h1]
   simp[qab,exT,qak,ir121,h130,h0,h1,hi,hi2,hi3]
  .have h1b:(x.kind==1)=false:=by simpa using h1
   rw[if_neg h1]
   have h2:x.kind=2:=by omega
   rw[if_pos h2]at hm
   have hi2:x.idx.toNat<s.inputs.length:=by
    rcases Nat.lt_or_ge x.idx.toNat s.inputs.length with h | h
    .exact h
    .rw[jY h]at hm;simp at hm
   simp[ir121,h130,h2,hi,hi2]
theorem ev62{c:Ct}{s:Ste}(h:Rdy c s)(x:Evn):ev pg (.call (.fn 62 [] []) [c.v,s.v,x.v] [])=some { v:=q7b (qeb c s x),st:=⟨[],[]⟩ }:=by
 unfold qeb
 rw[qaa,pg62]
 by_cases hlo:x.kind<0
 .rw[if_pos (.inl hlo)]
  simp[ir62,hlo,zeroS]
 .by_cases hhi:2<x.kind
  .rw[if_pos (.inr hhi)]
   simp[ir62,hlo,hhi,zeroS]
  .have hk:¬(x.kind<0\/2<x.kind):=by omega
   rw[if_neg hk]
   have h94:=ev61 s h.small x hk
   cases hm:qpk s x with
   | false =>
    rw[hm]at h94
    simp[ir62,hlo,hhi,h94,zeroS]
   | true =>
    rw[hm]at h94
    have h95:=ev121 h.shp h.small x hk hm
    have h55:=ev118 (c:=c) (s:=qeo s x) ⟨h.few,qge h.st hk hm⟩
    generalize qeo s x=u at *
    generalize qhg c u=z at *
    simp[qab,exT,qak,ir62,hlo,hhi,h94,h95,h55]
end Go.Proofs.YtbepbclaoohngaaGreat
