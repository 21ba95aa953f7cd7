/- What may. -/
import Derived.Test.YtggbaapfbgjaeaaGreatDoorQu3
set_option linter.all false
namespace Go.Proofs.YtggbaapfbgjaeaaGreatDoor
open Go Go.Am Go.Proofs
set_option maxRecDepth 100000
abbrev h56(c:Ct)(A:Nat)(k:Nat):H:=[⟨0,.box c.cells⟩,o0,o0,o0,o0,o0,⟨0,.box (q3k 1)⟩,⟨1,.arr 1 (List.replicate A [num 0])⟩,⟨1,.arr 1 (List.replicate A [.bool false])⟩,⟨1,.arr 1 (List.replicate c.inputs.length [.bool false])⟩,⟨1,.arr 1 ((ini c k).map qfi)⟩,⟨1,.arr 1 (List.replicate c.signals.length [num 0])⟩,o0,o0,o0,o0,o0,⟨0,.box [.sl 7 1 1 0 A,.sl 8 1 1 0 A,.sl 9 1 1 0 c.inputs.length,.sl 10 1 1 0 c.signals.length,.sl 11 1 1 0 c.signals.length]⟩]
def T56(c:Ct)(k:Nat):Tm:=[none,bN 0,bN 6,nN 0,none,none,bN 17]++zN 27++[some (.imm (c.signals.map Sg.row)),some (num c.signals.length),nN k]++zN 14
theorem z5c(c:Ct)(A:Nat)(hn:c.signals.length<=128){st:St}(h0:At (T56 c 0) (h56 c A 0) st):∃r,ev pg (.code (.going 18 L84_0) st)=some r/\qat (.exit 0) (T56 c c.signals.length) (h56 c A c.signals.length) r:=by
 refine qgj c.signals.length (T56 c) (h56 c A) _ ?_ ?_ h0
 .intro k f hf hk;have hk':(k:Int)<c.signals.length:=by omega
  have wk:=qbi k;have hl:=zho c (k:=k) (by omega);have e:=qkg (A:=c.signals.map Sg.init) (B:=List.replicate c.signals.length false) (by simp) (k:=k) (by simpa using hk);rw[List.getElem_map]at e;unfold h56 T56 ini;rw[<-e];unfold ini at hl;generalize mix (c.signals.map Sg.init) (List.replicate c.signals.length false) k=W at *;have hkW:k<W.length:=by omega
  simp[qaa,exT,qag,L84_0,hk,hk',wk,hkW,hf.ne]
 .intro f hf;unfold h56 T56 ini;generalize mix (c.signals.map Sg.init) (List.replicate c.signals.length false) c.signals.length=W at *;simp[L84_0,hf.ne]
def qer(c:Ct):Ste×Int:=if c.check=0 then(qef c,0)else(qex,c.check)
theorem ev84(c:Ct)(hfew:c.small=true):ev pg (.call (fnq 84) [c.v] [])=some (rvq (.tup [(qer c).1.v,num (qer c).2])):=by
 have e79:=ev44 c hfew;unfold qer;by_cases hc:c.check=0
 .have hF:=qzf hfew hc;have hM:=hF.mid;have e87:=ev131 hM (qhq c) hF.small hF.shp (zcp hc hfew);have hl:=@z5c c c.act.toNat hM.sig;have hact:=hM.act;have hhi:=hM.hi;have hinp:=hM.inp;have hsig:=hM.sig;rw[if_pos hc];rw[hc]at e79;unfold qef;generalize qdo c (qhq c)=u at *;have z0:ini c 0=List.replicate c.signals.length false:=qhl _ _;have z1:ini c c.signals.length=c.signals.map Sg.init:=by
   have:=qkf (A:=c.signals.map Sg.init) (B:=List.replicate c.signals.length false) (by simp);rwa [List.length_map]at this
  unfold h56 at hl;rw[z0,z1]at hl;unfold qhq at e87;generalize c.act.toNat=A at *;have e87':ev pg (.call (fnq 131) [.agg [num c.act,.imm (c.inputs.map qpk),.imm (c.signals.map Sg.row),qct c.plus,qct c.minus],.agg [.imm (List.replicate A [num 0]),.imm (List.replicate A [.bool false]),.imm (List.replicate c.inputs.length [.bool false]),.imm (c.signals.map (qfi∘Sg.init)),.imm (List.replicate c.signals.length [num 0])]] [])=some (rvq (u.v)):=by rw[<-e87];simp only[Ste.v,Ste.cells,qct,qdb,List.map_replicate,List.map_map]
  rw[hact]at e87';have e79':ev pg (.call (fnq 44) [.agg [num (A:Int),.imm (c.inputs.map qpk),.imm (c.signals.map Sg.row),qct c.plus,qct c.minus]] [])=some (rvq (num 0)):=by rw[<-hact];exact e79
  have a1:A*8<=140737488355328:=by omega
  have a2:A<=4611686018427387904:=by omega
  have a3:A<=140737488355328:=by omega
  have i2:c.inputs.length<=4611686018427387904:=by omega
  have i3:c.inputs.length<=140737488355328:=by omega
  have s1:c.signals.length*8<=140737488355328:=by omega
  have s2:c.signals.length<=4611686018427387904:=by omega
  have s3:c.signals.length<=140737488355328:=by omega
  rw[qab,pg84.1];simp[qaa,exT,qag,ir84,e79',hact,a1,a2,a3,i2,i3,s1,s2,s3,qah];generalize hr:ev pg (.code (.going _ L84_0) _)=o;obtain⟨r,rfl,f,hf,rfl⟩:∃r,o=some r/\_:=by rw[<-hr];exact hl (by simp[T56,hact])
  simp[T56,hact,e87']
 .rw[if_neg hc];have hb:(c.check==0)=false:=by simpa using hc
  rw[qab,pg84.1];generalize c.check=e at *;simp[ir84,e79,hc,hb,qex]
theorem ev85(c:Ct)(hfew:c.small=true):ev pg (.call (fnq 85) [c.v] [])=some (rvq (zdo (qby c))):=by
 have e56:=ev84 c hfew;unfold qer at e56;unfold qby;rw[qab,pg85.1];by_cases h:c.check=0
 .have hR:=qdg h;have e16:=ev132 c (qef c) hfew (Rdy.small ⟨hfew,hR⟩);unfold qul at e16;rw[if_pos hR]at e16;rw[if_pos h]at e56 ⊢;simp only at e56;generalize qjm c (qef c)=x at *;generalize qef c=b at *;simp[ir85,e56,e16]
 .rw[if_neg h]at e56 ⊢;simp only at e56;have hb:(c.check==0)=false:=by simpa using h
  generalize c.check=e at *;simp[ir85,e56,h,hb,qex]
abbrev Evn.v(x:Evn):V:=.agg x.row
def zne(x y:Evn):Bool:=y.kind==x.kind&&y.idx==x.idx
abbrev h94(s:Ste)(x:Evn):H:=[⟨0,.box s.cells⟩,⟨0,.box x.row⟩]
def T94(l:List Evn)(k:Nat):Tm:=[none,none,bN 0,bN 1,some (.bool false),some (evs l),nN k]++zN 51
def z1e:Tm:=[none,none,none,none,some (.bool true)]++zN 53
theorem z5j(s:Ste)(x:Evn)(l:List Evn)(hn:l.length<=100000){st:St}(h0:At (T94 l 0) (h94 s x) st):∃r,ev pg (.code (.going 2 L192_0) st)=some r/\qmd l.length (fun k=>((l[k]?).map (zne x)).getD false) (fun _=>qat .ret z1e (h94 s x)) (qat (.exit 0) (T94 l l.length) (h94 s x)) r:=by
 refine qcw _ _ (T94 l) (h94 s x) _ _ ?_ ?_ ?_ h0
 .intro k f hf hk hp;have hk':(k:Int)<l.length:=by omega
  have wk:=qbi k;simp only[jA hk,Option.map_some,Option.getD_some,zne]at hp;unfold T94;by_cases h1:l[k].kind=x.kind
  .have h1b:(l[k].kind==x.kind)=true:=by simpa using h1
   rw[h1b,Bool.true_and]at hp;have h2:¬l[k].idx=x.idx:=by simpa using hp
   simp[qaa,exT,qag,L192_0,hk,hk',wk,h1,hp,hf.ne]
  .have h1b:(l[k].kind==x.kind)=false:=by simpa using h1
   simp[qaa,exT,qag,L192_0,hk,hk',wk,h1,h1b,hf.ne]
 .intro k f hf hk hp;have hk':(k:Int)<l.length:=by omega
  simp only[jA hk,Option.map_some,Option.getD_some,zne,jE,beq_iff_eq]at hp;obtain⟨h1,h2⟩:=hp;unfold T94;simp[qaa,exT,qag,L192_0,hk,hk',h1,h2,hf.ne];simp[z1e,hf.ne]
 .intro f hf;unfold T94;simp[L192_0,hf.ne]
theorem q2o{s:Ste}{y:Evn}:y∈qjj s<->(∃i,i<s.ends.length/\qbq s 0 i=true/\y=⟨0,(i:Nat),false⟩)\/∃i,i<s.timers.length/\qbq s 1 i=true/\y=⟨1,(i:Nat),false⟩:=by
 unfold qjj;simp only[jQ,List.mem_map,List.mem_filter,List.mem_range];constructor
 .rintro(⟨i,⟨h1,h2⟩,rfl⟩ | ⟨i,⟨h1,h2⟩,rfl⟩)
  .exact .inl ⟨i,h1,h2,rfl⟩
  .exact .inr ⟨i,h1,h2,rfl⟩
 .rintro(⟨i,h1,h2,rfl⟩ | ⟨i,h1,h2,rfl⟩)
  .exact .inl ⟨i,⟨h1,h2⟩,rfl⟩
  .exact .inr ⟨i,⟨h1,h2⟩,rfl⟩
theorem znf{s:Ste}{x:Evn}(hk:x.kind=0\/x.kind=1):qpu s x=(qjj s).any (zne x):=by
 rw[Bool.eq_iff_iff,List.any_eq_true];unfold qpu;constructor
 .intro h;by_cases hi:x.idx<0
  .rw[if_pos hi]at h;cases h
  .rw[if_neg hi,if_neg (by omega)]at h;have hx:((x.idx.toNat:Nat):Int)=x.idx:=by omega
   rcases hk with h0 | h0
   .rw[h0]at h;obtain⟨hi2,_⟩:=qvb h;refine⟨⟨0,(x.idx.toNat:Nat),false⟩,q2o.2 (.inl ⟨_,hi2,h,rfl⟩),?_⟩;simp only[zne,h0,hx,beq_self_eq_true,Bool.and_self]
   .rw[h0]at h;obtain⟨hi2,_⟩:=qsv h;refine⟨⟨1,(x.idx.toNat:Nat),false⟩,q2o.2 (.inr ⟨_,hi2,h,rfl⟩),?_⟩;simp only[zne,h0,hx,beq_self_eq_true,Bool.and_self]
 .rintro⟨y,hy,hm⟩;simp only[zne,jE,beq_iff_eq]at hm;obtain⟨m1,m2⟩:=hm;rcases q2o.1 hy with⟨i,h1,h2,rfl⟩ | ⟨i,h1,h2,rfl⟩
  .simp only at m1 m2;rw[if_neg (by omega),if_neg (by omega),<-m1,<-m2];exact h2
  .simp only at m1 m2;rw[if_neg (by omega),if_neg (by omega),<-m1,<-m2];exact h2
theorem zih{s:Ste}{x:Evn}(hk:x.kind=2):qpu s x=if x.idx<0 then false else((s.inputs[x.idx.toNat]?).map fun v=>v != x.val).getD false:=by unfold qpu;rw[if_pos hk]
theorem znr(s:Ste)(hs:s.small):(qjj s).length<=100000:=by have h1:=qjy 0 (qbq s 0) s.ends.length;have h2:=qjy 1 (qbq s 1) s.timers.length;have:=hs.e;have:=hs.t;rw[qva,jF];omega
theorem ev192(s:Ste)(hs:s.small)(x:Evn)(hk:¬(x.kind<0\/2<x.kind)):ev pg (.call (fnq 192) [s.v,x.v] [])=some (rvq (.bool (qpu s x))):=by
 rw[qab,pg192.1];by_cases h2:x.kind=2
 .rw[zih h2];by_cases hi:x.idx<0
  .have hi':¬0<=x.idx:=by omega
   simp[qaa,exT,qag,ir192,h2,hi,hi']
  .have hi':0<=x.idx:=by omega
   by_cases hl:x.idx<s.inputs.length
   .have hn:x.idx.toNat<s.inputs.length:=by omega
    simp[qaa,exT,qag,ir192,h2,hi,hi',hl,hn];cases s.inputs[x.idx.toNat]<;>cases x.val<;>rfl
   .have hn:¬x.idx.toNat<s.inputs.length:=by omega
    simp[qaa,exT,qag,ir192,h2,hi,hi',hl,hn]
 .have hb:(x.kind==2)=false:=by simpa using h2
  rw[znf (by omega)];have h53:=ev137 s hs;have hl:=@z5j s x (qjj s) (znr s hs);generalize qjj s=l at *;simp[ir192,hb,h2,h53,qah];generalize hr:ev pg (.code (.going _ L192_0) _)=o;obtain⟨r,rfl,hQ⟩:∃r,o=some r/\_:=by rw[<-hr];exact hl (by simp[T94])
  clear hr;rcases hQ with⟨k,hk,hp,-,f,hf,rfl⟩ | ⟨hp,f,hf,rfl⟩
  .have:l.any (zne x)=true:=by
    rw[List.any_eq_true];exact⟨l[k],jH hk,by simpa[hk]using hp⟩
   rw[this];simp[z1e]
  .have:l.any (zne x)=false:=by
    rw[List.any_eq_false];intro y hy;obtain⟨j,hj,rfl⟩:=List.getElem_of_mem hy;have:=hp j hj;simp[hj]at this;rw[this];simp
   rw[this];simp[T94]
theorem ztd{s:Ste}{x:Evn}(h:qpu s x=true):0<=x.idx:=by
 unfold qpu at h;split at h
 .cases h
 .omega
set_option maxHeartbeats 1000000 in
theorem ev193{c:Ct}{s:Ste}(hS:Shp c s)(hs:s.small)(x:Evn)(hk:¬(x.kind<0\/2<x.kind))(hm:qpu s x=true):ev pg (.call (fnq 193) [s.v,x.v] [])=some (rvq ((qei s x).v)):=by
 have h130:=ev189 s hs;have hi:=ztd hm;unfold qpu at hm;rw[if_neg (by omega)]at hm;rw[qab,pg193.1];unfold qei;by_cases h0:x.kind=0
 .rw[if_neg (by omega),h0]at hm;obtain⟨hi2,he⟩:=qvb hm;rw[if_pos h0];have hl:s.ends[x.idx.toNat]?=some s.ends[x.idx.toNat]:=jA hi2;rcases he with he | he<;>simp[ir193,h130,h0,hi,hi2,hl,he]
 .have h0b:(x.kind==0)=false:=by simpa using h0
  rw[if_neg h0];by_cases h1:x.kind=1
  .rw[if_neg (by omega),h1]at hm;obtain⟨hi2,he⟩:=qsv hm;have hi3:x.idx.toNat<s.values.length:=by rw[hS.v,<-hS.t];exact hi2
   rw[if_pos h1];simp[qaa,exT,qag,ir193,h130,h0,h1,hi,hi2,hi3]
  .have h1b:(x.kind==1)=false:=by simpa using h1
   rw[if_neg h1];have h2:x.kind=2:=by omega
   rw[if_pos h2]at hm;have hi2:x.idx.toNat<s.inputs.length:=by
    rcases Nat.lt_or_ge x.idx.toNat s.inputs.length with h | h
    .exact h
    .rw[jY h]at hm;simp at hm
   simp[ir193,h130,h2,hi,hi2]
theorem ev139{c:Ct}{s:Ste}(h:Rdy c s)(x:Evn):ev pg (.call (fnq 139) [c.v,s.v,x.v] [])=some (rvq (zdo (qec c s x))):=by
 unfold qec;rw[qab,pg139.1];by_cases hlo:x.kind<0
 .rw[if_pos (.inl hlo)];simp[ir139,hlo,qex]
 .by_cases hhi:2<x.kind
  .rw[if_pos (.inr hhi)];simp[ir139,hlo,hhi,qex]
  .have hk:¬(x.kind<0\/2<x.kind):=by omega
   rw[if_neg hk];have h94:=ev192 s h.small x hk;cases hm:qpu s x with
   | false =>rw[hm]at h94;simp[ir139,hlo,hhi,h94,qex]
   | true =>rw[hm]at h94;have h95:=ev193 h.shp h.small x hk hm;have h55:=ev136 (c:=c) (s:=qei s x) ⟨h.few,qgd h.st hk hm⟩;generalize qei s x=u at *;generalize qjm c u=z at *;simp[qaa,exT,qag,ir139,hlo,hhi,h94,h95,h55]
end Go.Proofs.YtggbaapfbgjaeaaGreatDoor
