/- What follows. -/
import Derived.Test.YtggbaapfbgjaeaaGreatDoorFQu3
set_option linter.all false
namespace Go.Proofs.YtggbaapfbgjaeaaGreatDoor
open Go Go.Am Go.Proofs
set_option maxRecDepth 100000
abbrev h56(c:Ct)(A:Nat)(k:Nat):H:=[⟨0,.box c.cells⟩,o0,o0,o0,o0,o0,⟨0,.box (q3u 1)⟩,⟨1,.arr 1 (List.replicate A [num 0])⟩,⟨1,.arr 1 (List.replicate A [.bool false])⟩,⟨1,.arr 1 (List.replicate c.inputs.length [.bool false])⟩,⟨1,.arr 1 ((ini c k).map qfj)⟩,⟨1,.arr 1 (List.replicate c.signals.length [num 0])⟩,o0,o0,o0,o0,o0,⟨0,.box [.sl 7 1 1 0 A,.sl 8 1 1 0 A,.sl 9 1 1 0 c.inputs.length,.sl 10 1 1 0 c.signals.length,.sl 11 1 1 0 c.signals.length]⟩]
def T56(c:Ct)(k:Nat):Tm:=[none,bN 0,bN 6,nN 0,none,none,bN 17]++zN 27++[some (.imm (c.signals.map Sg.row)),some (num c.signals.length),nN k]++zN 14
theorem z6u(c:Ct)(A:Nat)(hn:c.signals.length<=128){st:St}(h0:At (T56 c 0) (h56 c A 0) st):∃r,ev pg (.code (.going 18 L84_0) st)=some r/\qar (.exit 0) (T56 c c.signals.length) (h56 c A c.signals.length) r:=by
 refine qfn c.signals.length (T56 c) (h56 c A) _ ?_ ?_ h0
 .intro k f hf hk;have hk':(k:Int)<c.signals.length:=by omega
  have wk:=qbc k;have hl:=zig c (k:=k) (by omega);have e:=qki (A:=c.signals.map Sg.init) (B:=List.replicate c.signals.length false) (by simp) (k:=k) (by simpa using hk);rw[List.getElem_map]at e;unfold h56 T56 ini;rw[<-e];unfold ini at hl;generalize mix (c.signals.map Sg.init) (List.replicate c.signals.length false) k=W at *;have hkW:k<W.length:=by omega
  simp[qab,exT,qag,L84_0,hk,hk',wk,hkW,hf.ne]
 .intro f hf;unfold h56 T56 ini;generalize mix (c.signals.map Sg.init) (List.replicate c.signals.length false) c.signals.length=W at *;simp[L84_0,hf.ne]
def qev(c:Ct):Ste×Int:=if c.check=0 then(qeh c,0)else(qfa,c.check)
theorem ev84(c:Ct)(hfew:c.small=true):ev pg (.call (fnq 84) [c.v] [])=some (rvq (.tup [(qev c).1.v,num (qev c).2])):=by
 have e79:=ev44 c hfew;unfold qev;by_cases hc:c.check=0
 .have hF:=qzq hfew hc;have hM:=hF.mid;have e87:=ev131 hM (qhq c) hF.small hF.shp (zdd hc hfew);have hl:=@z6u c c.act.toNat hM.sig;have hact:=hM.act;have hhi:=hM.hi;have hinp:=hM.inp;have hsig:=hM.sig;rw[if_pos hc];rw[hc]at e79;unfold qeh;generalize qdp c (qhq c)=u at *;have z0:ini c 0=List.replicate c.signals.length false:=qhl _ _;have z1:ini c c.signals.length=c.signals.map Sg.init:=by
   have:=qkh (A:=c.signals.map Sg.init) (B:=List.replicate c.signals.length false) (by simp);rwa [List.length_map]at this
  unfold h56 at hl;rw[z0,z1]at hl;unfold qhq at e87;generalize c.act.toNat=A at *;have e87':ev pg (.call (fnq 131) [.agg [num c.act,.imm (c.inputs.map qpq),.imm (c.signals.map Sg.row),qcr c.plus,qcr c.minus],.agg [.imm (List.replicate A [num 0]),.imm (List.replicate A [.bool false]),.imm (List.replicate c.inputs.length [.bool false]),.imm (c.signals.map (qfj∘Sg.init)),.imm (List.replicate c.signals.length [num 0])]] [])=some (rvq (u.v)):=by rw[<-e87];simp only[Ste.v,Ste.cells,qcr,qdc,List.map_replicate,List.map_map]
  rw[hact]at e87';have e79':ev pg (.call (fnq 44) [.agg [num (A:Int),.imm (c.inputs.map qpq),.imm (c.signals.map Sg.row),qcr c.plus,qcr c.minus]] [])=some (rvq (num 0)):=by rw[<-hact];exact e79
  have a1:A*8<=140737488355328:=by omega
  have a2:A<=4611686018427387904:=by omega
  have a3:A<=140737488355328:=by omega
  have i2:c.inputs.length<=4611686018427387904:=by omega
  have i3:c.inputs.length<=140737488355328:=by omega
  have s1:c.signals.length*8<=140737488355328:=by omega
  have s2:c.signals.length<=4611686018427387904:=by omega
  have s3:c.signals.length<=140737488355328:=by omega
  rw[qaa,pg84.1];simp[qab,exT,qag,ir84,e79',hact,a1,a2,a3,i2,i3,s1,s2,s3,qai];generalize hr:ev pg (.code (.going _ L84_0) _)=o;obtain⟨r,rfl,f,hf,rfl⟩:∃r,o=some r/\_:=by rw[<-hr];exact hl (by simp[T56,hact])
  simp[T56,hact,e87']
 .rw[if_neg hc];have hb:(c.check==0)=false:=by simpa using hc
  rw[qaa,pg84.1];generalize c.check=e at *;simp[ir84,e79,hc,hb,qfa]
theorem ev85(c:Ct)(hfew:c.small=true):ev pg (.call (fnq 85) [c.v] [])=some (rvq (zec (qbz c))):=by
 have e56:=ev84 c hfew;unfold qev at e56;unfold qbz;rw[qaa,pg85.1];by_cases h:c.check=0
 .have hR:=qdi h;have e16:=ev132 c (qeh c) hfew (Rdy.small ⟨hfew,hR⟩);unfold quz at e16;rw[if_pos hR]at e16;rw[if_pos h]at e56 ⊢;simp only at e56;generalize qjn c (qeh c)=x at *;generalize qeh c=b at *;simp[ir85,e56,e16]
 .rw[if_neg h]at e56 ⊢;simp only at e56;have hb:(c.check==0)=false:=by simpa using h
  generalize c.check=e at *;simp[ir85,e56,h,hb,qfa]
abbrev Evn.v(x:Evn):V:=.agg x.row
def zoc(x y:Evn):Bool:=y.kind==x.kind&&y.idx==x.idx
abbrev h94(s:Ste)(x:Evn):H:=[⟨0,.box s.cells⟩,⟨0,.box x.row⟩]
def T94(l:List Evn)(k:Nat):Tm:=[none,none,bN 0,bN 1,some (.bool false),some (evs l),nN k]++zN 51
def z2n:Tm:=[none,none,none,none,some (.bool true)]++zN 53
theorem z7b(s:Ste)(x:Evn)(l:List Evn)(hn:l.length<=100000){st:St}(h0:At (T94 l 0) (h94 s x) st):∃r,ev pg (.code (.going 2 L192_0) st)=some r/\qph l.length (fun k=>((l[k]?).map (zoc x)).getD false) (fun _=>qar .ret z2n (h94 s x)) (qar (.exit 0) (T94 l l.length) (h94 s x)) r:=by
 refine qdw _ _ (T94 l) (h94 s x) _ _ ?_ ?_ ?_ h0
 .intro k f hf hk hp;have hk':(k:Int)<l.length:=by omega
  have wk:=qbc k;simp only[jA hk,Option.map_some,Option.getD_some,zoc]at hp;unfold T94;by_cases h1:l[k].kind=x.kind
  .have h1b:(l[k].kind==x.kind)=true:=by simpa using h1
   rw[h1b,Bool.true_and]at hp;have h2:¬l[k].idx=x.idx:=by simpa using hp
   simp[qab,exT,qag,L192_0,hk,hk',wk,h1,hp,hf.ne]
  .have h1b:(l[k].kind==x.kind)=false:=by simpa using h1
   simp[qab,exT,qag,L192_0,hk,hk',wk,h1,h1b,hf.ne]
 .intro k f hf hk hp;have hk':(k:Int)<l.length:=by omega
  simp only[jA hk,Option.map_some,Option.getD_some,zoc,jE,beq_iff_eq]at hp;obtain⟨h1,h2⟩:=hp;unfold T94;simp[qab,exT,qag,L192_0,hk,hk',h1,h2,hf.ne];simp[z2n,hf.ne]
 .intro f hf;unfold T94;simp[L192_0,hf.ne]
theorem q2x{s:Ste}{y:Evn}:y∈qjk s<->(∃i,i<s.ends.length/\qbr s 0 i=true/\y=⟨0,(i:Nat),false⟩)\/∃i,i<s.timers.length/\qbr s 1 i=true/\y=⟨1,(i:Nat),false⟩:=by
 unfold qjk;simp only[jQ,List.mem_map,List.mem_filter,List.mem_range];constructor
 .rintro(⟨i,⟨h1,h2⟩,rfl⟩ | ⟨i,⟨h1,h2⟩,rfl⟩)
  .exact .inl ⟨i,h1,h2,rfl⟩
  .exact .inr ⟨i,h1,h2,rfl⟩
 .rintro(⟨i,h1,h2,rfl⟩ | ⟨i,h1,h2,rfl⟩)
  .exact .inl ⟨i,⟨h1,h2⟩,rfl⟩
  .exact .inr ⟨i,⟨h1,h2⟩,rfl⟩
theorem zod{s:Ste}{x:Evn}(hk:x.kind=0\/x.kind=1):qpz s x=(qjk s).any (zoc x):=by
 rw[Bool.eq_iff_iff,List.any_eq_true];unfold qpz;constructor
 .intro h;by_cases hi:x.idx<0
  .rw[if_pos hi]at h;cases h
  .rw[if_neg hi,if_neg (by omega)]at h;have hx:((x.idx.toNat:Nat):Int)=x.idx:=by omega
   rcases hk with h0 | h0
   .rw[h0]at h;obtain⟨hi2,_⟩:=qvq h;refine⟨⟨0,(x.idx.toNat:Nat),false⟩,q2x.2 (.inl ⟨_,hi2,h,rfl⟩),?_⟩;simp only[zoc,h0,hx,beq_self_eq_true,Bool.and_self]
   .rw[h0]at h;obtain⟨hi2,_⟩:=qtf h;refine⟨⟨1,(x.idx.toNat:Nat),false⟩,q2x.2 (.inr ⟨_,hi2,h,rfl⟩),?_⟩;simp only[zoc,h0,hx,beq_self_eq_true,Bool.and_self]
 .rintro⟨y,hy,hm⟩;simp only[zoc,jE,beq_iff_eq]at hm;obtain⟨m1,m2⟩:=hm;rcases q2x.1 hy with⟨i,h1,h2,rfl⟩ | ⟨i,h1,h2,rfl⟩
  .simp only at m1 m2;rw[if_neg (by omega),if_neg (by omega),<-m1,<-m2];exact h2
  .simp only at m1 m2;rw[if_neg (by omega),if_neg (by omega),<-m1,<-m2];exact h2
theorem zjc{s:Ste}{x:Evn}(hk:x.kind=2):qpz s x=if x.idx<0 then false else((s.inputs[x.idx.toNat]?).map fun v=>v != x.val).getD false:=by unfold qpz;rw[if_pos hk]
theorem zoq(s:Ste)(hs:s.small):(qjk s).length<=100000:=by have h1:=qjz 0 (qbr s 0) s.ends.length;have h2:=qjz 1 (qbr s 1) s.timers.length;have:=hs.e;have:=hs.t;rw[qvp,jF];omega
theorem ev192(s:Ste)(hs:s.small)(x:Evn)(hk:¬(x.kind<0\/2<x.kind)):ev pg (.call (fnq 192) [s.v,x.v] [])=some (rvq (.bool (qpz s x))):=by
 rw[qaa,pg192.1];by_cases h2:x.kind=2
 .rw[zjc h2];by_cases hi:x.idx<0
  .have hi':¬0<=x.idx:=by omega
   simp[qab,exT,qag,ir192,h2,hi,hi']
  .have hi':0<=x.idx:=by omega
   by_cases hl:x.idx<s.inputs.length
   .have hn:x.idx.toNat<s.inputs.length:=by omega
    simp[qab,exT,qag,ir192,h2,hi,hi',hl,hn];cases s.inputs[x.idx.toNat]<;>cases x.val<;>rfl
   .have hn:¬x.idx.toNat<s.inputs.length:=by omega
    simp[qab,exT,qag,ir192,h2,hi,hi',hl,hn]
 .have hb:(x.kind==2)=false:=by simpa using h2
  rw[zod (by omega)];have h53:=ev137 s hs;have hl:=@z7b s x (qjk s) (zoq s hs);generalize qjk s=l at *;simp[ir192,hb,h2,h53,qai];generalize hr:ev pg (.code (.going _ L192_0) _)=o;obtain⟨r,rfl,hQ⟩:∃r,o=some r/\_:=by rw[<-hr];exact hl (by simp[T94])
  clear hr;rcases hQ with⟨k,hk,hp,-,f,hf,rfl⟩ | ⟨hp,f,hf,rfl⟩
  .have:l.any (zoc x)=true:=by
    rw[List.any_eq_true];exact⟨l[k],jH hk,by simpa[hk]using hp⟩
   rw[this];simp[z2n]
  .have:l.any (zoc x)=false:=by
    rw[List.any_eq_false];intro y hy;obtain⟨j,hj,rfl⟩:=List.getElem_of_mem hy;have:=hp j hj;simp[hj]at this;rw[this];simp
   rw[this];simp[T94]
theorem zuj{s:Ste}{x:Evn}(h:qpz s x=true):0<=x.idx:=by
 unfold qpz at h;split at h
 .cases h
 .omega
set_option maxHeartbeats 1000000 in
theorem ev193{c:Ct}{s:Ste}(hS:Shp c s)(hs:s.small)(x:Evn)(hk:¬(x.kind<0\/2<x.kind))(hm:qpz s x=true):ev pg (.call (fnq 193) [s.v,x.v] [])=some (rvq ((qek s x).v)):=by
 have h130:=ev189 s hs;have hi:=zuj hm;unfold qpz at hm;rw[if_neg (by omega)]at hm;rw[qaa,pg193.1];unfold qek;by_cases h0:x.kind=0
 .rw[if_neg (by omega),h0]at hm;obtain⟨hi2,he⟩:=qvq hm;rw[if_pos h0];have hl:s.ends[x.idx.toNat]?=some s.ends[x.idx.toNat]:=jA hi2;rcases he with he | he<;>simp[ir193,h130,h0,hi,hi2,hl,he]
 .have h0b:(x.kind==0)=false:=by simpa using h0
  rw[if_neg h0];by_cases h1:x.kind=1
  .rw[if_neg (by omega),h1]at hm;obtain⟨hi2,he⟩:=qtf hm;have hi3:x.idx.toNat<s.values.length:=by rw[hS.v,<-hS.t];exact hi2
   rw[if_pos h1];simp[qab,exT,qag,ir193,h130,h0,h1,hi,hi2,hi3]
  .have h1b:(x.kind==1)=false:=by simpa using h1
   rw[if_neg h1];have h2:x.kind=2:=by omega
   rw[if_pos h2]at hm;have hi2:x.idx.toNat<s.inputs.length:=by
    rcases Nat.lt_or_ge x.idx.toNat s.inputs.length with h | h
    .exact h
    .rw[jY h]at hm;simp at hm
   simp[ir193,h130,h2,hi,hi2]
theorem ev139{c:Ct}{s:Ste}(h:Rdy c s)(x:Evn):ev pg (.call (fnq 139) [c.v,s.v,x.v] [])=some (rvq (zec (qee c s x))):=by
 unfold qee;rw[qaa,pg139.1];by_cases hlo:x.kind<0
 .rw[if_pos (.inl hlo)];simp[ir139,hlo,qfa]
 .by_cases hhi:2<x.kind
  .rw[if_pos (.inr hhi)];simp[ir139,hlo,hhi,qfa]
  .have hk:¬(x.kind<0\/2<x.kind):=by omega
   rw[if_neg hk];have h94:=ev192 s h.small x hk;cases hm:qpz s x with
   | false =>rw[hm]at h94;simp[ir139,hlo,hhi,h94,qfa]
   | true =>rw[hm]at h94;have h95:=ev193 h.shp h.small x hk hm;have h55:=ev136 (c:=c) (s:=qek s x) ⟨h.few,qgh h.st hk hm⟩;generalize qek s x=u at *;generalize qjn c u=z at *;simp[qab,exT,qag,ir139,hlo,hhi,h94,h95,h55]
abbrev qfb(p:Int×Bool):List V:=[num p.1,.bool p.2]
abbrev q3k(l:List (Int×Bool)):V:=.imm (l.map qfb)
def qfd(a b:Ste)(k:Nat):List (Int×Bool):=(List.range k).filterMap (qrb a b)
theorem que(a b:Ste)(k:Nat):qfd a b (k+1)=qfd a b k++(match qrb a b k with | some p=>[p] | none=>[]):=by unfold qfd;rw[List.range_succ,List.filterMap_append];cases h:qrb a b k<;>simp[h]
theorem qhb(a b:Ste)(k:Nat):(qfd a b k).length<=k:=by unfold qfd;exact Nat.le_trans (List.length_filterMap_le _ _) (by simp)
theorem qmx(a b:Ste):qmw a b=qfd a b a.ends.length:=rfl
abbrev gm2(a:Nat×Nat):Prop:=a.2=2\/a.2=0
abbrev h64(x y:Ste)(k:Nat)(a:Nat×Nat):H:=[⟨0,.box x.cells⟩,⟨0,.box y.cells⟩,o0,⟨a.1,.arr a.2 ((qfd x y k).map qfb)⟩]
def T64(x y:Ste)(k:Nat)(a:Nat×Nat):Tm:=[none,none,bN 0,bN 1,some (.sl 2 0 0 0 0),some (.sl 3 a.1 a.2 0 (qfd x y k).length),nN k]++zN 46
set_option maxHeartbeats 1000000 in
theorem z6x(x y:Ste)(hs:x.small)(he:y.ends.length=x.ends.length){st:St}(a0:Nat×Nat)(g0:gm2 a0)(h0:At (T64 x y 0 a0) (h64 x y 0 a0) st):∃r,ev pg (.code (.going 4 L91_0) st)=some r/\∃a,gm2 a/\qar (.exit 0) (T64 x y x.ends.length a) (h64 x y x.ends.length a) r:=by
 have hse:=hs.e;refine qcg x.ends.length (T64 x y) (h64 x y) (fun _ a=>gm2 a) _ ?_ ?_ a0 g0 h0
 .rintro k ⟨g,m⟩ f hf hk hG;have hk':(k:Int)<x.ends.length:=by omega
  have hk2:k<y.ends.length:=by omega
  have wk:=qbc k;have hsl:=qhb x y k;have hp:qrb x y k=if(y.ends[k]=1\/y.ends[k]=3)/\x.ends[k]≠y.ends[k]then some ((k:Int),y.ends[k]==1)else none:=by unfold qrb;rw[jA hk,jA hk2]
  unfold T64 h64;rw[que,hp];generalize qfd x y k=B at *;have hb1:(B.length+1)*16<=140737488355328:=by omega
  have hmm:m=2\/m=0:=hG;by_cases h1:y.ends[k]=1
  .by_cases h2:x.ends[k]=1
   .rcases hmm with rfl | rfl<;>simp[qab,exT,qag,L91_0,hk,hk',hk2,wk,h1,h2,hb1,hf.ne]
   .have h2b:(x.ends[k]==1)=false:=by simpa using h2
    rcases hmm with rfl | rfl<;>simp[qab,exT,qag,L91_0,hk,hk',hk2,wk,h1,h2,h2b,hb1,hf.ne]
  .have h1b:(y.ends[k]==1)=false:=by simpa using h1
   by_cases h3:y.ends[k]=3
   .by_cases h2:x.ends[k]=3
    .rcases hmm with rfl | rfl<;>simp[qab,exT,qag,L91_0,hk,hk',hk2,wk,h3,h2,hb1,hf.ne]
    .have h2b:(x.ends[k]==3)=false:=by simpa using h2
     rcases hmm with rfl | rfl<;>simp[qab,exT,qag,L91_0,hk,hk',hk2,wk,h3,h2,h2b,hb1,hf.ne]
   .have h3b:(y.ends[k]==3)=false:=by simpa using h3
    rcases hmm with rfl | rfl<;>simp[qab,exT,qag,L91_0,hk,hk',hk2,wk,h1,h1b,h3,h3b,hf.ne]
 .rintro⟨g,m⟩ f hf hG;unfold T64 h64;generalize qfd x y x.ends.length=B at *;have hmm:m=2\/m=0:=hG;rcases hmm with rfl | rfl<;>simp[L91_0,hf.ne]
theorem ev91(x y:Ste)(hs:x.small)(he:y.ends.length=x.ends.length):ev pg (.call (fnq 91) [x.v,y.v] [])=some (rvq (q3k (qmw x y))):=by
 have hl:=@z6x x y hs he;have z0:qfd x y 0=[]:=rfl;unfold h64 T64 at hl;rw[z0,<-qmx]at hl;generalize qmw x y=B at *;rw[qaa,pg91.1];simp[ir91,qai];generalize hr:ev pg (.code (.going _ L91_0) _)=o;obtain⟨r,rfl,⟨g,m⟩,hm,f,hf,rfl⟩:∃r,o=some r/\_:=by rw[<-hr];exact hl (0,0) (.inr rfl) (by simp)
 clear hr;have hmm:m=2\/m=0:=hm;rcases hmm with rfl | rfl<;>simp
abbrev z4n(l:List (Int×Bool)):List V:=[q3k l]
abbrev Crs.v(r:Crs):V:=.agg (r.st.cells++[.imm (r.strokes.map z4n),qcr r.conf])
def z5s(c:Ct)(s:Ste)(l:List Evn):Crs×Int×Int:=if quE c s=0 then(if 4096<l.length then(q9f,0,5)else qva c l 0 ⟨s,[],[]⟩)else(q9f,0,quE c s)
theorem zjz{c:Ct}{s:Ste}(hfew:c.small=true)(h:quE c s=0):Rdy c s:=by
 unfold quE at h;split at h
 .exact⟨hfew,by assumption⟩
 .rename_i h2;exact absurd h h2
abbrev z2o:List V:=[.fn 218 [.bptr 14 0] [],.fn 219 [.bptr 14 0] [],.fn 220 [.bptr 14 0] []]
abbrev hF(c:Ct)(s:Ste)(x:List V)(t:Ste):H:=[⟨0,.box c.cells⟩,⟨0,.box s.cells⟩,⟨0,.box x⟩,o0,o0,o0,o0,o0,⟨0,.box (q3u 3)⟩]++ar5 t++[⟨0,.box (sl5 9 t)⟩,⟨0,.box z2o⟩]
set_option maxHeartbeats 1000000 in
set_option maxHeartbeats 1000000 in
theorem ev218{c:Ct}{s:Ste}(hS:Shp c s)(id:Int)(vl:Bool):ev pg (.call (.fn 218 [.bptr 14 0] []) [.agg [num 0,num id,.bool vl]] (hF c s [num 0,num id,.bool vl] s))=some { v:=.bool (qpz s ⟨0,id,vl⟩),st:=⟨[],hF c s [num 0,num id,.bool vl] (if qpz s ⟨0,id,vl⟩=true then qek s ⟨0,id,vl⟩else s)⟩ }:=by
 have hvt:s.values.length=s.timers.length:=by rw[hS.v,hS.t]
 unfold qpz qek;simp only;rw[qaa,pg218.1];by_cases hi:id<0
 .simp[qab,exT,qag,ir218,hi]
 .obtain⟨n,rfl⟩:∃n:Nat,id=n:=⟨id.toNat,by omega⟩
  have hi':¬(n:Int)<0:=by omega
  by_cases hl:s.ends.length<=n
  .have hn:¬n<s.ends.length:=by omega
   have hl':(s.ends.length:Int)<=n:=by omega
   simp[qab,exT,qag,ir218,hi',hl,hl',hn,qbr]
  .have hn:n<s.ends.length:=by omega
   have hl':¬(s.ends.length:Int)<=n:=by omega
   by_cases h1:s.ends[n]=1
   .simp[qab,exT,qag,ir218,hl,hl',hi',hn,h1,qbr]
   .have h1b:(s.ends[n]==1)=false:=by simpa using h1
    by_cases h3:s.ends[n]=3
    .simp[qab,exT,qag,ir218,hl,hl',hi',hn,h3,qbr]
    .have h3b:(s.ends[n]==3)=false:=by simpa using h3
     simp[qab,exT,qag,ir218,hl,hl',hi',hn,h1,h1b,h3,h3b,qbr]
set_option maxHeartbeats 1000000 in
theorem ev219{c:Ct}{s:Ste}(hS:Shp c s)(id:Int)(vl:Bool):ev pg (.call (.fn 219 [.bptr 14 0] []) [.agg [num 1,num id,.bool vl]] (hF c s [num 1,num id,.bool vl] s))=some { v:=.bool (qpz s ⟨1,id,vl⟩),st:=⟨[],hF c s [num 1,num id,.bool vl] (if qpz s ⟨1,id,vl⟩=true then qek s ⟨1,id,vl⟩else s)⟩ }:=by
 have hvt:s.values.length=s.timers.length:=by rw[hS.v,hS.t]
 unfold qpz qek;simp only;rw[qaa,pg219.1];by_cases hi:id<0
 .simp[qab,exT,qag,ir219,hi]
 .obtain⟨n,rfl⟩:∃n:Nat,id=n:=⟨id.toNat,by omega⟩
  have hi':¬(n:Int)<0:=by omega
  by_cases hl:s.timers.length<=n
  .have hn:¬n<s.timers.length:=by omega
   have hl':(s.timers.length:Int)<=n:=by omega
   simp[qab,exT,qag,ir219,hi',hl,hl',hn,qbr]
  .have hn:n<s.timers.length:=by omega
   have hl':¬(s.timers.length:Int)<=n:=by omega
   have hn2:n<s.values.length:=by omega
   by_cases h1:s.timers[n]=1
   .simp[qab,exT,qag,ir219,hl,hl',hi',hn,hn2,h1,qbr]
   .have h1b:(s.timers[n]==1)=false:=by simpa using h1
    simp[qab,exT,qag,ir219,hl,hl',hi',hn,h1,h1b,qbr]
set_option maxHeartbeats 1000000 in
theorem ev220{c:Ct}{s:Ste}(hS:Shp c s)(id:Int)(vl:Bool):ev pg (.call (.fn 220 [.bptr 14 0] []) [.agg [num 2,num id,.bool vl]] (hF c s [num 2,num id,.bool vl] s))=some { v:=.bool (qpz s ⟨2,id,vl⟩),st:=⟨[],hF c s [num 2,num id,.bool vl] (if qpz s ⟨2,id,vl⟩=true then qek s ⟨2,id,vl⟩else s)⟩ }:=by
 have hvt:s.values.length=s.timers.length:=by rw[hS.v,hS.t]
 unfold qpz qek;simp only;rw[qaa,pg220.1];by_cases hi:id<0
 .simp[qab,exT,qag,ir220,hi]
 .obtain⟨n,rfl⟩:∃n:Nat,id=n:=⟨id.toNat,by omega⟩
  have hi':¬(n:Int)<0:=by omega
  by_cases hl:s.inputs.length<=n
  .have hn:¬n<s.inputs.length:=by omega
   have hl':(s.inputs.length:Int)<=n:=by omega
   simp[qab,exT,qag,ir220,hi',hl,hl',hn,qbr]
  .have hn:n<s.inputs.length:=by omega
   have hl':¬(s.inputs.length:Int)<=n:=by omega
   generalize hb:s.inputs[n]=b;cases b<;>cases vl<;>simp[qab,exT,qag,ir220,hl,hl',hi',hn,hb]
end Go.Proofs.YtggbaapfbgjaeaaGreatDoor
