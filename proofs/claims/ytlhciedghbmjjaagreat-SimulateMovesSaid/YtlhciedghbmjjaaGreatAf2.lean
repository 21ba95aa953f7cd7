/- What may happen, and what happens, by the reference. Strokes that are begun, and a run, by the reference. What follows an event, by the program. What follows an event, by the program: the functions; strokes that are begun. -/
import Derived.Test.YtlhciedghbmjjaaGreatQu2
import Derived.KernelRfl
import Derived.Test.YtlhciedghbmjjaaGreatGt2
set_option linter.all false
namespace Go.Proofs.YtlhciedghbmjjaaGreat
open Go Go.Am Go.Proofs
set_option maxRecDepth 100000
abbrev Evn.v(x:Evn):V:=.agg x.row
def zkk(x y:Evn):Bool:=y.kind==x.kind&&y.idx==x.idx
abbrev h94(s:Ste)(x:Evn):H:=[⟨0,.box s.cells⟩,⟨0,.box x.row⟩]
def T94(l:List Evn)(k:Nat):Tm:=[none,none,some (.bptr 0 0),some (.bptr 1 0),some (.bool false),some (evs l),some (num k)]++List.replicate 51 none
def z9x:Tm:=[none,none,none,none,some (.bool true)]++List.replicate 53 none
theorem jfx(s:Ste)(x:Evn)(l:List Evn)(hn:l.length<=100000){st:St}(h0:At (T94 l 0) (h94 s x) st):∃r,ev pg (.code (.going 2 L104_0) st)=some r/\qkt l.length (fun k=>((l[k]?).map (zkk x)).getD false) (fun _=>qag .ret z9x (h94 s x)) (qag (.exit 0) (T94 l l.length) (h94 s x)) r:=by
 refine qcw _ _ (T94 l) (h94 s x) _ _ ?_ ?_ ?_ h0
 .intro k f hf hk hp
  have hk':(k:Int)<l.length:=by omega
  have wk:=qab (n:=(k:Int)+1) (by omega) (by omega)
  simp only[jA hk,Option.map_some,Option.getD_some,zkk]at hp
  unfold T94
  by_cases h1:l[k].kind=x.kind
  .have h1b:(l[k].kind==x.kind)=true:=by simpa using h1
   rw[h1b,Bool.true_and]at hp
   have h2:¬l[k].idx=x.idx:=by simpa using hp
   simp[qaa,exT,qae,L104_0,hk,hk',wk,h1,hp,hf.ne]
  .have h1b:(l[k].kind==x.kind)=false:=by simpa using h1
   simp[qaa,exT,qae,L104_0,hk,hk',wk,h1,h1b,hf.ne]
 .intro k f hf hk hp
  have hk':(k:Int)<l.length:=by omega
  simp only[jA hk,Option.map_some,Option.getD_some,zkk,jE,beq_iff_eq]at hp
  obtain⟨h1,h2⟩:=hp
  unfold T94
  simp[qaa,exT,qae,L104_0,hk,hk',h1,h2,hf.ne]
  simp[z9x,hf.ne]
 .intro f hf
  unfold T94
  simp[L104_0,hf.ne]
theorem qzj{s:Ste}{y:Evn}:y∈qvu s<->(∃i,i<s.ends.length/\qdb s 0 i=true/\y=⟨0,(i:Nat),false⟩)\/∃i,i<s.timers.length/\qdb s 1 i=true/\y=⟨1,(i:Nat),false⟩:=by
 unfold qvu
 simp only[jQ,List.mem_map,List.mem_filter,List.mem_range]
 constructor
 .rintro(⟨i,⟨h1,h2⟩,rfl⟩ | ⟨i,⟨h1,h2⟩,rfl⟩)
  .exact .inl ⟨i,h1,h2,rfl⟩
  .exact .inr ⟨i,h1,h2,rfl⟩
 .rintro(⟨i,h1,h2,rfl⟩ | ⟨i,h1,h2,rfl⟩)
  .exact .inl ⟨i,⟨h1,h2⟩,rfl⟩
  .exact .inr ⟨i,⟨h1,h2⟩,rfl⟩
theorem zjf{s:Ste}{x:Evn}(hk:x.kind=0\/x.kind=1):qmt s x=(qvu s).any (zkk x):=by
 rw[Bool.eq_iff_iff,List.any_eq_true]
 unfold qmt
 constructor
 .intro h
  by_cases hi:x.idx<0
  .rw[if_pos hi]at h;cases h
  .rw[if_neg hi,if_neg (by omega)]at h
   have hx:((x.idx.toNat:Nat):Int)=x.idx:=by omega
   rcases hk with h0 | h0
   .rw[h0]at h
    obtain⟨hi2,_⟩:=q7e h
    refine⟨⟨0,(x.idx.toNat:Nat),false⟩,qzj.2 (.inl ⟨_,hi2,h,rfl⟩),?_⟩
    simp only[zkk,h0,hx,beq_self_eq_true,Bool.and_self]
   .rw[h0]at h
    obtain⟨hi2,_⟩:=qqp h
    refine⟨⟨1,(x.idx.toNat:Nat),false⟩,qzj.2 (.inr ⟨_,hi2,h,rfl⟩),?_⟩
    simp only[zkk,h0,hx,beq_self_eq_true,Bool.and_self]
 .rintro⟨y,hy,hm⟩
  simp only[zkk,jE,beq_iff_eq]at hm
  obtain⟨m1,m2⟩:=hm
  rcases qzj.1 hy with⟨i,h1,h2,rfl⟩ | ⟨i,h1,h2,rfl⟩
  .simp only at m1 m2
   rw[if_neg (by omega),if_neg (by omega),<-m1,<-m2]
   exact h2
  .simp only at m1 m2
   rw[if_neg (by omega),if_neg (by omega),<-m1,<-m2]
   exact h2
theorem zdv{s:Ste}{x:Evn}(hk:x.kind=2):qmt s x=if x.idx<0 then false else((s.inputs[x.idx.toNat]?).map fun v=>v != x.val).getD false:=by
 unfold qmt
 rw[if_pos hk]
theorem zkb(s:Ste)(hs:s.small):(qvu s).length<=100000:=by
 have h1:=qoa 0 (qdb s 0) s.ends.length
 have h2:=qoa 1 (qdb s 1) s.timers.length
 have:=hs.e
 have:=hs.t
 rw[qzq,jF]
 omega
theorem ev104(s:Ste)(hs:s.small)(x:Evn)(hk:¬(x.kind<0\/2<x.kind)):ev pg (.call (.fn 104 [] []) [s.v,x.v] [])=some { v:=.bool (qmt s x),st:=⟨[],[]⟩ }:=by
 rw[qac,pg104]
 by_cases h2:x.kind=2
 .rw[zdv h2]
  by_cases hi:x.idx<0
  .have hi':¬0<=x.idx:=by omega
   simp[qaa,exT,qae,ir104,h2,hi,hi']
  .have hi':0<=x.idx:=by omega
   by_cases hl:x.idx<s.inputs.length
   .have hn:x.idx.toNat<s.inputs.length:=by omega
    simp[qaa,exT,qae,ir104,h2,hi,hi',hl,hn]
    cases s.inputs[x.idx.toNat]<;>cases x.val<;>rfl
   .have hn:¬x.idx.toNat<s.inputs.length:=by omega
    simp[qaa,exT,qae,ir104,h2,hi,hi',hl,hn]
 .have hb:(x.kind==2)=false:=by simpa using h2
  rw[zjf (by omega)]
  have h53:=ev146 s hs
  have hl:=@jfx s x (qvu s) (zkb s hs)
  generalize qvu s=l at *
  simp[ir104,hb,h2,h53,qaf]
  generalize hr:ev pg (.code (.going _ L104_0) _)=o
  obtain⟨r,rfl,hQ⟩:∃r,o=some r/\_:=by rw[<-hr];exact hl (by simp[T94])
  clear hr
  rcases hQ with⟨k,hk,hp,-,f,hf,rfl⟩ | ⟨hp,f,hf,rfl⟩
  .have:l.any (zkk x)=true:=by
    rw[List.any_eq_true]
    exact⟨l[k],jH hk,by simpa[hk]using hp⟩
   rw[this]
   simp[z9x]
  .have:l.any (zkk x)=false:=by
    rw[List.any_eq_false]
    intro y hy
    obtain⟨j,hj,rfl⟩:=List.getElem_of_mem hy
    have:=hp j hj
    simp[hj]at this
    rw[this]
    simp
   rw[this]
   simp[T94]
theorem zsu{s:Ste}{x:Evn}(h:qmt s x=true):0<=x.idx:=by
 unfold qmt at h
 split at h
 .cases h
 .omega
set_option maxHeartbeats 1000000 in
theorem ev80{c:Ct}{s:Ste}(hS:Shp c s)(hs:s.small)(x:Evn)(hk:¬(x.kind<0\/2<x.kind))(hm:qmt s x=true):ev pg (.call (.fn 80 [] []) [s.v,x.v] [])=some { v:=(qcc s x).v,st:=⟨[],[]⟩ }:=by
 have h130:=ev106 s hs
 have hi:=zsu hm
 unfold qmt at hm
 rw[if_neg (by omega)]at hm
 rw[qac,pg80]
 unfold qcc
 by_cases h0:x.kind=0
 .rw[if_neg (by omega),h0]at hm
  obtain⟨hi2,he⟩:=q7e hm
  rw[if_pos h0]
  have hl:s.ends[x.idx.toNat]?=some s.ends[x.idx.toNat]:=jA hi2
  rcases he with he | he<;>simp[ir80,h130,h0,hi,hi2,hl,he]
 .have h0b:(x.kind==0)=false:=by simpa using h0
  rw[if_neg h0]
  by_cases h1:x.kind=1
  .rw[if_neg (by omega),h1]at hm
   obtain⟨hi2,he⟩:=qqp hm
   have hi3:x.idx.toNat<s.values.length:=by rw[hS.v,<-hS.t];exact hi2
   rw[if_pos h1]
   simp[qaa,exT,qae,ir80,h130,h0,h1,hi,hi2,hi3]
  .have h1b:(x.kind==1)=false:=by simpa using h1
   rw[if_neg h1]
   have h2:x.kind=2:=by omega
   rw[if_pos h2]at hm
   have hi2:x.idx.toNat<s.inputs.length:=by
    rcases Nat.lt_or_ge x.idx.toNat s.inputs.length with h | h
    .exact h
    .rw[jY h]at hm;simp at hm
   simp[ir80,h130,h2,hi,hi2]
theorem ev77{c:Ct}{s:Ste}(h:Rdy c s)(x:Evn):ev pg (.call (.fn 77 [] []) [c.v,s.v,x.v] [])=some { v:=zam (qah c s x),st:=⟨[],[]⟩ }:=by
 unfold qah
 rw[qac,pg77]
 by_cases hlo:x.kind<0
 .rw[if_pos (.inl hlo)]
  simp[ir77,hlo,zeroS]
 .by_cases hhi:2<x.kind
  .rw[if_pos (.inr hhi)]
   simp[ir77,hlo,hhi,zeroS]
  .have hk:¬(x.kind<0\/2<x.kind):=by omega
   rw[if_neg hk]
   have h94:=ev104 s h.small x hk
   cases hm:qmt s x with
   | false =>
    rw[hm]at h94
    simp[ir77,hlo,hhi,h94,zeroS]
   | true =>
    rw[hm]at h94
    have h95:=ev80 h.shp h.small x hk hm
    have h55:=ev105 (c:=c) (s:=qcc s x) ⟨h.few,qgh h.st hk hm⟩
    generalize qcc s x=u at *
    generalize qhj c u=z at *
    simp[qaa,exT,qae,ir77,hlo,hhi,h94,h95,h55]
abbrev zye(p:Int×Bool):List V:=[num p.1,.bool p.2]
abbrev q0n(l:List (Int×Bool)):V:=.imm (l.map zye)
def qfb(a b:Ste)(k:Nat):List (Int×Bool):=(List.range k).filterMap (qru a b)
theorem qrp(a b:Ste)(k:Nat):qfb a b (k+1)=qfb a b k++(match qru a b k with | some p=>[p] | none=>[]):=by
 unfold qfb
 rw[List.range_succ,List.filterMap_append]
 cases h:qru a b k<;>simp[h]
theorem qni(a b:Ste)(k:Nat):(qfb a b k).length<=k:=by
 unfold qfb
 exact Nat.le_trans (List.length_filterMap_le _ _) (by simp)
theorem q3k(a b:Ste):qdo a b=qfb a b a.ends.length:=rfl
abbrev gm2(a:Nat×Nat):Prop:=a.2=2\/a.2=0
abbrev h64(x y:Ste)(k:Nat)(a:Nat×Nat):H:=[⟨0,.box x.cells⟩,⟨0,.box y.cells⟩,o0,⟨a.1,.arr a.2 ((qfb x y k).map zye)⟩]
def T64(x y:Ste)(k:Nat)(a:Nat×Nat):Tm:=[none,none,some (.bptr 0 0),some (.bptr 1 0),some (.sl 2 0 0 0 0),some (.sl 3 a.1 a.2 0 (qfb x y k).length),some (num k)]++List.replicate 46 none
set_option maxHeartbeats 1000000 in
theorem jfr(x y:Ste)(hs:x.small)(he:y.ends.length=x.ends.length){st:St}(a0:Nat×Nat)(g0:gm2 a0)(h0:At (T64 x y 0 a0) (h64 x y 0 a0) st):∃r,ev pg (.code (.going 4 L78_0) st)=some r/\∃a,gm2 a/\qag (.exit 0) (T64 x y x.ends.length a) (h64 x y x.ends.length a) r:=by
 have hse:=hs.e
 refine qbn x.ends.length (T64 x y) (h64 x y) (fun _ a=>gm2 a) _ ?_ ?_ a0 g0 h0
 .rintro k ⟨g,m⟩ f hf hk hG
  have hk':(k:Int)<x.ends.length:=by omega
  have hk2:k<y.ends.length:=by omega
  have wk:=qab (n:=(k:Int)+1) (by omega) (by omega)
  have hsl:=qni x y k
  have hp:qru x y k=if(y.ends[k]=1\/y.ends[k]=3)/\x.ends[k]≠y.ends[k]then some ((k:Int),y.ends[k]==1)else none:=by
   unfold qru
   rw[jA hk,jA hk2]
  unfold T64 h64
  rw[qrp,hp]
  generalize qfb x y k=B at *
  have hb1:(B.length+1)*16<=140737488355328:=by omega
  have hmm:m=2\/m=0:=hG
  by_cases h1:y.ends[k]=1
  .by_cases h2:x.ends[k]=1
   .rcases hmm with rfl | rfl<;>simp[qaa,exT,qae,L78_0,hk,hk',hk2,wk,h1,h2,hb1,hf.ne]
   .have h2b:(x.ends[k]==1)=false:=by simpa using h2
    rcases hmm with rfl | rfl<;>simp[qaa,exT,qae,L78_0,hk,hk',hk2,wk,h1,h2,h2b,hb1,hf.ne]
  .have h1b:(y.ends[k]==1)=false:=by simpa using h1
   by_cases h3:y.ends[k]=3
   .by_cases h2:x.ends[k]=3
    .rcases hmm with rfl | rfl<;>simp[qaa,exT,qae,L78_0,hk,hk',hk2,wk,h3,h2,hb1,hf.ne]
    .have h2b:(x.ends[k]==3)=false:=by simpa using h2
     rcases hmm with rfl | rfl<;>simp[qaa,exT,qae,L78_0,hk,hk',hk2,wk,h3,h2,h2b,hb1,hf.ne]
   .have h3b:(y.ends[k]==3)=false:=by simpa using h3
    rcases hmm with rfl | rfl<;>simp[qaa,exT,qae,L78_0,hk,hk',hk2,wk,h1,h1b,h3,h3b,hf.ne]
 .rintro⟨g,m⟩ f hf hG
  unfold T64 h64
  generalize qfb x y x.ends.length=B at *
  have hmm:m=2\/m=0:=hG
  rcases hmm with rfl | rfl<;>simp[L78_0,hf.ne]
theorem ev78(x y:Ste)(hs:x.small)(he:y.ends.length=x.ends.length):ev pg (.call (.fn 78 [] []) [x.v,y.v] [])=some { v:=q0n (qdo x y),st:=⟨[],[]⟩ }:=by
 have hl:=@jfr x y hs he
 have z0:qfb x y 0=[]:=rfl
 unfold h64 T64 at hl
 rw[z0,<-q3k]at hl
 generalize qdo x y=B at *
 rw[qac,pg78]
 simp[ir78,qaf]
 generalize hr:ev pg (.code (.going _ L78_0) _)=o
 obtain⟨r,rfl,⟨g,m⟩,hm,f,hf,rfl⟩:∃r,o=some r/\_:=by rw[<-hr];exact hl (0,0) (.inr rfl) (by simp)
 clear hr
 have hmm:m=2\/m=0:=hm
 rcases hmm with rfl | rfl<;>simp
theorem qwz{c:Ct}:∀{d:Nat} {s:Ste} {l:List Int} {t:Ste} {m:List Int},qgq c d s l=some (t,m)->Lin (qfs c) m
 | 0,_,_,_,_,h=>by cases h
 | d+1,s,l,t,m,h=>by
  rw[qgq]at h
  cases e:qcu c s with
  | none=>rw[e]at h;cases h
  | some x =>
   rw[e]at h
   simp only at h
   split at h
   .cases h;exact Lin.norm _ _
   .exact qwz h
theorem q0r(c:Ct)(s:Ste):Lin (qfs c) (qhj c s).2.1:=by
 unfold qhj
 cases e:qfr c s with
 | none=>exact Lin.nil _
 | some x=>exact qwz (show qgq c 65 s []=some (x.1,x.2)from e)
theorem qlz(c:Ct)(s:Ste)(x:Evn):Lin (qfs c) (qah c s x).2.1:=by
 unfold qah
 split
 .exact Lin.nil _
 .split
  .exact q0r _ _
  .exact Lin.nil _
abbrev jel(l:List (Int×Bool)):List V:=[q0n l]
abbrev Crs.v(r:Crs):V:=.agg (r.st.cells++[.imm (r.strokes.map jel),qbx r.conf])
def jet(c:Ct)(s:Ste)(l:List Evn):Crs×Int×Int:=if quE c s=0 then(if 4096<l.length then(q5i,0,5)else qsg c l 0 ⟨s,[],[]⟩)else(q5i,0,quE c s)
theorem zcd{c:Ct}{s:Ste}(hfew:c.small=true)(h:quE c s=0):Rdy c s:=by
 unfold quE at h
 split at h
 .exact⟨hfew,by assumption⟩
 .rename_i h2;exact absurd h h2
abbrev jat:List V:=[.fn 94 [.bptr 14 0] [],.fn 95 [.bptr 14 0] [],.fn 96 [.bptr 14 0] []]
abbrev hF(c:Ct)(s:Ste)(x:List V)(t:Ste):H:=[⟨0,.box c.cells⟩,⟨0,.box s.cells⟩,⟨0,.box x⟩,o0,o0,o0,o0,o0,⟨0,.box (q0o 3)⟩]++ar5 t++[⟨0,.box (sl5 9 t)⟩,⟨0,.box jat⟩]
set_option maxHeartbeats 1000000 in
set_option maxHeartbeats 1000000 in
theorem ev94{c:Ct}{s:Ste}(hS:Shp c s)(id:Int)(vl:Bool):ev pg (.call (.fn 94 [.bptr 14 0] []) [.agg [num 0,num id,.bool vl]] (hF c s [num 0,num id,.bool vl] s))=some { v:=.bool (qmt s ⟨0,id,vl⟩),st:=⟨[],hF c s [num 0,num id,.bool vl] (if qmt s ⟨0,id,vl⟩=true then qcc s ⟨0,id,vl⟩else s)⟩ }:=by
 have hvt:s.values.length=s.timers.length:=by rw[hS.v,hS.t]
 unfold qmt qcc
 simp only
 rw[qac,pg94]
 by_cases hi:id<0
 .simp[qaa,exT,qae,ir94,hi]
 .obtain⟨n,rfl⟩:∃n:Nat,id=n:=⟨id.toNat,by omega⟩
  have hi':¬(n:Int)<0:=by omega
  by_cases hl:s.ends.length<=n
  .have hn:¬n<s.ends.length:=by omega
   have hl':(s.ends.length:Int)<=n:=by omega
   simp[qaa,exT,qae,ir94,hi',hl,hl',hn,qdb]
  .have hn:n<s.ends.length:=by omega
   have hl':¬(s.ends.length:Int)<=n:=by omega
   by_cases h1:s.ends[n]=1
   .simp[qaa,exT,qae,ir94,hl,hl',hi',hn,h1,qdb]
   .have h1b:(s.ends[n]==1)=false:=by simpa using h1
    by_cases h3:s.ends[n]=3
    .simp[qaa,exT,qae,ir94,hl,hl',hi',hn,h3,qdb]
    .have h3b:(s.ends[n]==3)=false:=by simpa using h3
     simp[qaa,exT,qae,ir94,hl,hl',hi',hn,h1,h1b,h3,h3b,qdb]
set_option maxHeartbeats 1000000 in
theorem ev95{c:Ct}{s:Ste}(hS:Shp c s)(id:Int)(vl:Bool):ev pg (.call (.fn 95 [.bptr 14 0] []) [.agg [num 1,num id,.bool vl]] (hF c s [num 1,num id,.bool vl] s))=some { v:=.bool (qmt s ⟨1,id,vl⟩),st:=⟨[],hF c s [num 1,num id,.bool vl] (if qmt s ⟨1,id,vl⟩=true then qcc s ⟨1,id,vl⟩else s)⟩ }:=by
 have hvt:s.values.length=s.timers.length:=by rw[hS.v,hS.t]
 unfold qmt qcc
 simp only
 rw[qac,pg95]
 by_cases hi:id<0
 .simp[qaa,exT,qae,ir95,hi]
 .obtain⟨n,rfl⟩:∃n:Nat,id=n:=⟨id.toNat,by omega⟩
  have hi':¬(n:Int)<0:=by omega
  by_cases hl:s.timers.length<=n
  .have hn:¬n<s.timers.length:=by omega
   have hl':(s.timers.length:Int)<=n:=by omega
   simp[qaa,exT,qae,ir95,hi',hl,hl',hn,qdb]
  .have hn:n<s.timers.length:=by omega
   have hl':¬(s.timers.length:Int)<=n:=by omega
   have hn2:n<s.values.length:=by omega
   by_cases h1:s.timers[n]=1
   .simp[qaa,exT,qae,ir95,hl,hl',hi',hn,hn2,h1,qdb]
   .have h1b:(s.timers[n]==1)=false:=by simpa using h1
    simp[qaa,exT,qae,ir95,hl,hl',hi',hn,h1,h1b,qdb]
set_option maxHeartbeats 1000000 in
theorem ev96{c:Ct}{s:Ste}(hS:Shp c s)(id:Int)(vl:Bool):ev pg (.call (.fn 96 [.bptr 14 0] []) [.agg [num 2,num id,.bool vl]] (hF c s [num 2,num id,.bool vl] s))=some { v:=.bool (qmt s ⟨2,id,vl⟩),st:=⟨[],hF c s [num 2,num id,.bool vl] (if qmt s ⟨2,id,vl⟩=true then qcc s ⟨2,id,vl⟩else s)⟩ }:=by
 have hvt:s.values.length=s.timers.length:=by rw[hS.v,hS.t]
 unfold qmt qcc
 simp only
 rw[qac,pg96]
 by_cases hi:id<0
 .simp[qaa,exT,qae,ir96,hi]
 .obtain⟨n,rfl⟩:∃n:Nat,id=n:=⟨id.toNat,by omega⟩
  have hi':¬(n:Int)<0:=by omega
  by_cases hl:s.inputs.length<=n
  .have hn:¬n<s.inputs.length:=by omega
   have hl':(s.inputs.length:Int)<=n:=by omega
   simp[qaa,exT,qae,ir96,hi',hl,hl',hn,qdb]
  .have hn:n<s.inputs.length:=by omega
   have hl':¬(s.inputs.length:Int)<=n:=by omega
   generalize hb:s.inputs[n]=b
   cases b<;>cases vl<;>simp[qaa,exT,qae,ir96,hl,hl',hi',hn,hb]
theorem zkd{c:Ct}{s:Ste}(hS:Shp c s)(x:Evn):(qcc s x).ends.length=s.ends.length/\(qcc s x).valves.length=s.valves.length/\(qcc s x).inputs.length=s.inputs.length/\(qcc s x).values.length=s.values.length/\(qcc s x).timers.length=s.timers.length:=by
 unfold qcc
 split
 .simp
 .split
  .simp
  .simp
set_option maxHeartbeats 1000000 in
theorem ev57{c:Ct}{s:Ste}(h:Rdy c s)(x:Evn):ev pg (.call (.fn 57 [] []) [c.v,s.v,x.v] [])=some { v:=zam (qah c s x),st:=⟨[],[]⟩ }:=by
 have e60:=ev56 s h.small
 obtain⟨kd,id,vl⟩:=x
 obtain⟨l1,l2,l3,l4,l5⟩:=zkd h.shp ⟨kd,id,vl⟩
 unfold qah
 rw[qac,pg57]
 by_cases hlo:kd<0
 .rw[if_pos (.inl hlo)]
  simp[ir57,e60,hlo,zeroS]
 .by_cases hhi:2<kd
  .rw[if_pos (.inr hhi)]
   have hhi':(3:Int)<=kd:=by omega
   simp[ir57,e60,hlo,hhi',zeroS]
  .have hk:¬(kd<0\/2<kd):=by omega
   rw[if_neg hk]
   have e91:=ev94 h.shp id vl
   have e92:=ev95 h.shp id vl
   have e93:=ev96 h.shp id vl
   have hkd:kd=0\/kd=1\/kd=2:=by omega
   rcases hkd with rfl | rfl | rfl
   .cases hm:qmt s ⟨0,id,vl⟩with
    | false =>
     rw[hm]at e91
     simp only[Bool.false_eq_true,if_false]at e91
     simp at e91
     simp[qaa,exT,qae,ir57,e60,e91,zeroS]
    | true =>
     rw[hm]at e91
     simp only[if_true]at e91
     have hR:Rdy c (qcc s ⟨0,id,vl⟩):=⟨h.few,qgh h.st hk hm⟩
     have e16:=ev54 c (qcc s ⟨0,id,vl⟩) h.few hR.small
     unfold qse at e16
     rw[if_pos hR.st]at e16
     generalize qcc s ⟨0,id,vl⟩=u at *
     generalize qhj c u=z at *
     simp[l1,l2,l3,l4,l5]at e91
     simp[qaa,exT,qae,ir57,e60,e91,e16,l1,l2,l3,l4,l5]
   .cases hm:qmt s ⟨1,id,vl⟩with
    | false =>
     rw[hm]at e92
     simp only[Bool.false_eq_true,if_false]at e92
     simp at e92
     simp[qaa,exT,qae,ir57,e60,e92,zeroS]
    | true =>
     rw[hm]at e92
     simp only[if_true]at e92
     have hR:Rdy c (qcc s ⟨1,id,vl⟩):=⟨h.few,qgh h.st hk hm⟩
     have e16:=ev54 c (qcc s ⟨1,id,vl⟩) h.few hR.small
     unfold qse at e16
     rw[if_pos hR.st]at e16
     generalize qcc s ⟨1,id,vl⟩=u at *
     generalize qhj c u=z at *
     simp[l1,l2,l3,l4,l5]at e92
     simp[qaa,exT,qae,ir57,e60,e92,e16,l1,l2,l3,l4,l5]
   .cases hm:qmt s ⟨2,id,vl⟩with
    | false =>
     rw[hm]at e93
     simp only[Bool.false_eq_true,if_false]at e93
     simp at e93
     simp[qaa,exT,qae,ir57,e60,e93,zeroS]
    | true =>
     rw[hm]at e93
     simp only[if_true]at e93
     have hR:Rdy c (qcc s ⟨2,id,vl⟩):=⟨h.few,qgh h.st hk hm⟩
     have e16:=ev54 c (qcc s ⟨2,id,vl⟩) h.few hR.small
     unfold qse at e16
     rw[if_pos hR.st]at e16
     generalize qcc s ⟨2,id,vl⟩=u at *
     generalize qhj c u=z at *
     simp[l1,l2,l3,l4,l5]at e93
     simp[qaa,exT,qae,ir57,e60,e93,e16,l1,l2,l3,l4,l5]
def qil(c:Ct)(s:Ste)(x:Evn):Ste×List Int×Int:=if quE c s=0 then qah c s x else(zeroS,[],quE c s)
theorem ev66(c:Ct)(s:Ste)(hfew:c.small=true)(hs:s.small)(x:Evn):ev pg (.call (.fn 66 [] []) [c.v,s.v,x.v] [])=some { v:=zam (qil c s x),st:=⟨[],[]⟩ }:=by
 have e49:=ev55 c s hfew hs
 unfold qil
 rw[qac,pg66]
 by_cases h:quE c s=0
 .have e61:=ev57 (zcd hfew h) x
  rw[if_pos h]
  rw[h]at e49
  generalize qah c s x=z at *
  simp[ir66,e49,e61]
 .rw[if_neg h]
  have hb:(quE c s==0)=false:=by simpa using h
  generalize quE c s=e at *
  simp[ir66,e49,h,hb,zeroS]
def T62(x y:Ste)(k:Nat)(a:Nat×Nat):Tm:=[none,none,some (.bptr 0 0),some (.bptr 1 0),some (.sl 2 0 0 0 0),some (.sl 3 a.1 a.2 0 (qfb x y k).length),none,none,none,some (qbx y.ends),some (num y.ends.length),some (num k)]++List.replicate 28 none
set_option maxHeartbeats 1000000 in
theorem jfq(x y:Ste)(hs:x.small)(he:y.ends.length=x.ends.length){st:St}(a0:Nat×Nat)(g0:gm2 a0)(h0:At (T62 x y 0 a0) (h64 x y 0 a0) st):∃r,ev pg (.code (.going 4 L58_0) st)=some r/\∃a,gm2 a/\qag (.exit 0) (T62 x y y.ends.length a) (h64 x y y.ends.length a) r:=by
 have hse:=hs.e
 refine qbn y.ends.length (T62 x y) (h64 x y) (fun _ a=>gm2 a) _ ?_ ?_ a0 g0 h0
 .rintro k ⟨g,m⟩ f hf hk2 hG
  have hk':(k:Int)<y.ends.length:=by omega
  have hk:k<x.ends.length:=by omega
  have wk:=qab (n:=(k:Int)+1) (by omega) (by omega)
  have hsl:=qni x y k
  have hp:qru x y k=if(y.ends[k]=1\/y.ends[k]=3)/\x.ends[k]≠y.ends[k]then some ((k:Int),y.ends[k]==1)else none:=by
   unfold qru
   rw[jA hk,jA hk2]
  unfold T62 h64
  rw[qrp,hp]
  generalize qfb x y k=B at *
  have hb1:(B.length+1)*16<=140737488355328:=by omega
  have hmm:m=2\/m=0:=hG
  by_cases h2:y.ends[k]=x.ends[k]
  .have h2s:¬x.ends[k]≠y.ends[k]:=fun h=>h h2.symm
   rw[if_neg (fun h=>h2s h.2)]
   rcases hmm with rfl | rfl<;>simp[L58_0,hk,hk',hk2,wk,h2,hf.ne]
  .have h2b:(y.ends[k]==x.ends[k])=false:=by simpa using h2
   have h2n:(y.ends[k] != x.ends[k])=true:=by simpa using h2
   have h2s:x.ends[k]≠y.ends[k]:=fun h=>h2 h.symm
   by_cases h1:y.ends[k]=1
   .rw[if_pos ⟨.inl h1,h2s⟩]
    rw[h1]at h2 h2b h2n
    rcases hmm with rfl | rfl<;>simp[L58_0,hk,hk',hk2,wk,h1,h2,h2b,h2n,hb1,hf.ne]
   .have h1b:(y.ends[k]==1)=false:=by simpa using h1
    by_cases h3:y.ends[k]=3
    .rw[if_pos ⟨.inr h3,h2s⟩]
     rw[h3]at h2 h2b h2n
     rcases hmm with rfl | rfl<;>simp[L58_0,hk,hk',hk2,wk,h3,h2,h2b,h2n,hb1,hf.ne]
    .have h3b:(y.ends[k]==3)=false:=by simpa using h3
     rw[if_neg (fun h=>h.1.elim h1 h3)]
     rcases hmm with rfl | rfl<;>simp[L58_0,hk,hk',hk2,wk,h1,h1b,h2,h2b,h2n,h3,h3b,hf.ne]
 .rintro⟨g,m⟩ f hf hG
  unfold T62 h64
  generalize qfb x y y.ends.length=B at *
  have hmm:m=2\/m=0:=hG
  rcases hmm with rfl | rfl<;>simp[L58_0,hf.ne]
theorem ev58(x y:Ste)(hs:x.small)(he:y.ends.length=x.ends.length):ev pg (.call (.fn 58 [] []) [x.v,y.v] [])=some { v:=q0n (qdo x y),st:=⟨[],[]⟩ }:=by
 have hl:=@jfq x y hs he
 have z0:qfb x y 0=[]:=rfl
 have z1:qfb x y y.ends.length=qdo x y:=by rw[he];rfl
 unfold h64 T62 at hl
 rw[z0,z1]at hl
 generalize qdo x y=B at *
 rw[qac,pg58]
 simp[ir58,qaf]
 generalize hr:ev pg (.code (.going _ L58_0) _)=o
 obtain⟨r,rfl,⟨g,m⟩,hm,f,hf,rfl⟩:∃r,o=some r/\_:=by rw[<-hr];exact hl (0,0) (.inr rfl) (by simp)
 clear hr
 have hmm:m=2\/m=0:=hm
 rcases hmm with rfl | rfl<;>simp
end Go.Proofs.YtlhciedghbmjjaaGreat
