/- Strokes begun. -/
import Derived.Test.YtggbaapfbgjaeaaGreatDoorMy2
import Derived.Test.YtggbaapfbgjaeaaGreatDoorSv1
set_option linter.all false
namespace Go.Proofs.YtggbaapfbgjaeaaGreatDoor
open Go Go.Am Go.Proofs
set_option maxRecDepth 100000
abbrev qfa(p:Int×Bool):List V:=[num p.1,.bool p.2]
abbrev qyh(l:List (Int×Bool)):V:=.imm (l.map qfa)
def qfc(a b:Ste)(k:Nat):List (Int×Bool):=(List.range k).filterMap (qqu a b)
theorem qtu(a b:Ste)(k:Nat):qfc a b (k+1)=qfc a b k++(match qqu a b k with | some p=>[p] | none=>[]):=by unfold qfc;rw[List.range_succ,List.filterMap_append];cases h:qqu a b k<;>simp[h]
theorem qha(a b:Ste)(k:Nat):(qfc a b k).length<=k:=by unfold qfc;exact Nat.le_trans (List.length_filterMap_le _ _) (by simp)
theorem qms(a b:Ste):qmr a b=qfc a b a.ends.length:=rfl
abbrev gm2(a:Nat×Nat):Prop:=a.2=2\/a.2=0
abbrev h64(x y:Ste)(k:Nat)(a:Nat×Nat):H:=[⟨0,.box x.cells⟩,⟨0,.box y.cells⟩,o0,⟨a.1,.arr a.2 ((qfc x y k).map qfa)⟩]
def T64(x y:Ste)(k:Nat)(a:Nat×Nat):Tm:=[none,none,bN 0,bN 1,some (.sl 2 0 0 0 0),some (.sl 3 a.1 a.2 0 (qfc x y k).length),nN k]++zN 46
set_option maxHeartbeats 1000000 in
theorem z5f(x y:Ste)(hs:x.small)(he:y.ends.length=x.ends.length){st:St}(a0:Nat×Nat)(g0:gm2 a0)(h0:At (T64 x y 0 a0) (h64 x y 0 a0) st):∃r,ev pg (.code (.going 4 L91_0) st)=some r/\∃a,gm2 a/\qat (.exit 0) (T64 x y x.ends.length a) (h64 x y x.ends.length a) r:=by
 have hse:=hs.e;refine qce x.ends.length (T64 x y) (h64 x y) (fun _ a=>gm2 a) _ ?_ ?_ a0 g0 h0
 .rintro k ⟨g,m⟩ f hf hk hG;have hk':(k:Int)<x.ends.length:=by omega
  have hk2:k<y.ends.length:=by omega
  have wk:=qbi k;have hsl:=qha x y k;have hp:qqu x y k=if(y.ends[k]=1\/y.ends[k]=3)/\x.ends[k]≠y.ends[k]then some ((k:Int),y.ends[k]==1)else none:=by unfold qqu;rw[jA hk,jA hk2]
  unfold T64 h64;rw[qtu,hp];generalize qfc x y k=B at *;have hb1:(B.length+1)*16<=140737488355328:=by omega
  have hmm:m=2\/m=0:=hG;by_cases h1:y.ends[k]=1
  .by_cases h2:x.ends[k]=1
   .rcases hmm with rfl | rfl<;>simp[qaa,exT,qag,L91_0,hk,hk',hk2,wk,h1,h2,hb1,hf.ne]
   .have h2b:(x.ends[k]==1)=false:=by simpa using h2
    rcases hmm with rfl | rfl<;>simp[qaa,exT,qag,L91_0,hk,hk',hk2,wk,h1,h2,h2b,hb1,hf.ne]
  .have h1b:(y.ends[k]==1)=false:=by simpa using h1
   by_cases h3:y.ends[k]=3
   .by_cases h2:x.ends[k]=3
    .rcases hmm with rfl | rfl<;>simp[qaa,exT,qag,L91_0,hk,hk',hk2,wk,h3,h2,hb1,hf.ne]
    .have h2b:(x.ends[k]==3)=false:=by simpa using h2
     rcases hmm with rfl | rfl<;>simp[qaa,exT,qag,L91_0,hk,hk',hk2,wk,h3,h2,h2b,hb1,hf.ne]
   .have h3b:(y.ends[k]==3)=false:=by simpa using h3
    rcases hmm with rfl | rfl<;>simp[qaa,exT,qag,L91_0,hk,hk',hk2,wk,h1,h1b,h3,h3b,hf.ne]
 .rintro⟨g,m⟩ f hf hG;unfold T64 h64;generalize qfc x y x.ends.length=B at *;have hmm:m=2\/m=0:=hG;rcases hmm with rfl | rfl<;>simp[L91_0,hf.ne]
theorem ev91(x y:Ste)(hs:x.small)(he:y.ends.length=x.ends.length):ev pg (.call (fnq 91) [x.v,y.v] [])=some (rvq (qyh (qmr x y))):=by
 have hl:=@z5f x y hs he;have z0:qfc x y 0=[]:=rfl;unfold h64 T64 at hl;rw[z0,<-qms]at hl;generalize qmr x y=B at *;rw[qab,pg91.1];simp[ir91,qah];generalize hr:ev pg (.code (.going _ L91_0) _)=o;obtain⟨r,rfl,⟨g,m⟩,hm,f,hf,rfl⟩:∃r,o=some r/\_:=by rw[<-hr];exact hl (0,0) (.inr rfl) (by simp)
 clear hr;have hmm:m=2\/m=0:=hm;rcases hmm with rfl | rfl<;>simp
abbrev z2w(l:List (Int×Bool)):List V:=[qyh l]
abbrev Crs.v(r:Crs):V:=.agg (r.st.cells++[.imm (r.strokes.map z2w),qct r.conf])
def z3z(c:Ct)(s:Ste)(l:List Evn):Crs×Int×Int:=if quE c s=0 then(if 4096<l.length then(q8u,0,5)else qum c l 0 ⟨s,[],[]⟩)else(q8u,0,quE c s)
theorem zjf{c:Ct}{s:Ste}(hfew:c.small=true)(h:quE c s=0):Rdy c s:=by
 unfold quE at h;split at h
 .exact⟨hfew,by assumption⟩
 .rename_i h2;exact absurd h h2
def T42(a b:List (Int×Bool))(k:Nat):Tm:=[some (qyh a),some (qyh b),none,none,none,none,none,none,none,none,none,none,nN a.length,nN k]++zN 12
def zwb:Tm:=[none,none,none,none,some (.bool false)]++zN 21
theorem z4y(a b:List (Int×Bool))(hab:b.length=a.length)(ha:a.length<=100000){st:St}(h0:At (T42 a b 0) [] st):∃r,ev pg (.code (.going 0 L31_0) st)=some r/\qmd a.length (fun k=>decide (a[k]?≠b[k]?)) (fun _=>qat .ret zwb []) (qat (.exit 0) (T42 a b a.length) []) r:=by
 refine qcw _ _ (T42 a b) [] _ _ ?_ ?_ ?_ h0
 .intro k f hf hk hp;have hk':(k:Int)<a.length:=by omega
  have hkb:k<b.length:=by omega
  have wk:=qbi k;have hb:a[k]=b[k]:=by simpa[hk,hkb]using hp
  simp[qaa,exT,qag,T42,L31_0,hk,hk',hkb,hb,wk,hf.ne]
 .intro k f hf hk hp;have hk':(k:Int)<a.length:=by omega
  have hkb:k<b.length:=by omega
  have hb:a[k]≠b[k]:=by simpa[hk,hkb]using hp
  by_cases h2:a[k].2=b[k].2
  .have h1:¬a[k].1=b[k].1:=fun h=>hb (Prod.ext h h2);have h1b:(a[k].1==b[k].1)=false:=by simpa using h1
   simp[qaa,exT,qag,T42,zwb,L31_0,hk,hk',hkb,h2,h1,h1b,hf.ne]
  .have h2b:(a[k].2==b[k].2)=false:=by simpa using h2
   by_cases h1:a[k].1=b[k].1
   .simp[qaa,exT,qag,T42,zwb,L31_0,hk,hk',hkb,h1,h2,h2b,hf.ne]
   .have h1b:(a[k].1==b[k].1)=false:=by simpa using h1
    simp[qaa,exT,qag,T42,zwb,L31_0,hk,hk',hkb,h1,h1b,h2,h2b,hf.ne]
 .intro f hf;simp[T42,L31_0,hf.ne]
theorem ev31(a b:List (Int×Bool))(ha:a.length<=100000):ev pg (.call (fnq 31) [qyh a,qyh b] [])=some (rvq (.bool (decide (a=b)))):=by
 rw[qab,pg31.1];by_cases hab:b.length=a.length
 .have hloop:=@z4y a b hab ha;have hab':(b.length:Int)=a.length:=by omega
  simp[ir31,qah,hab'];generalize hr:ev pg (.code (.going _ L31_0) _)=o;obtain⟨r,rfl,hQ⟩:∃r,o=some r/\_:=by rw[<-hr];exact hloop (by simp[T42])
  rcases hQ with⟨k,hk,hp,-,f,hf,rfl⟩ | ⟨hp,f,hf,rfl⟩
  .have:a≠b:=by rintro rfl;simp at hp
   simp[zwb,this]
  .have:a=b:=by
    refine List.ext_getElem hab.symm fun k h1 h2=>?_;have:=hp k h1;simpa[h1,h2]using this
   simp[T42,this]
 .have hne:((a.length:Int) != (b.length:Int))=true:=by rw[bne_iff_ne];omega
  have:a≠b:=fun e=>hab (by rw[e]);simp[ir31,hne,this]
theorem Evn.ext'{x y:Evn}(h1:x.kind=y.kind)(h2:x.idx=y.idx)(h3:x.val=y.val):x=y:=by cases x;cases y;simp only at h1 h2 h3;subst h1 h2 h3;rfl
instance(x y:Evn):Decidable (x=y) :=
 if h:x.kind=y.kind/\x.idx=y.idx/\x.val=y.val then .isTrue (Evn.ext' h.1 h.2.1 h.2.2)
 else .isFalse fun e=>h (by rw[e];exact⟨rfl,rfl,rfl⟩)
instance:DecidableEq Evn:=fun x y=>inferInstance
abbrev z1f:List V:=[.fn 218 [.bptr 14 0] [],.fn 219 [.bptr 14 0] [],.fn 220 [.bptr 14 0] []]
abbrev hF(c:Ct)(s:Ste)(x:List V)(t:Ste):H:=[⟨0,.box c.cells⟩,⟨0,.box s.cells⟩,⟨0,.box x⟩,o0,o0,o0,o0,o0,⟨0,.box (q3k 3)⟩]++ar5 t++[⟨0,.box (sl5 9 t)⟩,⟨0,.box z1f⟩]
set_option maxHeartbeats 1000000 in
set_option maxHeartbeats 1000000 in
theorem ev218{c:Ct}{s:Ste}(hS:Shp c s)(id:Int)(vl:Bool):ev pg (.call (.fn 218 [.bptr 14 0] []) [.agg [num 0,num id,.bool vl]] (hF c s [num 0,num id,.bool vl] s))=some { v:=.bool (qpu s ⟨0,id,vl⟩),st:=⟨[],hF c s [num 0,num id,.bool vl] (if qpu s ⟨0,id,vl⟩=true then qei s ⟨0,id,vl⟩else s)⟩ }:=by
 have hvt:s.values.length=s.timers.length:=by rw[hS.v,hS.t]
 unfold qpu qei;simp only;rw[qab,pg218.1];by_cases hi:id<0
 .simp[qaa,exT,qag,ir218,hi]
 .obtain⟨n,rfl⟩:∃n:Nat,id=n:=⟨id.toNat,by omega⟩
  have hi':¬(n:Int)<0:=by omega
  by_cases hl:s.ends.length<=n
  .have hn:¬n<s.ends.length:=by omega
   have hl':(s.ends.length:Int)<=n:=by omega
   simp[qaa,exT,qag,ir218,hi',hl,hl',hn,qbq]
  .have hn:n<s.ends.length:=by omega
   have hl':¬(s.ends.length:Int)<=n:=by omega
   by_cases h1:s.ends[n]=1
   .simp[qaa,exT,qag,ir218,hl,hl',hi',hn,h1,qbq]
   .have h1b:(s.ends[n]==1)=false:=by simpa using h1
    by_cases h3:s.ends[n]=3
    .simp[qaa,exT,qag,ir218,hl,hl',hi',hn,h3,qbq]
    .have h3b:(s.ends[n]==3)=false:=by simpa using h3
     simp[qaa,exT,qag,ir218,hl,hl',hi',hn,h1,h1b,h3,h3b,qbq]
set_option maxHeartbeats 1000000 in
theorem ev219{c:Ct}{s:Ste}(hS:Shp c s)(id:Int)(vl:Bool):ev pg (.call (.fn 219 [.bptr 14 0] []) [.agg [num 1,num id,.bool vl]] (hF c s [num 1,num id,.bool vl] s))=some { v:=.bool (qpu s ⟨1,id,vl⟩),st:=⟨[],hF c s [num 1,num id,.bool vl] (if qpu s ⟨1,id,vl⟩=true then qei s ⟨1,id,vl⟩else s)⟩ }:=by
 have hvt:s.values.length=s.timers.length:=by rw[hS.v,hS.t]
 unfold qpu qei;simp only;rw[qab,pg219.1];by_cases hi:id<0
 .simp[qaa,exT,qag,ir219,hi]
 .obtain⟨n,rfl⟩:∃n:Nat,id=n:=⟨id.toNat,by omega⟩
  have hi':¬(n:Int)<0:=by omega
  by_cases hl:s.timers.length<=n
  .have hn:¬n<s.timers.length:=by omega
   have hl':(s.timers.length:Int)<=n:=by omega
   simp[qaa,exT,qag,ir219,hi',hl,hl',hn,qbq]
  .have hn:n<s.timers.length:=by omega
   have hl':¬(s.timers.length:Int)<=n:=by omega
   have hn2:n<s.values.length:=by omega
   by_cases h1:s.timers[n]=1
   .simp[qaa,exT,qag,ir219,hl,hl',hi',hn,hn2,h1,qbq]
   .have h1b:(s.timers[n]==1)=false:=by simpa using h1
    simp[qaa,exT,qag,ir219,hl,hl',hi',hn,h1,h1b,qbq]
set_option maxHeartbeats 1000000 in
theorem ev220{c:Ct}{s:Ste}(hS:Shp c s)(id:Int)(vl:Bool):ev pg (.call (.fn 220 [.bptr 14 0] []) [.agg [num 2,num id,.bool vl]] (hF c s [num 2,num id,.bool vl] s))=some { v:=.bool (qpu s ⟨2,id,vl⟩),st:=⟨[],hF c s [num 2,num id,.bool vl] (if qpu s ⟨2,id,vl⟩=true then qei s ⟨2,id,vl⟩else s)⟩ }:=by
 have hvt:s.values.length=s.timers.length:=by rw[hS.v,hS.t]
 unfold qpu qei;simp only;rw[qab,pg220.1];by_cases hi:id<0
 .simp[qaa,exT,qag,ir220,hi]
 .obtain⟨n,rfl⟩:∃n:Nat,id=n:=⟨id.toNat,by omega⟩
  have hi':¬(n:Int)<0:=by omega
  by_cases hl:s.inputs.length<=n
  .have hn:¬n<s.inputs.length:=by omega
   have hl':(s.inputs.length:Int)<=n:=by omega
   simp[qaa,exT,qag,ir220,hi',hl,hl',hn,qbq]
  .have hn:n<s.inputs.length:=by omega
   have hl':¬(s.inputs.length:Int)<=n:=by omega
   generalize hb:s.inputs[n]=b;cases b<;>cases vl<;>simp[qaa,exT,qag,ir220,hl,hl',hi',hn,hb]
theorem zms{c:Ct}{s:Ste}(hS:Shp c s)(x:Evn):(qei s x).ends.length=s.ends.length/\(qei s x).valves.length=s.valves.length/\(qei s x).inputs.length=s.inputs.length/\(qei s x).values.length=s.values.length/\(qei s x).timers.length=s.timers.length:=by
 unfold qei;split
 .simp
 .split
  .simp
  .simp
set_option maxHeartbeats 1000000 in
theorem ev187{c:Ct}{s:Ste}(h:Rdy c s)(x:Evn):ev pg (.call (fnq 187) [c.v,s.v,x.v] [])=some (rvq (zdo (qec c s x))):=by
 have e60:=ev211 s h.small;obtain⟨kd,id,vl⟩:=x;obtain⟨l1,l2,l3,l4,l5⟩:=zms h.shp ⟨kd,id,vl⟩;unfold qec;rw[qab,pg187.1];by_cases hlo:kd<0
 .rw[if_pos (.inl hlo)];simp[ir187,e60,hlo,qex]
 .by_cases hhi:2<kd
  .rw[if_pos (.inr hhi)];have hhi':(3:Int)<=kd:=by omega
   simp[ir187,e60,hlo,hhi',qex]
  .have hk:¬(kd<0\/2<kd):=by omega
   rw[if_neg hk];have e91:=ev218 h.shp id vl;have e92:=ev219 h.shp id vl;have e93:=ev220 h.shp id vl;have hkd:kd=0\/kd=1\/kd=2:=by omega
   rcases hkd with rfl | rfl | rfl
   .cases hm:qpu s ⟨0,id,vl⟩with
    | false =>rw[hm]at e91;simp only[Bool.false_eq_true,if_false]at e91;simp at e91;simp[qaa,exT,qag,ir187,e60,e91,qex]
    | true =>
     rw[hm]at e91;simp only[if_true]at e91;have hR:Rdy c (qei s ⟨0,id,vl⟩):=⟨h.few,qgd h.st hk hm⟩
     have e16:=ev132 c (qei s ⟨0,id,vl⟩) h.few hR.small;unfold qul at e16;rw[if_pos hR.st]at e16;generalize qei s ⟨0,id,vl⟩=u at *;generalize qjm c u=z at *;simp[l1,l2,l3,l4,l5]at e91;simp[qaa,exT,qag,ir187,e60,e91,e16,l1,l2,l3,l4,l5]
   .cases hm:qpu s ⟨1,id,vl⟩with
    | false =>rw[hm]at e92;simp only[Bool.false_eq_true,if_false]at e92;simp at e92;simp[qaa,exT,qag,ir187,e60,e92,qex]
    | true =>
     rw[hm]at e92;simp only[if_true]at e92;have hR:Rdy c (qei s ⟨1,id,vl⟩):=⟨h.few,qgd h.st hk hm⟩
     have e16:=ev132 c (qei s ⟨1,id,vl⟩) h.few hR.small;unfold qul at e16;rw[if_pos hR.st]at e16;generalize qei s ⟨1,id,vl⟩=u at *;generalize qjm c u=z at *;simp[l1,l2,l3,l4,l5]at e92;simp[qaa,exT,qag,ir187,e60,e92,e16,l1,l2,l3,l4,l5]
   .cases hm:qpu s ⟨2,id,vl⟩with
    | false =>rw[hm]at e93;simp only[Bool.false_eq_true,if_false]at e93;simp at e93;simp[qaa,exT,qag,ir187,e60,e93,qex]
    | true =>
     rw[hm]at e93;simp only[if_true]at e93;have hR:Rdy c (qei s ⟨2,id,vl⟩):=⟨h.few,qgd h.st hk hm⟩
     have e16:=ev132 c (qei s ⟨2,id,vl⟩) h.few hR.small;unfold qul at e16;rw[if_pos hR.st]at e16;generalize qei s ⟨2,id,vl⟩=u at *;generalize qjm c u=z at *;simp[l1,l2,l3,l4,l5]at e93;simp[qaa,exT,qag,ir187,e60,e93,e16,l1,l2,l3,l4,l5]
def qcv(c:Ct)(s:Ste)(x:Evn):Ste×List Int×Int:=if quE c s=0 then qec c s x else(qex,[],quE c s)
theorem ev135(c:Ct)(s:Ste)(hfew:c.small=true)(hs:s.small)(x:Evn):ev pg (.call (fnq 135) [c.v,s.v,x.v] [])=some (rvq (zdo (qcv c s x))):=by
 have e49:=ev184 c s hfew hs;unfold qcv;rw[qab,pg135.1];by_cases h:quE c s=0
 .have e61:=ev187 (zjf hfew h) x;rw[if_pos h];rw[h]at e49;generalize qec c s x=z at *;simp[ir135,e49,e61]
 .rw[if_neg h];have hb:(quE c s==0)=false:=by simpa using h
  generalize quE c s=e at *;simp[ir135,e49,h,hb,qex]
def T62(x y:Ste)(k:Nat)(a:Nat×Nat):Tm:=[none,none,bN 0,bN 1,some (.sl 2 0 0 0 0),some (.sl 3 a.1 a.2 0 (qfc x y k).length),none,none,none,some (qct y.ends),some (num y.ends.length),nN k]++zN 28
set_option maxHeartbeats 1000000 in
theorem z5e(x y:Ste)(hs:x.small)(he:y.ends.length=x.ends.length){st:St}(a0:Nat×Nat)(g0:gm2 a0)(h0:At (T62 x y 0 a0) (h64 x y 0 a0) st):∃r,ev pg (.code (.going 4 L183_0) st)=some r/\∃a,gm2 a/\qat (.exit 0) (T62 x y y.ends.length a) (h64 x y y.ends.length a) r:=by
 have hse:=hs.e;refine qce y.ends.length (T62 x y) (h64 x y) (fun _ a=>gm2 a) _ ?_ ?_ a0 g0 h0
 .rintro k ⟨g,m⟩ f hf hk2 hG;have hk':(k:Int)<y.ends.length:=by omega
  have hk:k<x.ends.length:=by omega
  have wk:=qbi k;have hsl:=qha x y k;have hp:qqu x y k=if(y.ends[k]=1\/y.ends[k]=3)/\x.ends[k]≠y.ends[k]then some ((k:Int),y.ends[k]==1)else none:=by unfold qqu;rw[jA hk,jA hk2]
  unfold T62 h64;rw[qtu,hp];generalize qfc x y k=B at *;have hb1:(B.length+1)*16<=140737488355328:=by omega
  have hmm:m=2\/m=0:=hG;by_cases h2:y.ends[k]=x.ends[k]
  .have h2s:¬x.ends[k]≠y.ends[k]:=fun h=>h h2.symm;rw[if_neg (fun h=>h2s h.2)];rcases hmm with rfl | rfl<;>simp[L183_0,hk,hk',hk2,wk,h2,hf.ne]
  .have h2b:(y.ends[k]==x.ends[k])=false:=by simpa using h2
   have h2n:(y.ends[k] != x.ends[k])=true:=by simpa using h2
   have h2s:x.ends[k]≠y.ends[k]:=fun h=>h2 h.symm;by_cases h1:y.ends[k]=1
   .rw[if_pos ⟨.inl h1,h2s⟩];rw[h1]at h2 h2b h2n;rcases hmm with rfl | rfl<;>simp[L183_0,hk,hk',hk2,wk,h1,h2,h2b,h2n,hb1,hf.ne]
   .have h1b:(y.ends[k]==1)=false:=by simpa using h1
    by_cases h3:y.ends[k]=3
    .rw[if_pos ⟨.inr h3,h2s⟩];rw[h3]at h2 h2b h2n;rcases hmm with rfl | rfl<;>simp[L183_0,hk,hk',hk2,wk,h3,h2,h2b,h2n,hb1,hf.ne]
    .have h3b:(y.ends[k]==3)=false:=by simpa using h3
     rw[if_neg (fun h=>h.1.elim h1 h3)];rcases hmm with rfl | rfl<;>simp[L183_0,hk,hk',hk2,wk,h1,h1b,h2,h2b,h2n,h3,h3b,hf.ne]
 .rintro⟨g,m⟩ f hf hG;unfold T62 h64;generalize qfc x y y.ends.length=B at *;have hmm:m=2\/m=0:=hG;rcases hmm with rfl | rfl<;>simp[L183_0,hf.ne]
theorem ev183(x y:Ste)(hs:x.small)(he:y.ends.length=x.ends.length):ev pg (.call (fnq 183) [x.v,y.v] [])=some (rvq (qyh (qmr x y))):=by
 have hl:=@z5e x y hs he;have z0:qfc x y 0=[]:=rfl;have z1:qfc x y y.ends.length=qmr x y:=by rw[he];rfl
 unfold h64 T62 at hl;rw[z0,z1]at hl;generalize qmr x y=B at *;rw[qab,pg183.1];simp[ir183,qah];generalize hr:ev pg (.code (.going _ L183_0) _)=o;obtain⟨r,rfl,⟨g,m⟩,hm,f,hf,rfl⟩:∃r,o=some r/\_:=by rw[<-hr];exact hl (0,0) (.inr rfl) (by simp)
 clear hr;have hmm:m=2\/m=0:=hm;rcases hmm with rfl | rfl<;>simp
structure Crs.small(r:Crs):Prop where
 st:r.st.small
 len:r.strokes.length<=100000
 each:∀l∈r.strokes,l.length<=100000
 conf:r.conf.length<=4096
theorem zjq(c:Ct)(hc:c.check=0):qby c=qul c (qef c):=by unfold qby qul;rw[if_pos hc,if_pos (qdg hc)]
end Go.Proofs.YtggbaapfbgjaeaaGreatDoor
namespace Go.Proofs.YtggbaapfbgjaeaaGreatDoor
open Go Go.Am Go.Proofs
set_option maxRecDepth 1000000
def one:Ct:=⟨1,[[115,116,97,114,116]],[⟨[109],1,.mk 3 0 [.mk 1 2 [],.mk 1 0 []],.mk 1 1 [],0,false⟩,⟨[103],0,.mk 2 0 [.mk 1 3 []],.mk 0 0 [],0,false⟩],[3],[4]⟩
def two:Ct:=⟨1,[[115,116,97,114,116]],[⟨[109],1,.mk 3 0 [.mk 1 2 [],.mk 1 0 []],.mk 1 1 [],0,false⟩,⟨[103],0,.mk 2 0 [.mk 1 3 []],.mk 0 0 [],0,false⟩],[3],[3]⟩
@[simp] theorem zwg(l:List (List (Int×Bool))):qyk (l.map z2w) (l.map z2w)=true:=qjn (fun x=>by simp[qjn (row:=qfa)]) l
def zcb(a b:Ste):Int:=if a.ends.length≠b.ends.length\/6<a.ends.length then 8 else if(a.ends++b.ends).any (qfv 4)=true then 1 else 0
def qle(a b:Ste):List (Int×Bool):=if zcb a b=0 then qmr a b else []
def T38(n k:Nat):Tm:=[none,none,bN 0,bN 1,none,nN 0]++zN 20++[some (.sl 2 0 1 0 n),nN n,nN k]++zN 13
def zzs:Tm:=[none,none,none,none,some .nils,nN 1]++zN 36
abbrev h38(a b:Ste)(l:List Int):H:=[⟨0,.box a.cells⟩,⟨0,.box b.cells⟩,⟨0,.arr 1 (l.map qbh)⟩,o0]
theorem z4x(a b:Ste)(l:List Int)(hl:l.length<=100000){st:St}(h0:At (T38 l.length 0) (h38 a b l) st):∃r,ev pg (.code (.going 4 L133_0) st)=some r/\qmd l.length (fun k=>qfv 4 ((l[k]?).getD 0)) (fun _=>qat .ret zzs (h38 a b l)) (qat (.exit 0) (T38 l.length l.length) (h38 a b l)) r:=by
 refine qcw _ _ (T38 l.length) (h38 a b l) _ _ ?_ ?_ ?_ h0
 .intro k f hf hk hp;have hk':(k:Int)<l.length:=by omega
  have wk:=qbi k;have hp':¬l[k]<0/\¬4<=l[k]:=by simpa[qfv,hk]using hp
  simp[T38,L133_0,hk,hk',wk,hp',hf.ne]
 .intro k f hf hk hp;have hk':(k:Int)<l.length:=by omega
  have hp':l[k]<0\/4<=l[k]:=by simpa[qfv,hk]using hp
  by_cases h1:l[k]<0
  .simp[T38,zzs,L133_0,hk,hk',h1,hf.ne]
  .have h2:4<=l[k]:=by omega
   simp[T38,zzs,L133_0,hk,hk',h1,h2,hf.ne]
 .intro f hf;simp[T38,L133_0,hf.ne]
theorem zgu{l:List Int}{X:Nat->R->Prop}{Y:R->Prop}{r:R}(h:qmd l.length (fun k=>qfv 4 ((l[k]?).getD 0)) X Y r):(l.any (qfv 4)=true/\∃k,X k r)\/(l.any (qfv 4)=false/\Y r):=by
 rcases h with⟨k,hk,hp,-,hX⟩ | ⟨hp,hY⟩
 .refine .inl ⟨List.any_eq_true.2 ⟨l[k],jH hk,by simpa[hk]using hp⟩,k,hX⟩
 .refine .inr ⟨?_,hY⟩;rw[List.any_eq_false];intro x hx;obtain⟨k,hk,rfl⟩:=List.getElem_of_mem hx;have:=hp k hk;simpa[hk]using this
theorem zfc{a b:Ste}(h:a.ends.length≠b.ends.length\/6<a.ends.length):zcb a b=8:=by unfold zcb;rw[if_pos h]
theorem zqn{a b:Ste}(h1:a.ends.length=b.ends.length)(h2:¬6<a.ends.length):zcb a b=if(a.ends++b.ends).any (qfv 4)=true then 1 else 0:=by unfold zcb;rw[if_neg (by omega)]
theorem ev133(a b:Ste)(ha:a.small)(hb:b.small):ev pg (.call (fnq 133) [a.v,b.v] [])=some (rvq (.tup [qyh (qle a b),num (zcb a b)])):=by
 unfold qle;rw[qab,pg133.1];by_cases h1:a.ends.length=b.ends.length
 .have h1':(a.ends.length:Int)=b.ends.length:=by omega
  by_cases h2:6<a.ends.length
  .rw[zfc (.inr h2)];have h2b:(6:Int)<b.ends.length:=by omega
   simp[ir133,h1',h2b]
  .rw[zqn h1 h2];have h2b:¬(6:Int)<b.ends.length:=by omega
   have e62:=ev183 a b ha h1.symm;have e32:=ev126c [a.ends,b.ends] (by simp) (by simp) (by simp;have:=ha.e;have:=hb.e;omega);have hl:=@z4x a b (a.ends++b.ends) (by simp;have:=ha.e;have:=hb.e;omega);simp only[zhz,List.map_cons,List.map_nil,List.flatten_cons,List.flatten_nil,List.append_nil]at e32;generalize a.ends++b.ends=l at *;generalize qmr a b=F at *;generalize hB:l.any (qfv 4)=B;simp[ir133,h1',h2b,e32,qah,qck,qet,qmi,qed];generalize hr:ev pg (.code (.going _ L133_0) _)=o;obtain⟨r,rfl,hQ⟩:∃r,o=some r/\_:=by rw[<-hr];exact hl (by simp[T38])
   clear hr;have hfa:=zgu hQ;rw[hB]at hfa;clear hQ;rcases hfa with⟨rfl,k,f,hf,rfl⟩ | ⟨rfl,f,hf,rfl⟩
   .simp[zzs,qck,qet,qmi,qed]
   .simp[T38,e62,qck,qet,qmi,qed]
 .rw[zfc (.inl h1)];have h1':¬(a.ends.length:Int)=b.ends.length:=by omega
  have hne:((a.ends.length:Int) != (b.ends.length:Int))=true:=by rw[bne_iff_ne];exact h1'
  simp[ir133,h1',hne]
end Go.Proofs.YtggbaapfbgjaeaaGreatDoor
