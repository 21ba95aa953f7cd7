/- The values of all lines, by the program. A line that is stuck where it is: what the law says, with no program in sight. A line that is stuck where it is: controls and states. How the signals of a control come to rest, and its actuators: what is defined; right states stay right. What is at rest. -/
import Derived.Test.YtlhciedghbmjjaaGreatCa1
import Derived.Test.YtlhciedghbmjjaaGreatSa1
import Derived.KernelRfl
set_option linter.all false
namespace Go.Proofs.YtlhciedghbmjjaaGreat
open Go Go.Am Go.Proofs
set_option maxRecDepth 100000
def qeg:List Int->List Bool
 | []=>[]
 | e :: l=>(e==0) :: (e==2) :: qeg l
theorem zdo(l m:List Int):qeg (l++m)=qeg l++qeg m:=by
 induction l with
 | nil=>rfl
 | cons e l ih=>simp[qeg,ih]
theorem qek(l:List Int):(qeg l).length=2*l.length:=by
 induction l with
 | nil=>rfl
 | cons e l ih=>simp[qeg,ih];omega
theorem qqf{l:List Int}{k:Nat}(hk:k<l.length):qeg (l.take (k+1))=qeg (l.take k)++[l[k]==0,l[k]==2]:=by
 rw[jK hk,zdo];rfl
def qad(s:Ste):List Bool:=qeg s.ends++s.inputs++s.values
theorem qdg(s:Ste):(qad s).length=2*s.ends.length+s.inputs.length+s.values.length:=by
 unfold qad
 rw[jF,jF,qek]
abbrev h52(s:Ste)(k:Nat)(a:Nat×Nat):H:=[⟨0,.box s.cells⟩,⟨0,.arr 0 []⟩,⟨a.1,.arr a.2 ((qeg (s.ends.take k)).map qfi)⟩]
def T52(s:Ste)(k:Nat)(a:Nat×Nat):Tm:=[none,some (.bptr 0 0),some (.sl 1 0 0 0 0),some (.sl 2 a.1 a.2 0 (2*k)),none,none,none,some (qbx s.ends),some (num s.ends.length),some (num k)]++List.replicate 18 none
theorem jfv(s:Ste)(hs:s.small){st:St}(a0:Nat×Nat)(g0:a0.2=1\/a0.2=0)(h0:At (T52 s 0 a0) (h52 s 0 a0) st):∃r,ev pg (.code (.going 3 L123_0) st)=some r/\∃a:Nat×Nat,(a.2=1\/a.2=0)/\qag (.exit 0) (T52 s s.ends.length a) (h52 s s.ends.length a) r:=by
 have hse:=hs.e
 refine qbn s.ends.length (T52 s) (h52 s) (fun _ a=>a.2=1\/a.2=0) _ ?_ ?_ a0 g0 h0
 .rintro k ⟨g,m⟩ f hf hk hG
  have hk':(k:Int)<s.ends.length:=by omega
  have wk:=qab (n:=(k:Int)+1) (by omega) (by omega)
  have hlen:(qeg (s.ends.take k)).length=2*k:=by rw[qek,List.length_take];omega
  have hb:2*k+2<=140737488355328:=by omega
  have h2:2*(k+1)=2*k+2:=by omega
  unfold T52 h52
  rw[qqf hk,h2]
  generalize qeg (s.ends.take k)=W at *
  have hmm:m=1\/m=0:=hG
  rcases hmm with rfl | rfl<;>simp[L123_0,hk,hk',wk,hb,hlen,hf.ne]
 .rintro⟨g,m⟩ f hf hG
  unfold T52 h52
  generalize qeg (s.ends.take s.ends.length)=W at *
  generalize 2*s.ends.length=N at *
  have hmm:m=1\/m=0:=hG
  rcases hmm with rfl | rfl<;>simp[L123_0,hf.ne]
theorem ev123(s:Ste)(hs:s.small):ev pg (.call (.fn 123 [] []) [s.v] [])=some { v:=.sl 0 0 1 0 (qad s).length,st:=⟨[],[⟨0,.arr 1 ((qad s).map qfi)⟩]⟩ }:=by
 have hl:=@jfv s hs
 obtain⟨h1,h2,h3,h4,h5⟩:=hs
 have hlen:=qdg s
 unfold qad at hlen ⊢
 have he:=qek s.ends
 have q1:2*s.ends.length+s.inputs.length<=140737488355328:=by omega
 have q2:2*s.ends.length+s.inputs.length+s.values.length<=140737488355328:=by omega
 rw[hlen]
 simp only[List.map_append]
 have hW:((qeg s.ends).map qfi).length=2*s.ends.length:=by rw[List.length_map,he]
 unfold h52 at hl
 rw[List.take_length,List.take_zero,qeg]at hl
 generalize (qeg s.ends).map qfi=W at *
 rw[qac,pg123]
 simp[ir123,qaf]
 generalize hr:ev pg (.code (.going _ L123_0) _)=o
 obtain⟨r,rfl,⟨g,m⟩,hm,f,hf,rfl⟩:∃r,o=some r/\_:=by rw[<-hr];exact hl (0,0) (.inr rfl) (by simp[T52])
 clear hr
 have hmm:m=1\/m=0:=hm
 rcases hmm with rfl | rfl<;>simp[qaa,exT,qae,T52,hW,q1,q2,qcr,qeo,qem]<;>simp[Nat.add_assoc]
def qgn(c:Ct)(F i:Nat)(L:List Bool):List Bool:=match c.signals[i]? with
 | some x=>if x.kind=0 then L.set (F+i) (x.on.holds L)else L
 | none=>L
def qbk(c:Ct)(F:Nat):Nat->List Bool->List Bool
 | 0,L=>L
 | k+1,L=>qgn c F k (qbk c F k L)
theorem q2i(c:Ct)(F i:Nat)(L:List Bool):(qgn c F i L).length=L.length:=by
 unfold qgn
 split
 .split
  .rw[jU]
  .rfl
 .rfl
theorem qfk(c:Ct)(F:Nat)(L:List Bool):∀k,(qbk c F k L).length=L.length
 | 0=>rfl
 | k+1=>by rw[qbk,q2i,qfk c F L k]
abbrev qao(s:Ste):Nat:=2*s.ends.length+s.inputs.length
def qxi(c:Ct)(s:Ste):List Bool:=qbk c (qao s) c.signals.length (qad s)
def qds(c:Ct)(s:Ste):Ste:=⟨s.ends,s.valves,s.inputs,(qxi c s).drop (qao s),s.timers⟩
theorem qnw(s:Ste):(qad s).drop (qao s)=s.values:=by
 unfold qad
 rw[List.drop_left' (by rw[jF,qek])]
def q4z(c:Ct)(N:Nat):Prop:=∀x∈c.signals,x.on.light=true/\x.on.check N=0
abbrev h50(c:Ct)(s:Ste)(L:List Bool):H:=[⟨0,.box c.cells⟩,⟨0,.box s.cells⟩,o0,o0,o0,o0,o0,⟨0,.box (q0o 2)⟩,o0,o0,o0,o0,o0,⟨0,.box [.sl 14 0 1 0 s.ends.length,.sl 15 0 1 0 s.valves.length,.sl 16 0 1 0 s.inputs.length,.sl 17 0 1 0 s.values.length,.sl 18 0 1 0 s.timers.length]⟩,⟨0,.arr 1 (s.ends.map qdc)⟩,⟨0,.arr 1 (s.valves.map qfi)⟩,⟨0,.arr 1 (s.inputs.map qfi)⟩,⟨0,.arr 1 ((L.drop (qao s)).map qfi)⟩,⟨0,.arr 1 (s.timers.map qdc)⟩,⟨0,.arr 1 (L.map qfi)⟩]
def T50(c:Ct)(s:Ste)(k:Nat):Tm:=[none,none,some (.bptr 0 0),some (.bptr 1 0),some (.bptr 7 0),some (.bptr 13 0),some (.sl 19 0 1 0 (qad s).length)]++List.replicate 23 none++[some (.imm (c.signals.map Sg.row)),some (num c.signals.length),some (num k)]++List.replicate 28 none
theorem qjc{c:Ct}(s:Ste):(qds c s).values.length=s.values.length:=by
 unfold qds
 simp only[List.length_drop]
 rw[qxi,qfk,qdg]
 unfold qao
 omega
theorem q9m{c:Ct}(h:c.check=0)(hfew:c.small=true):q4z c (qak c c.act.toNat):=by
 have hR:=qvn h hfew
 intro x hx
 have hl:=(qgr hfew).2.2.2.2.2 x hx
 refine⟨hl.2.1,?_⟩
 have he:=hR.on x hx
 have hm:=hR.mid
 have h1:=hm.hi
 have h2:=hm.inp
 have h3:=hm.sig
 unfold Ex.check
 rw[if_neg (by unfold qak;omega),if_pos hl.2.1]
 exact he
theorem zjh{c:Ct}{s:Ste}(h:zgl c s=0):Shp c s:=by
 unfold zgl at h
 by_cases hS:Shp c s
 .exact hS
 .rw[if_neg hS]at h;cases h
theorem qme{c:Ct}{s:Ste}(h:stE c s=0):c.check=0/\Shp c s:=by
 unfold stE at h
 by_cases hc:c.check=0
 .rw[if_pos hc]at h
  exact⟨hc,zjh h⟩
 .rw[if_neg hc]at h;exact absurd h hc
theorem q4l{c:Ct}{F i v:Nat}{L:List Bool}(h:v≠F+i\/(∀x,c.signals[i]?=some x->x.kind≠0)):(qgn c F i L)[v]?=L[v]?:=by
 unfold qgn
 split
 .rename_i x hx
  split
  .rename_i h0
   rcases h with h | h
   .rw[jO (by omega)]
   .exact absurd h0 (h x hx)
  .rfl
 .rfl
theorem qrq{c:Ct}{F v k:Nat}{L:List Bool}(h:∀j,k<=j->v≠F+j\/(∀x,c.signals[j]?=some x->x.kind≠0)):∀d,(qbk c F (k+d) L)[v]?=(qbk c F k L)[v]?
 | 0=>rfl
 | d+1=>by rw[<-Nat.add_assoc,qbk,q4l (h (k+d) (by omega)),qrq h d]
theorem qsm{c:Ct}(h:c.check=0):∀i x,c.signals[i]?=some x->q3r c c.act.toNat (qea c c.act.toNat (qam c c.act.toNat+i)) i x=0:=by
 have h2:ctE c c.act.toNat=0:=by
  unfold Ct.check at h
  split at h
  .cases h
  .split at h
   .cases h
   .exact h
 unfold ctE at h2
 split at h2
 .split at h2
  .rename_i hs
   intro i x hx
   have hil:i<c.signals.length:=by
    rcases Nat.lt_or_ge i c.signals.length with h | h
    .exact h
    .rw[jY h]at hx;cases hx
   have h3:=qpo hs i (by omega) (by omega)
   unfold qsw at h3
   rw[hx]at h3
   exact h3
  .rename_i h4;exact absurd h2 h4
 .rename_i h4;exact absurd h2 h4
theorem q0y{c:Ct}{s:Ste}(hS:Shp c s):(qad s).length=qak c c.act.toNat:=by
 have h1:=hS.e
 have h2:=hS.i
 have h3:=hS.v
 rw[qdg]
 unfold qak
 omega
theorem qnk{c:Ct}{s:Ste}(h:stE c s=0):stE c (qds c s)=0:=by
 obtain⟨hc,hS⟩:=qme h
 have hlen:=qjc (c:=c) s
 have hS':Shp c (qds c s):=⟨hS.e,hS.w,hS.i,by rw[hlen];exact hS.v,hS.t⟩
 unfold stE at h ⊢
 rw[if_pos hc]at h ⊢
 unfold zgl at h ⊢
 rw[if_pos hS]at h
 rw[if_pos hS']
 have e1:(qds c s).ends=s.ends:=rfl
 have e2:(qds c s).timers=s.timers:=rfl
 rw[e1,e2]
 by_cases hb:s.ends.any (qfe 4)=true\/s.timers.any (qfe 3)=true
 .rw[if_pos hb]at h;cases h
 .rw[if_neg hb]at h ⊢
  by_cases ha:zuc (tmF c s) s.timers.length=true
  .rw[if_pos ha]at h;cases h
  .have hno:∀k,k<s.timers.length->tmF c s k=false:=fun k hk=>by
    cases hq:tmF c s k with
    | false=>rfl
    | true=>exact absurd (q5j hk hq) ha
   rw[if_neg]
   rw[q0h fun k hk=>?_]
   .simp
   .have hq:=hno k hk
    unfold tmF at hq ⊢
    rw[e2]
    have hkc:k<c.signals.length:=by have:=hS.t;omega
    rw[jA hkc]at hq ⊢
    simp only[Option.map_some,Option.getD_some]at hq ⊢
    by_cases hk2:c.signals[k].kind=2
    .have hv:(qds c s).values[k]?=s.values[k]?:=by
      unfold qds
      simp only
      rw[List.getElem?_drop,qxi]
      have:=qrq (c:=c) (F:=qao s) (v:=qao s+k) (k:=0) (L:=qad s) (fun j _=>by
       by_cases hjk:j=k
       .refine .inr fun x hx=>?_
        rw[hjk,jA hkc]at hx
        cases hx
        omega
       .exact .inl (by omega)) c.signals.length
      rw[Nat.zero_add]at this
      rw[this,qbk,<-List.getElem?_drop,qnw]
     rw[hv]
     exact hq
    .unfold tmB at hq ⊢
     simp[hk2]at hq ⊢
     exact hq
theorem zzc{c:Ct}{s:Ste}(hc:c.check=0)(hS:Shp c s)(h1:s.ends.any (qfe 4)=false)(h2:s.timers.any (qfe 3)=false)(h3:∀k,k<s.timers.length->tmF c s k=false):stE c s=0:=by
 unfold stE zgl
 rw[if_pos hc,if_pos hS,h1,h2,q0h h3]
 simp
theorem zbt{c:Ct}{s:Ste}(h:stE c s=0):s.ends.any (qfe 4)=false/\s.timers.any (qfe 3)=false/\∀k,k<s.timers.length->tmF c s k=false:=by
 obtain⟨hc,hS⟩:=qme h
 unfold stE zgl at h
 rw[if_pos hc,if_pos hS]at h
 by_cases hb:s.ends.any (qfe 4)=true\/s.timers.any (qfe 3)=true
 .rw[if_pos hb]at h;cases h
 .rw[if_neg hb]at h
  refine⟨by simpa using fun e=>hb (.inl e),by simpa using fun e=>hb (.inr e),fun k hk=>?_⟩
  cases hq:tmF c s k with
  | false=>rfl
  | true=>rw[if_pos (q5j hk hq)]at h;cases h
def mix{α:Type}(A B:List α)(k:Nat):List α:=A.take k++B.drop k
theorem qgl{α:Type}(A B:List α):mix A B 0=B:=by simp[mix]
theorem qiz{α:Type}{A B:List α}(h:A.length=B.length):mix A B A.length=A:=by
 unfold mix
 rw[List.take_length,jX (by omega),List.append_nil]
theorem qjy{α:Type}{A B:List α}(h:A.length=B.length){k:Nat}(hk:k<=A.length):(mix A B k).length=A.length:=by
 unfold mix
 rw[jF,List.length_take,List.length_drop]
 omega
theorem qqj{α:Type}{A B:List α}(h:A.length=B.length){k:Nat}(hk:k<A.length):(mix A B k)[k]?=B[k]?:=by
 unfold mix
 rw[jJ (by rw[List.length_take];omega),List.length_take,List.getElem?_drop]
 congr 1
 omega
theorem qjb{α:Type}{A B:List α}(h:A.length=B.length){k:Nat}(hk:k<A.length):(mix A B k).set k A[k]=mix A B (k+1):=by
 have hkB:k<B.length:=by omega
 unfold mix
 rw[jK hk,jL hkB]
 have hl:(A.take k).length=k:=by rw[List.length_take];omega
 rw[List.set_append_right k _ (by omega),hl,Nat.sub_self,List.set_cons_zero,List.append_assoc]
 rfl
abbrev q0i(x:Sg)(L:List Bool):Bool:=decide (x.kind=1)&&x.off.holds L
def qkv(x:Sg)(L:List Bool)(v:Bool)(t:Int):Bool×Int :=
 if x.kind=1 then(if x.on.holds L != x.off.holds L then(x.on.holds L,t)else(v,t))
 else if x.kind=2 then(if x.on.holds L=true then(if t=0 then(v,1)else(v,t))else(false,0))
 else(v,t)
def q4q(L:List Bool):List Sg->List Bool->List Int->List (Bool×Int)
 | x :: l,v :: w,t :: u=>qkv x L v t :: q4q L l w u
 | _,_,_=>[]
theorem qig(L:List Bool):∀{l:List Sg} {w:List Bool} {u:List Int},w.length=l.length->u.length=l.length->(q4q L l w u).length=l.length
 | [],_,_,_,_=>by simp[q4q]
 | x :: l,[],_,h,_=>by simp at h
 | x :: l,v :: w,[],_,h=>by simp at h
 | x :: l,v :: w,t :: u,h1,h2=>by
  simp only[List.length_cons]at h1 h2
  rw[q4q,List.length_cons,qig L (by omega) (by omega),List.length_cons]
theorem qoy(L:List Bool):∀{l:List Sg} {w:List Bool} {u:List Int} {k:Nat} {x:Sg} {v:Bool} {t:Int},l[k]?=some x->w[k]?=some v->u[k]?=some t->(q4q L l w u)[k]?=some (qkv x L v t)
 | [],_,_,_,_,_,_,h,_,_=>by simp at h
 | x :: l,[],_,_,_,_,_,_,h,_=>by simp at h
 | x :: l,v :: w,[],_,_,_,_,_,_,h=>by simp at h
 | x :: l,v :: w,t :: u,0,_,_,_,h1,h2,h3=>by
  simp at h1 h2 h3
  subst h1 h2 h3
  rfl
 | x :: l,v :: w,t :: u,k+1,_,_,_,h1,h2,h3=>by
  simp at h1 h2 h3
  rw[q4q,List.getElem?_cons_succ]
  exact qoy L h1 h2 h3
abbrev qde(c:Ct)(g:Ste):List (Bool×Int):=q4q (qad g) c.signals g.values g.timers
def qzg(c:Ct)(g:Ste):Ste:=⟨g.ends,g.valves,g.inputs,(qde c g).map Prod.fst,(qde c g).map Prod.snd⟩
def qgp(c:Ct)(s:Ste):Ste:=qzg c (qds c s)
def q3s(c:Ct)(L:List Bool)(i:Nat):Bool:=((c.signals[i]?).map fun x=>x.on.holds L&&q0i x L).getD false
def qsh(c:Ct)(s:Ste):List Int:=qps (q3s c (qad (qds c s))) (qao s) c.signals.length
def qdn(c:Ct)(N:Nat):Nat->Ste->List Int->Option (Ste×List Int)
 | 0,_,_=>none
 | d+1,s,l=>if qic (qgp c s) s=true then some (s,norm N (l++qsh c s))else qdn c N d (qgp c s) (l++qsh c s)
def qce(c:Ct)(s:Ste):Option (Ste×List Int):=qdn c (qak c c.act.toNat) 65 s []
abbrev qbt(L:List Bool)(p:List Int)(i:Nat):Bool:=((p[i]?).map fun j=>(L[j.toNat]?).getD false).getD false
def qmu(c:Ct)(L:List Bool)(i:Nat)(v:Bool):Bool:=if qbt L c.plus i != qbt L c.minus i then qbt L c.plus i else v
def qik(c:Ct)(s:Ste):Ste:=⟨s.ends,s.valves.mapIdx (qmu c (qad s)),s.inputs,s.values,s.timers⟩
def qls(c:Ct)(s:Ste):List Int:=qps (fun i=>qbt (qad s) c.plus i&&qbt (qad s) c.minus i) (qak c c.act.toNat) c.act.toNat
def qju(v:Bool)(e:Int):Int:=if v=true/\(e=0\/e=3)then 1 else if v=false/\(e=2\/e=1)then 3 else e
def qkc(s:Ste):Ste:=⟨List.zipWith qju s.valves s.ends,s.valves,s.inputs,s.values,s.timers⟩
abbrev qfs(c:Ct):Nat:=qak c c.act.toNat+c.act.toNat
def qcu(c:Ct)(s:Ste):Option (Ste×List Int):=(qce c s).map fun x=>(qkc (qik c x.1),norm (qfs c) (x.2++qls c x.1))
def qgq(c:Ct):Nat->Ste->List Int->Option (Ste×List Int)
 | 0,_,_=>none
 | d+1,s,l=>match qcu c s with
  | none=>none
  | some x=>if qic s x.1=true then some (s,norm (qfs c) (l++x.2))else qgq c d x.1 (norm (qfs c) (l++x.2))
def qfr(c:Ct)(s:Ste):Option (Ste×List Int):=qgq c 65 s []
theorem qgz{c:Ct}{s:Ste}:stE c s=0<->c.check=0/\Shp c s/\s.ends.any (qfe 4)=false/\s.timers.any (qfe 3)=false/\∀k,k<s.timers.length->tmF c s k=false :=
 ⟨fun h=>⟨(qme h).1,(qme h).2,zbt h⟩,fun h=>zzc h.1 h.2.1 h.2.2.1 h.2.2.2.1 h.2.2.2.2⟩
theorem qgj{n:Int}{l:List Int}:l.any (qfe n)=false<->∀x∈l,0<=x/\x<n:=by
 rw[List.any_eq_false]
 constructor
 .intro h x hx
  have:=h x hx
  simp only[qfe,Bool.or_eq_true,jW,not_or]at this
  omega
 .intro h x hx
  have:=h x hx
  simp only[qfe,Bool.or_eq_true,jW,not_or]
  omega
theorem qxu{c:Ct}{s:Ste}(hS:Shp c s){k:Nat}(hk:k<c.signals.length):tmF c s k=tmB c.signals[k].kind (s.values[k]'(by rw[hS.v];exact hk)) (s.timers[k]'(by rw[hS.t];exact hk)):=by
 unfold tmF
 rw[jA hk,jA (by rw[hS.v];exact hk),jA (by rw[hS.t];exact hk)]
 rfl
theorem q5e{x:Sg}{L:List Bool}{v:Bool}{t:Int}(h:tmB x.kind v t=false)(ht:0<=t/\t<3):tmB x.kind (qkv x L v t).1 (qkv x L v t).2=false/\0<=(qkv x L v t).2/\(qkv x L v t).2<3:=by
 unfold qkv
 by_cases h1:x.kind=1
 .rw[if_pos h1]
  rw[h1]at h ⊢
  simp[tmB]at h ⊢
  split<;>exact⟨h,ht⟩
 .rw[if_neg h1]
  by_cases h2:x.kind=2
  .rw[if_pos h2]
   rw[h2]at h ⊢
   simp[tmB]at h
   split
   .split
    .rename_i h0
     subst h0
     subst h
     exact⟨by decide,by simp⟩
    .refine⟨?_,ht⟩
     simp[tmB,h]
   .exact⟨by decide,by simp⟩
  .rw[if_neg h2]
   exact⟨h,ht⟩
theorem q9z{c:Ct}{g:Ste}(h:stE c g=0):stE c (qzg c g)=0:=by
 obtain⟨hc,hS,h1,h2,h3⟩:=qgz.1 h
 have hlen:(qde c g).length=c.signals.length:=qig _ hS.v hS.t
 have hS':Shp c (qzg c g):=⟨hS.e,hS.w,hS.i,by unfold qzg;rw[List.length_map,hlen],by unfold qzg;rw[List.length_map,hlen]⟩
 have hall:∀k (hk:k<c.signals.length),∃v t,(qde c g)[k]?=some (v,t)/\tmB c.signals[k].kind v t=false/\0<=t/\t<3:=by
  intro k hk
  have hkv:k<g.values.length:=by rw[hS.v];exact hk
  have hkt:k<g.timers.length:=by rw[hS.t];exact hk
  have hg:=qoy (qad g) (jA hk) (jA hkv) (jA hkt)
  have ht:=(qgj.1 h2) _ (jH hkt)
  have hq:=h3 k hkt
  rw[qxu hS hk]at hq
  have:=q5e (L:=qad g) hq ht
  exact⟨_,_,hg,this.1,this.2⟩
 refine qgz.2 ⟨hc,hS',h1,qgj.2 fun x hx=>?_,fun k hk=>?_⟩
 .unfold qzg at hx
  obtain⟨k,hk,rfl⟩:=List.getElem_of_mem hx
  rw[List.getElem_map]
  rw[List.length_map,hlen]at hk
  obtain⟨v,t,e,_,hr⟩:=hall k hk
  rw[jA (by rw[hlen];exact hk)]at e
  rw[Option.some.inj e]
  exact hr
 .have hk':k<c.signals.length:=by rw[<-hS'.t];exact hk
  rw[qxu hS' hk']
  obtain⟨v,t,e,hr,_⟩:=hall k hk'
  unfold qzg
  simp only[List.getElem_map]
  rw[jA (by rw[hlen];exact hk')]at e
  rw[Option.some.inj e]
  exact hr
theorem qux{c:Ct}{s:Ste}(h:stE c s=0):stE c (qgp c s)=0:=q9z (qnk h)
theorem q5t{c:Ct}{s:Ste}(h:stE c s=0):stE c (qik c s)=0:=by
 obtain⟨hc,hS,h1,h2,h3⟩:=qgz.1 h
 exact qgz.2 ⟨hc,⟨hS.e,by unfold qik;rw[List.length_mapIdx];exact hS.w,hS.i,hS.v,hS.t⟩,h1,h2,h3⟩
theorem zhe{v:Bool}{e:Int}(h:0<=e/\e<4):0<=qju v e/\qju v e<4:=by
 unfold qju
 split
 .omega
 .split
  .omega
  .exact h
theorem q4h{c:Ct}{s:Ste}(h:stE c s=0):stE c (qkc s)=0:=by
 obtain⟨hc,hS,h1,h2,h3⟩:=qgz.1 h
 have hl:(List.zipWith qju s.valves s.ends).length=s.ends.length:=by
  have:=hS.e
  have:=hS.w
  rw[List.length_zipWith]
  omega
 refine qgz.2 ⟨hc,⟨by unfold qkc;rw[hl];exact hS.e,hS.w,hS.i,hS.v,hS.t⟩,qgj.2 fun x hx=>?_,h2,h3⟩
 unfold qkc at hx
 obtain⟨k,hk,rfl⟩:=List.getElem_of_mem hx
 rw[List.getElem_zipWith]
 exact zhe ((qgj.1 h1) _ (jH _))
theorem qnb{c:Ct}{N:Nat}:∀{d:Nat} {s:Ste} {l:List Int} {t:Ste} {m:List Int},stE c s=0->qdn c N d s l=some (t,m)->stE c t=0
 | 0,_,_,_,_,_,h=>by cases h
 | d+1,s,l,t,m,hs,h=>by
  rw[qdn]at h
  split at h
  .cases h;exact hs
  .exact qnb (qux hs) h
theorem qoz{c:Ct}{s t:Ste}{m:List Int}(hs:stE c s=0)(h:qce c s=some (t,m)):stE c t=0:=qnb hs h
theorem qrv{c:Ct}{s t:Ste}{m:List Int}(hs:stE c s=0)(h:qcu c s=some (t,m)):stE c t=0:=by
 unfold qcu at h
 cases e:qce c s with
 | none=>rw[e]at h;cases h
 | some x =>
  rw[e]at h
  cases h
  exact q4h (q5t (qoz hs e))
theorem qrw{c:Ct}:∀{d:Nat} {s:Ste} {l:List Int} {t:Ste} {m:List Int},stE c s=0->qgq c d s l=some (t,m)->stE c t=0
 | 0,_,_,_,_,_,h=>by cases h
 | d+1,s,l,t,m,hs,h=>by
  rw[qgq]at h
  cases e:qcu c s with
  | none=>rw[e]at h;cases h
  | some x =>
   rw[e]at h
   simp only at h
   split at h
   .cases h;exact hs
   .exact qrw (qrv hs (show qcu c s=some (x.1,x.2)from e)) h
theorem qnj{c:Ct}{s t:Ste}{m:List Int}(hs:stE c s=0)(h:qfr c s=some (t,m)):stE c t=0:=qrw hs h
theorem qpx(s:Ste):qic s s=true:=qia.2 rfl
theorem qrb{c:Ct}:∀{d:Nat} {s:Ste} {l:List Int} {t:Ste} {m:List Int},qgq c d s l=some (t,m)->∃a,qcu c t=some (t,a)
 | 0,_,_,_,_,h=>by cases h
 | d+1,s,l,t,m,h=>by
  rw[qgq]at h
  cases e:qcu c s with
  | none=>rw[e]at h;cases h
  | some x =>
   rw[e]at h
   simp only at h
   split at h
   .rename_i hs
    cases h
    have:=qia.1 hs
    exact⟨x.2,by rw[e,this]⟩
   .exact qrb h
theorem qnq{c:Ct}{s t:Ste}{m:List Int}(h:qfr c s=some (t,m)):∃a,qcu c t=some (t,a):=qrb h
theorem q8s{c:Ct}{t:Ste}{a:List Int}(h:qcu c t=some (t,a)):qfr c t=some (t,norm (qfs c) a):=by
 unfold qfr
 rw[qgq,h]
 simp only[qpx,if_true,List.nil_append]
theorem qpd{c:Ct}{N:Nat}:∀{d:Nat} {s:Ste} {l:List Int} {t:Ste} {m:List Int},qdn c N d s l=some (t,m)->t.ends=s.ends/\t.valves=s.valves/\t.inputs=s.inputs
 | 0,_,_,_,_,h=>by cases h
 | d+1,s,l,t,m,h=>by
  rw[qdn]at h
  split at h
  .cases h;exact⟨rfl,rfl,rfl⟩
  .exact qpd (s:=qgp c s) h
theorem q1v{c:Ct}{s t:Ste}{m:List Int}(h:qce c s=some (t,m)):t.ends=s.ends/\t.valves=s.valves/\t.inputs=s.inputs:=qpd h
theorem qrg{c:Ct}{s t:Ste}{a:List Int}(h:qcu c s=some (t,a)):∃u m,qce c s=some (u,m)/\t=qkc (qik c u)/\a=norm (qfs c) (m++qls c u):=by
 unfold qcu at h
 cases e:qce c s with
 | none=>rw[e]at h;cases h
 | some x =>
  rw[e]at h
  cases h
  exact⟨x.1,x.2,rfl,rfl,rfl⟩
theorem qye{c:Ct}{s t:Ste}{a:List Int}(h:qcu c s=some (t,a)):t.inputs=s.inputs:=by
 obtain⟨u,m,hu,rfl,_⟩:=qrg h
 exact(q1v hu).2.2
theorem qok{c:Ct}:∀{d:Nat} {s:Ste} {l:List Int} {t:Ste} {m:List Int},qgq c d s l=some (t,m)->t.inputs=s.inputs
 | 0,_,_,_,_,h=>by cases h
 | d+1,s,l,t,m,h=>by
  rw[qgq]at h
  cases e:qcu c s with
  | none=>rw[e]at h;cases h
  | some x =>
   rw[e]at h
   simp only at h
   split at h
   .cases h;rfl
   .rw[qok h,qye (show qcu c s=some (x.1,x.2)from e)]
theorem q1g{c:Ct}{s t:Ste}{m:List Int}(h:qfr c s=some (t,m)):t.inputs=s.inputs:=qok h
structure Evn where
 kind:Int
 idx:Int
 val:Bool
abbrev Evn.row(x:Evn):List V:=[num x.kind,num x.idx,.bool x.val]
def qru(a b:Ste)(i:Nat):Option (Int×Bool):=match a.ends[i]?,b.ends[i]? with
 | some x,some y=>if(y=1\/y=3)/\x≠y then some (i,y==1)else none
 | _,_=>none
def qdo(a b:Ste):List (Int×Bool):=(List.range a.ends.length).filterMap (qru a b)
def qdb(s:Ste)(k:Int)(i:Nat):Bool:=if k=0 then((s.ends[i]?).map fun e=>e==1||e==3).getD false else((s.timers[i]?).map fun t=>t==1).getD false
def qvu(s:Ste):List Evn:=((List.range s.ends.length).filter (qdb s 0)).map (fun(i:Nat)=>⟨0,i,false⟩)++((List.range s.timers.length).filter (qdb s 1)).map fun(i:Nat)=>⟨1,i,false⟩
def qmt(s:Ste)(x:Evn):Bool :=
 if x.idx<0 then false
 else if x.kind=2 then((s.inputs[x.idx.toNat]?).map fun v=>v != x.val).getD false
 else qdb s x.kind x.idx.toNat
def qcc(s:Ste)(x:Evn):Ste :=
 if x.kind=0 then⟨s.ends.set x.idx.toNat (if s.ends[x.idx.toNat]?=some 1 then 2 else 0),s.valves,s.inputs,s.values,s.timers⟩
 else if x.kind=1 then⟨s.ends,s.valves,s.inputs,s.values.set x.idx.toNat true,s.timers.set x.idx.toNat 2⟩
 else⟨s.ends,s.valves,s.inputs.set x.idx.toNat x.val,s.values,s.timers⟩
def qhj(c:Ct)(s:Ste):Ste×List Int×Int:=match qfr c s with
 | some x=>(x.1,x.2,0)
 | none=>(zeroS,[],21)
def qah(c:Ct)(s:Ste)(x:Evn):Ste×List Int×Int :=
 if x.kind<0\/2<x.kind then(zeroS,[],1)else if qmt s x=true then qhj c (qcc s x)else(zeroS,[],14)
structure Crs where
 st:Ste
 strokes:List (List (Int×Bool))
 conf:List Int
def q5i:Crs:=⟨zeroS,[],[]⟩
def qsg(c:Ct):List Evn->Nat->Crs->Crs×Int×Int
 | [],_,r=>(r,0,0)
 | x :: l,i,r=>if(qah c r.st x).2.2=0 then qsg c l (i+1) ⟨(qah c r.st x).1,r.strokes++[qdo r.st (qah c r.st x).1],norm (qfs c) (r.conf++(qah c r.st x).2.1)⟩else(q5i,i,(qah c r.st x).2.2)
end Go.Proofs.YtlhciedghbmjjaaGreat
