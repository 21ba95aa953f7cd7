/- Run, by the program. Moves of a log, by the program. Moves, by the program. The examples of the law of machines in time. The examples of the law of machines in time: they are right. The law SimulateEvents, in Am: it returns true. Short courses, by the reference; machines and presses turned to the reference's. -/
import Derived.Test.YtlhciedghbmjjaaGreatSi12
import Derived.KernelRfl
import Derived.Test.YtlhciedghbmjjaaGreatSi8
import Derived.Test.YtlhciedghbmjjaaGreatSi2
import Derived.Test.YtlhciedghbmjjaaGreatCt3
set_option linter.all false
namespace Go.Proofs.YtlhciedghbmjjaaGreat
open Go Go.Am Go.Proofs
set_option maxRecDepth 100000
set_option maxHeartbeats 4000000
abbrev Lg.cells(x:Lg):List V:=[zmm x.en,qbx x.cf,qbx x.st.ends,qcy x.st.valves,qcy x.st.inputs,qcy x.st.values,qbx x.st.timers]
abbrev Lg.v(x:Lg):V:=.agg x.cells
def zLg:Lg:=⟨[],[],zeroS⟩
def qhf(m:Mch)(l:List Prs):Cst:=⟨(qby m.c).1,List.replicate (qby m.c).1.ends.length 0,List.replicate (qby m.c).1.timers.length 0,l⟩
def qnp(m:Mch)(l:List Prs)(u:Int):Option (Int ⊕ Lg):=goS m u (4097+l.length) (qhf m l) [] (qby m.c).2.1
def zlq(z:Option (Int ⊕ Lg)):Lg×Int :=
 match z with
 | some (.inr x)=>(x,0)
 | some (.inl e)=>(zLg,e)
 | none=>(zLg,0)
def qms(m:Mch)(l:List Prs)(u:Int):Lg×Int :=
 if qer m l u≠0 then(zLg,qer m l u)else if(qby m.c).2.2≠0 then(zLg,(qby m.c).2.2)else zlq (qnp m l u)
theorem qhm{m:Mch}{l:List Prs}{u:Int}(h:qer m l u=0):qft m=0/\l.length<=256/\qzh m.c.inputs.length l=0/\0<=u/\u<=1000000:=by
 unfold qer at h
 split at h
 .rename_i h1;exact absurd h h1
 .rename_i h1
  split at h
  .cases h
  .rename_i h2
   split at h
   .rename_i h3;exact absurd h h3
   .rename_i h3
    split at h
    .cases h
    .rename_i h4
     exact⟨by simpa using h1,by omega,by simpa using h3,by omega,by omega⟩
theorem zeu{n:Nat}{l:List Prs}(h:qzh n l=0):∀k,k<l.length->q0m n l k=0:=by
 intro k hk
 unfold qzh at h
 cases hf:(List.range l.length).find? (fun k=>q0m n l k != 0)with
 | none =>
  rw[List.find?_eq_none]at hf
  have:=hf k (List.mem_range.2 hk)
  simpa using this
 | some j =>
  rw[hf]at h
  have:=List.find?_some hf
  simp only[Option.map_some,Option.getD_some]at h
  rw[h]at this
  simp at this
theorem qsn{m:Mch}{l:List Prs}{u:Int}(hs:m.c.small=true)(hg:qer m l u=0)(he:(qby m.c).2.2=0):Cok m (qhf m l):=by
 obtain⟨h1,h2,h3,h4,h5⟩:=qhm hg
 have hc:m.c.check=0:=by
  unfold qft at h1
  split at h1
  .assumption
  .rename_i hn;exact absurd h1 hn
 have ht:quc m=0:=by
  unfold qft at h1
  rwa [if_pos hc]at h1
 have hlie:=q8v hs hc he
 have shp:=hlie.rdy.shp
 have mid:=hlie.rdy.mid
 have hm:(m.ts.length:Int)=m.c.act/\∀q∈m.ts,qvz q=false:=by
  unfold quc at ht
  split at ht
  .cases ht
  .rename_i hl
   split at ht
   .cases ht
   .rename_i hb
    refine⟨by omega,fun q hq=>?_⟩
    cases hq2:qvz q with
    | false=>rfl
    | true=>exact absurd (List.any_eq_true.2 ⟨q,hq,hq2⟩) hb
 refine⟨hlie,⟨by simp[qhf],by simp[qhf],?_,?_,?_,?_,?_,?_,?_,zka hc⟩,fun p hp=>?_⟩
 .have a:=shp.e;have b:=hm.1;simp only[qhf];omega
 .have a:=shp.t;simp only[qhf];omega
 .have a:=shp.e;have b:=mid.hi;have d:=mid.act;simp only[qhf];omega
 .have a:=shp.t;have b:=mid.sig;simp only[qhf];omega
 .intro x hx
  rw[List.eq_of_mem_replicate hx]
  omega
 .intro x hx
  rw[List.eq_of_mem_replicate hx]
  omega
 .intro q hq
  obtain⟨a,b,c,d⟩:=qti (hm.2 q hq)
  exact⟨a,b,c,d⟩
 .obtain⟨k,hk,rfl⟩:=List.getElem_of_mem hp
  have hk':k<l.length:=hk
  have hz:=zeu h3 k hk'
  rw[qts hk']at hz
  split at hz
  .cases hz
  .rename_i a
   split at hz
   .cases hz
   .rename_i b
    show 0<=l[k].t/\l[k].t<=1000000/\0<=l[k].i/\l[k].i<(m.c.inputs.length:Int)
    omega
theorem qmg(c:Ct):Lin (qfs c) (qby c).2.1:=by
 unfold qby
 split
 .exact q0r _ _
 .exact Lin.nil _
theorem z0m{m:Mch}{s0:Ste}{X:List V}{C:List Int}(hX:qfm 32 X=true):qck [⟨0,.box m.cells⟩,o0s,o0s,o0s,o0s,o0s,o0s,o0s,⟨0,.box [.sl 1 0 0 0 0,.sl 2 0 0 0 0,.sl 3 0 0 0 0,.sl 4 0 0 0 0,.sl 5 0 0 0 0,.sl 6 0 0 0 0,.sl 7 0 0 0 0]⟩,o0s,o0s,o0s,o0s,o0s,⟨0,.box s0.cells⟩,
   ⟨1,.arr 1 (List.replicate s0.ends.length [num 0])⟩,⟨1,.arr 1 (List.replicate s0.timers.length [num 0])⟩,⟨0,.box X⟩,o0s,o0s,o0s,o0s,o0s,o0s,o0s,
   ⟨0,.box [.sl 26 0 0 0 0,qbx C,.sl 27 0 0 0 0,.sl 28 0 0 0 0,.sl 29 0 0 0 0,.sl 30 0 0 0 0,.sl 31 0 0 0 0]⟩,o0s,o0s,o0s,o0s,o0s,o0s]:=by
 rw[qgk]
 intro o ho
 simp only[List.mem_cons,List.not_mem_nil,or_false]at ho
 rcases ho with rfl | rfl | rfl | rfl | rfl | rfl | rfl | rfl | rfl | rfl | rfl | rfl | rfl | rfl | rfl | rfl | rfl | rfl | rfl | rfl | rfl | rfl | rfl | rfl | rfl | rfl | rfl | rfl | rfl | rfl | rfl | rfl<;>(try rfl)<;>simp[qbg]
 exact qjh hX
theorem ev13{m:Mch}(hs:m.c.small=true)(ht:m.ts.length<=100000){l:List Prs}(hl:l.length<=100000)(u:Int):ev pg (.call (.fn 13 [] []) [m.v,prs l,num u] [])=some { v:=.tup [(qms m l u).1.v,num (qms m l u).2],st:=⟨[],[]⟩ }:=by
 have e39:=ev39 m hs ht l hl u
 have e29:=ev29 m.c hs
 rw[qac,pg13]
 unfold qms
 by_cases h1:qer m l u=0
 .rw[if_neg (by simp[h1])]
  rw[h1]at e39
  by_cases h2:(qby m.c).2.2=0
  .rw[if_neg (by simp[h2])]
   have hok:=qsn hs h1 h2
   obtain⟨g1,g2,g3,g4,g5⟩:=qhm h1
   have hlin:=qmg m.c
   have e40:=ev40 (x:=17) (m:=m) (s:=(qby m.c).1) (ve:=.sl 15 1 1 0 (qby m.c).1.ends.length) (vt:=.sl 16 1 1 0 (qby m.c).1.timers.length) (e:=List.replicate (qby m.c).1.ends.length 0) (t:=List.replicate (qby m.c).1.timers.length 0) (l:=l) rfl (z0m (m:=m) (s0:=(qby m.c).1) (C:=(qby m.c).2.1) (by simp))
    (VE.sl (i:=15) (n:=(qby m.c).1.ends.length) (.inr ⟨rfl,rfl⟩) rfl) (VE.sl (i:=16) (n:=(qby m.c).1.timers.length) (.inr ⟨rfl,rfl⟩) rfl) hok.tim (fun d hd=>by
     have:=(hok.due d hd).1
     exact⟨by omega,by omega⟩)
   have hlp:=fun(st:St)=>z7x (m:=m) (s0:=(qby m.c).1) (u:=u) g5 (Z:=qnp m l u) (L:=l.length) (by omega) (st:=st) ⟨qhf m l,[],(qby m.c).2.1,.sl 15 1 1 0 (qby m.c).1.ends.length,.sl 16 1 1 0 (qby m.c).1.timers.length,0,0,true,zah⟩
    ⟨hok,.inr ⟨rfl,rfl⟩,.inr ⟨rfl,rfl⟩,.inr rfl,hlin,rfl,by simp[qhf],by simp⟩
   have n1:(qby m.c).1.ends.length<=4096:=hok.tim.ne
   have n2:(qby m.c).1.timers.length<=4096:=hok.tim.nt
   simp only[G13.T,G13.H,G13.d,G13.X,nxD,qhf,List.map_nil,List.length_nil]at hlp
   generalize hZ:qnp m l u=Z at *
   simp only[zam]at e29
   rw[h2]at e29
   generalize (qby m.c).1=s0 at *
   generalize (qby m.c).2.1=C0 at *
   generalize (qky (qpr m s0 (List.replicate s0.ends.length 0) (List.replicate s0.timers.length 0) l)).isSome=SM at *
   generalize (qky (qpr m s0 (List.replicate s0.ends.length 0) (List.replicate s0.timers.length 0) l)).getD zah=ND at *
   have n3:s0.ends.length*8<=140737488355328:=by omega
   have n4:s0.timers.length*8<=140737488355328:=by omega
   have n5:s0.ends.length<=4611686018427387904:=by omega
   have n6:s0.timers.length<=4611686018427387904:=by omega
   clear hok hZ
   simp[ir13,e39,e29,e40,n3,n4,n5,n6,qaa,exT,qae,zjr]
   generalize hr:ev pg (.code (.goingK _ _ L13_0) _)=o
   obtain⟨r,rfl,hQ⟩:∃r,o=some r/\_:=by rw[<-hr];exact hlp _ (by simp[qrj])
   clear hr
   cases hQ with
   | ok a hz hw he =>
    obtain⟨c,En,C,ve,vt,g,w,b,d0⟩:=a
    obtain⟨f,hf,rfl⟩:=he
    simp only at hz hw
    subst hz
    simp only[G13.T,G13.H,G13.X,G13.d,zlq]
    generalize (nxD m c).isSome=SM' at *
    generalize (nxD m c).getD zah=ND' at *
    cases b with
    | true=>rcases hw with rfl | rfl<;>simp[qrj]
    | false=>rcases hw with rfl | rfl<;>simp[qrj]
   | bad e hz h q hh he =>
    obtain⟨f,hf,rfl⟩:=he
    subst hz
    obtain⟨b,e0,e1,e2,e3,e4,e5,e6⟩:=hh
    simp[qtq,zlq,zLg,zeroS,b,e0,e1,e2,e3,e4,e5,e6]
  .rw[if_pos h2]
   simp only[zam]at e29
   have hb:((qby m.c).2.2==0)=false:=by simpa using h2
   generalize (qby m.c).2.2=er at *
   simp[ir13,e39,e29,h2,hb,zLg,zeroS]
 .rw[if_pos h1]
  have hb:(qer m l u==0)=false:=by simpa using h1
  generalize qer m l u=e at *
  simp[ir13,e39,h1,hb,zLg,zeroS]
structure Mov where
 a:Int
 o:Bool
 f:Int
 t:Int
abbrev Mov.row(x:Mov):List V:=[num x.a,.bool x.o,num x.f,num x.t]
abbrev mvs(l:List Mov):V:=.imm (l.map Mov.row)
abbrev noT:Int:=-1099511627776
def zic(L:List (Int×Nat)):List (V×V):=L.map fun p=>(num p.1,num p.2)
def qub:List (Int×Nat)->Int->Option Nat
 | [],_=>none
 | (a,b) :: r,k=>if k=a then some b else qub r k
def zmk:List (Int×Nat)->Int->Nat->List (Int×Nat)
 | [],k,v=>[(k,v)]
 | (a,b) :: r,k,v=>if k=a then(k,v) :: r else(a,b) :: zmk r k v
theorem q7l(k:Int):∀L:List (Int×Nat),qly (zic L) (num k)=some ((qub L k).map fun n=>num n)
 | []=>rfl
 | (a,b) :: r=>by
  have ih:=q7l k r
  unfold zic at ih ⊢
  simp only[List.map_cons,qly,eqS,qub]
  by_cases h:k=a
  .subst h;simp
  .have hb:(k==a)=false:=by simpa using h
   simp[h,hb,ih]
theorem q4r(k:Int)(v:Nat):∀L:List (Int×Nat),qwd (zic L) (num k) (num v)=some (zic (zmk L k v))
 | []=>rfl
 | (a,b) :: r=>by
  have ih:=q4r k v r
  unfold zic at ih ⊢
  simp only[List.map_cons,qwd,eqS,zmk]
  by_cases h:k=a
  .subst h;simp
  .have hb:(k==a)=false:=by simpa using h
   simp[h,hb,ih]
def qlx(out:List Mov)(L:List (Int×Nat))(x:Ent):List Mov :=
 match (if x.e.kind=0 then qub L x.e.idx else none)with
 | some j=>match out[j]? with
  | some q=>if q.t=noT then out.set j ⟨q.a,q.o,q.f,x.t⟩else out
  | none=>out
 | none=>out
def begS(t:Int)(z:List Mov×List (Int×Nat))(s:Int×Bool):List Mov×List (Int×Nat):=(z.1++[⟨s.1,s.2,t,noT⟩],zmk z.2 s.1 z.1.length)
def begM(t:Int)(s:List (Int×Bool))(z:List Mov×List (Int×Nat)):List Mov×List (Int×Nat):=s.foldl (begS t) z
def qnt(z:List Mov×List (Int×Nat))(x:Ent):List Mov×List (Int×Nat):=begM x.t x.s (qlx z.1 z.2 x,z.2)
def qdx(en:List Ent):List Mov×List (Int×Nat):=en.foldl qnt ([],[])
def qis(en:List Ent):List Mov:=(qdx en).1
theorem qpl(out:List Mov)(L:List (Int×Nat))(x:Ent):(qlx out L x).length=out.length:=by
 unfold qlx
 split
 .split
  .split<;>simp
  .rfl
 .rfl
theorem qyx(t:Int):∀(s:List (Int×Bool)) (z:List Mov×List (Int×Nat)),(begM t s z).1.length=z.1.length+s.length
 | [],z=>rfl
 | a :: r,z=>by
  have:=qyx t r (begS t z a)
  unfold begM at this ⊢
  rw[List.foldl_cons,this]
  simp only[begS,jF,List.length_cons,List.length_nil]
  omega
def q1x(z:List Mov×List (Int×Nat)):Prop:=∀k j,qub z.2 k=some j->j<z.1.length
theorem zbu(L:List (Int×Nat))(k q:Int)(v:Nat):qub (zmk L k v) q=if q=k then some v else qub L q:=by
 induction L with
 | nil=>simp[zmk,qub]
 | cons p r ih =>
  obtain⟨a,b⟩:=p
  simp only[zmk]
  by_cases h:k=a
  .subst h
   simp only[if_true,qub]
   by_cases h2:q=k
   .simp[h2]
   .simp[h2]
  .simp only[if_neg h,qub,ih]
   by_cases h2:q=a
   .subst h2
    have:¬q=k:=fun e=>h e.symm
    simp[this]
   .simp[h2]
theorem zfk(t:Int):∀(s:List (Int×Bool)) (z:List Mov×List (Int×Nat)),q1x z->q1x (begM t s z)
 | [],z,h=>h
 | a :: r,z,h=>zfk t r (begS t z a) (by
   intro k j hj
   simp only[begS]at hj ⊢
   rw[zbu]at hj
   rw[jF]
   split at hj
   .cases hj;simp
   .have:=h k j hj;simp;omega)
theorem zhx{z:List Mov×List (Int×Nat)}(h:q1x z)(x:Ent):q1x (qnt z x):=zfk _ _ _ (fun k j hj=>by
 have:=h k j hj
 simp only[qpl]
 exact this)
theorem qtp{en:List Ent}{k:Nat}(hk:k<en.length):qdx (en.take (k+1))=qnt (qdx (en.take k)) en[k]:=by
 unfold qdx
 rw[jK hk,List.foldl_append]
 rfl
abbrev q6w(m:Mch)(x:Lg)(out:List Mov)(L:List (Int×Nat))(g w:Nat):H :=
 [⟨0,.box m.cells⟩,o0s,o0s,o0s,o0s,o0s,o0s,o0s,⟨0,.box x.cells⟩,⟨g,.arr w (out.map Mov.row)⟩,⟨0,.box [.sl 9 g w 0 out.length]⟩,⟨0,.map (zic L)⟩,⟨0,.box [.map 11]⟩,⟨0,.box [.fn 47 [] [.bptr 12 0,.bptr 10 0],.fn 48 [] [],.fn 49 [] []]⟩,o0s]
theorem ev47(m:Mch)(x:Lg)(out:List Mov)(L:List (Int×Nat))(g w:Nat)(hw:w=4\/(w=0/\out=[]))(hL:q1x (out,L))(y:Ent)(hk:y.e.kind=0) :
  ev pg (.call (.fn 47 [] [.bptr 12 0,.bptr 10 0]) [.agg y.row] (q6w m x out L g w++[o0s,⟨0,.box y.row⟩]))=some { v:=.tup [],st:=⟨[],q6w m x (qlx out L y) L g w++[o0s,⟨0,.box y.row⟩]⟩ }:=by
 have hf:=q7l y.e.idx L
 unfold qlx
 rw[if_pos hk]
 rw[qac,pg47]
 cases hg:qub L y.e.idx with
 | none =>
  rw[hg]at hf
  simp[ir47,hf]
 | some j =>
  have hj:=hL _ _ hg
  simp only at hj
  rcases hw with rfl | ⟨_,rfl⟩
  .rw[hg]at hf
   simp only[jA hj]
   by_cases h1:out[j].t=noT
   .rw[if_pos h1]
    simp[ir47,hf,hj,h1]
   .rw[if_neg h1]
    have h1b:(out[j].t==noT)=false:=by simpa using h1
    simp[ir47,hf,hj,h1,h1b]
  .simp at hj
theorem zfa{t:Int}{s:List (Int×Bool)}{z:List Mov×List (Int×Nat)}{k:Nat}(hk:k<s.length):begM t (s.take (k+1)) z=begS t (begM t (s.take k) z) s[k]:=by
 unfold begM
 rw[jK hk,List.foldl_append]
 rfl
def q4a(en:List Ent)(i:Nat):Tm:=[none,none,none,none,none,none,some (.sl 14 0 0 0 0),some (num 0),some (.bptr 8 0),none,some (.bptr 10 0),some (.bptr 12 0),some (.bptr 13 0)]++List.replicate 18 none++[some (zmm en),some (num en.length),some (num i)]++List.replicate 32 none
def qmw(en:List Ent)(i:Nat)(s:List (Int×Bool))(k:Nat):Tm:=[none,none,none,none,none,none,some (.sl 14 0 0 0 0),some (num 0),some (.bptr 8 0),none,some (.bptr 10 0),some (.bptr 12 0),some (.bptr 13 0),none,some (.bptr 16 0)]++List.replicate 16 none++[some (zmm en),some (num en.length),some (num i)]++List.replicate 11 none++[some (q0n s),some (num s.length),some (num k)]++List.replicate 18 none
theorem z0r(m:Mch)(x:Lg)(i:Nat)(y:Ent)(z:List Mov×List (Int×Nat))(hs:y.s.length<=1000)(hz:z.1.length<=10000000)(g w:Nat)(hw:w=4\/(w=0/\z.1=[])){st:St}(h0:At (qmw x.en i y.s 0) (q6w m x z.1 z.2 g w++[o0s,⟨0,.box y.row⟩]) st) :
  ∃r,ev pg (.code (.going 17 L19_0) st)=some r/\∃g' w',(w'=4\/(w'=0/\(begM y.t y.s z).1=[]))/\qag (.exit 2) (qmw x.en i y.s y.s.length) (q6w m x (begM y.t y.s z).1 (begM y.t y.s z).2 g' w'++[o0s,⟨0,.box y.row⟩]) r:=by
 have hend:begM y.t y.s z=begM y.t (y.s.take y.s.length) z:=by rw[List.take_length]
 rw[hend]
 refine qbn (α:=Nat×Nat) y.s.length (fun k _=>qmw x.en i y.s k) (fun k a=>q6w m x (begM y.t (y.s.take k) z).1 (begM y.t (y.s.take k) z).2 a.1 a.2++[o0s,⟨0,.box y.row⟩]) (fun k a=>a.2=4\/(a.2=0/\(begM y.t (y.s.take k) z).1=[])) _ ?_ ?_ (g,w) hw h0
 .rintro k ⟨g,w⟩ f hf hk hw
  simp only at hw
  have hk':(k:Int)<y.s.length:=by omega
  have wk:=qab (n:=(k:Int)+1) (by omega) (by omega)
  have hst:=zfa (t:=y.t) (z:=z) hk
  have hln:=qyx y.t (y.s.take k) z
  have hln2:(y.s.take k).length<=1000:=by simp;omega
  generalize begM y.t (y.s.take (k+1)) z=z2 at *
  generalize begM y.t (y.s.take k) z=z1 at *
  subst hst
  have hup:=q4r y.s[k].1 z1.1.length z1.2
  have hap:(z1.1.length+1)*32<=140737488355328:=by omega
  refine(?_:∃st,ev pg (.code L19_0 ⟨fill f 0 (qmw x.en i y.s k),q6w m x z1.1 z1.2 g w++[o0s,⟨0,.box y.row⟩]⟩)=some { st:=st }/\At (qmw x.en i y.s (k+1)) (q6w m x (begS y.t z1 y.s[k]).1 (begS y.t z1 y.s[k]).2 (g+1) 4++[o0s,⟨0,.box y.row⟩]) (qkh 17 st)).elim fun st h=>⟨_,h.1,.inl ⟨rfl,(g+1,4),.inl rfl,h.2⟩⟩
  rcases hw with rfl | ⟨rfl,hw⟩
  .simp[qmw,L19_0,hk,hk',wk,hup,hap,begS,hf.ne]
  .obtain⟨o1,l1⟩:=z1
   simp only at hw hup hap ⊢
   subst hw
   have hup0:qwd (zic l1) (num y.s[k].1) (.int .i64 0)=some (zic (zmk l1 y.s[k].1 0)):=q4r _ 0 l1
   simp[qmw,L19_0,hk,hk',wk,begS,hup0,hf.ne]
 .rintro⟨g,w⟩ f hf hw
  simp[qmw,L19_0,hf.ne]
  simp only[List.take_length]at hw
  rcases hw with h | h
  .exact⟨g,.inl ⟨rfl,h⟩⟩
  .exact⟨g,.inr ⟨h,rfl⟩⟩
theorem ev48(y:Ent):ev pg (.call (.fn 48 [] []) [.agg y.row] [])=some { v:=.tup [],st:=⟨[],[]⟩ }:=by
 rw[qac,pg48]
 simp[ir48]
theorem ev49(y:Ent):ev pg (.call (.fn 49 [] []) [.agg y.row] [])=some { v:=.tup [],st:=⟨[],[]⟩ }:=by
 rw[qac,pg49]
 simp[ir49]
structure Lg.ok(x:Lg):Prop where
 len:x.en.length<=4096
 each:∀y∈x.en,(y.e.kind=0\/y.e.kind=1\/y.e.kind=2)/\y.s.length<=1000
theorem zex(en:List Ent):q1x (qdx en):=by
 have key:∀(en:List Ent) (z:List Mov×List (Int×Nat)),q1x z->q1x (en.foldl qnt z):=by
  intro en
  induction en with
  | nil=>intro z h;exact h
  | cons a r ih=>intro z h;exact ih _ (zhx h a)
 exact key en _ (fun k j h=>by cases h)
theorem qqi{en:List Ent}(h:∀y∈en,y.s.length<=1000):(qdx en).1.length<=1000*en.length:=by
 have key:∀(en:List Ent) (z:List Mov×List (Int×Nat)),(∀y∈en,y.s.length<=1000)->(en.foldl qnt z).1.length<=z.1.length+1000*en.length:=by
  intro en
  induction en with
  | nil=>intro z _;simp
  | cons a r ih =>
   intro z h
   have h1:=ih (qnt z a) (fun y hy=>h y (by simp[hy]))
   have h2:=h a (by simp)
   have h3:(qnt z a).1.length=z.1.length+a.s.length:=by
    unfold qnt
    rw[qyx,qpl]
   rw[List.foldl_cons,List.length_cons]
   omega
 have:=key en ([],[]) h
 unfold qdx
 simpa using this
theorem jap(m:Mch)(x:Lg)(hx:x.ok){st:St}(h0:At (q4a x.en 0) (q6w m x [] [] 0 0) st) :
  ∃r,ev pg (.code (.going 15 L19_1) st)=some r/\∃g' w',(w'=4\/(w'=0/\qis x.en=[]))/\qag (.exit 0) (q4a x.en x.en.length) (q6w m x (qis x.en) (qdx x.en).2 g' w') r:=by
 have hend:qdx x.en=qdx (x.en.take x.en.length):=by rw[List.take_length]
 unfold qis
 rw[hend]
 refine qbn (α:=Nat×Nat) x.en.length (fun k _=>q4a x.en k) (fun k a=>q6w m x (qdx (x.en.take k)).1 (qdx (x.en.take k)).2 a.1 a.2) (fun k a=>a.2=4\/(a.2=0/\(qdx (x.en.take k)).1=[])) _ ?_ ?_ (0,0) (.inr ⟨rfl,rfl⟩) h0
 .rintro k ⟨g,w⟩ f hf hk hw
  simp only at hw
  have hk':(k:Int)<x.en.length:=by omega
  have hl:=hx.len
  have wk:=qab (n:=(k:Int)+1) (by omega) (by omega)
  have hst:=qtp hk
  have hok:=zex (x.en.take k)
  have hln:=qqi (en:=x.en.take k) (fun y hy=>(hx.each y (List.mem_of_mem_take hy)).2)
  rw[List.length_take,Nat.min_eq_left (by omega)]at hln
  obtain⟨hkd,hys⟩:=hx.each _ (jH hk)
  generalize qdx (x.en.take (k+1))=z2 at *
  generalize qdx (x.en.take k)=z1 at *
  subst hst
  obtain⟨o1,l1⟩:=z1
  simp only at hln hw
  have hmid:qlx o1 l1 x.en[k]=if x.en[k].e.kind=0 then qlx o1 l1 x.en[k]else o1:=by
   split
   .rfl
   .rename_i h;unfold qlx;rw[if_neg h]
  have hwm:w=4\/(w=0/\qlx o1 l1 x.en[k]=[]):=by
   rcases hw with h | ⟨h1,h2⟩
   .exact .inl h
   .exact .inr ⟨h1,List.eq_nil_of_length_eq_zero (by rw[qpl,h2];rfl)⟩
  have hlp:=fun st=>z0r m x k x.en[k] (qlx o1 l1 x.en[k],l1) hys (by simp only[qpl];omega) g w hwm (st:=st)
  have e47:=fun(h0:x.en[k].e.kind=0)=>ev47 m x o1 l1 g w hw hok x.en[k] h0
  have e48:=ev48 x.en[k]
  have e49:=ev49 x.en[k]
  have fin:∀st:St,At (qmw x.en k x.en[k].s 0) (q6w m x (qlx o1 l1 x.en[k]) l1 g w++[o0s,⟨0,.box x.en[k].row⟩]) st->∃r,ev pg (.code (.going 17 L19_0) st)=some r/\∃g' w',(w'=4\/(w'=0/\(qnt (o1,l1) x.en[k]).1=[]))/\qag (.exit 2) (qmw x.en k x.en[k].s x.en[k].s.length) (q6w m x (qnt (o1,l1) x.en[k]).1 (qnt (o1,l1) x.en[k]).2 g' w'++[o0s,⟨0,.box x.en[k].row⟩]) r:=fun st h=>hlp st h
  clear hlp
  generalize qnt (o1,l1) x.en[k]=z3 at *
  obtain⟨Tl,hTl⟩:∃Tl:St->Prop,∀st,Tl st<->∃g' w',(w'=4\/(w'=0/\z3.1=[]))/\At (q4a x.en (k+1)) (q6w m x z3.1 z3.2 g' w') st:=⟨_,fun _=>Iff.rfl⟩
  refine(?_:∃st,ev pg (.code L19_1 ⟨fill f 0 (q4a x.en k),q6w m x o1 l1 g w⟩)=some { st:=st }/\Tl (qkh 15 st)).elim fun st h=>⟨_,h.1,.inl ⟨rfl,by
   obtain⟨g',w',h1,h2⟩:=(hTl _).1 h.2
   exact⟨(g',w'),h1,h2⟩⟩⟩
  generalize hy:x.en[k]=y at *
  obtain⟨yt,⟨kd,ix,vl⟩,ss⟩:=y
  simp only at hkd hys hmid e47 fin
  rcases hkd with rfl | rfl | rfl
  .have e:=e47 rfl
   rw[if_pos rfl]at hmid
   generalize qlx o1 l1 ⟨yt,⟨0,ix,vl⟩,ss⟩=O at *
   simp only[List.cons_append,List.nil_append]at e
   simp[q4a,L19_1,hk,hk',hy,e,qaf,hf.ne]
   generalize hr:ev pg (.code (.going _ L19_0) _)=o
   obtain⟨r,rfl,g',w',hw',f2,hf2,rfl⟩:∃r,o=some r/\_:=by rw[<-hr];exact fin _ (by simp[qmw,hf.ne])
   clear hr
   simp[qmw,wk]
   exact(hTl _).2 ⟨g',w',hw',by simp[q4a,hf2.ne]⟩
  .rw[if_neg (by decide)]at hmid
   rw[hmid]at fin
   simp[q4a,L19_1,hk,hk',hy,e48,qaf,hf.ne]
   generalize hr:ev pg (.code (.going _ L19_0) _)=o
   obtain⟨r,rfl,g',w',hw',f2,hf2,rfl⟩:∃r,o=some r/\_:=by rw[<-hr];exact fin _ (by simp[qmw,hf.ne])
   clear hr
   simp[qmw,wk]
   exact(hTl _).2 ⟨g',w',hw',by simp[q4a,hf2.ne]⟩
  .rw[if_neg (by decide)]at hmid
   rw[hmid]at fin
   simp[q4a,L19_1,hk,hk',hy,e49,qaf,hf.ne]
   generalize hr:ev pg (.code (.going _ L19_0) _)=o
   obtain⟨r,rfl,g',w',hw',f2,hf2,rfl⟩:∃r,o=some r/\_:=by rw[<-hr];exact fin _ (by simp[qmw,hf.ne])
   clear hr
   simp[qmw,wk]
   exact(hTl _).2 ⟨g',w',hw',by simp[q4a,hf2.ne]⟩
 .rintro⟨g,w⟩ f hf hw
  simp[q4a,L19_1,hf.ne]
  simp only[List.take_length]at hw
  rcases hw with h | h
  .exact⟨g,.inl ⟨rfl,h⟩⟩
  .exact⟨g,.inr ⟨h,rfl⟩⟩
theorem qyp{m:Mch}{u:Int}(hu:u<=1000000){P:Ent->Prop}(hP:∀c d,Cok m c->nxD m c=some d->d.t<=u->(qah m.c c.s d.e).2.2=0->P ⟨d.t,d.e,qdo c.s (qah m.c c.s d.e).1⟩) :
  ∀(f:Nat) (c:Cst) (En:List Ent) (C:List Int) (lg:Lg),Cok m c->(∀y∈En,P y)->En.length<=4096->Lin (qfs m.c) C->goS m u f c En C=some (.inr lg)->(∀y∈lg.en,P y)/\lg.en.length<=4096/\Lie m.c lg.st/\Lin (qfs m.c) lg.cf
 | 0,_,_,_,_,_,_,_,_,h=>by cases h
 | f+1,c,En,C,lg,hok,hE,hn,hC,h=>by
  unfold goS at h
  split at h
  .cases h
   exact⟨hE,hn,hok.lie,hC⟩
  .rename_i d hd
   split at h
   .cases h
    exact⟨hE,hn,hok.lie,hC⟩
   .rename_i hut
    split at h
    .exact qyp hu hP f _ _ _ _ hok.drop hE hn hC h
    .split at h
     .cases h
     .rename_i h4
      split at h
      .rename_i he
       refine qyp hu hP f _ _ _ _ (hok.go hd (by omega) he) ?_ ?_ (Lin.norm _ _) h
       .intro y hy
        rcases jQ.1 hy with hy | hy
        .exact hE y hy
        .rw[List.mem_singleton]at hy
         rw[hy]
         exact hP c d hok hd (by omega) he
       .rw[jF]
        simp
        omega
      .cases h
theorem q9p{m:Mch}{c:Cst}(h:Cok m c)(t:Ste):(qdo c.s t).length<=6:=by
 have a:=zaf c.s t
 have b:=h.lie.ends.1
 omega
theorem qyt{m:Mch}(hs:m.c.small=true)(l:List Prs)(u:Int):(qms m l u).1.ok:=by
 have hz:zLg.ok:=⟨by simp[zLg],by simp[zLg]⟩
 unfold qms
 split
 .exact hz
 .rename_i h1
  split
  .exact hz
  .rename_i h2
   have hg:qer m l u=0:=by simpa using h1
   have hst:(qby m.c).2.2=0:=by simpa using h2
   unfold zlq
   split
   .rename_i lg hc
    obtain⟨g1,g2,g3,g4,g5⟩:=qhm hg
    obtain⟨r1,r2,r3,r4⟩:=qyp g5 (P:=fun y=>(y.e.kind=0\/y.e.kind=1\/y.e.kind=2)/\y.s.length<=1000) (fun c d hok hd _ _=>by
     have:=(hok.due d (qhv hd)).2
     have hf:=q9p hok (qah m.c c.s d.e).1
     exact⟨this.elim (fun h=>.inr (.inr h.1)) (fun h=>h.elim (fun h=>.inl h.1) fun h=>.inr (.inl h.1)),by simp only;omega⟩) _ _ _ _ _ (qsn hs hg hst) (by simp) (by simp) (qmg _) hc
    exact⟨r2,r1⟩
   .exact hz
   .exact hz
def qmy(m:Mch)(l:List Prs)(u:Int):List Mov×Int:=if(qms m l u).2=0 then(qis (qms m l u).1.en,0)else([],(qms m l u).2)
theorem ev19{m:Mch}(hs:m.c.small=true)(ht:m.ts.length<=100000){l:List Prs}(hl:l.length<=100000)(u:Int):ev pg (.call (.fn 19 [] []) [m.v,prs l,num u] [])=some { v:=.tup [mvs (qmy m l u).1,num (qmy m l u).2],st:=⟨[],[]⟩ }:=by
 have e13:=ev13 hs ht hl u
 have hok:=qyt hs l u
 have hlp:=fun st=>jap m (qms m l u).1 hok (st:=st)
 unfold qmy
 rw[qac,pg19]
 by_cases h:(qms m l u).2=0
 .rw[if_pos h]
  rw[h]at e13
  generalize qis (qms m l u).1.en=M at *
  generalize (qdx (qms m l u).1.en).2=L at *
  generalize (qms m l u).1=x at *
  simp[ir19,e13,qaf]
  generalize hr:ev pg (.code (.going _ L19_1) _)=o
  obtain⟨r,rfl,g,w,hw,f,hf,rfl⟩:∃r,o=some r/\_:=by rw[<-hr];exact hlp _ (by simp[q4a,zic])
  clear hr
  rcases hw with rfl | ⟨rfl,rfl⟩
  .simp[q4a]
  .simp[q4a]
 .rw[if_neg h]
  have hb:((qms m l u).2==0)=false:=by simpa using h
  generalize (qms m l u).2=e at *
  generalize (qms m l u).1=x at *
  simp[ir19,e13,h,hb]
end Go.Proofs.YtlhciedghbmjjaaGreat
namespace Go.Proofs.YtlhciedghbmjjaaGreat
open Go Go.Am Go.Proofs
set_option maxRecDepth 1000000
set_option maxHeartbeats 4000000
theorem jcc(a:List Mov)(ha:a.length<=4096){st:St}(h0:At ([some (mvs a),some (mvs a),none,none,none,none,none,none,none,none,none,some (mvs a),some (num a.length),some (num 0)]++List.replicate 12 none) [] st) :
  ∃r,ev pg (.code (.going 0 L38_0) st)=some r/\qag (.exit 0) ([some (mvs a),some (mvs a),none,none,none,none,none,none,none,none,none,some (mvs a),some (num a.length),some (num a.length)]++List.replicate 12 none) [] r:=by
 refine qcd a.length (fun k=>[some (mvs a),some (mvs a),none,none,none,none,none,none,none,none,none,some (mvs a),some (num a.length),some (num k)]++List.replicate 12 none) (fun _=>[]) _ ?_ ?_ h0
 .intro k f hf hk
  have hk':(k:Int)<a.length:=by omega
  have wk:=qab (n:=(k:Int)+1) (by omega) (by omega)
  simp[qaa,exT,qae,L38_0,hk,hk',wk,hf.ne]
 .intro f hf
  simp[L38_0,hf.ne]
theorem ev38(a:List Mov)(ha:a.length<=4096):ev pg (.call (.fn 38 [] []) [mvs a,mvs a] [])=some { v:=.bool true,st:=⟨[],[]⟩ }:=by
 have hl:=@jcc a ha
 rw[qac,pg38]
 simp[ir38,qaf]
 generalize hr:ev pg (.code (.going _ L38_0) _)=o
 obtain⟨r,rfl,f,hf,rfl⟩:∃r,o=some r/\_:=by rw[<-hr];exact hl (by simp)
 simp
def smM:Mch:=⟨one,[(100,80)]⟩
def smA:Lg:=⟨[⟨10,⟨2,0,true⟩,[(0,true)]⟩,⟨110,⟨0,0,false⟩,[(0,false)]⟩,⟨190,⟨0,0,false⟩,[(0,true)]⟩,⟨290,⟨0,0,false⟩,[(0,false)]⟩],[],⟨[3],[false],[true],[false,true],[0,0]⟩⟩
def smB:Lg:=⟨[⟨10,⟨2,0,true⟩,[(0,true)]⟩,⟨110,⟨0,0,false⟩,[(0,false)]⟩,⟨150,⟨2,0,false⟩,[]⟩,⟨190,⟨0,0,false⟩,[]⟩],[],⟨[0],[false],[false],[false,true],[0,0]⟩⟩
def smV:List Mov:=[⟨0,true,10,110⟩,⟨0,false,110,190⟩,⟨0,true,190,290⟩,⟨0,false,290,noT⟩]
theorem sm1:qms smM [⟨10,0,true⟩] 300=(smA,0):=by kernel_rfl
theorem sm2:qms smM [⟨10,0,true⟩,⟨150,0,false⟩] 300=(smB,0):=by kernel_rfl
theorem sm3:qis smA.en=smV:=by kernel_rfl
theorem sm0:smM.c.small=true:=znw
def zun(k:Nat):Tm:=[some (.bool false),some (.bptr 5 0),some (.immc [[num 10,num 0,.bool true]]),some (.bptr 13 0),none,some (mvs smV)]++List.replicate 39 none++[some (.imm [[num 10],[num 110],[num 190],[num 290]]),some (num 4),some (num k)]++List.replicate 86 none
abbrev z5u:H:=[o0s,o0s,o0s,o0s,o0s,⟨0,.box smM.cells⟩,o0s,o0s,o0s,o0s,o0s,o0s,o0s,⟨0,.box smA.cells⟩]
theorem jdq{st:St}(h0:At (zun 0) z5u st):∃r,ev pg (.code (.going 14 L12_0) st)=some r/\qag (.exit 0) (zun 4) z5u r:=by
 refine qcd 4 zun (fun _=>z5u) _ ?_ ?_ h0
 .intro k f hf hk
  have hk4:k=0\/k=1\/k=2\/k=3:=by omega
  have w1:IntKind.i64.wrap 1=1:=by decide
  have w2:IntKind.i64.wrap 2=2:=by decide
  have w3:IntKind.i64.wrap 3=3:=by decide
  have w4:IntKind.i64.wrap 4=4:=by decide
  rcases hk4 with rfl | rfl | rfl | rfl<;>simp[zun,L12_0,smA,w1,w2,w3,w4,hf.ne]
 .intro f hf
  simp[zun,L12_0,hf.ne]
end Go.Proofs.YtlhciedghbmjjaaGreat
namespace Go.Proofs.YtlhciedghbmjjaaGreat
open Go Go.Am Go.Proofs
set_option maxRecDepth 1000000
set_option maxHeartbeats 4000000
abbrev smX:V:=.agg [num one.act,.imm (one.inputs.map q3t),.imm (one.signals.map Sg.row),qbx one.plus,qbx one.minus,.imm [[.int .i64 100,.int .i64 80]]]
theorem ev12:ev pg (.call (.fn 12 [] []) [] [])=some { v:=.bool true,st:=⟨[],[]⟩ }:=by
 have e13a:ev pg (.call (.fn 13 [] []) [smX,.imm [[.int .i64 10,.int .i64 0,.bool true]],.int .i64 300] [])=some { v:=.tup [smA.v,num 0],st:=⟨[],[]⟩ }:=by
  have e:=ev13 (m:=smM) sm0 (by simp[smM]) (l:=[⟨10,0,true⟩]) (by simp) 300
  rw[sm1]at e
  exact e
 have e13b:ev pg (.call (.fn 13 [] []) [smX,.imm [[.int .i64 10,.int .i64 0,.bool true],[.int .i64 150,.int .i64 0,.bool false]],.int .i64 300] [])=some { v:=.tup [smB.v,num 0],st:=⟨[],[]⟩ }:=by
  have e:=ev13 (m:=smM) sm0 (by simp[smM]) (l:=[⟨10,0,true⟩,⟨150,0,false⟩]) (by simp) 300
  rw[sm2]at e
  exact e
 have e19:ev pg (.call (.fn 19 [] []) [smX,.imm [[.int .i64 10,.int .i64 0,.bool true]],.int .i64 300] [])=some { v:=.tup [mvs smV,num 0],st:=⟨[],[]⟩ }:=by
  have e:=ev19 (m:=smM) sm0 (by simp[smM]) (l:=[⟨10,0,true⟩]) (by simp) 300
  unfold qmy at e
  rw[sm1]at e
  simp only[if_true]at e
  rw[sm3]at e
  exact e
 have e38:ev pg (.call (.fn 38 [] []) [mvs smV,.imm [[.int .i64 0,.bool true,.int .i64 10,.int .i64 110],[.int .i64 0,.bool false,.int .i64 110,.int .i64 190],[.int .i64 0,.bool true,.int .i64 190,.int .i64 290],[.int .i64 0,.bool false,.int .i64 290,.int .i64 (-1099511627776)]]] [])=some { v:=.bool true,st:=⟨[],[]⟩ }:=ev38 smV (by simp[smV])
 have w0:IntKind.i64.wrap 0=0:=by decide
 have e37:=ev37
 have l1:(smA.en.length:Int)=4:=rfl
 have l2:(smA.cf.length:Int)=0:=rfl
 rw[qac,pg12]
 simp[ir12,e37,e13a,e19,l1,l2,w0,qaf]
 generalize hr:ev pg (.code (.going _ L12_0) _)=o
 obtain⟨r,rfl,f,hf,rfl⟩:∃r,o=some r/\_:=by
  rw[<-hr]
  refine jdq ?_
  simp[zun]
  exact⟨rfl,rfl,rfl,rfl,rfl,rfl⟩
 clear hr
 have c0:smM.cells=[num one.act,.imm (one.inputs.map q3t),.imm (one.signals.map Sg.row),qbx one.plus,qbx one.minus,.imm [[.int .i64 100,.int .i64 80]]]:=rfl
 simp only[z5u,c0]
 simp[qaa,exT,qae,zun,e38,e13b,smB]
theorem zin{α:Type}{l:List α}{k:Nat}(hk:k<l.length):l.take (k+1)=l.take k++[l[k]]:=jK hk
theorem zgp{α:Type}{l:List α}{k:Nat}(hk:k<=l.length):(l.take k).length=k:=by rw[List.length_take];omega
def zjn(en:List Ent)(k:Nat):Tm:=[none,some (.bptr 0 0),some (.bptr 8 0),some (.bptr 16 0)]++List.replicate 8 none++[some (zmm en),some (num en.length),some (num k)]++List.replicate 11 none
abbrev zze(x:Lg)(D:List Ent)(g w:Nat):H:=[⟨0,.box x.cells⟩,o0s,o0s,o0s,o0s,o0s,o0s,o0s,⟨0,.box [.sl 1 0 0 0 0,.sl 2 0 0 0 0,.sl 3 0 0 0 0,.sl 4 0 0 0 0,.sl 5 0 0 0 0,.sl 6 0 0 0 0,.sl 7 0 0 0 0]⟩,o0s,o0s,o0s,o0s,o0s,o0s,o0s,
 ⟨0,.box [.sl 17 g w 0 D.length,qbx x.cf,qbx x.st.ends,qcy x.st.valves,qcy x.st.inputs,qcy x.st.values,qbx x.st.timers]⟩,⟨g,.arr w (D.map Ent.row)⟩]
theorem jdo(x:Lg)(hx:x.en.length<=100000){st:St}(h0:At (zjn x.en 0) (zze x [] 0 0) st):∃r,ev pg (.code (.going 18 L18_0) st)=some r/\∃g w,qag (.exit 0) (zjn x.en x.en.length) (zze x x.en g w) r:=by
 refine qbn (α:=Nat×Nat) x.en.length (fun k a=>zjn x.en k) (fun k a=>zze x (x.en.take k) a.1 a.2) (fun _ a=>a.2=5\/a.2=0) _ ?_ ?_ (0,0) (.inr rfl) h0
 .rintro k ⟨g,w⟩ f hf hk hw
  have hk':(k:Int)<x.en.length:=by omega
  have wk:=qab (n:=(k:Int)+1) (by omega) (by omega)
  have ht:=zin hk
  have hl:=zgp (l:=x.en) (k:=k) (by omega)
  generalize x.en.take (k+1)=D' at *
  generalize x.en.take k=D at *
  subst ht
  have hap:(D.length+1)*56<=140737488355328:=by omega
  refine(?_:∃st,ev pg (.code L18_0 ⟨fill f 0 (zjn x.en k),zze x D g w⟩)=some { st:=st }/\At (zjn x.en (k+1)) (zze x (D++[x.en[k]]) (g+1) 5) (qkh 18 st)).elim fun st h=>⟨_,h.1,.inl ⟨rfl,(g+1,5),.inl rfl,h.2⟩⟩
  rcases hw with h | h<;>(simp only at h;subst h;simp[zjn,L18_0,hk,hk',wk,hap,hf.ne])
 .rintro⟨g,w⟩ f hf hw
  rw[List.take_length]
  simp[zjn,L18_0,hf.ne]
theorem ev18(x:Lg)(hx:x.en.length<=100000):ev pg (.call (.fn 18 [] []) [x.v] [])=some { v:=x.v,st:=⟨[],[]⟩ }:=by
 have hl:=fun st=>jdo x hx (st:=st)
 rw[qac,pg18]
 simp[ir18,qaf]
 generalize hr:ev pg (.code (.going _ L18_0) _)=o
 obtain⟨r,rfl,g,w,f,hf,rfl⟩:∃r,o=some r/\_:=by rw[<-hr];exact hl _ (by simp[zjn])
 clear hr
 simp[zjn]
@[simp] theorem zhp(l:List Ent):qwa (l.map Ent.row) (l.map Ent.row)=true:=qhg (fun x=>by simp[q0n];exact qhg (fun x=>by simp) x.s) l
theorem quh{α:Type}{l:List α}{k:Nat}(hk:k<l.length):l.take (k+1)=l.take k++[l[k]]:=jK hk
theorem q5c{α:Type}{l:List α}{k:Nat}(hk:k<=l.length):(l.take k).length=k:=by rw[List.length_take];omega
def zji(ts D:List (Int×Int))(g w k:Nat):Tm:=[none,some (.bptr 0 0),some (.bptr 6 0),some (.bptr 12 0)]++List.replicate 6 none++[some (tms ts),some (num ts.length),some (num k)]++List.replicate 11 none
abbrev z0f(m:Mch)(D:List (Int×Int))(g w:Nat):H:=[⟨0,.box m.cells⟩,⟨0,.arr 0 []⟩,⟨0,.arr 0 []⟩,⟨0,.arr 0 []⟩,⟨0,.arr 0 []⟩,⟨0,.arr 0 []⟩,⟨0,.box [num 0,.sl 1 0 0 0 0,.sl 2 0 0 0 0,.sl 3 0 0 0 0,.sl 4 0 0 0 0,.sl 5 0 0 0 0]⟩,⟨0,.arr 0 []⟩,⟨0,.arr 0 []⟩,⟨0,.arr 0 []⟩,⟨0,.arr 0 []⟩,⟨0,.arr 0 []⟩,
 ⟨0,.box [num m.c.act,.imm (m.c.inputs.map q3t),.imm (m.c.signals.map Sg.row),qbx m.c.plus,qbx m.c.minus,.sl 13 g w 0 D.length]⟩,⟨g,.arr w (D.map zpt)⟩]
theorem jec(m:Mch)(hx:m.ts.length*16<=140737488355328){st:St}(h0:At (zji m.ts [] 0 0 0) (z0f m [] 0 0) st):∃r,ev pg (.code (.going 14 L10_0) st)=some r/\∃g w,qag (.exit 0) (zji m.ts m.ts g w m.ts.length) (z0f m m.ts g w) r:=by
 refine qbn (α:=Nat×Nat) m.ts.length (fun k a=>zji m.ts (m.ts.take k) a.1 a.2 k) (fun k a=>z0f m (m.ts.take k) a.1 a.2) (fun _ a=>a.2=2\/a.2=0) _ ?_ ?_ (0,0) (.inr rfl) h0
 .rintro k ⟨g,w⟩ f hf hk hw
  have hk':(k:Int)<m.ts.length:=by omega
  have wk:=qab (n:=(k:Int)+1) (by omega) (by omega)
  have ht:=quh hk
  have hl:=q5c (l:=m.ts) (k:=k) (by omega)
  generalize m.ts.take (k+1)=D' at *
  generalize m.ts.take k=D at *
  subst ht
  have hap:(D.length+1)*16<=140737488355328:=by omega
  refine(?_:∃st,ev pg (.code L10_0 ⟨fill f 0 (zji m.ts D g w k),z0f m D g w⟩)=some { st:=st }/\At (zji m.ts (D++[m.ts[k]]) (g+1) 2 (k+1)) (z0f m (D++[m.ts[k]]) (g+1) 2) (qkh 14 st)).elim fun st h=>⟨_,h.1,.inl ⟨rfl,(g+1,2),.inl rfl,h.2⟩⟩
  rcases hw with h | h<;>(simp only at h;subst h;simp[zji,L10_0,hk,hk',wk,hap,hf.ne])
 .rintro⟨g,w⟩ f hf hw
  rw[List.take_length]
  simp[zji,L10_0,hf.ne]
theorem ev10(m:Mch)(hx:m.ts.length*16<=140737488355328):ev pg (.call (.fn 10 [] []) [m.v] [])=some { v:=m.v,st:=⟨[],[]⟩ }:=by
 have hl:=fun st=>jec m hx (st:=st)
 rw[qac,pg10]
 simp[ir10,qaf]
 generalize hr:ev pg (.code (.going _ L10_0) _)=o
 obtain⟨r,rfl,g,w,f,hf,rfl⟩:∃r,o=some r/\_:=by rw[<-hr];exact hl _ (by simp[zji])
 clear hr
 simp[zji]
def zgt(l D:List Prs)(g w k:Nat):Tm:=[none,none,none,some (.sl 1 g w 0 D.length),none,none,some (prs l),some (num l.length),some (num k)]++List.replicate 9 none
abbrev z1n(D:List Prs)(g w:Nat):H:=[⟨0,.arr 0 []⟩,⟨g,.arr w (D.map Prs.row)⟩]
theorem z8b(l:List Prs)(hx:l.length*24<=140737488355328){st:St}(h0:At (zgt l [] 0 0 0) (z1n [] 0 0) st):∃r,ev pg (.code (.going 2 L11_0) st)=some r/\∃g w,qag (.exit 0) (zgt l l g w l.length) (z1n l g w) r:=by
 refine qbn (α:=Nat×Nat) l.length (fun k a=>zgt l (l.take k) a.1 a.2 k) (fun k a=>z1n (l.take k) a.1 a.2) (fun _ a=>a.2=3\/a.2=0) _ ?_ ?_ (0,0) (.inr rfl) h0
 .rintro k ⟨g,w⟩ f hf hk hw
  have hk':(k:Int)<l.length:=by omega
  have wk:=qab (n:=(k:Int)+1) (by omega) (by omega)
  have ht:=quh hk
  have hl:=q5c (l:=l) (k:=k) (by omega)
  generalize l.take (k+1)=D' at *
  generalize l.take k=D at *
  subst ht
  have hap:(D.length+1)*24<=140737488355328:=by omega
  refine(?_:∃st,ev pg (.code L11_0 ⟨fill f 0 (zgt l D g w k),z1n D g w⟩)=some { st:=st }/\At (zgt l (D++[l[k]]) (g+1) 3 (k+1)) (z1n (D++[l[k]]) (g+1) 3) (qkh 2 st)).elim fun st h=>⟨_,h.1,.inl ⟨rfl,(g+1,3),.inl rfl,h.2⟩⟩
  rcases hw with h | h<;>(simp only at h;subst h;simp[zgt,L11_0,hk,hk',wk,hap,hf.ne])
 .rintro⟨g,w⟩ f hf hw
  rw[List.take_length]
  simp[zgt,L11_0,hf.ne]
theorem ev11(l:List Prs)(hx:l.length*24<=140737488355328):ev pg (.call (.fn 11 [] []) [prs l] [])=some { v:=prs l,st:=⟨[],[]⟩ }:=by
 have hl:=fun st=>z8b l hx (st:=st)
 rw[qac,pg11]
 simp[ir11,qaf]
 generalize hr:ev pg (.code (.going _ L11_0) _)=o
 obtain⟨r,rfl,g,w,f,hf,rfl⟩:∃r,o=some r/\_:=by rw[<-hr];exact hl _ (by simp[zgt])
 clear hr
 simp[zgt]
 try rfl
def Mch.few(m:Mch):Bool:=m.c.few&&decide (m.ts.length<=40)
theorem ev35(m:Mch):ev pg (.call (.fn 35 [] []) [m.v] [])=some { v:=.bool m.few,st:=⟨[],[]⟩ }:=by
 have e62:=ev62 m.c
 rw[qac,pg35]
 unfold Mch.few
 generalize m.c.few=b at *
 have hl:(decide ((m.ts.length:Int)<=40))=decide (m.ts.length<=40):=by rw[Bool.eq_iff_iff];simp only[jW];omega
 cases b
 .simp[ir35,e62]
 .by_cases h:m.ts.length<=40
  .have h':(m.ts.length:Int)<=40:=by omega
   simp[ir35,e62,h,h']
  .have h':¬(m.ts.length:Int)<=40:=by omega
   simp[ir35,e62,h,h']
end Go.Proofs.YtlhciedghbmjjaaGreat
