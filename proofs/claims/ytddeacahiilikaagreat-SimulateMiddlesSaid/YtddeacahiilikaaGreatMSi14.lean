/- Run, by the program. Moves of a log, by the program. -/
import Derived.Test.YtddeacahiilikaaGreatMSi12
import Derived.KernelRfl
set_option linter.all false
namespace Go.Proofs.YtddeacahiilikaaGreat
open Go Go.Am Go.Proofs
set_option maxRecDepth 100000
set_option maxHeartbeats 4000000
abbrev Lg.cells(x:Lg):List V:=[z5a x.en,qck x.cf,qck x.st.ends,qem x.st.valves,qem x.st.inputs,qem x.st.values,qck x.st.timers]
abbrev Lg.v(x:Lg):V:=.agg x.cells
def zLg:Lg:=⟨[],[],zeroS⟩
def qjw(m:Mch)(l:List Prs):Cst:=⟨(qcg m.c).1,List.replicate (qcg m.c).1.ends.length 0,List.replicate (qcg m.c).1.timers.length 0,l⟩
def q1u(m:Mch)(l:List Prs)(u:Int):Option (Int ⊕ Lg):=goS m u (4097+l.length) (qjw m l) [] (qcg m.c).2.1
def z4d(z:Option (Int ⊕ Lg)):Lg×Int :=
 match z with
 | some (.inr x)=>(x,0)
 | some (.inl e)=>(zLg,e)
 | none=>(zLg,0)
def qyb(m:Mch)(l:List Prs)(u:Int):Lg×Int :=
 if qkc m l u≠0 then(zLg,qkc m l u)else if(qcg m.c).2.2≠0 then(zLg,(qcg m.c).2.2)else z4d (q1u m l u)
theorem qoq{m:Mch}{l:List Prs}{u:Int}(h:qkc m l u=0):qeh m=0/\l.length<=256/\qxh m.c.inputs.length l=0/\0<=u/\u<=1000000:=by
 unfold qkc at h
 split at h
 .rename_i h1;exact absurd h h1
 .rename_i h1
  split at h
  .cases h
  .rename_i h2
   split at h
   .rename_i h3;exact absurd h h3
   .rename_i h3
    split at h
    .cases h
    .rename_i h4
     exact⟨by simpa using h1,by omega,by simpa using h3,by omega,by omega⟩
theorem zcw{n:Nat}{l:List Prs}(h:qxh n l=0):∀k,k<l.length->q7s n l k=0:=by
 intro k hk
 unfold qxh at h
 cases hf:(List.range l.length).find? (fun k=>q7s n l k != 0)with
 | none =>
  rw[List.find?_eq_none]at hf
  have:=hf k (List.mem_range.2 hk)
  simpa using this
 | some j =>
  rw[hf]at h
  have:=List.find?_some hf
  simp only[Option.map_some,Option.getD_some]at h
  rw[h]at this
  simp at this
theorem q3r{m:Mch}{l:List Prs}{u:Int}(hs:m.c.small=true)(hg:qkc m l u=0)(he:(qcg m.c).2.2=0):Cok m (qjw m l):=by
 obtain⟨h1,h2,h3,h4,h5⟩:=qoq hg
 have hc:m.c.check=0:=by
  unfold qeh at h1
  split at h1
  .assumption
  .rename_i hn;exact absurd h1 hn
 have ht:qvq m=0:=by
  unfold qeh at h1
  rwa [if_pos hc]at h1
 have hlie:=q8c hs hc he
 have shp:=hlie.rdy.shp
 have mid:=hlie.rdy.mid
 have hm:(m.ts.length:Int)=m.c.act/\∀q∈m.ts,q1c q=false:=by
  unfold qvq at ht
  split at ht
  .cases ht
  .rename_i hl
   split at ht
   .cases ht
   .rename_i hb
    refine⟨by omega,fun q hq=>?_⟩
    cases hq2:q1c q with
    | false=>rfl
    | true=>exact absurd (List.any_eq_true.2 ⟨q,hq,hq2⟩) hb
 refine⟨hlie,⟨by simp[qjw],by simp[qjw],?_,?_,?_,?_,?_,?_,?_,zfp hc⟩,fun p hp=>?_⟩
 .have a:=shp.e;have b:=hm.1;simp only[qjw];omega
 .have a:=shp.t;simp only[qjw];omega
 .have a:=shp.e;have b:=mid.hi;have d:=mid.act;simp only[qjw];omega
 .have a:=shp.t;have b:=mid.sig;simp only[qjw];omega
 .intro x hx
  rw[List.eq_of_mem_replicate hx]
  omega
 .intro x hx
  rw[List.eq_of_mem_replicate hx]
  omega
 .intro q hq
  obtain⟨a,b,c,d⟩:=q1r (hm.2 q hq)
  exact⟨a,b,c,d⟩
 .obtain⟨k,hk,rfl⟩:=List.getElem_of_mem hp
  have hk':k<l.length:=hk
  have hz:=zcw h3 k hk'
  rw[q2q hk']at hz
  split at hz
  .cases hz
  .rename_i a
   split at hz
   .cases hz
   .rename_i b
    show 0<=l[k].t/\l[k].t<=1000000/\0<=l[k].i/\l[k].i<(m.c.inputs.length:Int)
    omega
theorem qvp(c:Ct):Lin (qjv c) (qcg c).2.1:=by
 unfold qcg
 split
 .exact q0g _ _
 .exact Lin.nil _
theorem zuj{m:Mch}{s0:Ste}{X:List V}{C:List Int}(hX:qew 32 X=true):qcj [⟨0,.box m.cells⟩,o0s,o0s,o0s,o0s,o0s,o0s,o0s,⟨0,.box [.sl 1 0 0 0 0,.sl 2 0 0 0 0,.sl 3 0 0 0 0,.sl 4 0 0 0 0,.sl 5 0 0 0 0,.sl 6 0 0 0 0,.sl 7 0 0 0 0]⟩,o0s,o0s,o0s,o0s,o0s,⟨0,.box s0.cells⟩,
   ⟨1,.arr 1 (List.replicate s0.ends.length [num 0])⟩,⟨1,.arr 1 (List.replicate s0.timers.length [num 0])⟩,⟨0,.box X⟩,o0s,o0s,o0s,o0s,o0s,o0s,o0s,
   ⟨0,.box [.sl 26 0 0 0 0,qck C,.sl 27 0 0 0 0,.sl 28 0 0 0 0,.sl 29 0 0 0 0,.sl 30 0 0 0 0,.sl 31 0 0 0 0]⟩,o0s,o0s,o0s,o0s,o0s,o0s]:=by
 rw[qhs]
 intro o ho
 simp only[List.mem_cons,List.not_mem_nil,or_false]at ho
 rcases ho with rfl | rfl | rfl | rfl | rfl | rfl | rfl | rfl | rfl | rfl | rfl | rfl | rfl | rfl | rfl | rfl | rfl | rfl | rfl | rfl | rfl | rfl | rfl | rfl | rfl | rfl | rfl | rfl | rfl | rfl | rfl | rfl<;>(try rfl)<;>simp[qbm]
 exact qij hX
theorem ev28{m:Mch}(hs:m.c.small=true)(ht:m.ts.length<=100000){l:List Prs}(hl:l.length<=100000)(u:Int):ev pg (.call (.fn 28 [] []) [m.v,prs l,num u] [])=some { v:=.tup [(qyb m l u).1.v,num (qyb m l u).2],st:=⟨[],[]⟩ }:=by
 have e39:=ev76 m hs ht l hl u
 have e29:=ev11 m.c hs
 rw[qac,pg28]
 unfold qyb
 by_cases h1:qkc m l u=0
 .rw[if_neg (by simp[h1])]
  rw[h1]at e39
  by_cases h2:(qcg m.c).2.2=0
  .rw[if_neg (by simp[h2])]
   have hok:=q3r hs h1 h2
   obtain⟨g1,g2,g3,g4,g5⟩:=qoq h1
   have hlin:=qvp m.c
   have e40:=ev77 (x:=17) (m:=m) (s:=(qcg m.c).1) (ve:=.sl 15 1 1 0 (qcg m.c).1.ends.length) (vt:=.sl 16 1 1 0 (qcg m.c).1.timers.length) (e:=List.replicate (qcg m.c).1.ends.length 0) (t:=List.replicate (qcg m.c).1.timers.length 0) (l:=l) rfl (zuj (m:=m) (s0:=(qcg m.c).1) (C:=(qcg m.c).2.1) (by simp))
    (VE.sl (i:=15) (n:=(qcg m.c).1.ends.length) (.inr ⟨rfl,rfl⟩) rfl) (VE.sl (i:=16) (n:=(qcg m.c).1.timers.length) (.inr ⟨rfl,rfl⟩) rfl) hok.tim (fun d hd=>by
     have:=(hok.due d hd).1
     exact⟨by omega,by omega⟩)
   have hlp:=fun(st:St)=>z7w (m:=m) (s0:=(qcg m.c).1) (u:=u) g5 (Z:=q1u m l u) (L:=l.length) (by omega) (st:=st) ⟨qjw m l,[],(qcg m.c).2.1,.sl 15 1 1 0 (qcg m.c).1.ends.length,.sl 16 1 1 0 (qcg m.c).1.timers.length,0,0,true,q8j⟩
    ⟨hok,.inr ⟨rfl,rfl⟩,.inr ⟨rfl,rfl⟩,.inr rfl,hlin,rfl,by simp[qjw],by simp⟩
   have n1:(qcg m.c).1.ends.length<=4096:=hok.tim.ne
   have n2:(qcg m.c).1.timers.length<=4096:=hok.tim.nt
   simp only[G13.T,G13.H,G13.d,G13.X,nxD,qjw,List.map_nil,List.length_nil]at hlp
   generalize hZ:q1u m l u=Z at *
   simp only[zsa]at e29
   rw[h2]at e29
   generalize (qcg m.c).1=s0 at *
   generalize (qcg m.c).2.1=C0 at *
   generalize (qxb (qyk m s0 (List.replicate s0.ends.length 0) (List.replicate s0.timers.length 0) l)).isSome=SM at *
   generalize (qxb (qyk m s0 (List.replicate s0.ends.length 0) (List.replicate s0.timers.length 0) l)).getD q8j=ND at *
   have n3:s0.ends.length*8<=140737488355328:=by omega
   have n4:s0.timers.length*8<=140737488355328:=by omega
   have n5:s0.ends.length<=4611686018427387904:=by omega
   have n6:s0.timers.length<=4611686018427387904:=by omega
   clear hok hZ
   simp[ir28,e39,e29,e40,n3,n4,n5,n6,qaa,exT,qad,zgf]
   generalize hr:ev pg (.code (.goingK _ _ L28_0) _)=o
   obtain⟨r,rfl,hQ⟩:∃r,o=some r/\_:=by rw[<-hr];exact hlp _ (by simp[qqi])
   clear hr
   cases hQ with
   | ok a hz hw he =>
    obtain⟨c,En,C,ve,vt,g,w,b,d0⟩:=a
    obtain⟨f,hf,rfl⟩:=he
    simp only at hz hw
    subst hz
    simp only[G13.T,G13.H,G13.X,G13.d,z4d]
    generalize (nxD m c).isSome=SM' at *
    generalize (nxD m c).getD q8j=ND' at *
    cases b with
    | true=>rcases hw with rfl | rfl<;>simp[qqi]
    | false=>rcases hw with rfl | rfl<;>simp[qqi]
   | bad e hz h q hh he =>
    obtain⟨f,hf,rfl⟩:=he
    subst hz
    obtain⟨b,e0,e1,e2,e3,e4,e5,e6⟩:=hh
    simp[qtl,z4d,zLg,zeroS,b,e0,e1,e2,e3,e4,e5,e6]
  .rw[if_pos h2]
   simp only[zsa]at e29
   have hb:((qcg m.c).2.2==0)=false:=by simpa using h2
   generalize (qcg m.c).2.2=er at *
   simp[ir28,e39,e29,h2,hb,zLg,zeroS]
 .rw[if_pos h1]
  have hb:(qkc m l u==0)=false:=by simpa using h1
  generalize qkc m l u=e at *
  simp[ir28,e39,h1,hb,zLg,zeroS]
structure Mov where
 a:Int
 o:Bool
 f:Int
 t:Int
abbrev Mov.row(x:Mov):List V:=[num x.a,.bool x.o,num x.f,num x.t]
abbrev mvs(l:List Mov):V:=.imm (l.map Mov.row)
abbrev noT:Int:=-1099511627776
def zgx(L:List (Int×Nat)):List (V×V):=L.map fun p=>(num p.1,num p.2)
def zbm:List (Int×Nat)->Int->Option Nat
 | [],_=>none
 | (a,b) :: r,k=>if k=a then some b else zbm r k
def zjd:List (Int×Nat)->Int->Nat->List (Int×Nat)
 | [],k,v=>[(k,v)]
 | (a,b) :: r,k,v=>if k=a then(k,v) :: r else(a,b) :: zjd r k v
theorem q4k(k:Int):∀L:List (Int×Nat),qmv (zgx L) (num k)=some ((zbm L k).map fun n=>num n)
 | []=>rfl
 | (a,b) :: r=>by
  have ih:=q4k k r
  unfold zgx at ih ⊢
  simp only[List.map_cons,qmv,eqS,zbm]
  by_cases h:k=a
  .subst h;simp
  .have hb:(k==a)=false:=by simpa using h
   simp[h,hb,ih]
theorem q3d(k:Int)(v:Nat):∀L:List (Int×Nat),qyd (zgx L) (num k) (num v)=some (zgx (zjd L k v))
 | []=>rfl
 | (a,b) :: r=>by
  have ih:=q3d k v r
  unfold zgx at ih ⊢
  simp only[List.map_cons,qyd,eqS,zjd]
  by_cases h:k=a
  .subst h;simp
  .have hb:(k==a)=false:=by simpa using h
   simp[h,hb,ih]
def q8m(out:List Mov)(L:List (Int×Nat))(x:Ent):List Mov :=
 match (if x.e.kind=0 then zbm L x.e.idx else none)with
 | some j=>match out[j]? with
  | some q=>if q.t=noT then out.set j ⟨q.a,q.o,q.f,x.t⟩else out
  | none=>out
 | none=>out
def zef(t:Int)(z:List Mov×List (Int×Nat))(s:Int×Bool):List Mov×List (Int×Nat):=(z.1++[⟨s.1,s.2,t,noT⟩],zjd z.2 s.1 z.1.length)
def qyn(t:Int)(s:List (Int×Bool))(z:List Mov×List (Int×Nat)):List Mov×List (Int×Nat):=s.foldl (zef t) z
def qqn(z:List Mov×List (Int×Nat))(x:Ent):List Mov×List (Int×Nat):=qyn x.t x.s (q8m z.1 z.2 x,z.2)
def qgm(en:List Ent):List Mov×List (Int×Nat):=en.foldl qqn ([],[])
def quw(en:List Ent):List Mov:=(qgm en).1
theorem qqr(out:List Mov)(L:List (Int×Nat))(x:Ent):(q8m out L x).length=out.length:=by
 unfold q8m
 split
 .split
  .split<;>simp
  .rfl
 .rfl
theorem qwf(t:Int):∀(s:List (Int×Bool)) (z:List Mov×List (Int×Nat)),(qyn t s z).1.length=z.1.length+s.length
 | [],z=>rfl
 | a :: r,z=>by
  have:=qwf t r (zef t z a)
  unfold qyn at this ⊢
  rw[List.foldl_cons,this]
  simp only[zef,jF,List.length_cons,List.length_nil]
  omega
def qye(z:List Mov×List (Int×Nat)):Prop:=∀k j,zbm z.2 k=some j->j<z.1.length
theorem zwl(L:List (Int×Nat))(k q:Int)(v:Nat):zbm (zjd L k v) q=if q=k then some v else zbm L q:=by
 induction L with
 | nil=>simp[zjd,zbm]
 | cons p r ih =>
  obtain⟨a,b⟩:=p
  simp only[zjd]
  by_cases h:k=a
  .subst h
   simp only[if_true,zbm]
   by_cases h2:q=k
   .simp[h2]
   .simp[h2]
  .simp only[if_neg h,zbm,ih]
   by_cases h2:q=a
   .subst h2
    have:¬q=k:=fun e=>h e.symm
    simp[this]
   .simp[h2]
theorem q9h(t:Int):∀(s:List (Int×Bool)) (z:List Mov×List (Int×Nat)),qye z->qye (qyn t s z)
 | [],z,h=>h
 | a :: r,z,h=>q9h t r (zef t z a) (by
   intro k j hj
   simp only[zef]at hj ⊢
   rw[zwl]at hj
   rw[jF]
   split at hj
   .cases hj;simp
   .have:=h k j hj;simp;omega)
theorem zid{z:List Mov×List (Int×Nat)}(h:qye z)(x:Ent):qye (qqn z x):=q9h _ _ _ (fun k j hj=>by
 have:=h k j hj
 simp only[qqr]
 exact this)
theorem q2i{en:List Ent}{k:Nat}(hk:k<en.length):qgm (en.take (k+1))=qqn (qgm (en.take k)) en[k]:=by
 unfold qgm
 rw[jK hk,List.foldl_append]
 rfl
abbrev q5v(m:Mch)(x:Lg)(out:List Mov)(L:List (Int×Nat))(g w:Nat):H :=
 [⟨0,.box m.cells⟩,o0s,o0s,o0s,o0s,o0s,o0s,o0s,⟨0,.box x.cells⟩,⟨g,.arr w (out.map Mov.row)⟩,⟨0,.box [.sl 9 g w 0 out.length]⟩,⟨0,.map (zgx L)⟩,⟨0,.box [.map 11]⟩,⟨0,.box [.fn 123 [] [.bptr 12 0,.bptr 10 0],.fn 124 [] [],.fn 125 [] []]⟩,o0s]
theorem ev123(m:Mch)(x:Lg)(out:List Mov)(L:List (Int×Nat))(g w:Nat)(hw:w=4\/(w=0/\out=[]))(hL:qye (out,L))(y:Ent)(hk:y.e.kind=0) :
  ev pg (.call (.fn 123 [] [.bptr 12 0,.bptr 10 0]) [.agg y.row] (q5v m x out L g w++[o0s,⟨0,.box y.row⟩]))=some { v:=.tup [],st:=⟨[],q5v m x (q8m out L y) L g w++[o0s,⟨0,.box y.row⟩]⟩ }:=by
 have hf:=q4k y.e.idx L
 unfold q8m
 rw[if_pos hk]
 rw[qac,pg123]
 cases hg:zbm L y.e.idx with
 | none =>
  rw[hg]at hf
  simp[ir123,hf]
 | some j =>
  have hj:=hL _ _ hg
  simp only at hj
  rcases hw with rfl | ⟨_,rfl⟩
  .rw[hg]at hf
   simp only[jA hj]
   by_cases h1:out[j].t=noT
   .rw[if_pos h1]
    simp[ir123,hf,hj,h1]
   .rw[if_neg h1]
    have h1b:(out[j].t==noT)=false:=by simpa using h1
    simp[ir123,hf,hj,h1,h1b]
  .simp at hj
theorem q9i{t:Int}{s:List (Int×Bool)}{z:List Mov×List (Int×Nat)}{k:Nat}(hk:k<s.length):qyn t (s.take (k+1)) z=zef t (qyn t (s.take k) z) s[k]:=by
 unfold qyn
 rw[jK hk,List.foldl_append]
 rfl
def q3i(en:List Ent)(i:Nat):Tm:=[none,none,none,none,none,none,some (.sl 14 0 0 0 0),some (num 0),some (.bptr 8 0),none,some (.bptr 10 0),some (.bptr 12 0),some (.bptr 13 0)]++List.replicate 18 none++[some (z5a en),some (num en.length),some (num i)]++List.replicate 32 none
def qlo(en:List Ent)(i:Nat)(s:List (Int×Bool))(k:Nat):Tm:=[none,none,none,none,none,none,some (.sl 14 0 0 0 0),some (num 0),some (.bptr 8 0),none,some (.bptr 10 0),some (.bptr 12 0),some (.bptr 13 0),none,some (.bptr 16 0)]++List.replicate 16 none++[some (z5a en),some (num en.length),some (num i)]++List.replicate 11 none++[some (q5r s),some (num s.length),some (num k)]++List.replicate 18 none
theorem zxz(m:Mch)(x:Lg)(i:Nat)(y:Ent)(z:List Mov×List (Int×Nat))(hs:y.s.length<=1000)(hz:z.1.length<=10000000)(g w:Nat)(hw:w=4\/(w=0/\z.1=[])){st:St}(h0:At (qlo x.en i y.s 0) (q5v m x z.1 z.2 g w++[o0s,⟨0,.box y.row⟩]) st) :
  ∃r,ev pg (.code (.going 17 L50_0) st)=some r/\∃g' w',(w'=4\/(w'=0/\(qyn y.t y.s z).1=[]))/\qai (.exit 2) (qlo x.en i y.s y.s.length) (q5v m x (qyn y.t y.s z).1 (qyn y.t y.s z).2 g' w'++[o0s,⟨0,.box y.row⟩]) r:=by
 have hend:qyn y.t y.s z=qyn y.t (y.s.take y.s.length) z:=by rw[List.take_length]
 rw[hend]
 refine qco (α:=Nat×Nat) y.s.length (fun k _=>qlo x.en i y.s k) (fun k a=>q5v m x (qyn y.t (y.s.take k) z).1 (qyn y.t (y.s.take k) z).2 a.1 a.2++[o0s,⟨0,.box y.row⟩]) (fun k a=>a.2=4\/(a.2=0/\(qyn y.t (y.s.take k) z).1=[])) _ ?_ ?_ (g,w) hw h0
 .rintro k ⟨g,w⟩ f hf hk hw
  simp only at hw
  have hk':(k:Int)<y.s.length:=by omega
  have wk:=qab (n:=(k:Int)+1) (by omega) (by omega)
  have hst:=q9i (t:=y.t) (z:=z) hk
  have hln:=qwf y.t (y.s.take k) z
  have hln2:(y.s.take k).length<=1000:=by simp;omega
  generalize qyn y.t (y.s.take (k+1)) z=z2 at *
  generalize qyn y.t (y.s.take k) z=z1 at *
  subst hst
  have hup:=q3d y.s[k].1 z1.1.length z1.2
  have hap:(z1.1.length+1)*32<=140737488355328:=by omega
  refine(?_:∃st,ev pg (.code L50_0 ⟨fill f 0 (qlo x.en i y.s k),q5v m x z1.1 z1.2 g w++[o0s,⟨0,.box y.row⟩]⟩)=some { st:=st }/\At (qlo x.en i y.s (k+1)) (q5v m x (zef y.t z1 y.s[k]).1 (zef y.t z1 y.s[k]).2 (g+1) 4++[o0s,⟨0,.box y.row⟩]) (qpl 17 st)).elim fun st h=>⟨_,h.1,.inl ⟨rfl,(g+1,4),.inl rfl,h.2⟩⟩
  rcases hw with rfl | ⟨rfl,hw⟩
  .simp[qlo,L50_0,hk,hk',wk,hup,hap,zef,hf.ne]
  .obtain⟨o1,l1⟩:=z1
   simp only at hw hup hap ⊢
   subst hw
   have hup0:qyd (zgx l1) (num y.s[k].1) (.int .i64 0)=some (zgx (zjd l1 y.s[k].1 0)):=q3d _ 0 l1
   simp[qlo,L50_0,hk,hk',wk,zef,hup0,hf.ne]
 .rintro⟨g,w⟩ f hf hw
  simp[qlo,L50_0,hf.ne]
  simp only[List.take_length]at hw
  rcases hw with h | h
  .exact⟨g,.inl ⟨rfl,h⟩⟩
  .exact⟨g,.inr ⟨h,rfl⟩⟩
theorem ev124(y:Ent):ev pg (.call (.fn 124 [] []) [.agg y.row] [])=some { v:=.tup [],st:=⟨[],[]⟩ }:=by
 rw[qac,pg124]
 simp[ir124]
theorem ev125(y:Ent):ev pg (.call (.fn 125 [] []) [.agg y.row] [])=some { v:=.tup [],st:=⟨[],[]⟩ }:=by
 rw[qac,pg125]
 simp[ir125]
structure Lg.ok(x:Lg):Prop where
 len:x.en.length<=4096
 each:∀y∈x.en,(y.e.kind=0\/y.e.kind=1\/y.e.kind=2)/\y.s.length<=1000
theorem zcj(en:List Ent):qye (qgm en):=by
 have key:∀(en:List Ent) (z:List Mov×List (Int×Nat)),qye z->qye (en.foldl qqn z):=by
  intro en
  induction en with
  | nil=>intro z h;exact h
  | cons a r ih=>intro z h;exact ih _ (zid h a)
 exact key en _ (fun k j h=>by cases h)
theorem q7l{en:List Ent}(h:∀y∈en,y.s.length<=1000):(qgm en).1.length<=1000*en.length:=by
 have key:∀(en:List Ent) (z:List Mov×List (Int×Nat)),(∀y∈en,y.s.length<=1000)->(en.foldl qqn z).1.length<=z.1.length+1000*en.length:=by
  intro en
  induction en with
  | nil=>intro z _;simp
  | cons a r ih =>
   intro z h
   have h1:=ih (qqn z a) (fun y hy=>h y (by simp[hy]))
   have h2:=h a (by simp)
   have h3:(qqn z a).1.length=z.1.length+a.s.length:=by
    unfold qqn
    rw[qwf,qqr]
   rw[List.foldl_cons,List.length_cons]
   omega
 have:=key en ([],[]) h
 unfold qgm
 simpa using this
theorem z8a(m:Mch)(x:Lg)(hx:x.ok){st:St}(h0:At (q3i x.en 0) (q5v m x [] [] 0 0) st) :
  ∃r,ev pg (.code (.going 15 L50_1) st)=some r/\∃g' w',(w'=4\/(w'=0/\quw x.en=[]))/\qai (.exit 0) (q3i x.en x.en.length) (q5v m x (quw x.en) (qgm x.en).2 g' w') r:=by
 have hend:qgm x.en=qgm (x.en.take x.en.length):=by rw[List.take_length]
 unfold quw
 rw[hend]
 refine qco (α:=Nat×Nat) x.en.length (fun k _=>q3i x.en k) (fun k a=>q5v m x (qgm (x.en.take k)).1 (qgm (x.en.take k)).2 a.1 a.2) (fun k a=>a.2=4\/(a.2=0/\(qgm (x.en.take k)).1=[])) _ ?_ ?_ (0,0) (.inr ⟨rfl,rfl⟩) h0
 .rintro k ⟨g,w⟩ f hf hk hw
  simp only at hw
  have hk':(k:Int)<x.en.length:=by omega
  have hl:=hx.len
  have wk:=qab (n:=(k:Int)+1) (by omega) (by omega)
  have hst:=q2i hk
  have hok:=zcj (x.en.take k)
  have hln:=q7l (en:=x.en.take k) (fun y hy=>(hx.each y (List.mem_of_mem_take hy)).2)
  rw[List.length_take,Nat.min_eq_left (by omega)]at hln
  obtain⟨hkd,hys⟩:=hx.each _ (jH hk)
  generalize qgm (x.en.take (k+1))=z2 at *
  generalize qgm (x.en.take k)=z1 at *
  subst hst
  obtain⟨o1,l1⟩:=z1
  simp only at hln hw
  have hmid:q8m o1 l1 x.en[k]=if x.en[k].e.kind=0 then q8m o1 l1 x.en[k]else o1:=by
   split
   .rfl
   .rename_i h;unfold q8m;rw[if_neg h]
  have hwm:w=4\/(w=0/\q8m o1 l1 x.en[k]=[]):=by
   rcases hw with h | ⟨h1,h2⟩
   .exact .inl h
   .exact .inr ⟨h1,List.eq_nil_of_length_eq_zero (by rw[qqr,h2];rfl)⟩
  have hlp:=fun st=>zxz m x k x.en[k] (q8m o1 l1 x.en[k],l1) hys (by simp only[qqr];omega) g w hwm (st:=st)
  have e47:=fun(h0:x.en[k].e.kind=0)=>ev123 m x o1 l1 g w hw hok x.en[k] h0
  have e48:=ev124 x.en[k]
  have e49:=ev125 x.en[k]
  have fin:∀st:St,At (qlo x.en k x.en[k].s 0) (q5v m x (q8m o1 l1 x.en[k]) l1 g w++[o0s,⟨0,.box x.en[k].row⟩]) st->∃r,ev pg (.code (.going 17 L50_0) st)=some r/\∃g' w',(w'=4\/(w'=0/\(qqn (o1,l1) x.en[k]).1=[]))/\qai (.exit 2) (qlo x.en k x.en[k].s x.en[k].s.length) (q5v m x (qqn (o1,l1) x.en[k]).1 (qqn (o1,l1) x.en[k]).2 g' w'++[o0s,⟨0,.box x.en[k].row⟩]) r:=fun st h=>hlp st h
  clear hlp
  generalize qqn (o1,l1) x.en[k]=z3 at *
  obtain⟨Tl,hTl⟩:∃Tl:St->Prop,∀st,Tl st<->∃g' w',(w'=4\/(w'=0/\z3.1=[]))/\At (q3i x.en (k+1)) (q5v m x z3.1 z3.2 g' w') st:=⟨_,fun _=>Iff.rfl⟩
  refine(?_:∃st,ev pg (.code L50_1 ⟨fill f 0 (q3i x.en k),q5v m x o1 l1 g w⟩)=some { st:=st }/\Tl (qpl 15 st)).elim fun st h=>⟨_,h.1,.inl ⟨rfl,by
   obtain⟨g',w',h1,h2⟩:=(hTl _).1 h.2
   exact⟨(g',w'),h1,h2⟩⟩⟩
  generalize hy:x.en[k]=y at *
  obtain⟨yt,⟨kd,ix,vl⟩,ss⟩:=y
  simp only at hkd hys hmid e47 fin
  rcases hkd with rfl | rfl | rfl
  .have e:=e47 rfl
   rw[if_pos rfl]at hmid
   generalize q8m o1 l1 ⟨yt,⟨0,ix,vl⟩,ss⟩=O at *
   simp only[List.cons_append,List.nil_append]at e
   simp[q3i,L50_1,hk,hk',hy,e,qaf,hf.ne]
   generalize hr:ev pg (.code (.going _ L50_0) _)=o
   obtain⟨r,rfl,g',w',hw',f2,hf2,rfl⟩:∃r,o=some r/\_:=by rw[<-hr];exact fin _ (by simp[qlo,hf.ne])
   clear hr
   simp[qlo,wk]
   exact(hTl _).2 ⟨g',w',hw',by simp[q3i,hf2.ne]⟩
  .rw[if_neg (by decide)]at hmid
   rw[hmid]at fin
   simp[q3i,L50_1,hk,hk',hy,e48,qaf,hf.ne]
   generalize hr:ev pg (.code (.going _ L50_0) _)=o
   obtain⟨r,rfl,g',w',hw',f2,hf2,rfl⟩:∃r,o=some r/\_:=by rw[<-hr];exact fin _ (by simp[qlo,hf.ne])
   clear hr
   simp[qlo,wk]
   exact(hTl _).2 ⟨g',w',hw',by simp[q3i,hf2.ne]⟩
  .rw[if_neg (by decide)]at hmid
   rw[hmid]at fin
   simp[q3i,L50_1,hk,hk',hy,e49,qaf,hf.ne]
   generalize hr:ev pg (.code (.going _ L50_0) _)=o
   obtain⟨r,rfl,g',w',hw',f2,hf2,rfl⟩:∃r,o=some r/\_:=by rw[<-hr];exact fin _ (by simp[qlo,hf.ne])
   clear hr
   simp[qlo,wk]
   exact(hTl _).2 ⟨g',w',hw',by simp[q3i,hf2.ne]⟩
 .rintro⟨g,w⟩ f hf hw
  simp[q3i,L50_1,hf.ne]
  simp only[List.take_length]at hw
  rcases hw with h | h
  .exact⟨g,.inl ⟨rfl,h⟩⟩
  .exact⟨g,.inr ⟨h,rfl⟩⟩
end Go.Proofs.YtddeacahiilikaaGreat
