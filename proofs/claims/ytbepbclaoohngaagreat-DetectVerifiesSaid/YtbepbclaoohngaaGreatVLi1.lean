/- Ascending lists of numbers. -/
import Derived.Test.YtbepbclaoohngaaGreatVGa1
import Derived.KernelRfl
import Derived.Test.YtbepbclaoohngaaGreatVEv1
import Derived.Test.YtbepbclaoohngaaGreatVCt6
import Derived.Test.YtbepbclaoohngaaGreatVFy1
set_option linter.all false
namespace Go.Proofs.YtbepbclaoohngaaGreat
open Go Go.Am Go.Proofs
set_option maxRecDepth 100000
theorem q9r(l:List Bool):∀x,x∈List.map qfa l->x.length=1:=by
 intro x hx
 obtain⟨b,-,rfl⟩:=List.mem_map.1 hx
 rfl
theorem zio(l:List Bool):∀x,x∈List.map qfa l->∀y,y∈x->V.pcell y=true:=by
 intro x hx y hy
 obtain⟨b,-,rfl⟩:=List.mem_map.1 hx
 rw[List.mem_singleton.1 hy]
 rfl
abbrev h28(c:Ct)(s:Ste)(k:Nat)(a:Nat×Nat):H:=[⟨0,.box c.cells⟩,⟨0,.box s.cells⟩,⟨0,.arr 0 []⟩,⟨a.1,.arr a.2 ((qem (s.ends.take k)).map qfa)⟩]
def T28(k:Nat)(a:Nat×Nat):Tm:=[none,none,bN 0,bN 1,some (.sl 2 0 0 0 0),some (.sl 3 a.1 a.2 0 (2*k)),nN k]++zN 29
theorem jfx(c:Ct)(s:Ste)(hs:s.small)(hce:(s.ends.length:Int)=c.act){st:St}(a0:Nat×Nat)(g0:a0.2=1\/a0.2=0)(h0:At (T28 0 a0) (h28 c s 0 a0) st):∃r,ev pg (.code (.going 4 L240_0) st)=some r/\∃a:Nat×Nat,(a.2=1\/a.2=0)/\qaq (.exit 0) (T28 s.ends.length a) (h28 c s s.ends.length a) r:=by
 have hse:=hs.e
 refine qdb s.ends.length T28 (h28 c s) (fun _ a=>a.2=1\/a.2=0) _ ?_ ?_ a0 g0 h0
 .rintro k ⟨g,m⟩ f hf hk hG
  have hk':(k:Int)<c.act:=by omega
  have wk:=qbb (k:=k) (by omega)
  have hlen:(qem (s.ends.take k)).length=2*k:=by rw[qes,List.length_take];omega
  have hb:2*k+2<=140737488355328:=by omega
  have h2:2*(k+1)=2*k+2:=by omega
  unfold T28 h28
  rw[qru hk,h2]
  generalize qem (s.ends.take k)=W at *
  have hmm:m=1\/m=0:=hG
  rcases hmm with rfl | rfl<;>simp[L240_0,hk,hk',wk,hb,hlen,hf.ne]
 .rintro⟨g,m⟩ f hf hG
  have hk':¬((s.ends.length:Int)<c.act):=by omega
  unfold T28 h28
  generalize qem (s.ends.take s.ends.length)=W at *
  generalize 2*s.ends.length=N at *
  have hmm:m=1\/m=0:=hG
  rcases hmm with rfl | rfl<;>simp[L240_0,hk',hf.ne]
theorem ev240(c:Ct)(s:Ste)(hs:s.small)(hce:(s.ends.length:Int)=c.act):ev pg (.call (.fn 240 [] []) [c.v,s.v] [])=some { v:=.sl 0 0 1 0 (qae s).length,st:=⟨[],[⟨0,.arr 1 ((qae s).map qfa)⟩]⟩ }:=by
 have hl:=@jfx c s hs hce
 obtain⟨h1,h2,h3,h4,h5⟩:=hs
 have hlen:=qdn s
 unfold qae at hlen ⊢
 have he:=qes s.ends
 have q1:2*s.ends.length+s.inputs.length<=140737488355328:=by omega
 have q2:2*s.ends.length+s.inputs.length+s.values.length<=140737488355328:=by omega
 rw[hlen]
 simp only[List.map_append]
 have hW:((qem s.ends).map qfa).length=2*s.ends.length:=by rw[List.length_map,he]
 unfold h28 at hl
 rw[List.take_length,List.take_zero,qem]at hl
 generalize (qem s.ends).map qfa=W at *
 rw[qaa,pg240]
 simp[ir240,qah]
 generalize hr:ev pg (.code (.going _ L240_0) _)=o
 obtain⟨r,rfl,⟨g,m⟩,hm,f,hf,rfl⟩:∃r,o=some r/\_:=by rw[<-hr];exact hl (0,0) (.inr rfl) (by simp[T28])
 clear hr
 have hmm:m=1\/m=0:=hm
 rcases hmm with rfl | rfl
 all_goals
  simp[T28,hW,q1,q2]
  rw[if_pos ⟨q9r _,zio _⟩]
  simp[hW,q2]
  rw[if_pos ⟨q9r _,zio _⟩]
  simp[hW,qcn,qex,qei,Nat.add_assoc]
theorem zae{o i n:Int}{k:Nat}(h:qbq o i k n=0)(ho:o=2):k=1:=by
 subst ho
 unfold qbq at h
 by_cases hk:k=1
 .exact hk
 .rw[if_neg (by omega),if_pos (by omega)]at h
  omega
def zkl(vs:List Bool)(x:Ex)(k:Nat):Bool:=(x.args.take k).all (Ex.holds vs)
def zkm(vs:List Bool)(x:Ex)(k:Nat):Bool:=(x.args.take k).any (Ex.holds vs)
abbrev zgq(x:Ex):H:=[⟨0,.box x.cells⟩]
def zwf(vs:List Bool)(x:Ex)(k:Nat):Tm:=[none,some (qdw vs),bN 0,none,none,some (.bool (zkl vs x k)),some (.bool (zkm vs x k)),nN k]++zN 60
theorem jdc(x:Ex)(vs:List Bool)(hx:x.nodes<=256)(ih:∀y∈x.args,ev pg (.call (.fn 239 [] []) [y.v,qdw vs] [])=some { v:=.bool (y.holds vs),st:=⟨[],[]⟩ }){st:St}(h0:At (zwf vs x 0) (zgq x) st):∃r,ev pg (.code (.going 1 L239_0) st)=some r/\qaq (.exit 1) (zwf vs x x.args.length) (zgq x) r:=by
 have hfew:=qfi hx
 refine qhj x.args.length (zwf vs x) (fun _=>zgq x) _ ?_ ?_ h0
 .intro k f hf hk
  have hk':(k:Int)<x.args.length:=by omega
  have wk:=qbb (k:=k) (by omega)
  have hi:=ih _ (jH hk)
  have e1:zkl vs x (k+1)=(zkl vs x k&&x.args[k].holds vs):=by
   unfold zkl
   rw[jK hk,List.all_append]
   simp
  have e2:zkm vs x (k+1)=(zkm vs x k||x.args[k].holds vs):=by
   unfold zkm
   rw[jK hk,List.any_append]
   simp
  unfold zwf
  rw[e1,e2]
  generalize zkl vs x k=a at *
  generalize zkm vs x k=b at *
  generalize x.args[k].holds vs=v at *
  cases a<;>cases b<;>simp[L239_0,hk,hk',wk,hi,hf.ne]
 .intro f hf
  unfold zwf
  simp[L239_0,hf.ne]
theorem ev239(vs:List Bool):∀x:Ex,x.nodes<=256->x.err vs.length=0->ev pg (.call (.fn 239 [] []) [x.v,qdw vs] [])=some { v:=.bool (x.holds vs),st:=⟨[],[]⟩ }:=by
 refine Ex.ind fun x ih hx he=>?_
 obtain⟨hn,hargs⟩:=qhi he
 have ih':∀y∈x.args,ev pg (.call (.fn 239 [] []) [y.v,qdw vs] [])=some { v:=.bool (y.holds vs),st:=⟨[],[]⟩ }:=fun y hy=>ih y hy (by have:=qev hx hy;omega) (hargs y hy)
 have hop:x.op=0\/x.op=1\/x.op=2\/x.op=3\/x.op=4:=by
  unfold qbq at hn
  by_cases h:x.op<0\/5<=x.op
  .rw[if_pos h]at hn;omega
  .omega
 have hl:=@jdc x vs hx ih'
 have e1:(x.args.map (Ex.holds vs)).all id=zkl vs x x.args.length:=by
  unfold zkl;rw[List.all_map,List.take_length];rfl
 have e2:(x.args.map (Ex.holds vs)).any id=zkm vs x x.args.length:=by
  unfold zkm;rw[List.any_map,List.take_length];rfl
 have z1:zkl vs x 0=true:=rfl
 have z2:zkm vs x 0=false:=rfl
 unfold zwf at hl
 rw[z1,z2]at hl
 rw[qnn,e1,e2,qaa,pg239]
 generalize zkl vs x x.args.length=a at *
 generalize zkm vs x x.args.length=b at *
 rcases hop with h | h | h | h | h
 .simp[ir239,h]
 .obtain⟨hi0,hi1⟩:=qjo hn h
  have hin:x.idx.toNat<vs.length:=by omega
  simp[ir239,h,hi0,hin]
 .have h1:=zae hn h
  obtain⟨y,hy⟩:∃y,x.args=[y]:=by
   match hq:x.args,h1 with
   | [y],_=>exact⟨y,rfl⟩
  have hiy:=ih' y (by rw[hy];exact List.mem_cons_self)
  simp[ir239,h,hy,hiy]
 .simp[ir239,h,qah]
  generalize hr:ev pg (.code (.going _ L239_0) _)=o
  obtain⟨r,rfl,f,hf,rfl⟩:∃r,o=some r/\_:=by rw[<-hr];exact hl (by simp[h])
  cases a<;>simp[h]
 .simp[ir239,h,qah]
  generalize hr:ev pg (.code (.going _ L239_0) _)=o
  obtain⟨r,rfl,f,hf,rfl⟩:∃r,o=some r/\_:=by rw[<-hr];exact hl (by simp[h])
  cases b<;>simp[h]
theorem q1d(c:Ct)(F i:Nat)(L:List Bool):(qgg c F i L).take F=L.take F:=by
 unfold qgg
 split
 .split
  .rw[List.take_set]
   rw[List.set_eq_of_length_le (by rw[List.length_take];omega)]
  .rfl
 .rfl
theorem qti(c:Ct)(F:Nat)(L:List Bool):∀k,(qbc c F k L).take F=L.take F
 | 0=>rfl
 | k+1=>by rw[qbc,q1d,qti c F L k]
def stK(c:Ct)(s:Ste)(k:Nat):Ste:=⟨s.ends,s.valves,s.inputs,(qbc c (qao s) k (qae s)).drop (qao s),s.timers⟩
theorem zau(c:Ct)(s:Ste):stK c s 0=s:=by
 unfold stK qbc
 rw[qlb]
theorem q7x(c:Ct)(s:Ste):stK c s c.signals.length=qdq c s:=rfl
theorem q2h(c:Ct)(s:Ste)(k:Nat):(stK c s k).values.length=s.values.length:=by
 unfold stK
 simp only[List.length_drop]
 rw[qfd,qdn]
 unfold qao
 omega
theorem qki(c:Ct)(s:Ste)(k:Nat):qae (stK c s k)=qbc c (qao s) k (qae s):=by
 have h1:=qti c (qao s) (qae s) k
 have h2:(qae s).take (qao s)=qem s.ends++s.inputs:=by
  unfold qae
  rw[List.take_left' (by rw[jF,qes])]
 rw[h2]at h1
 have e:=List.take_append_drop (qao s) (qbc c (qao s) k (qae s))
 rw[h1]at e
 exact e
theorem zat(c:Ct)(s:Ste)(k:Nat)(hk:k<c.signals.length):(stK c s (k+1)).values=if c.signals[k].kind=0 then(stK c s k).values.set k (c.signals[k].on.holds (qae (stK c s k)))else(stK c s k).values:=by
 have e:c.signals[k]?=some c.signals[k]:=jA hk
 rw[qki]
 unfold stK
 simp only[qbc]
 rw[qgg,e]
 simp only
 split
 .rw[List.drop_set,if_neg (by omega),Nat.add_sub_cancel_left]
 .rfl
abbrev h88(c:Ct)(s:Ste)(k:Nat):H:=[⟨0,.box c.cells⟩,⟨0,.box s.cells⟩,o0,o0,o0,o0,o0,⟨0,.box (q2u 2)⟩,⟨0,.arr 1 (s.ends.map qbj)⟩,⟨0,.arr 1 (s.valves.map qfa)⟩,⟨0,.arr 1 (s.inputs.map qfa)⟩,⟨0,.arr 1 ((stK c s k).values.map qfa)⟩,⟨0,.arr 1 (s.timers.map qbj)⟩,o0,o0,o0,o0,o0,⟨0,.box [.sl 8 0 1 0 s.ends.length,.sl 9 0 1 0 s.valves.length,.sl 10 0 1 0 s.inputs.length,.sl 11 0 1 0 s.values.length,.sl 12 0 1 0 s.timers.length]⟩]
def T88(k:Nat):Tm:=[none,none,bN 0,bN 1,bN 7,bN 18,nN k]++zN 31
theorem jgh(c:Ct)(s:Ste)(hs:s.small)(hS:Shp c s)(hn:c.signals.length<=128)(hok:∀x∈c.signals,x.on.nodes<=256/\x.on.err (qae s).length=0){st:St}(h0:At (T88 0) (h88 c s 0) st):∃r,ev pg (.code (.going 19 L191_0) st)=some r/\qaq (.exit 0) (T88 c.signals.length) (h88 c s c.signals.length) r:=by
 refine qhj c.signals.length T88 (h88 c s) _ ?_ ?_ h0
 .intro k f hf hk
  have hk':(k:Int)<c.signals.length:=by omega
  have wk:=qbb (k:=k) (by omega)
  have hsc:=zat c s k hk
  obtain⟨g1,g2⟩:=hok _ (jH hk)
  have hsm:(stK c s k).small:=⟨hs.e,hs.w,hs.i,by rw[q2h];exact hs.v,hs.t⟩
  have h28:=ev240 c (stK c s k) hsm hS.e
  have hLl:(qae (stK c s k)).length=(qae s).length:=by rw[qki,qfd]
  have zgq:=ev239 (qae (stK c s k)) c.signals[k].on g1 (by rw[hLl];exact g2)
  have hvl:=q2h c s k
  have hkv:k<s.values.length:=by rw[hS.v];exact hk
  unfold h88 T88
  rw[hsc]
  have hst:stK c s k=⟨s.ends,s.valves,s.inputs,(stK c s k).values,s.timers⟩:=rfl
  generalize hL:qae (stK c s k)=L at *
  generalize c.signals[k].on.holds L=v at *
  rw[hst]at h28
  generalize (stK c s k).values=W at *
  by_cases h0:c.signals[k].kind=0
  .have hkW:k<W.length:=by omega
   simp[qab,exT,qal,L191_0,hk,hk',wk,h0,h28,zgq,hvl.symm,hkW,hf.ne]
  .simp[L191_0,hk,hk',wk,h0,hf.ne]
 .intro f hf
  unfold T88 h88
  simp[L191_0,hf.ne]
theorem ev191(c:Ct)(s:Ste)(hs:s.small)(hS:Shp c s)(hn:c.signals.length<=128)(hok:∀x∈c.signals,x.on.nodes<=256/\x.on.err (qae s).length=0):ev pg (.call (.fn 191 [] []) [c.v,s.v] [])=some { v:=(qdq c s).v,st:=⟨[],[]⟩ }:=by
 have hl:=@jgh c s hs hS hn hok
 have h130:=ev192 s hs
 have hgl:=qkf (c:=c) s
 have hst:qdq c s=⟨s.ends,s.valves,s.inputs,(qdq c s).values,s.timers⟩:=rfl
 unfold h88 at hl
 rw[zau,q7x]at hl
 rw[hst]
 generalize (qdq c s).values=W at *
 rw[qaa,pg191]
 simp[ir191,h130,qah]
 generalize hr:ev pg (.code (.going _ L191_0) _)=o
 obtain⟨r,rfl,f,hf,rfl⟩:∃r,o=some r/\_:=by rw[<-hr];exact hl (by simp[T88])
 simp[T88,hgl.symm]
def Asc(l:List Int):Prop:=l.Pairwise (· < ·)
theorem quy:∀{l m:List Int},Asc l->Asc m->(∀x,x∈l<->x∈m)->l=m
 | [],[],_,_,_=>rfl
 | [],y :: m,_,_,h=>absurd ((h y).2 (by simp)) (by simp)
 | x :: l,[],_,_,h=>absurd ((h x).1 (by simp)) (by simp)
 | x :: l,y :: m,hl,hm,h=>by
  have hl':=List.pairwise_cons.1 hl
  have hm':=List.pairwise_cons.1 hm
  have hxy:x=y:=by
   rcases List.mem_cons.1 ((h x).1 (by simp))with e | e
   .exact e
   .rcases List.mem_cons.1 ((h y).2 (by simp))with e2 | e2
    .exact e2.symm
    .have h1:=hm'.1 x e
     have h2:=hl'.1 y e2
     omega
  subst hxy
  congr 1
  refine quy hl'.2 hm'.2 fun z=>⟨fun hz=>?_,fun hz=>?_⟩
  .rcases List.mem_cons.1 ((h z).1 (by simp[hz]))with e | e
   .have:=hl'.1 z hz;omega
   .exact e
  .rcases List.mem_cons.1 ((h z).2 (by simp[hz]))with e | e
   .have:=hm'.1 z hz;omega
   .exact e
def norm(N:Nat)(l:List Int):List Int:=qrn (fun k=>l.contains (k:Int)) 0 N
theorem qns(N:Nat)(l:List Int):Asc (norm N l):=by
 unfold norm qrn Asc
 rw[List.pairwise_map]
 refine List.Pairwise.imp ?_ ((List.pairwise_lt_range (n:=N)).filter _)
 intro a b h
 omega
theorem qle{N:Nat}{l:List Int}{x:Int}:x∈norm N l<->x∈l/\0<=x/\x<N:=by
 unfold norm qrn
 simp only[List.mem_map,List.mem_filter,List.mem_range,List.contains_iff_mem]
 constructor
 .rintro⟨k,⟨h1,h2⟩,rfl⟩
  simp only[Int.zero_add]
  exact⟨h2,by omega,by omega⟩
 .rintro⟨h1,h2,h3⟩
  exact⟨x.toNat,⟨by omega,by rw[Int.toNat_of_nonneg h2];exact h1⟩,by omega⟩
theorem zih{N:Nat}{l:List Int}(hl:Asc l)(h:∀x∈l,0<=x/\x<(N:Int)):norm N l=l :=
 quy (qns N l) hl fun x=>by rw[qle];exact⟨fun a=>a.1,fun a=>⟨a,h x a⟩⟩
theorem qze{N:Nat}{l m:List Int}(h:∀x:Int,0<=x->x<N->(x∈l<->x∈m)):norm N l=norm N m :=
 quy (qns N l) (qns N m) fun x=>by
  rw[qle,qle]
  exact⟨fun a=>⟨(h x a.2.1 a.2.2).1 a.1,a.2⟩,fun a=>⟨(h x a.2.1 a.2.2).2 a.1,a.2⟩⟩
def mrg:List Int->List Int->List Int
 | [],m=>m
 | x :: l,[]=>x :: l
 | x :: l,y :: m=>if x<y then x :: mrg l (y :: m)else if y<x then y :: mrg (x :: l) m else x :: mrg l m
termination_by l m=>l.length+m.length
theorem qpd:∀{l m:List Int} {z:Int},z∈mrg l m<->z∈l\/z∈m
 | [],m,z=>by rw[mrg];simp
 | x :: l,[],z=>by rw[mrg];simp
 | x :: l,y :: m,z=>by
  rw[mrg]
  split
  .rw[List.mem_cons,qpd (l:=l) (m:=y :: m),List.mem_cons (a:=z) (b:=x),or_assoc]
  .split
   .rw[List.mem_cons,qpd (l:=x :: l) (m:=m),List.mem_cons (a:=z) (b:=y) (l:=m)]
    exact⟨fun h=>h.elim (fun h=>.inr (.inl h)) fun h=>h.elim .inl fun h=>.inr (.inr h),fun h=>h.elim (fun h=>.inr (.inl h)) fun h=>h.elim .inl fun h=>.inr (.inr h)⟩
   .rename_i h1 h2
    have:x=y:=by omega
    subst this
    rw[List.mem_cons,qpd (l:=l) (m:=m),List.mem_cons,List.mem_cons]
    exact⟨fun h=>h.elim (fun h=>.inl (.inl h)) fun h=>h.elim (fun h=>.inl (.inr h)) fun h=>.inr (.inr h),fun h=>h.elim (fun h=>h.elim .inl fun h=>.inr (.inl h)) fun h=>h.elim .inl fun h=>.inr (.inr h)⟩
termination_by l m=>l.length+m.length
theorem q1r:∀{l m:List Int},Asc l->Asc m->Asc (mrg l m)
 | [],m,_,hm=>by rw[mrg];exact hm
 | x :: l,[],hl,_=>by rw[mrg];exact hl
 | x :: l,y :: m,hl,hm=>by
  have hl':=List.pairwise_cons.1 hl
  have hm':=List.pairwise_cons.1 hm
  rw[mrg]
  split
  .refine List.pairwise_cons.2 ⟨fun z hz=>?_,q1r hl'.2 hm⟩
   rcases qpd.1 hz with h | h
   .exact hl'.1 z h
   .rcases List.mem_cons.1 h with h | h
    .omega
    .have:=hm'.1 z h;omega
  .split
   .refine List.pairwise_cons.2 ⟨fun z hz=>?_,q1r hl hm'.2⟩
    rcases qpd.1 hz with h | h
    .rcases List.mem_cons.1 h with h | h
     .omega
     .have:=hl'.1 z h;omega
    .exact hm'.1 z h
   .refine List.pairwise_cons.2 ⟨fun z hz=>?_,q1r hl'.2 hm'.2⟩
    rcases qpd.1 hz with h | h
    .exact hl'.1 z h
    .have:=hm'.1 z h;omega
termination_by l m=>l.length+m.length
theorem znf{N:Nat}{l m:List Int}(hl:Asc l)(hm:Asc m)(h1:∀x∈l,0<=x/\x<(N:Int))(h2:∀x∈m,0<=x/\x<(N:Int)):mrg l m=norm N (l++m) :=
 quy (q1r hl hm) (qns _ _) fun x=>by
  rw[qpd,qle,jQ]
  exact⟨fun h=>⟨h,h.elim (h1 x) (h2 x)⟩,fun h=>h.1⟩
def qaz:List Int->List Int
 | []=>[]
 | [x]=>[x]
 | x :: y :: l=>if x=y then qaz (y :: l)else x :: qaz (y :: l)
theorem qld:∀{l:List Int} {z:Int},z∈qaz l<->z∈l
 | [],z=>by simp[qaz]
 | [x],z=>by simp[qaz]
 | x :: y :: l,z=>by
  rw[qaz]
  split
  .rename_i h
   rw[qld (l:=y :: l)]
   subst h
   simp
  .rw[List.mem_cons,qld (l:=y :: l),List.mem_cons (a:=z) (b:=x)]
theorem qov:∀{l:List Int},l.Pairwise (·<=·)->Asc (qaz l)
 | [],_=>by rw[qaz];exact List.Pairwise.nil
 | [x],_=>by rw[qaz];exact List.pairwise_singleton ..
 | x :: y :: l,h=>by
  have h':=List.pairwise_cons.1 h
  have hy:=List.pairwise_cons.1 h'.2
  rw[qaz]
  split
  .exact qov h'.2
  .rename_i hne
   refine List.pairwise_cons.2 ⟨fun z hz=>?_,qov h'.2⟩
   rw[qld]at hz
   have h1:=h'.1 y (by simp)
   rcases List.mem_cons.1 hz with e | e
   .omega
   .have:=hy.1 z e;omega
theorem qtb{N:Nat}{l m:List Int}(hs:m.Pairwise (·<=·))(hp:∀x,x∈m<->x∈l)(h:∀x∈l,0<=x/\x<(N:Int)):qaz m=norm N l :=
 quy (qov hs) (qns _ _) fun x=>by
  rw[qld,hp,qle]
  exact⟨fun a=>⟨a,h x a⟩,fun a=>a.1⟩
end Go.Proofs.YtbepbclaoohngaaGreat
