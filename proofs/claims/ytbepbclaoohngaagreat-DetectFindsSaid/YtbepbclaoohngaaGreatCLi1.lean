/- Ascending lists of numbers. -/
import Derived.Test.YtbepbclaoohngaaGreatCGa1
import Derived.KernelRfl
import Derived.Test.YtbepbclaoohngaaGreatCEv1
import Derived.Test.YtbepbclaoohngaaGreatCCt6
import Derived.Test.YtbepbclaoohngaaGreatCFy1
set_option linter.all false
namespace Go.Proofs.YtbepbclaoohngaaGreat
open Go Go.Am Go.Proofs
set_option maxRecDepth 100000
theorem zaj(l:List Bool):∀x,x∈List.map qfi l->x.length=1:=by
 intro x hx
 obtain⟨b,-,rfl⟩:=List.mem_map.1 hx
 rfl
theorem zjk(l:List Bool):∀x,x∈List.map qfi l->∀y,y∈x->V.pcell y=true:=by
 intro x hx y hy
 obtain⟨b,-,rfl⟩:=List.mem_map.1 hx
 rw[List.mem_singleton.1 hy]
 rfl
abbrev h28(c:Ct)(s:Ste)(k:Nat)(a:Nat×Nat):H:=[⟨0,.box c.cells⟩,⟨0,.box s.cells⟩,⟨0,.arr 0 []⟩,⟨a.1,.arr a.2 ((qen (s.ends.take k)).map qfi)⟩]
def T28(k:Nat)(a:Nat×Nat):Tm:=[none,none,bN 0,bN 1,some (.sl 2 0 0 0 0),some (.sl 3 a.1 a.2 0 (2*k)),nN k]++zN 29
theorem jhd(c:Ct)(s:Ste)(hs:s.small)(hce:(s.ends.length:Int)=c.act){st:St}(a0:Nat×Nat)(g0:a0.2=1\/a0.2=0)(h0:At (T28 0 a0) (h28 c s 0 a0) st):∃r,ev pg (.code (.going 4 L240_0) st)=some r/\∃a:Nat×Nat,(a.2=1\/a.2=0)/\qas (.exit 0) (T28 s.ends.length a) (h28 c s s.ends.length a) r:=by
 have hse:=hs.e
 refine qct s.ends.length T28 (h28 c s) (fun _ a=>a.2=1\/a.2=0) _ ?_ ?_ a0 g0 h0
 .rintro k ⟨g,m⟩ f hf hk hG
  have hk':(k:Int)<c.act:=by omega
  have wk:=qbb (k:=k) (by omega)
  have hlen:(qen (s.ends.take k)).length=2*k:=by rw[qet,List.length_take];omega
  have hb:2*k+2<=140737488355328:=by omega
  have h2:2*(k+1)=2*k+2:=by omega
  unfold T28 h28
  rw[qsh hk,h2]
  generalize qen (s.ends.take k)=W at *
  have hmm:m=1\/m=0:=hG
  rcases hmm with rfl | rfl<;>simp[L240_0,hk,hk',wk,hb,hlen,hf.ne]
 .rintro⟨g,m⟩ f hf hG
  have hk':¬((s.ends.length:Int)<c.act):=by omega
  unfold T28 h28
  generalize qen (s.ends.take s.ends.length)=W at *
  generalize 2*s.ends.length=N at *
  have hmm:m=1\/m=0:=hG
  rcases hmm with rfl | rfl<;>simp[L240_0,hk',hf.ne]
theorem ev240(c:Ct)(s:Ste)(hs:s.small)(hce:(s.ends.length:Int)=c.act):ev pg (.call (.fn 240 [] []) [c.v,s.v] [])=some { v:=.sl 0 0 1 0 (qae s).length,st:=⟨[],[⟨0,.arr 1 ((qae s).map qfi)⟩]⟩ }:=by
 have hl:=@jhd c s hs hce
 obtain⟨h1,h2,h3,h4,h5⟩:=hs
 have hlen:=qdm s
 unfold qae at hlen ⊢
 have he:=qet s.ends
 have q1:2*s.ends.length+s.inputs.length<=140737488355328:=by omega
 have q2:2*s.ends.length+s.inputs.length+s.values.length<=140737488355328:=by omega
 rw[hlen]
 simp only[List.map_append]
 have hW:((qen s.ends).map qfi).length=2*s.ends.length:=by rw[List.length_map,he]
 unfold h28 at hl
 rw[List.take_length,List.take_zero,qen]at hl
 generalize (qen s.ends).map qfi=W at *
 rw[qaa,pg240]
 simp[ir240,qah]
 generalize hr:ev pg (.code (.going _ L240_0) _)=o
 obtain⟨r,rfl,⟨g,m⟩,hm,f,hf,rfl⟩:∃r,o=some r/\_:=by rw[<-hr];exact hl (0,0) (.inr rfl) (by simp[T28])
 clear hr
 have hmm:m=1\/m=0:=hm
 rcases hmm with rfl | rfl
 all_goals
  simp[T28,hW,q1,q2]
  rw[if_pos ⟨zaj _,zjk _⟩]
  simp[hW,q2]
  rw[if_pos ⟨zaj _,zjk _⟩]
  simp[hW,qcl,qep,qee,Nat.add_assoc]
theorem zaw{o i n:Int}{k:Nat}(h:qbr o i k n=0)(ho:o=2):k=1:=by
 subst ho
 unfold qbr at h
 by_cases hk:k=1
 .exact hk
 .rw[if_neg (by omega),if_pos (by omega)]at h
  omega
def zlh(vs:List Bool)(x:Ex)(k:Nat):Bool:=(x.args.take k).all (Ex.holds vs)
def zli(vs:List Bool)(x:Ex)(k:Nat):Bool:=(x.args.take k).any (Ex.holds vs)
abbrev zhj(x:Ex):H:=[⟨0,.box x.cells⟩]
def zxh(vs:List Bool)(x:Ex)(k:Nat):Tm:=[none,some (qdy vs),bN 0,none,none,some (.bool (zlh vs x k)),some (.bool (zli vs x k)),nN k]++zN 60
theorem jef(x:Ex)(vs:List Bool)(hx:x.nodes<=256)(ih:∀y∈x.args,ev pg (.call (.fn 239 [] []) [y.v,qdy vs] [])=some { v:=.bool (y.holds vs),st:=⟨[],[]⟩ }){st:St}(h0:At (zxh vs x 0) (zhj x) st):∃r,ev pg (.code (.going 1 L239_0) st)=some r/\qas (.exit 1) (zxh vs x x.args.length) (zhj x) r:=by
 have hfew:=qfj hx
 refine qfy x.args.length (zxh vs x) (fun _=>zhj x) _ ?_ ?_ h0
 .intro k f hf hk
  have hk':(k:Int)<x.args.length:=by omega
  have wk:=qbb (k:=k) (by omega)
  have hi:=ih _ (jH hk)
  have e1:zlh vs x (k+1)=(zlh vs x k&&x.args[k].holds vs):=by
   unfold zlh
   rw[jK hk,List.all_append]
   simp
  have e2:zli vs x (k+1)=(zli vs x k||x.args[k].holds vs):=by
   unfold zli
   rw[jK hk,List.any_append]
   simp
  unfold zxh
  rw[e1,e2]
  generalize zlh vs x k=a at *
  generalize zli vs x k=b at *
  generalize x.args[k].holds vs=v at *
  cases a<;>cases b<;>simp[L239_0,hk,hk',wk,hi,hf.ne]
 .intro f hf
  unfold zxh
  simp[L239_0,hf.ne]
theorem ev239(vs:List Bool):∀x:Ex,x.nodes<=256->x.err vs.length=0->ev pg (.call (.fn 239 [] []) [x.v,qdy vs] [])=some { v:=.bool (x.holds vs),st:=⟨[],[]⟩ }:=by
 refine Ex.ind fun x ih hx he=>?_
 obtain⟨hn,hargs⟩:=qhk he
 have ih':∀y∈x.args,ev pg (.call (.fn 239 [] []) [y.v,qdy vs] [])=some { v:=.bool (y.holds vs),st:=⟨[],[]⟩ }:=fun y hy=>ih y hy (by have:=qex hx hy;omega) (hargs y hy)
 have hop:x.op=0\/x.op=1\/x.op=2\/x.op=3\/x.op=4:=by
  unfold qbr at hn
  by_cases h:x.op<0\/5<=x.op
  .rw[if_pos h]at hn;omega
  .omega
 have hl:=@jef x vs hx ih'
 have e1:(x.args.map (Ex.holds vs)).all id=zlh vs x x.args.length:=by
  unfold zlh;rw[List.all_map,List.take_length];rfl
 have e2:(x.args.map (Ex.holds vs)).any id=zli vs x x.args.length:=by
  unfold zli;rw[List.any_map,List.take_length];rfl
 have z1:zlh vs x 0=true:=rfl
 have z2:zli vs x 0=false:=rfl
 unfold zxh at hl
 rw[z1,z2]at hl
 rw[qnv,e1,e2,qaa,pg239]
 generalize zlh vs x x.args.length=a at *
 generalize zli vs x x.args.length=b at *
 rcases hop with h | h | h | h | h
 .simp[ir239,h]
 .obtain⟨hi0,hi1⟩:=qjt hn h
  have hin:x.idx.toNat<vs.length:=by omega
  simp[ir239,h,hi0,hin]
 .have h1:=zaw hn h
  obtain⟨y,hy⟩:∃y,x.args=[y]:=by
   match hq:x.args,h1 with
   | [y],_=>exact⟨y,rfl⟩
  have hiy:=ih' y (by rw[hy];exact List.mem_cons_self)
  simp[ir239,h,hy,hiy]
 .simp[ir239,h,qah]
  generalize hr:ev pg (.code (.going _ L239_0) _)=o
  obtain⟨r,rfl,f,hf,rfl⟩:∃r,o=some r/\_:=by rw[<-hr];exact hl (by simp[h])
  cases a<;>simp[h]
 .simp[ir239,h,qah]
  generalize hr:ev pg (.code (.going _ L239_0) _)=o
  obtain⟨r,rfl,f,hf,rfl⟩:∃r,o=some r/\_:=by rw[<-hr];exact hl (by simp[h])
  cases b<;>simp[h]
theorem q2b(c:Ct)(F i:Nat)(L:List Bool):(qgm c F i L).take F=L.take F:=by
 unfold qgm
 split
 .split
  .rw[List.take_set]
   rw[List.set_eq_of_length_le (by rw[List.length_take];omega)]
  .rfl
 .rfl
theorem qtv(c:Ct)(F:Nat)(L:List Bool):∀k,(qbc c F k L).take F=L.take F
 | 0=>rfl
 | k+1=>by rw[qbc,q2b,qtv c F L k]
def stK(c:Ct)(s:Ste)(k:Nat):Ste:=⟨s.ends,s.valves,s.inputs,(qbc c (qap s) k (qae s)).drop (qap s),s.timers⟩
theorem zbl(c:Ct)(s:Ste):stK c s 0=s:=by
 unfold stK qbc
 rw[qli]
theorem q8q(c:Ct)(s:Ste):stK c s c.signals.length=qdq c s:=rfl
theorem q3l(c:Ct)(s:Ste)(k:Nat):(stK c s k).values.length=s.values.length:=by
 unfold stK
 simp only[List.length_drop]
 rw[qfe,qdm]
 unfold qap
 omega
theorem qkq(c:Ct)(s:Ste)(k:Nat):qae (stK c s k)=qbc c (qap s) k (qae s):=by
 have h1:=qtv c (qap s) (qae s) k
 have h2:(qae s).take (qap s)=qen s.ends++s.inputs:=by
  unfold qae
  rw[List.take_left' (by rw[jF,qet])]
 rw[h2]at h1
 have e:=List.take_append_drop (qap s) (qbc c (qap s) k (qae s))
 rw[h1]at e
 exact e
theorem zbk(c:Ct)(s:Ste)(k:Nat)(hk:k<c.signals.length):(stK c s (k+1)).values=if c.signals[k].kind=0 then(stK c s k).values.set k (c.signals[k].on.holds (qae (stK c s k)))else(stK c s k).values:=by
 have e:c.signals[k]?=some c.signals[k]:=jA hk
 rw[qkq]
 unfold stK
 simp only[qbc]
 rw[qgm,e]
 simp only
 split
 .rw[List.drop_set,if_neg (by omega),Nat.add_sub_cancel_left]
 .rfl
abbrev h88(c:Ct)(s:Ste)(k:Nat):H:=[⟨0,.box c.cells⟩,⟨0,.box s.cells⟩,o0,o0,o0,o0,o0,⟨0,.box (q3v 2)⟩,⟨0,.arr 1 (s.ends.map qbl)⟩,⟨0,.arr 1 (s.valves.map qfi)⟩,⟨0,.arr 1 (s.inputs.map qfi)⟩,⟨0,.arr 1 ((stK c s k).values.map qfi)⟩,⟨0,.arr 1 (s.timers.map qbl)⟩,o0,o0,o0,o0,o0,⟨0,.box [.sl 8 0 1 0 s.ends.length,.sl 9 0 1 0 s.valves.length,.sl 10 0 1 0 s.inputs.length,.sl 11 0 1 0 s.values.length,.sl 12 0 1 0 s.timers.length]⟩]
def T88(k:Nat):Tm:=[none,none,bN 0,bN 1,bN 7,bN 18,nN k]++zN 31
theorem jhn(c:Ct)(s:Ste)(hs:s.small)(hS:Shp c s)(hn:c.signals.length<=128)(hok:∀x∈c.signals,x.on.nodes<=256/\x.on.err (qae s).length=0){st:St}(h0:At (T88 0) (h88 c s 0) st):∃r,ev pg (.code (.going 19 L191_0) st)=some r/\qas (.exit 0) (T88 c.signals.length) (h88 c s c.signals.length) r:=by
 refine qfy c.signals.length T88 (h88 c s) _ ?_ ?_ h0
 .intro k f hf hk
  have hk':(k:Int)<c.signals.length:=by omega
  have wk:=qbb (k:=k) (by omega)
  have hsc:=zbk c s k hk
  obtain⟨g1,g2⟩:=hok _ (jH hk)
  have hsm:(stK c s k).small:=⟨hs.e,hs.w,hs.i,by rw[q3l];exact hs.v,hs.t⟩
  have h28:=ev240 c (stK c s k) hsm hS.e
  have hLl:(qae (stK c s k)).length=(qae s).length:=by rw[qkq,qfe]
  have zhj:=ev239 (qae (stK c s k)) c.signals[k].on g1 (by rw[hLl];exact g2)
  have hvl:=q3l c s k
  have hkv:k<s.values.length:=by rw[hS.v];exact hk
  unfold h88 T88
  rw[hsc]
  have hst:stK c s k=⟨s.ends,s.valves,s.inputs,(stK c s k).values,s.timers⟩:=rfl
  generalize hL:qae (stK c s k)=L at *
  generalize c.signals[k].on.holds L=v at *
  rw[hst]at h28
  generalize (stK c s k).values=W at *
  by_cases h0:c.signals[k].kind=0
  .have hkW:k<W.length:=by omega
   simp[qab,exT,qak,L191_0,hk,hk',wk,h0,h28,zhj,hvl.symm,hkW,hf.ne]
  .simp[L191_0,hk,hk',wk,h0,hf.ne]
 .intro f hf
  unfold T88 h88
  simp[L191_0,hf.ne]
theorem ev191(c:Ct)(s:Ste)(hs:s.small)(hS:Shp c s)(hn:c.signals.length<=128)(hok:∀x∈c.signals,x.on.nodes<=256/\x.on.err (qae s).length=0):ev pg (.call (.fn 191 [] []) [c.v,s.v] [])=some { v:=(qdq c s).v,st:=⟨[],[]⟩ }:=by
 have hl:=@jhn c s hs hS hn hok
 have h130:=ev192 s hs
 have hgl:=qkn (c:=c) s
 have hst:qdq c s=⟨s.ends,s.valves,s.inputs,(qdq c s).values,s.timers⟩:=rfl
 unfold h88 at hl
 rw[zbl,q8q]at hl
 rw[hst]
 generalize (qdq c s).values=W at *
 rw[qaa,pg191]
 simp[ir191,h130,qah]
 generalize hr:ev pg (.code (.going _ L191_0) _)=o
 obtain⟨r,rfl,f,hf,rfl⟩:∃r,o=some r/\_:=by rw[<-hr];exact hl (by simp[T88])
 simp[T88,hgl.symm]
def Asc(l:List Int):Prop:=l.Pairwise (· < ·)
theorem qvo:∀{l m:List Int},Asc l->Asc m->(∀x,x∈l<->x∈m)->l=m
 | [],[],_,_,_=>rfl
 | [],y :: m,_,_,h=>absurd ((h y).2 (by simp)) (by simp)
 | x :: l,[],_,_,h=>absurd ((h x).1 (by simp)) (by simp)
 | x :: l,y :: m,hl,hm,h=>by
  have hl':=List.pairwise_cons.1 hl
  have hm':=List.pairwise_cons.1 hm
  have hxy:x=y:=by
   rcases List.mem_cons.1 ((h x).1 (by simp))with e | e
   .exact e
   .rcases List.mem_cons.1 ((h y).2 (by simp))with e2 | e2
    .exact e2.symm
    .have h1:=hm'.1 x e
     have h2:=hl'.1 y e2
     omega
  subst hxy
  congr 1
  refine qvo hl'.2 hm'.2 fun z=>⟨fun hz=>?_,fun hz=>?_⟩
  .rcases List.mem_cons.1 ((h z).1 (by simp[hz]))with e | e
   .have:=hl'.1 z hz;omega
   .exact e
  .rcases List.mem_cons.1 ((h z).2 (by simp[hz]))with e | e
   .have:=hm'.1 z hz;omega
   .exact e
def norm(N:Nat)(l:List Int):List Int:=qrx (fun k=>l.contains (k:Int)) 0 N
theorem qoa(N:Nat)(l:List Int):Asc (norm N l):=by
 unfold norm qrx Asc
 rw[List.pairwise_map]
 refine List.Pairwise.imp ?_ ((List.pairwise_lt_range (n:=N)).filter _)
 intro a b h
 omega
theorem qll{N:Nat}{l:List Int}{x:Int}:x∈norm N l<->x∈l/\0<=x/\x<N:=by
 unfold norm qrx
 simp only[List.mem_map,List.mem_filter,List.mem_range,List.contains_iff_mem]
 constructor
 .rintro⟨k,⟨h1,h2⟩,rfl⟩
  simp only[Int.zero_add]
  exact⟨h2,by omega,by omega⟩
 .rintro⟨h1,h2,h3⟩
  exact⟨x.toNat,⟨by omega,by rw[Int.toNat_of_nonneg h2];exact h1⟩,by omega⟩
theorem zjc{N:Nat}{l:List Int}(hl:Asc l)(h:∀x∈l,0<=x/\x<(N:Int)):norm N l=l :=
 qvo (qoa N l) hl fun x=>by rw[qll];exact⟨fun a=>a.1,fun a=>⟨a,h x a⟩⟩
theorem qzw{N:Nat}{l m:List Int}(h:∀x:Int,0<=x->x<N->(x∈l<->x∈m)):norm N l=norm N m :=
 qvo (qoa N l) (qoa N m) fun x=>by
  rw[qll,qll]
  exact⟨fun a=>⟨(h x a.2.1 a.2.2).1 a.1,a.2⟩,fun a=>⟨(h x a.2.1 a.2.2).2 a.1,a.2⟩⟩
def mrg:List Int->List Int->List Int
 | [],m=>m
 | x :: l,[]=>x :: l
 | x :: l,y :: m=>if x<y then x :: mrg l (y :: m)else if y<x then y :: mrg (x :: l) m else x :: mrg l m
termination_by l m=>l.length+m.length
theorem qpl:∀{l m:List Int} {z:Int},z∈mrg l m<->z∈l\/z∈m
 | [],m,z=>by rw[mrg];simp
 | x :: l,[],z=>by rw[mrg];simp
 | x :: l,y :: m,z=>by
  rw[mrg]
  split
  .rw[List.mem_cons,qpl (l:=l) (m:=y :: m),List.mem_cons (a:=z) (b:=x),or_assoc]
  .split
   .rw[List.mem_cons,qpl (l:=x :: l) (m:=m),List.mem_cons (a:=z) (b:=y) (l:=m)]
    exact⟨fun h=>h.elim (fun h=>.inr (.inl h)) fun h=>h.elim .inl fun h=>.inr (.inr h),fun h=>h.elim (fun h=>.inr (.inl h)) fun h=>h.elim .inl fun h=>.inr (.inr h)⟩
   .rename_i h1 h2
    have:x=y:=by omega
    subst this
    rw[List.mem_cons,qpl (l:=l) (m:=m),List.mem_cons,List.mem_cons]
    exact⟨fun h=>h.elim (fun h=>.inl (.inl h)) fun h=>h.elim (fun h=>.inl (.inr h)) fun h=>.inr (.inr h),fun h=>h.elim (fun h=>h.elim .inl fun h=>.inr (.inl h)) fun h=>h.elim .inl fun h=>.inr (.inr h)⟩
termination_by l m=>l.length+m.length
theorem q2p:∀{l m:List Int},Asc l->Asc m->Asc (mrg l m)
 | [],m,_,hm=>by rw[mrg];exact hm
 | x :: l,[],hl,_=>by rw[mrg];exact hl
 | x :: l,y :: m,hl,hm=>by
  have hl':=List.pairwise_cons.1 hl
  have hm':=List.pairwise_cons.1 hm
  rw[mrg]
  split
  .refine List.pairwise_cons.2 ⟨fun z hz=>?_,q2p hl'.2 hm⟩
   rcases qpl.1 hz with h | h
   .exact hl'.1 z h
   .rcases List.mem_cons.1 h with h | h
    .omega
    .have:=hm'.1 z h;omega
  .split
   .refine List.pairwise_cons.2 ⟨fun z hz=>?_,q2p hl hm'.2⟩
    rcases qpl.1 hz with h | h
    .rcases List.mem_cons.1 h with h | h
     .omega
     .have:=hl'.1 z h;omega
    .exact hm'.1 z h
   .refine List.pairwise_cons.2 ⟨fun z hz=>?_,q2p hl'.2 hm'.2⟩
    rcases qpl.1 hz with h | h
    .exact hl'.1 z h
    .have:=hm'.1 z h;omega
termination_by l m=>l.length+m.length
theorem zof{N:Nat}{l m:List Int}(hl:Asc l)(hm:Asc m)(h1:∀x∈l,0<=x/\x<(N:Int))(h2:∀x∈m,0<=x/\x<(N:Int)):mrg l m=norm N (l++m) :=
 qvo (q2p hl hm) (qoa _ _) fun x=>by
  rw[qpl,qll,jQ]
  exact⟨fun h=>⟨h,h.elim (h1 x) (h2 x)⟩,fun h=>h.1⟩
def qaz:List Int->List Int
 | []=>[]
 | [x]=>[x]
 | x :: y :: l=>if x=y then qaz (y :: l)else x :: qaz (y :: l)
theorem qlk:∀{l:List Int} {z:Int},z∈qaz l<->z∈l
 | [],z=>by simp[qaz]
 | [x],z=>by simp[qaz]
 | x :: y :: l,z=>by
  rw[qaz]
  split
  .rename_i h
   rw[qlk (l:=y :: l)]
   subst h
   simp
  .rw[List.mem_cons,qlk (l:=y :: l),List.mem_cons (a:=z) (b:=x)]
theorem qpc:∀{l:List Int},l.Pairwise (·<=·)->Asc (qaz l)
 | [],_=>by rw[qaz];exact List.Pairwise.nil
 | [x],_=>by rw[qaz];exact List.pairwise_singleton ..
 | x :: y :: l,h=>by
  have h':=List.pairwise_cons.1 h
  have hy:=List.pairwise_cons.1 h'.2
  rw[qaz]
  split
  .exact qpc h'.2
  .rename_i hne
   refine List.pairwise_cons.2 ⟨fun z hz=>?_,qpc h'.2⟩
   rw[qlk]at hz
   have h1:=h'.1 y (by simp)
   rcases List.mem_cons.1 hz with e | e
   .omega
   .have:=hy.1 z e;omega
theorem qtq{N:Nat}{l m:List Int}(hs:m.Pairwise (·<=·))(hp:∀x,x∈m<->x∈l)(h:∀x∈l,0<=x/\x<(N:Int)):qaz m=norm N l :=
 qvo (qpc hs) (qoa _ _) fun x=>by
  rw[qlk,hp,qll]
  exact⟨fun a=>⟨a,h x a⟩,fun a=>a.1⟩
end Go.Proofs.YtbepbclaoohngaaGreat
