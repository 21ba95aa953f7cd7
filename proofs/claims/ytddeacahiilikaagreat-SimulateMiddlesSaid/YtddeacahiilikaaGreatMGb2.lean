/- The values of all lines, by the program. The value of an expression, by the reference. Gates are computed, by the reference. Ascending lists of numbers. A line that is stuck where it is: what the law says, with no program in sight. A line that is stuck where it is: controls and states. -/
import Derived.Test.YtddeacahiilikaaGreatMEv1
import Derived.Test.YtddeacahiilikaaGreatMCa1
import Derived.Test.YtddeacahiilikaaGreatMCl1
import Derived.KernelRfl
import Derived.Test.YtddeacahiilikaaGreatMCt6
set_option linter.all false
namespace Go.Proofs.YtddeacahiilikaaGreat
open Go Go.Am Go.Proofs
set_option maxRecDepth 100000
def qen:List Int->List Bool
 | []=>[]
 | e :: l=>(e==0) :: (e==2) :: qen l
theorem zan(l m:List Int):qen (l++m)=qen l++qen m:=by
 induction l with
 | nil=>rfl
 | cons e l ih=>simp[qen,ih]
theorem qeo(l:List Int):(qen l).length=2*l.length:=by
 induction l with
 | nil=>rfl
 | cons e l ih=>simp[qen,ih];omega
theorem qud{l:List Int}{k:Nat}(hk:k<l.length):qen (l.take (k+1))=qen (l.take k)++[l[k]==0,l[k]==2]:=by
 rw[jK hk,zan];rfl
def qag(s:Ste):List Bool:=qen s.ends++s.inputs++s.values
theorem qez(s:Ste):(qag s).length=2*s.ends.length+s.inputs.length+s.values.length:=by
 unfold qag
 rw[jF,jF,qeo]
abbrev h52(s:Ste)(k:Nat)(a:Nat×Nat):H:=[⟨0,.box s.cells⟩,⟨0,.arr 0 []⟩,⟨a.1,.arr a.2 ((qen (s.ends.take k)).map qia)⟩]
def T52(s:Ste)(k:Nat)(a:Nat×Nat):Tm:=[none,some (.bptr 0 0),some (.sl 1 0 0 0 0),some (.sl 2 a.1 a.2 0 (2*k)),none,none,none,some (qck s.ends),some (num s.ends.length),some (num k)]++List.replicate 18 none
theorem z9n(s:Ste)(hs:s.small){st:St}(a0:Nat×Nat)(g0:a0.2=1\/a0.2=0)(h0:At (T52 s 0 a0) (h52 s 0 a0) st):∃r,ev pg (.code (.going 3 L191_0) st)=some r/\∃a:Nat×Nat,(a.2=1\/a.2=0)/\qai (.exit 0) (T52 s s.ends.length a) (h52 s s.ends.length a) r:=by
 have hse:=hs.e
 refine qco s.ends.length (T52 s) (h52 s) (fun _ a=>a.2=1\/a.2=0) _ ?_ ?_ a0 g0 h0
 .rintro k ⟨g,m⟩ f hf hk hG
  have hk':(k:Int)<s.ends.length:=by omega
  have wk:=qab (n:=(k:Int)+1) (by omega) (by omega)
  have hlen:(qen (s.ends.take k)).length=2*k:=by rw[qeo,List.length_take];omega
  have hb:2*k+2<=140737488355328:=by omega
  have h2:2*(k+1)=2*k+2:=by omega
  unfold T52 h52
  rw[qud hk,h2]
  generalize qen (s.ends.take k)=W at *
  have hmm:m=1\/m=0:=hG
  rcases hmm with rfl | rfl<;>simp[L191_0,hk,hk',wk,hb,hlen,hf.ne]
 .rintro⟨g,m⟩ f hf hG
  unfold T52 h52
  generalize qen (s.ends.take s.ends.length)=W at *
  generalize 2*s.ends.length=N at *
  have hmm:m=1\/m=0:=hG
  rcases hmm with rfl | rfl<;>simp[L191_0,hf.ne]
theorem ev191(s:Ste)(hs:s.small):ev pg (.call (.fn 191 [] []) [s.v] [])=some { v:=.sl 0 0 1 0 (qag s).length,st:=⟨[],[⟨0,.arr 1 ((qag s).map qia)⟩]⟩ }:=by
 have hl:=@z9n s hs
 obtain⟨h1,h2,h3,h4,h5⟩:=hs
 have hlen:=qez s
 unfold qag at hlen ⊢
 have he:=qeo s.ends
 have q1:2*s.ends.length+s.inputs.length<=140737488355328:=by omega
 have q2:2*s.ends.length+s.inputs.length+s.values.length<=140737488355328:=by omega
 rw[hlen]
 simp only[List.map_append]
 have hW:((qen s.ends).map qia).length=2*s.ends.length:=by rw[List.length_map,he]
 unfold h52 at hl
 rw[List.take_length,List.take_zero,qen]at hl
 generalize (qen s.ends).map qia=W at *
 rw[qac,pg191]
 simp[ir191,qaf]
 generalize hr:ev pg (.code (.going _ L191_0) _)=o
 obtain⟨r,rfl,⟨g,m⟩,hm,f,hf,rfl⟩:∃r,o=some r/\_:=by rw[<-hr];exact hl (0,0) (.inr rfl) (by simp[T52])
 clear hr
 have hmm:m=1\/m=0:=hm
 rcases hmm with rfl | rfl<;>simp[qaa,exT,qad,T52,hW,q1,q2,qcf,qdw,qdt]<;>simp[Nat.add_assoc]
def qfw(c:Ct)(F i:Nat)(L:List Bool):List Bool:=match c.signals[i]? with
 | some x=>if x.kind=0 then L.set (F+i) (x.on.holds L)else L
 | none=>L
def qbh(c:Ct)(F:Nat):Nat->List Bool->List Bool
 | 0,L=>L
 | k+1,L=>qfw c F k (qbh c F k L)
theorem qzg(c:Ct)(F i:Nat)(L:List Bool):(qfw c F i L).length=L.length:=by
 unfold qfw
 split
 .split
  .rw[jU]
  .rfl
 .rfl
theorem qfl(c:Ct)(F:Nat)(L:List Bool):∀k,(qbh c F k L).length=L.length
 | 0=>rfl
 | k+1=>by rw[qbh,qzg,qfl c F L k]
abbrev qal(s:Ste):Nat:=2*s.ends.length+s.inputs.length
def quh(c:Ct)(s:Ste):List Bool:=qbh c (qal s) c.signals.length (qag s)
def qfc(c:Ct)(s:Ste):Ste:=⟨s.ends,s.valves,s.inputs,(quh c s).drop (qal s),s.timers⟩
theorem qmd(s:Ste):(qag s).drop (qal s)=s.values:=by
 unfold qag
 rw[List.drop_left' (by rw[jF,qeo])]
def q1g(c:Ct)(N:Nat):Prop:=∀x∈c.signals,x.on.light=true/\x.on.check N=0
abbrev h50(c:Ct)(s:Ste)(L:List Bool):H:=[⟨0,.box c.cells⟩,⟨0,.box s.cells⟩,o0,o0,o0,o0,o0,⟨0,.box (zhh 2)⟩,o0,o0,o0,o0,o0,⟨0,.box [.sl 14 0 1 0 s.ends.length,.sl 15 0 1 0 s.valves.length,.sl 16 0 1 0 s.inputs.length,.sl 17 0 1 0 s.values.length,.sl 18 0 1 0 s.timers.length]⟩,⟨0,.arr 1 (s.ends.map qej)⟩,⟨0,.arr 1 (s.valves.map qia)⟩,⟨0,.arr 1 (s.inputs.map qia)⟩,⟨0,.arr 1 ((L.drop (qal s)).map qia)⟩,⟨0,.arr 1 (s.timers.map qej)⟩,⟨0,.arr 1 (L.map qia)⟩]
def T50(c:Ct)(s:Ste)(k:Nat):Tm:=[none,none,some (.bptr 0 0),some (.bptr 1 0),some (.bptr 7 0),some (.bptr 13 0),some (.sl 19 0 1 0 (qag s).length)]++List.replicate 23 none++[some (.imm (c.signals.map Sg.row)),some (num c.signals.length),some (num k)]++List.replicate 28 none
theorem z9m{c:Ct}{A:Nat}(hM:Mid c A)(s:Ste)(hs:s.small)(hS:Shp c s)(hok:q1g c (qaj c A)){st:St}(h0:At (T50 c s 0) (h50 c s (qbh c (qal s) 0 (qag s))) st):∃r,ev pg (.code (.going 20 L110_0) st)=some r/\qai (.exit 0) (T50 c s c.signals.length) (h50 c s (quh c s)) r:=by
 refine qfd c.signals.length (T50 c s) (fun k=>h50 c s (qbh c (qal s) k (qag s))) _ ?_ ?_ h0
 .intro k f hf hk
  have hsig:=hM.sig
  have hk':(k:Int)<c.signals.length:=by omega
  have wk:=qab (n:=(k:Int)+1) (by omega) (by omega)
  have h84:=ev193 hM
  have hlen:=qez s
  have hgl:=qfl c (qal s) (qag s) k
  have hA:s.ends.length=A:=by have:=hS.e;have:=hM.act;omega
  have hF:qal s=qao c A:=by unfold qao;rw[qal,hA,hS.i]
  have hN:(qag s).length=qaj c A:=by rw[hlen,hA,hS.i,hS.v]
  obtain⟨hli,hch⟩:=hok _ (jH hk)
  have hc256:qaj c A<=256:=by
   have:=hM.hi;have:=hM.inp;have:=hM.sig
   unfold qaj;omega
  have h83:=ev192 c.signals[k].on (qbh c (qal s) k (qag s)) hli (by omega) (by rw[hgl,hN];exact hch)
  have hval:s.values.length=c.signals.length:=hS.v
  have hkF:qao c A+k<qaj c A:=by unfold qao qaj;omega
  have w2:=qab (n:=(qao c A:Int)+(k:Int)) (by omega) (by omega)
  have hnn:(0:Int)<=(qao c A:Int)+(k:Int):=by omega
  have htn:((qao c A:Int)+(k:Int)).toNat=qao c A+k:=by omega
  have hst:qbh c (qal s) (k+1) (qag s)=if c.signals[k].kind=0 then(qbh c (qal s) k (qag s)).set (qal s+k) (c.signals[k].on.holds (qbh c (qal s) k (qag s)))else qbh c (qal s) k (qag s):=by
   rw[qbh,qfw,jA hk]
  have hdr:(qbh c (qal s) k (qag s)).length-qao c A=s.values.length:=by rw[hgl,hN,hval];unfold qaj qao;omega
  unfold h50
  rw[hst]
  by_cases h0:c.signals[k].kind=0
  .rw[if_pos h0,<-List.set_drop,hF]
   rw[hF]at hgl h83 hdr
   generalize hW:qbh c (qao c A) k (qag s)=W at *
   generalize c.signals[k].on.holds W=b at *
   have hb1:k<(W.drop (qao c A)).length:=by rw[List.length_drop];omega
   have hb2:qao c A+k<W.length:=by omega
   have hd1:((W.drop (qao c A)).set k b).map qia=((W.drop (qao c A)).map qia).set k [.bool b]:=by rw[List.map_set]
   have hd2:(W.set (qao c A+k) b).map qia=(W.map qia).set (qao c A+k) [.bool b]:=by rw[List.map_set]
   rw[hd1,hd2]
   have hb3:k<W.length-qao c A:=by omega
   unfold qem at h83
   have hk4:k<s.values.length:=by omega
   have hk5:(k:Int)<s.values.length:=by omega
   have hk6:(qao c A:Int)+(k:Int)<(qag s).length:=by omega
   have hk7:qao c A+k<(qag s).length:=by omega
   generalize qao c A=F at *
   simp[qaa,exT,qad,T50,L110_0,hk,hk',wk,h0,h83,h84,w2,hnn,htn,hb2,hb3,hk4,hk7,hgl,hdr,hf.ne]
  .have h0b:(c.signals[k].kind==0)=false:=by simpa using h0
   rw[if_neg h0]
   generalize qbh c (qal s) k (qag s)=W at *
   simp[T50,L110_0,hk,hk',wk,h0b,hf.ne]
 .intro f hf
  unfold h50 quh
  generalize qbh c (qal s) c.signals.length (qag s)=W at *
  simp[T50,L110_0,hf.ne]
theorem qrq{c:Ct}(s:Ste):(qfc c s).values.length=s.values.length:=by
 unfold qfc
 simp only[List.length_drop]
 rw[quh,qfl,qez]
 unfold qal
 omega
theorem ev110{c:Ct}{A:Nat}(hM:Mid c A)(s:Ste)(hs:s.small)(hS:Shp c s)(hok:q1g c (qaj c A)):ev pg (.call (.fn 110 [] []) [c.v,s.v] [])=some { v:=(qfc c s).v,st:=⟨[],[]⟩ }:=by
 have hl:=@z9m c A hM s hs hS hok
 have h52:=ev191 s hs
 have hlen:=qrq (c:=c) s
 have hd:=qmd s
 obtain⟨g1,g2,g3,g4,g5⟩:=hs
 have c1:=ev106 s.ends g1
 have c2:=ev190 s.valves g2
 have c3:=ev190 s.inputs g3
 have c4:=ev190 s.values g4
 have c5:=ev106 s.timers g5
 unfold qfc at hlen ⊢
 simp only at hlen
 unfold h50 at hl
 rw[qbh,hd]at hl
 generalize (quh c s).drop (qal s)=W at *
 rw[qac,pg110]
 simp[qaa,exT,qad,ir110,qaf,c1,c2,c3,c4,c5,h52]
 generalize hr:ev pg (.code (.going _ L110_0) _)=o
 obtain⟨r,rfl,f,hf,rfl⟩:∃r,o=some r/\_:=by rw[<-hr];exact hl (by simp[T50])
 clear hr
 simp[T50,hlen]
theorem q6z{c:Ct}(h:c.check=0)(hfew:c.small=true):q1g c (qaj c c.act.toNat):=by
 have hR:=qso h hfew
 intro x hx
 have hl:=(qdq hfew).2.2.2.2.2 x hx
 refine⟨hl.2.1,?_⟩
 have he:=hR.on x hx
 have hm:=hR.mid
 have h1:=hm.hi
 have h2:=hm.inp
 have h3:=hm.sig
 unfold Ex.check
 rw[if_neg (by unfold qaj;omega),if_pos hl.2.1]
 exact he
theorem zgj{c:Ct}{s:Ste}(h:zeg c s=0):Shp c s:=by
 unfold zeg at h
 by_cases hS:Shp c s
 .exact hS
 .rw[if_neg hS]at h;cases h
theorem qll{c:Ct}{s:Ste}(h:stE c s=0):c.check=0/\Shp c s:=by
 unfold stE at h
 by_cases hc:c.check=0
 .rw[if_pos hc]at h
  exact⟨hc,zgj h⟩
 .rw[if_neg hc]at h;exact absurd h hc
theorem zhj{o i n:Int}{k:Nat}(h:qbk o i k n=0)(ho:o=2):k=1:=by
 subst ho
 unfold qbk at h
 by_cases hk:k=1
 .exact hk
 .rw[if_neg (by omega),if_pos (by omega)]at h
  omega
theorem qwp(c:Ct)(F i:Nat)(L:List Bool):(qfw c F i L).take F=L.take F:=by
 unfold qfw
 split
 .split
  .rw[List.take_set]
   rw[List.set_eq_of_length_le (by rw[List.length_take];omega)]
  .rfl
 .rfl
theorem qpp(c:Ct)(F:Nat)(L:List Bool):∀k,(qbh c F k L).take F=L.take F
 | 0=>rfl
 | k+1=>by rw[qbh,qwp,qpp c F L k]
def stK(c:Ct)(s:Ste)(k:Nat):Ste:=⟨s.ends,s.valves,s.inputs,(qbh c (qal s) k (qag s)).drop (qal s),s.timers⟩
theorem zic(c:Ct)(s:Ste):stK c s 0=s:=by
 unfold stK qbh
 rw[qmd]
theorem zdk(c:Ct)(s:Ste):stK c s c.signals.length=qfc c s:=rfl
theorem zdl(c:Ct)(s:Ste)(k:Nat):(stK c s k).values.length=s.values.length:=by
 unfold stK
 simp only[List.length_drop]
 rw[qfl,qez]
 unfold qal
 omega
theorem qkd(c:Ct)(s:Ste)(k:Nat):qag (stK c s k)=qbh c (qal s) k (qag s):=by
 have h1:=qpp c (qal s) (qag s) k
 have h2:(qag s).take (qal s)=qen s.ends++s.inputs:=by
  unfold qag
  rw[List.take_left' (by rw[jF,qeo])]
 rw[h2]at h1
 have e:=List.take_append_drop (qal s) (qbh c (qal s) k (qag s))
 rw[h1]at e
 exact e
theorem zib(c:Ct)(s:Ste)(k:Nat)(hk:k<c.signals.length):(stK c s (k+1)).values=if c.signals[k].kind=0 then(stK c s k).values.set k (c.signals[k].on.holds (qag (stK c s k)))else(stK c s k).values:=by
 have e:c.signals[k]?=some c.signals[k]:=jA hk
 rw[qkd]
 unfold stK
 simp only[qbh]
 rw[qfw,e]
 simp only
 split
 .rw[List.drop_set,if_neg (by omega),Nat.add_sub_cancel_left]
 .rfl
def Asc(l:List Int):Prop:=l.Pairwise (· < ·)
theorem qwe:∀{l m:List Int},Asc l->Asc m->(∀x,x∈l<->x∈m)->l=m
 | [],[],_,_,_=>rfl
 | [],y :: m,_,_,h=>absurd ((h y).2 (by simp)) (by simp)
 | x :: l,[],_,_,h=>absurd ((h x).1 (by simp)) (by simp)
 | x :: l,y :: m,hl,hm,h=>by
  have hl':=List.pairwise_cons.1 hl
  have hm':=List.pairwise_cons.1 hm
  have hxy:x=y:=by
   rcases List.mem_cons.1 ((h x).1 (by simp))with e | e
   .exact e
   .rcases List.mem_cons.1 ((h y).2 (by simp))with e2 | e2
    .exact e2.symm
    .have h1:=hm'.1 x e
     have h2:=hl'.1 y e2
     omega
  subst hxy
  congr 1
  refine qwe hl'.2 hm'.2 fun z=>⟨fun hz=>?_,fun hz=>?_⟩
  .rcases List.mem_cons.1 ((h z).1 (by simp[hz]))with e | e
   .have:=hl'.1 z hz;omega
   .exact e
  .rcases List.mem_cons.1 ((h z).2 (by simp[hz]))with e | e
   .have:=hm'.1 z hz;omega
   .exact e
def norm(N:Nat)(l:List Int):List Int:=qxn (fun k=>l.contains (k:Int)) 0 N
theorem qni(N:Nat)(l:List Int):Asc (norm N l):=by
 unfold norm qxn Asc
 rw[List.pairwise_map]
 refine List.Pairwise.imp ?_ ((List.pairwise_lt_range (n:=N)).filter _)
 intro a b h
 omega
theorem qlb{N:Nat}{l:List Int}{x:Int}:x∈norm N l<->x∈l/\0<=x/\x<N:=by
 unfold norm qxn
 simp only[List.mem_map,List.mem_filter,List.mem_range,List.contains_iff_mem]
 constructor
 .rintro⟨k,⟨h1,h2⟩,rfl⟩
  simp only[Int.zero_add]
  exact⟨h2,by omega,by omega⟩
 .rintro⟨h1,h2,h3⟩
  exact⟨x.toNat,⟨by omega,by rw[Int.toNat_of_nonneg h2];exact h1⟩,by omega⟩
theorem zco{N:Nat}{l:List Int}(hl:Asc l)(h:∀x∈l,0<=x/\x<(N:Int)):norm N l=l :=
 qwe (qni N l) hl fun x=>by rw[qlb];exact⟨fun a=>a.1,fun a=>⟨a,h x a⟩⟩
theorem q7n{N:Nat}{l m:List Int}(h:∀x:Int,0<=x->x<N->(x∈l<->x∈m)):norm N l=norm N m :=
 qwe (qni N l) (qni N m) fun x=>by
  rw[qlb,qlb]
  exact⟨fun a=>⟨(h x a.2.1 a.2.2).1 a.1,a.2⟩,fun a=>⟨(h x a.2.1 a.2.2).2 a.1,a.2⟩⟩
def qau:List Int->List Int
 | []=>[]
 | [x]=>[x]
 | x :: y :: l=>if x=y then qau (y :: l)else x :: qau (y :: l)
theorem qja:∀{l:List Int} {z:Int},z∈qau l<->z∈l
 | [],z=>by simp[qau]
 | [x],z=>by simp[qau]
 | x :: y :: l,z=>by
  rw[qau]
  split
  .rename_i h
   rw[qja (l:=y :: l)]
   subst h
   simp
  .rw[List.mem_cons,qja (l:=y :: l),List.mem_cons (a:=z) (b:=x)]
theorem qlx:∀{l:List Int},l.Pairwise (·<=·)->Asc (qau l)
 | [],_=>by rw[qau];exact List.Pairwise.nil
 | [x],_=>by rw[qau];exact List.pairwise_singleton ..
 | x :: y :: l,h=>by
  have h':=List.pairwise_cons.1 h
  have hy:=List.pairwise_cons.1 h'.2
  rw[qau]
  split
  .exact qlx h'.2
  .rename_i hne
   refine List.pairwise_cons.2 ⟨fun z hz=>?_,qlx h'.2⟩
   rw[qja]at hz
   have h1:=h'.1 y (by simp)
   rcases List.mem_cons.1 hz with e | e
   .omega
   .have:=hy.1 z e;omega
theorem qpk{N:Nat}{l m:List Int}(hs:m.Pairwise (·<=·))(hp:∀x,x∈m<->x∈l)(h:∀x∈l,0<=x/\x<(N:Int)):qau m=norm N l :=
 qwe (qlx hs) (qni _ _) fun x=>by
  rw[qja,hp,qlb]
  exact⟨fun a=>⟨a,h x a⟩,fun a=>a.1⟩
theorem q2b{c:Ct}{F i v:Nat}{L:List Bool}(h:v≠F+i\/(∀x,c.signals[i]?=some x->x.kind≠0)):(qfw c F i L)[v]?=L[v]?:=by
 unfold qfw
 split
 .rename_i x hx
  split
  .rename_i h0
   rcases h with h | h
   .rw[jO (by omega)]
   .exact absurd h0 (h x hx)
  .rfl
 .rfl
theorem qpo{c:Ct}{F v k:Nat}{L:List Bool}(h:∀j,k<=j->v≠F+j\/(∀x,c.signals[j]?=some x->x.kind≠0)):∀d,(qbh c F (k+d) L)[v]?=(qbh c F k L)[v]?
 | 0=>rfl
 | d+1=>by rw[<-Nat.add_assoc,qbh,q2b (h (k+d) (by omega)),qpo h d]
theorem qxo{c:Ct}(h:c.check=0):∀i x,c.signals[i]?=some x->q2y c c.act.toNat (qdi c c.act.toNat (qao c c.act.toNat+i)) i x=0:=by
 have h2:ctE c c.act.toNat=0:=by
  unfold Ct.check at h
  split at h
  .cases h
  .split at h
   .cases h
   .exact h
 unfold ctE at h2
 split at h2
 .split at h2
  .rename_i hs
   intro i x hx
   have hil:i<c.signals.length:=by
    rcases Nat.lt_or_ge i c.signals.length with h | h
    .exact h
    .rw[jX h]at hx;cases hx
   have h3:=qmy hs i (by omega) (by omega)
   unfold qrb at h3
   rw[hx]at h3
   exact h3
  .rename_i h4;exact absurd h2 h4
 .rename_i h4;exact absurd h2 h4
theorem q0t{c:Ct}{s:Ste}(hS:Shp c s):(qag s).length=qaj c c.act.toNat:=by
 have h1:=hS.e
 have h2:=hS.i
 have h3:=hS.v
 rw[qez]
 unfold qaj
 omega
theorem qma{c:Ct}{s:Ste}(h:stE c s=0):stE c (qfc c s)=0:=by
 obtain⟨hc,hS⟩:=qll h
 have hlen:=qrq (c:=c) s
 have hS':Shp c (qfc c s):=⟨hS.e,hS.w,hS.i,by rw[hlen];exact hS.v,hS.t⟩
 unfold stE at h ⊢
 rw[if_pos hc]at h ⊢
 unfold zeg at h ⊢
 rw[if_pos hS]at h
 rw[if_pos hS']
 have e1:(qfc c s).ends=s.ends:=rfl
 have e2:(qfc c s).timers=s.timers:=rfl
 rw[e1,e2]
 by_cases hb:s.ends.any (qes 4)=true\/s.timers.any (qes 3)=true
 .rw[if_pos hb]at h;cases h
 .rw[if_neg hb]at h ⊢
  by_cases ha:zkj (tmF c s) s.timers.length=true
  .rw[if_pos ha]at h;cases h
  .have hno:∀k,k<s.timers.length->tmF c s k=false:=fun k hk=>by
    cases hq:tmF c s k with
    | false=>rfl
    | true=>exact absurd (q1p hk hq) ha
   rw[if_neg]
   rw[qwd fun k hk=>?_]
   .simp
   .have hq:=hno k hk
    unfold tmF at hq ⊢
    rw[e2]
    have hkc:k<c.signals.length:=by have:=hS.t;omega
    rw[jA hkc]at hq ⊢
    simp only[Option.map_some,Option.getD_some]at hq ⊢
    by_cases hk2:c.signals[k].kind=2
    .have hv:(qfc c s).values[k]?=s.values[k]?:=by
      unfold qfc
      simp only
      rw[List.getElem?_drop,quh]
      have:=qpo (c:=c) (F:=qal s) (v:=qal s+k) (k:=0) (L:=qag s) (fun j _=>by
       by_cases hjk:j=k
       .refine .inr fun x hx=>?_
        rw[hjk,jA hkc]at hx
        cases hx
        omega
       .exact .inl (by omega)) c.signals.length
      rw[Nat.zero_add]at this
      rw[this,qbh,<-List.getElem?_drop,qmd]
     rw[hv]
     exact hq
    .unfold tmB at hq ⊢
     simp[hk2]at hq ⊢
     exact hq
theorem zxl{c:Ct}{s:Ste}(hc:c.check=0)(hS:Shp c s)(h1:s.ends.any (qes 4)=false)(h2:s.timers.any (qes 3)=false)(h3:∀k,k<s.timers.length->tmF c s k=false):stE c s=0:=by
 unfold stE zeg
 rw[if_pos hc,if_pos hS,h1,h2,qwd h3]
 simp
theorem zdj{c:Ct}{s:Ste}(h:stE c s=0):s.ends.any (qes 4)=false/\s.timers.any (qes 3)=false/\∀k,k<s.timers.length->tmF c s k=false:=by
 obtain⟨hc,hS⟩:=qll h
 unfold stE zeg at h
 rw[if_pos hc,if_pos hS]at h
 by_cases hb:s.ends.any (qes 4)=true\/s.timers.any (qes 3)=true
 .rw[if_pos hb]at h;cases h
 .rw[if_neg hb]at h
  refine⟨by simpa using fun e=>hb (.inl e),by simpa using fun e=>hb (.inr e),fun k hk=>?_⟩
  cases hq:tmF c s k with
  | false=>rfl
  | true=>rw[if_pos (q1p hk hq)]at h;cases h
end Go.Proofs.YtddeacahiilikaaGreat
