/- A line that is stuck where it is: controls and states. -/
import Derived.Test.YtbepbclaoohngaaGreatZ3
import Derived.Test.YtbepbclaoohngaaGreatZ7
import Derived.KernelRfl
import Derived.Test.YtbepbclaoohngaaGreatEv1
import Derived.Test.YtbepbclaoohngaaGreatTo2
import Derived.Test.YtbepbclaoohngaaGreatCt6
set_option linter.all false
namespace Go.Proofs.YtbepbclaoohngaaGreat
open Go Go.Am Go.Proofs
set_option maxRecDepth 100000
abbrev jaz(s:Ste):H:=[⟨0,.arr 1 (s.ends.map qbo)⟩,⟨0,.arr 1 (s.valves.map qhq)⟩,⟨0,.arr 1 (s.inputs.map qhq)⟩,⟨0,.arr 1 (s.values.map qhq)⟩,⟨0,.arr 1 (s.timers.map qbo)⟩]
abbrev zty(s:Ste):V:=.agg [.sl 0 0 1 0 s.ends.length,.sl 1 0 1 0 s.valves.length,.sl 2 0 1 0 s.inputs.length,.sl 3 0 1 0 s.values.length,.sl 4 0 1 0 s.timers.length]
abbrev o0:Ob:=⟨0,.arr 0 []⟩
abbrev zop(b:Nat):List V:=[.sl b 0 0 0 0,.sl (b+1) 0 0 0 0,.sl (b+2) 0 0 0 0,.sl (b+3) 0 0 0 0,.sl (b+4) 0 0 0 0]
def qfj:List Int->List Bool
 | []=>[]
 | e :: l=>(e==0) :: (e==2) :: qfj l
theorem zhc(l m:List Int):qfj (l++m)=qfj l++qfj m:=by
 induction l with
 | nil=>rfl
 | cons e l ih=>simp[qfj,ih]
theorem qfp(l:List Int):(qfj l).length=2*l.length:=by
 induction l with
 | nil=>rfl
 | cons e l ih=>simp[qfj,ih];omega
theorem qzo{l:List Int}{k:Nat}(hk:k<l.length):qfj (l.take (k+1))=qfj (l.take k)++[l[k]==0,l[k]==2]:=by
 rw[jK hk,zhc];rfl
def qah(s:Ste):List Bool:=qfj s.ends++s.inputs++s.values
theorem qgh(s:Ste):(qah s).length=2*s.ends.length+s.inputs.length+s.values.length:=by
 unfold qah
 rw[jF,jF,qfp]
abbrev h52(s:Ste)(k:Nat)(a:Nat×Nat):H:=[⟨0,.box s.cells⟩,⟨0,.arr 0 []⟩,⟨a.1,.arr a.2 ((qfj (s.ends.take k)).map qhq)⟩]
def T52(s:Ste)(k:Nat)(a:Nat×Nat):Tm:=[none,bN 0,some (.sl 1 0 0 0 0),some (.sl 2 a.1 a.2 0 (2*k)),none,none,none,some (qes s.ends),some (num s.ends.length),nN k]++zN 18
theorem jfq(s:Ste)(hs:s.small){st:St}(a0:Nat×Nat)(g0:a0.2=1\/a0.2=0)(h0:At (T52 s 0 a0) (h52 s 0 a0) st):∃r,ev pg (.code (.going 3 L215_0) st)=some r/\∃a:Nat×Nat,(a.2=1\/a.2=0)/\qbn (.exit 0) (T52 s s.ends.length a) (h52 s s.ends.length a) r:=by
 have hse:=hs.e
 refine qev s.ends.length (T52 s) (h52 s) (fun _ a=>a.2=1\/a.2=0) _ ?_ ?_ a0 g0 h0
 .rintro k ⟨g,m⟩ f hf hk hG
  have hk':(k:Int)<s.ends.length:=by omega
  have wk:=qbs (k:=k) (by omega)
  have hlen:(qfj (s.ends.take k)).length=2*k:=by rw[qfp,List.length_take];omega
  have hb:2*k+2<=140737488355328:=by omega
  have h2:2*(k+1)=2*k+2:=by omega
  unfold T52 h52
  rw[qzo hk,h2]
  generalize qfj (s.ends.take k)=W at *
  have hmm:m=1\/m=0:=hG
  rcases hmm with rfl | rfl<;>simp[L215_0,hk,hk',wk,hb,hlen,hf.ne]
 .rintro⟨g,m⟩ f hf hG
  unfold T52 h52
  generalize qfj (s.ends.take s.ends.length)=W at *
  generalize 2*s.ends.length=N at *
  have hmm:m=1\/m=0:=hG
  rcases hmm with rfl | rfl<;>simp[L215_0,hf.ne]
theorem ev215(s:Ste)(hs:s.small):ev pg (.call (.fn 215 [] []) [s.v] [])=some { v:=.sl 0 0 1 0 (qah s).length,st:=⟨[],[⟨0,.arr 1 ((qah s).map qhq)⟩]⟩ }:=by
 have hl:=@jfq s hs
 obtain⟨h1,h2,h3,h4,h5⟩:=hs
 have hlen:=qgh s
 unfold qah at hlen ⊢
 have he:=qfp s.ends
 have q1:2*s.ends.length+s.inputs.length<=140737488355328:=by omega
 have q2:2*s.ends.length+s.inputs.length+s.values.length<=140737488355328:=by omega
 rw[hlen]
 simp only[List.map_append]
 have hW:((qfj s.ends).map qhq).length=2*s.ends.length:=by rw[List.length_map,he]
 unfold h52 at hl
 rw[List.take_length,List.take_zero,qfj]at hl
 generalize (qfj s.ends).map qhq=W at *
 rw[qab,pg215]
 simp[ir215,qam]
 generalize hr:ev pg (.code (.going _ L215_0) _)=o
 obtain⟨r,rfl,⟨g,m⟩,hm,f,hf,rfl⟩:∃r,o=some r/\_:=by rw[<-hr];exact hl (0,0) (.inr rfl) (by simp[T52])
 clear hr
 have hmm:m=1\/m=0:=hm
 rcases hmm with rfl | rfl<;>simp[qaa,exT,qak,T52,hW,q1,q2,qcm,qeo,qee]<;>simp[Nat.add_assoc]
def qgm(c:Ct)(F i:Nat)(L:List Bool):List Bool:=match c.signals[i]? with
 | some x=>if x.kind=0 then L.set (F+i) (x.on.holds L)else L
 | none=>L
def qbc(c:Ct)(F:Nat):Nat->List Bool->List Bool
 | 0,L=>L
 | k+1,L=>qgm c F k (qbc c F k L)
theorem q5a(c:Ct)(F i:Nat)(L:List Bool):(qgm c F i L).length=L.length:=by
 unfold qgm
 split
 .split
  .rw[jU]
  .rfl
 .rfl
theorem qgc(c:Ct)(F:Nat)(L:List Bool):∀k,(qbc c F k L).length=L.length
 | 0=>rfl
 | k+1=>by rw[qbc,q5a,qgc c F L k]
abbrev qar(s:Ste):Nat:=2*s.ends.length+s.inputs.length
def qwl(c:Ct)(s:Ste):List Bool:=qbc c (qar s) c.signals.length (qah s)
def qfl(c:Ct)(s:Ste):Ste:=⟨s.ends,s.valves,s.inputs,(qwl c s).drop (qar s),s.timers⟩
theorem qlh(s:Ste):(qah s).drop (qar s)=s.values:=by
 unfold qah
 rw[List.drop_left' (by rw[jF,qfp])]
def q7k(c:Ct)(N:Nat):Prop:=∀x∈c.signals,x.on.light=true/\x.on.check N=0
abbrev h50(c:Ct)(s:Ste)(L:List Bool):H:=[⟨0,.box c.cells⟩,⟨0,.box s.cells⟩,o0,o0,o0,o0,o0,⟨0,.box (zop 2)⟩,o0,o0,o0,o0,o0,⟨0,.box [.sl 14 0 1 0 s.ends.length,.sl 15 0 1 0 s.valves.length,.sl 16 0 1 0 s.inputs.length,.sl 17 0 1 0 s.values.length,.sl 18 0 1 0 s.timers.length]⟩,⟨0,.arr 1 (s.ends.map qbo)⟩,⟨0,.arr 1 (s.valves.map qhq)⟩,⟨0,.arr 1 (s.inputs.map qhq)⟩,⟨0,.arr 1 ((L.drop (qar s)).map qhq)⟩,⟨0,.arr 1 (s.timers.map qbo)⟩,⟨0,.arr 1 (L.map qhq)⟩]
def T50(c:Ct)(s:Ste)(k:Nat):Tm:=[none,none,bN 0,bN 1,bN 7,bN 13,some (.sl 19 0 1 0 (qah s).length)]++zN 23++[some (.imm (c.signals.map Sg.row)),some (num c.signals.length),nN k]++zN 28
theorem jfp{c:Ct}{A:Nat}(hM:Mid c A)(s:Ste)(hs:s.small)(hS:Shp c s)(hok:q7k c (qad c A)){st:St}(h0:At (T50 c s 0) (h50 c s (qbc c (qar s) 0 (qah s))) st):∃r,ev pg (.code (.going 20 L146_0) st)=some r/\qbn (.exit 0) (T50 c s c.signals.length) (h50 c s (qwl c s)) r:=by
 refine qnw c.signals.length (T50 c s) (fun k=>h50 c s (qbc c (qar s) k (qah s))) _ ?_ ?_ h0
 .intro k f hf hk
  have hsig:=hM.sig
  have hk':(k:Int)<c.signals.length:=by omega
  have wk:=qbs (k:=k) (by omega)
  have h84:=ev217 hM
  have hlen:=qgh s
  have hgl:=qgc c (qar s) (qah s) k
  have hA:s.ends.length=A:=by have:=hS.e;have:=hM.act;omega
  have hF:qar s=qal c A:=by unfold qal;rw[qar,hA,hS.i]
  have hN:(qah s).length=qad c A:=by rw[hlen,hA,hS.i,hS.v]
  obtain⟨hli,hch⟩:=hok _ (jH hk)
  have hc256:qad c A<=256:=by
   have:=hM.hi;have:=hM.inp;have:=hM.sig
   unfold qad;omega
  have h83:=ev216 c.signals[k].on (qbc c (qar s) k (qah s)) hli (by omega) (by rw[hgl,hN];exact hch)
  have hval:s.values.length=c.signals.length:=hS.v
  have hkF:qal c A+k<qad c A:=by unfold qal qad;omega
  have w2:=qan (n:=(qal c A:Int)+(k:Int)) (by omega) (by omega)
  have hnn:(0:Int)<=(qal c A:Int)+(k:Int):=by omega
  have htn:((qal c A:Int)+(k:Int)).toNat=qal c A+k:=by omega
  have hst:qbc c (qar s) (k+1) (qah s)=if c.signals[k].kind=0 then(qbc c (qar s) k (qah s)).set (qar s+k) (c.signals[k].on.holds (qbc c (qar s) k (qah s)))else qbc c (qar s) k (qah s):=by
   rw[qbc,qgm,jA hk]
  have hdr:(qbc c (qar s) k (qah s)).length-qal c A=s.values.length:=by rw[hgl,hN,hval];unfold qad qal;omega
  unfold h50
  rw[hst]
  by_cases h0:c.signals[k].kind=0
  .rw[if_pos h0,<-List.set_drop,hF]
   rw[hF]at hgl h83 hdr
   generalize hW:qbc c (qal c A) k (qah s)=W at *
   generalize c.signals[k].on.holds W=b at *
   have hb1:k<(W.drop (qal c A)).length:=by rw[List.length_drop];omega
   have hb2:qal c A+k<W.length:=by omega
   have hd1:((W.drop (qal c A)).set k b).map qhq=((W.drop (qal c A)).map qhq).set k [.bool b]:=by rw[List.map_set]
   have hd2:(W.set (qal c A+k) b).map qhq=(W.map qhq).set (qal c A+k) [.bool b]:=by rw[List.map_set]
   rw[hd1,hd2]
   have hb3:k<W.length-qal c A:=by omega
   unfold qfi at h83
   have hk4:k<s.values.length:=by omega
   have hk5:(k:Int)<s.values.length:=by omega
   have hk6:(qal c A:Int)+(k:Int)<(qah s).length:=by omega
   have hk7:qal c A+k<(qah s).length:=by omega
   generalize qal c A=F at *
   simp[qaa,exT,qak,T50,L146_0,hk,hk',wk,h0,h83,h84,w2,hnn,htn,hb2,hb3,hk4,hk7,hgl,hdr,hf.ne]
  .have h0b:(c.signals[k].kind==0)=false:=by simpa using h0
   rw[if_neg h0]
   generalize qbc c (qar s) k (qah s)=W at *
   simp[T50,L146_0,hk,hk',wk,h0b,hf.ne]
 .intro f hf
  unfold h50 qwl
  generalize qbc c (qar s) c.signals.length (qah s)=W at *
  simp[T50,L146_0,hf.ne]
theorem qwk{c:Ct}(s:Ste):(qfl c s).values.length=s.values.length:=by
 unfold qfl
 simp only[List.length_drop]
 rw[qwl,qgc,qgh]
 unfold qar
 omega
theorem ev146{c:Ct}{A:Nat}(hM:Mid c A)(s:Ste)(hs:s.small)(hS:Shp c s)(hok:q7k c (qad c A)):ev pg (.call (.fn 146 [] []) [c.v,s.v] [])=some { v:=(qfl c s).v,st:=⟨[],[]⟩ }:=by
 have hl:=@jfp c A hM s hs hS hok
 have h52:=ev215 s hs
 have hlen:=qwk (c:=c) s
 have hd:=qlh s
 obtain⟨g1,g2,g3,g4,g5⟩:=hs
 have c1:=ev142 s.ends g1
 have c2:=ev151 s.valves g2
 have c3:=ev151 s.inputs g3
 have c4:=ev151 s.values g4
 have c5:=ev142 s.timers g5
 unfold qfl at hlen ⊢
 simp only at hlen
 unfold h50 at hl
 rw[qbc,hd]at hl
 generalize (qwl c s).drop (qar s)=W at *
 rw[qab,pg146]
 simp[qaa,exT,qak,ir146,qam,c1,c2,c3,c4,c5,h52]
 generalize hr:ev pg (.code (.going _ L146_0) _)=o
 obtain⟨r,rfl,f,hf,rfl⟩:∃r,o=some r/\_:=by rw[<-hr];exact hl (by simp[T50])
 clear hr
 simp[T50,hlen]
theorem zdg{c:Ct}(h:c.check=0)(hfew:c.small=true):q7k c (qad c c.act.toNat):=by
 have hR:=qgq h hfew
 intro x hx
 have hl:=(qdd hfew).2.2.2.2.2 x hx
 refine⟨hl.2.1,?_⟩
 have he:=hR.on x hx
 have hm:=hR.mid
 have h1:=hm.hi
 have h2:=hm.inp
 have h3:=hm.sig
 unfold Ex.check
 rw[if_neg (by unfold qad;omega),if_pos hl.2.1]
 exact he
theorem znj{c:Ct}{s:Ste}(h:zni c s=0):Shp c s:=by
 unfold zni at h
 by_cases hS:Shp c s
 .exact hS
 .rw[if_neg hS]at h;cases h
theorem qin{c:Ct}{s:Ste}(h:stE c s=0):c.check=0/\Shp c s:=by
 unfold stE at h
 by_cases hc:c.check=0
 .rw[if_pos hc]at h
  exact⟨hc,znj h⟩
 .rw[if_neg hc]at h;exact absurd h hc
abbrev h28(c:Ct)(s:Ste)(k:Nat)(a:Nat×Nat):H:=[⟨0,.box c.cells⟩,⟨0,.box s.cells⟩,⟨0,.arr 0 []⟩,⟨a.1,.arr a.2 ((qfj (s.ends.take k)).map qhq)⟩]
theorem zor{o i n:Int}{k:Nat}(h:qbr o i k n=0)(ho:o=2):k=1:=by
 subst ho
 unfold qbr at h
 by_cases hk:k=1
 .exact hk
 .rw[if_neg (by omega),if_pos (by omega)]at h
  omega
theorem q2i(c:Ct)(F i:Nat)(L:List Bool):(qgm c F i L).take F=L.take F:=by
 unfold qgm
 split
 .split
  .rw[List.take_set]
   rw[List.set_eq_of_length_le (by rw[List.length_take];omega)]
  .rfl
 .rfl
theorem qty(c:Ct)(F:Nat)(L:List Bool):∀k,(qbc c F k L).take F=L.take F
 | 0=>rfl
 | k+1=>by rw[qbc,q2i,qty c F L k]
def stK(c:Ct)(s:Ste)(k:Nat):Ste:=⟨s.ends,s.valves,s.inputs,(qbc c (qar s) k (qah s)).drop (qar s),s.timers⟩
theorem zpl(c:Ct)(s:Ste):stK c s 0=s:=by
 unfold stK qbc
 rw[qlh]
theorem zkr(c:Ct)(s:Ste):stK c s c.signals.length=qfl c s:=rfl
theorem zks(c:Ct)(s:Ste)(k:Nat):(stK c s k).values.length=s.values.length:=by
 unfold stK
 simp only[List.length_drop]
 rw[qgc,qgh]
 unfold qar
 omega
theorem qmm(c:Ct)(s:Ste)(k:Nat):qah (stK c s k)=qbc c (qar s) k (qah s):=by
 have h1:=qty c (qar s) (qah s) k
 have h2:(qah s).take (qar s)=qfj s.ends++s.inputs:=by
  unfold qah
  rw[List.take_left' (by rw[jF,qfp])]
 rw[h2]at h1
 have e:=List.take_append_drop (qar s) (qbc c (qar s) k (qah s))
 rw[h1]at e
 exact e
theorem zpk(c:Ct)(s:Ste)(k:Nat)(hk:k<c.signals.length):(stK c s (k+1)).values=if c.signals[k].kind=0 then(stK c s k).values.set k (c.signals[k].on.holds (qah (stK c s k)))else(stK c s k).values:=by
 have e:c.signals[k]?=some c.signals[k]:=jA hk
 rw[qmm]
 unfold stK
 simp only[qbc]
 rw[qgm,e]
 simp only
 split
 .rw[List.drop_set,if_neg (by omega),Nat.add_sub_cancel_left]
 .rfl
def Asc(l:List Int):Prop:=l.Pairwise (· < ·)
theorem q1w:∀{l m:List Int},Asc l->Asc m->(∀x,x∈l<->x∈m)->l=m
 | [],[],_,_,_=>rfl
 | [],y :: m,_,_,h=>absurd ((h y).2 (by simp)) (by simp)
 | x :: l,[],_,_,h=>absurd ((h x).1 (by simp)) (by simp)
 | x :: l,y :: m,hl,hm,h=>by
  have hl':=List.pairwise_cons.1 hl
  have hm':=List.pairwise_cons.1 hm
  have hxy:x=y:=by
   rcases List.mem_cons.1 ((h x).1 (by simp))with e | e
   .exact e
   .rcases List.mem_cons.1 ((h y).2 (by simp))with e2 | e2
    .exact e2.symm
    .have h1:=hm'.1 x e
     have h2:=hl'.1 y e2
     omega
  subst hxy
  congr 1
  refine q1w hl'.2 hm'.2 fun z=>⟨fun hz=>?_,fun hz=>?_⟩
  .rcases List.mem_cons.1 ((h z).1 (by simp[hz]))with e | e
   .have:=hl'.1 z hz;omega
   .exact e
  .rcases List.mem_cons.1 ((h z).2 (by simp[hz]))with e | e
   .have:=hm'.1 z hz;omega
   .exact e
def norm(N:Nat)(l:List Int):List Int:=qim (fun k=>l.contains (k:Int)) 0 N
theorem qrd(N:Nat)(l:List Int):Asc (norm N l):=by
 unfold norm qim Asc
 rw[List.pairwise_map]
 refine List.Pairwise.imp ?_ ((List.pairwise_lt_range (n:=N)).filter _)
 intro a b h
 omega
theorem qnx{N:Nat}{l:List Int}{x:Int}:x∈norm N l<->x∈l/\0<=x/\x<N:=by
 unfold norm qim
 simp only[List.mem_map,List.mem_filter,List.mem_range,List.contains_iff_mem]
 constructor
 .rintro⟨k,⟨h1,h2⟩,rfl⟩
  simp only[Int.zero_add]
  exact⟨h2,by omega,by omega⟩
 .rintro⟨h1,h2,h3⟩
  exact⟨x.toNat,⟨by omega,by rw[Int.toNat_of_nonneg h2];exact h1⟩,by omega⟩
theorem zjn{N:Nat}{l:List Int}(hl:Asc l)(h:∀x∈l,0<=x/\x<(N:Int)):norm N l=l :=
 q1w (qrd N l) hl fun x=>by rw[qnx];exact⟨fun a=>a.1,fun a=>⟨a,h x a⟩⟩
theorem zed{N:Nat}{l m:List Int}(h:∀x:Int,0<=x->x<N->(x∈l<->x∈m)):norm N l=norm N m :=
 q1w (qrd N l) (qrd N m) fun x=>by
  rw[qnx,qnx]
  exact⟨fun a=>⟨(h x a.2.1 a.2.2).1 a.1,a.2⟩,fun a=>⟨(h x a.2.1 a.2.2).2 a.1,a.2⟩⟩
def qaz:List Int->List Int
 | []=>[]
 | [x]=>[x]
 | x :: y :: l=>if x=y then qaz (y :: l)else x :: qaz (y :: l)
theorem qlj:∀{l:List Int} {z:Int},z∈qaz l<->z∈l
 | [],z=>by simp[qaz]
 | [x],z=>by simp[qaz]
 | x :: y :: l,z=>by
  rw[qaz]
  split
  .rename_i h
   rw[qlj (l:=y :: l)]
   subst h
   simp
  .rw[List.mem_cons,qlj (l:=y :: l),List.mem_cons (a:=z) (b:=x)]
theorem qpd:∀{l:List Int},l.Pairwise (·<=·)->Asc (qaz l)
 | [],_=>by rw[qaz];exact List.Pairwise.nil
 | [x],_=>by rw[qaz];exact List.pairwise_singleton ..
 | x :: y :: l,h=>by
  have h':=List.pairwise_cons.1 h
  have hy:=List.pairwise_cons.1 h'.2
  rw[qaz]
  split
  .exact qpd h'.2
  .rename_i hne
   refine List.pairwise_cons.2 ⟨fun z hz=>?_,qpd h'.2⟩
   rw[qlj]at hz
   have h1:=h'.1 y (by simp)
   rcases List.mem_cons.1 hz with e | e
   .omega
   .have:=hy.1 z e;omega
theorem qtr{N:Nat}{l m:List Int}(hs:m.Pairwise (·<=·))(hp:∀x,x∈m<->x∈l)(h:∀x∈l,0<=x/\x<(N:Int)):qaz m=norm N l :=
 q1w (qpd hs) (qrd _ _) fun x=>by
  rw[qlj,hp,qnx]
  exact⟨fun a=>⟨a,h x a⟩,fun a=>a.1⟩
theorem zot{x y:Ex}{v:Int}(ho:x.op≠1)(hy:y∈x.args)(h:y.occ v=true):x.occ v=true:=by
 rw[qxh,if_neg ho]
 have:∀l:List Ex,y∈l->q0j v l=true:=by
  intro l
  induction l with
  | nil=>intro h;cases h
  | cons z l ih =>
   intro hm
   rw[q0j]
   rcases List.mem_cons.1 hm with rfl | hm
   .rw[h];rfl
   .rw[ih hm,Bool.or_true]
 exact this _ hy
theorem q8h{N:Int}{M M':List Bool}:∀x:Ex,x.err N=0->(∀v:Nat,x.occ v=true->M[v]?=M'[v]?)->x.holds M=x.holds M':=by
 refine Ex.ind fun x ih he h=>?_
 obtain⟨hn,hargs⟩:=qil he
 rw[qqs,qqs]
 by_cases h1:x.op=1
 .obtain⟨hi0,_⟩:=qlk hn h1
  have:=h x.idx.toNat (by rw[qxh,if_pos h1,Int.toNat_of_nonneg hi0];simp)
  rw[h1,this]
  simp
 .have hm:x.args.map (Ex.holds M)=x.args.map (Ex.holds M'):=List.map_congr_left fun y hy=>ih y hy (hargs y hy) fun v hv=>h v (zot h1 hy hv)
  rw[if_neg h1,if_neg h1,hm]
theorem q8e{c:Ct}{F i v:Nat}{L:List Bool}(h:v≠F+i\/(∀x,c.signals[i]?=some x->x.kind≠0)):(qgm c F i L)[v]?=L[v]?:=by
 unfold qgm
 split
 .rename_i x hx
  split
  .rename_i h0
   rcases h with h | h
   .rw[jO (by omega)]
   .exact absurd h0 (h x hx)
  .rfl
 .rfl
theorem qjw{c:Ct}{F v k:Nat}{L:List Bool}(h:∀j,k<=j->v≠F+j\/(∀x,c.signals[j]?=some x->x.kind≠0)):∀d,(qbc c F (k+d) L)[v]?=(qbc c F k L)[v]?
 | 0=>rfl
 | d+1=>by rw[<-Nat.add_assoc,qbc,q8e (h (k+d) (by omega)),qjw h d]
def zfl(c:Ct)(F N:Nat):Prop:=∀(i:Nat) (x:Sg),c.signals[i]?=some x->x.on.err N=0/\(x.kind=0->∀(j:Nat) (y:Sg),i<=j->c.signals[j]?=some y->y.kind=0->x.on.occ (F+j:Nat)=false)
theorem zhw{c:Ct}{F N:Nat}(hg:zfl c F N){L:List Bool}{i:Nat}{x:Sg}(hi:c.signals[i]?=some x)(h0:x.kind=0)(hF:F+i<L.length):(qbc c F c.signals.length L)[F+i]?=some (x.on.holds (qbc c F c.signals.length L)):=by
 have hil:i<c.signals.length:=by
  rcases Nat.lt_or_ge i c.signals.length with h | h
  .exact h
  .rw[jY h]at hi;cases hi
 obtain⟨d,hd⟩:∃d,c.signals.length=(i+1)+d:=⟨c.signals.length-(i+1),by omega⟩
 have h1:(qbc c F c.signals.length L)[F+i]?=(qbc c F (i+1) L)[F+i]?:=by
  rw[hd]
  exact qjw (fun j hj=>.inl (by omega)) d
 have h2:(qbc c F (i+1) L)[F+i]?=some (x.on.holds (qbc c F i L)):=by
  rw[qbc,qgm,hi]
  simp only[h0,if_true]
  rw[jN (by rw[qgc];exact hF)]
 have h3:x.on.holds (qbc c F i L)=x.on.holds (qbc c F c.signals.length L):=by
  refine(q8h x.on (hg i x hi).1 fun v hv=>?_).symm
  have:c.signals.length=i+(d+1):=by omega
  rw[this]
  refine qjw (fun j hj=>?_) (d+1)
  by_cases hvj:v=F+j
  .refine .inr fun y hy hk=>?_
   have:=(hg i x hi).2 h0 j y hj hy hk
   rw[<-hvj,hv]at this
   cases this
  .exact .inl hvj
 rw[h1,h2,h3]
theorem q3k{c:Ct}(h:c.check=0):∀i x,c.signals[i]?=some x->q8z c c.act.toNat (qax c c.act.toNat (qal c c.act.toNat+i)) i x=0:=by
 have h2:ctE c c.act.toNat=0:=by
  unfold Ct.check at h
  split at h
  .cases h
  .split at h
   .cases h
   .exact h
 unfold ctE at h2
 split at h2
 .split at h2
  .rename_i hs
   intro i x hx
   have hil:i<c.signals.length:=by
    rcases Nat.lt_or_ge i c.signals.length with h | h
    .exact h
    .rw[jY h]at hx;cases hx
   have h3:=qqq hs i (by omega) (by omega)
   unfold qvl at h3
   rw[hx]at h3
   exact h3
  .rename_i h4;exact absurd h2 h4
 .rename_i h4;exact absurd h2 h4
theorem zdf{c:Ct}(h:c.check=0)(hfew:c.small=true):zfl c (qal c c.act.toNat) (qad c c.act.toNat):=by
 have hR:=qgq h hfew
 intro i x hx
 have hmem:x∈c.signals:=jR hx
 refine⟨hR.on x hmem,fun h0 j y hij hy hk=>?_⟩
 have hs:=q3k h i x hx
 cases hocc:x.on.occ (qal c c.act.toNat+j:Nat)with
 | false=>rfl
 | true =>
  exfalso
  have hl:qgx x.on (qal c c.act.toNat) i (c.signals.drop i)=true:=by
   rw[qss]
   refine⟨j-i,y,?_,hk,?_⟩
   .rw[List.getElem?_drop,show i+(j-i)=j by omega];exact hy
   .rw[show i+(j-i)=j by omega];exact hocc
  unfold q8z at hs
  split at hs
  .split at hs
   .cases hs
   .split at hs
    .split at hs
     .rename_i h4;exact h4.2 hs
     .rw[if_pos ⟨h0,hl⟩]at hs
      cases hs
    .rename_i h4;exact h4 hs
  .rename_i h4;exact h4 hs
theorem q6v{c:Ct}{s:Ste}(hS:Shp c s):qar s=qal c c.act.toNat:=by
 have h1:=hS.e
 have h2:=hS.i
 unfold qar qal
 omega
theorem qyj{c:Ct}{s:Ste}(hS:Shp c s):(qah s).length=qad c c.act.toNat:=by
 have h1:=hS.e
 have h2:=hS.i
 have h3:=hS.v
 rw[qgh]
 unfold qad
 omega
theorem qlc{c:Ct}{s:Ste}(h:stE c s=0):stE c (qfl c s)=0:=by
 obtain⟨hc,hS⟩:=qin h
 have hlen:=qwk (c:=c) s
 have hS':Shp c (qfl c s):=⟨hS.e,hS.w,hS.i,by rw[hlen];exact hS.v,hS.t⟩
 unfold stE at h ⊢
 rw[if_pos hc]at h ⊢
 unfold zni at h ⊢
 rw[if_pos hS]at h
 rw[if_pos hS']
 have e1:(qfl c s).ends=s.ends:=rfl
 have e2:(qfl c s).timers=s.timers:=rfl
 rw[e1,e2]
 by_cases hb:s.ends.any (qhn 4)=true\/s.timers.any (qhn 3)=true
 .rw[if_pos hb]at h;cases h
 .rw[if_neg hb]at h ⊢
  by_cases ha:ztb (tmF c s) s.timers.length=true
  .rw[if_pos ha]at h;cases h
  .have hno:∀k,k<s.timers.length->tmF c s k=false:=fun k hk=>by
    cases hq:tmF c s k with
    | false=>rfl
    | true=>exact absurd (q7p hk hq) ha
   rw[if_neg]
   rw[q1u fun k hk=>?_]
   .simp
   .have hq:=hno k hk
    unfold tmF at hq ⊢
    rw[e2]
    have hkc:k<c.signals.length:=by have:=hS.t;omega
    rw[jA hkc]at hq ⊢
    simp only[Option.map_some,Option.getD_some]at hq ⊢
    by_cases hk2:c.signals[k].kind=2
    .have hv:(qfl c s).values[k]?=s.values[k]?:=by
      unfold qfl
      simp only
      rw[List.getElem?_drop,qwl]
      have:=qjw (c:=c) (F:=qar s) (v:=qar s+k) (k:=0) (L:=qah s) (fun j _=>by
       by_cases hjk:j=k
       .refine .inr fun x hx=>?_
        rw[hjk,jA hkc]at hx
        cases hx
        omega
       .exact .inl (by omega)) c.signals.length
      rw[Nat.zero_add]at this
      rw[this,qbc,<-List.getElem?_drop,qlh]
     rw[hv]
     exact hq
    .unfold tmB at hq ⊢
     simp[hk2]at hq ⊢
     exact hq
theorem z3k{c:Ct}{s:Ste}(hc:c.check=0)(hS:Shp c s)(h1:s.ends.any (qhn 4)=false)(h2:s.timers.any (qhn 3)=false)(h3:∀k,k<s.timers.length->tmF c s k=false):stE c s=0:=by
 unfold stE zni
 rw[if_pos hc,if_pos hS,h1,h2,q1u h3]
 simp
theorem zkq{c:Ct}{s:Ste}(h:stE c s=0):s.ends.any (qhn 4)=false/\s.timers.any (qhn 3)=false/\∀k,k<s.timers.length->tmF c s k=false:=by
 obtain⟨hc,hS⟩:=qin h
 unfold stE zni at h
 rw[if_pos hc,if_pos hS]at h
 by_cases hb:s.ends.any (qhn 4)=true\/s.timers.any (qhn 3)=true
 .rw[if_pos hb]at h;cases h
 .rw[if_neg hb]at h
  refine⟨by simpa using fun e=>hb (.inl e),by simpa using fun e=>hb (.inr e),fun k hk=>?_⟩
  cases hq:tmF c s k with
  | false=>rfl
  | true=>rw[if_pos (q7p hk hq)]at h;cases h
end Go.Proofs.YtbepbclaoohngaaGreat
