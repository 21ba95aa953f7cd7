/- The values of all lines, by the program. -/
import Derived.Test.YtbepbclaoohngaaGreatVZ3
import Derived.Test.YtbepbclaoohngaaGreatVZ7
import Derived.KernelRfl
import Derived.Test.YtbepbclaoohngaaGreatVEv1
import Derived.Test.YtbepbclaoohngaaGreatVFy1
set_option linter.all false
namespace Go.Proofs.YtbepbclaoohngaaGreat
open Go Go.Am Go.Proofs
set_option maxRecDepth 100000
abbrev z3x(s:Ste):H:=[⟨0,.arr 1 (s.ends.map qbj)⟩,⟨0,.arr 1 (s.valves.map qfa)⟩,⟨0,.arr 1 (s.inputs.map qfa)⟩,⟨0,.arr 1 (s.values.map qfa)⟩,⟨0,.arr 1 (s.timers.map qbj)⟩]
abbrev zlx(s:Ste):V:=.agg [.sl 0 0 1 0 s.ends.length,.sl 1 0 1 0 s.valves.length,.sl 2 0 1 0 s.inputs.length,.sl 3 0 1 0 s.values.length,.sl 4 0 1 0 s.timers.length]
theorem ev192(s:Ste)(hs:s.small):ev pg (.call (.fn 192 [] []) [s.v] [])=some { v:=zlx s,st:=⟨[],z3x s⟩ }:=by
 obtain⟨h1,h2,h3,h4,h5⟩:=hs
 have g1:s.ends.length*8<=140737488355328:=by omega
 have g2:s.valves.length<=140737488355328:=by omega
 have g3:s.inputs.length<=140737488355328:=by omega
 have g4:s.values.length<=140737488355328:=by omega
 have g5:s.timers.length*8<=140737488355328:=by omega
 rw[qaa,pg192]
 simp[qab,exT,qal,ir192,g1,g2,g3,g4,g5,qcn,qex,qpe,qei]
abbrev o0:Ob:=⟨0,.arr 0 []⟩
abbrev q2u(b:Nat):List V:=[.sl b 0 0 0 0,.sl (b+1) 0 0 0 0,.sl (b+2) 0 0 0 0,.sl (b+3) 0 0 0 0,.sl (b+4) 0 0 0 0]
def qem:List Int->List Bool
 | []=>[]
 | e :: l=>(e==0) :: (e==2) :: qem l
theorem zfv(l m:List Int):qem (l++m)=qem l++qem m:=by
 induction l with
 | nil=>rfl
 | cons e l ih=>simp[qem,ih]
theorem qes(l:List Int):(qem l).length=2*l.length:=by
 induction l with
 | nil=>rfl
 | cons e l ih=>simp[qem,ih];omega
theorem qru{l:List Int}{k:Nat}(hk:k<l.length):qem (l.take (k+1))=qem (l.take k)++[l[k]==0,l[k]==2]:=by
 rw[jK hk,zfv];rfl
def qae(s:Ste):List Bool:=qem s.ends++s.inputs++s.values
theorem qdn(s:Ste):(qae s).length=2*s.ends.length+s.inputs.length+s.values.length:=by
 unfold qae
 rw[jF,jF,qes]
abbrev h52(s:Ste)(k:Nat)(a:Nat×Nat):H:=[⟨0,.box s.cells⟩,⟨0,.arr 0 []⟩,⟨a.1,.arr a.2 ((qem (s.ends.take k)).map qfa)⟩]
def T52(s:Ste)(k:Nat)(a:Nat×Nat):Tm:=[none,bN 0,some (.sl 1 0 0 0 0),some (.sl 2 a.1 a.2 0 (2*k)),none,none,none,some (qeg s.ends),some (num s.ends.length),nN k]++zN 18
theorem jgb(s:Ste)(hs:s.small){st:St}(a0:Nat×Nat)(g0:a0.2=1\/a0.2=0)(h0:At (T52 s 0 a0) (h52 s 0 a0) st):∃r,ev pg (.code (.going 3 L215_0) st)=some r/\∃a:Nat×Nat,(a.2=1\/a.2=0)/\qaq (.exit 0) (T52 s s.ends.length a) (h52 s s.ends.length a) r:=by
 have hse:=hs.e
 refine qdb s.ends.length (T52 s) (h52 s) (fun _ a=>a.2=1\/a.2=0) _ ?_ ?_ a0 g0 h0
 .rintro k ⟨g,m⟩ f hf hk hG
  have hk':(k:Int)<s.ends.length:=by omega
  have wk:=qbb (k:=k) (by omega)
  have hlen:(qem (s.ends.take k)).length=2*k:=by rw[qes,List.length_take];omega
  have hb:2*k+2<=140737488355328:=by omega
  have h2:2*(k+1)=2*k+2:=by omega
  unfold T52 h52
  rw[qru hk,h2]
  generalize qem (s.ends.take k)=W at *
  have hmm:m=1\/m=0:=hG
  rcases hmm with rfl | rfl<;>simp[L215_0,hk,hk',wk,hb,hlen,hf.ne]
 .rintro⟨g,m⟩ f hf hG
  unfold T52 h52
  generalize qem (s.ends.take s.ends.length)=W at *
  generalize 2*s.ends.length=N at *
  have hmm:m=1\/m=0:=hG
  rcases hmm with rfl | rfl<;>simp[L215_0,hf.ne]
theorem ev215(s:Ste)(hs:s.small):ev pg (.call (.fn 215 [] []) [s.v] [])=some { v:=.sl 0 0 1 0 (qae s).length,st:=⟨[],[⟨0,.arr 1 ((qae s).map qfa)⟩]⟩ }:=by
 have hl:=@jgb s hs
 obtain⟨h1,h2,h3,h4,h5⟩:=hs
 have hlen:=qdn s
 unfold qae at hlen ⊢
 have he:=qes s.ends
 have q1:2*s.ends.length+s.inputs.length<=140737488355328:=by omega
 have q2:2*s.ends.length+s.inputs.length+s.values.length<=140737488355328:=by omega
 rw[hlen]
 simp only[List.map_append]
 have hW:((qem s.ends).map qfa).length=2*s.ends.length:=by rw[List.length_map,he]
 unfold h52 at hl
 rw[List.take_length,List.take_zero,qem]at hl
 generalize (qem s.ends).map qfa=W at *
 rw[qaa,pg215]
 simp[ir215,qah]
 generalize hr:ev pg (.code (.going _ L215_0) _)=o
 obtain⟨r,rfl,⟨g,m⟩,hm,f,hf,rfl⟩:∃r,o=some r/\_:=by rw[<-hr];exact hl (0,0) (.inr rfl) (by simp[T52])
 clear hr
 have hmm:m=1\/m=0:=hm
 rcases hmm with rfl | rfl<;>simp[qab,exT,qal,T52,hW,q1,q2,qcn,qex,qei]<;>simp[Nat.add_assoc]
def qgg(c:Ct)(F i:Nat)(L:List Bool):List Bool:=match c.signals[i]? with
 | some x=>if x.kind=0 then L.set (F+i) (x.on.holds L)else L
 | none=>L
def qbc(c:Ct)(F:Nat):Nat->List Bool->List Bool
 | 0,L=>L
 | k+1,L=>qgg c F k (qbc c F k L)
theorem q3y(c:Ct)(F i:Nat)(L:List Bool):(qgg c F i L).length=L.length:=by
 unfold qgg
 split
 .split
  .rw[jU]
  .rfl
 .rfl
theorem qfd(c:Ct)(F:Nat)(L:List Bool):∀k,(qbc c F k L).length=L.length
 | 0=>rfl
 | k+1=>by rw[qbc,q3y,qfd c F L k]
abbrev qao(s:Ste):Nat:=2*s.ends.length+s.inputs.length
def qvu(c:Ct)(s:Ste):List Bool:=qbc c (qao s) c.signals.length (qae s)
def qdq(c:Ct)(s:Ste):Ste:=⟨s.ends,s.valves,s.inputs,(qvu c s).drop (qao s),s.timers⟩
theorem qlb(s:Ste):(qae s).drop (qao s)=s.values:=by
 unfold qae
 rw[List.drop_left' (by rw[jF,qes])]
def q6e(c:Ct)(N:Nat):Prop:=∀x∈c.signals,x.on.light=true/\x.on.check N=0
abbrev h50(c:Ct)(s:Ste)(L:List Bool):H:=[⟨0,.box c.cells⟩,⟨0,.box s.cells⟩,o0,o0,o0,o0,o0,⟨0,.box (q2u 2)⟩,o0,o0,o0,o0,o0,⟨0,.box [.sl 14 0 1 0 s.ends.length,.sl 15 0 1 0 s.valves.length,.sl 16 0 1 0 s.inputs.length,.sl 17 0 1 0 s.values.length,.sl 18 0 1 0 s.timers.length]⟩,⟨0,.arr 1 (s.ends.map qbj)⟩,⟨0,.arr 1 (s.valves.map qfa)⟩,⟨0,.arr 1 (s.inputs.map qfa)⟩,⟨0,.arr 1 ((L.drop (qao s)).map qfa)⟩,⟨0,.arr 1 (s.timers.map qbj)⟩,⟨0,.arr 1 (L.map qfa)⟩]
def T50(c:Ct)(s:Ste)(k:Nat):Tm:=[none,none,bN 0,bN 1,bN 7,bN 13,some (.sl 19 0 1 0 (qae s).length)]++zN 23++[some (.imm (c.signals.map Sg.row)),some (num c.signals.length),nN k]++zN 28
theorem jga{c:Ct}{A:Nat}(hM:Mid c A)(s:Ste)(hs:s.small)(hS:Shp c s)(hok:q6e c (qac c A)){st:St}(h0:At (T50 c s 0) (h50 c s (qbc c (qao s) 0 (qae s))) st):∃r,ev pg (.code (.going 20 L146_0) st)=some r/\qaq (.exit 0) (T50 c s c.signals.length) (h50 c s (qvu c s)) r:=by
 refine qhj c.signals.length (T50 c s) (fun k=>h50 c s (qbc c (qao s) k (qae s))) _ ?_ ?_ h0
 .intro k f hf hk
  have hsig:=hM.sig
  have hk':(k:Int)<c.signals.length:=by omega
  have wk:=qbb (k:=k) (by omega)
  have h84:=ev217 hM
  have hlen:=qdn s
  have hgl:=qfd c (qao s) (qae s) k
  have hA:s.ends.length=A:=by have:=hS.e;have:=hM.act;omega
  have hF:qao s=qam c A:=by unfold qam;rw[qao,hA,hS.i]
  have hN:(qae s).length=qac c A:=by rw[hlen,hA,hS.i,hS.v]
  obtain⟨hli,hch⟩:=hok _ (jH hk)
  have hc256:qac c A<=256:=by
   have:=hM.hi;have:=hM.inp;have:=hM.sig
   unfold qac;omega
  have h83:=ev216 c.signals[k].on (qbc c (qao s) k (qae s)) hli (by omega) (by rw[hgl,hN];exact hch)
  have hval:s.values.length=c.signals.length:=hS.v
  have hkF:qam c A+k<qac c A:=by unfold qam qac;omega
  have w2:=qan (n:=(qam c A:Int)+(k:Int)) (by omega) (by omega)
  have hnn:(0:Int)<=(qam c A:Int)+(k:Int):=by omega
  have htn:((qam c A:Int)+(k:Int)).toNat=qam c A+k:=by omega
  have hst:qbc c (qao s) (k+1) (qae s)=if c.signals[k].kind=0 then(qbc c (qao s) k (qae s)).set (qao s+k) (c.signals[k].on.holds (qbc c (qao s) k (qae s)))else qbc c (qao s) k (qae s):=by
   rw[qbc,qgg,jA hk]
  have hdr:(qbc c (qao s) k (qae s)).length-qam c A=s.values.length:=by rw[hgl,hN,hval];unfold qac qam;omega
  unfold h50
  rw[hst]
  by_cases h0:c.signals[k].kind=0
  .rw[if_pos h0,<-List.set_drop,hF]
   rw[hF]at hgl h83 hdr
   generalize hW:qbc c (qam c A) k (qae s)=W at *
   generalize c.signals[k].on.holds W=b at *
   have hb1:k<(W.drop (qam c A)).length:=by rw[List.length_drop];omega
   have hb2:qam c A+k<W.length:=by omega
   have hd1:((W.drop (qam c A)).set k b).map qfa=((W.drop (qam c A)).map qfa).set k [.bool b]:=by rw[List.map_set]
   have hd2:(W.set (qam c A+k) b).map qfa=(W.map qfa).set (qam c A+k) [.bool b]:=by rw[List.map_set]
   rw[hd1,hd2]
   have hb3:k<W.length-qam c A:=by omega
   unfold qdw at h83
   have hk4:k<s.values.length:=by omega
   have hk5:(k:Int)<s.values.length:=by omega
   have hk6:(qam c A:Int)+(k:Int)<(qae s).length:=by omega
   have hk7:qam c A+k<(qae s).length:=by omega
   generalize qam c A=F at *
   simp[qab,exT,qal,T50,L146_0,hk,hk',wk,h0,h83,h84,w2,hnn,htn,hb2,hb3,hk4,hk7,hgl,hdr,hf.ne]
  .have h0b:(c.signals[k].kind==0)=false:=by simpa using h0
   rw[if_neg h0]
   generalize qbc c (qao s) k (qae s)=W at *
   simp[T50,L146_0,hk,hk',wk,h0b,hf.ne]
 .intro f hf
  unfold h50 qvu
  generalize qbc c (qao s) c.signals.length (qae s)=W at *
  simp[T50,L146_0,hf.ne]
theorem qkf{c:Ct}(s:Ste):(qdq c s).values.length=s.values.length:=by
 unfold qdq
 simp only[List.length_drop]
 rw[qvu,qfd,qdn]
 unfold qao
 omega
theorem ev146{c:Ct}{A:Nat}(hM:Mid c A)(s:Ste)(hs:s.small)(hS:Shp c s)(hok:q6e c (qac c A)):ev pg (.call (.fn 146 [] []) [c.v,s.v] [])=some { v:=(qdq c s).v,st:=⟨[],[]⟩ }:=by
 have hl:=@jga c A hM s hs hS hok
 have h52:=ev215 s hs
 have hlen:=qkf (c:=c) s
 have hd:=qlb s
 obtain⟨g1,g2,g3,g4,g5⟩:=hs
 have c1:=ev142 s.ends g1
 have c2:=ev151 s.valves g2
 have c3:=ev151 s.inputs g3
 have c4:=ev151 s.values g4
 have c5:=ev142 s.timers g5
 unfold qdq at hlen ⊢
 simp only at hlen
 unfold h50 at hl
 rw[qbc,hd]at hl
 generalize (qvu c s).drop (qao s)=W at *
 rw[qaa,pg146]
 simp[qab,exT,qal,ir146,qah,c1,c2,c3,c4,c5,h52]
 generalize hr:ev pg (.code (.going _ L146_0) _)=o
 obtain⟨r,rfl,f,hf,rfl⟩:∃r,o=some r/\_:=by rw[<-hr];exact hl (by simp[T50])
 clear hr
 simp[T50,hlen]
theorem zcd{c:Ct}(h:c.check=0)(hfew:c.small=true):q6e c (qac c c.act.toNat):=by
 have hR:=qix h hfew
 intro x hx
 have hl:=(qdp hfew).2.2.2.2.2 x hx
 refine⟨hl.2.1,?_⟩
 have he:=hR.on x hx
 have hm:=hR.mid
 have h1:=hm.hi
 have h2:=hm.inp
 have h3:=hm.sig
 unfold Ex.check
 rw[if_neg (by unfold qac;omega),if_pos hl.2.1]
 exact he
theorem zlw{c:Ct}{s:Ste}(h:zbz c s=0):Shp c s:=by
 unfold zbz at h
 by_cases hS:Shp c s
 .exact hS
 .rw[if_neg hS]at h;cases h
theorem qii{c:Ct}{s:Ste}(h:stE c s=0):c.check=0/\Shp c s:=by
 unfold stE at h
 by_cases hc:c.check=0
 .rw[if_pos hc]at h
  exact⟨hc,zlw h⟩
 .rw[if_neg hc]at h;exact absurd h hc
end Go.Proofs.YtbepbclaoohngaaGreat
