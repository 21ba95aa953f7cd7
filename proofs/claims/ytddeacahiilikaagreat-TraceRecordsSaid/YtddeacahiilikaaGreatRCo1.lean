/- The values of all lines, by the program. The values of all lines, by the reference. The value of an expression, by the reference. Gates are computed, by the reference. -/
import Derived.Test.YtddeacahiilikaaGreatREv1
import Derived.Test.YtddeacahiilikaaGreatRSa3
import Derived.Test.YtddeacahiilikaaGreatRCa1
import Derived.Test.YtddeacahiilikaaGreatRTo2
import Derived.KernelRfl
import Derived.Test.YtddeacahiilikaaGreatRCt6
set_option linter.all false
namespace Go.Proofs.YtddeacahiilikaaGreat
open Go Go.Am Go.Proofs
set_option maxRecDepth 100000
def qdp:List Int->List Bool
 | []=>[]
 | e :: l=>(e==0) :: (e==2) :: qdp l
theorem q7s(l m:List Int):qdp (l++m)=qdp l++qdp m:=by
 induction l with
 | nil=>rfl
 | cons e l ih=>simp[qdp,ih]
theorem qdu(l:List Int):(qdp l).length=2*l.length:=by
 induction l with
 | nil=>rfl
 | cons e l ih=>simp[qdp,ih];omega
theorem qol{l:List Int}{k:Nat}(hk:k<l.length):qdp (l.take (k+1))=qdp (l.take k)++[l[k]==0,l[k]==2]:=by
 rw[jK hk,q7s];rfl
def qad(s:Ste):List Bool:=qdp s.ends++s.inputs++s.values
theorem qcp(s:Ste):(qad s).length=2*s.ends.length+s.inputs.length+s.values.length:=by
 unfold qad
 rw[jF,jF,qdu]
abbrev h52(s:Ste)(k:Nat)(a:Nat×Nat):H:=[⟨0,.box s.cells⟩,⟨0,.arr 0 []⟩,⟨a.1,.arr a.2 ((qdp (s.ends.take k)).map qen)⟩]
def T52(s:Ste)(k:Nat)(a:Nat×Nat):Tm:=[none,some (.bptr 0 0),some (.sl 1 0 0 0 0),some (.sl 2 a.1 a.2 0 (2*k)),none,none,none,some (qel s.ends),some (num s.ends.length),some (num k)]++List.replicate 18 none
theorem z3q(s:Ste)(hs:s.small){st:St}(a0:Nat×Nat)(g0:a0.2=1\/a0.2=0)(h0:At (T52 s 0 a0) (h52 s 0 a0) st):∃r,ev pg (.code (.going 3 L191_0) st)=some r/\∃a:Nat×Nat,(a.2=1\/a.2=0)/\qaj (.exit 0) (T52 s s.ends.length a) (h52 s s.ends.length a) r:=by
 have hse:=hs.e
 refine qci s.ends.length (T52 s) (h52 s) (fun _ a=>a.2=1\/a.2=0) _ ?_ ?_ a0 g0 h0
 .rintro k ⟨g,m⟩ f hf hk hG
  have hk':(k:Int)<s.ends.length:=by omega
  have wk:=qab (n:=(k:Int)+1) (by omega) (by omega)
  have hlen:(qdp (s.ends.take k)).length=2*k:=by rw[qdu,List.length_take];omega
  have hb:2*k+2<=140737488355328:=by omega
  have h2:2*(k+1)=2*k+2:=by omega
  unfold T52 h52
  rw[qol hk,h2]
  generalize qdp (s.ends.take k)=W at *
  have hmm:m=1\/m=0:=hG
  rcases hmm with rfl | rfl<;>simp[L191_0,hk,hk',wk,hb,hlen,hf.ne]
 .rintro⟨g,m⟩ f hf hG
  unfold T52 h52
  generalize qdp (s.ends.take s.ends.length)=W at *
  generalize 2*s.ends.length=N at *
  have hmm:m=1\/m=0:=hG
  rcases hmm with rfl | rfl<;>simp[L191_0,hf.ne]
theorem ev191(s:Ste)(hs:s.small):ev pg (.call (.fn 191 [] []) [s.v] [])=some { v:=.sl 0 0 1 0 (qad s).length,st:=⟨[],[⟨0,.arr 1 ((qad s).map qen)⟩]⟩ }:=by
 have hl:=@z3q s hs
 obtain⟨h1,h2,h3,h4,h5⟩:=hs
 have hlen:=qcp s
 unfold qad at hlen ⊢
 have he:=qdu s.ends
 have q1:2*s.ends.length+s.inputs.length<=140737488355328:=by omega
 have q2:2*s.ends.length+s.inputs.length+s.values.length<=140737488355328:=by omega
 rw[hlen]
 simp only[List.map_append]
 have hW:((qdp s.ends).map qen).length=2*s.ends.length:=by rw[List.length_map,he]
 unfold h52 at hl
 rw[List.take_length,List.take_zero,qdp]at hl
 generalize (qdp s.ends).map qen=W at *
 rw[qac,pg191]
 simp[ir191,qaf]
 generalize hr:ev pg (.code (.going _ L191_0) _)=o
 obtain⟨r,rfl,⟨g,m⟩,hm,f,hf,rfl⟩:∃r,o=some r/\_:=by rw[<-hr];exact hl (0,0) (.inr rfl) (by simp[T52])
 clear hr
 have hmm:m=1\/m=0:=hm
 rcases hmm with rfl | rfl<;>simp[qaa,exT,qae,T52,hW,q1,q2,qbv,qdq,qdl]<;>simp[Nat.add_assoc]
def qfs(c:Ct)(F i:Nat)(L:List Bool):List Bool:=match c.signals[i]? with
 | some x=>if x.kind=0 then L.set (F+i) (x.on.holds L)else L
 | none=>L
def qbe(c:Ct)(F:Nat):Nat->List Bool->List Bool
 | 0,L=>L
 | k+1,L=>qfs c F k (qbe c F k L)
theorem qxz(c:Ct)(F i:Nat)(L:List Bool):(qfs c F i L).length=L.length:=by
 unfold qfs
 split
 .split
  .rw[jU]
  .rfl
 .rfl
theorem qeu(c:Ct)(F:Nat)(L:List Bool):∀k,(qbe c F k L).length=L.length
 | 0=>rfl
 | k+1=>by rw[qbe,qxz,qeu c F L k]
abbrev qam(s:Ste):Nat:=2*s.ends.length+s.inputs.length
def qtq(c:Ct)(s:Ste):List Bool:=qbe c (qam s) c.signals.length (qad s)
def qdc(c:Ct)(s:Ste):Ste:=⟨s.ends,s.valves,s.inputs,(qtq c s).drop (qam s),s.timers⟩
theorem qmf(s:Ste):(qad s).drop (qam s)=s.values:=by
 unfold qad
 rw[List.drop_left' (by rw[jF,qdu])]
def qzs(c:Ct)(N:Nat):Prop:=∀x∈c.signals,x.on.light=true/\x.on.check N=0
abbrev h50(c:Ct)(s:Ste)(L:List Bool):H:=[⟨0,.box c.cells⟩,⟨0,.box s.cells⟩,o0,o0,o0,o0,o0,⟨0,.box (qwx 2)⟩,o0,o0,o0,o0,o0,⟨0,.box [.sl 14 0 1 0 s.ends.length,.sl 15 0 1 0 s.valves.length,.sl 16 0 1 0 s.inputs.length,.sl 17 0 1 0 s.values.length,.sl 18 0 1 0 s.timers.length]⟩,⟨0,.arr 1 (s.ends.map qdw)⟩,⟨0,.arr 1 (s.valves.map qen)⟩,⟨0,.arr 1 (s.inputs.map qen)⟩,⟨0,.arr 1 ((L.drop (qam s)).map qen)⟩,⟨0,.arr 1 (s.timers.map qdw)⟩,⟨0,.arr 1 (L.map qen)⟩]
def T50(c:Ct)(s:Ste)(k:Nat):Tm:=[none,none,some (.bptr 0 0),some (.bptr 1 0),some (.bptr 7 0),some (.bptr 13 0),some (.sl 19 0 1 0 (qad s).length)]++List.replicate 23 none++[some (.imm (c.signals.map Sg.row)),some (num c.signals.length),some (num k)]++List.replicate 28 none
theorem z3p{c:Ct}{A:Nat}(hM:Mid c A)(s:Ste)(hs:s.small)(hS:Shp c s)(hok:qzs c (qah c A)){st:St}(h0:At (T50 c s 0) (h50 c s (qbe c (qam s) 0 (qad s))) st):∃r,ev pg (.code (.going 20 L110_0) st)=some r/\qaj (.exit 0) (T50 c s c.signals.length) (h50 c s (qtq c s)) r:=by
 refine qfc c.signals.length (T50 c s) (fun k=>h50 c s (qbe c (qam s) k (qad s))) _ ?_ ?_ h0
 .intro k f hf hk
  have hsig:=hM.sig
  have hk':(k:Int)<c.signals.length:=by omega
  have wk:=qab (n:=(k:Int)+1) (by omega) (by omega)
  have h84:=ev193 hM
  have hlen:=qcp s
  have hgl:=qeu c (qam s) (qad s) k
  have hA:s.ends.length=A:=by have:=hS.e;have:=hM.act;omega
  have hF:qam s=qak c A:=by unfold qak;rw[qam,hA,hS.i]
  have hN:(qad s).length=qah c A:=by rw[hlen,hA,hS.i,hS.v]
  obtain⟨hli,hch⟩:=hok _ (jH hk)
  have hc256:qah c A<=256:=by
   have:=hM.hi;have:=hM.inp;have:=hM.sig
   unfold qah;omega
  have h83:=ev192 c.signals[k].on (qbe c (qam s) k (qad s)) hli (by omega) (by rw[hgl,hN];exact hch)
  have hval:s.values.length=c.signals.length:=hS.v
  have hkF:qak c A+k<qah c A:=by unfold qak qah;omega
  have w2:=qab (n:=(qak c A:Int)+(k:Int)) (by omega) (by omega)
  have hnn:(0:Int)<=(qak c A:Int)+(k:Int):=by omega
  have htn:((qak c A:Int)+(k:Int)).toNat=qak c A+k:=by omega
  have hst:qbe c (qam s) (k+1) (qad s)=if c.signals[k].kind=0 then(qbe c (qam s) k (qad s)).set (qam s+k) (c.signals[k].on.holds (qbe c (qam s) k (qad s)))else qbe c (qam s) k (qad s):=by
   rw[qbe,qfs,jA hk]
  have hdr:(qbe c (qam s) k (qad s)).length-qak c A=s.values.length:=by rw[hgl,hN,hval];unfold qah qak;omega
  unfold h50
  rw[hst]
  by_cases h0:c.signals[k].kind=0
  .rw[if_pos h0,<-List.set_drop,hF]
   rw[hF]at hgl h83 hdr
   generalize hW:qbe c (qak c A) k (qad s)=W at *
   generalize c.signals[k].on.holds W=b at *
   have hb1:k<(W.drop (qak c A)).length:=by rw[List.length_drop];omega
   have hb2:qak c A+k<W.length:=by omega
   have hd1:((W.drop (qak c A)).set k b).map qen=((W.drop (qak c A)).map qen).set k [.bool b]:=by rw[List.map_set]
   have hd2:(W.set (qak c A+k) b).map qen=(W.map qen).set (qak c A+k) [.bool b]:=by rw[List.map_set]
   rw[hd1,hd2]
   have hb3:k<W.length-qak c A:=by omega
   unfold qdt at h83
   have hk4:k<s.values.length:=by omega
   have hk5:(k:Int)<s.values.length:=by omega
   have hk6:(qak c A:Int)+(k:Int)<(qad s).length:=by omega
   have hk7:qak c A+k<(qad s).length:=by omega
   generalize qak c A=F at *
   simp[qaa,exT,qae,T50,L110_0,hk,hk',wk,h0,h83,h84,w2,hnn,htn,hb2,hb3,hk4,hk7,hgl,hdr,hf.ne]
  .have h0b:(c.signals[k].kind==0)=false:=by simpa using h0
   rw[if_neg h0]
   generalize qbe c (qam s) k (qad s)=W at *
   simp[T50,L110_0,hk,hk',wk,h0b,hf.ne]
 .intro f hf
  unfold h50 qtq
  generalize qbe c (qam s) c.signals.length (qad s)=W at *
  simp[T50,L110_0,hf.ne]
theorem qic{c:Ct}(s:Ste):(qdc c s).values.length=s.values.length:=by
 unfold qdc
 simp only[List.length_drop]
 rw[qtq,qeu,qcp]
 unfold qam
 omega
theorem ev110{c:Ct}{A:Nat}(hM:Mid c A)(s:Ste)(hs:s.small)(hS:Shp c s)(hok:qzs c (qah c A)):ev pg (.call (.fn 110 [] []) [c.v,s.v] [])=some { v:=(qdc c s).v,st:=⟨[],[]⟩ }:=by
 have hl:=@z3p c A hM s hs hS hok
 have h52:=ev191 s hs
 have hlen:=qic (c:=c) s
 have hd:=qmf s
 obtain⟨g1,g2,g3,g4,g5⟩:=hs
 have c1:=ev106 s.ends g1
 have c2:=ev190 s.valves g2
 have c3:=ev190 s.inputs g3
 have c4:=ev190 s.values g4
 have c5:=ev106 s.timers g5
 unfold qdc at hlen ⊢
 simp only at hlen
 unfold h50 at hl
 rw[qbe,hd]at hl
 generalize (qtq c s).drop (qam s)=W at *
 rw[qac,pg110]
 simp[qaa,exT,qae,ir110,qaf,c1,c2,c3,c4,c5,h52]
 generalize hr:ev pg (.code (.going _ L110_0) _)=o
 obtain⟨r,rfl,f,hf,rfl⟩:∃r,o=some r/\_:=by rw[<-hr];exact hl (by simp[T50])
 clear hr
 simp[T50,hlen]
theorem q4s{c:Ct}(h:c.check=0)(hfew:c.small=true):qzs c (qah c c.act.toNat):=by
 have hR:=qsf h hfew
 intro x hx
 have hl:=(qfx hfew).2.2.2.2.2 x hx
 refine⟨hl.2.1,?_⟩
 have he:=hR.on x hx
 have hm:=hR.mid
 have h1:=hm.hi
 have h2:=hm.inp
 have h3:=hm.sig
 unfold Ex.check
 rw[if_neg (by unfold qah;omega),if_pos hl.2.1]
 exact he
theorem zct{c:Ct}{s:Ste}(h:q2i c s=0):Shp c s:=by
 unfold q2i at h
 by_cases hS:Shp c s
 .exact hS
 .rw[if_neg hS]at h;cases h
theorem qlj{c:Ct}{s:Ste}(h:stE c s=0):c.check=0/\Shp c s:=by
 unfold stE at h
 by_cases hc:c.check=0
 .rw[if_pos hc]at h
  exact⟨hc,zct h⟩
 .rw[if_neg hc]at h;exact absurd h hc
theorem q2q(l:List Bool):∀x,x∈List.map qen l->x.length=1:=by
 intro x hx
 obtain⟨b,-,rfl⟩:=List.mem_map.1 hx
 rfl
theorem q9u(l:List Bool):∀x,x∈List.map qen l->∀y,y∈x->V.pcell y=true:=by
 intro x hx y hy
 obtain⟨b,-,rfl⟩:=List.mem_map.1 hx
 rw[List.mem_singleton.1 hy]
 rfl
abbrev h28(c:Ct)(s:Ste)(k:Nat)(a:Nat×Nat):H:=[⟨0,.box c.cells⟩,⟨0,.box s.cells⟩,⟨0,.arr 0 []⟩,⟨a.1,.arr a.2 ((qdp (s.ends.take k)).map qen)⟩]
def T28(k:Nat)(a:Nat×Nat):Tm:=[none,none,some (.bptr 0 0),some (.bptr 1 0),some (.sl 2 0 0 0 0),some (.sl 3 a.1 a.2 0 (2*k)),some (num k)]++List.replicate 29 none
theorem z3l(c:Ct)(s:Ste)(hs:s.small)(hce:(s.ends.length:Int)=c.act){st:St}(a0:Nat×Nat)(g0:a0.2=1\/a0.2=0)(h0:At (T28 0 a0) (h28 c s 0 a0) st):∃r,ev pg (.code (.going 4 L223_0) st)=some r/\∃a:Nat×Nat,(a.2=1\/a.2=0)/\qaj (.exit 0) (T28 s.ends.length a) (h28 c s s.ends.length a) r:=by
 have hse:=hs.e
 refine qci s.ends.length T28 (h28 c s) (fun _ a=>a.2=1\/a.2=0) _ ?_ ?_ a0 g0 h0
 .rintro k ⟨g,m⟩ f hf hk hG
  have hk':(k:Int)<c.act:=by omega
  have wk:=qab (n:=(k:Int)+1) (by omega) (by omega)
  have hlen:(qdp (s.ends.take k)).length=2*k:=by rw[qdu,List.length_take];omega
  have hb:2*k+2<=140737488355328:=by omega
  have h2:2*(k+1)=2*k+2:=by omega
  unfold T28 h28
  rw[qol hk,h2]
  generalize qdp (s.ends.take k)=W at *
  have hmm:m=1\/m=0:=hG
  rcases hmm with rfl | rfl<;>simp[L223_0,hk,hk',wk,hb,hlen,hf.ne]
 .rintro⟨g,m⟩ f hf hG
  have hk':¬((s.ends.length:Int)<c.act):=by omega
  unfold T28 h28
  generalize qdp (s.ends.take s.ends.length)=W at *
  generalize 2*s.ends.length=N at *
  have hmm:m=1\/m=0:=hG
  rcases hmm with rfl | rfl<;>simp[L223_0,hk',hf.ne]
theorem ev223(c:Ct)(s:Ste)(hs:s.small)(hce:(s.ends.length:Int)=c.act):ev pg (.call (.fn 223 [] []) [c.v,s.v] [])=some { v:=.sl 0 0 1 0 (qad s).length,st:=⟨[],[⟨0,.arr 1 ((qad s).map qen)⟩]⟩ }:=by
 have hl:=@z3l c s hs hce
 obtain⟨h1,h2,h3,h4,h5⟩:=hs
 have hlen:=qcp s
 unfold qad at hlen ⊢
 have he:=qdu s.ends
 have q1:2*s.ends.length+s.inputs.length<=140737488355328:=by omega
 have q2:2*s.ends.length+s.inputs.length+s.values.length<=140737488355328:=by omega
 rw[hlen]
 simp only[List.map_append]
 have hW:((qdp s.ends).map qen).length=2*s.ends.length:=by rw[List.length_map,he]
 unfold h28 at hl
 rw[List.take_length,List.take_zero,qdp]at hl
 generalize (qdp s.ends).map qen=W at *
 rw[qac,pg223]
 simp[ir223,qaf]
 generalize hr:ev pg (.code (.going _ L223_0) _)=o
 obtain⟨r,rfl,⟨g,m⟩,hm,f,hf,rfl⟩:∃r,o=some r/\_:=by rw[<-hr];exact hl (0,0) (.inr rfl) (by simp[T28])
 clear hr
 have hmm:m=1\/m=0:=hm
 rcases hmm with rfl | rfl
 all_goals
  simp[T28,hW,q1,q2]
  rw[if_pos ⟨q2q _,q9u _⟩]
  simp[hW,q2]
  rw[if_pos ⟨q2q _,q9u _⟩]
  simp[hW,qbv,qdq,qdl,Nat.add_assoc]
theorem q2z{o i n:Int}{k:Nat}(h:qbg o i k n=0)(ho:o=2):k=1:=by
 subst ho
 unfold qbg at h
 by_cases hk:k=1
 .exact hk
 .rw[if_neg (by omega),if_pos (by omega)]at h
  omega
def zbj(vs:List Bool)(x:Ex)(k:Nat):Bool:=(x.args.take k).all (Ex.holds vs)
def zbk(vs:List Bool)(x:Ex)(k:Nat):Bool:=(x.args.take k).any (Ex.holds vs)
abbrev q8j(x:Ex):H:=[⟨0,.box x.cells⟩]
def zoz(vs:List Bool)(x:Ex)(k:Nat):Tm:=[none,some (qdt vs),some (.bptr 0 0),none,none,some (.bool (zbj vs x k)),some (.bool (zbk vs x k)),some (num k)]++List.replicate 60 none
theorem z1j(x:Ex)(vs:List Bool)(hx:x.nodes<=256)(ih:∀y∈x.args,ev pg (.call (.fn 222 [] []) [y.v,qdt vs] [])=some { v:=.bool (y.holds vs),st:=⟨[],[]⟩ }){st:St}(h0:At (zoz vs x 0) (q8j x) st):∃r,ev pg (.code (.going 1 L222_0) st)=some r/\qaj (.exit 1) (zoz vs x x.args.length) (q8j x) r:=by
 have hfew:=qfb hx
 refine qfc x.args.length (zoz vs x) (fun _=>q8j x) _ ?_ ?_ h0
 .intro k f hf hk
  have hk':(k:Int)<x.args.length:=by omega
  have wk:=qab (n:=(k:Int)+1) (by omega) (by omega)
  have hi:=ih _ (jH hk)
  have e1:zbj vs x (k+1)=(zbj vs x k&&x.args[k].holds vs):=by
   unfold zbj
   rw[jK hk,List.all_append]
   simp
  have e2:zbk vs x (k+1)=(zbk vs x k||x.args[k].holds vs):=by
   unfold zbk
   rw[jK hk,List.any_append]
   simp
  unfold zoz
  rw[e1,e2]
  generalize zbj vs x k=a at *
  generalize zbk vs x k=b at *
  generalize x.args[k].holds vs=v at *
  cases a<;>cases b<;>simp[L222_0,hk,hk',wk,hi,hf.ne]
 .intro f hf
  unfold zoz
  simp[L222_0,hf.ne]
theorem ev222(vs:List Bool):∀x:Ex,x.nodes<=256->x.err vs.length=0->ev pg (.call (.fn 222 [] []) [x.v,qdt vs] [])=some { v:=.bool (x.holds vs),st:=⟨[],[]⟩ }:=by
 refine Ex.ind fun x ih hx he=>?_
 obtain⟨hn,hargs⟩:=qmv he
 have ih':∀y∈x.args,ev pg (.call (.fn 222 [] []) [y.v,qdt vs] [])=some { v:=.bool (y.holds vs),st:=⟨[],[]⟩ }:=fun y hy=>ih y hy (by have:=qex hx hy;omega) (hargs y hy)
 have hop:x.op=0\/x.op=1\/x.op=2\/x.op=3\/x.op=4:=by
  unfold qbg at hn
  by_cases h:x.op<0\/5<=x.op
  .rw[if_pos h]at hn;omega
  .omega
 have hl:=@z1j x vs hx ih'
 have e1:(x.args.map (Ex.holds vs)).all id=zbj vs x x.args.length:=by
  unfold zbj;rw[List.all_map,List.take_length];rfl
 have e2:(x.args.map (Ex.holds vs)).any id=zbk vs x x.args.length:=by
  unfold zbk;rw[List.any_map,List.take_length];rfl
 have z1:zbj vs x 0=true:=rfl
 have z2:zbk vs x 0=false:=rfl
 unfold zoz at hl
 rw[z1,z2]at hl
 rw[qvx,e1,e2,qac,pg222]
 generalize zbj vs x x.args.length=a at *
 generalize zbk vs x x.args.length=b at *
 rcases hop with h | h | h | h | h
 .simp[ir222,h]
 .obtain⟨hi0,hi1⟩:=qqv hn h
  have hin:x.idx.toNat<vs.length:=by omega
  simp[ir222,h,hi0,hin]
 .have h1:=q2z hn h
  obtain⟨y,hy⟩:∃y,x.args=[y]:=by
   match hq:x.args,h1 with
   | [y],_=>exact⟨y,rfl⟩
  have hiy:=ih' y (by rw[hy];exact List.mem_cons_self)
  simp[ir222,h,hy,hiy]
 .simp[ir222,h,qaf]
  generalize hr:ev pg (.code (.going _ L222_0) _)=o
  obtain⟨r,rfl,f,hf,rfl⟩:∃r,o=some r/\_:=by rw[<-hr];exact hl (by simp[h])
  cases a<;>simp[h]
 .simp[ir222,h,qaf]
  generalize hr:ev pg (.code (.going _ L222_0) _)=o
  obtain⟨r,rfl,f,hf,rfl⟩:∃r,o=some r/\_:=by rw[<-hr];exact hl (by simp[h])
  cases b<;>simp[h]
theorem qvs(c:Ct)(F i:Nat)(L:List Bool):(qfs c F i L).take F=L.take F:=by
 unfold qfs
 split
 .split
  .rw[List.take_set]
   rw[List.set_eq_of_length_le (by rw[List.length_take];omega)]
  .rfl
 .rfl
theorem qpm(c:Ct)(F:Nat)(L:List Bool):∀k,(qbe c F k L).take F=L.take F
 | 0=>rfl
 | k+1=>by rw[qbe,qvs,qpm c F L k]
def stK(c:Ct)(s:Ste)(k:Nat):Ste:=⟨s.ends,s.valves,s.inputs,(qbe c (qam s) k (qad s)).drop (qam s),s.timers⟩
theorem q3q(c:Ct)(s:Ste):stK c s 0=s:=by
 unfold stK qbe
 rw[qmf]
theorem q1d(c:Ct)(s:Ste):stK c s c.signals.length=qdc c s:=rfl
theorem qwp(c:Ct)(s:Ste)(k:Nat):(stK c s k).values.length=s.values.length:=by
 unfold stK
 simp only[List.length_drop]
 rw[qeu,qcp]
 unfold qam
 omega
theorem qif(c:Ct)(s:Ste)(k:Nat):qad (stK c s k)=qbe c (qam s) k (qad s):=by
 have h1:=qpm c (qam s) (qad s) k
 have h2:(qad s).take (qam s)=qdp s.ends++s.inputs:=by
  unfold qad
  rw[List.take_left' (by rw[jF,qdu])]
 rw[h2]at h1
 have e:=List.take_append_drop (qam s) (qbe c (qam s) k (qad s))
 rw[h1]at e
 exact e
theorem q3p(c:Ct)(s:Ste)(k:Nat)(hk:k<c.signals.length):(stK c s (k+1)).values=if c.signals[k].kind=0 then(stK c s k).values.set k (c.signals[k].on.holds (qad (stK c s k)))else(stK c s k).values:=by
 have e:c.signals[k]?=some c.signals[k]:=jA hk
 rw[qif]
 unfold stK
 simp only[qbe]
 rw[qfs,e]
 simp only
 split
 .rw[List.drop_set,if_neg (by omega),Nat.add_sub_cancel_left]
 .rfl
abbrev h88(c:Ct)(s:Ste)(k:Nat):H:=[⟨0,.box c.cells⟩,⟨0,.box s.cells⟩,o0,o0,o0,o0,o0,⟨0,.box (qwx 2)⟩,⟨0,.arr 1 (s.ends.map qdw)⟩,⟨0,.arr 1 (s.valves.map qen)⟩,⟨0,.arr 1 (s.inputs.map qen)⟩,⟨0,.arr 1 ((stK c s k).values.map qen)⟩,⟨0,.arr 1 (s.timers.map qdw)⟩,o0,o0,o0,o0,o0,⟨0,.box [.sl 8 0 1 0 s.ends.length,.sl 9 0 1 0 s.valves.length,.sl 10 0 1 0 s.inputs.length,.sl 11 0 1 0 s.values.length,.sl 12 0 1 0 s.timers.length]⟩]
def T88(k:Nat):Tm:=[none,none,some (.bptr 0 0),some (.bptr 1 0),some (.bptr 7 0),some (.bptr 18 0),some (num k)]++List.replicate 31 none
theorem z3x(c:Ct)(s:Ste)(hs:s.small)(hS:Shp c s)(hn:c.signals.length<=128)(hok:∀x∈c.signals,x.on.nodes<=256/\x.on.err (qad s).length=0){st:St}(h0:At (T88 0) (h88 c s 0) st):∃r,ev pg (.code (.going 19 L172_0) st)=some r/\qaj (.exit 0) (T88 c.signals.length) (h88 c s c.signals.length) r:=by
 refine qfc c.signals.length T88 (h88 c s) _ ?_ ?_ h0
 .intro k f hf hk
  have hk':(k:Int)<c.signals.length:=by omega
  have wk:=qab (n:=(k:Int)+1) (by omega) (by omega)
  have hsc:=q3p c s k hk
  obtain⟨g1,g2⟩:=hok _ (jH hk)
  have hsm:(stK c s k).small:=⟨hs.e,hs.w,hs.i,by rw[qwp];exact hs.v,hs.t⟩
  have h28:=ev223 c (stK c s k) hsm hS.e
  have hLl:(qad (stK c s k)).length=(qad s).length:=by rw[qif,qeu]
  have q8j:=ev222 (qad (stK c s k)) c.signals[k].on g1 (by rw[hLl];exact g2)
  have hvl:=qwp c s k
  have hkv:k<s.values.length:=by rw[hS.v];exact hk
  unfold h88 T88
  rw[hsc]
  have hst:stK c s k=⟨s.ends,s.valves,s.inputs,(stK c s k).values,s.timers⟩:=rfl
  generalize hL:qad (stK c s k)=L at *
  generalize c.signals[k].on.holds L=v at *
  rw[hst]at h28
  generalize (stK c s k).values=W at *
  by_cases h0:c.signals[k].kind=0
  .have hkW:k<W.length:=by omega
   simp[qaa,exT,qae,L172_0,hk,hk',wk,h0,h28,q8j,hvl.symm,hkW,hf.ne]
  .simp[L172_0,hk,hk',wk,h0,hf.ne]
 .intro f hf
  unfold T88 h88
  simp[L172_0,hf.ne]
theorem ev172(c:Ct)(s:Ste)(hs:s.small)(hS:Shp c s)(hn:c.signals.length<=128)(hok:∀x∈c.signals,x.on.nodes<=256/\x.on.err (qad s).length=0):ev pg (.call (.fn 172 [] []) [c.v,s.v] [])=some { v:=(qdc c s).v,st:=⟨[],[]⟩ }:=by
 have hl:=@z3x c s hs hS hn hok
 have h130:=ev221 s hs
 have hgl:=qic (c:=c) s
 have hst:qdc c s=⟨s.ends,s.valves,s.inputs,(qdc c s).values,s.timers⟩:=rfl
 unfold h88 at hl
 rw[q3q,q1d]at hl
 rw[hst]
 generalize (qdc c s).values=W at *
 rw[qac,pg172]
 simp[ir172,h130,qaf]
 generalize hr:ev pg (.code (.going _ L172_0) _)=o
 obtain⟨r,rfl,f,hf,rfl⟩:∃r,o=some r/\_:=by rw[<-hr];exact hl (by simp[T88])
 simp[T88,hgl.symm]
end Go.Proofs.YtddeacahiilikaaGreat
