/- Ascending lists. -/
import Derived.Test.YtggbaapfbgjaeaaGreatDoorFZ3
import Derived.Test.YtggbaapfbgjaeaaGreatDoorFZ7
import Derived.Test.YtggbaapfbgjaeaaGreatDoorFEv1
import Derived.Test.YtggbaapfbgjaeaaGreatDoorFTe2
import Derived.Test.YtggbaapfbgjaeaaGreatDoorFCt6
set_option linter.all false
namespace Go.Proofs.YtggbaapfbgjaeaaGreatDoor
open Go Go.Am Go.Proofs
set_option maxRecDepth 100000
abbrev z1n(s:Ste):H:=[⟨0,.arr 1 (s.ends.map qbk)⟩,⟨0,.arr 1 (s.valves.map qfj)⟩,⟨0,.arr 1 (s.inputs.map qfj)⟩,⟨0,.arr 1 (s.values.map qfj)⟩,⟨0,.arr 1 (s.timers.map qbk)⟩]
abbrev znd(s:Ste):V:=.agg [.sl 0 0 1 0 s.ends.length,.sl 1 0 1 0 s.valves.length,.sl 2 0 1 0 s.inputs.length,.sl 3 0 1 0 s.values.length,.sl 4 0 1 0 s.timers.length]
theorem ev189(s:Ste)(hs:s.small):ev pg (.call (fnq 189) [s.v] [])=some { v:=znd s,st:=⟨[],z1n s⟩ }:=by
 obtain⟨h1,h2,h3,h4,h5⟩:=hs;have g1:s.ends.length*8<=140737488355328:=by omega
 have g2:s.valves.length<=140737488355328:=by omega
 have g3:s.inputs.length<=140737488355328:=by omega
 have g4:s.values.length<=140737488355328:=by omega
 have g5:s.timers.length*8<=140737488355328:=by omega
 rw[qaa,pg189.1];simp[qab,exT,qag,ir189,g1,g2,g3,g4,g5,qch,qel,qmj,qdz]
abbrev o0:Ob:=⟨0,.arr 0 []⟩
abbrev q3u(b:Nat):List V:=[.sl b 0 0 0 0,.sl (b+1) 0 0 0 0,.sl (b+2) 0 0 0 0,.sl (b+3) 0 0 0 0,.sl (b+4) 0 0 0 0]
def qeo:List Int->List Bool
 | []=>[]
 | e :: l=>(e==0) :: (e==2) :: qeo l
theorem zgy(l m:List Int):qeo (l++m)=qeo l++qeo m:=by
 induction l with
 | nil=>rfl
 | cons e l ih=>simp[qeo,ih]
theorem qeu(l:List Int):(qeo l).length=2*l.length:=by
 induction l with
 | nil=>rfl
 | cons e l ih=>simp[qeo,ih];omega
theorem qss{l:List Int}{k:Nat}(hk:k<l.length):qeo (l.take (k+1))=qeo (l.take k)++[l[k]==0,l[k]==2]:=by rw[jK hk,zgy];rfl
def qae(s:Ste):List Bool:=qeo s.ends++s.inputs++s.values
theorem qdm(s:Ste):(qae s).length=2*s.ends.length+s.inputs.length+s.values.length:=by unfold qae;rw[jF,jF,qeu]
abbrev h52(s:Ste)(k:Nat)(a:Nat×Nat):H:=[⟨0,.box s.cells⟩,⟨0,.arr 0 []⟩,⟨a.1,.arr a.2 ((qeo (s.ends.take k)).map qfj)⟩]
def T52(s:Ste)(k:Nat)(a:Nat×Nat):Tm:=[none,bN 0,some (.sl 1 0 0 0 0),some (.sl 2 a.1 a.2 0 (2*k)),none,none,none,some (qcr s.ends),some (num s.ends.length),nN k]++zN 18
theorem z6t(s:Ste)(hs:s.small){st:St}(a0:Nat×Nat)(g0:a0.2=1\/a0.2=0)(h0:At (T52 s 0 a0) (h52 s 0 a0) st):∃r,ev pg (.code (.going 3 L177_0) st)=some r/\∃a:Nat×Nat,(a.2=1\/a.2=0)/\qar (.exit 0) (T52 s s.ends.length a) (h52 s s.ends.length a) r:=by
 have hse:=hs.e;refine qcg s.ends.length (T52 s) (h52 s) (fun _ a=>a.2=1\/a.2=0) _ ?_ ?_ a0 g0 h0
 .rintro k ⟨g,m⟩ f hf hk hG;have hk':(k:Int)<s.ends.length:=by omega
  have wk:=qbc k;have hlen:(qeo (s.ends.take k)).length=2*k:=by rw[qeu,List.length_take];omega
  have hb:2*k+2<=140737488355328:=by omega
  have h2:2*(k+1)=2*k+2:=by omega
  unfold T52 h52;rw[qss hk,h2];generalize qeo (s.ends.take k)=W at *;have hmm:m=1\/m=0:=hG;rcases hmm with rfl | rfl<;>simp[L177_0,hk,hk',wk,hb,hlen,hf.ne]
 .rintro⟨g,m⟩ f hf hG;unfold T52 h52;generalize qeo (s.ends.take s.ends.length)=W at *;generalize 2*s.ends.length=N at *;have hmm:m=1\/m=0:=hG;rcases hmm with rfl | rfl<;>simp[L177_0,hf.ne]
theorem ev177(s:Ste)(hs:s.small):ev pg (.call (fnq 177) [s.v] [])=some { v:=.sl 0 0 1 0 (qae s).length,st:=⟨[],[⟨0,.arr 1 ((qae s).map qfj)⟩]⟩ }:=by
 have hl:=@z6t s hs;obtain⟨h1,h2,h3,h4,h5⟩:=hs;have hlen:=qdm s;unfold qae at hlen ⊢;have he:=qeu s.ends;have q1:2*s.ends.length+s.inputs.length<=140737488355328:=by omega
 have q2:2*s.ends.length+s.inputs.length+s.values.length<=140737488355328:=by omega
 rw[hlen];simp only[List.map_append];have hW:((qeo s.ends).map qfj).length=2*s.ends.length:=by rw[List.length_map,he]
 unfold h52 at hl;rw[List.take_length,List.take_zero,qeo]at hl;generalize (qeo s.ends).map qfj=W at *;rw[qaa,pg177.1];simp[ir177,qai];generalize hr:ev pg (.code (.going _ L177_0) _)=o;obtain⟨r,rfl,⟨g,m⟩,hm,f,hf,rfl⟩:∃r,o=some r/\_:=by rw[<-hr];exact hl (0,0) (.inr rfl) (by simp[T52])
 clear hr;have hmm:m=1\/m=0:=hm;rcases hmm with rfl | rfl<;>simp[qab,exT,qag,T52,hW,q1,q2,qch,qel,qdz]<;>simp[Nat.add_assoc]
def qgm(c:Ct)(F i:Nat)(L:List Bool):List Bool:=match c.signals[i]? with
 | some x=>if x.kind=0 then L.set (F+i) (x.on.holds L)else L
 | none=>L
def qbd(c:Ct)(F:Nat):Nat->List Bool->List Bool
 | 0,L=>L
 | k+1,L=>qgm c F k (qbd c F k L)
theorem q4z(c:Ct)(F i:Nat)(L:List Bool):(qgm c F i L).length=L.length:=by
 unfold qgm;split
 .split
  .rw[jU]
  .rfl
 .rfl
theorem qfe(c:Ct)(F:Nat)(L:List Bool):∀k,(qbd c F k L).length=L.length
 | 0=>rfl
 | k+1=>by rw[qbd,q4z,qfe c F L k]
abbrev qao(s:Ste):Nat:=2*s.ends.length+s.inputs.length
def qwv(c:Ct)(s:Ste):List Bool:=qbd c (qao s) c.signals.length (qae s)
def qdp(c:Ct)(s:Ste):Ste:=⟨s.ends,s.valves,s.inputs,(qwv c s).drop (qao s),s.timers⟩
theorem qlm(s:Ste):(qae s).drop (qao s)=s.values:=by unfold qae;rw[List.drop_left' (by rw[jF,qeu])]
def q7d(c:Ct)(N:Nat):Prop:=∀x∈c.signals,x.on.light=true/\x.on.check N=0
abbrev h50(c:Ct)(s:Ste)(L:List Bool):H:=[⟨0,.box c.cells⟩,⟨0,.box s.cells⟩,o0,o0,o0,o0,o0,⟨0,.box (q3u 2)⟩,o0,o0,o0,o0,o0,⟨0,.box [.sl 14 0 1 0 s.ends.length,.sl 15 0 1 0 s.valves.length,.sl 16 0 1 0 s.inputs.length,.sl 17 0 1 0 s.values.length,.sl 18 0 1 0 s.timers.length]⟩,⟨0,.arr 1 (s.ends.map qbk)⟩,⟨0,.arr 1 (s.valves.map qfj)⟩,⟨0,.arr 1 (s.inputs.map qfj)⟩,⟨0,.arr 1 ((L.drop (qao s)).map qfj)⟩,⟨0,.arr 1 (s.timers.map qbk)⟩,⟨0,.arr 1 (L.map qfj)⟩]
def T50(c:Ct)(s:Ste)(k:Nat):Tm:=[none,none,bN 0,bN 1,bN 7,bN 13,some (.sl 19 0 1 0 (qae s).length)]++zN 23++[some (.imm (c.signals.map Sg.row)),some (num c.signals.length),nN k]++zN 28
theorem z6s{c:Ct}{A:Nat}(hM:Mid c A)(s:Ste)(hs:s.small)(hS:Shp c s)(hok:q7d c (qad c A)){st:St}(h0:At (T50 c s 0) (h50 c s (qbd c (qao s) 0 (qae s))) st):∃r,ev pg (.code (.going 20 L131_0) st)=some r/\qar (.exit 0) (T50 c s c.signals.length) (h50 c s (qwv c s)) r:=by
 refine qfn c.signals.length (T50 c s) (fun k=>h50 c s (qbd c (qao s) k (qae s))) _ ?_ ?_ h0
 .intro k f hf hk;have hsig:=hM.sig;have hk':(k:Int)<c.signals.length:=by omega
  have wk:=qbc k;have h84:=ev161 hM;have hlen:=qdm s;have hgl:=qfe c (qao s) (qae s) k;have hA:s.ends.length=A:=by have:=hS.e;have:=hM.act;omega
  have hF:qao s=qal c A:=by unfold qal;rw[qao,hA,hS.i]
  have hN:(qae s).length=qad c A:=by rw[hlen,hA,hS.i,hS.v]
  obtain⟨hli,hch⟩:=hok _ (jH hk);have hc256:qad c A<=256:=by have:=hM.hi;have:=hM.inp;have:=hM.sig;unfold qad;omega
  have h83:=ev178 c.signals[k].on (qbd c (qao s) k (qae s)) hli (by omega) (by rw[hgl,hN];exact hch);have hval:s.values.length=c.signals.length:=hS.v;have hkF:qal c A+k<qad c A:=by unfold qal qad;omega
  have w2:=qam (n:=(qal c A:Int)+(k:Int)) (by omega) (by omega);have hnn:(0:Int)<=(qal c A:Int)+(k:Int):=by omega
  have htn:((qal c A:Int)+(k:Int)).toNat=qal c A+k:=by omega
  have hst:qbd c (qao s) (k+1) (qae s)=if c.signals[k].kind=0 then(qbd c (qao s) k (qae s)).set (qao s+k) (c.signals[k].on.holds (qbd c (qao s) k (qae s)))else qbd c (qao s) k (qae s):=by rw[qbd,qgm,jA hk]
  have hdr:(qbd c (qao s) k (qae s)).length-qal c A=s.values.length:=by rw[hgl,hN,hval];unfold qad qal;omega
  unfold h50;rw[hst];by_cases h0:c.signals[k].kind=0
  .rw[if_pos h0,<-List.set_drop,hF];rw[hF]at hgl h83 hdr;generalize hW:qbd c (qal c A) k (qae s)=W at *;generalize c.signals[k].on.holds W=b at *;have hb1:k<(W.drop (qal c A)).length:=by rw[List.length_drop];omega
   have hb2:qal c A+k<W.length:=by omega
   have hd1:((W.drop (qal c A)).set k b).map qfj=((W.drop (qal c A)).map qfj).set k [.bool b]:=by rw[List.map_set]
   have hd2:(W.set (qal c A+k) b).map qfj=(W.map qfj).set (qal c A+k) [.bool b]:=by rw[List.map_set]
   rw[hd1,hd2];have hb3:k<W.length-qal c A:=by omega
   unfold qdc at h83;have hk4:k<s.values.length:=by omega
   have hk5:(k:Int)<s.values.length:=by omega
   have hk6:(qal c A:Int)+(k:Int)<(qae s).length:=by omega
   have hk7:qal c A+k<(qae s).length:=by omega
   generalize qal c A=F at *;simp[qab,exT,qag,T50,L131_0,hk,hk',wk,h0,h83,h84,w2,hnn,htn,hb2,hb3,hk4,hk7,hgl,hdr,hf.ne]
  .have h0b:(c.signals[k].kind==0)=false:=by simpa using h0
   rw[if_neg h0];generalize qbd c (qao s) k (qae s)=W at *;simp[T50,L131_0,hk,hk',wk,h0b,hf.ne]
 .intro f hf;unfold h50 qwv;generalize qbd c (qao s) c.signals.length (qae s)=W at *;simp[T50,L131_0,hf.ne]
theorem qkq{c:Ct}(s:Ste):(qdp c s).values.length=s.values.length:=by unfold qdp;simp only[List.length_drop];rw[qwv,qfe,qdm];unfold qao;omega
theorem ev131{c:Ct}{A:Nat}(hM:Mid c A)(s:Ste)(hs:s.small)(hS:Shp c s)(hok:q7d c (qad c A)):ev pg (.call (fnq 131) [c.v,s.v] [])=some (rvq ((qdp c s).v)):=by
 have hl:=@z6s c A hM s hs hS hok;have h52:=ev177 s hs;have hlen:=qkq (c:=c) s;have hd:=qlm s;obtain⟨g1,g2,g3,g4,g5⟩:=hs;have c1:=ev78 s.ends g1;have c2:=ev176 s.valves g2;have c3:=ev176 s.inputs g3;have c4:=ev176 s.values g4;have c5:=ev78 s.timers g5;unfold qdp at hlen ⊢;simp only at hlen;unfold h50 at hl;rw[qbd,hd]at hl;generalize (qwv c s).drop (qao s)=W at *;rw[qaa,pg131.1];simp[qab,exT,qag,ir131,qai,c1,c2,c3,c4,c5,h52];generalize hr:ev pg (.code (.going _ L131_0) _)=o;obtain⟨r,rfl,f,hf,rfl⟩:∃r,o=some r/\_:=by rw[<-hr];exact hl (by simp[T50])
 clear hr;simp[T50,hlen]
theorem zdd{c:Ct}(h:c.check=0)(hfew:c.small=true):q7d c (qad c c.act.toNat):=by have hR:=qiz h hfew;intro x hx;have hl:=(qcd hfew).2.2.2.2.2 x hx;refine⟨hl.2.1,?_⟩;have he:=hR.on x hx;have hm:=hR.mid;have h1:=hm.hi;have h2:=hm.inp;have h3:=hm.sig;unfold Ex.check;rw[if_neg (by unfold qad;omega),if_pos hl.2.1];exact he
theorem znc{c:Ct}{s:Ste}(h:zla c s=0):Shp c s:=by
 unfold zla at h;by_cases hS:Shp c s
 .exact hS
 .rw[if_neg hS]at h;cases h
theorem qih{c:Ct}{s:Ste}(h:stE c s=0):c.check=0/\Shp c s:=by
 unfold stE at h;by_cases hc:c.check=0
 .rw[if_pos hc]at h;exact⟨hc,znc h⟩
 .rw[if_neg hc]at h;exact absurd h hc
theorem zav(l:List Bool):∀x,x∈List.map qfj l->x.length=1:=by intro x hx;obtain⟨b,-,rfl⟩:=List.mem_map.1 hx;rfl
theorem zjs(l:List Bool):∀x,x∈List.map qfj l->∀y,y∈x->V.pcell y=true:=by intro x hx y hy;obtain⟨b,-,rfl⟩:=List.mem_map.1 hx;rw[List.mem_singleton.1 hy];rfl
abbrev h28(c:Ct)(s:Ste)(k:Nat)(a:Nat×Nat):H:=[⟨0,.box c.cells⟩,⟨0,.box s.cells⟩,⟨0,.arr 0 []⟩,⟨a.1,.arr a.2 ((qeo (s.ends.take k)).map qfj)⟩]
def T28(k:Nat)(a:Nat×Nat):Tm:=[none,none,bN 0,bN 1,some (.sl 2 0 0 0 0),some (.sl 3 a.1 a.2 0 (2*k)),nN k]++zN 29
theorem z6o(c:Ct)(s:Ste)(hs:s.small)(hce:(s.ends.length:Int)=c.act){st:St}(a0:Nat×Nat)(g0:a0.2=1\/a0.2=0)(h0:At (T28 0 a0) (h28 c s 0 a0) st):∃r,ev pg (.code (.going 4 L191_0) st)=some r/\∃a:Nat×Nat,(a.2=1\/a.2=0)/\qar (.exit 0) (T28 s.ends.length a) (h28 c s s.ends.length a) r:=by
 have hse:=hs.e;refine qcg s.ends.length T28 (h28 c s) (fun _ a=>a.2=1\/a.2=0) _ ?_ ?_ a0 g0 h0
 .rintro k ⟨g,m⟩ f hf hk hG;have hk':(k:Int)<c.act:=by omega
  have wk:=qbc k;have hlen:(qeo (s.ends.take k)).length=2*k:=by rw[qeu,List.length_take];omega
  have hb:2*k+2<=140737488355328:=by omega
  have h2:2*(k+1)=2*k+2:=by omega
  unfold T28 h28;rw[qss hk,h2];generalize qeo (s.ends.take k)=W at *;have hmm:m=1\/m=0:=hG;rcases hmm with rfl | rfl<;>simp[L191_0,hk,hk',wk,hb,hlen,hf.ne]
 .rintro⟨g,m⟩ f hf hG;have hk':¬((s.ends.length:Int)<c.act):=by omega
  unfold T28 h28;generalize qeo (s.ends.take s.ends.length)=W at *;generalize 2*s.ends.length=N at *;have hmm:m=1\/m=0:=hG;rcases hmm with rfl | rfl<;>simp[L191_0,hk',hf.ne]
theorem ev191(c:Ct)(s:Ste)(hs:s.small)(hce:(s.ends.length:Int)=c.act):ev pg (.call (fnq 191) [c.v,s.v] [])=some { v:=.sl 0 0 1 0 (qae s).length,st:=⟨[],[⟨0,.arr 1 ((qae s).map qfj)⟩]⟩ }:=by
 have hl:=@z6o c s hs hce;obtain⟨h1,h2,h3,h4,h5⟩:=hs;have hlen:=qdm s;unfold qae at hlen ⊢;have he:=qeu s.ends;have q1:2*s.ends.length+s.inputs.length<=140737488355328:=by omega
 have q2:2*s.ends.length+s.inputs.length+s.values.length<=140737488355328:=by omega
 rw[hlen];simp only[List.map_append];have hW:((qeo s.ends).map qfj).length=2*s.ends.length:=by rw[List.length_map,he]
 unfold h28 at hl;rw[List.take_length,List.take_zero,qeo]at hl;generalize (qeo s.ends).map qfj=W at *;rw[qaa,pg191.1];simp[ir191,qai];generalize hr:ev pg (.code (.going _ L191_0) _)=o;obtain⟨r,rfl,⟨g,m⟩,hm,f,hf,rfl⟩:∃r,o=some r/\_:=by rw[<-hr];exact hl (0,0) (.inr rfl) (by simp[T28])
 clear hr;have hmm:m=1\/m=0:=hm;rcases hmm with rfl | rfl
 all_goals
  simp[T28,hW,q1,q2];rw[if_pos ⟨zav _,zjs _⟩];simp[hW,q2];rw[if_pos ⟨zav _,zjs _⟩];simp[hW,qch,qel,qdz,Nat.add_assoc]
theorem zbg{o i n:Int}{k:Nat}(h:qbq o i k n=0)(ho:o=2):k=1:=by
 subst ho;unfold qbq at h;by_cases hk:k=1
 .exact hk
 .rw[if_neg (by omega),if_pos (by omega)]at h;omega
def zlr(vs:List Bool)(x:Ex)(k:Nat):Bool:=(x.args.take k).all (Ex.holds vs)
def zlt(vs:List Bool)(x:Ex)(k:Nat):Bool:=(x.args.take k).any (Ex.holds vs)
abbrev zhz(x:Ex):H:=[⟨0,.box x.cells⟩]
def zvv(vs:List Bool)(x:Ex)(k:Nat):Tm:=[none,some (qdc vs),bN 0,none,none,some (.bool (zlr vs x k)),some (.bool (zlt vs x k)),nN k]++zN 60
theorem z3j(x:Ex)(vs:List Bool)(hx:x.nodes<=256)(ih:∀y∈x.args,ev pg (.call (fnq 190) [y.v,qdc vs] [])=some (rvq (.bool (y.holds vs)))){st:St}(h0:At (zvv vs x 0) (zhz x) st):∃r,ev pg (.code (.going 1 L190_0) st)=some r/\qar (.exit 1) (zvv vs x x.args.length) (zhz x) r:=by
 have hfew:=qfk hx;refine qfn x.args.length (zvv vs x) (fun _=>zhz x) _ ?_ ?_ h0
 .intro k f hf hk;have hk':(k:Int)<x.args.length:=by omega
  have wk:=qbc k;have hi:=ih _ (jH hk);have e1:zlr vs x (k+1)=(zlr vs x k&&x.args[k].holds vs):=by unfold zlr;rw[jK hk,List.all_append];simp
  have e2:zlt vs x (k+1)=(zlt vs x k||x.args[k].holds vs):=by unfold zlt;rw[jK hk,List.any_append];simp
  unfold zvv;rw[e1,e2];generalize zlr vs x k=a at *;generalize zlt vs x k=b at *;generalize x.args[k].holds vs=v at *;cases a<;>cases b<;>simp[L190_0,hk,hk',wk,hi,hf.ne]
 .intro f hf;unfold zvv;simp[L190_0,hf.ne]
theorem ev190(vs:List Bool):∀x:Ex,x.nodes<=256->x.err vs.length=0->ev pg (.call (fnq 190) [x.v,qdc vs] [])=some (rvq (.bool (x.holds vs))):=by
 refine Ex.ind fun x ih hx he=>?_;obtain⟨hn,hargs⟩:=qhk he;have ih':∀y∈x.args,ev pg (.call (fnq 190) [y.v,qdc vs] [])=some (rvq (.bool (y.holds vs))):=fun y hy=>ih y hy (by have:=qey hx hy;omega) (hargs y hy);have hop:x.op=0\/x.op=1\/x.op=2\/x.op=3\/x.op=4:=by
  unfold qbq at hn;by_cases h:x.op<0\/5<=x.op
  .rw[if_pos h]at hn;omega
  .omega
 have hl:=@z3j x vs hx ih';have e1:(x.args.map (Ex.holds vs)).all id=zlr vs x x.args.length:=by unfold zlr;rw[List.all_map,List.take_length];rfl
 have e2:(x.args.map (Ex.holds vs)).any id=zlt vs x x.args.length:=by unfold zlt;rw[List.any_map,List.take_length];rfl
 have z1:zlr vs x 0=true:=rfl;have z2:zlt vs x 0=false:=rfl;unfold zvv at hl;rw[z1,z2]at hl;rw[qom,e1,e2,qaa,pg190.1];generalize zlr vs x x.args.length=a at *;generalize zlt vs x x.args.length=b at *;rcases hop with h | h | h | h | h
 .simp[ir190,h]
 .obtain⟨hi0,hi1⟩:=qju hn h;have hin:x.idx.toNat<vs.length:=by omega
  simp[ir190,h,hi0,hin]
 .have h1:=zbg hn h;obtain⟨y,hy⟩:∃y,x.args=[y]:=by
   match hq:x.args,h1 with
   | [y],_=>exact⟨y,rfl⟩
  have hiy:=ih' y (by rw[hy];exact List.mem_cons_self);simp[ir190,h,hy,hiy]
 .simp[ir190,h,qai];generalize hr:ev pg (.code (.going _ L190_0) _)=o;obtain⟨r,rfl,f,hf,rfl⟩:∃r,o=some r/\_:=by rw[<-hr];exact hl (by simp[h])
  cases a<;>simp[h]
 .simp[ir190,h,qai];generalize hr:ev pg (.code (.going _ L190_0) _)=o;obtain⟨r,rfl,f,hf,rfl⟩:∃r,o=some r/\_:=by rw[<-hr];exact hl (by simp[h])
  cases b<;>simp[h]
theorem q2g(c:Ct)(F i:Nat)(L:List Bool):(qgm c F i L).take F=L.take F:=by
 unfold qgm;split
 .split
  .rw[List.take_set];rw[List.set_eq_of_length_le (by rw[List.length_take];omega)]
  .rfl
 .rfl
theorem quf(c:Ct)(F:Nat)(L:List Bool):∀k,(qbd c F k L).take F=L.take F
 | 0=>rfl
 | k+1=>by rw[qbd,q2g,quf c F L k]
def stK(c:Ct)(s:Ste)(k:Nat):Ste:=⟨s.ends,s.valves,s.inputs,(qbd c (qao s) k (qae s)).drop (qao s),s.timers⟩
theorem zbv(c:Ct)(s:Ste):stK c s 0=s:=by unfold stK qbd;rw[qlm]
theorem q8x(c:Ct)(s:Ste):stK c s c.signals.length=qdp c s:=rfl
theorem q3i(c:Ct)(s:Ste)(k:Nat):(stK c s k).values.length=s.values.length:=by unfold stK;simp only[List.length_drop];rw[qfe,qdm];unfold qao;omega
theorem qku(c:Ct)(s:Ste)(k:Nat):qae (stK c s k)=qbd c (qao s) k (qae s):=by
 have h1:=quf c (qao s) (qae s) k;have h2:(qae s).take (qao s)=qeo s.ends++s.inputs:=by unfold qae;rw[List.take_left' (by rw[jF,qeu])]
 rw[h2]at h1;have e:=List.take_append_drop (qao s) (qbd c (qao s) k (qae s));rw[h1]at e;exact e
theorem zbu(c:Ct)(s:Ste)(k:Nat)(hk:k<c.signals.length):(stK c s (k+1)).values=if c.signals[k].kind=0 then(stK c s k).values.set k (c.signals[k].on.holds (qae (stK c s k)))else(stK c s k).values:=by
 have e:c.signals[k]?=some c.signals[k]:=jA hk;rw[qku];unfold stK;simp only[qbd];rw[qgm,e];simp only;split
 .rw[List.drop_set,if_neg (by omega),Nat.add_sub_cancel_left]
 .rfl
abbrev h88(c:Ct)(s:Ste)(k:Nat):H:=[⟨0,.box c.cells⟩,⟨0,.box s.cells⟩,o0,o0,o0,o0,o0,⟨0,.box (q3u 2)⟩,⟨0,.arr 1 (s.ends.map qbk)⟩,⟨0,.arr 1 (s.valves.map qfj)⟩,⟨0,.arr 1 (s.inputs.map qfj)⟩,⟨0,.arr 1 ((stK c s k).values.map qfj)⟩,⟨0,.arr 1 (s.timers.map qbk)⟩,o0,o0,o0,o0,o0,⟨0,.box [.sl 8 0 1 0 s.ends.length,.sl 9 0 1 0 s.valves.length,.sl 10 0 1 0 s.inputs.length,.sl 11 0 1 0 s.values.length,.sl 12 0 1 0 s.timers.length]⟩]
def T88(k:Nat):Tm:=[none,none,bN 0,bN 1,bN 7,bN 18,nN k]++zN 31
theorem z7a(c:Ct)(s:Ste)(hs:s.small)(hS:Shp c s)(hn:c.signals.length<=128)(hok:∀x∈c.signals,x.on.nodes<=256/\x.on.err (qae s).length=0){st:St}(h0:At (T88 0) (h88 c s 0) st):∃r,ev pg (.code (.going 19 L138_0) st)=some r/\qar (.exit 0) (T88 c.signals.length) (h88 c s c.signals.length) r:=by
 refine qfn c.signals.length T88 (h88 c s) _ ?_ ?_ h0
 .intro k f hf hk;have hk':(k:Int)<c.signals.length:=by omega
  have wk:=qbc k;have hsc:=zbu c s k hk;obtain⟨g1,g2⟩:=hok _ (jH hk);have hsm:(stK c s k).small:=⟨hs.e,hs.w,hs.i,by rw[q3i];exact hs.v,hs.t⟩
  have h28:=ev191 c (stK c s k) hsm hS.e;have hLl:(qae (stK c s k)).length=(qae s).length:=by rw[qku,qfe]
  have zhz:=ev190 (qae (stK c s k)) c.signals[k].on g1 (by rw[hLl];exact g2);have hvl:=q3i c s k;have hkv:k<s.values.length:=by rw[hS.v];exact hk
  unfold h88 T88;rw[hsc];have hst:stK c s k=⟨s.ends,s.valves,s.inputs,(stK c s k).values,s.timers⟩:=rfl;generalize hL:qae (stK c s k)=L at *;generalize c.signals[k].on.holds L=v at *;rw[hst]at h28;generalize (stK c s k).values=W at *;by_cases h0:c.signals[k].kind=0
  .have hkW:k<W.length:=by omega
   simp[qab,exT,qag,L138_0,hk,hk',wk,h0,h28,zhz,hvl.symm,hkW,hf.ne]
  .simp[L138_0,hk,hk',wk,h0,hf.ne]
 .intro f hf;unfold T88 h88;simp[L138_0,hf.ne]
theorem ev138(c:Ct)(s:Ste)(hs:s.small)(hS:Shp c s)(hn:c.signals.length<=128)(hok:∀x∈c.signals,x.on.nodes<=256/\x.on.err (qae s).length=0):ev pg (.call (fnq 138) [c.v,s.v] [])=some (rvq ((qdp c s).v)):=by
 have hl:=@z7a c s hs hS hn hok;have h130:=ev189 s hs;have hgl:=qkq (c:=c) s;have hst:qdp c s=⟨s.ends,s.valves,s.inputs,(qdp c s).values,s.timers⟩:=rfl;unfold h88 at hl;rw[zbv,q8x]at hl;rw[hst];generalize (qdp c s).values=W at *;rw[qaa,pg138.1];simp[ir138,h130,qai];generalize hr:ev pg (.code (.going _ L138_0) _)=o;obtain⟨r,rfl,f,hf,rfl⟩:∃r,o=some r/\_:=by rw[<-hr];exact hl (by simp[T88])
 simp[T88,hgl.symm]
def Asc(l:List Int):Prop:=l.Pairwise (· < ·)
theorem qvw:∀{l m:List Int},Asc l->Asc m->(∀x,x∈l<->x∈m)->l=m
 | [],[],_,_,_=>rfl
 | [],y :: m,_,_,h=>absurd ((h y).2 (by simp)) (by simp)
 | x :: l,[],_,_,h=>absurd ((h x).1 (by simp)) (by simp)
 | x :: l,y :: m,hl,hm,h=>by
  have hl':=List.pairwise_cons.1 hl;have hm':=List.pairwise_cons.1 hm;have hxy:x=y:=by
   rcases List.mem_cons.1 ((h x).1 (by simp))with e | e
   .exact e
   .rcases List.mem_cons.1 ((h y).2 (by simp))with e2 | e2
    .exact e2.symm
    .have h1:=hm'.1 x e;have h2:=hl'.1 y e2;omega
  subst hxy;congr 1;refine qvw hl'.2 hm'.2 fun z=>⟨fun hz=>?_,fun hz=>?_⟩
  .rcases List.mem_cons.1 ((h z).1 (by simp[hz]))with e | e
   .have:=hl'.1 z hz;omega
   .exact e
  .rcases List.mem_cons.1 ((h z).2 (by simp[hz]))with e | e
   .have:=hm'.1 z hz;omega
   .exact e
def norm(N:Nat)(l:List Int):List Int:=qsk (fun k=>l.contains (k:Int)) 0 N
theorem qor(N:Nat)(l:List Int):Asc (norm N l):=by unfold norm qsk Asc;rw[List.pairwise_map];refine List.Pairwise.imp ?_ ((List.pairwise_lt_range (n:=N)).filter _);intro a b h;omega
theorem qlp{N:Nat}{l:List Int}{x:Int}:x∈norm N l<->x∈l/\0<=x/\x<N:=by
 unfold norm qsk;simp only[List.mem_map,List.mem_filter,List.mem_range,List.contains_iff_mem];constructor
 .rintro⟨k,⟨h1,h2⟩,rfl⟩;simp only[Int.zero_add];exact⟨h2,by omega,by omega⟩
 .rintro⟨h1,h2,h3⟩;exact⟨x.toNat,⟨by omega,by rw[Int.toNat_of_nonneg h2];exact h1⟩,by omega⟩
theorem zjj{N:Nat}{l:List Int}(hl:Asc l)(h:∀x∈l,0<=x/\x<(N:Int)):norm N l=l :=
 qvw (qor N l) hl fun x=>by rw[qlp];exact⟨fun a=>a.1,fun a=>⟨a,h x a⟩⟩
theorem q0h{N:Nat}{l m:List Int}(h:∀x:Int,0<=x->x<N->(x∈l<->x∈m)):norm N l=norm N m :=
 qvw (qor N l) (qor N m) fun x=>by rw[qlp,qlp];exact⟨fun a=>⟨(h x a.2.1 a.2.2).1 a.1,a.2⟩,fun a=>⟨(h x a.2.1 a.2.2).2 a.1,a.2⟩⟩
def mrg:List Int->List Int->List Int
 | [],m=>m
 | x :: l,[]=>x :: l
 | x :: l,y :: m=>if x<y then x :: mrg l (y :: m)else if y<x then y :: mrg (x :: l) m else x :: mrg l m
termination_by l m=>l.length+m.length
theorem qqa:∀{l m:List Int} {z:Int},z∈mrg l m<->z∈l\/z∈m
 | [],m,z=>by rw[mrg];simp
 | x :: l,[],z=>by rw[mrg];simp
 | x :: l,y :: m,z=>by
  rw[mrg];split
  .rw[List.mem_cons,qqa (l:=l) (m:=y :: m),List.mem_cons (a:=z) (b:=x),or_assoc]
  .split
   .rw[List.mem_cons,qqa (l:=x :: l) (m:=m),List.mem_cons (a:=z) (b:=y) (l:=m)];exact⟨fun h=>h.elim (fun h=>.inr (.inl h)) fun h=>h.elim .inl fun h=>.inr (.inr h),fun h=>h.elim (fun h=>.inr (.inl h)) fun h=>h.elim .inl fun h=>.inr (.inr h)⟩
   .rename_i h1 h2;have:x=y:=by omega
    subst this;rw[List.mem_cons,qqa (l:=l) (m:=m),List.mem_cons,List.mem_cons];exact⟨fun h=>h.elim (fun h=>.inl (.inl h)) fun h=>h.elim (fun h=>.inl (.inr h)) fun h=>.inr (.inr h),fun h=>h.elim (fun h=>h.elim .inl fun h=>.inr (.inl h)) fun h=>h.elim .inl fun h=>.inr (.inr h)⟩
termination_by l m=>l.length+m.length
theorem q2s:∀{l m:List Int},Asc l->Asc m->Asc (mrg l m)
 | [],m,_,hm=>by rw[mrg];exact hm
 | x :: l,[],hl,_=>by rw[mrg];exact hl
 | x :: l,y :: m,hl,hm=>by
  have hl':=List.pairwise_cons.1 hl;have hm':=List.pairwise_cons.1 hm;rw[mrg];split
  .refine List.pairwise_cons.2 ⟨fun z hz=>?_,q2s hl'.2 hm⟩;rcases qqa.1 hz with h | h
   .exact hl'.1 z h
   .rcases List.mem_cons.1 h with h | h
    .omega
    .have:=hm'.1 z h;omega
  .split
   .refine List.pairwise_cons.2 ⟨fun z hz=>?_,q2s hl hm'.2⟩;rcases qqa.1 hz with h | h
    .rcases List.mem_cons.1 h with h | h
     .omega
     .have:=hl'.1 z h;omega
    .exact hm'.1 z h
   .refine List.pairwise_cons.2 ⟨fun z hz=>?_,q2s hl'.2 hm'.2⟩;rcases qqa.1 hz with h | h
    .exact hl'.1 z h
    .have:=hm'.1 z h;omega
termination_by l m=>l.length+m.length
theorem zoi{N:Nat}{l m:List Int}(hl:Asc l)(hm:Asc m)(h1:∀x∈l,0<=x/\x<(N:Int))(h2:∀x∈m,0<=x/\x<(N:Int)):mrg l m=norm N (l++m) :=
 qvw (q2s hl hm) (qor _ _) fun x=>by rw[qqa,qlp,jQ];exact⟨fun h=>⟨h,h.elim (h1 x) (h2 x)⟩,fun h=>h.1⟩
def qaz:List Int->List Int
 | []=>[]
 | [x]=>[x]
 | x :: y :: l=>if x=y then qaz (y :: l)else x :: qaz (y :: l)
theorem qlo:∀{l:List Int} {z:Int},z∈qaz l<->z∈l
 | [],z=>by simp[qaz]
 | [x],z=>by simp[qaz]
 | x :: y :: l,z=>by
  rw[qaz];split
  .rename_i h;rw[qlo (l:=y :: l)];subst h;simp
  .rw[List.mem_cons,qlo (l:=y :: l),List.mem_cons (a:=z) (b:=x)]
theorem qpt:∀{l:List Int},l.Pairwise (·<=·)->Asc (qaz l)
 | [],_=>by rw[qaz];exact List.Pairwise.nil
 | [x],_=>by rw[qaz];exact List.pairwise_singleton ..
 | x :: y :: l,h=>by
  have h':=List.pairwise_cons.1 h;have hy:=List.pairwise_cons.1 h'.2;rw[qaz];split
  .exact qpt h'.2
  .rename_i hne;refine List.pairwise_cons.2 ⟨fun z hz=>?_,qpt h'.2⟩;rw[qlo]at hz;have h1:=h'.1 y (by simp);rcases List.mem_cons.1 hz with e | e
   .omega
   .have:=hy.1 z e;omega
theorem qua{N:Nat}{l m:List Int}(hs:m.Pairwise (·<=·))(hp:∀x,x∈m<->x∈l)(h:∀x∈l,0<=x/\x<(N:Int)):qaz m=norm N l :=
 qvw (qpt hs) (qor _ _) fun x=>by rw[qlo,hp,qlp];exact⟨fun a=>⟨a,h x a⟩,fun a=>a.1⟩
end Go.Proofs.YtggbaapfbgjaeaaGreatDoor
