/- The values of all lines, of a machine of settle. -/
import Derived.Test.YtddeacahiilikaaGreatMSv1
import Derived.KernelRfl
set_option linter.all false
namespace Go.Proofs.YtddeacahiilikaaGreat
open Go Go.Am Go.Proofs
set_option maxRecDepth 100000
abbrev sl5(i:Nat)(u:Ste):List V:=[.sl i 0 1 0 u.ends.length,.sl (i+1) 0 1 0 u.valves.length,.sl (i+2) 0 1 0 u.inputs.length,.sl (i+3) 0 1 0 u.values.length,.sl (i+4) 0 1 0 u.timers.length]
abbrev ar5(u:Ste):H:=[⟨0,.arr 1 (u.ends.map qej)⟩,⟨0,.arr 1 (u.valves.map qia)⟩,⟨0,.arr 1 (u.inputs.map qia)⟩,⟨0,.arr 1 (u.values.map qia)⟩,⟨0,.arr 1 (u.timers.map qej)⟩]
abbrev hM(c:Ct)(s u:Ste)(F:Nat):H:=[⟨0,.box c.cells⟩,⟨0,.box s.cells⟩,o0,o0,o0,o0,o0,⟨0,.box (zhh 2)⟩,⟨0,.box c.cells⟩,⟨0,.box s.cells⟩]++ar5 u++[⟨0,.box (c.cells++sl5 10 u++[num F])⟩]
abbrev hQ(g w:Nat)(L:List Int):H:=[o0,⟨g,.arr w (L.map qej)⟩]
abbrev hB(b:Ste):H:=ar5 b++[o0,o0,o0,o0,o0,⟨0,.box (sl5 18 b)⟩]
abbrev zjb(c:Ct)(s u b:Ste)(F gq wq:Nat)(L:List Int):H:=hM c s u F++hQ gq wq L++hB b
abbrev q7d(c:Ct)(s u b:Ste)(F gq wq:Nat)(L:List Int)(k:Nat)(a:Nat×Nat):H:=zjb c s u b F gq wq L++[o0,⟨a.1,.arr a.2 ((qen (u.ends.take k)).map qia)⟩]
def zkg(u:Ste)(k:Nat)(a:Nat×Nat):Tm:=[some (.bptr 15 0),none,some (.sl 29 0 0 0 0),some (.sl 30 a.1 a.2 0 (2*k)),none,none,none,none,none,none,some (.sl 10 0 1 0 u.ends.length),some (num u.ends.length),some (num k)]++List.replicate 24 none
set_option maxHeartbeats 1000000 in
theorem z7c(c:Ct)(s u b:Ste)(F gq wq:Nat)(L:List Int)(hs:u.small){st:St}(a0:Nat×Nat)(g0:a0.2=1\/a0.2=0)(h0:At (zkg u 0 a0) (q7d c s u b F gq wq L 0 a0) st):∃r,ev pg (.code (.going 31 L300_0) st)=some r/\∃a:Nat×Nat,(a.2=1\/a.2=0)/\qai (.exit 0) (zkg u u.ends.length a) (q7d c s u b F gq wq L u.ends.length a) r:=by
 have hse:=hs.e
 refine qco u.ends.length (zkg u) (q7d c s u b F gq wq L) (fun _ a=>a.2=1\/a.2=0) _ ?_ ?_ a0 g0 h0
 .rintro k ⟨g,m⟩ f hf hk hG
  have hk':(k:Int)<u.ends.length:=by omega
  have wk:=qab (n:=(k:Int)+1) (by omega) (by omega)
  have hlen:(qen (u.ends.take k)).length=2*k:=by rw[qeo,List.length_take];omega
  have hb:2*k+2<=140737488355328:=by omega
  have h2:2*(k+1)=2*k+2:=by omega
  unfold zkg q7d
  rw[qud hk,h2]
  generalize qen (u.ends.take k)=W at *
  have hmm:m=1\/m=0:=hG
  rcases hmm with rfl | rfl<;>simp[L300_0,hk,hk',wk,hb,hlen,hf.ne]
 .rintro⟨g,m⟩ f hf hG
  unfold zkg q7d
  generalize qen (u.ends.take u.ends.length)=W at *
  generalize 2*u.ends.length=N at *
  have hmm:m=1\/m=0:=hG
  rcases hmm with rfl | rfl<;>simp[L300_0,hf.ne]
theorem ev315h{h:H}(hc:qcj h)(n:Nat)(h1:1<=n)(hn:n<=100000):ev pg (.call (.fn 315 [] []) [.nils,num n] h)=some { v:=.sl h.length 0 1 0 0,st:=⟨[],h++[⟨0,.arr 1 []⟩]⟩ }:=by
 have w1:=qab (n:=(n:Int)) (by omega) (by omega)
 have p1:¬((n:Int)<0):=by omega
 have w0:=qab (n:=0) (by omega) (by omega)
 have p3:n*1<=140737488355328:=by omega
 have p4:n<=140737488355328:=by omega
 have hn0:0<n:=by omega
 have hne:¬n=0:=by omega
 have hne2:¬0=n:=by omega
 have hcm:h.map (qbm h.length)=h:=hc
 rw[qac,pg315]
 simp[ir315,w0,w1,p1,hn0,hne,hne2,p3,p4,qcf,qdw,qdt,hcm]
def nK(a b c k:Nat):Nat:=if k=0 then 0 else if k=1 then a else if k=2 then a+b else a+b+c
def wK(a b c:List Bool)(k:Nat):List Bool:=if k=0 then []else if k=1 then a else if k=2 then a++b else a++b++c
abbrev vw3(u:Ste)(g m:Nat):V:=.view false [.sl 30 g m 0 (2*u.ends.length),.sl 12 0 1 0 u.inputs.length,.sl 13 0 1 0 u.values.length]
abbrev q7e(c:Ct)(s u b:Ste)(F gq wq:Nat)(L:List Int)(g m:Nat)(E:List Bool):H:=zjb c s u b F gq wq L++[o0,⟨g,.arr m (E.map qia)⟩]
def qyf(u:Ste)(g m k:Nat):Tm:=[some (vw3 u g m),none,some (.sl 31 0 0 0 0),some (num (nK (2*u.ends.length) u.inputs.length u.values.length k)),none,none,none,none,none,some (vw3 u g m),some (num 3),some (num k)]++List.replicate 24 none
def q6f(u:Ste)(g m k:Nat)(a:Nat×Nat):Tm:=[some (vw3 u g m),none,some (.sl 31 0 0 0 0),none,none,none,some (.sl 32 a.1 a.2 0 (nK (2*u.ends.length) u.inputs.length u.values.length k))]++List.replicate 18 none++[some (vw3 u g m),some (num 3),some (num k)]++List.replicate 8 none
set_option maxHeartbeats 2000000 in
theorem ev307m(c:Ct)(s u b:Ste)(F gq wq:Nat)(L:List Int)(hs:u.small)(h1:1<=u.ends.length)(g m:Nat)(hm:m=1\/m=0)(E:List Bool)(hE:E.length=2*u.ends.length):ev pg (.call (.fn 307 [] []) [vw3 u g m] (q7e c s u b F gq wq L g m E))=some { v:=.sl 31 0 1 0 (2*u.ends.length+u.inputs.length+u.values.length),st:=⟨[],q7e c s u b F gq wq L g m E++[⟨0,.arr 1 ((E++u.inputs++u.values).map qia)⟩]⟩ }:=by
 have s1:=hs.e
 have s2:=hs.i
 have s3:=hs.v
 have la:∀st,At (qyf u g m 0) (q7e c s u b F gq wq L g m E++[o0]) st->∃r,ev pg (.code (.going 32 L307_0) st)=some r/\qai (.exit 0) (qyf u g m 3) (q7e c s u b F gq wq L g m E++[o0]) r:=by
  intro st h0
  refine qfd 3 (qyf u g m) (fun _=>q7e c s u b F gq wq L g m E++[o0]) _ ?_ ?_ h0
  .intro k f hf hk
   have hk3:k=0\/k=1\/k=2:=by omega
   have x1:¬(2*(u.ends.length:Int))<0:=by omega
   have x2:¬(2*(u.ends.length:Int)+(u.inputs.length:Int))<0:=by omega
   have x3:¬(2*(u.ends.length:Int)+(u.inputs.length:Int)+(u.values.length:Int))<0:=by omega
   have y1:=qab (n:=2*(u.ends.length:Int)) (by omega) (by omega)
   have y2:=qab (n:=2*(u.ends.length:Int)+(u.inputs.length:Int)) (by omega) (by omega)
   have y3:=qab (n:=2*(u.ends.length:Int)+(u.inputs.length:Int)+(u.values.length:Int)) (by omega) (by omega)
   have z1:IntKind.i64.wrap 1=1:=by decide
   have z2:IntKind.i64.wrap 2=2:=by decide
   have z3:IntKind.i64.wrap 3=3:=by decide
   rcases hk3 with rfl | rfl | rfl<;>rcases hm with rfl | rfl<;>simp[L307_0,qyf,nK,x1,x2,x3,y1,y2,y3,z1,z2,z3,hf.ne]
  .intro f hf
   simp[L307_0,qyf,hf.ne]
 have lb:∀st,At (q6f u g m 0 (0,1)) (q7e c s u b F gq wq L g m E++[o0,⟨0,.arr 1 []⟩]) st->∃r,ev pg (.code (.going 33 L307_1) st)=some r/\∃a:Nat×Nat,a.2=1/\qai (.exit 2) (q6f u g m 3 a) (q7e c s u b F gq wq L g m E++[o0,⟨a.1,.arr a.2 ((wK E u.inputs u.values 3).map qia)⟩]) r:=by
  intro st h0
  refine qco 3 (q6f u g m) (fun k a=>q7e c s u b F gq wq L g m E++[o0,⟨a.1,.arr a.2 ((wK E u.inputs u.values k).map qia)⟩]) (fun _ a=>a.2=1) _ ?_ ?_ (0,1) rfl (by simpa[wK]using h0)
  .rintro k ⟨g2,m2⟩ f hf hk hG
   obtain rfl:m2=1:=hG
   have hk3:k=0\/k=1\/k=2:=by omega
   have z1:IntKind.i64.wrap 1=1:=by decide
   have z2:IntKind.i64.wrap 2=2:=by decide
   have z3:IntKind.i64.wrap 3=3:=by decide
   have y1:2*u.ends.length<=140737488355328:=by omega
   have y2:2*u.ends.length+u.inputs.length<=140737488355328:=by omega
   have y3:2*u.ends.length+u.inputs.length+u.values.length<=140737488355328:=by omega
   rcases hk3 with rfl | rfl | rfl<;>rcases hm with rfl | rfl<;>simp[L307_1,q6f,nK,wK,hE,y1,y2,y3,z1,z2,z3,hf.ne]
  .rintro⟨g2,m2⟩ f hf hG
   obtain rfl:m2=1:=hG
   simp[L307_1,q6f,hf.ne]
 have hcal:qcj (q7e c s u b F gq wq L g m E++[o0]):=by
  unfold qcj
  simp
 have e189:=ev315h hcal (2*u.ends.length+u.inputs.length+u.values.length) (by omega) (by omega)
 have hW:wK E u.inputs u.values 3=E++u.inputs++u.values:=by simp[wK]
 have hN:nK (2*u.ends.length) u.inputs.length u.values.length 3=2*u.ends.length+u.inputs.length+u.values.length:=by simp[nK]
 have hla:∀f,fill f 0 (qyf u g m 3)=fill f 0 ([some (vw3 u g m),none,some (.sl 31 0 0 0 0),some (num (2*u.ends.length+u.inputs.length+u.values.length:Nat)),none,none,none,none,none,some (vw3 u g m),some (num 3),some (num 3)]++List.replicate 24 none):=fun f=>by
  unfold qyf
  rw[hN]
  rfl
 rw[hW]at lb
 have hlen:((E++u.inputs++u.values).map qia).length=2*u.ends.length+u.inputs.length+u.values.length:=by
  simp[hE]
  omega
 generalize (E++u.inputs++u.values).map qia=W at *
 have lb':∀st,At ([some (vw3 u g m),none,some (.sl 31 0 0 0 0),none,none,none,some (.sl 32 0 1 0 0)]++List.replicate 18 none++[some (vw3 u g m),some (num 3),some (num 0)]++List.replicate 8 none) (q7e c s u b F gq wq L g m E++[o0,⟨0,.arr 1 []⟩]) st->∃r,ev pg (.code (.going 33 L307_1) st)=some r/\∃a:Nat×Nat,a.2=1/\qai (.exit 2) ([none,none,none,none,none,none,some (.sl 32 a.1 a.2 0 (2*u.ends.length+u.inputs.length+u.values.length))]++List.replicate 29 none) (q7e c s u b F gq wq L g m E++[o0,⟨a.1,.arr a.2 W⟩]) r:=by
  intro st h0
  obtain⟨r,e,a,ha,f,hf,rfl⟩:=lb st h0
  refine⟨_,e,a,ha,?_⟩
  unfold q6f
  rw[hN]
  generalize 2*u.ends.length+u.inputs.length+u.values.length=N at *
  simp[hf.ne]
 generalize 2*u.ends.length+u.inputs.length+u.values.length=N at *
 simp at e189
 rw[qac,pg307]
 simp[ir307,qaf]
 generalize hr:ev pg (.code (.going _ L307_0) _)=o
 obtain⟨r,rfl,f,hf,rfl⟩:∃r,o=some r/\_:=by rw[<-hr];exact la _ (by simp[qyf,nK])
 clear hr
 rw[hla]
 simp[e189,hf.ne,qaf]
 generalize hr:ev pg (.code (.going _ L307_1) _)=o
 obtain⟨r,rfl,⟨g2,m2⟩,hm2,f2,hf2,rfl⟩:∃r,o=some r/\_:=by rw[<-hr];exact lb' _ (by simp[hf.ne])
 obtain rfl:m2=1:=hm2
 clear hr
 simp[qcf,qdw,qdt,hlen]
set_option maxHeartbeats 1000000 in
theorem ev300(c:Ct)(s u b:Ste)(F gq wq:Nat)(L:List Int)(hs:u.small)(h1:1<=u.ends.length):ev pg (.call (.fn 300 [] []) [.bptr 15 0] (zjb c s u b F gq wq L))=some { v:=.sl 29 0 1 0 (qag u).length,st:=⟨[],zjb c s u b F gq wq L++[⟨0,.arr 1 ((qag u).map qia)⟩]⟩ }:=by
 have hl:=@z7c c s u b F gq wq L hs
 have he:=qeo u.ends
 have hlen:=qez u
 have q7e:=fun g m hm=>ev307m c s u b F gq wq L hs h1 g m hm (qen u.ends) he
 unfold q7d at hl
 rw[List.take_length,List.take_zero,qen]at hl
 unfold qag at hlen ⊢
 rw[hlen]
 have hWl:((qen u.ends++u.inputs++u.values).map qia).length=2*u.ends.length+u.inputs.length+u.values.length:=by rw[List.length_map,hlen]
 generalize (qen u.ends++u.inputs++u.values).map qia=W at *
 generalize qen u.ends=E at *
 generalize hN:2*u.ends.length+u.inputs.length+u.values.length=N at *
 rw[qac,pg300]
 simp[ir300,qaf]
 generalize hr:ev pg (.code (.going _ L300_0) _)=o
 obtain⟨r,rfl,⟨g,m⟩,hm,f,hf,rfl⟩:∃r,o=some r/\_:=by rw[<-hr];exact hl (0,0) (.inr rfl) (by simp[zkg])
 clear hr
 have hmm:m=1\/m=0:=hm
 have h174':=q7e g m hmm
 simp at h174'
 rcases hmm with rfl | rfl<;>simp[qaa,exT,qad,zkg,he,h174',qcf,qdw,qdt,hWl]
end Go.Proofs.YtddeacahiilikaaGreat
