/- The values of all lines, of a machine of settle. Gates are computed, by settle; the rules. What is at rest. -/
import Derived.Test.YtbhkplbciajikaaGreatSv1
import Derived.KernelRfl
import Derived.Test.YtbhkplbciajikaaGreatOn2
set_option linter.all false
namespace Go.Proofs.YtbhkplbciajikaaGreat
open Go Go.Am Go.Proofs
set_option maxRecDepth 100000
abbrev sl5 (i:Nat) (u:Ste):List V:=[.sl i 0 1 0 u.ends.length,.sl (i + 1) 0 1 0 u.valves.length,.sl (i + 2) 0 1 0 u.inputs.length,.sl (i + 3) 0 1 0 u.values.length,.sl (i + 4) 0 1 0 u.timers.length]
abbrev ar5 (u:Ste):H:=[⟨0,.arr 1 (u.ends.map nrow)⟩,⟨0,.arr 1 (u.valves.map brow)⟩,⟨0,.arr 1 (u.inputs.map brow)⟩,⟨0,.arr 1 (u.values.map brow)⟩,⟨0,.arr 1 (u.timers.map nrow)⟩]
abbrev hM (c:Ct) (s u:Ste) (F:Nat):H:=[⟨0,.box c.cells⟩,⟨0,.box s.cells⟩,o0,o0,o0,o0,o0,⟨0,.box (nil5 2)⟩,⟨0,.box c.cells⟩,⟨0,.box s.cells⟩]++ar5 u++[⟨0,.box (c.cells++sl5 10 u++[num F])⟩]
abbrev hQ (g w:Nat) (L:List Int):H:=[o0,⟨g,.arr w (L.map nrow)⟩]
abbrev hB (b:Ste):H:=ar5 b++[o0,o0,o0,o0,o0,⟨0,.box (sl5 18 b)⟩]
abbrev h163 (c:Ct) (s u b:Ste) (F gq wq:Nat) (L:List Int):H:=hM c s u F++hQ gq wq L++hB b
abbrev h163k (c:Ct) (s u b:Ste) (F gq wq:Nat) (L:List Int) (k:Nat) (a:Nat × Nat):H:=h163 c s u b F gq wq L++[o0,⟨a.1,.arr a.2 ((endsB (u.ends.take k)).map brow)⟩]
def T163 (u:Ste) (k:Nat) (a:Nat × Nat):Tm:=[some (.bptr 15 0),none,some (.sl 29 0 0 0 0),some (.sl 30 a.1 a.2 0 (2 * k)),none,none,none,none,none,none,some (.sl 10 0 1 0 u.ends.length),some (num u.ends.length),some (num k)]++List.replicate 24 none
set_option maxHeartbeats 1000000 in
theorem lp163 (c:Ct) (s u b:Ste) (F gq wq:Nat) (L:List Int) (hs:u.small) {st:St} (a0:Nat × Nat) (g0:a0.2=1∨a0.2=0) (h0:At (T163 u 0 a0) (h163k c s u b F gq wq L 0 a0) st):∃ r,ev pg (.code (.going 31 L163_0) st)=some r∧∃ a:Nat × Nat,(a.2=1∨a.2=0)∧EndsAs (.exit 0) (T163 u u.ends.length a) (h163k c s u b F gq wq L u.ends.length a) r:=by
 have hse:=hs.e
 refine loop_at u.ends.length (T163 u) (h163k c s u b F gq wq L) (fun _ a=>a.2=1∨a.2=0) _ ?_ ?_ a0 g0 h0
 ·rintro k ⟨g,m⟩ f hf hk hG
  have hk':(k:Int) < u.ends.length:=by omega
  have wk:=wrap_id (n:=(k:Int) + 1) (by omega) (by omega)
  have hlen:(endsB (u.ends.take k)).length=2 * k:=by rw [endsB_len,List.length_take]; omega
  have hb:2 * k + 2≤140737488355328:=by omega
  have h2:2 * (k + 1)=2 * k + 2:=by omega
  unfold T163 h163k
  rw [endsB_succ hk,h2]
  generalize endsB (u.ends.take k)=W at *
  have hmm:m=1∨m=0:=hG
  rcases hmm with rfl | rfl <;> simp [L163_0,hk,hk',wk,hb,hlen,hf.ne]
 ·rintro ⟨g,m⟩ f hf hG
  unfold T163 h163k
  generalize endsB (u.ends.take u.ends.length)=W at *
  generalize 2 * u.ends.length=N at *
  have hmm:m=1∨m=0:=hG
  rcases hmm with rfl | rfl <;> simp [L163_0,hf.ne]
theorem ev189h {h:H} (hc:calm h) (n:Nat) (h1:1≤n) (hn:n≤100000):ev pg (.call (.fn 189 [] []) [.nils,num n] h)=some { v:=.sl h.length 0 1 0 0,st:=⟨[],h++[⟨0,.arr 1 []⟩]⟩ }:=by
 have w1:=wrap_id (n:=(n:Int)) (by omega) (by omega)
 have p1:¬ ((n:Int) < 0):=by omega
 have w0:=wrap_id (n:=0) (by omega) (by omega)
 have p3:n * 1≤140737488355328:=by omega
 have p4:n≤140737488355328:=by omega
 have hn0:0 < n:=by omega
 have hne:¬ n=0:=by omega
 have hne2:¬ 0=n:=by omega
 have hcm:h.map (scrubO h.length)=h:=hc
 rw [ev_call,pg189]
 simp [ir189,w0,w1,p1,hn0,hne,hne2,p3,p4,moveVs,moveV,move1,hcm]
def nK (a b c k:Nat):Nat:=if k=0 then 0 else if k=1 then a else if k=2 then a + b else a + b + c
def wK (a b c:List Bool) (k:Nat):List Bool:=if k=0 then [] else if k=1 then a else if k=2 then a++b else a++b++c
abbrev vw3 (u:Ste) (g m:Nat):V:=.view false [.sl 30 g m 0 (2 * u.ends.length),.sl 12 0 1 0 u.inputs.length,.sl 13 0 1 0 u.values.length]
abbrev h174 (c:Ct) (s u b:Ste) (F gq wq:Nat) (L:List Int) (g m:Nat) (E:List Bool):H:=h163 c s u b F gq wq L++[o0,⟨g,.arr m (E.map brow)⟩]
def T174a (u:Ste) (g m k:Nat):Tm:=[some (vw3 u g m),none,some (.sl 31 0 0 0 0),some (num (nK (2 * u.ends.length) u.inputs.length u.values.length k)),none,none,none,none,none,some (vw3 u g m),some (num 3),some (num k)]++List.replicate 24 none
def T174b (u:Ste) (g m k:Nat) (a:Nat × Nat):Tm:=[some (vw3 u g m),none,some (.sl 31 0 0 0 0),none,none,none,some (.sl 32 a.1 a.2 0 (nK (2 * u.ends.length) u.inputs.length u.values.length k))]++List.replicate 18 none++[some (vw3 u g m),some (num 3),some (num k)]++List.replicate 8 none
set_option maxHeartbeats 2000000 in
theorem ev174m (c:Ct) (s u b:Ste) (F gq wq:Nat) (L:List Int) (hs:u.small) (h1:1≤u.ends.length) (g m:Nat) (hm:m=1∨m=0) (E:List Bool) (hE:E.length=2 * u.ends.length):ev pg (.call (.fn 174 [] []) [vw3 u g m] (h174 c s u b F gq wq L g m E))=some { v:=.sl 31 0 1 0 (2 * u.ends.length + u.inputs.length + u.values.length),st:=⟨[],h174 c s u b F gq wq L g m E++[⟨0,.arr 1 ((E++u.inputs++u.values).map brow)⟩]⟩ }:=by
 have s1:=hs.e
 have s2:=hs.i
 have s3:=hs.v
 have la:∀ st,At (T174a u g m 0) (h174 c s u b F gq wq L g m E++[o0]) st→∃ r,ev pg (.code (.going 32 L174_0) st)=some r∧EndsAs (.exit 0) (T174a u g m 3) (h174 c s u b F gq wq L g m E++[o0]) r:=by
  intro st h0
  refine loop_pic 3 (T174a u g m) (fun _=>h174 c s u b F gq wq L g m E++[o0]) _ ?_ ?_ h0
  ·intro k f hf hk
   have hk3:k=0∨k=1∨k=2:=by omega
   have x1:¬ (2 * (u.ends.length:Int)) < 0:=by omega
   have x2:¬ (2 * (u.ends.length:Int) + (u.inputs.length:Int)) < 0:=by omega
   have x3:¬ (2 * (u.ends.length:Int) + (u.inputs.length:Int) + (u.values.length:Int)) < 0:=by omega
   have y1:=wrap_id (n:=2 * (u.ends.length:Int)) (by omega) (by omega)
   have y2:=wrap_id (n:=2 * (u.ends.length:Int) + (u.inputs.length:Int)) (by omega) (by omega)
   have y3:=wrap_id (n:=2 * (u.ends.length:Int) + (u.inputs.length:Int) + (u.values.length:Int)) (by omega) (by omega)
   have z1:IntKind.i64.wrap 1=1:=by decide
   have z2:IntKind.i64.wrap 2=2:=by decide
   have z3:IntKind.i64.wrap 3=3:=by decide
   rcases hk3 with rfl | rfl | rfl <;> rcases hm with rfl | rfl <;> simp [L174_0,T174a,nK,x1,x2,x3,y1,y2,y3,z1,z2,z3,hf.ne]
  ·intro f hf
   simp [L174_0,T174a,hf.ne]
 have lb:∀ st,At (T174b u g m 0 (0,1)) (h174 c s u b F gq wq L g m E++[o0,⟨0,.arr 1 []⟩]) st→∃ r,ev pg (.code (.going 33 L174_1) st)=some r∧∃ a:Nat × Nat,a.2=1∧EndsAs (.exit 2) (T174b u g m 3 a) (h174 c s u b F gq wq L g m E++[o0,⟨a.1,.arr a.2 ((wK E u.inputs u.values 3).map brow)⟩]) r:=by
  intro st h0
  refine loop_at 3 (T174b u g m) (fun k a=>h174 c s u b F gq wq L g m E++[o0,⟨a.1,.arr a.2 ((wK E u.inputs u.values k).map brow)⟩]) (fun _ a=>a.2=1) _ ?_ ?_ (0,1) rfl (by simpa [wK] using h0)
  ·rintro k ⟨g2,m2⟩ f hf hk hG
   obtain rfl:m2=1:=hG
   have hk3:k=0∨k=1∨k=2:=by omega
   have z1:IntKind.i64.wrap 1=1:=by decide
   have z2:IntKind.i64.wrap 2=2:=by decide
   have z3:IntKind.i64.wrap 3=3:=by decide
   have y1:2 * u.ends.length≤140737488355328:=by omega
   have y2:2 * u.ends.length + u.inputs.length≤140737488355328:=by omega
   have y3:2 * u.ends.length + u.inputs.length + u.values.length≤140737488355328:=by omega
   rcases hk3 with rfl | rfl | rfl <;> rcases hm with rfl | rfl <;> simp [L174_1,T174b,nK,wK,hE,y1,y2,y3,z1,z2,z3,hf.ne]
  ·rintro ⟨g2,m2⟩ f hf hG
   obtain rfl:m2=1:=hG
   simp [L174_1,T174b,hf.ne]
 have hcal:calm (h174 c s u b F gq wq L g m E++[o0]):=by
  unfold calm
  simp
 have e189:=ev189h hcal (2 * u.ends.length + u.inputs.length + u.values.length) (by omega) (by omega)
 have hW:wK E u.inputs u.values 3=E++u.inputs++u.values:=by simp [wK]
 have hN:nK (2 * u.ends.length) u.inputs.length u.values.length 3=2 * u.ends.length + u.inputs.length + u.values.length:=by simp [nK]
 have hla:∀ f,fill f 0 (T174a u g m 3)=fill f 0 ([some (vw3 u g m),none,some (.sl 31 0 0 0 0),some (num (2 * u.ends.length + u.inputs.length + u.values.length:Nat)),none,none,none,none,none,some (vw3 u g m),some (num 3),some (num 3)]++List.replicate 24 none):=fun f=>by
  unfold T174a
  rw [hN]
  rfl
 rw [hW] at lb
 have hlen:((E++u.inputs++u.values).map brow).length=2 * u.ends.length + u.inputs.length + u.values.length:=by
  simp [hE]
  omega
 generalize (E++u.inputs++u.values).map brow=W at *
 have lb':∀ st,At ([some (vw3 u g m),none,some (.sl 31 0 0 0 0),none,none,none,some (.sl 32 0 1 0 0)]++List.replicate 18 none++[some (vw3 u g m),some (num 3),some (num 0)]++List.replicate 8 none) (h174 c s u b F gq wq L g m E++[o0,⟨0,.arr 1 []⟩]) st→∃ r,ev pg (.code (.going 33 L174_1) st)=some r∧∃ a:Nat × Nat,a.2=1∧EndsAs (.exit 2) ([none,none,none,none,none,none,some (.sl 32 a.1 a.2 0 (2 * u.ends.length + u.inputs.length + u.values.length))]++List.replicate 29 none) (h174 c s u b F gq wq L g m E++[o0,⟨a.1,.arr a.2 W⟩]) r:=by
  intro st h0
  obtain ⟨r,e,a,ha,f,hf,rfl⟩:=lb st h0
  refine ⟨_,e,a,ha,?_⟩
  unfold T174b
  rw [hN]
  generalize 2 * u.ends.length + u.inputs.length + u.values.length=N at *
  simp [hf.ne]
 generalize 2 * u.ends.length + u.inputs.length + u.values.length=N at *
 simp at e189
 rw [ev_call,pg174]
 simp [ir174,ev_loop]
 generalize hr:ev pg (.code (.going _ L174_0) _)=o
 obtain ⟨r,rfl,f,hf,rfl⟩:∃ r,o=some r∧_:=by rw [← hr]; exact la _ (by simp [T174a,nK])
 clear hr
 rw [hla]
 simp [e189,hf.ne,ev_loop]
 generalize hr:ev pg (.code (.going _ L174_1) _)=o
 obtain ⟨r,rfl,⟨g2,m2⟩,hm2,f2,hf2,rfl⟩:∃ r,o=some r∧_:=by rw [← hr]; exact lb' _ (by simp [hf.ne])
 obtain rfl:m2=1:=hm2
 clear hr
 simp [moveVs,moveV,move1,hlen]
set_option maxHeartbeats 1000000 in
theorem ev163 (c:Ct) (s u b:Ste) (F gq wq:Nat) (L:List Int) (hs:u.small) (h1:1≤u.ends.length):ev pg (.call (.fn 163 [] []) [.bptr 15 0] (h163 c s u b F gq wq L))=some { v:=.sl 29 0 1 0 (linesV u).length,st:=⟨[],h163 c s u b F gq wq L++[⟨0,.arr 1 ((linesV u).map brow)⟩]⟩ }:=by
 have hl:=@lp163 c s u b F gq wq L hs
 have he:=endsB_len u.ends
 have hlen:=linesV_len u
 have h174:=fun g m hm=>ev174m c s u b F gq wq L hs h1 g m hm (endsB u.ends) he
 unfold h163k at hl
 rw [List.take_length,List.take_zero,endsB] at hl
 unfold linesV at hlen ⊢
 rw [hlen]
 have hWl:((endsB u.ends++u.inputs++u.values).map brow).length=2 * u.ends.length + u.inputs.length + u.values.length:=by rw [List.length_map,hlen]
 generalize (endsB u.ends++u.inputs++u.values).map brow=W at *
 generalize endsB u.ends=E at *
 generalize hN:2 * u.ends.length + u.inputs.length + u.values.length=N at *
 rw [ev_call,pg163]
 simp [ir163,ev_loop]
 generalize hr:ev pg (.code (.going _ L163_0) _)=o
 obtain ⟨r,rfl,⟨g,m⟩,hm,f,hf,rfl⟩:∃ r,o=some r∧_:=by rw [← hr]; exact hl (0,0) (.inr rfl) (by simp [T163])
 clear hr
 have hmm:m=1∨m=0:=hm
 have h174':=h174 g m hmm
 simp at h174'
 rcases hmm with rfl | rfl <;> simp [ev_draw1,exT,chkOk,T163,he,h174',moveVs,moveV,move1,hWl]
abbrev h162 (c:Ct) (s u b:Ste) (gq wq:Nat) (L:List Int) (k:Nat):H:=h163 c s (stK c u k) b (firstS u) gq wq L++[⟨0,.arr 1 ((gatesTo c (firstS u) k (linesV u)).map brow)⟩]
def T162 (c:Ct) (N k:Nat):Tm:=[some (.bptr 15 0),none,some (.sl 29 0 1 0 N),none,none,none,none,none,none,none,none,none,some (.imm (c.signals.map Sg.row)),some (num c.signals.length),some (num k)]++List.replicate 29 none
set_option maxHeartbeats 2000000 in
theorem lp162 (c:Ct) (s u b:Ste) (gq wq:Nat) (L:List Int) (hs:u.small) (hS:Shp c u) (hn:c.signals.length≤128) (hF:firstS u≤10000) (hok:∀ x ∈ c.signals,x.on.nodes≤256∧x.on.err (linesV u).length=0) {st:St} (h0:At (T162 c (linesV u).length 0) (h162 c s u b gq wq L 0) st):∃ r,ev pg (.code (.going 30 L162_0) st)=some r∧EndsAs (.exit 0) (T162 c (linesV u).length c.signals.length) (h162 c s u b gq wq L c.signals.length) r:=by
 refine loop_pic c.signals.length (T162 c (linesV u).length) (h162 c s u b gq wq L) _ ?_ ?_ h0
 ·intro k f hf hk
  have hk':(k:Int) < c.signals.length:=by omega
  have wk:=wrap_id (n:=(k:Int) + 1) (by omega) (by omega)
  have hsc:=stK_succ c u k hk
  obtain ⟨g1,g2⟩:=hok _ (List.getElem_mem hk)
  have hLl:(linesV (stK c u k)).length=(linesV u).length:=by rw [lines_stK,gatesTo_len]
  have h165:=ev165 (linesV (stK c u k)) c.signals[k].on g1 (by rw [hLl]; exact g2)
  have hvl:=stK_len c u k
  have hkv:k < u.values.length:=by rw [hS.v]; exact hk
  have hgt:gatesTo c (firstS u) (k + 1) (linesV u)=if c.signals[k].kind=0 then (gatesTo c (firstS u) k (linesV u)).set (firstS u + k) (c.signals[k].on.holds (linesV (stK c u k))) else gatesTo c (firstS u) k (linesV u):=by
   rw [gatesTo,gateStep,List.getElem?_eq_getElem hk,lines_stK]
  have hst:∀ j,stK c u j=⟨u.ends,u.valves,u.inputs,(stK c u j).values,u.timers⟩:=fun j=>rfl
  have hlt:(gatesTo c (firstS u) k (linesV u)).length=(linesV u).length:=gatesTo_len _ _ _ _
  have hFk:firstS u + k < (linesV u).length:=by
   rw [linesV_len]; unfold firstS; omega
  rw [lines_stK] at h165 hgt
  unfold h162
  rw [hst (k + 1),hst k,hsc,hgt,lines_stK]
  unfold T162
  generalize gatesTo c (firstS u) k (linesV u)=G at *
  generalize hv:c.signals[k].on.holds G=v at *
  generalize (stK c u k).values=W at *
  generalize firstS u=F at *
  have hkW:k < W.length:=by omega
  have wF:=wrap_id (n:=(F:Int) + k) (by omega) (by omega)
  have pF:(0:Int)≤(F:Int) + k:=by omega
  have tF:((F:Int) + k).toNat=F + k:=by omega
  generalize (linesV u).length=N at *
  by_cases h0:c.signals[k].kind=0
  ·have hFk':F + k < G.length:=by omega
   simp [ev_draw1,exT,chkOk,L162_0,hk,hk',wk,h0,hlt.symm,h165,hkW,hkv,hFk',hvl,wF,pF,tF,hf.ne]
  ·have h0b:(c.signals[k].kind == 0)=false:=by simpa using h0
   simp [L162_0,hk,hk',wk,h0,h0b,hf.ne]
 ·intro f hf
  unfold T162 h162
  simp [L162_0,hf.ne]
set_option maxHeartbeats 1000000 in
theorem ev162 (c:Ct) (s u b:Ste) (gq wq:Nat) (L:List Int) (hs:u.small) (hS:Shp c u) (hn:c.signals.length≤128) (hF:firstS u≤10000) (h1:1≤u.ends.length) (hok:∀ x ∈ c.signals,x.on.nodes≤256∧x.on.err (linesV u).length=0):ev pg (.call (.fn 162 [] []) [.bptr 15 0] (h163 c s u b (firstS u) gq wq L))=some { v:=.tup [],st:=⟨[],h163 c s (gated c u) b (firstS u) gq wq L⟩ }:=by
 have hl:=@lp162 c s u b gq wq L hs hS hn hF hok
 have e163:=ev163 c s u b (firstS u) gq wq L hs h1
 have hst:∀ j,stK c u j=⟨u.ends,u.valves,u.inputs,(stK c u j).values,u.timers⟩:=fun j=>rfl
 have hvl:=stK_len c u c.signals.length
 unfold h162 at hl
 rw [stK_zero,stK_all,show gatesTo c (firstS u) 0 (linesV u)=linesV u from rfl] at hl
 rw [stK_all] at hvl
 have hg:gated c u=⟨u.ends,u.valves,u.inputs,(gated c u).values,u.timers⟩:=rfl
 rw [hg] at hl ⊢
 generalize (gated c u).values=W at *
 generalize gatesTo c (firstS u) c.signals.length (linesV u)=G at *
 generalize firstS u=F at *
 generalize linesV u=LL at *
 simp at e163
 rw [ev_call,pg162]
 simp [ir162,e163,ev_loop]
 generalize hr:ev pg (.code (.going _ L162_0) _)=o
 obtain ⟨r,rfl,f,hf,rfl⟩:∃ r,o=some r∧_:=by rw [← hr]; exact hl (by simp [T162])
 clear hr
 simp [T162]
abbrev chg (v:Bool) (t:Int) (b:Bool):V:=.agg [.bool v,num t,.bool b]
theorem ev175 (v:Bool) (t:Int) (b on off:Bool):ev pg (.call (.fn 175 [] []) [chg v t b,.bool on,.bool off] [])=some { v:=chg v t b,st:=⟨[],[]⟩ }:=by
 rw [ev_call,pg175]
 simp [ir175]
theorem ev176 (v:Bool) (t:Int) (b on off:Bool):ev pg (.call (.fn 176 [] []) [chg v t b,.bool on,.bool off] [])=some { v:=chg (if on != off then on else v) t (on && off),st:=⟨[],[]⟩ }:=by
 rw [ev_call,pg176]
 cases on <;> cases off <;> simp [ir176]
theorem ev177 (v:Bool) (t:Int) (b on off:Bool):ev pg (.call (.fn 177 [] []) [chg v t b,.bool on,.bool off] [])=some { v:=if on=true then chg v (if t=0 then 1 else t) b else chg false 0 false,st:=⟨[],[]⟩ }:=by
 rw [ev_call,pg177]
 cases on with
 | false=>simp [ir177]
 | true =>
  by_cases h:t=0
  ·simp [ir177,h]
  ·have hb:(t == 0)=false:=by simpa using h
   simp [ir177,h,hb]
abbrev rulesV:V:=.agg [.fn 175 [] [],.fn 176 [] [],.fn 177 [] []]
theorem ev164:ev pg (.call (.fn 164 [] []) [] [])=some { v:=rulesV,st:=⟨[],[]⟩ }:=by
 rw [ev_call,pg164]
 simp [ir164]
theorem sameT_self (s:Ste):sameT s s=true:=sameT_iff.2 rfl
theorem restGo_still {c:Ct}:∀ {d:Nat} {s:Ste} {l:List Int} {t:Ste} {m:List Int},restGo c d s l=some (t,m)→∃ a,roundV c t=some (t,a)
 | 0,_,_,_,_,h=>by cases h
 | d + 1,s,l,t,m,h=>by
  rw [restGo] at h
  cases e:roundV c s with
  | none=>rw [e] at h; cases h
  | some x =>
   rw [e] at h
   simp only at h
   split at h
   ·rename_i hs
    cases h
    have:=sameT_iff.1 hs
    exact ⟨x.2,by rw [e,this]⟩
   ·exact restGo_still h
theorem restV_still {c:Ct} {s t:Ste} {m:List Int} (h:restV c s=some (t,m)):∃ a,roundV c t=some (t,a):=restGo_still h
theorem still_rest {c:Ct} {t:Ste} {a:List Int} (h:roundV c t=some (t,a)):restV c t=some (t,norm (allN c) a):=by
 unfold restV
 rw [restGo,h]
 simp only [sameT_self,if_true,List.nil_append]
theorem settleGo_same {c:Ct} {N:Nat}:∀ {d:Nat} {s:Ste} {l:List Int} {t:Ste} {m:List Int},settleGo c N d s l=some (t,m)→t.ends=s.ends∧t.valves=s.valves∧t.inputs=s.inputs
 | 0,_,_,_,_,h=>by cases h
 | d + 1,s,l,t,m,h=>by
  rw [settleGo] at h
  split at h
  ·cases h; exact ⟨rfl,rfl,rfl⟩
  ·exact settleGo_same (s:=onceV c s) h
theorem settleV_same {c:Ct} {s t:Ste} {m:List Int} (h:settleV c s=some (t,m)):t.ends=s.ends∧t.valves=s.valves∧t.inputs=s.inputs:=settleGo_same h
theorem roundV_parts {c:Ct} {s t:Ste} {a:List Int} (h:roundV c s=some (t,a)):∃ u m,settleV c s=some (u,m)∧t=goesS (valvS c u)∧a=norm (allN c) (m++confS c u):=by
 unfold roundV at h
 cases e:settleV c s with
 | none=>rw [e] at h; cases h
 | some x =>
  rw [e] at h
  cases h
  exact ⟨x.1,x.2,rfl,rfl,rfl⟩
theorem roundV_inputs {c:Ct} {s t:Ste} {a:List Int} (h:roundV c s=some (t,a)):t.inputs=s.inputs:=by
 obtain ⟨u,m,hu,rfl,_⟩:=roundV_parts h
 exact (settleV_same hu).2.2
theorem restGo_inputs {c:Ct}:∀ {d:Nat} {s:Ste} {l:List Int} {t:Ste} {m:List Int},restGo c d s l=some (t,m)→t.inputs=s.inputs
 | 0,_,_,_,_,h=>by cases h
 | d + 1,s,l,t,m,h=>by
  rw [restGo] at h
  cases e:roundV c s with
  | none=>rw [e] at h; cases h
  | some x =>
   rw [e] at h
   simp only at h
   split at h
   ·cases h; rfl
   ·rw [restGo_inputs h,roundV_inputs (show roundV c s=some (x.1,x.2) from e)]
theorem restV_inputs {c:Ct} {s t:Ste} {m:List Int} (h:restV c s=some (t,m)):t.inputs=s.inputs:=restGo_inputs h
theorem still_parts {c:Ct} {t:Ste} {a:List Int} (h:roundV c t=some (t,a)):(∃ m,settleV c t=some (t,m))∧valvS c t=t∧goesS t=t:=by
 obtain ⟨u,m,hu,ht,_⟩:=roundV_parts h
 obtain ⟨h1,h2,h3⟩:=settleV_same hu
 have e4:t.values=u.values:=by rw [ht]; rfl
 have e5:t.timers=u.timers:=by rw [ht]; rfl
 have hut:u=t:=by
  cases u; cases t
  simp only at h1 h2 h3 e4 e5
  subst h1 h2 h3 e4 e5
  rfl
 subst hut
 have hv:(valvS c u).valves=u.valves:=by
  have:=congrArg Ste.valves ht
  exact this.symm
 have hvv:valvS c u=u:=by
  have e:valvS c u=⟨u.ends,(valvS c u).valves,u.inputs,u.values,u.timers⟩:=rfl
  rw [e,hv]
 rw [hvv] at ht
 exact ⟨⟨m,hu⟩,hvv,ht.symm⟩
theorem still_end {c:Ct} {t:Ste} {a:List Int} (hs:stE c t=0) (h:roundV c t=some (t,a)) {i:Nat} (hi:i < t.ends.length) (hv:i < t.valves.length):t.valves[i]=(t.ends[i] == 2 || t.ends[i] == 1):=by
 obtain ⟨_,_,hg⟩:=still_parts h
 have he:=(any_bad.1 (stE_iff.1 hs).2.2.1) _ (List.getElem_mem hi)
 have h2:(goesS t).ends[i]?=t.ends[i]?:=by rw [hg]
 unfold goesS at h2
 simp only at h2
 rw [List.getElem?_zipWith,List.getElem?_eq_getElem hv,List.getElem?_eq_getElem hi] at h2
 simp only [Option.some.injEq] at h2
 generalize t.ends[i]=e at *
 generalize t.valves[i]=v at *
 unfold goesE at h2
 cases v with
 | true =>
  simp at h2
  have h3:e ≠ 0∧e ≠ 3:=by omega
  have:e=1∨e=2:=by omega
  rcases this with rfl | rfl <;> rfl
 | false =>
  simp at h2
  have:e=0∨e=3:=by omega
  rcases this with rfl | rfl <;> rfl
theorem still_valve {c:Ct} {t:Ste} {a:List Int} (h:roundV c t=some (t,a)) {i:Nat} (hv:i < t.valves.length) (hp:lineV' (linesV t) c.plus i ≠ lineV' (linesV t) c.minus i):t.valves[i]=lineV' (linesV t) c.plus i:=by
 obtain ⟨_,hg,_⟩:=still_parts h
 have h2:(valvS c t).valves[i]?=t.valves[i]?:=by rw [hg]
 unfold valvS at h2
 simp only at h2
 rw [List.getElem?_mapIdx,List.getElem?_eq_getElem hv] at h2
 simp only [Option.map_some,Option.some.injEq] at h2
 unfold valvF at h2
 rw [if_pos (by rw [bne_iff_ne]; exact hp)] at h2
 exact h2.symm
structure Evn where
 kind:Int
 idx:Int
 val:Bool
abbrev Evn.row (x:Evn):List V:=[num x.kind,num x.idx,.bool x.val]
def freshF (a b:Ste) (i:Nat):Option (Int × Bool):=match a.ends[i]?,b.ends[i]? with
 | some x,some y=>if (y=1∨y=3)∧x ≠ y then some (i,y == 1) else none
 | _,_=>none
def freshV (a b:Ste):List (Int × Bool):=(List.range a.ends.length).filterMap (freshF a b)
def pendB (s:Ste) (k:Int) (i:Nat):Bool:=if k=0 then ((s.ends[i]?).map fun e=>e == 1 || e == 3).getD false else ((s.timers[i]?).map fun t=>t == 1).getD false
def pendV (s:Ste):List Evn:=((List.range s.ends.length).filter (pendB s 0)).map (fun (i:Nat)=>⟨0,i,false⟩)++((List.range s.timers.length).filter (pendB s 1)).map fun (i:Nat)=>⟨1,i,false⟩
def mayV (s:Ste) (x:Evn):Bool :=
 if x.idx < 0 then false
 else if x.kind=2 then ((s.inputs[x.idx.toNat]?).map fun v=>v != x.val).getD false
 else pendB s x.kind x.idx.toNat
def happV (s:Ste) (x:Evn):Ste :=
 if x.kind=0 then ⟨s.ends.set x.idx.toNat (if s.ends[x.idx.toNat]?=some 1 then 2 else 0),s.valves,s.inputs,s.values,s.timers⟩
 else if x.kind=1 then ⟨s.ends,s.valves,s.inputs,s.values.set x.idx.toNat true,s.timers.set x.idx.toNat 2⟩
 else ⟨s.ends,s.valves,s.inputs.set x.idx.toNat x.val,s.values,s.timers⟩
def restE (c:Ct) (s:Ste):Ste × List Int × Int:=match restV c s with
 | some x=>(x.1,x.2,0)
 | none=>(zeroS,[],21)
def afterV (c:Ct) (s:Ste) (x:Evn):Ste × List Int × Int :=
 if x.kind < 0∨2 < x.kind then (zeroS,[],1) else if mayV s x=true then restE c (happV s x) else (zeroS,[],14)
structure Crs where
 st:Ste
 strokes:List (List (Int × Bool))
 conf:List Int
def zeroCrs:Crs:=⟨zeroS,[],[]⟩
def runGo (c:Ct):List Evn→Nat→Crs→Crs × Int × Int
 | [],_,r=>(r,0,0)
 | x :: l,i,r=>if (afterV c r.st x).2.2=0 then runGo c l (i + 1) ⟨(afterV c r.st x).1,r.strokes++[freshV r.st (afterV c r.st x).1],norm (allN c) (r.conf++(afterV c r.st x).2.1)⟩ else (zeroCrs,i,(afterV c r.st x).2.2)
end Go.Proofs.YtbhkplbciajikaaGreat
