/- The values of all lines, of a machine of settle. -/
import Derived.Test.YtlhciedghbmjjaaGreatSv1
import Derived.KernelRfl
set_option linter.all false
namespace Go.Proofs.YtlhciedghbmjjaaGreat
open Go Go.Am Go.Proofs
set_option maxRecDepth 100000
abbrev sl5 (i:Nat) (u:Ste):List V:=[.sl i 0 1 0 u.ends.length,.sl (i + 1) 0 1 0 u.valves.length,.sl (i + 2) 0 1 0 u.inputs.length,.sl (i + 3) 0 1 0 u.values.length,.sl (i + 4) 0 1 0 u.timers.length]
abbrev ar5 (u:Ste):H:=[⟨0,.arr 1 (u.ends.map nrow)⟩,⟨0,.arr 1 (u.valves.map brow)⟩,⟨0,.arr 1 (u.inputs.map brow)⟩,⟨0,.arr 1 (u.values.map brow)⟩,⟨0,.arr 1 (u.timers.map nrow)⟩]
abbrev hM (c:Ct) (s u:Ste) (F:Nat):H:=[⟨0,.box c.cells⟩,⟨0,.box s.cells⟩,o0,o0,o0,o0,o0,⟨0,.box (nil5 2)⟩,⟨0,.box c.cells⟩,⟨0,.box s.cells⟩]++ar5 u++[⟨0,.box (c.cells++sl5 10 u++[num F])⟩]
abbrev hQ (g w:Nat) (L:List Int):H:=[o0,⟨g,.arr w (L.map nrow)⟩]
abbrev hB (b:Ste):H:=ar5 b++[o0,o0,o0,o0,o0,⟨0,.box (sl5 18 b)⟩]
abbrev h163 (c:Ct) (s u b:Ste) (F gq wq:Nat) (L:List Int):H:=hM c s u F++hQ gq wq L++hB b
abbrev h163k (c:Ct) (s u b:Ste) (F gq wq:Nat) (L:List Int) (k:Nat) (a:Nat × Nat):H:=h163 c s u b F gq wq L++[o0,⟨a.1,.arr a.2 ((endsB (u.ends.take k)).map brow)⟩]
def T163 (u:Ste) (k:Nat) (a:Nat × Nat):Tm:=[some (.bptr 15 0),none,some (.sl 29 0 0 0 0),some (.sl 30 a.1 a.2 0 (2 * k)),none,none,none,none,none,none,some (.sl 10 0 1 0 u.ends.length),some (num u.ends.length),some (num k)]++List.replicate 24 none
set_option maxHeartbeats 1000000 in
theorem lp163 (c:Ct) (s u b:Ste) (F gq wq:Nat) (L:List Int) (hs:u.small) {st:St} (a0:Nat × Nat) (g0:a0.2=1∨a0.2=0) (h0:At (T163 u 0 a0) (h163k c s u b F gq wq L 0 a0) st):∃ r,ev pg (.code (.going 31 L191_0) st)=some r∧∃ a:Nat × Nat,(a.2=1∨a.2=0)∧EndsAs (.exit 0) (T163 u u.ends.length a) (h163k c s u b F gq wq L u.ends.length a) r:=by
 have hse:=hs.e
 refine loop_at u.ends.length (T163 u) (h163k c s u b F gq wq L) (fun _ a=>a.2=1∨a.2=0) _ ?_ ?_ a0 g0 h0
 ·rintro k ⟨g,m⟩ f hf hk hG
  have hk':(k:Int) < u.ends.length:=by omega
  have wk:=wrap_id (n:=(k:Int) + 1) (by omega) (by omega)
  have hlen:(endsB (u.ends.take k)).length=2 * k:=by rw [endsB_len,List.length_take]; omega
  have hb:2 * k + 2≤140737488355328:=by omega
  have h2:2 * (k + 1)=2 * k + 2:=by omega
  unfold T163 h163k
  rw [endsB_succ hk,h2]
  generalize endsB (u.ends.take k)=W at *
  have hmm:m=1∨m=0:=hG
  rcases hmm with rfl | rfl <;> simp [L191_0,hk,hk',wk,hb,hlen,hf.ne]
 ·rintro ⟨g,m⟩ f hf hG
  unfold T163 h163k
  generalize endsB (u.ends.take u.ends.length)=W at *
  generalize 2 * u.ends.length=N at *
  have hmm:m=1∨m=0:=hG
  rcases hmm with rfl | rfl <;> simp [L191_0,hf.ne]
theorem ev206h {h:H} (hc:calm h) (n:Nat) (h1:1≤n) (hn:n≤100000):ev pg (.call (.fn 206 [] []) [.nils,num n] h)=some { v:=.sl h.length 0 1 0 0,st:=⟨[],h++[⟨0,.arr 1 []⟩]⟩ }:=by
 have w1:=wrap_id (n:=(n:Int)) (by omega) (by omega)
 have p1:¬ ((n:Int) < 0):=by omega
 have w0:=wrap_id (n:=0) (by omega) (by omega)
 have p3:n * 1≤140737488355328:=by omega
 have p4:n≤140737488355328:=by omega
 have hn0:0 < n:=by omega
 have hne:¬ n=0:=by omega
 have hne2:¬ 0=n:=by omega
 have hcm:h.map (scrubO h.length)=h:=hc
 rw [ev_call,pg206]
 simp [ir206,w0,w1,p1,hn0,hne,hne2,p3,p4,moveVs,moveV,move1,hcm]
def nK (a b c k:Nat):Nat:=if k=0 then 0 else if k=1 then a else if k=2 then a + b else a + b + c
def wK (a b c:List Bool) (k:Nat):List Bool:=if k=0 then [] else if k=1 then a else if k=2 then a++b else a++b++c
abbrev vw3 (u:Ste) (g m:Nat):V:=.view false [.sl 30 g m 0 (2 * u.ends.length),.sl 12 0 1 0 u.inputs.length,.sl 13 0 1 0 u.values.length]
abbrev h174 (c:Ct) (s u b:Ste) (F gq wq:Nat) (L:List Int) (g m:Nat) (E:List Bool):H:=h163 c s u b F gq wq L++[o0,⟨g,.arr m (E.map brow)⟩]
def T174a (u:Ste) (g m k:Nat):Tm:=[some (vw3 u g m),none,some (.sl 31 0 0 0 0),some (num (nK (2 * u.ends.length) u.inputs.length u.values.length k)),none,none,none,none,none,some (vw3 u g m),some (num 3),some (num k)]++List.replicate 24 none
def T174b (u:Ste) (g m k:Nat) (a:Nat × Nat):Tm:=[some (vw3 u g m),none,some (.sl 31 0 0 0 0),none,none,none,some (.sl 32 a.1 a.2 0 (nK (2 * u.ends.length) u.inputs.length u.values.length k))]++List.replicate 18 none++[some (vw3 u g m),some (num 3),some (num k)]++List.replicate 8 none
set_option maxHeartbeats 2000000 in
theorem ev196m (c:Ct) (s u b:Ste) (F gq wq:Nat) (L:List Int) (hs:u.small) (h1:1≤u.ends.length) (g m:Nat) (hm:m=1∨m=0) (E:List Bool) (hE:E.length=2 * u.ends.length):ev pg (.call (.fn 196 [] []) [vw3 u g m] (h174 c s u b F gq wq L g m E))=some { v:=.sl 31 0 1 0 (2 * u.ends.length + u.inputs.length + u.values.length),st:=⟨[],h174 c s u b F gq wq L g m E++[⟨0,.arr 1 ((E++u.inputs++u.values).map brow)⟩]⟩ }:=by
 have s1:=hs.e
 have s2:=hs.i
 have s3:=hs.v
 have la:∀ st,At (T174a u g m 0) (h174 c s u b F gq wq L g m E++[o0]) st→∃ r,ev pg (.code (.going 32 L196_0) st)=some r∧EndsAs (.exit 0) (T174a u g m 3) (h174 c s u b F gq wq L g m E++[o0]) r:=by
  intro st h0
  refine loop_pic 3 (T174a u g m) (fun _=>h174 c s u b F gq wq L g m E++[o0]) _ ?_ ?_ h0
  ·intro k f hf hk
   have hk3:k=0∨k=1∨k=2:=by omega
   have x1:¬ (2 * (u.ends.length:Int)) < 0:=by omega
   have x2:¬ (2 * (u.ends.length:Int) + (u.inputs.length:Int)) < 0:=by omega
   have x3:¬ (2 * (u.ends.length:Int) + (u.inputs.length:Int) + (u.values.length:Int)) < 0:=by omega
   have y1:=wrap_id (n:=2 * (u.ends.length:Int)) (by omega) (by omega)
   have y2:=wrap_id (n:=2 * (u.ends.length:Int) + (u.inputs.length:Int)) (by omega) (by omega)
   have y3:=wrap_id (n:=2 * (u.ends.length:Int) + (u.inputs.length:Int) + (u.values.length:Int)) (by omega) (by omega)
   have z1:IntKind.i64.wrap 1=1:=by decide
   have z2:IntKind.i64.wrap 2=2:=by decide
   have z3:IntKind.i64.wrap 3=3:=by decide
   rcases hk3 with rfl | rfl | rfl <;> rcases hm with rfl | rfl <;> simp [L196_0,T174a,nK,x1,x2,x3,y1,y2,y3,z1,z2,z3,hf.ne]
  ·intro f hf
   simp [L196_0,T174a,hf.ne]
 have lb:∀ st,At (T174b u g m 0 (0,1)) (h174 c s u b F gq wq L g m E++[o0,⟨0,.arr 1 []⟩]) st→∃ r,ev pg (.code (.going 33 L196_1) st)=some r∧∃ a:Nat × Nat,a.2=1∧EndsAs (.exit 2) (T174b u g m 3 a) (h174 c s u b F gq wq L g m E++[o0,⟨a.1,.arr a.2 ((wK E u.inputs u.values 3).map brow)⟩]) r:=by
  intro st h0
  refine loop_at 3 (T174b u g m) (fun k a=>h174 c s u b F gq wq L g m E++[o0,⟨a.1,.arr a.2 ((wK E u.inputs u.values k).map brow)⟩]) (fun _ a=>a.2=1) _ ?_ ?_ (0,1) rfl (by simpa [wK] using h0)
  ·rintro k ⟨g2,m2⟩ f hf hk hG
   obtain rfl:m2=1:=hG
   have hk3:k=0∨k=1∨k=2:=by omega
   have z1:IntKind.i64.wrap 1=1:=by decide
   have z2:IntKind.i64.wrap 2=2:=by decide
   have z3:IntKind.i64.wrap 3=3:=by decide
   have y1:2 * u.ends.length≤140737488355328:=by omega
   have y2:2 * u.ends.length + u.inputs.length≤140737488355328:=by omega
   have y3:2 * u.ends.length + u.inputs.length + u.values.length≤140737488355328:=by omega
   rcases hk3 with rfl | rfl | rfl <;> rcases hm with rfl | rfl <;> simp [L196_1,T174b,nK,wK,hE,y1,y2,y3,z1,z2,z3,hf.ne]
  ·rintro ⟨g2,m2⟩ f hf hG
   obtain rfl:m2=1:=hG
   simp [L196_1,T174b,hf.ne]
 have hcal:calm (h174 c s u b F gq wq L g m E++[o0]):=by
  unfold calm
  simp
 have e189:=ev206h hcal (2 * u.ends.length + u.inputs.length + u.values.length) (by omega) (by omega)
 have hW:wK E u.inputs u.values 3=E++u.inputs++u.values:=by simp [wK]
 have hN:nK (2 * u.ends.length) u.inputs.length u.values.length 3=2 * u.ends.length + u.inputs.length + u.values.length:=by simp [nK]
 have hla:∀ f,fill f 0 (T174a u g m 3)=fill f 0 ([some (vw3 u g m),none,some (.sl 31 0 0 0 0),some (num (2 * u.ends.length + u.inputs.length + u.values.length:Nat)),none,none,none,none,none,some (vw3 u g m),some (num 3),some (num 3)]++List.replicate 24 none):=fun f=>by
  unfold T174a
  rw [hN]
  rfl
 rw [hW] at lb
 have hlen:((E++u.inputs++u.values).map brow).length=2 * u.ends.length + u.inputs.length + u.values.length:=by
  simp [hE]
  omega
 generalize (E++u.inputs++u.values).map brow=W at *
 have lb':∀ st,At ([some (vw3 u g m),none,some (.sl 31 0 0 0 0),none,none,none,some (.sl 32 0 1 0 0)]++List.replicate 18 none++[some (vw3 u g m),some (num 3),some (num 0)]++List.replicate 8 none) (h174 c s u b F gq wq L g m E++[o0,⟨0,.arr 1 []⟩]) st→∃ r,ev pg (.code (.going 33 L196_1) st)=some r∧∃ a:Nat × Nat,a.2=1∧EndsAs (.exit 2) ([none,none,none,none,none,none,some (.sl 32 a.1 a.2 0 (2 * u.ends.length + u.inputs.length + u.values.length))]++List.replicate 29 none) (h174 c s u b F gq wq L g m E++[o0,⟨a.1,.arr a.2 W⟩]) r:=by
  intro st h0
  obtain ⟨r,e,a,ha,f,hf,rfl⟩:=lb st h0
  refine ⟨_,e,a,ha,?_⟩
  unfold T174b
  rw [hN]
  generalize 2 * u.ends.length + u.inputs.length + u.values.length=N at *
  simp [hf.ne]
 generalize 2 * u.ends.length + u.inputs.length + u.values.length=N at *
 simp at e189
 rw [ev_call,pg196]
 simp [ir196,ev_loop]
 generalize hr:ev pg (.code (.going _ L196_0) _)=o
 obtain ⟨r,rfl,f,hf,rfl⟩:∃ r,o=some r∧_:=by rw [← hr]; exact la _ (by simp [T174a,nK])
 clear hr
 rw [hla]
 simp [e189,hf.ne,ev_loop]
 generalize hr:ev pg (.code (.going _ L196_1) _)=o
 obtain ⟨r,rfl,⟨g2,m2⟩,hm2,f2,hf2,rfl⟩:∃ r,o=some r∧_:=by rw [← hr]; exact lb' _ (by simp [hf.ne])
 obtain rfl:m2=1:=hm2
 clear hr
 simp [moveVs,moveV,move1,hlen]
set_option maxHeartbeats 1000000 in
theorem ev191 (c:Ct) (s u b:Ste) (F gq wq:Nat) (L:List Int) (hs:u.small) (h1:1≤u.ends.length):ev pg (.call (.fn 191 [] []) [.bptr 15 0] (h163 c s u b F gq wq L))=some { v:=.sl 29 0 1 0 (linesV u).length,st:=⟨[],h163 c s u b F gq wq L++[⟨0,.arr 1 ((linesV u).map brow)⟩]⟩ }:=by
 have hl:=@lp163 c s u b F gq wq L hs
 have he:=endsB_len u.ends
 have hlen:=linesV_len u
 have h174:=fun g m hm=>ev196m c s u b F gq wq L hs h1 g m hm (endsB u.ends) he
 unfold h163k at hl
 rw [List.take_length,List.take_zero,endsB] at hl
 unfold linesV at hlen ⊢
 rw [hlen]
 have hWl:((endsB u.ends++u.inputs++u.values).map brow).length=2 * u.ends.length + u.inputs.length + u.values.length:=by rw [List.length_map,hlen]
 generalize (endsB u.ends++u.inputs++u.values).map brow=W at *
 generalize endsB u.ends=E at *
 generalize hN:2 * u.ends.length + u.inputs.length + u.values.length=N at *
 rw [ev_call,pg191]
 simp [ir191,ev_loop]
 generalize hr:ev pg (.code (.going _ L191_0) _)=o
 obtain ⟨r,rfl,⟨g,m⟩,hm,f,hf,rfl⟩:∃ r,o=some r∧_:=by rw [← hr]; exact hl (0,0) (.inr rfl) (by simp [T163])
 clear hr
 have hmm:m=1∨m=0:=hm
 have h174':=h174 g m hmm
 simp at h174'
 rcases hmm with rfl | rfl <;> simp [ev_draw1,exT,chkOk,T163,he,h174',moveVs,moveV,move1,hWl]
end Go.Proofs.YtlhciedghbmjjaaGreat
