/- The value of an expression, by the reference. Gates are computed, by the reference. What a signal wants, by the reference. A round of the signals, by the reference. Actuators begin to go, by the reference. The valves take their pilots, by the reference. Are lists equal, and states, by the program. The value of an expression, by settle. The values of all lines, of a machine of settle. -/
import Derived.Test.YtlhciedghbmjjaaGreatEv1
import Derived.Test.YtlhciedghbmjjaaGreatCt6
import Derived.Test.YtlhciedghbmjjaaGreatSt2
import Derived.KernelRfl
set_option linter.all false
namespace Go.Proofs.YtlhciedghbmjjaaGreat
open Go Go.Am Go.Proofs
set_option maxRecDepth 100000
theorem zil {o i n:Int} {k:Nat} (h:qbi o i k n=0) (ho:o=2):k=1:=by
 subst ho
 unfold qbi at h
 by_cases hk:k=1
 ·exact hk
 ·rw [if_neg (by omega),if_pos (by omega)] at h
  omega
theorem qwo (c:Ct) (F i:Nat) (L:List Bool):(qfy c F i L).take F=L.take F:=by
 unfold qfy
 split
 ·split
  ·rw [List.take_set]
   rw [List.set_eq_of_length_le (by rw [List.length_take]; omega)]
  ·rfl
 ·rfl
theorem qqh (c:Ct) (F:Nat) (L:List Bool):∀ k,(qbg c F k L).take F=L.take F
 | 0=>rfl
 | k + 1=>by rw [qbg,qwo,qqh c F L k]
def stK (c:Ct) (s:Ste) (k:Nat):Ste:=⟨s.ends,s.valves,s.inputs,(qbg c (qal s) k (qae s)).drop (qal s),s.timers⟩
theorem zgc (c:Ct) (s:Ste):stK c s 0=s:=by
 unfold stK qbg
 rw [qmi]
theorem q9a (c:Ct) (s:Ste):stK c s c.signals.length=qfg c s:=rfl
theorem zac (c:Ct) (s:Ste) (k:Nat):(stK c s k).values.length=s.values.length:=by
 unfold stK
 simp only [List.length_drop]
 rw [qfn,qew]
 unfold qal
 omega
theorem qkl (c:Ct) (s:Ste) (k:Nat):qae (stK c s k)=qbg c (qal s) k (qae s):=by
 have h1:=qqh c (qal s) (qae s) k
 have h2:(qae s).take (qal s)=qem s.ends++s.inputs:=by
  unfold qae
  rw [List.take_left' (by rw [List.length_append,qen])]
 rw [h2] at h1
 have e:=List.take_append_drop (qal s) (qbg c (qal s) k (qae s))
 rw [h1] at e
 exact e
theorem zhf (c:Ct) (s:Ste) (k:Nat) (hk:k < c.signals.length):(stK c s (k + 1)).values=if c.signals[k].kind=0 then (stK c s k).values.set k (c.signals[k].on.holds (qae (stK c s k))) else (stK c s k).values:=by
 have e:c.signals[k]?=some c.signals[k]:=List.getElem?_eq_getElem hk
 rw [qkl]
 unfold stK
 simp only [qbg]
 rw [qfy,e]
 simp only
 split
 ·rw [List.drop_set,if_neg (by omega),Nat.add_sub_cancel_left]
 ·rfl
structure SigOk (n:Nat) (x:Sg):Prop where
 on:x.on.nodes≤256∧x.on.err n=0
 off:x.kind=1→x.off.nodes≤256∧x.off.err n=0
abbrev tv (c:Ct) (g:Ste) (k:Nat):List Bool:=mix ((qfr c g).map Prod.fst) g.values k
abbrev tt (c:Ct) (g:Ste) (k:Nat):List Int:=mix ((qfr c g).map Prod.snd) g.timers k
abbrev bdL (c:Ct) (g:Ste) (F:Nat) (k:Nat):List Int:=qyp (zhz c (qae g)) F k
theorem zai {c:Ct} {s:Ste} {A:Nat} (hM:Mid c A) (hS:Shp c s):qal s=qan c A:=by
 have h1:=hS.e
 have h2:=hM.act
 have h3:=hS.i
 unfold qal qan
 omega
abbrev ge (s:Ste) (k:Nat):List Int:=mix (List.zipWith qsk s.valves s.ends) s.ends k
structure Pil (c:Ct) (A:Nat) (N:Nat):Prop where
 p:c.plus.length=A
 m:c.minus.length=A
 pb:∀ x ∈ c.plus,0≤x∧x < (N:Int)
 mb:∀ x ∈ c.minus,0≤x∧x < (N:Int)
abbrev cfL (c:Ct) (L:List Bool) (A k:Nat):List Int:=qyp (fun i=>qeg L c.plus i && qeg L c.minus i) (qai c A:Nat) k
def T29 (a b:List Bool) (k:Nat):Tm:=[some (qeo a),some (qeo b),none,none,none,none,none,none,none,none,none,none,some (num a.length),some (num k)]++List.replicate 12 none
def z5t:Tm:=[none,none,none,none,some (.bool false)]++List.replicate 21 none
theorem z7z (a b:List Bool) (hab:b.length=a.length) (ha:a.length≤4096) {st:St} (h0:At (T29 a b 0) [] st):∃ r,ev pg (.code (.going 0 L130_0) st)=some r∧qls a.length (fun k=>a[k]? != b[k]?) (fun _=>qaj .ret z5t []) (qaj (.exit 0) (T29 a b a.length) []) r:=by
 refine qcx _ _ (T29 a b) [] _ _ ?_ ?_ ?_ h0
 ·intro k f hf hk hp
  have hk':(k:Int) < a.length:=by omega
  have hkb:k < b.length:=by omega
  have wk:=qab (n:=(k:Int) + 1) (by omega) (by omega)
  have hb:a[k]=b[k]:=by simpa [hk,hkb] using hp
  simp [qaa,exT,qad,T29,L130_0,hk,hk',hkb,hb,wk,hf.ne]
 ·intro k f hf hk hp
  have hk':(k:Int) < a.length:=by omega
  have hkb:k < b.length:=by omega
  have hb:a[k] ≠ b[k]:=by simpa [hk,hkb] using hp
  have hb':(a[k] == b[k])=false:=by simpa using hb
  simp [qaa,exT,qad,T29,z5t,L130_0,hk,hk',hkb,hb',hf.ne]
 ·intro f hf
  simp [T29,L130_0,hf.ne]
theorem ev130 (a b:List Bool) (ha:a.length≤4096):ev pg (.call (.fn 130 [] []) [qeo a,qeo b] [])=some { v:=.bool (decide (a=b)),st:=⟨[],[]⟩ }:=by
 rw [qac,pg130]
 by_cases hab:b.length=a.length
 ·have hloop:=@z7z a b hab ha
  have hab':(b.length:Int)=a.length:=by omega
  simp [ir130,qag,hab']
  generalize hr:ev pg (.code (.going _ L130_0) _)=o
  obtain ⟨r,rfl,hQ⟩:∃ r,o=some r∧_:=by rw [← hr]; exact hloop (by simp [T29])
  rcases hQ with ⟨k,hk,hp,-,f,hf,rfl⟩ | ⟨hp,f,hf,rfl⟩
  ·have:a ≠ b:=by rintro rfl; simp at hp
   simp [z5t,this]
  ·have:a=b:=by
    refine List.ext_getElem hab.symm fun k h1 h2=>?_
    have:=hp k h1
    simpa [h1,h2] using this
   simp [T29,this]
 ·have hne:((a.length:Int) != (b.length:Int))=true:=by rw [bne_iff_ne]; omega
  have:a ≠ b:=fun e=>hab (by rw [e])
  simp [ir130,hne,this]
theorem ev90 (a b:Ste) (ha:a.small):ev pg (.call (.fn 90 [] []) [a.v,b.v] [])=some { v:=.bool (qkp a b),st:=⟨[],[]⟩ }:=by
 have h1:=ev129 a.ends b.ends ha.e
 have h2:=ev130 a.valves b.valves ha.w
 have h3:=ev130 a.inputs b.inputs ha.i
 have h4:=ev130 a.values b.values ha.v
 have h5:=ev129 a.timers b.timers ha.t
 rw [qac,pg90]
 unfold qkp
 generalize decide (a.ends=b.ends)=b1 at *
 generalize decide (a.valves=b.valves)=b2 at *
 generalize decide (a.inputs=b.inputs)=b3 at *
 generalize decide (a.values=b.values)=b4 at *
 cases b1 with
 | false=>simp [ir90,h1]
 | true=>cases b2 with
  | false=>simp [ir90,h1,h2]
  | true=>cases b3 with
   | false=>simp [ir90,h1,h2,h3]
   | true=>cases b4 with
    | false=>simp [ir90,h1,h2,h3,h4]
    | true=>simp [ir90,h1,h2,h3,h4,h5]
abbrev Mv (x:Ex) (vs:List Bool):H:=[⟨0,.box x.cells⟩,⟨0,.box [qeo vs]⟩]
def zjh (x:Ex) (F k:Nat):Tm:=[some (.imm (x.args.map Ex.row)),some (.fn F [] [.bptr 1 0]),none,none,none,none,none,some (num x.args.length),some (num k)]++List.replicate 10 none
def zne (x:Ex) (F k:Nat):Tm:=[some (.imm (x.args.map Ex.row)),some (.fn F [] [.bptr 1 0]),none,none,some (num k),none,none,some (num x.args.length),some (num k)]++List.replicate 10 none
theorem z3u (x:Ex) (vs:List Bool) (F:Nat) (p:Ex→Bool) (hx:x.nodes≤256) (hF:∀ y ∈ x.args,ev pg (.call (.fn F [] [.bptr 1 0]) [y.v] (Mv x vs))=some { v:=.bool (p y),st:=⟨[],Mv x vs⟩ }) {st:St} (h0:At (zjh x F 0) (Mv x vs) st):∃ r,ev pg (.code (.going 2 L207_0) st)=some r∧qls x.args.length (fun k=>((x.args[k]?).map p).getD false) (fun k=>qaj .ret (zne x F k) (Mv x vs)) (qaj (.exit 0) (zjh x F x.args.length) (Mv x vs)) r:=by
 have hfew:=qga hx
 refine qcx _ _ (zjh x F) (Mv x vs) _ _ ?_ ?_ ?_ h0
 ·intro k f hf hk hp
  have hk':(k:Int) < x.args.length:=by omega
  have wk:=qab (n:=(k:Int) + 1) (by omega) (by omega)
  have hi:=hF _ (List.getElem_mem hk)
  have hh:p x.args[k]=false:=by simpa [hk] using hp
  rw [hh] at hi
  simp [zjh,L207_0,hk,hk',wk,hi,hf.ne]
 ·intro k f hf hk hp
  have hk':(k:Int) < x.args.length:=by omega
  have hi:=hF _ (List.getElem_mem hk)
  have hh:p x.args[k]=true:=by simpa [hk] using hp
  rw [hh] at hi
  simp [zjh,zne,L207_0,hk,hk',hi,hf.ne]
 ·intro f hf
  simp [zjh,L207_0,hf.ne]
theorem ev200 (x:Ex) (vs:List Bool) (F:Nat) (p:Ex→Bool) (hx:x.nodes≤256) (hF:∀ y ∈ x.args,ev pg (.call (.fn F [] [.bptr 1 0]) [y.v] (Mv x vs))=some { v:=.bool (p y),st:=⟨[],Mv x vs⟩ }):ev pg (.call (.fn 200 [] []) [.imm (x.args.map Ex.row),.fn F [] [.bptr 1 0]] (Mv x vs))=some { v:=.bool (x.args.any p),st:=⟨[],Mv x vs⟩ }:=by
 have hl:=@z3u x vs F p hx hF
 have h190:∃ n:Int,ev pg (.call (.fn 207 [] []) [.imm (x.args.map Ex.row),.fn F [] [.bptr 1 0]] (Mv x vs))=some { v:=num n,st:=⟨[],Mv x vs⟩ }∧decide (n ≥ 0)=x.args.any p:=by
  rw [qac,pg207]
  simp [ir207,qag]
  generalize hr:ev pg (.code (.going _ L207_0) _)=o
  obtain ⟨r,rfl,hQ⟩:∃ r,o=some r∧_:=by rw [← hr]; exact hl (by simp [zjh])
  rcases hQ with ⟨k,hk,hp,-,f,hf,rfl⟩ | ⟨hp,f,hf,rfl⟩
  ·refine ⟨k,by simp [zne],?_⟩
   have h1:p x.args[k]=true:=by simpa [hk] using hp
   have h2:x.args.any p=true:=List.any_eq_true.2 ⟨_,List.getElem_mem hk,h1⟩
   rw [h2]
   simp
  ·refine ⟨-1,by simp [zjh],?_⟩
   have h2:x.args.any p=false:=by
    rw [List.any_eq_false]
    intro y hy
    obtain ⟨k,hk,rfl⟩:=List.getElem_of_mem hy
    have:=hp k hk
    simpa [hk] using this
   rw [h2]
   rfl
 obtain ⟨n,h1,h2⟩:=h190
 rw [qac,pg200]
 simp [ir200,h1,← h2]
theorem ev193 (vs:List Bool):∀ x:Ex,x.nodes≤256→x.err vs.length=0→ev pg (.call (.fn 193 [] []) [x.v,qeo vs] [])=some { v:=.bool (x.holds vs),st:=⟨[],[]⟩ }:=by
 refine Ex.ind fun x ih hx he=>?_
 obtain ⟨hn,hargs⟩:=qrr he
 have ih':∀ y ∈ x.args,ev pg (.call (.fn 193 [] []) [y.v,qeo vs] [])=some { v:=.bool (y.holds vs),st:=⟨[],[]⟩ }:=fun y hy=>ih y hy (by have:=qft hx hy; omega) (hargs y hy)
 have hop:x.op=0∨x.op=1∨x.op=2∨x.op=3∨x.op=4:=by
  unfold qbi at hn
  by_cases h:x.op < 0∨5≤x.op
  ·rw [if_pos h] at hn; omega
  ·omega
 have h179:∀ y ∈ x.args,ev pg (.call (.fn 201 [] [.bptr 1 0]) [y.v] (Mv x vs))=some { v:=.bool (!y.holds vs),st:=⟨[],Mv x vs⟩ }:=fun y hy=>by
  have h:=ih' y hy
  rw [qac,pg201]
  simp [ir201,h]
 have h180:∀ y ∈ x.args,ev pg (.call (.fn 202 [] [.bptr 1 0]) [y.v] (Mv x vs))=some { v:=.bool (y.holds vs),st:=⟨[],Mv x vs⟩ }:=fun y hy=>by
  have h:=ih' y hy
  rw [qac,pg202]
  simp [ir202,h]
 have a:=ev200 x vs _ _ hx h179
 have b:=ev200 x vs _ _ hx h180
 have e1:(x.args.map (Ex.holds vs)).all id=!(x.args.any fun y=>!y.holds vs):=by
  rw [List.all_map,List.not_any_eq_all_not]; congr 1; funext y; simp
 have e2:(x.args.map (Ex.holds vs)).any id=x.args.any fun y=>y.holds vs:=by
  rw [List.any_map]; rfl
 rw [q4h,e1,e2,qac,pg193]
 generalize (x.args.any fun y=>!y.holds vs)=A at *
 generalize (x.args.any fun y=>y.holds vs)=B at *
 rcases hop with h | h | h | h | h
 ·simp [ir193,h]
 ·obtain ⟨hi0,hi1⟩:=qxz hn h
  have hin:x.idx.toNat < vs.length:=by omega
  simp [ir193,h,hi0,hin]
 ·have h1:=zil hn h
  obtain ⟨y,hy⟩:∃ y,x.args=[y]:=by
   match hq:x.args,h1 with
   | [y],_=>exact ⟨y,rfl⟩
  have hiy:=ih' y (by rw [hy]; exact List.mem_cons_self)
  simp [ir193,h,hy,hiy]
 ·simp [Mv,Ex.cells,h] at a
  simp [ir193,h,a]
 ·simp [Mv,Ex.cells,h] at b
  simp [ir193,h,b]
abbrev sl5 (i:Nat) (u:Ste):List V:=[.sl i 0 1 0 u.ends.length,.sl (i + 1) 0 1 0 u.valves.length,.sl (i + 2) 0 1 0 u.inputs.length,.sl (i + 3) 0 1 0 u.values.length,.sl (i + 4) 0 1 0 u.timers.length]
abbrev ar5 (u:Ste):H:=[⟨0,.arr 1 (u.ends.map qfb)⟩,⟨0,.arr 1 (u.valves.map qic)⟩,⟨0,.arr 1 (u.inputs.map qic)⟩,⟨0,.arr 1 (u.values.map qic)⟩,⟨0,.arr 1 (u.timers.map qfb)⟩]
abbrev hM (c:Ct) (s u:Ste) (F:Nat):H:=[⟨0,.box c.cells⟩,⟨0,.box s.cells⟩,o0,o0,o0,o0,o0,⟨0,.box (zfe 2)⟩,⟨0,.box c.cells⟩,⟨0,.box s.cells⟩]++ar5 u++[⟨0,.box (c.cells++sl5 10 u++[num F])⟩]
abbrev hQ (g w:Nat) (L:List Int):H:=[o0,⟨g,.arr w (L.map qfb)⟩]
abbrev hB (b:Ste):H:=ar5 b++[o0,o0,o0,o0,o0,⟨0,.box (sl5 18 b)⟩]
abbrev zjm (c:Ct) (s u b:Ste) (F gq wq:Nat) (L:List Int):H:=hM c s u F++hQ gq wq L++hB b
abbrev q8o (c:Ct) (s u b:Ste) (F gq wq:Nat) (L:List Int) (k:Nat) (a:Nat × Nat):H:=zjm c s u b F gq wq L++[o0,⟨a.1,.arr a.2 ((qem (u.ends.take k)).map qic)⟩]
def zlq (u:Ste) (k:Nat) (a:Nat × Nat):Tm:=[some (.bptr 15 0),none,some (.sl 29 0 0 0 0),some (.sl 30 a.1 a.2 0 (2 * k)),none,none,none,none,none,none,some (.sl 10 0 1 0 u.ends.length),some (num u.ends.length),some (num k)]++List.replicate 24 none
set_option maxHeartbeats 1000000 in
theorem z4a (c:Ct) (s u b:Ste) (F gq wq:Nat) (L:List Int) (hs:u.small) {st:St} (a0:Nat × Nat) (g0:a0.2=1∨a0.2=0) (h0:At (zlq u 0 a0) (q8o c s u b F gq wq L 0 a0) st):∃ r,ev pg (.code (.going 31 L191_0) st)=some r∧∃ a:Nat × Nat,(a.2=1∨a.2=0)∧qaj (.exit 0) (zlq u u.ends.length a) (q8o c s u b F gq wq L u.ends.length a) r:=by
 have hse:=hs.e
 refine qdp u.ends.length (zlq u) (q8o c s u b F gq wq L) (fun _ a=>a.2=1∨a.2=0) _ ?_ ?_ a0 g0 h0
 ·rintro k ⟨g,m⟩ f hf hk hG
  have hk':(k:Int) < u.ends.length:=by omega
  have wk:=qab (n:=(k:Int) + 1) (by omega) (by omega)
  have hlen:(qem (u.ends.take k)).length=2 * k:=by rw [qen,List.length_take]; omega
  have hb:2 * k + 2≤140737488355328:=by omega
  have h2:2 * (k + 1)=2 * k + 2:=by omega
  unfold zlq q8o
  rw [qux hk,h2]
  generalize qem (u.ends.take k)=W at *
  have hmm:m=1∨m=0:=hG
  rcases hmm with rfl | rfl <;> simp [L191_0,hk,hk',wk,hb,hlen,hf.ne]
 ·rintro ⟨g,m⟩ f hf hG
  unfold zlq q8o
  generalize qem (u.ends.take u.ends.length)=W at *
  generalize 2 * u.ends.length=N at *
  have hmm:m=1∨m=0:=hG
  rcases hmm with rfl | rfl <;> simp [L191_0,hf.ne]
theorem ev206h {h:H} (hc:qci h) (n:Nat) (h1:1≤n) (hn:n≤100000):ev pg (.call (.fn 206 [] []) [.nils,num n] h)=some { v:=.sl h.length 0 1 0 0,st:=⟨[],h++[⟨0,.arr 1 []⟩]⟩ }:=by
 have w1:=qab (n:=(n:Int)) (by omega) (by omega)
 have p1:¬ ((n:Int) < 0):=by omega
 have w0:=qab (n:=0) (by omega) (by omega)
 have p3:n * 1≤140737488355328:=by omega
 have p4:n≤140737488355328:=by omega
 have hn0:0 < n:=by omega
 have hne:¬ n=0:=by omega
 have hne2:¬ 0=n:=by omega
 have hcm:h.map (qbl h.length)=h:=hc
 rw [qac,pg206]
 simp [ir206,w0,w1,p1,hn0,hne,hne2,p3,p4,qcj,qee,qdy,hcm]
def nK (a b c k:Nat):Nat:=if k=0 then 0 else if k=1 then a else if k=2 then a + b else a + b + c
def wK (a b c:List Bool) (k:Nat):List Bool:=if k=0 then [] else if k=1 then a else if k=2 then a++b else a++b++c
abbrev vw3 (u:Ste) (g m:Nat):V:=.view false [.sl 30 g m 0 (2 * u.ends.length),.sl 12 0 1 0 u.inputs.length,.sl 13 0 1 0 u.values.length]
abbrev q7h (c:Ct) (s u b:Ste) (F gq wq:Nat) (L:List Int) (g m:Nat) (E:List Bool):H:=zjm c s u b F gq wq L++[o0,⟨g,.arr m (E.map qic)⟩]
def q1i (u:Ste) (g m k:Nat):Tm:=[some (vw3 u g m),none,some (.sl 31 0 0 0 0),some (num (nK (2 * u.ends.length) u.inputs.length u.values.length k)),none,none,none,none,none,some (vw3 u g m),some (num 3),some (num k)]++List.replicate 24 none
def q8e (u:Ste) (g m k:Nat) (a:Nat × Nat):Tm:=[some (vw3 u g m),none,some (.sl 31 0 0 0 0),none,none,none,some (.sl 32 a.1 a.2 0 (nK (2 * u.ends.length) u.inputs.length u.values.length k))]++List.replicate 18 none++[some (vw3 u g m),some (num 3),some (num k)]++List.replicate 8 none
set_option maxHeartbeats 2000000 in
theorem ev196m (c:Ct) (s u b:Ste) (F gq wq:Nat) (L:List Int) (hs:u.small) (h1:1≤u.ends.length) (g m:Nat) (hm:m=1∨m=0) (E:List Bool) (hE:E.length=2 * u.ends.length):ev pg (.call (.fn 196 [] []) [vw3 u g m] (q7h c s u b F gq wq L g m E))=some { v:=.sl 31 0 1 0 (2 * u.ends.length + u.inputs.length + u.values.length),st:=⟨[],q7h c s u b F gq wq L g m E++[⟨0,.arr 1 ((E++u.inputs++u.values).map qic)⟩]⟩ }:=by
 have s1:=hs.e
 have s2:=hs.i
 have s3:=hs.v
 have la:∀ st,At (q1i u g m 0) (q7h c s u b F gq wq L g m E++[o0]) st→∃ r,ev pg (.code (.going 32 L196_0) st)=some r∧qaj (.exit 0) (q1i u g m 3) (q7h c s u b F gq wq L g m E++[o0]) r:=by
  intro st h0
  refine qfi 3 (q1i u g m) (fun _=>q7h c s u b F gq wq L g m E++[o0]) _ ?_ ?_ h0
  ·intro k f hf hk
   have hk3:k=0∨k=1∨k=2:=by omega
   have x1:¬ (2 * (u.ends.length:Int)) < 0:=by omega
   have x2:¬ (2 * (u.ends.length:Int) + (u.inputs.length:Int)) < 0:=by omega
   have x3:¬ (2 * (u.ends.length:Int) + (u.inputs.length:Int) + (u.values.length:Int)) < 0:=by omega
   have y1:=qab (n:=2 * (u.ends.length:Int)) (by omega) (by omega)
   have y2:=qab (n:=2 * (u.ends.length:Int) + (u.inputs.length:Int)) (by omega) (by omega)
   have y3:=qab (n:=2 * (u.ends.length:Int) + (u.inputs.length:Int) + (u.values.length:Int)) (by omega) (by omega)
   have z1:IntKind.i64.wrap 1=1:=by decide
   have z2:IntKind.i64.wrap 2=2:=by decide
   have z3:IntKind.i64.wrap 3=3:=by decide
   rcases hk3 with rfl | rfl | rfl <;> rcases hm with rfl | rfl <;> simp [L196_0,q1i,nK,x1,x2,x3,y1,y2,y3,z1,z2,z3,hf.ne]
  ·intro f hf
   simp [L196_0,q1i,hf.ne]
 have lb:∀ st,At (q8e u g m 0 (0,1)) (q7h c s u b F gq wq L g m E++[o0,⟨0,.arr 1 []⟩]) st→∃ r,ev pg (.code (.going 33 L196_1) st)=some r∧∃ a:Nat × Nat,a.2=1∧qaj (.exit 2) (q8e u g m 3 a) (q7h c s u b F gq wq L g m E++[o0,⟨a.1,.arr a.2 ((wK E u.inputs u.values 3).map qic)⟩]) r:=by
  intro st h0
  refine qdp 3 (q8e u g m) (fun k a=>q7h c s u b F gq wq L g m E++[o0,⟨a.1,.arr a.2 ((wK E u.inputs u.values k).map qic)⟩]) (fun _ a=>a.2=1) _ ?_ ?_ (0,1) rfl (by simpa [wK] using h0)
  ·rintro k ⟨g2,m2⟩ f hf hk hG
   obtain rfl:m2=1:=hG
   have hk3:k=0∨k=1∨k=2:=by omega
   have z1:IntKind.i64.wrap 1=1:=by decide
   have z2:IntKind.i64.wrap 2=2:=by decide
   have z3:IntKind.i64.wrap 3=3:=by decide
   have y1:2 * u.ends.length≤140737488355328:=by omega
   have y2:2 * u.ends.length + u.inputs.length≤140737488355328:=by omega
   have y3:2 * u.ends.length + u.inputs.length + u.values.length≤140737488355328:=by omega
   rcases hk3 with rfl | rfl | rfl <;> rcases hm with rfl | rfl <;> simp [L196_1,q8e,nK,wK,hE,y1,y2,y3,z1,z2,z3,hf.ne]
  ·rintro ⟨g2,m2⟩ f hf hG
   obtain rfl:m2=1:=hG
   simp [L196_1,q8e,hf.ne]
 have hcal:qci (q7h c s u b F gq wq L g m E++[o0]):=by
  unfold qci
  simp
 have e189:=ev206h hcal (2 * u.ends.length + u.inputs.length + u.values.length) (by omega) (by omega)
 have hW:wK E u.inputs u.values 3=E++u.inputs++u.values:=by simp [wK]
 have hN:nK (2 * u.ends.length) u.inputs.length u.values.length 3=2 * u.ends.length + u.inputs.length + u.values.length:=by simp [nK]
 have hla:∀ f,fill f 0 (q1i u g m 3)=fill f 0 ([some (vw3 u g m),none,some (.sl 31 0 0 0 0),some (num (2 * u.ends.length + u.inputs.length + u.values.length:Nat)),none,none,none,none,none,some (vw3 u g m),some (num 3),some (num 3)]++List.replicate 24 none):=fun f=>by
  unfold q1i
  rw [hN]
  rfl
 rw [hW] at lb
 have hlen:((E++u.inputs++u.values).map qic).length=2 * u.ends.length + u.inputs.length + u.values.length:=by
  simp [hE]
  omega
 generalize (E++u.inputs++u.values).map qic=W at *
 have lb':∀ st,At ([some (vw3 u g m),none,some (.sl 31 0 0 0 0),none,none,none,some (.sl 32 0 1 0 0)]++List.replicate 18 none++[some (vw3 u g m),some (num 3),some (num 0)]++List.replicate 8 none) (q7h c s u b F gq wq L g m E++[o0,⟨0,.arr 1 []⟩]) st→∃ r,ev pg (.code (.going 33 L196_1) st)=some r∧∃ a:Nat × Nat,a.2=1∧qaj (.exit 2) ([none,none,none,none,none,none,some (.sl 32 a.1 a.2 0 (2 * u.ends.length + u.inputs.length + u.values.length))]++List.replicate 29 none) (q7h c s u b F gq wq L g m E++[o0,⟨a.1,.arr a.2 W⟩]) r:=by
  intro st h0
  obtain ⟨r,e,a,ha,f,hf,rfl⟩:=lb st h0
  refine ⟨_,e,a,ha,?_⟩
  unfold q8e
  rw [hN]
  generalize 2 * u.ends.length + u.inputs.length + u.values.length=N at *
  simp [hf.ne]
 generalize 2 * u.ends.length + u.inputs.length + u.values.length=N at *
 simp at e189
 rw [qac,pg196]
 simp [ir196,qag]
 generalize hr:ev pg (.code (.going _ L196_0) _)=o
 obtain ⟨r,rfl,f,hf,rfl⟩:∃ r,o=some r∧_:=by rw [← hr]; exact la _ (by simp [q1i,nK])
 clear hr
 rw [hla]
 simp [e189,hf.ne,qag]
 generalize hr:ev pg (.code (.going _ L196_1) _)=o
 obtain ⟨r,rfl,⟨g2,m2⟩,hm2,f2,hf2,rfl⟩:∃ r,o=some r∧_:=by rw [← hr]; exact lb' _ (by simp [hf.ne])
 obtain rfl:m2=1:=hm2
 clear hr
 simp [qcj,qee,qdy,hlen]
set_option maxHeartbeats 1000000 in
theorem ev191 (c:Ct) (s u b:Ste) (F gq wq:Nat) (L:List Int) (hs:u.small) (h1:1≤u.ends.length):ev pg (.call (.fn 191 [] []) [.bptr 15 0] (zjm c s u b F gq wq L))=some { v:=.sl 29 0 1 0 (qae u).length,st:=⟨[],zjm c s u b F gq wq L++[⟨0,.arr 1 ((qae u).map qic)⟩]⟩ }:=by
 have hl:=@z4a c s u b F gq wq L hs
 have he:=qen u.ends
 have hlen:=qew u
 have q7h:=fun g m hm=>ev196m c s u b F gq wq L hs h1 g m hm (qem u.ends) he
 unfold q8o at hl
 rw [List.take_length,List.take_zero,qem] at hl
 unfold qae at hlen ⊢
 rw [hlen]
 have hWl:((qem u.ends++u.inputs++u.values).map qic).length=2 * u.ends.length + u.inputs.length + u.values.length:=by rw [List.length_map,hlen]
 generalize (qem u.ends++u.inputs++u.values).map qic=W at *
 generalize qem u.ends=E at *
 generalize hN:2 * u.ends.length + u.inputs.length + u.values.length=N at *
 rw [qac,pg191]
 simp [ir191,qag]
 generalize hr:ev pg (.code (.going _ L191_0) _)=o
 obtain ⟨r,rfl,⟨g,m⟩,hm,f,hf,rfl⟩:∃ r,o=some r∧_:=by rw [← hr]; exact hl (0,0) (.inr rfl) (by simp [zlq])
 clear hr
 have hmm:m=1∨m=0:=hm
 have h174':=q7h g m hmm
 simp at h174'
 rcases hmm with rfl | rfl <;> simp [qaa,exT,qad,zlq,he,h174',qcj,qee,qdy,hWl]
end Go.Proofs.YtlhciedghbmjjaaGreat
