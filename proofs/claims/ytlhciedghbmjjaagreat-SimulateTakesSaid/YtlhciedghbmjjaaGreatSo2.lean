/- Sorting in place: two numbers, the median. Sorting in place: insertion, reversing, the heap. -/
import Derived.Test.YtlhciedghbmjjaaGreatSo0
import Derived.Test.YtlhciedghbmjjaaGreatPg5
set_option linter.all false
namespace Go.Proofs.YtlhciedghbmjjaaGreat
open Go Go.Am Go.Proofs
set_option maxRecDepth 100000
abbrev ltI:Int→Int→Bool:=Go.Sort.ltInt
theorem ev167 (x:Int):ev pg (.call (.fn 167 [] []) [num x] [])=some { v:=.bool false,st:=⟨[],[]⟩ }:=by
 rw [qac,pg167]
 simp [ir167]
theorem ev139 (x y:Int):ev pg (.call (.fn 139 [] []) [num x,num y] [])=some { v:=.bool (ltI x y),st:=⟨[],[]⟩ }:=by
 have h1:=ev167 x
 rw [qac,pg139]
 unfold ltI Go.Sort.ltInt
 simp [ir139,h1]
theorem qak {d:Array Int} {k:Nat} (hk:k < d.size):∀ h,(qgl d)[k]'h=[num d[k]!]:=by
 intro h
 have:=zdi hk
 rw [List.getElem?_eq_getElem h] at this
 exact Option.some.inj this
abbrev zrb (h:H) (i g:Nat) (d:Array Int) (s:Int):H:=put h i g d++[⟨0,.box [num s]⟩]
theorem zdm {h:H} (hc:qci h) (i g:Nat) (d:Array Int) (s:Int):qci (zrb h i g d s):=by
 refine qdo (qkx hc i g d) ?_
 intro o ho
 rw [List.mem_singleton.1 ho]
 rfl
theorem qoi {h:H} (hc:qci h) (i g:Nat) (d:Array Int) (s:Int):qam (h.length + 1) (put h i g d++[⟨0,.box [num s]⟩])=put h i g d++[⟨0,.box [num s]⟩]:=by
 have:=qdg (zdm hc i g d s)
 simpa using this
theorem zfx {h:H} {i:Nat} (hi:i < h.length) (g:Nat) (d:Array Int) (s:Int):(put h i g d++[⟨0,.box [num s]⟩])[i]?=some ⟨g,.arr 1 (qgl d)⟩:=by
 rw [List.getElem?_append_left (by simpa using hi),q2t hi]
theorem q4x (h:H) (i g:Nat) (d:Array Int) (s:Int):(put h i g d++[⟨0,.box [num s]⟩])[h.length]?=some ⟨0,.box [num s]⟩:=by
 rw [List.getElem?_append_right (by simp),qjg,Nat.sub_self]
 rfl
theorem zij (h:H) (i g:Nat) (d:Array Int) (s t:Int):(put h i g d++[(⟨0,.box [num s]⟩:Ob)]).set h.length ⟨0,.box [num t]⟩=put h i g d++[⟨0,.box [num t]⟩]:=by
 rw [List.set_append_right _ _ (by simp),qjg,Nat.sub_self]
 rfl
theorem ev183 {h:H} {i:Nat} (hi:i < h.length) (hc:qci h) (g:Nat) (d:Array Int) (a b:Nat) (s:Nat) (ha:a < d.size) (hb:b < d.size) (hs:s≤100000):ev pg (.call (.fn 183 [] []) [.sl i g 1 0 d.size,num a,num b,.bptr h.length 0] (zrb h i g d s))=some { v:=.tup [num (Go.Sort.order2 ltI d a b s).1,num (Go.Sort.order2 ltI d a b s).2.1],st:=⟨[],zrb h i g d (Go.Sort.order2 ltI d a b s).2.2⟩ }:=by
 have g1:=zfx hi g d s
 have g2:=q4x h i g d s
 have g3:=zij h i g d s (s + 1)
 have g4:=qoi hc i g d s
 have g5:=qoi hc i g d (s + 1)
 have r1:=qak ha
 have r2:=qak hb
 have h111:=ev139 d[b]! d[a]!
 have ws:=qab (n:=(s:Int) + 1) (by omega) (by omega)
 rw [qac,pg183]
 unfold Go.Sort.order2
 generalize d[a]! = x at *
 generalize d[b]! = y at *
 cases hl:ltI y x <;> rw [hl] at h111 <;> simp [-qam,qaa,exT,qad,ir183,g1,g2,g3,g4,g5,r1,r2,h111,ws,ha,hb]
theorem qif {n:Nat} {d:Array Int} {a b s:Nat} (ha:a < n) (hb:b < n):(Go.Sort.order2 ltI d a b s).1 < n∧(Go.Sort.order2 ltI d a b s).2.1 < n∧(Go.Sort.order2 ltI d a b s).2.2≤s + 1:=by
 unfold Go.Sort.order2
 split
 ·exact ⟨hb,ha,Nat.le_refl _⟩
 ·exact ⟨ha,hb,by simp⟩
theorem qtd {n:Nat} {d:Array Int} {a b c s:Nat} (ha:a < n) (hb:b < n) (hc:c < n):(Go.Sort.median ltI d a b c s).1 < n∧(Go.Sort.median ltI d a b c s).2≤s + 3:=by
 unfold Go.Sort.median
 obtain ⟨h1,h2,h3⟩:=qif (d:=d) (s:=s) ha hb
 generalize Go.Sort.order2 ltI d a b s=r1 at *
 obtain ⟨h4,h5,h6⟩:=qif (d:=d) (s:=r1.2.2) h2 hc
 simp only
 generalize Go.Sort.order2 ltI d r1.2.1 c r1.2.2=r2 at *
 obtain ⟨h7,h8,h9⟩:=qif (d:=d) (s:=r2.2.2) h1 h4
 exact ⟨h8,by omega⟩
theorem ev166 {h:H} {i:Nat} (hi:i < h.length) (hc:qci h) (g:Nat) (d:Array Int) (a b c:Nat) (s:Nat) (ha:a < d.size) (hb:b < d.size) (hcc:c < d.size) (hs:s≤90000):ev pg (.call (.fn 166 [] []) [.sl i g 1 0 d.size,num a,num b,num c,.bptr h.length 0] (zrb h i g d s))=some { v:=num (Go.Sort.median ltI d a b c s).1,st:=⟨[],zrb h i g d (Go.Sort.median ltI d a b c s).2⟩ }:=by
 have g4:=fun s=>qoi hc i g d s
 have e1:=ev183 hi hc g d a b s ha hb (by omega)
 unfold Go.Sort.median
 obtain ⟨h1,h2,h3⟩:=qif (d:=d) (s:=s) ha hb
 generalize Go.Sort.order2 ltI d a b s=r1 at *
 have e2:=ev183 hi hc g d r1.2.1 c r1.2.2 h2 hcc (by omega)
 obtain ⟨h4,h5,h6⟩:=qif (d:=d) (s:=r1.2.2) h2 hcc
 simp only
 generalize Go.Sort.order2 ltI d r1.2.1 c r1.2.2=r2 at *
 have e3:=ev183 hi hc g d r1.1 r2.1 r2.2.2 h1 h4 (by omega)
 obtain ⟨h7,h8,h9⟩:=qif (d:=d) (s:=r2.2.2) h1 h4
 generalize Go.Sort.order2 ltI d r1.1 r2.1 r2.2.2=r3 at *
 rw [qac,pg166]
 simp [-qam,ir166,e1,e2,e3,g4]
theorem ev165 {h:H} {i:Nat} (hi:i < h.length) (hc:qci h) (g:Nat) (d:Array Int) (a:Nat) (s:Nat) (h1:1≤a) (ha:a + 1 < d.size) (hn:d.size≤1000000) (hs:s≤90000):ev pg (.call (.fn 165 [] []) [.sl i g 1 0 d.size,num a,.bptr h.length 0] (zrb h i g d s))=some { v:=num (Go.Sort.medianAdjacent ltI d a s).1,st:=⟨[],zrb h i g d (Go.Sort.medianAdjacent ltI d a s).2⟩ }:=by
 have g4:=fun s=>qoi hc i g d s
 have e1:=ev166 hi hc g d (a - 1) a (a + 1) s (by omega) (by omega) ha hs
 unfold Go.Sort.medianAdjacent
 have w1:=qab (n:=(a:Int) - 1) (by omega) (by omega)
 have w2:=qab (n:=(a:Int) + 1) (by omega) (by omega)
 generalize Go.Sort.median ltI d (a - 1) a (a + 1) s=r at *
 rw [show (((a - 1:Nat)):Int)=(a:Int) - 1 by omega,show (((a + 1:Nat)):Int)=(a:Int) + 1 by omega] at e1
 rw [qac,pg165]
 simp [-qam,ir165,e1,g4,w1,w2]
def qum:Go.Sort.Hint→Int
 | .unknown=>0
 | .increasing=>1
 | .decreasing=>2
theorem ev136 {h:H} {i:Nat} (hi:i < h.length) (hc:qci h) (g:Nat) (d:Array Int) (a l:Nat) (hb:a + l≤d.size) (h8:8≤l) (hn:d.size≤1000000):ev pg (.call (.fn 136 [] []) [.sl i g 1 0 d.size,num a,num (a + l:Nat)] (put h i g d))=some { v:=.tup [num (Go.Sort.choosePivot ltI d a (a + l)).1,num (qum (Go.Sort.choosePivot ltI d a (a + l)).2)],st:=⟨[],put h i g d⟩ }:=by
 have g4:=fun s=>qoi hc i g d s
 have g2:=fun s=>q4x h i g d s
 have g5:∀ s,qam h.length (put h i g d++[⟨0,.box [num s]⟩])=put h i g d:=fun s=>by
  have:=qde (qkx hc i g d) [⟨0,.box [num s]⟩]
  rwa [qjg] at this
 unfold Go.Sort.choosePivot
 simp only [Nat.add_sub_cancel_left,Nat.mul_one,ge_iff_le,h8,if_true]
 have hq:Int.tdiv (l:Int) 4=((l / 4:Nat):Int):=by
  rw [show (4:Int)=((4:Nat):Int) by rfl,← Int.ofNat_tdiv]
 have q1:4 * (l / 4)≤l:=by omega
 have q2:2≤l / 4:=by omega
 generalize l / 4=q at *
 have h8':(8:Int)≤l:=by omega
 have wl:IntKind.i64.wrap ((a:Int) + l - a)=(l:Int):=by
  rw [qab (by omega) (by omega)]
  omega
 have wq:=qab (n:=(q:Int)) (by omega) (by omega)
 have wq2:=qab (n:=(q:Int) * 2) (by omega) (by omega)
 have wq3:=qab (n:=(q:Int) * 3) (by omega) (by omega)
 have wi:=qab (n:=(a:Int) + q) (by omega) (by omega)
 have wj:=qab (n:=(a:Int) + q * 2) (by omega) (by omega)
 have wk:=qab (n:=(a:Int) + q * 3) (by omega) (by omega)
 by_cases h50:50≤l
 ·have h50':(50:Int)≤l:=by omega
  simp only [h50,if_true]
  have e1:=ev165 hi hc g d (a + q) 0 (by omega) (by omega) hn (by omega)
  have b1:=qtd (d:=d) (s:=0) (a:=a + q - 1) (b:=a + q) (c:=a + q + 1) (n:=d.size) (by omega) (by omega) (by omega)
  change (Go.Sort.medianAdjacent ltI d (a + q) 0).1 < d.size∧(Go.Sort.medianAdjacent ltI d (a + q) 0).2≤0 + 3 at b1
  generalize Go.Sort.medianAdjacent ltI d (a + q) 0=r1 at *
  have e2:=ev165 hi hc g d (a + q * 2) r1.2 (by omega) (by omega) hn (by omega)
  have b2:=qtd (d:=d) (s:=r1.2) (a:=a + q * 2 - 1) (b:=a + q * 2) (c:=a + q * 2 + 1) (n:=d.size) (by omega) (by omega) (by omega)
  change (Go.Sort.medianAdjacent ltI d (a + q * 2) r1.2).1 < d.size∧(Go.Sort.medianAdjacent ltI d (a + q * 2) r1.2).2≤r1.2 + 3 at b2
  generalize Go.Sort.medianAdjacent ltI d (a + q * 2) r1.2=r2 at *
  have e3:=ev165 hi hc g d (a + q * 3) r2.2 (by omega) (by omega) hn (by omega)
  have b3:=qtd (d:=d) (s:=r2.2) (a:=a + q * 3 - 1) (b:=a + q * 3) (c:=a + q * 3 + 1) (n:=d.size) (by omega) (by omega) (by omega)
  change (Go.Sort.medianAdjacent ltI d (a + q * 3) r2.2).1 < d.size∧(Go.Sort.medianAdjacent ltI d (a + q * 3) r2.2).2≤r2.2 + 3 at b3
  generalize Go.Sort.medianAdjacent ltI d (a + q * 3) r2.2=r3 at *
  have e4:=ev166 hi hc g d r1.1 r2.1 r3.1 r3.2 b1.1 b2.1 b3.1 (by omega)
  generalize Go.Sort.median ltI d r1.1 r2.1 r3.1 r3.2=r at *
  obtain ⟨m,t⟩:=r
  rw [qac,pg136]
  simp at e1 e2 e3 e4
  by_cases t0:t=0
  ·subst t0
   simp [-qam,ir136,h8',h50',hq,wl,wq,wq2,wq3,wi,wj,wk,e1,e2,e3,e4,g4,g2,g5,qum]
  ·have t0':((t:Int) == 0)=false:=by simp; omega
   by_cases t1:t=12
   ·subst t1
    simp [-qam,ir136,h8',h50',hq,wl,wq,wq2,wq3,wi,wj,wk,e1,e2,e3,e4,g4,g2,g5,qum]
   ·have t1':((t:Int) == 12)=false:=by simp; omega
    simp [-qam,ir136,h8',h50',hq,wl,wq,wq2,wq3,wi,wj,wk,e1,e2,e3,e4,g4,g2,g5,qum,t0,t0',t1,t1']
 ·have h50':¬ (50:Int)≤l:=by omega
  simp only [h50,if_false]
  have e4:=ev166 hi hc g d (a + q) (a + q * 2) (a + q * 3) 0 (by omega) (by omega) (by omega) (by omega)
  generalize Go.Sort.median ltI d (a + q) (a + q * 2) (a + q * 3) 0=r at *
  obtain ⟨m,t⟩:=r
  rw [qac,pg136]
  simp at e4
  by_cases t0:t=0
  ·subst t0
   simp [-qam,ir136,h8',h50',hq,wl,wq,wq2,wq3,wi,wj,wk,e4,g4,g2,g5,qum]
  ·have t0':((t:Int) == 0)=false:=by simp; omega
   by_cases t1:t=12
   ·subst t1
    simp [-qam,ir136,h8',h50',hq,wl,wq,wq2,wq3,wi,wj,wk,e4,g4,g2,g5,qum]
   ·have t1':((t:Int) == 12)=false:=by simp; omega
    simp [-qam,ir136,h8',h50',hq,wl,wq,wq2,wq3,wi,wj,wk,e4,g4,g2,g5,qum,t0,t0',t1,t1']
theorem qgh {P:Prg} {nx:Nat} {c:C} {T T':Tm} {h h':H} {Q:R→Prop}
  (step:∀ f,Junk f→∃ r,ev P (.code c ⟨fill f 0 T,h⟩)=some r∧((r.x=.normal∧At T' h' (qos nx r.st))∨(r.x ≠ .normal∧Q r)))
  (next:∀ st,At T' h' st→∃ r,ev P (.code (.going nx c) st)=some r∧Q r) {st:St} (h0:At T h st):∃ r,ev P (.code (.going nx c) st)=some r∧Q r:=by
 obtain ⟨f,hf,rfl⟩:=h0.eq
 obtain ⟨r,e,hr⟩:=step f hf
 rw [qdt,e]
 rcases hr with ⟨hx,ha⟩ | ⟨hx,hq⟩
 ·obtain ⟨r',e',hq⟩:=next _ ha
  refine ⟨r',?_,hq⟩
  simp only [hx]
  exact e'
 ·refine ⟨r,?_,hq⟩
  simp only
theorem qba {P:Prg} {nx:Nat} {c:C} {T:Tm} {h:H} {Q:R→Prop}
  (step:∀ f,Junk f→∃ r,ev P (.code c ⟨fill f 0 T,h⟩)=some r∧r.x ≠ .normal∧Q r) {st:St} (h0:At T h st):∃ r,ev P (.code (.going nx c) st)=some r∧Q r:=by
 obtain ⟨f,hf,rfl⟩:=h0.eq
 obtain ⟨r,e,hx,hq⟩:=step f hf
 rw [qdt,e]
 refine ⟨r,?_,hq⟩
 simp only
theorem qby (e:Array Int) (k:Nat):∃ z,∀ h,(qgl e)[k]'h=[num z]:=⟨e[k]!,fun h=>qak (by simpa using h) h⟩
structure Mem (h:H) (i g:Nat):Prop where
 lt:i < h.length
 get:∀ d hh,(put h i g d)[i]'hh=⟨g,.arr 1 (qgl d)⟩
 set:∀ d d',(put h i g d).set i ⟨g,.arr 1 (qgl d')⟩=put h i g d'
 cl:∀ d,qay h.length (put h i g d)=put h i g d
 ck:∀ d,qam h.length (put h i g d)=put h i g d
theorem qha {h:H} {i:Nat} (hi:i < h.length) (hc:qci h) (g:Nat):Mem h i g :=
 ⟨hi,fun d hh=>by
  have:=q2t hi g d
  rw [List.getElem?_eq_getElem hh] at this
  exact Option.some.inj this,zel h i g,zgv hc i g,zos hc i g⟩
abbrev swI:Array Int→Nat→Nat→Array Int:=Go.Sort.swp
theorem qch (d:Array Int) (a b:Nat):(swI d a b).size=d.size:=by simp [swI,Go.Sort.swp]
def zmb (i g n:Nat) (a b k j:Nat):Tm:=[some (.sl i g 1 0 n),some (num a),some (num b),none,none,none,some (num k),some (num j)]++List.replicate 41 none
def zbe (i g n:Nat) (a b k:Nat):Tm:=[some (.sl i g 1 0 n),some (num a),some (num b),none,none,none,some (num k),none]++List.replicate 41 none
theorem zjx {h:H} {i g:Nat} (hm:Mem h i g) (n a b k:Nat) (hn:n≤1000000):∀ (j:Nat) (d:Array Int),d.size=n→j < n→∀ {st:St},At (zmb i g n a b k j) (put h i g d) st→∃ r,ev pg (.code (.going h.length L133_0) st)=some r∧qaj (.exit 2) (zbe i g n a b k) (put h i g (Go.Sort.insInner ltI a j d)) r∧(Go.Sort.insInner ltI a j d).size=n
 | 0,d,hd,hj,st,h0=>by
  rw [Go.Sort.insInner]
  refine qba (fun f hf=>?_) h0
  have ha:¬ ((a:Int) < 0):=by omega
  simp [-qam,-qay,qaa,exT,qad,L133_0,zmb,zbe,ha,hd,hf.ne]
 | j + 1,d,hd,hj,st,h0=>by
  rw [Go.Sort.insInner]
  have m1:=hm.lt
  have m2:=hm.set
  have m3:=hm.get
  have r1:=qak (d:=d) (k:=j + 1) (by omega)
  have r2:=qak (d:=d) (k:=j) (by omega)
  have h111:=ev139 d[j + 1]! d[j]!
  have hjn:j < d.size:=by omega
  have p1:(0:Int)≤(j:Int) + 1:=by omega
  have hjn2:j + 1 < d.size:=by omega
  have w1:=qab (n:=(j:Int)) (by omega) (by omega)
  by_cases ha:a < j + 1
  ·have ha':(a:Int) < (j:Int) + 1:=by omega
   by_cases hl:ltI d[j + 1]! d[j]! = true
   ·rw [if_pos (by simp [ha,hl])]
    rw [hl] at h111
    have hsw:(d.setIfInBounds (j + 1) d[j]!).setIfInBounds j d[j + 1]! = swI d (j + 1) j:=rfl
    have ih:=fun st=>@zjx h i g hm n a b k hn j (swI d (j + 1) j) (by rw [qch]; exact hd) (by omega) st
    refine qgh (T':=zmb i g n a b k j) (h':=put h i g (swI d (j + 1) j)) (fun f hf=>?_) ih h0
    have m4:=hm.cl (swI d (j + 1) j)
    generalize d[j + 1]! = x at *
    generalize d[j]! = y at *
    generalize swI d (j + 1) j=d' at *
    obtain ⟨z,r3⟩:=qby (d.setIfInBounds (j + 1) y) j
    simp [hm.lt,r3,-qam,-qay,qaa,exT,qad,L133_0,zmb,ha',m1,m2,m3,m4,r1,r2,h111,hjn,hjn2,p1,w1,qbn,hsw,hd.symm,hf.ne]
   ·have hl':ltI d[j + 1]! d[j]! = false:=by simpa using hl
    rw [if_neg (by simp [hl])]
    rw [hl'] at h111
    refine qba (fun f hf=>?_) h0
    generalize d[j + 1]! = x at *
    generalize d[j]! = y at *
    simp [-qam,-qay,qaa,exT,qad,L133_0,zmb,ha',m1,m3,r1,r2,h111,hjn,hjn2,p1,w1,hd.symm,zbe,hf.ne]
  ·have ha':¬ (a:Int) < (j:Int) + 1:=by omega
   rw [if_neg (by simp [ha])]
   refine qba (fun f hf=>?_) h0
   simp [-qam,-qay,qaa,exT,qad,L133_0,zmb,zbe,ha',hd,hf.ne]
theorem qvc (lt:Int→Int→Bool) (a:Nat):∀ (j:Nat) (d:Array Int),(Go.Sort.insInner lt a j d).size=d.size
 | 0,d=>rfl
 | j + 1,d=>by
  rw [Go.Sort.insInner]
  split
  ·rw [qvc lt a j]; exact qch _ _ _
  ·rfl
def zcb (i g n:Nat) (a b k:Nat):Tm:=[some (.sl i g 1 0 n),some (num a),some (num b),none,none,none,some (num k)]++List.replicate 42 none
def zov:Tm:=List.replicate 49 none
theorem zjg {h:H} {i g:Nat} (hm:Mem h i g) (n a b:Nat) (hn:n≤1000000) (hb:b≤n):∀ (m k:Nat) (d:Array Int),d.size=n→b - k=m→∀ {st:St},At (zcb i g n a b k) (put h i g d) st→∃ r,ev pg (.code (.going h.length L133_1) st)=some r∧qaj (.exit 0) zov (put h i g (Go.Sort.insOuter ltI a b k d)) r∧(Go.Sort.insOuter ltI a b k d).size=n
 | 0,k,d,hd,hk,st,h0=>by
  rw [Go.Sort.insOuter,if_neg (by omega)]
  refine qba (fun f hf=>?_) h0
  have hk':¬ ((k:Int) < b):=by omega
  simp [-qam,-qay,L133_1,zcb,zov,hk',hd,hf.ne]
 | m + 1,k,d,hd,hk,st,h0=>by
  rw [Go.Sort.insOuter,if_pos (by omega)]
  have hk':(k:Int) < b:=by omega
  have hla:=@zjx h i g hm n a b k hn k d hd (by omega)
  have wk:=qab (n:=(k:Int) + 1) (by omega) (by omega)
  have m4:=hm.cl
  have hsz:(Go.Sort.insInner ltI a k d).size=n:=by
   have e:=qvc ltI a k d
   omega
  have ih:=fun st=>@zjg h i g hm n a b hn hb m (k + 1) (Go.Sort.insInner ltI a k d) hsz (by omega) st
  refine qgh (T':=zcb i g n a b (k + 1)) (h':=put h i g (Go.Sort.insInner ltI a k d)) (fun f hf=>?_) ih h0
  generalize Go.Sort.insInner ltI a k d=d' at *
  simp [-qam,-qay,L133_1,zcb,hk',m4,qag,hf.ne]
  generalize hr:ev pg (.code (.going _ L133_0) _)=o
  obtain ⟨r,rfl,⟨f2,hf2,rfl⟩,-⟩:∃ r,o=some r∧_:=by rw [← hr]; exact hla (by simp [zmb,hf.ne])
  clear hr
  simp [-qam,-qay,zbe,wk,m4,hm.lt,hf2.ne]
theorem ev133 {h:H} {i:Nat} (hi:i < h.length) (hc:qci h) (g:Nat) (d:Array Int) (a b:Nat) (hb:b≤d.size) (hab:a≤b) (hn:d.size≤1000000):ev pg (.call (.fn 133 [] []) [.sl i g 1 0 d.size,num a,num b] (put h i g d))=some { v:=.tup [],st:=⟨[],put h i g (Go.Sort.insertionSort ltI d a b)⟩ }:=by
 have hm:=qha hi hc g
 have m4:=hm.ck
 have hl:=@zjg h i g hm d.size a b hn hb _ (a + 1) d rfl rfl
 have wa:=qab (n:=(a:Int) + 1) (by omega) (by omega)
 unfold Go.Sort.insertionSort
 generalize Go.Sort.insOuter ltI a b (a + 1) d=d' at *
 rw [qac,pg133]
 simp [-qam,-qay,ir133,wa,qag]
 generalize hr:ev pg (.code (.going _ L133_1) _)=o
 obtain ⟨r,rfl,⟨f2,hf2,rfl⟩,-⟩:∃ r,o=some r∧_:=by rw [← hr]; exact hl (by simp [zcb])
 clear hr
 simp [-qam,-qay,zov,m4,hm.lt]
end Go.Proofs.YtlhciedghbmjjaaGreat
