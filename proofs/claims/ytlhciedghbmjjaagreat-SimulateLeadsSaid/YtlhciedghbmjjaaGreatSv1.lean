/- The value of an expression, by the reference. Gates are computed, by the reference. What a signal wants, by the reference. A round of the signals, by the reference. Actuators begin to go, by the reference. The valves take their pilots, by the reference. Two ascending lists as one, by the reference. Are lists equal, and states, by the program. The value of an expression, by settle. -/
import Derived.Test.YtlhciedghbmjjaaGreatEv1
import Derived.Test.YtlhciedghbmjjaaGreatCt6
import Derived.Test.YtlhciedghbmjjaaGreatSt2
import Derived.KernelRfl
set_option linter.all false
namespace Go.Proofs.YtlhciedghbmjjaaGreat
open Go Go.Am Go.Proofs
set_option maxRecDepth 100000
theorem zgz {o i n:Int} {k:Nat} (h:qbj o i k n=0) (ho:o=2):k=1:=by
 subst ho
 unfold qbj at h
 by_cases hk:k=1
 ·exact hk
 ·rw [if_neg (by omega),if_pos (by omega)] at h
  omega
theorem qxj (c:Ct) (F i:Nat) (L:List Bool):(qfx c F i L).take F=L.take F:=by
 unfold qfx
 split
 ·split
  ·rw [List.take_set]
   rw [List.set_eq_of_length_le (by rw [List.length_take]; omega)]
  ·rfl
 ·rfl
theorem qpz (c:Ct) (F:Nat) (L:List Bool):∀ k,(qbh c F k L).take F=L.take F
 | 0=>rfl
 | k + 1=>by rw [qbh,qxj,qpz c F L k]
def stK (c:Ct) (s:Ste) (k:Nat):Ste:=⟨s.ends,s.valves,s.inputs,(qbh c (qal s) k (qag s)).drop (qal s),s.timers⟩
theorem zhd (c:Ct) (s:Ste):stK c s 0=s:=by
 unfold stK qbh
 rw [qmr]
theorem q9w (c:Ct) (s:Ste):stK c s c.signals.length=qfc c s:=rfl
theorem zcp (c:Ct) (s:Ste) (k:Nat):(stK c s k).values.length=s.values.length:=by
 unfold stK
 simp only [List.length_drop]
 rw [qft,qex]
 unfold qal
 omega
theorem qko (c:Ct) (s:Ste) (k:Nat):qag (stK c s k)=qbh c (qal s) k (qag s):=by
 have h1:=qpz c (qal s) (qag s) k
 have h2:(qag s).take (qal s)=qen s.ends++s.inputs:=by
  unfold qag
  rw [List.take_left' (by rw [List.length_append,qel])]
 rw [h2] at h1
 have e:=List.take_append_drop (qal s) (qbh c (qal s) k (qag s))
 rw [h1] at e
 exact e
theorem zfr (c:Ct) (s:Ste) (k:Nat) (hk:k < c.signals.length):(stK c s (k + 1)).values=if c.signals[k].kind=0 then (stK c s k).values.set k (c.signals[k].on.holds (qag (stK c s k))) else (stK c s k).values:=by
 have e:c.signals[k]?=some c.signals[k]:=List.getElem?_eq_getElem hk
 rw [qko]
 unfold stK
 simp only [qbh]
 rw [qfx,e]
 simp only
 split
 ·rw [List.drop_set,if_neg (by omega),Nat.add_sub_cancel_left]
 ·rfl
structure SigOk (n:Nat) (x:Sg):Prop where
 on:x.on.nodes≤256∧x.on.err n=0
 off:x.kind=1→x.off.nodes≤256∧x.off.err n=0
abbrev tv (c:Ct) (g:Ste) (k:Nat):List Bool:=mix ((qfr c g).map Prod.fst) g.values k
abbrev tt (c:Ct) (g:Ste) (k:Nat):List Int:=mix ((qfr c g).map Prod.snd) g.timers k
abbrev bdL (c:Ct) (g:Ste) (F:Nat) (k:Nat):List Int:=qyl (zir c (qag g)) F k
theorem zbo {c:Ct} {s:Ste} {A:Nat} (hM:Mid c A) (hS:Shp c s):qal s=qao c A:=by
 have h1:=hS.e
 have h2:=hM.act
 have h3:=hS.i
 unfold qal qao
 omega
abbrev ge (s:Ste) (k:Nat):List Int:=mix (List.zipWith qud s.valves s.ends) s.ends k
structure Pil (c:Ct) (A:Nat) (N:Nat):Prop where
 p:c.plus.length=A
 m:c.minus.length=A
 pb:∀ x ∈ c.plus,0≤x∧x < (N:Int)
 mb:∀ x ∈ c.minus,0≤x∧x < (N:Int)
abbrev cfL (c:Ct) (L:List Bool) (A k:Nat):List Int:=qyl (fun i=>qei L c.plus i && qei L c.minus i) (qaj c A:Nat) k
structure G65 (a b:List Int) (k:Nat) (x:List Int × Nat × Nat × Nat × Nat):Prop where
 i:x.2.1≤a.length
 j:x.2.2.1≤b.length
 k:k≤x.2.1 + x.2.2.1
 w:x.2.2.2.2=1∨x.2.2.2.2=0
 n:x.1.length≤x.2.1 + x.2.2.1
 go:x.1++mrg (a.drop x.2.1) (b.drop x.2.2.1)=mrg a b
def T65 (a b:List Int) (x:List Int × Nat × Nat × Nat × Nat):Tm:=[some (qbw a),some (qbw b),none,none,some (.sl 0 0 0 0 0),some (.sl 1 x.2.2.2.1 x.2.2.2.2 0 x.1.length),some (num x.2.1),some (num x.2.2.1)]++List.replicate 78 none
abbrev h65 (x:List Int × Nat × Nat × Nat × Nat):H:=[o0,⟨x.2.2.2.1,.arr x.2.2.2.2 (x.1.map qee)⟩]
theorem q6g {a b:List Int} {i j:Nat} (hi:i < a.length) (h:j=b.length∨∃ hj:j < b.length,a[i] < b[j]):mrg (a.drop i) (b.drop j)=a[i] :: mrg (a.drop (i + 1)) (b.drop j):=by
 rw [List.drop_eq_getElem_cons hi]
 rcases h with rfl | ⟨hj,h⟩
 ·rw [List.drop_length,mrg]
  cases List.drop (i + 1) a <;> simp [mrg]
 ·rw [List.drop_eq_getElem_cons hj,mrg,if_pos h]
theorem q1y {a b:List Int} {i j:Nat} (hj:j < b.length) (h:i=a.length∨∃ hi:i < a.length,b[j] < a[i]):mrg (a.drop i) (b.drop j)=b[j] :: mrg (a.drop i) (b.drop (j + 1)):=by
 rw [List.drop_eq_getElem_cons hj]
 rcases h with rfl | ⟨hi,h⟩
 ·rw [List.drop_length,mrg,mrg]
 ·rw [List.drop_eq_getElem_cons hi,mrg,if_neg (by omega),if_pos h]
theorem zgn {a b:List Int} {i j:Nat} (hi:i < a.length) (hj:j < b.length) (h:a[i]=b[j]):mrg (a.drop i) (b.drop j)=a[i] :: mrg (a.drop (i + 1)) (b.drop (j + 1)):=by
 rw [List.drop_eq_getElem_cons hi,List.drop_eq_getElem_cons hj,mrg,if_neg (by omega),if_neg (by omega)]
def zvi (a b:List Int) (r:R):Prop:=∃ x:List Int × Nat × Nat × Nat × Nat,(x.2.2.2.2=1∨x.2.2.2.2=0)∧x.1=mrg a b∧qai (.exit 0) (T65 a b x) (h65 x) r
set_option maxHeartbeats 1000000 in
theorem z9r (a b:List Int) (ha:a.length≤4096) (hb:b.length≤4096) {st:St} (a0:List Int × Nat × Nat × Nat × Nat) (g0:G65 a b 0 a0) (h0:At (T65 a b a0) (h65 a0) st):∃ r,ev pg (.code (.going 2 L34_0) st)=some r∧zvi a b r:=by
 have fin:∀ (x:List Int × Nat × Nat × Nat × Nat) (f:Nat→V),Junk f→x.2.1=a.length→x.2.2.1=b.length→(x.2.2.2.2=1∨x.2.2.2.2=0)→x.1++mrg (a.drop x.2.1) (b.drop x.2.2.1)=mrg a b→∃ r,ev pg (.code L34_0 ⟨fill f 0 (T65 a b x),h65 x⟩)=some r∧r.x ≠ .normal∧zvi a b r:=by
  rintro ⟨o,i,j,g,m⟩ f hf hi hj hm hgo
  simp only at hi hj hm hgo
  subst hi hj
  rw [List.drop_length,List.drop_length,mrg,List.append_nil] at hgo
  simp [T65,L34_0]
  exact ⟨(o,a.length,b.length,g,m),hm,hgo,by simp [T65,hf.ne]⟩
 refine qco (a.length + b.length) (fun _ x=>T65 a b x) (fun _ x=>h65 x) (G65 a b) _ ?_ ?_ a0 g0 h0
 ·rintro k x f hf hk hG
  by_cases hx:x.2.1=a.length∧x.2.2.1=b.length
  ·obtain ⟨r,h1,h2,h3⟩:=fin x f hf hx.1 hx.2 hG.w hG.go
   exact ⟨r,h1,.inr ⟨h2,h3⟩⟩
  ·obtain ⟨o,i,j,g,m⟩:=x
   have q1:i≤a.length:=hG.i
   have q2:j≤b.length:=hG.j
   have q3:k≤i + j:=hG.k
   have q4:m=1∨m=0:=hG.w
   have q5:o.length≤i + j:=hG.n
   have q6:o++mrg (a.drop i) (b.drop j)=mrg a b:=hG.go
   have hx':¬ (i=a.length∧j=b.length):=hx
   have hb1:(o.length + 1) * 8≤140737488355328:=by omega
   have wi:=qab (n:=(i:Int) + 1) (by omega) (by omega)
   have wj:=qab (n:=(j:Int) + 1) (by omega) (by omega)
   by_cases hi:i < a.length
   ·have hi':(i:Int) < a.length:=by omega
    have hib:((i:Int) == (a.length:Int))=false:=by simp; omega
    by_cases hj:j < b.length
    ·have hj':(j:Int) < b.length:=by omega
     have hjb:((j:Int) == (b.length:Int))=false:=by simp; omega
     rcases Int.lt_trichotomy a[i] b[j] with h | h | h
     ·have e:=q6g hi (.inr ⟨hj,h⟩)
      have hG':G65 a b (k + 1) (o++[a[i]],i + 1,j,g + 1,1):=⟨hi,q2,by show _≤i + 1 + j; omega,.inl rfl,by simp; omega,by show (o++[a[i]])++_=_; rw [← q6,e]; simp⟩
      rcases q4 with rfl | rfl <;> simp [T65,L34_0,hi,hi',hj,hjb,h,hb1,wi,hf.ne] <;> exact ⟨_,_,_,_,_,hG',by simp⟩
     ·have hn1:¬ a[i] < b[j]:=by omega
      have hn2:¬ b[j] < a[i]:=by omega
      have e:=zgn hi hj h
      have hG':G65 a b (k + 1) (o++[a[i]],i + 1,j + 1,g + 1,1):=⟨hi,hj,by show _≤i + 1 + (j + 1); omega,.inl rfl,by simp; omega,by show (o++[a[i]])++_=_; rw [← q6,e]; simp⟩
      rcases q4 with rfl | rfl <;> simp [T65,L34_0,hi,hi',hib,hj,hj',hjb,hn1,hn2,hb1,wi,wj,hf.ne] <;> exact ⟨_,_,_,_,_,hG',by simp⟩
     ·have hn1:¬ a[i] < b[j]:=by omega
      have e:=q1y hj (.inr ⟨hi,h⟩)
      have hG':G65 a b (k + 1) (o++[b[j]],i,j + 1,g + 1,1):=⟨q1,hj,by show _≤i + (j + 1); omega,.inl rfl,by simp; omega,by show (o++[b[j]])++_=_; rw [← q6,e]; simp⟩
      rcases q4 with rfl | rfl <;> simp [T65,L34_0,hi,hi',hib,hj,hj',hjb,hn1,h,hb1,wj,hf.ne] <;> exact ⟨_,_,_,_,_,hG',by simp⟩
    ·have hje:j=b.length:=by omega
     subst hje
     have e:=q6g (b:=b) hi (.inl rfl)
     have hG':G65 a b (k + 1) (o++[a[i]],i + 1,b.length,g + 1,1):=⟨hi,Nat.le_refl _,by show _≤i + 1 + b.length; omega,.inl rfl,by simp; omega,by show (o++[a[i]])++_=_; rw [← q6,e]; simp⟩
     rcases q4 with rfl | rfl <;> simp [T65,L34_0,hi,hi',hb1,wi,hf.ne] <;> exact ⟨_,_,_,_,_,hG',by simp⟩
   ·have hie:i=a.length:=by omega
    subst hie
    have hj:j < b.length:=by omega
    have hj':(j:Int) < b.length:=by omega
    have hjb:((j:Int) == (b.length:Int))=false:=by simp; omega
    have e:=q1y (a:=a) hj (.inl rfl)
    have hG':G65 a b (k + 1) (o++[b[j]],a.length,j + 1,g + 1,1):=⟨Nat.le_refl _,hj,by show _≤a.length + (j + 1); omega,.inl rfl,by simp; omega,by show (o++[b[j]])++_=_; rw [← q6,e]; simp⟩
    rcases q4 with rfl | rfl <;> simp [T65,L34_0,hj,hj',hjb,hb1,wj,hf.ne] <;> exact ⟨_,_,_,_,_,hG',by simp⟩
 ·rintro x f hf hG
  have h1:=hG.i
  have h2:=hG.j
  have h3:=hG.k
  exact fin x f hf (by omega) (by omega) hG.w hG.go
theorem ev34 (a b:List Int) (ha:a.length≤4096) (hb:b.length≤4096):ev pg (.call (.fn 34 [] []) [qbw a,qbw b] [])=some { v:=qbw (mrg a b),st:=⟨[],[]⟩ }:=by
 have hl:=@z9r a b ha hb
 rw [qac,pg34]
 simp [ir34,qae]
 generalize hr:ev pg (.code (.going _ L34_0) _)=o
 obtain ⟨r,rfl,⟨o,i,j,g,m⟩,hm,ho,f,hf,rfl⟩:∃ r,o=some r∧_:=by
  rw [← hr]
  exact hl ([],0,0,0,0) ⟨Nat.zero_le _,Nat.zero_le _,Nat.le_refl _,.inr rfl,Nat.le_refl _,rfl⟩ (by simp [T65])
 clear hr
 have hmm:m=1∨m=0:=hm
 have hoo:o=mrg a b:=ho
 subst hoo
 rcases hmm with rfl | rfl <;> simp [T65]
def T29 (a b:List Bool) (k:Nat):Tm:=[some (qdf a),some (qdf b),none,none,none,none,none,none,none,none,none,none,some (num a.length),some (num k)]++List.replicate 12 none
def z5q:Tm:=[none,none,none,none,some (.bool false)]++List.replicate 21 none
theorem z8y (a b:List Bool) (hab:b.length=a.length) (ha:a.length≤4096) {st:St} (h0:At (T29 a b 0) [] st):∃ r,ev pg (.code (.going 0 L130_0) st)=some r∧qku a.length (fun k=>a[k]? != b[k]?) (fun _=>qai .ret z5q []) (qai (.exit 0) (T29 a b a.length) []) r:=by
 refine qcq _ _ (T29 a b) [] _ _ ?_ ?_ ?_ h0
 ·intro k f hf hk hp
  have hk':(k:Int) < a.length:=by omega
  have hkb:k < b.length:=by omega
  have wk:=qab (n:=(k:Int) + 1) (by omega) (by omega)
  have hb:a[k]=b[k]:=by simpa [hk,hkb] using hp
  simp [qaa,exT,qad,T29,L130_0,hk,hk',hkb,hb,wk,hf.ne]
 ·intro k f hf hk hp
  have hk':(k:Int) < a.length:=by omega
  have hkb:k < b.length:=by omega
  have hb:a[k] ≠ b[k]:=by simpa [hk,hkb] using hp
  have hb':(a[k] == b[k])=false:=by simpa using hb
  simp [qaa,exT,qad,T29,z5q,L130_0,hk,hk',hkb,hb',hf.ne]
 ·intro f hf
  simp [T29,L130_0,hf.ne]
theorem ev130 (a b:List Bool) (ha:a.length≤4096):ev pg (.call (.fn 130 [] []) [qdf a,qdf b] [])=some { v:=.bool (decide (a=b)),st:=⟨[],[]⟩ }:=by
 rw [qac,pg130]
 by_cases hab:b.length=a.length
 ·have hloop:=@z8y a b hab ha
  have hab':(b.length:Int)=a.length:=by omega
  simp [ir130,qae,hab']
  generalize hr:ev pg (.code (.going _ L130_0) _)=o
  obtain ⟨r,rfl,hQ⟩:∃ r,o=some r∧_:=by rw [← hr]; exact hloop (by simp [T29])
  rcases hQ with ⟨k,hk,hp,-,f,hf,rfl⟩ | ⟨hp,f,hf,rfl⟩
  ·have:a ≠ b:=by rintro rfl; simp at hp
   simp [z5q,this]
  ·have:a=b:=by
    refine List.ext_getElem hab.symm fun k h1 h2=>?_
    have:=hp k h1
    simpa [h1,h2] using this
   simp [T29,this]
 ·have hne:((a.length:Int) != (b.length:Int))=true:=by rw [bne_iff_ne]; omega
  have:a ≠ b:=fun e=>hab (by rw [e])
  simp [ir130,hne,this]
theorem ev90 (a b:Ste) (ha:a.small):ev pg (.call (.fn 90 [] []) [a.v,b.v] [])=some { v:=.bool (qjj a b),st:=⟨[],[]⟩ }:=by
 have h1:=ev129 a.ends b.ends ha.e
 have h2:=ev130 a.valves b.valves ha.w
 have h3:=ev130 a.inputs b.inputs ha.i
 have h4:=ev130 a.values b.values ha.v
 have h5:=ev129 a.timers b.timers ha.t
 rw [qac,pg90]
 unfold qjj
 generalize decide (a.ends=b.ends)=b1 at *
 generalize decide (a.valves=b.valves)=b2 at *
 generalize decide (a.inputs=b.inputs)=b3 at *
 generalize decide (a.values=b.values)=b4 at *
 cases b1 with
 | false=>simp [ir90,h1]
 | true=>cases b2 with
  | false=>simp [ir90,h1,h2]
  | true=>cases b3 with
   | false=>simp [ir90,h1,h2,h3]
   | true=>cases b4 with
    | false=>simp [ir90,h1,h2,h3,h4]
    | true=>simp [ir90,h1,h2,h3,h4,h5]
abbrev Mv (x:Ex) (vs:List Bool):H:=[⟨0,.box x.cells⟩,⟨0,.box [qdf vs]⟩]
def zkd (x:Ex) (F k:Nat):Tm:=[some (.imm (x.args.map Ex.row)),some (.fn F [] [.bptr 1 0]),none,none,none,none,none,some (num x.args.length),some (num k)]++List.replicate 10 none
def zor (x:Ex) (F k:Nat):Tm:=[some (.imm (x.args.map Ex.row)),some (.fn F [] [.bptr 1 0]),none,none,some (num k),none,none,some (num x.args.length),some (num k)]++List.replicate 10 none
theorem z5p (x:Ex) (vs:List Bool) (F:Nat) (p:Ex→Bool) (hx:x.nodes≤256) (hF:∀ y ∈ x.args,ev pg (.call (.fn F [] [.bptr 1 0]) [y.v] (Mv x vs))=some { v:=.bool (p y),st:=⟨[],Mv x vs⟩ }) {st:St} (h0:At (zkd x F 0) (Mv x vs) st):∃ r,ev pg (.code (.going 2 L207_0) st)=some r∧qku x.args.length (fun k=>((x.args[k]?).map p).getD false) (fun k=>qai .ret (zor x F k) (Mv x vs)) (qai (.exit 0) (zkd x F x.args.length) (Mv x vs)) r:=by
 have hfew:=qfv hx
 refine qcq _ _ (zkd x F) (Mv x vs) _ _ ?_ ?_ ?_ h0
 ·intro k f hf hk hp
  have hk':(k:Int) < x.args.length:=by omega
  have wk:=qab (n:=(k:Int) + 1) (by omega) (by omega)
  have hi:=hF _ (List.getElem_mem hk)
  have hh:p x.args[k]=false:=by simpa [hk] using hp
  rw [hh] at hi
  simp [zkd,L207_0,hk,hk',wk,hi,hf.ne]
 ·intro k f hf hk hp
  have hk':(k:Int) < x.args.length:=by omega
  have hi:=hF _ (List.getElem_mem hk)
  have hh:p x.args[k]=true:=by simpa [hk] using hp
  rw [hh] at hi
  simp [zkd,zor,L207_0,hk,hk',hi,hf.ne]
 ·intro f hf
  simp [zkd,L207_0,hf.ne]
theorem ev200 (x:Ex) (vs:List Bool) (F:Nat) (p:Ex→Bool) (hx:x.nodes≤256) (hF:∀ y ∈ x.args,ev pg (.call (.fn F [] [.bptr 1 0]) [y.v] (Mv x vs))=some { v:=.bool (p y),st:=⟨[],Mv x vs⟩ }):ev pg (.call (.fn 200 [] []) [.imm (x.args.map Ex.row),.fn F [] [.bptr 1 0]] (Mv x vs))=some { v:=.bool (x.args.any p),st:=⟨[],Mv x vs⟩ }:=by
 have hl:=@z5p x vs F p hx hF
 have h190:∃ n:Int,ev pg (.call (.fn 207 [] []) [.imm (x.args.map Ex.row),.fn F [] [.bptr 1 0]] (Mv x vs))=some { v:=num n,st:=⟨[],Mv x vs⟩ }∧decide (n ≥ 0)=x.args.any p:=by
  rw [qac,pg207]
  simp [ir207,qae]
  generalize hr:ev pg (.code (.going _ L207_0) _)=o
  obtain ⟨r,rfl,hQ⟩:∃ r,o=some r∧_:=by rw [← hr]; exact hl (by simp [zkd])
  rcases hQ with ⟨k,hk,hp,-,f,hf,rfl⟩ | ⟨hp,f,hf,rfl⟩
  ·refine ⟨k,by simp [zor],?_⟩
   have h1:p x.args[k]=true:=by simpa [hk] using hp
   have h2:x.args.any p=true:=List.any_eq_true.2 ⟨_,List.getElem_mem hk,h1⟩
   rw [h2]
   simp
  ·refine ⟨-1,by simp [zkd],?_⟩
   have h2:x.args.any p=false:=by
    rw [List.any_eq_false]
    intro y hy
    obtain ⟨k,hk,rfl⟩:=List.getElem_of_mem hy
    have:=hp k hk
    simpa [hk] using this
   rw [h2]
   rfl
 obtain ⟨n,h1,h2⟩:=h190
 rw [qac,pg200]
 simp [ir200,h1,← h2]
theorem ev193 (vs:List Bool):∀ x:Ex,x.nodes≤256→x.err vs.length=0→ev pg (.call (.fn 193 [] []) [x.v,qdf vs] [])=some { v:=.bool (x.holds vs),st:=⟨[],[]⟩ }:=by
 refine Ex.ind fun x ih hx he=>?_
 obtain ⟨hn,hargs⟩:=qqu he
 have ih':∀ y ∈ x.args,ev pg (.call (.fn 193 [] []) [y.v,qdf vs] [])=some { v:=.bool (y.holds vs),st:=⟨[],[]⟩ }:=fun y hy=>ih y hy (by have:=qfs hx hy; omega) (hargs y hy)
 have hop:x.op=0∨x.op=1∨x.op=2∨x.op=3∨x.op=4:=by
  unfold qbj at hn
  by_cases h:x.op < 0∨5≤x.op
  ·rw [if_pos h] at hn; omega
  ·omega
 have h179:∀ y ∈ x.args,ev pg (.call (.fn 201 [] [.bptr 1 0]) [y.v] (Mv x vs))=some { v:=.bool (!y.holds vs),st:=⟨[],Mv x vs⟩ }:=fun y hy=>by
  have h:=ih' y hy
  rw [qac,pg201]
  simp [ir201,h]
 have h180:∀ y ∈ x.args,ev pg (.call (.fn 202 [] [.bptr 1 0]) [y.v] (Mv x vs))=some { v:=.bool (y.holds vs),st:=⟨[],Mv x vs⟩ }:=fun y hy=>by
  have h:=ih' y hy
  rw [qac,pg202]
  simp [ir202,h]
 have a:=ev200 x vs _ _ hx h179
 have b:=ev200 x vs _ _ hx h180
 have e1:(x.args.map (Ex.holds vs)).all id=!(x.args.any fun y=>!y.holds vs):=by
  rw [List.all_map,List.not_any_eq_all_not]; congr 1; funext y; simp
 have e2:(x.args.map (Ex.holds vs)).any id=x.args.any fun y=>y.holds vs:=by
  rw [List.any_map]; rfl
 rw [q6b,e1,e2,qac,pg193]
 generalize (x.args.any fun y=>!y.holds vs)=A at *
 generalize (x.args.any fun y=>y.holds vs)=B at *
 rcases hop with h | h | h | h | h
 ·simp [ir193,h]
 ·obtain ⟨hi0,hi1⟩:=qxl hn h
  have hin:x.idx.toNat < vs.length:=by omega
  simp [ir193,h,hi0,hin]
 ·have h1:=zgz hn h
  obtain ⟨y,hy⟩:∃ y,x.args=[y]:=by
   match hq:x.args,h1 with
   | [y],_=>exact ⟨y,rfl⟩
  have hiy:=ih' y (by rw [hy]; exact List.mem_cons_self)
  simp [ir193,h,hy,hiy]
 ·simp [Mv,Ex.cells,h] at a
  simp [ir193,h,a]
 ·simp [Mv,Ex.cells,h] at b
  simp [ir193,h,b]
end Go.Proofs.YtlhciedghbmjjaaGreat
