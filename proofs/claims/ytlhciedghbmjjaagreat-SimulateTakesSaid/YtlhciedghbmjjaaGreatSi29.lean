/- Whether a move comes later, by the program. Each move takes its time: strokes out, in Am. Each move takes its time: strokes in, in Am. Each move takes its time: the loop of the law SimulateTakes, in Am. The law SimulateTakes, in Am: it returns true. -/
import Derived.Test.YtlhciedghbmjjaaGreatSi26
import Derived.KernelRfl
import Derived.Test.YtlhciedghbmjjaaGreatSi19
import Derived.Test.YtlhciedghbmjjaaGreatSi21
set_option linter.all false
namespace Go.Proofs.YtlhciedghbmjjaaGreat
open Go Go.Am Go.Proofs
set_option maxRecDepth 100000
set_option maxHeartbeats 4000000
theorem q6f {P:Int→Prop}:∀ (en:List Ent) (z:List Mov × List (Int × Nat)),(∀ v ∈ z.1,P v.f)→(∀ y ∈ en,P y.t)→∀ v ∈ (en.foldl qje z).1,P v.f
 | [],z,hz,_=>hz
 | a :: r,z,hz,h=>by
  refine q6f r (qje z a) ?_ (fun y hy=>h y (List.mem_cons_of_mem _ hy))
  intro v hv
  unfold qje at hv
  rw [qwt] at hv
  rcases List.mem_append.1 hv with hv | hv
  ·unfold qrj at hv
   split at hv
   ·split at hv
    ·rename_i q hq
     split at hv
     ·rcases List.mem_or_eq_of_mem_set hv with hv | rfl
      ·exact hz v hv
      ·exact hz q (List.mem_of_getElem? hq)
     ·exact hz v hv
    ·exact hz v hv
   ·exact hz v hv
  ·rw [List.mem_map] at hv
   obtain ⟨s,-,rfl⟩:=hv
   exact h a (List.mem_cons_self ..)
def qjs (x:Mov) (lg:Int) (y:Mov):Bool:=decide (y.a=x.a) && decide (y.f≤x.f + lg)
abbrev hT5 (m:Mch) (x:Mov) (lg:Int):H:=[⟨0,.box m.cells⟩,⟨0,.box x.row⟩,⟨0,.box [num lg]⟩]
abbrev cl5:V:=.fn 24 [] [.bptr 1 0,.bptr 2 0]
theorem ev24 (m:Mch) (x:Mov) (lg:Int) (hx:0≤x.f∧x.f≤1000000) (hl:0≤lg∧lg≤1000000) (y:Mov):ev pg (.call cl5 [.agg y.row] (hT5 m x lg))=some { v:=.bool (qjs x lg y),st:=⟨[],hT5 m x lg⟩ }:=by
 have w:=qab (n:=x.f + lg) (by omega) (by omega)
 rw [qac,pg24]
 unfold qjs
 by_cases h1:y.a=x.a
 ·simp [ir24,h1,w]
 ·have h1b:(y.a == x.a)=false:=by simpa using h1
  simp [ir24,h1,h1b,w]
def zjn (l:List Mov) (k:Nat):Tm:=[some (mvs l),some cl5,none,none,some (num 0),none,some (mvs l),some (num l.length),some (num k)]++List.replicate 10 none
def zqi (l:List Mov) (k:Nat):Tm:=[some (mvs l),some cl5,none,none,some (num k)]++List.replicate 14 none
theorem z3p (m:Mch) (x:Mov) (lg:Int) (hx:0≤x.f∧x.f≤1000000) (hl:0≤lg∧lg≤1000000) (l:List Mov) (hn:l.length≤10000000) {st:St} (h0:At (zjn l 0) (hT5 m x lg) st) :
  ∃ r,ev pg (.code (.going 3 L51_0) st)=some r∧qls l.length (fun k=>((l[k]?).map (qjs x lg)).getD false) (fun k=>qaj .ret (zqi l k) (hT5 m x lg)) (qaj (.exit 0) (zjn l l.length) (hT5 m x lg)) r:=by
 refine qcx _ _ (zjn l) (hT5 m x lg) _ _ ?_ ?_ ?_ h0
 ·intro k f hf hk hp
  have hk':(k:Int) < l.length:=by omega
  have wk:=qab (n:=(k:Int) + 1) (by omega) (by omega)
  have e:=ev24 m x lg hx hl l[k]
  have hp':qjs x lg l[k]=false:=by simpa [hk] using hp
  rw [hp'] at e
  simp [zjn,L51_0,hk,hk',wk,e,hf.ne]
 ·intro k f hf hk hp
  have hk':(k:Int) < l.length:=by omega
  have e:=ev24 m x lg hx hl l[k]
  have hp':qjs x lg l[k]=true:=by simpa [hk] using hp
  rw [hp'] at e
  simp [zjn,zqi,L51_0,hk,hk',e,hf.ne]
 ·intro f hf
  simp [zjn,L51_0,hf.ne]
theorem ev23 (m:Mch) (x:Mov) (lg:Int) (hx:0≤x.f∧x.f≤1000000) (hl:0≤lg∧lg≤1000000) (l:List Mov) (hn:l.length≤10000000) :
  ev pg (.call (.fn 23 [] []) [mvs l,cl5] (hT5 m x lg))=some { v:=.bool (l.any (qjs x lg)),st:=⟨[],hT5 m x lg⟩ }:=by
 have e51:∃ i:Int,(decide (0≤i))=l.any (qjs x lg)∧ev pg (.call (.fn 51 [] []) [mvs l,cl5] (hT5 m x lg))=some { v:=num i,st:=⟨[],hT5 m x lg⟩ }:=by
  have hlp:=@z3p m x lg hx hl l hn
  generalize hB:l.any (qjs x lg)=B
  rw [qac,pg51]
  simp [ir51,qag]
  generalize hr:ev pg (.code (.going _ L51_0) _)=o
  obtain ⟨r,rfl,hQ⟩:∃ r,o=some r∧_:=by rw [← hr]; exact hlp (by simp [zjn])
  clear hr
  have hfa:=qtt hQ
  rw [hB] at hfa
  clear hQ
  rcases hfa with ⟨rfl,k,f,hf,rfl⟩ | ⟨rfl,f,hf,rfl⟩
  ·refine ⟨(k:Int),by simp,?_⟩
   simp [zqi]
  ·refine ⟨-1,by simp,?_⟩
   simp [zjn]
 obtain ⟨i,hi,e51⟩:=e51
 rw [qac,pg23,← hi]
 by_cases h:0≤i
 ·simp [ir23,e51,h]
 ·simp [ir23,e51,h]
set_option maxHeartbeats 8000000
def yT5 (u:Int) (v:List Mov) (k:Nat):Tm:=[none,none,some (num u),some (.bptr 0 0),none,none,some (.bool false),some (mvs v),some (num 0),none,none,none,none]++List.replicate 24 none++[some (mvs v),some (num v.length),some (num k)]++List.replicate 73 none
theorem zdb {m:Mch} {v:List Mov} {k:Nat} {x:Mov} (h:q0w m v k x):(v.drop (k + 1)).any (qjs x (qot m x))=true:=by
 obtain ⟨j,w,h1,h2,h3,h4⟩:=h
 rw [List.any_eq_true]
 refine ⟨w,?_,?_⟩
 ·rw [List.mem_iff_getElem?]
  refine ⟨j - (k + 1),?_⟩
  rw [List.getElem?_drop,show k + 1 + (j - (k + 1))=j by omega]
  exact h2
 ·unfold qjs
  rw [h3]
  simp only [decide_true,Bool.true_and,decide_eq_true_eq]
  exact h4
theorem q1m (l:List Mov):qgr 4 (l.map Mov.row)=true:=by simp [qgr]
theorem z7r (m:Mch) {u:Int} (v:List Mov) {k:Nat} (hk:k < v.length) (hn:v.length≤10000000) {n:Nat} {f0 t0:Int} (hx:v[k]=⟨(n:Int),true,f0,t0⟩) (hnl:n < m.ts.length) (pf:0≤f0∧f0≤1000000) (hlg:0≤m.ts[n].1∧m.ts[n].1≤1000000)
  {D:List Mov} (hdr:((v.map Mov.row).drop (k + 1)).take (v.length - (k + 1))=D.map Mov.row) {B:Bool} (e:ev pg (.call (.fn 23 [] []) [mvs D,cl5] (hT5 m ⟨(n:Int),true,f0,t0⟩ m.ts[n].1))=some { v:=.bool B,st:=⟨[],hT5 m ⟨(n:Int),true,f0,t0⟩ m.ts[n].1⟩ })
  (hc:t0=noT∧(B=true∨u < f0 + m.ts[n].1)∨t0 ≠ noT∧t0=f0 + m.ts[n].1) (f:Nat→V) (hf:Junk f) :
  ∃ r,ev pg (.code L5_0 ⟨fill f 0 (yT5 u v k),[⟨0,.box m.cells⟩]⟩)=some r∧((r.x=.normal∧At (yT5 u v (k + 1)) [⟨0,.box m.cells⟩] (qos 1 r.st))∨(r.x ≠ .normal∧qaj (.exit 0) (yT5 u v v.length) [⟨0,.box m.cells⟩] r)):=by
 have hk':(k:Int) < v.length:=by omega
 have wk:=qab (n:=(k:Int) + 1) (by omega) (by omega)
 have hsz:=q1m v
 have hle:(0:Int)≤(k:Int) + 1:=by omega
 have hle':k + 1≤v.length:=by omega
 have z1:¬ ((n:Int) < 0):=by omega
 have z2:¬ ((m.ts.length:Int)≤n):=by omega
 have w:=qab (n:=f0 + m.ts[n].1) (by omega) (by omega)
 rcases hc with ⟨rfl,hB2⟩ | ⟨ht,rfl⟩
 ·cases B with
  | true=>simp [yT5,L5_0,hk,hk',wk,hx,z1,z2,hnl,hdr,hsz,hle,hle',e,w,hf.ne]
  | false =>
   have hlt:¬ f0 + m.ts[n].1≤u:=by rcases hB2 with h | h; cases h; omega
   simp [yT5,L5_0,hk,hk',wk,hx,z1,z2,hnl,hdr,hsz,hle,hle',e,w,hlt,hf.ne]
 ·have ht':¬ (f0 + m.ts[n].1=-1099511627776):=ht
  have htc:(f0 + m.ts[n].1 == -1099511627776)=false:=by rw [beq_eq_false_iff_ne]; exact ht
  have htb:(f0 + m.ts[n].1 != -1099511627776)=true:=by rw [bne_iff_ne]; exact ht
  simp [yT5,L5_0,hk,hk',wk,hx,z1,z2,hnl,hdr,hsz,hle,hle',e,w,ht',htb,htc,hf.ne]
set_option maxHeartbeats 8000000
theorem z7v (m:Mch) {u:Int} (v:List Mov) {k:Nat} (hk:k < v.length) (hn:v.length≤10000000) {n:Nat} {f0 t0:Int} (hx:v[k]=⟨(n:Int),false,f0,t0⟩) (hnl:n < m.ts.length) (pf:0≤f0∧f0≤1000000) (hlg:0≤m.ts[n].2∧m.ts[n].2≤1000000)
  {D:List Mov} (hdr:((v.map Mov.row).drop (k + 1)).take (v.length - (k + 1))=D.map Mov.row) {B:Bool} (e:ev pg (.call (.fn 23 [] []) [mvs D,cl5] (hT5 m ⟨(n:Int),false,f0,t0⟩ m.ts[n].2))=some { v:=.bool B,st:=⟨[],hT5 m ⟨(n:Int),false,f0,t0⟩ m.ts[n].2⟩ })
  (hc:t0=noT∧(B=true∨u < f0 + m.ts[n].2)∨t0 ≠ noT∧t0=f0 + m.ts[n].2) (f:Nat→V) (hf:Junk f) :
  ∃ r,ev pg (.code L5_0 ⟨fill f 0 (yT5 u v k),[⟨0,.box m.cells⟩]⟩)=some r∧((r.x=.normal∧At (yT5 u v (k + 1)) [⟨0,.box m.cells⟩] (qos 1 r.st))∨(r.x ≠ .normal∧qaj (.exit 0) (yT5 u v v.length) [⟨0,.box m.cells⟩] r)):=by
 have hk':(k:Int) < v.length:=by omega
 have wk:=qab (n:=(k:Int) + 1) (by omega) (by omega)
 have hsz:=q1m v
 have hle:(0:Int)≤(k:Int) + 1:=by omega
 have hle':k + 1≤v.length:=by omega
 have z1:¬ ((n:Int) < 0):=by omega
 have z2:¬ ((m.ts.length:Int)≤n):=by omega
 have w:=qab (n:=f0 + m.ts[n].2) (by omega) (by omega)
 rcases hc with ⟨rfl,hB2⟩ | ⟨ht,rfl⟩
 ·cases B with
  | true=>simp [yT5,L5_0,hk,hk',wk,hx,z1,z2,hnl,hdr,hsz,hle,hle',e,w,hf.ne]
  | false =>
   have hlt:¬ f0 + m.ts[n].2≤u:=by rcases hB2 with h | h; cases h; omega
   simp [yT5,L5_0,hk,hk',wk,hx,z1,z2,hnl,hdr,hsz,hle,hle',e,w,hlt,hf.ne]
 ·have ht':¬ (f0 + m.ts[n].2=-1099511627776):=ht
  have htc:(f0 + m.ts[n].2 == -1099511627776)=false:=by rw [beq_eq_false_iff_ne]; exact ht
  have htb:(f0 + m.ts[n].2 != -1099511627776)=true:=by rw [bne_iff_ne]; exact ht
  simp [yT5,L5_0,hk,hk',wk,hx,z1,z2,hnl,hdr,hsz,hle,hle',e,w,ht',htb,htc,hf.ne]
set_option maxHeartbeats 8000000
theorem z7w (m:Mch) {u:Int} (v:List Mov) (hn:v.length≤10000000) (hts:∀ q ∈ m.ts,1≤q.1∧q.1≤1000000∧1≤q.2∧q.2≤1000000) (hf0:∀ x ∈ v,0≤x.f∧x.f≤1000000) (hv:MvF m u v) {st:St} (h0:At (yT5 u v 0) [⟨0,.box m.cells⟩] st) :
  ∃ r,ev pg (.code (.going 1 L5_0) st)=some r∧qaj (.exit 0) (yT5 u v v.length) [⟨0,.box m.cells⟩] r:=by
 refine qfi v.length (yT5 u v) (fun _=>[⟨0,.box m.cells⟩]) _ ?_ ?_ h0
 ·intro k f hf hk
  obtain ⟨⟨p1,p2⟩,p3,p4⟩:=hv k v[k] (List.getElem?_eq_getElem hk)
  have pf:=hf0 v[k] (List.getElem_mem hk)
  have hlat:q0w m v k v[k]→(v.drop (k + 1)).any (qjs v[k] (qot m v[k]))=true:=zdb
  have hdr:((v.map Mov.row).drop (k + 1)).take (v.length - (k + 1))=(v.drop (k + 1)).map Mov.row:=by
   rw [← List.map_drop,List.take_of_length_le (by simp)]
  have e23:=fun lg hl=>ev23 m v[k] lg pf hl (v.drop (k + 1)) (by rw [List.length_drop]; omega)
  generalize hB:(v.drop (k + 1)).any (qjs v[k] (qot m v[k]))=B at *
  generalize v.drop (k + 1)=D at *
  generalize hx:v[k]=x at *
  obtain ⟨a,o,f0,t0⟩:=x
  simp only at p1 p2 p3 p4 pf
  obtain ⟨n,rfl⟩:=Int.eq_ofNat_of_zero_le p1
  have hnl:n < m.ts.length:=by omega
  have hlong:qot m ⟨(n:Int),o,f0,t0⟩=if o=true then m.ts[n].1 else m.ts[n].2:=by
   unfold qot
   simp only [Int.toNat_natCast,List.getElem?_eq_getElem hnl,Option.getD_some]
  have hin:=hts _ (List.getElem_mem hnl)
  rw [hlong] at p3 p4 hB
  have hc:∀ lg,lg=(if o=true then m.ts[n].1 else m.ts[n].2)→t0=noT∧(B=true∨u < f0 + lg)∨t0 ≠ noT∧t0=f0 + lg:=by
   rintro lg rfl
   by_cases ht:t0=noT
   ·refine .inl ⟨ht,?_⟩
    rcases p4 ht with h | h
    ·exact .inl (hlat h)
    ·exact .inr h
   ·exact .inr ⟨ht,p3 ht⟩
  cases o with
  | true =>
   simp only [if_true] at hB
   have e:=e23 _ (show 0≤m.ts[n].1∧m.ts[n].1≤1000000 by omega)
   rw [hB] at e
   exact z7r m v hk hn hx hnl pf (by omega) hdr e (hc _ rfl) f hf
  | false =>
   simp only [Bool.false_eq_true,if_false] at hB
   have e:=e23 _ (show 0≤m.ts[n].2∧m.ts[n].2≤1000000 by omega)
   rw [hB] at e
   exact z7v m v hk hn hx hnl pf (by omega) hdr e (hc _ rfl) f hf
 ·intro f hf
  simp [yT5,L5_0,hf.ne]
set_option maxHeartbeats 4000000
theorem ev5 (m:Mch) (hm:m.ts.length * 16≤140737488355328) (l:List Prs) (hp:l.length * 24≤140737488355328) (u:Int) :
  ev pg (.call (.fn 5 [] []) [m.v,prs l,num u] [])=some { v:=.bool true,st:=⟨[],[]⟩ }:=by
 have e10:=ev10 m hm
 have e11:=ev11 l hp
 have e12:=ev12
 have e9:=ev9 m l u
 rw [qac,pg5]
 by_cases hs:qyz m l u=true
 ·obtain ⟨f1,f2,f3⟩:=q9m hs
  rw [hs] at e9
  have e16:=ev16 m f1 (by omega)
  by_cases hk:qej m=0
  ·rw [hk] at e16
   obtain ⟨-,t2,-⟩:=qwj hk
   have hts:∀ q ∈ m.ts,1≤q.1∧q.1≤1000000∧1≤q.2∧q.2≤1000000:=by
    intro q hq
    rw [List.any_eq_false] at t2
    exact qpg (eq_false_of_ne_true (t2 q hq))
   have e19:=ev19 f1 (by omega) (l:=l) (by omega) u
   unfold qzu at e19
   by_cases h0:(qlz m l u).2=0
   ·rw [if_pos h0] at e19
    obtain ⟨X,hX⟩:=q9z f1 h0
    have hok:=q2w f1 l u
    have htk:=zdp f1 h0
    have hu:=(qey (q2l f1 h0).1).2.2.2.2
    generalize (qlz m l u).1=y at *
    have hln:=quu (fun z hz=>(hok.each z hz).2)
    have n1:=hok.len
    have hf0:∀ x ∈ qjt y.en,0≤x.f∧x.f≤1000000:=by
     refine q6f (P:=fun t=>0≤t∧t≤1000000) y.en ([],[]) (fun v hv=>by cases hv) (fun z hz=>?_)
     have:=hX.low z hz
     omega
    have hl:=fun st=>z7w m (u:=u) (qjt y.en) (by unfold qjt; omega) hts hf0 htk (st:=st)
    generalize qjt y.en=v at *
    have w0:IntKind.i64.wrap 0=0:=by decide
    simp [w0,ir5,e10,e11,e9,e12,e16,e19,qag]
    generalize hr:ev pg (.code (.going _ L5_0) _)=o
    obtain ⟨r,rfl,f,hf,rfl⟩:∃ r,o=some r∧_:=by rw [← hr]; exact hl _ (by simp [yT5])
    clear hr
    simp [yT5,e12]
   ·rw [if_neg h0] at e19
    have hb:((qlz m l u).2 == 0)=false:=by simpa using h0
    generalize (qlz m l u).2=e at *
    simp [ir5,e10,e11,e9,e12,e16,e19,h0,hb]
  ·have hb:(qej m == 0)=false:=by simpa using hk
   generalize qej m=e at *
   simp [ir5,e10,e11,e9,e12,e16,hk,hb]
 ·rw [eq_false_of_ne_true hs] at e9
  simp [ir5,e10,e11,e9,e12]
end Go.Proofs.YtlhciedghbmjjaaGreat
