/- Strokes that are begun, and a run, by the reference. Are lists of strokes, and of events, equal, by the program. What follows an event, by the program. -/
import Derived.Test.YtbhkplbciajikaaGreatMy2
import Derived.KernelRfl
import Derived.Test.YtbhkplbciajikaaGreatSv1
set_option linter.all false
namespace Go.Proofs.YtbhkplbciajikaaGreat
open Go Go.Am Go.Proofs
set_option maxRecDepth 100000
abbrev strow (p:Int × Bool):List V:=[num p.1,.bool p.2]
abbrev strs (l:List (Int × Bool)):V:=.imm (l.map strow)
def freshTo (a b:Ste) (k:Nat):List (Int × Bool):=(List.range k).filterMap (freshF a b)
theorem freshTo_succ (a b:Ste) (k:Nat):freshTo a b (k + 1)=freshTo a b k++(match freshF a b k with | some p=>[p] | none=>[]):=by
 unfold freshTo
 rw [List.range_succ,List.filterMap_append]
 cases h:freshF a b k <;> simp [h]
theorem freshTo_len (a b:Ste) (k:Nat):(freshTo a b k).length≤k:=by
 unfold freshTo
 exact Nat.le_trans (List.length_filterMap_le _ _) (by simp)
theorem freshV_to (a b:Ste):freshV a b=freshTo a b a.ends.length:=rfl
abbrev gm2 (a:Nat × Nat):Prop:=a.2=2∨a.2=0
abbrev h64 (x y:Ste) (k:Nat) (a:Nat × Nat):H:=[⟨0,.box x.cells⟩,⟨0,.box y.cells⟩,o0,⟨a.1,.arr a.2 ((freshTo x y k).map strow)⟩]
def T64 (x y:Ste) (k:Nat) (a:Nat × Nat):Tm:=[none,none,some (.bptr 0 0),some (.bptr 1 0),some (.sl 2 0 0 0 0),some (.sl 3 a.1 a.2 0 (freshTo x y k).length),some (num k)]++List.replicate 46 none
set_option maxHeartbeats 1000000 in
theorem lp64 (x y:Ste) (hs:x.small) (he:y.ends.length=x.ends.length) {st:St} (a0:Nat × Nat) (g0:gm2 a0) (h0:At (T64 x y 0 a0) (h64 x y 0 a0) st):∃ r,ev pg (.code (.going 4 L64_0) st)=some r∧∃ a,gm2 a∧EndsAs (.exit 0) (T64 x y x.ends.length a) (h64 x y x.ends.length a) r:=by
 have hse:=hs.e
 refine loop_at x.ends.length (T64 x y) (h64 x y) (fun _ a=>gm2 a) _ ?_ ?_ a0 g0 h0
 ·rintro k ⟨g,m⟩ f hf hk hG
  have hk':(k:Int) < x.ends.length:=by omega
  have hk2:k < y.ends.length:=by omega
  have wk:=wrap_id (n:=(k:Int) + 1) (by omega) (by omega)
  have hsl:=freshTo_len x y k
  have hp:freshF x y k=if (y.ends[k]=1∨y.ends[k]=3)∧x.ends[k] ≠ y.ends[k] then some ((k:Int),y.ends[k] == 1) else none:=by
   unfold freshF
   rw [List.getElem?_eq_getElem hk,List.getElem?_eq_getElem hk2]
  unfold T64 h64
  rw [freshTo_succ,hp]
  generalize freshTo x y k=B at *
  have hb1:(B.length + 1) * 16≤140737488355328:=by omega
  have hmm:m=2∨m=0:=hG
  by_cases h1:y.ends[k]=1
  ·by_cases h2:x.ends[k]=1
   ·rcases hmm with rfl | rfl <;> simp [ev_draw1,exT,chkOk,L64_0,hk,hk',hk2,wk,h1,h2,hb1,hf.ne]
   ·have h2b:(x.ends[k] == 1)=false:=by simpa using h2
    rcases hmm with rfl | rfl <;> simp [ev_draw1,exT,chkOk,L64_0,hk,hk',hk2,wk,h1,h2,h2b,hb1,hf.ne]
  ·have h1b:(y.ends[k] == 1)=false:=by simpa using h1
   by_cases h3:y.ends[k]=3
   ·by_cases h2:x.ends[k]=3
    ·rcases hmm with rfl | rfl <;> simp [ev_draw1,exT,chkOk,L64_0,hk,hk',hk2,wk,h3,h2,hb1,hf.ne]
    ·have h2b:(x.ends[k] == 3)=false:=by simpa using h2
     rcases hmm with rfl | rfl <;> simp [ev_draw1,exT,chkOk,L64_0,hk,hk',hk2,wk,h3,h2,h2b,hb1,hf.ne]
   ·have h3b:(y.ends[k] == 3)=false:=by simpa using h3
    rcases hmm with rfl | rfl <;> simp [ev_draw1,exT,chkOk,L64_0,hk,hk',hk2,wk,h1,h1b,h3,h3b,hf.ne]
 ·rintro ⟨g,m⟩ f hf hG
  unfold T64 h64
  generalize freshTo x y x.ends.length=B at *
  have hmm:m=2∨m=0:=hG
  rcases hmm with rfl | rfl <;> simp [L64_0,hf.ne]
theorem ev64 (x y:Ste) (hs:x.small) (he:y.ends.length=x.ends.length):ev pg (.call (.fn 64 [] []) [x.v,y.v] [])=some { v:=strs (freshV x y),st:=⟨[],[]⟩ }:=by
 have hl:=@lp64 x y hs he
 have z0:freshTo x y 0=[]:=rfl
 unfold h64 T64 at hl
 rw [z0,← freshV_to] at hl
 generalize freshV x y=B at *
 rw [ev_call,pg64]
 simp [ir64,ev_loop]
 generalize hr:ev pg (.code (.going _ L64_0) _)=o
 obtain ⟨r,rfl,⟨g,m⟩,hm,f,hf,rfl⟩:∃ r,o=some r∧_:=by rw [← hr]; exact hl (0,0) (.inr rfl) (by simp)
 clear hr
 have hmm:m=2∨m=0:=hm
 rcases hmm with rfl | rfl <;> simp
theorem restGo_lin {c:Ct}:∀ {d:Nat} {s:Ste} {l:List Int} {t:Ste} {m:List Int},restGo c d s l=some (t,m)→Lin (allN c) m
 | 0,_,_,_,_,h=>by cases h
 | d + 1,s,l,t,m,h=>by
  rw [restGo] at h
  cases e:roundV c s with
  | none=>rw [e] at h; cases h
  | some x =>
   rw [e] at h
   simp only at h
   split at h
   ·cases h; exact Lin.norm _ _
   ·exact restGo_lin h
theorem restE_lin (c:Ct) (s:Ste):Lin (allN c) (restE c s).2.1:=by
 unfold restE
 cases e:restV c s with
 | none=>exact Lin.nil _
 | some x=>exact restGo_lin (show restGo c 65 s []=some (x.1,x.2) from e)
theorem afterV_lin (c:Ct) (s:Ste) (x:Evn):Lin (allN c) (afterV c s x).2.1:=by
 unfold afterV
 split
 ·exact Lin.nil _
 ·split
  ·exact restE_lin _ _
  ·exact Lin.nil _
abbrev lrow (l:List (Int × Bool)):List V:=[strs l]
abbrev Crs.v (r:Crs):V:=.agg (r.st.cells++[.imm (r.strokes.map lrow),ints r.conf])
abbrev gm1 (a:Nat × Nat):Prop:=a.2=1∨a.2=0
def cf0 (k:Nat) (l:List Int):V:=if k=0 then .sl 19 0 0 0 0 else ints l
def cf1 (k:Nat):Ob:=if k=0 then o0 else ⟨0,.frz 0 []⟩
abbrev cr7 (b:Nat):List V:=[.sl b 0 0 0 0,.sl (b + 1) 0 0 0 0,.sl (b + 2) 0 0 0 0,.sl (b + 3) 0 0 0 0,.sl (b + 4) 0 0 0 0,.sl (b + 5) 0 0 0 0,.sl (b + 6) 0 0 0 0]
abbrev h23 (c:Ct) (s:Ste) (k:Nat) (a:Crs × Nat × Nat):H:=[⟨0,.box c.cells⟩,⟨0,.box s.cells⟩,o0,o0,o0,o0,o0,o0,o0,⟨0,.box (cr7 2)⟩,o0,o0,o0,o0,o0,o0,o0,⟨0,.box (a.1.st.cells++[.sl 18 a.2.1 a.2.2 0 a.1.strokes.length,cf0 k a.1.conf])⟩,⟨a.2.1,.arr a.2.2 (a.1.strokes.map lrow)⟩,cf1 k]
def T23 (l:List Evn) (k:Nat):Tm:=[none,none,some (evs l),some (.bptr 0 0),some (.bptr 1 0),none,some (.bptr 9 0),some (num 0),some (num 0),none,some (.bptr 17 0),some (num k)]++List.replicate 54 none
abbrev h23r (c:Ct) (s:Ste) (k:Nat) (a:Crs × Nat × Nat):H:=[⟨0,.box c.cells⟩,⟨0,.box s.cells⟩,o0,o0,o0,o0,o0,o0,o0,⟨0,.box (cr7 26)⟩,o0,o0,o0,o0,o0,o0,o0,⟨0,.box (a.1.st.cells++[.sl 18 a.2.1 a.2.2 0 a.1.strokes.length,cf0 k a.1.conf])⟩,⟨a.2.1,.arr a.2.2 (a.1.strokes.map lrow)⟩,cf1 k,o0,o0,o0,o0,o0]
def T23r (i e:Int):Tm:=[none,none,none,none,none,none,some (.bptr 9 0),some (num i),some (num e)]++List.replicate 57 none
structure G23 (c:Ct) (l:List Evn) (Z:Crs × Int × Int) (k:Nat) (a:Crs × Nat × Nat):Prop where
 go:runGo c (l.drop k) k a.1=Z
 rdy:Rdy c a.1.st
 lin:Lin (allN c) a.1.conf
 nil:k=0→a.1.conf=[]
 len:a.1.strokes.length=k
 gm:gm1 a.2
def Out23 (c:Ct) (s:Ste) (l:List Evn) (Z:Crs × Int × Int) (r:R):Prop :=
 if Z.2.2=0 then Z.2.1=0∧∃ k a,a.1=Z.1∧gm1 a.2∧(k=0→a.1.conf=[])∧EndsAs (.exit 0) (T23 l l.length) (h23 c s k a) r
 else Z.1=zeroCrs∧∃ k a u,EndsAs .ret (T23r Z.2.1 Z.2.2) (h23r c s k a++[⟨0,.box u⟩,o0,o0,o0,o0,o0,o0,o0]) r
theorem runGo_bad {c:Ct} {x:Evn} {l:List Evn} {i:Nat} {r:Crs} (h:¬ (afterV c r.st x).2.2=0):runGo c (x :: l) i r=(zeroCrs,(i:Int),(afterV c r.st x).2.2):=by
 rw [runGo,if_neg h]
set_option maxHeartbeats 2000000 in
theorem lp23 {c:Ct} {s:Ste} (hs:Rdy c s) (l:List Evn) (hn:l.length≤4096) {st:St} (h0:At (T23 l 0) (h23 c s 0 (⟨s,[],[]⟩,0,0)) st):∃ r,ev pg (.code (.going 20 L23_0) st)=some r∧Out23 c s l (runGo c l 0 ⟨s,[],[]⟩) r:=by
 generalize hR:runGo c l 0 ⟨s,[],[]⟩=Z
 refine loop_at l.length (fun k _=>T23 l k) (h23 c s) (G23 c l Z) _ ?_ ?_ (⟨s,[],[]⟩,0,0) ⟨hR,hs,Lin.nil _,fun _=>rfl,rfl,.inr rfl⟩ h0
 ·rintro k ⟨⟨t,S,C⟩,g,m⟩ f hf hk hG
  have hgo:=hG.go
  have hrd:=hG.rdy
  have hlin:=hG.lin
  have hnil:=hG.nil
  have hlen:=hG.len
  have hmm:m=1∨m=0:=hG.gm
  simp only at hgo hrd hlin hnil hlen
  have hk':(k:Int) < l.length:=by omega
  have wk:=wrap_id (n:=(k:Int) + 1) (by omega) (by omega)
  have h63:=ev63 hrd l[k]
  have hN:=allN_le hrd.mid
  rw [List.drop_eq_getElem_cons hk] at hgo
  by_cases hz:(afterV c t l[k]).2.2=0
  ·rw [runGo,if_pos hz] at hgo
   have hru:Rdy c (afterV c t l[k]).1:=⟨hrd.few,afterV_right hrd.st hz⟩
   have hee:(afterV c t l[k]).1.ends.length=t.ends.length:=by
    have h1:=hru.shp.e
    have h2:=hrd.shp.e
    omega
   have h64:=ev64 t (afterV c t l[k]).1 hrd.small hee
   have hm:Lin (allN c) (afterV c t l[k]).2.1:=afterV_lin _ _ _
   have e65:=ev65 C (afterV c t l[k]).2.1 (by have:=hlin.len; omega) (by have:=hm.len; omega)
   rw [hlin.mrg hm] at e65
   have hl':Lin (allN c) (norm (allN c) (C++(afterV c t l[k]).2.1)):=Lin.norm _ _
   generalize norm (allN c) (C++(afterV c t l[k]).2.1)=p at *
   generalize freshV t (afterV c t l[k]).1=fr at *
   generalize afterV c t l[k]=z at *
   obtain ⟨u,q,e⟩:=z
   simp only at hz hgo hru e65 h64 h63
   subst hz
   have hb1:(S.length + 1) * 24≤140737488355328:=by omega
   have hG':G23 c l Z (k + 1) (⟨u,S++[fr],p⟩,g + 1,1):=⟨hgo,hru,hl',by omega,by simp [hlen],.inl rfl⟩
   unfold T23 h23 cf0 cf1
   by_cases hk0:k=0
   ·subst hk0
    rw [hnil rfl] at e65
    have e65':ev pg (.call (.fn 65 [] []) [.imm [],ints q] [])=_:=e65
    rcases hmm with rfl | rfl <;> simp [ev_draw1,exT,chkOk,L23_0,hk,hk',h63,h64,e65',hb1,show IntKind.i64.wrap 1=1 by decide,hf.ne]
    all_goals exact ⟨_,_,_,hG',by simp⟩
   ·rcases hmm with rfl | rfl <;> simp [ev_draw1,exT,chkOk,L23_0,hk,hk',hk0,wk,h63,h64,e65,hb1,hf.ne]
    all_goals exact ⟨_,_,_,hG',by simp⟩
  ·rw [runGo_bad hz] at hgo
   subst hgo
   generalize afterV c t l[k]=z at *
   obtain ⟨u,q,e⟩:=z
   simp only at hz h63
   have hzb:(e == 0)=false:=by simpa using hz
   unfold T23 h23
   generalize hcf0:cf0 k C=cf at *
   generalize hcf1:cf1 k=co at *
   rcases hmm with rfl | rfl <;> simp [ev_draw1,exT,chkOk,L23_0,hk,hk',h63,hz,hzb,hf.ne]
   ·unfold Out23
    simp only [hz,if_false]
    refine ⟨trivial,k,(⟨t,S,C⟩,g,1),u.cells,?_⟩
    simp [T23r,hcf0,hcf1,hf.ne]
   ·unfold Out23
    simp only [hz,if_false]
    refine ⟨trivial,k,(⟨t,S,C⟩,g,0),u.cells,?_⟩
    simp [T23r,hcf0,hcf1,hf.ne]
 ·rintro ⟨⟨t,S,C⟩,g,m⟩ f hf hG
  have hgo:=hG.go
  have hnil:=hG.nil
  have hgm:=hG.gm
  simp only [List.drop_length,runGo] at hgo hnil hgm
  subst hgo
  unfold T23 h23
  generalize hcf0:cf0 l.length C=cf at *
  generalize hcf1:cf1 l.length=co at *
  have hmm:m=1∨m=0:=hG.gm
  rcases hmm with rfl | rfl <;> simp [L23_0,hf.ne]
  ·exact ⟨rfl,l.length,(⟨t,S,C⟩,g,1),rfl,.inl rfl,hnil,by simp [T23,hcf0,hcf1,hf.ne]⟩
  ·exact ⟨rfl,l.length,(⟨t,S,C⟩,g,0),rfl,.inr rfl,hnil,by simp [T23,hcf0,hcf1,hf.ne]⟩
def runR (c:Ct) (s:Ste) (l:List Evn):Crs × Int × Int:=if quE c s=0 then (if 4096 < l.length then (zeroCrs,0,5) else runGo c l 0 ⟨s,[],[]⟩) else (zeroCrs,0,quE c s)
theorem quE_rdy {c:Ct} {s:Ste} (hfew:c.small=true) (h:quE c s=0):Rdy c s:=by
 unfold quE at h
 split at h
 ·exact ⟨hfew,by assumption⟩
 ·rename_i h2; exact absurd h h2
theorem ev23 (c:Ct) (s:Ste) (hfew:c.small=true) (hs:s.small) (l:List Evn) (hl:l.length≤100000):ev pg (.call (.fn 23 [] []) [c.v,s.v,evs l] [])=some { v:=.tup [(runR c s l).1.v,num (runR c s l).2.1,num (runR c s l).2.2],st:=⟨[],[]⟩ }:=by
 have h52:=ev52 c s hfew hs
 unfold runR
 rw [ev_call,pg23]
 by_cases h:quE c s=0
 ·rw [if_pos h]
  rw [h] at h52
  by_cases hn:4096 < l.length
  ·rw [if_pos hn]
   have hn':(4096:Int) < l.length:=by omega
   simp [ir23,h52,hn',zeroCrs,zeroS]
  ·rw [if_neg hn]
   have hn':¬ (4096:Int) < l.length:=by omega
   have hlp:=@lp23 c s (quE_rdy hfew h) l (by omega)
   generalize runGo c l 0 ⟨s,[],[]⟩=Z at *
   simp [ir23,h52,hn',ev_loop]
   generalize hr:ev pg (.code (.going _ L23_0) _)=o
   obtain ⟨r,rfl,hQ⟩:∃ r,o=some r∧_:=by rw [← hr]; exact hlp (by simp [T23,cf0,cf1])
   clear hr
   unfold Out23 at hQ
   obtain ⟨z1,z2,z3⟩:=Z
   by_cases hz:z3=0
   ·rw [if_pos hz] at hQ
    obtain ⟨hz2,k,⟨⟨t,S,C⟩,g,m⟩,ha,hgm,hnil,f,hf,rfl⟩:=hQ
    simp only at ha hz2 hz hgm hnil
    subst ha hz2 hz
    have hmm:m=1∨m=0:=hgm
    by_cases hk0:k=0
    ·obtain rfl:=hnil hk0
     rcases hmm with rfl | rfl <;> simp [T23,cf0,cf1,hk0]
    ·rcases hmm with rfl | rfl <;> simp [T23,cf0,cf1,hk0]
   ·rw [if_neg hz] at hQ
    obtain ⟨hz1,k,⟨⟨t,S,C⟩,g,m⟩,u,f,hf,rfl⟩:=hQ
    simp only at hz1
    subst hz1
    simp [T23r,zeroCrs,zeroS]
 ·rw [if_neg h]
  have hb:(quE c s == 0)=false:=by simpa using h
  generalize quE c s=e at *
  simp [ir23,h52,h,hb,zeroCrs,zeroS]
def T42 (a b:List (Int × Bool)) (k:Nat):Tm:=[some (strs a),some (strs b),none,none,none,none,none,none,none,none,none,none,some (num a.length),some (num k)]++List.replicate 12 none
def T42r:Tm:=[none,none,none,none,some (.bool false)]++List.replicate 21 none
theorem lp42 (a b:List (Int × Bool)) (hab:b.length=a.length) (ha:a.length≤100000) {st:St} (h0:At (T42 a b 0) [] st):∃ r,ev pg (.code (.going 0 L42_0) st)=some r∧Finds a.length (fun k=>decide (a[k]? ≠ b[k]?)) (fun _=>EndsAs .ret T42r []) (EndsAs (.exit 0) (T42 a b a.length) []) r:=by
 refine loop_first _ _ (T42 a b) [] _ _ ?_ ?_ ?_ h0
 ·intro k f hf hk hp
  have hk':(k:Int) < a.length:=by omega
  have hkb:k < b.length:=by omega
  have wk:=wrap_id (n:=(k:Int) + 1) (by omega) (by omega)
  have hb:a[k]=b[k]:=by simpa [hk,hkb] using hp
  simp [ev_draw1,exT,chkOk,T42,L42_0,hk,hk',hkb,hb,wk,hf.ne]
 ·intro k f hf hk hp
  have hk':(k:Int) < a.length:=by omega
  have hkb:k < b.length:=by omega
  have hb:a[k] ≠ b[k]:=by simpa [hk,hkb] using hp
  by_cases h2:a[k].2=b[k].2
  ·have h1:¬ a[k].1=b[k].1:=fun h=>hb (Prod.ext h h2)
   have h1b:(a[k].1 == b[k].1)=false:=by simpa using h1
   simp [ev_draw1,exT,chkOk,T42,T42r,L42_0,hk,hk',hkb,h2,h1,h1b,hf.ne]
  ·have h2b:(a[k].2 == b[k].2)=false:=by simpa using h2
   by_cases h1:a[k].1=b[k].1
   ·simp [ev_draw1,exT,chkOk,T42,T42r,L42_0,hk,hk',hkb,h1,h2,h2b,hf.ne]
   ·have h1b:(a[k].1 == b[k].1)=false:=by simpa using h1
    simp [ev_draw1,exT,chkOk,T42,T42r,L42_0,hk,hk',hkb,h1,h1b,h2,h2b,hf.ne]
 ·intro f hf
  simp [T42,L42_0,hf.ne]
theorem ev42 (a b:List (Int × Bool)) (ha:a.length≤100000):ev pg (.call (.fn 42 [] []) [strs a,strs b] [])=some { v:=.bool (decide (a=b)),st:=⟨[],[]⟩ }:=by
 rw [ev_call,pg42]
 by_cases hab:b.length=a.length
 ·have hloop:=@lp42 a b hab ha
  have hab':(b.length:Int)=a.length:=by omega
  simp [ir42,ev_loop,hab']
  generalize hr:ev pg (.code (.going _ L42_0) _)=o
  obtain ⟨r,rfl,hQ⟩:∃ r,o=some r∧_:=by rw [← hr]; exact hloop (by simp [T42])
  rcases hQ with ⟨k,hk,hp,-,f,hf,rfl⟩ | ⟨hp,f,hf,rfl⟩
  ·have:a ≠ b:=by rintro rfl; simp at hp
   simp [T42r,this]
  ·have:a=b:=by
    refine List.ext_getElem hab.symm fun k h1 h2=>?_
    have:=hp k h1
    simpa [h1,h2] using this
   simp [T42,this]
 ·have hne:((a.length:Int) != (b.length:Int))=true:=by rw [bne_iff_ne]; omega
  have:a ≠ b:=fun e=>hab (by rw [e])
  simp [ir42,hne,this]
theorem Evn.ext' {x y:Evn} (h1:x.kind=y.kind) (h2:x.idx=y.idx) (h3:x.val=y.val):x=y:=by
 cases x; cases y
 simp only at h1 h2 h3
 subst h1 h2 h3
 rfl
def T15q (a b:List Evn) (k:Nat):Tm:=[some (evs a),some (evs b),none,none,none,none,none,none,none,none,none,none,some (num a.length),some (num k)]++List.replicate 12 none
instance (x y:Evn):Decidable (x=y) :=
 if h:x.kind=y.kind∧x.idx=y.idx∧x.val=y.val then .isTrue (Evn.ext' h.1 h.2.1 h.2.2)
 else .isFalse fun e=>h (by rw [e]; exact ⟨rfl,rfl,rfl⟩)
instance:DecidableEq Evn:=fun x y=>inferInstance
theorem lp15 (a b:List Evn) (hab:b.length=a.length) (ha:a.length≤100000) {st:St} (h0:At (T15q a b 0) [] st):∃ r,ev pg (.code (.going 0 L15_0) st)=some r∧Finds a.length (fun k=>decide (a[k]? ≠ b[k]?)) (fun _=>EndsAs .ret T42r []) (EndsAs (.exit 0) (T15q a b a.length) []) r:=by
 refine loop_first _ _ (T15q a b) [] _ _ ?_ ?_ ?_ h0
 ·intro k f hf hk hp
  have hk':(k:Int) < a.length:=by omega
  have hkb:k < b.length:=by omega
  have wk:=wrap_id (n:=(k:Int) + 1) (by omega) (by omega)
  have hb:a[k]=b[k]:=by simpa [hk,hkb] using hp
  simp [ev_draw1,exT,chkOk,T15q,L15_0,hk,hk',hkb,hb,wk,hf.ne]
 ·intro k f hf hk hp
  have hk':(k:Int) < a.length:=by omega
  have hkb:k < b.length:=by omega
  have hb:a[k] ≠ b[k]:=by simpa [hk,hkb] using hp
  by_cases h1:a[k].kind=b[k].kind
  ·by_cases h2:a[k].idx=b[k].idx
   ·have h3:¬ a[k].val=b[k].val:=fun h=>hb (Evn.ext' h1 h2 h)
    have h3b:(a[k].val == b[k].val)=false:=by simpa using h3
    simp [ev_draw1,exT,chkOk,T15q,T42r,L15_0,hk,hk',hkb,h1,h2,h3,h3b,hf.ne]
   ·have h2b:(a[k].idx == b[k].idx)=false:=by simpa using h2
    by_cases h3:a[k].val=b[k].val
    ·simp [ev_draw1,exT,chkOk,T15q,T42r,L15_0,hk,hk',hkb,h1,h2,h2b,h3,hf.ne]
    ·have h3b:(a[k].val == b[k].val)=false:=by simpa using h3
     simp [ev_draw1,exT,chkOk,T15q,T42r,L15_0,hk,hk',hkb,h1,h2,h2b,h3,h3b,hf.ne]
  ·have h1b:(a[k].kind == b[k].kind)=false:=by simpa using h1
   by_cases h2:a[k].idx=b[k].idx
   ·by_cases h3:a[k].val=b[k].val
    ·simp [ev_draw1,exT,chkOk,T15q,T42r,L15_0,hk,hk',hkb,h1,h1b,h2,h3,hf.ne]
    ·have h3b:(a[k].val == b[k].val)=false:=by simpa using h3
     simp [ev_draw1,exT,chkOk,T15q,T42r,L15_0,hk,hk',hkb,h1,h1b,h2,h3,h3b,hf.ne]
   ·have h2b:(a[k].idx == b[k].idx)=false:=by simpa using h2
    by_cases h3:a[k].val=b[k].val
    ·simp [ev_draw1,exT,chkOk,T15q,T42r,L15_0,hk,hk',hkb,h1,h1b,h2,h2b,h3,hf.ne]
    ·have h3b:(a[k].val == b[k].val)=false:=by simpa using h3
     simp [ev_draw1,exT,chkOk,T15q,T42r,L15_0,hk,hk',hkb,h1,h1b,h2,h2b,h3,h3b,hf.ne]
 ·intro f hf
  simp [T15q,L15_0,hf.ne]
theorem ev15 (a b:List Evn) (ha:a.length≤100000):ev pg (.call (.fn 15 [] []) [evs a,evs b] [])=some { v:=.bool (decide (a=b)),st:=⟨[],[]⟩ }:=by
 rw [ev_call,pg15]
 by_cases hab:b.length=a.length
 ·have hloop:=@lp15 a b hab ha
  have hab':(b.length:Int)=a.length:=by omega
  simp [ir15,ev_loop,hab']
  generalize hr:ev pg (.code (.going _ L15_0) _)=o
  obtain ⟨r,rfl,hQ⟩:∃ r,o=some r∧_:=by rw [← hr]; exact hloop (by simp [T15q])
  rcases hQ with ⟨k,hk,hp,-,f,hf,rfl⟩ | ⟨hp,f,hf,rfl⟩
  ·have:a ≠ b:=by rintro rfl; simp at hp
   simp [T42r,this]
  ·have:a=b:=by
    refine List.ext_getElem hab.symm fun k h1 h2=>?_
    have:=hp k h1
    simpa [h1,h2] using this
   simp [T15q,this]
 ·have hne:((a.length:Int) != (b.length:Int))=true:=by rw [bne_iff_ne]; omega
  have:a ≠ b:=fun e=>hab (by rw [e])
  simp [ir15,hne,this]
abbrev acts3:List V:=[.fn 91 [.bptr 14 0] [],.fn 92 [.bptr 14 0] [],.fn 93 [.bptr 14 0] []]
abbrev hF (c:Ct) (s:Ste) (x:List V) (t:Ste):H:=[⟨0,.box c.cells⟩,⟨0,.box s.cells⟩,⟨0,.box x⟩,o0,o0,o0,o0,o0,⟨0,.box (nil5 3)⟩]++ar5 t++[⟨0,.box (sl5 9 t)⟩,⟨0,.box acts3⟩]
set_option maxHeartbeats 1000000 in
set_option maxHeartbeats 1000000 in
theorem ev91 {c:Ct} {s:Ste} (hS:Shp c s) (id:Int) (vl:Bool):ev pg (.call (.fn 91 [.bptr 14 0] []) [.agg [num 0,num id,.bool vl]] (hF c s [num 0,num id,.bool vl] s))=some { v:=.bool (mayV s ⟨0,id,vl⟩),st:=⟨[],hF c s [num 0,num id,.bool vl] (if mayV s ⟨0,id,vl⟩=true then happV s ⟨0,id,vl⟩ else s)⟩ }:=by
 have hvt:s.values.length=s.timers.length:=by rw [hS.v,hS.t]
 unfold mayV happV
 simp only
 rw [ev_call,pg91]
 by_cases hi:id < 0
 ·simp [ev_draw1,exT,chkOk,ir91,hi]
 ·obtain ⟨n,rfl⟩:∃ n:Nat,id=n:=⟨id.toNat,by omega⟩
  have hi':¬ (n:Int) < 0:=by omega
  by_cases hl:s.ends.length≤n
  ·have hn:¬ n < s.ends.length:=by omega
   have hl':(s.ends.length:Int)≤n:=by omega
   simp [ev_draw1,exT,chkOk,ir91,hi',hl,hl',hn,pendB]
  ·have hn:n < s.ends.length:=by omega
   have hl':¬ (s.ends.length:Int)≤n:=by omega
   by_cases h1:s.ends[n]=1
   ·simp [ev_draw1,exT,chkOk,ir91,hl,hl',hi',hn,h1,pendB]
   ·have h1b:(s.ends[n] == 1)=false:=by simpa using h1
    by_cases h3:s.ends[n]=3
    ·simp [ev_draw1,exT,chkOk,ir91,hl,hl',hi',hn,h3,pendB]
    ·have h3b:(s.ends[n] == 3)=false:=by simpa using h3
     simp [ev_draw1,exT,chkOk,ir91,hl,hl',hi',hn,h1,h1b,h3,h3b,pendB]
set_option maxHeartbeats 1000000 in
theorem ev92 {c:Ct} {s:Ste} (hS:Shp c s) (id:Int) (vl:Bool):ev pg (.call (.fn 92 [.bptr 14 0] []) [.agg [num 1,num id,.bool vl]] (hF c s [num 1,num id,.bool vl] s))=some { v:=.bool (mayV s ⟨1,id,vl⟩),st:=⟨[],hF c s [num 1,num id,.bool vl] (if mayV s ⟨1,id,vl⟩=true then happV s ⟨1,id,vl⟩ else s)⟩ }:=by
 have hvt:s.values.length=s.timers.length:=by rw [hS.v,hS.t]
 unfold mayV happV
 simp only
 rw [ev_call,pg92]
 by_cases hi:id < 0
 ·simp [ev_draw1,exT,chkOk,ir92,hi]
 ·obtain ⟨n,rfl⟩:∃ n:Nat,id=n:=⟨id.toNat,by omega⟩
  have hi':¬ (n:Int) < 0:=by omega
  by_cases hl:s.timers.length≤n
  ·have hn:¬ n < s.timers.length:=by omega
   have hl':(s.timers.length:Int)≤n:=by omega
   simp [ev_draw1,exT,chkOk,ir92,hi',hl,hl',hn,pendB]
  ·have hn:n < s.timers.length:=by omega
   have hl':¬ (s.timers.length:Int)≤n:=by omega
   have hn2:n < s.values.length:=by omega
   by_cases h1:s.timers[n]=1
   ·simp [ev_draw1,exT,chkOk,ir92,hl,hl',hi',hn,hn2,h1,pendB]
   ·have h1b:(s.timers[n] == 1)=false:=by simpa using h1
    simp [ev_draw1,exT,chkOk,ir92,hl,hl',hi',hn,h1,h1b,pendB]
set_option maxHeartbeats 1000000 in
theorem ev93 {c:Ct} {s:Ste} (hS:Shp c s) (id:Int) (vl:Bool):ev pg (.call (.fn 93 [.bptr 14 0] []) [.agg [num 2,num id,.bool vl]] (hF c s [num 2,num id,.bool vl] s))=some { v:=.bool (mayV s ⟨2,id,vl⟩),st:=⟨[],hF c s [num 2,num id,.bool vl] (if mayV s ⟨2,id,vl⟩=true then happV s ⟨2,id,vl⟩ else s)⟩ }:=by
 have hvt:s.values.length=s.timers.length:=by rw [hS.v,hS.t]
 unfold mayV happV
 simp only
 rw [ev_call,pg93]
 by_cases hi:id < 0
 ·simp [ev_draw1,exT,chkOk,ir93,hi]
 ·obtain ⟨n,rfl⟩:∃ n:Nat,id=n:=⟨id.toNat,by omega⟩
  have hi':¬ (n:Int) < 0:=by omega
  by_cases hl:s.inputs.length≤n
  ·have hn:¬ n < s.inputs.length:=by omega
   have hl':(s.inputs.length:Int)≤n:=by omega
   simp [ev_draw1,exT,chkOk,ir93,hi',hl,hl',hn,pendB]
  ·have hn:n < s.inputs.length:=by omega
   have hl':¬ (s.inputs.length:Int)≤n:=by omega
   generalize hb:s.inputs[n]=b
   cases b <;> cases vl <;> simp [ev_draw1,exT,chkOk,ir93,hl,hl',hi',hn,hb]
end Go.Proofs.YtbhkplbciajikaaGreat
