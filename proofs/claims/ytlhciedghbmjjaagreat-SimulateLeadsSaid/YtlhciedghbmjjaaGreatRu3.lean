/- What follows an event, by the program: the functions; strokes that are begun. A run, by the program. -/
import Derived.Test.YtlhciedghbmjjaaGreatAf1
import Derived.KernelRfl
set_option linter.all false
namespace Go.Proofs.YtlhciedghbmjjaaGreat
open Go Go.Am Go.Proofs
set_option maxRecDepth 100000
theorem zfd {c:Ct} {s:Ste} (hS:Shp c s) (x:Evn):(qfk s x).ends.length=s.ends.length∧(qfk s x).valves.length=s.valves.length∧(qfk s x).inputs.length=s.inputs.length∧(qfk s x).values.length=s.values.length∧(qfk s x).timers.length=s.timers.length:=by
 unfold qfk
 split
 ·simp
 ·split
  ·simp
  ·simp
set_option maxHeartbeats 1000000 in
theorem ev57 {c:Ct} {s:Ste} (h:Rdy c s) (x:Evn):ev pg (.call (.fn 57 [] []) [c.v,s.v,x.v] [])=some { v:=zjy (qam c s x),st:=⟨[],[]⟩ }:=by
 have e60:=ev56 s h.small
 obtain ⟨kd,id,vl⟩:=x
 obtain ⟨l1,l2,l3,l4,l5⟩:=zfd h.shp ⟨kd,id,vl⟩
 unfold qam
 rw [qac,pg57]
 by_cases hlo:kd < 0
 ·rw [if_pos (.inl hlo)]
  simp [ir57,e60,hlo,zeroS]
 ·by_cases hhi:2 < kd
  ·rw [if_pos (.inr hhi)]
   have hhi':(3:Int)≤kd:=by omega
   simp [ir57,e60,hlo,hhi',zeroS]
  ·have hk:¬ (kd < 0∨2 < kd):=by omega
   rw [if_neg hk]
   have e91:=ev94 h.shp id vl
   have e92:=ev95 h.shp id vl
   have e93:=ev96 h.shp id vl
   have hkd:kd=0∨kd=1∨kd=2:=by omega
   rcases hkd with rfl | rfl | rfl
   ·cases hm:q2p s ⟨0,id,vl⟩ with
    | false =>
     rw [hm] at e91
     simp only [Bool.false_eq_true,if_false] at e91
     simp at e91
     simp [qaa,exT,qad,ir57,e60,e91,zeroS]
    | true =>
     rw [hm] at e91
     simp only [if_true] at e91
     have hR:Rdy c (qfk s ⟨0,id,vl⟩):=⟨h.few,qgx h.st hk hm⟩
     have e16:=ev54 c (qfk s ⟨0,id,vl⟩) h.few hR.small
     unfold qml at e16
     rw [if_pos hR.st] at e16
     generalize qfk s ⟨0,id,vl⟩=u at *
     generalize qjn c u=z at *
     simp [l1,l2,l3,l4,l5] at e91
     simp [qaa,exT,qad,ir57,e60,e91,e16,l1,l2,l3,l4,l5]
   ·cases hm:q2p s ⟨1,id,vl⟩ with
    | false =>
     rw [hm] at e92
     simp only [Bool.false_eq_true,if_false] at e92
     simp at e92
     simp [qaa,exT,qad,ir57,e60,e92,zeroS]
    | true =>
     rw [hm] at e92
     simp only [if_true] at e92
     have hR:Rdy c (qfk s ⟨1,id,vl⟩):=⟨h.few,qgx h.st hk hm⟩
     have e16:=ev54 c (qfk s ⟨1,id,vl⟩) h.few hR.small
     unfold qml at e16
     rw [if_pos hR.st] at e16
     generalize qfk s ⟨1,id,vl⟩=u at *
     generalize qjn c u=z at *
     simp [l1,l2,l3,l4,l5] at e92
     simp [qaa,exT,qad,ir57,e60,e92,e16,l1,l2,l3,l4,l5]
   ·cases hm:q2p s ⟨2,id,vl⟩ with
    | false =>
     rw [hm] at e93
     simp only [Bool.false_eq_true,if_false] at e93
     simp at e93
     simp [qaa,exT,qad,ir57,e60,e93,zeroS]
    | true =>
     rw [hm] at e93
     simp only [if_true] at e93
     have hR:Rdy c (qfk s ⟨2,id,vl⟩):=⟨h.few,qgx h.st hk hm⟩
     have e16:=ev54 c (qfk s ⟨2,id,vl⟩) h.few hR.small
     unfold qml at e16
     rw [if_pos hR.st] at e16
     generalize qfk s ⟨2,id,vl⟩=u at *
     generalize qjn c u=z at *
     simp [l1,l2,l3,l4,l5] at e93
     simp [qaa,exT,qad,ir57,e60,e93,e16,l1,l2,l3,l4,l5]
def qhr (c:Ct) (s:Ste) (x:Evn):Ste × List Int × Int:=if quE c s=0 then qam c s x else (zeroS,[],quE c s)
theorem ev66 (c:Ct) (s:Ste) (hfew:c.small=true) (hs:s.small) (x:Evn):ev pg (.call (.fn 66 [] []) [c.v,s.v,x.v] [])=some { v:=zjy (qhr c s x),st:=⟨[],[]⟩ }:=by
 have e49:=ev55 c s hfew hs
 unfold qhr
 rw [qac,pg66]
 by_cases h:quE c s=0
 ·have e61:=ev57 (qwu hfew h) x
  rw [if_pos h]
  rw [h] at e49
  generalize qam c s x=z at *
  simp [ir66,e49,e61]
 ·rw [if_neg h]
  have hb:(quE c s == 0)=false:=by simpa using h
  generalize quE c s=e at *
  simp [ir66,e49,h,hb,zeroS]
def T62 (x y:Ste) (k:Nat) (a:Nat × Nat):Tm:=[none,none,some (.bptr 0 0),some (.bptr 1 0),some (.sl 2 0 0 0 0),some (.sl 3 a.1 a.2 0 (qgh x y k).length),none,none,none,some (qbw y.ends),some (num y.ends.length),some (num k)]++List.replicate 28 none
set_option maxHeartbeats 1000000 in
theorem z9q (x y:Ste) (hs:x.small) (he:y.ends.length=x.ends.length) {st:St} (a0:Nat × Nat) (g0:gm2 a0) (h0:At (T62 x y 0 a0) (h64 x y 0 a0) st):∃ r,ev pg (.code (.going 4 L58_0) st)=some r∧∃ a,gm2 a∧qai (.exit 0) (T62 x y y.ends.length a) (h64 x y y.ends.length a) r:=by
 have hse:=hs.e
 refine qco y.ends.length (T62 x y) (h64 x y) (fun _ a=>gm2 a) _ ?_ ?_ a0 g0 h0
 ·rintro k ⟨g,m⟩ f hf hk2 hG
  have hk':(k:Int) < y.ends.length:=by omega
  have hk:k < x.ends.length:=by omega
  have wk:=qab (n:=(k:Int) + 1) (by omega) (by omega)
  have hsl:=qss x y k
  have hp:qvw x y k=if (y.ends[k]=1∨y.ends[k]=3)∧x.ends[k] ≠ y.ends[k] then some ((k:Int),y.ends[k] == 1) else none:=by
   unfold qvw
   rw [List.getElem?_eq_getElem hk,List.getElem?_eq_getElem hk2]
  unfold T62 h64
  rw [qza,hp]
  generalize qgh x y k=B at *
  have hb1:(B.length + 1) * 16≤140737488355328:=by omega
  have hmm:m=2∨m=0:=hG
  by_cases h2:y.ends[k]=x.ends[k]
  ·have h2s:¬ x.ends[k] ≠ y.ends[k]:=fun h=>h h2.symm
   rw [if_neg (fun h=>h2s h.2)]
   rcases hmm with rfl | rfl <;> simp [L58_0,hk,hk',hk2,wk,h2,hf.ne]
  ·have h2b:(y.ends[k] == x.ends[k])=false:=by simpa using h2
   have h2n:(y.ends[k] != x.ends[k])=true:=by simpa using h2
   have h2s:x.ends[k] ≠ y.ends[k]:=fun h=>h2 h.symm
   by_cases h1:y.ends[k]=1
   ·rw [if_pos ⟨.inl h1,h2s⟩]
    rw [h1] at h2 h2b h2n
    rcases hmm with rfl | rfl <;> simp [L58_0,hk,hk',hk2,wk,h1,h2,h2b,h2n,hb1,hf.ne]
   ·have h1b:(y.ends[k] == 1)=false:=by simpa using h1
    by_cases h3:y.ends[k]=3
    ·rw [if_pos ⟨.inr h3,h2s⟩]
     rw [h3] at h2 h2b h2n
     rcases hmm with rfl | rfl <;> simp [L58_0,hk,hk',hk2,wk,h3,h2,h2b,h2n,hb1,hf.ne]
    ·have h3b:(y.ends[k] == 3)=false:=by simpa using h3
     rw [if_neg (fun h=>h.1.elim h1 h3)]
     rcases hmm with rfl | rfl <;> simp [L58_0,hk,hk',hk2,wk,h1,h1b,h2,h2b,h2n,h3,h3b,hf.ne]
 ·rintro ⟨g,m⟩ f hf hG
  unfold T62 h64
  generalize qgh x y y.ends.length=B at *
  have hmm:m=2∨m=0:=hG
  rcases hmm with rfl | rfl <;> simp [L58_0,hf.ne]
theorem ev58 (x y:Ste) (hs:x.small) (he:y.ends.length=x.ends.length):ev pg (.call (.fn 58 [] []) [x.v,y.v] [])=some { v:=qub (qew x y),st:=⟨[],[]⟩ }:=by
 have hl:=@z9q x y hs he
 have z0:qgh x y 0=[]:=rfl
 have z1:qgh x y y.ends.length=qew x y:=by rw [he]; rfl
 unfold h64 T62 at hl
 rw [z0,z1] at hl
 generalize qew x y=B at *
 rw [qac,pg58]
 simp [ir58,qae]
 generalize hr:ev pg (.code (.going _ L58_0) _)=o
 obtain ⟨r,rfl,⟨g,m⟩,hm,f,hf,rfl⟩:∃ r,o=some r∧_:=by rw [← hr]; exact hl (0,0) (.inr rfl) (by simp)
 clear hr
 have hmm:m=2∨m=0:=hm
 rcases hmm with rfl | rfl <;> simp
abbrev fz5 (u:Ste):H:=[⟨0,.frz 1 (u.ends.map qee)⟩,⟨0,.frz 1 (u.valves.map qho)⟩,⟨0,.frz 1 (u.inputs.map qho)⟩,⟨0,.frz 1 (u.values.map qho)⟩,⟨0,.frz 1 (u.timers.map qee)⟩]
def h22 (c:Ct) (s:Ste) (k:Nat) (a:Crs × Nat × Nat):H:=if k=0 then [⟨0,.box c.cells⟩,⟨0,.box s.cells⟩,o0,o0,o0,o0,o0,o0,o0,⟨0,.box (cr7 2)⟩]++ar5 s++[o0,o0,o0,o0,o0,o0,o0,⟨0,.box (sl5 10 s++[.sl 23 0 0 0 0,.sl 24 0 0 0 0])⟩,o0,o0]
 else [⟨0,.box c.cells⟩,⟨0,.box s.cells⟩,o0,o0,o0,o0,o0,o0,o0,⟨0,.box (cr7 2)⟩]++fz5 s++[o0,o0,o0,o0,o0,o0,o0,⟨0,.box (a.1.st.cells++[.sl 23 a.2.1 a.2.2 0 a.1.strokes.length,qbw a.1.conf])⟩,⟨a.2.1,.arr a.2.2 (a.1.strokes.map zun)⟩,⟨0,.frz 0 []⟩]
def T22 (l:List Evn) (k:Nat):Tm:=[none,none,none,some (.bptr 0 0),some (.bptr 1 0),none,some (.bptr 9 0),some (num 0),some (num 0),none,some (.bptr 22 0)]++List.replicate 19 none++[some (evs l),some (num l.length),some (num k)]++List.replicate 34 none
def zrr (i e:Int):Tm:=[none,none,none,none,none,none,some (.bptr 9 0),some (num i),some (num e)]++List.replicate 58 none
structure G22 (c:Ct) (s:Ste) (l:List Evn) (Z:Crs × Int × Int) (k:Nat) (a:Crs × Nat × Nat):Prop where
 go:qka c (l.drop k) k a.1=Z
 rdy:Rdy c a.1.st
 lin:Lin (qgr c) a.1.conf
 nil:k=0→a.1=⟨s,[],[]⟩
 len:a.1.strokes.length=k
 gm:k ≠ 0→a.2.2=1
inductive Out22 (c:Ct) (s:Ste) (l:List Evn) (Z:Crs × Int × Int) (r:R):Prop where
 | ok (k:Nat) (a:Crs × Nat × Nat) (hz:Z=(a.1,0,0)) (hn:k=0→a.1=⟨s,[],[]⟩) (hg:k ≠ 0→a.2.2=1) (he:qai (.exit 0) (T22 l l.length) (h22 c s k a) r)
 | bad0 (e:Int) (hz:Z=(zeroCrs,0,e)) (x:List V) (u:Ste) (he:qai .ret (zrr 0 e) ([⟨0,.box c.cells⟩,⟨0,.box s.cells⟩,o0,o0,o0,o0,o0,o0,o0,⟨0,.box (cr7 32)⟩]++fz5 s++[o0,o0,o0,o0,o0,o0,o0,⟨0,.box (sl5 10 s++[.sl 23 0 0 0 0,.sl 24 0 0 0 0])⟩,o0,o0,⟨0,.box x⟩,o0,o0,o0,o0,o0,⟨0,.box u.cells⟩,o0,o0,o0,o0,o0,o0,o0]) r)
 | bad1 (i e:Int) (hz:Z=(zeroCrs,i,e)) (a:Crs × Nat × Nat) (x:List V) (u:Ste) (he:qai .ret (zrr i e) ([⟨0,.box c.cells⟩,⟨0,.box s.cells⟩,o0,o0,o0,o0,o0,o0,o0,⟨0,.box (cr7 32)⟩]++fz5 s++[o0,o0,o0,o0,o0,o0,o0,⟨0,.box (a.1.st.cells++[.sl 23 a.2.1 a.2.2 0 a.1.strokes.length,qbw a.1.conf])⟩,⟨a.2.1,.arr a.2.2 (a.1.strokes.map zun)⟩,⟨0,.frz 0 []⟩,⟨0,.box x⟩,o0,o0,o0,o0,o0,⟨0,.box u.cells⟩,o0,o0,o0,o0,o0,o0,o0]) r)
set_option maxHeartbeats 4000000 in
theorem z9h {c:Ct} {s:Ste} (hs:Rdy c s) (l:List Evn) (hn:l.length≤4096) {st:St} (h0:At (T22 l 0) (h22 c s 0 (⟨s,[],[]⟩,0,0)) st):∃ r,ev pg (.code (.going 25 L30_0) st)=some r∧Out22 c s l (qka c l 0 ⟨s,[],[]⟩) r:=by
 generalize hR:qka c l 0 ⟨s,[],[]⟩=Z
 refine qco l.length (fun k _=>T22 l k) (h22 c s) (G22 c s l Z) _ ?_ ?_ (⟨s,[],[]⟩,0,0) ⟨hR,hs,Lin.nil _,fun _=>rfl,rfl,fun h=>absurd rfl h⟩ h0
 ·rintro k ⟨⟨t,S,C⟩,g,m⟩ f hf hk hG
  have hgo:=hG.go
  have hrd:=hG.rdy
  have hlin:=hG.lin
  have hnil:=hG.nil
  have hlen:=hG.len
  have hgm:=hG.gm
  simp only at hgo hrd hlin hnil hlen hgm
  have hk':(k:Int) < l.length:=by omega
  have wk:=qab (n:=(k:Int) + 1) (by omega) (by omega)
  have w1:IntKind.i64.wrap 1=1:=by decide
  have e61:=ev57 hrd l[k]
  have hN:=qid hrd.mid
  rw [List.drop_eq_getElem_cons hk] at hgo
  by_cases hz:(qam c t l[k]).2.2=0
  ·rw [qka,if_pos hz] at hgo
   have hru:Rdy c (qam c t l[k]).1:=⟨hrd.few,qkg hrd.st hz⟩
   have hee:(qam c t l[k]).1.ends.length=t.ends.length:=by
    have h1:=hru.shp.e
    have h2:=hrd.shp.e
    omega
   have e62:=ev58 t (qam c t l[k]).1 hrd.small hee
   have hm:Lin (qgr c) (qam c t l[k]).2.1:=qpj _ _ _
   have hlc:=hlin.len
   have hlm:=hm.len
   have e54:=ev59 (qgr c) C (qam c t l[k]).2.1 (by omega) (by omega) (fun x hx=>(List.mem_append.1 hx).elim (hlin.b x) (hm.b x))
   have hl':Lin (qgr c) (norm (qgr c) (C++(qam c t l[k]).2.1)):=Lin.norm _ _
   generalize norm (qgr c) (C++(qam c t l[k]).2.1)=p at *
   generalize qew t (qam c t l[k]).1=fr at *
   generalize qam c t l[k]=z at *
   obtain ⟨u,q,e⟩:=z
   simp only at hz hgo hru e54 e62 e61
   subst hz
   have hb1:(S.length + 1) * 24≤140737488355328:=by omega
   by_cases hk0:k=0
   ·subst hk0
    have hc:=hnil rfl
    obtain ⟨rfl,rfl,rfl⟩:=Crs.mk.inj hc
    have hG':G22 c t l Z (0 + 1) (⟨u,[fr],p⟩,1,1):=⟨hgo,hru,hl',fun h=>absurd h (by omega),rfl,fun _=>rfl⟩
    have e54':ev pg (.call (.fn 59 [] []) [.imm [],qbw q] [])=some { v:=qbw p,st:=⟨[],[]⟩ }:=e54
    unfold T22 h22
    simp [qaa,exT,qad,L30_0,hk,e61,e62,e54',w1,hf.ne]
    exact ⟨_,_,_,hG',by simp⟩
   ·have hm1:m=1:=hgm hk0
    subst hm1
    have hG':G22 c s l Z (k + 1) (⟨u,S++[fr],p⟩,g + 1,1):=⟨hgo,hru,hl',fun h=>absurd h (by omega),by simp [hlen],fun _=>rfl⟩
    unfold T22 h22
    simp [qaa,exT,qad,L30_0,hk,hk',hk0,wk,e61,e62,e54,hb1,hf.ne]
    exact ⟨_,_,_,hG',by simp⟩
  ·rw [zaa hz] at hgo
   subst hgo
   generalize qam c t l[k]=z at *
   obtain ⟨u,q,e⟩:=z
   simp only at hz e61
   have hzb:(e == 0)=false:=by simpa using hz
   by_cases hk0:k=0
   ·subst hk0
    have hc:=hnil rfl
    obtain ⟨rfl,rfl,rfl⟩:=Crs.mk.inj hc
    unfold T22 h22
    simp [qaa,exT,qad,L30_0,hk,e61,hz,hzb,hf.ne]
    exact .bad0 e rfl l[0].row u (by simp [zrr,hf.ne])
   ·have hm1:m=1:=hgm hk0
    subst hm1
    unfold T22 h22
    simp [qaa,exT,qad,L30_0,hk,hk',hk0,e61,hz,hzb,hf.ne]
    exact .bad1 k e rfl (⟨t,S,C⟩,g,1) l[k].row u (by simp [zrr,hf.ne])
 ·rintro ⟨⟨t,S,C⟩,g,m⟩ f hf hG
  have hgo:=hG.go
  have hnil:=hG.nil
  have hgm:=hG.gm
  simp only [List.drop_length,qka] at hgo hnil hgm
  have hlen:=hG.len
  simp only at hlen
  by_cases hk0:l.length=0
  ·have hc:=hnil hk0
   obtain ⟨rfl,rfl,rfl⟩:=Crs.mk.inj hc
   unfold T22 h22
   simp [L30_0,hk0,hf.ne]
   exact .ok 0 (⟨t,[],[]⟩,g,m) hgo.symm (fun _=>rfl) (fun h=>absurd rfl h) (by simp [T22,h22,hk0,hf.ne])
  ·have hm1:m=1:=hgm hk0
   subst hm1
   unfold T22 h22
   simp [L30_0,hk0,hf.ne]
   exact .ok l.length (⟨t,S,C⟩,g,1) hgo.symm hnil hgm (by simp [T22,h22,hk0,hf.ne])
theorem ev30 (c:Ct) (s:Ste) (hfew:c.small=true) (hs:s.small) (l:List Evn) (hl:l.length≤100000):ev pg (.call (.fn 30 [] []) [c.v,s.v,evs l] [])=some { v:=.tup [(zgc c s l).1.v,num (zgc c s l).2.1,num (zgc c s l).2.2],st:=⟨[],[]⟩ }:=by
 have e49:=ev55 c s hfew hs
 have e60:=ev56 s hs
 unfold zgc
 rw [qac,pg30]
 by_cases h:quE c s=0
 ·rw [if_pos h]
  rw [h] at e49
  by_cases hn:4096 < l.length
  ·rw [if_pos hn]
   have hn':(4096:Int) < l.length:=by omega
   simp [ir30,e49,hn',zeroCrs,zeroS]
  ·rw [if_neg hn]
   have hn':¬ (4096:Int) < l.length:=by omega
   have hlp:=@z9h c s (qwu hfew h) l (by omega)
   generalize qka c l 0 ⟨s,[],[]⟩=Z at *
   simp [ir30,e49,e60,hn',qae]
   generalize hr:ev pg (.code (.going _ L30_0) _)=o
   obtain ⟨r,rfl,hQ⟩:∃ r,o=some r∧_:=by rw [← hr]; exact hlp (by simp [T22,h22])
   clear hr
   cases hQ with
   | ok k a hz hn0 hg he =>
    obtain ⟨⟨t,S,C⟩,g,m⟩:=a
    obtain ⟨f,hf,rfl⟩:=he
    subst hz
    by_cases hk0:k=0
    ·have hc:=hn0 hk0
     simp only at hc
     obtain ⟨rfl,rfl,rfl⟩:=Crs.mk.inj hc
     simp [T22,h22,hk0]
    ·have hm1:m=1:=hg hk0
     subst hm1
     simp [T22,h22,hk0]
   | bad0 e hz x u he =>
    obtain ⟨f,hf,rfl⟩:=he
    subst hz
    simp [zrr,zeroCrs,zeroS]
   | bad1 i e hz a x u he =>
    obtain ⟨f,hf,rfl⟩:=he
    subst hz
    simp [zrr,zeroCrs,zeroS]
 ·rw [if_neg h]
  have hb:(quE c s == 0)=false:=by simpa using h
  generalize quE c s=e at *
  simp [ir30,e49,h,hb,zeroCrs,zeroS]
end Go.Proofs.YtlhciedghbmjjaaGreat
